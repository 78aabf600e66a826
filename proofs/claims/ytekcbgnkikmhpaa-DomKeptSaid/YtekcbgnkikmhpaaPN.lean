/-
  Walks and laws of this seat; the base is the text Base.
-/
import Derived.Test.YtekcbgnkikmhpaaPM
namespace Go.Proofs.Ytekcbgnkikmhpaa
open Go.RowKit Go.Sl
section
variable (ns : List api_Node)
end
end Go.Proofs.Ytekcbgnkikmhpaa
