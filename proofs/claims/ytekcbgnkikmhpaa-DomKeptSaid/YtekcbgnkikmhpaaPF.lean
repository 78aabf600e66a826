/-
  Walks and laws of this seat; the base is the text Base.
-/
import Derived.Test.YtekcbgnkikmhpaaPE
namespace Go.Proofs.Ytekcbgnkikmhpaa
open Go.RowKit Go.Sl
section
variable (ns : List api_Node)
variable (hN : ns.length ≤ 4096)
include hN
end
end Go.Proofs.Ytekcbgnkikmhpaa
