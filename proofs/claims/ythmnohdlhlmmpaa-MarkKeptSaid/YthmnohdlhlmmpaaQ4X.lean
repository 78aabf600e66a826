/-
  Walks and laws of this seat; the base is the text Base.
-/
import Derived.Test.YthmnohdlhlmmpaaQ4U
namespace Go.Proofs.Ythmnohdlhlmmpaa
open Go.RowKit Go.Sl
end Go.Proofs.Ythmnohdlhlmmpaa
