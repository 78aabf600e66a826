/-
  Walks and laws of this seat; the base is the text Base.
-/
import Derived.Test.YthmnohdlhlmmpaaL4g
namespace Go.Proofs.Ythmnohdlhlmmpaa
open Go.RowKit Go.Sl
set_option maxRecDepth 100000
theorem known_true (k : Nat) : law4_known (k + 60) = some true := by kernel_rfl
end Go.Proofs.Ythmnohdlhlmmpaa
