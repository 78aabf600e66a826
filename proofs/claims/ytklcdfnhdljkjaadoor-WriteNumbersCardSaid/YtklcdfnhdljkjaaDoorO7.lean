/-
  Walks and laws of this seat; the base is the text Base.
-/
import Derived.Test.YtklcdfnhdljkjaaDoorBasg
import Derived.Test.YtklcdfnhdljkjaaDoorY7
/-
  Models of functions, and that the functions compute them. Printed by lift.py.
-/
namespace Go.Proofs.YtklcdfnhdljkjaaDoor
open Go.RowKit Go.Sl Go.ChangeShapes Go.WideShapes Go.ChangeAt
theorem ownk : ownKnob Tryd.prog.godebug = none := by kernel_rfl
theorem laid : laidOutB Tryd.prog = true := by kernel_rfl
end Go.Proofs.YtklcdfnhdljkjaaDoor
