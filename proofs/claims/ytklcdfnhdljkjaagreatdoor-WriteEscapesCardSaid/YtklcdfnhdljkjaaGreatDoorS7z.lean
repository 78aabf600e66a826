/-
  Walks and laws of this seat; the base is the text Base.
-/
import Derived.Test.YtklcdfnhdljkjaaGreatDoorL7k
namespace Go.Proofs.YtklcdfnhdljkjaaGreatDoor
open Go.RowKit Go.Sl
set_option maxRecDepth 1000000 in
theorem known7 (k : Nat) : law7_known (k + 60) = some true := by kernel_rfl
end Go.Proofs.YtklcdfnhdljkjaaGreatDoor
