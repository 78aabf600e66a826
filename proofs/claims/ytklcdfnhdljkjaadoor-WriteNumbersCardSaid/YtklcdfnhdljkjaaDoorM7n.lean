/-
  Walks and laws of this seat; the base is the text Base.
-/
import Derived.Test.YtklcdfnhdljkjaaDoorL7vn
namespace Go.Proofs.YtklcdfnhdljkjaaDoor
open Go.RowKit Go.Sl
set_option maxRecDepth 1000000 in
theorem law7_WriteNumbers_true : ∃ n, law7_WriteNumbers n = some true := ⟨60, by kernel_rfl⟩
end Go.Proofs.YtklcdfnhdljkjaaDoor
