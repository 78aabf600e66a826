/-
  Walks and laws of this seat; the base is the text Base.
-/
import Derived.Test.YtmkcglpeidbblaaDoorQ10K
import Derived.Test.YtmkcglpeidbblaaDoorO10
import Derived.Test.YtmkcglpeidbblaaDoorL10vn
namespace Go.Proofs.YtmkcglpeidbblaaDoor
open Go.RowKit Go.Sl
set_option maxRecDepth 100000
theorem numbers_true (k : Nat) : law10_MatchNumbers (k + 60) = some true := by kernel_rfl
theorem law10_MatchNumbers_true : ∃ fuel, law10_MatchNumbers fuel = some true := ⟨0 + 60, numbers_true 0⟩
end Go.Proofs.YtmkcglpeidbblaaDoor
