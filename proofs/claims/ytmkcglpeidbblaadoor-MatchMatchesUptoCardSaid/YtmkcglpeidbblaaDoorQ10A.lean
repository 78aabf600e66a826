/-
  Walks and laws of this seat; the base is the text Base.
-/
import Derived.Test.YtmkcglpeidbblaaDoorQ10K
import Derived.Test.YtmkcglpeidbblaaDoorO10
import Derived.Test.YtmkcglpeidbblaaDoorL10vl
namespace Go.Proofs.YtmkcglpeidbblaaDoor
open Go.RowKit Go.Sl
/-- Less, as a truth value. -/
def lessB (a b : match_Weight) : Bool := bif decide (a.Ids ≠ b.Ids) then decide (a.Ids < b.Ids) else bif decide (a.Tests ≠ b.Tests) then decide (a.Tests < b.Tests) else decide (a.Names < b.Names)
theorem less_eq (n : Nat) (a b : match_Weight) : match_Less n a b = some (lessB a b) := by
  unfold match_Less lessB
  cases decide (a.Ids ≠ b.Ids) <;> cases decide (a.Tests ≠ b.Tests) <;> rfl
end Go.Proofs.YtmkcglpeidbblaaDoor
