/-
  Walks and laws of this seat; the base is the text Base.
-/
import Derived.Test.YtmkcglpeidbblaaDoorQ10K
import Derived.Test.YtmkcglpeidbblaaDoorO10
import Derived.Test.YtmkcglpeidbblaaDoorL10vl
namespace Go.Proofs.YtmkcglpeidbblaaDoor
open Go.RowKit Go.Sl
/-- Less, as a truth value. -/
def lessB (a b : match_Weight) : Bool := bif decide (a.Ids ≠ b.Ids) then decide (a.Ids < b.Ids) else bif decide (a.Tests ≠ b.Tests) then decide (a.Tests < b.Tests) else decide (a.Names < b.Names)
theorem less_eq (n : Nat) (a b : match_Weight) : match_Less n a b = some (lessB a b) := by
  unfold match_Less lessB
  cases decide (a.Ids ≠ b.Ids) <;> cases decide (a.Tests ≠ b.Tests) <;> rfl
theorem lessB_iff (a b : match_Weight) : lessB a b = true ↔ (a.Ids < b.Ids ∨ (a.Ids = b.Ids ∧ (a.Tests < b.Tests ∨ (a.Tests = b.Tests ∧ a.Names < b.Names)))) := by
  unfold lessB
  by_cases h1 : a.Ids = b.Ids
  · rw [decide_eq_false (not_not_intro h1), cond_false]
    by_cases h2 : a.Tests = b.Tests
    · rw [decide_eq_false (not_not_intro h2), cond_false, decide_eq_true_iff]; omega
    · rw [decide_eq_true h2, cond_true, decide_eq_true_iff]; omega
  · rw [decide_eq_true h1, cond_true, decide_eq_true_iff]; omega
theorem lessB_false (a b : match_Weight) : lessB a b = false ↔ ¬ (a.Ids < b.Ids ∨ (a.Ids = b.Ids ∧ (a.Tests < b.Tests ∨ (a.Tests = b.Tests ∧ a.Names < b.Names)))) := by
  rw [← lessB_iff, Bool.not_eq_true]
end Go.Proofs.YtmkcglpeidbblaaDoor
