/-
  Walks and laws of this seat; the base is the text Base.
-/
import Derived.Test.YtmkcglpeidbblaaDoorQ10K
import Derived.Test.YtmkcglpeidbblaaDoorO10
import Derived.Test.YtmkcglpeidbblaaDoorL10vl
namespace Go.Proofs.YtmkcglpeidbblaaDoor
open Go.RowKit Go.Sl
/-- Less, as a truth value. -/
def lessB (a b : match_Weight) : Bool := bif decide (a.Ids ≠ b.Ids) then decide (a.Ids < b.Ids) else bif decide (a.Tests ≠ b.Tests) then decide (a.Tests < b.Tests) else decide (a.Names < b.Names)
theorem less_eq (n : Nat) (a b : match_Weight) : match_Less n a b = some (lessB a b) := by
  unfold match_Less lessB
  cases decide (a.Ids ≠ b.Ids) <;> cases decide (a.Tests ≠ b.Tests) <;> rfl
theorem lessB_iff (a b : match_Weight) : lessB a b = true ↔ (a.Ids < b.Ids ∨ (a.Ids = b.Ids ∧ (a.Tests < b.Tests ∨ (a.Tests = b.Tests ∧ a.Names < b.Names)))) := by
  unfold lessB
  by_cases h1 : a.Ids = b.Ids
  · rw [decide_eq_false (not_not_intro h1), cond_false]
    by_cases h2 : a.Tests = b.Tests
    · rw [decide_eq_false (not_not_intro h2), cond_false, decide_eq_true_iff]; omega
    · rw [decide_eq_true h2, cond_true, decide_eq_true_iff]; omega
  · rw [decide_eq_true h1, cond_true, decide_eq_true_iff]; omega
theorem lessB_false (a b : match_Weight) : lessB a b = false ↔ ¬ (a.Ids < b.Ids ∨ (a.Ids = b.Ids ∧ (a.Tests < b.Tests ∨ (a.Tests = b.Tests ∧ a.Names < b.Names)))) := by
  rw [← lessB_iff, Bool.not_eq_true]
theorem law10_MatchLess_true {a b c : match_Weight} (_ : S_match_Weight a) (_ : S_match_Weight b) (_ : S_match_Weight c) : ∃ fuel, law10_MatchLess fuel a b c = some true := by
  refine ⟨0 + 60, ?_⟩
  have hk := known_true 0
  have haa : lessB a a = false := (lessB_false a a).2 (by omega)
  have k1 : law10_MatchLess_k1 (0 + 60) a b c false = some true := by
    unfold law10_MatchLess_k1
    rw [cond_false, less_eq, Option.bind_some]
    cases hab : lessB a b with
    | false => rw [Bool.not_false, cond_true, hk]; rfl
    | true =>
      rw [Bool.not_true, cond_false, less_eq, Option.bind_some]
      cases hbc : lessB b c with
      | false => rw [Bool.not_false, cond_true, hk]; rfl
      | true =>
        have hac : lessB a c = true := (lessB_iff a c).2 (by have h1 := (lessB_iff a b).1 hab; have h2 := (lessB_iff b c).1 hbc; omega)
        rw [Bool.not_true, cond_false, less_eq, Option.bind_some, hac, cond_true, hk]; rfl
  unfold law10_MatchLess
  simp only [less_eq, Option.bind_some]
  rw [haa, cond_false]
  by_cases heq : (!(decide (a.Ids = b.Ids) && (decide (a.Tests = b.Tests) && (decide (a.Names = b.Names) && true)))) = true
  · rw [heq]
    cases hab : lessB a b with
    | true =>
      have hba : lessB b a = false := (lessB_false b a).2 (by have h1 := (lessB_iff a b).1 hab; omega)
      rw [cond_true, hba, cond_false, cond_true, Bool.not_true, cond_false]
      exact k1
    | false =>
      have hba : lessB b a = true := (lessB_iff b a).2 (by
        have h1 := (lessB_false a b).1 hab
        simp only [Bool.not_eq_true', Bool.and_true, Bool.and_eq_false_iff, decide_eq_false_iff_not] at heq
        omega)
      rw [cond_false, cond_true, Bool.not_false, cond_true, hba, Bool.not_true]
      exact k1
  · rw [Bool.not_eq_true] at heq
    rw [heq]
    cases hab : lessB a b with
    | true =>
      have hba : lessB b a = false := (lessB_false b a).2 (by have h1 := (lessB_iff a b).1 hab; omega)
      rw [cond_true, hba, cond_false, cond_false]
      exact k1
    | false => exact k1
end Go.Proofs.YtmkcglpeidbblaaDoor
