/-
  Walks and laws of this seat; the base is the text Base.
-/
import Derived.Test.YtmkcglpeidbblaaDoorQ10E
import Derived.Test.YtmkcglpeidbblaaDoorL10h
namespace Go.Proofs.YtmkcglpeidbblaaDoor
open Go.RowKit Go.Sl
/-! What the laws of this chapter share. -/
theorem known_of {n : Nat} (h : 60 ≤ n) : law10_known n = some true := by
  obtain ⟨k, rfl⟩ : ∃ k, n = k + 60 := ⟨n - 60, by omega⟩
  exact known_true k
theorem SB.tests {steps : List sheet_Step} (h : SB_sheet_Selector ⟨steps⟩) : ∀ s ∈ steps, s.Tests.length ≤ 1048576 := fun s hs => (h.2 s hs).2.2.1
theorem same_l2 (xs : List Int) (hl : xs.length ≤ 1048576) : ∀ (d k j : Nat), xs.length - j ≤ d → d + 2 ≤ k → book_Same_int_l2 xs xs k (j : Int) = some true := by
  intro d
  have fin : ∀ (k j : Nat), ¬ j < xs.length → book_Same_int_l2 xs xs (k + 1) (j : Int) = some true := fun k j hj => by
    rw [book_Same_int_l2, decide_eq_false (show ¬ (j : Int) < (xs.length : Int) by omega), cond_false]
    rfl
  induction d with
  | zero =>
    intro k j hd hk
    obtain ⟨k, rfl⟩ : ∃ k', k = k' + 1 := ⟨k - 1, by omega⟩
    exact fin k j (by omega)
  | succ d ih =>
    intro k j hd hk
    obtain ⟨k, rfl⟩ : ∃ k', k = k' + 1 := ⟨k - 1, by omega⟩
    by_cases hj : j < xs.length
    · rw [book_Same_int_l2, decide_eq_true (show (j : Int) < (xs.length : Int) by omega), cond_true, geti_nat, List.getElem?_eq_getElem hj, Option.bind_some, Option.bind_some, decide_eq_false (not_not_intro rfl), cond_false, w64_succ (by omega)]
      exact ih k (j + 1) (by omega) (by omega)
    · exact fin k j hj
theorem same_refl (n : Nat) (xs : List Int) (hl : xs.length ≤ 1048576) (hn : 1048600 ≤ n) : book_Same_int n xs xs = some true := by
  unfold book_Same_int
  rw [decide_eq_false (not_not_intro rfl), cond_false]
  exact same_l2 xs hl xs.length n 0 (by omega) (by omega)
theorem within_some (n : Nat) (a lo hi : Int) (h : w64 (w64 (hi - lo) + 1) ≠ 0) : ∃ r, book_Within n a lo hi = some r := by
  unfold book_Within remM
  rw [if_neg h, Option.bind_some]
  cases decide (a.tmod (w64 (w64 (hi - lo) + 1)) < 0)
  · exact ⟨_, rfl⟩
  · exact ⟨_, rfl⟩
end Go.Proofs.YtmkcglpeidbblaaDoor
