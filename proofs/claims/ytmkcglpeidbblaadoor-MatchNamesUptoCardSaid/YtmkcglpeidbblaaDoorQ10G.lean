/-
  Walks and laws of this seat; the base is the text Base.
-/
import Derived.Test.YtmkcglpeidbblaaDoorQ10E
import Derived.Test.YtmkcglpeidbblaaDoorL10h
namespace Go.Proofs.YtmkcglpeidbblaaDoor
open Go.RowKit Go.Sl
/-! What the laws of this chapter share. -/
theorem known_of {n : Nat} (h : 60 ≤ n) : law10_known n = some true := by
  obtain ⟨k, rfl⟩ : ∃ k, n = k + 60 := ⟨n - 60, by omega⟩
  exact known_true k
theorem within_some (n : Nat) (a lo hi : Int) (h : w64 (w64 (hi - lo) + 1) ≠ 0) : ∃ r, book_Within n a lo hi = some r := by
  unfold book_Within remM
  rw [if_neg h, Option.bind_some]
  cases decide (a.tmod (w64 (w64 (hi - lo) + 1)) < 0)
  · exact ⟨_, rfl⟩
  · exact ⟨_, rfl⟩
end Go.Proofs.YtmkcglpeidbblaaDoor
