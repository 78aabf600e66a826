/-
  Walks and laws of this seat; the base is the text Base.
-/
import Derived.Test.YtmkcglpeidbblaaDoorQ10E
import Derived.Test.YtmkcglpeidbblaaDoorL10h
namespace Go.Proofs.YtmkcglpeidbblaaDoor
open Go.RowKit Go.Sl
/-! What the laws of this chapter share. -/
theorem known_of {n : Nat} (h : 60 ≤ n) : law10_known n = some true := by
  obtain ⟨k, rfl⟩ : ∃ k, n = k + 60 := ⟨n - 60, by omega⟩
  exact known_true k
theorem SB.tests {steps : List sheet_Step} (h : SB_sheet_Selector ⟨steps⟩) : ∀ s ∈ steps, s.Tests.length ≤ 1048576 := fun s hs => (h.2 s hs).2.2.1
end Go.Proofs.YtmkcglpeidbblaaDoor
