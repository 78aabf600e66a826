/-
  Walks and laws of this seat.
-/
import Derived.Test.YteicdfkmpnmkmaaGreatPc
namespace Go.V
set_option linter.unusedVariables false
set_option linter.unusedSimpArgs false
set_option linter.unusedSectionVars false
set_option maxRecDepth 100000
open Go.RowKit Go.Sl
theorem known_eq (k : Nat) : zit (k + 2000) = some true := by kernel_rfl
theorem known_TE : T (fun k _ => zit k) (· = true) := ⟨true, rfl,2000, fun k n hk _ => by
  obtain ⟨m, rfl⟩ : ∃ m, k = m + 2000 := ⟨k - 2000, by omega⟩
  exact known_eq m⟩
end Go.V
