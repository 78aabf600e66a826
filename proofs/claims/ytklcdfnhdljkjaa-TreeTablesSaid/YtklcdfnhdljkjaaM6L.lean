/-
  Walks and laws of this seat.
-/
import Derived.Test.YtklcdfnhdljkjaaL6h
import Derived.Test.YtklcdfnhdljkjaaPb
namespace Go.Proofs.Ytklcdfnhdljkjaa
set_option linter.unusedVariables false
set_option linter.unusedSimpArgs false
open Go.RowKit Go.Sl
theorem zpr (n : Nat) (l : List Int) (m : Nat) : zgf n l (m : Int) = some (l.take m) := by
  unfold zgf
  by_cases h : m < l.length
  · rw [dT (by omega)]
    have h2 : (m : Int) ≤ l.length := by omega
    simp [cutM, h2]
  · rw [dF (by omega), List.take_of_length_le (by omega)]
end Go.Proofs.Ytklcdfnhdljkjaa
