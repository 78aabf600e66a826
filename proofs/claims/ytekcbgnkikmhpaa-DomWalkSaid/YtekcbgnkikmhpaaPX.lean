/-
  Walks and laws of this seat; the base is the text Base.
-/
import Derived.Test.YtekcbgnkikmhpaaPN
import Derived.Test.YtekcbgnkikmhpaaL5h
namespace Go.Proofs.Ytekcbgnkikmhpaa
open Go.RowKit Go.Sl
theorem appM_small {α : Type} {b : Nat} (xs : List α) (y : α) (h : xs.length ≤ 5000) (hb : b ≤ 1000) : appM b xs [y] = some (xs ++ [y]) := by
  refine appM_eq ⟨by simp only [List.length_singleton]; omega, ?_⟩
  have h1 : (xs.length + [y].length) * b ≤ 5001 * 1000 := Nat.mul_le_mul (by simp only [List.length_singleton]; omega) hb
  omega

end Go.Proofs.Ytekcbgnkikmhpaa
