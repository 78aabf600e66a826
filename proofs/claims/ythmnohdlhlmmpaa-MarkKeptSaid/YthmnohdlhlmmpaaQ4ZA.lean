/-
  Walks and laws of this seat; the base is the text Base.
-/
import Derived.Test.YthmnohdlhlmmpaaQ4Z
namespace Go.Proofs.Ythmnohdlhlmmpaa
open Go.RowKit Go.Sl
variable {n : Nat} {pre r : List Int}
theorem ref_begins {x : Int} (hb : pre.length + r.length ≤ 100000000) : ref4_begins n (pre ++ x :: r) (pre.length : Int) = some (beginsB (x :: r)) := by
  unfold ref4_begins
  have h0 := at_pre pre (x :: r) 0
  rw [Nat.add_zero, List.getElem?_cons_zero] at h0
  have h1 := at_pre pre (x :: r) 1
  rw [List.getElem?_cons_succ] at h1
  rw [h0, Option.bind_some, w64_succ (by omega)]
  unfold ref4_begins_k1 ref4_begins_k2
  by_cases hx : x = 60
  · subst hx
    rw [dF (by simp)]
    cases r with
    | nil => rw [decide_eq_true (by simp), cond_true]; rfl
    | cons y r =>
      rw [decide_eq_false (by simp; omega), cond_false, w64_succ (by omega), h1, List.getElem?_cons_zero, Option.bind_some]
      rw [show ref4_letter n y = some (letterB y) from rfl, Option.bind_some]
      rw [show beginsB (60 :: y :: r) = (letterB y || decide (y = 33) || decide (y = 63) || decide (y = 47)) from rfl]
      cases letterB y <;> cases decide (y = 47) <;> cases decide (y = 33) <;> cases decide (y = 63) <;> rfl
  · rw [dT hx, cond_true]
    have : beginsB (x :: r) = false := by
      unfold beginsB
      split
      · rename_i h; injection h with h _; exact absurd h hx
      · rfl
    rw [this]
end Go.Proofs.Ythmnohdlhlmmpaa
