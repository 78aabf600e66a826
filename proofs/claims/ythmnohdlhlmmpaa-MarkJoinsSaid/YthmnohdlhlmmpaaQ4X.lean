/-
  Walks and laws of this seat; the base is the text Base.
-/
import Derived.Test.YthmnohdlhlmmpaaQ4U
namespace Go.Proofs.Ythmnohdlhlmmpaa
open Go.RowKit Go.Sl
theorem tokS_fuel : ∀ (k k' : Nat) (r : List Int), r.length + 1 ≤ k → r.length + 1 ≤ k' → tokS k r = tokS k' r
  | 0, _, _, h, _ => by omega
  | _ + 1, 0, _, _, h => by omega
  | _ + 1, _ + 1, [], _, _ => rfl
  | k + 1, k' + 1, x :: r, h, h' => by
    simp only [List.length_cons] at h h'
    have htt : r.tail.length ≤ r.length := by simp
    rw [tokS, tokS]
    cases hbg : beginsB (x :: r) with
    | false =>
      have h1 := textRun_some hbg
      have h2 := textRun_len (r := x :: r)
      simp only [List.length_cons] at h2
      rw [tokS_fuel k k' (textRun (x :: r)).2 (by omega) (by omega)]
      rfl
    | true =>
      have hx := begins_head hbg
      subst hx
      simp only [Bool.not_true, cond_false]
      have e1 := skipS_len [45, 45, 62] ((60 :: r).drop 4)
      rw [List.length_drop, List.length_cons] at e1
      have e2 : skipS [62] (60 :: r) = skipS [62] r := by
        rw [skipS, show ([62] : List Int).isPrefixOf (60 :: r) = false from by simp [List.isPrefixOf], cond_false]
      have e3 := skipS_len [62] r
      rw [e2, tokS_fuel k k' (skipS [45, 45, 62] ((60 :: r).drop 4)) (by omega) (by omega), tokS_fuel k k' (skipS [62] r) (by omega) (by omega)]
      have t1 : ∀ q, tagS r = some q → ∀ m, tokS k (q.2.2.drop m) = tokS k' (q.2.2.drop m) := fun q hq m => by
        have := tagS_len hq
        exact tokS_fuel k k' _ (by rw [List.length_drop]; omega) (by rw [List.length_drop]; omega)
      have t2 : ∀ q, tagS r.tail = some q → tokS k q.2.2 = tokS k' q.2.2 := fun q hq => by
        have := tagS_len hq
        exact tokS_fuel k k' _ (by omega) (by omega)
      cases h1 : tagS r with
      | none =>
        cases h2 : tagS r.tail with
        | none => rfl
        | some q2 => simp only [t2 q2 h2]
      | some q =>
        have e0 := t1 q h1 0
        rw [List.drop_zero] at e0
        cases h2 : tagS r.tail with
        | none => simp only [t1 q h1, e0]
        | some q2 => simp only [t1 q h1, e0, t2 q2 h2]
end Go.Proofs.Ythmnohdlhlmmpaa
