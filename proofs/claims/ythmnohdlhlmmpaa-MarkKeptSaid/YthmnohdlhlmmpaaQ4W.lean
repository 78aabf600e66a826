/-
  Walks and laws of this seat; the base is the text Base.
-/
import Derived.Test.YthmnohdlhlmmpaaQ4U
import Derived.Test.YthmnohdlhlmmpaaQ4K
import Derived.Test.YthmnohdlhlmmpaaL4va
namespace Go.Proofs.Ythmnohdlhlmmpaa
open Go.RowKit Go.Sl
variable {n : Nat}
theorem tokS_len : ∀ (k : Nat) (r : List Int), (tokS k r).length ≤ 2 * k
  | 0, _ => by simp [tokS]
  | _ + 1, [] => by simp [tokS]
  | k + 1, x :: r => by
    rw [tokS]
    cases beginsB (x :: r) with
    | false => have := tokS_len k (textRun (x :: r)).2; simp only [Bool.not_false, cond_true, List.length_cons]; omega
    | true =>
      rw [Bool.not_true, cond_false]
      cases letterB (r[0]?.getD 0) with
      | true =>
        rw [cond_true]
        cases tagS r with
        | none => simp
        | some q =>
          simp only [List.length_cons]
          cases isRawB (tagN r) with
          | true =>
            have := tokS_len k (q.2.2.drop (rawS (tagN r) q.2.2))
            rw [cond_true, List.length_append]
            split <;> simp <;> omega
          | false => have := tokS_len k q.2.2; rw [cond_false]; omega
      | false =>
        rw [cond_false]
        cases decide (r[0]?.getD 0 = 47) && letterB (r.tail[0]?.getD 0) with
        | true =>
          rw [cond_true]
          cases tagS r.tail with
          | none => simp
          | some q => have := tokS_len k q.2.2; simp only [List.length_cons]; omega
        | false =>
          rw [cond_false]
          cases ([60, 33, 45, 45] : List Int).isPrefixOf (x :: r) with
          | true => have := tokS_len k (skipS [45, 45, 62] ((x :: r).drop 4)); rw [cond_true]; omega
          | false => have := tokS_len k (skipS [62] (x :: r)); rw [cond_false]; omega
theorem few_runes (n : Nat) (l : List Int) (m : Nat) : keep_FewRunes n l (m : Int) = some (l.take m) := by
  unfold keep_FewRunes
  by_cases h : m < l.length
  · rw [dT (by omega)]
    have h2 : (m : Int) ≤ l.length := by omega
    simp [cutM, h2]
  · rw [dF (by omega), List.take_of_length_le (by omega)]
end Go.Proofs.Ythmnohdlhlmmpaa
