/-
  Walks and laws of this seat; the base is the text Base.
-/
import Derived.Test.YthmnohdlhlmmpaaQ4G
import Derived.Test.YthmnohdlhlmmpaaL4f
namespace Go.Proofs.Ythmnohdlhlmmpaa
open Go.RowKit Go.Sl
/-! A cursor: what lies behind it, and what is ahead. -/
abbrev cur (pre r : List Int) : source_Cursor_rune_ := { l := pre ++ r, at_ := (pre.length : Int) }
abbrev ct (pre r : List Int) (out : List mark_Token) : mark_cutter := { c := cur pre r, out := out }
variable {n : Nat} {pre r : List Int} {out : List mark_Token}
theorem cur_left (hb : pre.length + r.length ≤ 1000000000) : source_Cursor_rune_Left n (cur pre r) = some (r.length : Int) := by
  unfold source_Cursor_rune_Left
  simp only [List.length_append]
  rw [w64_id (by omega)]
  congr 1; omega
theorem cur_peek (k : Nat) (hk : k ≤ 1000000000) (hb : pre.length + r.length ≤ 1000000000) : source_Cursor_rune_Peek n (cur pre r) (k : Int) = some (r[k]?.getD 0, decide (k < r.length)) := by
  unfold source_Cursor_rune_Peek source_Cursor_rune_Peek_k1
  rw [dF (by omega), cur_left hb, Option.bind_some]
  by_cases h : k < r.length
  · rw [decide_eq_false (by omega), cond_false, w64_id (by simp only; omega)]
    have : ((pre.length : Int) + (k : Int)) = ((pre.length + k : Nat) : Int) := by omega
    simp only [this, geti_nat]
    rw [List.getElem?_append_right (by omega), show pre.length + k - pre.length = k by omega, List.getElem?_eq_getElem h, Option.bind_some, decide_eq_true h]
    rfl
  · rw [decide_eq_true (by omega), cond_true, List.getElem?_eq_none (by omega), decide_eq_false h]
    rfl
theorem cur_next_nil (hb : pre.length + ([] : List Int).length ≤ 1000000000) : source_Cursor_rune_Next n (cur pre []) = some (0, false, cur pre []) := by
  unfold source_Cursor_rune_Next source_Cursor_rune_Next_k1
  have := cur_peek (n := n) 0 (by omega) hb
  rw [show ((0 : Nat) : Int) = 0 from rfl] at this
  rw [this, Option.bind_some]; rfl
theorem cur_next {x : Int} (hb : pre.length + (x :: r).length ≤ 1000000000) : source_Cursor_rune_Next n (cur pre (x :: r)) = some (x, true, cur (pre ++ [x]) r) := by
  unfold source_Cursor_rune_Next source_Cursor_rune_Next_k1
  have := cur_peek (n := n) 0 (by omega) hb
  rw [show ((0 : Nat) : Int) = 0 from rfl] at this
  simp only [List.length_cons] at hb
  rw [this, Option.bind_some, w64_succ (by omega)]
  simp
theorem ct_peek (k : Nat) (hk : k ≤ 1000000000) (hb : pre.length + r.length ≤ 1000000000) : mark_cutter_peek n (ct pre r out) (k : Int) = some (r[k]?.getD 0) := by
  unfold mark_cutter_peek
  rw [cur_peek k hk hb]; rfl
theorem ct_is_l2 (xs : List Int) (hb : pre.length + r.length ≤ 1000000000) (m : Nat) (hm : m + xs.length ≤ 1000000000) : ∀ (d j k : Nat), j + d = xs.length → d + 1 ≤ k →
    mark_cutter_is_l2 n (ct pre r out) (m : Int) xs k (j : Int) = some ((xs.drop j).isPrefixOf (r.drop (m + j)))
  | 0, j, k, hj, hk => by
    obtain ⟨k, rfl⟩ : ∃ i, k = i + 1 := ⟨k - 1, by omega⟩
    rw [mark_cutter_is_l2, dF (by omega), List.drop_eq_nil_of_le (by omega)]
    simp [mark_cutter_is_k1]
  | d + 1, j, k, hj, hk => by
    obtain ⟨k, rfl⟩ : ∃ i, k = i + 1 := ⟨k - 1, by omega⟩
    have hlt : j < xs.length := by omega
    rw [mark_cutter_is_l2, dT (by omega), geti_nat, List.getElem?_eq_getElem hlt, Option.bind_some, w64_id (by omega)]
    rw [show (m : Int) + (j : Int) = ((m + j : Nat) : Int) by omega, cur_peek (m + j) (by omega) hb, Option.bind_some]
    rw [List.drop_eq_getElem_cons hlt]
    by_cases h : m + j < r.length
    · rw [List.drop_eq_getElem_cons h, decide_eq_true h, List.getElem?_eq_getElem h]
      simp only [Option.getD_some, Bool.not_true, Bool.false_or, List.isPrefixOf]
      by_cases he : r[m + j] = xs[j]
      · rw [dF (by simpa using he), w64_succ (by omega), ct_is_l2 xs hb m hm d (j + 1) k (by omega) (by omega)]
        simp [he, Nat.add_assoc]
      · rw [dT (by simpa using he)]
        simp [Ne.symm he]
    · have e0 : r.drop (m + j) = [] := List.drop_eq_nil_of_le (by omega)
      rw [e0, decide_eq_false h]
      rfl
theorem ct_is {s : ByteArray} {xs : List Int} (hs : runesM s = some xs) (hx : xs.length + 1 ≤ n) (hx2 : xs.length ≤ 1000) (hb : pre.length + r.length ≤ 1000000000) (m : Nat) (hm : m ≤ 100000000) : mark_cutter_is n (ct pre r out) (m : Int) s = some (xs.isPrefixOf (r.drop m)) := by
  unfold mark_cutter_is
  rw [hs, Option.bind_some]
  exact ct_is_l2 xs hb m (by omega) xs.length 0 n (by omega) hx
def letterB (x : Int) : Bool := bif (decide (97 ≤ x)) then ((decide (x ≤ 122)) || ((decide (65 ≤ x)) && (decide (x ≤ 90)))) else ((decide (65 ≤ x)) && (decide (x ≤ 90)))
def blankB (x : Int) : Bool := (decide (x = 9)) || ((decide (x = 10)) || ((decide (x = 12)) || (decide (x = 32))))
/-- Does a tag or a comment begin here? -/
def beginsB : List Int → Bool
  | 60 :: x :: _ => letterB x || decide (x = 33) || decide (x = 63) || decide (x = 47)
  | _ => false
theorem ct_begins (hn : 2 ≤ n) (hb : pre.length + r.length ≤ 1000000000) : mark_cutter_begins n (ct pre r out) = some (beginsB r) := by
  unfold mark_cutter_begins mark_cutter_begins_k1
  have h1 := ct_is (n := n) (pre := pre) (r := r) (out := out) (s := bs [60]) (xs := [60]) rfl hn (by decide) hb 0 (by omega)
  rw [show ((0 : Nat) : Int) = 0 from rfl] at h1
  rw [h1, Option.bind_some, List.drop_zero]
  cases r with
  | nil => rfl
  | cons x r =>
    by_cases hx : x = 60
    · subst hx
      rw [show ([60] : List Int).isPrefixOf (60 :: r) = true from by simp [List.isPrefixOf]]
      have h2 := ct_peek (n := n) (out := out) 1 (by omega) hb
      rw [show ((1 : Nat) : Int) = 1 from rfl] at h2
      rw [h2, Option.bind_some]
      unfold mark_letter
      rw [Option.bind_some]
      cases r with
      | nil => rfl
      | cons y r =>
        simp only [List.getElem?_cons_succ, List.getElem?_cons_zero, Option.getD_some, Bool.not_true, cond_false]
        unfold beginsB letterB
        simp only
        cases (bif decide (97 ≤ y) then decide (y ≤ 122) || decide (65 ≤ y) && decide (y ≤ 90) else decide (65 ≤ y) && decide (y ≤ 90)) <;> cases decide (y = 33) <;> cases decide (y = 63) <;> simp
    · rw [show ([60] : List Int).isPrefixOf (x :: r) = false from by simp [List.isPrefixOf, Ne.symm hx]]
      have : beginsB (x :: r) = false := by
        unfold beginsB
        split
        · rename_i h; injection h with h _; exact absurd h hx
        · rfl
      rw [this]; rfl
theorem appM4 {xs : List Int} {y : Int} (h : xs.length ≤ 1000000000) : appM 4 xs [y] = some (xs ++ [y]) := appM_eq (by simp; omega)
/-- While. -/
theorem ct_while_l2 (n : Nat) (pre0 r0 : List Int) (out : List mark_Token) {p : Int → Option Bool} {q : Int → Bool} (hp : ∀ z, p z = some (q z)) : ∀ (r pre acc : List Int) (k : Nat), pre.length + r.length ≤ 1000000000 → acc.length + r.length ≤ 1000000000 → r.length + 1 ≤ k →
    mark_cutter_while_l2 n (ct pre0 r0 out) p k (pre ++ r) (pre.length : Int) acc (r[0]?.getD 0) (decide (0 < r.length)) = some (acc ++ r.takeWhile q, ct (pre ++ r.takeWhile q) (r.dropWhile q) out)
  | [], pre, acc, k, hb, ha, hk => by
    obtain ⟨k, rfl⟩ : ∃ i, k = i + 1 := ⟨k - 1, by omega⟩
    rw [mark_cutter_while_l2]
    unfold mark_cutter_while_k3 mark_cutter_while_k1
    simp
  | x :: r, pre, acc, k, hb, ha, hk => by
    obtain ⟨k, rfl⟩ : ∃ i, k = i + 1 := ⟨k - 1, by omega⟩
    simp only [List.length_cons] at hb ha hk
    rw [mark_cutter_while_l2]
    simp only [List.getElem?_cons_zero, Option.getD_some]
    rw [decide_eq_true (by simp : 0 < (x :: r).length), cond_true, hp, Option.bind_some]
    unfold mark_cutter_while_k3
    cases hq : q x with
    | false =>
      rw [cond_false]
      unfold mark_cutter_while_k1
      simp [hq]
    | true =>
      rw [cond_true, appM4 (by omega), Option.bind_some, cur_next (by simp; omega), Option.bind_some]
      have h2 := cur_peek (n := n) (pre := pre ++ [x]) (r := r) 0 (by omega) (by simp; omega)
      rw [show ((0 : Nat) : Int) = 0 from rfl] at h2
      simp only
      rw [h2, Option.bind_some]
      have := ct_while_l2 n pre0 r0 out hp r (pre ++ [x]) (acc ++ [x]) k (by simp; omega) (by simp; omega) (by omega)
      simp only [List.append_assoc, List.singleton_append] at this ⊢
      rw [this]
      simp [hq]
theorem ct_while {p : Int → Option Bool} {q : Int → Bool} (hp : ∀ z, p z = some (q z)) (hb : pre.length + r.length ≤ 1000000000) (hn : r.length + 1 ≤ n) : mark_cutter_while n (ct pre r out) p = some (r.takeWhile q, ct (pre ++ r.takeWhile q) (r.dropWhile q) out) := by
  unfold mark_cutter_while
  have h2 := cur_peek (n := n) (pre := pre) (r := r) 0 (by omega) hb
  rw [show ((0 : Nat) : Int) = 0 from rfl] at h2
  rw [h2, Option.bind_some]
  have := ct_while_l2 n pre r out hp r pre [] n hb (by simp; omega) hn
  simpa using this
end Go.Proofs.Ythmnohdlhlmmpaa
