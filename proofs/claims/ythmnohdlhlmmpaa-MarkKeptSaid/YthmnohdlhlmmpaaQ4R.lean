/-
  Walks and laws of this seat; the base is the text Base.
-/
import Derived.Test.YthmnohdlhlmmpaaQ4Q
namespace Go.Proofs.Ythmnohdlhlmmpaa
open Go.RowKit Go.Sl
variable {n : Nat} {pre r : List Int} {out : List mark_Token}
/-- A tag behind its '<' or '</': its name, and what it holds, if it ends. -/
def tagS (r : List Int) : Option (List api_Attr × Bool × List Int) := tagL (r.length + 2) (r.dropWhile tagB) []
def tagN (r : List Int) : ByteArray := smallL (r.takeWhile tagB)
theorem ct_tag (kind : Int) (hn : 4 * (pre.length + r.length) + 100 ≤ n) (hb : pre.length + r.length ≤ 1000000) : TagRes out kind (tagN r) (pre ++ r) (mark_cutter_tag n (ct pre r out) kind) (tagS r) := by
  unfold mark_cutter_tag
  have hc := congrArg List.length (List.takeWhile_append_dropWhile (p := tagB) (l := r))
  rw [List.length_append] at hc
  rw [ct_while (q := tagB) tag1_eq (by omega) (by omega), Option.bind_some]
  simp only
  rw [mark_small_eq _ (by omega) (by omega), Option.bind_some]
  have hcat : pre ++ r.takeWhile tagB ++ r.dropWhile tagB = pre ++ r := by rw [List.append_assoc, List.takeWhile_append_dropWhile]
  unfold tagS tagN
  rw [tagL_fuel (r.length + 2) n (r.dropWhile tagB) [] (by omega) (by omega)]
  have := tag_g (n := n) (out := out) kind (smallL (r.takeWhile tagB)) n (r.dropWhile tagB) (pre ++ r.takeWhile tagB) [] false { Name := bs [], Value := bs [] } (by omega) (by simp) (by simp; omega) (by simp; omega)
  rw [hcat] at this ⊢
  exact this
def textTok (t : ByteArray) : mark_Token := { Kind := 1, Name := bs [], Text := t, Attrs := [], Closed := false }
theorem raw_l4 (p0 : mark_cutter) : ∀ (d j : Nat) (pre r acc : List Int) (k : Nat), d ≤ r.length → d + 1 ≤ k → pre.length + r.length ≤ 1000000 → acc.length + d ≤ 1000000 → j + d ≤ 1000000 →
    mark_cutter_raw_l4 n p0 ((j + d : Nat) : Int) k (pre ++ r) (pre.length : Int) acc (j : Int) = mark_cutter_raw_k2 p0 (pre ++ r) ((pre ++ r.take d).length : Int) (acc ++ r.take d)
  | 0, j, pre, r, acc, k, hd, hk, hb, ha, hj => by
    obtain ⟨k, rfl⟩ : ∃ i, k = i + 1 := ⟨k - 1, by omega⟩
    rw [mark_cutter_raw_l4, dF (by omega)]
    simp
  | d + 1, j, pre, [], acc, k, hd, hk, hb, ha, hj => by simp at hd
  | d + 1, j, pre, x :: r, acc, k, hd, hk, hb, ha, hj => by
    obtain ⟨k, rfl⟩ : ∃ i, k = i + 1 := ⟨k - 1, by omega⟩
    have hb' := hb
    simp only [List.length_cons] at hd hb
    rw [mark_cutter_raw_l4, dT (by omega), cur_next (by omega), Option.bind_some]
    simp only
    rw [appM4 (by omega), Option.bind_some, w64_succ (by omega)]
    have := raw_l4 p0 d (j + 1) (pre ++ [x]) r (acc ++ [x]) k (by omega) (by omega) (by simp; omega) (by simp; omega) (by omega)
    rw [show j + 1 + d = j + (d + 1) by omega] at this
    simp only [List.append_assoc, List.singleton_append] at this ⊢
    rw [this]
    simp
theorem raw_k1 (m : Nat) (hm : m ≤ r.length) (hn : r.length + 1 ≤ n) (hb : pre.length + r.length ≤ 1000000) (ho : out.length ≤ 1000000) :
    mark_cutter_raw_k1 n (ct pre r out) (m : Int) = some (ct (pre ++ r.take m) (r.drop m) (out ++ if m = 0 then [] else [textTok (textOf (r.take m))])) := by
  unfold mark_cutter_raw_k1
  have := raw_l4 (n := n) (ct pre r out) m 0 pre r [] n hm (by omega) hb (by simp; omega) (by omega)
  rw [Nat.zero_add] at this
  rw [show ((0 : Nat) : Int) = 0 from rfl] at this
  rw [this, List.nil_append]
  unfold mark_cutter_raw_k2 mark_cutter_raw_k3
  have hl : (r.take m).length = m := by rw [List.length_take]; omega
  rw [hl]
  have hcat : pre ++ r.take m ++ r.drop m = pre ++ r := by rw [List.append_assoc, List.take_append_drop]
  by_cases h0 : m = 0
  · subst h0
    rw [dF (by omega)]
    simp
  · rw [dT (by omega), appM_eq (by simp; omega), Option.bind_some, if_neg h0]
    unfold ct cur
    rw [hcat]
    rfl
/-- Runes up to what begins a tag. -/
def textRun : List Int → List Int × List Int
  | [] => ([], [])
  | x :: r => bif beginsB (x :: r) then ([], x :: r) else (x :: (textRun r).1, (textRun r).2)
theorem textRun_cat : ∀ r : List Int, (textRun r).1 ++ (textRun r).2 = r
  | [] => rfl
  | x :: r => by
    unfold textRun
    cases beginsB (x :: r) with
    | true => rfl
    | false => simp only [cond_false, List.cons_append, textRun_cat r]
theorem tokens_l4 (out : List mark_Token) (tk : mark_Token) (g3 : (List Int) → Int → (List mark_Token) → mark_Token → Option (List mark_Token)) (hn : 2 ≤ n) : ∀ (r pre acc : List Int) (k : Nat), r.length + 1 ≤ k → pre.length + r.length ≤ 1000000 → acc.length + r.length ≤ 1000000 →
    mark_Tokens_l4 n out tk g3 k (pre ++ r) (pre.length : Int) acc = mark_Tokens_k3 n out tk g3 (pre ++ r) ((pre ++ (textRun r).1).length : Int) (acc ++ (textRun r).1)
  | [], pre, acc, k, hk, hb, ha => by
    obtain ⟨k, rfl⟩ : ∃ i, k = i + 1 := ⟨k - 1, by omega⟩
    rw [mark_Tokens_l4, cur_left (by omega), Option.bind_some, dF (by simp)]
    unfold mark_Tokens_k5
    rw [cond_false]
    simp [textRun]
  | x :: r, pre, acc, k, hk, hb, ha => by
    obtain ⟨k, rfl⟩ : ∃ i, k = i + 1 := ⟨k - 1, by omega⟩
    have hb' := hb
    simp only [List.length_cons] at hk hb ha
    rw [mark_Tokens_l4, cur_left (by omega), Option.bind_some, dT (by simp), ct_begins hn (by omega), Option.bind_some]
    unfold mark_Tokens_k5 textRun
    cases hbg : beginsB (x :: r) with
    | true => simp
    | false =>
      rw [Bool.not_false, cond_true, cond_false, cur_next (by omega), Option.bind_some]
      simp only
      rw [appM4 (by omega), Option.bind_some]
      have := tokens_l4 out tk g3 hn r (pre ++ [x]) (acc ++ [x]) k (by omega) (by simp; omega) (by simp; omega)
      simp only [List.append_assoc, List.singleton_append] at this ⊢
      rw [this]
end Go.Proofs.Ythmnohdlhlmmpaa
