/-
  Walks and laws of this seat; the base is the text Base.
-/
import Derived.Test.YthmnohdlhlmmpaaQ4R
namespace Go.Proofs.Ythmnohdlhlmmpaa
open Go.RowKit Go.Sl
variable {n : Nat} {pre r : List Int} {out : List mark_Token}
def afterB : List Int → Bool
  | [] => true
  | x :: _ => blankB x || (decide (x = 47) || decide (x = 62))
/-- Does the close tag of a raw text stand here? -/
def rawAt (nm : ByteArray) (r : List Int) : Bool := ([60, 47] : List Int).isPrefixOf r && (decide (2 + nm.size ≤ r.length) && (decide (smallL ((r.drop 2).take nm.size) = nm) && afterB (r.drop (2 + nm.size))))
/-- How many runes a raw text has. -/
def rawS (nm : ByteArray) : List Int → Nat
  | [] => 0
  | x :: r => bif rawAt nm (x :: r) then 0 else rawS nm r + 1
theorem rawS_le (nm : ByteArray) : ∀ r : List Int, rawS nm r ≤ r.length
  | [] => Nat.le_refl _
  | x :: r => by
    unfold rawS
    have := rawS_le nm r
    cases rawAt nm (x :: r) with
    | true => simp
    | false => simp only [cond_false, List.length_cons]; omega
def padL : Nat → List Int → List Int
  | 0, _ => []
  | m + 1, xs => xs[0]?.getD 0 :: padL m xs.tail
theorem padL_take : ∀ (m : Nat) (xs : List Int), m ≤ xs.length → padL m xs = xs.take m
  | 0, _, _ => by simp [padL]
  | m + 1, [], h => by simp at h
  | m + 1, x :: xs, h => by
    unfold padL
    rw [List.tail_cons, padL_take m xs (by simpa using h)]; rfl
theorem padL_zero : ∀ (m : Nat) (xs : List Int), xs.length < m → ∃ a b, padL m xs = a ++ 0 :: b
  | 0, _, h => by omega
  | m + 1, [], _ => ⟨[], padL m [], rfl⟩
  | m + 1, x :: xs, h => by
    obtain ⟨a, b, e⟩ := padL_zero m xs (by simpa using h)
    refine ⟨x :: a, b, ?_⟩
    unfold padL
    rw [List.tail_cons, e]; rfl
theorem padL_len : ∀ (m : Nat) (xs : List Int), (padL m xs).length = m
  | 0, _ => rfl
  | m + 1, xs => by unfold padL; rw [List.length_cons, padL_len]
theorem textOf_append : ∀ (a b : List Int), textOf (a ++ b) = textOf a ++ textOf b
  | [], b => by simp [textOf]
  | x :: a, b => by rw [List.cons_append, textOf_cons, textOf_cons, textOf_append a b, ByteArray.append_assoc]
theorem small_zero (a b : List Int) : (0 : UInt8) ∈ (smallL (a ++ 0 :: b)).data.toList := by
  unfold smallL
  rw [List.map_append, List.map_cons, textOf_append, textOf_cons]
  simp only [ByteArray.data_append, Array.toList_append, List.mem_append]
  exact .inr (.inl (by decide +kernel))
theorem small_pad {nm : ByteArray} (h0 : (0 : UInt8) ∉ nm.data.toList) (xs : List Int) : decide (smallL (padL nm.size xs) = nm) = (decide (nm.size ≤ xs.length) && decide (smallL (xs.take nm.size) = nm)) := by
  by_cases h : nm.size ≤ xs.length
  · rw [padL_take _ _ h, decide_eq_true h, Bool.true_and]
  · obtain ⟨a, b, e⟩ := padL_zero nm.size xs (by omega)
    rw [decide_eq_false h, Bool.false_and]
    refine decide_eq_false fun e2 => h0 ?_
    rw [← e2, e]
    exact small_zero a b
theorem raw_l9 (nm : ByteArray) (i : Nat) (lp : Int → Option mark_cutter) (hb : pre.length + r.length ≤ 1000000) (hi : i ≤ 1000000) (hs : nm.size ≤ 1000) : ∀ (d j : Nat) (acc : List Int) (k : Nat), j + d = nm.size → d + 1 ≤ k → acc.length + d ≤ 1000000 →
    mark_cutter_raw_l9 n (ct pre r out) nm (i : Int) lp k acc (j : Int) = mark_cutter_raw_k7 n (ct pre r out) nm (i : Int) lp (acc ++ padL d (r.drop (i + 2 + j)))
  | 0, j, acc, k, hj, hk, ha => by
    obtain ⟨k, rfl⟩ : ∃ i, k = i + 1 := ⟨k - 1, by omega⟩
    rw [mark_cutter_raw_l9, dF (by omega)]
    unfold padL
    rw [List.append_nil]
  | d + 1, j, acc, k, hj, hk, ha => by
    obtain ⟨k, rfl⟩ : ∃ i, k = i + 1 := ⟨k - 1, by omega⟩
    rw [mark_cutter_raw_l9, dT (by omega), w64_id (i := (i : Int) + 2) (by omega), w64_id (by omega), show (i : Int) + 2 + (j : Int) = ((i + 2 + j : Nat) : Int) by omega, ct_peek _ (by omega) (by omega), Option.bind_some, appM4 (by omega), Option.bind_some, w64_succ (by omega)]
    rw [raw_l9 nm i lp hb hi hs d (j + 1) _ k (by omega) (by omega) (by simp; omega)]
    have e : (r.drop (i + 2 + j)).tail = r.drop (i + 2 + (j + 1)) := by rw [List.tail_drop, Nat.add_assoc (i + 2)]
    have e2 : (r.drop (i + 2 + j))[0]? = r[i + 2 + j]? := by rw [List.getElem?_drop, Nat.add_zero]
    rw [show padL (d + 1) (r.drop (i + 2 + j)) = (r.drop (i + 2 + j))[0]?.getD 0 :: padL d (r.drop (i + 2 + j)).tail from rfl, e, e2, List.append_assoc, List.singleton_append]
theorem raw_k7 (nm : ByteArray) (i : Nat) (lp : Int → Option mark_cutter) (hb : pre.length + r.length ≤ 1000000) (hi : i ≤ r.length) (hs : nm.size ≤ 1000) (h0 : (0 : UInt8) ∉ nm.data.toList) (hn : 2000 ≤ n) (h60 : ([60, 47] : List Int).isPrefixOf (r.drop i) = true) :
    mark_cutter_raw_k7 n (ct pre r out) nm (i : Int) lp (padL nm.size (r.drop (i + 2))) = mark_cutter_raw_k8 n (ct pre r out) (i : Int) lp (rawAt nm (r.drop i)) := by
  unfold mark_cutter_raw_k7
  rw [w64_id (i := (i : Int) + 2) (by omega), w64_id (by omega), show (i : Int) + 2 + (nm.size : Int) = ((i + 2 + nm.size : Nat) : Int) by omega, cur_peek _ (by omega) (by omega), Option.bind_some]
  rw [mark_small_eq _ (by rw [padL_len]; omega) (by rw [padL_len]; omega), Option.bind_some, small_pad h0]
  have hpl := (List.isPrefixOf_iff_prefix.1 h60).length_le
  simp only [List.length_cons, List.length_nil, List.length_drop] at hpl
  have e1 : decide (nm.size ≤ (r.drop (i + 2)).length) = decide (2 + nm.size ≤ (r.drop i).length) := by
    simp only [List.length_drop]
    congr 1
    exact propext ⟨fun h => by omega, fun h => by omega⟩
  have e2 : (r.drop i).drop 2 = r.drop (i + 2) := by rw [List.drop_drop]
  have e3 : (r.drop i).drop (2 + nm.size) = r.drop (i + 2 + nm.size) := by rw [List.drop_drop, Nat.add_assoc]
  unfold rawAt
  rw [h60, Bool.true_and, e1, e2, e3]
  cases decide (2 + nm.size ≤ (r.drop i).length) with
  | false => rfl
  | true =>
    cases decide (smallL ((r.drop (i + 2)).take nm.size) = nm) with
    | false => rfl
    | true =>
      simp only [Bool.and_true, cond_true, Bool.true_and]
      by_cases hl : i + 2 + nm.size < r.length
      · rw [decide_eq_true hl, Bool.not_true, cond_false, List.drop_eq_getElem_cons hl, List.getElem?_eq_getElem hl, Option.getD_some, blank_eq, Option.bind_some]
        rw [show ∀ (y : Int) (t : List Int), afterB (y :: t) = (blankB y || (decide (y = 47) || decide (y = 62))) from fun _ _ => rfl]
        cases blankB r[i + 2 + nm.size] with
        | true => rfl
        | false =>
          rw [cond_false, Bool.false_or]
          cases decide (r[i + 2 + nm.size] = 47) <;> rfl
      · have e0 : r.drop (i + 2 + nm.size) = [] := List.drop_eq_nil_of_le (by omega)
        rw [decide_eq_false hl, Bool.not_false, cond_true, e0]; rfl
theorem raw_l5 (nm : ByteArray) (hb : pre.length + r.length ≤ 1000000) (hs : nm.size ≤ 1000) (h0 : (0 : UInt8) ∉ nm.data.toList) (hn : 2000 ≤ n) : ∀ (d i k : Nat), i + d = r.length → d + 1 ≤ k →
    mark_cutter_raw_l5 n (ct pre r out) nm k (i : Int) = mark_cutter_raw_k1 n (ct pre r out) ((i + rawS nm (r.drop i) : Nat) : Int)
  | 0, i, k, hi, hk => by
    obtain ⟨k, rfl⟩ : ∃ i, k = i + 1 := ⟨k - 1, by omega⟩
    have e0 : r.drop i = [] := List.drop_eq_nil_of_le (by omega)
    rw [mark_cutter_raw_l5, cur_left (by omega), Option.bind_some, dF (by omega), e0]
    rfl
  | d + 1, i, k, hi, hk => by
    obtain ⟨k, rfl⟩ : ∃ i, k = i + 1 := ⟨k - 1, by omega⟩
    have hlt : i < r.length := by omega
    have ih := raw_l5 nm hb hs h0 hn d (i + 1) k (by omega) (by omega)
    rw [mark_cutter_raw_l5, cur_left (by omega), Option.bind_some, dT (by omega)]
    rw [ct_is (xs := [60, 47]) rfl (by simp; omega) (by decide) (by omega) i (by omega), Option.bind_some]
    have hd : r.drop i = r[i] :: r.drop (i + 1) := List.drop_eq_getElem_cons hlt
    have next : rawAt nm (r.drop i) = false → mark_cutter_raw_k6 (i : Int) (mark_cutter_raw_l5 n (ct pre r out) nm k) = mark_cutter_raw_k1 n (ct pre r out) ((i + rawS nm (r.drop i) : Nat) : Int) := fun hf => by
      unfold mark_cutter_raw_k6
      rw [w64_succ (by omega), ih]
      rw [hd] at hf ⊢
      rw [show ∀ (y : Int) (t : List Int), rawS nm (y :: t) = bif rawAt nm (y :: t) then 0 else rawS nm t + 1 from fun _ _ => rfl]
      rw [hf, cond_false, show i + 1 + rawS nm (r.drop (i + 1)) = i + (rawS nm (r.drop (i + 1)) + 1) by omega]
    cases h60 : ([60, 47] : List Int).isPrefixOf (r.drop i) with
    | false =>
      rw [Bool.not_false, cond_true]
      exact next (by unfold rawAt; rw [h60]; rfl)
    | true =>
      rw [Bool.not_true, cond_false]
      have h9 := raw_l9 (n := n) (pre := pre) (r := r) (out := out) nm i (mark_cutter_raw_l5 n (ct pre r out) nm k) hb (by omega) hs nm.size 0 [] n (by omega) (by omega) (by simp; omega)
      rw [show ((0 : Nat) : Int) = 0 from rfl, List.nil_append, Nat.add_zero] at h9
      rw [h9, raw_k7 nm i _ hb (by omega) hs h0 hn h60]
      unfold mark_cutter_raw_k8
      cases hr : rawAt nm (r.drop i) with
      | false => rw [cond_false]; exact next hr
      | true =>
        rw [cond_true]
        rw [hd] at hr ⊢
        rw [show ∀ (y : Int) (t : List Int), rawS nm (y :: t) = bif rawAt nm (y :: t) then 0 else rawS nm t + 1 from fun _ _ => rfl, hr]; rfl
theorem ct_raw (nm : ByteArray) (hb : pre.length + r.length ≤ 1000000) (hs : nm.size ≤ 1000) (h0 : (0 : UInt8) ∉ nm.data.toList) (hn : 4 * (pre.length + r.length) + 2000 ≤ n) (ho : out.length ≤ 1000000) :
    mark_cutter_raw n (ct pre r out) nm = some (ct (pre ++ r.take (rawS nm r)) (r.drop (rawS nm r)) (out ++ if rawS nm r = 0 then [] else [textTok (textOf (r.take (rawS nm r)))])) := by
  unfold mark_cutter_raw
  have := raw_l5 (n := n) (pre := pre) (r := r) (out := out) nm hb hs h0 (by omega) r.length 0 n (by omega) (by omega)
  rw [show ((0 : Nat) : Int) = 0 from rfl, List.drop_zero, Nat.zero_add] at this
  rw [this]
  exact raw_k1 _ (rawS_le nm r) (by omega) hb ho
end Go.Proofs.Ythmnohdlhlmmpaa
