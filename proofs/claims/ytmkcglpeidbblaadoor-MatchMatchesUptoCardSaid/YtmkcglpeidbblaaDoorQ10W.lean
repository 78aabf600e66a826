/-
  Walks and laws of this seat; the base is the text Base.
-/
import Derived.Test.YtmkcglpeidbblaaDoorQ10U
import Derived.Test.YtmkcglpeidbblaaDoorQ10D
import Derived.Test.YtmkcglpeidbblaaDoorL10r
namespace Go.Proofs.YtmkcglpeidbblaaDoor
open Go.RowKit Go.Sl
/-! The words of a class, as runes. -/
theorem enc_nat {c : Nat} (hv : Utf8.valid (c : Int) = true) : (Lib.encodeRune (c : Int)).map (·.toNat) = encL c := by
  have hc : c ≤ 1114111 ∧ (c < 55296 ∨ 57343 < c) := by simp [Utf8.valid] at hv; omega
  have key : ∀ x : Int, 0 ≤ x → x < 256 → (x.toNat.toUInt8).toNat = x.toNat := fun x h0 h1 => by
    rw [Nat.toUInt8, UInt8.toNat_ofNat']; omega
  unfold Lib.encodeRune encL
  by_cases h1 : c < 128
  · rw [if_pos h1, Lib.encodeRuneZ_one (by omega) (by omega)]
    simp only [List.map_cons, List.map_nil]
    rw [key _ (by omega) (by omega)]
    rfl
  rw [if_neg h1]
  by_cases h2 : c < 2048
  · rw [if_pos h2, Lib.encodeRuneZ_two (by omega) (by omega)]
    simp only [List.map_cons, List.map_nil]
    rw [key _ (by omega) (by omega), key _ (by omega) (by omega)]
    congr 1 <;> (try congr 1) <;> omega
  rw [if_neg h2]
  by_cases h3 : c < 65536
  · rw [if_pos h3, Lib.encodeRuneZ_three (by omega)]
    simp only [List.map_cons, List.map_nil]
    rw [key _ (by omega) (by omega), key _ (by omega) (by omega), key _ (by omega) (by omega)]
    congr 1 <;> (try congr 1) <;> (try congr 1) <;> omega
  rw [if_neg h3, Lib.encodeRuneZ_four (by omega) (by omega)]
  simp only [List.map_cons, List.map_nil]
  rw [key _ (by omega) (by omega), key _ (by omega) (by omega), key _ (by omega) (by omega), key _ (by omega) (by omega)]
  congr 1 <;> (try congr 1) <;> (try congr 1) <;> (try congr 1) <;> omega
theorem byL_bs (l : List UInt8) : byL (bs l) = l.map (·.toNat) := rfl
theorem decodeL_eq (l : List UInt8) : Lib.decodeL l = decL (l.map (·.toNat)) := by
  unfold Lib.decodeL
  rw [decode_list]
  rfl
theorem low_valid {r : Int} (h : Utf8.valid r = true) : Utf8.valid (lowR r) = true ∧ 0 ≤ r ∧ r ≤ 1114111 := by
  unfold lowR
  simp [Utf8.valid] at h ⊢
  split <;> omega
theorem mapD_list : ∀ (m : Nat) (l : List UInt8), l.length ≤ m → (Lib.mapD (fun x => lowR x) l).map (·.toNat) = (runesS (l.map (·.toNat))).flatMap fun r => encL (lowR r).toNat
  | _, [], _ => rfl
  | 0, _ :: _, h => by simp at h
  | m + 1, b :: l, h => by
    have hw := decL_width ((b :: l).map (·.toNat))
    have hv : Utf8.valid ((decL ((b :: l).map (·.toNat))).1 : Int) = true := decL_valid _ fun x hx => by
      obtain ⟨y, _, rfl⟩ := List.mem_map.1 hx
      exact y.toNat_lt
    obtain ⟨v1, v2, v3⟩ := low_valid hv
    have h0 : 0 ≤ lowR ((decL ((b :: l).map (·.toNat))).1 : Int) := by unfold lowR; split <;> omega
    rw [Lib.mapD_step _ _ (by simp), decodeL_eq, List.map_append, mapD_list m _ (by rw [List.length_drop]; simp only [List.length_cons] at h ⊢; omega), if_pos h0]
    rw [show (b :: l).map (·.toNat) = b.toNat :: l.map (·.toNat) from rfl, runesS_cons, List.flatMap_cons]
    rw [show (b.toNat :: l.map (·.toNat)) = (b :: l).map (·.toNat) from rfl, List.map_drop]
    obtain ⟨q, hq⟩ : ∃ q : Nat, lowR ((decL ((b :: l).map (·.toNat))).1 : Int) = q := ⟨(lowR ((decL ((b :: l).map (·.toNat))).1 : Int)).toNat, by omega⟩
    rw [hq] at v1 ⊢
    rw [enc_nat v1, Int.toNat_natCast]
theorem lowS_eq (s : ByteArray) : lowS s = textOf ((runesIn s).map lowR) := by
  apply byL_inj
  have hv := runesIn_valid s
  unfold lowS
  rw [byL_bs, mapD_list _ _ (Nat.le_refl _), textOf, byL_fold _ _ (fun x hx => by
    obtain ⟨y, hy, rfl⟩ := List.mem_map.1 hx
    exact (low_valid (hv y hy)).1)]
  rw [show s.data.toList.map (·.toNat) = byL s from rfl, ← runesIn_list, List.flatMap_map]
  rfl
/-- The reference's search, on runes. -/
def isBl (r : Int) : Bool := decide (r = 9) || (decide (r = 10) || (decide (r = 12) || decide (r = 32)))
def scanW (name : ByteArray) : List Int → List Int → Bool
  | [], _ => false
  | r :: rs, acc => if isBl r = true then (decide (0 < acc.length) && decide (textOf (acc.map lowR) = name)) || scanW name rs [] else scanW name rs (acc ++ [r])
theorem small4_l2 (l : List Int) (hl : l.length ≤ 4194304) (hv : ∀ x ∈ l, 0 ≤ x ∧ x ≤ 1114111) : ∀ (d k j : Nat) (acc : List Int), l.length - j ≤ d → d + 2 ≤ k → j ≤ l.length → acc = (l.take j).map lowR → ref4_Small_l2 l k acc (j : Int) = some (textOf (l.map lowR)) := by
  intro d
  have fin : ∀ (k j : Nat) (acc : List Int), ¬ j < l.length → acc = (l.take j).map lowR → ref4_Small_l2 l (k + 1) acc (j : Int) = some (textOf (l.map lowR)) := fun k j acc hj ha => by
    rw [ref4_Small_l2, decide_eq_false (show ¬ (j : Int) < (l.length : Int) by omega), cond_false, ha, List.take_of_length_le (by omega)]
    rfl
  induction d with
  | zero =>
    intro k j acc hd hk hj ha
    obtain ⟨k, rfl⟩ : ∃ k', k = k' + 1 := ⟨k - 1, by omega⟩
    exact fin k j acc (by omega) ha
  | succ d ih =>
    intro k j acc hd hk hj ha
    obtain ⟨k, rfl⟩ : ∃ k', k = k' + 1 := ⟨k - 1, by omega⟩
    by_cases hlt : j < l.length
    · have hx := hv _ (List.getElem_mem hlt)
      have hal : acc.length = j := by rw [ha, List.length_map, List.length_take]; omega
      have step : ref4_Small_k3 acc (j : Int) (ref4_Small_l2 l k) (lowR l[j]) = some (textOf (l.map lowR)) := by
        unfold ref4_Small_k3
        rw [appM_eq (by simp only [List.length_cons, List.length_nil]; omega), Option.bind_some, w64_succ (by omega)]
        exact ih k (j + 1) _ (by omega) (by omega) (by omega) (by rw [ha, List.take_succ_eq_append_getElem hlt, List.map_append]; rfl)
      rw [ref4_Small_l2, decide_eq_true (show (j : Int) < (l.length : Int) by omega), cond_true, geti_nat, List.getElem?_eq_getElem hlt, Option.bind_some]
      by_cases h1 : 65 ≤ l[j] ∧ l[j] ≤ 90
      · have e : lowR l[j] = l[j] + 32 := by unfold lowR; rw [if_pos h1]
        rw [decide_eq_true h1.1, decide_eq_true h1.2, Bool.and_self, cond_true, wr_i32 (by omega), ← e]
        exact step
      · have e : lowR l[j] = l[j] := by unfold lowR; rw [if_neg h1]
        have hf : (decide (65 ≤ l[j]) && decide (l[j] ≤ 90)) = false := by
          rw [Bool.and_eq_false_iff, decide_eq_false_iff_not, decide_eq_false_iff_not]
          omega
        rw [hf, cond_false]
        rw [e] at step
        exact step
    · exact fin k j acc hlt ha
theorem small4_eq {n : Nat} (hn : 4194400 ≤ n) (l : List Int) (hl : l.length ≤ 4194304) (hv : ∀ x ∈ l, 0 ≤ x ∧ x ≤ 1114111) : ref4_Small n l = some (textOf (l.map lowR)) := by
  unfold ref4_Small
  exact small4_l2 l hl hv l.length n 0 [] (by omega) (by omega) (by omega) rfl
theorem word_l2 {n : Nat} (hn : 4194400 ≤ n) (name x : ByteArray) (hx : x.size ≤ 4194000) : ∀ (d k p : Nat) (acc : List Int), x.size - p ≤ d → d + 2 ≤ k → acc.length ≤ p → acc.length ≤ x.size → (∀ y ∈ acc, 0 ≤ y ∧ y ≤ 1114111) → ref10_word_l2 n name x k acc p = some (scanW name (runesS ((byL x).drop p)) acc) := by
  intro d
  have fin : ∀ (k p : Nat) (acc : List Int), ¬ p < x.size → ref10_word_l2 n name x (k + 1) acc p = some (scanW name (runesS ((byL x).drop p)) acc) := fun k p acc hp => by
    rw [ref10_word_l2, decide_eq_false hp, cond_false, List.drop_eq_nil_of_le (by rw [byL_length]; omega)]
    rfl
  induction d with
  | zero =>
    intro k p acc hd hk _ _ _
    obtain ⟨k, rfl⟩ : ∃ k', k = k' + 1 := ⟨k - 1, by omega⟩
    exact fin k p acc (by omega)
  | succ d ih =>
    intro k p acc hd hk ha hb hv
    obtain ⟨k, rfl⟩ : ∃ k', k = k' + 1 := ⟨k - 1, by omega⟩
    by_cases hp : p < x.size
    · have hne : (byL x).drop p ≠ [] := fun e => by
        have := List.drop_eq_nil_iff.1 e
        rw [byL_length] at this
        omega
      obtain ⟨b, tl, hbt⟩ := List.exists_cons_of_ne_nil hne
      have hlt : ∀ y ∈ b :: tl, y < 256 := fun y hy => byL_lt x y (List.mem_of_mem_drop (hbt ▸ hy))
      have hw := decL_width (b :: tl)
      have hvv := (low_valid (decL_valid _ hlt)).2
      have ed : Utf8.decode x p = decL (b :: tl) := by rw [decode_list, hbt]
      have er : runesS ((byL x).drop p) = ((decL (b :: tl)).1 : Int) :: runesS ((byL x).drop (p + (decL (b :: tl)).2)) := by rw [hbt, runesS_cons, ← hbt, List.drop_drop, hbt]
      rw [ref10_word_l2, decide_eq_true hp, cond_true]
      unfold ref4_Blank
      rw [Option.bind_some, ed, er, scanW]
      have k3 : ∀ acc' : List Int, acc'.length ≤ p + 1 → acc'.length ≤ x.size → (∀ y ∈ acc', 0 ≤ y ∧ y ≤ 1114111) → ref10_word_k3 x p (ref10_word_l2 n name x k) acc' = some (scanW name (runesS ((byL x).drop (p + (decL (b :: tl)).2))) acc') := fun acc' h1 h2 h3 => by
        unfold ref10_word_k3
        rw [ed]
        exact ih k _ acc' (by omega) (by omega) (by omega) h2 h3
      cases eb : isBl ((decL (b :: tl)).1 : Int) with
      | false =>
        rw [show (decide (((decL (b :: tl)).1 : Int) = 9) || (decide (((decL (b :: tl)).1 : Int) = 10) || (decide (((decL (b :: tl)).1 : Int) = 12) || decide (((decL (b :: tl)).1 : Int) = 32)))) = false from eb, Bool.not_false, cond_true, if_neg (by decide), appM_eq (by simp only [List.length_cons, List.length_nil]; omega), Option.bind_some]
        refine k3 _ (by simp only [List.length_append, List.length_cons, List.length_nil]; omega) (by simp only [List.length_append, List.length_cons, List.length_nil]; omega) fun y hy => ?_
        rcases List.mem_append.1 hy with hy | hy
        · exact hv y hy
        · rw [List.mem_singleton.1 hy]; exact hvv
      | true =>
        rw [show (decide (((decL (b :: tl)).1 : Int) = 9) || (decide (((decL (b :: tl)).1 : Int) = 10) || (decide (((decL (b :: tl)).1 : Int) = 12) || decide (((decL (b :: tl)).1 : Int) = 32)))) = true from eb, Bool.not_true, cond_false, if_pos rfl]
        have k4 : ∀ c : Bool, ref10_word_k4 x p (ref10_word_l2 n name x k) c = some (c || scanW name (runesS ((byL x).drop (p + (decL (b :: tl)).2))) []) := fun c => by
          unfold ref10_word_k4
          cases c
          · rw [cond_false, Bool.false_or]; exact k3 [] (by simp) (by simp) (fun y hy => by cases hy)
          · rfl
        by_cases h0 : 0 < acc.length
        · rw [decide_eq_true (show (0 : Int) < (acc.length : Int) by omega), cond_true, small4_eq hn acc (by omega) hv, Option.bind_some, k4, decide_eq_true h0, Bool.true_and]
        · rw [decide_eq_false (show ¬ (0 : Int) < (acc.length : Int) by omega), cond_false, k4, decide_eq_false h0, Bool.false_and]
    · exact fin k p acc hp
theorem word_eq {n : Nat} (hn : 4194400 ≤ n) (s name : ByteArray) (hs : s.size ≤ 1048576) : ref10_word n s name = some (scanW name (runesS (byL s) ++ [32]) []) := by
  unfold ref10_word
  have hb : (bs [32]).size = 1 := rfl
  rw [addS_eq (by omega), Option.bind_some, word_l2 hn name _ (by rw [ByteArray.size_append]; omega) (s ++ bs [32]).size n 0 [] (by omega) (by rw [ByteArray.size_append]; omega) (by simp) (by simp) (fun y hy => by cases hy)]
  rw [List.drop_zero, byL_append, show byL (bs [32]) = [32] from rfl, runesS_between (by omega)]
  rfl
/-! The fields -/
theorem cont_bad {l : List Nat} (h : contL l 0 = true) : (decL l).1 = 65533 := by
  cases l with
  | nil => simp [contL] at h
  | cons b t =>
    have hb : b / 64 = 2 := by simpa [contL] using h
    unfold decL
    simp only [List.getD_cons_zero]
    rw [if_neg (by omega), if_neg (by simp; omega), if_neg (by simp; omega), if_neg (by simp; omega)]
theorem byL_extract (s : ByteArray) (a b : Nat) : byL (s.extract a b) = ((byL s).take b).drop a := by
  unfold byL
  rw [ByteArray.data_extract, Array.toList_extract]
  simp [List.map_take, List.map_drop, List.drop_take]
theorem fields_scan (s name : ByteArray) : ∀ (f pos : Nat) (st : Option Nat) (acc : List (Nat × Nat)) (ar : List Int), s.size ≤ pos + f →
    ((st = none ∧ ar = []) ∨ ∃ a, st = some a ∧ a ≤ pos ∧ 0 < ar.length ∧ ar ++ runesS ((byL s).drop pos) = runesS ((byL s).drop a)) →
    ((Lib.closeSpans s (Lib.spansFromP blankN s f pos st acc)).map fun x => s.extract x.1 x.2).any (fun w => decide (lowS w = name)) = ((acc.map fun x => s.extract x.1 x.2).any (fun w => decide (lowS w = name)) || scanW name (runesS ((byL s).drop pos) ++ [32]) ar) := by
  have fin : ∀ (f pos : Nat) (st : Option Nat) (acc : List (Nat × Nat)) (ar : List Int), ¬ pos < s.size →
    ((st = none ∧ ar = []) ∨ ∃ a, st = some a ∧ a ≤ pos ∧ 0 < ar.length ∧ ar ++ runesS ((byL s).drop pos) = runesS ((byL s).drop a)) →
    ((Lib.closeSpans s (Lib.spansFromP blankN s f pos st acc)).map fun x => s.extract x.1 x.2).any (fun w => decide (lowS w = name)) = ((acc.map fun x => s.extract x.1 x.2).any (fun w => decide (lowS w = name)) || scanW name (runesS ((byL s).drop pos) ++ [32]) ar) := fun f pos st acc ar hp hi => by
    rw [Lib.spansFromP_end _ _ _ _ _ _ hp]
    have e : (byL s).drop pos = [] := List.drop_eq_nil_of_le (by rw [byL_length]; omega)
    rw [e] at hi ⊢
    rw [runesS_nil, List.nil_append, scanW, if_pos (by decide), scanW, Bool.or_false]
    rcases hi with ⟨rfl, rfl⟩ | ⟨a, rfl, ha, h0, hr⟩
    · simp [Lib.closeSpans]
    · have hx : runesIn (s.extract a s.size) = ar := by
        rw [runesIn_list, byL_extract, List.take_of_length_le (by rw [byL_length]; omega), ← hr, runesS_nil, List.append_nil]
      simp only [Lib.closeSpans, List.map_append, List.map_cons, List.map_nil, List.any_append, List.any_cons, List.any_nil, Bool.or_false]
      rw [lowS_eq, hx, decide_eq_true h0, Bool.true_and]
  intro f
  induction f with
  | zero => intro pos st acc ar hf hi; exact fin 0 pos st acc ar (by omega) hi
  | succ f ih =>
    intro pos st acc ar hf hi
    by_cases hp : pos < s.size
    · have hne : (byL s).drop pos ≠ [] := fun e => by
        have := List.drop_eq_nil_iff.1 e
        rw [byL_length] at this
        omega
      obtain ⟨b, tl, hbt⟩ := List.exists_cons_of_ne_nil hne
      have hw := decL_width (b :: tl)
      have ed : Utf8.decode s pos = decL (b :: tl) := by rw [decode_list, hbt]
      have er : runesS ((byL s).drop pos) = ((decL (b :: tl)).1 : Int) :: runesS ((byL s).drop (pos + (decL (b :: tl)).2)) := by rw [hbt, runesS_cons, ← hbt, List.drop_drop, hbt]
      have ebl : blankN (decL (b :: tl)).1 = isBl ((decL (b :: tl)).1 : Int) := rfl
      unfold Lib.spansFromP
      rw [if_pos hp, ed, ebl, er, List.cons_append, scanW]
      cases eb : isBl ((decL (b :: tl)).1 : Int) with
      | false =>
        rw [if_neg (by decide), if_neg (by decide)]
        rcases hi with ⟨rfl, rfl⟩ | ⟨a, rfl, ha, h0, hr⟩
        · exact ih _ (some pos) acc _ (by omega) (.inr ⟨pos, rfl, by omega, by simp, by rw [er]; rfl⟩)
        · exact ih _ (some a) acc _ (by omega) (.inr ⟨a, rfl, by omega, by simp, by rw [← hr, er]; simp⟩)
      | true =>
        rw [if_pos rfl, if_pos rfl]
        rcases hi with ⟨rfl, rfl⟩ | ⟨a, rfl, ha, h0, hr⟩
        · rw [show (decide (0 < ([] : List Int).length) && decide (textOf (([] : List Int).map lowR) = name)) = false from rfl, Bool.false_or]
          exact ih _ none acc [] (by omega) (.inl ⟨rfl, rfl⟩)
        · have hfresh : fresh ((byL s).drop pos) := by
            unfold fresh
            rw [hbt]
            cases ec : contL (b :: tl) 0 with
            | false => rfl
            | true => rw [cont_bad ec] at eb; cases eb
          have hx : runesIn (s.extract a pos) = ar := by
            have e1 : (byL s).drop a = ((byL s).take pos).drop a ++ (byL s).drop pos := by
              rw [← List.drop_append_of_le_length (by rw [List.length_take, byL_length]; omega), List.take_append_drop]
            rw [e1, runesS_append hfresh _ _ (Nat.le_refl _)] at hr
            rw [runesIn_list, byL_extract]
            exact (List.append_cancel_right hr).symm
          refine (ih _ none (acc ++ [(a, pos)]) [] (by omega) (.inl ⟨rfl, rfl⟩)).trans ?_
          simp only [List.map_append, List.map_cons, List.map_nil, List.any_append, List.any_cons, List.any_nil, Bool.or_false]
          rw [lowS_eq, hx, decide_eq_true h0, Bool.true_and, Bool.or_assoc]
    · exact fin _ pos st acc ar hp hi
theorem fields_word (s name : ByteArray) : ((Lib.goFieldsP blankN s).any fun w => decide (lowS w = name)) = scanW name (runesS (byL s) ++ [32]) [] := by
  unfold Lib.goFieldsP Lib.spansOfP
  rw [fields_scan s name s.size 0 none [] [] (by omega) (.inl ⟨rfl, rfl⟩), List.drop_zero]
  rfl
end Go.Proofs.YtmkcglpeidbblaaDoor
