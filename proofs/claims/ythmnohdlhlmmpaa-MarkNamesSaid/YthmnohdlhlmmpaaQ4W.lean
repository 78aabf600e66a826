/-
  Walks and laws of this seat; the base is the text Base.
-/
import Derived.Test.YthmnohdlhlmmpaaQ4U
import Derived.Test.YthmnohdlhlmmpaaQ4K
import Derived.Test.YthmnohdlhlmmpaaL4va
namespace Go.Proofs.Ythmnohdlhlmmpaa
open Go.RowKit Go.Sl
variable {n : Nat}

theorem dec_aux {C2 D2 C3 D3 C4 D4 : Prop} [Decidable C2] [Decidable D2] [Decidable C3] [Decidable D3] [Decidable C4] [Decidable D4] {b0 v2 v3 v4 : Nat} {p : Nat × Nat}
    (hp : p = if b0 < 128 then (b0, 1) else if C2 then (if D2 then (v2, 2) else (65533, 1)) else if C3 then (if D3 then (v3, 3) else (65533, 1)) else if C4 then (if D4 then (v4, 4) else (65533, 1)) else (65533, 1))
    (hb : ¬ (65 ≤ b0 ∧ b0 ≤ 90)) (h2 : D2 → 128 ≤ v2) (h3 : D3 → 128 ≤ v3) (h4 : D4 → 128 ≤ v4) : ¬ (65 ≤ p.1 ∧ p.1 ≤ 90) ∧ 1 ≤ p.2 := by
  have e : ¬ (65 ≤ 65533 ∧ 65533 ≤ 90) ∧ 1 ≤ 1 := by omega
  by_cases h0 : b0 < 128
  · rw [if_pos h0] at hp; subst hp; exact ⟨hb, Nat.le_refl _⟩
  rw [if_neg h0] at hp
  by_cases c2 : C2
  · rw [if_pos c2] at hp
    by_cases d2 : D2
    · rw [if_pos d2] at hp; subst hp; have := h2 d2; exact ⟨by simp only; omega, by simp⟩
    · rw [if_neg d2] at hp; subst hp; exact e
  rw [if_neg c2] at hp
  by_cases c3 : C3
  · rw [if_pos c3] at hp
    by_cases d3 : D3
    · rw [if_pos d3] at hp; subst hp; have := h3 d3; exact ⟨by simp only; omega, by simp⟩
    · rw [if_neg d3] at hp; subst hp; exact e
  rw [if_neg c3] at hp
  by_cases c4 : C4
  · rw [if_pos c4] at hp
    by_cases d4 : D4
    · rw [if_pos d4] at hp; subst hp; have := h4 d4; exact ⟨by simp only; omega, by simp⟩
    · rw [if_neg d4] at hp; subst hp; exact e
  · rw [if_neg c4] at hp; subst hp; exact e
theorem decode_names {s : ByteArray} (h : noUp s) {i : Nat} (hi : i < s.size) : ¬ (65 ≤ (Utf8.decode s i).1 ∧ (Utf8.decode s i).1 ≤ 90) ∧ 1 ≤ (Utf8.decode s i).2 := by
  have hb : ¬ (65 ≤ (s.get! (i + 0)).toNat ∧ (s.get! (i + 0)).toNat ≤ 90) := by
    refine h _ ?_
    have hi' : i < s.data.size := hi
    rw [Nat.add_zero, show s.get! i = s.data[i]! from rfl, getElem!_pos s.data i hi']
    exact Array.getElem_mem_toList hi'
  unfold Utf8.decode
  refine dec_aux rfl hb (fun h => h) (fun h => ?_) (fun h => ?_)
  · rw [Bool.and_eq_true, decide_eq_true_iff] at h; omega
  · rw [Bool.and_eq_true, decide_eq_true_iff] at h; omega

theorem names_l9 (tk : mark_Token) (i : Int) (lp : Int → Option Bool) {w : ByteArray} (hw : noUp w) : ∀ (d p k : Nat), w.size ≤ p + d → d + 1 ≤ k → law4_MarkNames_l9 n tk i lp w k p = law4_MarkNames_k6 n tk i lp
  | 0, p, k, hp, hk => by
    obtain ⟨k, rfl⟩ : ∃ i, k = i + 1 := ⟨k - 1, by omega⟩
    rw [law4_MarkNames_l9, dF (by omega)]
  | d + 1, p, k, hp, hk => by
    obtain ⟨k, rfl⟩ : ∃ i, k = i + 1 := ⟨k - 1, by omega⟩
    rw [law4_MarkNames_l9]
    by_cases h : p < w.size
    · obtain ⟨h1, h2⟩ := decode_names hw h
      have hc : ((decide (65 ≤ ((Utf8.decode w p).1 : Int))) && (decide (((Utf8.decode w p).1 : Int) ≤ 90))) = false := by
        rw [Bool.and_eq_false_iff, decide_eq_false_iff_not, decide_eq_false_iff_not]; omega
      rw [dT h, hc, cond_false]
      exact names_l9 tk i lp hw d _ k (by omega) (by omega)
    · rw [dF h]
theorem names_l8 (tk : mark_Token) (lp : Int → Option Bool) {i : Nat} (hi : i < tk.Attrs.length) (hi2 : i ≤ 1000) (hp : tk.Attrs.Pairwise fun a b => a.Name ≠ b.Name) : ∀ (d j k : Nat), j + d = i → d + 1 ≤ k → law4_MarkNames_l8 tk (i : Int) lp k (j : Int) = lp ((i + 1 : Nat) : Int)
  | 0, j, k, hj, hk => by
    obtain ⟨k, rfl⟩ : ∃ i, k = i + 1 := ⟨k - 1, by omega⟩
    rw [law4_MarkNames_l8, dF (by omega)]
    unfold law4_MarkNames_k7
    rw [w64_succ (by omega)]
  | d + 1, j, k, hj, hk => by
    obtain ⟨k, rfl⟩ : ∃ i, k = i + 1 := ⟨k - 1, by omega⟩
    have hne := List.pairwise_iff_getElem.1 hp j i (by omega) hi (by omega)
    rw [law4_MarkNames_l8, dT (by omega), geti_nat, List.getElem?_eq_getElem (by omega : j < tk.Attrs.length), Option.bind_some, geti_nat, List.getElem?_eq_getElem hi, Option.bind_some, dF hne, w64_succ (by omega)]
    exact names_l8 tk lp hi hi2 hp d (j + 1) k (by omega) (by omega)
theorem names_l5 (tk : mark_Token) (y : Nat) (lp : Int → Option Bool) (hy : y ≤ 1000000000) (hA : AttrsOK tk.Attrs) (hN : nmOK tk.Name) (hn : 20000000 ≤ n) : ∀ (d i k : Nat), i + d = tk.Attrs.length → d + 1 ≤ k → law4_MarkNames_l5 n (y : Int) lp tk k (i : Int) = lp ((y + 1 : Nat) : Int)
  | 0, i, k, hi, hk => by
    obtain ⟨k, rfl⟩ : ∃ i, k = i + 1 := ⟨k - 1, by omega⟩
    rw [law4_MarkNames_l5, dF (by omega)]
    unfold law4_MarkNames_k4 law4_MarkNames_k3
    rw [w64_succ (by omega)]
  | d + 1, i, k, hi, hk => by
    obtain ⟨k, rfl⟩ : ∃ i, k = i + 1 := ⟨k - 1, by omega⟩
    have hlt : i < tk.Attrs.length := by omega
    have hl := hA.1
    obtain ⟨a1, a2⟩ := hA.2.1 _ (List.getElem_mem hlt)
    have hadd : addS tk.Attrs[i].Name tk.Name = some (tk.Attrs[i].Name ++ tk.Name) := by
      have := hN.2
      simp only [addS]
      rw [decide_eq_true (by omega)]; rfl
    rw [law4_MarkNames_l5, dT (by omega), geti_nat, List.getElem?_eq_getElem hlt, Option.bind_some, hadd, Option.bind_some]
    rw [names_l9 tk (i : Int) _ (noUp_append a1 hN.1) (tk.Attrs[i].Name ++ tk.Name).size 0 n (by omega) (by have := hN.2; rw [ByteArray.size_append]; omega)]
    unfold law4_MarkNames_k6
    have h8 := names_l8 tk (law4_MarkNames_l5 n (y : Int) lp tk k) hlt (by omega) hA.2.2 i 0 n (by omega) (by omega)
    rw [show ((0 : Nat) : Int) = 0 from rfl] at h8
    rw [h8]
    exact names_l5 tk y lp hy hA hN hn d (i + 1) k (by omega) (by omega)
theorem names_l2 (ts : List mark_Token) (hts : ∀ t ∈ ts, TokOK t) (hl : ts.length ≤ 1000000) (hn : 20000000 ≤ n) (hkn : law4_known n = some true) : ∀ (d i k : Nat), i + d = ts.length → d + 1 ≤ k → law4_MarkNames_l2 n ts k (i : Int) = some true
  | 0, i, k, hi, hk => by
    obtain ⟨k, rfl⟩ : ∃ i, k = i + 1 := ⟨k - 1, by omega⟩
    rw [law4_MarkNames_l2, dF (by omega)]
    unfold law4_MarkNames_k1
    rw [hkn]; rfl
  | d + 1, i, k, hi, hk => by
    obtain ⟨k, rfl⟩ : ∃ i, k = i + 1 := ⟨k - 1, by omega⟩
    have hlt : i < ts.length := by omega
    have ih := names_l2 ts hts hl hn hkn d (i + 1) k (by omega) (by omega)
    rw [law4_MarkNames_l2, dT (by omega), geti_nat, List.getElem?_eq_getElem hlt, Option.bind_some]
    rcases hts _ (List.getElem_mem hlt) with ⟨h1, h2, h3, h4, h5⟩ | ⟨h1, h2, h3, h4, h5, h6⟩
    · rw [dT h1, decide_eq_false h2, h3, h4, h5]
      unfold law4_MarkNames_k3
      rw [w64_succ (by omega)]
      exact ih
    · have hk1 : ¬ ts[i].Kind = 1 := by omega
      rw [dF hk1, decide_eq_false h2, h4]
      have hl5 := names_l5 ts[i] i (law4_MarkNames_l2 n ts k) (by omega) h5 h3 hn ts[i].Attrs.length 0 n (by omega) (by have := h5.1; omega)
      rw [show ((0 : Nat) : Int) = 0 from rfl] at hl5
      have h64 : decide ((64 : Int) < (ts[i].Attrs.length : Int)) = false := decide_eq_false (by have := h5.1; omega)
      rw [h64]
      rcases h1 with h1 | h1
      · rw [h1]
        exact hl5.trans ih
      · obtain ⟨h7, h8⟩ := h6 h1
        rw [h1, h8]
        rw [h7]
        exact hl5.trans ih
theorem tokS_len : ∀ (k : Nat) (r : List Int), (tokS k r).length ≤ 2 * k
  | 0, _ => by simp [tokS]
  | _ + 1, [] => by simp [tokS]
  | k + 1, x :: r => by
    rw [tokS]
    cases beginsB (x :: r) with
    | false => have := tokS_len k (textRun (x :: r)).2; simp only [Bool.not_false, cond_true, List.length_cons]; omega
    | true =>
      rw [Bool.not_true, cond_false]
      cases letterB (r[0]?.getD 0) with
      | true =>
        rw [cond_true]
        cases tagS r with
        | none => simp
        | some q =>
          simp only [List.length_cons]
          cases isRawB (tagN r) with
          | true =>
            have := tokS_len k (q.2.2.drop (rawS (tagN r) q.2.2))
            rw [cond_true, List.length_append]
            split <;> simp <;> omega
          | false => have := tokS_len k q.2.2; rw [cond_false]; omega
      | false =>
        rw [cond_false]
        cases decide (r[0]?.getD 0 = 47) && letterB (r.tail[0]?.getD 0) with
        | true =>
          rw [cond_true]
          cases tagS r.tail with
          | none => simp
          | some q => have := tokS_len k q.2.2; simp only [List.length_cons]; omega
        | false =>
          rw [cond_false]
          cases ([60, 33, 45, 45] : List Int).isPrefixOf (x :: r) with
          | true => have := tokS_len k (skipS [45, 45, 62] ((x :: r).drop 4)); rw [cond_true]; omega
          | false => have := tokS_len k (skipS [62] (x :: r)); rw [cond_false]; omega
theorem few_runes (n : Nat) (l : List Int) (m : Nat) : keep_FewRunes n l (m : Int) = some (l.take m) := by
  unfold keep_FewRunes
  by_cases h : m < l.length
  · rw [dT (by omega)]
    have h2 : (m : Int) ≤ l.length := by omega
    simp [cutM, h2]
  · rw [dF (by omega), List.take_of_length_le (by omega)]
theorem law4_MarkNames_true {l : List Int} (_ : Ssl 4 (Sint .i32) l) : ∃ fuel, law4_MarkNames fuel l = some true := by
  refine ⟨20000000 + 60, ?_⟩
  unfold law4_MarkNames
  have h := few_runes (20000000 + 60) l 2000
  rw [show ((2000 : Nat) : Int) = 2000 from rfl] at h
  have hl : (l.take 2000).length ≤ 2000 := by rw [List.length_take]; omega
  rw [h, Option.bind_some, mark_Tokens_eq _ (by omega) (by omega), Option.bind_some]
  have ht := tokS_len ((l.take 2000).length + 1) (l.take 2000)
  exact names_l2 _ (tokS_ok _ _ (by omega)) (by omega) (by omega) (known_true 20000000) (tokS ((l.take 2000).length + 1) (l.take 2000)).length 0 _ (by omega) (by omega)
end Go.Proofs.Ythmnohdlhlmmpaa
