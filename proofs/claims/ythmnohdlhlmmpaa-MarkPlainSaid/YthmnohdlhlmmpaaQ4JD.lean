/-
  Walks and laws of this seat; the base is the text Base.
-/
import Derived.Test.YthmnohdlhlmmpaaQ4JB
import Derived.Test.YthmnohdlhlmmpaaQ4H
import Derived.Test.YthmnohdlhlmmpaaL4vp
namespace Go.Proofs.Ythmnohdlhlmmpaa
open Go.RowKit Go.Sl
variable {n : Nat}
theorem un_plain : ∀ (k : Nat) (l : List UInt8), l.length ≤ k → (38 : UInt8) ∉ l → un k l = l
  | k, [], _, _ => un_none k
  | 0, _ :: _, h, _ => by simp at h
  | k + 1, b :: l, h, h2 => by
    simp only [List.length_cons] at h
    unfold un
    rw [if_neg (fun e => h2 (by rw [e]; simp)), un_plain k l (by omega) (fun e => h2 (List.mem_cons_of_mem _ e))]
theorem ub_plain {l : List UInt8} (h : (38 : UInt8) ∉ l) : ub (bs l) = bs l := by
  unfold ub
  rw [un_plain _ l (by rw [bs_size]; exact Nat.le_refl _) h]
theorem no_amp {l : List UInt8} (h : ∀ x ∈ runesIn (bs l), x ≠ 38) : (38 : UInt8) ∉ l := fun hm => by
  obtain ⟨a, t, rfl⟩ := List.append_of_mem hm
  rw [runes_between (by decide)] at h
  exact h 38 (by simp) rfl
theorem begins_ne {x : Int} (h : x ≠ 60) (r : List Int) : beginsB (x :: r) = false := by
  unfold beginsB
  split
  · rename_i e; injection e with e _; exact absurd e h
  · rfl
theorem textRun_plain : ∀ (xs r : List Int), (∀ x ∈ xs, x ≠ 60) → textRun (xs ++ r) = (xs ++ (textRun r).1, (textRun r).2)
  | [], r, _ => rfl
  | x :: xs, r, h => by
    rw [List.cons_append, textRun, begins_ne (h x (by simp)), cond_false, textRun_plain xs r fun y hy => h y (by simp [hy])]
    rfl
theorem tokS_text {x : Int} {xs r : List Int} (k : Nat) (h : ∀ y ∈ x :: xs, y ≠ 60) (hr : textRun r = ([], r)) : tokS (k + 1) (x :: xs ++ r) = textTok (ub (textOf (x :: xs))) :: tokS k r := by
  rw [List.cons_append, tokS, begins_ne (h x (by simp)), Bool.not_false, cond_true, ← List.cons_append, textRun_plain _ _ h, hr, List.append_nil]
theorem plain_l4 (s : ByteArray) (hkn : law4_known n = some true) : ∀ (d i k : Nat), s.size - i ≤ d → d + 1 ≤ k →
    law4_MarkPlain_l4 n s k i = some true ∨ ((∀ x ∈ runesFr s d i, x ≠ 60 ∧ x ≠ 38 ∧ x ≠ 65533) ∧ law4_MarkPlain_l4 n s k i = law4_MarkPlain_k1 n s)
  | 0, i, k, hd, hk => by
    obtain ⟨k, rfl⟩ : ∃ i, k = i + 1 := ⟨k - 1, by omega⟩
    refine .inr ⟨by simp [runesFr], ?_⟩
    rw [law4_MarkPlain_l4, dF (by omega)]
  | d + 1, i, k, hd, hk => by
    obtain ⟨k, rfl⟩ : ∃ i, k = i + 1 := ⟨k - 1, by omega⟩
    rw [law4_MarkPlain_l4]
    by_cases h : i < s.size
    · rw [dT h]
      have hw : 1 ≤ (Utf8.decode s i).2 := by rw [decode_list]; exact decL_width _
      cases hc : ((decide (((Utf8.decode s i).1 : Int) = 60)) || ((decide (((Utf8.decode s i).1 : Int) = 38)) || (decide (((Utf8.decode s i).1 : Int) = 65533)))) with
      | true => rw [cond_true, hkn]; exact .inl rfl
      | false =>
        simp only [Bool.or_eq_false_iff, decide_eq_false_iff_not] at hc
        rw [cond_false]
        rcases plain_l4 s hkn d (i + (Utf8.decode s i).2) k (by omega) (by omega) with h1 | ⟨h1, h2⟩
        · exact .inl h1
        · refine .inr ⟨?_, h2⟩
          rw [runesFr, if_pos h]
          intro x hx
          rcases List.mem_cons.1 hx with rfl | hx
          · exact hc
          · exact h1 x hx
    · rw [dF h]
      refine .inr ⟨?_, rfl⟩
      rw [runesFr, if_neg h]
      simp
theorem tokens_one (ts : List mark_Token) (h : ∀ t ∈ ts, t.Attrs = []) (hl : ts.length ≤ 1000) (hn : 2000 ≤ n) : law4_tokens n ts (ts.map rt) = some true :=
  tokens_true ts (fun t ht => by rw [h t ht]; exact ⟨by simp, by simp; omega⟩) (by omega) (by omega)
theorem law4_MarkPlain_true {s : ByteArray} (_ : Sstr s) : ∃ fuel, law4_MarkPlain fuel s = some true := by
  refine ⟨20000000 + 60, ?_⟩
  rw [bs_data s]
  generalize s.data.toList = l
  unfold law4_MarkPlain
  have h := keep_Few_bs (20000000 + 60) l 1000
  rw [show ((1000 : Nat) : Int) = 1000 from rfl] at h
  have hl : (l.take 1000).length ≤ 1000 := by rw [List.length_take]; omega
  rw [h, Option.bind_some]
  generalize l.take 1000 = l at hl ⊢
  have hkn : law4_known (20000000 + 60) = some true := known_true 20000000
  have hn : 20000000 ≤ 20000000 + 60 := by omega
  generalize 20000000 + 60 = n at hkn hn ⊢
  rcases plain_l4 (n := n) (bs l) hkn (bs l).size 0 n (by omega) (by rw [bs_size]; omega) with h1 | ⟨h1, h2⟩
  · exact h1
  rw [h2]
  have h1 : ∀ x ∈ runesIn (bs l), x ≠ 60 ∧ x ≠ 38 ∧ x ≠ 65533 := h1
  have h38 := no_amp fun x hx => (h1 x hx).2.1
  have htx := textOf_runesIn fun x hx => (h1 x hx).2.2
  have h60 : ∀ x ∈ runesIn (bs l), x ≠ 60 := fun x hx => (h1 x hx).1
  have hub := ub_plain h38
  have hrl := runes_len l
  unfold law4_MarkPlain_k1
  by_cases hne : l = []
  · subst hne
    rw [dT rfl]
    have hc : law4_cut n (bs []) [] = some true := by
      unfold law4_cut
      have : runesIn (bs []) = [] := List.length_eq_zero_iff.1 (by simpa using hrl)
      rw [runesM_bs (by simp), Option.bind_some, this, mark_Tokens_eq _ (by simp) (by simp; omega), Option.bind_some]
      have := tokens_one (n := n) [] (by simp) (by simp) (by omega)
      rw [show tokS (([] : List Int).length + 1) [] = [] from rfl]
      rw [List.map_nil] at this
      rw [this]; rfl
    rw [hc, Option.bind_some, cond_true, hkn]; rfl
  · rw [dF (fun e => hne (bs_inj.1 e))]
    obtain ⟨x, xs, hxs⟩ : ∃ x xs, runesIn (bs l) = x :: xs := by
      cases e : runesIn (bs l) with
      | nil =>
        rw [e] at htx
        exact absurd (bs_inj.1 (show bs [] = bs l from htx)).symm hne
      | cons x xs => exact ⟨x, xs, rfl⟩
    rw [hxs] at h60 htx hrl
    simp only [List.length_cons] at hrl
    have c1 : law4_cut n (bs l) [rt (textTok (bs l))] = some true := by
      unfold law4_cut
      rw [runesM_bs (by omega), Option.bind_some, hxs, mark_Tokens_eq _ (by simp; omega) (by simp; omega), Option.bind_some]
      have ht := tokS_text (x :: xs).length h60 (r := []) rfl
      rw [List.append_nil, htx, hub] at ht
      rw [ht]
      have := tokens_one (n := n) [textTok (bs l)] (by simp [textTok]) (by simp) (by omega)
      rw [show tokS (x :: xs).length [] = [] from by cases xs <;> rfl]
      rw [show List.map rt [textTok (bs l)] = [rt (textTok (bs l))] from rfl] at this
      rw [this]; rfl
    have hsm : smallL [98] = bs [98] := by decide +kernel
    have c2 : law4_cut n (bs ([60, 98, 62] ++ l ++ [60, 47, 98, 62])) [rt (tagTok 2 (bs [98]) [] false), rt (textTok (bs l)), rt (tagTok 3 (bs [98]) [] false)] = some true := by
      unfold law4_cut
      have hrun : runesIn (bs ([60, 98, 62] ++ l ++ [60, 47, 98, 62])) = 60 :: 98 :: 62 :: (x :: xs ++ [60, 47, 98, 62]) := by
        have e2 : runesIn (bs (l ++ [60, 47, 98, 62])) = x :: xs ++ [60, 47, 98, 62] := by
          rw [runes_between (by decide), hxs]; rfl
        simp only [List.cons_append, List.nil_append]
        rw [runes_cons (by decide), runes_cons (by decide), runes_cons (by decide), e2]; rfl
      rw [runesM_bs (by simp; omega), Option.bind_some, hrun, mark_Tokens_eq _ (by simp; omega) (by simp; omega), Option.bind_some]
      have ht1 := tokS_open (x := 98) (by decide) (by decide) (by rw [hsm]; decide) (60 :: 98 :: 62 :: (x :: xs ++ [60, 47, 98, 62])).length (x :: xs ++ [60, 47, 98, 62])
      rw [hsm] at ht1
      have ht2 := tokS_text (60 :: 98 :: (x :: xs ++ [60, 47, 98, 62])).length h60 (r := [60, 47, 98, 62]) (by decide)
      rw [htx, hub] at ht2
      have ht3 : tokS (60 :: 98 :: (x :: xs ++ [60, 47, 98, 62])).length [60, 47, 98, 62] = [tagTok 3 (bs [98]) [] false] := by
        rw [tokS_fuel _ 5 [60, 47, 98, 62] (by simp) (by simp)]
        rw [tokS]
        have hb : beginsB [60, 47, 98, 62] = true := by decide
        rw [hb, Bool.not_true, cond_false]
        simp only [List.getElem?_cons_zero, Option.getD_some, List.tail_cons]
        rw [show letterB 47 = false from by decide, cond_false, decide_true, Bool.true_and, show letterB 98 = true from by decide, cond_true]
        obtain ⟨e1, e2⟩ := tagS_one (x := 98) (by decide) []
        rw [e1]
        simp only
        rw [e2, hsm]; rfl
      rw [ht1, show (60 :: 98 :: 62 :: (x :: xs ++ [60, 47, 98, 62])).length = (60 :: 98 :: (x :: xs ++ [60, 47, 98, 62])).length + 1 from rfl, ht2, ht3]
      have := tokens_one (n := n) [tagTok 2 (bs [98]) [] false, textTok (bs l), tagTok 3 (bs [98]) [] false] (by
        intro t ht
        simp only [List.mem_cons, List.mem_nil_iff, or_false] at ht
        rcases ht with rfl | rfl | rfl <;> rfl) (by simp) (by omega)
      rw [show ∀ a b c : mark_Token, List.map rt [a, b, c] = [rt a, rt b, rt c] from fun _ _ _ => rfl] at this
      rw [this]; rfl
    rw [show law4_chars n (bs l) = some (rt (textTok (bs l))) from rfl, Option.bind_some, c1, Option.bind_some, cond_true, addS_bs (by simp; omega), Option.bind_some, addS_bs (by simp; omega), Option.bind_some]
    rw [show law4_open n (bs [98]) false [] = some (rt (tagTok 2 (bs [98]) [] false)) from rfl, Option.bind_some, Option.bind_some, show law4_shut n (bs [98]) = some (rt (tagTok 3 (bs [98]) [] false)) from rfl, Option.bind_some, c2, Option.bind_some, cond_true, mark_ub (by rw [bs_size]; omega) (by rw [bs_size]; omega), Option.bind_some, hub, dT rfl, hkn]
    rfl
end Go.Proofs.Ythmnohdlhlmmpaa
