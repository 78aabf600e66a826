/-
  Walks and laws of this seat; the base is the text Base.
-/
import Derived.Test.YthmnohdlhlmmpaaQ4ZC
namespace Go.Proofs.Ythmnohdlhlmmpaa
open Go.RowKit Go.Sl
variable {n : Nat} {pre r : List Int}
theorem geti_at {L pre mid : List Int} {y : Int} {r : List Int} (h : L = pre ++ (mid ++ y :: r)) : geti L ((pre.length + mid.length : Nat) : Int) = some y := by
  rw [h, at_pre, List.getElem?_append_right (Nat.le_refl _), Nat.sub_self, List.getElem?_cons_zero]
theorem ref_raw (nm : ByteArray) (hs : nm.size ≤ 1000) (hn : 4 * (pre.length + r.length) + 2000 ≤ n) (hb : pre.length + r.length ≤ 1000000) : ref4_raw n (pre ++ r) (pre.length : Int) nm = some ((pre.length + rawS nm r : Nat) : Int) := by
  unfold ref4_raw
  refine scan (L := pre ++ r) (by simp; omega) (F := ref4_raw_l2 n (pre ++ r) nm) (G := ref4_raw_k1) (q := fun l => !rawAt nm l) (c := rawS nm) rfl ?_ ?_ ?_ r pre n rfl (by omega)
  · intro x r'
    rw [rawS]
    cases rawAt nm (x :: r') <;> rfl
  · intro k
    rw [ref4_raw_l2, dF (by omega)]
  · intro k p x r' hl
    have hlen := congrArg List.length hl
    simp only [List.length_append, List.length_cons] at hlen
    rw [hl, ref4_raw_l2, dT (by simp; omega), ref_is (s := [60, 47]) (by simp only [List.length_cons]; omega) (by decide) (by simp only [List.length_cons, List.length_nil]; omega), Option.bind_some]
    have k3 : ∀ b, ref4_raw_k3 (p.length : Int) (ref4_raw_l2 n (p ++ x :: r') nm k) b = bif !b then ref4_raw_l2 n (p ++ x :: r') nm k (w64 ((p.length : Int) + 1)) else ref4_raw_k1 (p.length : Int) := fun b => by
      unfold ref4_raw_k3 ref4_raw_k1
      cases b <;> rfl
    rw [k3, k3]
    unfold rawAt
    show (bif ([60, 47] : List Int).isPrefixOf (x :: r') then _ else _) = _
    cases hp : ([60, 47] : List Int).isPrefixOf (x :: r') with
    | false => rfl
    | true =>
      obtain ⟨t, ht⟩ := List.isPrefixOf_iff_prefix.1 hp
      simp only [List.cons_append, List.nil_append] at ht
      rw [← ht] at hl ⊢
      have htl := congrArg List.length ht
      simp only [List.length_cons] at htl
      rw [cond_true, Bool.true_and, w64_id (i := (p.length : Int) + 2) (by omega), w64_id (by omega), show (p.length : Int) + 2 + (nm.size : Int) = ((p.length + (2 + nm.size) : Nat) : Int) by omega]
      by_cases hsz : nm.size ≤ t.length
      · rw [dT (by simp; omega), decide_eq_true (show 2 + nm.size ≤ (60 :: 47 :: t).length by simp only [List.length_cons]; omega), Bool.true_and]
        have hd2 : (60 :: 47 :: t).drop 2 = t := rfl
        have hd3 : (60 :: 47 :: t).drop (2 + nm.size) = t.drop nm.size := by rw [← List.drop_drop, hd2]
        rw [hd2, hd3]
        have htk : (t.take nm.size).length = nm.size := by rw [List.length_take]; omega
        have hcat : t.take nm.size ++ t.drop nm.size = t := List.take_append_drop _ _
        generalize t.take nm.size = a at htk hcat ⊢
        generalize t.drop nm.size = b at hcat ⊢
        subst hcat
        have hcut := cutM_mid (p ++ [60, 47]) a b
        simp only [List.append_assoc, List.cons_append, List.nil_append, List.length_append, List.length_cons, List.length_nil, Nat.zero_add, Nat.reduceAdd] at hcut
        rw [htk] at hcut
        rw [show (p.length : Int) + 2 = ((p.length + 2 : Nat) : Int) by omega, show p.length + (2 + nm.size) = p.length + 2 + nm.size by omega, hcut, Option.bind_some, ref_small _ (by omega) (by omega), Option.bind_some]
        cases hnm : decide (smallL a = nm) with
        | false => rfl
        | true =>
          rw [cond_true, Bool.true_and]
          cases b with
          | nil => rw [dT (by simp; omega)]; rfl
          | cons y b =>
            have hg : geti (p ++ 60 :: 47 :: (a ++ y :: b)) ((p.length + 2 + nm.size : Nat) : Int) = some y := by
              have := geti_at (L := p ++ 60 :: 47 :: (a ++ y :: b)) (pre := p ++ [60, 47]) (mid := a) (y := y) (r := b) (by simp)
              rwa [List.length_append, htk] at this
            rw [dF (by simp; omega), hg, Option.bind_some, ref_blank, Option.bind_some, Option.bind_some, Option.bind_some]
            unfold afterB
            simp only
            cases blankB y <;> cases decide (y = 47) <;> cases decide (y = 62) <;> rfl
      · rw [dF (by simp; omega), decide_eq_false (show ¬ 2 + nm.size ≤ (60 :: 47 :: t).length by simp only [List.length_cons]; omega)]; rfl
/-- A token of the reference's. -/
def rt (t : mark_Token) : ref4_Token := { Kind := t.Kind, Name := t.Name, Text := t.Text, Attrs := t.Attrs, Closed := t.Closed }
theorem appR {xs : List ref4_Token} {y : ref4_Token} (h : xs.length ≤ 1000000) : appM 72 xs [y] = some (xs ++ [y]) := appM_eq (by simp; omega)
theorem ref_tokens_g : ∀ (m : Nat) (r pre : List Int) (out : List ref4_Token) (k : Nat), r.length ≤ m → m + 2 ≤ k → 4 * (pre.length + r.length) + 2000 ≤ n → pre.length + r.length ≤ 100000 → out.length + 3 * r.length ≤ 1000000 →
    ref4_Tokens_l2 n (pre ++ r) k out (pre.length : Int) = some (out ++ (tokS (m + 1) r).map rt)
  | m, [], pre, out, k, hm, hk, hn, hb, ho => by
    obtain ⟨k, rfl⟩ : ∃ i, k = i + 1 := ⟨k - 1, by omega⟩
    rw [ref4_Tokens_l2, dF (by simp)]
    simp [tokS, ref4_Tokens_k1]
  | 0, x :: r, _, _, _, hm, _, _, _, _ => by simp at hm
  | m + 1, x :: r, pre, out, k, hm, hk, hn, hb, ho => by
    obtain ⟨k, rfl⟩ : ∃ i, k = i + 2 := ⟨k - 2, by omega⟩
    have hn' := hn
    have hb' := hb
    simp only [List.length_cons] at hm hn hb ho
    have fin : ∀ o : List ref4_Token, ref4_Tokens_l2 n (pre ++ x :: r) (k + 1) o ((pre ++ x :: r).length : Int) = some o := fun o => by
      rw [ref4_Tokens_l2, dF (by omega)]; rfl
    rw [ref4_Tokens_l2, dT (by simp; omega), ref_begins (by omega), Option.bind_some]
    rw [tokS]
    cases hbg : beginsB (x :: r) with
    | false =>
      rw [Bool.not_false, cond_true, cond_true]
      have e := scan (L := pre ++ x :: r) (by simp; omega) (F := ref4_Tokens_l5 n (pre ++ x :: r) out (pre.length : Int) (ref4_Tokens_l2 n (pre ++ x :: r) (k + 1))) (G := ref4_Tokens_k4 n (pre ++ x :: r) out (pre.length : Int) (ref4_Tokens_l2 n (pre ++ x :: r) (k + 1))) (q := fun l => !beginsB l) (c := fun l => (textRun l).1.length) rfl
        (fun y r' => by
          show (textRun (y :: r')).1.length = _
          rw [textRun]
          cases beginsB (y :: r') <;> rfl)
        (fun k' => by rw [ref4_Tokens_l5, dF (by omega)]; rfl)
        (fun k' p y r' hl => by
          have hlen := congrArg List.length hl
          simp only [List.length_append, List.length_cons] at hlen
          have g : ref4_begins n (pre ++ x :: r) (p.length : Int) = some (beginsB (y :: r')) := by rw [hl, ref_begins (by omega)]
          rw [ref4_Tokens_l5, dT (by rw [hl]; simp; omega), g, Option.bind_some]
          rfl) (x :: r) pre n rfl (by simp only [List.length_cons]; omega)
      rw [e]
      have h1 := textRun_some hbg
      have h2 := textRun_len (r := x :: r)
      have h3 := textOf_size (textRun (x :: r)).1
      have hcat := textRun_cat (x :: r)
      simp only [List.length_cons] at h2
      generalize (textRun (x :: r)).1 = a at h1 h2 h3 hcat ⊢
      generalize (textRun (x :: r)).2 = b at h2 hcat ⊢
      rw [← hcat]
      unfold ref4_Tokens_k4 ref4_Tokens_k3
      rw [cutM_mid, Option.bind_some, ref_ub (by omega) (by omega), Option.bind_some, appR (by omega), Option.bind_some]
      have ih := ref_tokens_g m b (pre ++ a) (out ++ [rt (textTok (ub (textOf a)))]) (k + 1) (by omega) (by omega) (by simp; omega) (by simp; omega) (by simp; omega)
      rw [List.append_assoc, List.length_append] at ih
      rw [List.append_assoc] at ih
      exact ih
    | true =>
      have hx := begins_head hbg
      subst hx
      rw [Bool.not_true, cond_false, cond_false]
      obtain ⟨y, r, rfl⟩ : ∃ y r', r = y :: r' := by
        cases r with
        | nil => cases hbg
        | cons y r => exact ⟨y, r, rfl⟩
      simp only [List.length_cons] at hm hn hb ho hn' hb'
      have hL1 : pre ++ 60 :: y :: r = (pre ++ [60]) ++ y :: r := by simp
      have g1 : geti (pre ++ 60 :: y :: r) ((pre.length + 1 : Nat) : Int) = some y := geti_at (mid := [60]) rfl
      rw [w64_succ (by omega), g1, Option.bind_some, show ref4_letter n y = some (letterB y) from rfl, Option.bind_some, Option.bind_some]
      simp only [List.getElem?_cons_zero, Option.getD_some, List.tail_cons]
      cases hlt : letterB y with
      | true =>
        rw [cond_true, cond_true]
        have ht := ref_tag (n := n) (pre := pre ++ [60]) (r := y :: r) (by simp; omega) (by simp; omega)
        rw [← hL1, List.length_append, List.length_singleton] at ht
        cases htg : tagS (y :: r) with
        | none =>
          rw [htg] at ht
          obtain ⟨t, e⟩ := ht
          rw [e, Option.bind_some]
          simp only [Bool.not_false, cond_true]
          unfold ref4_Tokens_k3
          rw [fin]
          simp
        | some q =>
          rw [htg] at ht
          obtain ⟨pre', h1, e⟩ := ht
          have hl := tagS_len htg
          have hcl := congrArg List.length h1
          simp only [List.length_append, List.length_cons] at hcl hl
          rw [e, Option.bind_some]
          simp only [Bool.not_true, cond_false]
          rw [appR (by omega), Option.bind_some]
          show (bif isRawB (tagN (y :: r)) then _ else _) = _
          rw [← h1]
          cases hraw : isRawB (tagN (y :: r)) with
          | true =>
            obtain ⟨s1, s2⟩ := raw_name hraw
            have hle := rawS_le (tagN (y :: r)) q.2.2
            rw [cond_true, cond_true, ref_raw (tagN (y :: r)) s1 (by omega) (by omega), Option.bind_some]
            have hcat := List.take_append_drop (rawS (tagN (y :: r)) q.2.2) q.2.2
            have htl : (q.2.2.take (rawS (tagN (y :: r)) q.2.2)).length = rawS (tagN (y :: r)) q.2.2 := by rw [List.length_take]; omega
            have ih := ref_tokens_g m (q.2.2.drop (rawS (tagN (y :: r)) q.2.2)) (pre' ++ q.2.2.take (rawS (tagN (y :: r)) q.2.2)) (out ++ [rt (tagTok 2 (tagN (y :: r)) q.1 q.2.1)] ++ (if rawS (tagN (y :: r)) q.2.2 = 0 then [] else [textTok (textOf (q.2.2.take (rawS (tagN (y :: r)) q.2.2)))]).map rt) (k + 1) (by simp; omega) (by omega) (by rw [List.length_append, htl, List.length_drop]; omega) (by rw [List.length_append, htl, List.length_drop]; omega) (by rw [List.length_append, List.length_drop]; split <;> simp <;> omega)
            rw [List.append_assoc, hcat, List.length_append, htl] at ih
            rw [List.map_cons, List.map_append]
            have hcut := cutM_mid pre' (q.2.2.take (rawS (tagN (y :: r)) q.2.2)) (q.2.2.drop (rawS (tagN (y :: r)) q.2.2))
            rw [hcat, htl] at hcut
            unfold ref4_Tokens_k8 ref4_Tokens_k7 ref4_Tokens_k3
            by_cases h0 : rawS (tagN (y :: r)) q.2.2 = 0
            · rw [dF (by omega)]
              rw [if_pos h0] at ih ⊢
              simp only [List.map_nil, List.append_nil, List.nil_append, List.append_assoc, List.singleton_append] at ih ⊢
              exact ih
            · rw [dT (by omega), hcut, Option.bind_some, appR (by simp; omega), Option.bind_some]
              rw [if_neg h0] at ih ⊢
              simp only [List.map_cons, List.map_nil, List.append_assoc, List.singleton_append] at ih ⊢
              exact ih
          | false =>
            rw [cond_false, cond_false]
            unfold ref4_Tokens_k7 ref4_Tokens_k3
            have ih := ref_tokens_g m q.2.2 pre' (out ++ [rt (tagTok 2 (tagN (y :: r)) q.1 q.2.1)]) (k + 1) (by omega) (by omega) (by omega) (by omega) (by simp; omega)
            rw [List.append_assoc] at ih
            exact ih
      | false =>
        rw [cond_false, cond_false]
        have rest : (ref4_Tokens_k9 n (pre ++ 60 :: y :: r) out (pre.length : Int) (ref4_Tokens_l2 n (pre ++ 60 :: y :: r) (k + 1)) false) = some (out ++ (bif ([60, 33, 45, 45] : List Int).isPrefixOf (60 :: y :: r) then tokS (m + 1) (skipS [45, 45, 62] ((60 :: y :: r).drop 4)) else tokS (m + 1) (skipS [62] (60 :: y :: r))).map rt) := by
          unfold ref4_Tokens_k9
          rw [cond_false, ref_is (s := [60, 33, 45, 45]) (by simp; omega) (by decide) (by simp; omega), Option.bind_some]
          show (bif ([60, 33, 45, 45] : List Int).isPrefixOf (60 :: y :: r) then _ else _) = _
          unfold ref4_Tokens_k3
          cases hc : ([60, 33, 45, 45] : List Int).isPrefixOf (60 :: y :: r) with
          | true =>
            obtain ⟨t, ht⟩ := List.isPrefixOf_iff_prefix.1 hc
            simp only [List.cons_append, List.nil_append] at ht
            have htl := congrArg List.length ht
            simp only [List.length_cons] at htl
            obtain ⟨pre', h1, h2⟩ := ref_behind (n := n) (s := [45, 45, 62]) (xs := [45, 45, 62]) rfl (by decide) (by simp; omega) t (pre ++ [60, 33, 45, 45]) n (by simp; omega) (by omega)
            have hsl := skipS_len [45, 45, 62] t
            have hcl := congrArg List.length h1
            simp only [List.length_append, List.length_cons, List.length_nil] at hcl
            simp only [List.append_assoc, List.cons_append, List.nil_append, List.length_append, List.length_cons, List.length_nil, Nat.zero_add, Nat.reduceAdd] at h1 h2
            rw [cond_true, cond_true, ← ht, w64_id (by omega), show (pre.length : Int) + 4 = ((pre.length + 4 : Nat) : Int) by omega]
            unfold ref4_behind
            rw [h2, Option.bind_some, ← h1]
            exact ref_tokens_g m _ pre' out (k + 1) (by omega) (by omega) (by omega) (by omega) (by omega)
          | false =>
            obtain ⟨pre', h1, h2⟩ := ref_behind (n := n) (s := [62]) (xs := [62]) rfl (by decide) (by simp; omega) (60 :: y :: r) pre n (by simp; omega) (by simp; omega)
            have hsk : skipS [62] (60 :: y :: r) = skipS [62] (y :: r) := by
              rw [skipS, show ([62] : List Int).isPrefixOf (60 :: y :: r) = false from by simp [List.isPrefixOf], cond_false]
            have hsl := skipS_len [62] (y :: r)
            have hcl := congrArg List.length h1
            simp only [List.length_append, List.length_cons] at hcl hsl
            unfold ref4_behind
            rw [cond_false, cond_false, h2, Option.bind_some]
            rw [hsk] at hcl h1 ⊢
            rw [← h1]
            exact ref_tokens_g m _ pre' out (k + 1) (by omega) (by omega) (by omega) (by omega) (by omega)
        by_cases h47 : y = 47
        · subst h47
          rw [dT rfl, decide_eq_true rfl, Bool.true_and]
          cases r with
          | nil =>
            rw [w64_id (by omega), dF (by simp)]
            have : letterB ((([] : List Int)[0]?).getD 0) = false := rfl
            rw [this, cond_false]
            exact rest
          | cons z r =>
            have g2 : geti (pre ++ 60 :: 47 :: z :: r) ((pre.length + 2 : Nat) : Int) = some z := geti_at (mid := [60, 47]) rfl
            have hL2 : pre ++ 60 :: 47 :: z :: r = (pre ++ [60, 47]) ++ z :: r := by simp
            simp only [List.length_cons] at hm hn hb ho
            rw [w64_id (by omega), dT (by simp; omega), show (pre.length : Int) + 2 = ((pre.length + 2 : Nat) : Int) by omega, g2, Option.bind_some, show ref4_letter n z = some (letterB z) from rfl, Option.bind_some]
            simp only [List.getElem?_cons_zero, Option.getD_some]
            cases hl2 : letterB z with
            | false => rw [cond_false]; exact rest
            | true =>
              unfold ref4_Tokens_k9
              rw [cond_true, cond_true, w64_id (by omega), show (pre.length : Int) + 2 = ((pre.length + 2 : Nat) : Int) by omega]
              have ht := ref_tag (n := n) (pre := pre ++ [60, 47]) (r := z :: r) (by simp; omega) (by simp; omega)
              rw [← hL2, List.length_append] at ht
              simp only [List.length_cons, List.length_nil, Nat.zero_add, Nat.reduceAdd] at ht
              cases htg : tagS (z :: r) with
              | none =>
                rw [htg] at ht
                obtain ⟨t, e⟩ := ht
                rw [e, Option.bind_some]
                simp only [cond_false]
                unfold ref4_Tokens_k10 ref4_Tokens_k3
                simp only
                rw [fin]
                simp
              | some q =>
                rw [htg] at ht
                obtain ⟨pre', h1, e⟩ := ht
                have hl := tagS_len htg
                have hcl := congrArg List.length h1
                simp only [List.length_append, List.length_cons] at hcl hl
                rw [e, Option.bind_some]
                simp only [cond_true]
                rw [appR (by omega), Option.bind_some]
                unfold ref4_Tokens_k10 ref4_Tokens_k3
                rw [← h1]
                have ih := ref_tokens_g m q.2.2 pre' (out ++ [rt (tagTok 3 (tagN (z :: r)) q.1 q.2.1)]) (k + 1) (by omega) (by omega) (by omega) (by omega) (by simp; omega)
                rw [List.append_assoc] at ih
                exact ih
        · rw [dF h47, decide_eq_false h47, Bool.false_and, cond_false]
          exact rest
theorem ref_Tokens (l : List Int) (hl : l.length ≤ 100000) (hn : 4 * l.length + 2000 ≤ n) : ref4_Tokens n l = some ((tokS (l.length + 1) l).map rt) := by
  unfold ref4_Tokens
  have := ref_tokens_g (n := n) l.length l [] [] n (Nat.le_refl _) (by omega) (by simp; omega) (by simpa using hl) (by simp; omega)
  simpa using this
end Go.Proofs.Ythmnohdlhlmmpaa
