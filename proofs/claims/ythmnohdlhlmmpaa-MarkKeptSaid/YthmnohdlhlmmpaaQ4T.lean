/-
  Walks and laws of this seat; the base is the text Base.
-/
import Derived.Test.YthmnohdlhlmmpaaQ4S
namespace Go.Proofs.Ythmnohdlhlmmpaa
open Go.RowKit Go.Sl
variable {n : Nat}
def isRawB (nm : ByteArray) : Bool := decide (nm = bs [115, 116, 121, 108, 101]) || decide (nm = bs [115, 99, 114, 105, 112, 116])
/-- The tokens of what is ahead. -/
def tokS : Nat → List Int → List mark_Token
  | 0, _ => []
  | _ + 1, [] => []
  | k + 1, x :: r => bif !(beginsB (x :: r)) then textTok (ub (textOf (textRun (x :: r)).1)) :: tokS k (textRun (x :: r)).2 else
    bif letterB (r[0]?.getD 0) then (match tagS r with
      | none => []
      | some q => tagTok 2 (tagN r) q.1 q.2.1 :: (bif isRawB (tagN r) then (if rawS (tagN r) q.2.2 = 0 then [] else [textTok (textOf (q.2.2.take (rawS (tagN r) q.2.2)))]) ++ tokS k (q.2.2.drop (rawS (tagN r) q.2.2)) else tokS k q.2.2)) else
    bif decide (r[0]?.getD 0 = 47) && letterB (r.tail[0]?.getD 0) then (match tagS r.tail with
      | none => []
      | some q => tagTok 3 (tagN r.tail) q.1 q.2.1 :: tokS k q.2.2) else
    bif ([60, 33, 45, 45] : List Int).isPrefixOf (x :: r) then tokS k (skipS [45, 45, 62] ((x :: r).drop 4)) else tokS k (skipS [62] (x :: r))
theorem skipS_len (xs : List Int) : ∀ r : List Int, (skipS xs r).length ≤ r.length
  | [] => Nat.le_refl _
  | x :: r => by
    unfold skipS
    have := skipS_len xs r
    cases xs.isPrefixOf (x :: r) with
    | true => simp
    | false => simp only [cond_false, List.length_cons]; omega
theorem tagL_len : ∀ (k : Nat) (r : List Int) (al : List api_Attr) (q : List api_Attr × Bool × List Int), tagL k r al = some q → q.2.2.length + 1 ≤ r.length
  | 0, _, _, _, h => by cases h
  | k + 1, r, al, q, h => by
    unfold tagL at h
    have hl := skipBl_len r false
    cases hs : skipBl false r with
    | mk c r1 =>
      rw [hs] at h hl
      cases r1 with
      | nil => cases h
      | cons x r1 =>
        simp only [List.length_cons] at h hl
        split at h
        · cases h; simp only; omega
        · cases ha : attrS x r1 with
          | none => rw [ha] at h; cases h
          | some p =>
            rw [ha] at h
            have := attrS_len ha
            have := tagL_len k _ _ _ h
            omega
theorem tagS_len {r : List Int} {q : List api_Attr × Bool × List Int} (h : tagS r = some q) : q.2.2.length + 1 ≤ r.length := by
  have h1 := tagL_len _ _ _ _ h
  have h2 := dropWhile_len tagB r
  omega
theorem textRun_len {r : List Int} : (textRun r).1.length + (textRun r).2.length = r.length := by
  have := congrArg List.length (textRun_cat r)
  rwa [List.length_append] at this
theorem textRun_some {x : Int} {r : List Int} (h : beginsB (x :: r) = false) : 1 ≤ (textRun (x :: r)).1.length := by
  unfold textRun
  rw [h]; simp
theorem raw_name {nm : ByteArray} (h : isRawB nm = true) : nm.size ≤ 1000 ∧ (0 : UInt8) ∉ nm.data.toList := by
  unfold isRawB at h
  simp only [Bool.or_eq_true, decide_eq_true_eq] at h
  rcases h with rfl | rfl
  · exact ⟨by decide, by decide⟩
  · exact ⟨by decide, by decide⟩
theorem begins_head {x : Int} {r : List Int} (h : beginsB (x :: r) = true) : x = 60 := by
  unfold beginsB at h
  split at h
  · rename_i h2; injection h2
  · cases h
theorem tokens_g : ∀ (m : Nat) (r pre : List Int) (out : List mark_Token) (tk : mark_Token) (k : Nat), r.length ≤ m → 2 * m + 3 ≤ k → 4 * (pre.length + r.length) + 2000 ≤ n → pre.length + r.length ≤ 100000 → out.length + 3 * r.length ≤ 1000000 →
    mark_Tokens_g1_3 n k (pre ++ r) (pre.length : Int) out tk = some (out ++ tokS (m + 1) r)
  | m, [], pre, out, tk, k, hm, hk, hn, hb, ho => by
    obtain ⟨k, rfl⟩ : ∃ i, k = i + 1 := ⟨k - 1, by omega⟩
    rw [mark_Tokens_g1_3, cur_left (by omega), Option.bind_some, dT (by simp)]
    simp [tokS]
  | 0, x :: r, _, _, _, _, hm, _, _, _, _ => by simp at hm
  | m + 1, x :: r, pre, out, tk, k, hm, hk, hn, hb, ho => by
    obtain ⟨k, rfl⟩ : ∃ i, k = i + 2 := ⟨k - 2, by omega⟩
    have hn' := hn
    have hb' := hb
    simp only [List.length_cons] at hm hn hb ho
    rw [mark_Tokens_g1_3, cur_left (by omega), Option.bind_some, dF (by simp; omega), ct_begins (by omega) (by omega), Option.bind_some]
    rw [tokS]
    cases hbg : beginsB (x :: r) with
    | false =>
      rw [Bool.not_false, cond_true, cond_true, mark_Tokens_g1_0, tokens_l4 out tk _ (by omega) (x :: r) pre [] n (by simp; omega) (by omega) (by simp; omega), List.nil_append]
      have h1 := textRun_some hbg
      have h2 := textRun_len (r := x :: r)
      have h3 := textOf_size (textRun (x :: r)).1
      simp only [List.length_cons] at h2
      unfold mark_Tokens_k3
      rw [mark_ub (by omega) (by omega), Option.bind_some, appM_eq (by simp; omega), Option.bind_some]
      have hcat : pre ++ (textRun (x :: r)).1 ++ (textRun (x :: r)).2 = pre ++ x :: r := by rw [List.append_assoc, textRun_cat]
      have ih := tokens_g m (textRun (x :: r)).2 (pre ++ (textRun (x :: r)).1) (out ++ [textTok (ub (textOf (textRun (x :: r)).1))]) tk k (by omega) (by omega) (by simp; omega) (by simp; omega) (by simp; omega)
      rw [hcat] at ih
      rw [List.append_assoc] at ih
      exact ih
    | true =>
      have hx := begins_head hbg
      subst hx
      rw [Bool.not_true, cond_false, cond_false]
      have p1 := ct_peek (n := n) (pre := pre) (r := 60 :: r) (out := out) 1 (by omega) (by omega)
      rw [show ((1 : Nat) : Int) = 1 from rfl, List.getElem?_cons_succ] at p1
      have p2 := ct_peek (n := n) (pre := pre) (r := 60 :: r) (out := out) 2 (by omega) (by omega)
      rw [show ((2 : Nat) : Int) = 2 from rfl, List.getElem?_cons_succ, show r[1]? = r.tail[0]? from by cases r <;> simp] at p2
      have let_eq : ∀ z : Int, mark_letter n z = some (letterB z) := fun _ => rfl
      rw [p1, Option.bind_some, let_eq, Option.bind_some]
      cases hlt : letterB (r[0]?.getD 0) with
      | true =>
        rw [cond_true, cond_true, mark_Tokens_g1_1, cur_next (by omega), Option.bind_some]
        simp only
        have ht := ct_tag (n := n) (pre := pre ++ [60]) (r := r) (out := out) 2 (by simp; omega) (by simp; omega)
        cases htg : tagS r with
        | none =>
          rw [htg] at ht
          obtain ⟨t, pre', r', h1, h2⟩ := ht
          rw [h2, Option.bind_some]
          simp
        | some q =>
          rw [htg] at ht
          obtain ⟨pre', h1, h2⟩ := ht
          have hl := tagS_len htg
          have hcl := congrArg List.length h1
          simp only [List.length_append, List.length_singleton] at hcl
          have hnm : (tagTok 2 (tagN r) q.1 q.2.1).Name = tagN r := rfl
          rw [h2, Option.bind_some]
          simp only [Bool.not_true, cond_false]
          rw [appM_eq (by simp; omega), Option.bind_some, hnm]
          have hre : pre ++ 60 :: r = pre' ++ q.2.2 := by rw [h1]; simp
          show (bif isRawB (tagN r) then _ else _) = _
          cases hraw : isRawB (tagN r) with
          | true =>
            obtain ⟨s1, s2⟩ := raw_name hraw
            have hle := rawS_le (tagN r) q.2.2
            rw [cond_true, cond_true, ct_raw (n := n) (pre := pre') (r := q.2.2) (tagN r) (by omega) s1 s2 (by omega) (by simp; omega), Option.bind_some]
            unfold mark_Tokens_k6
            have ih := tokens_g m (q.2.2.drop (rawS (tagN r) q.2.2)) (pre' ++ q.2.2.take (rawS (tagN r) q.2.2)) (out ++ [tagTok 2 (tagN r) q.1 q.2.1] ++ if rawS (tagN r) q.2.2 = 0 then [] else [textTok (textOf (q.2.2.take (rawS (tagN r) q.2.2)))]) (tagTok 2 (tagN r) q.1 q.2.1) k (by simp; omega) (by omega) (by simp; omega) (by simp; omega) (by split <;> simp <;> omega)
            simp only
            rw [ih]
            simp
          | false =>
            rw [cond_false, cond_false]
            unfold mark_Tokens_k6
            have ih := tokens_g m q.2.2 pre' (out ++ [tagTok 2 (tagN r) q.1 q.2.1]) (tagTok 2 (tagN r) q.1 q.2.1) k (by omega) (by omega) (by omega) (by omega) (by simp; omega)
            simp only
            rw [ih]
            simp
      | false =>
        rw [cond_false, cond_false, Option.bind_some]
        have rest : (mark_Tokens_k2 n (pre ++ 60 :: r) (pre.length : Int) out tk (mark_Tokens_g1_3 n (k + 1)) (mark_Tokens_g1_2 n (k + 1)) false) = some (out ++ (bif ([60, 33, 45, 45] : List Int).isPrefixOf (60 :: r) then tokS (m + 1) (skipS [45, 45, 62] ((60 :: r).drop 4)) else tokS (m + 1) (skipS [62] (60 :: r)))) := by
          unfold mark_Tokens_k2
          have his := ct_is (n := n) (pre := pre) (r := 60 :: r) (out := out) (s := bs [60, 33, 45, 45]) (xs := [60, 33, 45, 45]) rfl (by simp; omega) (by decide) (by omega) 0 (by omega)
          rw [show ((0 : Nat) : Int) = 0 from rfl, List.drop_zero] at his
          rw [cond_false, his, Option.bind_some]
          cases hc : ([60, 33, 45, 45] : List Int).isPrefixOf (60 :: r) with
          | true =>
            obtain ⟨pre1, h1, h2⟩ := ct_skip4 (n := n) (pre := pre) (r := 60 :: r) (out := out) (by omega) (by omega)
            have hcl := congrArg List.length h1
            have hdl : ((60 :: r).drop 4).length ≤ r.length := by simp
            simp only [List.length_append, List.length_cons] at hcl
            obtain ⟨pre2, h3, h4⟩ := ct_skip (n := n) (pre := pre1) (r := (60 :: r).drop 4) (out := out) (s := bs [45, 45, 62]) (xs := [45, 45, 62]) rfl (by decide) (by simp; omega) (by omega) (by omega)
            have hsl := skipS_len [45, 45, 62] ((60 :: r).drop 4)
            have hcl2 := congrArg List.length h3
            simp only [List.length_append] at hcl2
            rw [cond_true, cond_true, h2, Option.bind_some, h4, Option.bind_some]
            exact tokens_g m _ pre2 out tk (k + 1) (by omega) (by omega) (by omega) (by omega) (by omega)
          | false =>
            obtain ⟨pre2, h3, h4⟩ := ct_skip (n := n) (pre := pre) (r := 60 :: r) (out := out) (s := bs [62]) (xs := [62]) rfl (by decide) (by simp; omega) (by simp; omega) (by omega)
            have hsk : skipS [62] (60 :: r) = skipS [62] r := by
              rw [skipS, show ([62] : List Int).isPrefixOf (60 :: r) = false from by simp [List.isPrefixOf], cond_false]
            have hsl := skipS_len [62] r
            have hcl2 := congrArg List.length h3
            simp only [List.length_append, List.length_cons] at hcl2
            rw [cond_false, cond_false, h4, Option.bind_some]
            rw [hsk] at hcl2 ⊢
            exact tokens_g m _ pre2 out tk (k + 1) (by omega) (by omega) (by omega) (by omega) (by omega)
        by_cases h47 : r[0]?.getD 0 = 47
        · rw [dT h47, p2, Option.bind_some, let_eq, Option.bind_some, decide_eq_true h47, Bool.true_and]
          cases hl2 : letterB (r.tail[0]?.getD 0) with
          | false => rw [cond_false]; exact rest
          | true =>
            obtain ⟨r2, rfl⟩ : ∃ r2, r = 47 :: r2 := by
              cases r with
              | nil => simp at h47
              | cons y r2 => simp at h47; subst h47; exact ⟨r2, rfl⟩
            simp only [List.tail_cons, List.length_cons] at hl2 hm hn hb ho ⊢
            unfold mark_Tokens_k2
            rw [cond_true, cond_true, mark_Tokens_g1_2, cur_next (by omega), Option.bind_some]
            simp only
            rw [cur_next (by simp; omega), Option.bind_some]
            simp only
            have ht := ct_tag (n := n) (pre := pre ++ [60] ++ [47]) (r := r2) (out := out) 3 (by simp; omega) (by simp; omega)
            cases htg : tagS r2 with
            | none =>
              rw [htg] at ht
              obtain ⟨t, pre', r', h1, h2⟩ := ht
              rw [h2, Option.bind_some]
              simp
            | some q =>
              rw [htg] at ht
              obtain ⟨pre', h1, h2⟩ := ht
              have hl := tagS_len htg
              have hcl := congrArg List.length h1
              simp only [List.length_append, List.length_singleton] at hcl
              rw [h2, Option.bind_some]
              simp only [Bool.not_true, cond_false]
              rw [appM_eq (by simp; omega), Option.bind_some]
              have ih := tokens_g m q.2.2 pre' (out ++ [tagTok 3 (tagN r2) q.1 q.2.1]) (tagTok 3 (tagN r2) q.1 q.2.1) k (by omega) (by omega) (by omega) (by omega) (by simp; omega)
              rw [ih]
              simp
        · rw [dF h47, decide_eq_false h47, Bool.false_and, cond_false]
          exact rest
theorem mark_Tokens_eq (l : List Int) (hl : l.length ≤ 100000) (hn : 4 * l.length + 2000 ≤ n) : mark_Tokens n l = some (tokS (l.length + 1) l) := by
  unfold mark_Tokens source_New_rune
  rw [appM_eq (by simp; omega), Option.bind_some, Option.bind_some, List.nil_append]
  have := tokens_g (n := n) l.length l [] [] { Kind := 0, Name := bs [], Text := bs [], Attrs := [], Closed := false } n (Nat.le_refl _) (by omega) (by simp; omega) (by simpa using hl) (by simp; omega)
  simpa using this
end Go.Proofs.Ythmnohdlhlmmpaa
