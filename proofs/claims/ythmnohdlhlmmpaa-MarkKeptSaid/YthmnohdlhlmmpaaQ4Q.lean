/-
  Walks and laws of this seat; the base is the text Base.
-/
import Derived.Test.YthmnohdlhlmmpaaQ4O
namespace Go.Proofs.Ythmnohdlhlmmpaa
open Go.RowKit Go.Sl
variable {n : Nat} {pre r : List Int} {out : List mark_Token}
theorem tag_l6 (kind : Int) (nm : ByteArray) (al : List api_Attr) (g0 : (List Int) → Int → (List mark_Token) → ByteArray → (List api_Attr) → Bool → api_Attr → Option (mark_Token × Bool × mark_cutter)) (g1 : ByteArray → (List api_Attr) → Bool → (List Int) → Int → (List mark_Token) → Option (mark_Token × Bool × mark_cutter)) :
    ∀ (r pre : List Int) (c : Bool) (k : Nat), r.length + 1 ≤ k → pre.length + r.length ≤ 1000000000 → ∃ pre', pre' ++ (skipBl c r).2 = pre ++ r ∧
      mark_cutter_tag_l6 n kind out nm al g0 g1 k (pre ++ r) (pre.length : Int) c (r[0]?.getD 0) = mark_cutter_tag_k2 n kind out nm al g0 g1 (pre' ++ (skipBl c r).2) (pre'.length : Int) (skipBl c r).1
  | [], pre, c, k, hk, hb => by
    obtain ⟨k, rfl⟩ : ∃ i, k = i + 1 := ⟨k - 1, by omega⟩
    refine ⟨pre, rfl, ?_⟩
    rw [mark_cutter_tag_l6]
    rfl
  | x :: r, pre, c, k, hk, hb => by
    obtain ⟨k, rfl⟩ : ∃ i, k = i + 1 := ⟨k - 1, by omega⟩
    have hb' := hb
    simp only [List.length_cons] at hk hb
    have go : ∃ pre', pre' ++ (skipBl (decide (x = 47)) r).2 = pre ++ x :: r ∧ mark_cutter_tag_k7 n kind out nm al g0 g1 (pre ++ x :: r) (pre.length : Int) c x (mark_cutter_tag_l6 n kind out nm al g0 g1 k) true = mark_cutter_tag_k2 n kind out nm al g0 g1 (pre' ++ (skipBl (decide (x = 47)) r).2) (pre'.length : Int) (skipBl (decide (x = 47)) r).1 := by
      obtain ⟨pre', h1, h2⟩ := tag_l6 kind nm al g0 g1 r (pre ++ [x]) (decide (x = 47)) k (by omega) (by simp; omega)
      refine ⟨pre', by simpa using h1, ?_⟩
      unfold mark_cutter_tag_k7
      rw [cond_true, cur_next hb', Option.bind_some]
      have h3 := ct_peek (n := n) (pre := pre ++ [x]) (r := r) (out := out) 0 (by omega) (by simp; omega)
      rw [show ((0 : Nat) : Int) = 0 from rfl] at h3
      simp only
      rw [h3, Option.bind_some]
      exact h2
    rw [mark_cutter_tag_l6]
    simp only [List.getElem?_cons_zero, Option.getD_some]
    rw [blank_eq, Option.bind_some]
    unfold skipBl
    cases hbl : blankB x with
    | true =>
      rw [cond_true, Bool.true_or, cond_true]
      exact go
    | false =>
      rw [cond_false, Bool.false_or]
      cases hs : decide (x = 47) with
      | true =>
        rw [cond_true]
        rw [hs] at go
        exact go
      | false =>
        rw [cond_false]
        refine ⟨pre, rfl, ?_⟩
        unfold mark_cutter_tag_k7
        rw [cond_false]
theorem tag_k3 (nm : ByteArray) (al : List api_Attr) (g0 : (List Int) → Int → (List mark_Token) → ByteArray → (List api_Attr) → Bool → api_Attr → Option (mark_Token × Bool × mark_cutter)) (c : Bool) (nm2 v : ByteArray) (l : List Int) (i : Int) (hal : al.length ≤ 64) (hn : 100 ≤ n) :
    mark_cutter_tag_k3 n nm al g0 c nm2 l i out v = g0 l i out nm (addA al { Name := nm2, Value := v }) c { Name := nm2, Value := v } := by
  unfold mark_cutter_tag_k3 mark_cutter_tag_k4 mark_cutter_tag_k5 addA
  by_cases h : al.length < 64
  · rw [dT (by omega), has_eq al nm2 (by omega) (by omega), Option.bind_some, decide_eq_true h, Bool.true_and]
    cases hh : al.any fun b => decide (b.Name = nm2) with
    | true => rfl
    | false =>
      rw [Bool.not_false, cond_true, cond_true, appM_eq (by simp; omega), Option.bind_some]
  · rw [dF (by omega), cond_false, decide_eq_false h]; rfl
def tagTok (kind : Int) (nm : ByteArray) (al : List api_Attr) (c : Bool) : mark_Token :=
  bif decide (kind = 3) then { Kind := 3, Name := nm, Text := bs [], Attrs := [], Closed := false } else { Kind := kind, Name := nm, Text := bs [], Attrs := al, Closed := c }
def TagRes (out : List mark_Token) (kind : Int) (nm : ByteArray) (l : List Int) (m : Option (mark_Token × Bool × mark_cutter)) : Option (List api_Attr × Bool × List Int) → Prop
  | none => ∃ t pre' r', pre' ++ r' = l ∧ m = some (t, false, ct pre' r' out)
  | some q => ∃ pre', pre' ++ q.2.2 = l ∧ m = some (tagTok kind nm q.1 q.2.1, true, ct pre' q.2.2 out)
theorem tag_g (kind : Int) (nm : ByteArray) : ∀ (k : Nat) (r pre : List Int) (al : List api_Attr) (c0 : Bool) (a0 : api_Attr), r.length + 2 ≤ k → al.length ≤ 64 → 4 * (pre.length + r.length) + 100 ≤ n → pre.length + r.length ≤ 1000000 →
    TagRes out kind nm (pre ++ r) (mark_cutter_tag_g1_0 n kind k (pre ++ r) (pre.length : Int) out nm al c0 a0) (tagL k r al)
  | 0, _, _, _, _, _, h, _, _, _ => by omega
  | k + 1, r, pre, al, c0, a0, hk, hal, hn, hb => by
    obtain ⟨k', rfl⟩ : ∃ i, k = i + 1 := ⟨k - 1, by omega⟩
    rw [mark_cutter_tag_g1_0]
    have hp := ct_peek (n := n) (pre := pre) (r := r) (out := out) 0 (by omega) (by omega)
    rw [show ((0 : Nat) : Int) = 0 from rfl] at hp
    rw [hp, Option.bind_some]
    obtain ⟨pre1, h1, h2⟩ := tag_l6 (n := n) (out := out) kind nm al (mark_cutter_tag_g1_0 n kind (k' + 1)) (mark_cutter_tag_g1_1 n kind (k' + 1)) r pre false n (by omega) (by omega)
    rw [h2]
    have hsl := skipBl_len r false
    have hlen := congrArg List.length h1
    rw [List.length_append, List.length_append] at hlen
    unfold tagL
    cases hs : skipBl false r with
    | mk c r1 =>
      rw [hs] at h1 hlen hsl
      simp only at h1 hlen hsl ⊢
      rw [← h1]
      unfold mark_cutter_tag_k2
      cases r1 with
      | nil =>
        rw [cur_next_nil (by omega), Option.bind_some]
        exact ⟨_, pre1, [], rfl, rfl⟩
      | cons x r1 =>
        have hlen' := hlen
        simp only [List.length_cons] at hlen hsl
        rw [cur_next (by omega), Option.bind_some]
        simp only [Bool.not_true, cond_false]
        by_cases hx : x = 62
        · rw [dT hx, if_pos hx, mark_cutter_tag_g1_1]
          refine ⟨pre1 ++ [x], by simp, ?_⟩
          unfold tagTok
          cases decide (kind = 3) <;> rfl
        · rw [dF hx, if_neg hx]
          have hw := ct_while (n := n) (pre := pre1 ++ [x]) (r := r1) (out := out) (p := fun z => mark_cutter_tag_2 n z) (q := nameB) tag2_eq (by simp; omega) (by omega)
          rw [hw, Option.bind_some]
          simp only
          have hc1 := congrArg List.length (List.takeWhile_append_dropWhile (p := nameB) (l := r1))
          rw [List.length_append] at hc1
          rw [appM_eq (by simp; omega), Option.bind_some, List.singleton_append, mark_small_eq _ (by simp; omega) (by simp; omega), Option.bind_some]
          have hw2 := ct_while (n := n) (pre := pre1 ++ [x] ++ r1.takeWhile nameB) (r := r1.dropWhile nameB) (out := out) (p := fun z => mark_blank n z) (q := blankB) blank_eq (by simp; omega) (by omega)
          rw [hw2, Option.bind_some]
          simp only
          have hc2 := congrArg List.length (List.takeWhile_append_dropWhile (p := blankB) (l := r1.dropWhile nameB))
          rw [List.length_append] at hc2
          have hcat : pre1 ++ [x] ++ r1.takeWhile nameB ++ (r1.dropWhile nameB).takeWhile blankB ++ (r1.dropWhile nameB).dropWhile blankB = pre1 ++ x :: r1 := by
            rw [List.append_assoc _ ((r1.dropWhile nameB).takeWhile blankB), List.takeWhile_append_dropWhile, List.append_assoc _ (r1.takeWhile nameB), List.takeWhile_append_dropWhile]
            simp
          have hcl := congrArg List.length hcat
          unfold attrS
          generalize pre1 ++ [x] ++ r1.takeWhile nameB ++ (r1.dropWhile nameB).takeWhile blankB = pre2 at hcat hcl ⊢
          generalize smallL (x :: r1.takeWhile nameB) = nm2
          generalize (r1.dropWhile nameB).dropWhile blankB = r2 at hcat hcl hc2 ⊢
          rw [← hcat]
          simp only [List.length_append, List.length_cons] at hcl hlen'
          have his := ct_is (n := n) (pre := pre2) (r := r2) (out := out) (s := bs [61]) (xs := [61]) rfl (by simp; omega) (by decide) (by omega) 0 (by omega)
          rw [show ((0 : Nat) : Int) = 0 from rfl, List.drop_zero] at his
          rw [his, Option.bind_some]
          have other : ∀ h61 : ([61] : List Int).isPrefixOf r2 = false, TagRes out kind nm (pre2 ++ r2) (bif ([61] : List Int).isPrefixOf r2 then none else mark_cutter_tag_k3 n nm al (mark_cutter_tag_g1_0 n kind (k' + 1)) c nm2 (pre2 ++ r2) (pre2.length : Int) out (bs [])) (tagL (k' + 1) r2 (addA al { Name := nm2, Value := bs [] })) := fun h61 => by
            rw [h61, cond_false, tag_k3 nm al _ c nm2 (bs []) _ _ hal (by omega)]
            exact tag_g kind nm (k' + 1) r2 pre2 _ c _ (by omega) (addA_len _ hal) (by omega) (by omega)
          cases r2 with
          | nil => exact other rfl
          | cons y r3 =>
            by_cases hy : y = 61
            · subst hy
              rw [show ([61] : List Int).isPrefixOf (61 :: r3) = true from by simp [List.isPrefixOf], cond_true]
              simp only [List.length_cons] at hcl hc2
              rw [cur_next (by simp; omega), Option.bind_some]
              have hw3 := ct_while (n := n) (pre := pre2 ++ [61]) (r := r3) (out := out) (p := fun z => mark_blank n z) (q := blankB) blank_eq (by simp; omega) (by omega)
              simp only
              rw [hw3, Option.bind_some]
              simp only
              have e61 : attrT nm2 (61 :: r3) = (valueS (r3.dropWhile blankB)).map fun q => ({ Name := nm2, Value := ub (textOf q.1) }, q.2) := rfl
              rw [e61]
              have hc3 := congrArg List.length (List.takeWhile_append_dropWhile (p := blankB) (l := r3))
              rw [List.length_append] at hc3
              have hcat2 : pre2 ++ [61] ++ r3.takeWhile blankB ++ r3.dropWhile blankB = pre2 ++ 61 :: r3 := by
                rw [List.append_assoc _ (r3.takeWhile blankB), List.takeWhile_append_dropWhile]; simp
              have hcl2 := congrArg List.length hcat2
              generalize pre2 ++ [61] ++ r3.takeWhile blankB = pre3 at hcat2 hcl2 ⊢
              generalize r3.dropWhile blankB = r4 at hcat2 hcl2 hc3 ⊢
              rw [← hcat2]
              simp only [List.length_append, List.length_cons] at hcl2
              rcases ct_value (n := n) (pre := pre3) (r := r4) (out := out) (by omega) (by omega) with ⟨t, b, pre4, r5, hv, rfl, hc4, hm⟩ | ⟨v, r5, pre4, hv, hc4, hm⟩
              · rw [hm, Option.bind_some, hv]
                exact ⟨_, pre4, r5, hc4, rfl⟩
              · rw [hm, Option.bind_some, hv]
                have hvl := valueS_len hv
                simp only at hvl
                have hts := textOf_size v
                have hcl4 := congrArg List.length hc4
                simp only [List.length_append] at hcl4
                simp only [Bool.not_true, cond_false, Option.map_some]
                rw [mark_ub (by omega) (by omega), Option.bind_some, tag_k3 nm al _ c nm2 _ _ _ hal (by omega), ← hc4]
                exact tag_g kind nm (k' + 1) r5 pre4 _ c _ (by omega) (addA_len _ hal) (by omega) (by omega)
            · have h61 : ([61] : List Int).isPrefixOf (y :: r3) = false := by simp [List.isPrefixOf, Ne.symm hy]
              have := other h61
              rw [h61, cond_false] at this ⊢
              rw [attrT_else hy]
              exact this
end Go.Proofs.Ythmnohdlhlmmpaa
