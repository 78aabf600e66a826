/-
  Walks and laws of this seat; the base is the text Base.
-/
import Derived.Test.YthmnohdlhlmmpaaQ4T
namespace Go.Proofs.Ythmnohdlhlmmpaa
open Go.RowKit Go.Sl
/-! What is true of every token. -/
def noUp (s : ByteArray) : Prop := ∀ b ∈ s.data.toList, ¬ (65 ≤ b.toNat ∧ b.toNat ≤ 90)
theorem noUp_append {s t : ByteArray} (h : noUp s) (h2 : noUp t) : noUp (s ++ t) := fun b hb => by
  rw [ByteArray.data_append, Array.toList_append, List.mem_append] at hb
  rcases hb with hb | hb
  · exact h b hb
  · exact h2 b hb
theorem enc_noUp {x : Int} (h : ¬ (65 ≤ x ∧ x ≤ 90)) : noUp (Utf8.encode x) := by
  unfold Utf8.encode noUp
  simp only
  have hc : ∃ c, (if Utf8.valid x = true then x.toNat else Utf8.runeError) = c ∧ ¬ (65 ≤ c ∧ c ≤ 90) ∧ c ≤ 1114111 := by
    refine ⟨_, rfl, ?_, ?_⟩
    · split
      · omega
      · decide
    · split
      · rename_i hv
        simp [Utf8.valid] at hv
        omega
      · decide
  obtain ⟨c, e, h1, h2⟩ := hc
  rw [e]
  intro b hb
  split at hb
  · simp only [List.mem_cons, List.mem_nil_iff, or_false] at hb
    subst hb
    simp only [UInt8.toNat_ofNat']
    omega
  · split at hb
    · simp only [List.mem_cons, List.mem_nil_iff, or_false] at hb
      rcases hb with rfl | rfl <;> simp only [UInt8.toNat_ofNat'] <;> omega
    · split at hb
      · simp only [List.mem_cons, List.mem_nil_iff, or_false] at hb
        rcases hb with rfl | rfl | rfl <;> simp only [UInt8.toNat_ofNat'] <;> omega
      · simp only [List.mem_cons, List.mem_nil_iff, or_false] at hb
        rcases hb with rfl | rfl | rfl | rfl <;> simp only [UInt8.toNat_ofNat'] <;> omega
theorem lowX_noUp (x : Int) : ¬ (65 ≤ lowX x ∧ lowX x ≤ 90) := by
  unfold lowX
  cases h : (decide (65 ≤ x)) && (decide (x ≤ 90)) with
  | true => simp only [Bool.and_eq_true, decide_eq_true_eq] at h; rw [cond_true]; omega
  | false => simp only [Bool.and_eq_false_iff, decide_eq_false_iff_not] at h; rw [cond_false]; omega
theorem small_noUp : ∀ xs : List Int, noUp (smallL xs)
  | [] => fun b hb => by simp [smallL, textOf] at hb
  | x :: xs => by
    unfold smallL
    rw [List.map_cons, textOf_cons]
    exact noUp_append (enc_noUp (lowX_noUp x)) (small_noUp xs)
theorem enc_pos (x : Int) : 1 ≤ (Utf8.encode x).size := by
  obtain ⟨b, t, h, _⟩ := enc_head x
  have : (Utf8.encode x).size = (Utf8.encode x).data.toList.length := by rw [Array.length_toList]; rfl
  rw [this, h]; simp
theorem textOf_pos {xs : List Int} (h : xs ≠ []) : 1 ≤ (textOf xs).size := by
  cases xs with
  | nil => exact absurd rfl h
  | cons x xs =>
    have := enc_pos x
    rw [textOf_cons, ByteArray.size_append]; omega
theorem small_pos {xs : List Int} (h : xs ≠ []) : smallL xs ≠ bs [] := fun e => by
  have := textOf_pos (xs := xs.map lowX) (by simpa using h)
  unfold smallL at e
  rw [e, bs_size] at this
  simp at this
theorem ub_pos {s : ByteArray} (h : 1 ≤ s.size) : ub s ≠ bs [] := fun e => by
  unfold ub at e
  have e := bs_inj.1 e
  have hl : s.data.toList.length = s.size := by rw [Array.length_toList]; rfl
  generalize s.data.toList = l at e hl
  cases l with
  | nil => simp at hl; omega
  | cons b l =>
    obtain ⟨m, hm⟩ : ∃ m, s.size = m + 1 := ⟨s.size - 1, by omega⟩
    rw [hm] at e
    unfold un at e
    split at e
    · split at e
      · rename_i q hq
        have := (ent_left hq).2.1
        rw [(List.append_eq_nil_iff.1 e).1] at this
        simp at this
      · cases e
    · cases e
theorem small_size (xs : List Int) : (smallL xs).size ≤ 4 * xs.length := by
  have := textOf_size (xs.map lowX)
  rwa [List.length_map] at this
/-- A name that is small, and not too long. -/
def nmOK (s : ByteArray) : Prop := noUp s ∧ s.size ≤ 8000000
theorem small_ok {xs : List Int} (h : xs.length ≤ 2000000) : nmOK (smallL xs) := ⟨small_noUp xs, by have := small_size xs; omega⟩
theorem take_len (p : Int → Bool) (r : List Int) : (r.takeWhile p).length ≤ r.length := (List.takeWhile_prefix p).length_le
/-- Attributes: small names, all unlike. -/
def AttrsOK (al : List api_Attr) : Prop := al.length ≤ 64 ∧ (∀ a ∈ al, nmOK a.Name) ∧ al.Pairwise fun a b => a.Name ≠ b.Name
theorem attrs_nil : AttrsOK [] := ⟨by simp, by simp, .nil⟩
theorem addA_ok {al : List api_Attr} {a : api_Attr} (h : AttrsOK al) (ha : nmOK a.Name) : AttrsOK (addA al a) := by
  refine ⟨addA_len a h.1, ?_, ?_⟩
  · unfold addA
    cases decide (al.length < 64) && !(al.any fun b => decide (b.Name = a.Name)) with
    | false => exact h.2.1
    | true =>
      intro b hb
      rw [cond_true, List.mem_append, List.mem_singleton] at hb
      rcases hb with hb | rfl
      · exact h.2.1 b hb
      · exact ha
  · unfold addA
    cases hc : decide (al.length < 64) && !(al.any fun b => decide (b.Name = a.Name)) with
    | false => exact h.2.2
    | true =>
      simp only [Bool.and_eq_true, Bool.not_eq_true', List.any_eq_false, decide_eq_true_eq] at hc
      rw [cond_true, List.pairwise_append]
      exact ⟨h.2.2, List.pairwise_singleton .., fun b hb c hc2 => by
        rw [List.mem_singleton] at hc2
        subst hc2
        exact hc.2 b hb⟩
theorem attrS_ok {x : Int} {r : List Int} {q : api_Attr × List Int} (h : attrS x r = some q) (hr : r.length ≤ 1000000) : nmOK q.1.Name := by
  have ht := take_len nameB r
  unfold attrS attrT at h
  split at h
  · obtain ⟨p, _, rfl⟩ := Option.map_eq_some_iff.1 h
    exact small_ok (by simp; omega)
  · cases h
    exact small_ok (by simp; omega)
theorem tagL_ok : ∀ (k : Nat) (r : List Int) (al : List api_Attr) (q : List api_Attr × Bool × List Int), AttrsOK al → r.length ≤ 1000000 → tagL k r al = some q → AttrsOK q.1
  | 0, _, _, _, _, _, h => by cases h
  | k + 1, r, al, q, hal, hr, h => by
    have hsl := skipBl_len r false
    unfold tagL at h
    cases hs : skipBl false r with
    | mk c r1 =>
      rw [hs] at h hsl
      cases r1 with
      | nil => cases h
      | cons x r1 =>
        simp only [List.length_cons] at h hsl
        split at h
        · cases h; exact hal
        · cases ha : attrS x r1 with
          | none => rw [ha] at h; cases h
          | some p =>
            rw [ha] at h
            have := attrS_len ha
            exact tagL_ok k _ _ _ (addA_ok hal (attrS_ok ha (by omega))) (by omega) h
def TokOK (t : mark_Token) : Prop := (t.Kind = 1 ∧ t.Text ≠ bs [] ∧ t.Name = bs [] ∧ t.Attrs = [] ∧ t.Closed = false) ∨
  ((t.Kind = 2 ∨ t.Kind = 3) ∧ t.Name ≠ bs [] ∧ nmOK t.Name ∧ t.Text = bs [] ∧ AttrsOK t.Attrs ∧ (t.Kind = 3 → t.Attrs = [] ∧ t.Closed = false))
theorem tagN_pos {r : List Int} (h : letterB (r[0]?.getD 0) = true) : tagN r ≠ bs [] := by
  cases r with
  | nil => exact absurd h (by decide)
  | cons x r =>
    simp only [List.getElem?_cons_zero, Option.getD_some] at h
    have hx : (97 ≤ x ∧ x ≤ 122) ∨ (65 ≤ x ∧ x ≤ 90) := by
      unfold letterB at h
      by_cases h97 : 97 ≤ x
      · rw [dT h97] at h; simp at h; omega
      · rw [dF h97] at h; simp at h; omega
    have ht : tagB x = true := by
      unfold tagB blankB
      simp; omega
    unfold tagN
    exact small_pos (by simp [ht])
theorem tokS_ok : ∀ (k : Nat) (r : List Int), r.length ≤ 1000000 → ∀ t ∈ tokS k r, TokOK t
  | 0, _, _, t, h => by cases h
  | _ + 1, [], _, t, h => by cases h
  | k + 1, x :: r, hr, t, h => by
    simp only [List.length_cons] at hr
    have htl := take_len tagB r
    have hdl := dropWhile_len tagB r
    have htl2 := take_len tagB r.tail
    have htt : r.tail.length ≤ r.length := by simp
    rw [tokS] at h
    cases hbg : beginsB (x :: r) with
    | false =>
      rw [hbg, Bool.not_false, cond_true] at h
      rcases List.mem_cons.1 h with rfl | h
      · refine .inl ⟨rfl, ub_pos (textOf_pos fun e => ?_), rfl, rfl, rfl⟩
        have := textRun_some hbg
        rw [e] at this; simp at this
      · have := textRun_len (r := x :: r)
        simp only [List.length_cons] at this
        exact tokS_ok k _ (by omega) t h
    | true =>
      rw [hbg, Bool.not_true, cond_false] at h
      cases hlt : letterB (r[0]?.getD 0) with
      | true =>
        rw [hlt, cond_true] at h
        cases htg : tagS r with
        | none => rw [htg] at h; cases h
        | some q =>
          rw [htg] at h
          rcases List.mem_cons.1 h with rfl | h
          · exact .inr ⟨.inl rfl, tagN_pos hlt, small_ok (by omega), rfl, tagL_ok _ _ _ _ attrs_nil (by omega) htg, fun e => by cases e⟩
          · cases hraw : isRawB (tagN r) with
            | true =>
              rw [hraw, cond_true] at h
              rcases List.mem_append.1 h with h | h
              · split at h
                · cases h
                · rename_i h0
                  rw [List.mem_singleton] at h
                  subst h
                  refine .inl ⟨rfl, fun e => ?_, rfl, rfl, rfl⟩
                  have hle := rawS_le (tagN r) q.2.2
                  have := textOf_pos (xs := q.2.2.take (rawS (tagN r) q.2.2)) (fun e2 => by have := congrArg List.length e2; rw [List.length_take, List.length_nil] at this; omega)
                  rw [show textOf (q.2.2.take (rawS (tagN r) q.2.2)) = bs [] from e, bs_size] at this
                  simp at this
              · have := tagS_len htg
                exact tokS_ok k _ (by simp; omega) t h
            | false =>
              rw [hraw, cond_false] at h
              have := tagS_len htg
              exact tokS_ok k _ (by omega) t h
      | false =>
        rw [hlt, cond_false] at h
        cases h47 : decide (r[0]?.getD 0 = 47) && letterB (r.tail[0]?.getD 0) with
        | true =>
          rw [h47, cond_true] at h
          rw [Bool.and_eq_true] at h47
          cases htg : tagS r.tail with
          | none => rw [htg] at h; cases h
          | some q =>
            rw [htg] at h
            rcases List.mem_cons.1 h with rfl | h
            · exact .inr ⟨.inr rfl, tagN_pos h47.2, small_ok (by omega), rfl, attrs_nil, fun _ => ⟨rfl, rfl⟩⟩
            · have := tagS_len htg
              exact tokS_ok k _ (by omega) t h
        | false =>
          rw [h47, cond_false] at h
          cases hc : ([60, 33, 45, 45] : List Int).isPrefixOf (x :: r) with
          | true => rw [hc, cond_true] at h; exact tokS_ok k _ (by have := skipS_len [45, 45, 62] ((x :: r).drop 4); rw [List.length_drop, List.length_cons] at this; omega) t h
          | false =>
            rw [hc, cond_false] at h
            have hsk := skipS_len [62] r
            have hx := begins_head hbg
            subst hx
            rw [skipS, show ([62] : List Int).isPrefixOf (60 :: r) = false from by simp [List.isPrefixOf], cond_false] at h
            exact tokS_ok k _ (by omega) t h
end Go.Proofs.Ythmnohdlhlmmpaa
