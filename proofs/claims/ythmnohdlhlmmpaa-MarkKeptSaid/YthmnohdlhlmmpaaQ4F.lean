/-
  Walks and laws of this seat; the base is the text Base.
-/
import Derived.Test.YthmnohdlhlmmpaaQ4E
namespace Go.Proofs.Ythmnohdlhlmmpaa
open Go.RowKit Go.Sl
def namedM (name : List UInt8) : List UInt8 := match words.find? (fun p => decide (name = p.1)) with
  | some p => p.2
  | none => []
def entM (name : List UInt8) : List UInt8 := match name with
  | h :: t => if h = 35 then (match t with
    | x :: t' => if x = 120 ∨ x = 88 then numM 16 t' else numM 10 t
    | [] => numM 10 t) else namedM name
  | [] => namedM name
theorem mark_named_eq (n : Nat) (name : List UInt8) : mark_named n (bs name) = some (bs (namedM name)) := by
  unfold mark_named namedM words
  by_cases h1 : name = [97, 109, 112]
  · subst h1; rfl
  by_cases h2 : name = [108, 116]
  · subst h2; rfl
  by_cases h3 : name = [103, 116]
  · subst h3; rfl
  by_cases h4 : name = [113, 117, 111, 116]
  · subst h4; rfl
  by_cases h5 : name = [97, 112, 111, 115]
  · subst h5; rfl
  by_cases h6 : name = [110, 98, 115, 112]
  · subst h6; rfl
  rw [dF (fun e => h1 (bs_inj.1 e)), dF (fun e => h2 (bs_inj.1 e)), dF (fun e => h3 (bs_inj.1 e)), dF (fun e => h4 (bs_inj.1 e)), dF (fun e => h5 (bs_inj.1 e)), dF (fun e => h6 (bs_inj.1 e))]
  simp [h1, h2, h3, h4, h5, h6]
theorem has_prefix (n : Nat) (l p : List UInt8) : strings_HasPrefix n (bs l) (bs p) = some (p.isPrefixOf l) := by
  unfold strings_HasPrefix internal_stringslite_HasPrefix internal_stringslite_HasPrefix_k1
  rw [bs_size, bs_size]
  by_cases h : p.length ≤ l.length
  · rw [dT (by omega), show (0 : Int) = ((0 : Nat) : Int) from rfl, cutS_bs l (Nat.zero_le _) h, Option.bind_some, Option.bind_some, List.drop_zero]
    congr 1
    rw [Bool.eq_iff_iff, decide_eq_true_iff, bs_inj, List.isPrefixOf_iff_prefix, List.prefix_iff_eq_take]
    exact eq_comm
  · rw [dF (by omega), Option.bind_some]
    congr 1
    symm
    rw [Bool.eq_false_iff]
    intro e
    exact h (List.isPrefixOf_iff_prefix.1 e).length_le
theorem mark_entity_eq (n : Nat) (hn : 20 ≤ n) (name : List UInt8) : mark_entity n (bs name) = some (bs (entM name)) := by
  have tail : ∀ (l : List UInt8) (m : Nat), m ≤ l.length → cutS (bs l) (m : Int) (((bs l).size : Nat) : Int) = some (bs (l.drop m)) := fun l m h => by
    rw [bs_size, cutS_bs l h (Nat.le_refl _), List.take_length]
  unfold mark_entity
  rw [has_prefix, Option.bind_some]
  have k1f : ∀ l : List UInt8, ([35] : List UInt8).isPrefixOf l = false → mark_entity_k1 n (bs l) false = some (bs (namedM l)) := fun l h => by
    unfold mark_entity_k1
    rw [cond_false, has_prefix, Option.bind_some, h, cond_false, mark_named_eq]; rfl
  have k1t : ∀ l : List UInt8, mark_entity_k1 n (bs (35 :: l)) false = some (bs (numM 10 l)) := fun l => by
    unfold mark_entity_k1
    rw [cond_false, has_prefix, Option.bind_some, show ([35] : List UInt8).isPrefixOf (35 :: l) = true from by simp, cond_true]
    have := tail (35 :: l) 1 (by simp)
    rw [show ((1 : Nat) : Int) = 1 from rfl] at this
    rw [this, Option.bind_some, List.drop_succ_cons, List.drop_zero, mark_num dm_dg10 n hn]; rfl
  have k1x : ∀ (x : UInt8) (l : List UInt8), mark_entity_k1 n (bs (35 :: x :: l)) true = some (bs (numM 16 l)) := fun x l => by
    unfold mark_entity_k1
    rw [cond_true]
    have := tail (35 :: x :: l) 2 (by simp)
    rw [show ((2 : Nat) : Int) = 2 from rfl] at this
    rw [this, Option.bind_some, List.drop_succ_cons, List.drop_succ_cons, List.drop_zero, mark_num dm_dg16 n hn]; rfl
  cases name with
  | nil => exact k1f [] rfl
  | cons h t =>
    by_cases hh : h = 35
    · subst hh
      cases t with
      | nil => exact k1t []
      | cons x t' =>
        by_cases hx : x = 120
        · subst hx
          rw [show ([35, 120] : List UInt8).isPrefixOf (35 :: 120 :: t') = true from by simp, cond_true, k1x]; rfl
        · rw [show ([35, 120] : List UInt8).isPrefixOf (35 :: x :: t') = false from by simp [List.isPrefixOf, Ne.symm hx], cond_false, has_prefix, Option.bind_some]
          by_cases hx2 : x = 88
          · subst hx2
            rw [show ([35, 88] : List UInt8).isPrefixOf (35 :: 88 :: t') = true from by simp, k1x]; rfl
          · rw [show ([35, 88] : List UInt8).isPrefixOf (35 :: x :: t') = false from by simp [List.isPrefixOf, Ne.symm hx2], k1t]
            simp [entM, hx, hx2]
    · rw [show ([35, 120] : List UInt8).isPrefixOf (h :: t) = false from by simp [List.isPrefixOf, Ne.symm hh], cond_false, has_prefix, Option.bind_some]
      rw [show ([35, 88] : List UInt8).isPrefixOf (h :: t) = false from by simp [List.isPrefixOf, Ne.symm hh], k1f _ (by simp [List.isPrefixOf, Ne.symm hh])]
      simp [entM, hh]
/-- What mark makes of what stands behind a '&'. -/
def stepM (r : List UInt8) : Option (List UInt8 × List UInt8) := match semi (r.take 11) with
  | some e => if entM (r.take e) = [] then none else some (entM (r.take e), r.drop (e + 1))
  | none => none
theorem numM_num {base : Int} (hb : dg base 59 < 0) {t : List UInt8} {e : Nat} (he : semi t = some e) : (if numM base (t.take e) = [] then none else some (numM base (t.take e), t.drop (e + 1))) = (numR base t 0 0).map fun q => (chr q.1, q.2) := by
  rw [numR_semi hb, he]
  have hl := (semi_lt he).1
  have hlen : (t.take e).length = e := by rw [List.length_take]; omega
  simp only [Nat.zero_add]
  have hN : numM base (t.take e) = if e = 0 ∨ 8 < e then [] else (match foldD base (t.take e) 0 with | none => [] | some v => chr v) := by
    unfold numM
    have : (t.take e = [] ∨ 8 < (t.take e).length) ↔ (e = 0 ∨ 8 < e) := by rw [← List.length_eq_zero_iff, hlen]
    by_cases hp : e = 0 ∨ 8 < e
    · rw [if_pos (this.2 hp), if_pos hp]
    · rw [if_neg (mt this.1 hp), if_neg hp]
      cases foldD base (t.take e) 0 <;> rfl
  rw [hN]
  by_cases h : 1 ≤ e ∧ e ≤ 8
  · have hne : ¬ (e = 0 ∨ 8 < e) := by omega
    simp only [if_neg hne, if_pos h]
    cases foldD base (t.take e) 0 with
    | none => rfl
    | some v =>
      have := (chr_len v).1
      rw [if_neg (fun e0 => by simp only [e0, List.length_nil] at this; omega)]; rfl
  · have hne : e = 0 ∨ 8 < e := by omega
    simp only [if_pos hne, if_neg h]; rfl
theorem namedM_none {name r : List UInt8} (hf : words.find? (fun p => (p.1 ++ [59]).isPrefixOf r) = none) (hr : ∃ r2, r = name ++ 59 :: r2) : namedM name = [] := by
  unfold namedM
  have : words.find? (fun p => decide (name = p.1)) = none := by
    rw [List.find?_eq_none] at hf ⊢
    intro p hp h
    have := hf p hp
    obtain ⟨r2, rfl⟩ := hr
    have e := of_decide_eq_true h
    subst e
    exact this (List.isPrefixOf_iff_prefix.2 ⟨r2, by simp⟩)
  rw [this]
theorem num_none_semi {r : List UInt8} (h : semi r = none) : num r = none := by
  unfold num
  split
  · rename_i x t
    split
    · unfold semi at h
      split at h
      · cases h
      · rw [Option.map_eq_none_iff] at h
        have h1 := h
        unfold semi at h1
        split at h1
        · cases h1
        · rw [Option.map_eq_none_iff] at h1
          rw [numR_semi (by decide +kernel), h1, numR_semi (by decide +kernel), h]; simp
    · rfl
  · rfl
theorem stepM_ent (r : List UInt8) : stepM r = ent r := by
  unfold stepM ent
  rw [semi_take]
  cases hf : words.find? (fun p => (p.1 ++ [59]).isPrefixOf r) with
  | some p =>
    have h1 := List.mem_of_find?_eq_some hf
    have h2 := List.find?_some hf
    obtain ⟨r2, hr⟩ := List.isPrefixOf_iff_prefix.1 h2
    rw [List.append_assoc, List.singleton_append] at hr
    have hw : (∀ b ∈ p.1, b ≠ 59) ∧ p.1.length ≤ 4 ∧ entM p.1 = p.2 ∧ p.2 ≠ [] := by
      simp only [words, List.mem_cons, List.mem_nil_iff, or_false] at h1
      rcases h1 with rfl | rfl | rfl | rfl | rfl | rfl <;> exact ⟨by decide, by decide, by decide +kernel, by decide⟩
    rw [← hr, semi_word hw.1]
    have : (some p.1.length).filter (· < 11) = some p.1.length := by simp [Option.filter]; omega
    rw [this]
    simp only
    rw [List.take_left, hw.2.2.1, if_neg hw.2.2.2]
  | none =>
    simp only
    cases hs : semi r with
    | none => rw [num_none_semi hs]; rfl
    | some e =>
      obtain ⟨hlt, hr⟩ := semi_lt hs
      by_cases h35 : r.head? = some 35
      · obtain ⟨r1, rfl⟩ : ∃ r1, r = 35 :: r1 := by
          cases r with
          | nil => simp at h35
          | cons h t => simp at h35; subst h35; exact ⟨t, rfl⟩
        have hs1 : semi r1 = some (e - 1) ∧ 1 ≤ e := by
          unfold semi at hs
          rw [if_neg (by decide)] at hs
          obtain ⟨e', h1, rfl⟩ := Option.map_eq_some_iff.1 hs
          exact ⟨h1, by omega⟩
        obtain ⟨e, rfl⟩ : ∃ m, e = m + 1 := ⟨e - 1, by omega⟩
        simp only [Nat.add_sub_cancel] at hs1
        cases r1 with
        | nil => simp [semi] at hs1
        | cons x t =>
          by_cases hx : x = 120 ∨ x = 88
          · have hs2 : semi t = some (e - 1) ∧ 1 ≤ e := by
              have h1 := hs1.1
              unfold semi at h1
              rw [if_neg (by rcases hx with rfl | rfl <;> decide)] at h1
              obtain ⟨e', h9, rfl⟩ := Option.map_eq_some_iff.1 h1
              exact ⟨h9, by omega⟩
            obtain ⟨e, rfl⟩ : ∃ m, e = m + 1 := ⟨e - 1, by omega⟩
            simp only [Nat.add_sub_cancel] at hs2
            have e1 : num (35 :: x :: t) = (numR 16 t 0 0).map fun q => (chr q.1, q.2) := by simp only [num, if_pos hx, if_true]
            have e2 : entM ((35 :: x :: t).take (e + 1 + 1)) = numM 16 (t.take e) := by simp [entM, hx]
            rw [e1, ← numM_num (by decide +kernel) hs2.1]
            by_cases h11 : e + 1 + 1 < 11
            · have : (some (e + 1 + 1)).filter (· < 11) = some (e + 1 + 1) := by simp [Option.filter]; omega
              rw [this]
              simp only
              rw [e2]; rfl
            · have : (some (e + 1 + 1)).filter (· < 11) = none := by simp [Option.filter]; omega
              rw [this]
              have hl := (semi_lt hs2.1).1
              have : numM 16 (t.take e) = [] := by unfold numM; rw [if_pos (.inr (by rw [List.length_take]; omega))]
              rw [this]; rfl
          · have e1 : num (35 :: x :: t) = (numR 10 (x :: t) 0 0).map fun q => (chr q.1, q.2) := by simp only [num, if_neg hx, if_true]
            have e2 : entM ((35 :: x :: t).take (e + 1)) = numM 10 ((x :: t).take e) := by
              cases e with
              | zero => simp [entM]
              | succ e => simp [entM, hx]
            rw [e1, ← numM_num (by decide +kernel) hs1.1]
            by_cases h11 : e + 1 < 11
            · have : (some (e + 1)).filter (· < 11) = some (e + 1) := by simp [Option.filter]; omega
              rw [this]
              simp only
              rw [e2]; rfl
            · have : (some (e + 1)).filter (· < 11) = none := by simp [Option.filter]; omega
              rw [this]
              have hl := (semi_lt hs1.1).1
              have : numM 10 ((x :: t).take e) = [] := by unfold numM; rw [if_pos (.inr (by rw [List.length_take]; omega))]
              rw [this]; rfl
      · have e1 : num r = none := by
          unfold num
          split
          · rename_i h x t
            rw [if_neg (by intro e0; subst e0; exact h35 rfl)]
          · rfl
        rw [e1]
        have e2 : entM (r.take e) = [] := by
          have hn := namedM_none hf ⟨_, hr⟩
          unfold entM
          split
          · rename_i h t ht
            have : h ≠ 35 := by
              rintro rfl
              apply h35
              rw [hr, ht]; rfl
            rw [if_neg this]; exact hn
          · exact hn
        by_cases h11 : e < 11
        · have : (some e).filter (· < 11) = some e := by simp [Option.filter]; omega
          rw [this]
          simp only
          rw [if_pos e2]
        · have : (some e).filter (· < 11) = none := by simp [Option.filter]; omega
          rw [this]
end Go.Proofs.Ythmnohdlhlmmpaa
