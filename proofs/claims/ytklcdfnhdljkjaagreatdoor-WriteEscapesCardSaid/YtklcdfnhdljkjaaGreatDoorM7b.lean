/-
  Walks and laws of this seat; the base is the text Base.
-/
import Derived.Test.YtklcdfnhdljkjaaGreatDoorM7a
import Derived.Test.YtklcdfnhdljkjaaGreatDoorS7z
import Derived.Test.YtklcdfnhdljkjaaGreatDoorL7ve
namespace Go.Proofs.YtklcdfnhdljkjaaGreatDoor
open Go.RowKit Go.Sl
theorem runesL_len : ∀ (m : Nat) (l : List Nat), (runesL m l).length ≤ m
  | 0, l => by simp [runesL]
  | m + 1, [] => by simp [runesL]
  | m + 1, b :: l => by
    have := runesL_len m ((b :: l).drop (decL (b :: l)).2)
    simp only [runesL, List.length_cons]
    omega
theorem runesIn_len (s : ByteArray) : (runesIn s).length ≤ s.size := by
  rw [runesIn_list, runesS, ← byL_length]
  exact runesL_len _ _
theorem valid_loop {xs : List Int} (hv : ∀ x ∈ xs, Utf8.valid x = true) (hl : xs.length ≤ 1000000) : ∀ (k i : Nat), xs.length - i < k → i ≤ xs.length → keep_Valid_l2 xs k i = some true
  | 0, _, h, _ => absurd h (Nat.not_lt_zero _)
  | k + 1, i, hk, hi => by
    rw [keep_Valid_l2]
    by_cases h : i < xs.length
    · have hx := hv _ (List.getElem_mem h)
      have hb : 0 ≤ xs[i] ∧ xs[i] ≤ 1114111 ∧ (55296 ≤ xs[i] → ¬ xs[i] ≤ 57343) := by simp [Utf8.valid] at hx; omega
      have hg : geti xs (i : Int) = some xs[i] := by
        unfold geti
        rw [if_pos (by omega), Int.toNat_natCast, List.getElem?_eq_getElem h]
      have hw : w64 ((i : Int) + 1) = ((i + 1 : Nat) : Int) := by
        show IntKind.i64.wrap _ = _
        rw [wr_i64 (by omega)]; omega
      have ih := valid_loop hv hl k (i + 1) (by omega) h
      have e3 : keep_Valid_k3 (i : Int) (keep_Valid_l2 xs k) false = some true := by
        unfold keep_Valid_k3
        rw [cond_false, hw, ih]
      rw [decide_eq_true (show (i : Int) < (xs.length : Int) by omega), cond_true, hg, Option.bind_some, decide_eq_false (show ¬ xs[i] < 0 by omega), cond_false, Option.bind_some, decide_eq_false (show ¬ 1114111 < xs[i] by omega), cond_false, Option.bind_some]
      by_cases h5 : 55296 ≤ xs[i]
      · rw [decide_eq_true h5, cond_true, Option.bind_some, decide_eq_false (hb.2.2 h5), e3]
      · rw [decide_eq_false h5, cond_false, e3]
    · rw [decide_eq_false (show ¬ (i : Int) < (xs.length : Int) by omega), cond_false]; rfl
theorem few_ok (n : Nat) (s : ByteArray) : ∃ t, keep_Few n s 1000 = some t ∧ t.size ≤ 1000 := by
  unfold keep_Few
  by_cases h : (1000 : Int) < (s.size : Int)
  · refine ⟨s.extract 0 1000, ?_, by rw [ByteArray.size_extract]; omega⟩
    rw [decide_eq_true h, cond_true, cutS, show (decide ((0 : Int) ≤ 0) && decide ((0 : Int) ≤ 1000) && decide ((1000 : Int) ≤ (s.size : Int))) = true by rw [decide_eq_true (show (1000 : Int) ≤ (s.size : Int) by omega)]; rfl]
    rfl
  · refine ⟨s, ?_, by omega⟩
    rw [decide_eq_false h, cond_false]
theorem law7_WriteEscapes_true {s : ByteArray} {q : Bool} (_ : Sstr s) (_ : (Sany (α := Bool)) q) : ∃ n, law7_WriteEscapes n s q = some true := by
  refine ⟨2000 + 60, ?_⟩
  obtain ⟨t, h1, h2⟩ := few_ok (2000 + 60) s
  have hlen := runesIn_len t
  have hk := known7 2000
  unfold law7_WriteEscapes
  rw [h1, Option.bind_some, runesM, decide_eq_true (show t.size ≤ 70368744177664 by omega), cond_true, Option.bind_some]
  have hval : keep_Valid (2000 + 60) (runesIn t) = some true := valid_loop (runesIn_valid t) (by omega) _ 0 (by omega) (Nat.zero_le _)
  rw [hval, Option.bind_some, Bool.not_true, cond_false, Option.bind_some]
  unfold law7_WriteEscapes_k1
  by_cases h : textOf (runesIn t) = t
  · rw [decide_eq_false (show ¬ textOf (runesIn t) ≠ t from fun x => x h), cond_false, write_Escape, decide_eq_true (show t.size ≤ 1099511627776 by omega), cond_true, Option.bind_some, ref_escape h (by omega) (by omega), Option.bind_some, decide_eq_true rfl, cond_true, hk]
    rfl
  · rw [decide_eq_true (show textOf (runesIn t) ≠ t from h), cond_true, hk]
    rfl
end Go.Proofs.YtklcdfnhdljkjaaGreatDoor
