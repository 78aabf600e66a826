/-
  Walks and laws of this seat; the base is the text Base.
-/
import Derived.Test.YthmnohdlhlmmpaaQ4Y
namespace Go.Proofs.Ythmnohdlhlmmpaa
open Go.RowKit Go.Sl
variable {n : Nat} {pre r : List Int}
theorem at_pre (pre r : List Int) (m : Nat) : geti (pre ++ r) ((pre.length + m : Nat) : Int) = r[m]? := by
  rw [geti_nat, List.getElem?_append_right (by omega)]
  congr 1; omega
/-- Is this text here? (ASCII: its bytes are its runes) -/
theorem ref_is_l2 {s : List UInt8} (hb : pre.length + r.length ≤ 1000000000) (hs : s.length ≤ 1000) : ∀ (d j k : Nat), j + d = s.length → d + 1 ≤ k →
    ref4_is_l2 (pre ++ r) (pre.length : Int) (bs s) k (j : Int) = some (((s.map fun b => (b.toNat : Int)).drop j).isPrefixOf (r.drop j))
  | 0, j, k, hj, hk => by
    obtain ⟨k, rfl⟩ : ∃ i, k = i + 1 := ⟨k - 1, by omega⟩
    rw [ref4_is_l2, dF (by rw [bs_size]; omega), List.drop_eq_nil_of_le (by simp; omega)]
    simp [ref4_is_k1]
  | d + 1, j, k, hj, hk => by
    obtain ⟨k, rfl⟩ : ∃ i, k = i + 1 := ⟨k - 1, by omega⟩
    have hlt : j < s.length := by omega
    have hlt2 : j < (s.map fun b => (b.toNat : Int)).length := by simpa using hlt
    rw [ref4_is_l2, dT (by rw [bs_size]; omega), w64_id (by omega), show (pre.length : Int) + (j : Int) = ((pre.length + j : Nat) : Int) by omega]
    rw [List.drop_eq_getElem_cons hlt2]
    by_cases h : j < r.length
    · rw [dF (by simp; omega), at_pre, List.getElem?_eq_getElem h, Option.bind_some, getS_bs (List.getElem?_eq_getElem hlt), Option.bind_some, List.drop_eq_getElem_cons h]
      have h256 := s[j].toNat_lt
      rw [wr_i32 (by omega)]
      unfold ref4_is_k3
      rw [List.getElem_map]
      by_cases he : r[j] = (s[j].toNat : Int)
      · rw [decide_eq_false (by simpa using he), cond_false, w64_succ (by omega), ref_is_l2 hb hs d (j + 1) k (by omega) (by omega)]
        simp [List.isPrefixOf, he]
      · rw [decide_eq_true he, cond_true]
        simp [List.isPrefixOf, Ne.symm he]
    · have e0 : r.drop j = [] := List.drop_eq_nil_of_le (by omega)
      rw [dT (by simp; omega), e0]
      rfl
theorem ref_is {s : List UInt8} (hb : pre.length + r.length ≤ 1000000000) (hs : s.length ≤ 1000) (hn : s.length + 1 ≤ n) : ref4_is n (pre ++ r) (pre.length : Int) (bs s) = some ((s.map fun b => (b.toNat : Int)).isPrefixOf r) := by
  unfold ref4_is
  exact ref_is_l2 hb hs s.length 0 n (by omega) hn
end Go.Proofs.Ythmnohdlhlmmpaa
