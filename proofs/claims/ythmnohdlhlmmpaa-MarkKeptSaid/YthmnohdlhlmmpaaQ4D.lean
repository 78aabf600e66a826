/-
  Walks and laws of this seat; the base is the text Base.
-/
import Derived.Test.YthmnohdlhlmmpaaQ4C
namespace Go.Proofs.Ythmnohdlhlmmpaa
open Go.RowKit Go.Sl
def outE (l : List UInt8) : Option (List UInt8 × List UInt8) → ByteArray × Int
  | some q => (bs q.1, ((l.length - q.2.length : Nat) : Int))
  | none => (bs [], 0)
theorem outE_map (l : List UInt8) (o : Option (Int × List UInt8)) : outE l (o.map fun q => (chr q.1, q.2)) = outR l o := by cases o <;> rfl
theorem pre_at (pre r : List UInt8) (b : UInt8) (m : Nat) : (pre ++ b :: r)[pre.length + (m + 1)]? = r[m]? := by
  rw [List.getElem?_append_right (by omega)]
  simp [show pre.length + (m + 1) - pre.length = m + 1 by omega]
theorem ref_num (n : Nat) (hn : 20 ≤ n) (pre r : List UInt8) (hl : (pre ++ 38 :: r).length ≤ 1000000000000) : ref4_reference_k1 n (bs (pre ++ 38 :: r)) (pre.length : Int) = some (outE (pre ++ 38 :: r) (num r)) := by
  have hl2 := hl
  rw [List.length_append, List.length_cons] at hl2
  unfold ref4_reference_k1
  rw [w64_succ (by omega), bs_size]
  have hg : ∀ m, (pre ++ 38 :: r)[pre.length + (m + 1)]? = r[m]? := pre_at pre r 38
  have e0 : (pre ++ 38 :: r).length = pre.length + (r.length + 1) := by simp
  cases r with
  | nil =>
    rw [dT (by simp)]
    rfl
  | cons h r =>
    rw [dF (by simp; omega), getS_bs (i := pre.length + 1) (b := h) (by simp), Option.bind_some]
    unfold ref4_reference_k2
    by_cases hh : h = 35
    · subst hh
      rw [dF (by simp)]
      have ew : w64 ((pre.length : Int) + 2) = ((pre.length + 2 : Nat) : Int) := by rw [w64_id (by omega)]; omega
      rw [ew, bs_size]
      unfold ref4_reference_k3 ref4_reference_k4
      rw [ew]
      have run10 := ref_l8 n 10 r (pre ++ [38, 35]) (pre.length + 2) 0 0 n (by simpa using hl) (by simp) (by omega) (by omega)
      rw [List.append_assoc, show ([38, 35] : List UInt8) ++ r = 38 :: 35 :: r from rfl] at run10
      cases r with
      | nil =>
        rw [dF (by simp), cond_false]
        exact run10
      | cons x t =>
        rw [dT (by simp; omega), getS_bs (i := pre.length + 2) (b := x) (by simp), Option.bind_some]
        have run16 := ref_l8 n 16 t (pre ++ [38, 35, x]) (pre.length + 3) 0 0 n (by simpa using hl) (by simp) (by omega) (by omega)
        rw [List.append_assoc, show ([38, 35, x] : List UInt8) ++ t = 38 :: 35 :: x :: t from rfl] at run16
        have ew3 : w64 (((pre.length + 2 : Nat) : Int) + 1) = ((pre.length + 3 : Nat) : Int) := by rw [w64_succ (by omega)]
        rw [ew3]
        by_cases hx : x = 120
        · subst hx
          rw [dT (by decide), cond_true]
          have : num (35 :: 120 :: t) = (numR 16 t 0 0).map fun q => (chr q.1, q.2) := rfl
          rw [this, outE_map]
          exact run16
        · rw [dF (fun e => hx (UInt8.toNat_inj.1 (by simpa using (by omega : x.toNat = 120)))), Option.bind_some]
          by_cases hx2 : x = 88
          · subst hx2
            rw [dT (by decide)]
            have : num (35 :: 88 :: t) = (numR 16 t 0 0).map fun q => (chr q.1, q.2) := rfl
            rw [this, outE_map]
            exact run16
          · rw [dF (fun e => hx2 (UInt8.toNat_inj.1 (by simpa using (by omega : x.toNat = 88))))]
            have : num (35 :: x :: t) = (numR 10 (x :: t) 0 0).map fun q => (chr q.1, q.2) := by
              simp [num, hx, hx2]
            rw [this, outE_map]
            exact run10
    · rw [show decide ((h.toNat : Int) ≠ 35) = true from decide_eq_true (fun e => hh (UInt8.toNat_inj.1 (by simpa using (by omega : h.toNat = 35))))]
      have : num (h :: r) = none := by
        unfold num
        cases r <;> simp [hh]
      rw [this]; rfl
theorem ref_word (n k i : Nat) (p : List UInt8 × List UInt8) (hp : words[i]? = some p) (pre r : List UInt8) (hl : (pre ++ 38 :: r).length ≤ 1000000000000) :
    ref4_reference_l10 n (bs (pre ++ 38 :: r)) (pre.length : Int) (k + 1) (i : Int) =
      if (p.1 ++ [59]).isPrefixOf r = true then some (outE (pre ++ 38 :: r) (some (p.2, r.drop (p.1.length + 1)))) else ref4_reference_l10 n (bs (pre ++ 38 :: r)) (pre.length : Int) k ((i + 1 : Nat) : Int) := by
  have hl2 := hl
  rw [List.length_append, List.length_cons] at hl2
  have hi : i < 6 := (List.getElem?_eq_some_iff.1 hp).1
  have hw : p.1.length ≤ 4 := by
    have : p ∈ words := List.mem_of_getElem? hp
    simp only [words, List.mem_cons, List.mem_nil_iff, or_false] at this
    rcases this with rfl | rfl | rfl | rfl | rfl | rfl <;> simp
  have g1 : geti [(bs [38, 97, 109, 112, 59]), (bs [38, 108, 116, 59]), (bs [38, 103, 116, 59]), (bs [38, 113, 117, 111, 116, 59]), (bs [38, 97, 112, 111, 115, 59]), (bs [38, 110, 98, 115, 112, 59])] (i : Int) = some (bs (38 :: (p.1 ++ [59]))) := by
    rw [geti_nat]
    show (words.map fun q => bs (38 :: (q.1 ++ [59])))[i]? = _
    rw [List.getElem?_map, hp]; rfl
  have g2 : geti [(bs [38]), (bs [60]), (bs [62]), (bs [34]), (bs [39]), (bs [194, 160])] (i : Int) = some (bs p.2) := by
    rw [geti_nat]
    show (words.map fun q => bs q.2)[i]? = _
    rw [List.getElem?_map, hp]; rfl
  rw [ref4_reference_l10]
  rw [dT (by simp; omega)]
  rw [g1]
  simp only [Option.bind_some]
  have ew : w64 (((bs (pre ++ 38 :: r)).size : Int) - (pre.length : Int)) = ((r.length + 1 : Nat) : Int) := by
    rw [bs_size, List.length_append, List.length_cons, w64_id (by omega)]; omega
  have es : (bs (38 :: (p.1 ++ [59]))).size = p.1.length + 2 := by rw [bs_size]; simp
  rw [ew, es]
  have ew2 : w64 ((pre.length : Int) + ((p.1.length + 2 : Nat) : Int)) = ((pre.length + (p.1.length + 2) : Nat) : Int) := by rw [w64_id (by omega)]; omega
  rw [ew2]
  by_cases hf : p.1.length + 2 ≤ r.length + 1
  · rw [dT (by omega), cutS_bs _ (by omega) (by simp; omega), Option.bind_some]
    have e2 : ((pre ++ 38 :: r).take (pre.length + (p.1.length + 2))).drop pre.length = 38 :: r.take (p.1.length + 1) := by
      rw [List.take_append, List.take_of_length_le (by omega), show pre.length + (p.1.length + 2) - pre.length = p.1.length + 2 by omega, List.drop_left]
      rfl
    rw [e2]
    by_cases hpre : (p.1 ++ [59]).isPrefixOf r = true
    · rw [if_pos hpre]
      have h3 := List.isPrefixOf_iff_prefix.1 hpre
      have h4 : r.take (p.1.length + 1) = p.1 ++ [59] := by
        have := List.prefix_iff_eq_take.1 h3
        simpa using this.symm
      rw [h4, decide_eq_true (rfl : bs (38 :: (p.1 ++ [59])) = bs (38 :: (p.1 ++ [59])))]
      unfold ref4_reference_k11
      rw [cond_true, g2, Option.bind_some, g1, Option.bind_some, es, ew2]
      unfold outE
      simp only [List.length_drop, List.length_append, List.length_cons]
      congr 3
      omega
    · rw [if_neg hpre]
      have h4 : ¬ bs (38 :: r.take (p.1.length + 1)) = bs (38 :: (p.1 ++ [59])) := fun e => by
        have := bs_inj.1 e
        injection this with _ h5
        exact hpre (List.isPrefixOf_iff_prefix.2 (List.prefix_iff_eq_take.2 (by simpa using h5.symm)))
      rw [decide_eq_false h4]
      unfold ref4_reference_k11
      rw [cond_false, w64_succ (by omega)]
  · rw [dF (by omega)]
    have hpre : ¬ (p.1 ++ [59]).isPrefixOf r = true := fun h => by
      have := (List.isPrefixOf_iff_prefix.1 h).length_le
      simp at this; omega
    rw [if_neg hpre]
    unfold ref4_reference_k11
    rw [cond_false, w64_succ (by omega)]
theorem ref_words (n : Nat) (hn : 20 ≤ n) (pre r : List UInt8) (hl : (pre ++ 38 :: r).length ≤ 1000000000000) : ∀ (ps : List (List UInt8 × List UInt8)) (k i : Nat), words.drop i = ps → ps.length + 1 ≤ k → i + ps.length = 6 →
    ref4_reference_l10 n (bs (pre ++ 38 :: r)) (pre.length : Int) k (i : Int) = some (outE (pre ++ 38 :: r) (match ps.find? (fun p => (p.1 ++ [59]).isPrefixOf r) with | some p => some (p.2, r.drop (p.1.length + 1)) | none => num r))
  | [], k, i, hd, hk, hi => by
    obtain ⟨k, rfl⟩ : ∃ m, k = m + 1 := ⟨k - 1, by omega⟩
    simp only [List.length_nil, Nat.add_zero] at hi
    subst hi
    rw [ref4_reference_l10, dF (by decide)]
    exact ref_num n hn pre r hl
  | p :: ps, k, i, hd, hk, hi => by
    obtain ⟨k, rfl⟩ : ∃ m, k = m + 1 := ⟨k - 1, by omega⟩
    simp only [List.length_cons] at hi hk
    have hp : words[i]? = some p := by
      have := congrArg List.head? hd
      simpa [List.head?_drop] using this
    rw [ref_word n k i p hp pre r hl]
    by_cases hpre : (p.1 ++ [59]).isPrefixOf r = true
    · rw [if_pos hpre, List.find?_cons_of_pos (by simpa using hpre)]
    · rw [if_neg hpre, List.find?_cons_of_neg (by simpa using hpre)]
      exact ref_words n hn pre r hl ps k (i + 1) (by rw [← List.drop_drop, hd]; rfl) (by omega) (by omega)
theorem ref_reference (n : Nat) (hn : 20 ≤ n) (pre r : List UInt8) (hl : (pre ++ 38 :: r).length ≤ 1000000000000) : ref4_reference n (bs (pre ++ 38 :: r)) (pre.length : Int) = some (outE (pre ++ 38 :: r) (ent r)) := by
  unfold ref4_reference
  have := ref_words n hn pre r hl words n 0 rfl (by simp [words]; omega) (by simp [words])
  exact this
end Go.Proofs.Ythmnohdlhlmmpaa
