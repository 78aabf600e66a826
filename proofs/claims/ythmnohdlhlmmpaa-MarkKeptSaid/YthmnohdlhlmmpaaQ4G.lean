/-
  Walks and laws of this seat; the base is the text Base.
-/
import Derived.Test.YthmnohdlhlmmpaaQ4F
namespace Go.Proofs.Ythmnohdlhlmmpaa
open Go.RowKit Go.Sl
abbrev ints (l : List UInt8) : List Int := l.map fun b => (b.toNat : Int)
theorem numR_suffix (base : Int) : ∀ (t : List UInt8) (c : Nat) (v : Int) (q : Int × List UInt8), numR base t c v = some q → q.2 <:+ t
  | [], _, _, _, h => by simp [numR] at h
  | b :: t, c, v, q, h => by
    unfold numR at h
    split at h
    · split at h
      · exact (numR_suffix base t _ _ _ h).trans (List.suffix_cons ..)
      · cases h
    · split at h
      · cases h; exact List.suffix_cons ..
      · cases h
theorem ent_suffix {r : List UInt8} {q : List UInt8 × List UInt8} (h : ent r = some q) : q.2 <:+ r := by
  unfold ent at h
  split at h
  · cases h; exact List.drop_suffix ..
  · unfold num at h
    split at h
    · rename_i x t
      split at h
      · split at h
        · obtain ⟨p, h1, rfl⟩ := Option.map_eq_some_iff.1 h
          exact (numR_suffix _ _ _ _ _ h1).trans ((List.suffix_cons ..).trans (List.suffix_cons ..))
        · obtain ⟨p, h1, rfl⟩ := Option.map_eq_some_iff.1 h
          exact (numR_suffix _ _ _ _ _ h1).trans (List.suffix_cons ..)
      · cases h
    · cases h
theorem ref_un (n : Nat) (hn : 20 ≤ n) : ∀ (k : Nat) (pre r acc : List UInt8), (pre ++ r).length ≤ 1000000000000 → r.length + 1 ≤ k → acc.length + 4 * r.length ≤ 8000000000000 →
    ref4_Unescape_l2 n (bs (pre ++ r)) k (ints acc) (pre.length : Int) = some (bs (acc ++ un k r))
  | 0, _, _, _, _, hk, _ => by omega
  | k + 1, pre, [], acc, hl, hk, ha => by
    rw [ref4_Unescape_l2, dF (by rw [bs_size]; simp)]
    unfold ref4_Unescape_k1
    rw [bytesOf_map]
    simp [un]
  | k + 1, pre, b :: r, acc, hl, hk, ha => by
    have hl2 := hl
    rw [List.length_append] at hl2
    simp only [List.length_cons] at hk ha hl2
    have hg : getS (bs (pre ++ b :: r)) (pre.length : Int) = some (b.toNat : Int) := getS_bs (by simp)
    have plain : ref4_Unescape_k4 (bs (pre ++ b :: r)) (ints acc) (pre.length : Int) (ref4_Unescape_l2 n (bs (pre ++ b :: r)) k) = some (bs (acc ++ (b :: un k r))) := by
      unfold ref4_Unescape_k4 ref4_Unescape_k3
      rw [hg, Option.bind_some, appM_eq (by simp; omega), Option.bind_some, w64_succ (by omega)]
      have := ref_un n hn k (pre ++ [b]) r (acc ++ [b]) (by simpa using hl) (by omega) (by simp; omega)
      rw [List.append_assoc, List.singleton_append, List.length_append, List.length_singleton] at this
      simp only [ints, List.map_append, List.map_cons, List.map_nil, List.append_assoc, List.singleton_append] at this ⊢
      exact this
    rw [ref4_Unescape_l2, dT (by rw [bs_size]; simp; omega), hg, Option.bind_some]
    unfold un
    by_cases hb : b = 38
    · subst hb
      rw [show decide (((38 : UInt8).toNat : Int) = 38) = true from rfl, cond_true, ref_reference n hn pre r hl, Option.bind_some, if_pos rfl]
      cases he : ent r with
      | none =>
        unfold outE
        rw [show decide ((0 : Int) < 0) = false from rfl, cond_false]
        exact plain
      | some q =>
        obtain ⟨h1, h2, h3⟩ := ent_left he
        unfold outE
        rw [dT (by simp; omega)]
        simp only [bytesIn_bs]
        rw [appM_eq (by simp; omega), Option.bind_some]
        unfold ref4_Unescape_k3
        obtain ⟨mid, hm⟩ : ∃ mid, pre ++ 38 :: r = mid ++ q.2 := by
          obtain ⟨m, hm⟩ := ent_suffix he
          exact ⟨pre ++ 38 :: m, by rw [← hm]; simp⟩
        rw [hm]
        have hlm : mid.length = (pre ++ 38 :: r).length - q.2.length := by rw [hm]; simp
        have := ref_un n hn k mid q.2 (acc ++ q.1) (by rw [← hm]; exact hl) (by omega) (by simp; omega)
        rw [hlm, hm] at this
        simp only [ints, List.map_append, List.append_assoc] at this ⊢
        exact this
    · rw [dF (fun e => hb (UInt8.toNat_inj.1 (by simpa using (by omega : b.toNat = 38)))), if_neg hb]
      exact plain
theorem ref_Unescape (n : Nat) (l : List UInt8) (hl : l.length + 20 ≤ n) (hl2 : l.length ≤ 1000000000000) : ref4_Unescape n (bs l) = some (bs (un n l)) := by
  unfold ref4_Unescape
  have := ref_un n (by omega) n [] l [] (by simpa using hl2) (by omega) (by simp; omega)
  simpa using this
theorem mark_un (n : Nat) (hn : 20 ≤ n) : ∀ (k : Nat) (r acc : List UInt8) (u : Bool), r.length + 1 ≤ k → r.length ≤ 1000000000000 → acc.length + 4 * r.length ≤ 8000000000000 →
    mark_Unescape_l2 n k (bs r) u (ints acc) = some (bs (acc ++ un k r))
  | 0, _, _, _, hk, _, _ => by omega
  | k + 1, [], acc, u, hk, hl, ha => by
    rw [mark_Unescape_l2, dF (by simp)]
    unfold mark_Unescape_k1
    rw [bytesOf_map]
    simp [un]
  | k + 1, b :: r, acc, u, hk, hl, ha => by
    simp only [List.length_cons] at hk ha hl
    have hg : getS (bs (b :: r)) 0 = some (b.toNat : Int) := getS_bs (i := 0) rfl
    have tail : ∀ m : Nat, m ≤ r.length + 1 → cutS (bs (b :: r)) (m : Int) (((bs (b :: r)).size : Nat) : Int) = some (bs ((b :: r).drop m)) := fun m h => by
      rw [bs_size, cutS_bs (b :: r) (by simpa using h) (Nat.le_refl _), List.take_length]
    have plain : mark_Unescape_k4 n (bs (b :: r)) u (ints acc) (mark_Unescape_l2 n k) = some (bs (acc ++ (b :: un k r))) := by
      unfold mark_Unescape_k4 mark_Unescape_k3 builder_WriteByte
      have := tail 1 (by omega)
      rw [show ((1 : Nat) : Int) = 1 from rfl] at this
      rw [hg, Option.bind_some, appM_eq (by simp; omega), Option.bind_some, Option.bind_some, this, Option.bind_some]
      have := mark_un n hn k r (acc ++ [b]) true (by omega) (by omega) (by simp; omega)
      simp only [ints, List.map_append, List.map_cons, List.map_nil, List.append_assoc, List.singleton_append] at this ⊢
      exact this
    rw [mark_Unescape_l2, dT (p := bs (b :: r) ≠ bs []) (fun e => by have := bs_inj.1 e; cases this), hg, Option.bind_some]
    unfold un
    by_cases hb : b = 38
    · subst hb
      rw [show decide (((38 : UInt8).toNat : Int) = 38) = true from rfl, cond_true, if_pos rfl]
      have e12 : (bif decide (12 < ((bs (38 :: r)).size : Int)) then (12 : Int) else ((bs (38 :: r)).size : Int)) = ((min 12 (r.length + 1) : Nat) : Int) := by
        rw [bs_size, List.length_cons]
        by_cases h12 : 12 < r.length + 1
        · rw [dT (by omega)]; omega
        · rw [dF (by omega)]; omega
      have c12 : cutS (bs (38 :: r)) 0 ((min 12 (r.length + 1) : Nat) : Int) = some (bs (38 :: r.take 11)) := by
        rw [show (0 : Int) = ((0 : Nat) : Int) from rfl, cutS_bs _ (Nat.zero_le _) (by simp; omega), List.drop_zero]
        congr 2
        by_cases h12 : 12 ≤ r.length + 1
        · rw [Nat.min_eq_left h12]; rfl
        · rw [Nat.min_eq_right (by omega)]
          rw [List.take_of_length_le (by simp), List.take_of_length_le (by omega)]
      rw [e12, c12, Option.bind_some]
      unfold strings_IndexByte
      rw [Option.bind_some, show Int.toNat 59 = 59 from rfl, show Nat.toUInt8 59 = (59 : UInt8) from rfl]
      have eix : Go.Lib.indexByte (bs (38 :: r.take 11)).data.toList 59 = match semi (r.take 11) with | none => -1 | some e => (e : Int) + 1 := by
        have : (bs (38 :: r.take 11)).data.toList = 38 :: r.take 11 := by simp
        rw [this, semi_idx, semi, if_neg (by decide)]
        cases semi (r.take 11) <;> simp
      rw [eix, ← stepM_ent]
      unfold stepM
      cases hs : semi (r.take 11) with
      | none =>
        simp only
        rw [show decide ((0 : Int) < -1) = false from rfl, cond_false]
        exact plain
      | some e =>
        simp only
        obtain ⟨h1, _⟩ := semi_lt hs
        rw [List.length_take] at h1
        rw [dT (by omega)]
        have c1 : cutS (bs (38 :: r)) 1 ((e : Int) + 1) = some (bs (r.take e)) := by
          have := cutS_bs (38 :: r) (lo := 1) (hi := e + 1) (by omega) (by simp; omega)
          rw [show ((e + 1 : Nat) : Int) = (e : Int) + 1 from by omega] at this
          simpa using this
        rw [c1, Option.bind_some, mark_entity_eq n hn, Option.bind_some]
        by_cases h0 : entM (r.take e) = []
        · rw [if_pos h0, dF (p := bs (entM (r.take e)) ≠ bs []) (fun h => h (by rw [h0]))]
          unfold mark_Unescape_k5
          exact plain
        · rw [if_neg h0, dT (p := bs (entM (r.take e)) ≠ bs []) (fun h => h0 (bs_inj.1 h))]
          have hE : ent r = some (entM (r.take e), r.drop (e + 1)) := by
            rw [← stepM_ent]; unfold stepM; rw [hs]; simp only; rw [if_neg h0]
          obtain ⟨h5, h6, h7⟩ := ent_left hE
          simp only at h5 h6 h7
          unfold builder_WriteString mark_Unescape_k3
          simp only [bytesIn_bs]
          rw [appM_eq (by simp; omega), Option.bind_some, Option.bind_some]
          have e2 : w64 ((e : Int) + 1 + 1) = ((e + 2 : Nat) : Int) := by rw [w64_id (by omega)]; omega
          rw [e2, tail (e + 2) (by omega), Option.bind_some]
          have := mark_un n hn k (r.drop (e + 1)) (acc ++ entM (r.take e)) true (by omega) (by omega) (by simp at h5 ⊢; omega)
          simp only [ints, List.map_append, List.append_assoc] at this ⊢
          exact this
    · rw [dF (fun e => hb (UInt8.toNat_inj.1 (by simpa using (by omega : b.toNat = 38)))), if_neg hb]
      exact plain
theorem mark_Unescape_eq (n : Nat) (l : List UInt8) (hl : l.length + 20 ≤ n) (hl2 : l.length ≤ 1000000000000) : mark_Unescape n (bs l) = some (bs (un n l)) := by
  unfold mark_Unescape
  have := mark_un n (by omega) n l [] false (by omega) hl2 (by simp; omega)
  simpa using this
end Go.Proofs.Ythmnohdlhlmmpaa
