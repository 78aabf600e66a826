/-
  Walks and laws of this seat; the base is the text Base.
-/
import Derived.Test.YthmnohdlhlmmpaaQ4B
namespace Go.Proofs.Ythmnohdlhlmmpaa
open Go.RowKit Go.Sl
theorem dT {α : Type} {p : Prop} [Decidable p] (h : p) {a b : α} : (bif decide p then a else b) = a := by rw [decide_eq_true h]; rfl
theorem dF {α : Type} {p : Prop} [Decidable p] (h : ¬ p) {a b : α} : (bif decide p then a else b) = b := by rw [decide_eq_false h]; rfl
/-! Character references, on bytes. -/
def numR (base : Int) : List UInt8 → Nat → Int → Option (Int × List UInt8)
  | [], _, _ => none
  | b :: t, c, v => if 0 ≤ dg base b then (if c < 9 then numR base t (c + 1) (w64 (w64 (v * base) + dg base b)) else none)
      else if b = 59 ∧ 1 ≤ c ∧ c ≤ 8 then some (v, t) else none
def fixV (v : Int) : Int := bif ((decide (v = 0)) || ((decide (1114111 < v)) || ((decide (55296 ≤ v)) && (decide (v ≤ 57343))))) then 65533 else v
def chr (v : Int) : List UInt8 := (Utf8.encode (IntKind.i32.wrap (fixV v))).data.toList
theorem bs_chr (v : Int) : bs (chr v) = Utf8.encode (IntKind.i32.wrap (fixV v)) := (bs_data _).symm
theorem chr_len (v : Int) : 1 ≤ (chr v).length ∧ (chr v).length ≤ 4 := by
  obtain ⟨b, t, h, h2⟩ := enc_head (IntKind.i32.wrap (fixV v))
  unfold chr
  rw [h]
  simp; omega
def words : List (List UInt8 × List UInt8) := [([97, 109, 112], [38]), ([108, 116], [60]), ([103, 116], [62]), ([113, 117, 111, 116], [34]), ([97, 112, 111, 115], [39]), ([110, 98, 115, 112], [194, 160])]
def num (r : List UInt8) : Option (List UInt8 × List UInt8) := match r with
  | h :: x :: t => if h = 35 then (if x = 120 ∨ x = 88 then (numR 16 t 0 0).map fun q => (chr q.1, q.2) else (numR 10 (x :: t) 0 0).map fun q => (chr q.1, q.2)) else none
  | _ => none
/-- What stands behind a '&': the bytes that it means, and what is left. -/
def ent (r : List UInt8) : Option (List UInt8 × List UInt8) := match words.find? (fun p => (p.1 ++ [59]).isPrefixOf r) with
  | some p => some (p.2, r.drop (p.1.length + 1))
  | none => num r
def un : Nat → List UInt8 → List UInt8
  | 0, _ => []
  | _ + 1, [] => []
  | k + 1, b :: r => if b = 38 then (match ent r with
    | some q => q.1 ++ un k q.2
    | none => b :: un k r) else b :: un k r
theorem numR_left (base : Int) : ∀ (t : List UInt8) (c : Nat) (v : Int) (q : Int × List UInt8), numR base t c v = some q → q.2.length < t.length
  | [], _, _, _, h => by simp [numR] at h
  | b :: t, c, v, q, h => by
    unfold numR at h
    split at h
    · split at h
      · have := numR_left base t _ _ _ h
        simp; omega
      · cases h
    · split at h
      · cases h; simp
      · cases h
theorem num_left {r : List UInt8} {q : List UInt8 × List UInt8} (h : num r = some q) : q.2.length < r.length ∧ 1 ≤ q.1.length ∧ q.1.length ≤ 4 := by
  unfold num at h
  split at h
  · rename_i x t
    split at h
    · split at h
      · obtain ⟨p, h1, rfl⟩ := Option.map_eq_some_iff.1 h
        have := numR_left _ _ _ _ _ h1
        exact ⟨by simp; omega, chr_len _⟩
      · obtain ⟨p, h1, rfl⟩ := Option.map_eq_some_iff.1 h
        have := numR_left _ _ _ _ _ h1
        exact ⟨by simp at this ⊢; omega, chr_len _⟩
    · cases h
  · cases h
theorem ent_left {r : List UInt8} {q : List UInt8 × List UInt8} (h : ent r = some q) : q.2.length < r.length ∧ 1 ≤ q.1.length ∧ q.1.length ≤ 4 := by
  unfold ent at h
  split at h
  · rename_i p hp
    cases h
    have h1 := List.mem_of_find?_eq_some hp
    have h2 := List.find?_some hp
    have h3 := (List.isPrefixOf_iff_prefix.1 h2).length_le
    simp only [List.length_append, List.length_singleton] at h3
    refine ⟨by simp; omega, ?_⟩
    simp only [words, List.mem_cons, List.mem_nil_iff, or_false] at h1
    rcases h1 with rfl | rfl | rfl | rfl | rfl | rfl <;> simp
  · exact num_left h
/-! The reference's reader computes it. -/
def outR (l : List UInt8) : Option (Int × List UInt8) → ByteArray × Int
  | some q => (bs (chr q.1), ((l.length - q.2.length : Nat) : Int))
  | none => (bs [], 0)
theorem ref_k6 {l t : List UInt8} {k : Nat} {v : Int} (hl : l.length ≤ 1000000000000) (hk : k + 1 + t.length = l.length) : ref4_reference_k6 (k : Int) v false = some (outR l (some (v, t))) := by
  unfold ref4_reference_k6 ref4_reference_k7 outR
  simp only [cond_false, bs_chr]
  have e : w64 ((k : Int) + 1) = ((l.length - t.length : Nat) : Int) := by rw [w64_succ (by omega)]; omega
  unfold fixV
  cases ((decide (v = 0)) || ((decide (1114111 < v)) || ((decide (55296 ≤ v)) && (decide (v ≤ 57343))))) with
  | true => simp only [cond_true, e, textOf_one]
  | false => simp only [cond_false, e, textOf_one]
theorem ref_k5 {pre t : List UInt8} {j c : Nat} {v : Int} (hl : (pre ++ t).length ≤ 1000000000000) (hp : pre.length = j + c) (o : Option (Int × List UInt8))
    (ho : o = match t with
      | b :: t' => if b = 59 ∧ 1 ≤ c ∧ c ≤ 8 then some (v, t') else none
      | [] => none) : ref4_reference_k5 (bs (pre ++ t)) (j : Int) ((j + c : Nat) : Int) v = some (outR (pre ++ t) o) := by
  have hl' := hl
  rw [List.length_append] at hl
  unfold ref4_reference_k5
  by_cases h0 : c = 0
  · rw [dT (by omega)]
    have : o = none := by subst ho; cases t <;> simp [h0]
    subst this; rfl
  rw [dF (by omega)]
  have ew : w64 (((j + c : Nat) : Int) - (j : Int)) = (c : Int) := by rw [w64_id (by omega)]; omega
  rw [ew]
  by_cases h8 : 8 < c
  · rw [dT (by omega)]
    have : o = none := by subst ho; cases t <;> simp; omega
    subst this; rfl
  rw [dF (by omega)]
  cases t with
  | nil =>
    rw [dT (by rw [bs_size]; simp; omega)]
    subst ho; rfl
  | cons b t' =>
    replace ho : o = if b = 59 ∧ 1 ≤ c ∧ c ≤ 8 then some (v, t') else none := ho
    rw [dF (by rw [bs_size]; simp; omega)]
    have hb : (pre ++ b :: t')[j + c]? = some b := by rw [← hp]; simp
    rw [getS_bs hb, Option.bind_some]
    by_cases h59 : b = 59
    · subst h59
      rw [if_pos ⟨rfl, by omega, by omega⟩] at ho
      subst ho
      exact ref_k6 hl' (by simp; omega)
    · rw [if_neg (by simp [h59])] at ho
      subst ho
      have : ((b.toNat : Int)) ≠ 59 := fun e => h59 (UInt8.toNat_inj.1 (by simpa using (by omega : b.toNat = 59)))
      rw [decide_eq_true this]
      rfl
theorem ref_l8 (n : Nat) (base : Int) : ∀ (t pre : List UInt8) (j c : Nat) (v : Int) (k : Nat), (pre ++ t).length ≤ 1000000000000 → pre.length = j + c → c ≤ 9 → 10 ≤ k + c →
    ref4_reference_l8 n (bs (pre ++ t)) (j : Int) base k ((j + c : Nat) : Int) v = some (outR (pre ++ t) (numR base t c v))
  | [], pre, j, c, v, k, hl, hp, hc, hk => by
    obtain ⟨k, rfl⟩ : ∃ m, k = m + 1 := ⟨k - 1, by omega⟩
    unfold ref4_reference_l8
    rw [dF (by rw [bs_size]; simp; omega)]
    unfold ref4_reference_k9
    rw [cond_false]
    exact ref_k5 hl hp _ rfl
  | b :: t, pre, j, c, v, k, hl, hp, hc, hk => by
    obtain ⟨k, rfl⟩ : ∃ m, k = m + 1 := ⟨k - 1, by omega⟩
    have hl2 := hl
    rw [List.length_append] at hl2
    unfold ref4_reference_l8
    rw [dT (by rw [bs_size]; simp; omega)]
    have hb : (pre ++ b :: t)[j + c]? = some b := by rw [← hp]; simp
    rw [getS_bs hb, Option.bind_some, ref_digit, Option.bind_some]
    unfold numR
    by_cases hd : 0 ≤ dg base b
    · rw [dT hd, if_pos hd]
      have ew : w64 (((j + c : Nat) : Int) - (j : Int)) = (c : Int) := by rw [w64_id (by omega)]; omega
      rw [ew]
      unfold ref4_reference_k9
      by_cases h9 : c < 9
      · rw [if_pos h9, dT (by omega), getS_bs hb, Option.bind_some, ref_digit, Option.bind_some, w64_succ (by omega)]
        have := ref_l8 n base t (pre ++ [b]) j (c + 1) (w64 (w64 (v * base) + dg base b)) k (by simpa using hl) (by simp; omega) (by omega) (by omega)
        rw [List.append_assoc, List.singleton_append] at this
        exact this
      · rw [if_neg h9, dF (by omega)]
        exact ref_k5 hl hp _ (by simp; omega)
    · rw [dF hd, if_neg hd]
      unfold ref4_reference_k9
      rw [cond_false]
      exact ref_k5 hl hp _ rfl
end Go.Proofs.Ythmnohdlhlmmpaa
