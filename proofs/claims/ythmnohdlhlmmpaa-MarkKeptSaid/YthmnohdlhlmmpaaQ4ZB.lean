/-
  Walks and laws of this seat; the base is the text Base.
-/
import Derived.Test.YthmnohdlhlmmpaaQ4ZA
namespace Go.Proofs.Ythmnohdlhlmmpaa
open Go.RowKit Go.Sl
variable {n : Nat} {pre r : List Int}
theorem geti0 (pre r : List Int) (x : Int) : geti (pre ++ x :: r) (pre.length : Int) = some x := by
  have := at_pre pre (x :: r) 0
  rwa [Nat.add_zero, List.getElem?_cons_zero] at this
theorem cutM_mid {α : Type} (a b c : List α) : cutM (a ++ (b ++ c)) (a.length : Int) ((a.length + b.length : Nat) : Int) = some b := by
  unfold cutM
  rw [decide_eq_true (by omega), decide_eq_true (by omega), decide_eq_true (by simp only [List.length_append]; omega)]
  rw [Int.toNat_natCast, Int.toNat_natCast, ← List.append_assoc, List.take_left' (by simp)]
  simp
/-- A loop that goes on while the rest is as q says. -/
theorem scan {α : Type} {L : List Int} (hL : L.length ≤ 1000000000) {F : Nat → Int → Option α} {G : Int → Option α} {q : List Int → Bool} {c : List Int → Nat}
    (c0 : c [] = 0) (c1 : ∀ x r, c (x :: r) = bif q (x :: r) then c r + 1 else 0)
    (f0 : ∀ k, F (k + 1) (L.length : Int) = G (L.length : Int))
    (f1 : ∀ k pre x r, L = pre ++ x :: r → F (k + 1) (pre.length : Int) = bif q (x :: r) then F k (w64 ((pre.length : Int) + 1)) else G (pre.length : Int)) :
    ∀ (r pre : List Int) (k : Nat), L = pre ++ r → r.length + 1 ≤ k → F k (pre.length : Int) = G ((pre.length + c r : Nat) : Int)
  | [], pre, k, hl, hk => by
    obtain ⟨k, rfl⟩ : ∃ i, k = i + 1 := ⟨k - 1, by omega⟩
    rw [List.append_nil] at hl
    subst hl
    rw [f0, c0, Nat.add_zero]
  | x :: r, pre, k, hl, hk => by
    obtain ⟨k, rfl⟩ : ∃ i, k = i + 1 := ⟨k - 1, by omega⟩
    have hlen := congrArg List.length hl
    simp only [List.length_append, List.length_cons] at hlen hk
    rw [f1 k pre x r hl, c1]
    cases hq : q (x :: r) with
    | true =>
      have ih := scan hL c0 c1 f0 f1 r (pre ++ [x]) k (by simpa using hl) (by omega)
      rw [List.length_append, List.length_singleton] at ih
      rw [cond_true, cond_true, w64_succ (by omega), ih, show pre.length + 1 + c r = pre.length + (c r + 1) by omega]
    | false => rfl
def hdB (p : Int → Bool) : List Int → Bool
  | [] => false
  | x :: _ => p x
def twc (p : Int → Bool) (r : List Int) : Nat := (r.takeWhile p).length
theorem twc_cons (p : Int → Bool) (x : Int) (r : List Int) : twc p (x :: r) = bif hdB p (x :: r) then twc p r + 1 else 0 := by
  unfold twc hdB
  rw [List.takeWhile_cons]
  simp only
  cases p x <;> simp
theorem ref_blank (x : Int) : ref4_Blank n x = some (blankB x) := rfl
theorem ref_blanks (hb : pre.length + r.length ≤ 1000000000) (hn : r.length + 1 ≤ n) : ref4_blanks n (pre ++ r) (pre.length : Int) = some ((pre.length + (r.takeWhile blankB).length : Nat) : Int) := by
  unfold ref4_blanks
  refine scan (L := pre ++ r) (by simpa using hb) (G := ref4_blanks_k1) (c := twc blankB) rfl (twc_cons blankB) ?_ ?_ r pre n rfl hn
  · intro k
    rw [ref4_blanks_l2, dF (by omega)]; rfl
  · intro k p x r' hl
    rw [hl, ref4_blanks_l2, dT (by simp; omega), geti0, Option.bind_some, ref_blank, Option.bind_some]
    rfl
theorem ref_behind {s : List UInt8} {xs : List Int} (hx : s.map (fun b => (b.toNat : Int)) = xs) (hs : 1 ≤ s.length ∧ s.length ≤ 1000) (hn2 : s.length + 1 ≤ n) : ∀ (r pre : List Int) (k : Nat), pre.length + r.length ≤ 100000000 → r.length + 1 ≤ k →
    ∃ pre', pre' ++ skipS xs r = pre ++ r ∧ ref4_behind_l2 n (pre ++ r) (bs s) k (pre.length : Int) = some (pre'.length : Int)
  | [], pre, k, hb, hk => by
    obtain ⟨k, rfl⟩ : ∃ i, k = i + 1 := ⟨k - 1, by omega⟩
    refine ⟨pre, rfl, ?_⟩
    rw [ref4_behind_l2, dF (by simp)]
    simp [ref4_behind_k1]
  | x :: r, pre, k, hb, hk => by
    obtain ⟨k, rfl⟩ : ∃ i, k = i + 1 := ⟨k - 1, by omega⟩
    have hb' := hb
    simp only [List.length_cons] at hb hk
    rw [ref4_behind_l2, dT (by simp; omega), ref_is (by omega) hs.2 hn2, Option.bind_some, hx]
    unfold skipS
    cases hp : xs.isPrefixOf (x :: r) with
    | true =>
      obtain ⟨t, ht⟩ := List.isPrefixOf_iff_prefix.1 hp
      have hxl : xs.length = s.length := by rw [← hx]; simp
      have hlen := congrArg List.length ht
      simp only [List.length_append, List.length_cons] at hlen
      rw [cond_true, cond_true]
      refine ⟨pre ++ xs, ?_, ?_⟩
      · rw [← ht]; simp
      · rw [bs_size, w64_id (by omega), List.length_append, hxl]
        rfl
    | false =>
      obtain ⟨pre', h1, h2⟩ := ref_behind hx hs hn2 r (pre ++ [x]) k (by simp; omega) (by omega)
      rw [cond_false, cond_false, w64_succ (by omega)]
      refine ⟨pre', by simpa using h1, ?_⟩
      rw [List.append_assoc, List.singleton_append, List.length_append, List.length_singleton] at h2
      exact h2
theorem ref_add_l2 (al : List api_Attr) (a : api_Attr) (hb : al.length ≤ 64) : ∀ (d j k : Nat), j + d = al.length → d + 1 ≤ k → ref4_add_l2 al a k (j : Int) = bif (al.drop j).any fun b => decide (b.Name = a.Name) then some al else ref4_add_k1 al a
  | 0, j, k, hj, hk => by
    obtain ⟨k, rfl⟩ : ∃ i, k = i + 1 := ⟨k - 1, by omega⟩
    rw [ref4_add_l2, dF (by omega), List.drop_eq_nil_of_le (by omega)]; rfl
  | d + 1, j, k, hj, hk => by
    obtain ⟨k, rfl⟩ : ∃ i, k = i + 1 := ⟨k - 1, by omega⟩
    have hlt : j < al.length := by omega
    rw [ref4_add_l2, dT (by omega), geti_nat, List.getElem?_eq_getElem hlt, Option.bind_some, List.drop_eq_getElem_cons hlt, List.any_cons]
    by_cases h : al[j].Name = a.Name
    · rw [dT h, decide_eq_true h]; rfl
    · rw [dF h, w64_succ (by omega), ref_add_l2 al a hb d (j + 1) k (by omega) (by omega), decide_eq_false h, Bool.false_or]
theorem ref_add (al : List api_Attr) (a : api_Attr) (hb : al.length ≤ 64) (hn : 100 ≤ n) : ref4_add n al a = some (addA al a) := by
  unfold ref4_add
  have := ref_add_l2 al a hb al.length 0 n (by omega) (by omega)
  rw [show ((0 : Nat) : Int) = 0 from rfl, List.drop_zero] at this
  rw [this]
  unfold addA ref4_add_k1
  cases (al.any fun b => decide (b.Name = a.Name)) with
  | true => rw [Bool.not_true, Bool.and_false]; rfl
  | false =>
    rw [cond_false, Bool.not_false, Bool.and_true]
    by_cases h : al.length < 64
    · rw [dF (by omega), decide_eq_true h, cond_true, appM_eq (by simp; omega)]; rfl
    · rw [dT (by omega), decide_eq_false h]; rfl
end Go.Proofs.Ythmnohdlhlmmpaa
