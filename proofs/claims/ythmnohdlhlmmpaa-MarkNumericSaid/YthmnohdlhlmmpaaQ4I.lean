/-
  Walks and laws of this seat; the base is the text Base.
-/
import Derived.Test.YthmnohdlhlmmpaaQ4G
import Derived.Test.YthmnohdlhlmmpaaQ4K
import Derived.Test.YthmnohdlhlmmpaaL4vd
namespace Go.Proofs.Ythmnohdlhlmmpaa
open Go.RowKit Go.Sl

/-! Numbers, written and read again. -/
def okDigits (B : Nat) : Bool := (List.range B).all fun d => match hexes[d]? with | some b => decide (dg (B : Int) b = (d : Int)) | none => false
theorem digits_of {B : Nat} (h : okDigits B = true) (d : Nat) (hd : d < B) : ∃ b, hexes[d]? = some b ∧ dg (B : Int) b = (d : Int) := by
  have := List.all_eq_true.1 h d (List.mem_range.2 hd)
  cases hx : hexes[d]? with
  | none => rw [hx] at this; cases this
  | some b => rw [hx] at this; exact ⟨b, rfl, of_decide_eq_true this⟩
theorem ok10 : okDigits 10 = true := by kernel_rfl
theorem ok16 : okDigits 16 = true := by kernel_rfl
theorem hexes_cut {i : Nat} {b : UInt8} (h : hexes[i]? = some b) : cutS (bs hexes) (i : Int) (w64 ((i : Int) + 1)) = some (bs [b]) := by
  have hi : i < 16 := (List.getElem?_eq_some_iff.1 h).1
  rw [w64_succ (by omega), cutS_bs hexes (by omega) (by show i + 1 ≤ 16; omega)]
  congr 2
  rw [List.drop_take, show i + 1 - i = 1 by omega, List.take_one, List.head?_drop, h]
  rfl
theorem digits_l2 {B : Nat} (hB2 : 2 ≤ B) (hB16 : B ≤ 16) (hd : ∀ d : Nat, d < B → ∃ b, hexes[d]? = some b ∧ dg (B : Int) b = (d : Int)) : ∀ (k v : Nat) (acc : List UInt8) (m : Nat), v < B ^ m → m + 1 ≤ k → acc.length + m ≤ 8 → v ≤ 2000000 → (acc = [] → 1 ≤ v) →
    ∃ ds, law4_digits_l2 (B : Int) k (v : Int) (bs acc) = some (bs ds) ∧ foldD (B : Int) ds 0 = foldD (B : Int) acc (v : Int) ∧ 1 ≤ ds.length ∧ ds.length ≤ acc.length + m
  | 0, _, _, _, _, hk, _, _, _ => by omega
  | k + 1, v, acc, m, hv, hk, hl, hv2, hne => by
    by_cases h0 : v = 0
    · subst h0
      have hacc : acc ≠ [] := fun e => by have := hne e; omega
      refine ⟨acc, ?_, rfl, ?_, by omega⟩
      · rw [law4_digits_l2]
        have : ((decide (0 < ((0 : Nat) : Int))) || (decide (bs acc = bs []))) = false := by
          rw [Bool.or_eq_false_iff, decide_eq_false_iff_not, decide_eq_false_iff_not, bs_inj]
          exact ⟨by omega, hacc⟩
        rw [this]; rfl
      · cases acc with
        | nil => exact absurd rfl hacc
        | cons _ _ => simp
    · obtain ⟨b, hb, hdb⟩ := hd (v % B) (Nat.mod_lt _ (by omega))
      have hm1 : ((v : Int).tmod (B : Int)) = ((v % B : Nat) : Int) := by simp [Int.tmod_eq_emod_of_nonneg]
      have hm2 : w64 ((v : Int).tdiv (B : Int)) = ((v / B : Nat) : Int) := by
        have : (v : Int).tdiv (B : Int) = ((v / B : Nat) : Int) := by simp [Int.tdiv_eq_ediv_of_nonneg]
        have h2 : v / B ≤ v := Nat.div_le_self ..
        rw [this]
        generalize v / B = q at h2 ⊢
        exact w64_id (by omega)
      have hm : 1 ≤ m := by
        rcases Nat.eq_zero_or_pos m with h | h
        · subst h; simp at hv; omega
        · exact h
      obtain ⟨m, rfl⟩ : ∃ j, m = j + 1 := ⟨m - 1, by omega⟩
      have hvB : v / B < B ^ m := by
        rw [Nat.div_lt_iff_lt_mul (by omega)]; rw [Nat.pow_succ] at hv; exact hv
      have h2 : v / B ≤ v := Nat.div_le_self ..
      obtain ⟨ds, e1, e2, e3, e4⟩ := digits_l2 hB2 hB16 hd k (v / B) (b :: acc) m hvB (by omega) (by simp; omega) (by omega) (fun e => by cases e)
      refine ⟨ds, ?_, ?_, e3, by simp at e4; omega⟩
      · rw [law4_digits_l2]
        have : ((decide (0 < ((v : Nat) : Int))) || (decide (bs acc = bs []))) = true := by
          rw [decide_eq_true (by omega)]; rfl
        rw [this, cond_true]
        unfold remM quoM
        rw [if_neg (by omega), Option.bind_some, hm1, show bs [48, 49, 50, 51, 52, 53, 54, 55, 56, 57, 97, 98, 99, 100, 101, 102] = bs hexes from rfl, hexes_cut hb, Option.bind_some, addS_bs (by simp; omega), Option.bind_some, if_neg (by omega), Option.bind_some, hm2]
        exact e1
      · rw [e2]
        have key : ∀ (z r v : Nat), z + r = v → v ≤ 2000000 → w64 (w64 (z : Int) + (r : Int)) = (v : Int) := by
          intro z r v h h2
          rw [w64_id (i := (z : Int)) (by omega), w64_id (by omega)]; omega
        have hdm : (v / B) * B + v % B = v := by rw [Nat.mul_comm]; exact Nat.div_add_mod v B
        have e0 : foldD (B : Int) (b :: acc) ((v / B : Nat) : Int) = if 0 ≤ dg (B : Int) b then foldD (B : Int) acc (w64 (w64 (((v / B : Nat) : Int) * (B : Int)) + dg (B : Int) b)) else none := rfl
        rw [e0, hdb, if_pos (Int.natCast_nonneg _), ← Int.natCast_mul, key _ _ _ hdm hv2]
theorem foldD_dg {base : Int} : ∀ {t : List UInt8} {v u : Int}, foldD base t v = some u → ∀ b ∈ t, 0 ≤ dg base b
  | [], _, _, _, b, hb => by cases hb
  | x :: t, v, u, h, b, hb => by
    unfold foldD at h
    split at h
    · rename_i hx
      rcases List.mem_cons.1 hb with rfl | hb
      · exact hx
      · exact foldD_dg h b hb
    · cases h
theorem numR_all {base : Int} (hb : dg base 59 < 0) {ds rest : List UInt8} {v : Int} (hf : foldD base ds 0 = some v) (hl : 1 ≤ ds.length ∧ ds.length ≤ 8) : numR base (ds ++ 59 :: rest) 0 0 = some (v, rest) := by
  rw [numR_semi hb, semi_word (fun b hm e => by have := foldD_dg hf b hm; subst e; omega)]
  simp only [Nat.zero_add]
  rw [if_pos hl, List.take_left, hf]
  simp
theorem ent_35 (r : List UInt8) : ent (35 :: r) = num (35 :: r) := by
  unfold ent
  have : words.find? (fun p => (p.1 ++ [59]).isPrefixOf (35 :: r)) = none := by
    rw [List.find?_eq_none]
    intro p hp
    simp only [words, List.mem_cons, List.mem_nil_iff, or_false] at hp
    rcases hp with rfl | rfl | rfl | rfl | rfl | rfl <;> simp [List.isPrefixOf]
  rw [this]
theorem ent_dec {ds rest : List UInt8} {v : Int} (hf : foldD 10 ds 0 = some v) (hl : 1 ≤ ds.length ∧ ds.length ≤ 8) : ent (35 :: (ds ++ 59 :: rest)) = some (chr v, rest) := by
  rw [ent_35]
  have h := numR_all (rest := rest) (by decide +kernel) hf hl
  cases ds with
  | nil => simp at hl
  | cons x t =>
    have hx := foldD_dg hf x (List.mem_cons_self ..)
    have hx2 : ¬ (x = 120 ∨ x = 88) := by
      rintro (rfl | rfl)
      · exact absurd hx (by decide +kernel)
      · exact absurd hx (by decide +kernel)
    simp only [List.cons_append, num, if_neg hx2, if_true] at h ⊢
    rw [h]; rfl
theorem ent_hex {ds rest : List UInt8} {v : Int} (hf : foldD 16 ds 0 = some v) (hl : 1 ≤ ds.length ∧ ds.length ≤ 8) : ent (35 :: 120 :: (ds ++ 59 :: rest)) = some (chr v, rest) := by
  rw [ent_35]
  have h := numR_all (rest := rest) (by decide +kernel) hf hl
  simp only [num, if_true, true_or]
  rw [h]; rfl
end Go.Proofs.Ythmnohdlhlmmpaa
