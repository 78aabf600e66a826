/-
  Walks and laws of this seat; the base is the text Base.
-/
import Derived.Test.YthmnohdlhlmmpaaQ4I
namespace Go.Proofs.Ythmnohdlhlmmpaa
open Go.RowKit Go.Sl
theorem within_rune (n : Nat) (x : Int) : ∃ v : Nat, 1 ≤ v ∧ v ≤ 1114111 ∧ book_Within n x 1 1114111 = some (v : Int) := by
  unfold book_Within book_Within_k1
  rw [show w64 (w64 (1114111 - 1) + 1) = 1114111 from rfl]
  unfold remM
  rw [if_neg (by omega), Option.bind_some]
  have h1 : -1114111 < x.tmod 1114111 ∧ x.tmod 1114111 < 1114111 := by
    have := Int.tmod_lt_of_pos x (b := 1114111) (by omega)
    have := Int.lt_tmod_of_pos x (b := 1114111) (by omega)
    omega
  generalize x.tmod 1114111 = r at h1 ⊢
  by_cases h : r < 0
  · rw [dT h, w64_id (i := r + 1114111) (by omega), w64_id (i := r + 1114111 - 1) (by omega), w64_id (i := r + 1114111 - 1 + 1) (by omega), w64_id (by omega)]
    exact ⟨(1 + (r + 1114111 - 1 + 1)).toNat, by omega, by omega, by rw [Int.toNat_of_nonneg (by omega)]⟩
  · rw [dF h, w64_id (by omega)]
    exact ⟨(1 + r).toNat, by omega, by omega, by rw [Int.toNat_of_nonneg (by omega)]⟩
theorem digits_all {B : Nat} (hB : (B = 10 ∨ B = 16)) {v : Nat} (h1 : 1 ≤ v) (h2 : v ≤ 1114111) (n : Nat) (hn : 20 ≤ n) : ∃ ds, law4_digits n (v : Int) (B : Int) = some (bs ds) ∧ foldD (B : Int) ds 0 = some (v : Int) ∧ 1 ≤ ds.length ∧ ds.length ≤ 8 := by
  have hd : ∀ d : Nat, d < B → ∃ b, hexes[d]? = some b ∧ dg (B : Int) b = (d : Int) := by
    rcases hB with rfl | rfl
    · exact digits_of ok10
    · exact digits_of ok16
  have hv : v < B ^ 7 := by
    rcases hB with rfl | rfl
    · omega
    · omega
  obtain ⟨ds, e1, e2, e3, e4⟩ := digits_l2 (B := B) (by omega) (by omega) hd n v [] 7 hv (by omega) (by simp) (by omega) (fun _ => h1)
  simp only [List.length_nil] at e4
  exact ⟨ds, e1, e2, e3, by omega⟩
theorem un_skip {k : Nat} {b : UInt8} (r : List UInt8) (h : b ≠ 38) : un (k + 1) (b :: r) = b :: un k r := by rw [un, if_neg h]
theorem un_ent {k : Nat} {r : List UInt8} {q : List UInt8 × List UInt8} (h : ent r = some q) : un (k + 1) (38 :: r) = q.1 ++ un k q.2 := by rw [un, if_pos rfl, h]
theorem un_nil (k : Nat) : un k [] = [] := by cases k <;> rfl

theorem numeric_k1 {v : Nat} (h1 : 1 ≤ v) (h2 : v ≤ 1114111) {y : Int} (hy : Utf8.encode y = bs (chr v)) : law4_MarkNumeric_k1 (100 + 60) (v : Int) y = some true := by
  have hc := chr_len v
  unfold law4_MarkNumeric_k1
  obtain ⟨ds, d1, d2, d3, d4⟩ := digits_all (B := 10) (.inl rfl) h1 h2 (100 + 60) (by omega)
  rw [show ((10 : Nat) : Int) = 10 from rfl] at d1 d2
  rw [d1, Option.bind_some, addS_bs (by simp; omega), Option.bind_some, addS_bs (by simp; omega), Option.bind_some, mark_Unescape_eq _ _ (by simp; omega) (by simp; omega), Option.bind_some]
  have u1 : un (100 + 60) ([120, 38, 35] ++ ds ++ [59, 121]) = 120 :: (chr v ++ [121]) := by
    show un (157 + 3) (120 :: 38 :: 35 :: ((ds ++ [59, 121]))) = _
    rw [un_skip _ (by decide), un_ent (ent_dec (rest := [121]) d2 ⟨d3, d4⟩)]
    simp only
    rw [un_skip _ (by decide), un_nil]
  rw [u1, hy, addS_bs (by simp; omega), Option.bind_some, addS_bs (by simp; omega), Option.bind_some]
  rw [dT (by rfl)]
  obtain ⟨ds, d1, d2, d3, d4⟩ := digits_all (B := 16) (.inr rfl) h1 h2 (100 + 60) (by omega)
  rw [show ((16 : Nat) : Int) = 16 from rfl] at d1 d2
  rw [d1, Option.bind_some, addS_bs (by simp; omega), Option.bind_some, addS_bs (by simp; omega), Option.bind_some, mark_Unescape_eq _ _ (by simp; omega) (by simp; omega), Option.bind_some]
  have u2 : un (100 + 60) ([38, 35, 120] ++ ds ++ [59]) = chr v := by
    show un (159 + 1) (38 :: 35 :: 120 :: ((ds ++ [59]))) = _
    rw [un_ent (ent_hex (rest := []) d2 ⟨d3, d4⟩)]
    simp [un_nil]
  rw [u2, dT rfl, known_true]
  rfl
theorem law4_MarkNumeric_true {x : Int} (_ : Sint .i64 x) : ∃ fuel, law4_MarkNumeric fuel x = some true := by
  refine ⟨100 + 60, ?_⟩
  unfold law4_MarkNumeric
  obtain ⟨v, h1, h2, h3⟩ := within_rune (100 + 60) x
  rw [h3, Option.bind_some]
  cases hs : ((decide (55296 ≤ (v : Int))) && (decide ((v : Int) ≤ 57343))) with
  | true =>
    rw [cond_true]
    refine numeric_k1 h1 h2 ?_
    rw [bs_chr]
    unfold fixV
    rw [hs]
    simp only [Bool.or_true, cond_true]
    rfl
  | false =>
    rw [cond_false]
    refine numeric_k1 h1 h2 ?_
    rw [bs_chr]
    unfold fixV
    rw [hs, decide_eq_false (by omega : ¬ (v : Int) = 0), decide_eq_false (by omega : ¬ (1114111 : Int) < v)]
    rfl
end Go.Proofs.Ythmnohdlhlmmpaa
