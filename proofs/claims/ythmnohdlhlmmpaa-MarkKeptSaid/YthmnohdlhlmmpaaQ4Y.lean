/-
  Walks and laws of this seat; the base is the text Base.
-/
import Derived.Test.YthmnohdlhlmmpaaQ4X
import Derived.Test.YthmnohdlhlmmpaaL4r
namespace Go.Proofs.Ythmnohdlhlmmpaa
open Go.RowKit Go.Sl
variable {n : Nat}
/-! The reference's tokenizer. -/
theorem ref_small_l2 (xs : List Int) (hb : xs.length ≤ 1000000000) : ∀ (zs ys : List Int) (k : Nat), ys ++ zs = xs → zs.length + 1 ≤ k →
    ref4_Small_l2 xs k (ys.map lowX) (ys.length : Int) = some (smallL xs)
  | [], ys, k, he, hk => by
    obtain ⟨k, rfl⟩ : ∃ i, k = i + 1 := ⟨k - 1, by omega⟩
    rw [List.append_nil] at he
    subst he
    rw [ref4_Small_l2, dF (by omega)]; rfl
  | x :: zs, ys, k, he, hk => by
    obtain ⟨k, rfl⟩ : ∃ i, k = i + 1 := ⟨k - 1, by omega⟩
    have hlen : ys.length + (zs.length + 1) = xs.length := by rw [← he]; simp
    simp only [List.length_cons] at hk
    have hg : geti xs (ys.length : Int) = some x := by rw [geti_nat, ← he, List.getElem?_append_right (by simp)]; simp
    have ih := ref_small_l2 xs hb zs (ys ++ [x]) k (by simpa using he) (by omega)
    simp only [List.map_append, List.map_cons, List.map_nil, List.length_append, List.length_singleton] at ih
    have step : ref4_Small_k3 (ys.map lowX) (ys.length : Int) (ref4_Small_l2 xs k) (lowX x) = some (smallL xs) := by
      unfold ref4_Small_k3
      rw [appM4 (by simp; omega), Option.bind_some, w64_succ (by omega)]
      exact ih
    rw [ref4_Small_l2, dT (by omega), hg, Option.bind_some]
    cases hx : (decide (65 ≤ x)) && (decide (x ≤ 90)) with
    | true =>
      have hx2 := hx
      simp only [Bool.and_eq_true, decide_eq_true_eq] at hx2
      rw [cond_true, wr_i32 (by omega)]
      unfold lowX at step
      rw [hx, cond_true] at step
      exact step
    | false =>
      rw [cond_false]
      have hw : lowX x = x := by unfold lowX; rw [hx, cond_false]
      rw [hw] at step
      exact step
theorem ref_small (xs : List Int) (hb : xs.length ≤ 1000000000) (hn : xs.length + 1 ≤ n) : ref4_Small n xs = some (smallL xs) := by
  unfold ref4_Small
  exact ref_small_l2 xs hb xs [] n rfl hn
end Go.Proofs.Ythmnohdlhlmmpaa
