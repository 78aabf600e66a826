/-
  Walks and laws of this seat.
-/
import Derived.Test.YteicdfkmpnmkmaaGreatVO
namespace Go.V
set_option linter.unusedVariables false
set_option linter.unusedSimpArgs false
set_option linter.unusedSectionVars false
open Go.RowKit Go.Sl
variable {α β : Type}
def T (F : Nat → Nat → Option α) (Q : α → Prop) : Prop := ∃ r, Q r ∧ ∃ K, ∀ k n, K ≤ k → K ≤ n → F k n = some r
theorem T.some {r : α} {Q : α → Prop} (h : Q r) : T (fun _ _ => some r) Q := ⟨r, h,0, fun _ _ _ _ => rfl⟩
theorem T.bind {m : Nat → Nat → Option α} {G : Nat → Nat → α → Option β} {P : α → Prop} {Q : β → Prop} (h : T m P) (g : ∀ r, P r → T (fun k n => G k n r) Q) : T (fun k n => (m k n).bind fun r => G k n r) Q := by
  obtain ⟨r, h1, K, h2⟩ := h
  obtain ⟨s, g1, K2, g2⟩ := g r h1
  refine ⟨s, g1, K + K2, fun k n hk hn => ?_⟩
  show (m k n).bind _ = _
  rw [h2 k n (by omega) (by omega)]
  exact g2 k n (by omega) (by omega)
theorem T.bif {b : Bool} {x y : Nat → Nat → Option α} {Q : α → Prop} (h1 : b = true → T x Q) (h2 : b = false → T y Q) : T (fun k n => bif b then x k n else y k n) Q := by
  cases b with
  | true => exact h1 rfl
  | false => exact h2 rfl
theorem T.dec {p : Prop} [Decidable p] {x y : Nat → Nat → Option α} {Q : α → Prop} (h1 : p → T x Q) (h2 : ¬ p → T y Q) : T (fun k n => bif decide p then x k n else y k n) Q := by
  by_cases h : p
  · simpa [h] using h1 h
  · simpa [h] using h2 h
theorem T.get {xs : List α} {i : Int} {G : Nat → Nat → α → Option β} {Q : β → Prop} (h0 : 0 ≤ i) (h1 : i < xs.length) (g : ∀ r, xs[i.toNat]? = .some r → T (fun k n => G k n r) Q) : T (fun k n => (geti xs i).bind fun r => G k n r) Q := by
  have hl : i.toNat < xs.length := by omega
  have e : geti xs i = .some xs[i.toNat] := by simp [geti, h0, hl]
  rw [e]
  exact g _ (List.getElem?_eq_getElem hl)
theorem T.app {b : Nat} {xs ys : List α} {G : Nat → Nat → List α → Option β} {Q : β → Prop} (h : (xs.length + ys.length) * b ≤ 140737488355328) (h' : xs.length + ys.length ≤ 9223372036854775807) (g : T (fun k n => G k n (xs ++ ys)) Q) : T (fun k n => (appM b xs ys).bind fun r => G k n r) Q := by
  have e : appM b xs ys = .some (xs ++ ys) := by simp [appM, roomB, h, h']
  rw [e]; exact g
theorem T.cut {xs : List α} {lo hi : Int} {G : Nat → Nat → List α → Option β} {Q : β → Prop} (h0 : 0 ≤ lo) (h1 : lo ≤ hi) (h2 : hi ≤ xs.length) (g : ∀ r : List α, r = (xs.take hi.toNat).drop lo.toNat → (r.length : Int) = hi - lo → T (fun k n => G k n r) Q) : T (fun k n => (cutM xs lo hi).bind fun r => G k n r) Q := by
  have e : cutM xs lo hi = .some ((xs.take hi.toNat).drop lo.toNat) := by simp [cutM, h0, h1, h2]
  rw [e]
  exact g _ rfl (by simp; omega)
theorem T.step {F : Nat → Nat → Option α} {Q : α → Prop} (h : T (fun k n => F k (n + 1)) Q) : T F Q := by
  obtain ⟨r, h1, K, h2⟩ := h
  refine ⟨r, h1, K + 1, fun k n hk hn => ?_⟩
  obtain ⟨m, rfl⟩ : ∃ m, n = m + 1 := ⟨n - 1, by omega⟩
  exact h2 k m (by omega) (by omega)
theorem T.diag {F : Nat → Nat → Option α} {Q : α → Prop} (h : T F Q) : T (fun k _ => F k k) Q := by
  obtain ⟨r, h1, K, h2⟩ := h
  exact ⟨r, h1, K, fun k n hk hn => h2 k k hk hk⟩
theorem T.fst {F : Nat → Option α} {Q : α → Prop} {G : Nat → Nat → Option α} (h : T (fun k _ => F k) Q) (e : ∀ k n, G k n = F k) : T G Q := by
  obtain ⟨r, h1, K, h2⟩ := h
  exact ⟨r, h1, K, fun k n hk hn => by rw [e]; exact h2 k n hk hn⟩
theorem T.mono {F : Nat → Nat → Option α} {P Q : α → Prop} (h : T F P) (g : ∀ r, P r → Q r) : T F Q := by
  obtain ⟨r, h1, h2⟩ := h
  exact ⟨r, g r h1, h2⟩
theorem T.of {m : Option α} {P : α → Prop} {r : α} (h : m = .some r) (hP : P r) : T (fun _ _ => m) P := ⟨r, hP,0, fun _ _ _ _ => h⟩
theorem w64i {i : Int} (h : -9223372036854775808 ≤ i ∧ i ≤ 9223372036854775807) : w64 i = i := yco h
end Go.V
