/-
  Walks and laws of this seat.
-/
import Derived.Test.YtklcdfnhdljkjaaPd
import Derived.Test.YtklcdfnhdljkjaaM6L
import Derived.Test.YtklcdfnhdljkjaaL6vr
namespace Go.Proofs.Ytklcdfnhdljkjaa
set_option linter.unusedVariables false
set_option linter.unusedSimpArgs false
open Go.RowKit Go.Sl
variable {n : Nat}
section
variable {p : zad} {ns : List zac}
theorem right_l4 (hns : ns = lay p 0 (-1) (-1) (-1)) (hp : BuiltP p) (hn : 20000000 ≤ n) : ∀ (e j k : Nat), j + e = ns.length → e + 1 ≤ k → 1 ≤ j → zax n (⟨ns⟩, 0) k (j : Int) = zf2 n := by
  obtain ⟨h1, h2, h3, h4, h5⟩ := hp
  obtain ⟨_, _, l3, l4⟩ := zo3 (by rw [h1]; exact zl0) h3
  have hlen : ns.length = nsz p := by rw [hns, zl3]
  have hnsz := zoj p
  rw [← hns] at l3 l4
  intro e
  induction e with
  | zero =>
    intro j k hj hk h0
    obtain ⟨k, rfl⟩ : ∃ i, k = i + 1 := ⟨k - 1, by omega⟩
    rw [zax, dF (by simp only; omega)]
  | succ e ih =>
    intro j k hj hk h0
    obtain ⟨k, rfl⟩ : ∃ i, k = i + 1 := ⟨k - 1, by omega⟩
    obtain ⟨_, _, _, f4⟩ := l3 j h0 (by omega)
    obtain ⟨f1, f2⟩ := l4 j (by omega)
    have done : zb9 (j : Int) (zax n (⟨ns⟩, 0) k) false = zf2 n := by
      unfold zb9
      rw [cond_false, zb5 (by omega)]
      exact ih (j + 1) k (by omega) (by omega) (by omega)
    rw [zax, dT (by simp only; omega)]
    simp only
    rw [zb1, zkk ns (by omega), Option.bind_some]
    rcases f1 with ⟨k1, _⟩ | ⟨k1, _⟩
    · have k2 : ¬ (nd ns j).Kind = 1 := by omega
      rw [dT k1, dF k2]
      by_cases hx : 0 ≤ (nd ns j).Next
      · obtain ⟨g1, g2⟩ := f4 k1 hx
        obtain ⟨m, hm⟩ : ∃ m : Nat, (nd ns j).Next = m := ⟨(nd ns j).Next.toNat, by omega⟩
        rw [dT hx, hm, zb1, zkk ns (by omega), Option.bind_some]
        rw [hm, Int.toNat_natCast] at g2
        rw [dF g2]
        exact done
      · rw [dF hx]; exact done
    · have k2 : ¬ (nd ns j).Kind = 2 := by omega
      rw [dF k2, dT k1, zns _ (by omega), Option.bind_some]
      by_cases hv : (nd ns j).Name ∈ voids
      · rw [dT hv, show decide (0 ≤ (nd ns j).First) = false from decide_eq_false (by have := f2 hv; omega)]
        exact done
      · rw [dF hv]; exact done
end
theorem znk (l : List Int) (hn : 20000000 ≤ n) : zhu n l = some true := by
  have kn := zpo (n := n) (by omega)
  unfold zhu
  rw [show (2000 : Int) = ((2000 : Nat) : Int) from rfl, zpr, Option.bind_some]
  have hlt : (l.take 2000).length ≤ 100000 := by rw [List.length_take]; omega
  rcases parse_ok (n := n) (l.take 2000) hlt hn with h | h | ⟨p, h, hp⟩
  · rw [h, Option.bind_some]
    simp only [List.length_nil]
    rw [kn]
    rfl
  · rw [h, Option.bind_some]
    simp only [List.length_nil]
    rw [kn]
    rfl
  · rw [h, Option.bind_some]
    obtain ⟨ns, hns⟩ : ∃ ns, ns = lay p 0 (-1) (-1) (-1) := ⟨_, rfl⟩
    have hlen : ns.length = nsz p := by rw [hns, zl3]
    have hpos := zo0 p
    have hl := right_l4 (n := n) hns hp hn (ns.length - 1) 1 n (by omega) (by have := zoj p; have := hp.2.2.2.1; omega) (Nat.le_refl _)
    obtain ⟨h1, h2, h3, h4, h5⟩ := hp
    have hne : p.Name ≠ bs [] := by rw [h1]; exact zl0
    have hr := right_ok (n := n) hne h3 h4 h5 (by omega)
    have h0 : ns[0]? = some (enode p.Name p.Attrs (-1) (if p.Kids.length = 0 then -1 else ((0 + 1 : Nat) : Int)) (lastOf p.Kids (0 + 1) (-1)) (-1) (-1)) := by rw [hns, zl4 hne]; rfl
    rw [← hns] at hr ⊢
    simp only
    rw [show decide ((0 : Int) ≠ 0) = false from rfl, cond_false, show decide ((ns.length : Int) = 0) = false from decide_eq_false (by omega), cond_false, hr, Option.bind_some, show decide ((0 : Int) ≠ 0) = false from rfl, cond_false, show (0 : Int) = ((0 : Nat) : Int) from rfl, zb1, h0, Option.bind_some]
    rw [show decide ((enode p.Name p.Attrs (-1) (if p.Kids.length = 0 then -1 else ((0 + 1 : Nat) : Int)) (lastOf p.Kids (0 + 1) (-1)) (-1) (-1)).Name ≠ (bs [114, 111, 111, 116])) = false from decide_eq_false (fun e => e h1), cond_false, Option.bind_some]
    unfold zed
    rw [show decide (((0 : Nat) : Int) < (((enode p.Name p.Attrs (-1) (if p.Kids.length = 0 then -1 else ((0 + 1 : Nat) : Int)) (lastOf p.Kids (0 + 1) (-1)) (-1) (-1)).Attrs.length : Nat) : Int)) = false from decide_eq_false (by simp [enode, h2]), cond_false]
    refine hl.trans ?_
    unfold zf2
    rw [kn]; rfl
theorem zn0 {l : List Int} (_ : Ssl 4 (Sint .i32) l) : ∃ fuel, zhu fuel l = some true := ⟨20000000, znk l (Nat.le_refl _)⟩
end Go.Proofs.Ytklcdfnhdljkjaa
