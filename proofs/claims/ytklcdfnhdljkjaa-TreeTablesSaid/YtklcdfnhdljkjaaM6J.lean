/-
  Walks and laws of this seat.
-/
import Derived.Test.YtklcdfnhdljkjaaPd
import Derived.Test.YtklcdfnhdljkjaaM6L
import Derived.Test.YtklcdfnhdljkjaaL6vt
namespace Go.Proofs.Ytklcdfnhdljkjaa
set_option linter.unusedVariables false
set_option linter.unusedSimpArgs false
open Go.RowKit Go.Sl
variable {n : Nat}
section
variable {p : zad} {ns : List zac}
theorem tables_l2 (hns : ns = lay p 0 (-1) (-1) (-1)) (hp : BuiltP p) : ∀ (e j k : Nat), j + e = ns.length → e + 1 ≤ k → 1 ≤ j → zbe n (⟨ns⟩, 0) k (j : Int) = zem n := by
  obtain ⟨h1, h2, h3, h4, h5⟩ := hp
  obtain ⟨hlk, _, l3, l4⟩ := zo3 (by rw [h1]; exact zl0) h3
  have hlen : ns.length = nsz p := by rw [hns, zl3]
  have hnsz := zoj p
  rw [← hns] at l3 l4 hlk
  intro e
  induction e with
  | zero =>
    intro j k hj hk h0
    obtain ⟨k, rfl⟩ : ∃ i, k = i + 1 := ⟨k - 1, by omega⟩
    rw [zbe, dF (by simp only; omega)]
  | succ e ih =>
    intro j k hj hk h0
    obtain ⟨k, rfl⟩ : ∃ i, k = i + 1 := ⟨k - 1, by omega⟩
    obtain ⟨_, _, f3, _⟩ := l3 j h0 (by omega)
    obtain ⟨f1, _⟩ := l4 j (by omega)
    have done : zds (j : Int) (zbe n (⟨ns⟩, 0) k) false = zem n := by
      unfold zds
      rw [cond_false, zb5 (by omega)]
      exact ih (j + 1) k (by omega) (by omega) (by omega)
    obtain ⟨q, q1, q2, _⟩ := par_lt ns (linkedP.good ns hlk j (by omega)) h0 (Nat.le_refl _)
    have hq : (nd ns j).Parent = (q : Int) := q1
    rw [q1, Int.toNat_natCast] at f3
    rw [zbe, dT (by simp only; omega)]
    simp only
    rw [zb1, zkk ns (by omega), Option.bind_some, hq, zb1, zkk ns (by omega), Option.bind_some, Option.bind_some]
    obtain ⟨r1, r2⟩ := f3
    have e1 : ((decide ((nd ns j).Name = (nd ns q).Name)) && ((decide ((nd ns j).Name = (bs [116, 114]))) || ((decide ((nd ns j).Name = (bs [116, 100]))) || (decide ((nd ns j).Name = (bs [112])))))) = false := by
      rw [Bool.and_eq_false_iff]
      by_cases hh : (nd ns j).Name = (nd ns q).Name
      · right
        rw [Bool.or_eq_false_iff, Bool.or_eq_false_iff]
        exact ⟨decide_eq_false fun e => r1 ⟨hh, .inl e⟩, decide_eq_false fun e => r1 ⟨hh, .inr (.inl e)⟩, decide_eq_false fun e => r1 ⟨hh, .inr (.inr e)⟩⟩
      · left; exact decide_eq_false hh
    rw [e1, cond_false]
    by_cases hT : (nd ns q).Name = nTable
    · rw [dT (show (nd ns q).Name = bs [116, 97, 98, 108, 101] from hT), Option.bind_some]
      rcases f1 with ⟨k1, _⟩ | ⟨k1, k2, _⟩
      · rw [dF (by omega)]; exact done
      · rw [dT k1, show decide ((nd ns j).Name ≠ (bs [116, 114])) = false from decide_eq_false (fun e => e (r2 hT k2))]
        exact done
    · rw [dF (show ¬ (nd ns q).Name = bs [116, 97, 98, 108, 101] from hT)]
      exact done
end
theorem zmz (l : List Int) (hn : 20000000 ≤ n) : zh7 n l = some true := by
  have kn := zpo (n := n) (by omega)
  unfold zh7
  rw [show (2000 : Int) = ((2000 : Nat) : Int) from rfl, zpr, Option.bind_some]
  have hlt : (l.take 2000).length ≤ 100000 := by rw [List.length_take]; omega
  rcases parse_ok (n := n) (l.take 2000) hlt hn with h | h | ⟨p, h, hp⟩
  · rw [h, Option.bind_some]
    simp only
    rw [kn]; rfl
  · rw [h, Option.bind_some]
    simp only
    rw [kn]; rfl
  · rw [h, Option.bind_some]
    obtain ⟨ns, hns⟩ : ∃ ns, ns = lay p 0 (-1) (-1) (-1) := ⟨_, rfl⟩
    have hlen : ns.length = nsz p := by rw [hns, zl3]
    have hpos := zo0 p
    have hl := tables_l2 (n := n) hns hp (ns.length - 1) 1 n (by omega) (by have := zoj p; have := hp.2.2.2.1; omega) (Nat.le_refl _)
    rw [← hns]
    simp only
    rw [show decide ((0 : Int) ≠ 0) = false from rfl, cond_false, show ((1 : Int)) = ((1 : Nat) : Int) from rfl, hl]
    unfold zem
    rw [kn]; rfl
theorem zmh {l : List Int} (_ : Ssl 4 (Sint .i32) l) : ∃ fuel, zh7 fuel l = some true := ⟨20000000, zmz l (Nat.le_refl _)⟩
end Go.Proofs.Ytklcdfnhdljkjaa
