/-
  Walks and laws of this seat; the base is the text Base.
-/
import Derived.Test.YthmnohdlhlmmpaaQ4JA
import Derived.Test.YthmnohdlhlmmpaaQ4ZE
namespace Go.Proofs.Ythmnohdlhlmmpaa
open Go.RowKit Go.Sl
variable {n : Nat}
theorem runesM_bs {l : List UInt8} (h : l.length ≤ 1000000) : runesM (bs l) = some (runesIn (bs l)) := by
  unfold runesM
  rw [decide_eq_true (by rw [bs_size]; omega)]; rfl
theorem byL_bs (l : List UInt8) : byL (bs l) = l.map (·.toNat) := by simp [byL]
theorem runes_cons {b : UInt8} (h : b.toNat < 128) (l : List UInt8) : runesIn (bs (b :: l)) = (b.toNat : Int) :: runesIn (bs l) := by
  rw [runesIn_list, runesIn_list, byL_bs, byL_bs, List.map_cons, runesS_ascii h]
theorem runes_between {b : UInt8} (h : b.toNat < 128) (l t : List UInt8) : runesIn (bs (l ++ b :: t)) = runesIn (bs l) ++ (b.toNat : Int) :: runesIn (bs t) := by
  rw [runesIn_list, runesIn_list, runesIn_list, byL_bs, byL_bs, byL_bs, List.map_append, List.map_cons, runesS_between h]
theorem runes_len (l : List UInt8) : (runesIn (bs l)).length ≤ l.length := by
  have := runesIn_length (bs l)
  rwa [bs_size] at this
/-- A tag of one letter and nothing else. -/
theorem tagS_one {x : Int} (h : tagB x = true) (xs : List Int) : tagS (x :: 62 :: xs) = some ([], false, xs) ∧ tagN (x :: 62 :: xs) = smallL [x] := by
  have e1 : (x :: 62 :: xs).dropWhile tagB = 62 :: xs := by
    rw [List.dropWhile_cons, if_pos h, List.dropWhile_cons, if_neg (by decide)]
  have e2 : (x :: 62 :: xs).takeWhile tagB = [x] := by
    rw [List.takeWhile_cons, if_pos h, List.takeWhile_cons, if_neg (by decide)]
  unfold tagS tagN
  rw [e1, e2, tagC_eq, tagC_else (by decide), if_pos rfl]
  exact ⟨rfl, rfl⟩
theorem tokS_open {x : Int} (h : tagB x = true) (hlt : letterB x = true) (hr : isRawB (smallL [x]) = false) (k : Nat) (xs : List Int) : tokS (k + 1) (60 :: x :: 62 :: xs) = tagTok 2 (smallL [x]) [] false :: tokS k xs := by
  obtain ⟨e1, e2⟩ := tagS_one h xs
  rw [tokS]
  have hb : beginsB (60 :: x :: 62 :: xs) = true := by
    show (letterB x || decide (x = 33) || decide (x = 63) || decide (x = 47)) = true
    rw [hlt]; rfl
  rw [hb, Bool.not_true, cond_false]
  simp only [List.getElem?_cons_zero, Option.getD_some]
  rw [hlt, cond_true, e1]
  simp only
  rw [e2, hr, cond_false]
theorem law4_same_true (t : mark_Token) (hb : t.Attrs.length ≤ 1000000) (hn : t.Attrs.length + 1 ≤ n) : law4_same n t t = some true := by
  unfold law4_same
  rw [dT rfl, dT rfl, dT rfl, attrs_same_eq _ hb hn]
  simp [law4_same_k1]
end Go.Proofs.Ythmnohdlhlmmpaa
