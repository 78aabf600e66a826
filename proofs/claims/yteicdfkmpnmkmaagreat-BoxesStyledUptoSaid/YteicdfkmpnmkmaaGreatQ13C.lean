/-
  Walks and laws of this seat.
-/
import Derived.Test.YteicdfkmpnmkmaaGreatYa
import Derived.Test.YteicdfkmpnmkmaaGreatPa
namespace Go.Proofs.YteicdfkmpnmkmaaGreat
set_option linter.unusedVariables false
set_option linter.unusedSimpArgs false
open Go.RowKit Go.Sl
theorem addS_eq {s t : ByteArray} (h : s.size + t.size ≤ 9223372036854775807) : addS s t = some (s ++ t) := by unfold addS; rw [decide_eq_true h, cond_true]
theorem runesM_eq {s : ByteArray} (h : s.size ≤ 70368744177664) : runesM s = some (runesIn s) := by unfold runesM; rw [decide_eq_true h, cond_true]
section
variable {ns : List api_Node}
theorem SB.node (hS : SB_api_Tree ⟨ns⟩) {i : Nat} (hi : i < ns.length) : SB_api_Node (nd ns i) := by
  have : nd ns i = ns[i] := by simp [nd, hi]
  rw [this]; exact hS.2 _ (List.getElem_mem hi)
theorem whole_k3 (j : Int) (lp : Int → Option Bool) (hlp : ∃ b, lp (w64 (j + 1)) = some b) {y : ByteArray} (hy : y.size ≤ 70368744177664) : ∃ b, keep_Whole_k3 j lp y = some b := by
  unfold keep_Whole_k3
  rw [runesM_eq hy, Option.bind_some]
  cases decide (textOf (runesIn y) ≠ y)
  · exact hlp
  · exact ⟨_, rfl⟩
theorem whole_l4 (hS : SB_api_Tree ⟨ns⟩) {j : Nat} (hj : j < ns.length) (lp : Int → Option Bool) (hlp : ∃ b, lp (w64 ((j : Int) + 1)) = some b) : ∀ (d k m : Nat) (y : ByteArray), (nd ns j).Attrs.length - m ≤ d → d + 2 ≤ k → m ≤ (nd ns j).Attrs.length →
    y.size + d * 2097154 ≤ 70368744177664 → ∃ b, keep_Whole_l4 ⟨ns⟩ j lp k y (m : Int) = some b := by
  intro d
  have hN := SB.node hS hj
  induction d with
  | zero =>
    intro k m y hd hk hm hy
    obtain ⟨k, rfl⟩ : ∃ k', k = k' + 1 := ⟨k - 1, by omega⟩
    rw [keep_Whole_l4, get_nd hj, Option.bind_some, decide_eq_false (show ¬ (m : Int) < ((nd ns j).Attrs.length : Int) by omega), cond_false]
    exact whole_k3 _ _ hlp (by omega)
  | succ d ih =>
    intro k m y hd hk hm hy
    obtain ⟨k, rfl⟩ : ∃ k', k = k' + 1 := ⟨k - 1, by omega⟩
    by_cases hlt : m < (nd ns j).Attrs.length
    · have hA : SB_api_Attr (nd ns j).Attrs[m] := hN.2.2.2.1.2 _ (List.getElem_mem hlt)
      have e2 : geti (nd ns j).Attrs (m : Int) = some (nd ns j).Attrs[m] := by rw [geti_nat]; simp [hlt]
      have h1 : (nd ns j).Attrs[m].Name.size ≤ 1048576 := hA.1
      have h2 : (nd ns j).Attrs[m].Value.size ≤ 1048576 := hA.2
      have hl : (nd ns j).Attrs.length ≤ 1048576 := hN.2.2.2.1.1
      have hb : (bs [124]).size = 1 := rfl
      simp only [keep_Whole_l4, get_nd hj, Option.bind_some, decide_eq_true (show (m : Int) < ((nd ns j).Attrs.length : Int) by omega), cond_true, e2]
      rw [addS_eq (by omega), Option.bind_some, addS_eq (by rw [ByteArray.size_append]; omega), Option.bind_some, addS_eq (by simp only [ByteArray.size_append]; omega), Option.bind_some, addS_eq (by simp only [ByteArray.size_append]; omega), Option.bind_some, w64_succ (by omega)]
      exact ih k (m + 1) _ (by omega) (by omega) (by omega) (by simp only [ByteArray.size_append]; omega)
    · rw [keep_Whole_l4, get_nd hj, Option.bind_some, decide_eq_false (show ¬ (m : Int) < ((nd ns j).Attrs.length : Int) by omega), cond_false]
      exact whole_k3 _ _ hlp (by omega)
theorem whole_l2 (hS : SB_api_Tree ⟨ns⟩) {n : Nat} (hn : 1048600 ≤ n) : ∀ (d k j : Nat), ns.length - j ≤ d → d + 2 ≤ k → ∃ b, keep_Whole_l2 n ⟨ns⟩ k (j : Int) = some b := by
  intro d
  have hL : ns.length ≤ 1048576 := hS.1
  induction d with
  | zero =>
    intro k j hd hk
    obtain ⟨k, rfl⟩ : ∃ k', k = k' + 1 := ⟨k - 1, by omega⟩
    rw [keep_Whole_l2, decide_eq_false (show ¬ (j : Int) < (((⟨ns⟩ : api_Tree).Nodes.length : Nat) : Int) by show ¬ (j : Int) < (ns.length : Int); omega), cond_false]
    exact ⟨_, rfl⟩
  | succ d ih =>
    intro k j hd hk
    obtain ⟨k, rfl⟩ : ∃ k', k = k' + 1 := ⟨k - 1, by omega⟩
    by_cases hj : j < ns.length
    · have hN := SB.node hS hj
      have h1 : (nd ns j).Name.size ≤ 1048576 := hN.2.1
      have h2 : (nd ns j).Text.size ≤ 1048576 := hN.2.2.1
      have hl : (nd ns j).Attrs.length ≤ 1048576 := hN.2.2.2.1.1
      have hb : (bs [124]).size = 1 := rfl
      rw [keep_Whole_l2, decide_eq_true (show (j : Int) < (((⟨ns⟩ : api_Tree).Nodes.length : Nat) : Int) by show (j : Int) < (ns.length : Int); omega), cond_true]
      simp only [get_nd hj, Option.bind_some]
      rw [addS_eq (by omega), Option.bind_some, addS_eq (by rw [ByteArray.size_append]; omega), Option.bind_some]
      exact whole_l4 hS hj _ (by rw [w64_succ (by omega)]; exact ih k (j + 1) (by omega) (by omega)) (nd ns j).Attrs.length n 0 _ (by omega) (by omega) (by omega) (by simp only [ByteArray.size_append]; omega)
    · rw [keep_Whole_l2, decide_eq_false (show ¬ (j : Int) < (((⟨ns⟩ : api_Tree).Nodes.length : Nat) : Int) by show ¬ (j : Int) < (ns.length : Int); omega), cond_false]
      exact ⟨_, rfl⟩
theorem whole_eq (hS : SB_api_Tree ⟨ns⟩) {n : Nat} (hn : 1048600 ≤ n) : ∃ b, keep_Whole n ⟨ns⟩ = some b ∧ (b = true → rightR ns 0) := by
  have hL : ns.length ≤ 1048576 := hS.1
  obtain ⟨r, hr, hR⟩ := ref5_Right_eq ns (n := n) (by omega) (fun j hj => by have : (nd ns j).Attrs.length ≤ 1048576 := (SB.node hS hj).2.2.2.1.1; omega)
  unfold keep_Whole
  rw [hr, Option.bind_some]
  by_cases h0 : r = 0
  · rw [decide_eq_false (not_not_intro h0), cond_false]
    obtain ⟨b, hb⟩ := whole_l2 hS hn ns.length n 0 (by omega) (by omega)
    exact ⟨b, hb, fun _ => h0 ▸ hR⟩
  · rw [decide_eq_true h0, cond_true]
    exact ⟨false, rfl, fun h => by cases h⟩
end
end Go.Proofs.YteicdfkmpnmkmaaGreat
