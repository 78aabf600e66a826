/-
  Walks and laws of this seat; the base is the text Base.
-/
import Derived.Test.YtmkcglpeidbblaaDoorQ10P
import Derived.Test.YtmkcglpeidbblaaDoorQ10K
import Derived.Test.YtmkcglpeidbblaaDoorP10
namespace Go.Sl
section
variable {κ β : Type} [DecidableEq κ]
theorem kget_kput (m : List (κ × β)) (k k' : κ) (v : β) : kget (kput m k v) k' = if k = k' then some v else kget m k' := by
  induction m with
  | nil =>
    by_cases h : k = k'
    · simp [kput, kget, h]
    · simp [kput, kget, h]
  | cons p m ih =>
    unfold kput
    by_cases hp : p.1 = k
    · rw [if_pos hp]
      by_cases h : k = k'
      · subst h; simp [kget, hp]
      · rw [if_neg h]; simp [kget, show ¬ p.1 = k' from fun e => h (hp.symm.trans e)]
    · rw [if_neg hp]
      by_cases h' : p.1 = k'
      · have hk : ¬ k = k' := fun e => hp (h'.trans e.symm)
        rw [if_neg hk]; simp [kget, h']
      · have e1 : kget (p :: kput m k v) k' = kget (kput m k v) k' := by simp [kget, h']
        have e2 : kget (p :: m) k' = kget m k' := by simp [kget, h']
        rw [e1, e2, ih]
end
end Go.Sl
namespace Go.Proofs.YtmkcglpeidbblaaDoor
open Go.RowKit Go.Sl
/-! Sizes -/
theorem addS_eq {s t : ByteArray} (h : s.size + t.size ≤ 9223372036854775807) : addS s t = some (s ++ t) := by unfold addS; rw [decide_eq_true h, cond_true]
theorem runesM_eq {s : ByteArray} (h : s.size ≤ 70368744177664) : runesM s = some (runesIn s) := by unfold runesM; rw [decide_eq_true h, cond_true]
section
variable {ns : List api_Node}
theorem SB.node (hS : SB_api_Tree ⟨ns⟩) {i : Nat} (hi : i < ns.length) : SB_api_Node (nd ns i) := by
  have : nd ns i = ns[i] := by simp [nd, hi]
  rw [this]; exact hS.2 _ (List.getElem_mem hi)
/-! keep.Whole ends. -/
theorem whole_k3 (j : Int) (lp : Int → Option Bool) (hlp : ∃ b, lp (w64 (j + 1)) = some b) {y : ByteArray} (hy : y.size ≤ 70368744177664) : ∃ b, keep_Whole_k3 j lp y = some b := by
  unfold keep_Whole_k3
  rw [runesM_eq hy, Option.bind_some]
  cases decide (textOf (runesIn y) ≠ y)
  · exact hlp
  · exact ⟨_, rfl⟩
theorem whole_l4 (hS : SB_api_Tree ⟨ns⟩) {j : Nat} (hj : j < ns.length) (lp : Int → Option Bool) (hlp : ∃ b, lp (w64 ((j : Int) + 1)) = some b) : ∀ (d k m : Nat) (y : ByteArray), (nd ns j).Attrs.length - m ≤ d → d + 2 ≤ k → m ≤ (nd ns j).Attrs.length →
    y.size + d * 2097154 ≤ 70368744177664 → ∃ b, keep_Whole_l4 ⟨ns⟩ j lp k y (m : Int) = some b := by
  intro d
  have hN := SB.node hS hj
  induction d with
  | zero =>
    intro k m y hd hk hm hy
    obtain ⟨k, rfl⟩ : ∃ k', k = k' + 1 := ⟨k - 1, by omega⟩
    rw [keep_Whole_l4, get_nd hj, Option.bind_some, decide_eq_false (show ¬ (m : Int) < ((nd ns j).Attrs.length : Int) by omega), cond_false]
    exact whole_k3 _ _ hlp (by omega)
  | succ d ih =>
    intro k m y hd hk hm hy
    obtain ⟨k, rfl⟩ : ∃ k', k = k' + 1 := ⟨k - 1, by omega⟩
    by_cases hlt : m < (nd ns j).Attrs.length
    · have hA : SB_api_Attr (nd ns j).Attrs[m] := hN.2.2.2.1.2 _ (List.getElem_mem hlt)
      have e2 : geti (nd ns j).Attrs (m : Int) = some (nd ns j).Attrs[m] := by rw [geti_nat]; simp [hlt]
      have h1 : (nd ns j).Attrs[m].Name.size ≤ 1048576 := hA.1
      have h2 : (nd ns j).Attrs[m].Value.size ≤ 1048576 := hA.2
      have hl : (nd ns j).Attrs.length ≤ 1048576 := hN.2.2.2.1.1
      have hb : (bs [124]).size = 1 := rfl
      simp only [keep_Whole_l4, get_nd hj, Option.bind_some, decide_eq_true (show (m : Int) < ((nd ns j).Attrs.length : Int) by omega), cond_true, e2]
      rw [addS_eq (by omega), Option.bind_some, addS_eq (by rw [ByteArray.size_append]; omega), Option.bind_some, addS_eq (by simp only [ByteArray.size_append]; omega), Option.bind_some, addS_eq (by simp only [ByteArray.size_append]; omega), Option.bind_some, w64_succ (by omega)]
      exact ih k (m + 1) _ (by omega) (by omega) (by omega) (by simp only [ByteArray.size_append]; omega)
    · rw [keep_Whole_l4, get_nd hj, Option.bind_some, decide_eq_false (show ¬ (m : Int) < ((nd ns j).Attrs.length : Int) by omega), cond_false]
      exact whole_k3 _ _ hlp (by omega)
theorem whole_l2 (hS : SB_api_Tree ⟨ns⟩) {n : Nat} (hn : 1048600 ≤ n) : ∀ (d k j : Nat), ns.length - j ≤ d → d + 2 ≤ k → ∃ b, keep_Whole_l2 n ⟨ns⟩ k (j : Int) = some b := by
  intro d
  have hL : ns.length ≤ 1048576 := hS.1
  induction d with
  | zero =>
    intro k j hd hk
    obtain ⟨k, rfl⟩ : ∃ k', k = k' + 1 := ⟨k - 1, by omega⟩
    rw [keep_Whole_l2, decide_eq_false (show ¬ (j : Int) < (((⟨ns⟩ : api_Tree).Nodes.length : Nat) : Int) by show ¬ (j : Int) < (ns.length : Int); omega), cond_false]
    exact ⟨_, rfl⟩
  | succ d ih =>
    intro k j hd hk
    obtain ⟨k, rfl⟩ : ∃ k', k = k' + 1 := ⟨k - 1, by omega⟩
    by_cases hj : j < ns.length
    · have hN := SB.node hS hj
      have h1 : (nd ns j).Name.size ≤ 1048576 := hN.2.1
      have h2 : (nd ns j).Text.size ≤ 1048576 := hN.2.2.1
      have hl : (nd ns j).Attrs.length ≤ 1048576 := hN.2.2.2.1.1
      have hb : (bs [124]).size = 1 := rfl
      rw [keep_Whole_l2, decide_eq_true (show (j : Int) < (((⟨ns⟩ : api_Tree).Nodes.length : Nat) : Int) by show (j : Int) < (ns.length : Int); omega), cond_true]
      simp only [get_nd hj, Option.bind_some]
      rw [addS_eq (by omega), Option.bind_some, addS_eq (by rw [ByteArray.size_append]; omega), Option.bind_some]
      exact whole_l4 hS hj _ (by rw [w64_succ (by omega)]; exact ih k (j + 1) (by omega) (by omega)) (nd ns j).Attrs.length n 0 _ (by omega) (by omega) (by omega) (by simp only [ByteArray.size_append]; omega)
    · rw [keep_Whole_l2, decide_eq_false (show ¬ (j : Int) < (((⟨ns⟩ : api_Tree).Nodes.length : Nat) : Int) by show ¬ (j : Int) < (ns.length : Int); omega), cond_false]
      exact ⟨_, rfl⟩
theorem whole_eq (hS : SB_api_Tree ⟨ns⟩) {n : Nat} (hn : 1048600 ≤ n) : ∃ b, keep_Whole n ⟨ns⟩ = some b ∧ (b = true → RT ns) := by
  have hL : ns.length ≤ 1048576 := hS.1
  obtain ⟨r, hr, hR⟩ := ref5_Right_eq ns (n := n) (by omega) (fun j hj => by have : (nd ns j).Attrs.length ≤ 1048576 := (SB.node hS hj).2.2.2.1.1; omega)
  unfold keep_Whole
  rw [hr, Option.bind_some]
  by_cases h0 : r = 0
  · rw [decide_eq_false (not_not_intro h0), cond_false]
    obtain ⟨b, hb⟩ := whole_l2 hS hn ns.length n 0 (by omega) (by omega)
    exact ⟨b, hb, fun _ => RT.of hR h0⟩
  · rw [decide_eq_true h0, cond_true]
    exact ⟨false, rfl, fun h => by cases h⟩
/-! law10.small ends. -/
theorem small_l3 (l : List sheet_Selector) (hl : l.length ≤ 100) : ∀ (d k j : Nat), l.length - j ≤ d → d + 2 ≤ k → (∀ i, i < j → ∀ s, l[i]? = some s → s.Steps.length ≤ 12) → ∃ b, law10_small_l3 l k (j : Int) = some b ∧ (b = true → ∀ s ∈ l, s.Steps.length ≤ 12) := by
  intro d
  have fin : ∀ (k j : Nat), ¬ j < l.length → (∀ i, i < j → ∀ s, l[i]? = some s → s.Steps.length ≤ 12) → ∃ b, law10_small_l3 l (k + 1) (j : Int) = some b ∧ (b = true → ∀ s ∈ l, s.Steps.length ≤ 12) := fun k j hj h => by
    rw [law10_small_l3, decide_eq_false (show ¬ (j : Int) < (l.length : Int) by omega), cond_false]
    refine ⟨true, rfl, fun _ s hs => ?_⟩
    obtain ⟨i, hi, rfl⟩ := List.getElem_of_mem hs
    exact h i (by omega) _ (by simp [hi])
  induction d with
  | zero =>
    intro k j hd hk h
    obtain ⟨k, rfl⟩ : ∃ k', k = k' + 1 := ⟨k - 1, by omega⟩
    exact fin k j (by omega) h
  | succ d ih =>
    intro k j hd hk h
    obtain ⟨k, rfl⟩ : ∃ k', k = k' + 1 := ⟨k - 1, by omega⟩
    by_cases hj : j < l.length
    · rw [law10_small_l3, decide_eq_true (show (j : Int) < (l.length : Int) by omega), cond_true, geti_nat, List.getElem?_eq_getElem hj, Option.bind_some]
      by_cases h12 : l[j].Steps.length ≤ 12
      · rw [decide_eq_false (show ¬ (12 : Int) < (l[j].Steps.length : Int) by omega), cond_false, w64_succ (by omega)]
        refine ih k (j + 1) (by omega) (by omega) fun i hi s hs => ?_
        by_cases e : i = j
        · subst e; rw [List.getElem?_eq_getElem hj] at hs; obtain rfl := Option.some.inj hs; exact h12
        · exact h i (by omega) s hs
      · rw [decide_eq_true (show (12 : Int) < (l[j].Steps.length : Int) by omega), cond_true]
        exact ⟨false, rfl, fun h => by cases h⟩
    · exact fin k j hj h
theorem small_eq (hS : SB_api_Tree ⟨ns⟩) {n : Nat} (hn : 1048600 ≤ n) (l : List sheet_Selector) : ∃ b, law10_small n ⟨ns⟩ l = some b ∧ (b = true → RT ns ∧ ns.length ≤ 150 ∧ l.length ≤ 20 ∧ ∀ s ∈ l, s.Steps.length ≤ 12) := by
  unfold law10_small
  by_cases h1 : ns.length ≤ 150
  · rw [decide_eq_false (show ¬ (150 : Int) < (((⟨ns⟩ : api_Tree).Nodes.length : Nat) : Int) by show ¬ (150 : Int) < (ns.length : Int); omega), cond_false]
    obtain ⟨b, hb, hR⟩ := whole_eq hS hn
    rw [hb, Option.bind_some]
    cases b with
    | false => exact ⟨false, rfl, fun h => by cases h⟩
    | true =>
      rw [Bool.not_true, cond_false]
      unfold law10_small_k1
      by_cases h2 : l.length ≤ 20
      · rw [decide_eq_false (show ¬ (20 : Int) < (l.length : Int) by omega), cond_false]
        obtain ⟨b, hb, hB⟩ := small_l3 l (by omega) l.length n 0 (by omega) (by omega) (fun i hi => by omega)
        exact ⟨b, hb, fun h => ⟨hR rfl, h1, h2, hB h⟩⟩
      · rw [decide_eq_true (show (20 : Int) < (l.length : Int) by omega), cond_true]
        exact ⟨false, rfl, fun h => by cases h⟩
  · rw [decide_eq_true (show (150 : Int) < (((⟨ns⟩ : api_Tree).Nodes.length : Nat) : Int) by show (150 : Int) < (ns.length : Int); omega), cond_true]
    exact ⟨false, rfl, fun h => by cases h⟩
end
end Go.Proofs.YtmkcglpeidbblaaDoor
