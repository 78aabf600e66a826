/-
  Walks and laws of this seat; the base is the text Base.
-/
import Derived.Test.YtmkcglpeidbblaaDoorQ10G
import Derived.Test.YtmkcglpeidbblaaDoorQ10A
import Derived.Test.YtmkcglpeidbblaaDoorL10vt
namespace Go.Proofs.YtmkcglpeidbblaaDoor
open Go.RowKit Go.Sl
/-! MatchLists -/
theorem weigh_l5 (y18 : Int) (lp : match_Weight → Int → Option match_Weight) (hlp : ∀ w, ∃ r, lp w (w64 (y18 + 1)) = some r) (s : sheet_Step) (hl : s.Tests.length ≤ 1048576) : ∀ (d k j : Nat) (w : match_Weight), s.Tests.length - j ≤ d → d + 2 ≤ k → ∃ r, match_Weigh_l5 y18 lp s k w (j : Int) = some r := by
  intro d
  have fin : ∀ (k j : Nat) (w : match_Weight), ¬ j < s.Tests.length → ∃ r, match_Weigh_l5 y18 lp s (k + 1) w (j : Int) = some r := fun k j w hj => by
    rw [match_Weigh_l5, decide_eq_false (show ¬ (j : Int) < (s.Tests.length : Int) by omega), cond_false]
    unfold match_Weigh_k3 match_Weigh_k4
    cases decide (s.Name ≠ bs [])
    · exact hlp _
    · exact hlp _
  induction d with
  | zero =>
    intro k j w hd hk
    obtain ⟨k, rfl⟩ : ∃ k', k = k' + 1 := ⟨k - 1, by omega⟩
    exact fin k j w (by omega)
  | succ d ih =>
    intro k j w hd hk
    obtain ⟨k, rfl⟩ : ∃ k', k = k' + 1 := ⟨k - 1, by omega⟩
    by_cases hj : j < s.Tests.length
    · rw [match_Weigh_l5, decide_eq_true (show (j : Int) < (s.Tests.length : Int) by omega), cond_true, geti_nat, List.getElem?_eq_getElem hj, Option.bind_some]
      unfold match_Weigh_k6
      rw [w64_succ (by omega)]
      cases decide (s.Tests[j].Kind = 1)
      · exact ih k (j + 1) _ (by omega) (by omega)
      · exact ih k (j + 1) _ (by omega) (by omega)
    · exact fin k j w hj
theorem weigh_l2 {n : Nat} (hn : 1048600 ≤ n) (s : sheet_Selector) (h12 : s.Steps.length ≤ 12) (hT : ∀ t ∈ s.Steps, t.Tests.length ≤ 1048576) : ∀ (d k j : Nat) (w : match_Weight), s.Steps.length - j ≤ d → d + 2 ≤ k → ∃ r, match_Weigh_l2 n s k w (j : Int) = some r := by
  intro d
  have fin : ∀ (k j : Nat) (w : match_Weight), ¬ j < s.Steps.length → ∃ r, match_Weigh_l2 n s (k + 1) w (j : Int) = some r := fun k j w hj => by
    rw [match_Weigh_l2, decide_eq_false (show ¬ (j : Int) < (s.Steps.length : Int) by omega), cond_false]
    exact ⟨_, rfl⟩
  induction d with
  | zero =>
    intro k j w hd hk
    obtain ⟨k, rfl⟩ : ∃ k', k = k' + 1 := ⟨k - 1, by omega⟩
    exact fin k j w (by omega)
  | succ d ih =>
    intro k j w hd hk
    obtain ⟨k, rfl⟩ : ∃ k', k = k' + 1 := ⟨k - 1, by omega⟩
    by_cases hj : j < s.Steps.length
    · rw [match_Weigh_l2, decide_eq_true (show (j : Int) < (s.Steps.length : Int) by omega), cond_true, geti_nat, List.getElem?_eq_getElem hj, Option.bind_some]
      exact weigh_l5 _ _ (fun w => by rw [w64_succ (by omega)]; exact ih k (j + 1) w (by omega) (by omega)) _ (hT _ (List.getElem_mem hj)) s.Steps[j].Tests.length n 0 w (by omega) (by have := hT _ (List.getElem_mem hj); omega)
    · exact fin k j w hj
def wz : match_Weight := {Ids := 0, Tests := 0, Names := 0}
def wt (n : Nat) (s : sheet_Selector) : match_Weight := (match_Weigh n s).getD wz
theorem weigh_eq {n : Nat} (hn : 1048600 ≤ n) (s : sheet_Selector) (h12 : s.Steps.length ≤ 12) (hT : ∀ t ∈ s.Steps, t.Tests.length ≤ 1048576) : match_Weigh n s = some (wt n s) := by
  obtain ⟨r, hr⟩ := weigh_l2 hn s h12 hT s.Steps.length n 0 wz (by omega) (by omega)
  have : match_Weigh n s = some r := hr
  unfold wt
  rw [this]
  rfl
section
variable (ns : List api_Node)
noncomputable def stp (n : Nat) (v : Int) (c : match_Weight × Bool) (s : sheet_Selector) : match_Weight × Bool := if ((!c.2 || lessB c.1 (wt n s)) && mB ns s.Steps v) = true then (wt n s, true) else c
theorem best_l2 (h : RT ns) (hS : SB_api_Tree ⟨ns⟩) {n : Nat} (hn : 3000100 ≤ n) (v : Int) (l : List sheet_Selector) (hl : l.length ≤ 1000) (hs : ∀ s ∈ l, s.Steps.length ≤ 12 ∧ ∀ t ∈ s.Steps, t.Tests.length ≤ 1048576) : ∀ (d k j : Nat) (c : match_Weight × Bool), l.length - j ≤ d → d + 2 ≤ k → match_Best_l2 n ⟨ns⟩ v l k c.1 c.2 (j : Int) = some ((l.drop j).foldl (stp ns n v) c) := by
  intro d
  have fin : ∀ (k j : Nat) (c : match_Weight × Bool), ¬ j < l.length → match_Best_l2 n ⟨ns⟩ v l (k + 1) c.1 c.2 (j : Int) = some ((l.drop j).foldl (stp ns n v) c) := fun k j c hj => by
    rw [match_Best_l2, decide_eq_false (show ¬ (j : Int) < (l.length : Int) by omega), cond_false, List.drop_eq_nil_of_le (by omega)]
    rfl
  induction d with
  | zero =>
    intro k j c hd hk
    obtain ⟨k, rfl⟩ : ∃ k', k = k' + 1 := ⟨k - 1, by omega⟩
    exact fin k j c (by omega)
  | succ d ih =>
    intro k j c hd hk
    obtain ⟨k, rfl⟩ : ∃ k', k = k' + 1 := ⟨k - 1, by omega⟩
    by_cases hj : j < l.length
    · obtain ⟨h12, hT⟩ := hs _ (List.getElem_mem hj)
      have hM : match_Match n ⟨ns⟩ v l[j] = some (mB ns l[j].Steps v) := match_eq ns l[j].Steps h hS (fun t ht => by have := hT t ht; omega) h12 hn v
      rw [match_Best_l2, decide_eq_true (show (j : Int) < (l.length : Int) by omega), cond_true, geti_nat, List.getElem?_eq_getElem hj, Option.bind_some, weigh_eq (by omega) _ h12 hT, Option.bind_some, hM, Option.bind_some, less_eq, Option.bind_some, List.drop_eq_getElem_cons hj, List.foldl_cons]
      have key : ∀ b, match_Best_k3 c.1 c.2 (j : Int) (match_Best_l2 n ⟨ns⟩ v l k) (wt n l[j]) b = some ((l.drop (j + 1)).foldl (stp ns n v) (if b = true then (wt n l[j], true) else c)) := fun b => by
        unfold match_Best_k3 match_Best_k4
        rw [w64_succ (by omega)]
        cases b
        · rw [cond_false, if_neg (by decide)]; exact ih k (j + 1) c (by omega) (by omega)
        · rw [cond_true, if_pos rfl]; exact ih k (j + 1) (wt n l[j], true) (by omega) (by omega)
      rw [key, key]
      unfold stp
      cases c.2
      · rfl
      · cases lessB c.1 (wt n l[j])
        · rfl
        · rfl
    · exact fin k j c hj
theorem best_eq (h : RT ns) (hS : SB_api_Tree ⟨ns⟩) {n : Nat} (hn : 3000100 ≤ n) (v : Int) (l : List sheet_Selector) (hl : l.length ≤ 1000) (hs : ∀ s ∈ l, s.Steps.length ≤ 12 ∧ ∀ t ∈ s.Steps, t.Tests.length ≤ 1048576) : match_Best n ⟨ns⟩ v l = some (l.foldl (stp ns n v) (wz, false)) :=
  best_l2 ns h hS hn v l hl hs l.length n 0 (wz, false) (by omega) (by omega)
end
end Go.Proofs.YtmkcglpeidbblaaDoor
