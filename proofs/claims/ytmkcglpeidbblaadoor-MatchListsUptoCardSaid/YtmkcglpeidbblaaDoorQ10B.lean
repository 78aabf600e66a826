/-
  Walks and laws of this seat; the base is the text Base.
-/
import Derived.Test.YtmkcglpeidbblaaDoorQ10G
import Derived.Test.YtmkcglpeidbblaaDoorQ10A
import Derived.Test.YtmkcglpeidbblaaDoorL10vt
namespace Go.Proofs.YtmkcglpeidbblaaDoor
open Go.RowKit Go.Sl
/-! MatchLists -/
theorem weigh_l5 (y18 : Int) (lp : match_Weight → Int → Option match_Weight) (hlp : ∀ w, ∃ r, lp w (w64 (y18 + 1)) = some r) (s : sheet_Step) (hl : s.Tests.length ≤ 1048576) : ∀ (d k j : Nat) (w : match_Weight), s.Tests.length - j ≤ d → d + 2 ≤ k → ∃ r, match_Weigh_l5 y18 lp s k w (j : Int) = some r := by
  intro d
  have fin : ∀ (k j : Nat) (w : match_Weight), ¬ j < s.Tests.length → ∃ r, match_Weigh_l5 y18 lp s (k + 1) w (j : Int) = some r := fun k j w hj => by
    rw [match_Weigh_l5, decide_eq_false (show ¬ (j : Int) < (s.Tests.length : Int) by omega), cond_false]
    unfold match_Weigh_k3 match_Weigh_k4
    cases decide (s.Name ≠ bs [])
    · exact hlp _
    · exact hlp _
  induction d with
  | zero =>
    intro k j w hd hk
    obtain ⟨k, rfl⟩ : ∃ k', k = k' + 1 := ⟨k - 1, by omega⟩
    exact fin k j w (by omega)
  | succ d ih =>
    intro k j w hd hk
    obtain ⟨k, rfl⟩ : ∃ k', k = k' + 1 := ⟨k - 1, by omega⟩
    by_cases hj : j < s.Tests.length
    · rw [match_Weigh_l5, decide_eq_true (show (j : Int) < (s.Tests.length : Int) by omega), cond_true, geti_nat, List.getElem?_eq_getElem hj, Option.bind_some]
      unfold match_Weigh_k6
      rw [w64_succ (by omega)]
      cases decide (s.Tests[j].Kind = 1)
      · exact ih k (j + 1) _ (by omega) (by omega)
      · exact ih k (j + 1) _ (by omega) (by omega)
    · exact fin k j w hj
theorem weigh_l2 {n : Nat} (hn : 1048600 ≤ n) (s : sheet_Selector) (h12 : s.Steps.length ≤ 12) (hT : ∀ t ∈ s.Steps, t.Tests.length ≤ 1048576) : ∀ (d k j : Nat) (w : match_Weight), s.Steps.length - j ≤ d → d + 2 ≤ k → ∃ r, match_Weigh_l2 n s k w (j : Int) = some r := by
  intro d
  have fin : ∀ (k j : Nat) (w : match_Weight), ¬ j < s.Steps.length → ∃ r, match_Weigh_l2 n s (k + 1) w (j : Int) = some r := fun k j w hj => by
    rw [match_Weigh_l2, decide_eq_false (show ¬ (j : Int) < (s.Steps.length : Int) by omega), cond_false]
    exact ⟨_, rfl⟩
  induction d with
  | zero =>
    intro k j w hd hk
    obtain ⟨k, rfl⟩ : ∃ k', k = k' + 1 := ⟨k - 1, by omega⟩
    exact fin k j w (by omega)
  | succ d ih =>
    intro k j w hd hk
    obtain ⟨k, rfl⟩ : ∃ k', k = k' + 1 := ⟨k - 1, by omega⟩
    by_cases hj : j < s.Steps.length
    · rw [match_Weigh_l2, decide_eq_true (show (j : Int) < (s.Steps.length : Int) by omega), cond_true, geti_nat, List.getElem?_eq_getElem hj, Option.bind_some]
      exact weigh_l5 _ _ (fun w => by rw [w64_succ (by omega)]; exact ih k (j + 1) w (by omega) (by omega)) _ (hT _ (List.getElem_mem hj)) s.Steps[j].Tests.length n 0 w (by omega) (by have := hT _ (List.getElem_mem hj); omega)
    · exact fin k j w hj
def wz : match_Weight := {Ids := 0, Tests := 0, Names := 0}
def wt (n : Nat) (s : sheet_Selector) : match_Weight := (match_Weigh n s).getD wz
theorem weigh_eq {n : Nat} (hn : 1048600 ≤ n) (s : sheet_Selector) (h12 : s.Steps.length ≤ 12) (hT : ∀ t ∈ s.Steps, t.Tests.length ≤ 1048576) : match_Weigh n s = some (wt n s) := by
  obtain ⟨r, hr⟩ := weigh_l2 hn s h12 hT s.Steps.length n 0 wz (by omega) (by omega)
  have : match_Weigh n s = some r := hr
  unfold wt
  rw [this]
  rfl
section
variable (ns : List api_Node)
noncomputable def stp (n : Nat) (v : Int) (c : match_Weight × Bool) (s : sheet_Selector) : match_Weight × Bool := if ((!c.2 || lessB c.1 (wt n s)) && mB ns s.Steps v) = true then (wt n s, true) else c
theorem best_l2 (h : RT ns) (hS : SB_api_Tree ⟨ns⟩) {n : Nat} (hn : 3000100 ≤ n) (v : Int) (l : List sheet_Selector) (hl : l.length ≤ 1000) (hs : ∀ s ∈ l, s.Steps.length ≤ 12 ∧ ∀ t ∈ s.Steps, t.Tests.length ≤ 1048576) : ∀ (d k j : Nat) (c : match_Weight × Bool), l.length - j ≤ d → d + 2 ≤ k → match_Best_l2 n ⟨ns⟩ v l k c.1 c.2 (j : Int) = some ((l.drop j).foldl (stp ns n v) c) := by
  intro d
  have fin : ∀ (k j : Nat) (c : match_Weight × Bool), ¬ j < l.length → match_Best_l2 n ⟨ns⟩ v l (k + 1) c.1 c.2 (j : Int) = some ((l.drop j).foldl (stp ns n v) c) := fun k j c hj => by
    rw [match_Best_l2, decide_eq_false (show ¬ (j : Int) < (l.length : Int) by omega), cond_false, List.drop_eq_nil_of_le (by omega)]
    rfl
  induction d with
  | zero =>
    intro k j c hd hk
    obtain ⟨k, rfl⟩ : ∃ k', k = k' + 1 := ⟨k - 1, by omega⟩
    exact fin k j c (by omega)
  | succ d ih =>
    intro k j c hd hk
    obtain ⟨k, rfl⟩ : ∃ k', k = k' + 1 := ⟨k - 1, by omega⟩
    by_cases hj : j < l.length
    · obtain ⟨h12, hT⟩ := hs _ (List.getElem_mem hj)
      have hM : match_Match n ⟨ns⟩ v l[j] = some (mB ns l[j].Steps v) := match_eq ns l[j].Steps h hS (fun t ht => by have := hT t ht; omega) h12 hn v
      rw [match_Best_l2, decide_eq_true (show (j : Int) < (l.length : Int) by omega), cond_true, geti_nat, List.getElem?_eq_getElem hj, Option.bind_some, weigh_eq (by omega) _ h12 hT, Option.bind_some, hM, Option.bind_some, less_eq, Option.bind_some, List.drop_eq_getElem_cons hj, List.foldl_cons]
      have key : ∀ b, match_Best_k3 c.1 c.2 (j : Int) (match_Best_l2 n ⟨ns⟩ v l k) (wt n l[j]) b = some ((l.drop (j + 1)).foldl (stp ns n v) (if b = true then (wt n l[j], true) else c)) := fun b => by
        unfold match_Best_k3 match_Best_k4
        rw [w64_succ (by omega)]
        cases b
        · rw [cond_false, if_neg (by decide)]; exact ih k (j + 1) c (by omega) (by omega)
        · rw [cond_true, if_pos rfl]; exact ih k (j + 1) (wt n l[j], true) (by omega) (by omega)
      rw [key, key]
      unfold stp
      cases c.2
      · rfl
      · cases lessB c.1 (wt n l[j])
        · rfl
        · rfl
    · exact fin k j c hj
theorem best_eq (h : RT ns) (hS : SB_api_Tree ⟨ns⟩) {n : Nat} (hn : 3000100 ≤ n) (v : Int) (l : List sheet_Selector) (hl : l.length ≤ 1000) (hs : ∀ s ∈ l, s.Steps.length ≤ 12 ∧ ∀ t ∈ s.Steps, t.Tests.length ≤ 1048576) : match_Best n ⟨ns⟩ v l = some (l.foldl (stp ns n v) (wz, false)) :=
  best_l2 ns h hS hn v l hl hs l.length n 0 (wz, false) (by omega) (by omega)
/-- What starts from a weight that counts is the better of that weight and of what starts afresh. -/
theorem fold_from (n : Nat) (v : Int) (w : match_Weight) : ∀ (l : List sheet_Selector) (c : match_Weight × Bool), l.foldl (stp ns n v) (if (c.2 && lessB w c.1) = true then c.1 else w, true) = (if ((l.foldl (stp ns n v) c).2 && lessB w (l.foldl (stp ns n v) c).1) = true then (l.foldl (stp ns n v) c).1 else w, true)
  | [], _ => rfl
  | s :: l, c => by
    rw [List.foldl_cons, List.foldl_cons, ← fold_from n v w l (stp ns n v c s)]
    have : stp ns n v (if (c.2 && lessB w c.1) = true then c.1 else w, true) s = (if ((stp ns n v c s).2 && lessB w (stp ns n v c s).1) = true then (stp ns n v c s).1 else w, true) := by
      obtain ⟨u, ok⟩ := c
      unfold stp
      cases mB ns s.Steps v with
      | false => simp
      | true =>
        cases ok with
        | false =>
          simp only [Bool.not_true, Bool.false_and, Bool.false_or, Bool.and_true, Bool.false_eq_true, ite_false, Bool.not_false, Bool.true_or, ite_true, Bool.true_and]
          split
          · rfl
          · rfl
        | true =>
          simp only [Bool.not_true, Bool.false_or, Bool.and_true, Bool.true_and]
          cases h1 : lessB w u with
          | true =>
            simp only [ite_true]
            cases h2 : lessB u (wt n s) with
            | true =>
              have h3 : lessB w (wt n s) = true := (lessB_iff _ _).2 (by have a := (lessB_iff _ _).1 h1; have b := (lessB_iff _ _).1 h2; omega)
              simp [h3]
            | false => simp [h1]
          | false =>
            simp only [Bool.false_eq_true, ite_false]
            cases h2 : lessB u (wt n s) with
            | true =>
              cases h3 : lessB w (wt n s) <;> simp [h3]
            | false =>
              have h3 : lessB w (wt n s) = false := (lessB_false _ _).2 (by have a := (lessB_false _ _).1 h1; have b := (lessB_false _ _).1 h2; omega)
              simp [h1, h3]
    rw [this]
theorem fold_none (n : Nat) (v : Int) : ∀ (l : List sheet_Selector) (c : match_Weight × Bool), (l.foldl (stp ns n v) c).2 = false → l.foldl (stp ns n v) c = c
  | [], _, _ => rfl
  | s :: l, c, h => by
    rw [List.foldl_cons] at h ⊢
    have e := fold_none n v l _ h
    rw [e] at h ⊢
    unfold stp at h ⊢
    split
    · rename_i h1; rw [if_pos h1] at h; cases h
    · rfl
theorem law10_MatchLists_true {t : api_Tree} {a b : List sheet_Selector} {v : Int} (hS : SB_api_Tree t) (ha : SslB SB_sheet_Selector a) (hb : SslB SB_sheet_Selector b) (_ : Sint .i64 v) : ∃ fuel, law10_MatchLists fuel t a b v = some true := by
  obtain ⟨ns⟩ := t
  refine ⟨4000000, ?_⟩
  generalize hN : (4000000 : Nat) = n
  have hn : 3000100 ≤ n := by omega
  clear hN
  have hk : law10_known n = some true := known_of (by omega)
  have hwrong : law10_MatchLists_k1 n ⟨ns⟩ a b v true = some true := by unfold law10_MatchLists_k1; rw [cond_true, hk]; rfl
  unfold law10_MatchLists
  obtain ⟨r1, e1, R1⟩ := small_eq hS (n := n) (by omega) a
  obtain ⟨r2, e2, R2⟩ := small_eq hS (n := n) (by omega) b
  rw [e1, Option.bind_some]
  cases r1 with
  | false => rw [Bool.not_false, cond_true]; exact hwrong
  | true =>
    rw [Bool.not_true, cond_false, e2, Option.bind_some]
    cases r2 with
    | false => exact hwrong
    | true =>
      obtain ⟨h, _, la, sa⟩ := R1 rfl
      obtain ⟨_, _, lb, sb⟩ := R2 rfl
      have qa : ∀ s ∈ a, s.Steps.length ≤ 12 ∧ ∀ t ∈ s.Steps, t.Tests.length ≤ 1048576 := fun s hs => ⟨sa s hs, SB.tests (steps := s.Steps) (ha.2 s hs)⟩
      have qb : ∀ s ∈ b, s.Steps.length ≤ 12 ∧ ∀ t ∈ s.Steps, t.Tests.length ≤ 1048576 := fun s hs => ⟨sb s hs, SB.tests (steps := s.Steps) (hb.2 s hs)⟩
      have qc : ∀ s ∈ a ++ b, s.Steps.length ≤ 12 ∧ ∀ t ∈ s.Steps, t.Tests.length ≤ 1048576 := fun s hs => (List.mem_append.1 hs).elim (qa s) (qb s)
      unfold law10_MatchLists_k1
      rw [Bool.not_true, cond_false, best_eq ns h hS hn v a (by omega) qa, Option.bind_some, best_eq ns h hS hn v b (by omega) qb, Option.bind_some, appM_eq (by simp only [List.length_nil]; omega), Option.bind_some, List.nil_append, appM_eq (by omega), Option.bind_some, best_eq ns h hS hn v (a ++ b) (by rw [List.length_append]; omega) qc, Option.bind_some, List.foldl_append]
      have k4 : ∀ w, law10_MatchLists_k4 n w w = some true := fun w => by
        unfold law10_MatchLists_k4 law10_MatchLists_k5
        rw [decide_eq_true rfl, decide_eq_true rfl, decide_eq_true rfl, hk]
        rfl
      cases eA : (a.foldl (stp ns n v) (wz, false)).2 with
      | false =>
        rw [fold_none ns n v a _ eA]
        unfold law10_MatchLists_k2 law10_MatchLists_k3
        rw [beq_self_eq_true]
        exact k4 _
      | true =>
        generalize hA : a.foldl (stp ns n v) (wz, false) = A at eA
        obtain ⟨w, ok⟩ := A
        simp only at eA
        subst eA
        have hf := fold_from ns n v w b (wz, false)
        simp only [Bool.false_and, Bool.false_eq_true, ite_false] at hf
        rw [hf]
        generalize b.foldl (stp ns n v) (wz, false) = B
        obtain ⟨u, okb⟩ := B
        unfold law10_MatchLists_k2 law10_MatchLists_k3
        rw [less_eq]
        simp only [cond_true, beq_self_eq_true, Bool.not_true, cond_false, Option.bind_some]
        cases okb with
        | false => exact k4 _
        | true =>
          cases h1 : lessB w u with
          | false => exact k4 _
          | true => exact k4 _
end
end Go.Proofs.YtmkcglpeidbblaaDoor
