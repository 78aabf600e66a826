/-
  Walks and laws of this seat; the base is the text Base.
-/
import Derived.Test.YtmkcglpeidbblaaDoorQ10T
import Derived.Test.YtmkcglpeidbblaaDoorQ10B
import Derived.Test.YtmkcglpeidbblaaDoorL10vm
namespace Go.Proofs.YtmkcglpeidbblaaDoor
open Go.RowKit Go.Sl
/-! MatchMatches -/
def rwt (a : match_Weight) : ref10_Weight := {Ids := a.Ids, Tests := a.Tests, Names := a.Names}
theorem wr5 (sel : ref9_Selector) (y : Int) (s : sheet_Step) (hg : geti sel.Steps y = some (cvS s)) (lp : match_Weight → Int → Option match_Weight) (lp' : ref10_Weight → Int → Option ref10_Weight) (hlp : ∀ a, ∃ r, lp a (w64 (y + 1)) = some r ∧ lp' (rwt a) (w64 (y + 1)) = some (rwt r)) (hl : s.Tests.length ≤ 1048576) : ∀ (d k j : Nat) (a : match_Weight) (b : ref10_Weight), s.Tests.length - j ≤ d → d + 2 ≤ k → b.Ids = a.Ids → b.Tests = a.Tests → b.Names = (bif decide (s.Name ≠ bs []) then w64 (a.Names + 1) else a.Names) →
    ∃ r, match_Weigh_l5 y lp s k a (j : Int) = some r ∧ ref10_Weigh_l5 sel y lp' k b (j : Int) = some (rwt r) := by
  intro d
  have hml : (cvS s).Tests.length = s.Tests.length := List.length_map _
  have fin : ∀ (k j : Nat) (a : match_Weight) (b : ref10_Weight), ¬ j < s.Tests.length → b.Ids = a.Ids → b.Tests = a.Tests → b.Names = (bif decide (s.Name ≠ bs []) then w64 (a.Names + 1) else a.Names) →
      ∃ r, match_Weigh_l5 y lp s (k + 1) a (j : Int) = some r ∧ ref10_Weigh_l5 sel y lp' (k + 1) b (j : Int) = some (rwt r) := fun k j a b hj e1 e2 e3 => by
    rw [match_Weigh_l5, decide_eq_false (show ¬ (j : Int) < (s.Tests.length : Int) by omega), cond_false, ref10_Weigh_l5, hg, Option.bind_some, hml, decide_eq_false (show ¬ (j : Int) < (s.Tests.length : Int) by omega), cond_false]
    unfold match_Weigh_k3 match_Weigh_k4 ref10_Weigh_k4
    obtain ⟨b1, b2, b3⟩ := b
    simp only at e1 e2 e3
    subst e1 e2 e3
    cases decide (s.Name ≠ bs [])
    · exact hlp a
    · exact hlp {Ids := a.Ids, Tests := a.Tests, Names := w64 (a.Names + 1)}
  induction d with
  | zero =>
    intro k j a b hd hk e1 e2 e3
    obtain ⟨k, rfl⟩ : ∃ k', k = k' + 1 := ⟨k - 1, by omega⟩
    exact fin k j a b (by omega) e1 e2 e3
  | succ d ih =>
    intro k j a b hd hk e1 e2 e3
    obtain ⟨k, rfl⟩ : ∃ k', k = k' + 1 := ⟨k - 1, by omega⟩
    by_cases hj : j < s.Tests.length
    · have eg : geti (cvS s).Tests (j : Int) = some (cvT s.Tests[j]) := by rw [geti_nat]; simp [cvS, hj]
      rw [match_Weigh_l5, decide_eq_true (show (j : Int) < (s.Tests.length : Int) by omega), cond_true, geti_nat, List.getElem?_eq_getElem hj, Option.bind_some, ref10_Weigh_l5, hg, Option.bind_some, hml, decide_eq_true (show (j : Int) < (s.Tests.length : Int) by omega), cond_true, Option.bind_some, eg, Option.bind_some]
      unfold match_Weigh_k6 ref10_Weigh_k6
      rw [w64_succ (by omega), show (cvT s.Tests[j]).Kind = s.Tests[j].Kind from rfl]
      cases decide (s.Tests[j].Kind = 1)
      · exact ih k (j + 1) _ _ (by omega) (by omega) e1 (by show w64 (b.Tests + 1) = w64 (a.Tests + 1); rw [e2]) e3
      · exact ih k (j + 1) _ _ (by omega) (by omega) (by show w64 (b.Ids + 1) = w64 (a.Ids + 1); rw [e1]) e2 e3
    · exact fin k j a b hj e1 e2 e3
theorem wr2 {n : Nat} (hn : 1048600 ≤ n) (s : sheet_Selector) (h12 : s.Steps.length ≤ 12) (hT : ∀ t ∈ s.Steps, t.Tests.length ≤ 1048576) : ∀ (d k j : Nat) (a : match_Weight), s.Steps.length - j ≤ d → d + 2 ≤ k → ∃ r, match_Weigh_l2 n s k a (j : Int) = some r ∧ ref10_Weigh_l2 n (cvL s) k (rwt a) (j : Int) = some (rwt r) := by
  intro d
  have hml : (cvL s).Steps.length = s.Steps.length := List.length_map _
  have fin : ∀ (k j : Nat) (a : match_Weight), ¬ j < s.Steps.length → ∃ r, match_Weigh_l2 n s (k + 1) a (j : Int) = some r ∧ ref10_Weigh_l2 n (cvL s) (k + 1) (rwt a) (j : Int) = some (rwt r) := fun k j a hj => by
    rw [match_Weigh_l2, decide_eq_false (show ¬ (j : Int) < (s.Steps.length : Int) by omega), cond_false, ref10_Weigh_l2, hml, decide_eq_false (show ¬ (j : Int) < (s.Steps.length : Int) by omega), cond_false]
    exact ⟨a, rfl, rfl⟩
  induction d with
  | zero =>
    intro k j a hd hk
    obtain ⟨k, rfl⟩ : ∃ k', k = k' + 1 := ⟨k - 1, by omega⟩
    exact fin k j a (by omega)
  | succ d ih =>
    intro k j a hd hk
    obtain ⟨k, rfl⟩ : ∃ k', k = k' + 1 := ⟨k - 1, by omega⟩
    by_cases hj : j < s.Steps.length
    · have hTj := hT _ (List.getElem_mem hj)
      have eg : geti (cvL s).Steps (j : Int) = some (cvS s.Steps[j]) := by rw [geti_nat]; simp [cvL, hj]
      rw [match_Weigh_l2, decide_eq_true (show (j : Int) < (s.Steps.length : Int) by omega), cond_true, geti_nat, List.getElem?_eq_getElem hj, Option.bind_some, ref10_Weigh_l2, hml, decide_eq_true (show (j : Int) < (s.Steps.length : Int) by omega), cond_true, eg, Option.bind_some]
      unfold ref10_Weigh_k3
      rw [show (cvS s.Steps[j]).Name = s.Steps[j].Name from rfl]
      have key : ∀ b : ref10_Weight, b.Ids = a.Ids → b.Tests = a.Tests → b.Names = (bif decide (s.Steps[j].Name ≠ bs []) then w64 (a.Names + 1) else a.Names) → ∃ r, match_Weigh_l5 (j : Int) (match_Weigh_l2 n s k) s.Steps[j] n a 0 = some r ∧ ref10_Weigh_l5 (cvL s) (j : Int) (ref10_Weigh_l2 n (cvL s) k) n b 0 = some (rwt r) := fun b e1 e2 e3 =>
        wr5 (cvL s) (j : Int) s.Steps[j] eg _ _ (fun a => by rw [w64_succ (by omega)]; exact ih k (j + 1) a (by omega) (by omega)) hTj s.Steps[j].Tests.length n 0 a b (by omega) (by omega) e1 e2 e3
      cases e : decide (s.Steps[j].Name ≠ bs []) with
      | false => exact key _ rfl rfl (by rw [e]; rfl)
      | true => exact key _ rfl rfl (by rw [e]; rfl)
    · exact fin k j a hj
theorem rweigh_eq {n : Nat} (hn : 1048600 ≤ n) (s : sheet_Selector) (h12 : s.Steps.length ≤ 12) (hT : ∀ t ∈ s.Steps, t.Tests.length ≤ 1048576) : ref10_Weigh n (cvL s) = some (rwt (wt n s)) := by
  obtain ⟨r, e1, e2⟩ := wr2 hn s h12 hT s.Steps.length n 0 wz (by omega) (by omega)
  have e3 : match_Weigh n s = some r := e1
  rw [weigh_eq hn s h12 hT] at e3
  rw [Option.some.inj e3]
  exact e2
theorem rless_eq (n : Nat) (a b : match_Weight) : ref10_Less n (rwt a) (rwt b) = some (lessB a b) := by
  unfold ref10_Less lessB rwt
  cases decide (a.Ids ≠ b.Ids) <;> cases decide (a.Tests ≠ b.Tests) <;> rfl
section
variable (ns : List api_Node)
theorem rbest_l2 (h : RT ns) (hS : SB_api_Tree ⟨ns⟩) {n : Nat} (hn : 4194400 ≤ n) (v : Int) (l : List sheet_Selector) (hl : l.length ≤ 1000) (hs : ∀ s ∈ l, s.Steps.length ≤ 12 ∧ ∀ t ∈ s.Steps, t.Tests.length ≤ 1048576) : ∀ (d k j : Nat) (c : match_Weight × Bool), l.length - j ≤ d → d + 2 ≤ k → ref10_Best_l2 n ⟨ns⟩ v (l.map cvL) k (rwt c.1) c.2 (j : Int) = some (rwt ((l.drop j).foldl (stp ns n v) c).1, ((l.drop j).foldl (stp ns n v) c).2) := by
  intro d
  have hml : (l.map cvL).length = l.length := List.length_map _
  have fin : ∀ (k j : Nat) (c : match_Weight × Bool), ¬ j < l.length → ref10_Best_l2 n ⟨ns⟩ v (l.map cvL) (k + 1) (rwt c.1) c.2 (j : Int) = some (rwt ((l.drop j).foldl (stp ns n v) c).1, ((l.drop j).foldl (stp ns n v) c).2) := fun k j c hj => by
    rw [ref10_Best_l2, hml, decide_eq_false (show ¬ (j : Int) < (l.length : Int) by omega), cond_false, List.drop_eq_nil_of_le (by omega)]
    rfl
  induction d with
  | zero =>
    intro k j c hd hk
    obtain ⟨k, rfl⟩ : ∃ k', k = k' + 1 := ⟨k - 1, by omega⟩
    exact fin k j c (by omega)
  | succ d ih =>
    intro k j c hd hk
    obtain ⟨k, rfl⟩ : ∃ k', k = k' + 1 := ⟨k - 1, by omega⟩
    by_cases hj : j < l.length
    · obtain ⟨h12, hT⟩ := hs _ (List.getElem_mem hj)
      have eg : geti (l.map cvL) (j : Int) = some (cvL l[j]) := by rw [geti_nat]; simp [hj]
      have hM : ref10_Match n ⟨ns⟩ v (cvL l[j]) = some (mB ns l[j].Steps v) := rmatch_eq ns l[j].Steps h hS (fun t ht => by have := hT t ht; omega) hn h12 v
      have k3 : ∀ c' : match_Weight × Bool, ref10_Best_k3 (j : Int) (ref10_Best_l2 n ⟨ns⟩ v (l.map cvL) k) (rwt c'.1) c'.2 = some (rwt ((l.drop (j + 1)).foldl (stp ns n v) c').1, ((l.drop (j + 1)).foldl (stp ns n v) c').2) := fun c' => by
        unfold ref10_Best_k3
        rw [w64_succ (by omega)]
        exact ih k (j + 1) c' (by omega) (by omega)
      rw [ref10_Best_l2, hml, decide_eq_true (show (j : Int) < (l.length : Int) by omega), cond_true, eg, Option.bind_some, hM, Option.bind_some, Option.bind_some, rweigh_eq (by omega) _ h12 hT, Option.bind_some, rless_eq, Option.bind_some, List.drop_eq_getElem_cons hj, List.foldl_cons]
      unfold ref10_Best_k4 ref10_Best_k5
      obtain ⟨w, ok⟩ := c
      unfold stp
      cases mB ns l[j].Steps v with
      | false =>
        rw [Bool.not_false, cond_true, Bool.and_false, if_neg (by decide)]
        exact k3 (w, ok)
      | true =>
        rw [Bool.not_true, cond_false, Bool.and_true]
        cases ok with
        | false => exact k3 (wt n l[j], true)
        | true =>
          cases lessB w (wt n l[j]) with
          | true => exact k3 (wt n l[j], true)
          | false => exact k3 (w, true)
    · exact fin k j c hj
theorem rbest_eq (h : RT ns) (hS : SB_api_Tree ⟨ns⟩) {n : Nat} (hn : 4194400 ≤ n) (v : Int) (l : List sheet_Selector) (hl : l.length ≤ 1000) (hs : ∀ s ∈ l, s.Steps.length ≤ 12 ∧ ∀ t ∈ s.Steps, t.Tests.length ≤ 1048576) : ref10_Best n ⟨ns⟩ v (l.map cvL) = some (rwt (l.foldl (stp ns n v) (wz, false)).1, (l.foldl (stp ns n v) (wz, false)).2) :=
  rbest_l2 ns h hS hn v l hl hs l.length n 0 (wz, false) (by omega) (by omega)
end
/-! selectors -/
section
variable (l : List sheet_Selector)
theorem sel_l6 {i : Nat} (hi : i < l.length) {t : Nat} (ht : t < l[i].Steps.length) (y64 : List ref9_Step) (lp : List ref9_Step → Int → Option (List ref9_Selector)) (hl : l[i].Steps[t].Tests.length ≤ 1048576) : ∀ (d k j : Nat) (acc : List ref9_Test), l[i].Steps[t].Tests.length - j = d → d + 2 ≤ k → j ≤ l[i].Steps[t].Tests.length → acc = (l[i].Steps[t].Tests.take j).map cvT →
    law10_selectors_l6 l (i : Int) y64 (t : Int) lp l[i].Steps[t] l[i].Steps[t] k acc (j : Int) = law10_selectors_k5 y64 (t : Int) lp l[i].Steps[t] l[i].Steps[t] (l[i].Steps[t].Tests.map cvT) := by
  intro d
  have eg1 : geti l (i : Int) = some l[i] := by rw [geti_nat, List.getElem?_eq_getElem hi]
  have eg2 : geti l[i].Steps (t : Int) = some l[i].Steps[t] := by rw [geti_nat, List.getElem?_eq_getElem ht]
  induction d with
  | zero =>
    intro k j acc hd hk hj ha
    obtain ⟨k, rfl⟩ : ∃ k', k = k' + 1 := ⟨k - 1, by omega⟩
    rw [law10_selectors_l6, eg1, Option.bind_some, eg2, Option.bind_some, decide_eq_false (show ¬ (j : Int) < (l[i].Steps[t].Tests.length : Int) by omega), cond_false, ha, List.take_of_length_le (by omega)]
  | succ d ih =>
    intro k j acc hd hk hj ha
    obtain ⟨k, rfl⟩ : ∃ k', k = k' + 1 := ⟨k - 1, by omega⟩
    have hlt : j < l[i].Steps[t].Tests.length := by omega
    have eg3 : geti l[i].Steps[t].Tests (j : Int) = some l[i].Steps[t].Tests[j] := by rw [geti_nat, List.getElem?_eq_getElem hlt]
    have hal : acc.length = j := by rw [ha, List.length_map, List.length_take]; omega
    rw [law10_selectors_l6, eg1, Option.bind_some, eg2, Option.bind_some, decide_eq_true (show (j : Int) < (l[i].Steps[t].Tests.length : Int) by omega), cond_true, Option.bind_some, eg2, Option.bind_some, eg3, Option.bind_some, appM_eq (by simp only [List.length_cons, List.length_nil]; omega), Option.bind_some, w64_succ (by omega)]
    exact ih k (j + 1) _ (by omega) (by omega) (by omega) (by rw [ha, List.take_succ_eq_append_getElem hlt, List.map_append]; rfl)
theorem sel_l4 {n : Nat} (hn : 1048600 ≤ n) {i : Nat} (hi : i < l.length) (h12 : l[i].Steps.length ≤ 12) (hT : ∀ t ∈ l[i].Steps, t.Tests.length ≤ 1048576) (y22 : List ref9_Selector) (lp : List ref9_Selector → Int → Option (List ref9_Selector)) : ∀ (d k j : Nat) (acc : List ref9_Step), l[i].Steps.length - j = d → d + 2 ≤ k → j ≤ l[i].Steps.length → acc = (l[i].Steps.take j).map cvS →
    law10_selectors_l4 n l y22 (i : Int) lp k acc (j : Int) = law10_selectors_k3 y22 (i : Int) lp (l[i].Steps.map cvS) := by
  intro d
  have eg1 : geti l (i : Int) = some l[i] := by rw [geti_nat, List.getElem?_eq_getElem hi]
  induction d with
  | zero =>
    intro k j acc hd hk hj ha
    obtain ⟨k, rfl⟩ : ∃ k', k = k' + 1 := ⟨k - 1, by omega⟩
    rw [law10_selectors_l4, eg1, Option.bind_some, decide_eq_false (show ¬ (j : Int) < (l[i].Steps.length : Int) by omega), cond_false, ha, List.take_of_length_le (by omega)]
  | succ d ih =>
    intro k j acc hd hk hj ha
    obtain ⟨k, rfl⟩ : ∃ k', k = k' + 1 := ⟨k - 1, by omega⟩
    have hlt : j < l[i].Steps.length := by omega
    have eg2 : geti l[i].Steps (j : Int) = some l[i].Steps[j] := by rw [geti_nat, List.getElem?_eq_getElem hlt]
    have hTj := hT _ (List.getElem_mem hlt)
    have hal : acc.length = j := by rw [ha, List.length_map, List.length_take]; omega
    rw [law10_selectors_l4, eg1, Option.bind_some, decide_eq_true (show (j : Int) < (l[i].Steps.length : Int) by omega), cond_true, Option.bind_some, eg2, Option.bind_some, Option.bind_some, eg2, Option.bind_some]
    refine (sel_l6 l hi hlt acc _ hTj l[i].Steps[j].Tests.length n 0 [] (by omega) (by omega) (by omega) rfl).trans ?_
    unfold law10_selectors_k5
    rw [appM_eq (by simp only [List.length_cons, List.length_nil]; omega), Option.bind_some, w64_succ (by omega)]
    exact ih k (j + 1) _ (by omega) (by omega) (by omega) (by rw [ha, List.take_succ_eq_append_getElem hlt, List.map_append]; rfl)
theorem sel_l2 {n : Nat} (hn : 1048600 ≤ n) (hl : l.length ≤ 1000) (hs : ∀ s ∈ l, s.Steps.length ≤ 12 ∧ ∀ t ∈ s.Steps, t.Tests.length ≤ 1048576) : ∀ (d k j : Nat) (acc : List ref9_Selector), l.length - j = d → d + 2 ≤ k → j ≤ l.length → acc = (l.take j).map cvL → law10_selectors_l2 n l k acc (j : Int) = some (l.map cvL) := by
  intro d
  induction d with
  | zero =>
    intro k j acc hd hk hj ha
    obtain ⟨k, rfl⟩ : ∃ k', k = k' + 1 := ⟨k - 1, by omega⟩
    rw [law10_selectors_l2, decide_eq_false (show ¬ (j : Int) < (l.length : Int) by omega), cond_false, ha, List.take_of_length_le (by omega)]
    rfl
  | succ d ih =>
    intro k j acc hd hk hj ha
    obtain ⟨k, rfl⟩ : ∃ k', k = k' + 1 := ⟨k - 1, by omega⟩
    have hlt : j < l.length := by omega
    obtain ⟨h12, hT⟩ := hs _ (List.getElem_mem hlt)
    have hal : acc.length = j := by rw [ha, List.length_map, List.length_take]; omega
    rw [law10_selectors_l2, decide_eq_true (show (j : Int) < (l.length : Int) by omega), cond_true]
    refine (sel_l4 l hn hlt h12 hT acc _ l[j].Steps.length n 0 [] (by omega) (by omega) (by omega) rfl).trans ?_
    unfold law10_selectors_k3
    rw [appM_eq (by simp only [List.length_cons, List.length_nil]; omega), Option.bind_some, w64_succ (by omega)]
    exact ih k (j + 1) _ (by omega) (by omega) (by omega) (by rw [ha, List.take_succ_eq_append_getElem hlt, List.map_append]; rfl)
end
theorem law10_MatchMatches_true {t : api_Tree} {l : List sheet_Selector} {v : Int} (hS : SB_api_Tree t) (hl : SslB SB_sheet_Selector l) (_ : Sint .i64 v) : ∃ fuel, law10_MatchMatches fuel t l v = some true := by
  obtain ⟨ns⟩ := t
  refine ⟨5000000, ?_⟩
  generalize hN : (5000000 : Nat) = n
  have hn : 4194400 ≤ n := by omega
  clear hN
  have hk : law10_known n = some true := known_of (by omega)
  unfold law10_MatchMatches
  obtain ⟨r1, e1, R1⟩ := small_eq hS (n := n) (by omega) l
  rw [e1, Option.bind_some]
  cases r1 with
  | false => rw [Bool.not_false, cond_true, hk]; rfl
  | true =>
    obtain ⟨h, _, la, sa⟩ := R1 rfl
    have qa : ∀ s ∈ l, s.Steps.length ≤ 12 ∧ ∀ t ∈ s.Steps, t.Tests.length ≤ 1048576 := fun s hs => ⟨sa s hs, SB.tests (steps := s.Steps) (hl.2 s hs)⟩
    rw [Bool.not_true, cond_false]
    have esel : law10_selectors n l = some (l.map cvL) := by
      unfold law10_selectors
      exact sel_l2 l (by omega) (by omega) qa l.length n 0 [] (by omega) (by omega) (by omega) rfl
    rw [esel, Option.bind_some]
    have l3 : ∀ (d k j : Nat), l.length - j = d → d + 2 ≤ k → law10_MatchMatches_l3 n ⟨ns⟩ l v (l.map cvL) k (j : Int) = some true := by
      intro d
      induction d with
      | zero =>
        intro k j hd hk'
        obtain ⟨k, rfl⟩ : ∃ k', k = k' + 1 := ⟨k - 1, by omega⟩
        rw [law10_MatchMatches_l3, decide_eq_false (show ¬ (j : Int) < (l.length : Int) by omega), cond_false]
        unfold law10_MatchMatches_k1 law10_MatchMatches_k2
        rw [best_eq ns h hS (by omega) v l (by omega) qa, Option.bind_some, rbest_eq ns h hS hn v l (by omega) qa, Option.bind_some, hk]
        simp [rwt]
      | succ d ih =>
        intro k j hd hk'
        obtain ⟨k, rfl⟩ : ∃ k', k = k' + 1 := ⟨k - 1, by omega⟩
        have hj : j < l.length := by omega
        obtain ⟨h12, hT⟩ := qa _ (List.getElem_mem hj)
        have eg1 : geti l (j : Int) = some l[j] := by rw [geti_nat, List.getElem?_eq_getElem hj]
        have eg2 : geti (l.map cvL) (j : Int) = some (cvL l[j]) := by rw [geti_nat]; simp [hj]
        have hM : match_Match n ⟨ns⟩ v l[j] = some (mB ns l[j].Steps v) := match_eq ns l[j].Steps h hS (fun t ht => by have := hT t ht; omega) h12 (by omega) v
        have hM' : ref10_Match n ⟨ns⟩ v (cvL l[j]) = some (mB ns l[j].Steps v) := rmatch_eq ns l[j].Steps h hS (fun t ht => by have := hT t ht; omega) hn h12 v
        rw [law10_MatchMatches_l3, decide_eq_true (show (j : Int) < (l.length : Int) by omega), cond_true, eg1, Option.bind_some, weigh_eq (by omega) _ h12 hT, Option.bind_some, eg2, Option.bind_some, rweigh_eq (by omega) _ h12 hT, Option.bind_some, Option.bind_some, hM, Option.bind_some, Option.bind_some, hM', Option.bind_some, beq_self_eq_true, Bool.not_true, cond_false]
        unfold law10_MatchMatches_k4
        rw [show decide ((wt n l[j]).Ids ≠ (rwt (wt n l[j])).Ids) = false from decide_eq_false (not_not_intro rfl), cond_false, show decide ((wt n l[j]).Tests ≠ (rwt (wt n l[j])).Tests) = false from decide_eq_false (not_not_intro rfl), cond_false, show decide ((wt n l[j]).Names ≠ (rwt (wt n l[j])).Names) = false from decide_eq_false (not_not_intro rfl), cond_false, w64_succ (by omega)]
        exact ih k (j + 1) (by omega) (by omega)
    exact l3 l.length n 0 (by omega) (by omega)
end Go.Proofs.YtmkcglpeidbblaaDoor
