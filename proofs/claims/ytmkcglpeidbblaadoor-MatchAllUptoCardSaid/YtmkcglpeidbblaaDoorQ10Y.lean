/-
  Walks and laws of this seat; the base is the text Base.
-/
import Derived.Test.YtmkcglpeidbblaaDoorQ10G
import Derived.Test.YtmkcglpeidbblaaDoorL10va
namespace Go.Proofs.YtmkcglpeidbblaaDoor
open Go.RowKit Go.Sl
/-! MatchAll -/
section
variable (ns : List api_Node) (steps : List sheet_Step)
/-- The nodes that match. -/
noncomputable def selW : Nat → Nat → List Int
  | 0, _ => []
  | d + 1, j => if mB ns steps j = true then (j : Int) :: selW d (j + 1) else selW d (j + 1)
theorem selW_length : ∀ d j, (selW ns steps d j).length ≤ d
  | 0, _ => Nat.le_refl _
  | d + 1, j => by
    unfold selW
    have := selW_length d (j + 1)
    split
    · simp only [List.length_cons]; omega
    · omega
section
variable {ns} {steps} (h : RT ns) (hS : SB_api_Tree ⟨ns⟩) (hT : ∀ s ∈ steps, s.Tests.length ≤ 1048580) (h12 : steps.length ≤ 12) {n : Nat} (hn : 3000100 ≤ n)
include h hS hT h12 hn
theorem all_l2 : ∀ (d k j : Nat), ns.length - j = d → d + 2 ≤ k → match_All_1_l2 n ⟨ns⟩ ⟨steps⟩ k (j : Int) = some (selW ns steps d j) := by
  have hL : ns.length ≤ 1048576 := hS.1
  intro d
  induction d with
  | zero =>
    intro k j hd hk
    obtain ⟨k, rfl⟩ : ∃ k', k = k' + 1 := ⟨k - 1, by omega⟩
    rw [match_All_1_l2, show decide ((j : Int) < (((⟨ns⟩ : api_Tree).Nodes.length : Nat) : Int)) = false from decide_eq_false (by show ¬ (j : Int) < (ns.length : Int); omega), cond_false]
    rfl
  | succ d ih =>
    intro k j hd hk
    obtain ⟨k, rfl⟩ : ∃ k', k = k' + 1 := ⟨k - 1, by omega⟩
    rw [match_All_1_l2, show decide ((j : Int) < (((⟨ns⟩ : api_Tree).Nodes.length : Nat) : Int)) = true from decide_eq_true (by show (j : Int) < (ns.length : Int); omega), cond_true, match_eq ns steps h hS hT h12 hn, Option.bind_some]
    have e : match_All_1_k3 (j : Int) (match_All_1_l2 n ⟨ns⟩ ⟨steps⟩ k) = some (selW ns steps d (j + 1)) := by
      unfold match_All_1_k3
      rw [w64_succ (by omega)]
      exact ih k (j + 1) (by omega) (by omega)
    rw [e, selW]
    cases mB ns steps (j : Int)
    · rw [cond_false, if_neg (by decide)]
    · rw [cond_true, if_pos rfl]; rfl
theorem law_l9 (seed : Int) : ∀ (d k j : Nat) (acc : List Int), ns.length - j = d → d + 2 ≤ k → acc.length + d ≤ 2097152 → law10_MatchAll_l9 n ⟨ns⟩ ⟨steps⟩ seed k acc (j : Int) = law10_MatchAll_k1 n ⟨ns⟩ ⟨steps⟩ seed (acc ++ selW ns steps d j) := by
  have hL : ns.length ≤ 1048576 := hS.1
  intro d
  induction d with
  | zero =>
    intro k j acc hd hk ha
    obtain ⟨k, rfl⟩ : ∃ k', k = k' + 1 := ⟨k - 1, by omega⟩
    rw [law10_MatchAll_l9, show decide ((j : Int) < (((⟨ns⟩ : api_Tree).Nodes.length : Nat) : Int)) = false from decide_eq_false (by show ¬ (j : Int) < (ns.length : Int); omega), cond_false, selW, List.append_nil]
  | succ d ih =>
    intro k j acc hd hk ha
    obtain ⟨k, rfl⟩ : ∃ k', k = k' + 1 := ⟨k - 1, by omega⟩
    rw [law10_MatchAll_l9, show decide ((j : Int) < (((⟨ns⟩ : api_Tree).Nodes.length : Nat) : Int)) = true from decide_eq_true (by show (j : Int) < (ns.length : Int); omega), cond_true, match_eq ns steps h hS hT h12 hn, Option.bind_some, selW]
    unfold law10_MatchAll_k10
    rw [w64_succ (by omega)]
    cases mB ns steps (j : Int)
    · rw [cond_false, if_neg (by decide)]
      exact ih k (j + 1) acc (by omega) (by omega) (by omega)
    · rw [cond_true, if_pos rfl, appM_eq (by simp only [List.length_cons, List.length_nil]; omega), Option.bind_some, ih k (j + 1) _ (by omega) (by omega) (by simp only [List.length_append, List.length_cons, List.length_nil]; omega), List.append_assoc]
      rfl
end
theorem cut_pre {pre rest : List Int} : cutM (pre ++ rest) (0 : Int) ((pre.length : Nat) : Int) = some pre := by
  unfold cutM
  rw [decide_eq_true (show (0 : Int) ≤ 0 by omega), decide_eq_true (show (0 : Int) ≤ ((pre.length : Nat) : Int) by omega), decide_eq_true (show ((pre.length : Nat) : Int) ≤ (((pre ++ rest).length : Nat) : Int) by rw [List.length_append]; omega)]
  simp
theorem law_k5 {n : Nat} (hn : 3000100 ≤ n) (W pre rest : List Int) (hW : W = pre ++ rest) (hl : W.length ≤ 1048576) (y : Int) (hy : y = 0 → rest = []) (lp : Int → Option Bool) (hlp : lp (w64 (y + 1)) = some true) : law10_MatchAll_k5 n W y lp pre = some true := by
  subst hW
  rw [List.length_append] at hl
  have hk6 : law10_MatchAll_k6 y lp false = some true := by unfold law10_MatchAll_k6; rw [cond_false]; exact hlp
  have hs : book_Same_int n pre pre = some true := same_refl n pre (by omega) (by omega)
  have hlt : decide ((((pre ++ rest).length : Nat) : Int) < ((pre.length : Nat) : Int)) = false := decide_eq_false (by rw [List.length_append]; omega)
  unfold law10_MatchAll_k5
  by_cases h0 : y = 0
  · rw [decide_eq_true h0, cond_true]
    obtain rfl := hy h0
    rw [hlt, cut_pre, Option.bind_some, List.append_nil, hs, Option.bind_some, Option.bind_some]
    exact hk6
  · rw [decide_eq_false h0, cond_false, hlt, cond_false, cut_pre, Option.bind_some, hs, Option.bind_some]
    exact hk6
theorem law_r7 {n : Nat} (hn : 3000100 ≤ n) (W : List Int) (hl : W.length ≤ 1048576) (x58 y : Int) (lp : Int → Option Bool) (hlp : lp (w64 (y + 1)) = some true) : ∀ (rest pre : List Int), W = pre ++ rest → law10_MatchAll_r7 n W x58 y lp rest pre = some true
  | [], pre, hW => by
    rw [law10_MatchAll_r7]
    exact law_k5 hn W pre [] hW hl y (fun _ => rfl) lp hlp
  | x :: rest, pre, hW => by
    have hl2 : pre.length + (rest.length + 1) ≤ 1048576 := by rw [hW, List.length_append, List.length_cons] at hl; exact hl
    have hW' : W = (pre ++ [x]) ++ rest := by rw [hW]; simp
    rw [law10_MatchAll_r7, appM_eq (by simp only [List.length_cons, List.length_nil]; omega), Option.bind_some]
    cases e : decide (y = 1) && decide (x58 < (((pre ++ [x]).length : Nat) : Int)) with
    | false => exact law_r7 hn W hl x58 y lp hlp rest _ hW'
    | true =>
      rw [cond_true]
      unfold law10_MatchAll_k8
      have : y = 1 := by
        rw [Bool.and_eq_true, decide_eq_true_iff] at e
        exact e.1
      exact law_k5 hn W _ rest hW' hl y (fun h0 => by omega) lp hlp
theorem law10_MatchAll_true {t : api_Tree} {s : sheet_Selector} {seed : Int} (hS : SB_api_Tree t) (hs : SB_sheet_Selector s) (_ : Sint .i64 seed) : ∃ fuel, law10_MatchAll fuel t s seed = some true := by
  obtain ⟨ns⟩ := t
  obtain ⟨steps⟩ := s
  refine ⟨4000000, ?_⟩
  generalize hN : (4000000 : Nat) = n
  have hn : 3000100 ≤ n := by omega
  clear hN
  have hL : ns.length ≤ 1048576 := hS.1
  unfold law10_MatchAll
  obtain ⟨b, hb, hB⟩ := small_eq hS (n := n) (by omega) [⟨steps⟩]
  rw [hb, Option.bind_some]
  cases b with
  | false => rw [Bool.not_false, cond_true, known_of (by omega)]; rfl
  | true =>
    obtain ⟨h, _, _, h12⟩ := hB rfl
    have h12' : steps.length ≤ 12 := h12 ⟨steps⟩ (by simp)
    have hT : ∀ s ∈ steps, s.Tests.length ≤ 1048580 := fun s hs' => by have := SB.tests hs s hs'; omega
    rw [Bool.not_true, cond_false]
    have e9 := law_l9 h hS hT h12' hn seed ns.length n 0 [] (by omega) (by omega) (by simp only [List.length_nil]; omega)
    rw [show law10_MatchAll_l9 n ⟨ns⟩ ⟨steps⟩ seed n ([] : List Int) 0 = _ from e9, List.nil_append]
    unfold law10_MatchAll_k1 match_All
    obtain ⟨r, hr⟩ := within_some n seed 0 5 (by decide)
    rw [Option.bind_some, hr, Option.bind_some]
    have hall : match_All_1 n ⟨ns⟩ ⟨steps⟩ = some (selW ns steps ns.length 0) := by
      unfold match_All_1
      exact all_l2 h hS hT h12' hn ns.length n 0 (by omega) (by omega)
    have hWl := selW_length ns steps ns.length 0
    obtain ⟨n', hn'⟩ : ∃ n', n = n' + 3 := ⟨n - 3, by omega⟩
    have l2 : law10_MatchAll_l4 n (selW ns steps ns.length 0) (⟨ns⟩, ⟨steps⟩) r (n' + 1) 2 = some true := by
      rw [law10_MatchAll_l4, decide_eq_false (show ¬ (2 : Int) < 2 by omega), cond_false]
      unfold law10_MatchAll_k2
      rw [known_of (by omega)]
      rfl
    have l1 : law10_MatchAll_l4 n (selW ns steps ns.length 0) (⟨ns⟩, ⟨steps⟩) r (n' + 2) 1 = some true := by
      rw [law10_MatchAll_l4, decide_eq_true (show (1 : Int) < 2 by omega), cond_true, hall, Option.bind_some]
      exact law_r7 hn _ (by omega) r 1 _ l2 _ [] rfl
    have l0 : law10_MatchAll_l4 n (selW ns steps ns.length 0) (⟨ns⟩, ⟨steps⟩) r (n' + 3) 0 = some true := by
      rw [law10_MatchAll_l4, decide_eq_true (show (0 : Int) < 2 by omega), cond_true, hall, Option.bind_some]
      exact law_r7 hn _ (by omega) r 0 _ l1 _ [] rfl
    rw [← hn'] at l0
    exact l0
end
end Go.Proofs.YtmkcglpeidbblaaDoor
