/-
  Walks and laws of this seat; the base is the text Base.
-/
import Derived.Test.YtmkcglpeidbblaaDoorQ10G
import Derived.Test.YtmkcglpeidbblaaDoorL10vf
namespace Go.Proofs.YtmkcglpeidbblaaDoor
open Go.RowKit Go.Sl
/-! MatchFewer -/
section
variable (ns : List api_Node)
theorem Fm_congr {a b : List sheet_Step} : ∀ (j : Nat) (v : Int), (∀ q, q ≤ j → a.getD q zs = b.getD q zs) → Fm ns a j v = Fm ns b j v
  | 0, v, h => by unfold Fm; rw [h 0 (Nat.le_refl _)]
  | j + 1, v, h => by
    unfold Fm
    rw [h (j + 1) (Nat.le_refl _)]
    have : Fm ns a j = Fm ns b j := funext fun u => Fm_congr j u fun q hq => h q (by omega)
    rw [this]
theorem Fm_more {a b : List sheet_Step} (j : Nat) (v : Int) (h : ∀ q, q < j → a.getD q zs = b.getD q zs) (hc : (a.getD j zs).Comb = (b.getD j zs).Comb) (hm : meansB ns v.toNat (a.getD j zs) = true → meansB ns v.toNat (b.getD j zs) = true) (hF : Fm ns a j v = true) : Fm ns b j v = true := by
  cases j with
  | zero => exact hm hF
  | succ j =>
    unfold Fm at hF ⊢
    rw [Bool.and_eq_true] at hF ⊢
    have : Fm ns a j = Fm ns b j := funext fun u => Fm_congr ns j u fun q hq => h q (by omega)
    rw [← hc, ← this]
    exact ⟨hm hF.1, hF.2⟩
theorem Fm_shift {a b : List sheet_Step} : ∀ (j : Nat) (v : Int), (b.getD 0 zs).Name = (a.getD 1 zs).Name → (b.getD 0 zs).Tests = (a.getD 1 zs).Tests → (∀ q, 1 ≤ q → q ≤ j → b.getD q zs = a.getD (q + 1) zs) → Fm ns a (j + 1) v = true → Fm ns b j v = true
  | 0, v, hn, ht, _, hF => by
    unfold Fm at hF ⊢
    rw [Bool.and_eq_true] at hF
    unfold meansB
    rw [hn, ht]
    exact hF.1
  | j + 1, v, hn, ht, h, hF => by
    unfold Fm at hF ⊢
    rw [Bool.and_eq_true] at hF ⊢
    rw [h (j + 1) (by omega) (Nat.le_refl _)]
    refine ⟨hF.1, ?_⟩
    obtain ⟨u, hu, hu2⟩ := List.any_eq_true.1 hF.2
    exact List.any_eq_true.2 ⟨u, hu, Fm_shift j u hn ht (fun q h1 h2 => h q h1 (by omega)) hu2⟩
theorem getD_set_ne {α : Type} (l : List α) {i j : Nat} (h : i ≠ j) (x z : α) : (l.set i x).getD j z = l.getD j z := by simp [List.getD, h]
theorem getD_set_eq {α : Type} (l : List α) {i : Nat} (h : i < l.length) (x z : α) : (l.set i x).getD i z = x := by simp [List.getD, h]
theorem law10_MatchFewer_true {t : api_Tree} {s : sheet_Selector} {p2 : sheet_Test} {p3 : Int} (hS : SB_api_Tree t) (hs : SB_sheet_Selector s) (_ : SB_sheet_Test p2) (_ : Sint .i64 p3) : ∃ fuel, law10_MatchFewer fuel t s p2 p3 = some true := by
  obtain ⟨ns⟩ := t
  obtain ⟨steps⟩ := s
  refine ⟨4000000, ?_⟩
  generalize hN : (4000000 : Nat) = n
  have hn : 3000100 ≤ n := by omega
  clear hN
  unfold law10_MatchFewer
  obtain ⟨b, hb, hB⟩ := small_eq hS (n := n) (by omega) [⟨steps⟩]
  rw [hb, Option.bind_some]
  have hk : law10_known n = some true := known_of (by omega)
  cases b with
  | false => unfold law10_MatchFewer_k1; rw [Bool.not_false, cond_true, cond_true, hk]; rfl
  | true =>
    obtain ⟨h, _, _, h12⟩ := hB rfl
    have h12' : steps.length ≤ 12 := h12 ⟨steps⟩ (by simp)
    have hT : ∀ s ∈ steps, s.Tests.length ≤ 1048576 := SB.tests hs
    rw [Bool.not_true, cond_false]
    unfold law10_MatchFewer_k1
    by_cases h0 : steps.length = 0
    · rw [decide_eq_true (show ((steps.length : Nat) : Int) = 0 by omega), cond_true, hk]; rfl
    rw [decide_eq_false (show ¬ ((steps.length : Nat) : Int) = 0 by omega), cond_false]
    obtain ⟨L, hL⟩ : ∃ L, steps.length = L + 1 := ⟨steps.length - 1, by omega⟩
    have hLl : L < steps.length := by omega
    have eL : w64 ((steps.length : Int) - 1) = (L : Int) := by rw [w64_id (by omega)]; omega
    have eg : geti steps (L : Int) = some steps[L] := by rw [geti_nat, List.getElem?_eq_getElem hLl]
    have hTL := hT _ (List.getElem_mem hLl)
    rw [appM_eq (by simp only [List.length_nil]; omega), Option.bind_some, List.nil_append, eL, eg, Option.bind_some, appM_eq (by simp only [List.length_nil]; omega), Option.bind_some, List.nil_append, appM_eq (by simp only [List.length_cons, List.length_nil]; omega), Option.bind_some, Option.bind_some, seti_nat _ hLl, Option.bind_some]
    generalize hmore : steps.set L { steps[L] with Tests := steps[L].Tests ++ [p2] } = more
    have hml : more.length = steps.length := by rw [← hmore, List.length_set]
    have hmT : ∀ s ∈ more, s.Tests.length ≤ 1048580 := fun s hs => by
      rw [← hmore] at hs
      rcases List.mem_or_eq_of_mem_set hs with hs | rfl
      · have := hT s hs; omega
      · simp only [List.length_append, List.length_cons, List.length_nil]; omega
    have hT' : ∀ s ∈ steps, s.Tests.length ≤ 1048580 := fun s hs => by have := hT s hs; omega
    unfold law10_MatchFewer_k2
    rw [match_eq ns more h hS hmT (by omega) hn, Option.bind_some]
    have himp : mB ns more p3 = true → mB ns steps p3 = true := fun hm => by
      unfold mB at hm ⊢
      rw [Bool.and_eq_true, Bool.and_eq_true] at hm ⊢
      rw [hml] at hm
      refine ⟨hm.1, hm.2.1, ?_⟩
      have hF := hm.2.2
      rw [show steps.length - 1 = L by omega] at hF ⊢
      have e1 : more.getD L zs = { steps[L] with Tests := steps[L].Tests ++ [p2] } := by rw [← hmore, getD_set_eq _ hLl]
      have e2 : steps.getD L zs = steps[L] := by simp [List.getD, hLl]
      refine Fm_more ns L p3 (fun q hq => by rw [← hmore, getD_set_ne _ (by omega)]) (by rw [e1, e2]) (fun hm => ?_) hF
      rw [e1] at hm
      rw [e2]
      unfold meansB at hm ⊢
      rw [Bool.and_eq_true] at hm ⊢
      refine ⟨hm.1, ?_⟩
      have := hm.2
      simp only [List.all_append, Bool.and_eq_true] at this
      exact this.1
    have k3 : law10_MatchFewer_k3 n ⟨ns⟩ ⟨steps⟩ p3 steps false = some true := by
      unfold law10_MatchFewer_k3
      rw [cond_false, eL]
      by_cases hL0 : L = 0
      · rw [decide_eq_true (show (L : Int) = 0 by omega), cond_true, hk]; rfl
      rw [decide_eq_false (show ¬ (L : Int) = 0 by omega), cond_false]
      have ec : cutM steps (1 : Int) ((steps.length : Nat) : Int) = some (steps.drop 1) := by
        unfold cutM
        rw [decide_eq_true (show (0 : Int) ≤ 1 by omega), decide_eq_true (show (1 : Int) ≤ ((steps.length : Nat) : Int) by omega), decide_eq_true (show ((steps.length : Nat) : Int) ≤ ((steps.length : Nat) : Int) by omega)]
        simp
      have hdl : (steps.drop 1).length = L := by rw [List.length_drop]; omega
      have h0l : 0 < (steps.drop 1).length := by omega
      have eg0 : geti (steps.drop 1) 0 = some (steps.drop 1)[0] := by rw [show (0 : Int) = ((0 : Nat) : Int) from rfl, geti_nat, List.getElem?_eq_getElem h0l]
      have es0 : ∀ x, seti (steps.drop 1) 0 x = some ((steps.drop 1).set 0 x) := fun x => by rw [show (0 : Int) = ((0 : Nat) : Int) from rfl, seti_nat _ h0l]
      rw [ec, Option.bind_some, appM_eq (by simp only [List.length_nil]; omega), Option.bind_some, List.nil_append, eg0, Option.bind_some, es0, Option.bind_some, match_eq ns steps h hS hT' h12' hn, Option.bind_some]
      generalize hsh : (steps.drop 1).set 0 { (steps.drop 1)[0] with Comb := 0 } = sh
      have hsl : sh.length = L := by rw [← hsh, List.length_set, hdl]
      have hd0 : (steps.drop 1)[0] ∈ steps := List.mem_of_mem_drop (List.getElem_mem h0l)
      have hsT : ∀ s ∈ sh, s.Tests.length ≤ 1048580 := fun s hs => by
        rw [← hsh] at hs
        rcases List.mem_or_eq_of_mem_set hs with hs | rfl
        · exact hT' s (List.mem_of_mem_drop hs)
        · exact hT' ((steps.drop 1)[0]) hd0
      cases hm : mB ns steps p3 with
      | false => rw [Bool.not_false, cond_true, hk]; rfl
      | true =>
        rw [Bool.not_true, cond_false, match_eq ns sh h hS hsT (by omega) hn, Option.bind_some]
        have : mB ns sh p3 = true := by
          unfold mB at hm ⊢
          rw [Bool.and_eq_true, Bool.and_eq_true] at hm ⊢
          refine ⟨hm.1, decide_eq_true (by omega), ?_⟩
          have hF := hm.2.2
          obtain ⟨j, rfl⟩ : ∃ j, L = j + 1 := ⟨L - 1, by omega⟩
          rw [show steps.length - 1 = j + 1 by omega] at hF
          rw [show sh.length - 1 = j by omega]
          have e1 : (steps.drop 1)[0] = steps.getD 1 zs := by
            rw [List.getElem_drop]
            simp [List.getD, show 1 < steps.length by omega]
          refine Fm_shift ns j p3 ?_ ?_ (fun q h1 h2 => ?_) hF
          · rw [← hsh, getD_set_eq _ h0l, e1]
          · rw [← hsh, getD_set_eq _ h0l, e1]
          · rw [← hsh, getD_set_ne _ (by omega)]
            simp [List.getD]
        rw [this, cond_true, hk]; rfl
    cases hm : mB ns more p3 with
    | false => rw [cond_false]; exact k3
    | true => rw [cond_true, match_eq ns steps h hS hT' h12' hn, Option.bind_some, himp hm, Bool.not_true]; exact k3
end
end Go.Proofs.YtmkcglpeidbblaaDoor
