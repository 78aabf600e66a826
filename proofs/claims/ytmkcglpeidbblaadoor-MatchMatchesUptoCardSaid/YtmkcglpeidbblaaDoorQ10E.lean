/-
  Walks and laws of this seat; the base is the text Base.
-/
import Derived.Test.YtmkcglpeidbblaaDoorQ10D
namespace Go.Proofs.YtmkcglpeidbblaaDoor
open Go.RowKit Go.Sl
/-! What Match computes. -/
section
variable (ns : List api_Node)
/-- The elements above. -/
def chP : Nat → Int → List Int
  | 0, _ => []
  | k + 1, v => if elB ns (nd ns v.toNat).Parent = true then (nd ns v.toNat).Parent :: chP k (nd ns v.toNat).Parent else []
/-- The elements ahead, of the same parent. -/
def chB : Nat → Int → List Int
  | 0, _ => []
  | k + 1, v => match besS ns true ns.length v with
    | some d => d :: chB k d
    | none => []
def ks (c v : Int) : List Int := if c = 1 then chP ns ns.length v else if c = 2 then chP ns 1 v else if c = 3 then chB ns 1 v else if c = 4 then chB ns ns.length v else []
def zs : sheet_Step := {Comb := 0, Name := bs [], Tests := []}
variable (steps : List sheet_Step)
noncomputable def Fm : Nat → Int → Bool
  | 0, v => meansB ns v.toNat (steps.getD 0 zs)
  | j + 1, v => meansB ns v.toNat (steps.getD (j + 1) zs) && (ks ns (steps.getD (j + 1) zs).Comb v).any (Fm j)
/-- What Match says. -/
noncomputable def mB (v : Int) : Bool := elB ns v && (decide (steps.length ≠ 0) && Fm ns steps (steps.length - 1) v)
theorem besS_in (h : RT ns) : ∀ (k i : Nat) (d : Int), i < ns.length → besS ns true k i = some d → ∃ m : Nat, d = m ∧ m < i ∧ (nd ns m).Kind = 1
  | 0, _, _, _, e => by cases e
  | k + 1, i, d, hi, e => by
    unfold besS at e
    simp only [Int.toNat_natCast, ite_true] at e
    split at e
    · cases e
    · rename_i hc
      rcases h.prev hi with hp | ⟨c, hp, hci⟩
      · omega
      · rw [hp, Int.toNat_natCast] at e
        split at e
        · rename_i hk
          obtain rfl := Option.some.inj e
          exact ⟨c, rfl, hci, hk⟩
        · obtain ⟨m, h1, h2, h3⟩ := besS_in h k c d (by omega) e
          exact ⟨m, h1, by omega, h3⟩
theorem par_in (h : RT ns) {i : Nat} (hi : i < ns.length) (e : elB ns (nd ns i).Parent = true) : ∃ q : Nat, (nd ns i).Parent = q ∧ q < i ∧ (nd ns q).Kind = 1 := by
  obtain ⟨q, h1, _, h3⟩ := (elB_iff ns _).1 e
  by_cases h0 : i = 0
  · subst h0
    have : (nd ns 0).Parent = -1 := h.par0
    omega
  · obtain ⟨q', e1, e2, e3, _⟩ := h.parq (j := i) (by omega) hi
    exact ⟨q', e1, e2, e3⟩
theorem elB_nat {q : Nat} (hq : q < ns.length) (hk : (nd ns q).Kind = 1) : elB ns (q : Int) = true := (elB_iff ns _).2 ⟨q, rfl, hq, hk⟩
/-- The memo holds the truth on the steps below j. -/
def Mem (j : Nat) (m : List (match_place × Int)) : Prop := ∀ (q : Nat) (v x : Int), q < j → kget m ({step := (q : Int), node := v} : match_place) = some x → 0 < x → (x = 2 ↔ Fm ns steps q v = true)
def Same (j : Nat) (m m' : List (match_place × Int)) : Prop := ∀ (q : Nat) (v : Int), j ≤ q → kget m' ({step := (q : Int), node := v} : match_place) = kget m ({step := (q : Int), node := v} : match_place)
variable {ns} {steps}
theorem Same.refl (j : Nat) (m : List (match_place × Int)) : Same j m m := fun _ _ _ => rfl
theorem Same.trans {j : Nat} {a b c : List (match_place × Int)} (h : Same j a b) (h' : Same j b c) : Same j a c := fun q v hq => (h' q v hq).trans (h q v hq)
variable (ns) (steps)
def SlfOK (j : Nat) (slf : Int → Int → List (match_place × Int) → api_Tree → sheet_Selector → Option (Bool × List (match_place × Int))) : Prop :=
  ∀ (v : Nat), v < ns.length → (nd ns v).Kind = 1 → ∀ m, Mem ns steps (j + 1) m → ∃ m', slf (j : Int) (v : Int) m ⟨ns⟩ ⟨steps⟩ = some (Fm ns steps j v, m') ∧ Mem ns steps (j + 1) m' ∧ Same (j + 1) m m'
section
variable {ns} {steps}
variable {j : Nat} {slf : Int → Int → List (match_place × Int) → api_Tree → sheet_Selector → Option (Bool × List (match_place × Int))}
theorem up_eq (n : Nat) {i : Nat} (hi : i < ns.length) : match_Match_1_1 n (i : Int) ⟨ns⟩ = some ((nd ns i).Parent, elB ns (nd ns i).Parent) := by
  unfold match_Match_1_1
  rw [get_nd hi, Option.bind_some, Option.bind_some, element_eq, Option.bind_some]
theorem ahead_eq {n : Nat} (hn : 1048600 ≤ n) (hL : ns.length ≤ 1048576) {i : Nat} (hi : i < ns.length) : match_Match_1_2 n (i : Int) ⟨ns⟩ = some (besR (besS ns true ns.length i)) := by
  unfold match_Match_1_2
  rw [beside_eq ns true hn hL hi, Option.bind_some]
theorem loopP (h : RT ns) (hS : SlfOK ns steps j slf) (hj : j ≤ 100) (n : Nat) : ∀ (i : Nat), i < ns.length → ∀ (k K : Nat), i + 2 ≤ k → i ≤ K → ∀ m, Mem ns steps (j + 1) m →
    ∃ m', match_Match_1_l2 n ((j + 1 : Nat) : Int) ⟨ns⟩ ⟨steps⟩ slf k (nd ns i).Parent (elB ns (nd ns i).Parent) m = some ((chP ns K i).any (Fm ns steps j), m') ∧ Mem ns steps (j + 1) m' ∧ Same (j + 1) m m' := by
  intro i
  induction i using Nat.strongRecOn with
  | _ i ih =>
    intro hi k K hk hK m hm
    obtain ⟨k, rfl⟩ : ∃ k', k = k' + 1 := ⟨k - 1, by omega⟩
    rw [match_Match_1_l2]
    cases e : elB ns (nd ns i).Parent with
    | false =>
      rw [cond_false]
      have : chP ns K (i : Int) = [] := by
        cases K with
        | zero => rfl
        | succ K => rw [chP, Int.toNat_natCast, e, if_neg (by decide)]
      exact ⟨m, by rw [this]; rfl, hm, Same.refl _ _⟩
    | true =>
      obtain ⟨q, hq, hqi, hqk⟩ := par_in ns h hi e
      obtain ⟨K, rfl⟩ : ∃ K', K = K' + 1 := ⟨K - 1, by omega⟩
      rw [chP, Int.toNat_natCast, e, if_pos rfl, hq, cond_true, show w64 (((j + 1 : Nat) : Int) - 1) = (j : Int) by rw [w64_id (by omega)]; omega]
      obtain ⟨m1, e1, M1, S1⟩ := hS q (by omega) hqk m hm
      rw [e1, Option.bind_some, List.any_cons]
      cases hF : Fm ns steps j (q : Int) with
      | true => exact ⟨m1, by simp, M1, S1⟩
      | false =>
        rw [cond_false, up_eq n (show q < ns.length by omega), Option.bind_some, Bool.false_or]
        obtain ⟨m2, e2, M2, S2⟩ := ih q hqi (by omega) k K (by omega) (by omega) m1 M1
        exact ⟨m2, e2, M2, S1.trans S2⟩
theorem loopB (h : RT ns) (hS : SlfOK ns steps j slf) (hj : j ≤ 100) {n : Nat} (hn : 1048600 ≤ n) (hL : ns.length ≤ 1048576) : ∀ (i : Nat), i < ns.length → ∀ (k K : Nat), i + 2 ≤ k → i ≤ K → ∀ m, Mem ns steps (j + 1) m →
    ∃ m', match_Match_1_l7 n ((j + 1 : Nat) : Int) ⟨ns⟩ ⟨steps⟩ slf false k (besR (besS ns true ns.length i)).1 (besR (besS ns true ns.length i)).2 m = some ((chB ns K i).any (Fm ns steps j), m') ∧ Mem ns steps (j + 1) m' ∧ Same (j + 1) m m' := by
  intro i
  induction i using Nat.strongRecOn with
  | _ i ih =>
    intro hi k K hk hK m hm
    obtain ⟨k, rfl⟩ : ∃ k', k = k' + 1 := ⟨k - 1, by omega⟩
    rw [match_Match_1_l7]
    cases e : besS ns true ns.length i with
    | none =>
      have : chB ns K (i : Int) = [] := by
        cases K with
        | zero => rfl
        | succ K => rw [chB, e]
      exact ⟨m, by rw [this]; rfl, hm, Same.refl _ _⟩
    | some d =>
      obtain ⟨q, rfl, hqi, hqk⟩ := besS_in ns h _ _ _ hi e
      obtain ⟨K, rfl⟩ : ∃ K', K = K' + 1 := ⟨K - 1, by omega⟩
      rw [chB, e]
      simp only [besR]
      rw [cond_true, show w64 (((j + 1 : Nat) : Int) - 1) = (j : Int) by rw [w64_id (by omega)]; omega]
      obtain ⟨m1, e1, M1, S1⟩ := hS q (by omega) hqk m hm
      rw [e1, Option.bind_some, List.any_cons]
      cases hF : Fm ns steps j (q : Int) with
      | true => exact ⟨m1, by simp, M1, S1⟩
      | false =>
        rw [cond_false, cond_false, ahead_eq hn hL (show q < ns.length by omega), Option.bind_some, Bool.false_or]
        obtain ⟨m2, e2, M2, S2⟩ := ih q hqi (by omega) k K (by omega) (by omega) m1 M1
        exact ⟨m2, e2, M2, S1.trans S2⟩
theorem any_one (h : RT ns) (hS : SlfOK ns steps j slf) (hj : j ≤ 100) {n : Nat} (hn : 1048600 ≤ n) (hL : ns.length ≤ 1048576) {i : Nat} (hi : i < ns.length) (m : List (match_place × Int)) (hm : Mem ns steps (j + 1) m) {st : sheet_Step} (hst : geti steps ((j + 1 : Nat) : Int) = some st) :
    ∃ m', match_Match_1_b slf n ((j + 1 : Nat) : Int) (i : Int) ⟨ns⟩ ⟨steps⟩ m = some ((ks ns st.Comb i).any (Fm ns steps j), m') ∧ Mem ns steps (j + 1) m' ∧ Same (j + 1) m m' := by
  have hw : w64 (((j + 1 : Nat) : Int) - 1) = (j : Int) := by rw [w64_id (by omega)]; omega
  unfold match_Match_1_b
  rw [decide_eq_false (show ¬ (((j + 1 : Nat) : Int)) = 0 by omega), cond_false, hst, Option.bind_some, up_eq n hi, Option.bind_some, Option.bind_some]
  unfold ks
  by_cases h1 : st.Comb = 1
  · rw [decide_eq_true h1, cond_true, if_pos h1]
    exact loopP h hS hj n i hi n ns.length (by omega) (by omega) m hm
  rw [decide_eq_false h1, cond_false, if_neg h1]
  by_cases h2 : st.Comb = 2
  · rw [decide_eq_true h2, cond_true, if_pos h2]
    obtain ⟨n, rfl⟩ : ∃ n', n = n' + 1 := ⟨n - 1, by omega⟩
    rw [match_Match_1_l4, chP, Int.toNat_natCast]
    cases e : elB ns (nd ns i).Parent with
    | false => exact ⟨m, by rw [if_neg (by decide)]; rfl, hm, Same.refl _ _⟩
    | true =>
      obtain ⟨q, hq, hqi, hqk⟩ := par_in ns h hi e
      obtain ⟨m1, e1, M1, S1⟩ := hS q (by omega) hqk m hm
      rw [if_pos rfl, cond_true, hw]
      simp only [hq]
      rw [e1, Option.bind_some, chP, List.any_cons, List.any_nil, Bool.or_false]
      refine ⟨m1, ?_, M1, S1⟩
      cases Fm ns steps j (q : Int) <;> rfl
  rw [decide_eq_false h2, cond_false, if_neg h2]
  by_cases h3 : st.Comb = 3
  · rw [decide_eq_true h3, cond_true, if_pos h3]
    unfold match_Match_1_k5
    rw [ahead_eq hn hL hi, Option.bind_some]
    obtain ⟨n', hn'⟩ : ∃ n', n = n' + 1 := ⟨n - 1, by omega⟩
    rw [show match_Match_1_l7 n ((j + 1 : Nat) : Int) ⟨ns⟩ ⟨steps⟩ slf true n (besR (besS ns true ns.length i)).1 (besR (besS ns true ns.length i)).2 m = match_Match_1_l7 n ((j + 1 : Nat) : Int) ⟨ns⟩ ⟨steps⟩ slf true (n' + 1) (besR (besS ns true ns.length i)).1 (besR (besS ns true ns.length i)).2 m by rw [← hn'], match_Match_1_l7, chB]
    cases e : besS ns true ns.length i with
    | none => exact ⟨m, rfl, hm, Same.refl _ _⟩
    | some d =>
      obtain ⟨q, rfl, hqi, hqk⟩ := besS_in ns h _ _ _ hi e
      obtain ⟨m1, e1, M1, S1⟩ := hS q (by omega) hqk m hm
      simp only [besR]
      rw [cond_true, hw, e1, Option.bind_some, chB, List.any_cons, List.any_nil, Bool.or_false]
      refine ⟨m1, ?_, M1, S1⟩
      cases Fm ns steps j (q : Int) <;> rfl
  rw [decide_eq_false h3, cond_false, if_neg h3]
  by_cases h4 : st.Comb = 4
  · rw [decide_eq_true h4, cond_true, if_pos h4]
    unfold match_Match_1_k5
    rw [ahead_eq hn hL hi, Option.bind_some]
    exact loopB h hS hj hn hL i hi n ns.length (by omega) (by omega) m hm
  rw [decide_eq_false h4, cond_false, if_neg h4]
  exact ⟨m, rfl, hm, Same.refl _ _⟩
theorem place_ne {j q : Nat} {v u : Int} (h : j ≠ q) : ({step := (j : Int), node := v} : match_place) ≠ {step := (q : Int), node := u} := fun e => h (by injection e with e1 _; omega)
theorem memo_fin {v : Int} {m m2 : List (match_place × Int)} (hm : Mem ns steps (j + 1) m) (M2 : Mem ns steps j m2) (S2 : Same j (kput m ({step := (j : Int), node := v} : match_place) 1) m2) {b : Bool} (hb : b = Fm ns steps j v) :
    ∃ m', match_Match_2_k1 (j : Int) v b m2 = some (Fm ns steps j v, m') ∧ Mem ns steps (j + 1) m' ∧ Same (j + 1) m m' := by
  have e1 : kget m2 ({step := (j : Int), node := v} : match_place) = some 1 := by rw [S2 j v (Nat.le_refl _), kget_kput, if_pos rfl]
  have up : ∀ (q : Nat) (u : Int), j + 1 ≤ q → kget m2 ({step := (q : Int), node := u} : match_place) = kget m ({step := (q : Int), node := u} : match_place) := fun q u hq => by
    rw [S2 q u (by omega), kget_kput, if_neg (place_ne (by omega))]
  have here : ∀ (u : Int), u ≠ v → kget m2 ({step := (j : Int), node := u} : match_place) = kget m ({step := (j : Int), node := u} : match_place) := fun u hu => by
    rw [S2 j u (by omega), kget_kput, if_neg (fun e => hu (by injection e with _ e2; exact e2.symm))]
  unfold match_Match_2_k1 match_Match_2_k2
  cases hF : b with
  | true =>
    rw [hF] at hb
    rw [cond_true, kget_kput, if_pos rfl, ← hb]
    refine ⟨_, rfl, fun q u x hq hx hx0 => ?_, fun q u hq => ?_⟩
    · by_cases e : ({step := (j : Int), node := v} : match_place) = {step := (q : Int), node := u}
      · rw [kget_kput, if_pos e] at hx
        injection e with e3 e4
        obtain rfl : j = q := by omega
        subst e4
        obtain rfl := Option.some.inj hx
        exact ⟨fun _ => hb.symm, fun _ => rfl⟩
      · rw [kget_kput, if_neg e] at hx
        by_cases hqj : q = j
        · subst hqj
          rw [here u (fun e' => e (by rw [e']))] at hx
          exact hm q u x hq hx hx0
        · exact M2 q u x (by omega) hx hx0
    · rw [kget_kput, if_neg (place_ne (by omega))]; exact up q u hq
  | false =>
    rw [hF] at hb
    rw [cond_false, e1, ← hb]
    refine ⟨_, rfl, fun q u x hq hx hx0 => ?_, fun q u hq => up q u hq⟩
    by_cases hqj : q = j
    · subst hqj
      by_cases hu : u = v
      · subst hu
        rw [e1] at hx
        obtain rfl := Option.some.inj hx
        rw [← hb]
        exact ⟨fun h => (by cases h), fun h => (by cases h)⟩
      · rw [here u hu] at hx
        exact hm q u x hq hx hx0
    · exact M2 q u x (by omega) hx hx0
theorem Mem.put {v x : Int} {m : List (match_place × Int)} (hm : Mem ns steps (j + 1) m) : Mem ns steps j (kput m ({step := (j : Int), node := v} : match_place) x) := fun q u y hq hy hy0 => by
  rw [kget_kput, if_neg (place_ne (by omega))] at hy
  exact hm q u y (by omega) hy hy0
end
theorem slf_ok (h : RT ns) (hS : SB_api_Tree ⟨ns⟩) (hT : ∀ s ∈ steps, s.Tests.length ≤ 1048580) (h12 : steps.length ≤ 12) : ∀ (j n : Nat), j < steps.length → 3000001 + j ≤ n → SlfOK ns steps j (match_Match_2 n) := by
  have hL : ns.length ≤ 1048576 := hS.1
  intro j
  induction j with
  | zero =>
    intro n hj hn v hv hk m hm
    obtain ⟨n, rfl⟩ : ∃ n', n = n' + 1 := ⟨n - 1, by omega⟩
    rw [match_Match_2]
    unfold match_Match_2_b
    by_cases hx : 0 < (kget m ({step := ((0 : Nat) : Int), node := (v : Int)} : match_place)).getD 0
    · rw [decide_eq_true hx, cond_true]
      cases e : kget m ({step := ((0 : Nat) : Int), node := (v : Int)} : match_place) with
      | none => rw [e] at hx; exact absurd hx (by decide)
      | some x =>
        rw [e] at hx
        refine ⟨m, ?_, hm, Same.refl _ _⟩
        have := hm 0 v x (by omega) e hx
        rw [Option.getD_some]
        cases hF : Fm ns steps 0 (v : Int) with
        | true => rw [decide_eq_true (this.2 hF)]
        | false => rw [decide_eq_false (fun h2 => by rw [this.1 h2] at hF; cases hF)]
    · rw [decide_eq_false hx, cond_false, geti_nat, List.getElem?_eq_getElem hj, Option.bind_some, means_eq ns h hS (by omega) hv hk _ (hT _ (List.getElem_mem hj)), Option.bind_some]
      have eF : Fm ns steps 0 (v : Int) = meansB ns v steps[0] := by simp [Fm, hj]
      cases e : meansB ns v steps[0] with
      | false => exact memo_fin hm hm.put (Same.refl _ _) (by rw [eF, e])
      | true =>
        rw [cond_true]
        unfold match_Match_1_b
        rw [decide_eq_true (show ((0 : Nat) : Int) = 0 from rfl), cond_true, Option.bind_some]
        exact memo_fin hm hm.put (Same.refl _ _) (by rw [eF, e])
  | succ j ih =>
    intro n hj hn v hv hk m hm
    obtain ⟨n, rfl⟩ : ∃ n', n = n' + 1 := ⟨n - 1, by omega⟩
    rw [match_Match_2]
    unfold match_Match_2_b
    by_cases hx : 0 < (kget m ({step := ((j + 1 : Nat) : Int), node := (v : Int)} : match_place)).getD 0
    · rw [decide_eq_true hx, cond_true]
      cases e : kget m ({step := ((j + 1 : Nat) : Int), node := (v : Int)} : match_place) with
      | none => rw [e] at hx; exact absurd hx (by decide)
      | some x =>
        rw [e] at hx
        refine ⟨m, ?_, hm, Same.refl _ _⟩
        have := hm (j + 1) v x (by omega) e hx
        rw [Option.getD_some]
        cases hF : Fm ns steps (j + 1) (v : Int) with
        | true => rw [decide_eq_true (this.2 hF)]
        | false => rw [decide_eq_false (fun h2 => by rw [this.1 h2] at hF; cases hF)]
    · have hst : geti steps ((j + 1 : Nat) : Int) = some steps[j + 1] := by rw [geti_nat, List.getElem?_eq_getElem hj]
      rw [decide_eq_false hx, cond_false]
      rw [show geti (⟨steps⟩ : sheet_Selector).Steps ((j + 1 : Nat) : Int) = some steps[j + 1] from hst, Option.bind_some, means_eq ns h hS (by omega) hv hk _ (hT _ (List.getElem_mem hj)), Option.bind_some]
      have eF : Fm ns steps (j + 1) (v : Int) = (meansB ns v steps[j + 1] && (ks ns steps[j + 1].Comb v).any (Fm ns steps j)) := by simp [Fm, hj]
      cases e : meansB ns v steps[j + 1] with
      | false => exact memo_fin hm hm.put (Same.refl _ _) (by rw [eF, e])
      | true =>
        rw [cond_true]
        obtain ⟨m2, e2, M2, S2⟩ := any_one h (ih n (by omega) (by omega)) (by omega) (show 1048600 ≤ n by omega) hL hv _ (hm.put (v := (v : Int)) (x := 1)) hst
        rw [e2, Option.bind_some]
        exact memo_fin hm M2 S2 (by rw [eF, e]; rfl)
theorem match_eq (h : RT ns) (hS : SB_api_Tree ⟨ns⟩) (hT : ∀ s ∈ steps, s.Tests.length ≤ 1048580) (h12 : steps.length ≤ 12) {n : Nat} (hn : 3000100 ≤ n) (v : Int) : match_Match n ⟨ns⟩ v ⟨steps⟩ = some (mB ns steps v) := by
  unfold match_Match match_Match_k1 mB
  rw [element_eq, Option.bind_some]
  cases e : elB ns v with
  | false => rfl
  | true =>
    rw [Bool.not_true, cond_false, Bool.true_and]
    by_cases h0 : steps.length = 0
    · rw [decide_eq_true (show ((steps.length : Nat) : Int) = 0 by omega), cond_true, decide_eq_false (not_not_intro h0), Bool.false_and]
    · rw [decide_eq_false (show ¬ ((steps.length : Nat) : Int) = 0 by omega), cond_false, decide_eq_true h0, Bool.true_and]
      obtain ⟨i, rfl, hi, hk⟩ := (elB_iff ns v).1 e
      obtain ⟨m', e1, _, _⟩ := slf_ok ns steps h hS hT h12 (steps.length - 1) n (by omega) (by omega) i hi hk [] (fun q v x _ hx => by simp [kget] at hx)
      rw [show w64 (((⟨steps⟩ : sheet_Selector).Steps.length : Int) - 1) = ((steps.length - 1 : Nat) : Int) by show w64 ((steps.length : Int) - 1) = _; rw [w64_id (by omega)]; omega]
      rw [e1]
      rfl
end
end Go.Proofs.YtmkcglpeidbblaaDoor
