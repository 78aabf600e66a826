/-
  Walks and laws of this seat; the base is the text Base.
-/
import Derived.Test.YtmkcglpeidbblaaDoorQ10G
import Derived.Test.YtmkcglpeidbblaaDoorL10vs
namespace Go.Proofs.YtmkcglpeidbblaaDoor
open Go.RowKit Go.Sl
/-! MatchNames -/
section
variable {ns : List api_Node}
theorem elder_lt (h : RT ns) {i : Nat} (hi : i < ns.length) (h1 : 1 ≤ i) (hk : (nd ns i).Kind = 1) {ei : Nat} (hei : Eld ns (nd ns i).Prev ei) : ∀ (j : Nat), i < j → j < ns.length → par ns j = par ns i → ∀ ej, Eld ns (nd ns j).Prev ej → ei < ej := by
  intro j
  induction j using Nat.strongRecOn with
  | _ j ih =>
    intro hij hj hp ej hej
    have hprev : (nd ns j).Prev = prevc ns j := by
      have := (h.ref j hj).2.2.1
      rwa [if_neg (by omega)] at this
    have hat := lastc_at ns (j - 1) i h1 (by omega)
    rcases lastc_le ns (j - 1) (par ns j) with hl | ⟨c, hc, c1, c2, c3⟩
    · rw [← hp] at hat; omega
    · rw [← hp] at hat
      have hpc : (nd ns j).Prev = (c : Int) := hprev.trans hc
      rw [hpc] at hej
      generalize hcc : (c : Int) = cc at hej
      cases hej with
      | nil => omega
      | @cons m e hm he =>
        have : m = c := by omega
        subst this
        by_cases e : m = i
        · subst e
          rw [Eld.uniq he hei, if_pos hk]
          omega
        · have := ih m (by omega) (by omega) hm (c3.trans hp) _ he
          omega
theorem idx_of {i e : Nat} (he : Eld ns (nd ns i).Prev e) : idx ns i = ((1 + e : Nat) : Int) := by
  unfold idx
  rw [dif_pos ⟨e, he⟩, Eld.uniq (Exists.choose_spec (⟨e, he⟩ : ∃ e, Eld ns (nd ns i).Prev e)) he]
theorem idx_ne (h : RT ns) {i j : Nat} (hij : i < j) (hj : j < ns.length) (hki : (nd ns i).Kind = 1) (hkj : (nd ns j).Kind = 1) (hp : (nd ns i).Parent = (nd ns j).Parent) : idx ns i ≠ idx ns j := by
  have h1 : 1 ≤ i := by
    rcases Nat.eq_zero_or_pos i with h0 | h0
    · subst h0
      obtain ⟨q, hq, _⟩ := h.parq (j := j) (by omega) hj
      have h3 : (nd ns 0).Parent = -1 := h.par0
      replace hq : (nd ns j).Parent = (q : Int) := hq
      omega
    · exact h0
  obtain ⟨ei, hei, _⟩ := Index_in h (n := 5000) (Nat.le_refl _) (show i < ns.length by omega) hki
  obtain ⟨ej, hej, _⟩ := Index_in h (n := 5000) (Nat.le_refl _) hj hkj
  have := elder_lt h (by omega) h1 hki hei j hij hj hp.symm ej hej
  rw [idx_of hei, idx_of hej]
  omega
theorem mB_one (st : sheet_Step) (v : Int) : mB ns [st] v = (elB ns v && meansB ns v.toNat st) := by
  unfold mB
  rfl
def InvN (x17 : Int) (j : Nat) (m : List (Int × Int)) : Prop := ∀ p, (kget m p).getD 0 = 0 ∨ ((kget m p).getD 0 = 1 ∧ ∃ i : Nat, i < j ∧ i < ns.length ∧ (nd ns i).Kind = 1 ∧ (nd ns i).Parent = p ∧ idx ns i = x17)
theorem names_l2 (h : RT ns) (hS : SB_api_Tree ⟨ns⟩) {n : Nat} (hn : 3000100 ≤ n) (x17 : Int) : ∀ (d k j : Nat) (m : List (Int × Int)), ns.length - j = d → d + 2 ≤ k → InvN (ns := ns) x17 j m → law10_MatchNames_l2 n ⟨ns⟩ x17 k m (j : Int) = some true := by
  have hL : ns.length ≤ 1048576 := hS.1
  intro d
  induction d with
  | zero =>
    intro k j m hd hk hm
    obtain ⟨k, rfl⟩ : ∃ k', k = k' + 1 := ⟨k - 1, by omega⟩
    rw [law10_MatchNames_l2, show decide ((j : Int) < (((⟨ns⟩ : api_Tree).Nodes.length : Nat) : Int)) = false from decide_eq_false (by show ¬ (j : Int) < (ns.length : Int); omega), cond_false]
    unfold law10_MatchNames_k1
    rw [known_of (by omega)]
    rfl
  | succ d ih =>
    intro k j m hd hk hm
    obtain ⟨k, rfl⟩ : ∃ k', k = k' + 1 := ⟨k - 1, by omega⟩
    have hj : j < ns.length := by omega
    have hT1 : ∀ (c : Int) (nm : ByteArray), ∀ s ∈ [({Comb := c, Name := nm, Tests := []} : sheet_Step)], s.Tests.length ≤ 1048580 := fun c nm s hs => by
      rw [List.mem_singleton.1 hs]; simp
    have hT7 : ∀ s ∈ [({Comb := 0, Name := bs [], Tests := [({Kind := 7, Name := bs [], Value := bs [], N := x17} : sheet_Test)]} : sheet_Step)], s.Tests.length ≤ 1048580 := fun s hs => by
      rw [List.mem_singleton.1 hs]; simp
    have hel : elB ns (j : Int) = decide ((nd ns j).Kind = 1) := by
      unfold elB
      rw [Int.toNat_natCast]
      by_cases hK : (nd ns j).Kind = 1
      · rw [decide_eq_true hK]; exact decide_eq_true ⟨by omega, by omega, hK⟩
      · rw [decide_eq_false hK]; exact decide_eq_false fun hh => hK hh.2.2
    have e1 : mB ns [({Comb := 0, Name := bs [], Tests := []} : sheet_Step)] (j : Int) = decide ((nd ns j).Kind = 1) := by
      rw [mB_one, hel]
      unfold meansB
      simp
    have e2 : mB ns [({Comb := 0, Name := (nd ns j).Name, Tests := []} : sheet_Step)] (j : Int) = decide ((nd ns j).Kind = 1) := by
      rw [mB_one, hel]
      unfold meansB
      simp
    rw [law10_MatchNames_l2, show decide ((j : Int) < (((⟨ns⟩ : api_Tree).Nodes.length : Nat) : Int)) = true from decide_eq_true (by show (j : Int) < (ns.length : Int); omega), cond_true, get_nd hj, Option.bind_some]
    unfold law10_name law10_sel
    simp only [Option.bind_some]
    rw [match_eq ns _ h hS (hT1 _ _) (by simp) hn, Option.bind_some, match_eq ns _ h hS (hT1 _ _) (by simp) hn, Option.bind_some, e1, e2]
    simp only [beq_self_eq_true, Bool.not_true, cond_false]
    -- what follows
    have k5 : ∀ m', InvN (ns := ns) x17 (j + 1) m' → law10_MatchNames_k5 (j : Int) (law10_MatchNames_l2 n ⟨ns⟩ x17 k) m' false = some true := fun m' hm' => by
      unfold law10_MatchNames_k5
      rw [cond_false, w64_succ (by omega)]
      exact ih k (j + 1) m' (by omega) (by omega) hm'
    have k4 : ∀ m', InvN (ns := ns) x17 (j + 1) m' → law10_MatchNames_k4 n ⟨ns⟩ (j : Int) (law10_MatchNames_l2 n ⟨ns⟩ x17 k) (nd ns j) m' = some true := fun m' hm' => by
      unfold law10_MatchNames_k4
      by_cases h0 : 0 < j
      · rw [decide_eq_true (show (0 : Int) < (j : Int) by omega), cond_true]
        by_cases hK : (nd ns j).Kind = 1
        · obtain ⟨q, hq, hqj, hqk, _⟩ := h.parq (j := j) h0 hj
          replace hq : (nd ns j).Parent = (q : Int) := hq
          have hql : q < ns.length := by omega
          have hT2 : ∀ s ∈ [({Comb := 0, Name := (nd ns q).Name, Tests := []} : sheet_Step), {Comb := 2, Name := (nd ns j).Name, Tests := []}], s.Tests.length ≤ 1048580 := fun s hs => by
            simp only [List.mem_cons, List.mem_nil_iff, or_false] at hs
            rcases hs with rfl | rfl <;> simp
          have e3 : mB ns [({Comb := 0, Name := (nd ns q).Name, Tests := []} : sheet_Step), {Comb := 2, Name := (nd ns j).Name, Tests := []}] (j : Int) = true := by
            have ea : meansB ns j ({Comb := 2, Name := (nd ns j).Name, Tests := []} : sheet_Step) = true := by unfold meansB; simp
            have eb : meansB ns q ({Comb := 0, Name := (nd ns q).Name, Tests := []} : sheet_Step) = true := by unfold meansB; simp
            have ec : ks ns 2 (j : Int) = [(q : Int)] := by
              unfold ks
              rw [if_neg (by decide), if_pos rfl, chP, Int.toNat_natCast, hq, elB_nat ns hql hqk, if_pos rfl, chP]
            show (elB ns (j : Int) && (decide (2 ≠ 0) && (meansB ns (j : Int).toNat {Comb := 2, Name := (nd ns j).Name, Tests := []} && (ks ns 2 (j : Int)).any fun u => meansB ns u.toNat {Comb := 0, Name := (nd ns q).Name, Tests := []}))) = true
            rw [hel, decide_eq_true hK, Int.toNat_natCast, ea, ec]
            simp only [List.any_cons, List.any_nil, Int.toNat_natCast, eb]
            rfl
          rw [decide_eq_true hK, cond_true, get_nd hj, Option.bind_some, hq, get_nd hql, Option.bind_some, Option.bind_some]
          simp only [law10_name, law10_sel, Option.bind_some]
          rw [match_eq ns _ h hS hT2 (by simp) hn, Option.bind_some, e3, Bool.not_true]
          exact k5 m' hm'
        · rw [decide_eq_false hK, cond_false]; exact k5 m' hm'
      · rw [decide_eq_false (show ¬ (0 : Int) < (j : Int) by omega), cond_false]; exact k5 m' hm'
    unfold law10_MatchNames_k3
    rw [cond_false]
    unfold law10_name law10_sel
    simp only [Option.bind_some]
    rw [match_eq ns _ h hS hT7 (by simp) hn, Option.bind_some]
    cases eN : mB ns [({Comb := 0, Name := bs [], Tests := [({Kind := 7, Name := bs [], Value := bs [], N := x17} : sheet_Test)]} : sheet_Step)] (j : Int) with
    | false =>
      rw [cond_false]
      exact k4 m fun p => by
        rcases hm p with h1 | ⟨h1, i, h2, h3⟩
        · exact .inl h1
        · exact .inr ⟨h1, i, by omega, h3⟩
    | true =>
      rw [mB_one, Bool.and_eq_true, hel, decide_eq_true_iff] at eN
      have hK := eN.1
      have hI : idx ns j = x17 := by
        have := eN.2
        unfold meansB holdsB at this
        simpa using this
      have hc0 : (kget m (nd ns j).Parent).getD 0 = 0 := by
        rcases hm (nd ns j).Parent with h1 | ⟨_, i, h2, h3, h4, h5, h6⟩
        · exact h1
        · exact absurd (h6.trans hI.symm) (idx_ne h h2 hj h4 hK h5)
      rw [cond_true, get_nd hj, Option.bind_some, Option.bind_some, hc0, kget_kput, if_pos rfl]
      rw [show (decide ((1 : Int) < (some (w64 ((0 : Int) + 1))).getD 0)) = false from by decide, cond_false]
      refine k4 _ fun p => ?_
      rw [kget_kput]
      by_cases hp : (nd ns j).Parent = p
      · rw [if_pos hp]
        exact .inr ⟨by decide, j, by omega, hj, hK, hp, hI⟩
      · rw [if_neg hp]
        rcases hm p with h1 | ⟨h1, i, h2, h3⟩
        · exact .inl h1
        · exact .inr ⟨h1, i, by omega, h3⟩
theorem law10_MatchNames_true {t : api_Tree} {p1 : Int} (hS : SB_api_Tree t) (_ : Sint .i64 p1) : ∃ fuel, law10_MatchNames fuel t p1 = some true := by
  obtain ⟨ns⟩ := t
  refine ⟨4000000, ?_⟩
  generalize hN : (4000000 : Nat) = n
  have hn : 3000100 ≤ n := by omega
  clear hN
  have hL : ns.length ≤ 1048576 := hS.1
  unfold law10_MatchNames
  obtain ⟨b, hb, hB⟩ := small_eq hS (n := n) (by omega) []
  rw [hb, Option.bind_some]
  cases b with
  | false => rw [Bool.not_false, cond_true, known_of (by omega)]; rfl
  | true =>
    obtain ⟨h, _, _, _⟩ := hB rfl
    rw [Bool.not_true, cond_false]
    obtain ⟨r, hr⟩ := within_some n p1 1 9 (by decide)
    rw [hr, Option.bind_some]
    exact names_l2 h hS hn r ns.length n 0 [] (by omega) (by omega) fun p => .inl (by simp [kget])
end
end Go.Proofs.YtmkcglpeidbblaaDoor
