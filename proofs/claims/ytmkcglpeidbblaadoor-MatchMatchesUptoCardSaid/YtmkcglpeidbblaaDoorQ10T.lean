/-
  Walks and laws of this seat; the base is the text Base.
-/
import Derived.Test.YtmkcglpeidbblaaDoorQ10X
namespace Go.Proofs.YtmkcglpeidbblaaDoor
open Go.RowKit Go.Sl
/-! The reference's Match. -/
section
variable (ns : List api_Node) (steps : List sheet_Step)
/-- What the reference's table holds. -/
noncomputable def Fr (j i : Nat) : Bool := decide ((nd ns i).Kind = 1) && Fm ns steps j i
/-- A table that holds f below j, b at j, and nothing behind. -/
def PT (f : Nat → Bool) (j : Nat) (b : Bool) (y : List Bool) : Prop := y.length = ns.length ∧ ∀ q, q < ns.length → y[q]? = some (if q < j then f q else if q = j then b else false)
section
variable {ns}
theorem PT.start (f : Nat → Bool) : PT ns f 0 false (List.replicate ns.length false) := ⟨List.length_replicate, fun q hq => by
  rw [List.getElem?_replicate, if_pos hq, if_neg (by omega)]
  split <;> rfl⟩
theorem PT.put {f : Nat → Bool} {j : Nat} {b : Bool} {y : List Bool} (h : PT ns f j b y) (c : Bool) : PT ns f j c (y.set j c) := ⟨by rw [List.length_set]; exact h.1, fun q hq => by
  rw [List.getElem?_set]
  by_cases e : j = q
  · subst e
    rw [if_pos rfl, if_pos (by rw [h.1]; exact hq), if_neg (by omega), if_pos rfl]
  · rw [if_neg e, h.2 q hq]
    by_cases hqj : q < j
    · rw [if_pos hqj, if_pos hqj]
    · rw [if_neg hqj, if_neg hqj, if_neg (by omega), if_neg (by omega)]⟩
theorem PT.next {f : Nat → Bool} {j : Nat} {b : Bool} {y : List Bool} (h : PT ns f j b y) (e : b = f j) : PT ns f (j + 1) false y := ⟨h.1, fun q hq => by
  rw [h.2 q hq]
  by_cases h1 : q < j
  · rw [if_pos h1, if_pos (by omega)]
  · by_cases h2 : q = j
    · rw [if_neg h1, if_pos h2, if_pos (by omega), e, h2]
    · rw [if_neg h1, if_neg h2, if_neg (by omega)]
      split <;> rfl⟩
theorem PT.here {f : Nat → Bool} {j : Nat} {b : Bool} {y : List Bool} (h : PT ns f j b y) (hj : j < ns.length) : geti y (j : Int) = some b := by
  rw [geti_nat, h.2 j hj, if_neg (by omega), if_pos rfl]
theorem PT.full {f : Nat → Bool} {b : Bool} {y : List Bool} (h : PT ns f ns.length b y) {q : Nat} (hq : q < ns.length) : geti y (q : Int) = some (f q) := by
  rw [geti_nat, h.2 q hq, if_pos hq]
end
theorem rl8 (_h : RT ns) (_hL : ns.length ≤ 1048576) (f g : Nat → Bool) (y47 : List Bool) (hy : PT ns g ns.length false y47) (j : Nat) (hj : j < ns.length) (lp : List Bool → Int → Option Bool) (A : List Int) (hA : ∀ u ∈ A, elB ns u = true) (hAl : A.length ≤ 1048576) :
    ∀ (d k m : Nat) (b : Bool) (y : List Bool), A.length - m ≤ d → d + 2 ≤ k → PT ns f j b y → ∃ y', ref10_Match_l8 y47 (j : Int) lp A k y (m : Int) = lp y' (w64 ((j : Int) + 1)) ∧ PT ns f j (b || (A.drop m).any fun u => g u.toNat) y' := by
  intro d
  have fin : ∀ (k m : Nat) (b : Bool) (y : List Bool), ¬ m < A.length → PT ns f j b y → ∃ y', ref10_Match_l8 y47 (j : Int) lp A (k + 1) y (m : Int) = lp y' (w64 ((j : Int) + 1)) ∧ PT ns f j (b || (A.drop m).any fun u => g u.toNat) y' := fun k m b y hm hp => by
    rw [ref10_Match_l8, decide_eq_false (show ¬ (m : Int) < (A.length : Int) by omega), cond_false]
    refine ⟨y, rfl, ?_⟩
    rw [List.drop_eq_nil_of_le (by omega), List.any_nil, Bool.or_false]
    exact hp
  induction d with
  | zero =>
    intro k m b y hd hk hp
    obtain ⟨k, rfl⟩ : ∃ k', k = k' + 1 := ⟨k - 1, by omega⟩
    exact fin k m b y (by omega) hp
  | succ d ih =>
    intro k m b y hd hk hp
    obtain ⟨k, rfl⟩ : ∃ k', k = k' + 1 := ⟨k - 1, by omega⟩
    by_cases hm : m < A.length
    · obtain ⟨u, hu, hul, hk1⟩ := (elB_iff ns _).1 (hA _ (List.getElem_mem hm))
      have hyl : j < y.length := by rw [hp.1]; exact hj
      have k9 : ∀ (b' : Bool) (y' : List Bool), PT ns f j b' y' → ∃ y'', ref10_Match_k9 (m : Int) (ref10_Match_l8 y47 (j : Int) lp A k) y' = lp y'' (w64 ((j : Int) + 1)) ∧ PT ns f j (b' || (A.drop (m + 1)).any fun u => g u.toNat) y'' := fun b' y' hp' => by
        unfold ref10_Match_k9
        rw [w64_succ (by omega)]
        exact ih k (m + 1) b' y' (by omega) (by omega) hp'
      rw [ref10_Match_l8, decide_eq_true (show (m : Int) < (A.length : Int) by omega), cond_true, hp.here hj, Option.bind_some, Option.bind_some, geti_nat, List.getElem?_eq_getElem hm, Option.bind_some, hu, hy.full hul, Option.bind_some, Option.bind_some, seti_nat _ hyl, Option.bind_some, seti_nat _ hyl, Option.bind_some, List.drop_eq_getElem_cons hm, List.any_cons, hu, Int.toNat_natCast]
      cases b with
      | true =>
        obtain ⟨y', e1, e2⟩ := k9 true _ (hp.put true)
        exact ⟨y', e1, by simpa using e2⟩
      | false =>
        obtain ⟨y', e1, e2⟩ := k9 (g u) _ (hp.put (g u))
        exact ⟨y', e1, by simpa using e2⟩
    · exact fin k m b y hm hp
theorem Fr_succ (h : RT ns) {j i : Nat} (hj : j + 1 < steps.length) (hi : i < ns.length) : Fr ns steps (j + 1) i = (decide ((nd ns i).Kind = 1) && meansB ns i steps[j + 1] && (ks ns steps[j + 1].Comb i).any fun u => Fr ns steps j u.toNat) := by
  unfold Fr
  have e : Fm ns steps (j + 1) (i : Int) = (meansB ns i steps[j + 1] && (ks ns steps[j + 1].Comb i).any (Fm ns steps j)) := by simp [Fm, hj]
  rw [e, ← Bool.and_assoc]
  congr 1
  rw [Bool.eq_iff_iff, List.any_eq_true, List.any_eq_true]
  constructor
  · rintro ⟨u, hu, h2⟩
    obtain ⟨m, rfl, hm, hk⟩ := (elB_iff ns u).1 (ks_el ns h hi _ u hu)
    exact ⟨_, hu, by rw [Int.toNat_natCast, hk]; simpa using h2⟩
  · rintro ⟨u, hu, h2⟩
    obtain ⟨m, rfl, hm, hk⟩ := (elB_iff ns u).1 (ks_el ns h hi _ u hu)
    rw [Int.toNat_natCast, hk] at h2
    exact ⟨_, hu, by simpa using h2⟩
section
variable (h : RT ns) (hS : SB_api_Tree ⟨ns⟩) (hT : ∀ s ∈ steps, s.Tests.length ≤ 1048580) {n : Nat} (hn : 4194400 ≤ n)
include h hS hT hn
theorem rl5 {t : Nat} (ht : t + 1 < steps.length) (_h12 : steps.length ≤ 12) (y47 : List Bool) (hy : PT ns (Fr ns steps t) ns.length false y47) (lp : List Bool → Int → Option Bool) :
    ∀ (d k j : Nat) (y : List Bool), ns.length - j = d → d + 2 ≤ k → j ≤ ns.length → PT ns (Fr ns steps (t + 1)) j false y → ∃ y', ref10_Match_l5 n ⟨ns⟩ ⟨steps.map cvS⟩ y47 ((t + 1 : Nat) : Int) lp k y (j : Int) = lp y' (w64 (((t + 1 : Nat) : Int) + 1)) ∧ PT ns (Fr ns steps (t + 1)) ns.length false y' := by
  have hL : ns.length ≤ 1048576 := hS.1
  intro d
  induction d with
  | zero =>
    intro k j y hd hk hjl hp
    obtain ⟨k, rfl⟩ : ∃ k', k = k' + 1 := ⟨k - 1, by omega⟩
    rw [ref10_Match_l5, show decide ((j : Int) < (((⟨ns⟩ : api_Tree).Nodes.length : Nat) : Int)) = false from decide_eq_false (by show ¬ (j : Int) < (ns.length : Int); omega), cond_false]
    obtain rfl : j = ns.length := by omega
    exact ⟨y, rfl, hp⟩
  | succ d ih =>
    intro k j y hd hk hjl hp
    obtain ⟨k, rfl⟩ : ∃ k', k = k' + 1 := ⟨k - 1, by omega⟩
    have hj : j < ns.length := by omega
    have eg : geti (⟨steps.map cvS⟩ : ref9_Selector).Steps ((t + 1 : Nat) : Int) = some (cvS steps[t + 1]) := by
      show geti (steps.map cvS) _ = _
      rw [geti_nat]
      simp [ht]
    have k6 : ∀ y', PT ns (Fr ns steps (t + 1)) (j + 1) false y' → ∃ y'', ref10_Match_k6 (j : Int) (ref10_Match_l5 n ⟨ns⟩ ⟨steps.map cvS⟩ y47 ((t + 1 : Nat) : Int) lp k) y' = lp y'' (w64 (((t + 1 : Nat) : Int) + 1)) ∧ PT ns (Fr ns steps (t + 1)) ns.length false y'' := fun y' hp' => by
      unfold ref10_Match_k6
      rw [w64_succ (by omega)]
      exact ih k (j + 1) y' (by omega) (by omega) (by omega) hp'
    have eF := Fr_succ ns steps h ht hj
    rw [ref10_Match_l5, show decide ((j : Int) < (((⟨ns⟩ : api_Tree).Nodes.length : Nat) : Int)) = true from decide_eq_true (by show (j : Int) < (ns.length : Int); omega), cond_true, eg, Option.bind_some, rmeans_eq ns h hS hn hj _ (hT _ (List.getElem_mem ht)), Option.bind_some, Option.bind_some, ahead_ks ns h hL hn hj, Option.bind_some]
    cases em : (decide ((nd ns j).Kind = 1) && meansB ns j steps[t + 1]) with
    | false =>
      rw [Bool.not_false, cond_true]
      exact k6 y (hp.next (by rw [eF, em, Bool.false_and]))
    | true =>
      rw [Bool.not_true, cond_false]
      have hAl : (ks ns steps[t + 1].Comb (j : Int)).length ≤ 1048576 := by
        have lP : ∀ k v, (chP ns k v).length ≤ k := fun k => by
          induction k with
          | zero => intro v; exact Nat.le_refl _
          | succ k ihk =>
            intro v
            unfold chP
            split
            · have := ihk (nd ns v.toNat).Parent; simp only [List.length_cons]; omega
            · simp
        have lB : ∀ k v, (chB ns k v).length ≤ k := fun k => by
          induction k with
          | zero => intro v; exact Nat.le_refl _
          | succ k ihk =>
            intro v
            unfold chB
            split
            · rename_i d _; have := ihk d; simp only [List.length_cons]; omega
            · simp
        have p1 := lP ns.length (j : Int)
        have p2 := lP 1 (j : Int)
        have p3 := lB 1 (j : Int)
        have p4 := lB ns.length (j : Int)
        unfold ks
        split
        · omega
        split
        · omega
        split
        · omega
        split
        · omega
        · simp
      obtain ⟨y', e1, e2⟩ := rl8 ns h hL (Fr ns steps (t + 1)) (Fr ns steps t) y47 hy j hj (ref10_Match_l5 n ⟨ns⟩ ⟨steps.map cvS⟩ y47 ((t + 1 : Nat) : Int) lp k) _ (fun u hu => ks_el ns h hj _ u hu) hAl (ks ns steps[t + 1].Comb (j : Int)).length n 0 false y (by omega) (by omega) hp
      rw [show ((0 : Nat) : Int) = 0 from rfl] at e1
      rw [show (cvS steps[t + 1]).Comb = steps[t + 1].Comb from rfl, e1]
      rw [List.drop_zero, Bool.false_or] at e2
      exact k6 y' (e2.next (by rw [eF, em, Bool.true_and]))
theorem rl3 (h12 : steps.length ≤ 12) (v : Int) : ∀ (d k t : Nat) (y47 : List Bool), steps.length - t = d → d + 2 ≤ k → 1 ≤ t → t ≤ steps.length → PT ns (Fr ns steps (t - 1)) ns.length false y47 →
    ∃ y, ref10_Match_l3 n ⟨ns⟩ v ⟨steps.map cvS⟩ k y47 (t : Int) = ref10_Match_k2 v y ∧ PT ns (Fr ns steps (steps.length - 1)) ns.length false y := by
  have hL : ns.length ≤ 1048576 := hS.1
  intro d
  induction d with
  | zero =>
    intro k t y47 hd hk h1 htl hp
    obtain ⟨k, rfl⟩ : ∃ k', k = k' + 1 := ⟨k - 1, by omega⟩
    have : decide ((t : Int) < (((⟨steps.map cvS⟩ : ref9_Selector).Steps.length : Nat) : Int)) = false := decide_eq_false (by show ¬ (t : Int) < (((steps.map cvS).length : Nat) : Int); rw [List.length_map]; omega)
    rw [ref10_Match_l3, this, cond_false]
    obtain rfl : t = steps.length := by omega
    exact ⟨y47, rfl, hp⟩
  | succ d ih =>
    intro k t y47 hd hk h1 htl hp
    obtain ⟨k, rfl⟩ : ∃ k', k = k' + 1 := ⟨k - 1, by omega⟩
    have : decide ((t : Int) < (((⟨steps.map cvS⟩ : ref9_Selector).Steps.length : Nat) : Int)) = true := decide_eq_true (by show (t : Int) < (((steps.map cvS).length : Nat) : Int); rw [List.length_map]; omega)
    obtain ⟨q, rfl⟩ : ∃ q, t = q + 1 := ⟨t - 1, by omega⟩
    obtain ⟨y', e1, e2⟩ := rl5 ns steps h hS hT hn (t := q) (by omega) h12 y47 hp (fun y' => ref10_Match_l3 n ⟨ns⟩ v ⟨steps.map cvS⟩ k y') ns.length n 0 (List.replicate ns.length false) (by omega) (by omega) (by omega) (PT.start _)
    rw [ref10_Match_l3, this, cond_true, show (((⟨ns⟩ : api_Tree).Nodes.length : Nat) : Int) = ((ns.length : Nat) : Int) from rfl, repM_eq (by omega), Option.bind_some]
    rw [show ((0 : Nat) : Int) = 0 from rfl] at e1
    rw [show ref10_Match_l5 n ⟨ns⟩ ⟨steps.map cvS⟩ y47 ((q + 1 : Nat) : Int) (ref10_Match_l3 n ⟨ns⟩ v ⟨steps.map cvS⟩ k) n (List.replicate ns.length false) 0 = _ from e1, w64_succ (by omega)]
    exact ih k (q + 2) y' (by omega) (by omega) (by omega) (by omega) e2
theorem rl10 (h12 : steps.length ≤ 12) (h0 : 0 < steps.length) (v : Int) : ∀ (d k j : Nat) (y : List Bool), ns.length - j = d → d + 2 ≤ k → j ≤ ns.length → PT ns (Fr ns steps 0) j false y →
    ∃ y', ref10_Match_l10 n ⟨ns⟩ v ⟨steps.map cvS⟩ k y (j : Int) = ref10_Match_k2 v y' ∧ PT ns (Fr ns steps (steps.length - 1)) ns.length false y' := by
  have hL : ns.length ≤ 1048576 := hS.1
  intro d
  induction d with
  | zero =>
    intro k j y hd hk hjl hp
    obtain ⟨k, rfl⟩ : ∃ k', k = k' + 1 := ⟨k - 1, by omega⟩
    rw [ref10_Match_l10, show decide ((j : Int) < (((⟨ns⟩ : api_Tree).Nodes.length : Nat) : Int)) = false from decide_eq_false (by show ¬ (j : Int) < (ns.length : Int); omega), cond_false]
    obtain rfl : j = ns.length := by omega
    exact rl3 ns steps h hS hT hn h12 v (steps.length - 1) n 1 y rfl (by omega) (by omega) (by omega) hp
  | succ d ih =>
    intro k j y hd hk hjl hp
    obtain ⟨k, rfl⟩ : ∃ k', k = k' + 1 := ⟨k - 1, by omega⟩
    have hj : j < ns.length := by omega
    have eg : geti (⟨steps.map cvS⟩ : ref9_Selector).Steps 0 = some (cvS steps[0]) := by
      show geti (steps.map cvS) ((0 : Nat) : Int) = _
      rw [geti_nat]
      simp [h0]
    have eF : Fr ns steps 0 j = (decide ((nd ns j).Kind = 1) && meansB ns j steps[0]) := by unfold Fr; simp [Fm, h0]
    rw [ref10_Match_l10, show decide ((j : Int) < (((⟨ns⟩ : api_Tree).Nodes.length : Nat) : Int)) = true from decide_eq_true (by show (j : Int) < (ns.length : Int); omega), cond_true, eg, Option.bind_some, rmeans_eq ns h hS hn hj _ (hT _ (List.getElem_mem h0)), Option.bind_some, hp.here hj, Option.bind_some, seti_nat _ (by rw [hp.1]; exact hj), Option.bind_some, w64_succ (by omega), ← eF]
    exact ih k (j + 1) _ (by omega) (by omega) (by omega) ((hp.put _).next rfl)
theorem rmatch_eq (h12 : steps.length ≤ 12) (v : Int) : ref10_Match n ⟨ns⟩ v ⟨steps.map cvS⟩ = some (mB ns steps v) := by
  have hL : ns.length ≤ 1048576 := hS.1
  unfold ref10_Match mB
  have el : (((⟨steps.map cvS⟩ : ref9_Selector).Steps.length : Nat) : Int) = (steps.length : Int) := by show (((steps.map cvS).length : Nat) : Int) = _; rw [List.length_map]
  rw [el, show (((⟨ns⟩ : api_Tree).Nodes.length : Nat) : Int) = ((ns.length : Nat) : Int) from rfl]
  by_cases h0 : steps.length = 0
  · rw [decide_eq_true (show (steps.length : Int) = 0 by omega), Bool.true_or, cond_true, decide_eq_false (not_not_intro h0), Bool.false_and, Bool.and_false]
  · rw [decide_eq_false (show ¬ (steps.length : Int) = 0 by omega), Bool.false_or, decide_eq_true h0, Bool.true_and]
    by_cases hv : 0 ≤ v ∧ v < ns.length
    · obtain ⟨i, rfl⟩ : ∃ i : Nat, v = i := ⟨v.toNat, by omega⟩
      have hi : i < ns.length := by omega
      rw [decide_eq_false (show ¬ (i : Int) < 0 by omega), decide_eq_false (show ¬ ((ns.length : Nat) : Int) ≤ (i : Int) by omega), Bool.or_false, cond_false, repM_eq (by omega), Option.bind_some]
      obtain ⟨y, e1, e2⟩ := rl10 ns steps h hS hT hn h12 (by omega) (i : Int) ns.length n 0 _ (by omega) (by omega) (by omega) (PT.start _)
      rw [show ref10_Match_l10 n ⟨ns⟩ (i : Int) ⟨steps.map cvS⟩ n (List.replicate ns.length false) 0 = _ from e1]
      unfold ref10_Match_k2
      rw [e2.full hi, Option.bind_some]
      unfold Fr elB
      rw [Int.toNat_natCast]
      by_cases hK : (nd ns i).Kind = 1
      · rw [decide_eq_true hK, decide_eq_true ⟨by omega, by omega, hK⟩]
      · rw [decide_eq_false hK, decide_eq_false (fun hh => hK hh.2.2), Bool.false_and]
    · have e1 : (decide (v < 0) || decide (((ns.length : Nat) : Int) ≤ v)) = true := by
        rw [Bool.or_eq_true, decide_eq_true_iff, decide_eq_true_iff]
        omega
      rw [e1, cond_true, show elB ns v = false from decide_eq_false (fun hh => hv ⟨hh.1, hh.2.1⟩), Bool.false_and]
end
end
end Go.Proofs.YtmkcglpeidbblaaDoor
