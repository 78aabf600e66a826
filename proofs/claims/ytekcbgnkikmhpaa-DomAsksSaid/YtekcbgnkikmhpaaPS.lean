/-
  Walks and laws of this seat; the base is the text Base.
-/
import Derived.Test.YtekcbgnkikmhpaaPQ
import Derived.Test.YtekcbgnkikmhpaaL5k
namespace Go.Proofs.Ytekcbgnkikmhpaa
open Go.RowKit Go.Sl
/-! # DomAsks -/
theorem same_int (l : List Int) : ∀ (d k m : Nat), l.length - m ≤ d → d + 1 ≤ k → l.length ≤ 9223372036854775806 → m ≤ l.length → book_Same_int_l2 l l k (m : Int) = some true
  | 0, k, m, hd, hk, hl, hm => by
    obtain ⟨k, rfl⟩ : ∃ k', k = k' + 1 := ⟨k - 1, by omega⟩
    rw [book_Same_int_l2, decide_eq_false (by omega), cond_false]; rfl
  | d + 1, k, m, hd, hk, hl, hm => by
    obtain ⟨k, rfl⟩ : ∃ k', k = k' + 1 := ⟨k - 1, by omega⟩
    rw [book_Same_int_l2]
    by_cases h : m < l.length
    · have e : geti l (m : Int) = some l[m] := by rw [geti_nat]; simp [h]
      rw [decide_eq_true (by omega), cond_true, e, Option.bind_some, Option.bind_some, show decide (l[m] ≠ l[m]) = false from decide_eq_false (not_not_intro rfl), cond_false, w64_succ (by omega)]
      exact same_int l d k (m + 1) (by omega) (by omega) hl h
    · rw [decide_eq_false (by omega), cond_false]; rfl
theorem Same_int_refl {n : Nat} (l : List Int) (hn : l.length + 1 ≤ n) (hl : l.length ≤ 9223372036854775806) : book_Same_int n l l = some true := by
  unfold book_Same_int
  rw [show decide ((l.length : Int) ≠ (l.length : Int)) = false from decide_eq_false (not_not_intro rfl), cond_false]
  exact same_int l _ n 0 (Nat.le_refl _) (by omega) hl (by omega)
section
variable {ns : List api_Node}
theorem below_eq (h : RT ns) (a : Nat) : ∀ (b k : Nat), b < ns.length → b + 2 ≤ k → ref5_Below_l2 ⟨ns⟩ (a : Int) k (b : Int) = some (decide ((a : Int) ∈ row ns b)) := by
  intro b
  induction b using Nat.strongRecOn with
  | ind b ih =>
    intro k hb hk
    obtain ⟨k, rfl⟩ : ∃ k', k = k' + 2 := ⟨k - 2, by omega⟩
    rw [show k + 2 = (k + 1) + 1 from rfl, ref5_Below_l2, decide_eq_true (show (0 : Int) ≤ (b : Int) by omega), cond_true]
    by_cases e : b = a
    · subst e
      rw [decide_eq_true (show (b : Int) = (b : Int) from rfl), cond_true, decide_eq_true (by rw [row_cons ns (h.good hb)]; simp)]
    · rw [decide_eq_false (show ¬ (b : Int) = (a : Int) by omega), cond_false, get_nd hb, Option.bind_some]
      by_cases h0 : b = 0
      · subst h0
        rw [show (nd ns 0).Parent = -1 from h.par0, ref5_Below_l2, decide_eq_false (by omega), cond_false, decide_eq_false (by simp [row]; omega)]; rfl
      · obtain ⟨q, q1, q2, _, q4⟩ := h.parq (by omega) hb
        rw [show (nd ns b).Parent = (q : Int) from q1, ih q q2 (k + 1) (by omega) (by omega), q4]
        congr 1
        have : ((a : Int) ∈ (b : Int) :: row ns q) ↔ (a : Int) ∈ row ns q := by
          rw [List.mem_cons]; constructor
          · rintro (h | h)
            · omega
            · exact h
          · exact .inr
        simp only [this]
theorem asks_want (h : RT ns) {n : Nat} (hn : 5000 ≤ n) (p3 : Int) {a e : Nat} (ha : a < ns.length) (he : EndP ns a e) : ∀ (d i k : Nat), ns.length - i ≤ d → d + 1 ≤ k → i ≤ ns.length →
    law5_DomAsks_l11 n ⟨ns⟩ (a : Int) p3 k (ints a (min i e - a)) (i : Int) = law5_DomAsks_k3 n ⟨ns⟩ (a : Int) p3 (ints a (e - a))
  | 0, i, k, hd, hk, hi => by
    have hee := he.2.1
    obtain ⟨k, rfl⟩ : ∃ k', k = k' + 1 := ⟨k - 1, by omega⟩
    rw [law5_DomAsks_l11, decide_eq_false (show ¬ (i : Int) < (((⟨ns⟩ : api_Tree).Nodes.length : Nat) : Int) from by simp only; omega), cond_false, show min i e = e by omega]
  | d + 1, i, k, hd, hk, hi => by
    have hee := he.2.1
    have hs := h.small
    obtain ⟨k, rfl⟩ : ∃ k', k = k' + 1 := ⟨k - 1, by omega⟩
    by_cases hlt : i < ns.length
    · rw [law5_DomAsks_l11, decide_eq_true (show (i : Int) < (((⟨ns⟩ : api_Tree).Nodes.length : Nat) : Int) from by simp only; omega), cond_true, decide_eq_true (show (0 : Int) ≤ (a : Int) by omega), cond_true,
        decide_eq_true (show (a : Int) < (((⟨ns⟩ : api_Tree).Nodes.length : Nat) : Int) from by simp only; omega), cond_true]
      unfold ref5_Below
      rw [below_eq h a i n hlt (by omega), Option.bind_some]
      have hb := he.below h hlt
      have ih := asks_want h hn p3 ha he d (i + 1) k (by omega) (by omega) hlt
      unfold law5_DomAsks_k12
      by_cases hin : a ≤ i ∧ i < e
      · rw [decide_eq_true (hb.2 hin), cond_true, appM_small _ _ (by rw [ints_len]; omega) (by omega), Option.bind_some]
        unfold law5_DomAsks_k13
        rw [w64_succ (by omega)]
        have e1 : ints a (min i e - a) ++ [(i : Int)] = ints a (min (i + 1) e - a) := by
          rw [show min (i + 1) e - a = (min i e - a) + 1 by omega, ints_succ, show a + (min i e - a) = i by omega]
        rw [e1]; exact ih
      · rw [decide_eq_false (fun hh => hin (hb.1 hh)), cond_false]
        unfold law5_DomAsks_k13
        rw [w64_succ (by omega), show min i e - a = min (i + 1) e - a by omega]
        exact ih
    · rw [law5_DomAsks_l11, decide_eq_false (show ¬ (i : Int) < (((⟨ns⟩ : api_Tree).Nodes.length : Nat) : Int) from by simp only; omega), cond_false, show min i e = e by omega]
theorem asks_none (hs : ns.length ≤ 4096) {n : Nat} (p2 p3 : Int) (hp : ¬ (0 ≤ p2 ∧ p2 < ns.length)) : ∀ (d i k : Nat), ns.length - i ≤ d → d + 1 ≤ k → i ≤ ns.length →
    law5_DomAsks_l11 n ⟨ns⟩ p2 p3 k [] (i : Int) = law5_DomAsks_k3 n ⟨ns⟩ p2 p3 []
  | 0, i, k, hd, hk, hi => by
    obtain ⟨k, rfl⟩ : ∃ k', k = k' + 1 := ⟨k - 1, by omega⟩
    rw [law5_DomAsks_l11, decide_eq_false (show ¬ (i : Int) < (((⟨ns⟩ : api_Tree).Nodes.length : Nat) : Int) from by simp only; omega), cond_false]
  | d + 1, i, k, hd, hk, hi => by
    obtain ⟨k, rfl⟩ : ∃ k', k = k' + 1 := ⟨k - 1, by omega⟩
    by_cases hlt : i < ns.length
    · have ih := asks_none hs (n := n) p2 p3 hp d (i + 1) k (by omega) (by omega) hlt
      have step : law5_DomAsks_k12 [] (i : Int) (law5_DomAsks_l11 n ⟨ns⟩ p2 p3 k) false = law5_DomAsks_k3 n ⟨ns⟩ p2 p3 [] := by
        unfold law5_DomAsks_k12 law5_DomAsks_k13
        rw [cond_false, w64_succ (by omega)]; exact ih
      rw [law5_DomAsks_l11, decide_eq_true (show (i : Int) < (((⟨ns⟩ : api_Tree).Nodes.length : Nat) : Int) from by simp only; omega), cond_true]
      by_cases h0 : 0 ≤ p2
      · rw [decide_eq_true h0, cond_true, decide_eq_false (show ¬ p2 < (((⟨ns⟩ : api_Tree).Nodes.length : Nat) : Int) from by simp only; omega), cond_false, step]
      · rw [decide_eq_false h0, cond_false, step]
    · rw [law5_DomAsks_l11, decide_eq_false (show ¬ (i : Int) < (((⟨ns⟩ : api_Tree).Nodes.length : Nat) : Int) from by simp only; omega), cond_false]
end
theorem asks_check {n : Nat} (hn : 5000 ≤ n) (want pre suf : List Int) (hw : want = pre ++ suf) (hl : want.length ≤ 4096) (t : Nat) (ht : t ≤ 1) (hz : t = 0 → suf = []) (lp : Int → Option Bool) :
    law5_DomAsks_k7 n want (t : Int) lp pre = lp ((t + 1 : Nat) : Int) := by
  have hpl : pre.length ≤ want.length := by rw [hw]; simp
  have hle : decide ((want.length : Int) < (pre.length : Int)) = false := decide_eq_false (by omega)
  have hcut : cutM want (0 : Int) (pre.length : Int) = some pre := by
    unfold cutM
    rw [decide_eq_true (show (0 : Int) ≤ 0 by omega), decide_eq_true (show (0 : Int) ≤ (pre.length : Int) by omega), decide_eq_true (show (pre.length : Int) ≤ (want.length : Int) by omega)]
    rw [hw]
    simp
  have hsame := Same_int_refl (n := n) pre (by omega) (by omega)
  have hk8 : law5_DomAsks_k8 (t : Int) lp (!true) = lp ((t + 1 : Nat) : Int) := by
    unfold law5_DomAsks_k8
    rw [Bool.not_true, cond_false, w64_succ (by omega)]
  unfold law5_DomAsks_k7
  by_cases h0 : t = 0
  · have := hz h0
    subst this
    rw [List.append_nil] at hw
    subst hw
    rw [decide_eq_true (show (t : Int) = 0 by omega), cond_true, hsame, Option.bind_some, Bool.not_true, cond_false, hle, cond_false, hcut, Option.bind_some, hsame, Option.bind_some, hk8]
  · rw [decide_eq_false (show ¬ (t : Int) = 0 by omega), cond_false, hle, cond_false, hcut, Option.bind_some, hsame, Option.bind_some, hk8]
theorem asks_range {n : Nat} (hn : 5000 ≤ n) (want : List Int) (hl : want.length ≤ 4096) (x49 : Int) (t : Nat) (ht : t ≤ 1) (lp : Int → Option Bool) : ∀ (rem pre : List Int), pre ++ rem = want →
    law5_DomAsks_r9 n want x49 (t : Int) lp rem pre = lp ((t + 1 : Nat) : Int)
  | [], pre, hp => by
    rw [law5_DomAsks_r9]
    exact asks_check hn want pre [] hp.symm hl t ht (fun _ => rfl) lp
  | y :: rem, pre, hp => by
    have hpl : pre.length ≤ want.length := by rw [← hp]; simp
    rw [law5_DomAsks_r9, appM_small pre y (by omega) (by omega), Option.bind_some]
    cases hb : (decide ((t : Int) = 1) && decide (x49 < ((pre ++ [y]).length : Int))) with
    | true =>
      rw [cond_true]
      unfold law5_DomAsks_k10
      simp only [Bool.and_eq_true, decide_eq_true_eq] at hb
      exact asks_check hn want (pre ++ [y]) rem (by rw [← hp]; simp) hl t ht (fun h0 => by omega) lp
    | false =>
      rw [cond_false]
      exact asks_range hn want hl x49 t ht lp rem (pre ++ [y]) (by rw [← hp]; simp)
theorem asks_turns {n : Nat} (hn : 5000 ≤ n) (hkn : law5_known n = some true) (want : List Int) (hl : want.length ≤ 4096) (x30 : api_Tree × Int) (x49 : Int) (hx : dom_All_1 n x30.1 x30.2 = some want) : law5_DomAsks_l6 n want x30 x49 n 0 = some true := by
  obtain ⟨k, rfl⟩ : ∃ k, n = k + 3 := ⟨n - 3, by omega⟩
  have step : ∀ (k' t : Nat), t ≤ 1 → law5_DomAsks_l6 (k + 3) want x30 x49 (k' + 1) (t : Int) = law5_DomAsks_l6 (k + 3) want x30 x49 k' ((t + 1 : Nat) : Int) := fun k' t ht => by
    rw [law5_DomAsks_l6, decide_eq_true (show (t : Int) < 2 by omega), cond_true, hx, Option.bind_some, asks_range hn want hl x49 t ht _ want [] rfl]
  have h2 : law5_DomAsks_l6 (k + 3) want x30 x49 (k + 3) ((0 : Nat) : Int) = some true := by
    rw [show k + 3 = (k + 2) + 1 from rfl]
    rw [step (k + 2) 0 (by omega), show k + 2 = (k + 1) + 1 from rfl]
    rw [step (k + 1) 1 (by omega), law5_DomAsks_l6, decide_eq_false (show ¬ ((1 + 1 : Nat) : Int) < 2 by omega), cond_false]
    unfold law5_DomAsks_k4
    rw [hkn]; rfl
  exact h2
theorem law5_DomAsks_true {t : api_Tree} {p1 p2 p3 : Int} {p4 : ByteArray} (hS : S_api_Tree t) (_h1 : Sint .i64 p1) (_h2 : Sint .i64 p2) (_h3 : Sint .i64 p3) (_h4 : Sstr p4) : ∃ n, law5_DomAsks n t p1 p2 p3 p4 = some true := by
  obtain ⟨ns⟩ := t
  obtain ⟨h1, h2⟩ := tree_sizes hS
  have hf := fuelOf_nodes ns
  obtain ⟨n, hn⟩ : ∃ n, n = fuelOf ns := ⟨_, rfl⟩
  refine ⟨n, ?_⟩
  have hn5 : 5000 ≤ n := by omega
  have hkn : law5_known n = some true := by
    obtain ⟨k, hk⟩ : ∃ k, n = k + 20 := ⟨n - 20, by omega⟩
    rw [hk]; exact known_true k
  have hA : ∀ j, j < ns.length → (nd ns j).Attrs.length < n ∧ (nd ns j).Attrs.length ≤ 9223372036854775806 := fun j hj => ⟨by rw [hn]; exact fuelOf_attrs ns hj, by have := h2 j hj; simp only at this; omega⟩
  have kt : law5_DomAsks_k1 n ⟨ns⟩ p1 p2 p3 p4 true = some true := by unfold law5_DomAsks_k1; rw [cond_true, hkn]; rfl
  unfold law5_DomAsks
  by_cases hN : (300 : Int) < (((⟨ns⟩ : api_Tree).Nodes.length : Nat) : Int)
  · rw [decide_eq_true hN, cond_true, kt]
  · rw [decide_eq_false hN, cond_false]
    obtain ⟨r, r1, r2⟩ := ref5_Right_eq ns hn5 hA
    rw [r1, Option.bind_some]
    by_cases hr : r = 0
    · have h := RT.of r2 hr
      rw [show decide (r ≠ 0) = false from decide_eq_false (not_not_intro hr)]
      obtain ⟨a, a1, a2⟩ := Attr_same h hn5 p1 p4
      obtain ⟨d, d1, d2⟩ := Depth_same h hn5 p1
      obtain ⟨x, x1, x2⟩ := Index_same h hn5 p1
      obtain ⟨l, l1, l2, l3⟩ := Kids_same h hn5 p1
      unfold law5_DomAsks_k1
      rw [cond_false, a1, Option.bind_some, a2, Option.bind_some, show decide (a.1 ≠ a.1) = false from decide_eq_false (not_not_intro rfl), cond_false, show (!(a.2 == a.2)) = false from by simp, cond_false,
        d1, Option.bind_some, d2, Option.bind_some, show decide (d ≠ d) = false from decide_eq_false (not_not_intro rfl), cond_false,
        x1, Option.bind_some, x2, Option.bind_some, show decide (x ≠ x) = false from decide_eq_false (not_not_intro rfl), cond_false,
        l1, Option.bind_some, l2, Option.bind_some, Same_int_refl l (by omega) (by omega), Option.bind_some]
      unfold law5_DomAsks_k2
      rw [Bool.not_true, cond_false]
      have hs := h.small
      obtain ⟨z, hz⟩ : ∃ z, book_Within n p3 0 9 = some z := by
        unfold book_Within
        rw [show w64 (w64 (9 - 0) + 1) = 10 from by decide, show remM p3 10 = some (p3.tmod 10) from by unfold remM; rw [if_neg (by decide)], Option.bind_some]
        by_cases hlt : p3.tmod 10 < 0
        · rw [decide_eq_true hlt, cond_true]; exact ⟨_, rfl⟩
        · rw [decide_eq_false hlt, cond_false]; exact ⟨_, rfl⟩
      by_cases hp : 0 ≤ p2 ∧ p2 < ns.length
      · obtain ⟨b, rfl⟩ : ∃ b : Nat, p2 = b := ⟨p2.toNat, by omega⟩
        have hb : b < ns.length := by omega
        obtain ⟨e, e1, e2⟩ := All_in h hn5 hb
        have := asks_want h hn5 p3 hb e1 ns.length 0 n (by omega) (by omega) (by omega)
        rw [show min 0 e - b = 0 by omega] at this
        rw [show ints b 0 = [] from rfl, show ((0 : Nat) : Int) = 0 from rfl] at this
        rw [this]
        unfold law5_DomAsks_k3 dom_All
        rw [Option.bind_some, hz, Option.bind_some]
        exact asks_turns hn5 hkn _ (by rw [ints_len]; have := e1.2.1; omega) _ z e2
      · have := asks_none (ns := ns) hs (n := n) p2 p3 hp ns.length 0 n (by omega) (by omega) (by omega)
        rw [show ((0 : Nat) : Int) = 0 from rfl] at this
        rw [this]
        unfold law5_DomAsks_k3 dom_All
        rw [Option.bind_some, hz, Option.bind_some]
        refine asks_turns hn5 hkn _ (by simp) _ z ?_
        unfold dom_All_1
        simp only
        rw [has_out _ hp, Option.bind_some, Bool.not_false, cond_true]
    · rw [show decide (r ≠ 0) = true from decide_eq_true hr, kt]
end Go.Proofs.Ytekcbgnkikmhpaa
