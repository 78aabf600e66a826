/-
  Walks and laws of this seat; the base is the text Base.
-/
import Derived.Test.YtekcbgnkikmhpaaPE
namespace Go.Proofs.Ytekcbgnkikmhpaa
open Go.RowKit Go.Sl

section
variable (ns : List api_Node)
/-- The node that the document makes, behind the first i + 1. -/
def wn (i j : Nat) : api_Node := {Kind := 0, Name := bs [], Text := bs [], Attrs := [], Parent := if j = 0 then -1 else par ns j, First := firstc ns i j, Last := lastc ns i j, Prev := if j = 0 then -1 else prevc ns j, Next := nextc ns i j}

theorem firstc_succ (i : Nat) (p : Int) : firstc ns (i + 1) p = if par ns (i + 1) = p ∧ lastc ns i p = -1 then ((i + 1 : Nat) : Int) else firstc ns i p := rfl
theorem nextc_succ (i : Nat) (m : Int) : nextc ns (i + 1) m = if 0 ≤ m ∧ lastc ns i (par ns (i + 1)) = m then ((i + 1 : Nat) : Int) else nextc ns i m := rfl
theorem row_succ (i : Nat) : row ns (i + 1) = ((i + 1 : Nat) : Int) :: pop (par ns (i + 1)) (row ns i) := rfl
theorem lastc_lt (i : Nat) (p : Int) : lastc ns i p ≤ i := by
  rcases lastc_le ns i p with h | ⟨c, h, _, h2, _⟩ <;> omega

theorem wn_other {i j q c : Nat} (hq : par ns (i + 1) = q) (hjq : j ≠ q) (hc : lastc ns i q = c ∧ j ≠ c ∨ lastc ns i q = -1) : wn ns (i + 1) j = wn ns i j := by
  have e1 : ¬ ((q : Int) = (j : Int) ∧ lastc ns i j = -1) := by rintro ⟨h, _⟩; omega
  have e2 : ¬ (q : Int) = (j : Int) := by omega
  have e3 : ¬ (0 ≤ (j : Int) ∧ lastc ns i (q : Int) = (j : Int)) := by omega
  simp only [wn, firstc_succ, lastc_succ, nextc_succ, hq, if_neg e1, if_neg e2, if_neg e3]
theorem wn_next {i q c : Nat} (hq : par ns (i + 1) = q) (hc : lastc ns i q = c) (hcq : c ≠ q) : wn ns (i + 1) c = { wn ns i c with Next := ((i + 1 : Nat) : Int) } := by
  have e1 : ¬ ((q : Int) = (c : Int) ∧ lastc ns i c = -1) := by rintro ⟨h, _⟩; omega
  have e2 : ¬ (q : Int) = (c : Int) := by omega
  have e3 : 0 ≤ (c : Int) ∧ lastc ns i (q : Int) = (c : Int) := ⟨by omega, hc⟩
  simp only [wn, firstc_succ, lastc_succ, nextc_succ, hq, if_neg e1, if_neg e2, if_pos e3]
theorem wn_par1 {i q c : Nat} (hq : par ns (i + 1) = q) (hc : lastc ns i q = c) (hcq : c ≠ q) : wn ns (i + 1) q = { wn ns i q with Last := ((i + 1 : Nat) : Int) } := by
  simp only [wn, firstc_succ, lastc_succ, nextc_succ, hq, api_Node.mk.injEq, true_and]
  grind
theorem wn_par0 {i q : Nat} (hq : par ns (i + 1) = q) (hc : lastc ns i q = -1) : wn ns (i + 1) q = { wn ns i q with First := ((i + 1 : Nat) : Int), Last := ((i + 1 : Nat) : Int) } := by
  simp only [wn, firstc_succ, lastc_succ, nextc_succ, hq, api_Node.mk.injEq, true_and]
  grind
theorem wn_new {i q : Nat} (hg : good ns i) (hq : par ns (i + 1) = q) (hqi : q ≤ i) : wn ns (i + 1) (i + 1) = {Kind := 0, Name := bs [], Text := bs [], Attrs := [], Parent := (q : Int), First := -1, Last := -1, Prev := lastc ns i q, Next := -1} := by
  have h1 : lastc ns i ((i + 1 : Nat) : Int) = -1 := good.lastc_none ns hg _ (by omega)
  have e0 : ¬ i + 1 = 0 := by omega
  have e2 : ¬ (q : Int) = ((i + 1 : Nat) : Int) := by omega
  have e3 : ¬ (0 ≤ ((i + 1 : Nat) : Int) ∧ lastc ns i (q : Int) = ((i + 1 : Nat) : Int)) := by have := lastc_lt ns i q; omega
  have h2 := firstc_none ns i _ h1
  have h3 : nextc ns i ((i + 1 : Nat) : Int) = -1 := nextc_none ns i _ (fun c h2 h3 h4 => by
    have := lastc_lt ns (c - 1) (par ns c)
    unfold prevc at h4; omega)
  have h4 : prevc ns (i + 1) = lastc ns i q := by unfold prevc; rw [hq]; rfl
  simp only [wn, firstc_succ, lastc_succ, nextc_succ, hq, h1, h2, h3, h4, api_Node.mk.injEq, true_and]
  grind

theorem ref_pop (W : List api_Node) (dp m : Int) (lp : List api_Node → Int → List Int → Int → Option Int) (x : api_Node) : ∀ (k : Nat) (L : List Int), L.length < k → L.length ≤ 4097 →
    ref5_Right_l12 ⟨ns⟩ W dp m lp x k L.reverse = ref5_Right_k8 ⟨ns⟩ W dp m lp x (pop x.Parent L).reverse
  | 0, L, h, _ => by omega
  | k + 1, [], h, _ => by
    rw [ref5_Right_l12]
    rfl
  | k + 1, a :: l, h, hl => by
    simp only [List.length_cons] at h hl
    rw [ref5_Right_l12, List.reverse_cons]
    rw [show decide ((0 : Int) < ((l.reverse ++ [a]).length : Int)) = true from by simp, cond_true, geti_last _ _ (by simp; omega), Option.bind_some]
    unfold ref5_Right_k13
    by_cases ha : a = x.Parent
    · rw [show decide (a ≠ x.Parent) = false from decide_eq_false (not_not_intro ha), cond_false]
      subst ha
      rw [pop_cons_eq, List.reverse_cons]
    · rw [show decide (a ≠ x.Parent) = true from decide_eq_true ha, cond_true, cutM_last _ _ (by simp; omega), Option.bind_some, ref_pop W dp m lp x k l (by omega) (by omega), pop_cons_ne _ ha]

variable (hN : ns.length ≤ 4096)
include hN
theorem ref_end (W : List api_Node) (dp : Int) (hW : ∀ j, j < ns.length → W[j]? = some (wn ns (ns.length - 1) j)) : ∀ (k m : Nat), ns.length < k + m → m ≤ ns.length →
    (ref5_Right_l4 ⟨ns⟩ W dp k (m : Int) = some 10 ∧ ¬ ∀ j, m ≤ j → j < ns.length → refP ns j) ∨ (ref5_Right_l4 ⟨ns⟩ W dp k (m : Int) = ref5_Right_k3 dp ∧ ∀ j, m ≤ j → j < ns.length → refP ns j)
  | 0, m, hk, hm => by omega
  | k + 1, m, hk, hm => by
    rw [ref5_Right_l4]
    by_cases h : m < ns.length
    · rw [show decide ((m : Int) < (ns.length : Int)) = true from by simpa using h, cond_true]
      simp only [geti_nat, nd_get ns h, hW m h, Option.bind_some]
      have bad : ¬ refP ns m → (ref5_Right_k5 (m : Int) (ref5_Right_l4 ⟨ns⟩ W dp k) true = some 10 ∧ ¬ ∀ j, m ≤ j → j < ns.length → refP ns j) ∨ (ref5_Right_k5 (m : Int) (ref5_Right_l4 ⟨ns⟩ W dp k) true = ref5_Right_k3 dp ∧ ∀ j, m ≤ j → j < ns.length → refP ns j) := fun hb =>
        .inl ⟨rfl, fun hh => hb (hh m (Nat.le_refl _) h)⟩
      by_cases h1 : (nd ns m).First = (wn ns (ns.length - 1) m).First
      · rw [show decide ((nd ns m).First ≠ (wn ns (ns.length - 1) m).First) = false from decide_eq_false (not_not_intro h1), cond_false]
        by_cases h2 : (nd ns m).Last = (wn ns (ns.length - 1) m).Last
        · rw [show decide ((nd ns m).Last ≠ (wn ns (ns.length - 1) m).Last) = false from decide_eq_false (not_not_intro h2), cond_false]
          by_cases h3 : (nd ns m).Prev = (wn ns (ns.length - 1) m).Prev
          · rw [show decide ((nd ns m).Prev ≠ (wn ns (ns.length - 1) m).Prev) = false from decide_eq_false (not_not_intro h3), cond_false]
            by_cases h4 : (nd ns m).Next = (wn ns (ns.length - 1) m).Next
            · rw [show decide ((nd ns m).Next ≠ (wn ns (ns.length - 1) m).Next) = false from decide_eq_false (not_not_intro h4)]
              unfold ref5_Right_k5
              rw [cond_false, w64_succ (by omega)]
              rcases ref_end W dp hW k (m + 1) (by omega) (by omega) with ⟨e1, e2⟩ | ⟨e1, e2⟩
              · exact .inl ⟨e1, fun hh => e2 fun j hj => hh j (by omega)⟩
              · refine .inr ⟨e1, fun j hj hj2 => ?_⟩
                rcases Nat.eq_or_lt_of_le hj with e | e
                · subst e; exact ⟨h1, h2, h3, h4⟩
                · exact e2 j e hj2
            · rw [show decide ((nd ns m).Next ≠ (wn ns (ns.length - 1) m).Next) = true from decide_eq_true h4]
              exact bad fun hh => h4 hh.2.2.2
          · rw [show decide ((nd ns m).Prev ≠ (wn ns (ns.length - 1) m).Prev) = true from decide_eq_true h3, cond_true]
            exact bad fun hh => h3 hh.2.2.1
        · rw [show decide ((nd ns m).Last ≠ (wn ns (ns.length - 1) m).Last) = true from decide_eq_true h2, cond_true]
          exact bad fun hh => h2 hh.2.1
      · rw [show decide ((nd ns m).First ≠ (wn ns (ns.length - 1) m).First) = true from decide_eq_true h1, cond_true]
        exact bad fun hh => h1 hh.1
    · right
      rw [show decide ((m : Int) < (ns.length : Int)) = false from by simp; omega, cond_false]
      exact ⟨rfl, fun j h1 h2 => by omega⟩

/-- The document's step: a new node is bound. -/
theorem ref_bind {i q : Nat} (W : List api_Node) (dp : Int) (lp : List api_Node → Int → List Int → Int → Option Int) (rw' : List Int) (hg : good ns i) (hq : par ns (i + 1) = q) (hqi : q ≤ i) (hi : i + 1 < ns.length) (hl : W.length = ns.length) (hW : ∀ j, j ≤ i → W[j]? = some (wn ns i j)) :
    ∃ W', W'.length = ns.length ∧ (∀ j, j ≤ i + 1 → W'[j]? = some (wn ns (i + 1) j)) ∧ ref5_Right_k10 W ((i + 1 : Nat) : Int) lp (nd ns (i + 1)) rw' dp = lp W' dp rw' ((i + 1 + 1 : Nat) : Int) := by
  have hq1 : (nd ns (i + 1)).Parent = (q : Int) := hq
  obtain ⟨z, hz⟩ : ∃ z, W[i + 1]? = some z := ⟨_, List.getElem?_eq_getElem (by omega)⟩
  unfold ref5_Right_k10
  rw [hq1]
  simp only [geti_nat, hW q hqi, hz, Option.bind_some]
  rw [seti_nat W (by omega), Option.bind_some, List.getElem?_set_ne (by omega), hW q hqi, Option.bind_some]
  have hlast : (wn ns i q).Last = lastc ns i q := rfl
  have hnew := wn_new ns hg hq hqi
  rcases lastc_le ns i q with h0 | ⟨c, h0, c1, c2, c3⟩
  · rw [show decide (0 ≤ (wn ns i q).Last) = false from by rw [hlast, h0]; rfl, cond_false]
    rw [Option.bind_some, seti_nat _ (by simp; omega), Option.bind_some]
    unfold ref5_Right_k11
    rw [hq1, geti_nat, List.getElem?_set_self (by simp; omega), Option.bind_some, seti_nat _ (by simp; omega), Option.bind_some]
    unfold ref5_Right_k7
    rw [w64_succ (by omega)]
    refine ⟨_, by simpa using hl, fun j hj => ?_, rfl⟩
    by_cases hjq : q = j
    · subst hjq
      rw [List.getElem?_set_self (by simp; omega), wn_par0 ns hq h0]
    · rw [List.getElem?_set_ne hjq, List.getElem?_set_ne hjq]
      by_cases hji : j = i + 1
      · subst hji
        rw [List.getElem?_set_self (by omega), hnew, hlast]
      · rw [List.getElem?_set_ne (by omega), hW j (by omega), wn_other ns hq (by omega) (c := 0) (.inr h0)]
  · have hcq : c ≠ q := fun e => by
      subst e
      obtain ⟨q', e1, e2, _⟩ := par_lt ns hg c1 c2
      omega
    rw [show decide (0 ≤ (wn ns i q).Last) = true from by rw [hlast, h0]; simp, cond_true, Option.bind_some, hlast, h0, geti_nat, List.getElem?_set_ne (by omega), hW c c2, Option.bind_some, seti_nat _ (by simp; omega), Option.bind_some]
    unfold ref5_Right_k11
    rw [hq1, geti_nat, List.getElem?_set_ne hcq, List.getElem?_set_ne (by omega), hW q hqi, Option.bind_some, seti_nat _ (by simp; omega), Option.bind_some]
    unfold ref5_Right_k7
    rw [w64_succ (by omega)]
    refine ⟨_, by simpa using hl, fun j hj => ?_, rfl⟩
    by_cases hjq : q = j
    · subst hjq
      rw [List.getElem?_set_self (by simp; omega), wn_par1 ns hq h0 hcq]
    · rw [List.getElem?_set_ne hjq]
      by_cases hjc : c = j
      · subst hjc
        rw [List.getElem?_set_self (by simp; omega), wn_next ns hq h0 hcq]
      · rw [List.getElem?_set_ne hjc]
        by_cases hji : j = i + 1
        · subst hji
          rw [List.getElem?_set_self (by omega), hnew, h0]
        · rw [List.getElem?_set_ne (by omega), hW j (by omega), wn_other ns hq (by omega) (.inl ⟨h0, by omega⟩)]
end
end Go.Proofs.Ytekcbgnkikmhpaa
