/-
  Walks and laws of this seat; the base is the text Base.
-/
import Derived.Test.YtekcbgnkikmhpaaPB
namespace Go.Proofs.Ytekcbgnkikmhpaa
open Go.RowKit Go.Sl
theorem mgetM_mputM {α : Type} (k q : ByteArray) (v : α) : ∀ m : List (ByteArray × α), mgetM (mputM m k v) q = if k = q then some v else mgetM m q
  | [] => by
    by_cases h : k = q <;> simp [mgetM, mputM, h]
  | p :: m => by
    have ih := mgetM_mputM k q v m
    unfold mputM
    by_cases h1 : p.1 = k
    · rw [if_pos h1]
      by_cases h2 : k = q <;> simp [mgetM, h1, h2]
    · rw [if_neg h1]
      by_cases h2 : p.1 = q
      · have : ¬ k = q := fun e => h1 (h2.trans e.symm)
        simp [mgetM, h2, this]
      · simp only [mgetM, List.find?_cons, h2, decide_false] at ih ⊢
        exact ih
/-- The attribute at a place has a name, unlike those ahead. -/
def attP (l : List api_Attr) (i : Nat) : Prop := ∀ a, l[i]? = some a → a.Name ≠ bs [] ∧ ∀ j, j < i → ∀ b, l[j]? = some b → b.Name ≠ a.Name
theorem alone_loop (x : api_Node) (hl : x.Attrs.length ≤ 64) : ∀ (k m : Nat) (M : List (ByteArray × Int)), x.Attrs.length < k + m → m ≤ x.Attrs.length →
    (∀ q, (mgetM M q).getD 0 = 0 ∧ (∀ j, j < m → ∀ b, x.Attrs[j]? = some b → b.Name ≠ q) ∨ (mgetM M q).getD 0 = 1 ∧ ∃ j, j < m ∧ ∃ b, x.Attrs[j]? = some b ∧ b.Name = q) →
    ∃ b, dom_alone_l2 x k M (m : Int) = some b ∧ (b = true ↔ ∀ i, m ≤ i → attP x.Attrs i)
  | 0, m, M, hk, hm, _ => by omega
  | k + 1, m, M, hk, hm, hM => by
    rw [dom_alone_l2]
    by_cases h : m < x.Attrs.length
    · obtain ⟨a, ha⟩ : ∃ a, x.Attrs[m]? = some a := ⟨_, List.getElem?_eq_getElem h⟩
      have e1 : decide ((m : Int) < (x.Attrs.length : Int)) = true := by simpa using h
      rw [e1, cond_true, geti_nat, ha, Option.bind_some]
      by_cases hn : a.Name = bs []
      · refine ⟨false, by simp [hn, dom_alone_k3], by simp; exact ⟨m, Nat.le_refl _, fun hh => (hh a ha).1 hn⟩⟩
      · rw [decide_eq_false hn, cond_false]
        rcases hM a.Name with ⟨h0, h1⟩ | ⟨h0, j, h1, b, h2, h3⟩
        · obtain ⟨b, e2, e3⟩ := alone_loop x hl k (m + 1) (mputM M a.Name (w64 (((mgetM M a.Name).getD 0) + 1))) (by omega) (by omega) (fun q => by
            rw [mgetM_mputM]
            by_cases hq : a.Name = q
            · right
              rw [if_pos hq]
              exact ⟨by simp [h0]; decide, m, by omega, a, ha, hq⟩
            · rw [if_neg hq]
              rcases hM q with ⟨g0, g1⟩ | ⟨g0, j, g1, b, g2, g3⟩
              · left
                refine ⟨g0, fun j hj b hb => ?_⟩
                rcases Nat.lt_or_ge j m with g2 | g2
                · exact g1 j g2 b hb
                · have : j = m := by omega
                  subst this
                  rw [ha] at hb; cases hb; exact hq
              · exact .inr ⟨g0, j, by omega, b, g2, g3⟩)
          refine ⟨b, ?_, ?_⟩
          · rw [show decide (0 < ((mgetM M a.Name).getD 0)) = false from by rw [h0]; rfl]
            unfold dom_alone_k3
            rw [cond_false, w64_succ (by omega)]
            exact e2
          · rw [e3]
            constructor
            · intro hh i hi
              rcases Nat.eq_or_lt_of_le hi with e | e
              · subst e
                intro a' ha'
                rw [ha] at ha'; cases ha'
                exact ⟨hn, h1⟩
              · exact hh i e
            · intro hh i hi
              exact hh i (by omega)
        · refine ⟨false, by rw [h0]; simp [dom_alone_k3], by simp; exact ⟨m, Nat.le_refl _, fun hh => (hh a ha).2 j h1 b h2 h3⟩⟩
    · have e1 : decide ((m : Int) < (x.Attrs.length : Int)) = false := by simp; omega
      rw [e1, cond_false]
      refine ⟨true, rfl, by simp; intro i hi a ha; have := (List.getElem?_eq_some_iff.1 ha).1; omega⟩
def aloneP (x : api_Node) : Prop := (x.Kind = 2 ∧ x.Name = bs [] ∧ x.Text ≠ bs [] ∧ x.Attrs.length = 0 ∧ x.First = -1 ∧ x.Last = -1) ∨ (x.Kind = 1 ∧ x.Name ≠ bs [] ∧ x.Text = bs [] ∧ x.Attrs.length ≤ 64 ∧ ∀ i, attP x.Attrs i)
theorem dom_alone_eq (x : api_Node) {n : Nat} (hn : 66 ≤ n) : ∃ b, dom_alone n x = some b ∧ (b = true ↔ aloneP x) := by
  unfold dom_alone
  by_cases hk : x.Kind = 2
  · refine ⟨_, by rw [decide_eq_true hk, cond_true], ?_⟩
    simp only [aloneP, hk, Bool.and_eq_true, decide_eq_true_eq]
    simp
  · rw [decide_eq_false hk, cond_false]
    by_cases hb : x.Kind ≠ 1 ∨ x.Name = bs [] ∨ x.Text ≠ bs [] ∨ 64 < x.Attrs.length
    · refine ⟨false, ?_, ?_⟩
      · rw [show (decide (x.Kind ≠ 1) || (decide (x.Name = bs []) || (decide (x.Text ≠ bs []) || decide (64 < (x.Attrs.length : Int))))) = true from ?_, cond_true]
        simp only [Bool.or_eq_true, decide_eq_true_eq]
        rcases hb with h | h | h | h
        · exact .inl h
        · exact .inr (.inl h)
        · exact .inr (.inr (.inl h))
        · exact .inr (.inr (.inr (by omega)))
      · simp only [aloneP, hk, false_and, false_or, Bool.false_eq_true, false_iff]
        rintro ⟨h1, h2, h3, h4, _⟩
        rcases hb with h | h | h | h
        · exact h h1
        · exact h2 h
        · exact h h3
        · omega
    · have h1 : x.Kind = 1 := Decidable.byContradiction fun h => hb (.inl h)
      have h2 : x.Name ≠ bs [] := fun h => hb (.inr (.inl h))
      have h3 : x.Text = bs [] := Decidable.byContradiction fun h => hb (.inr (.inr (.inl h)))
      have h4 : x.Attrs.length ≤ 64 := Nat.le_of_not_lt fun h => hb (.inr (.inr (.inr h)))
      have e1 : (decide (x.Kind ≠ 1) || (decide (x.Name = bs []) || (decide (x.Text ≠ bs []) || decide (64 < (x.Attrs.length : Int))))) = false := by
        simp [h1, h2, h3]; omega
      rw [e1, cond_false]
      obtain ⟨b, e2, e3⟩ := alone_loop x h4 n 0 [] (by omega) (by omega) (fun q => .inl ⟨rfl, fun j hj => by omega⟩)
      refine ⟨b, e2, ?_⟩
      rw [e3]
      simp [aloneP, h1, h2, h3, h4]
end Go.Proofs.Ytekcbgnkikmhpaa
