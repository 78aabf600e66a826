/-
  Walks and laws of this seat; the base is the text Base.
-/
import Derived.Test.YtekcbgnkikmhpaaPB
namespace Go.Proofs.Ytekcbgnkikmhpaa
open Go.RowKit Go.Sl

theorem mgetM_mputM {α : Type} (k q : ByteArray) (v : α) : ∀ m : List (ByteArray × α), mgetM (mputM m k v) q = if k = q then some v else mgetM m q
  | [] => by
    by_cases h : k = q <;> simp [mgetM, mputM, h]
  | p :: m => by
    have ih := mgetM_mputM k q v m
    unfold mputM
    by_cases h1 : p.1 = k
    · rw [if_pos h1]
      by_cases h2 : k = q <;> simp [mgetM, h1, h2]
    · rw [if_neg h1]
      by_cases h2 : p.1 = q
      · have : ¬ k = q := fun e => h1 (h2.trans e.symm)
        simp [mgetM, h2, this]
      · simp only [mgetM, List.find?_cons, h2, decide_false] at ih ⊢
        exact ih

/-- The attribute at a place has a name, unlike those ahead. -/
def attP (l : List api_Attr) (i : Nat) : Prop := ∀ a, l[i]? = some a → a.Name ≠ bs [] ∧ ∀ j, j < i → ∀ b, l[j]? = some b → b.Name ≠ a.Name

theorem alone_loop (x : api_Node) (hl : x.Attrs.length ≤ 64) : ∀ (k m : Nat) (M : List (ByteArray × Int)), x.Attrs.length < k + m → m ≤ x.Attrs.length →
    (∀ q, (mgetM M q).getD 0 = 0 ∧ (∀ j, j < m → ∀ b, x.Attrs[j]? = some b → b.Name ≠ q) ∨ (mgetM M q).getD 0 = 1 ∧ ∃ j, j < m ∧ ∃ b, x.Attrs[j]? = some b ∧ b.Name = q) →
    ∃ b, dom_alone_l2 x k M (m : Int) = some b ∧ (b = true ↔ ∀ i, m ≤ i → attP x.Attrs i)
  | 0, m, M, hk, hm, _ => by omega
  | k + 1, m, M, hk, hm, hM => by
    rw [dom_alone_l2]
    by_cases h : m < x.Attrs.length
    · obtain ⟨a, ha⟩ : ∃ a, x.Attrs[m]? = some a := ⟨_, List.getElem?_eq_getElem h⟩
      have e1 : decide ((m : Int) < (x.Attrs.length : Int)) = true := by simpa using h
      rw [e1, cond_true, geti_nat, ha, Option.bind_some]
      by_cases hn : a.Name = bs []
      · refine ⟨false, by simp [hn, dom_alone_k3], by simp; exact ⟨m, Nat.le_refl _, fun hh => (hh a ha).1 hn⟩⟩
      · rw [decide_eq_false hn, cond_false]
        rcases hM a.Name with ⟨h0, h1⟩ | ⟨h0, j, h1, b, h2, h3⟩
        · obtain ⟨b, e2, e3⟩ := alone_loop x hl k (m + 1) (mputM M a.Name (w64 (((mgetM M a.Name).getD 0) + 1))) (by omega) (by omega) (fun q => by
            rw [mgetM_mputM]
            by_cases hq : a.Name = q
            · right
              rw [if_pos hq]
              exact ⟨by simp [h0]; decide, m, by omega, a, ha, hq⟩
            · rw [if_neg hq]
              rcases hM q with ⟨g0, g1⟩ | ⟨g0, j, g1, b, g2, g3⟩
              · left
                refine ⟨g0, fun j hj b hb => ?_⟩
                rcases Nat.lt_or_ge j m with g2 | g2
                · exact g1 j g2 b hb
                · have : j = m := by omega
                  subst this
                  rw [ha] at hb; cases hb; exact hq
              · exact .inr ⟨g0, j, by omega, b, g2, g3⟩)
          refine ⟨b, ?_, ?_⟩
          · rw [show decide (0 < ((mgetM M a.Name).getD 0)) = false from by rw [h0]; rfl]
            unfold dom_alone_k3
            rw [cond_false, w64_succ (by omega)]
            exact e2
          · rw [e3]
            constructor
            · intro hh i hi
              rcases Nat.eq_or_lt_of_le hi with e | e
              · subst e
                intro a' ha'
                rw [ha] at ha'; cases ha'
                exact ⟨hn, h1⟩
              · exact hh i e
            · intro hh i hi
              exact hh i (by omega)
        · refine ⟨false, by rw [h0]; simp [dom_alone_k3], by simp; exact ⟨m, Nat.le_refl _, fun hh => (hh a ha).2 j h1 b h2 h3⟩⟩
    · have e1 : decide ((m : Int) < (x.Attrs.length : Int)) = false := by simp; omega
      rw [e1, cond_false]
      refine ⟨true, rfl, by simp; intro i hi a ha; have := (List.getElem?_eq_some_iff.1 ha).1; omega⟩

def aloneP (x : api_Node) : Prop := (x.Kind = 2 ∧ x.Name = bs [] ∧ x.Text ≠ bs [] ∧ x.Attrs.length = 0 ∧ x.First = -1 ∧ x.Last = -1) ∨ (x.Kind = 1 ∧ x.Name ≠ bs [] ∧ x.Text = bs [] ∧ x.Attrs.length ≤ 64 ∧ ∀ i, attP x.Attrs i)

theorem dom_alone_eq (x : api_Node) {n : Nat} (hn : 66 ≤ n) : ∃ b, dom_alone n x = some b ∧ (b = true ↔ aloneP x) := by
  unfold dom_alone
  by_cases hk : x.Kind = 2
  · refine ⟨_, by rw [decide_eq_true hk, cond_true], ?_⟩
    simp only [aloneP, hk, Bool.and_eq_true, decide_eq_true_eq]
    simp
  · rw [decide_eq_false hk, cond_false]
    by_cases hb : x.Kind ≠ 1 ∨ x.Name = bs [] ∨ x.Text ≠ bs [] ∨ 64 < x.Attrs.length
    · refine ⟨false, ?_, ?_⟩
      · rw [show (decide (x.Kind ≠ 1) || (decide (x.Name = bs []) || (decide (x.Text ≠ bs []) || decide (64 < (x.Attrs.length : Int))))) = true from ?_, cond_true]
        simp only [Bool.or_eq_true, decide_eq_true_eq]
        rcases hb with h | h | h | h
        · exact .inl h
        · exact .inr (.inl h)
        · exact .inr (.inr (.inl h))
        · exact .inr (.inr (.inr (by omega)))
      · simp only [aloneP, hk, false_and, false_or, Bool.false_eq_true, false_iff]
        rintro ⟨h1, h2, h3, h4, _⟩
        rcases hb with h | h | h | h
        · exact h h1
        · exact h2 h
        · exact h h3
        · omega
    · have h1 : x.Kind = 1 := Decidable.byContradiction fun h => hb (.inl h)
      have h2 : x.Name ≠ bs [] := fun h => hb (.inr (.inl h))
      have h3 : x.Text = bs [] := Decidable.byContradiction fun h => hb (.inr (.inr (.inl h)))
      have h4 : x.Attrs.length ≤ 64 := Nat.le_of_not_lt fun h => hb (.inr (.inr (.inr h)))
      have e1 : (decide (x.Kind ≠ 1) || (decide (x.Name = bs []) || (decide (x.Text ≠ bs []) || decide (64 < (x.Attrs.length : Int))))) = false := by
        simp [h1, h2, h3]; omega
      rw [e1, cond_false]
      obtain ⟨b, e2, e3⟩ := alone_loop x h4 n 0 [] (by omega) (by omega) (fun q => .inl ⟨rfl, fun j hj => by omega⟩)
      refine ⟨b, e2, ?_⟩
      rw [e3]
      simp [aloneP, h1, h2, h3, h4]

theorem attrs_inner (l : List api_Attr) (m : Nat) (a : api_Attr) (ha : l[m]? = some a) (lp : Int → Option Bool) (hm : m ≤ 9223372036854775806) : ∀ (k j : Nat), m < k + j → j ≤ m →
    ((∃ i, j ≤ i ∧ i < m ∧ ∃ b, l[i]? = some b ∧ b.Name = a.Name) ∧ ref5_attrs_l4 l (m : Int) lp k (j : Int) = some false) ∨
    ((∀ i, j ≤ i → i < m → ∀ b, l[i]? = some b → b.Name ≠ a.Name) ∧ ref5_attrs_l4 l (m : Int) lp k (j : Int) = lp ((m + 1 : Nat) : Int))
  | 0, j, hk, hj => by omega
  | k + 1, j, hk, hj => by
    have hlm := (List.getElem?_eq_some_iff.1 ha).1
    rw [ref5_attrs_l4]
    by_cases h : j < m
    · obtain ⟨b, hb⟩ : ∃ b, l[j]? = some b := ⟨_, List.getElem?_eq_getElem (by omega)⟩
      rw [show decide ((j : Int) < (m : Int)) = true from by simpa using h, cond_true, geti_nat, hb, Option.bind_some, geti_nat, ha, Option.bind_some]
      by_cases hn : b.Name = a.Name
      · left
        exact ⟨⟨j, Nat.le_refl _, h, b, hb, hn⟩, by rw [decide_eq_true hn, cond_true]⟩
      · rw [decide_eq_false hn, cond_false, w64_succ (by omega)]
        rcases attrs_inner l m a ha lp hm k (j + 1) (by omega) (by omega) with ⟨⟨i, h1, h2⟩, h3⟩ | ⟨h1, h2⟩
        · exact .inl ⟨⟨i, by omega, h2⟩, h3⟩
        · refine .inr ⟨fun i hi hi2 c hc => ?_, h2⟩
          rcases Nat.eq_or_lt_of_le hi with e | e
          · subst e; rw [hb] at hc; cases hc; exact hn
          · exact h1 i e hi2 c hc
    · right
      rw [show decide ((j : Int) < (m : Int)) = false from by simp; omega, cond_false]
      refine ⟨fun i h1 h2 => by omega, ?_⟩
      unfold ref5_attrs_k3
      rw [w64_succ hm]

theorem attrs_loop (n : Nat) (l : List api_Attr) (hn : l.length < n) (hl : l.length ≤ 9223372036854775806) : ∀ (k m : Nat), l.length < k + m → m ≤ l.length →
    ∃ b, ref5_attrs_l2 n l k (m : Int) = some b ∧ (b = true ↔ (∀ i, m ≤ i → attP l i) ∧ l.length ≤ 64)
  | 0, m, hk, hm => by omega
  | k + 1, m, hk, hm => by
    rw [ref5_attrs_l2]
    by_cases h : m < l.length
    · obtain ⟨a, ha⟩ : ∃ a, l[m]? = some a := ⟨_, List.getElem?_eq_getElem h⟩
      rw [show decide ((m : Int) < (l.length : Int)) = true from by simpa using h, cond_true, geti_nat, ha, Option.bind_some]
      by_cases hn2 : a.Name = bs []
      · refine ⟨false, by rw [decide_eq_true hn2, cond_true], ?_⟩
        simp only [Bool.false_eq_true, false_iff]
        rintro ⟨hh, _⟩
        exact (hh m (Nat.le_refl _) a ha).1 hn2
      · rw [decide_eq_false hn2, cond_false]
        rcases attrs_inner l m a ha (ref5_attrs_l2 n l k) (by omega) n 0 (by omega) (by omega) with ⟨⟨i, _, h2, b, h3, h4⟩, h5⟩ | ⟨h1, h2⟩
        · refine ⟨false, h5, ?_⟩
          simp only [Bool.false_eq_true, false_iff]
          rintro ⟨hh, _⟩
          exact (hh m (Nat.le_refl _) a ha).2 i h2 b h3 h4
        · obtain ⟨b, e1, e2⟩ := attrs_loop n l hn hl k (m + 1) (by omega) (by omega)
          refine ⟨b, (by have := h2; simp only [Int.ofNat_zero] at this; rw [← e1]; exact this), ?_⟩
          rw [e2]
          constructor
          · rintro ⟨hh, hl⟩
            refine ⟨fun i hi => ?_, hl⟩
            rcases Nat.eq_or_lt_of_le hi with e | e
            · subst e
              intro a' ha'
              rw [ha] at ha'; cases ha'
              exact ⟨hn2, fun j hj b hb => h1 j (by omega) hj b hb⟩
            · exact hh i e
          · rintro ⟨hh, hl⟩
            exact ⟨fun i hi => hh i (by omega), hl⟩
    · rw [show decide ((m : Int) < (l.length : Int)) = false from by simp; omega, cond_false]
      refine ⟨_, rfl, ?_⟩
      simp only [decide_eq_true_eq]
      constructor
      · intro h1
        exact ⟨fun i hi a ha => by have := (List.getElem?_eq_some_iff.1 ha).1; omega, by omega⟩
      · rintro ⟨_, h1⟩; omega

theorem ref5_plain_eq (x : api_Node) {n : Nat} (hn : x.Attrs.length < n) (hl : x.Attrs.length ≤ 9223372036854775806) : ∃ b, ref5_plain n x = some b ∧ (b = true ↔ aloneP x) := by
  unfold ref5_plain
  by_cases hk : x.Kind = 1
  · rw [decide_eq_true hk, cond_true]
    by_cases h2 : x.Name = bs []
    · exact ⟨false, by simp [h2, ref5_plain_k1], by simp [aloneP, hk, h2]⟩
    · rw [decide_eq_true h2, cond_true]
      by_cases h3 : x.Text = bs []
      · rw [decide_eq_true h3, cond_true]
        obtain ⟨b, e1, e2⟩ := attrs_loop n x.Attrs hn hl n 0 (by omega) (by omega)
        refine ⟨b, by unfold ref5_attrs; rw [show (0 : Int) = ((0 : Nat) : Int) from rfl, e1]; rfl, ?_⟩
        rw [e2]
        simp [aloneP, hk, h2, h3, and_comm]
      · exact ⟨false, by simp [h3, ref5_plain_k1], by simp [aloneP, hk, h3]⟩
  · rw [decide_eq_false hk, cond_false]
    refine ⟨_, rfl, ?_⟩
    simp only [aloneP, hk, false_and, or_false, Bool.and_eq_true, decide_eq_true_eq]
    simp
end Go.Proofs.Ytekcbgnkikmhpaa
