/-
  Walks and laws of this seat; the base is the text Base.
-/
import Derived.Test.YtekcbgnkikmhpaaPG
namespace Go.Proofs.Ytekcbgnkikmhpaa
open Go.RowKit Go.Sl

/-! Trees that are the same; copies -/
theorem sameAttr_loop (l : List api_Attr) (hl : l.length ≤ 9223372036854775806) : ∀ (k m : Nat), l.length < k + m → m ≤ l.length → book_Same_api_Attr_l2 l l k (m : Int) = some true
  | 0, m, hk, hm => by omega
  | k + 1, m, hk, hm => by
    rw [book_Same_api_Attr_l2]
    by_cases h : m < l.length
    · obtain ⟨a, ha⟩ : ∃ a, l[m]? = some a := ⟨_, List.getElem?_eq_getElem h⟩
      rw [show decide ((m : Int) < (l.length : Int)) = true from by simpa using h, cond_true, geti_nat, ha, Option.bind_some, Option.bind_some]
      simp only [decide_true, Bool.and_self, Bool.not_true, cond_false]
      rw [w64_succ (by omega)]
      exact sameAttr_loop l hl k (m + 1) (by omega) (by omega)
    · rw [show decide ((m : Int) < (l.length : Int)) = false from by simp; omega]
      rfl
theorem sameAttr_refl (l : List api_Attr) {n : Nat} (hn : l.length < n) (hl : l.length ≤ 9223372036854775806) : book_Same_api_Attr n l l = some true := by
  unfold book_Same_api_Attr
  rw [show decide ((l.length : Int) ≠ (l.length : Int)) = false from decide_eq_false (not_not_intro rfl), cond_false]
  exact sameAttr_loop l hl n 0 (by omega) (by omega)
theorem sameNode_refl (x : api_Node) {n : Nat} (hn : x.Attrs.length < n) (hl : x.Attrs.length ≤ 9223372036854775806) : keep_SameNode n x x = some true := by
  unfold keep_SameNode keep_SameNode_k1
  simp only [decide_true, cond_true, sameAttr_refl x.Attrs hn hl, Option.bind_some]
theorem sameTree_refl (ns : List api_Node) {n : Nat} (hn : ns.length < n) (hN : ns.length ≤ 9223372036854775806) (hA : ∀ j, j < ns.length → (nd ns j).Attrs.length < n ∧ (nd ns j).Attrs.length ≤ 9223372036854775806) : keep_SameTree n ⟨ns⟩ ⟨ns⟩ = some true := by
  have loop : ∀ (k m : Nat), ns.length < k + m → m ≤ ns.length → keep_SameTree_l2 n ⟨ns⟩ ⟨ns⟩ k (m : Int) = some true := by
    intro k
    induction k with
    | zero => intro m hk hm; omega
    | succ k ih =>
      intro m hk hm
      rw [keep_SameTree_l2]
      by_cases h : m < ns.length
      · rw [show decide ((m : Int) < ((⟨ns⟩ : api_Tree).Nodes.length : Int)) = true from by simpa using h, cond_true]
        simp only [geti_nat, nd_get ns h, Option.bind_some]
        rw [sameNode_refl _ (hA m h).1 (hA m h).2, Option.bind_some, show (!true) = false from rfl, cond_false, w64_succ (by omega)]
        exact ih (m + 1) (by omega) (by omega)
      · rw [show decide ((m : Int) < ((⟨ns⟩ : api_Tree).Nodes.length : Int)) = false from by simp; omega]
        rfl
  unfold keep_SameTree
  rw [show decide (((⟨ns⟩ : api_Tree).Nodes.length : Int) ≠ ((⟨ns⟩ : api_Tree).Nodes.length : Int)) = false from decide_eq_false (not_not_intro rfl), cond_false]
  exact loop n 0 (by omega) (by omega)

theorem copy_eq (ns : List api_Node) {n : Nat} (hn : ns.length < n) (hN : ns.length * 104 ≤ 140737488355327) (hA : ∀ j, j < ns.length → (nd ns j).Attrs.length * 32 ≤ 140737488355327) : keep_Copy n ⟨ns⟩ = some ⟨ns⟩ := by
  have loop : ∀ (k m : Nat) (l : List api_Node), ns.length < k + m → m ≤ ns.length → l.length = ns.length → (∀ j, j < m → l[j]? = ns[j]?) → keep_Copy_l2 ⟨ns⟩ k l (m : Int) = some ⟨ns⟩ := by
    intro k
    induction k with
    | zero => intro m l hk hm; omega
    | succ k ih =>
      intro m l hk hm hl hj
      rw [keep_Copy_l2]
      by_cases h : m < ns.length
      · rw [show decide ((m : Int) < ((⟨ns⟩ : api_Tree).Nodes.length : Int)) = true from by simpa using h, cond_true]
        obtain ⟨z, hz⟩ : ∃ z, l[m]? = some z := ⟨_, List.getElem?_eq_getElem (by omega)⟩
        have hat := hA m h
        simp only [geti_nat, nd_get ns h, hz, Option.bind_some]
        rw [seti_nat _ (by omega), Option.bind_some, appM_eq (by simp only [List.length_nil, Nat.zero_add]; omega), Option.bind_some, List.nil_append]
        rw [List.getElem?_set_self (by omega), Option.bind_some, seti_nat _ (by simp; omega), Option.bind_some, w64_succ (by omega)]
        refine ih (m + 1) _ (by omega) (by omega) (by simpa using hl) fun j hj2 => ?_
        by_cases e : m = j
        · subst e
          rw [List.getElem?_set_self (by simp; omega), nd_get ns h]
        · rw [List.getElem?_set_ne e, List.getElem?_set_ne e]
          exact hj j (by omega)
      · rw [show decide ((m : Int) < ((⟨ns⟩ : api_Tree).Nodes.length : Int)) = false from by simp; omega, cond_false]
        unfold keep_Copy_k1
        congr 2
        apply List.ext_getElem?
        intro j
        by_cases hjn : j < ns.length
        · exact hj j (by omega)
        · rw [List.getElem?_eq_none (by omega), List.getElem?_eq_none (by omega)]
  unfold keep_Copy
  rw [repM_eq (by show 104 * ns.length ≤ _ ∧ ns.length ≤ _; omega), Option.bind_some]
  exact loop n 0 _ (by omega) (by omega) (by simp) (fun j hj => by omega)

theorem known_true (k : Nat) : law5_known (k + 20) = some true := by kernel_rfl

theorem nd_mem (ns : List api_Node) {j : Nat} (h : j < ns.length) : nd ns j ∈ ns := by
  have := nd_get ns h
  exact List.mem_of_getElem? this

/-- The sizes that the tree's own memory allows. -/
theorem tree_sizes {t : api_Tree} (h : S_api_Tree t) : t.Nodes.length * 104 ≤ 140737488355327 ∧ ∀ j, j < t.Nodes.length → (nd t.Nodes j).Attrs.length * 32 ≤ 140737488355327 := by
  unfold S_api_Tree Ssl at h
  refine ⟨by have := h.1; simp only [reachBytes] at this; omega, fun j hj => ?_⟩
  have := h.2 _ (nd_mem t.Nodes hj)
  unfold S_api_Node Ssl at this
  have := this.2.2.2.1.1
  simp only [reachBytes] at this
  omega

/-- Enough steps for a tree. -/
def fuelOf (ns : List api_Node) : Nat := 6000 + ns.length + (ns.map fun x => x.Attrs.length + 1).sum
theorem fuelOf_nodes (ns : List api_Node) : 5000 ≤ fuelOf ns ∧ ns.length < fuelOf ns := by unfold fuelOf; omega
theorem fuelOf_attrs (ns : List api_Node) {j : Nat} (h : j < ns.length) : (nd ns j).Attrs.length < fuelOf ns := by
  have hm : (nd ns j).Attrs.length + 1 ∈ ns.map fun x => x.Attrs.length + 1 := List.mem_map.2 ⟨_, nd_mem ns h, rfl⟩
  have : ∀ (l : List Nat) (a : Nat), a ∈ l → a ≤ l.sum := by
    intro l
    induction l with
    | nil => intro a ha; simp at ha
    | cons b l ih =>
      intro a ha
      simp only [List.sum_cons]
      rcases List.mem_cons.1 ha with rfl | ha
      · omega
      · have := ih a ha; omega
  have := this _ _ hm
  unfold fuelOf
  omega

theorem law5_DomRight_true {t : api_Tree} (h : S_api_Tree t) : ∃ n, law5_DomRight n t = some true := by
  obtain ⟨ns⟩ := t
  obtain ⟨h1, h2⟩ := tree_sizes h
  refine ⟨fuelOf ns, ?_⟩
  have hf := fuelOf_nodes ns
  obtain ⟨k, hk⟩ : ∃ k, fuelOf ns = k + 20 := ⟨fuelOf ns - 20, by omega⟩
  have hkn : law5_known (fuelOf ns) = some true := by rw [hk]; exact known_true k
  have hA : ∀ j, j < ns.length → (nd ns j).Attrs.length < fuelOf ns ∧ (nd ns j).Attrs.length ≤ 9223372036854775806 := fun j hj => ⟨fuelOf_attrs ns hj, by have := h2 j hj; simp only at this; omega⟩
  unfold law5_DomRight
  cases hb : (decide (500 < ((⟨ns⟩ : api_Tree).Nodes.length : Int)) && decide (((⟨ns⟩ : api_Tree).Nodes.length : Int) ≤ 4096)) with
  | true => rw [cond_true, hkn]; rfl
  | false =>
    obtain ⟨r, e1, e2⟩ := dom_Right_eq ns (n := fuelOf ns) hf.1
    obtain ⟨s, g1, g2⟩ := ref5_Right_eq ns (n := fuelOf ns) hf.1 hA
    have := rightR.uniq ns e2 g2
    subst this
    rw [cond_false, copy_eq ns hf.2 h1 h2, Option.bind_some, e1, Option.bind_some, g1, Option.bind_some, decide_eq_true rfl, cond_true, sameTree_refl ns hf.2 (by simp only at h1; omega) hA, Option.bind_some, cond_true, hkn]
    rfl
end Go.Proofs.Ytekcbgnkikmhpaa
