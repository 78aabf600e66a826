/-
  Walks and laws of this seat; the base is the text Base.
-/
import Derived.Test.YtekcbgnkikmhpaaPG
namespace Go.Proofs.Ytekcbgnkikmhpaa
open Go.RowKit Go.Sl
/-! Trees that are the same; copies -/
theorem sameAttr_loop (l : List api_Attr) (hl : l.length ≤ 9223372036854775806) : ∀ (k m : Nat), l.length < k + m → m ≤ l.length → book_Same_api_Attr_l2 l l k (m : Int) = some true
  | 0, m, hk, hm => by omega
  | k + 1, m, hk, hm => by
    rw [book_Same_api_Attr_l2]
    by_cases h : m < l.length
    · obtain ⟨a, ha⟩ : ∃ a, l[m]? = some a := ⟨_, List.getElem?_eq_getElem h⟩
      rw [show decide ((m : Int) < (l.length : Int)) = true from by simpa using h, cond_true, geti_nat, ha, Option.bind_some, Option.bind_some]
      simp only [decide_true, Bool.and_self, Bool.not_true, cond_false]
      rw [w64_succ (by omega)]
      exact sameAttr_loop l hl k (m + 1) (by omega) (by omega)
    · rw [show decide ((m : Int) < (l.length : Int)) = false from by simp; omega]
      rfl
theorem sameAttr_refl (l : List api_Attr) {n : Nat} (hn : l.length < n) (hl : l.length ≤ 9223372036854775806) : book_Same_api_Attr n l l = some true := by
  unfold book_Same_api_Attr
  rw [show decide ((l.length : Int) ≠ (l.length : Int)) = false from decide_eq_false (not_not_intro rfl), cond_false]
  exact sameAttr_loop l hl n 0 (by omega) (by omega)
theorem sameNode_refl (x : api_Node) {n : Nat} (hn : x.Attrs.length < n) (hl : x.Attrs.length ≤ 9223372036854775806) : keep_SameNode n x x = some true := by
  unfold keep_SameNode keep_SameNode_k1
  simp only [decide_true, cond_true, sameAttr_refl x.Attrs hn hl, Option.bind_some]
theorem sameTree_refl (ns : List api_Node) {n : Nat} (hn : ns.length < n) (hN : ns.length ≤ 9223372036854775806) (hA : ∀ j, j < ns.length → (nd ns j).Attrs.length < n ∧ (nd ns j).Attrs.length ≤ 9223372036854775806) : keep_SameTree n ⟨ns⟩ ⟨ns⟩ = some true := by
  have loop : ∀ (k m : Nat), ns.length < k + m → m ≤ ns.length → keep_SameTree_l2 n ⟨ns⟩ ⟨ns⟩ k (m : Int) = some true := by
    intro k
    induction k with
    | zero => intro m hk hm; omega
    | succ k ih =>
      intro m hk hm
      rw [keep_SameTree_l2]
      by_cases h : m < ns.length
      · rw [show decide ((m : Int) < ((⟨ns⟩ : api_Tree).Nodes.length : Int)) = true from by simpa using h, cond_true]
        simp only [geti_nat, nd_get ns h, Option.bind_some]
        rw [sameNode_refl _ (hA m h).1 (hA m h).2, Option.bind_some, show (!true) = false from rfl, cond_false, w64_succ (by omega)]
        exact ih (m + 1) (by omega) (by omega)
      · rw [show decide ((m : Int) < ((⟨ns⟩ : api_Tree).Nodes.length : Int)) = false from by simp; omega]
        rfl
  unfold keep_SameTree
  rw [show decide (((⟨ns⟩ : api_Tree).Nodes.length : Int) ≠ ((⟨ns⟩ : api_Tree).Nodes.length : Int)) = false from decide_eq_false (not_not_intro rfl), cond_false]
  exact loop n 0 (by omega) (by omega)
theorem copy_eq (ns : List api_Node) {n : Nat} (hn : ns.length < n) (hN : ns.length * 104 ≤ 140737488355327) (hA : ∀ j, j < ns.length → (nd ns j).Attrs.length * 32 ≤ 140737488355327) : keep_Copy n ⟨ns⟩ = some ⟨ns⟩ := by
  have loop : ∀ (k m : Nat) (l : List api_Node), ns.length < k + m → m ≤ ns.length → l.length = ns.length → (∀ j, j < m → l[j]? = ns[j]?) → keep_Copy_l2 ⟨ns⟩ k l (m : Int) = some ⟨ns⟩ := by
    intro k
    induction k with
    | zero => intro m l hk hm; omega
    | succ k ih =>
      intro m l hk hm hl hj
      rw [keep_Copy_l2]
      by_cases h : m < ns.length
      · rw [show decide ((m : Int) < ((⟨ns⟩ : api_Tree).Nodes.length : Int)) = true from by simpa using h, cond_true]
        obtain ⟨z, hz⟩ : ∃ z, l[m]? = some z := ⟨_, List.getElem?_eq_getElem (by omega)⟩
        have hat := hA m h
        simp only [geti_nat, nd_get ns h, hz, Option.bind_some]
        rw [seti_nat _ (by omega), Option.bind_some, appM_eq (by simp only [List.length_nil, Nat.zero_add]; omega), Option.bind_some, List.nil_append]
        rw [List.getElem?_set_self (by omega), Option.bind_some, seti_nat _ (by simp; omega), Option.bind_some, w64_succ (by omega)]
        refine ih (m + 1) _ (by omega) (by omega) (by simpa using hl) fun j hj2 => ?_
        by_cases e : m = j
        · subst e
          rw [List.getElem?_set_self (by simp; omega), nd_get ns h]
        · rw [List.getElem?_set_ne e, List.getElem?_set_ne e]
          exact hj j (by omega)
      · rw [show decide ((m : Int) < ((⟨ns⟩ : api_Tree).Nodes.length : Int)) = false from by simp; omega, cond_false]
        unfold keep_Copy_k1
        congr 2
        apply List.ext_getElem?
        intro j
        by_cases hjn : j < ns.length
        · exact hj j (by omega)
        · rw [List.getElem?_eq_none (by omega), List.getElem?_eq_none (by omega)]
  unfold keep_Copy
  rw [repM_eq (by show 104 * ns.length ≤ _ ∧ ns.length ≤ _; omega), Option.bind_some]
  exact loop n 0 _ (by omega) (by omega) (by simp) (fun j hj => by omega)
theorem known_true (k : Nat) : law5_known (k + 20) = some true := by kernel_rfl
end Go.Proofs.Ytekcbgnkikmhpaa
