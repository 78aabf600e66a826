/-
  Walks and laws of this seat; the base is the text Base.
-/
import Derived.Test.YtekcbgnkikmhpaaPL
namespace Go.Proofs.Ytekcbgnkikmhpaa
open Go.RowKit Go.Sl
theorem clean_eq : ∀ (s : Nat) (p : dom_Part) (n : Nat), psize p ≤ s → s ≤ 4096 → s + 2 ≤ n → law5_clean n p = some (cleanP p) := by
  intro s
  induction s with
  | zero => intro p n h; have := psize_eq p; omega
  | succ s ih =>
    intro p n h hs hn
    obtain ⟨m, rfl⟩ : ∃ m, n = m + 1 := ⟨n - 1, by omega⟩
    have hp := psize_eq p
    have hlen := pssize_len p.Kids
    rw [law5_clean]
    unfold law5_clean_b
    by_cases hname : p.Name = bs []
    · rw [decide_eq_true hname, cond_true, cleanP_text hname]
    · rw [decide_eq_false hname, cond_false]
      have loop : ∀ (k i : Nat), p.Kids.length < k + i → i ≤ p.Kids.length → law5_clean_l2 p (law5_clean m) k ((p.Kids.take i).map cleanP) (i : Int) = some (cleanP p) := by
        intro k
        induction k with
        | zero => intro i h1 h2; omega
        | succ k ihk =>
          intro i h1 h2
          rw [law5_clean_l2]
          by_cases hi : i < p.Kids.length
          · obtain ⟨q, hq⟩ : ∃ q, p.Kids[i]? = some q := ⟨_, List.getElem?_eq_getElem hi⟩
            have hqs := pssize_mem (List.mem_of_getElem? hq)
            rw [show decide ((i : Int) < (p.Kids.length : Int)) = true from by simpa using hi, cond_true, geti_nat, hq, Option.bind_some, ih q m (by omega) (by omega) (by omega), Option.bind_some]
            rw [appM_eq (by simp only [List.length_map, List.length_take, List.length_singleton]; omega), Option.bind_some, w64_succ (by omega)]
            have := ihk (i + 1) (by omega) (by omega)
            rw [List.take_add_one, hq] at this
            simpa using this
          · rw [show decide ((i : Int) < (p.Kids.length : Int)) = false from by simp; omega, cond_false]
            have : i = p.Kids.length := by omega
            subst this
            rw [List.take_length]
            unfold law5_clean_k1
            rw [cleanP_elem hname]
      exact loop m 0 (by omega) (by omega)
theorem same_refl : ∀ (s : Nat) (p : dom_Part) (n : Nat), psize p ≤ s → s ≤ 4096 → s + 4500000000000 ≤ n → okP p → law5_same n p p = some true := by
  intro s
  induction s with
  | zero => intro p n h; have := psize_eq p; omega
  | succ s ih =>
    intro p n h hs hn hok
    obtain ⟨m, rfl⟩ : ∃ m, n = m + 1 := ⟨n - 1, by omega⟩
    have hp := psize_eq p
    have hlen := pssize_len p.Kids
    rw [okP_eq] at hok
    have hre : reachBytes = 140737488351232 := rfl
    rw [law5_same]
    unfold law5_same_b
    rw [show decide (p.Name ≠ p.Name) = false from decide_eq_false (not_not_intro rfl), cond_false, show decide (p.Text ≠ p.Text) = false from decide_eq_false (not_not_intro rfl), cond_false]
    rw [sameAttr_refl p.Attrs (by omega) (by omega), Option.bind_some, show (!true) = false from rfl, cond_false, show decide ((p.Kids.length : Int) ≠ (p.Kids.length : Int)) = false from decide_eq_false (not_not_intro rfl)]
    unfold law5_same_k1
    rw [cond_false]
    have loop : ∀ (k i : Nat), p.Kids.length < k + i → i ≤ p.Kids.length → law5_same_l3 p p (law5_same m) k (i : Int) = some true := by
      intro k
      induction k with
      | zero => intro i h1 h2; omega
      | succ k ihk =>
        intro i h1 h2
        rw [law5_same_l3]
        by_cases hi : i < p.Kids.length
        · obtain ⟨q, hq⟩ : ∃ q, p.Kids[i]? = some q := ⟨_, List.getElem?_eq_getElem hi⟩
          have hqm := List.mem_of_getElem? hq
          have hqs := pssize_mem hqm
          rw [show decide ((i : Int) < (p.Kids.length : Int)) = true from by simpa using hi, cond_true, geti_nat, hq, Option.bind_some, Option.bind_some, ih q m (by omega) (by omega) (by omega) (okPs_mem hok.2 hqm), Option.bind_some, show (!true) = false from rfl, cond_false, w64_succ (by omega)]
          exact ihk (i + 1) (by omega) (by omega)
        · rw [show decide ((i : Int) < (p.Kids.length : Int)) = false from by simp; omega, cond_false]
          rfl
    exact loop m 0 (by omega) (by omega)
/-- What a part becomes, told at once. -/
theorem make_eq {p : dom_Part} {F : Nat} (hF : 5000000000000 ≤ F) (hS : okP p) (hsz : psize p ≤ 2000) : ∃ r, rightR (lay p 0 (-1) (-1) (-1)) r ∧
    dom_Make F p = (if r = 0 then some (⟨lay p 0 (-1) (-1) (-1)⟩, 0) else some (⟨[]⟩, r)) := by
  have g := make_lay (psize p) p F [] (-1) (-1) (Nat.le_refl _) (by omega) hS (by simp; omega)
  rw [List.nil_append, List.length_nil] at g
  obtain ⟨r, a1, a2⟩ := dom_Right_eq (lay p 0 (-1) (-1) (-1)) (n := F) (by omega)
  refine ⟨r, a2, ?_⟩
  unfold dom_Make
  rw [show dom_Make_1 F p (-1) (-1) ({Nodes := ([] : List api_Node)} : api_Tree) = _ from g, Option.bind_some, a1, Option.bind_some]
  by_cases h : r = 0
  · subst h; rfl
  · rw [show decide (r ≠ 0) = true from decide_eq_true h, cond_true, if_neg h]
end Go.Proofs.Ytekcbgnkikmhpaa
