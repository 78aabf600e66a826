/-
  Walks and laws of this seat; the base is the text Base.
-/
import Derived.Test.YtekcbgnkikmhpaaPD
namespace Go.Proofs.Ytekcbgnkikmhpaa
open Go.RowKit Go.Sl
section
variable (ns : List api_Node)
def deepP : Prop := ∃ j, j < ns.length ∧ 256 < (row ns j).length
theorem depth_loop (hN : ns.length ≤ 4096) (hg : good ns (ns.length - 1)) : ∀ (k m : Nat) (ds : List Int), ns.length < k + m → m ≤ ns.length → ds.length = ns.length → (∀ j, j < m → ds[j]? = some ((row ns j).length : Int)) →
    (dom_Right_l2 ⟨ns⟩ k ds (m : Int) = some 5 ∧ ∃ j, m ≤ j ∧ j < ns.length ∧ 256 < (row ns j).length) ∨ (dom_Right_l2 ⟨ns⟩ k ds (m : Int) = some 0 ∧ ∀ j, m ≤ j → j < ns.length → (row ns j).length ≤ 256)
  | 0, m, ds, hk, hm, _, _ => by omega
  | k + 1, m, ds, hk, hm, hl, hd => by
    rw [dom_Right_l2]
    by_cases h : m < ns.length
    · rw [show decide ((m : Int) < (ns.length : Int)) = true from by simpa using h, cond_true]
      obtain ⟨z, hz⟩ : ∃ z, ds[m]? = some z := ⟨_, List.getElem?_eq_getElem (by omega)⟩
      simp only [geti_nat, nd_get ns h, hz, Option.bind_some]
      rw [seti_nat ds (by omega), Option.bind_some]
      have go : ∀ ds' : List Int, ds'.length = ns.length → (∀ j, j < m + 1 → ds'[j]? = some ((row ns j).length : Int)) →
          (dom_Right_k3 (m : Int) (dom_Right_l2 ⟨ns⟩ k) ds' = some 5 ∧ ∃ j, m ≤ j ∧ j < ns.length ∧ 256 < (row ns j).length) ∨ (dom_Right_k3 (m : Int) (dom_Right_l2 ⟨ns⟩ k) ds' = some 0 ∧ ∀ j, m ≤ j → j < ns.length → (row ns j).length ≤ 256) := fun ds' hl' hd' => by
        unfold dom_Right_k3
        rw [geti_nat, hd' m (by omega), Option.bind_some]
        by_cases h2 : 256 < (row ns m).length
        · left
          exact ⟨by rw [show decide ((256 : Int) < ((row ns m).length : Int)) = true from by simp; omega, cond_true], m, Nat.le_refl _, h, h2⟩
        · rw [show decide ((256 : Int) < ((row ns m).length : Int)) = false from by simp; omega, cond_false, w64_succ (by omega)]
          rcases depth_loop hN hg k (m + 1) ds' (by omega) (by omega) hl' hd' with ⟨e1, j, e2, e3, e4⟩ | ⟨e1, e2⟩
          · exact .inl ⟨e1, j, by omega, e3, e4⟩
          · refine .inr ⟨e1, fun j hj hj2 => ?_⟩
            rcases Nat.eq_or_lt_of_le hj with e | e
            · subst e; omega
            · exact e2 j e hj2
      by_cases h0 : m = 0
      · subst h0
        rw [show decide ((0 : Int) < ((0 : Nat) : Int)) = false from rfl, cond_false]
        refine go _ (by simpa using hl) fun j hj => ?_
        have : j = 0 := by omega
        subst this
        rw [List.getElem?_set_self (by omega)]; rfl
      · rw [show decide ((0 : Int) < (m : Int)) = true from by simp; omega, cond_true]
        obtain ⟨c, rfl⟩ : ∃ c, m = c + 1 := ⟨m - 1, by omega⟩
        obtain ⟨q, q1, q2, q3, q4⟩ := good.par ns (good.le ns hg (show c + 1 ≤ ns.length - 1 by omega))
        have hq1 : (nd ns (c + 1)).Parent = (q : Int) := q1
        rw [hq1, geti_nat, List.getElem?_set_ne (by omega), hd q (by omega), Option.bind_some, List.getElem?_set_self (by omega), Option.bind_some]
        rw [seti_nat _ (by simp; omega), Option.bind_some]
        have hrl := row_length ns q
        refine go _ (by simpa using hl) fun j hj => ?_
        by_cases hj2 : j = c + 1
        · subst hj2
          rw [List.getElem?_set_self (by simp; omega), q4, List.length_cons, w64_succ (by omega)]
        · rw [List.getElem?_set_ne (by omega), List.getElem?_set_ne (by omega)]
          exact hd j (by omega)
    · right
      rw [show decide ((m : Int) < (ns.length : Int)) = false from by simp; omega, cond_false]
      exact ⟨rfl, fun j h1 h2 => by omega⟩
theorem linkedP.good (h : linkedP ns) : ∀ i, i < ns.length → good ns i
  | 0, _ => h.1
  | i + 1, hi => ⟨linkedP.good h i (by omega), (h.2.2.2.2.2.1 (i + 1) (by omega) hi).2.1⟩
/-- What becomes of a tree's check. -/
def rightR (r : Int) : Prop := (ns.length = 0 ∧ r = 10) ∨ (4096 < ns.length ∧ r = 4) ∨ (0 < ns.length ∧ ns.length ≤ 4096 ∧ ((¬ linkedP ns ∧ r = 10) ∨ (linkedP ns ∧ deepP ns ∧ r = 5) ∨ (linkedP ns ∧ ¬ deepP ns ∧ r = 0)))
theorem rightR.uniq {r s : Int} (h : rightR ns r) (h2 : rightR ns s) : r = s := by
  unfold rightR at h h2
  rcases h with h | h | ⟨h, h', h''⟩ <;> rcases h2 with g | g | ⟨g, g', g''⟩ <;> try omega
  rcases h'' with ⟨a, b⟩ | ⟨a, b, c⟩ | ⟨a, b, c⟩ <;> rcases g'' with ⟨a', b'⟩ | ⟨a', b', c'⟩ | ⟨a', b', c'⟩ <;> first | omega | exact absurd ‹linkedP ns› ‹¬ linkedP ns› | exact absurd ‹deepP ns› ‹¬ deepP ns›
theorem dom_Right_eq {n : Nat} (hn : 5000 ≤ n) : ∃ r, dom_Right n ⟨ns⟩ = some r ∧ rightR ns r := by
  unfold dom_Right
  by_cases h0 : ns.length = 0
  · exact ⟨10, by rw [show decide (((⟨ns⟩ : api_Tree).Nodes.length : Int) = 0) = true from by simpa using h0]; rfl, .inl ⟨h0, rfl⟩⟩
  · rw [show decide (((⟨ns⟩ : api_Tree).Nodes.length : Int) = 0) = false from by simpa using h0, cond_false]
    by_cases h1 : 4096 < ns.length
    · exact ⟨4, by rw [show decide ((4096 : Int) < ((⟨ns⟩ : api_Tree).Nodes.length : Int)) = true from by simp; omega]; rfl, .inr (.inl ⟨h1, rfl⟩)⟩
    · rw [show decide ((4096 : Int) < ((⟨ns⟩ : api_Tree).Nodes.length : Int)) = false from by simp; omega, cond_false]
      obtain ⟨b, e1, e2⟩ := dom_linked_eq ns (by omega) (by omega) hn
      rw [e1, Option.bind_some]
      cases b with
      | false => exact ⟨10, rfl, .inr (.inr ⟨by omega, by omega, .inl ⟨fun hh => by simpa using e2.2 hh, rfl⟩⟩)⟩
      | true =>
        have hl := e2.1 rfl
        rw [show (!true) = false from rfl, cond_false, repM_eq (by show 8 * ns.length ≤ _ ∧ ns.length ≤ _; omega), Option.bind_some]
        rcases depth_loop ns (by omega) (linkedP.good ns hl _ (by omega)) n 0 (List.replicate ns.length 0) (by omega) (by omega) (by simp) (fun j hj => by omega) with ⟨g1, j, _, g3, g4⟩ | ⟨g1, g2⟩
        · exact ⟨5, g1, .inr (.inr ⟨by omega, by omega, .inr (.inl ⟨hl, ⟨j, g3, g4⟩, rfl⟩)⟩)⟩
        · exact ⟨0, g1, .inr (.inr ⟨by omega, by omega, .inr (.inr ⟨hl, fun ⟨j, h2, h3⟩ => by have := g2 j (by omega) h2; omega, rfl⟩)⟩)⟩
end
end Go.Proofs.Ytekcbgnkikmhpaa
