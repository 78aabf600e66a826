/-
  Walks and laws of this seat; the base is the text Base.
-/
import Derived.Test.YtklcdfnhdljkjaaDoorP7R
namespace Go.Proofs.YtklcdfnhdljkjaaDoor
open Go.RowKit Go.Sl
/-! # What Canonical says of a right tree -/
section
variable {ns : List api_Node} {n : Nat}
/-- What of a right tree is wanted here. -/
structure RT (ns : List api_Node) : Prop where
  pos : 0 < ns.length
  small : ns.length ≤ 4096
  linked : linkedP ns
theorem RT.good (h : RT ns) {i : Nat} (hi : i < ns.length) : good ns i := linkedP.good ns h.linked i hi
theorem RT.parq (h : RT ns) {j : Nat} (h1 : 1 ≤ j) (hj : j < ns.length) : ∃ q : Nat, par ns j = q ∧ q < j ∧ (nd ns q).Kind = 1 ∧ row ns j = (j : Int) :: row ns q := by
  obtain ⟨i, rfl⟩ : ∃ i, j = i + 1 := ⟨j - 1, by omega⟩
  obtain ⟨q, h1, h2, h3, h4⟩ := good.par ns (h.good hj)
  exact ⟨q, h1, by omega, h3, h4⟩
theorem RT.ref (h : RT ns) : ∀ m, m < ns.length → refP ns m := ((linked_iff ns h.pos).1 h.linked).2.2.2.2.2.2
theorem RT.prev (h : RT ns) {m : Nat} (hm : m < ns.length) : (nd ns m).Prev = -1 ∨ ∃ c : Nat, (nd ns m).Prev = c ∧ c < m := by
  rw [(h.ref m hm).2.2.1]
  split
  · exact .inl rfl
  · rename_i h0
    unfold prevc
    rcases lastc_le ns (m - 1) (par ns m) with e | ⟨d, d1, d2, d3, d4⟩
    · exact .inl e
    · exact .inr ⟨d, d1, by omega⟩
theorem RT.alone (h : RT ns) {j : Nat} (hj : j < ns.length) : aloneP (nd ns j) := by
  obtain ⟨_, _, _, _, h5, h6, _⟩ := h.linked
  by_cases h0 : j = 0
  · subst h0; exact h5
  · exact (h6 j (by omega) hj).1
/-- Does a paragraph stand at or above a node? -/
def pf (ns : List api_Node) (j : Nat) : Bool := (row ns j).any fun a => decide (a ≠ 0) && decide ((nd ns a.toNat).Name = bs [112])
theorem pf_zero : pf ns 0 = false := rfl
theorem RT.pf (h : RT ns) {j q : Nat} (h1 : 1 ≤ j) (hj : j < ns.length) (hq : par ns j = q) : pf ns j = (pf ns q || decide ((nd ns j).Name = bs [112])) := by
  obtain ⟨q', e1, e2, e3, e4⟩ := h.parq h1 hj
  obtain rfl : q = q' := by omega
  unfold Proofs.YtklcdfnhdljkjaaDoor.pf
  rw [e4, List.any_cons, Bool.or_comm, Int.toNat_natCast, dT (show ((j : Nat) : Int) ≠ 0 by omega), Bool.true_and]
/-- What is asked of the node j. -/
def NB (n : Nat) (ns : List api_Node) (j : Nat) : Bool := nodeB n (nd ns j) (nd ns (par ns j).toNat) (pf ns (par ns j).toNat) (decide ((nd ns (nd ns j).Prev.toNat).Kind = 2))
def okN (n : Nat) (ns : List api_Node) : Prop := ∀ j, j < ns.length → (nd ns j).Attrs.length ≤ 64 ∧ (∀ a ∈ (nd ns j).Attrs, szAt n a) ∧ (nd ns j).Text.size ≤ 9223372036854775807
theorem can_loop (h : RT ns) (hn : 5000 ≤ n) (hok : okN n ns) : ∀ (k i : Nat) (F : List Bool), ns.length < k + i → 1 ≤ i → i ≤ ns.length → F.length = ns.length → (∀ j, j < i → F[j]? = some (pf ns j)) →
    ∃ b, write_Canonical_l3 n ⟨ns⟩ k F (i : Int) = some b ∧ (b = true ↔ ∀ j, i ≤ j → j < ns.length → NB n ns j = true)
  | 0, i, F, hk, _, hi, _, _ => by omega
  | k + 1, i, F, hk, h1, hi, hF, hf => by
    have hsm := h.small
    rw [write_Canonical_l3]
    by_cases hl : i = ns.length
    · rw [dF (show ¬ (i : Int) < ((⟨ns⟩ : api_Tree).Nodes.length : Int) from by simp only; omega), cond_false]
      exact ⟨true, rfl, iff_of_true rfl fun j j1 j2 => by omega⟩
    have hi2 : i < ns.length := by omega
    obtain ⟨q, q1, q2, q3, q4⟩ := h.parq h1 hi2
    obtain ⟨o1, o2, o3⟩ := hok i hi2
    have hpar : (nd ns i).Parent = (q : Int) := q1
    have hpf := h.pf h1 hi2 q1
    have hgi : geti F (i : Int) = some F[i] := by rw [geti_nat, List.getElem?_eq_getElem (by omega)]
    have hstep : write_Canonical_k5 n ⟨ns⟩ (i : Int) (write_Canonical_l3 n ⟨ns⟩ k) (nd ns i) (nd ns q) (F.set i (pf ns i)) = bif NB n ns i then write_Canonical_l3 n ⟨ns⟩ k (F.set i (pf ns i)) (w64 ((i : Int) + 1)) else some false := by
      unfold NB
      rw [show par ns i = (q : Int) from q1, Int.toNat_natCast]
      refine k5_eq (by omega) o1 o2 ?_ o3 fun hpr => ?_
      · rw [hpar, geti_nat, List.getElem?_set_ne (by omega)]
        exact hf q (by omega)
      · rcases h.prev hi2 with e | ⟨c, c1, c2⟩
        · omega
        · rw [c1, Int.toNat_natCast]
          exact ⟨nd ns c, by rw [geti_nat]; exact nd_get ns (by omega), rfl⟩
    rw [dT (show (i : Int) < ((⟨ns⟩ : api_Tree).Nodes.length : Int) from by simp only; omega), cond_true,
      show geti (⟨ns⟩ : api_Tree).Nodes (i : Int) = some (nd ns i) from by rw [geti_nat]; exact nd_get ns hi2, Option.bind_some, dF (show ¬ (i : Int) = 0 by omega), cond_false, hpar,
      show geti (⟨ns⟩ : api_Tree).Nodes (q : Int) = some (nd ns q) from by rw [geti_nat]; exact nd_get ns (by omega), Option.bind_some, show geti F (q : Int) = some (pf ns q) from by rw [geti_nat]; exact hf q (by omega), Option.bind_some, hgi, Option.bind_some, Option.bind_some, seti_nat F (by omega), seti_nat F (by omega), Option.bind_some, Option.bind_some]
    have hb : (bif pf ns q then write_Canonical_k5 n ⟨ns⟩ (i : Int) (write_Canonical_l3 n ⟨ns⟩ k) (nd ns i) (nd ns q) (F.set i true) else write_Canonical_k5 n ⟨ns⟩ (i : Int) (write_Canonical_l3 n ⟨ns⟩ k) (nd ns i) (nd ns q) (F.set i (decide ((nd ns i).Name = bs [112])))) = bif NB n ns i then write_Canonical_l3 n ⟨ns⟩ k (F.set i (pf ns i)) (w64 ((i : Int) + 1)) else some false := by
      rw [← hstep, hpf]
      cases pf ns q <;> rfl
    rw [hb, w64_succ (by omega)]
    cases hnb : NB n ns i with
    | false =>
      refine ⟨false, rfl, iff_of_false (by simp) fun hall => ?_⟩
      have := hall i (Nat.le_refl _) hi2
      rw [hnb] at this; cases this
    | true =>
      rw [cond_true]
      obtain ⟨b, b1, b2⟩ := can_loop h hn hok k (i + 1) (F.set i (pf ns i)) (by omega) (by omega) (by omega) (by rw [List.length_set]; exact hF) (fun j hj => by
        by_cases e : j = i
        · subst e; exact List.getElem?_set_self (by omega)
        · rw [List.getElem?_set_ne (by omega)]; exact hf j (by omega))
      refine ⟨b, b1, b2.trans ⟨fun hall j j1 j2 => ?_, fun hall j j1 j2 => hall j (by omega) j2⟩⟩
      by_cases e : j = i
      · subst e; exact hnb
      · exact hall j (by omega) j2
/-- A right tree: what Canonical says. -/
theorem can_eq (h : rightR ns 0) (h2 : RT ns) (hn : 5000 ≤ n) (hok : okN n ns) : ∃ b, write_Canonical n ⟨ns⟩ = some b ∧ (b = true ↔ (nd ns 0).Name = bs [114, 111, 111, 116] ∧ (nd ns 0).Attrs.length = 0 ∧ ∀ j, 1 ≤ j → j < ns.length → NB n ns j = true) := by
  obtain ⟨r, r1, r2⟩ := dom_Right_eq ns hn
  obtain rfl := rightR.uniq ns r2 h
  have hp := h2.pos
  have hsm := h2.small
  have h0 : geti (⟨ns⟩ : api_Tree).Nodes 0 = some (nd ns 0) := by
    rw [show (0 : Int) = ((0 : Nat) : Int) from rfl, geti_nat]; exact nd_get ns hp
  unfold write_Canonical
  rw [r1, Option.bind_some, show decide ((0 : Int) ≠ 0) = false from rfl, cond_false, h0, Option.bind_some, Option.bind_some]
  by_cases hr : (nd ns 0).Name = bs [114, 111, 111, 116]
  · rw [dF (fun e => e hr), cond_false]
    unfold write_Canonical_k1
    by_cases ha : (nd ns 0).Attrs.length = 0
    · rw [dF (show ¬ (0 : Int) < ((nd ns 0).Attrs.length : Int) by omega), cond_false]
      show ∃ b, (repM 1 (ns.length : Int) false).bind _ = _ ∧ _
      rw [repM_eq (by omega), Option.bind_some]
      obtain ⟨n, rfl⟩ : ∃ k, n = k + 1 := ⟨n - 1, by omega⟩
      rw [write_Canonical_l3, dT (show (0 : Int) < ((⟨ns⟩ : api_Tree).Nodes.length : Int) from by simp only; omega), cond_true, h0, Option.bind_some, show decide ((0 : Int) = 0) = true from rfl, cond_true]
      unfold write_Canonical_k4
      rw [show w64 ((0 : Int) + 1) = ((1 : Nat) : Int) from w64_succ (m := 0) (by omega)]
      obtain ⟨b, b1, b2⟩ := can_loop h2 hn hok n 1 (List.replicate ns.length false) (by omega) (Nat.le_refl _) (by omega) (by simp) (fun j hj => by
        obtain rfl : j = 0 := by omega
        rw [List.getElem?_replicate, if_pos hp]; rfl)
      exact ⟨b, b1, b2.trans ⟨fun hall => ⟨hr, ha, hall⟩, fun hall => hall.2.2⟩⟩
    · rw [dT (show (0 : Int) < ((nd ns 0).Attrs.length : Int) by omega), cond_true]
      exact ⟨false, rfl, iff_of_false (by simp) fun e => ha e.2.1⟩
  · rw [dT (show (nd ns 0).Name ≠ _ from hr), cond_true]
    exact ⟨false, rfl, iff_of_false (by simp) fun e => hr e.1⟩
theorem can_wrong {r : Int} (h : rightR ns r) (hr : r ≠ 0) (hn : 5000 ≤ n) : write_Canonical n ⟨ns⟩ = some false := by
  obtain ⟨r', r1, r2⟩ := dom_Right_eq ns hn
  obtain rfl := rightR.uniq ns r2 h
  unfold write_Canonical
  rw [r1, Option.bind_some, dT hr, cond_true]; rfl
theorem RT.of {r : Int} (h : rightR ns r) (hr : r = 0) : RT ns ∧ ¬ deepP ns := by
  subst hr
  rcases h with ⟨_, h⟩ | ⟨_, h⟩ | ⟨h1, h2, ⟨_, h⟩ | ⟨_, _, h⟩ | ⟨h3, h4, _⟩⟩
  · omega
  · omega
  · omega
  · omega
  · exact ⟨⟨h1, h2, h3⟩, h4⟩
end
end Go.Proofs.YtklcdfnhdljkjaaDoor
