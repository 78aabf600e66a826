/-
  Walks and laws of this seat; the base is the text Base.
-/
import Derived.Test.YtekcbgnkikmhpaaPJ
namespace Go.Proofs.Ytekcbgnkikmhpaa
open Go.RowKit Go.Sl
/-! # How a Part is laid -/
mutual
def nsz : dom_Part → Nat
  | ⟨nm, _, _, ks⟩ => if nm = bs [] then 1 else 1 + nszs ks
def nszs : List dom_Part → Nat
  | [] => 0
  | k :: ks => nsz k + nszs ks
end
def lastOf : List dom_Part → Nat → Int → Int
  | [], _, pr => pr
  | k :: ks, b, _ => lastOf ks (b + nsz k) (b : Int)
def tnode (tx : ByteArray) (pa pr nx : Int) : api_Node := {Kind := 2, Name := bs [], Text := tx, Attrs := [], Parent := pa, First := -1, Last := -1, Prev := pr, Next := nx}
def enode (nm : ByteArray) (at_ : List api_Attr) (pa fi la pr nx : Int) : api_Node := {Kind := 1, Name := nm, Text := bs [], Attrs := at_, Parent := pa, First := fi, Last := la, Prev := pr, Next := nx}
mutual
def lay : dom_Part → Nat → Int → Int → Int → List api_Node
  | ⟨nm, tx, at_, ks⟩, b, pa, pr, nx => if nm = bs [] then [tnode tx pa pr nx] else enode nm at_ pa (if ks.length = 0 then -1 else ((b + 1 : Nat) : Int)) (lastOf ks (b + 1) (-1)) pr nx :: lays ks (b + 1) (b : Int) (-1) (-1)
def lays : List dom_Part → Nat → Int → Int → Int → List api_Node
  | [], _, _, _, _ => []
  | k :: ks, b, pa, pr, nx => lay k b pa pr (if ks.length = 0 then nx else ((b + nsz k : Nat) : Int)) ++ lays ks (b + nsz k) pa (b : Int) nx
end
theorem lay_text {p : dom_Part} (h : p.Name = bs []) (b : Nat) (pa pr nx : Int) : lay p b pa pr nx = [tnode p.Text pa pr nx] := by cases p; simp only at h; simp [lay, h]
theorem lay_elem {p : dom_Part} (h : p.Name ≠ bs []) (b : Nat) (pa pr nx : Int) : lay p b pa pr nx = enode p.Name p.Attrs pa (if p.Kids.length = 0 then -1 else ((b + 1 : Nat) : Int)) (lastOf p.Kids (b + 1) (-1)) pr nx :: lays p.Kids (b + 1) (b : Int) (-1) (-1) := by
  cases p; simp only at h; simp only [lay, if_neg h]
theorem nsz_text {p : dom_Part} (h : p.Name = bs []) : nsz p = 1 := by cases p; simp only at h; simp [nsz, h]
theorem nsz_elem {p : dom_Part} (h : p.Name ≠ bs []) : nsz p = 1 + nszs p.Kids := by cases p; simp only at h; simp only [nsz, if_neg h]
mutual
theorem lay_len : ∀ (p : dom_Part) (b : Nat) (pa pr nx : Int), (lay p b pa pr nx).length = nsz p
  | ⟨nm, tx, at_, ks⟩, b, pa, pr, nx => by
    unfold lay nsz
    split
    · rfl
    · rw [List.length_cons, lays_len ks]; omega
theorem lays_len : ∀ (ks : List dom_Part) (b : Nat) (pa pr nx : Int), (lays ks b pa pr nx).length = nszs ks
  | [], _, _, _, _ => rfl
  | k :: ks, b, pa, pr, nx => by
    unfold lays nszs
    rw [List.length_append, lay_len k, lays_len ks]
end
theorem nsz_pos (p : dom_Part) : 1 ≤ nsz p := by
  by_cases h : p.Name = bs []
  · rw [nsz_text h]; omega
  · rw [nsz_elem h]; omega
mutual
theorem nsz_le : ∀ p : dom_Part, nsz p ≤ psize p
  | ⟨nm, tx, at_, ks⟩ => by
    unfold nsz psize
    have := nszs_le ks
    split <;> omega
theorem nszs_le : ∀ ks : List dom_Part, nszs ks ≤ pssize ks
  | [] => Nat.le_refl _
  | k :: ks => by
    unfold nszs pssize
    have := nsz_le k
    have := nszs_le ks
    omega
end
theorem nszs_append : ∀ (xs ys : List dom_Part), nszs (xs ++ ys) = nszs xs + nszs ys
  | [], ys => by simp [nszs]
  | x :: xs, ys => by simp only [List.cons_append, nszs, nszs_append xs ys]; omega
theorem lastOf_append : ∀ (xs : List dom_Part) (k : dom_Part) (b : Nat) (pr : Int), lastOf (xs ++ [k]) b pr = ((b + nszs xs : Nat) : Int)
  | [], k, b, pr => by simp [lastOf, nszs]
  | x :: xs, k, b, pr => by
    simp only [List.cons_append, lastOf, nszs, lastOf_append xs k]
    congr 1
    omega
theorem lays_snoc : ∀ (xs : List dom_Part) (k : dom_Part) (b : Nat) (pa pr nx : Int), lays (xs ++ [k]) b pa pr nx = lays xs b pa pr ((b + nszs xs : Nat) : Int) ++ lay k (b + nszs xs) pa (lastOf xs b pr) nx
  | [], k, b, pa, pr, nx => by simp [lays, lastOf, nszs]
  | x :: xs, k, b, pa, pr, nx => by
    simp only [List.cons_append, lays, lastOf, nszs, lays_snoc xs k, List.append_assoc]
    have e1 : ¬ (xs ++ [k]).length = 0 := by simp
    rw [if_neg e1]
    have e2 : b + nsz x + nszs xs = b + (nsz x + nszs xs) := by omega
    rw [e2]
    congr 2
    by_cases h : xs.length = 0
    · have : xs = [] := List.eq_nil_of_length_eq_zero h
      subst this
      simp [nszs]
    · rw [if_neg h]
theorem lay_head (p : dom_Part) (b : Nat) (pa pr nx : Int) : ∃ x, (lay p b pa pr nx)[0]? = some x ∧ ∀ nx', (lay p b pa pr nx).set 0 { x with Next := nx' } = lay p b pa pr nx' := by
  by_cases h : p.Name = bs []
  · exact ⟨tnode p.Text pa pr nx, by rw [lay_text h]; rfl, fun nx' => by rw [lay_text h, lay_text h]; rfl⟩
  · exact ⟨_, by rw [lay_elem h]; rfl, fun nx' => by rw [lay_elem h, lay_elem h]; rfl⟩
/-- The last kid's next is written over. -/
theorem lays_next (xs : List dom_Part) (k : dom_Part) (b : Nat) (pa pr nx : Int) : ∃ x, (lays (xs ++ [k]) b pa pr nx)[nszs xs]? = some x ∧ ∀ nx', (lays (xs ++ [k]) b pa pr nx).set (nszs xs) { x with Next := nx' } = lays (xs ++ [k]) b pa pr nx' := by
  obtain ⟨x, h1, h2⟩ := lay_head k (b + nszs xs) pa (lastOf xs b pr) nx
  have hl := lays_len xs b pa pr ((b + nszs xs : Nat) : Int)
  refine ⟨x, ?_, fun nx' => ?_⟩
  · rw [lays_snoc, List.getElem?_append_right (by omega), hl, Nat.sub_self]; exact h1
  · rw [lays_snoc, lays_snoc, List.set_append_right _ _ (by omega), hl, Nat.sub_self, h2]
/-! Each node's attributes are such as memory holds. -/
mutual
def okP : dom_Part → Prop
  | ⟨_, _, at_, ks⟩ => at_.length * 32 ≤ reachBytes ∧ okPs ks
def okPs : List dom_Part → Prop
  | [] => True
  | k :: ks => okP k ∧ okPs ks
end
theorem okPs_mem : ∀ {ks : List dom_Part} {k : dom_Part}, okPs ks → k ∈ ks → okP k
  | a :: ks, k, h, hk => by
    simp only [okPs] at h
    rcases List.mem_cons.1 hk with rfl | hk
    · exact h.1
    · exact okPs_mem h.2 hk
theorem okPs_of : ∀ {ks : List dom_Part}, (∀ k ∈ ks, okP k) → okPs ks
  | [], _ => trivial
  | k :: ks, h => by
    simp only [okPs]
    exact ⟨h k (by simp), okPs_of fun q hq => h q (by simp [hq])⟩
theorem okP_eq (p : dom_Part) : okP p ↔ p.Attrs.length * 32 ≤ reachBytes ∧ okPs p.Kids := by cases p; simp [okP]
theorem okP_of_S : ∀ (s : Nat) (p : dom_Part), psize p ≤ s → S_dom_Part p → okP p
  | 0, p, h, _ => by have := psize_eq p; omega
  | s + 1, p, h, hS => by
    obtain ⟨h1, h2⟩ := S_attrs hS
    rw [okP_eq]
    refine ⟨h1, okPs_of fun k hk => ?_⟩
    have := psize_eq p
    have := pssize_mem hk
    exact okP_of_S s k (by omega) (h2 k hk)
theorem okP_at {p : dom_Part} (h : okP p) : p.Attrs.length * 32 ≤ reachBytes ∧ ∀ k ∈ p.Kids, okP k := by
  rw [okP_eq] at h
  exact ⟨h.1, fun k hk => okPs_mem h.2 hk⟩
mutual
theorem lay_okA : ∀ (p : dom_Part) (b : Nat) (pa pr nx : Int), okP p → ∀ x ∈ lay p b pa pr nx, okA x
  | ⟨nm, tx, at_, ks⟩, b, pa, pr, nx, h => by
    unfold lay
    unfold okP at h
    intro x hx
    split at hx
    · simp only [List.mem_singleton] at hx
      subst hx
      simp [okA, tnode]
    · rcases List.mem_cons.1 hx with rfl | hx
      · exact h.1
      · exact lays_okA ks _ _ _ _ h.2 x hx
theorem lays_okA : ∀ (ks : List dom_Part) (b : Nat) (pa pr nx : Int), okPs ks → ∀ x ∈ lays ks b pa pr nx, okA x
  | [], _, _, _, _, _ => by intro x hx; simp [lays] at hx
  | k :: ks, b, pa, pr, nx, h => by
    unfold lays
    unfold okPs at h
    intro x hx
    rcases List.mem_append.1 hx with hx | hx
    · exact lay_okA k _ _ _ _ h.1 x hx
    · exact lays_okA ks _ _ _ _ h.2 x hx
end
theorem make_lay : ∀ (s : Nat) (p : dom_Part) (n : Nat) (nodes : List api_Node) (pa pr : Int), psize p ≤ s → s + 10 ≤ n → okP p → nodes.length + psize p ≤ 4096 →
    dom_Make_1 n p pa pr ⟨nodes⟩ = some ((nodes.length : Int), ⟨nodes ++ lay p nodes.length pa pr (-1)⟩) := by
  intro s
  induction s with
  | zero => intro p n nodes pa pr h; have := psize_eq p; omega
  | succ s ih =>
    intro p n nodes pa pr h hn hS hsz
    obtain ⟨n, rfl⟩ : ∃ k, n = k + 1 := ⟨n - 1, by omega⟩
    obtain ⟨hat, hkids⟩ := okP_at hS
    have hp := psize_eq p
    have hlen := pssize_len p.Kids
    have hre : reachBytes = 140737488351232 := rfl
    rw [dom_Make_1]
    unfold dom_Make_1_b slices_Clone
    have eA : appM 32 ([] : List api_Attr) p.Attrs = some p.Attrs := by
      rw [appM_eq (by simp only [List.length_nil, Nat.zero_add]; omega), List.nil_append]
    rw [eA, Option.bind_some]
    unfold dom_Make_1_k1
    by_cases hname : p.Name = bs []
    · rw [decide_eq_true hname, cond_true]
      unfold dom_Make_1_k2
      rw [appM_eq (by simp only [List.length_singleton]; omega), Option.bind_some, decide_eq_true hname, Bool.or_true, cond_true, lay_text hname, hname]
      rfl
    · rw [decide_eq_false hname, cond_false]
      unfold dom_Make_1_k2
      rw [appM_eq (by simp only [List.length_singleton]; omega), Option.bind_some, decide_eq_false hname, Bool.or_false]
      rw [show decide ((4096 : Int) < (((nodes ++ [({Kind := 1, Name := p.Name, Text := bs [], Attrs := p.Attrs, Parent := pa, First := -1, Last := -1, Prev := pr, Next := -1} : api_Node)]).length : Nat) : Int)) = false from by simp; omega, cond_false]
      have loop : ∀ (k i : Nat), p.Kids.length < k + i → i ≤ p.Kids.length →
          dom_Make_1_l4 p ⟨nodes⟩ (dom_Make_1 n) k (nodes ++ enode p.Name p.Attrs pa (if i = 0 then -1 else ((nodes.length + 1 : Nat) : Int)) (-1) pr (-1) :: lays (p.Kids.take i) (nodes.length + 1) (nodes.length : Int) (-1) (-1)) (lastOf (p.Kids.take i) (nodes.length + 1) (-1)) (i : Int) = some ((nodes.length : Int), ⟨nodes ++ lay p nodes.length pa pr (-1)⟩) := by
        intro k
        induction k with
        | zero => intro i h1 h2; omega
        | succ k ihk =>
          intro i h1 h2
          rw [dom_Make_1_l4]
          have htl := nszs_le (p.Kids.take i)
          have htk2 := pssize_take_le p.Kids i
          have hll := lays_len (p.Kids.take i) (nodes.length + 1) (nodes.length : Int) (-1) (-1)
          by_cases hi : i < p.Kids.length
          · obtain ⟨q, hq⟩ : ∃ q, p.Kids[i]? = some q := ⟨_, List.getElem?_eq_getElem hi⟩
            have hqm := List.mem_of_getElem? hq
            have hqs := pssize_mem hqm
            have htk := pssize_take_succ p.Kids hq
            have htk3 := pssize_take_le p.Kids (i + 1)
            have hnq := nsz_le q
            rw [show decide ((i : Int) < (p.Kids.length : Int)) = true from by simpa using hi, cond_true, geti_nat, hq, Option.bind_some]
            have hcur : (nodes ++ enode p.Name p.Attrs pa (if i = 0 then -1 else ((nodes.length + 1 : Nat) : Int)) (-1) pr (-1) :: lays (p.Kids.take i) (nodes.length + 1) (nodes.length : Int) (-1) (-1)).length = nodes.length + 1 + nszs (p.Kids.take i) := by
              rw [List.length_append, List.length_cons, hll]; omega
            have g := ih q n (nodes ++ enode p.Name p.Attrs pa (if i = 0 then -1 else ((nodes.length + 1 : Nat) : Int)) (-1) pr (-1) :: lays (p.Kids.take i) (nodes.length + 1) (nodes.length : Int) (-1) (-1)) (nodes.length : Int) (lastOf (p.Kids.take i) (nodes.length + 1) (-1)) (by omega) (by omega) (hkids q hqm) (by rw [hcur]; omega)
            rw [hcur] at g
            dsimp only
            rw [g, Option.bind_some]
            have hts : p.Kids.take (i + 1) = p.Kids.take i ++ [q] := by rw [List.take_add_one, hq]; rfl
            -- what the list is behind the binding
            have go : ∀ l : List api_Node, l = nodes ++ enode p.Name p.Attrs pa ((nodes.length + 1 : Nat) : Int) (-1) pr (-1) :: lays (p.Kids.take (i + 1)) (nodes.length + 1) (nodes.length : Int) (-1) (-1) →
                dom_Make_1_k5 ⟨nodes⟩ (i : Int) (dom_Make_1_l4 p ⟨nodes⟩ (dom_Make_1 n) k) (((nodes.length + 1 + nszs (p.Kids.take i) : Nat) : Int), ⟨(nodes ++ enode p.Name p.Attrs pa (if i = 0 then -1 else ((nodes.length + 1 : Nat) : Int)) (-1) pr (-1) :: lays (p.Kids.take i) (nodes.length + 1) (nodes.length : Int) (-1) (-1)) ++ lay q (nodes.length + 1 + nszs (p.Kids.take i)) (nodes.length : Int) (lastOf (p.Kids.take i) (nodes.length + 1) (-1)) (-1)⟩) l = some ((nodes.length : Int), ⟨nodes ++ lay p nodes.length pa pr (-1)⟩) := fun l hl => by
              subst hl
              unfold dom_Make_1_k5
              have hlen2 := nszs_le (p.Kids.take (i + 1))
              rw [show decide ((4096 : Int) < ((nodes ++ enode p.Name p.Attrs pa ((nodes.length + 1 : Nat) : Int) (-1) pr (-1) :: lays (p.Kids.take (i + 1)) (nodes.length + 1) (nodes.length : Int) (-1) (-1)).length : Int)) = false from decide_eq_false (by rw [List.length_append, List.length_cons, lays_len]; omega), cond_false, w64_succ (by omega)]
              have := ihk (i + 1) (by omega) (by omega)
              rw [if_neg (by omega), hts, lastOf_append, ← hts] at this
              exact this
            by_cases h0 : i = 0
            · subst h0
              rw [show decide (lastOf (p.Kids.take 0) (nodes.length + 1) (-1) = -1) = true from rfl, cond_true]
              rw [geti_nat, List.append_assoc, List.getElem?_append_right (Nat.le_refl _), Nat.sub_self]
              rw [show ((enode p.Name p.Attrs pa (if 0 = 0 then -1 else ((nodes.length + 1 : Nat) : Int)) (-1) pr (-1) :: lays (p.Kids.take 0) (nodes.length + 1) (nodes.length : Int) (-1) (-1)) ++ lay q (nodes.length + 1 + nszs (p.Kids.take 0)) (nodes.length : Int) (lastOf (p.Kids.take 0) (nodes.length + 1) (-1)) (-1))[0]? = some (enode p.Name p.Attrs pa (-1) (-1) pr (-1)) from rfl, Option.bind_some]
              rw [seti_nat _ (by simp), Option.bind_some, ← List.append_assoc]
              refine go _ ?_
              rw [List.append_assoc, List.set_append_right _ _ (Nat.le_refl _), Nat.sub_self, hts, lays_snoc]
              rfl
            · obtain ⟨xs, k', hxs⟩ : ∃ xs k', p.Kids.take i = xs ++ [k'] := by
                have hne : p.Kids.take i ≠ [] := by
                  intro e
                  have := congrArg List.length e
                  rw [List.length_take, List.length_nil] at this
                  omega
                exact ⟨_, _, (List.dropLast_concat_getLast hne).symm⟩
              have hlo : lastOf (p.Kids.take i) (nodes.length + 1) (-1) = ((nodes.length + 1 + nszs xs : Nat) : Int) := by rw [hxs, lastOf_append]
              obtain ⟨x, x1, x2⟩ := lays_next xs k' (nodes.length + 1) (nodes.length : Int) (-1) (-1)
              rw [← hxs] at x1 x2
              have hxl : nszs xs < nszs (p.Kids.take i) := by
                rw [hxs, nszs_append]
                have := nsz_pos k'
                simp only [nszs]; omega
              rw [if_neg h0] at go ⊢
              have hix : (nodes ++ enode p.Name p.Attrs pa ((nodes.length + 1 : Nat) : Int) (-1) pr (-1) :: lays (p.Kids.take i) (nodes.length + 1) (nodes.length : Int) (-1) (-1) ++ lay q (nodes.length + 1 + nszs (p.Kids.take i)) (nodes.length : Int) (lastOf (p.Kids.take i) (nodes.length + 1) (-1)) (-1))[nodes.length + 1 + nszs xs]? = some x := by
                rw [List.append_assoc, List.getElem?_append_right (by omega), show nodes.length + 1 + nszs xs - nodes.length = nszs xs + 1 by omega, List.cons_append, List.getElem?_cons_succ, List.getElem?_append_left (by rw [hll]; exact hxl)]
                exact x1
              rw [show decide (lastOf (p.Kids.take i) (nodes.length + 1) (-1) = -1) = false from decide_eq_false (by rw [hlo]; omega), cond_false]
              rw [show geti (nodes ++ enode p.Name p.Attrs pa ((nodes.length + 1 : Nat) : Int) (-1) pr (-1) :: lays (p.Kids.take i) (nodes.length + 1) (nodes.length : Int) (-1) (-1) ++ lay q (nodes.length + 1 + nszs (p.Kids.take i)) (nodes.length : Int) (lastOf (p.Kids.take i) (nodes.length + 1) (-1)) (-1)) (lastOf (p.Kids.take i) (nodes.length + 1) (-1)) = some x from by
                conv => lhs; arg 2; rw [hlo]
                rw [geti_nat]; exact hix, Option.bind_some]
              rw [show ∀ y, seti (nodes ++ enode p.Name p.Attrs pa ((nodes.length + 1 : Nat) : Int) (-1) pr (-1) :: lays (p.Kids.take i) (nodes.length + 1) (nodes.length : Int) (-1) (-1) ++ lay q (nodes.length + 1 + nszs (p.Kids.take i)) (nodes.length : Int) (lastOf (p.Kids.take i) (nodes.length + 1) (-1)) (-1)) (lastOf (p.Kids.take i) (nodes.length + 1) (-1)) y = some ((nodes ++ enode p.Name p.Attrs pa ((nodes.length + 1 : Nat) : Int) (-1) pr (-1) :: lays (p.Kids.take i) (nodes.length + 1) (nodes.length : Int) (-1) (-1) ++ lay q (nodes.length + 1 + nszs (p.Kids.take i)) (nodes.length : Int) (lastOf (p.Kids.take i) (nodes.length + 1) (-1)) (-1)).set (nodes.length + 1 + nszs xs) y) from fun y => by
                conv => lhs; arg 2; rw [hlo]
                rw [seti_nat _ (List.getElem?_eq_some_iff.1 hix).1], Option.bind_some]
              refine go _ ?_
              rw [List.append_assoc, List.set_append_right _ _ (by omega), show nodes.length + 1 + nszs xs - nodes.length = nszs xs + 1 by omega, List.cons_append, List.set_cons_succ, List.set_append_left _ _ (by rw [hll]; exact hxl), x2, hts, lays_snoc]
          · have hie : i = p.Kids.length := by omega
            subst hie
            rw [show decide ((p.Kids.length : Int) < (p.Kids.length : Int)) = false from by simp, cond_false]
            unfold dom_Make_1_k3
            dsimp only
            rw [List.take_length, geti_nat, List.getElem?_append_right (Nat.le_refl _), Nat.sub_self]
            rw [show ∀ (y : api_Node) (l : List api_Node), (y :: l)[0]? = some y from fun _ _ => rfl, Option.bind_some, seti_nat _ (by simp), Option.bind_some, List.set_append_right _ _ (Nat.le_refl _), Nat.sub_self, lay_elem hname]
            rfl
      exact loop n 0 (by omega) (by omega)
end Go.Proofs.Ytekcbgnkikmhpaa
