/-
  Walks and laws of this seat; the base is the text Base.
-/
import Derived.Test.YtklcdfnhdljkjaaDoorP7x
namespace Go.Proofs.YtklcdfnhdljkjaaDoor
open Go.RowKit Go.Sl
/-! # How a Part is laid -/
mutual
def nsz : dom_Part → Nat
  | ⟨nm, _, _, ks⟩ => if nm = bs [] then 1 else 1 + nszs ks
def nszs : List dom_Part → Nat
  | [] => 0
  | k :: ks => nsz k + nszs ks
end
def lastOf : List dom_Part → Nat → Int → Int
  | [], _, pr => pr
  | k :: ks, b, _ => lastOf ks (b + nsz k) (b : Int)
def tnode (tx : ByteArray) (pa pr nx : Int) : api_Node := {Kind := 2, Name := bs [], Text := tx, Attrs := [], Parent := pa, First := -1, Last := -1, Prev := pr, Next := nx}
def enode (nm : ByteArray) (at_ : List api_Attr) (pa fi la pr nx : Int) : api_Node := {Kind := 1, Name := nm, Text := bs [], Attrs := at_, Parent := pa, First := fi, Last := la, Prev := pr, Next := nx}
mutual
def lay : dom_Part → Nat → Int → Int → Int → List api_Node
  | ⟨nm, tx, at_, ks⟩, b, pa, pr, nx => if nm = bs [] then [tnode tx pa pr nx] else enode nm at_ pa (if ks.length = 0 then -1 else ((b + 1 : Nat) : Int)) (lastOf ks (b + 1) (-1)) pr nx :: lays ks (b + 1) (b : Int) (-1) (-1)
def lays : List dom_Part → Nat → Int → Int → Int → List api_Node
  | [], _, _, _, _ => []
  | k :: ks, b, pa, pr, nx => lay k b pa pr (if ks.length = 0 then nx else ((b + nsz k : Nat) : Int)) ++ lays ks (b + nsz k) pa (b : Int) nx
end
theorem lay_text {p : dom_Part} (h : p.Name = bs []) (b : Nat) (pa pr nx : Int) : lay p b pa pr nx = [tnode p.Text pa pr nx] := by cases p; simp only at h; simp [lay, h]
theorem lay_elem {p : dom_Part} (h : p.Name ≠ bs []) (b : Nat) (pa pr nx : Int) : lay p b pa pr nx = enode p.Name p.Attrs pa (if p.Kids.length = 0 then -1 else ((b + 1 : Nat) : Int)) (lastOf p.Kids (b + 1) (-1)) pr nx :: lays p.Kids (b + 1) (b : Int) (-1) (-1) := by
  cases p; simp only at h; simp only [lay, if_neg h]
theorem nsz_text {p : dom_Part} (h : p.Name = bs []) : nsz p = 1 := by cases p; simp only at h; simp [nsz, h]
theorem nsz_elem {p : dom_Part} (h : p.Name ≠ bs []) : nsz p = 1 + nszs p.Kids := by cases p; simp only at h; simp only [nsz, if_neg h]
mutual
theorem lay_len : ∀ (p : dom_Part) (b : Nat) (pa pr nx : Int), (lay p b pa pr nx).length = nsz p
  | ⟨nm, tx, at_, ks⟩, b, pa, pr, nx => by
    unfold lay nsz
    split
    · rfl
    · rw [List.length_cons, lays_len ks]; omega
theorem lays_len : ∀ (ks : List dom_Part) (b : Nat) (pa pr nx : Int), (lays ks b pa pr nx).length = nszs ks
  | [], _, _, _, _ => rfl
  | k :: ks, b, pa, pr, nx => by
    unfold lays nszs
    rw [List.length_append, lay_len k, lays_len ks]
end
theorem nsz_pos (p : dom_Part) : 1 ≤ nsz p := by
  by_cases h : p.Name = bs []
  · rw [nsz_text h]; omega
  · rw [nsz_elem h]; omega
mutual
theorem nsz_le : ∀ p : dom_Part, nsz p ≤ psize p
  | ⟨nm, tx, at_, ks⟩ => by
    unfold nsz psize
    have := nszs_le ks
    split <;> omega
theorem nszs_le : ∀ ks : List dom_Part, nszs ks ≤ pssize ks
  | [] => Nat.le_refl _
  | k :: ks => by
    unfold nszs pssize
    have := nsz_le k
    have := nszs_le ks
    omega
end
theorem nszs_append : ∀ (xs ys : List dom_Part), nszs (xs ++ ys) = nszs xs + nszs ys
  | [], ys => by simp [nszs]
  | x :: xs, ys => by simp only [List.cons_append, nszs, nszs_append xs ys]; omega
theorem lastOf_append : ∀ (xs : List dom_Part) (k : dom_Part) (b : Nat) (pr : Int), lastOf (xs ++ [k]) b pr = ((b + nszs xs : Nat) : Int)
  | [], k, b, pr => by simp [lastOf, nszs]
  | x :: xs, k, b, pr => by
    simp only [List.cons_append, lastOf, nszs, lastOf_append xs k]
    congr 1
    omega
theorem lays_snoc : ∀ (xs : List dom_Part) (k : dom_Part) (b : Nat) (pa pr nx : Int), lays (xs ++ [k]) b pa pr nx = lays xs b pa pr ((b + nszs xs : Nat) : Int) ++ lay k (b + nszs xs) pa (lastOf xs b pr) nx
  | [], k, b, pa, pr, nx => by simp [lays, lastOf, nszs]
  | x :: xs, k, b, pa, pr, nx => by
    simp only [List.cons_append, lays, lastOf, nszs, lays_snoc xs k, List.append_assoc]
    have e1 : ¬ (xs ++ [k]).length = 0 := by simp
    rw [if_neg e1]
    have e2 : b + nsz x + nszs xs = b + (nsz x + nszs xs) := by omega
    rw [e2]
    congr 2
    by_cases h : xs.length = 0
    · have : xs = [] := List.eq_nil_of_length_eq_zero h
      subst this
      simp [nszs]
    · rw [if_neg h]
theorem lay_head (p : dom_Part) (b : Nat) (pa pr nx : Int) : ∃ x, (lay p b pa pr nx)[0]? = some x ∧ ∀ nx', (lay p b pa pr nx).set 0 { x with Next := nx' } = lay p b pa pr nx' := by
  by_cases h : p.Name = bs []
  · exact ⟨tnode p.Text pa pr nx, by rw [lay_text h]; rfl, fun nx' => by rw [lay_text h, lay_text h]; rfl⟩
  · exact ⟨_, by rw [lay_elem h]; rfl, fun nx' => by rw [lay_elem h, lay_elem h]; rfl⟩
/-- The last kid's next is written over. -/
theorem lays_next (xs : List dom_Part) (k : dom_Part) (b : Nat) (pa pr nx : Int) : ∃ x, (lays (xs ++ [k]) b pa pr nx)[nszs xs]? = some x ∧ ∀ nx', (lays (xs ++ [k]) b pa pr nx).set (nszs xs) { x with Next := nx' } = lays (xs ++ [k]) b pa pr nx' := by
  obtain ⟨x, h1, h2⟩ := lay_head k (b + nszs xs) pa (lastOf xs b pr) nx
  have hl := lays_len xs b pa pr ((b + nszs xs : Nat) : Int)
  refine ⟨x, ?_, fun nx' => ?_⟩
  · rw [lays_snoc, List.getElem?_append_right (by omega), hl, Nat.sub_self]; exact h1
  · rw [lays_snoc, lays_snoc, List.set_append_right _ _ (by omega), hl, Nat.sub_self, h2]
/-! Each node's attributes are such as memory holds. -/
mutual
def okP : dom_Part → Prop
  | ⟨_, _, at_, ks⟩ => at_.length * 32 ≤ reachBytes ∧ okPs ks
def okPs : List dom_Part → Prop
  | [] => True
  | k :: ks => okP k ∧ okPs ks
end
theorem okPs_mem : ∀ {ks : List dom_Part} {k : dom_Part}, okPs ks → k ∈ ks → okP k
  | a :: ks, k, h, hk => by
    simp only [okPs] at h
    rcases List.mem_cons.1 hk with rfl | hk
    · exact h.1
    · exact okPs_mem h.2 hk
theorem okPs_of : ∀ {ks : List dom_Part}, (∀ k ∈ ks, okP k) → okPs ks
  | [], _ => trivial
  | k :: ks, h => by
    simp only [okPs]
    exact ⟨h k (by simp), okPs_of fun q hq => h q (by simp [hq])⟩
theorem okP_eq (p : dom_Part) : okP p ↔ p.Attrs.length * 32 ≤ reachBytes ∧ okPs p.Kids := by cases p; simp [okP]
theorem okP_at {p : dom_Part} (h : okP p) : p.Attrs.length * 32 ≤ reachBytes ∧ ∀ k ∈ p.Kids, okP k := by
  rw [okP_eq] at h
  exact ⟨h.1, fun k hk => okPs_mem h.2 hk⟩
theorem make_lay : ∀ (s : Nat) (p : dom_Part) (n : Nat) (nodes : List api_Node) (pa pr : Int), psize p ≤ s → s + 10 ≤ n → okP p → nodes.length + psize p ≤ 4096 →
    dom_Make_1 n p pa pr ⟨nodes⟩ = some ((nodes.length : Int), ⟨nodes ++ lay p nodes.length pa pr (-1)⟩) := by
  intro s
  induction s with
  | zero => intro p n nodes pa pr h; have := psize_eq p; omega
  | succ s ih =>
    intro p n nodes pa pr h hn hS hsz
    obtain ⟨n, rfl⟩ : ∃ k, n = k + 1 := ⟨n - 1, by omega⟩
    obtain ⟨hat, hkids⟩ := okP_at hS
    have hp := psize_eq p
    have hlen := pssize_len p.Kids
    have hre : reachBytes = 140737488351232 := rfl
    rw [dom_Make_1]
    unfold dom_Make_1_b slices_Clone
    have eA : appM 32 ([] : List api_Attr) p.Attrs = some p.Attrs := by
      rw [appM_eq (by simp only [List.length_nil, Nat.zero_add]; omega), List.nil_append]
    rw [eA, Option.bind_some]
    unfold dom_Make_1_k1
    by_cases hname : p.Name = bs []
    · rw [decide_eq_true hname, cond_true]
      unfold dom_Make_1_k2
      rw [appM_eq (by simp only [List.length_singleton]; omega), Option.bind_some, decide_eq_true hname, Bool.or_true, cond_true, lay_text hname, hname]
      rfl
    · rw [decide_eq_false hname, cond_false]
      unfold dom_Make_1_k2
      rw [appM_eq (by simp only [List.length_singleton]; omega), Option.bind_some, decide_eq_false hname, Bool.or_false]
      rw [show decide ((4096 : Int) < (((nodes ++ [({Kind := 1, Name := p.Name, Text := bs [], Attrs := p.Attrs, Parent := pa, First := -1, Last := -1, Prev := pr, Next := -1} : api_Node)]).length : Nat) : Int)) = false from by simp; omega, cond_false]
      have loop : ∀ (k i : Nat), p.Kids.length < k + i → i ≤ p.Kids.length →
          dom_Make_1_l4 p ⟨nodes⟩ (dom_Make_1 n) k (nodes ++ enode p.Name p.Attrs pa (if i = 0 then -1 else ((nodes.length + 1 : Nat) : Int)) (-1) pr (-1) :: lays (p.Kids.take i) (nodes.length + 1) (nodes.length : Int) (-1) (-1)) (lastOf (p.Kids.take i) (nodes.length + 1) (-1)) (i : Int) = some ((nodes.length : Int), ⟨nodes ++ lay p nodes.length pa pr (-1)⟩) := by
        intro k
        induction k with
        | zero => intro i h1 h2; omega
        | succ k ihk =>
          intro i h1 h2
          rw [dom_Make_1_l4]
          have htl := nszs_le (p.Kids.take i)
          have htk2 := pssize_take_le p.Kids i
          have hll := lays_len (p.Kids.take i) (nodes.length + 1) (nodes.length : Int) (-1) (-1)
          by_cases hi : i < p.Kids.length
          · obtain ⟨q, hq⟩ : ∃ q, p.Kids[i]? = some q := ⟨_, List.getElem?_eq_getElem hi⟩
            have hqm := List.mem_of_getElem? hq
            have hqs := pssize_mem hqm
            have htk := pssize_take_succ p.Kids hq
            have htk3 := pssize_take_le p.Kids (i + 1)
            have hnq := nsz_le q
            rw [show decide ((i : Int) < (p.Kids.length : Int)) = true from by simpa using hi, cond_true, geti_nat, hq, Option.bind_some]
            have hcur : (nodes ++ enode p.Name p.Attrs pa (if i = 0 then -1 else ((nodes.length + 1 : Nat) : Int)) (-1) pr (-1) :: lays (p.Kids.take i) (nodes.length + 1) (nodes.length : Int) (-1) (-1)).length = nodes.length + 1 + nszs (p.Kids.take i) := by
              rw [List.length_append, List.length_cons, hll]; omega
            have g := ih q n (nodes ++ enode p.Name p.Attrs pa (if i = 0 then -1 else ((nodes.length + 1 : Nat) : Int)) (-1) pr (-1) :: lays (p.Kids.take i) (nodes.length + 1) (nodes.length : Int) (-1) (-1)) (nodes.length : Int) (lastOf (p.Kids.take i) (nodes.length + 1) (-1)) (by omega) (by omega) (hkids q hqm) (by rw [hcur]; omega)
            rw [hcur] at g
            dsimp only
            rw [g, Option.bind_some]
            have hts : p.Kids.take (i + 1) = p.Kids.take i ++ [q] := by rw [List.take_add_one, hq]; rfl
            -- what the list is behind the binding
            have go : ∀ l : List api_Node, l = nodes ++ enode p.Name p.Attrs pa ((nodes.length + 1 : Nat) : Int) (-1) pr (-1) :: lays (p.Kids.take (i + 1)) (nodes.length + 1) (nodes.length : Int) (-1) (-1) →
                dom_Make_1_k5 ⟨nodes⟩ (i : Int) (dom_Make_1_l4 p ⟨nodes⟩ (dom_Make_1 n) k) (((nodes.length + 1 + nszs (p.Kids.take i) : Nat) : Int), ⟨(nodes ++ enode p.Name p.Attrs pa (if i = 0 then -1 else ((nodes.length + 1 : Nat) : Int)) (-1) pr (-1) :: lays (p.Kids.take i) (nodes.length + 1) (nodes.length : Int) (-1) (-1)) ++ lay q (nodes.length + 1 + nszs (p.Kids.take i)) (nodes.length : Int) (lastOf (p.Kids.take i) (nodes.length + 1) (-1)) (-1)⟩) l = some ((nodes.length : Int), ⟨nodes ++ lay p nodes.length pa pr (-1)⟩) := fun l hl => by
              subst hl
              unfold dom_Make_1_k5
              have hlen2 := nszs_le (p.Kids.take (i + 1))
              rw [show decide ((4096 : Int) < ((nodes ++ enode p.Name p.Attrs pa ((nodes.length + 1 : Nat) : Int) (-1) pr (-1) :: lays (p.Kids.take (i + 1)) (nodes.length + 1) (nodes.length : Int) (-1) (-1)).length : Int)) = false from decide_eq_false (by rw [List.length_append, List.length_cons, lays_len]; omega), cond_false, w64_succ (by omega)]
              have := ihk (i + 1) (by omega) (by omega)
              rw [if_neg (by omega), hts, lastOf_append, ← hts] at this
              exact this
            by_cases h0 : i = 0
            · subst h0
              rw [show decide (lastOf (p.Kids.take 0) (nodes.length + 1) (-1) = -1) = true from rfl, cond_true]
              rw [geti_nat, List.append_assoc, List.getElem?_append_right (Nat.le_refl _), Nat.sub_self]
              rw [show ((enode p.Name p.Attrs pa (if 0 = 0 then -1 else ((nodes.length + 1 : Nat) : Int)) (-1) pr (-1) :: lays (p.Kids.take 0) (nodes.length + 1) (nodes.length : Int) (-1) (-1)) ++ lay q (nodes.length + 1 + nszs (p.Kids.take 0)) (nodes.length : Int) (lastOf (p.Kids.take 0) (nodes.length + 1) (-1)) (-1))[0]? = some (enode p.Name p.Attrs pa (-1) (-1) pr (-1)) from rfl, Option.bind_some]
              rw [seti_nat _ (by simp), Option.bind_some, ← List.append_assoc]
              refine go _ ?_
              rw [List.append_assoc, List.set_append_right _ _ (Nat.le_refl _), Nat.sub_self, hts, lays_snoc]
              rfl
            · obtain ⟨xs, k', hxs⟩ : ∃ xs k', p.Kids.take i = xs ++ [k'] := by
                have hne : p.Kids.take i ≠ [] := by
                  intro e
                  have := congrArg List.length e
                  rw [List.length_take, List.length_nil] at this
                  omega
                exact ⟨_, _, (List.dropLast_concat_getLast hne).symm⟩
              have hlo : lastOf (p.Kids.take i) (nodes.length + 1) (-1) = ((nodes.length + 1 + nszs xs : Nat) : Int) := by rw [hxs, lastOf_append]
              obtain ⟨x, x1, x2⟩ := lays_next xs k' (nodes.length + 1) (nodes.length : Int) (-1) (-1)
              rw [← hxs] at x1 x2
              have hxl : nszs xs < nszs (p.Kids.take i) := by
                rw [hxs, nszs_append]
                have := nsz_pos k'
                simp only [nszs]; omega
              rw [if_neg h0] at go ⊢
              have hix : (nodes ++ enode p.Name p.Attrs pa ((nodes.length + 1 : Nat) : Int) (-1) pr (-1) :: lays (p.Kids.take i) (nodes.length + 1) (nodes.length : Int) (-1) (-1) ++ lay q (nodes.length + 1 + nszs (p.Kids.take i)) (nodes.length : Int) (lastOf (p.Kids.take i) (nodes.length + 1) (-1)) (-1))[nodes.length + 1 + nszs xs]? = some x := by
                rw [List.append_assoc, List.getElem?_append_right (by omega), show nodes.length + 1 + nszs xs - nodes.length = nszs xs + 1 by omega, List.cons_append, List.getElem?_cons_succ, List.getElem?_append_left (by rw [hll]; exact hxl)]
                exact x1
              rw [show decide (lastOf (p.Kids.take i) (nodes.length + 1) (-1) = -1) = false from decide_eq_false (by rw [hlo]; omega), cond_false]
              rw [show geti (nodes ++ enode p.Name p.Attrs pa ((nodes.length + 1 : Nat) : Int) (-1) pr (-1) :: lays (p.Kids.take i) (nodes.length + 1) (nodes.length : Int) (-1) (-1) ++ lay q (nodes.length + 1 + nszs (p.Kids.take i)) (nodes.length : Int) (lastOf (p.Kids.take i) (nodes.length + 1) (-1)) (-1)) (lastOf (p.Kids.take i) (nodes.length + 1) (-1)) = some x from by
                conv => lhs; arg 2; rw [hlo]
                rw [geti_nat]; exact hix, Option.bind_some]
              rw [show ∀ y, seti (nodes ++ enode p.Name p.Attrs pa ((nodes.length + 1 : Nat) : Int) (-1) pr (-1) :: lays (p.Kids.take i) (nodes.length + 1) (nodes.length : Int) (-1) (-1) ++ lay q (nodes.length + 1 + nszs (p.Kids.take i)) (nodes.length : Int) (lastOf (p.Kids.take i) (nodes.length + 1) (-1)) (-1)) (lastOf (p.Kids.take i) (nodes.length + 1) (-1)) y = some ((nodes ++ enode p.Name p.Attrs pa ((nodes.length + 1 : Nat) : Int) (-1) pr (-1) :: lays (p.Kids.take i) (nodes.length + 1) (nodes.length : Int) (-1) (-1) ++ lay q (nodes.length + 1 + nszs (p.Kids.take i)) (nodes.length : Int) (lastOf (p.Kids.take i) (nodes.length + 1) (-1)) (-1)).set (nodes.length + 1 + nszs xs) y) from fun y => by
                conv => lhs; arg 2; rw [hlo]
                rw [seti_nat _ (List.getElem?_eq_some_iff.1 hix).1], Option.bind_some]
              refine go _ ?_
              rw [List.append_assoc, List.set_append_right _ _ (by omega), show nodes.length + 1 + nszs xs - nodes.length = nszs xs + 1 by omega, List.cons_append, List.set_cons_succ, List.set_append_left _ _ (by rw [hll]; exact hxl), x2, hts, lays_snoc]
          · have hie : i = p.Kids.length := by omega
            subst hie
            rw [show decide ((p.Kids.length : Int) < (p.Kids.length : Int)) = false from by simp, cond_false]
            unfold dom_Make_1_k3
            dsimp only
            rw [List.take_length, geti_nat, List.getElem?_append_right (Nat.le_refl _), Nat.sub_self]
            rw [show ∀ (y : api_Node) (l : List api_Node), (y :: l)[0]? = some y from fun _ _ => rfl, Option.bind_some, seti_nat _ (by simp), Option.bind_some, List.set_append_right _ _ (Nat.le_refl _), Nat.sub_self, lay_elem hname]
            rfl
      exact loop n 0 (by omega) (by omega)
end Go.Proofs.YtklcdfnhdljkjaaDoor
namespace Go.Proofs.YtklcdfnhdljkjaaDoor
open Go.RowKit Go.Sl
mutual
def cleanP : dom_Part → dom_Part
  | ⟨nm, tx, at_, ks⟩ => if nm = bs [] then ⟨bs [], tx, [], []⟩ else ⟨nm, bs [], at_, cleanPs ks⟩
def cleanPs : List dom_Part → List dom_Part
  | [] => []
  | k :: ks => cleanP k :: cleanPs ks
end
theorem cleanPs_map : ∀ ks : List dom_Part, cleanPs ks = ks.map cleanP
  | [] => rfl
  | k :: ks => by simp only [cleanPs, List.map_cons, cleanPs_map ks]
theorem cleanP_text {p : dom_Part} (h : p.Name = bs []) : cleanP p = ⟨bs [], p.Text, [], []⟩ := by cases p; simp only at h; simp [cleanP, h]
theorem cleanP_elem {p : dom_Part} (h : p.Name ≠ bs []) : cleanP p = ⟨p.Name, bs [], p.Attrs, p.Kids.map cleanP⟩ := by cases p; simp only at h; simp only [cleanP, if_neg h, cleanPs_map]
theorem okP_clean : ∀ (s : Nat) (p : dom_Part), psize p ≤ s → okP p → okP (cleanP p)
  | 0, p, h, _ => by have := psize_eq p; omega
  | s + 1, p, h, hp => by
    rw [okP_eq] at hp
    by_cases hn : p.Name = bs []
    · rw [cleanP_text hn, okP_eq]
      exact ⟨by simp, trivial⟩
    · rw [cleanP_elem hn, okP_eq]
      refine ⟨hp.1, okPs_of fun k hk => ?_⟩
      obtain ⟨q, hq, rfl⟩ := List.mem_map.1 hk
      have := psize_eq p
      have := pssize_mem hq
      exact okP_clean s q (by omega) (okPs_mem hp.2 hq)
theorem psize_clean : ∀ (s : Nat) (p : dom_Part), psize p ≤ s → psize (cleanP p) ≤ psize p := by
  intro s
  induction s with
  | zero => intro p h; have := psize_eq p; omega
  | succ s ih =>
    intro p h
    have hp := psize_eq p
    by_cases hn : p.Name = bs []
    · rw [cleanP_text hn, psize_eq]
      simp only [pssize]; omega
    · rw [cleanP_elem hn, psize_eq]
      have : ∀ ks : List dom_Part, pssize ks ≤ s → pssize (ks.map cleanP) ≤ pssize ks := by
        intro ks
        induction ks with
        | nil => intro _; exact Nat.le_refl _
        | cons k ks ihk =>
          intro hk
          simp only [pssize] at hk
          simp only [List.map_cons, pssize]
          have := ih k (by omega)
          have := ihk (by omega)
          omega
      have := this p.Kids (by omega)
      simp only
      omega
mutual
theorem nsz_clean : ∀ p : dom_Part, nsz (cleanP p) = nsz p
  | ⟨nm, tx, at_, ks⟩ => by
    by_cases h : nm = bs []
    · simp [cleanP, nsz, h]
    · simp only [cleanP, nsz, if_neg h, nszs_clean ks]
theorem nszs_clean : ∀ ks : List dom_Part, nszs (cleanPs ks) = nszs ks
  | [] => rfl
  | k :: ks => by simp only [cleanPs, nszs, nsz_clean k, nszs_clean ks]
end
theorem cleanPs_len (ks : List dom_Part) : (cleanPs ks).length = ks.length := by rw [cleanPs_map, List.length_map]
theorem lastOf_clean : ∀ (ks : List dom_Part) (b : Nat) (pr : Int), lastOf (cleanPs ks) b pr = lastOf ks b pr
  | [], _, _ => rfl
  | k :: ks, b, pr => by simp only [cleanPs, lastOf, nsz_clean k, lastOf_clean ks]
mutual
theorem lay_clean : ∀ (p : dom_Part) (b : Nat) (pa pr nx : Int), lay (cleanP p) b pa pr nx = lay p b pa pr nx
  | ⟨nm, tx, at_, ks⟩, b, pa, pr, nx => by
    by_cases h : nm = bs []
    · simp [cleanP, lay, h]
    · simp only [cleanP, lay, if_neg h, cleanPs_len, lastOf_clean, lays_clean ks]
theorem lays_clean : ∀ (ks : List dom_Part) (b : Nat) (pa pr nx : Int), lays (cleanPs ks) b pa pr nx = lays ks b pa pr nx
  | [], _, _, _, _ => rfl
  | k :: ks, b, pa, pr, nx => by simp only [cleanPs, lays, nsz_clean k, cleanPs_len, lay_clean k, lays_clean ks]
end
theorem lay_next (p : dom_Part) (b : Nat) (pa pr nx : Int) : ∃ x, (lay p b pa pr nx)[0]? = some x ∧ x.Next = nx := by
  by_cases h : p.Name = bs []
  · exact ⟨_, by rw [lay_text h]; rfl, rfl⟩
  · exact ⟨_, by rw [lay_elem h]; rfl, rfl⟩
end Go.Proofs.YtklcdfnhdljkjaaDoor
namespace Go.Proofs.YtklcdfnhdljkjaaDoor
open Go.RowKit Go.Sl
/-- What a part becomes, told at once. -/
theorem make_eq {p : dom_Part} {F : Nat} (hF : 5000000000000 ≤ F) (hS : okP p) (hsz : psize p ≤ 2000) : ∃ r, rightR (lay p 0 (-1) (-1) (-1)) r ∧
    dom_Make F p = (if r = 0 then some (⟨lay p 0 (-1) (-1) (-1)⟩, 0) else some (⟨[]⟩, r)) := by
  have g := make_lay (psize p) p F [] (-1) (-1) (Nat.le_refl _) (by omega) hS (by simp; omega)
  rw [List.nil_append, List.length_nil] at g
  obtain ⟨r, a1, a2⟩ := dom_Right_eq (lay p 0 (-1) (-1) (-1)) (n := F) (by omega)
  refine ⟨r, a2, ?_⟩
  unfold dom_Make
  rw [show dom_Make_1 F p (-1) (-1) ({Nodes := ([] : List api_Node)} : api_Tree) = _ from g, Option.bind_some, a1, Option.bind_some]
  by_cases h : r = 0
  · subst h; rfl
  · rw [show decide (r ≠ 0) = true from decide_eq_true h, cond_true, if_neg h]
end Go.Proofs.YtklcdfnhdljkjaaDoor
namespace Go.Proofs.YtklcdfnhdljkjaaDoor
open Go.RowKit Go.Sl
section
variable (ns : List api_Node)
theorem tail_mem {i : Nat} (h : good ns i) {x : Int} (hx : x ∈ (row ns i).tail) : ∃ q : Nat, x = q ∧ q < i := by
  obtain ⟨tl, h1, h2, _⟩ := good.inv ns h
  rw [h1, List.tail_cons] at hx
  obtain ⟨q, e1, e2, _⟩ := h2 x hx
  exact ⟨q, e1, e2⟩
theorem row_cons {i : Nat} (h : good ns i) : row ns i = (i : Int) :: (row ns i).tail := by
  obtain ⟨tl, h1, _⟩ := good.inv ns h
  rw [h1, List.tail_cons]
theorem row_mem {i : Nat} (h : good ns i) {x : Int} (hx : x ∈ row ns i) : ∃ q : Nat, x = q ∧ q ≤ i := by
  rw [row_cons ns h] at hx
  rcases List.mem_cons.1 hx with e | e
  · exact ⟨i, e, Nat.le_refl _⟩
  · obtain ⟨q, e1, e2⟩ := tail_mem ns h e
    exact ⟨q, e1, by omega⟩
theorem okS_mem {i : Nat} (h : okS ns i) : par ns (i + 1) ∈ row ns i := Decidable.byContradiction fun hh => h.1 (pop_nil_iff _ _ hh)
/-- Behind its end a node has no kid. -/
theorem noKid {i j : Nat} (hij : i < j) (hp : par ns j < i) : ∀ m, j ≤ m → good ns m → par ns m ≠ i ∧ (i : Int) ∉ row ns m := by
  intro m hm
  induction hm with
  | refl =>
    intro hg
    refine ⟨by omega, fun hx => ?_⟩
    obtain ⟨c, rfl⟩ : ∃ c, j = c + 1 := ⟨j - 1, by omega⟩
    obtain ⟨q, q1, q2, _, q4⟩ := good.par ns hg
    rw [q4] at hx
    rcases List.mem_cons.1 hx with e | e
    · omega
    · obtain ⟨z, e1, e2⟩ := row_mem ns (good.le ns hg (by omega)) e
      omega
  | step hm ih =>
    rename_i m
    intro hg
    obtain ⟨h1, h2⟩ := ih hg.1
    have hm' : j ≤ m := hm
    have h3 := okS_mem ns hg.2
    refine ⟨fun e => h2 (by rw [← e]; exact h3), fun hx => ?_⟩
    rw [row_succ] at hx
    rcases List.mem_cons.1 hx with e | e
    · omega
    · exact h2 ((List.dropWhile_sublist _).subset e)
theorem lastc_is (i : Int) : ∀ (n c : Nat), 1 ≤ c → c ≤ n → par ns c = i → (∀ m, c < m → m ≤ n → par ns m ≠ i) → lastc ns n i = c
  | 0, c, h1, h2, _, _ => by omega
  | n + 1, c, h1, h2, h3, h4 => by
    rw [lastc_succ]
    by_cases h : c = n + 1
    · subst h; rw [if_pos h3]
    · rw [if_neg (h4 (n + 1) (by omega) (Nat.le_refl _))]
      exact lastc_is i n c h1 (by omega) h3 fun m h5 h6 => h4 m h5 (by omega)
theorem lastc_no (i : Int) : ∀ (n : Nat), (∀ m, 1 ≤ m → m ≤ n → par ns m ≠ i) → lastc ns n i = -1
  | 0, _ => rfl
  | n + 1, h => by
    rw [lastc_succ, if_neg (h (n + 1) (by omega) (Nat.le_refl _))]
    exact lastc_no i n fun m h5 h6 => h m h5 (by omega)
def SubP (i : Nat) : Prop := ∃ p j, i < j ∧ j ≤ ns.length ∧ ns.drop i = lay p i (par ns i) (nd ns i).Prev (nd ns i).Next ++ ns.drop j ∧ i + nsz p = j ∧ psize p = nsz p ∧ okP p ∧ (j < ns.length → par ns j ∈ (row ns i).tail) ∧ ∀ m, i < m → m < j → (i : Int) ≤ par ns m
def KidsP (c i : Nat) : Prop := ∃ ks j, 0 < ks.length ∧ c < j ∧ j ≤ ns.length ∧ ns.drop c = lays ks c i (nd ns c).Prev (-1) ++ ns.drop j ∧ c + nszs ks = j ∧ pssize ks = nszs ks ∧ okPs ks ∧ (j < ns.length → par ns j ∈ (row ns i).tail) ∧ (∀ m, c ≤ m → m < j → (i : Int) ≤ par ns m) ∧ lastOf ks c (nd ns c).Prev = lastc ns (ns.length - 1) i
theorem kids_lay (hg : ∀ j, j < ns.length → good ns j) (hr : ∀ m, m < ns.length → refP ns m) (i : Nat) (hsub : ∀ c, i < c → c < ns.length → SubP ns c) : ∀ (d c : Nat), ns.length - c ≤ d → i < c → c < ns.length → par ns c = i → KidsP ns c i := by
  intro d
  induction d with
  | zero => intro c h1 h2 h3; omega
  | succ d ih =>
    intro c h1 h2 h3 h4
    obtain ⟨q, j, a1, a2, a3, a4, a5, a6, a7, a8⟩ := hsub c h2 h3
    have hgc := hg c h3
    have hgi : good ns i := hg i (by omega)
    have hrow : row ns c = (c : Int) :: row ns i := by
      obtain ⟨c', rfl⟩ : ∃ c', c = c' + 1 := ⟨c - 1, by omega⟩
      obtain ⟨z, z1, _, _, z4⟩ := good.par ns hgc
      have : z = i := by omega
      subst this
      exact z4
    rw [hrow, List.tail_cons, row_cons ns hgi] at a7
    have nextNone : (∀ m, c < m → m < ns.length → par ns m ≠ i) → (nd ns c).Next = -1 ∧ lastc ns (ns.length - 1) i = c := fun hno => by
      constructor
      · rw [(hr c h3).2.2.2]
        refine nextc_none ns _ _ fun c' g1 g2 g3 => ?_
        unfold prevc at g3
        rcases lastc_le ns (c' - 1) (par ns c') with g4 | ⟨z, g4, g5, g6, g7⟩
        · omega
        · have : z = c := by omega
          subst this
          exact hno c' (by omega) (by omega) (by rw [← g7]; exact h4)
      · exact lastc_is ns _ _ c (by omega) (by omega) h4 fun m g1 g2 => hno m g1 (by omega)
    by_cases hj : j < ns.length ∧ par ns j = i
    · obtain ⟨hj, hpj⟩ := hj
      have hprev : prevc ns j = c := by
        unfold prevc
        rw [hpj]
        exact lastc_is ns _ _ c (by omega) (by omega) h4 fun m g1 g2 => by have := a8 m g1 (by omega); omega
      have hPj : (nd ns j).Prev = c := by
        have := (hr j hj).2.2.1
        rw [if_neg (by omega), hprev] at this; exact this
      have hNc : (nd ns c).Next = j := by rw [(hr c h3).2.2.2]; exact nextc_of ns _ j c (by omega) (by omega) hprev
      obtain ⟨ks, k, b0, b1, b2, b3, b4, b5, b6, b7, b8, b9⟩ := ih j (by omega) (by omega) hj hpj
      refine ⟨q :: ks, k, by simp, by omega, b2, ?_, by simp only [nszs]; omega, by simp only [pssize, nszs]; omega, by simp only [okPs]; exact ⟨a6, b6⟩, b7, fun m g1 g2 => ?_, ?_⟩
      · rw [a3, b3, hPj, hNc, h4, ← List.append_assoc]
        simp only [lays]
        rw [if_neg (by omega), a4]
      · by_cases e : m = c
        · subst e; omega
        · by_cases e2 : m < j
          · have := a8 m (by omega) e2; omega
          · exact b8 m (by omega) g2
      · simp only [lastOf]
        rw [a4, ← hPj]; exact b9
    · have hlt : j < ns.length → par ns j ∈ (row ns i).tail := fun hh => by
        rcases List.mem_cons.1 (a7 hh) with e | e
        · exact absurd ⟨hh, e⟩ hj
        · exact e
      have hno : ∀ m, c < m → m < ns.length → par ns m ≠ i := fun m g1 g2 => by
        by_cases e2 : m < j
        · have := a8 m g1 e2; omega
        · obtain ⟨z, z1, z2⟩ := tail_mem ns hgi (hlt (by omega))
          exact (noKid ns (i := i) (j := j) (by omega) (by omega) m (by omega) (hg m g2)).1
      obtain ⟨n1, n2⟩ := nextNone hno
      refine ⟨[q], j, by simp, a1, a2, ?_, by simp only [nszs]; omega, by simp only [pssize, nszs]; omega, by simp only [okPs]; exact ⟨a6, trivial⟩, hlt, fun m g1 g2 => ?_, ?_⟩
      · rw [a3, n1, h4]
        simp [lays]
      · by_cases e : m = c
        · subst e; omega
        · have := a8 m (by omega) g2; omega
      · simp only [lastOf]; exact n2.symm
theorem sub_lay (hg : ∀ j, j < ns.length → good ns j) (ha : ∀ j, j < ns.length → aloneP (nd ns j)) (hr : ∀ m, m < ns.length → refP ns m) : ∀ (d i : Nat), ns.length - i ≤ d → i < ns.length → SubP ns i := by
  intro d
  induction d with
  | zero => intro i h1 h2; omega
  | succ d ih =>
    intro i h1 h2
    have hre : reachBytes = 140737488351232 := rfl
    have hgi := hg i h2
    have hri := hr i h2
    have hdrop : ns.drop i = nd ns i :: ns.drop (i + 1) := by
      rw [List.drop_eq_getElem_cons h2]
      congr 1
      have := nd_get ns h2
      rw [List.getElem?_eq_getElem h2] at this
      exact Option.some.inj this
    have hmem : i + 1 < ns.length → par ns (i + 1) = i ∨ par ns (i + 1) ∈ (row ns i).tail := fun hh => by
      have := okS_mem ns (hg (i + 1) hh).2
      rw [row_cons ns hgi] at this
      exact List.mem_cons.1 this
    rcases ha i h2 with ⟨k1, k2, k3, k4, k5, k6⟩ | ⟨k1, k2, k3, k4, k5⟩
    · refine ⟨⟨bs [], (nd ns i).Text, [], []⟩, i + 1, by omega, by omega, ?_, by rw [nsz_text rfl], by rw [nsz_text rfl, psize_eq]; rfl, by rw [okP_eq]; exact ⟨by simp, trivial⟩, fun hh => ?_, fun m g1 g2 => by omega⟩
      · rw [lay_text rfl, hdrop, List.singleton_append]
        congr 1
        have : (nd ns i).Attrs = [] := List.eq_nil_of_length_eq_zero k4
        unfold tnode par
        generalize nd ns i = x at *
        cases x
        simp_all
      · rcases hmem hh with e | e
        · have := (hg (i + 1) hh).2.2
          rw [e] at this
          simp at this
          omega
        · exact e
    · by_cases hk : i + 1 < ns.length ∧ par ns (i + 1) = i
      · obtain ⟨hk1, hk2⟩ := hk
        obtain ⟨ks, j, b0, b1, b2, b3, b4, b5, b6, b7, b8, b9⟩ := kids_lay ns hg hr i (fun c g1 g2 => ih c (by omega) g2) (ns.length - (i + 1)) (i + 1) (Nat.le_refl _) (by omega) hk1 hk2
        have hprev : prevc ns (i + 1) = -1 := by
          unfold prevc
          rw [hk2]
          exact good.lastc_none ns hgi i (Nat.le_refl _)
        have hP : (nd ns (i + 1)).Prev = -1 := by
          have := (hr (i + 1) hk1).2.2.1
          rw [if_neg (by omega), hprev] at this; exact this
        have hF : (nd ns i).First = ((i + 1 : Nat) : Int) := by
          rw [hri.1]
          have := firstc_of ns (ns.length - 1) (i + 1) (by omega) (by omega) hprev
          rw [hk2] at this; exact this
        have hL : (nd ns i).Last = lastOf ks (i + 1) (-1) := by rw [hri.2.1, ← b9, hP]
        have e1 : (⟨(nd ns i).Name, bs [], (nd ns i).Attrs, ks⟩ : dom_Part).Name ≠ bs [] := k2
        refine ⟨⟨(nd ns i).Name, bs [], (nd ns i).Attrs, ks⟩, j, by omega, b2, ?_, by rw [nsz_elem e1]; simp only; omega, by rw [nsz_elem e1, psize_eq]; simp only; omega, by rw [okP_eq]; exact ⟨by simp only; omega, b6⟩, b7, fun m g1 g2 => b8 m (by omega) g2⟩
        rw [lay_elem e1, hdrop, List.cons_append]
        rw [b3, hP]
        congr 1
        simp only
        rw [if_neg (by omega), ← hL, ← hF]
        unfold enode par
        generalize nd ns i = x at *
        cases x
        simp_all
      · have hlt : i + 1 < ns.length → par ns (i + 1) ∈ (row ns i).tail := fun hh => by
          rcases hmem hh with e | e
          · exact absurd ⟨hh, e⟩ hk
          · exact e
        have hno : ∀ m, 1 ≤ m → m ≤ ns.length - 1 → par ns m ≠ i := fun m g1 g2 => by
          by_cases e : m ≤ i
          · obtain ⟨z, z1, z2, _⟩ := par_lt ns hgi g1 e
            omega
          · obtain ⟨z, z1, z2⟩ := tail_mem ns hgi (hlt (by omega))
            exact (noKid ns (i := i) (j := i + 1) (by omega) (by omega) m (by omega) (hg m (by omega))).1
        have hL := lastc_no ns i (ns.length - 1) hno
        have hF := firstc_none ns (ns.length - 1) i hL
        rw [← hri.2.1] at hL
        rw [← hri.1] at hF
        have e1 : (⟨(nd ns i).Name, bs [], (nd ns i).Attrs, []⟩ : dom_Part).Name ≠ bs [] := k2
        refine ⟨⟨(nd ns i).Name, bs [], (nd ns i).Attrs, []⟩, i + 1, by omega, by omega, ?_, by rw [nsz_elem e1]; rfl, by rw [nsz_elem e1, psize_eq]; rfl, by rw [okP_eq]; exact ⟨by simp only; omega, trivial⟩, hlt, fun m g1 g2 => by omega⟩
        rw [lay_elem e1, hdrop, List.cons_append]
        simp only [lays, List.length_nil, if_pos, lastOf, List.nil_append]
        congr 1
        unfold enode par
        generalize nd ns i = x at *
        cases x
        simp_all
end
end Go.Proofs.YtklcdfnhdljkjaaDoor
namespace Go.Proofs.YtklcdfnhdljkjaaDoor
open Go.RowKit Go.Sl
/-! # What is laid of a good Part is linked -/
mutual
def goodP : dom_Part → Prop
  | ⟨nm, tx, at_, ks⟩ => (nm = bs [] → tx ≠ bs []) ∧ (nm ≠ bs [] → at_.length ≤ 64 ∧ (∀ i, attP at_ i) ∧ goodPs ks)
def goodPs : List dom_Part → Prop
  | [] => True
  | k :: ks => goodP k ∧ goodPs ks
end
mutual
def hgt : dom_Part → Nat
  | ⟨_, _, _, ks⟩ => 1 + hgts ks
def hgts : List dom_Part → Nat
  | [] => 0
  | k :: ks => max (hgt k) (hgts ks)
end
theorem lastOf_nat : ∀ (ks : List dom_Part) (b : Nat) (pr : Int), ks ≠ [] → ∃ c : Nat, lastOf ks b pr = (c : Int)
  | [], _, _, h => absurd rfl h
  | k :: ks, b, pr, _ => by
    by_cases h : ks = []
    · subst h; exact ⟨b, rfl⟩
    · exact lastOf_nat ks (b + nsz k) b h
section
variable (ns : List api_Node)
def factP (j : Nat) : Prop := aloneP (nd ns j)
def kidP (j : Nat) : Prop := okS ns (j - 1) ∧ stepP ns j
def endL (e m : Nat) : Prop := (nd ns m).Last = lastc ns e m ∧ (lastc ns e m = -1 → (nd ns m).First = -1) ∧ (lastc ns e m ≠ -1 → (nd ns (lastc ns e m).toNat).Next = -1)
def segP (b : Nat) (l : List api_Node) : Prop := ∀ j x, l[j]? = some x → b + j < ns.length ∧ nd ns (b + j) = x
variable {ns}
theorem segP.left {b : Nat} {l r : List api_Node} (h : segP ns b (l ++ r)) : segP ns b l := fun j x hx => h j x (by rw [List.getElem?_append_left (List.getElem?_eq_some_iff.1 hx).1]; exact hx)
theorem segP.right {b : Nat} {l r : List api_Node} (h : segP ns b (l ++ r)) : segP ns (b + l.length) r := fun j x hx => by
  have := h (l.length + j) x (by rw [List.getElem?_append_right (by omega), Nat.add_sub_cancel_left]; exact hx)
  rwa [Nat.add_assoc]
theorem lastc_same {e a : Nat} {p : Int} (h : ∀ j, a < j → j ≤ e → par ns j ≠ p) (ha : a ≤ e) : lastc ns e p = lastc ns a p := by
  induction e with
  | zero => rw [show a = 0 by omega]
  | succ e ih =>
    by_cases q : a = e + 1
    · rw [q]
    · rw [lastc_succ, if_neg (h (e + 1) (by omega) (Nat.le_refl _)), ih (fun j h1 h2 => h j h1 (by omega)) (by omega)]
theorem endL.more {e e' m : Nat} (h : endL ns e m) (he : e ≤ e') (hp : ∀ j, e < j → j ≤ e' → par ns j ≠ m) : endL ns e' m := by
  unfold endL
  rw [lastc_same hp he]; exact h
theorem row_cons' {i : Nat} (h : good ns i) : ∃ tl, row ns i = (i : Int) :: tl := by
  obtain ⟨tl, h1, _⟩ := good.inv ns h
  exact ⟨tl, h1⟩
theorem pop_self {i : Nat} (h : good ns i) : pop i (row ns i) = row ns i := by
  obtain ⟨tl, e⟩ := row_cons' h
  rw [e, pop_cons_eq]
theorem lay_head' (p : dom_Part) (b : Nat) (pa pr nx : Int) : ∃ x r, lay p b pa pr nx = x :: r ∧ x.Parent = pa ∧ x.Prev = pr ∧ x.Next = nx ∧ x.Name = p.Name ∧ (x.Kind = 2 ↔ p.Name = bs []) ∧ (x.Kind = 1 ↔ p.Name ≠ bs []) := by
  by_cases h : p.Name = bs []
  · exact ⟨_, _, by rw [lay_text h], rfl, rfl, rfl, h.symm, by simp [tnode, h], by simp [tnode, h]⟩
  · exact ⟨_, _, by rw [lay_elem h], rfl, rfl, rfl, rfl, by simp [enode, h], by simp [enode, h]⟩
mutual
theorem lay_claim : ∀ (p : dom_Part) (b : Nat) (pa pr nx : Int), goodP p → segP ns b (lay p b pa pr nx) → good ns b →
    good ns (b + nsz p - 1) ∧ (∀ z : Nat, z < b → pop z (row ns (b + nsz p - 1)) = pop z (row ns b)) ∧ (∀ j, b < j → j < b + nsz p → kidP ns j ∧ (b : Int) ≤ par ns j) ∧
    (∀ j, b ≤ j → j < b + nsz p → factP ns j ∧ endL ns (b + nsz p - 1) j ∧ (row ns j).length + 1 ≤ (row ns b).length + hgt p)
  | ⟨nm, tx, at_, ks⟩, b, pa, pr, nx, hg, hs, hb => by
    unfold goodP at hg
    by_cases h : nm = bs []
    · have e0 : lay ⟨nm, tx, at_, ks⟩ b pa pr nx = [tnode tx pa pr nx] := lay_text h ..
      have e1 : nsz ⟨nm, tx, at_, ks⟩ = 1 := nsz_text h
      rw [e0] at hs
      obtain ⟨_, h2⟩ := hs 0 _ rfl
      rw [Nat.add_zero] at h2
      rw [e1, Nat.add_sub_cancel]
      have hl := good.lastc_none ns hb b (Nat.le_refl _)
      refine ⟨hb, fun _ _ => rfl, fun j h1 h2 => by omega, fun j h1 h3 => ?_⟩
      obtain rfl : j = b := by omega
      refine ⟨?_, ⟨by rw [h2, hl]; rfl, fun _ => by rw [h2]; rfl, fun q => absurd hl q⟩, by simp only [hgt]; omega⟩
      unfold factP
      rw [h2]
      exact .inl ⟨rfl, rfl, hg.1 h, rfl, rfl, rfl⟩
    · have e0 := lay_elem (p := ⟨nm, tx, at_, ks⟩) h b pa pr nx
      have e1 : nsz ⟨nm, tx, at_, ks⟩ = 1 + nszs ks := nsz_elem h
      obtain ⟨g1, g2, g6⟩ := hg.2 h
      rw [e0] at hs
      obtain ⟨_, h2⟩ := hs 0 _ rfl
      rw [Nat.add_zero] at h2
      have hs2 : segP ns (b + 1) (lays ks (b + 1) b (-1) (-1)) := segP.right (l := [_]) hs
      have hl := good.lastc_none ns hb b (Nat.le_refl _)
      have hk : (nd ns b).Kind = 1 := by rw [h2]; rfl
      have hn : (nd ns b).Name = nm := by rw [h2]; rfl
      obtain ⟨c1, c2, c3, c4, c5, c6⟩ := lays_claim ks (b + 1) b (-1) g6 hs2 (by omega) (by omega) (by simpa using hb) hb (fun z _ => by simp) hk (by simpa using hl)
        (fun hne => ⟨fun _ => by rw [h2]; simp only [enode, List.length_eq_zero_iff, hne]; rfl, fun q => absurd rfl q⟩)
      have ee : b + nsz ⟨nm, tx, at_, ks⟩ - 1 = b + 1 + nszs ks - 1 := by rw [e1]; omega
      rw [ee, e1]
      refine ⟨c1, fun z hz => c2 z (by omega), fun j j1 j2 => ⟨(c5 j (by omega) (by omega)).1, ?_⟩, fun j j1 j2 => ?_⟩
      · rcases (c5 j (by omega) (by omega)).2 with q | q <;> omega
      · by_cases hj : j = b
        · subst hj
          refine ⟨.inr ⟨hk, by rw [hn]; exact h, by rw [h2]; rfl, by rw [h2]; exact g1, by rw [h2]; exact g2⟩, ⟨by rw [c3, h2]; rfl, fun q => ?_, fun q => ?_⟩, by simp only [hgt]; omega⟩
          · by_cases hne : ks = []
            · subst hne; rw [h2]; rfl
            · obtain ⟨c, hc⟩ := lastOf_nat ks (j + 1) (-1) hne
              rw [c3, hc] at q; omega
          · rw [c3]
            refine c4 fun hne => ?_
            subst hne
            rw [c3] at q; exact q rfl
        · obtain ⟨d1, d2, d3⟩ := c6 j (by omega) (by omega)
          refine ⟨d1, d2, ?_⟩
          simp only [hgt]; omega
theorem lays_claim : ∀ (ks : List dom_Part) (b q : Nat) (pr : Int), goodPs ks → segP ns b (lays ks b q pr (-1)) → 1 ≤ b → q < b → good ns (b - 1) → good ns q → (∀ z : Nat, z ≤ q → pop z (row ns (b - 1)) = pop z (row ns q)) →
    (nd ns q).Kind = 1 → lastc ns (b - 1) q = pr → (ks ≠ [] → (pr = -1 → (nd ns q).First = b) ∧ (pr ≠ -1 → (nd ns pr.toNat).Next = b)) →
    good ns (b + nszs ks - 1) ∧ (∀ z : Nat, z ≤ q → pop z (row ns (b + nszs ks - 1)) = pop z (row ns q)) ∧ lastc ns (b + nszs ks - 1) q = lastOf ks b pr ∧ (ks ≠ [] → (nd ns (lastOf ks b pr).toNat).Next = -1) ∧
    (∀ j, b ≤ j → j < b + nszs ks → kidP ns j ∧ (par ns j = q ∨ (b : Int) ≤ par ns j)) ∧
    (∀ j, b ≤ j → j < b + nszs ks → factP ns j ∧ endL ns (b + nszs ks - 1) j ∧ (row ns j).length ≤ (row ns q).length + hgts ks)
  | [], b, q, pr, _, _, _, _, hb, _, hz, _, hl, _ => by
    simp only [nszs, Nat.add_zero, lastOf]
    exact ⟨hb, hz, hl, fun h => absurd rfl h, fun j h1 h2 => by omega, fun j h1 h2 => by omega⟩
  | k :: ks, b, q, pr, hg, hs, h1, hqb, hb, hgq, hz, hk, hl, hf => by
    obtain ⟨b, rfl⟩ : ∃ c, b = c + 1 := ⟨b - 1, by omega⟩
    rw [Nat.add_sub_cancel] at hb hz hl
    unfold goodPs at hg
    simp only [lays] at hs
    have hs1 := hs.left
    have hs2 := hs.right
    rw [lay_len] at hs2
    obtain ⟨f1, f2⟩ := hf (by simp)
    obtain ⟨x, r, a1, a2, a3, a4, a5, a6, a7⟩ := lay_head' k (b + 1) q pr (if ks.length = 0 then -1 else ((b + 1 + nsz k : Nat) : Int))
    obtain ⟨h0, hx⟩ := hs1 0 x (by rw [a1]; rfl)
    rw [Nat.add_zero] at h0 hx
    have hpar : par ns (b + 1) = q := by unfold par; rw [hx, a2]
    have hpop := hz q (Nat.le_refl _)
    rw [pop_self hgq] at hpop
    obtain ⟨tl, htl⟩ := row_cons' hgq
    have hok : okS ns b := ⟨by rw [hpar, hpop, htl]; simp, by rw [hpar]; simpa using hk⟩
    have hgb : good ns (b + 1) := ⟨hb, hok⟩
    have hrow : row ns (b + 1) = ((b + 1 : Nat) : Int) :: row ns q := by rw [row_succ, hpar, hpop]
    have hpos := nsz_pos k
    obtain ⟨c1, c2, c3, c4⟩ := lay_claim k (b + 1) q pr _ hg.1 hs1 hgb
    have hlast : lastc ns (b + 1 + nsz k - 1) q = ((b + 1 : Nat) : Int) := by
      rw [lastc_same (a := b + 1) (fun j j1 j2 => by have := (c3 j j1 (by omega)).2; omega) (by omega), lastc_succ, if_pos hpar]
    have hnext : (nd ns (b + 1)).Next = if ks.length = 0 then -1 else ((b + 1 + nsz k : Nat) : Int) := by rw [hx, a4]
    obtain ⟨d1, d2, d3, d4, d5, d6⟩ := lays_claim ks (b + 1 + nsz k) q ((b + 1 : Nat) : Int) hg.2 hs2 (by omega) (by omega) c1 hgq
      (fun z hzq => by
        rw [c2 z (by omega), hrow]
        rw [pop_cons_ne]
        omega) hk hlast (fun hne => ⟨fun e => by omega, fun _ => by
          rw [show ((b + 1 : Nat) : Int).toNat = b + 1 by omega, hnext, if_neg (by rw [List.length_eq_zero_iff]; exact hne)]⟩)
    have ee : b + 1 + nszs (k :: ks) - 1 = b + 1 + nsz k + nszs ks - 1 := by simp only [nszs]; omega
    have e2 : nszs (k :: ks) = nsz k + nszs ks := rfl
    rw [ee, e2]
    have el : lastOf (k :: ks) (b + 1) pr = lastOf ks (b + 1 + nsz k) ((b + 1 : Nat) : Int) := rfl
    rw [el]
    have hh : hgts (k :: ks) = max (hgt k) (hgts ks) := rfl
    refine ⟨d1, d2, d3, fun _ => ?_, fun j j1 j2 => ?_, fun j j1 j2 => ?_⟩
    · by_cases hne : ks = []
      · subst hne
        simp only [lastOf]
        rw [show ((b + 1 : Nat) : Int).toNat = b + 1 by omega, hnext]; rfl
      · exact d4 hne
    · by_cases hj : j = b + 1
      · subst hj
        refine ⟨⟨hok, ⟨?_, fun e => ?_, fun e => ?_⟩⟩, .inl hpar⟩
        · rw [hx, a3]; unfold prevc; rw [hpar, Nat.add_sub_cancel, hl]
        · rw [hpar, Int.toNat_natCast]
          rw [hx, a3] at e
          exact f1 e
        · rw [hx, a3] at e ⊢
          exact f2 e
      · by_cases hj2 : j < b + 1 + nsz k
        · have := c3 j (by omega) hj2
          exact ⟨this.1, .inr this.2⟩
        · have := d5 j (by omega) (by omega)
          refine ⟨this.1, ?_⟩
          rcases this.2 with e | e
          · exact .inl e
          · right; omega
    · by_cases hj2 : j < b + 1 + nsz k
      · obtain ⟨u1, u2, u3⟩ := c4 j j1 hj2
        refine ⟨u1, u2.more (by omega) fun i i1 i2 => ?_, ?_⟩
        · rcases (d5 i (by omega) (by omega)).2 with e | e <;> omega
        · rw [hrow, List.length_cons] at u3; rw [hh]; omega
      · obtain ⟨u1, u2, u3⟩ := d6 j (by omega) (by omega)
        exact ⟨u1, u2, by rw [hh]; omega⟩
end
/-- A good Part is laid linked; what stands in it. -/
theorem lay_linked {p : dom_Part} (hn : p.Name ≠ bs []) (hg : goodP p) : linkedP (lay p 0 (-1) (-1) (-1)) ∧ (hgt p ≤ 256 → ¬ deepP (lay p 0 (-1) (-1) (-1))) ∧
    (∀ j, 0 < j → j < nsz p → kidP (lay p 0 (-1) (-1) (-1)) j) ∧ (∀ j, j < nsz p → factP (lay p 0 (-1) (-1) (-1)) j) := by
  obtain ⟨ns, hns⟩ : ∃ ns, ns = lay p 0 (-1) (-1) (-1) := ⟨_, rfl⟩
  have hlen : ns.length = nsz p := by rw [hns, lay_len]
  have hseg : segP ns 0 (lay p 0 (-1) (-1) (-1)) := fun j x hx => by
    rw [← hns] at hx
    have hlt := (List.getElem?_eq_some_iff.1 hx).1
    rw [Nat.zero_add]
    refine ⟨hlt, ?_⟩
    have := nd_get ns hlt
    rw [hx] at this
    exact (Option.some.inj this).symm
  obtain ⟨x, r, a1, a2, a3, a4, a5, a6, a7⟩ := lay_head' p 0 (-1) (-1) (-1)
  obtain ⟨_, hx⟩ := hseg 0 x (by rw [a1]; rfl)
  rw [Nat.add_zero] at hx
  have hk : (nd ns 0).Kind = 1 := by rw [hx]; exact a7.2 hn
  have hb : good ns 0 := hk
  obtain ⟨c1, c2, c3, c4⟩ := lay_claim p 0 _ _ _ hg hseg hb
  rw [← hns]
  have hr0 : (row ns 0).length = 1 := rfl
  refine ⟨⟨hk, by rw [hx, a2], by rw [hx, a3], by rw [hx, a4], (c4 0 (Nat.le_refl _) (by have := nsz_pos p; omega)).1, fun j j1 j2 => ⟨(c4 j (by omega) (by omega)).1, (c3 j j1 (by omega)).1.1, (c3 j j1 (by omega)).1.2⟩, fun j j1 => ?_⟩, fun hh => ?_, fun j j1 j2 => (c3 j j1 (by omega)).1, fun j j1 => (c4 j (by omega) (by omega)).1⟩
  · have := (c4 j (by omega) (by omega)).2.1
    rw [Nat.zero_add] at this
    unfold endP
    rw [hlen]; exact this
  · rintro ⟨j, j1, j2⟩
    have := (c4 j (by omega) (by omega)).2.2
    omega
end
end Go.Proofs.YtklcdfnhdljkjaaDoor
