/-
  Walks and laws of this seat; the base is the text Base.
-/
import Derived.Test.YtekcbgnkikmhpaaPI
namespace Go.Proofs.Ytekcbgnkikmhpaa
open Go.RowKit Go.Sl

def okA (x : api_Node) : Prop := x.Attrs.length * 32 ≤ reachBytes
theorem okA_set {l : List api_Node} (h : ∀ x ∈ l, okA x) (i : Nat) {y : api_Node} (hy : okA y) : ∀ x ∈ l.set i y, okA x := fun x hx => by
  rcases List.mem_or_eq_of_mem_set hx with hx | rfl
  · exact h x hx
  · exact hy
theorem S_attrs {p : dom_Part} (h : S_dom_Part p) : p.Attrs.length * 32 ≤ reachBytes ∧ ∀ k ∈ p.Kids, S_dom_Part k := by
  cases h with
  | mk _ _ h3 _ h5 => exact ⟨h3.1, h5⟩

theorem make_sim : ∀ (s : Nat) (p : dom_Part) (n m : Nat) (nodes : List api_Node) (pa pr : Int), psize p ≤ s → s + 10 ≤ n → s + 10 ≤ m → S_dom_Part p → nodes.length + psize p ≤ 4096 → (∀ x ∈ nodes, okA x) →
    ∃ l, ref5_Lay m nodes (conv p) pa pr = some l ∧ dom_Make_1 n p pa pr ⟨nodes⟩ = some ((nodes.length : Int), ⟨l⟩) ∧ nodes.length < l.length ∧ l.length ≤ nodes.length + psize p ∧ ∀ x ∈ l, okA x := by
  intro s
  induction s with
  | zero => intro p n m nodes pa pr h; have := psize_eq p; omega
  | succ s ih =>
    intro p n m nodes pa pr h hn hm hS hsz hok
    obtain ⟨n, rfl⟩ : ∃ k, n = k + 1 := ⟨n - 1, by omega⟩
    obtain ⟨m, rfl⟩ : ∃ k, m = k + 1 := ⟨m - 1, by omega⟩
    obtain ⟨hat, hkids⟩ := S_attrs hS
    have hp := psize_eq p
    have hlen := pssize_len p.Kids
    have hre : reachBytes = 140737488351232 := rfl
    rw [ref5_Lay, dom_Make_1]
    unfold ref5_Lay_b dom_Make_1_b slices_Clone
    have hcn : (conv p).Name = p.Name := by rw [conv_eq]
    have hct : (conv p).Text = p.Text := by rw [conv_eq]
    have hca : (conv p).Attrs = p.Attrs := by rw [conv_eq]
    have hck : (conv p).Kids = p.Kids.map conv := by rw [conv_eq]
    have eA : appM 32 ([] : List api_Attr) p.Attrs = some p.Attrs := by
      rw [appM_eq (by simp only [List.length_nil, Nat.zero_add]; omega), List.nil_append]
    rw [eA, Option.bind_some]
    unfold dom_Make_1_k1
    by_cases hname : p.Name = bs []
    · rw [show decide ((conv p).Name ≠ bs []) = false from decide_eq_false (not_not_intro (hcn.trans hname)), cond_false, decide_eq_true hname, cond_true]
      unfold ref5_Lay_k1 dom_Make_1_k2
      rw [appM_eq (by simp only [List.length_singleton]; omega), Option.bind_some, decide_eq_true (hcn.trans hname), cond_true]
      rw [appM_eq (by simp only [List.length_singleton]; omega), Option.bind_some, decide_eq_true hname, Bool.or_true, cond_true, hname, hct]
      refine ⟨_, rfl, rfl, by simp, by simp; omega, fun x hx => ?_⟩
      rcases List.mem_append.1 hx with hx | hx
      · exact hok x hx
      · simp only [List.mem_singleton] at hx
        subst hx
        simp [okA]
    · rw [show decide ((conv p).Name ≠ bs []) = true from decide_eq_true (by rw [hcn]; exact hname), cond_true, decide_eq_false hname, cond_false, hca, eA, Option.bind_some, hcn]
      unfold ref5_Lay_k1 dom_Make_1_k2
      rw [appM_eq (by simp only [List.length_singleton]; omega), Option.bind_some, decide_eq_false (by rw [hcn]; exact hname), cond_false]
      rw [Option.bind_some, decide_eq_false hname, Bool.or_false]
      rw [show decide ((4096 : Int) < (((nodes ++ [({Kind := 1, Name := p.Name, Text := bs [], Attrs := p.Attrs, Parent := pa, First := -1, Last := -1, Prev := pr, Next := -1} : api_Node)]).length : Nat) : Int)) = false from by simp; omega, cond_false]
      have loop : ∀ (k k' i : Nat) (l : List api_Node) (last : Int), p.Kids.length < k + i → p.Kids.length < k' + i → i ≤ p.Kids.length → nodes.length < l.length → l.length ≤ nodes.length + 1 + pssize (p.Kids.take i) → (∀ x ∈ l, okA x) →
          (last = -1 ∨ ∃ c : Nat, last = c ∧ c < l.length) →
          ∃ l', ref5_Lay_l3 nodes (conv p) (ref5_Lay m) k' l last (i : Int) = some l' ∧ dom_Make_1_l4 p ⟨nodes⟩ (dom_Make_1 n) k l last (i : Int) = some ((nodes.length : Int), ⟨l'⟩) ∧ nodes.length < l'.length ∧ l'.length ≤ nodes.length + psize p ∧ ∀ x ∈ l', okA x := by
        intro k
        induction k with
        | zero => intro k' i l last h1 h2 h3; omega
        | succ k ihk =>
          intro k' i l last h1 h2 h3 h4 h5 h6 h7
          obtain ⟨k', rfl⟩ : ∃ z, k' = z + 1 := ⟨k' - 1, by omega⟩
          rw [ref5_Lay_l3, dom_Make_1_l4, hck]
          by_cases hi : i < p.Kids.length
          · obtain ⟨q, hq⟩ : ∃ q, p.Kids[i]? = some q := ⟨_, List.getElem?_eq_getElem hi⟩
            have hqm := List.mem_of_getElem? hq
            have hqs := pssize_mem hqm
            have htk := pssize_take_succ p.Kids hq
            have htk2 := pssize_take_le p.Kids (i + 1)
            rw [show decide ((i : Int) < ((p.Kids.map conv).length : Int)) = true from by simpa using hi, cond_true, show decide ((i : Int) < (p.Kids.length : Int)) = true from by simpa using hi, cond_true]
            rw [geti_nat, geti_nat, List.getElem?_map, hq, Option.map_some, Option.bind_some, Option.bind_some]
            obtain ⟨l', g1, g2, g3, g4, g5⟩ := ih q n m l (nodes.length : Int) last (by omega) (by omega) (by omega) (hkids q hqm) (by omega) h6
            rw [g1, Option.bind_some, show (dom_Make_1 n q ((⟨nodes⟩ : api_Tree).Nodes.length : Int) last ⟨l⟩) = some ((l.length : Int), ⟨l'⟩) from g2, Option.bind_some]
            -- what goes on behind the binding
            have go : ∀ l'' : List api_Node, l''.length = l'.length → (∀ x ∈ l'', okA x) →
                ∃ z, ref5_Lay_k4 l (i : Int) (ref5_Lay_l3 nodes (conv p) (ref5_Lay m) k') l'' = some z ∧ dom_Make_1_k5 ⟨nodes⟩ (i : Int) (dom_Make_1_l4 p ⟨nodes⟩ (dom_Make_1 n) k) ((l.length : Int), ⟨l'⟩) l'' = some ((nodes.length : Int), ⟨z⟩) ∧ nodes.length < z.length ∧ z.length ≤ nodes.length + psize p ∧ ∀ x ∈ z, okA x := fun l'' hl'' hok'' => by
              unfold ref5_Lay_k4 dom_Make_1_k5
              rw [show decide ((4096 : Int) < (l''.length : Int)) = false from by simp; omega, cond_false, w64_succ (by omega)]
              exact ihk k' (i + 1) l'' (l.length : Int) (by omega) (by omega) (by omega) (by omega) (by omega) hok'' (.inr ⟨l.length, rfl, by omega⟩)
            rcases h7 with rfl | ⟨c, rfl, hc⟩
            · rw [show decide ((0 : Int) ≤ -1) = false from rfl, cond_false, show decide ((-1 : Int) = -1) = true from rfl, cond_true]
              obtain ⟨x, hx⟩ : ∃ x, l'[nodes.length]? = some x := ⟨_, List.getElem?_eq_getElem (by omega)⟩
              dsimp only
              rw [geti_nat, hx]
              simp only [Option.bind_some]
              rw [seti_nat _ (by omega)]
              simp only [Option.bind_some]
              have hxo : okA x := g5 x (List.mem_of_getElem? hx)
              exact go _ (by simp) (okA_set g5 _ hxo)
            · rw [show decide ((0 : Int) ≤ (c : Int)) = true from by simp, cond_true, show decide ((c : Int) = -1) = false from decide_eq_false (by omega), cond_false]
              obtain ⟨x, hx⟩ : ∃ x, l'[c]? = some x := ⟨_, List.getElem?_eq_getElem (by omega)⟩
              dsimp only
              rw [geti_nat, hx]
              simp only [Option.bind_some]
              rw [seti_nat _ (by omega)]
              simp only [Option.bind_some]
              have hxo : okA x := g5 x (List.mem_of_getElem? hx)
              exact go _ (by simp) (okA_set g5 _ hxo)
          · have hie : i = p.Kids.length := by omega
            subst hie
            rw [List.take_length] at h5
            rw [show decide ((p.Kids.length : Int) < ((p.Kids.map conv).length : Int)) = false from by simp, cond_false, show decide ((p.Kids.length : Int) < (p.Kids.length : Int)) = false from by simp, cond_false]
            unfold ref5_Lay_k2 dom_Make_1_k3
            obtain ⟨x, hx⟩ : ∃ x, l[nodes.length]? = some x := ⟨_, List.getElem?_eq_getElem h4⟩
            dsimp only
            rw [geti_nat, hx]
            simp only [Option.bind_some]
            rw [seti_nat _ h4]
            simp only [Option.bind_some]
            have hxo : okA x := h6 x (List.mem_of_getElem? hx)
            exact ⟨_, rfl, rfl, by simpa using h4, by simp; omega, okA_set h6 _ hxo⟩
      have := loop n m 0 (nodes ++ [({Kind := 1, Name := p.Name, Text := bs [], Attrs := p.Attrs, Parent := pa, First := -1, Last := -1, Prev := pr, Next := -1} : api_Node)]) (-1) (by omega) (by omega) (by omega) (by simp) (by simp) (fun x hx => by
        rcases List.mem_append.1 hx with hx | hx
        · exact hok x hx
        · simp only [List.mem_singleton] at hx
          subst hx
          exact hat) (.inl rfl)
      exact this

theorem law5_DomMakes_true {p : dom_Part} (h : S_dom_Part p) : ∃ n, law5_DomMakes n p = some true := by
  refine ⟨5000000000000 + 20, ?_⟩
  have hkn := known_true 5000000000000
  generalize hF : 5000000000000 + 20 = F at *
  unfold law5_DomMakes
  obtain ⟨r, e1, e2⟩ := deep_top p (n := F) (by omega)
  rw [e1, Option.bind_some]
  by_cases hr : 2000 ≤ r
  · rw [decide_eq_true hr, cond_true, hkn]; rfl
  · rw [decide_eq_false hr, cond_false]
    have hsz := e2 (by omega)
    obtain ⟨l, g1, g2, g3, g4, g5⟩ := make_sim (psize p) p F F [] (-1) (-1) (Nat.le_refl _) (by omega) (by omega) h (by simp; omega) (by simp)
    have hre : reachBytes = 140737488351232 := rfl
    have hA : ∀ j, j < l.length → (nd l j).Attrs.length < F ∧ (nd l j).Attrs.length ≤ 9223372036854775806 := fun j hj => by
      have := g5 _ (nd_mem l hj)
      unfold okA at this
      omega
    obtain ⟨a, a1, a2⟩ := dom_Right_eq l (n := F) (by omega)
    obtain ⟨b, b1, b2⟩ := ref5_Right_eq l (n := F) (by omega) hA
    have := rightR.uniq l a2 b2
    subst this
    simp only [List.length_nil, Nat.zero_add] at g4
    unfold dom_Make ref5_Make
    rw [show dom_Make_1 F p (-1) (-1) ({Nodes := ([] : List api_Node)} : api_Tree) = _ from g2, Option.bind_some, a1, Option.bind_some, plain_eq (psize p) p F (Nat.le_refl _) (by omega) (by omega)]
    by_cases ha : a = 0
    · subst ha
      rw [show decide ((0 : Int) ≠ 0) = false from rfl, cond_false, Option.bind_some, Option.bind_some, g1, Option.bind_some, b1, Option.bind_some, show decide ((0 : Int) ≠ 0) = false from rfl, cond_false, Option.bind_some]
      rw [show decide ((0 : Int) = 0) = true from rfl, cond_true, sameTree_refl l (by omega) (by omega) hA, Option.bind_some, cond_true, hkn]
      rfl
    · rw [show decide (a ≠ 0) = true from decide_eq_true ha, cond_true, Option.bind_some, Option.bind_some, g1, Option.bind_some, b1, Option.bind_some, show decide (a ≠ 0) = true from decide_eq_true ha, cond_true, Option.bind_some]
      rw [decide_eq_true rfl, cond_true, sameTree_refl [] (by simp; omega) (by simp) (by simp), Option.bind_some, cond_true, hkn]
      rfl
end Go.Proofs.Ytekcbgnkikmhpaa
