/-
  Walks and laws of this seat; the base is the text Base.
-/
import Derived.Test.YtmkcglpeidbblaaDoorQ10C
import Derived.Test.YtmkcglpeidbblaaDoorL10n
namespace Go.Proofs.YtmkcglpeidbblaaDoor
open Go.RowKit Go.Sl
/-! What Match's parts compute, fuel aside. -/
section
variable (ns : List api_Node)
/-- An element of the tree. -/
def elB (p : Int) : Bool := decide (0 ≤ p ∧ p < ns.length ∧ (nd ns p.toNat).Kind = 1)
theorem elB_iff (p : Int) : elB ns p = true ↔ ∃ i : Nat, p = i ∧ i < ns.length ∧ (nd ns i).Kind = 1 := by
  unfold elB
  rw [decide_eq_true_iff]
  constructor
  · intro h; exact ⟨p.toNat, by omega, by omega, h.2.2⟩
  · rintro ⟨i, rfl, h1, h2⟩; exact ⟨by omega, by omega, h2⟩
theorem element_eq (n : Nat) (p : Int) : match_element n ⟨ns⟩ p = some (elB ns p) := by
  unfold match_element match_element_k1 elB
  by_cases h1 : 0 ≤ p
  · rw [decide_eq_true h1, cond_true]
    by_cases h2 : p < ns.length
    · rw [show decide (p < (((⟨ns⟩ : api_Tree).Nodes.length : Nat) : Int)) = true from decide_eq_true h2, cond_true]
      obtain ⟨i, rfl⟩ : ∃ i : Nat, p = i := ⟨p.toNat, by omega⟩
      have hi : i < ns.length := by omega
      rw [get_nd hi, Option.bind_some]
      simp [hi]
    · rw [show decide (p < (((⟨ns⟩ : api_Tree).Nodes.length : Nat) : Int)) = false from decide_eq_false h2, cond_false]
      simp [h2]
  · rw [decide_eq_false h1, cond_false]
    simp [h1]
/-- The element beside. -/
def besS (back : Bool) : Nat → Int → Option Int
  | 0, _ => none
  | k + 1, c =>
    let d := if back then (nd ns c.toNat).Prev else (nd ns c.toNat).Next
    if d < 0 ∨ (ns.length : Int) ≤ d then none else if (nd ns d.toNat).Kind = 1 then some d else besS back k d
def besR (o : Option Int) : Int × Bool := match o with
  | some d => (d, true)
  | none => (0, false)
theorem beside_l2 (n : Nat) (back : Bool) (hL : ns.length ≤ 1048576) : ∀ (d k i j : Nat), ns.length - j = d → d + 2 ≤ k → i < ns.length → match_beside_l2 n ⟨ns⟩ back k (i : Int) (j : Int) = some (besR (besS ns back d i)) := by
  intro d
  induction d with
  | zero =>
    intro k i j hd hk hi
    obtain ⟨k, rfl⟩ : ∃ k', k = k' + 1 := ⟨k - 1, by omega⟩
    rw [match_beside_l2, show decide ((j : Int) < (((⟨ns⟩ : api_Tree).Nodes.length : Nat) : Int)) = false from decide_eq_false (by show ¬ (j : Int) < (ns.length : Int); omega), cond_false]
    rfl
  | succ d ih =>
    intro k i j hd hk hi
    obtain ⟨k, rfl⟩ : ∃ k', k = k' + 1 := ⟨k - 1, by omega⟩
    have key : ∀ c : Int, match_beside_k3 n ⟨ns⟩ j (match_beside_l2 n ⟨ns⟩ back k) c = some (besR (if c < 0 ∨ (ns.length : Int) ≤ c then none else if (nd ns c.toNat).Kind = 1 then some c else besS ns back d c)) := fun c => by
      unfold match_beside_k3
      by_cases hc : c < 0 ∨ (ns.length : Int) ≤ c
      · rw [if_pos hc, show (decide (c < 0) || decide ((((⟨ns⟩ : api_Tree).Nodes.length : Nat) : Int) ≤ c)) = true by simpa using hc, cond_true]
        rfl
      · rw [if_neg hc, show (decide (c < 0) || decide ((((⟨ns⟩ : api_Tree).Nodes.length : Nat) : Int) ≤ c)) = false by simpa [not_or] using hc, cond_false, element_eq, Option.bind_some]
        have hc' : 0 ≤ c ∧ c < ns.length := by omega
        by_cases hK : (nd ns c.toNat).Kind = 1
        · rw [show elB ns c = true from decide_eq_true ⟨hc'.1, hc'.2, hK⟩, cond_true, if_pos hK]; rfl
        · rw [show elB ns c = false from decide_eq_false (fun h => hK h.2.2), cond_false, if_neg hK, w64_succ (by omega)]
          obtain ⟨m, rfl⟩ : ∃ m : Nat, c = m := ⟨c.toNat, by omega⟩
          exact ih k m (j + 1) (by omega) (by omega) (by omega)
    rw [match_beside_l2, show decide ((j : Int) < (((⟨ns⟩ : api_Tree).Nodes.length : Nat) : Int)) = true from decide_eq_true (by show (j : Int) < (ns.length : Int); omega), cond_true]
    cases back
    · rw [cond_false, get_nd hi, Option.bind_some, key]; rfl
    · rw [cond_true, get_nd hi, Option.bind_some, key]; rfl
theorem beside_eq {n : Nat} (back : Bool) (hn : 1048600 ≤ n) (hL : ns.length ≤ 1048576) {i : Nat} (hi : i < ns.length) : match_beside n ⟨ns⟩ (i : Int) back = some (besR (besS ns back ns.length i)) := by
  unfold match_beside
  exact beside_l2 ns n back hL ns.length n i 0 (by omega) (by omega) hi
/-! Attr, Index -/
def atr (x : api_Node) (name : ByteArray) : ByteArray × Bool := match x.Attrs.find? fun a => decide (a.Name = name) with
  | some a => (a.Value, true)
  | none => (bs [], false)
theorem attr_l3 (name : ByteArray) (x : api_Node) (hl : x.Attrs.length ≤ 1048576) : ∀ (d k m : Nat), x.Attrs.length - m ≤ d → d + 2 ≤ k → (∀ i, i < m → ∀ a, x.Attrs[i]? = some a → a.Name ≠ name) → dom_Attr_l3 name x k (m : Int) = some (atr x name) := by
  intro d
  have fin : ∀ (k m : Nat), ¬ m < x.Attrs.length → (∀ i, i < m → ∀ a, x.Attrs[i]? = some a → a.Name ≠ name) → dom_Attr_l3 name x (k + 1) (m : Int) = some (atr x name) := fun k m hm h => by
    rw [dom_Attr_l3, decide_eq_false (show ¬ (m : Int) < (x.Attrs.length : Int) by omega), cond_false]
    have : x.Attrs.find? (fun a => decide (a.Name = name)) = none := by
      rw [List.find?_eq_none]
      intro a ha
      obtain ⟨i, hi, rfl⟩ := List.getElem_of_mem ha
      have := h i (by omega) x.Attrs[i] (by simp [hi])
      simpa using this
    unfold atr
    rw [this]; rfl
  induction d with
  | zero =>
    intro k m hd hk h
    obtain ⟨k, rfl⟩ : ∃ k', k = k' + 1 := ⟨k - 1, by omega⟩
    exact fin k m (by omega) h
  | succ d ih =>
    intro k m hd hk h
    obtain ⟨k, rfl⟩ : ∃ k', k = k' + 1 := ⟨k - 1, by omega⟩
    by_cases hm : m < x.Attrs.length
    · have e2 : geti x.Attrs (m : Int) = some x.Attrs[m] := by rw [geti_nat]; simp [hm]
      rw [dom_Attr_l3, decide_eq_true (show (m : Int) < (x.Attrs.length : Int) by omega), cond_true, e2, Option.bind_some]
      by_cases hN : x.Attrs[m].Name = name
      · rw [decide_eq_true hN, cond_true]
        have : x.Attrs.find? (fun a => decide (a.Name = name)) = some x.Attrs[m] := by
          rw [List.find?_eq_some_iff_getElem]
          exact ⟨by simpa using hN, m, hm, rfl, fun j hj => by simpa using h j hj _ (by simp [show j < x.Attrs.length by omega])⟩
        unfold atr
        rw [this]
      · rw [decide_eq_false hN, cond_false, w64_succ (by omega)]
        refine ih k (m + 1) (by omega) (by omega) fun i hi a ha => ?_
        by_cases e : i = m
        · subst e; rw [List.getElem?_eq_getElem hm] at ha; obtain rfl := Option.some.inj ha; exact hN
        · exact h i (by omega) a ha
    · exact fin k m hm h
theorem attr_eq {n : Nat} (hn : 1048600 ≤ n) (hS : SB_api_Tree ⟨ns⟩) {i : Nat} (hi : i < ns.length) (hk : (nd ns i).Kind = 1) (name : ByteArray) : dom_Attr n ⟨ns⟩ (i : Int) name = some (atr (nd ns i) name) := by
  have hl : (nd ns i).Attrs.length ≤ 1048576 := (SB.node hS hi).2.2.2.1.1
  unfold dom_Attr dom_Attr_k1
  rw [has_in n hi, Option.bind_some, Bool.not_true, cond_false, get_nd hi, Option.bind_some, decide_eq_false (not_not_intro hk), cond_false, Option.bind_some]
  exact attr_l3 name _ hl (nd ns i).Attrs.length n 0 (by omega) (by omega) (fun i hi => by omega)
noncomputable def idx (i : Nat) : Int := open Classical in if h : ∃ e, Eld ns (nd ns i).Prev e then ((1 + h.choose : Nat) : Int) else 0
theorem index_eq (h : RT ns) {n : Nat} (hn : 5000 ≤ n) {i : Nat} (hi : i < ns.length) (hk : (nd ns i).Kind = 1) : dom_Index n ⟨ns⟩ (i : Int) = some (idx ns i) := by
  obtain ⟨e, he, _, hr, _⟩ := Index_in h hn hi hk
  rw [hr]
  unfold idx
  rw [dif_pos ⟨e, he⟩, Eld.uniq (Exists.choose_spec (⟨e, he⟩ : ∃ e, Eld ns (nd ns i).Prev e)) he]
/-! FieldsFunc's pieces -/
def blankN (x : Nat) : Bool := decide ((x : Int) = 9) || (decide ((x : Int) = 10) || (decide ((x : Int) = 12) || decide ((x : Int) = 32)))
theorem fields_eq (n : Nat) {s : ByteArray} (hs : s.size ≤ 4294967296) : strings_FieldsFunc n s (fun z0 => match_holds_1 n z0) = some (Lib.goFieldsP blankN s) := by
  unfold strings_FieldsFunc
  rw [decide_eq_true hs, cond_true]
  rfl
theorem spans_length (p : Nat → Bool) (s : ByteArray) : ∀ (f pos : Nat) (st : Option Nat) (acc : List (Nat × Nat)), (Lib.spansFromP p s f pos st acc).1.length ≤ acc.length + f
  | 0, _, _, _ => by simp [Lib.spansFromP]
  | f + 1, pos, st, acc => by
    unfold Lib.spansFromP
    split
    · split <;> cases st
      · have := spans_length p s f (pos + (Utf8.decode s pos).2) none acc; simp only at this ⊢; omega
      · rename_i a; have := spans_length p s f (pos + (Utf8.decode s pos).2) none (acc ++ [(a, pos)]); simp only [List.length_append, List.length_cons, List.length_nil] at this ⊢; omega
      · have := spans_length p s f (pos + (Utf8.decode s pos).2) (some pos) acc; simp only at this ⊢; omega
      · rename_i a; have := spans_length p s f (pos + (Utf8.decode s pos).2) (some a) acc; simp only at this ⊢; omega
    · simp
theorem fields_length (p : Nat → Bool) (s : ByteArray) : (Lib.goFieldsP p s).length ≤ s.size + 1 := by
  unfold Lib.goFieldsP Lib.spansOfP
  rw [List.length_map]
  have := spans_length p s s.size 0 none []
  unfold Lib.closeSpans
  split <;> simp_all <;> omega
theorem fields_size (p : Nat → Bool) (s : ByteArray) {x : ByteArray} (hx : x ∈ Lib.goFieldsP p s) : x.size ≤ s.size := by
  unfold Lib.goFieldsP at hx
  obtain ⟨q, _, rfl⟩ := List.mem_map.1 hx
  rw [ByteArray.size_extract]
  omega
/-- Small letters. -/
def lowS (s : ByteArray) : ByteArray := bs (Lib.mapD (fun x => lowR x) s.data.toList)
theorem small_lowS (n : Nat) {s : ByteArray} (hs : s.size < 35184372088832) : match_small n s = some (lowS s) := by
  unfold match_small strings_Map
  rw [decide_eq_true hs, cond_true, Option.bind_some]
  have : (fun x : Int => (match_small_1 n x).getD 0) = fun x => lowR x := funext fun x => by rw [small1_eq]; rfl
  rw [show (fun x : Int => ((fun z0 => match_small_1 n z0) x).getD 0) = fun x => lowR x from this]
  rfl
/-! holds, means -/
noncomputable def holdsB (i : Nat) (t : sheet_Test) : Bool :=
  bif decide (t.Kind = 1) then (atr (nd ns i) (bs [105, 100])).2 && decide ((atr (nd ns i) (bs [105, 100])).1 = t.Name) else
  bif decide (t.Kind = 2) then (Lib.goFieldsP blankN (atr (nd ns i) (bs [99, 108, 97, 115, 115])).1).any fun w => decide (lowS w = t.Name) else
  bif decide (t.Kind = 3) then (atr (nd ns i) t.Name).2 else
  bif decide (t.Kind = 4) then (atr (nd ns i) t.Name).2 && decide ((atr (nd ns i) t.Name).1 = t.Value) else
  bif decide (t.Kind = 5) then decide (idx ns i = 1) else
  bif decide (t.Kind = 6) then !(besR (besS ns false ns.length i)).2 else
  bif decide (t.Kind = 7) then decide (idx ns i = t.N) else false
theorem holds_l3 (n : Nat) (t : sheet_Test) (l : List ByteArray) (hl : l.length ≤ 2097152) (hz : ∀ x ∈ l, x.size ≤ 1048576) : ∀ (d k j : Nat), l.length - j ≤ d → d + 2 ≤ k → match_holds_l3 n t l k (j : Int) = some ((l.drop j).any fun w => decide (lowS w = t.Name)) := by
  intro d
  have fin : ∀ (k j : Nat), ¬ j < l.length → match_holds_l3 n t l (k + 1) (j : Int) = some ((l.drop j).any fun w => decide (lowS w = t.Name)) := fun k j hj => by
    rw [match_holds_l3, decide_eq_false (show ¬ (j : Int) < (l.length : Int) by omega), cond_false, List.drop_eq_nil_of_le (by omega)]
    rfl
  induction d with
  | zero =>
    intro k j hd hk
    obtain ⟨k, rfl⟩ : ∃ k', k = k' + 1 := ⟨k - 1, by omega⟩
    exact fin k j (by omega)
  | succ d ih =>
    intro k j hd hk
    obtain ⟨k, rfl⟩ : ∃ k', k = k' + 1 := ⟨k - 1, by omega⟩
    by_cases hj : j < l.length
    · have hz' := hz _ (List.getElem_mem hj)
      rw [match_holds_l3, decide_eq_true (show (j : Int) < (l.length : Int) by omega), cond_true, geti_nat, List.getElem?_eq_getElem hj, Option.bind_some, small_lowS n (by omega), Option.bind_some, List.drop_eq_getElem_cons hj, List.any_cons]
      by_cases hN : lowS l[j] = t.Name
      · rw [decide_eq_true hN, cond_true, Bool.true_or]
      · rw [decide_eq_false hN, cond_false, Bool.false_or, w64_succ (by omega)]
        exact ih k (j + 1) (by omega) (by omega)
    · exact fin k j hj
theorem atr_size (hS : SB_api_Tree ⟨ns⟩) {i : Nat} (hi : i < ns.length) (name : ByteArray) : (atr (nd ns i) name).1.size ≤ 1048576 := by
  unfold atr
  split
  · rename_i a ha
    exact ((SB.node hS hi).2.2.2.1.2 a (List.mem_of_find?_eq_some ha)).2
  · show 0 ≤ _; omega
theorem holds_eq (h : RT ns) (hS : SB_api_Tree ⟨ns⟩) {n : Nat} (hn : 3000000 ≤ n) {i : Nat} (hi : i < ns.length) (hk : (nd ns i).Kind = 1) (t : sheet_Test) : match_holds n ⟨ns⟩ (i : Int) t = some (holdsB ns i t) := by
  have hL : ns.length ≤ 1048576 := hS.1
  unfold match_holds holdsB
  simp only [attr_eq ns (n := n) (by omega) hS hi hk, index_eq ns h (n := n) (by omega) hi hk, beside_eq ns (n := n) _ (by omega) hL hi, Option.bind_some]
  have h2 : (strings_FieldsFunc n (atr (nd ns i) (bs [99, 108, 97, 115, 115])).1 (fun z0 => match_holds_1 n z0)).bind (fun x20 => match_holds_l3 n t x20 n 0) = some ((Lib.goFieldsP blankN (atr (nd ns i) (bs [99, 108, 97, 115, 115])).1).any fun w => decide (lowS w = t.Name)) := by
    have hz := atr_size ns hS hi (bs [99, 108, 97, 115, 115])
    rw [fields_eq n (by omega), Option.bind_some]
    have hl := fields_length blankN (atr (nd ns i) (bs [99, 108, 97, 115, 115])).1
    exact holds_l3 n t _ (by omega) (fun x hx => by have := fields_size blankN _ hx; omega) _ n 0 (Nat.le_refl _) (by omega)
  rw [h2]
  cases decide (t.Kind = 1)
  · cases decide (t.Kind = 2)
    · cases decide (t.Kind = 3)
      · cases decide (t.Kind = 4)
        · cases decide (t.Kind = 5)
          · cases decide (t.Kind = 6)
            · cases decide (t.Kind = 7)
              · rfl
              · rfl
            · rfl
          · rfl
        · rfl
      · rfl
    · rfl
  · rfl
noncomputable def meansB (i : Nat) (s : sheet_Step) : Bool := (decide (s.Name = bs []) || decide (s.Name = (nd ns i).Name)) && s.Tests.all (holdsB ns i)
theorem means_l3 (h : RT ns) (hS : SB_api_Tree ⟨ns⟩) {n : Nat} (hn : 3000000 ≤ n) {i : Nat} (hi : i < ns.length) (hk : (nd ns i).Kind = 1) (s : sheet_Step) (hl : s.Tests.length ≤ 1048580) : ∀ (d k j : Nat), s.Tests.length - j ≤ d → d + 2 ≤ k → match_means_l3 n ⟨ns⟩ (i : Int) s k (j : Int) = some ((s.Tests.drop j).all (holdsB ns i)) := by
  intro d
  have fin : ∀ (k j : Nat), ¬ j < s.Tests.length → match_means_l3 n ⟨ns⟩ (i : Int) s (k + 1) (j : Int) = some ((s.Tests.drop j).all (holdsB ns i)) := fun k j hj => by
    rw [match_means_l3, decide_eq_false (show ¬ (j : Int) < (s.Tests.length : Int) by omega), cond_false, List.drop_eq_nil_of_le (by omega)]
    rfl
  induction d with
  | zero =>
    intro k j hd hk
    obtain ⟨k, rfl⟩ : ∃ k', k = k' + 1 := ⟨k - 1, by omega⟩
    exact fin k j (by omega)
  | succ d ih =>
    intro k j hd hk'
    obtain ⟨k, rfl⟩ : ∃ k', k = k' + 1 := ⟨k - 1, by omega⟩
    by_cases hj : j < s.Tests.length
    · rw [match_means_l3, decide_eq_true (show (j : Int) < (s.Tests.length : Int) by omega), cond_true, geti_nat, List.getElem?_eq_getElem hj, Option.bind_some, holds_eq ns h hS hn hi hk, Option.bind_some, List.drop_eq_getElem_cons hj, List.all_cons]
      cases holdsB ns i s.Tests[j]
      · rfl
      · rw [Bool.not_true, cond_false, Bool.true_and, w64_succ (by omega)]
        exact ih k (j + 1) (by omega) (by omega)
    · exact fin k j hj
theorem means_eq (h : RT ns) (hS : SB_api_Tree ⟨ns⟩) {n : Nat} (hn : 3000000 ≤ n) {i : Nat} (hi : i < ns.length) (hk : (nd ns i).Kind = 1) (s : sheet_Step) (hl : s.Tests.length ≤ 1048580) : match_means n ⟨ns⟩ (i : Int) s = some (meansB ns i s) := by
  have hl3 := means_l3 ns h hS hn hi hk s hl s.Tests.length n 0 (by omega) (by omega)
  unfold match_means match_means_k1 meansB
  rw [get_nd hi, Option.bind_some]
  rw [show match_means_l3 n ⟨ns⟩ (i : Int) s n 0 = _ from hl3]
  by_cases h1 : s.Name = bs []
  · rw [decide_eq_false (not_not_intro h1), cond_false, decide_eq_true h1]; simp
  · rw [decide_eq_true h1, cond_true, decide_eq_false h1]
    by_cases h2 : s.Name = (nd ns i).Name
    · rw [decide_eq_false (not_not_intro h2), decide_eq_true h2]; simp
    · rw [decide_eq_true h2, decide_eq_false h2]; rfl
end
end Go.Proofs.YtmkcglpeidbblaaDoor
