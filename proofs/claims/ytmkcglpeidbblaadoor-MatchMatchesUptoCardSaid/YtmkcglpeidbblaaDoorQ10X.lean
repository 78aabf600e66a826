/-
  Walks and laws of this seat; the base is the text Base.
-/
import Derived.Test.YtmkcglpeidbblaaDoorQ10W
import Derived.Test.YtmkcglpeidbblaaDoorQ10E
import Derived.Test.YtmkcglpeidbblaaDoorL10s
namespace Go.Proofs.YtmkcglpeidbblaaDoor
open Go.RowKit Go.Sl
/-! What the reference computes. -/
def cvT (t : sheet_Test) : ref9_Test := {Kind := t.Kind, Name := t.Name, Value := t.Value, N := t.N}
def cvS (s : sheet_Step) : ref9_Step := {Comb := s.Comb, Name := s.Name, Tests := s.Tests.map cvT}
def cvL (s : sheet_Selector) : ref9_Selector := {Steps := s.Steps.map cvS}
section
variable (ns : List api_Node)
theorem rattr_eq (h : RT ns) {n : Nat} (hn : 1048600 ≤ n) (hS : SB_api_Tree ⟨ns⟩) {i : Nat} (hi : i < ns.length) (hk : (nd ns i).Kind = 1) (name : ByteArray) : ref5_Attr n ⟨ns⟩ (i : Int) name = some (atr (nd ns i) name) := by
  obtain ⟨r, e1, e2⟩ := Attr_same h (n := n) (by omega) (i : Int) name
  rw [attr_eq ns hn hS hi hk] at e1
  rw [e2, Option.some.inj e1]
theorem rindex_eq (h : RT ns) {n : Nat} (hn : 5000 ≤ n) {i : Nat} (hi : i < ns.length) (hk : (nd ns i).Kind = 1) : ref5_Index n ⟨ns⟩ (i : Int) = some (idx ns i) := by
  obtain ⟨r, e1, e2⟩ := Index_same h hn (i : Int)
  rw [index_eq ns h hn hi hk] at e1
  rw [e2, Option.some.inj e1]
theorem rlast_eq (h : RT ns) : ∀ (d i k K : Nat), ns.length - i = d → i < ns.length → d + 2 ≤ k → d ≤ K → ref10_holds_l2 ⟨ns⟩ k (nd ns i).Next = some (!(besR (besS ns false K i)).2) := by
  intro d
  induction d using Nat.strongRecOn with
  | _ d ih =>
    intro i k K hd hi hk hK
    obtain ⟨k, rfl⟩ : ∃ k', k = k' + 1 := ⟨k - 1, by omega⟩
    obtain ⟨K, rfl⟩ : ∃ K', K = K' + 1 := ⟨K - 1, by omega⟩
    rw [ref10_holds_l2, besS]
    simp only [Int.toNat_natCast, Bool.false_eq_true, ite_false]
    rcases h.next hi with hN | ⟨c, hN, hc, hcl, _⟩
    · rw [hN, decide_eq_false (by decide), cond_false, if_pos (.inl (by decide))]
      rfl
    · rw [hN, decide_eq_true (show (0 : Int) ≤ (c : Int) by omega), cond_true, get_nd hcl, Option.bind_some, Option.bind_some, if_neg (by omega), Int.toNat_natCast]
      by_cases hK1 : (nd ns c).Kind = 1
      · rw [decide_eq_true hK1, cond_true, if_pos hK1]; rfl
      · rw [decide_eq_false hK1, cond_false, if_neg hK1]
        exact ih (ns.length - c) (by omega) c k K rfl hcl (by omega) (by omega)
theorem rholds_eq (h : RT ns) (hS : SB_api_Tree ⟨ns⟩) {n : Nat} (hn : 4194400 ≤ n) {i : Nat} (hi : i < ns.length) (hk : (nd ns i).Kind = 1) (t : sheet_Test) : ref10_holds n ⟨ns⟩ (i : Int) (cvT t) = some (holdsB ns i t) := by
  have hL : ns.length ≤ 1048576 := hS.1
  unfold ref10_holds holdsB
  have hz := atr_size ns hS hi (bs [99, 108, 97, 115, 115])
  rw [rattr_eq ns h (by omega) hS hi hk, Option.bind_some, rattr_eq ns h (by omega) hS hi hk, Option.bind_some, rattr_eq ns h (by omega) hS hi hk, Option.bind_some, word_eq hn _ _ hz, Option.bind_some, rindex_eq ns h (by omega) hi hk, Option.bind_some, get_nd hi, Option.bind_some, rlast_eq ns h (ns.length - i) i n ns.length rfl hi (by omega) (by omega), Option.bind_some, fields_word]
  show (bif decide (t.Kind = 1) then _ else _) = _
  cases decide (t.Kind = 1)
  · show (bif decide (t.Kind = 2) then _ else _) = _
    cases decide (t.Kind = 2)
    · show (bif decide (t.Kind = 3) then _ else _) = _
      cases decide (t.Kind = 3)
      · show (bif decide (t.Kind = 4) then _ else _) = _
        cases decide (t.Kind = 4)
        · show (bif decide (t.Kind = 5) then _ else _) = _
          cases decide (t.Kind = 5)
          · show (bif decide (t.Kind = 6) then _ else _) = _
            cases decide (t.Kind = 6)
            · show (bif decide (t.Kind = 7) then _ else _) = _
              cases decide (t.Kind = 7)
              · rfl
              · rfl
            · rfl
          · rfl
        · rfl
      · rfl
    · rfl
  · rfl
theorem rmeans_l3 (h : RT ns) (hS : SB_api_Tree ⟨ns⟩) {n : Nat} (hn : 4194400 ≤ n) {i : Nat} (hi : i < ns.length) (hk : (nd ns i).Kind = 1) (s : sheet_Step) (hl : s.Tests.length ≤ 1048580) : ∀ (d k j : Nat), s.Tests.length - j ≤ d → d + 2 ≤ k → ref10_means_l3 n ⟨ns⟩ (i : Int) (cvS s) k (j : Int) = some ((s.Tests.drop j).all (holdsB ns i)) := by
  intro d
  have hml : (cvS s).Tests.length = s.Tests.length := List.length_map _
  have fin : ∀ (k j : Nat), ¬ j < s.Tests.length → ref10_means_l3 n ⟨ns⟩ (i : Int) (cvS s) (k + 1) (j : Int) = some ((s.Tests.drop j).all (holdsB ns i)) := fun k j hj => by
    rw [ref10_means_l3, hml, decide_eq_false (show ¬ (j : Int) < (s.Tests.length : Int) by omega), cond_false, List.drop_eq_nil_of_le (by omega)]
    rfl
  induction d with
  | zero =>
    intro k j hd hk
    obtain ⟨k, rfl⟩ : ∃ k', k = k' + 1 := ⟨k - 1, by omega⟩
    exact fin k j (by omega)
  | succ d ih =>
    intro k j hd hk'
    obtain ⟨k, rfl⟩ : ∃ k', k = k' + 1 := ⟨k - 1, by omega⟩
    by_cases hj : j < s.Tests.length
    · have eg : geti (cvS s).Tests (j : Int) = some (cvT s.Tests[j]) := by rw [geti_nat]; simp [cvS, hj]
      rw [ref10_means_l3, hml, decide_eq_true (show (j : Int) < (s.Tests.length : Int) by omega), cond_true, eg, Option.bind_some, rholds_eq ns h hS hn hi hk, Option.bind_some, List.drop_eq_getElem_cons hj, List.all_cons]
      cases holdsB ns i s.Tests[j]
      · rfl
      · rw [Bool.not_true, cond_false, Bool.true_and, w64_succ (by omega)]
        exact ih k (j + 1) (by omega) (by omega)
    · exact fin k j hj
theorem rmeans_eq (h : RT ns) (hS : SB_api_Tree ⟨ns⟩) {n : Nat} (hn : 4194400 ≤ n) {i : Nat} (hi : i < ns.length) (s : sheet_Step) (hl : s.Tests.length ≤ 1048580) : ref10_means n ⟨ns⟩ (i : Int) (cvS s) = some (decide ((nd ns i).Kind = 1) && meansB ns i s) := by
  unfold ref10_means ref10_means_k1
  rw [get_nd hi, Option.bind_some]
  by_cases hk : (nd ns i).Kind = 1
  · have hl3 := rmeans_l3 ns h hS hn hi hk s hl s.Tests.length n 0 (by omega) (by omega)
    rw [decide_eq_false (not_not_intro hk), cond_false, decide_eq_true hk, Bool.true_and, Option.bind_some]
    rw [show ref10_means_l3 n ⟨ns⟩ (i : Int) (cvS s) n 0 = _ from hl3]
    unfold meansB
    show (bif decide (s.Name ≠ bs []) then (bif decide (s.Name ≠ (nd ns i).Name) then some false else some ((s.Tests.drop 0).all (holdsB ns i))) else (bif false then some false else some ((s.Tests.drop 0).all (holdsB ns i)))) = _
    by_cases h1 : s.Name = bs []
    · rw [decide_eq_false (not_not_intro h1), cond_false, decide_eq_true h1]; simp
    · rw [decide_eq_true h1, cond_true, decide_eq_false h1]
      by_cases h2 : s.Name = (nd ns i).Name
      · rw [decide_eq_false (not_not_intro h2), decide_eq_true h2]; simp
      · rw [decide_eq_true h2, decide_eq_false h2]; rfl
  · rw [decide_eq_true hk, cond_true, decide_eq_false hk]; rfl
/-! ahead -/
theorem par_cases (h : RT ns) {i : Nat} (hi : i < ns.length) : ((nd ns i).Parent = -1 ∧ elB ns (nd ns i).Parent = false) ∨ ∃ q : Nat, (nd ns i).Parent = q ∧ q < i ∧ (nd ns q).Kind = 1 ∧ elB ns (nd ns i).Parent = true := by
  by_cases h0 : i = 0
  · subst h0
    have : (nd ns 0).Parent = -1 := h.par0
    exact .inl ⟨this, by rw [this]; exact decide_eq_false (by omega)⟩
  · obtain ⟨q, e1, e2, e3, _⟩ := h.parq (j := i) (by omega) hi
    replace e1 : (nd ns i).Parent = (q : Int) := e1
    exact .inr ⟨q, e1, e2, e3, by rw [e1]; exact elB_nat ns (by omega) e3⟩
theorem rP (h : RT ns) (hL : ns.length ≤ 1048576) : ∀ (i : Nat), i < ns.length → ∀ (k K : Nat) (acc : List Int), i + 2 ≤ k → i ≤ K → acc.length + i ≤ 2097152 → ref10_ahead_l4 ⟨ns⟩ 1 k acc (nd ns i).Parent = some (acc ++ chP ns K i) := by
  intro i
  induction i using Nat.strongRecOn with
  | _ i ih =>
    intro hi k K acc hk hK ha
    obtain ⟨k, rfl⟩ : ∃ k', k = k' + 1 := ⟨k - 1, by omega⟩
    rw [ref10_ahead_l4]
    rcases par_cases ns h hi with ⟨e1, e2⟩ | ⟨q, e1, e2, e3, e4⟩
    · have : chP ns K (i : Int) = [] := by
        cases K with
        | zero => rfl
        | succ K => rw [chP, Int.toNat_natCast, e2, if_neg (by decide)]
      rw [this, e1, decide_eq_false (by decide), cond_false, List.append_nil]
      rfl
    · obtain ⟨K, rfl⟩ : ∃ K', K = K' + 1 := ⟨K - 1, by omega⟩
      rw [chP, Int.toNat_natCast, e4, if_pos rfl, e1, decide_eq_true (show (0 : Int) ≤ (q : Int) by omega), cond_true, appM_eq (by simp only [List.length_cons, List.length_nil]; omega), Option.bind_some, decide_eq_false (by decide), cond_false, get_nd (show q < ns.length by omega), Option.bind_some, ih q e2 (by omega) k K _ (by omega) (by omega) (by simp only [List.length_append, List.length_cons, List.length_nil]; omega), List.append_assoc]
      rfl
theorem bes_fuel (h : RT ns) : ∀ (i : Nat), i < ns.length → ∀ K K', i ≤ K → i ≤ K' → besS ns true K i = besS ns true K' i := by
  intro i
  induction i using Nat.strongRecOn with
  | _ i ih =>
    intro hi K K' hK hK'
    have none_of : (nd ns i).Prev = -1 → ∀ K, besS ns true K i = none := fun e K => by
      cases K with
      | zero => rfl
      | succ K => rw [besS]; simp only [Int.toNat_natCast, ite_true]; rw [e, if_pos (.inl (by decide))]
    rcases h.prev hi with e | ⟨c, e, hc⟩
    · rw [none_of e, none_of e]
    · obtain ⟨K, rfl⟩ : ∃ q, K = q + 1 := ⟨K - 1, by omega⟩
      obtain ⟨K', rfl⟩ : ∃ q, K' = q + 1 := ⟨K' - 1, by omega⟩
      rw [besS, besS]
      simp only [Int.toNat_natCast, ite_true]
      rw [e, ih c hc (by omega) K K' (by omega) (by omega)]
theorem bes_none (h : RT ns) {i : Nat} (_hi : i < ns.length) (e : (nd ns i).Prev = -1) : besS ns true ns.length i = none := by
  obtain ⟨K, hK⟩ : ∃ q, ns.length = q + 1 := ⟨ns.length - 1, by have := h.pos; omega⟩
  rw [hK, besS]
  simp only [Int.toNat_natCast, ite_true]
  rw [e, if_pos (.inl (by decide))]
theorem bes_some (h : RT ns) {i c : Nat} (hi : i < ns.length) (e : (nd ns i).Prev = (c : Int)) (hc : c < i) : besS ns true ns.length i = if (nd ns c).Kind = 1 then some (c : Int) else besS ns true ns.length c := by
  obtain ⟨K, hK⟩ : ∃ q, ns.length = q + 1 := ⟨ns.length - 1, by have := h.pos; omega⟩
  rw [bes_fuel ns h i hi ns.length (K + 1) (by omega) (by omega), besS]
  simp only [Int.toNat_natCast, ite_true]
  rw [e, if_neg (by omega), Int.toNat_natCast, bes_fuel ns h c (by omega) K ns.length (by omega) (by omega)]
theorem rB (h : RT ns) (hL : ns.length ≤ 1048576) : ∀ (i : Nat), i < ns.length → ∀ (k K : Nat) (acc : List Int), i + 2 ≤ k → i ≤ K → acc.length + i ≤ 2097152 → ref10_ahead_l8 ⟨ns⟩ 4 k acc (nd ns i).Prev = some (acc ++ chB ns K i) := by
  intro i
  induction i using Nat.strongRecOn with
  | _ i ih =>
    intro hi k K acc hk hK ha
    obtain ⟨k, rfl⟩ : ∃ k', k = k' + 1 := ⟨k - 1, by omega⟩
    rw [ref10_ahead_l8]
    rcases h.prev hi with e | ⟨c, e, hc⟩
    · have : chB ns K (i : Int) = [] := by
        cases K with
        | zero => rfl
        | succ K => rw [chB, bes_none ns h hi e]
      rw [this, e, decide_eq_false (by decide), cond_false, List.append_nil]
      rfl
    · obtain ⟨K, rfl⟩ : ∃ K', K = K' + 1 := ⟨K - 1, by omega⟩
      have hcl : c < ns.length := by omega
      rw [e, decide_eq_true (show (0 : Int) ≤ (c : Int) by omega), cond_true, get_nd hcl, Option.bind_some]
      unfold ref10_ahead_k9
      rw [get_nd hcl, Option.bind_some, chB, bes_some ns h hi e hc]
      by_cases hk1 : (nd ns c).Kind = 1
      · rw [decide_eq_false (not_not_intro hk1), cond_false, if_pos hk1, appM_eq (by simp only [List.length_cons, List.length_nil]; omega), Option.bind_some, decide_eq_false (by decide), cond_false, Option.bind_some, ih c hc hcl k K _ (by omega) (by omega) (by simp only [List.length_append, List.length_cons, List.length_nil]; omega), List.append_assoc]
        rfl
      · rw [decide_eq_true hk1, cond_true, if_neg hk1, ih c hc hcl k (K + 1) _ (by omega) (by omega) (by omega)]
        rfl
theorem rB1 (h : RT ns) (hL : ns.length ≤ 1048576) : ∀ (i : Nat), i < ns.length → ∀ (k : Nat), i + 2 ≤ k → ref10_ahead_l8 ⟨ns⟩ 3 k [] (nd ns i).Prev = some (chB ns 1 i) := by
  intro i
  induction i using Nat.strongRecOn with
  | _ i ih =>
    intro hi k hk
    obtain ⟨k, rfl⟩ : ∃ k', k = k' + 1 := ⟨k - 1, by omega⟩
    rw [ref10_ahead_l8]
    rcases h.prev hi with e | ⟨c, e, hc⟩
    · rw [chB, bes_none ns h hi e, e, decide_eq_false (by decide), cond_false]
      rfl
    · have hcl : c < ns.length := by omega
      rw [e, decide_eq_true (show (0 : Int) ≤ (c : Int) by omega), cond_true, get_nd hcl, Option.bind_some]
      unfold ref10_ahead_k9
      rw [get_nd hcl, Option.bind_some, chB, bes_some ns h hi e hc]
      by_cases hk1 : (nd ns c).Kind = 1
      · rw [decide_eq_false (not_not_intro hk1), cond_false, if_pos hk1, appM_eq (by simp only [List.length_cons, List.length_nil]; omega), Option.bind_some, decide_eq_true rfl, cond_true]
        rfl
      · rw [decide_eq_true hk1, cond_true, if_neg hk1, ih c hc hcl k (by omega)]
        rfl
theorem ahead_ks (h : RT ns) (hL : ns.length ≤ 1048576) {n : Nat} (hn : 4194400 ≤ n) {i : Nat} (hi : i < ns.length) (c : Int) : ref10_ahead n ⟨ns⟩ (i : Int) c = some (ks ns c i) := by
  unfold ref10_ahead ref10_ahead_k1 ref10_ahead_k5 ks
  rw [get_nd hi, Option.bind_some, Option.bind_some]
  by_cases h1 : c = 1
  · subst h1
    rw [decide_eq_true rfl, cond_true, cond_true, if_pos rfl]
    exact rP ns h hL i hi n ns.length [] (by omega) (by omega) (by simp; omega)
  rw [decide_eq_false h1, cond_false, if_neg h1]
  by_cases h2 : c = 2
  · subst h2
    obtain ⟨n, rfl⟩ : ∃ q, n = q + 1 := ⟨n - 1, by omega⟩
    rw [decide_eq_true rfl, cond_true, if_pos rfl, ref10_ahead_l4, chP, Int.toNat_natCast]
    rcases par_cases ns h hi with ⟨e1, e2⟩ | ⟨q, e1, e2, e3, e4⟩
    · rw [e2, if_neg (by decide), e1]; rfl
    · rw [e4, if_pos rfl, e1, decide_eq_true (show (0 : Int) ≤ (q : Int) by omega), cond_true, appM_eq (by simp), Option.bind_some, decide_eq_true rfl, cond_true]; rfl
  rw [decide_eq_false h2, cond_false, if_neg h2]
  by_cases h3 : c = 3
  · subst h3
    rw [decide_eq_true rfl, cond_true, cond_true, if_pos rfl]
    exact rB1 ns h hL i hi n (by omega)
  rw [decide_eq_false h3, cond_false, if_neg h3]
  by_cases h4 : c = 4
  · subst h4
    rw [decide_eq_true rfl, cond_true, if_pos rfl]
    exact rB ns h hL i hi n ns.length [] (by omega) (by omega) (by simp; omega)
  rw [decide_eq_false h4, cond_false, if_neg h4]
  rfl
theorem chP_el : ∀ (k : Nat) (v u : Int), u ∈ chP ns k v → elB ns u = true
  | 0, _, _, h => by cases h
  | k + 1, v, u, h => by
    unfold chP at h
    split at h
    · rename_i he
      rcases List.mem_cons.1 h with rfl | h
      · exact he
      · exact chP_el k _ u h
    · cases h
theorem chB_el (h : RT ns) : ∀ (k i : Nat) (u : Int), i < ns.length → u ∈ chB ns k i → elB ns u = true
  | 0, _, _, _, h => by cases h
  | k + 1, i, u, hi, hu => by
    unfold chB at hu
    split at hu
    · rename_i d he
      obtain ⟨m, rfl, hm, hk⟩ := besS_in ns h _ _ _ hi he
      rcases List.mem_cons.1 hu with rfl | hu
      · exact elB_nat ns (by omega) hk
      · exact chB_el h k m u (by omega) hu
    · cases hu
theorem ks_el (h : RT ns) {i : Nat} (hi : i < ns.length) (c u : Int) (hu : u ∈ ks ns c i) : elB ns u = true := by
  unfold ks at hu
  split at hu
  · exact chP_el ns _ _ _ hu
  split at hu
  · exact chP_el ns _ _ _ hu
  split at hu
  · exact chB_el ns h _ _ _ hi hu
  split at hu
  · exact chB_el ns h _ _ _ hi hu
  · cases hu
end
end Go.Proofs.YtmkcglpeidbblaaDoor
