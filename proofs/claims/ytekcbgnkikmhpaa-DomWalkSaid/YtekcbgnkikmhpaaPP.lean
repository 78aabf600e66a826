/-
  Walks and laws of this seat; the base is the text Base.
-/
import Derived.Test.YtekcbgnkikmhpaaPX
namespace Go.Proofs.Ytekcbgnkikmhpaa
open Go.RowKit Go.Sl
/-! What is asked of a right tree. -/
section
variable {ns : List api_Node}

/-- What of a right tree is wanted here. -/
structure RT (ns : List api_Node) : Prop where
  pos : 0 < ns.length
  small : ns.length ≤ 4096
  linked : linkedP ns
theorem RT.good (h : RT ns) {i : Nat} (hi : i < ns.length) : good ns i := linkedP.good ns h.linked i hi
theorem RT.par0 (h : RT ns) : par ns 0 = -1 := h.linked.2.1
theorem RT.parq (h : RT ns) {j : Nat} (h1 : 1 ≤ j) (hj : j < ns.length) : ∃ q : Nat, par ns j = q ∧ q < j ∧ (nd ns q).Kind = 1 ∧ row ns j = (j : Int) :: row ns q := by
  obtain ⟨i, rfl⟩ : ∃ i, j = i + 1 := ⟨j - 1, by omega⟩
  obtain ⟨q, h1, h2, h3, h4⟩ := good.par ns (h.good hj)
  exact ⟨q, h1, by omega, h3, h4⟩
theorem RT.ref (h : RT ns) : ∀ m, m < ns.length → refP ns m := ((linked_iff ns h.pos).1 h.linked).2.2.2.2.2.2

theorem nextc_inv : ∀ (n : Nat) (m : Int), nextc ns n m = -1 ∨ ∃ c : Nat, nextc ns n m = c ∧ 1 ≤ c ∧ c ≤ n ∧ prevc ns c = m ∧ 0 ≤ m
  | 0, _ => .inl rfl
  | n + 1, m => by
    rw [nextc_succ]
    by_cases e : 0 ≤ m ∧ lastc ns n (par ns (n + 1)) = m
    · rw [if_pos e]; exact .inr ⟨n + 1, rfl, by omega, Nat.le_refl _, e.2, e.1⟩
    · rw [if_neg e]
      rcases nextc_inv n m with h | ⟨c, h1, h2, h3, h4⟩
      · exact .inl h
      · exact .inr ⟨c, h1, h2, by omega, h4⟩
theorem firstc_inv : ∀ (n : Nat) (p : Int), firstc ns n p = -1 ∨ ∃ c : Nat, firstc ns n p = c ∧ 1 ≤ c ∧ c ≤ n ∧ par ns c = p ∧ prevc ns c = -1
  | 0, _ => .inl rfl
  | n + 1, p => by
    rw [firstc_succ]
    by_cases e : par ns (n + 1) = p ∧ lastc ns n p = -1
    · rw [if_pos e]; exact .inr ⟨n + 1, rfl, by omega, Nat.le_refl _, e.1, by unfold prevc; rw [e.1]; exact e.2⟩
    · rw [if_neg e]
      rcases firstc_inv n p with h | ⟨c, h1, h2, h3, h4⟩
      · exact .inl h
      · exact .inr ⟨c, h1, h2, by omega, h4⟩

theorem RT.next (h : RT ns) {m : Nat} (hm : m < ns.length) : (nd ns m).Next = -1 ∨ ∃ c : Nat, (nd ns m).Next = c ∧ m < c ∧ c < ns.length ∧ par ns c = par ns m ∧ (nd ns c).Prev = m ∧ 1 ≤ m := by
  have h1 := (h.ref m hm).2.2.2
  rw [h1]
  rcases nextc_inv (ns := ns) (ns.length - 1) m with e | ⟨c, e1, e2, e3, e4, _⟩
  · exact .inl e
  · have hc : c < ns.length := by omega
    rcases lastc_le ns (c - 1) (par ns c) with e | ⟨d, d1, d2, d3, d4⟩
    · unfold prevc at e4; rw [e] at e4; omega
    · have : d = m := by unfold prevc at e4; rw [d1] at e4; omega
      subst this
      exact .inr ⟨c, e1, by omega, hc, d4.symm, by rw [(h.ref c hc).2.2.1, if_neg (by omega)]; exact e4, d2⟩
theorem RT.prev (h : RT ns) {m : Nat} (hm : m < ns.length) : (nd ns m).Prev = -1 ∨ ∃ c : Nat, (nd ns m).Prev = c ∧ c < m := by
  rw [(h.ref m hm).2.2.1]
  split
  · exact .inl rfl
  · rename_i h0
    unfold prevc
    rcases lastc_le ns (m - 1) (par ns m) with e | ⟨d, d1, d2, d3, d4⟩
    · exact .inl e
    · exact .inr ⟨d, d1, by omega⟩
theorem RT.first (h : RT ns) {m : Nat} (hm : m < ns.length) : (nd ns m).First = -1 ∨ ∃ c : Nat, (nd ns m).First = c ∧ 1 ≤ c ∧ c < ns.length ∧ par ns c = m ∧ (nd ns c).Prev = -1 := by
  rw [(h.ref m hm).1]
  rcases firstc_inv (ns := ns) (ns.length - 1) m with e | ⟨c, e1, e2, e3, e4, e5⟩
  · exact .inl e
  · exact .inr ⟨c, e1, e2, by omega, e4, by rw [(h.ref c (by omega)).2.2.1, if_neg (by omega)]; exact e5⟩

/-! has -/
theorem has_in (n : Nat) {i : Nat} (hi : i < ns.length) : dom_has n ⟨ns⟩ (i : Int) = some true := by
  unfold dom_has
  rw [decide_eq_true (show (0 : Int) ≤ (i : Int) by omega), decide_eq_true (show (i : Int) < (((⟨ns⟩ : api_Tree).Nodes.length : Nat) : Int) from by simp only; omega)]; rfl
theorem has_out (n : Nat) {p : Int} (h : ¬ (0 ≤ p ∧ p < ns.length)) : dom_has n ⟨ns⟩ p = some false := by
  unfold dom_has
  congr 1
  simp only [Bool.and_eq_false_iff, decide_eq_false_iff_not]
  omega
theorem get_nd {i : Nat} (hi : i < ns.length) : geti (⟨ns⟩ : api_Tree).Nodes (i : Int) = some (nd ns i) := by rw [geti_nat]; exact nd_get ns hi

/-! Depth -/
theorem depth_dom (h : RT ns) (n : Nat) : ∀ (i k d : Nat), i < ns.length → i + 2 ≤ k → d + (row ns i).length ≤ ns.length → dom_Depth_l2 n ⟨ns⟩ k (i : Int) (d : Int) = some ((d + (row ns i).length : Nat) : Int) := by
  intro i
  induction i using Nat.strongRecOn with
  | ind i ih =>
    intro k d hi hk hd
    have hs := h.small
    obtain ⟨k, rfl⟩ : ∃ k', k = k' + 2 := ⟨k - 2, by omega⟩
    have hrl : 1 ≤ (row ns i).length := by rw [row_cons ns (h.good hi), List.length_cons]; omega
    rw [show k + 2 = (k + 1) + 1 from rfl, dom_Depth_l2, has_in n hi, Option.bind_some, cond_true, show decide ((d : Int) ≤ (((⟨ns⟩ : api_Tree).Nodes.length : Nat) : Int)) = true from decide_eq_true (by simp only; omega)]
    unfold dom_Depth_k3
    rw [cond_true, get_nd hi, Option.bind_some, w64_succ (by omega)]
    by_cases h0 : i = 0
    · subst h0
      rw [show (nd ns 0).Parent = -1 from h.par0, dom_Depth_l2, has_out n (by omega), Option.bind_some, cond_false]
      rfl
    · obtain ⟨q, q1, q2, _, q4⟩ := h.parq (by omega) hi
      rw [q4, List.length_cons] at hd ⊢
      rw [show (nd ns i).Parent = (q : Int) from q1, ih q q2 (k + 1) (d + 1) (by omega) (by omega) (by omega)]
      congr 2; omega
theorem depth_ref (h : RT ns) : ∀ (i k d : Nat), i < ns.length → i + 2 ≤ k → d + (row ns i).length ≤ ns.length → ref5_Depth_l2 ⟨ns⟩ k (i : Int) (d : Int) = some ((d + (row ns i).length : Nat) : Int) := by
  intro i
  induction i using Nat.strongRecOn with
  | ind i ih =>
    intro k d hi hk hd
    have hs := h.small
    obtain ⟨k, rfl⟩ : ∃ k', k = k' + 2 := ⟨k - 2, by omega⟩
    have hrl : 1 ≤ (row ns i).length := by rw [row_cons ns (h.good hi), List.length_cons]; omega
    rw [show k + 2 = (k + 1) + 1 from rfl, ref5_Depth_l2, decide_eq_true (show (0 : Int) ≤ (i : Int) by omega), cond_true, get_nd hi, Option.bind_some, w64_succ (by omega)]
    by_cases h0 : i = 0
    · subst h0
      rw [show (nd ns 0).Parent = -1 from h.par0, ref5_Depth_l2]
      rfl
    · obtain ⟨q, q1, q2, _, q4⟩ := h.parq (by omega) hi
      rw [q4, List.length_cons] at hd ⊢
      rw [show (nd ns i).Parent = (q : Int) from q1, ih q q2 (k + 1) (d + 1) (by omega) (by omega) (by omega)]
      congr 2; omega
theorem Depth_in (h : RT ns) {n i : Nat} (hn : 5000 ≤ n) (hi : i < ns.length) : dom_Depth n ⟨ns⟩ (i : Int) = some ((row ns i).length : Int) := by
  have hs := h.small
  have := row_length ns i
  unfold dom_Depth
  rw [show (0 : Int) = ((0 : Nat) : Int) from rfl, depth_dom h n i n 0 hi (by omega) (by omega), Nat.zero_add]
theorem Depth_same (h : RT ns) {n : Nat} (hn : 5000 ≤ n) (p : Int) : ∃ r, dom_Depth n ⟨ns⟩ p = some r ∧ ref5_Depth n ⟨ns⟩ p = some r := by
  have hs := h.small
  by_cases hp : 0 ≤ p ∧ p < ns.length
  · obtain ⟨i, rfl⟩ : ∃ i : Nat, p = i := ⟨p.toNat, by omega⟩
    have hi : i < ns.length := by omega
    refine ⟨_, Depth_in h hn hi, ?_⟩
    have := row_length ns i
    unfold ref5_Depth
    rw [decide_eq_false (show ¬ (i : Int) < 0 by omega), decide_eq_false (show ¬ ((((⟨ns⟩ : api_Tree).Nodes.length : Nat) : Int) ≤ (i : Int)) from by simp only; omega), Bool.or_false, cond_false,
      show (0 : Int) = ((0 : Nat) : Int) from rfl, depth_ref h i n 0 hi (by omega) (by omega), Nat.zero_add]
  · refine ⟨0, ?_, ?_⟩
    · obtain ⟨n, rfl⟩ : ∃ m, n = m + 1 := ⟨n - 1, by omega⟩
      unfold dom_Depth
      rw [dom_Depth_l2, has_out _ hp, Option.bind_some, cond_false]; rfl
    · unfold ref5_Depth
      have : (decide (p < 0) || decide ((((⟨ns⟩ : api_Tree).Nodes.length : Nat) : Int) ≤ p)) = true := by simp only [Bool.or_eq_true, decide_eq_true_eq]; omega
      rw [this, cond_true]

/-! Kids -/
inductive Chain (ns : List api_Node) : Int → List Int → Prop
  | nil : Chain ns (-1) []
  | cons {m : Nat} {l : List Int} : 1 ≤ m → m < ns.length → Chain ns (nd ns m).Next l → Chain ns m ((m : Int) :: l)
theorem kids_chain (h : RT ns) (n : Nat) : ∀ (d : Nat) (c : Int) (y : List Int), (c = -1 ∨ ∃ m : Nat, c = m ∧ 1 ≤ m ∧ m < ns.length ∧ ns.length - m ≤ d ∧ y.length ≤ m) →
    ∃ l : List Int, Chain ns c l ∧ (∀ k, d + 2 ≤ k → dom_Kids_l2 n ⟨ns⟩ k y c = some (y ++ l)) ∧ ∀ k, d + 2 ≤ k → ref5_Kids_l2 ⟨ns⟩ k y c = some (y ++ l) := by
  intro d
  induction d with
  | zero =>
    rintro c y (rfl | ⟨m, rfl, h1, h2, h3, h4⟩)
    · refine ⟨[], .nil, fun k hk => ?_, fun k hk => ?_⟩
      · obtain ⟨k, rfl⟩ : ∃ k', k = k' + 1 := ⟨k - 1, by omega⟩
        rw [dom_Kids_l2, has_out n (by omega), Option.bind_some, cond_false, List.append_nil]; rfl
      · obtain ⟨k, rfl⟩ : ∃ k', k = k' + 1 := ⟨k - 1, by omega⟩
        rw [ref5_Kids_l2, List.append_nil]; rfl
    · omega
  | succ d ih =>
    rintro c y (rfl | ⟨m, rfl, h1, h2, h3, h4⟩)
    · refine ⟨[], .nil, fun k hk => ?_, fun k hk => ?_⟩
      · obtain ⟨k, rfl⟩ : ∃ k', k = k' + 1 := ⟨k - 1, by omega⟩
        rw [dom_Kids_l2, has_out n (by omega), Option.bind_some, cond_false, List.append_nil]; rfl
      · obtain ⟨k, rfl⟩ : ∃ k', k = k' + 1 := ⟨k - 1, by omega⟩
        rw [ref5_Kids_l2, List.append_nil]; rfl
    · have hs := h.small
      obtain ⟨l, l1, l2, l3⟩ := ih (nd ns m).Next (y ++ [(m : Int)]) (by
        rcases h.next h2 with e | ⟨c, e1, e2, e3, _⟩
        · exact .inl e
        · exact .inr ⟨c, e1, by omega, e3, by omega, by simp only [List.length_append, List.length_singleton]; omega⟩)
      refine ⟨(m : Int) :: l, .cons h1 h2 l1, fun k hk => ?_, fun k hk => ?_⟩
      · obtain ⟨k, rfl⟩ : ∃ k', k = k' + 1 := ⟨k - 1, by omega⟩
        rw [dom_Kids_l2, has_in n h2, Option.bind_some, cond_true, decide_eq_true (show (y.length : Int) < (((⟨ns⟩ : api_Tree).Nodes.length : Nat) : Int) from by simp only; omega)]
        unfold dom_Kids_k3
        rw [cond_true, appM_small y _ (by omega) (by omega), Option.bind_some, get_nd h2, Option.bind_some, l2 k (by omega), List.append_assoc]; rfl
      · obtain ⟨k, rfl⟩ : ∃ k', k = k' + 1 := ⟨k - 1, by omega⟩
        rw [ref5_Kids_l2, decide_eq_true (show (0 : Int) ≤ (m : Int) by omega), cond_true, appM_small y _ (by omega) (by omega), Option.bind_some, get_nd h2, Option.bind_some, l3 k (by omega), List.append_assoc]; rfl
theorem Kids_in (h : RT ns) {n i : Nat} (hn : 5000 ≤ n) (hi : i < ns.length) : ∃ l, Chain ns (nd ns i).First l ∧ dom_Kids n ⟨ns⟩ (i : Int) = some l ∧ ref5_Kids n ⟨ns⟩ (i : Int) = some l := by
  have hs := h.small
  obtain ⟨l, l1, l2, l3⟩ := kids_chain h n ns.length (nd ns i).First [] (by
    rcases h.first hi with e | ⟨c, e1, e2, e3, _⟩
    · exact .inl e
    · exact .inr ⟨c, e1, e2, e3, by omega, by simp⟩)
  refine ⟨l, l1, ?_, ?_⟩
  · unfold dom_Kids
    rw [has_in n hi, Option.bind_some, Bool.not_true, cond_false, get_nd hi, Option.bind_some, l2 n (by omega), List.nil_append]
  · unfold ref5_Kids
    rw [decide_eq_false (show ¬ (i : Int) < 0 by omega), decide_eq_false (show ¬ ((((⟨ns⟩ : api_Tree).Nodes.length : Nat) : Int) ≤ (i : Int)) from by simp only; omega), Bool.or_false, cond_false, get_nd hi, Option.bind_some, l3 n (by omega), List.nil_append]
theorem Kids_same (h : RT ns) {n : Nat} (hn : 5000 ≤ n) (p : Int) : ∃ r, dom_Kids n ⟨ns⟩ p = some r ∧ ref5_Kids n ⟨ns⟩ p = some r ∧ r.length ≤ 4096 := by
  by_cases hp : 0 ≤ p ∧ p < ns.length
  · obtain ⟨i, rfl⟩ : ∃ i : Nat, p = i := ⟨p.toNat, by omega⟩
    have hi : i < ns.length := by omega
    obtain ⟨l, l1, l2, l3⟩ := Kids_in h hn hi
    refine ⟨l, l2, l3, ?_⟩
    have hs := h.small
    have : ∀ (c : Int) (l : List Int), Chain ns c l → ∀ b : Nat, (∀ m : Nat, c = m → b ≤ m) → b ≤ ns.length → b + l.length ≤ ns.length := by
      intro c l hc
      induction hc with
      | nil => intro b _ hb; simpa using hb
      | cons h1 h2 h3 ih =>
        rename_i m l
        intro b hb _
        have := hb m rfl
        have := ih (m + 1) (fun q hq => by
          rcases h.next h2 with e | ⟨c, e1, e2, _⟩ <;> omega) (by omega)
        simp only [List.length_cons]; omega
    have := this _ _ l1 0 (fun _ _ => Nat.zero_le _) (Nat.zero_le _)
    omega
  · refine ⟨[], ?_, ?_, by simp⟩
    · unfold dom_Kids
      rw [has_out _ hp, Option.bind_some, Bool.not_false, cond_true]
    · unfold ref5_Kids
      have : (decide (p < 0) || decide ((((⟨ns⟩ : api_Tree).Nodes.length : Nat) : Int) ≤ p)) = true := by simp only [Bool.or_eq_true, decide_eq_true_eq]; omega
      rw [this, cond_true]

/-! Index -/
/-- So many elements stand ahead. -/
inductive Eld (ns : List api_Node) : Int → Nat → Prop
  | nil : Eld ns (-1) 0
  | cons {m e : Nat} : m < ns.length → Eld ns (nd ns m).Prev e → Eld ns m (e + if (nd ns m).Kind = 1 then 1 else 0)
theorem Eld.uniq {c : Int} {e e' : Nat} (h : Eld ns c e) (h' : Eld ns c e') : e = e' := by
  induction h generalizing e' with
  | nil => cases h' with
    | nil => rfl
  | @cons m e hm he ih =>
    generalize hc : (m : Int) = c at h'
    cases h' with
    | nil => omega
    | @cons m' e2 hm' he' =>
      have : m = m' := by omega
      subst this
      rw [ih he']
theorem index_loop (h : RT ns) (n : Nat) : ∀ (d : Nat) (c : Int), (c = -1 ∨ ∃ m : Nat, c = m ∧ m < d ∧ m < ns.length) → ∃ e, Eld ns c e ∧ e ≤ d ∧
    (∀ (k i t : Nat), d + 2 ≤ k → t + d ≤ ns.length → i + d ≤ 10000 → dom_Index_l3 n ⟨ns⟩ k (i : Int) c (t : Int) = some ((i + e : Nat) : Int)) ∧
    ∀ (k i : Nat), d + 2 ≤ k → i + d ≤ 10000 → ref5_Index_l3 ⟨ns⟩ k (i : Int) c = some ((i + e : Nat) : Int) := by
  intro d
  induction d with
  | zero =>
    rintro c (rfl | ⟨m, _, h1, _⟩)
    · refine ⟨0, .nil, Nat.le_refl _, fun k i t hk ht hi => ?_, fun k i hk hi => ?_⟩
      · obtain ⟨k, rfl⟩ : ∃ k', k = k' + 1 := ⟨k - 1, by omega⟩
        rw [dom_Index_l3, has_out n (by omega), Option.bind_some, cond_false]; rfl
      · obtain ⟨k, rfl⟩ : ∃ k', k = k' + 1 := ⟨k - 1, by omega⟩
        rw [ref5_Index_l3]; rfl
    · omega
  | succ d ih =>
    rintro c (rfl | ⟨m, rfl, h1, h2⟩)
    · refine ⟨0, .nil, by omega, fun k i t hk ht hi => ?_, fun k i hk hi => ?_⟩
      · obtain ⟨k, rfl⟩ : ∃ k', k = k' + 1 := ⟨k - 1, by omega⟩
        rw [dom_Index_l3, has_out n (by omega), Option.bind_some, cond_false]; rfl
      · obtain ⟨k, rfl⟩ : ∃ k', k = k' + 1 := ⟨k - 1, by omega⟩
        rw [ref5_Index_l3]; rfl
    · obtain ⟨e, e1, e2, e3, e4⟩ := ih (nd ns m).Prev (by
        rcases h.prev h2 with e | ⟨c, e1, e2⟩
        · exact .inl e
        · exact .inr ⟨c, e1, by omega, by omega⟩)
      refine ⟨_, .cons h2 e1, by split <;> omega, fun k i t hk ht hi => ?_, fun k i hk hi => ?_⟩
      · obtain ⟨k, rfl⟩ : ∃ k', k = k' + 1 := ⟨k - 1, by omega⟩
        rw [dom_Index_l3, has_in n h2, Option.bind_some, cond_true, decide_eq_true (show (t : Int) ≤ (((⟨ns⟩ : api_Tree).Nodes.length : Nat) : Int) from by simp only; omega)]
        unfold dom_Index_k4
        have hs := h.small
        rw [cond_true, get_nd h2, Option.bind_some, w64_succ (by omega)]
        by_cases hk1 : (nd ns m).Kind = 1
        · rw [decide_eq_true hk1, cond_true]
          unfold dom_Index_k5
          rw [get_nd h2, Option.bind_some, w64_succ (by omega), e3 k (i + 1) (t + 1) (by omega) (by omega) (by omega), if_pos hk1]
          congr 2; omega
        · rw [decide_eq_false hk1, cond_false]
          unfold dom_Index_k5
          rw [get_nd h2, Option.bind_some, w64_succ (by omega), e3 k i (t + 1) (by omega) (by omega) (by omega), if_neg hk1]
          rfl
      · obtain ⟨k, rfl⟩ : ∃ k', k = k' + 1 := ⟨k - 1, by omega⟩
        rw [ref5_Index_l3, decide_eq_true (show (0 : Int) ≤ (m : Int) by omega), cond_true, get_nd h2, Option.bind_some, w64_succ (by omega)]
        by_cases hk1 : (nd ns m).Kind = 1
        · rw [decide_eq_true hk1, cond_true]
          unfold ref5_Index_k4
          rw [get_nd h2, Option.bind_some, e4 k (i + 1) (by omega) (by omega), if_pos hk1]
          congr 2; omega
        · rw [decide_eq_false hk1, cond_false]
          unfold ref5_Index_k4
          rw [get_nd h2, Option.bind_some, e4 k i (by omega) (by omega), if_neg hk1]
          rfl
theorem Index_in (h : RT ns) {n i : Nat} (hn : 5000 ≤ n) (hi : i < ns.length) (hk : (nd ns i).Kind = 1) : ∃ e, Eld ns (nd ns i).Prev e ∧ e ≤ 4096 ∧ dom_Index n ⟨ns⟩ (i : Int) = some ((1 + e : Nat) : Int) ∧ ref5_Index n ⟨ns⟩ (i : Int) = some ((1 + e : Nat) : Int) := by
  have hs := h.small
  obtain ⟨e, e1, e2, e3, e4⟩ := index_loop h n ns.length (nd ns i).Prev (by
    rcases h.prev hi with e | ⟨c, e1, e2⟩
    · exact .inl e
    · exact .inr ⟨c, e1, by omega, by omega⟩)
  refine ⟨e, e1, by omega, ?_, ?_⟩
  · unfold dom_Index
    rw [has_in n hi, Option.bind_some, Bool.not_true, cond_false, get_nd hi, Option.bind_some]
    unfold dom_Index_k1
    rw [show decide ((nd ns i).Kind ≠ 1) = false from decide_eq_false (not_not_intro hk), cond_false, get_nd hi, Option.bind_some]
    exact e3 n 1 0 (by omega) (by omega) (by omega)
  · unfold ref5_Index
    rw [decide_eq_false (show ¬ (i : Int) < 0 by omega), cond_false, decide_eq_false (show ¬ ((((⟨ns⟩ : api_Tree).Nodes.length : Nat) : Int) ≤ (i : Int)) from by simp only; omega), cond_false, get_nd hi, Option.bind_some]
    unfold ref5_Index_k1
    rw [show decide ((nd ns i).Kind ≠ 1) = false from decide_eq_false (not_not_intro hk), cond_false, get_nd hi, Option.bind_some]
    exact e4 n 1 (by omega) (by omega)
theorem Index_same (h : RT ns) {n : Nat} (hn : 5000 ≤ n) (p : Int) : ∃ r, dom_Index n ⟨ns⟩ p = some r ∧ ref5_Index n ⟨ns⟩ p = some r := by
  by_cases hp : 0 ≤ p ∧ p < ns.length
  · obtain ⟨i, rfl⟩ : ∃ i : Nat, p = i := ⟨p.toNat, by omega⟩
    have hi : i < ns.length := by omega
    by_cases hk : (nd ns i).Kind = 1
    · obtain ⟨e, _, _, e1, e2⟩ := Index_in h hn hi hk
      exact ⟨_, e1, e2⟩
    · refine ⟨0, ?_, ?_⟩
      · unfold dom_Index
        rw [has_in n hi, Option.bind_some, Bool.not_true, cond_false, get_nd hi, Option.bind_some]
        unfold dom_Index_k1
        rw [show decide ((nd ns i).Kind ≠ 1) = true from decide_eq_true hk, cond_true]
      · unfold ref5_Index
        rw [decide_eq_false (show ¬ (i : Int) < 0 by omega), cond_false, decide_eq_false (show ¬ ((((⟨ns⟩ : api_Tree).Nodes.length : Nat) : Int) ≤ (i : Int)) from by simp only; omega), cond_false, get_nd hi, Option.bind_some]
        unfold ref5_Index_k1
        rw [show decide ((nd ns i).Kind ≠ 1) = true from decide_eq_true hk, cond_true]
  · refine ⟨0, ?_, ?_⟩
    · unfold dom_Index
      rw [has_out _ hp, Option.bind_some, Bool.not_false, cond_true]; rfl
    · unfold ref5_Index
      by_cases h0 : p < 0
      · rw [decide_eq_true h0, cond_true]; rfl
      · rw [decide_eq_false h0, cond_false, decide_eq_true (show (((⟨ns⟩ : api_Tree).Nodes.length : Nat) : Int) ≤ p from by simp only; omega), cond_true]; rfl
end
end Go.Proofs.Ytekcbgnkikmhpaa
