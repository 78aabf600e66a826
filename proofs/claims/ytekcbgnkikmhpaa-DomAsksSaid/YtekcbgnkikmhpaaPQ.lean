/-
  Walks and laws of this seat; the base is the text Base.
-/
import Derived.Test.YtekcbgnkikmhpaaPP
namespace Go.Proofs.Ytekcbgnkikmhpaa
open Go.RowKit Go.Sl
section
variable {ns : List api_Node}

/-! Attr -/
theorem attr_loops (name : ByteArray) (x : api_Node) (hl : x.Attrs.length ≤ 64) : ∀ (d k : Nat) (m : Nat), x.Attrs.length - m ≤ d → d + 2 ≤ k → m ≤ 64 → ∃ r, dom_Attr_l3 name x k (m : Int) = some r ∧ ref5_Attr_l2 name x k (m : Int) = some r := by
  intro d
  induction d with
  | zero =>
    intro k m hd hk hm
    obtain ⟨k, rfl⟩ : ∃ k', k = k' + 1 := ⟨k - 1, by omega⟩
    have : decide ((m : Int) < (x.Attrs.length : Int)) = false := decide_eq_false (by omega)
    refine ⟨(bs [], false), ?_, ?_⟩
    · rw [dom_Attr_l3, this, cond_false]; rfl
    · rw [ref5_Attr_l2, this, cond_false]; rfl
  | succ d ih =>
    intro k m hd hk hm
    obtain ⟨k, rfl⟩ : ∃ k', k = k' + 1 := ⟨k - 1, by omega⟩
    by_cases hlt : m < x.Attrs.length
    · have e1 : decide ((m : Int) < (x.Attrs.length : Int)) = true := decide_eq_true (by omega)
      have e2 : geti x.Attrs (m : Int) = some x.Attrs[m] := by rw [geti_nat]; simp [hlt]
      by_cases hn : x.Attrs[m].Name = name
      · refine ⟨(x.Attrs[m].Value, true), ?_, ?_⟩
        · rw [dom_Attr_l3, e1, cond_true, e2, Option.bind_some, decide_eq_true hn, cond_true]
        · rw [ref5_Attr_l2, e1, cond_true, e2, Option.bind_some, decide_eq_true hn, cond_true, Option.bind_some]
      · obtain ⟨r, r1, r2⟩ := ih k (m + 1) (by omega) (by omega) (by omega)
        refine ⟨r, ?_, ?_⟩
        · rw [dom_Attr_l3, e1, cond_true, e2, Option.bind_some, decide_eq_false hn, cond_false, w64_succ (by omega), r1]
        · rw [ref5_Attr_l2, e1, cond_true, e2, Option.bind_some, decide_eq_false hn, cond_false, w64_succ (by omega), r2]
    · have : decide ((m : Int) < (x.Attrs.length : Int)) = false := decide_eq_false (by omega)
      refine ⟨(bs [], false), ?_, ?_⟩
      · rw [dom_Attr_l3, this, cond_false]; rfl
      · rw [ref5_Attr_l2, this, cond_false]; rfl
theorem RT.alone (h : RT ns) {i : Nat} (hi : i < ns.length) : aloneP (nd ns i) := by
  by_cases h0 : i = 0
  · subst h0; exact h.linked.2.2.2.2.1
  · exact (h.linked.2.2.2.2.2.1 i (by omega) hi).1
theorem Attr_same (h : RT ns) {n : Nat} (hn : 5000 ≤ n) (p : Int) (name : ByteArray) : ∃ r, dom_Attr n ⟨ns⟩ p name = some r ∧ ref5_Attr n ⟨ns⟩ p name = some r := by
  by_cases hp : 0 ≤ p ∧ p < ns.length
  · obtain ⟨i, rfl⟩ : ∃ i : Nat, p = i := ⟨p.toNat, by omega⟩
    have hi : i < ns.length := by omega
    have ef : (decide ((i : Int) < 0) || decide ((((⟨ns⟩ : api_Tree).Nodes.length : Nat) : Int) ≤ (i : Int))) = false := by simp only [Bool.or_eq_false_iff, decide_eq_false_iff_not]; omega
    rcases h.alone hi with ⟨a1, _, _, a4, _⟩ | ⟨a1, _, _, a4, _⟩
    · refine ⟨(bs [], false), ?_, ?_⟩
      · unfold dom_Attr
        rw [has_in n hi, Option.bind_some, Bool.not_true, cond_false, get_nd hi, Option.bind_some]
        unfold dom_Attr_k1
        rw [show decide ((nd ns i).Kind ≠ 1) = true from decide_eq_true (by omega), cond_true]
      · unfold ref5_Attr
        rw [ef, cond_false, get_nd hi, Option.bind_some]
        obtain ⟨n, rfl⟩ : ∃ m, n = m + 1 := ⟨n - 1, by omega⟩
        rw [ref5_Attr_l2, a4]; rfl
    · obtain ⟨r, r1, r2⟩ := attr_loops name (nd ns i) a4 64 n 0 (by omega) (by omega) (by omega)
      refine ⟨r, ?_, ?_⟩
      · unfold dom_Attr
        rw [has_in n hi, Option.bind_some, Bool.not_true, cond_false, get_nd hi, Option.bind_some]
        unfold dom_Attr_k1
        rw [show decide ((nd ns i).Kind ≠ 1) = false from decide_eq_false (not_not_intro a1), cond_false, get_nd hi, Option.bind_some]
        exact r1
      · unfold ref5_Attr
        rw [ef, cond_false, get_nd hi, Option.bind_some]
        exact r2
  · refine ⟨(bs [], false), ?_, ?_⟩
    · unfold dom_Attr
      rw [has_out _ hp, Option.bind_some, Bool.not_false, cond_true]; rfl
    · unfold ref5_Attr
      have : (decide (p < 0) || decide ((((⟨ns⟩ : api_Tree).Nodes.length : Nat) : Int) ≤ p)) = true := by simp only [Bool.or_eq_true, decide_eq_true_eq]; omega
      rw [this, cond_true]

/-! All -/
/-- Where the nodes of one end. -/
def EndP (ns : List api_Node) (a e : Nat) : Prop := a < e ∧ e ≤ ns.length ∧ (e < ns.length → par ns e < a) ∧ ∀ m, a < m → m < e → (a : Int) ≤ par ns m
theorem row_up (h : RT ns) {a : Nat} : ∀ (j : Nat), a ≤ j → j < ns.length → (∀ m, a < m → m ≤ j → (a : Int) ≤ par ns m) → ∀ x ∈ row ns j, x < a → x ∈ row ns a := by
  intro j
  induction j using Nat.strongRecOn with
  | ind j ih =>
    intro haj hj hm x hx hxa
    by_cases e : a = j
    · subst e; exact hx
    · obtain ⟨q, q1, q2, _, q4⟩ := h.parq (by omega) hj
      rw [q4] at hx
      have hq := hm j (by omega) (Nat.le_refl _)
      rcases List.mem_cons.1 hx with rfl | hx
      · omega
      · exact ih q q2 (by omega) (by omega) (fun m h1 h2 => hm m h1 (by omega)) x hx hxa
/-- The node on the way up that is the kid of one above. -/
theorem kid_on (h : RT ns) {q : Nat} : ∀ (a : Nat), a < ns.length → (q : Int) ∈ row ns a → q < a → ∃ k : Nat, (k : Int) ∈ row ns a ∧ 1 ≤ k ∧ k ≤ a ∧ par ns k = q := by
  intro a
  induction a using Nat.strongRecOn with
  | ind a ih =>
    intro ha hq hqa
    obtain ⟨p, p1, p2, _, p4⟩ := h.parq (by omega) ha
    rw [p4] at hq ⊢
    rcases List.mem_cons.1 hq with e | hq
    · omega
    · by_cases e : q = p
      · subst e; exact ⟨a, by simp, by omega, Nat.le_refl _, p1⟩
      · obtain ⟨z, z1, z2⟩ := row_mem ns (h.good (by omega : p < ns.length)) hq
        obtain ⟨k, k1, k2, k3, k4⟩ := ih p p2 (by omega) hq (by omega)
        exact ⟨k, List.mem_cons_of_mem _ k1, k2, by omega, k4⟩
theorem row_trans (h : RT ns) {b : Nat} : ∀ (a : Nat), a < ns.length → (b : Int) ∈ row ns a → ∀ x ∈ row ns b, x ∈ row ns a := by
  intro a
  induction a using Nat.strongRecOn with
  | ind a ih =>
    intro ha hb x hx
    by_cases e : b = a
    · subst e; exact hx
    · have h0 : 1 ≤ a := by
        rcases Nat.eq_zero_or_pos a with rfl | h0
        · simp [row] at hb; omega
        · exact h0
      obtain ⟨p, p1, p2, _, p4⟩ := h.parq h0 ha
      rw [p4] at hb ⊢
      rcases List.mem_cons.1 hb with e' | hb
      · omega
      · exact List.mem_cons_of_mem _ (ih p p2 (by omega) hb x hx)
/-- The first place behind a node whose parent stands ahead of it comes behind one on the way up. -/
theorem end_step (h : RT ns) {a m : Nat} (ham : a < m) (hm : m < ns.length) (hp : par ns m < a) (hall : ∀ j, a < j → j < m → (a : Int) ≤ par ns j) :
    ∃ k : Nat, (k : Int) ∈ row ns a ∧ k ≤ a ∧ (nd ns k).Next = m ∧ par ns k = par ns m := by
  obtain ⟨q, q1, q2, _, _⟩ := h.parq (by omega) hm
  obtain ⟨j, rfl⟩ : ∃ j, m = j + 1 := ⟨m - 1, by omega⟩
  have h1 := okS_mem ns (h.good hm).2
  rw [q1] at h1
  have h2 := row_up h (a := a) j (by omega) (by omega) (fun m h1 h2 => hall m h1 (by omega)) q h1 (by omega)
  obtain ⟨k, k1, k2, k3, k4⟩ := kid_on h a (by omega) h2 (by omega)
  refine ⟨k, k1, k3, ?_, by rw [k4, q1]⟩
  have hl : lastc ns j q = k := lastc_is ns q j k k2 (by omega) k4 fun m' g1 g2 g3 => by
    by_cases hma : m' ≤ a
    · exact (noKid ns (i := k) (j := m') g1 (by obtain ⟨z, z1, z2, _⟩ := h.parq (by omega) (by omega : k < ns.length); omega) a hma (h.good (by omega))).2 k1
    · have := hall m' (by omega) (by omega); omega
  have hprev : (nd ns (j + 1)).Prev = k := by rw [(h.ref _ hm).2.2.1, if_neg (by omega)]; unfold prevc; rw [q1]; exact hl
  have := (h.linked.2.2.2.2.2.1 (j + 1) (by omega) hm).2.2.2.2 (by rw [hprev]; omega)
  rw [hprev, Int.toNat_natCast] at this
  exact this
theorem end_loop (h : RT ns) (n : Nat) {a : Nat} (ha : a < ns.length) : ∀ (c k : Nat), c < ns.length → (c : Int) ∈ row ns a → c + 2 ≤ k → (∀ z : Nat, (z : Int) ∈ row ns a → c < z → (nd ns z).Next ≤ a) →
    ∃ e : Nat, dom_end_l2 n ⟨ns⟩ (a : Int) k (c : Int) = some (e : Int) ∧ EndP ns a e := by
  intro c
  induction c using Nat.strongRecOn with
  | ind c ih =>
    intro k hc hca hk hz
    have hca' : c ≤ a := by obtain ⟨z, z1, z2⟩ := row_mem ns (h.good ha) hca; omega
    obtain ⟨k, rfl⟩ : ∃ k', k = k' + 2 := ⟨k - 2, by omega⟩
    rw [show k + 2 = (k + 1) + 1 from rfl, dom_end_l2, has_in n hc, Option.bind_some, cond_true, get_nd hc, Option.bind_some]
    by_cases hn : (a : Int) < (nd ns c).Next
    · rw [decide_eq_true hn, cond_true]
      rcases h.next hc with e | ⟨e, e1, e2, e3, e4, e5, e6⟩
      · omega
      · refine ⟨e, by rw [e1], by omega, by omega, fun _ => ?_, fun m => ?_⟩
        · obtain ⟨z, z1, z2, _⟩ := h.parq e6 hc; omega
        · induction m using Nat.strongRecOn with
          | ind m ihm =>
            intro g1 g2
            refine Int.not_lt.1 fun g3 => ?_
            obtain ⟨z, z1, z2, z3, z4⟩ := end_step h g1 (by omega) g3 fun j j1 j2 => ihm j j2 j1 (by omega)
            by_cases hzc : c < z
            · have := hz z z1 hzc; omega
            · by_cases hzc' : z = c
              · subst hzc'; omega
              · obtain ⟨w, w1, w2, _, w4⟩ := h.parq e6 hc
                -- the parent of c has no kid behind m
                have hzw : z ≤ w := by
                  refine Nat.not_lt.1 fun hlt => ?_
                  have hzr : (z : Int) ∈ row ns c := row_up h (a := c) a hca' ha (fun m' m1 m2 => ?_) z z1 (by omega)
                  · rw [w4] at hzr
                    rcases List.mem_cons.1 hzr with e | hzr
                    · omega
                    · obtain ⟨y, y1, y2⟩ := row_mem ns (h.good (by omega : w < ns.length)) hzr
                      omega
                  · refine Int.not_lt.1 fun hlt' => ?_
                    exact (noKid ns (i := c) (j := m') m1 hlt' a m2 (h.good ha)).2 hca
                have hpw : par ns m < (w : Int) := by
                  rw [← z4]
                  by_cases z0 : z = 0
                  · subst z0; rw [h.par0]; omega
                  · obtain ⟨y, y1, y2, _⟩ := h.parq (by omega) (by omega : z < ns.length); omega
                exact (noKid ns (i := w) (j := m) (by omega) hpw e (by omega) (h.good e3)).1 (by rw [e4, w1])
    · rw [decide_eq_false hn, cond_false, Option.bind_some]
      have hz' : ∀ z : Nat, (z : Int) ∈ row ns a → c ≤ z → (nd ns z).Next ≤ a := fun z z1 z2 => by
        by_cases e : z = c
        · subst e; omega
        · exact hz z z1 (by omega)
      by_cases h0 : c = 0
      · subst h0
        have hp0 : (nd ns 0).Parent = -1 := h.par0
        rw [hp0, decide_eq_false (by omega), cond_false, Option.bind_some, hp0, dom_end_l2, has_out n (by omega), Option.bind_some, cond_false]
        refine ⟨ns.length, rfl, by omega, Nat.le_refl _, fun hh => by omega, fun m => ?_⟩
        induction m using Nat.strongRecOn with
        | ind m ihm =>
          intro g1 g2
          refine Int.not_lt.1 fun g3 => ?_
          obtain ⟨z, z1, z2, z3, _⟩ := end_step h g1 g2 g3 fun j j1 j2 => ihm j j2 j1 (by omega)
          have := hz' z z1 (Nat.zero_le _)
          omega
      · obtain ⟨p, p1, p2, _, p4⟩ := h.parq (by omega) hc
        have p1' : (nd ns c).Parent = (p : Int) := p1
        rw [p1', decide_eq_false (by omega), cond_false, Option.bind_some, p1']
        have hpa : (p : Int) ∈ row ns a := row_trans h a ha hca p (by rw [p4, row_cons ns (h.good (by omega : p < ns.length))]; simp)
        refine ih p p2 (k + 1) (by omega) hpa (by omega) fun z z1 z2 => ?_
        by_cases hzc : c ≤ z
        · exact hz' z z1 hzc
        · have hzr : (z : Int) ∈ row ns c := row_up h (a := c) a hca' ha (fun m' m1 m2 => by
            refine Int.not_lt.1 fun hlt' => ?_
            exact (noKid ns (i := c) (j := m') m1 hlt' a m2 (h.good ha)).2 hca) z z1 (by omega)
          rw [p4] at hzr
          rcases List.mem_cons.1 hzr with e | hzr
          · omega
          · obtain ⟨y, y1, y2⟩ := row_mem ns (h.good (by omega : p < ns.length)) hzr
            omega
theorem end_in (h : RT ns) {n a : Nat} (hn : 5000 ≤ n) (ha : a < ns.length) : ∃ e : Nat, dom_end n ⟨ns⟩ (a : Int) = some (e : Int) ∧ EndP ns a e := by
  have hs := h.small
  unfold dom_end
  refine end_loop h n ha a n ha (by rw [row_cons ns (h.good ha)]; simp) (by omega) fun z z1 z2 => ?_
  obtain ⟨y, y1, y2⟩ := row_mem ns (h.good ha) z1
  omega
theorem EndP.below (h : RT ns) {a e : Nat} (he : EndP ns a e) {b : Nat} (hb : b < ns.length) : (a : Int) ∈ row ns b ↔ a ≤ b ∧ b < e := by
  obtain ⟨e1, e2, e3, e4⟩ := he
  constructor
  · intro hab
    obtain ⟨z, z1, z2⟩ := row_mem ns (h.good hb) hab
    refine ⟨by omega, Nat.not_le.1 fun hle => ?_⟩
    exact (noKid ns (i := a) (j := e) e1 (e3 (by omega)) b hle (h.good hb)).2 hab
  · rintro ⟨h1, h2⟩
    induction b using Nat.strongRecOn with
    | ind b ih =>
      by_cases hab : a = b
      · subst hab; rw [row_cons ns (h.good hb)]; simp
      · obtain ⟨q, q1, q2, _, q4⟩ := h.parq (by omega) hb
        have := e4 b (by omega) h2
        rw [q4]
        exact List.mem_cons_of_mem _ (ih q q2 (by omega) (by omega) (by omega))
/-- The numbers from one on. -/
def ints (a n : Nat) : List Int := (List.range n).map fun t => ((a + t : Nat) : Int)
theorem ints_succ (a n : Nat) : ints a (n + 1) = ints a n ++ [((a + n : Nat) : Int)] := by simp [ints, List.range_succ]
theorem ints_cons (a n : Nat) : ints a (n + 1) = (a : Int) :: ints (a + 1) n := by
  unfold ints
  rw [List.range_succ_eq_map, List.map_cons, List.map_map]
  congr 1
  refine List.map_congr_left fun t _ => ?_
  simp only [Function.comp]; congr 1; omega
theorem ints_len (a n : Nat) : (ints a n).length = n := by simp [ints]
theorem all_loop (hN : ns.length ≤ 4096) {e : Nat} (he : e ≤ ns.length) : ∀ (d k c : Nat), e - c ≤ d → d + 2 ≤ k → c ≤ 4096 → dom_All_1_l2 ⟨ns⟩ (e : Int) k (c : Int) = some (ints c (e - c))
  | 0, k, c, hd, hk, hc => by
    obtain ⟨k, rfl⟩ : ∃ k', k = k' + 1 := ⟨k - 1, by omega⟩
    rw [dom_All_1_l2, decide_eq_false (show ¬ (c : Int) < (e : Int) by omega), Bool.false_and, cond_false, show e - c = 0 by omega]; rfl
  | d + 1, k, c, hd, hk, hc => by
    obtain ⟨k, rfl⟩ : ∃ k', k = k' + 1 := ⟨k - 1, by omega⟩
    by_cases hlt : c < e
    · rw [dom_All_1_l2, decide_eq_true (show (c : Int) < (e : Int) by omega), Bool.true_and, decide_eq_true (show (c : Int) < (((⟨ns⟩ : api_Tree).Nodes.length : Nat) : Int) from by simp only; omega), cond_true, w64_succ (by omega),
        all_loop hN he d k (c + 1) (by omega) (by omega) (by omega), Option.map_some, show e - c = (e - (c + 1)) + 1 by omega, ints_cons]
    · rw [dom_All_1_l2, decide_eq_false (show ¬ (c : Int) < (e : Int) by omega), Bool.false_and, cond_false, show e - c = 0 by omega]; rfl
theorem All_in (h : RT ns) {n a : Nat} (hn : 5000 ≤ n) (ha : a < ns.length) : ∃ e : Nat, EndP ns a e ∧ dom_All_1 n ⟨ns⟩ (a : Int) = some (ints a (e - a)) := by
  have hs := h.small
  obtain ⟨e, e1, e2⟩ := end_in h hn ha
  refine ⟨e, e2, ?_⟩
  unfold dom_All_1
  rw [has_in n ha, Option.bind_some, Bool.not_true, cond_false, e1, Option.bind_some]
  exact all_loop h.small e2.2.1 4096 n a (by have := e2.2.1; omega) (by omega) (by omega)
end
theorem RT.of {ns : List api_Node} {r : Int} (h : rightR ns r) (hr : r = 0) : RT ns := by
  subst hr
  rcases h with ⟨_, h⟩ | ⟨_, h⟩ | ⟨h1, h2, (⟨_, h⟩ | ⟨_, _, h⟩ | ⟨h, _⟩)⟩ <;> first | omega | exact ⟨h1, h2, h⟩
end Go.Proofs.Ytekcbgnkikmhpaa
