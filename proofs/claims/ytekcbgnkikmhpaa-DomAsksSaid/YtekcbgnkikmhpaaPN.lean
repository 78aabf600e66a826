/-
  Walks and laws of this seat; the base is the text Base.
-/
import Derived.Test.YtekcbgnkikmhpaaPM
namespace Go.Proofs.Ytekcbgnkikmhpaa
open Go.RowKit Go.Sl

section
variable (ns : List api_Node)
theorem tail_mem {i : Nat} (h : good ns i) {x : Int} (hx : x ∈ (row ns i).tail) : ∃ q : Nat, x = q ∧ q < i := by
  obtain ⟨tl, h1, h2, _⟩ := good.inv ns h
  rw [h1, List.tail_cons] at hx
  obtain ⟨q, e1, e2, _⟩ := h2 x hx
  exact ⟨q, e1, e2⟩
theorem row_cons {i : Nat} (h : good ns i) : row ns i = (i : Int) :: (row ns i).tail := by
  obtain ⟨tl, h1, _⟩ := good.inv ns h
  rw [h1, List.tail_cons]
theorem row_mem {i : Nat} (h : good ns i) {x : Int} (hx : x ∈ row ns i) : ∃ q : Nat, x = q ∧ q ≤ i := by
  rw [row_cons ns h] at hx
  rcases List.mem_cons.1 hx with e | e
  · exact ⟨i, e, Nat.le_refl _⟩
  · obtain ⟨q, e1, e2⟩ := tail_mem ns h e
    exact ⟨q, e1, by omega⟩
theorem okS_mem {i : Nat} (h : okS ns i) : par ns (i + 1) ∈ row ns i := Decidable.byContradiction fun hh => h.1 (pop_nil_iff _ _ hh)
/-- Behind its end a node has no kid. -/
theorem noKid {i j : Nat} (hij : i < j) (hp : par ns j < i) : ∀ m, j ≤ m → good ns m → par ns m ≠ i ∧ (i : Int) ∉ row ns m := by
  intro m hm
  induction hm with
  | refl =>
    intro hg
    refine ⟨by omega, fun hx => ?_⟩
    obtain ⟨c, rfl⟩ : ∃ c, j = c + 1 := ⟨j - 1, by omega⟩
    obtain ⟨q, q1, q2, _, q4⟩ := good.par ns hg
    rw [q4] at hx
    rcases List.mem_cons.1 hx with e | e
    · omega
    · obtain ⟨z, e1, e2⟩ := row_mem ns (good.le ns hg (by omega)) e
      omega
  | step hm ih =>
    rename_i m
    intro hg
    obtain ⟨h1, h2⟩ := ih hg.1
    have hm' : j ≤ m := hm
    have h3 := okS_mem ns hg.2
    refine ⟨fun e => h2 (by rw [← e]; exact h3), fun hx => ?_⟩
    rw [row_succ] at hx
    rcases List.mem_cons.1 hx with e | e
    · omega
    · exact h2 ((List.dropWhile_sublist _).subset e)
theorem lastc_is (i : Int) : ∀ (n c : Nat), 1 ≤ c → c ≤ n → par ns c = i → (∀ m, c < m → m ≤ n → par ns m ≠ i) → lastc ns n i = c
  | 0, c, h1, h2, _, _ => by omega
  | n + 1, c, h1, h2, h3, h4 => by
    rw [lastc_succ]
    by_cases h : c = n + 1
    · subst h; rw [if_pos h3]
    · rw [if_neg (h4 (n + 1) (by omega) (Nat.le_refl _))]
      exact lastc_is i n c h1 (by omega) h3 fun m h5 h6 => h4 m h5 (by omega)
theorem lastc_no (i : Int) : ∀ (n : Nat), (∀ m, 1 ≤ m → m ≤ n → par ns m ≠ i) → lastc ns n i = -1
  | 0, _ => rfl
  | n + 1, h => by
    rw [lastc_succ, if_neg (h (n + 1) (by omega) (Nat.le_refl _))]
    exact lastc_no i n fun m h5 h6 => h m h5 (by omega)

def SubP (i : Nat) : Prop := ∃ p j, i < j ∧ j ≤ ns.length ∧ ns.drop i = lay p i (par ns i) (nd ns i).Prev (nd ns i).Next ++ ns.drop j ∧ i + nsz p = j ∧ psize p = nsz p ∧ okP p ∧ (j < ns.length → par ns j ∈ (row ns i).tail) ∧ ∀ m, i < m → m < j → (i : Int) ≤ par ns m
def KidsP (c i : Nat) : Prop := ∃ ks j, 0 < ks.length ∧ c < j ∧ j ≤ ns.length ∧ ns.drop c = lays ks c i (nd ns c).Prev (-1) ++ ns.drop j ∧ c + nszs ks = j ∧ pssize ks = nszs ks ∧ okPs ks ∧ (j < ns.length → par ns j ∈ (row ns i).tail) ∧ (∀ m, c ≤ m → m < j → (i : Int) ≤ par ns m) ∧ lastOf ks c (nd ns c).Prev = lastc ns (ns.length - 1) i

theorem kids_lay (hg : ∀ j, j < ns.length → good ns j) (hr : ∀ m, m < ns.length → refP ns m) (i : Nat) (hsub : ∀ c, i < c → c < ns.length → SubP ns c) : ∀ (d c : Nat), ns.length - c ≤ d → i < c → c < ns.length → par ns c = i → KidsP ns c i := by
  intro d
  induction d with
  | zero => intro c h1 h2 h3; omega
  | succ d ih =>
    intro c h1 h2 h3 h4
    obtain ⟨q, j, a1, a2, a3, a4, a5, a6, a7, a8⟩ := hsub c h2 h3
    have hgc := hg c h3
    have hgi : good ns i := hg i (by omega)
    have hrow : row ns c = (c : Int) :: row ns i := by
      obtain ⟨c', rfl⟩ : ∃ c', c = c' + 1 := ⟨c - 1, by omega⟩
      obtain ⟨z, z1, _, _, z4⟩ := good.par ns hgc
      have : z = i := by omega
      subst this
      exact z4
    rw [hrow, List.tail_cons, row_cons ns hgi] at a7
    have nextNone : (∀ m, c < m → m < ns.length → par ns m ≠ i) → (nd ns c).Next = -1 ∧ lastc ns (ns.length - 1) i = c := fun hno => by
      constructor
      · rw [(hr c h3).2.2.2]
        refine nextc_none ns _ _ fun c' g1 g2 g3 => ?_
        unfold prevc at g3
        rcases lastc_le ns (c' - 1) (par ns c') with g4 | ⟨z, g4, g5, g6, g7⟩
        · omega
        · have : z = c := by omega
          subst this
          exact hno c' (by omega) (by omega) (by rw [← g7]; exact h4)
      · exact lastc_is ns _ _ c (by omega) (by omega) h4 fun m g1 g2 => hno m g1 (by omega)
    by_cases hj : j < ns.length ∧ par ns j = i
    · obtain ⟨hj, hpj⟩ := hj
      have hprev : prevc ns j = c := by
        unfold prevc
        rw [hpj]
        exact lastc_is ns _ _ c (by omega) (by omega) h4 fun m g1 g2 => by have := a8 m g1 (by omega); omega
      have hPj : (nd ns j).Prev = c := by
        have := (hr j hj).2.2.1
        rw [if_neg (by omega), hprev] at this; exact this
      have hNc : (nd ns c).Next = j := by rw [(hr c h3).2.2.2]; exact nextc_of ns _ j c (by omega) (by omega) hprev
      obtain ⟨ks, k, b0, b1, b2, b3, b4, b5, b6, b7, b8, b9⟩ := ih j (by omega) (by omega) hj hpj
      refine ⟨q :: ks, k, by simp, by omega, b2, ?_, by simp only [nszs]; omega, by simp only [pssize, nszs]; omega, by simp only [okPs]; exact ⟨a6, b6⟩, b7, fun m g1 g2 => ?_, ?_⟩
      · rw [a3, b3, hPj, hNc, h4, ← List.append_assoc]
        simp only [lays]
        rw [if_neg (by omega), a4]
      · by_cases e : m = c
        · subst e; omega
        · by_cases e2 : m < j
          · have := a8 m (by omega) e2; omega
          · exact b8 m (by omega) g2
      · simp only [lastOf]
        rw [a4, ← hPj]; exact b9
    · have hlt : j < ns.length → par ns j ∈ (row ns i).tail := fun hh => by
        rcases List.mem_cons.1 (a7 hh) with e | e
        · exact absurd ⟨hh, e⟩ hj
        · exact e
      have hno : ∀ m, c < m → m < ns.length → par ns m ≠ i := fun m g1 g2 => by
        by_cases e2 : m < j
        · have := a8 m g1 e2; omega
        · obtain ⟨z, z1, z2⟩ := tail_mem ns hgi (hlt (by omega))
          exact (noKid ns (i := i) (j := j) (by omega) (by omega) m (by omega) (hg m g2)).1
      obtain ⟨n1, n2⟩ := nextNone hno
      refine ⟨[q], j, by simp, a1, a2, ?_, by simp only [nszs]; omega, by simp only [pssize, nszs]; omega, by simp only [okPs]; exact ⟨a6, trivial⟩, hlt, fun m g1 g2 => ?_, ?_⟩
      · rw [a3, n1, h4]
        simp [lays]
      · by_cases e : m = c
        · subst e; omega
        · have := a8 m (by omega) g2; omega
      · simp only [lastOf]; exact n2.symm

theorem sub_lay (hg : ∀ j, j < ns.length → good ns j) (ha : ∀ j, j < ns.length → aloneP (nd ns j)) (hr : ∀ m, m < ns.length → refP ns m) : ∀ (d i : Nat), ns.length - i ≤ d → i < ns.length → SubP ns i := by
  intro d
  induction d with
  | zero => intro i h1 h2; omega
  | succ d ih =>
    intro i h1 h2
    have hre : reachBytes = 140737488351232 := rfl
    have hgi := hg i h2
    have hri := hr i h2
    have hdrop : ns.drop i = nd ns i :: ns.drop (i + 1) := by
      rw [List.drop_eq_getElem_cons h2]
      congr 1
      have := nd_get ns h2
      rw [List.getElem?_eq_getElem h2] at this
      exact Option.some.inj this
    have hmem : i + 1 < ns.length → par ns (i + 1) = i ∨ par ns (i + 1) ∈ (row ns i).tail := fun hh => by
      have := okS_mem ns (hg (i + 1) hh).2
      rw [row_cons ns hgi] at this
      exact List.mem_cons.1 this
    rcases ha i h2 with ⟨k1, k2, k3, k4, k5, k6⟩ | ⟨k1, k2, k3, k4, k5⟩
    · refine ⟨⟨bs [], (nd ns i).Text, [], []⟩, i + 1, by omega, by omega, ?_, by rw [nsz_text rfl], by rw [nsz_text rfl, psize_eq]; rfl, by rw [okP_eq]; exact ⟨by simp, trivial⟩, fun hh => ?_, fun m g1 g2 => by omega⟩
      · rw [lay_text rfl, hdrop, List.singleton_append]
        congr 1
        have : (nd ns i).Attrs = [] := List.eq_nil_of_length_eq_zero k4
        unfold tnode par
        generalize nd ns i = x at *
        cases x
        simp_all
      · rcases hmem hh with e | e
        · have := (hg (i + 1) hh).2.2
          rw [e] at this
          simp at this
          omega
        · exact e
    · by_cases hk : i + 1 < ns.length ∧ par ns (i + 1) = i
      · obtain ⟨hk1, hk2⟩ := hk
        obtain ⟨ks, j, b0, b1, b2, b3, b4, b5, b6, b7, b8, b9⟩ := kids_lay ns hg hr i (fun c g1 g2 => ih c (by omega) g2) (ns.length - (i + 1)) (i + 1) (Nat.le_refl _) (by omega) hk1 hk2
        have hprev : prevc ns (i + 1) = -1 := by
          unfold prevc
          rw [hk2]
          exact good.lastc_none ns hgi i (Nat.le_refl _)
        have hP : (nd ns (i + 1)).Prev = -1 := by
          have := (hr (i + 1) hk1).2.2.1
          rw [if_neg (by omega), hprev] at this; exact this
        have hF : (nd ns i).First = ((i + 1 : Nat) : Int) := by
          rw [hri.1]
          have := firstc_of ns (ns.length - 1) (i + 1) (by omega) (by omega) hprev
          rw [hk2] at this; exact this
        have hL : (nd ns i).Last = lastOf ks (i + 1) (-1) := by rw [hri.2.1, ← b9, hP]
        have e1 : (⟨(nd ns i).Name, bs [], (nd ns i).Attrs, ks⟩ : dom_Part).Name ≠ bs [] := k2
        refine ⟨⟨(nd ns i).Name, bs [], (nd ns i).Attrs, ks⟩, j, by omega, b2, ?_, by rw [nsz_elem e1]; simp only; omega, by rw [nsz_elem e1, psize_eq]; simp only; omega, by rw [okP_eq]; exact ⟨by simp only; omega, b6⟩, b7, fun m g1 g2 => b8 m (by omega) g2⟩
        rw [lay_elem e1, hdrop, List.cons_append]
        rw [b3, hP]
        congr 1
        simp only
        rw [if_neg (by omega), ← hL, ← hF]
        unfold enode par
        generalize nd ns i = x at *
        cases x
        simp_all
      · have hlt : i + 1 < ns.length → par ns (i + 1) ∈ (row ns i).tail := fun hh => by
          rcases hmem hh with e | e
          · exact absurd ⟨hh, e⟩ hk
          · exact e
        have hno : ∀ m, 1 ≤ m → m ≤ ns.length - 1 → par ns m ≠ i := fun m g1 g2 => by
          by_cases e : m ≤ i
          · obtain ⟨z, z1, z2, _⟩ := par_lt ns hgi g1 e
            omega
          · obtain ⟨z, z1, z2⟩ := tail_mem ns hgi (hlt (by omega))
            exact (noKid ns (i := i) (j := i + 1) (by omega) (by omega) m (by omega) (hg m (by omega))).1
        have hL := lastc_no ns i (ns.length - 1) hno
        have hF := firstc_none ns (ns.length - 1) i hL
        rw [← hri.2.1] at hL
        rw [← hri.1] at hF
        have e1 : (⟨(nd ns i).Name, bs [], (nd ns i).Attrs, []⟩ : dom_Part).Name ≠ bs [] := k2
        refine ⟨⟨(nd ns i).Name, bs [], (nd ns i).Attrs, []⟩, i + 1, by omega, by omega, ?_, by rw [nsz_elem e1]; rfl, by rw [nsz_elem e1, psize_eq]; rfl, by rw [okP_eq]; exact ⟨by simp only; omega, trivial⟩, hlt, fun m g1 g2 => by omega⟩
        rw [lay_elem e1, hdrop, List.cons_append]
        simp only [lays, List.length_nil, if_pos, lastOf, List.nil_append]
        congr 1
        unfold enode par
        generalize nd ns i = x at *
        cases x
        simp_all

/-- A right tree is a part, laid. -/
theorem linked_lay (h0 : 0 < ns.length) (h : linkedP ns) : ∃ p, ns = lay p 0 (-1) (-1) (-1) ∧ psize p = ns.length ∧ okP p := by
  have hg := linkedP.good ns h
  obtain ⟨a1, a2, a3, a4, a5, a6, a7⟩ := (linked_iff ns h0).1 h
  obtain ⟨p, j, b1, b2, b3, b4, b5, b6, b7, _⟩ := sub_lay ns hg (fun j hj => by
    by_cases e : j = 0
    · subst e; exact a5
    · exact (a6 j (by omega) hj).1) a7 ns.length 0 (by omega) h0
  have hj : j = ns.length := by
    by_cases e : j < ns.length
    · have := b7 e
      simp [row] at this
    · omega
  subst hj
  refine ⟨p, ?_, by omega, b6⟩
  have : par ns 0 = -1 := a2
  rw [List.drop_zero, List.drop_length, List.append_nil, a3, a4, this] at b3
  exact b3
end

theorem law5_DomBack_true {t : api_Tree} {p : dom_Part} (h : S_api_Tree t) (hp : S_dom_Part p) : ∃ n, law5_DomBack n t p = some true := by
  refine ⟨5000000000000 + 20, ?_⟩
  have hkn := known_true 5000000000000
  generalize hF : 5000000000000 + 20 = F at *
  unfold law5_DomBack
  by_cases h1 : 300 < t.Nodes.length
  · rw [show decide ((300 : Int) < (t.Nodes.length : Int)) = true from by simp; omega, cond_true]
    unfold law5_DomBack_k1
    rw [cond_true, hkn]; rfl
  rw [show decide ((300 : Int) < (t.Nodes.length : Int)) = false from by simp; omega, cond_false]
  obtain ⟨r, r1, r2⟩ := deep_top p (n := F) (by omega)
  rw [r1, Option.bind_some]
  unfold law5_DomBack_k1
  by_cases h2 : 2000 ≤ r
  · rw [show decide (2000 ≤ r) = true from decide_eq_true h2, cond_true, hkn]; rfl
  rw [show decide (2000 ≤ r) = false from decide_eq_false h2, cond_false]
  have hsz : psize p ≤ 2000 := by have := r2 (by omega); omega
  have hsec := back_second (F := F) (by omega) hkn hp hsz
  obtain ⟨ns⟩ := t
  simp only at h1
  obtain ⟨g, g1, g2⟩ := dom_Right_eq ns (n := F) (by omega)
  rw [g1, Option.bind_some]
  by_cases hg : g = 0
  · subst hg
    rw [show decide ((0 : Int) = 0) = true from rfl, cond_true]
    have hl : 0 < ns.length ∧ linkedP ns := by
      rcases g2 with ⟨_, e⟩ | ⟨_, e⟩ | ⟨e0, _, ⟨_, e⟩ | ⟨_, _, e⟩ | ⟨e1, _, _⟩⟩
      · omega
      · omega
      · omega
      · omega
      · exact ⟨e0, e1⟩
    obtain ⟨q, q1, q2, q3⟩ := linked_lay ns hl.1 hl.2
    have hcs := psize_clean (psize q) q (Nat.le_refl _)
    have hcl : lay (cleanP q) 0 (-1) (-1) (-1) = ns := by rw [lay_clean]; exact q1.symm
    have hpp : dom_Parts F ⟨ns⟩ = some (cleanP q) := by
      have := parts_lay ns (by omega) (by rw [q1]; exact lay_okA q 0 (-1) (-1) (-1) q3) (psize q) q F [] [] (-1) (-1) (-1) (Nat.le_refl _) (by omega) (by rw [List.nil_append, List.append_nil, List.length_nil]; exact q1)
      unfold dom_Parts
      rw [g1, Option.bind_some, show decide ((0 : Int) ≠ 0) = false from rfl, cond_false, show (0 : Int) = (([] : List api_Node).length : Int) from rfl, this, Option.bind_some]
    rw [hpp, Option.bind_some]
    obtain ⟨z, z1, z2⟩ := make_eq (F := F) (by omega) (okP_clean _ q (Nat.le_refl _) q3) (by omega)
    rw [hcl] at z1 z2
    have := rightR.uniq _ z1 g2
    subst this
    rw [z2, if_pos rfl, Option.bind_some, show decide ((0 : Int) ≠ 0) = false from rfl, cond_false]
    obtain ⟨s1, s2⟩ := tree_sizes h
    rw [sameTree_refl ns (n := F) (by omega) (by omega) fun j hj => by have := s2 j hj; simp only at this; omega, Option.bind_some]
    unfold law5_DomBack_k5
    rw [show (!true) = false from rfl, cond_false]
    exact hsec
  · rw [show decide (g = 0) = false from decide_eq_false hg, cond_false]
    exact hsec
end Go.Proofs.Ytekcbgnkikmhpaa
