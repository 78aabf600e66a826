/-
  Walks and laws of this seat; the base is the text Base.
-/
import Derived.Test.YtekcbgnkikmhpaaPQ
import Derived.Test.YtekcbgnkikmhpaaL5i
namespace Go.Proofs.Ytekcbgnkikmhpaa
open Go.RowKit Go.Sl
section
variable {ns : List api_Node}

/-! # DomWalk -/
theorem walk_kids (h : RT ns) {n : Nat} (hn : 5000 ≤ n) (lp : Int → Option Bool) (i : Nat) : ∀ (l : List Int) (c : Int) (pre : List Int) (e k : Nat), Chain ns c l → l.length + 1 ≤ k → (pre ++ l).length ≤ 4096 →
    (∀ m : Nat, c = m → par ns m = i ∧ Eld ns (nd ns m).Prev e ∧ (pre ≠ [] → ∃ z : Int, (pre ++ l)[pre.length - 1]? = some z ∧ z < m)) →
    law5_DomWalk_l7 n ⟨ns⟩ (i : Int) lp (i : Int) (pre ++ l) k ((1 + e : Nat) : Int) (pre.length : Int) = lp (w64 ((i : Int) + 1)) := by
  intro l
  induction l with
  | nil =>
    intro c pre e k hc hk hl _
    obtain ⟨k, rfl⟩ : ∃ k', k = k' + 1 := ⟨k - 1, by omega⟩
    rw [law5_DomWalk_l7, List.append_nil, decide_eq_false (show ¬ (pre.length : Int) < (pre.length : Int) by omega), cond_false]
    rfl
  | cons x l ih =>
    intro c pre e k hc hk hl hm
    obtain ⟨k, rfl⟩ : ∃ k', k = k' + 1 := ⟨k - 1, by omega⟩
    generalize hxl : x :: l = xl at hc
    cases hc with
    | nil => cases hxl
    | @cons m l' hm1 hm2 hch =>
      injection hxl with hx hll
      subst hx; subst hll
      obtain ⟨m1, m2, m3⟩ := hm m rfl
      have g1 : geti (pre ++ (m : Int) :: l) (pre.length : Int) = some (m : Int) := by rw [geti_nat]; simp
      have hlen : (pre ++ (m : Int) :: l).length = pre.length + l.length + 1 := by simp; omega
      have next : ∀ e', Eld ns (m : Int) e' → law5_DomWalk_l7 n ⟨ns⟩ (i : Int) lp (i : Int) (pre ++ (m : Int) :: l) k ((1 + e' : Nat) : Int) ((pre.length + 1 : Nat) : Int) = lp (w64 ((i : Int) + 1)) := by
        intro e' he'
        have := ih (nd ns m).Next (pre ++ [(m : Int)]) e' k hch (by simp only [List.length_cons] at hk; omega) (by simp only [List.append_assoc, List.singleton_append]; exact hl) (fun c hc => by
          rcases h.next hm2 with e | ⟨c', c1, c2, c3, c4, c5, _⟩
          · omega
          · have : c = c' := by omega
            subst this
            refine ⟨by rw [c4, m1], by rw [c5]; exact he', fun _ => ⟨m, ?_, by omega⟩⟩
            simp)
        simp only [List.append_assoc, List.singleton_append, List.length_append, List.length_singleton] at this
        exact this
      rw [law5_DomWalk_l7, decide_eq_true (show (pre.length : Int) < ((pre ++ (m : Int) :: l).length : Int) by omega), cond_true, g1, Option.bind_some, get_nd hm2, Option.bind_some,
        show decide ((nd ns m).Parent ≠ (i : Int)) = false from decide_eq_false (not_not_intro m1), cond_false]
      have fin : law5_DomWalk_k8 n ⟨ns⟩ (i : Int) (pre ++ (m : Int) :: l) ((1 + e : Nat) : Int) (pre.length : Int) (law5_DomWalk_l7 n ⟨ns⟩ (i : Int) lp (i : Int) (pre ++ (m : Int) :: l) k) false = lp (w64 ((i : Int) + 1)) := by
        unfold law5_DomWalk_k8
        rw [cond_false, g1, Option.bind_some, get_nd hm2, Option.bind_some]
        by_cases hk1 : (nd ns m).Kind = 1
        · obtain ⟨e', x1, x2, x3, _⟩ := Index_in h hn hm2 hk1
          have := x1.uniq m2
          subst this
          rw [decide_eq_true hk1, cond_true, Option.bind_some, x3, Option.bind_some, show decide (((1 + e' : Nat) : Int) ≠ ((1 + e' : Nat) : Int)) = false from decide_eq_false (not_not_intro rfl), cond_false]
          unfold law5_DomWalk_k9
          rw [w64_succ (by omega), w64_succ (by omega)]
          have := next (e' + 1) (by have := Eld.cons hm2 m2; rwa [if_pos hk1] at this)
          rw [show 1 + (e' + 1) = 1 + e' + 1 by omega] at this
          exact this
        · rw [decide_eq_false hk1, cond_false]
          unfold law5_DomWalk_k9
          rw [w64_succ (by omega)]
          exact next e (by have := Eld.cons hm2 m2; rwa [if_neg hk1] at this)
      by_cases hp : pre = []
      · subst hp
        rw [show decide ((0 : Int) < (([] : List Int).length : Int)) = false from rfl, cond_false]
        exact fin
      · have hpl : 0 < pre.length := List.length_pos_iff.2 hp
        obtain ⟨z, z1, z2⟩ := m3 hp
        rw [decide_eq_true (show (0 : Int) < (pre.length : Int) by omega), cond_true, Option.bind_some, show w64 ((pre.length : Int) - 1) = ((pre.length - 1 : Nat) : Int) from by rw [w64_id (by omega)]; omega, geti_nat, z1, Option.bind_some,
          decide_eq_false (show ¬ (m : Int) ≤ z by omega)]
        exact fin
theorem walk_loop (h : RT ns) {n : Nat} (hn : 5000 ≤ n) (hkn : law5_known n = some true) : ∀ (d i : Nat), i + d = ns.length → law5_DomWalk_r2 n ⟨ns⟩ (ints i d) (i : Int) = some true
  | 0, i, hi => by
    rw [show ints i 0 = [] from rfl, law5_DomWalk_r2, decide_eq_true (show (i : Int) = (((⟨ns⟩ : api_Tree).Nodes.length : Nat) : Int) from by simp only; omega), cond_true, hkn]; rfl
  | d + 1, i, hi => by
    have hs := h.small
    have hi' : i < ns.length := by omega
    have fin : law5_DomWalk_k5 n ⟨ns⟩ (i : Int) (law5_DomWalk_r2 n ⟨ns⟩ (ints (i + 1) d)) (i : Int) false = some true := by
      unfold law5_DomWalk_k5
      obtain ⟨l, l1, l2, _⟩ := Kids_in h hn hi'
      obtain ⟨r, r1, _, r2⟩ := Kids_same h hn (i : Int)
      have : l = r := by rw [l2] at r1; exact Option.some.inj r1
      subst this
      rw [cond_false, l2, Option.bind_some]
      have := walk_kids h hn (law5_DomWalk_r2 n ⟨ns⟩ (ints (i + 1) d)) i l (nd ns i).First [] 0 n l1 (by omega) (by simpa using r2) (fun m hm => by
        rcases h.first hi' with e | ⟨c, c1, c2, c3, c4, c5⟩
        · omega
        · have : m = c := by omega
          subst this
          exact ⟨c4, by rw [c5]; exact .nil, fun hh => absurd rfl hh⟩)
      simp only [List.nil_append, List.length_nil] at this
      rw [show (1 : Int) = ((1 + 0 : Nat) : Int) from rfl, show (0 : Int) = ((0 : Nat) : Int) from rfl]
      rw [this, w64_succ (by omega)]
      exact walk_loop h hn hkn d (i + 1) (by omega)
    rw [ints_cons, law5_DomWalk_r2, show decide ((i : Int) ≠ (i : Int)) = false from decide_eq_false (not_not_intro rfl), cond_false]
    by_cases h0 : i = 0
    · subst h0
      rw [show decide ((0 : Int) < ((0 : Nat) : Int)) = false from rfl, cond_false]
      exact fin
    · obtain ⟨q, q1, q2, _, q4⟩ := h.parq (by omega) hi'
      have q1' : (nd ns i).Parent = (q : Int) := q1
      have hrl := row_length ns q
      rw [decide_eq_true (show (0 : Int) < (i : Int) by omega), cond_true, Depth_in h hn hi', Option.bind_some, get_nd hi', Option.bind_some, q1', Depth_in h hn (by omega : q < ns.length), Option.bind_some, q4, List.length_cons, w64_succ (by omega),
        show decide ((((row ns q).length + 1 : Nat) : Int) ≠ (((row ns q).length + 1 : Nat) : Int)) = false from decide_eq_false (not_not_intro rfl)]
      exact fin
end
theorem law5_DomWalk_true {t : api_Tree} (_h : S_api_Tree t) : ∃ n, law5_DomWalk n t = some true := by
  obtain ⟨ns⟩ := t
  refine ⟨6000 + 20, ?_⟩
  have hkn : law5_known (6000 + 20) = some true := known_true 6000
  obtain ⟨n, hn⟩ : ∃ n, n = 6000 + 20 := ⟨_, rfl⟩
  rw [← hn] at hkn ⊢
  have hn5 : 5000 ≤ n := by omega
  have kt : law5_DomWalk_k1 n ⟨ns⟩ true = some true := by unfold law5_DomWalk_k1; rw [cond_true, hkn]; rfl
  unfold law5_DomWalk
  by_cases hN : (300 : Int) < (((⟨ns⟩ : api_Tree).Nodes.length : Nat) : Int)
  · rw [decide_eq_true hN, cond_true, kt]
  · rw [decide_eq_false hN, cond_false]
    obtain ⟨r, r1, r2⟩ := dom_Right_eq ns hn5
    rw [r1, Option.bind_some]
    by_cases hr : r = 0
    · have h := RT.of r2 hr
      rw [show decide (r ≠ 0) = false from decide_eq_false (not_not_intro hr)]
      unfold law5_DomWalk_k1 dom_All
      rw [cond_false, Option.bind_some]
      obtain ⟨e, e1, e2⟩ := All_in h hn5 h.pos
      have he : e = ns.length := by
        refine Nat.le_antisymm e1.2.1 (Nat.not_lt.1 fun hlt => ?_)
        have := e1.2.2.1 hlt
        obtain ⟨q, q1, _⟩ := h.parq (by have := e1.1; omega) hlt
        omega
      subst he
      simp only
      rw [show (0 : Int) = ((0 : Nat) : Int) from rfl, e2, Option.bind_some]
      exact walk_loop h hn5 hkn _ 0 (by omega)
    · rw [show decide (r ≠ 0) = true from decide_eq_true hr, kt]

end Go.Proofs.Ytekcbgnkikmhpaa
