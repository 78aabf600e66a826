/-
  Walks and laws of this seat; the base is the text Base.
-/
import Derived.Test.YtklcdfnhdljkjaaDoorP7U
import Derived.Test.YtklcdfnhdljkjaaDoorL7vp
namespace Go.Proofs.YtklcdfnhdljkjaaDoor
open Go.RowKit Go.Sl
/-! # WriteParts -/
set_option maxRecDepth 1000000 in
theorem known7t (k : Nat) : law7_known (k + 60) = some true := by kernel_rfl
section
variable {n : Nat}
theorem nodeB_mono {x y a a' : api_Node} {pp pp' pk pk' : Bool} (hs : Same x y) (ha : a.Name = a'.Name) (hp : pp' = true → pp = true) (hk : (decide (0 ≤ y.Prev) && pk') = (decide (0 ≤ x.Prev) && pk)) (h : nodeB n x a pp pk = true) : nodeB n y a' pp' pk' = true := by
  unfold nodeB bodyB at h ⊢
  rw [← ha, ← hs.kind, ← hs.name, ← hs.text, ← hs.attrs, ← hs.first, hk]
  cases pp' with
  | false => cases pp with
    | false => exact h
    | true =>
      revert h
      rw [Bool.true_and, Bool.false_and]
      generalize (decide (a.Name ∈ tabL) && (decide (x.Kind = 2) || decide (withinW x.Name ≠ a.Name))) = b1
      generalize decide (x.Kind = 2) = b2
      generalize (plainD x.Text && !(decide (0 ≤ x.Prev) && pk)) = b3
      generalize (decide (x.Name ∈ knownL) && !(decide (x.Name ∈ voidL) && decide (0 ≤ x.First)) && !(decide (withinW x.Name ≠ bs []) && decide (withinW x.Name ≠ a.Name))) = b4
      generalize decide (x.Name ∈ blockL) = b5
      generalize x.Attrs.all (okAt n) = b6
      cases b1 <;> cases b2 <;> cases b3 <;> cases b4 <;> cases b5 <;> cases b6 <;> simp
  | true => rw [hp rfl] at h; exact h
/-- The node that the part begins with, put below a root of its own. -/
theorem nodeB_head {x y a a' : api_Node} {pp pk pk' : Bool} (hs : Same x y) (ha : a'.Name = bs [114, 111, 111, 116]) (hk : x.Kind = 1) (hw : withinW x.Name = bs []) (h : nodeB n x a pp pk = true) : nodeB n y a' false pk' = true := by
  unfold nodeB bodyB at h ⊢
  rw [← hs.kind, ← hs.name, ← hs.text, ← hs.attrs, ← hs.first, ha, hw, dF (show ¬ x.Kind = 2 by omega)]
  rw [hw, dF (show ¬ x.Kind = 2 by omega)] at h
  rw [show decide (bs [114, 111, 111, 116] ∈ tabL) = false from by decide, show decide (bs [] ≠ bs []) = false from by simp]
  revert h
  rw [show decide (bs [] ≠ bs []) = false from by simp]
  generalize decide (x.Name ∈ knownL) = b1
  generalize (decide (x.Name ∈ voidL) && decide (0 ≤ x.First)) = b2
  generalize decide (x.Name ∈ blockL) = b5
  generalize x.Attrs.all (okAt n) = b6
  cases b1 <;> cases b2 <;> cases b5 <;> cases b6 <;> simp
end
/-- Two trees, the one's part from k on laid below a root of its own. -/
structure Two (ns us : List api_Node) (k z : Nat) : Prop where
  rt : RT ns
  ru : RT us
  k1 : 1 ≤ k
  kz : k + z ≤ ns.length
  uz : us.length = 1 + z
  z1 : 1 ≤ z
  head : Same (nd ns k) (nd us 1)
  hpar : par us 1 = 0
  hprev : (nd us 1).Prev = -1
  rest : ∀ m, 1 ≤ m → m < z → Alike k 1 (nd ns (k + m)) (nd us (1 + m))
  root : (nd us 0).Name = bs [114, 111, 111, 116] ∧ (nd us 0).Attrs = [] ∧ (nd us 0).Text = bs []
section
variable {ns us : List api_Node} {k z n : Nat}
theorem Two.same (h : Two ns us k z) {m : Nat} (hm : m < z) : Same (nd ns (k + m)) (nd us (1 + m)) := by
  by_cases e : m = 0
  · subst e; exact h.head
  · exact (h.rest m (by omega) hm).same
theorem Two.pars (h : Two ns us k z) {m : Nat} (h1 : 1 ≤ m) (hm : m < z) : ∃ c, c < m ∧ par ns (k + m) = ((k + c : Nat) : Int) ∧ par us (1 + m) = ((1 + c : Nat) : Int) := by
  have hk := h.kz
  obtain ⟨q, q1, q2, _⟩ := h.rt.parq (j := k + m) (by omega) (by omega)
  rcases (h.rest m h1 hm).par with ⟨e, _⟩ | ⟨c, c1, c2⟩
  · have : par ns (k + m) = -1 := e
    omega
  · have c3 : par ns (k + m) = ((k + c : Nat) : Int) := c1
    exact ⟨c, by omega, c3, c2⟩
theorem Two.pf (h : Two ns us k z) : ∀ d m, m < d → m < z → pf us (1 + m) = true → pf ns (k + m) = true
  | 0, m, hd, _, _ => by omega
  | d + 1, m, hd, hm, hp => by
    have hk := h.kz
    have hu := h.uz
    have hk1 := h.k1
    have hs := h.same hm
    by_cases e : m = 0
    · subst e
      rw [h.ru.pf (j := 1 + 0) (q := 0) (by omega) (by omega) h.hpar, pf_zero, Bool.false_or] at hp
      obtain ⟨q, q1, _⟩ := h.rt.parq (j := k + 0) (by omega) (by omega)
      rw [h.rt.pf (by omega) (by omega) q1, hs.name, hp, Bool.or_true]
    · obtain ⟨c, c1, c2, c3⟩ := h.pars (by omega) hm
      rw [h.ru.pf (by omega) (by omega) c3] at hp
      rw [h.rt.pf (by omega) (by omega) c2, hs.name]
      rcases (Bool.or_eq_true _ _).mp hp with e1 | e1
      · rw [Two.pf h d c (by omega) (by omega) e1, Bool.true_or]
      · rw [e1, Bool.or_true]
theorem Two.depth (h : Two ns us k z) : ∀ d m, m < d → m < z → (row us (1 + m)).length ≤ (row ns (k + m)).length
  | 0, m, hd, _ => by omega
  | d + 1, m, hd, hm => by
    have hk := h.kz
    have hu := h.uz
    have hk1 := h.k1
    by_cases e : m = 0
    · subst e
      obtain ⟨q, q1, q2, _, q4⟩ := h.rt.parq (j := k + 0) (by omega) (by omega)
      obtain ⟨q', p1, p2, _, p4⟩ := h.ru.parq (j := 1 + 0) (by omega) (by omega)
      obtain rfl : q' = 0 := by omega
      rw [q4, p4, row_cons ns (h.rt.good (i := q) (by omega))]
      simp [row]
    · obtain ⟨c, c1, c2, c3⟩ := h.pars (by omega) hm
      obtain ⟨q, q1, q2, _, q4⟩ := h.rt.parq (j := k + m) (by omega) (by omega)
      obtain ⟨q', p1, p2, _, p4⟩ := h.ru.parq (j := 1 + m) (by omega) (by omega)
      obtain rfl : q = k + c := by omega
      obtain rfl : q' = 1 + c := by omega
      rw [q4, p4, List.length_cons, List.length_cons]
      have := Two.depth h d c (by omega) (by omega)
      omega
theorem Two.flat (h : Two ns us k z) (hd : ¬ deepP ns) : ¬ deepP us := by
  rintro ⟨j, j1, j2⟩
  have hu := h.uz
  have hk := h.kz
  by_cases e : j = 0
  · subst e; simp [row] at j2
  · obtain ⟨m, rfl⟩ : ∃ m, j = 1 + m := ⟨j - 1, by omega⟩
    have := h.depth (m + 1) m (by omega) (by omega)
    exact hd ⟨k + m, by omega, by omega⟩
theorem Two.nb (h : Two ns us k z) (hkd : (nd ns k).Kind = 1) (hw : withinW (nd ns k).Name = bs []) {m : Nat} (hm : m < z) (hb : NB n ns (k + m) = true) : NB n us (1 + m) = true := by
  have hk := h.kz
  have hu := h.uz
  have hk1 := h.k1
  by_cases e : m = 0
  · subst e
    unfold NB at hb ⊢
    rw [Nat.add_zero] at hb ⊢
    rw [h.hpar]
    exact nodeB_head h.head h.root.1 hkd hw hb
  · obtain ⟨c, c1, c2, c3⟩ := h.pars (by omega) hm
    unfold NB at hb ⊢
    rw [c2, Int.toNat_natCast] at hb
    rw [c3, Int.toNat_natCast]
    refine nodeB_mono (h.same hm) (h.same (by omega)).name (h.pf (c + 1) c (by omega) (by omega)) ?_ hb
    rcases (h.rest m (by omega) hm).prev with ⟨e1, e2⟩ | ⟨c', e1, e2⟩
    · rw [e1, e2]; rfl
    · have hlt : c' < m := by
        rcases h.rt.prev (m := k + m) (by omega) with e3 | ⟨w, w1, w2⟩ <;> omega
      rw [e1, e2, Int.toNat_natCast, Int.toNat_natCast, dT (show (0 : Int) ≤ ((k + c' : Nat) : Int) by omega), dT (show (0 : Int) ≤ ((1 + c' : Nat) : Int) by omega), (h.same (show c' < z by omega)).kind]
theorem Two.ok (h : Two ns us k z) (ho : okN n ns) : okN n us := fun j hj => by
  have hk := h.kz
  have hu := h.uz
  by_cases e : j = 0
  · subst e
    obtain ⟨_, r2, r3⟩ := h.root
    rw [r2, r3]
    exact ⟨by simp, by simp, by decide⟩
  · obtain ⟨m, rfl⟩ : ∃ m, j = 1 + m := ⟨j - 1, by omega⟩
    have hs := h.same (show m < z by omega)
    have := ho (k + m) (by omega)
    rw [← hs.attrs, ← hs.text]; exact this
end
end Go.Proofs.YtklcdfnhdljkjaaDoor
