/-
  Walks and laws of this seat; the base is the text Base.
-/
import Derived.Test.YteicdfkmpnmkmaaGreatDH
namespace Go.D
open Go.RowKit Go.Sl
section
variable {α : Type}
/-! ## What the executor asks of operations beside one another -/
theorem memN_spec : ∀ {l : List Nat} {a : Nat}, memN l a = false → a ∉ l
  | [], _, _ => by simp
  | b :: l, a, h => by
    have h : (Bool.rec (memN l a) true (Nat.beq a b) : Bool) = false := h
    cases q : Nat.beq a b with
    | true => rw [q] at h; cases h
    | false =>
      rw [q] at h
      simp [beq_not q, memN_spec (show memN l a = false from h)]
theorem disj_spec : ∀ {l r : List Nat}, disj l r = true → ∀ a ∈ l, a ∉ r
  | [], _, _, _, h => by simp at h
  | b :: l, r, h, a, ha => by
    have h : (Bool.rec (disj l r) false (memN r b) : Bool) = true := h
    cases q : memN r b with
    | true => rw [q] at h; cases h
    | false =>
      rw [q] at h
      rcases List.mem_cons.1 ha with rfl | ha
      · exact memN_spec q
      · exact disj_spec (show disj l r = true from h) a ha
theorem allGe_spec {n : Nat} : ∀ {l : List Nat}, allGe n l = true → ∀ a ∈ l, n ≤ a
  | [], _, _, h => by simp at h
  | b :: l, h, a, ha => by
    have h : (Bool.rec false (allGe n l) (Nat.ble n b) : Bool) = true := h
    cases q : Nat.ble n b with
    | false => rw [q] at h; cases h
    | true =>
      rw [q] at h
      rcases List.mem_cons.1 ha with rfl | ha
      · exact ble_iff q
      · exact allGe_spec (show allGe n l = true from h) a ha
theorem allLt_spec {n : Nat} : ∀ {l : List Nat}, allLt n l = true → ∀ a ∈ l, a < n
  | [], _, _, h => by simp at h
  | b :: l, h, a, ha => by
    have h : (Bool.rec false (allLt n l) (Nat.blt b n) : Bool) = true := h
    cases q : Nat.blt b n with
    | false => rw [q] at h; cases h
    | true =>
      rw [q] at h
      rcases List.mem_cons.1 ha with rfl | ha
      · exact blt_iff q
      · exact allLt_spec (show allLt n l = true from h) a ha
theorem apartK_inv {mk n : Nat} {rs ws : List Nat} {k : Option α} {r : α} : ∀ {past : Past}, apartK mk rs ws n past k = some r → k = some r ∧ ∀ p ∈ past, kept mk p.1 = false → fpOk rs ws n p.2 = true
  | [], h => ⟨h, fun _ hp => by simp at hp⟩
  | (j, fp) :: past, h => by
    have h : (Bool.rec (iff (fpOk rs ws n fp) (apartK mk rs ws n past k)) (apartK mk rs ws n past k) (kept mk j) : Option α) = some r := h
    rcases rec_t h with ⟨q, h⟩ | ⟨q, h⟩
    · obtain ⟨h1, h2⟩ := apartK_inv h
      refine ⟨h1, fun p hp hk => ?_⟩
      rcases List.mem_cons.1 hp with rfl | hp
      · rw [q] at hk; cases hk
      · exact h2 p hp hk
    · obtain ⟨h0, h⟩ := iff_inv h
      obtain ⟨h1, h2⟩ := apartK_inv h
      refine ⟨h1, fun p hp hk => ?_⟩
      rcases List.mem_cons.1 hp with rfl | hp
      · exact h0
      · exact h2 p hp hk
theorem callK_inv {mk : Nat} {x : Bool} {k : Option α} {r : α} : ∀ {past : Past}, callK mk x past k = some r → k = some r ∧ ∀ p ∈ past, kept mk p.1 = false → x = false ∧ noWs p.2 = true
  | [], h => ⟨h, fun _ hp => by simp at hp⟩
  | (j, fp) :: past, h => by
    have h : (Bool.rec (Bool.rec (iff (noWs fp) (callK mk x past k)) none x) (callK mk x past k) (kept mk j) : Option α) = some r := h
    rcases rec_t h with ⟨q, h⟩ | ⟨q, h⟩
    · obtain ⟨h1, h2⟩ := callK_inv h
      refine ⟨h1, fun p hp hk => ?_⟩
      rcases List.mem_cons.1 hp with rfl | hp
      · rw [q] at hk; cases hk
      · exact h2 p hp hk
    · rcases rec_t h with ⟨_, h⟩ | ⟨hx, h⟩
      · exact nn h
      · obtain ⟨h0, h⟩ := iff_inv h
        obtain ⟨h1, h2⟩ := callK_inv h
        refine ⟨h1, fun p hp hk => ?_⟩
        rcases List.mem_cons.1 hp with rfl | hp
        · exact ⟨hx, h0⟩
        · exact h2 p hp hk
theorem syOk_inv {sy : Bool} {pend : Pend} {k : Option α} {r : α} (h : syOk sy pend k = some r) : k = some r ∧ (sy = true → pend = []) := by
  cases sy with
  | false => exact ⟨h, fun h => by cases h⟩
  | true =>
    cases pend with
    | nil => exact ⟨h, fun _ => rfl⟩
    | cons _ _ => exact nn h
theorem unames_eq (us : List (Nat × AO)) (k : List Nat → Option α) : unames us k = k (us.map (·.1)) := by
  induction us generalizing k with
  | nil => rfl
  | cons p us ih => obtain ⟨b, o⟩ := p; exact ih _
theorem sort_inv {rs : List Nat} {us : List (Nat × AO)} {n : Nat} {z : Option α} {a : Nat → AO → Option α} {k : Option α} {r : α} (h : sort rs us n z a k = some r) : (rs = [] ∧ us = [] ∧ z = some r) ∨ (∃ b o, rs = [] ∧ us = [(b, o)] ∧ b = n ∧ a b o = some r) ∨ k = some r := by
  cases rs with
  | cons _ _ => exact .inr (.inr h)
  | nil =>
    cases us with
    | nil => exact .inl ⟨rfl, rfl, h⟩
    | cons p us =>
      obtain ⟨b, o⟩ := p
      cases us with
      | cons _ _ => exact .inr (.inr h)
      | nil =>
        rcases rec_t (h : (Bool.rec k (a b o) (Nat.beq b n) : Option α) = some r) with ⟨q, h⟩ | ⟨_, h⟩
        · exact .inr (.inl ⟨b, o, rfl, rfl, beq_iff' q, h⟩)
        · exact .inr (.inr h)

/-- The heap, and what waits to be laid. -/
structure HT (cur : HS) (pend : Pend) (ht : HS) (n : Nat) : Prop where
  pe : ∀ p ∈ pend, ht p.2.1 = some p.2.2 ∧ cur p.2.1 = none ∧ p.2.1 < n
  eq : ∀ a, (∀ p ∈ pend, p.2.1 ≠ a) → ht a = cur a
  nd : pend.Pairwise fun p q => p.2.1 ≠ q.2.1
theorem HT.perm {cur ht : HS} {n : Nat} {p q : Pend} (h : HT cur p ht n) (hp : p.Perm q) : HT cur q ht n :=
  ⟨fun x hx => h.pe x (hp.mem_iff.2 hx), fun a ha => h.eq a fun x hx => ha x (hp.mem_iff.1 hx), (hp.pairwise_iff (fun h => h.symm)).1 h.nd⟩
theorem HT.lay {cur ht : HS} {n j b : Nat} {o : AO} {p : Pend} (h : HT cur ((j, b, o) :: p) ht n) : HT (set1 cur b o) p ht n := by
  have hnd := List.pairwise_cons.1 h.nd
  refine ⟨fun x hx => ?_, fun a ha => ?_, hnd.2⟩
  · obtain ⟨h1, h2, h3⟩ := h.pe x (by simp [hx])
    have := hnd.1 x hx
    exact ⟨h1, by rw [set1, if_neg (fun e => this e.symm)]; exact h2, h3⟩
  · rw [set1]
    split
    · rename_i e; subst e; exact (h.pe (j, _, o) (by simp)).1
    · rename_i e
      refine h.eq a fun x hx => ?_
      rcases List.mem_cons.1 hx with rfl | hx
      · exact fun q => e q.symm
      · exact ha x hx
theorem laid_inv {mk n : Nat} {ht : HS} : ∀ {pend : Pend} {h : H} {r : Pend} {q : Past} {k : H → Pend → Past → Option α} {x : α}, HT h.get (pend ++ r) ht n → Nn n h.get → (∀ p ∈ r, kept mk p.1 = false) → laid mk pend h r q k = some x →
    ∃ h' pend' past', k h' pend' past' = some x ∧ HT h'.get pend' ht n ∧ Nn n h'.get ∧ (∀ p ∈ pend', kept mk p.1 = false) ∧ (∀ p ∈ q, p ∈ past') ∧ ∀ p ∈ pend ++ r, p ∈ pend' ∨ (p.1, Fp.s [] [p.2.1]) ∈ past'
  | [], h, r, q, k, x, hT, hN, hr, e => ⟨h, r, q, e, hT, hN, hr, fun _ hp => hp, fun p hp => .inl (by simpa using hp)⟩
  | (j, b, o) :: pend, h, r, q, k, x, hT, hN, hr, e => by
    have e : (Bool.rec (laid mk pend h ((j, b, o) :: r) q k) (Tr.putK o h b fun h => laid mk pend h r ((j, .s [] [b]) :: q) k) (kept mk j) : Option α) = some x := e
    rcases rec_t e with ⟨hk, e⟩ | ⟨hk, e⟩
    · obtain ⟨h1, g1, e⟩ := Tr.putK_inv e
      have hg : h1.get = set1 h.get b o := by funext a; rw [g1]; rfl
      have hb := (hT.pe (j, b, o) (by simp)).2.2
      obtain ⟨h', pend', past', e, p1, p2, p3, p4, p5⟩ := laid_inv (h := h1) (by rw [hg]; exact hT.lay) (fun a ha => by rw [hg, set1, if_neg (by have : b < n := hb; omega)]; exact hN a ha) hr e
      refine ⟨h', pend', past', e, p1, p2, p3, fun p hp => p4 p (by simp [hp]), fun p hp => ?_⟩
      rcases List.mem_cons.1 hp with rfl | hp
      · exact .inr (p4 _ (by simp))
      · exact p5 p hp
    · obtain ⟨h', pend', past', e, p1, p2, p3, p4, p5⟩ := laid_inv (h := h) (r := (j, b, o) :: r) (hT.perm (by simpa using List.perm_middle.symm)) hN (fun p hp => by
        rcases List.mem_cons.1 hp with rfl | hp
        · exact hk
        · exact hr p hp) e
      refine ⟨h', pend', past', e, p1, p2, p3, p4, fun p hp => p5 p ?_⟩
      rcases List.mem_cons.1 hp with rfl | hp
      · simp
      · rcases List.mem_append.1 hp with hp | hp <;> simp [hp]
theorem ends_inv {n : Nat} {ht : HS} : ∀ {pend : Pend} {h : H} {k : H → Option α} {x : α}, HT h.get pend ht n → ends pend h k = some x → ∃ h' : H, h'.get = ht ∧ k h' = some x
  | [], h, k, x, hT, e => ⟨h, by funext a; exact (hT.eq a (fun _ hp => by simp at hp)).symm, e⟩
  | (j, b, o) :: pend, h, k, x, hT, e => by
    obtain ⟨h1, g1, e⟩ := Tr.putK_inv (e : Tr.putK o h b (fun h => ends pend h k) = some x)
    have hg : h1.get = set1 h.get b o := by funext a; rw [g1]; rfl
    exact ends_inv (h := h1) (by rw [hg]; exact hT.lay) e

/-- What is known of a past operation's effect. -/
def Cov (past : Past) (pend : Pend) (n j : Nat) (e : Eff) : Prop := (∀ a, e.dom a → a < n) ∧
  ((∀ a, ¬ e.dom a) ∨ (∃ rs ws, (j, Fp.s rs ws) ∈ past ∧ (∀ a, e.dom a → a ∈ rs ∨ a ∈ ws) ∧ ∀ a, e.dom a → a ∉ ws → e.g a = e.g' a) ∨ (∃ b o, (j, b, o) ∈ pend ∧ ∀ a, e.dom a → a = b) ∨
    ∃ lo x, (j, Fp.c lo x) ∈ past ∧ lo ≤ n ∧ (x = false → ∀ a, e.dom a → a < lo → e.g a = e.g' a))
theorem Cov.mono {past past' : Past} {pend pend' : Pend} {n n' j : Nat} {e : Eff} (h : Cov past pend n j e) (hn : n ≤ n') (hp : ∀ p ∈ past, p ∈ past') (hq : ∀ p ∈ pend, p ∈ pend' ∨ (p.1, Fp.s [] [p.2.1]) ∈ past') : Cov past' pend' n' j e := by
  obtain ⟨h0, h⟩ := h
  refine ⟨fun a ha => Nat.lt_of_lt_of_le (h0 a ha) hn, ?_⟩
  rcases h with h | ⟨rs, ws, h1, h2, h3⟩ | ⟨b, o, h1, h2⟩ | ⟨lo, x, h1, h2, h3⟩
  · exact .inl h
  · exact .inr (.inl ⟨rs, ws, hp _ h1, h2, h3⟩)
  · rcases hq _ h1 with h4 | h4
    · exact .inr (.inr (.inl ⟨b, o, h4, h2⟩))
    · exact .inr (.inl ⟨[], [b], h4, fun a ha => .inr (by simp [h2 a ha]), fun a ha hb => absurd (by simp [h2 a ha]) hb⟩)
  · exact .inr (.inr (.inr ⟨lo, x, hp _ h1, Nat.le_trans h2 hn, h3⟩))

/-- Beside an operation that calls nothing. -/
theorem Cov.simple {past : Past} {pend : Pend} {n n' j mk : Nat} {e f : Eff} {rs ws : List Nat} {cur ht : HS} (h : Cov past pend n j e) (hk : kept mk j = false) (hfp : ∀ p ∈ past, kept mk p.1 = false → fpOk rs ws n p.2 = true) (hT : HT cur pend ht n)
    (hf : ∀ a, f.dom a → a ∈ rs ∨ a ∈ ws) (hro : ∀ a, f.dom a → a ∉ ws → f.g a = f.g' a) (hrs : ∀ a ∈ rs, ∃ o, cur a = some o) (hws : ∀ a ∈ ws, a ∈ rs ∨ (n ≤ a ∧ a < n')) : ∀ a, e.dom a → f.dom a → e.g a = e.g' a ∧ f.g a = f.g' a := fun a ha hb => by
  obtain ⟨h0, h⟩ := h
  rcases h with h | ⟨rs', ws', h1, h2, h3⟩ | ⟨b, o, h1, h2⟩ | ⟨lo, x, h1, h2, h3⟩
  · exact absurd ha (h a)
  · have h4 := hfp _ h1 hk
    have h4 : (Bool.rec false (Bool.rec false (disj ws rs') (disj ws' ws)) (disj ws' rs) : Bool) = true := h4
    cases c1 : disj ws' rs with
    | false => rw [c1] at h4; cases h4
    | true =>
      rw [c1] at h4
      cases c2 : disj ws' ws with
      | false => rw [c2] at h4; cases h4
      | true =>
        rw [c2] at h4
        have c3 : disj ws rs' = true := h4
        have n1 : a ∉ ws' := fun q => (hf a hb).elim (disj_spec c1 a q) (disj_spec c2 a q)
        have n2 : a ∈ rs' := (h2 a ha).resolve_right n1
        have n3 : a ∉ ws := fun q => disj_spec c3 a q n2
        exact ⟨h3 a ha n1, hro a hb n3⟩
  · exfalso
    have hab := h2 a ha
    obtain ⟨_, h4, h5⟩ := hT.pe _ h1
    subst hab
    have : a ∈ rs := by
      rcases hf a hb with q | q
      · exact q
      · rcases hws a q with q | q
        · exact q
        · have h5 : a < n := h5
          omega
    obtain ⟨o', ho'⟩ := hrs a this
    have h4 : cur a = none := h4
    rw [h4] at ho'
    cases ho'
  · have h4 := hfp _ h1 hk
    have h4 : (Bool.rec (Bool.rec false (allLt lo rs) (allGe n ws)) false x : Bool) = true := h4
    cases x with
    | true => cases h4
    | false =>
      cases c1 : allGe n ws with
      | false => simp only [c1] at h4; cases h4
      | true =>
        simp only [c1] at h4
        have han := h0 a ha
        have n3 : a ∉ ws := fun q => by
          have := allGe_spec c1 a q
          omega
        have n2 : a ∈ rs := (hf a hb).resolve_right n3
        exact ⟨h3 rfl a ha (allLt_spec h4 a n2), hro a hb n3⟩
/-- Beside a call. -/
theorem Cov.call {past : Past} {pend : Pend} {n j mk : Nat} {x : Bool} {e f : Eff} (h : Cov past pend n j e) (hk : kept mk j = false) (hfp : ∀ p ∈ past, kept mk p.1 = false → x = false ∧ noWs p.2 = true) (_hx : x = true → pend = [])
    (hf : ∀ a, f.dom a → ∀ p ∈ pend, p.2.1 ≠ a) (hro : x = false → ∀ a, f.dom a → a < n → f.g a = f.g' a) : ∀ a, e.dom a → f.dom a → e.g a = e.g' a ∧ f.g a = f.g' a := fun a ha hb => by
  obtain ⟨h0, h⟩ := h
  rcases h with h | ⟨rs', ws', h1, h2, h3⟩ | ⟨b, o, h1, h2⟩ | ⟨lo, y, h1, h2, h3⟩
  · exact absurd ha (h a)
  · obtain ⟨hx0, h4⟩ := hfp _ h1 hk
    have n1 : ws' = [] := by
      cases ws' with
      | nil => rfl
      | cons _ _ => cases h4
    subst n1
    exact ⟨h3 a ha (by simp), hro hx0 a hb (h0 a ha)⟩
  · exact absurd (h2 a ha).symm (hf a hb _ h1)
  · obtain ⟨_, h4⟩ := hfp _ h1 hk
    cases h4
end
end Go.D
