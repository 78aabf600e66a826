/-
  Walks and laws of this seat; the base is the text Base.
-/
import Derived.Test.YteicdfkmpnmkmaaGreatDG
namespace Go.D
open Go.RowKit Go.Sl
/-! ## Regions that draw their order: effects that may be swapped -/
abbrev TS := Nat → Option V
abbrev HS := Nat → Option AO
structure Eff where
  rt : List Nat
  tv : TS
  d : Option Tmp
  v : V
  dom : Nat → Prop
  g : HS
  g' : HS
structure Step (e : Eff) (T : TS) (h : HS) (T' : TS) (h' : HS) : Prop where
  rd : ∀ t ∈ e.rt, T t = e.tv t
  pre : ∀ a, e.dom a → h a = e.g a
  slots : T' = setT T e.d e.v
  post : ∀ a, e.dom a → h' a = e.g' a
  out : ∀ a, ¬ e.dom a → h' a = h a
structure Compat (e f : Eff) : Prop where
  s1 : ∀ t ∈ f.rt, e.d ≠ some t
  s2 : ∀ t ∈ e.rt, f.d ≠ some t
  s3 : ∀ t, e.d = some t → f.d ≠ some t
  h : ∀ a, e.dom a → f.dom a → e.g a = e.g' a ∧ f.g a = f.g' a

open Classical in
theorem swap {e f : Eff} {T T1 T2 : TS} {h h1 h2 : HS} (he : Step e T h T1 h1) (hf : Step f T1 h1 T2 h2) (hc : Compat e f) : ∃ T' h', Step f T h T' h' ∧ Step e T' h' T2 h2 := by
  have hr : ∀ t, e.d ≠ some t → T1 t = T t := fun t ht => by rw [he.slots, setT, if_neg (fun q => ht q.symm)]
  have hsame : ∀ a, f.dom a → h1 a = h a := fun a ha => by
    by_cases hd : e.dom a
    · rw [he.post a hd, he.pre a hd, (hc.h a hd ha).1]
    · exact he.out a hd
  refine ⟨setT T f.d f.v, fun a => if f.dom a then f.g' a else h a, ⟨fun t ht => ?_, fun a ha => ?_, rfl, fun a ha => if_pos ha, fun a ha => if_neg ha⟩, ⟨fun t ht => ?_, fun a ha => ?_, ?_, fun a ha => ?_, fun a ha => ?_⟩⟩
  · rw [← hr t (hc.s1 t ht)]; exact hf.rd t ht
  · rw [← hsame a ha]; exact hf.pre a ha
  · rw [setT, if_neg (fun q => hc.s2 t ht q.symm)]; exact he.rd t ht
  · show (if f.dom a then f.g' a else h a) = e.g a
    split
    · rename_i hfd
      rw [← (hc.h a ha hfd).2, ← hf.pre a hfd, hsame a hfd, he.pre a ha]
    · exact he.pre a ha
  · rw [hf.slots, he.slots]
    funext t
    simp only [setT]
    by_cases c1 : some t = f.d
    · have : ¬ some t = e.d := fun c2 => hc.s3 t c2.symm c1.symm
      rw [if_pos c1, if_neg this, if_pos c1]
    · rw [if_neg c1, if_neg c1]
  · by_cases hfd : f.dom a
    · rw [hf.post a hfd, ← (hc.h a ha hfd).2, ← hf.pre a hfd, he.post a ha]
    · rw [hf.out a hfd, he.post a ha]
  · show h2 a = if f.dom a then f.g' a else h a
    split
    · rename_i hfd; exact hf.post a hfd
    · rename_i hfd; rw [hf.out a hfd, he.out a ha]

/-- An operation of the region: its number, what it waits for, its effect, its names. -/
structure En where
  idx : Nat
  wt : Nat
  eff : Eff
  lo : Nat
  hi : Nat
def RunE : List En → TS → HS → TS → HS → Prop
  | [], T, h, Te, he => T = Te ∧ h = he
  | e :: L, T, h, Te, he => ∃ T1 h1, Step e.eff T h T1 h1 ∧ RunE L T1 h1 Te he
theorem bubble {e : En} {L2 : List En} {Te : TS} {he : HS} : ∀ {L1 : List En} {T : TS} {h : HS}, RunE (L1 ++ e :: L2) T h Te he → (∀ f ∈ L1, Compat f.eff e.eff) → ∃ T1 h1, Step e.eff T h T1 h1 ∧ RunE (L1 ++ L2) T1 h1 Te he
  | [], _, _, hr, _ => hr
  | f :: L1, T, h, ⟨Ta, ha, hs, hr⟩, hc => by
    obtain ⟨Tb, hb, h1, h2⟩ := bubble hr (fun g hg => hc g (by simp [hg]))
    obtain ⟨Tc, hc', h3, h4⟩ := swap hs h1 (hc f (by simp))
    exact ⟨Tc, hc', h3, Tb, hb, h4, h2⟩

def Dj (e f : En) : Prop := ∀ b, ¬ ((e.lo ≤ b ∧ b < e.hi) ∧ (f.lo ≤ b ∧ b < f.hi))
/-- What the operation does when it comes up. -/
def OpE (P : Program) (ops : Array Oper) (N : Nat) (e : En) : Prop :=
  ∀ (w0 : World) (Φ : Fz) (σ : Sg) (T : TS) (h : HS) (T' : TS) (h' : HS) (a : Act) (w : World) (K : AP), Step e.eff T h T' h' → Free σ e.lo e.hi → SL N σ T a → HR w0 Φ σ h w →
    (∀ a' w' σ', Out σ σ' e.lo e.hi → SL N σ' T' a' → HR w0 Φ σ' h' w' → K a' w') → wpOpS P ops e.idx K a w

structure PW (f e : En) : Prop where
  lt : f.idx < e.idx
  co : kept e.wt f.idx = false → Compat f.eff e.eff
  dj : Dj f e

theorem any_ok {P : Program} {ops : Array Oper} {N : Nat} {w0 : World} {Φ : Fz} {Te : TS} {he : HS} {K : AP} {ms : Nat → Nat}
    (hedge : ∀ i o, ops[i]? = some o → ∀ e ∈ o.after, Region.binds .any e = true → e.on < i)
    (hmask : ∀ i o j, ops[i]? = some o → kept (ms i) j = true → ∃ e ∈ o.after, Region.binds .any e = true ∧ (e.on = j ∨ kept (ms e.on) j = true)) :
    ∀ (m : Nat) (R : List En) (listed : Array Bool) (T : TS) (h : HS) (σ : Sg) (a : Act) (w : World), R.length = m → listed.size = ops.size → (∀ i, i < ops.size → (listed.getD i false = false ↔ ∃ e ∈ R, e.idx = i)) → (∀ e ∈ R, e.idx < ops.size ∧ e.wt = ms e.idx ∧ OpE P ops N e ∧ Free σ e.lo e.hi) →
      R.Pairwise PW → (∀ i j, listed.getD i false = true → kept (ms i) j = true → listed.getD j false = true) → RunE R T h Te he → SL N σ T a → HR w0 Φ σ h w →
      (∀ a w σ', σ.le σ' → (∀ b, (∀ e ∈ R, ¬ (e.lo ≤ b ∧ b < e.hi)) → σ' b = σ b) → SL N σ' Te a → HR w0 Φ σ' he w → K a w) → anyS P ops K m listed a w
  | m, R, listed, T, h, σ, a, w, hlen, hsz, hmem, hall, hpw, hcl, hrun, hs, H, hK => by
    have hempty : Region.ready .any ops listed = [] → R = [] := fun hr => by
      cases R with
      | nil => rfl
      | cons e R =>
        exfalso
        have hlt := (hall e (by simp)).1
        have hun : listed.getD e.idx false = false := (hmem e.idx hlt).2 ⟨e, by simp, rfl⟩
        have : e.idx ∈ Region.ready .any ops listed := by
          rw [mem_ready]
          refine ⟨by simpa [Array.getD_eq_getD_getElem?, hsz, hlt] using hun, ops[e.idx], by simp [hlt], fun ed hed hb => ?_⟩
          have h1 := hedge e.idx ops[e.idx] (by simp [hlt]) ed hed hb
          cases q : listed.getD ed.on false with
          | true => rfl
          | false =>
            obtain ⟨f, hf, hfi⟩ := (hmem ed.on (by omega)).1 q
            rcases List.mem_cons.1 hf with rfl | hf
            · omega
            · have := (List.pairwise_cons.1 hpw).1 f hf
              have := this.lt
              omega
        rw [hr] at this
        cases this
    have hdone : R = [] → K a w := fun hR => by
      subst hR
      obtain ⟨rfl, rfl⟩ := hrun
      exact hK a w σ (Sg.le.refl σ) (fun _ _ => rfl) hs H
    cases m with
    | zero =>
      have hR : R = [] := List.eq_nil_of_length_eq_zero hlen
      refine ⟨?_, hdone hR⟩
      cases q : Region.ready .any ops listed with
      | nil => rfl
      | cons i l =>
        exfalso
        have hi : i ∈ Region.ready .any ops listed := by rw [q]; simp
        obtain ⟨h1, o, h2, _⟩ := mem_ready.1 hi
        have hlt : i < ops.size := (Array.getElem?_eq_some_iff.1 h2).1
        have hun : listed.getD i false = false := by simpa [Array.getD_eq_getD_getElem?, hsz, hlt] using h1
        obtain ⟨e, he, _⟩ := (hmem i hlt).1 hun
        rw [hR] at he
        cases he
    | succ m =>
      refine ⟨fun hr => hdone (hempty hr), fun i hi => ?_⟩
      obtain ⟨h1, o, h2, hedges⟩ := mem_ready.1 hi
      have hlt : i < ops.size := (Array.getElem?_eq_some_iff.1 h2).1
      have hun : listed.getD i false = false := by simpa [Array.getD_eq_getD_getElem?, hsz, hlt] using h1
      obtain ⟨e, heR, hei⟩ := (hmem i hlt).1 hun
      obtain ⟨L1, L2, hsplit⟩ := List.append_of_mem heR
      subst hsplit
      obtain ⟨g1, g2, g3, g4⟩ := hall e heR
      rw [List.pairwise_append, List.pairwise_cons] at hpw
      obtain ⟨p1, ⟨p2, p3⟩, p4⟩ := hpw
      have hmk : ∀ j, kept (ms i) j = true → listed.getD j false = true := fun j hj => by
        obtain ⟨ed, hed, hb, hor⟩ := hmask i o j h2 hj
        have := hedges ed hed hb
        rcases hor with rfl | hor
        · exact this
        · exact hcl _ _ this hor
      have hco : ∀ f ∈ L1, Compat f.eff e.eff := fun f hf => by
        refine (p4 f hf e (by simp)).co ?_
        cases q : kept e.wt f.idx with
        | false => rfl
        | true =>
          rw [g2, hei] at q
          have h3 := hmk _ q
          have h4 := (hmem f.idx (hall f (by simp [hf])).1).2 ⟨f, by simp [hf], rfl⟩
          rw [h4] at h3
          cases h3
      obtain ⟨T1, h1', hst, hrun'⟩ := bubble hrun hco
      have hset : ∀ j, (listed.setIfInBounds i true).getD j false = if j = i then true else listed.getD j false := fun j => by
        by_cases q : j = i
        · subst q; simp [Array.getD_eq_getD_getElem?, hsz, hlt]
        · have : i ≠ j := fun e => q e.symm
          simp [Array.getD_eq_getD_getElem?, q, this]
      have hL : ∀ f, f ∈ L1 ++ L2 → f.idx ≠ i ∧ f ∈ L1 ++ e :: L2 ∧ Dj f e := fun f hf => by
        rcases List.mem_append.1 hf with hf | hf
        · have := p4 f hf e (by simp)
          exact ⟨by have := this.lt; omega, by simp [hf], this.dj⟩
        · have := p2 f hf
          exact ⟨by have := this.lt; omega, by simp [hf], fun b hb => this.dj b ⟨hb.2, hb.1⟩⟩
      rw [← hei]
      refine g3 w0 Φ σ T h T1 h1' a w _ hst g4 hs H fun a' w' σ' ho hs' H' => ?_
      rw [hei]
      refine any_ok hedge hmask m (L1 ++ L2) (listed.setIfInBounds i true) T1 h1' σ' a' w' (by simp at hlen ⊢; omega) (by simp [hsz]) (fun j hj => ?_) (fun f hf => ?_) ?_ (fun p q hp hq => ?_) hrun' hs' H' (fun a w σ2 k1 k2 k3 k4 => hK a w σ2 (ho.1.trans k1) (fun b hb => ?_) k3 k4)
      · rw [hset]
        by_cases q : j = i
        · subst q
          rw [if_pos rfl]
          exact ⟨fun h => (by cases h), fun ⟨f, hf, hfi⟩ => absurd hfi (hL f hf).1⟩
        · rw [if_neg q, hmem j hj]
          constructor
          · rintro ⟨f, hf, hfi⟩
            rcases List.mem_append.1 hf with hf | hf
            · exact ⟨f, by simp [hf], hfi⟩
            · rcases List.mem_cons.1 hf with rfl | hf
              · exact absurd (hfi.symm.trans hei) q
              · exact ⟨f, by simp [hf], hfi⟩
          · rintro ⟨f, hf, hfi⟩
            exact ⟨f, (hL f hf).2.1, hfi⟩
      · obtain ⟨_, q2, q3⟩ := hL f hf
        obtain ⟨r1, r2, r3, r4⟩ := hall f q2
        refine ⟨r1, r2, r3, fun b hb hb2 => ?_⟩
        have hd := q3 b
        rw [ho.2 b (by omega)]
        exact r4 b hb hb2
      · rw [List.pairwise_append]
        exact ⟨p1, p3, fun f hf g hg => p4 f hf g (by simp [hg])⟩
      · rw [hset] at hp ⊢
        by_cases q' : q = i
        · rw [if_pos q']
        · rw [if_neg q']
          by_cases p' : p = i
          · subst p'; exact hmk q hq
          · rw [if_neg p'] at hp; exact hcl p q hp hq
      · rw [k2 b (fun f hf => hb f (hL f hf).2.1), ho.2 b (by
          have := hb e (by simp)
          omega)]
end Go.D
