/-
  Walks and laws of this seat.
-/
import Derived.Test.YtdjjeahiomackaaGreatVE
namespace Go.V
set_option linter.unusedVariables false
set_option linter.unusedSimpArgs false
set_option linter.unusedSectionVars false
open Go.RowKit Go.Sl
variable [F0]
def ph : Ent := .row (.slice none 0 0) 0 0 []
theorem ph_holds {w : World} : ph.holds w := ⟨World.ownsRow_nil w 0 0 0, by simp⟩
theorem zil : ph.key = none := rfl
theorem Cw.re {w0 w : World} {f : Fz} {L L' : List Ent} (h : Cw w0 f L w) (g : Nat → Nat) (hg : ∀ p x, L'[p]? = some x → (x.key = none ∧ x.holds w) ∨ L[g p]? = some x)
    (hi : ∀ p q x y, L'[p]? = some x → L'[q]? = some y → x.key ≠ none → y.key ≠ none → p ≠ q → g p ≠ g q) : Cw w0 f L' w := by
  have hkey : ∀ p x k, L'[p]? = some x → x.key = some k → L[g p]? = some x := fun p x k hp hk => by
    rcases hg p x hp with ⟨h1, _⟩ | h1
    · rw [h1] at hk; cases hk
    · exact h1
  refine ⟨h.os, h.tape, h.output, h.size, h.frz, fun e he => ?_, fun e he b hb => ?_, fun i j x y hx hy hij k hkx hky => ?_⟩
  · obtain ⟨p, hp⟩ := List.getElem?_of_mem he
    rcases hg p e hp with ⟨_, h1⟩ | h1
    · exact h1
    · exact h.live e (List.mem_of_getElem? h1)
  · obtain ⟨p, hp⟩ := List.getElem?_of_mem he
    exact h.apart e (List.mem_of_getElem? (hkey p e b hp hb)) b hb
  · exact h.sep (g i) (g j) x y (hkey i x k hx hkx) (hkey j y k hy hky) (hi i j x y hx hy (by rw [hkx]; simp) (by rw [hky]; simp) hij) k hkx hky
theorem Cw.gone {w0 w : World} {f : Fz} {L : List Ent} {i : Nat} (h : Cw w0 f (L.eraseIdx i) w) : Cw w0 f (L.set i ph) w := by
  have key : ∀ (p : Nat),(L.eraseIdx i)[p]? = L[if p < i then p else p + 1]? := fun p => by rw [List.getElem?_eraseIdx]; split <;> rfl
  refine Cw.re h (fun p => if p < i then p else p - 1) (fun p x hp => ?_) (fun p q x y hp hq hx hy hpq => ?_)
  · rw [List.getElem?_set] at hp
    split at hp
    · split at hp
      · simp at hp; subst hp; exact .inl ⟨zil, ph_holds⟩
      · cases hp
    · rename_i hne
      refine .inr ?_
      rw [key, ← hp]
      congr 1
      by_cases c : p < i
      · simp [c]
      · simp only [c, if_false]; split <;> omega
  · have hne : ∀ p x,(L.set i ph)[p]? = some x → x.key ≠ none → p ≠ i := fun p x hp hx e => by
      subst e
      rw [List.getElem?_set] at hp
      simp only [if_true] at hp
      split at hp
      · simp at hp; subst hp; exact hx zil
      · cases hp
    have h1 := hne p x hp hx
    have h2 := hne q y hq hy
    split <;> split <;> omega
theorem zky : ∀ {ob : List Ob} {j : Nat} {x : Ob}, og ob j = some x → j < ob.length
  | y :: r, j, x, h => by
    simp only [og] at h
    cases q : Nat.beq r.length j with
    | true => have := Nat.eq_of_beq_eq_true q; simp; omega
    | false => rw [q] at h; have := zky h; simp; omega
  | [], _, _, h => by cases h
theorem zpp : ∀ {ob : List Ob} {j : Nat} {x : Ob}, j < ob.length → og (oset ob j x) j = some x
  | y :: r, j, x, h => by
    simp only [oset]
    cases q : Nat.beq r.length j with
    | true => have := Nat.eq_of_beq_eq_true q; subst this; simp [og]
    | false =>
      simp only [cond_false, og, zao, q]
      refine zpp ?_
      have : r.length ≠ j := fun e => by rw [e] at q; simp at q
      simp at h; omega
  | [], _, _, h => by simp at h
theorem zhj : ∀ {ob : List Ob} {j i : Nat} {x : Ob}, i ≠ j → og (oset ob j x) i = og ob i
  | y :: r, j, i, x, h => by
    simp only [oset]
    cases q : Nat.beq r.length j with
    | true =>
      have := Nat.eq_of_beq_eq_true q
      subst this
      have : Nat.beq r.length i = false := nbeq (Ne.symm h)
      simp [og, this]
    | false =>
      simp only [cond_false, og, zao]
      rw [zhj h]
  | [], _, _, _, h => rfl
theorem znm {ob : List Ob} {x : Ob} {j : Nat} (h : j < ob.length) : og (x :: ob) j = og ob j := by
  simp only [og]
  rw [nbeq (by omega)]
  rfl
theorem og_top {ob : List Ob} {x : Ob} : og (x :: ob) ob.length = some x := by simp [og]
def Fm (ob : List Ob) (L : List Ent) (ob' : List Ob) (L' : List Ent) : Prop := (∀ j, og ob j = some .no → og ob' j = some .no ∧ L'[ob'.length - 1 - j]? = L[ob.length - 1 - j]?) ∧ L'.drop ob'.length = L.drop ob.length
theorem Fm.refl (ob : List Ob) (L : List Ent) : Fm ob L ob L := ⟨fun _ h => ⟨h, rfl⟩, rfl⟩
theorem Fm.trans {ob ob1 ob2 : List Ob} {L L1 L2 : List Ent} (h : Fm ob L ob1 L1) (g : Fm ob1 L1 ob2 L2) : Fm ob L ob2 L2 := ⟨fun j hj => by
  obtain ⟨a, b⟩ := h.1 j hj
  obtain ⟨c, d⟩ := g.1 j a
  exact ⟨c, d.trans b⟩, g.2.trans h.2⟩
theorem zkc {α : Type} {L : List α} {i n : Nat} {e : α} (h : i < n) : (L.set i e).drop n = L.drop n := by
  apply List.ext_getElem?
  intro p
  rw [List.getElem?_drop, List.getElem?_drop, List.getElem?_set_ne (by omega)]
theorem Fm.set {ob : List Ob} {L : List Ent} {j : Nat} {x y : Ob} {e : Ent} (hj : og ob j = some x) (hx : x ≠ .no) : Fm ob L (oset ob j y) (L.set (ob.length - 1 - j) e) := ⟨fun i hi => by
  have hne : i ≠ j := fun q => by rw [q, hj] at hi; exact hx (Option.some.inj hi)
  have h1 := zky hi
  have h2 := zky hj
  exact ⟨by rw [zhj hne]; exact hi, by rw [zao, List.getElem?_set_ne (by omega)]⟩, by
  have h2 := zky hj
  rw [zao, zkc (by omega)]⟩
theorem Fm.say {ob : List Ob} {L : List Ent} {j : Nat} {x y : Ob} (hj : og ob j = some x) (hx : x ≠ .no) : Fm ob L (oset ob j y) L := ⟨fun i hi => by
  have hne : i ≠ j := fun q => by rw [q, hj] at hi; exact hx (Option.some.inj hi)
  exact ⟨by rw [zhj hne]; exact hi, by rw [zao]⟩, by rw [zao]⟩
theorem Fm.push {ob : List Ob} {L : List Ent} {x : Ob} {e : Ent} : Fm ob L (x :: ob) (e :: L) := ⟨fun j hj => by
  have := zky hj
  exact ⟨by rw [znm this]; exact hj, by
    have : (x :: ob).length - 1 - j = (ob.length - 1 - j) + 1 := by simp; omega
    rw [this]; simp⟩, rfl⟩
def Nb (N : Nm) (ob : List Ob) : Prop := ∀ j, ob.length ≤ j → N j = none
def nset (N : Nm) (j : Nat) (v : Value) : Nm := fun i => if i = j then some v else N i
theorem nset_le {N : Nm} {j : Nat} {v : Value} (h : N j = none) : Nm.le N (nset N j v) := fun i u hu => by
  unfold nset
  split
  · rename_i e; rw [e, h] at hu; cases hu
  · exact hu
theorem zd6 {N : Nm} {j : Nat} {v : Value} : nset N j v j = some v := by simp [nset]
theorem Nb.push {N : Nm} {ob : List Ob} {x : Ob} {v : Value} (h : Nb N ob) : Nb (nset N ob.length v) (x :: ob) := fun j hj => by
  unfold nset
  rw [if_neg (by simp at hj; omega)]
  exact h j (by simp at hj; omega)
theorem Nb.len {N : Nm} {ob ob' : List Ob} (h : Nb N ob) (hl : ob'.length = ob.length) : Nb N ob' := fun j hj => h j (by omega)
variable {α : Type} {r : α}
structure Mv (f : Fz) (N : Nm) (ob : List Ob) (L : List Ent) (w0 w : World) (f' : Fz) (ob' : List Ob) (L' : List Ent) : Prop where
  le : Fz.le f f'
  ol : OLR f' N ob' L'
  cw : Cw w0 f' L' w
  len : ob'.length = ob.length
  fm : Fm ob L ob' L'
theorem Mv.refl {f : Fz} {N : Nm} {ob : List Ob} {L : List Ent} {w0 w : World} (h : OLR f N ob L) (hC : Cw w0 f L w) : Mv f N ob L w0 w f ob L := ⟨.refl f, h, hC, rfl, .refl _ _⟩
theorem Mv.trans {f f1 f2 : Fz} {N : Nm} {ob ob1 ob2 : List Ob} {L L1 L2 : List Ent} {w0 w : World} (h : Mv f N ob L w0 w f1 ob1 L1) (g : Mv f1 N ob1 L1 w0 w f2 ob2 L2) : Mv f N ob L w0 w f2 ob2 L2 :=
  ⟨h.le.trans g.le, g.ol, g.cw, g.len.trans h.len, h.fm.trans g.fm⟩
theorem fn_fz {c : TC} {f : Fz} : Fz.le (fn f) (c.fz f) := by
  cases c <;> first | exact fn_le | exact .refl _
theorem frzW {f0 f : Fz} {L : List Ent} {w0 w : World} {i : Nat} {v : Value} {e : TypeId} {k : Nat} {rows : List (List Value)} (hC : Cw w0 f L w) (hi : L[i]? = some (.row v e k rows)) (h0 : Fz.le f0 f) :
    ∃ f', Fz.le f f' ∧ Cw w0 f' (L.eraseIdx i) w ∧ Rd (fy f0 f') [] v k rows ∧ Wh (fy f0 f') k v := by
  obtain ⟨f', h1, h2, h3, h4⟩ := hC.freezeAt hi
  have hap := hC.apart _ (List.mem_of_getElem? hi)
  have hh := hC.live _ (List.mem_of_getElem? hi)
  obtain ⟨⟨hq, hh⟩, hl⟩ := hh
  refine ⟨f', h1, h2, ?_⟩
  rcases hh with ⟨rfl, h0'⟩ | ⟨g, cap, cur, rfl, hg, hh, hle, hcm, hcs, htk⟩
  · have : rows = [] := List.eq_nil_of_length_eq_zero h0'
    subst this
    exact ⟨Rd.nil _ _ _, .inl ⟨_, _, rfl⟩⟩
  · have hb : fy f0 f' g = some (.cells cur e (0,0)) := zmd.2 ⟨zsb h0 (hap g rfl), by rw [h3 g rfl]; exact hh, rfl⟩
    refine ⟨⟨hl, some ⟨g,0, none⟩, cap, rfl, hle, fun h => (by cases h), fun a ha => ?_⟩, .inr ⟨g, _, cap, cur, e, rfl, hb, hle, hcm, hcs⟩⟩
    cases ha
    refine ⟨fun _ => rfl, fun i r hr j x hx => .inl ⟨cur, e,(0,0), hb, ?_⟩⟩
    have := zf2 (fun r hr => (hl r hr).1) hr hx
    rw [← htk, List.getElem?_take] at this
    split at this
    · simpa using this
    · cases this
theorem frz_at {c : TC} {f : Fz} {L : List Ent} {w0 w : World} {i : Nat} {v : Value} {e : TypeId} {rows : List (List Value)} {xs : List c.T} (hC : Cw w0 f L w) (h0 : Fz.le f00 f) (hi : L[i]? = some (.row v e c.k rows)) (hW : RW c.ty f rows xs) : ∃ f1, Fz.le f f1 ∧ Cw w0 f1 (L.eraseIdx i) w ∧ TS c f1 v xs := by
  obtain ⟨f1, q1, q2, q3, q4⟩ := frzW hC hi h0
  exact ⟨f1, q1, q2, rows, ⟨q3.le fn_fz, by cases c <;> first | exact trivial | exact q4⟩, hW.le q1⟩
theorem zjy : ∀ {cs : List C} {ob : List Ob} {K : List C → List Ob → Option α}, frz ob cs K = some r → ∃ cs' ob', K cs' ob' = some r ∧ ∀ (f : Fz) (N : Nm) (L : List Ent) (w0 w : World), OLR f N ob L → Cw w0 f L w →
    ∃ f' L', Mv f N ob L w0 w f' ob' L' ∧ ∀ vs, CLR f N cs vs → CLR f' N cs' vs
  | [], ob, K, h => ⟨[], ob, h, fun f N L w0 w hO hC => ⟨f, L, .refl hO hC, fun _ h => h⟩⟩
  | c :: cs, ob, K, h => by
    simp only [frz] at h
    have plain : ∀ c', (∀ f f' N v, Fz.le f f' → CR f N c v → CR f' N c' v) → frz ob cs (fun r ob => K (c' :: r) ob) = some r → ∃ cs' ob', K cs' ob' = some r ∧ ∀ (f : Fz) (N : Nm) (L : List Ent) (w0 w : World), OLR f N ob L → Cw w0 f L w →
        ∃ f' L', Mv f N ob L w0 w f' ob' L' ∧ ∀ vs, CLR f N (c :: cs) vs → CLR f' N cs' vs := fun c' hc h => by
      obtain ⟨cs', ob', h1, H⟩ := zjy h
      refine ⟨c' :: cs', ob', h1, fun f N L w0 w hO hC => ?_⟩
      obtain ⟨f', L', g1, g2⟩ := H f N L w0 w hO hC
      exact ⟨f', L', g1, fun vs hv => by
        match vs, hv with
        | v :: vs, ⟨k1, k2⟩ => exact ⟨hc f f' N v g1.le k1, g2 vs k2⟩⟩
    split at h
    · rename_i j
      obtain ⟨y, h1, h2⟩ := zaa h
      split at h2
      · rename_i e c xs
        obtain ⟨cs', ob', h3, H⟩ := zjy h2
        refine ⟨.sl c xs :: cs', ob', h3, fun f N L w0 w hO hC => ?_⟩
        obtain ⟨hlt, en, k1, v0, rows, k2, k3, k4⟩ := hO.get h1
        subst k3
        obtain ⟨f1, q1, q2, hRS⟩ := frz_at hC hO.f0 k1 k4
        have m1 : Mv f N ob L w0 w f1 (oset ob j (.fz c xs)) (L.set (ob.length - 1 - j) ph) := ⟨q1,(hO.le q1 (.refl N)).put hlt ⟨v0, k2, hRS⟩, Cw.gone q2, zao _ _ _, .set h1 (by simp)⟩
        obtain ⟨f2, L2, m2, H2⟩ := H f1 N _ w0 w m1.ol m1.cw
        refine ⟨f2, L2, m1.trans m2, fun vs hv => ?_⟩
        match vs, hv with
        | v :: vs, ⟨g1, g2⟩ =>
          obtain ⟨g1, _⟩ := g1
          rw [k2] at g1
          cases g1
          exact ⟨TS.le hRS m2.le, H2 vs (g2.le q1 (.refl N))⟩
      · rename_i c xs
        obtain ⟨cs', ob', h3, H⟩ := zjy h2
        refine ⟨.sl c xs :: cs', ob', h3, fun f N L w0 w hO hC => ?_⟩
        obtain ⟨hlt, en, k1, v0, k2, k3⟩ := hO.get h1
        obtain ⟨f2, L2, m2, H2⟩ := H f N _ w0 w hO hC
        refine ⟨f2, L2, m2, fun vs hv => ?_⟩
        match vs, hv with
        | v :: vs, ⟨g1, g2⟩ =>
          obtain ⟨g1, _⟩ := g1
          rw [k2] at g1
          cases g1
          exact ⟨TS.le k3 m2.le, H2 vs g2⟩
      · cases h2
    · rename_i k j lo hi
      obtain ⟨y, h1, h2⟩ := zaa h
      have cut : ∀ {c : TC} {f : Fz} {v0 : Value} {xs z : List c.T}, c.fl = true → cutM xs lo hi = some z → TS c f v0 xs → TS c f (cutv v0 c.k lo.toNat hi.toNat) z := fun {c f v0 xs z} hfl hz ⟨rows, e2, e3⟩ => by
        obtain ⟨⟨q1, q2, q3, q4⟩, q5⟩ := zen hz
        exact ⟨_, TC.rd_cut hfl e2 q3 (by rw [e3.len]; exact q4), by rw [← q5]; exact (e3.take _).drop _⟩
      split at h2
      · rename_i e c xs
        obtain ⟨hk, h2'⟩ := zb0 h2
        obtain ⟨hk, hfl⟩ := (Bool.and_eq_true _ _).mp hk
        obtain ⟨z, hz, h3'⟩ := zaa h2'
        have hk := Nat.eq_of_beq_eq_true hk
        subst hk
        obtain ⟨cs', ob', h3, H⟩ := zjy h3'
        refine ⟨.sl c z :: cs', ob', h3, fun f N L w0 w hO hC => ?_⟩
        obtain ⟨hlt, en, k1, v0, rows, k2, k3, k4⟩ := hO.get h1
        subst k3
        obtain ⟨f1, q1, q2, hRS⟩ := frz_at hC hO.f0 k1 k4
        have m1 : Mv f N ob L w0 w f1 (oset ob j (.fz c xs)) (L.set (ob.length - 1 - j) ph) := ⟨q1,(hO.le q1 (.refl N)).put hlt ⟨v0, k2, hRS⟩, Cw.gone q2, zao _ _ _, .set h1 (by simp)⟩
        obtain ⟨f2, L2, m2, H2⟩ := H f1 N _ w0 w m1.ol m1.cw
        refine ⟨f2, L2, m1.trans m2, fun vs hv => ?_⟩
        match vs, hv with
        | v :: vs, ⟨g1, g2⟩ =>
          obtain ⟨u, g1, rfl, _⟩ := g1
          rw [k2] at g1
          cases g1
          exact ⟨TS.le (cut hfl hz hRS) m2.le, H2 vs (g2.le q1 (.refl N))⟩
      · rename_i c xs
        obtain ⟨hk, h2'⟩ := zb0 h2
        obtain ⟨hk, hfl⟩ := (Bool.and_eq_true _ _).mp hk
        obtain ⟨z, hz, h3'⟩ := zaa h2'
        have hk := Nat.eq_of_beq_eq_true hk
        subst hk
        obtain ⟨cs', ob', h3, H⟩ := zjy h3'
        refine ⟨.sl c z :: cs', ob', h3, fun f N L w0 w hO hC => ?_⟩
        obtain ⟨hlt, en, k1, v0, k2, k3⟩ := hO.get h1
        obtain ⟨f2, L2, m2, H2⟩ := H f N _ w0 w hO hC
        refine ⟨f2, L2, m2, fun vs hv => ?_⟩
        match vs, hv with
        | v :: vs, ⟨g1, g2⟩ =>
          obtain ⟨u, g1, rfl, _⟩ := g1
          rw [k2] at g1
          cases g1
          exact ⟨TS.le (cut hfl hz k3) m2.le, H2 vs g2⟩
      · cases h2
    · exact plain c (fun f f' N v hf hc => hc.le hf (.refl N)) h
end Go.V
