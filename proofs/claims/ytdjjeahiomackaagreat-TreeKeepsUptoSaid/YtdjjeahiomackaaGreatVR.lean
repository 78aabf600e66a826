/-
  Walks and laws of this seat.
-/
import Derived.Test.YtdjjeahiomackaaGreatVK
namespace Go.V
set_option linter.unusedVariables false
set_option linter.unusedSimpArgs false
set_option linter.unusedSectionVars false
attribute [local irreducible] opd opr
open Go.RowKit Go.Sl
variable [F0]
mutual
theorem TC.scR : ∀ (c : TC) (x : c.T), c.sc = true → ∃ r0,(∀ f, c.R f r0 x) ∧ ∀ f r, c.R f r x → r = r0
  | .int k, n, _ => ⟨[.int k n], fun _ => rfl, fun _ _ h => h⟩
  | .bool, b, _ => ⟨[.bool b], fun _ => rfl, fun _ _ h => h⟩
  | .str, s, _ => ⟨[.string s], fun _ => rfl, fun _ _ h => h⟩
  | .sl _, _, h => by cases h
  | .st l, x, h => l.scR x h
theorem TL.scR : ∀ (l : TL) (x : l.T), l.sc = true → ∃ r0,(∀ f, l.R f r0 x) ∧ ∀ f r, l.R f r x → r = r0
  | .nil, _, _ => ⟨[], fun _ => rfl, fun _ _ h => h⟩
  | .cons c l, x, h => by
    simp only [TL.sc, Bool.and_eq_true] at h
    obtain ⟨r1, a1, a2⟩ := c.scR x.1 h.1
    obtain ⟨r2, b1, b2⟩ := l.scR x.2 h.2
    exact ⟨r1 ++ r2, fun f => ⟨r1, r2, rfl, a1 f, b1 f⟩, fun f r ⟨q1, q2, e, h1, h2⟩ => by rw [e, a2 f q1 h1, b2 f q2 h2]⟩
end
theorem sc_val {c : TC} {x : c.T} (h : c.sc = true) : ∃ u,(∀ f N, VR f N (c.v x) u) ∧ ∀ f N v, VR f N (c.v x) v → v = u := by
  obtain ⟨r0, h1, h2⟩ := c.scR x h
  refine ⟨if c.ag then .agg r0.toArray else r0.headD undef, fun f N => TC.vR.2 ⟨r0, h1 f, rfl⟩, fun f N v hv => ?_⟩
  obtain ⟨r, g1, g2⟩ := TC.vR.1 hv
  rw [g2, h2 f r g1]
theorem zus : ∀ {l : List Md} (y : Pr Md.T l), l.all scD = true → ∃ us0 : List Value,(∀ f, MLR f l y us0 []) ∧ ∀ f us es, MLR f l y us es → us = us0 ∧ es = []
  | [], y, _ => ⟨[], fun _ => ⟨rfl, rfl⟩, fun _ _ _ h => h⟩
  | [m], y, h => by
    simp only [List.all_cons, List.all_nil, Bool.and_true] at h
    cases m <;> first | (cases h; done) | skip
    obtain ⟨u, h1, h2⟩ := sc_val (x := y) h
    exact ⟨[u], fun f => ⟨u, rfl, h1 f _, rfl⟩, fun f us es ⟨v, e, g1, g2⟩ => ⟨by rw [e, h2 f _ v g1], g2⟩⟩
  | m :: n :: l, y, h => by
    rw [List.all_cons, Bool.and_eq_true] at h
    obtain ⟨us0, b1, b2⟩ := zus (l := n :: l) y.2 h.2
    have hm := h.1
    cases m <;> first | (cases hm; done) | skip
    obtain ⟨u, h1, h2⟩ := sc_val (x := y.1) hm
    refine ⟨u :: us0, fun f => ⟨u, us0,[],[], rfl, rfl, ⟨h1 f _, rfl⟩, b1 f⟩, fun f us es hh => ?_⟩
    obtain ⟨v, vs, e1, e2, q1, q2, ⟨q3, q4⟩, q5⟩ := hh
    obtain ⟨c1, c2⟩ := b2 f vs e2 q5
    exact ⟨by rw [q1, c1, h2 f _ v q3], by rw [q2, q4, c2]; rfl⟩
theorem backD : ∀ {l : List Md} {y : Pr Md.T l} {us : List Value} {js : List Nat} {ob : List Ob} {f : Fz} {N : Nm}, l.all isD = true → MLR f l y us [] → VLR f N (back l y js ob).1 us ∧ ∀ v ∈ (back l y js ob).1, nt v
  | [], y, us, js, ob, f, N, _, h => by obtain ⟨rfl, _⟩ := h; exact ⟨trivial, by simp [back]⟩
  | [m], y, us, js, ob, f, N, hD, h => by
    simp only [List.all_cons, List.all_nil, Bool.and_true] at hD
    cases m <;> first | (cases hD; done) | skip
    obtain ⟨v, rfl, h1, _⟩ := h
    exact ⟨⟨dataN h1, trivial⟩, fun v hv => by simp [back, back1] at hv; subst hv; exact nt_v _ _⟩
  | m :: n :: l, y, us, js, ob, f, N, hD, h => by
    rw [List.all_cons, Bool.and_eq_true] at hD
    have hm := hD.1
    cases m <;> first | (cases hm; done) | skip
    obtain ⟨v, vs, e1, e2, rfl, he, ⟨h1, h1'⟩, h2⟩ := h
    have he2 : e2 = [] := by cases e2 with | nil => rfl | cons _ _ => cases e1 <;> cases he
    subst he2
    obtain ⟨k1, k2⟩ := backD (l := n :: l) (js := js) (ob := ob) (N := N) hD.2 h2
    exact ⟨⟨dataN h1, k1⟩, fun u hu => by
      rcases List.mem_cons.1 hu with rfl | hu
      · exact nt_v _ _
      · exact k2 u hu⟩
theorem zve {l : List Md} (h : l.all scD = true) : l.all isD = true := by
  rw [List.all_eq_true] at h ⊢
  intro m hm
  have := h m hm
  cases m <;> first | rfl | cases this
theorem noP_of_L {l : List Md} (h : l.all isL = true) : l.filter isP = [] := by
  rw [List.filter_eq_nil_iff]
  intro m hm
  have := List.all_eq_true.1 h m hm
  cases m <;> first | (cases this; done) | simp [isP]
theorem zuy : ∀ {ps : List Md} {vs : List Value}, ps.all isL = true → pvals ps vs = []
  | [], _, _ => by cases ‹List Value› <;> rfl
  | m :: ps, vs, h => by
    rw [List.all_cons, Bool.and_eq_true] at h
    have hm := h.1
    cases m <;> first | (cases hm; done) | skip
    all_goals
      cases vs with
      | nil => rfl
      | cons v vs => exact zuy (ps := ps) h.2
def fA (w : World) : Fz := fun b => w.heap[b]?
section
variable {w0 w w' : World} {f : Fz} {L : List Ent} {N : Nm} {ob : List Ob}
theorem cw_all (h : Cw w0 f L w) : Cw w0 (fA w) [] w := ⟨h.os, h.tape, h.output, h.size, fun b o h => h, by simp, by simp, by simp⟩
theorem zop (h : Cw w0 f L w) : Fz.le f (fA w) := fun b o hb => h.frz b o hb
theorem cw_of (h : Cw w0 f L w) (g : Cw w0 (fA w) [] w') : Cw w0 f L w' :=
  ⟨g.os, g.tape, g.output, g.size, fun b o hb => g.frz b o (h.frz b o hb), fun x hx => Ent.kept (h.live x hx) fun b hb => by
    have hlt := Ent.lt (h.live x hx) hb
    have h1 : fA w b = some w.heap[b] := Array.getElem?_eq_getElem hlt
    rw [g.frz b _ h1, Array.getElem?_eq_getElem hlt], h.apart, h.sep⟩
theorem zvx (h : Cw w0 f L w) : ∀ (es : List Ent),(∀ e ∈ es, e = ph) → Cw w0 f (es ++ L) w
  | [], _ => h
  | e :: es, he => by
    have := he e (by simp)
    subst this
    have ih := zvx h es fun e h => he e (by simp [h])
    refine Cw.re ih (fun p => p - 1) (fun p x hp => ?_) (fun p q x y hp hq hx hy hpq => ?_)
    · cases p with
      | zero => simp at hp; subst hp; exact .inl ⟨zil, ph_holds⟩
      | succ p => exact .inr (by simpa using hp)
    · cases p with
      | zero => simp at hp; subst hp; exact absurd zil hx
      | succ p =>
        cases q with
        | zero => simp at hq; subst hq; exact absurd zil hy
        | succ q => simp; omega
theorem Rd.allY {v : Value} {e : TypeId} {k : Nat} {rows : List (List Value)} (hC : Cw w0 f L w) (hi : .row v e k rows ∈ L) (h0 : Fz.le f00 f) : Rd (fn (fA w)) [] v k rows := by
  have hap := hC.apart _ hi
  have hh := hC.live _ hi
  obtain ⟨⟨hq, hh⟩, hl⟩ := hh
  refine ⟨hl, ?_⟩
  rcases hh with ⟨rfl, h0'⟩ | ⟨g, cap, cur, rfl, hg, hh, hle, hcm, hcs, htk⟩
  · have : rows = [] := List.eq_nil_of_length_eq_zero h0'
    subst this
    exact ⟨none,0, rfl, Nat.le_refl _, fun _ => rfl, fun a ha => by cases ha⟩
  · refine ⟨some ⟨g,0, none⟩, cap, rfl, hle, fun h => (by cases h), fun a ha => ?_⟩
    cases ha
    refine ⟨fun _ => rfl, fun i r hr j x hx => .inl ⟨cur, e,(0,0), ?_, ?_⟩⟩
    · exact zmd.2 ⟨zsb h0 (hap g rfl), hh, rfl⟩
    · have := zf2 (fun r hr => (hl r hr).1) hr hx
      rw [← htk, List.getElem?_take] at this
      split at this
      · simpa using this
      · cases this
theorem Rd.allW {v : Value} {e : TypeId} {k : Nat} {rows : List (List Value)} (hC : Cw w0 f L w) (hi : .row v e k rows ∈ L) (h0 : Fz.le f00 f) : Wh (fn (fA w)) k v := by
  have hap := hC.apart _ hi
  obtain ⟨⟨hq, hh⟩, hl⟩ := hC.live _ hi
  rcases hh with ⟨rfl, h0'⟩ | ⟨g, cap, cur, rfl, hg, hh, hle, hcm, hcs, htk⟩
  · exact .inl ⟨_, _, rfl⟩
  · exact .inr ⟨g, _, cap, cur, e, rfl, zmd.2 ⟨zsb h0 (hap g rfl), hh, rfl⟩, hle, hcm, hcs⟩
variable {α : Type} {r : α}
theorem pk_ok : ∀ {cs : List C} {K : List C → Option α}, pk ob cs K = some r → ∃ cs', K cs' = some r ∧ ∀ (f : Fz) (N : Nm) (L : List Ent) (w0 w : World), OLR f N ob L → Cw w0 f L w → ∀ vs, CLR f N cs vs → CLR (fA w) N cs' vs
  | [], K, h => ⟨[], h, fun f N L w0 w hO hC vs hv => by cases vs with | nil => trivial | cons _ _ => exact hv.elim⟩
  | c :: cs, K, h => by
    simp only [pk] at h
    split at h
    · rename_i j
      obtain ⟨y, h1, h2⟩ := zaa h
      split at h2
      · rename_i e c xs
        obtain ⟨cs', h3, H⟩ := pk_ok h2
        refine ⟨_, h3, fun f N L w0 w hO hC vs hv => ?_⟩
        match vs, hv with
        | v :: vs, ⟨⟨g1, _⟩, g2⟩ =>
          obtain ⟨hlt, en, k1, v0, rows, k2, rfl, k4⟩ := hO.get h1
          rw [g1] at k2
          cases k2
          exact ⟨⟨rows, ⟨(Rd.allY hC (List.mem_of_getElem? k1) hO.f0).le fn_fz, by cases c <;> first | exact trivial | exact Rd.allW hC (List.mem_of_getElem? k1) hO.f0⟩, k4.le (zop hC)⟩, H f N L w0 w hO hC vs g2⟩
      · rename_i c xs
        obtain ⟨cs', h3, H⟩ := pk_ok h2
        refine ⟨_, h3, fun f N L w0 w hO hC vs hv => ?_⟩
        match vs, hv with
        | v :: vs, ⟨⟨g1, _⟩, g2⟩ =>
          obtain ⟨hlt, en, k1, v0, k2, k3⟩ := hO.get h1
          rw [g1] at k2
          cases k2
          exact ⟨TS.le k3 (zop hC), H f N L w0 w hO hC vs g2⟩
      · cases h2
    · obtain ⟨cs', h3, H⟩ := pk_ok h
      refine ⟨_, h3, fun f N L w0 w hO hC vs hv => ?_⟩
      match vs, hv with
      | v :: vs, ⟨g1, g2⟩ => exact ⟨CR.le (zop hC) (.refl N) g1, H f N L w0 w hO hC vs g2⟩
theorem pkq_ok {c : TC} {x : C} {K : c.T → Option α} (h : pkq c ob x K = some r) : ∃ y, K y = some r ∧ ∀ (f : Fz) (N : Nm) (L : List Ent) (w0 w : World), OLR f N ob L → Cw w0 f L w → ∀ v, CR f N x v → CR (fA w) N (.fp c y 0) v := by
  unfold pkq at h
  split at h
  · rename_i j o
    obtain ⟨y, h1, h2⟩ := zaa h
    split at h2
    · rename_i cs
      obtain ⟨cs', h3, H⟩ := pk_ok h2
      obtain ⟨y, h4, hl, hy⟩ := TC.mkA_inv h3
      refine ⟨y, h4, fun f N L w0 w hO hC v hv => ?_⟩
      obtain ⟨b, g1, rfl⟩ := hv
      obtain ⟨_, en, k1, b', vs, t, g3, rfl, g5⟩ := hO.get h1
      rw [g1] at g3
      cases g3
      refine ⟨b, o,(vs.drop o).take c.k, rfl, hy _ N _ (H f N L w0 w hO hC _ ((g5.drop o).take c.k)), fun j u hj => ?_⟩
      rw [List.getElem?_take] at hj
      split at hj
      · rw [List.getElem?_drop] at hj
        exact .inl ⟨_, t,(0,0), hC.live _ (List.mem_of_getElem? k1), by simpa using hj⟩
      · cases hj
    · rename_i cs
      obtain ⟨cs', h3, H⟩ := pk_ok h2
      obtain ⟨y, h4, hl, hy⟩ := TC.mkA_inv h3
      refine ⟨y, h4, fun f N L w0 w hO hC v hv => ?_⟩
      obtain ⟨b, g1, rfl⟩ := hv
      obtain ⟨_, en, k1, b', vs, t, g3, g4, g5⟩ := hO.get h1
      rw [g1] at g3
      cases g3
      refine ⟨b, o,(vs.drop o).take c.k, rfl, hy _ N _ (H f N L w0 w hO hC _ ((g5.drop o).take c.k)), fun j u hj => ?_⟩
      rw [List.getElem?_take] at hj
      split at hj
      · rw [List.getElem?_drop] at hj
        exact .inl ⟨_, t,(0,0), zop hC _ _ g4, by simpa using hj⟩
      · cases hj
    · cases h2
  · rename_i k j i o
    obtain ⟨y, h1, h2⟩ := zaa h
    split at h2
    · rename_i e c' xs
      obtain ⟨hk, h3⟩ := zb0 h2
      have hk := Nat.eq_of_beq_eq_true hk
      subst hk
      obtain ⟨x, h4, h5⟩ := zaa h3
      obtain ⟨y, h6, hl, hy⟩ := TC.mkA_inv h5
      refine ⟨y, h6, fun f N L w0 w hO hC v hv => ?_⟩
      obtain ⟨v0, g1, rfl, g3⟩ := hv
      obtain ⟨_, en, k1, v', rows, g5, rfl, g7⟩ := hO.get h1
      rw [g1] at g5
      cases g5
      obtain ⟨rw, q1, q2, q3, q4⟩ := g7.geti h4
      have hR : Rd (fA w) [] v0 c'.k rows := (Rd.allY hC (List.mem_of_getElem? k1) hO.f0).le fn_le
      obtain ⟨a, m, cp, rfl, ha⟩ := zlp g3
      refine ⟨a.block, a.off + (i.toNat * c'.k + o),(rw.drop o).take c.k, by rw [ha]; simp, hy _ N _ (CLR.le (zop hC) (.refl N) ((((TC.lvR (N := N) c').1 q2).drop o).take c.k)), fun j u hj => ?_⟩
      rw [List.getElem?_take] at hj
      split at hj
      · rw [List.getElem?_drop] at hj
        obtain ⟨b', o', e1, e2⟩ := hR.cell q1 hj
        rw [ha] at e1
        cases e1
        have : a.off + (i.toNat * c'.k + o) + j = a.off + (i.toNat * c'.k + (o + j)) := by omega
        rw [this]; exact e2
      · cases hj
    · cases h2
  · obtain ⟨y, h1, H⟩ := zuz h
    exact ⟨y, h1, fun f N L w0 w hO hC v hv => CR.le (zop hC) (.refl N) (H f N L hO v hv)⟩
theorem zv0 {c : TC} {x : C} {K : c.T → Option α} (h : pkb c ob x K = some r) : ∃ y, K y = some r ∧ ∀ (f : Fz) (N : Nm) (L : List Ent) (w0 w : World), OLR f N ob L → Cw w0 f L w → ∀ v, CR f N x v → BxR (fA w) c y v := by
  unfold pkb at h
  split at h
  · rename_i j
    obtain ⟨y, h1, h2⟩ := zaa h
    split at h2
    · rename_i cs
      obtain ⟨cs', h3, H⟩ := V.pk_ok h2
      obtain ⟨y, h4, hl, hy⟩ := TC.mkA_inv h3
      refine ⟨y, h4, fun f N L w0 w hO hC v hv => ?_⟩
      obtain ⟨b, g1, rfl⟩ := hv
      obtain ⟨_, en, k1, b', vs, t, g3, rfl, g5⟩ := hO.get h1
      rw [g1] at g3
      cases g3
      exact ⟨b, vs, t, rfl, hC.live _ (List.mem_of_getElem? k1), hy _ N _ (H f N L w0 w hO hC _ g5)⟩
    · rename_i cs
      obtain ⟨cs', h3, H⟩ := V.pk_ok h2
      obtain ⟨y, h4, hl, hy⟩ := TC.mkA_inv h3
      refine ⟨y, h4, fun f N L w0 w hO hC v hv => ?_⟩
      obtain ⟨b, g1, rfl⟩ := hv
      obtain ⟨_, en, k1, b', vs, t, g3, g4, g5⟩ := hO.get h1
      rw [g1] at g3
      cases g3
      exact ⟨b, vs, t, rfl, zop hC _ _ g4, hy _ N _ (H f N L w0 w hO hC _ g5)⟩
    · cases h2
  · cases h
theorem zq7 : ∀ {cs : List TC} {l : List C} {K : Pr TC.T cs → Option α}, capsp ob cs l K = some r → ∃ y, K y = some r ∧ ∀ (f : Fz) (N : Nm) (L : List Ent) (w0 w : World), OLR f N ob L → Cw w0 f L w → ∀ vs, CLR f N l vs → CapR (fA w) cs y vs
  | [], l, K, h => by
    cases l with
    | nil => exact ⟨(), h, fun f N L w0 w hO hC vs hv => by cases vs with | nil => rfl | cons _ _ => exact hv.elim⟩
    | cons _ _ => cases h
  | [c], l, K, h => by
    match l, h with
    | [], h => cases h
    | _ :: _ :: _, h => cases h
    | [x], h =>
      obtain ⟨y, h1, H⟩ := zv0 (h : pkb c ob x K = some r)
      refine ⟨y, h1, fun f N L w0 w hO hC vs hv => ?_⟩
      match vs, hv with
      | [v], ⟨hv, _⟩ => exact ⟨v, rfl, H f N L w0 w hO hC v hv⟩
  | c :: d :: cs, l, K, h => by
    cases l with
    | nil => cases h
    | cons x l =>
      obtain ⟨y, h1, H⟩ := zv0 (h : pkb c ob x (fun x => capsp ob (d :: cs) l fun y => K (x, y)) = some r)
      obtain ⟨z, h2, H2⟩ := zq7 h1
      refine ⟨(y, z), h2, fun f N L w0 w hO hC vs hv => ?_⟩
      match vs, hv with
      | v :: vs, ⟨hv, hvs⟩ => exact ⟨v, vs, rfl, H f N L w0 w hO hC v hv, H2 f N L w0 w hO hC vs hvs⟩
theorem pkM_ok {g : Nat} {cs : List TC} {v0 : V} {K : Pr TC.T cs → Option α} (h : pkM g cs v0 ob K = some r) : ∃ x, K x = some r ∧ ∀ (f : Fz) (N : Nm) (L : List Ent) (w0 w : World), OLR f N ob L → Cw w0 f L w → ∀ v, VR f N v0 v → Md.R (fA w) (.m g cs) x v (List.replicate (cs.length + 1) ph) := by
  unfold pkM at h
  split at h
  · rename_i j
    obtain ⟨y, h1, h2⟩ := zaa h
    split at h2
    · rename_i g' l
      obtain ⟨hg, h3⟩ := zb0 h2
      have hg := Nat.eq_of_beq_eq_true hg
      subst hg
      obtain ⟨x, h4, H⟩ := zq7 h3
      refine ⟨x, h4, fun f N L w0 w hO hC v hv => ?_⟩
      obtain ⟨g1, b, rfl⟩ := hv
      obtain ⟨_, en, _, b', vs, t, cv, g3, g4, g5, g6⟩ := hO.get h1
      rw [g1] at g3
      cases g3
      exact ⟨⟨b, vs, t, cv, rfl, zop hC _ _ g4, g5, H f N L w0 w hO hC vs g6⟩, rfl⟩
    · cases h2
  · rename_i j
    obtain ⟨y, h1, h2⟩ := zaa h
    have key : ∀ g' l,(cond (Nat.beq g' g) (selfL j l fun l' => capsp ob cs l' K) none) = some r → ∃ x, K x = some r ∧ ∀ (f : Fz) (N : Nm) (L : List Ent) (w0 w : World), OLR f N ob L → Cw w0 f L w → ∀ b t vs, N j = some (.pointer (some ⟨b,0, none⟩)) → w.heap[b]? = some (.cells (List.toArray vs) t) → CLR f N [.cl g' l] vs → Md.R (fA w) (.m g cs) x (.pointer (some ⟨b,0, none⟩)) (List.replicate (cs.length + 1) ph) := fun g' l h2 => by
      obtain ⟨hg, h3⟩ := zb0 h2
      have hg := Nat.eq_of_beq_eq_true hg
      subst hg
      obtain ⟨l', rfl, h4⟩ := zle h3
      obtain ⟨x, h5, H⟩ := zq7 h4
      refine ⟨x, h5, fun f N L w0 w hO hC b t vs g1 g3 g5 => ?_⟩
      match vs, g5 with
      | [cv], ⟨g5, _⟩ =>
        obtain ⟨us, rfl, g6⟩ := g5
        obtain ⟨u1, u2, rfl, g7, g8⟩ := CLR.split g6
        match u2, g8 with
        | [u], ⟨⟨b2, g9, g10⟩, _⟩ =>
          rw [g1] at g9
          cases g9
          subst g10
          exact ⟨⟨b, u1, t, _, rfl, g3, rfl, H f N L w0 w hO hC u1 g7⟩, rfl⟩
    split at h2
    · obtain ⟨x, h3, H⟩ := key _ _ h2
      refine ⟨x, h3, fun f N L w0 w hO hC v hv => ?_⟩
      obtain ⟨b, g1, rfl⟩ := hv
      obtain ⟨hlt, en, k1, b', vs, t, g3, rfl, g5⟩ := hO.get h1
      rw [g1] at g3
      cases g3
      exact H f N L w0 w hO hC b t vs g1 (hC.live _ (List.mem_of_getElem? k1)) g5
    · obtain ⟨x, h3, H⟩ := key _ _ h2
      refine ⟨x, h3, fun f N L w0 w hO hC v hv => ?_⟩
      obtain ⟨b, g1, rfl⟩ := hv
      obtain ⟨hlt, en, k1, b', vs, t, g3, g4, g5⟩ := hO.get h1
      rw [g1] at g3
      cases g3
      exact H f N L w0 w hO hC b t vs g1 (zop hC _ _ g4) g5
    · cases h2
  · cases h
theorem Md.pk_ok {m : Md} {v0 : V} {K : m.T → Option α} (h : m.pk v0 ob K = some r) : ∃ x, K x = some r ∧ ∀ (f : Fz) (N : Nm) (L : List Ent) (w0 w : World), OLR f N ob L → Cw w0 f L w → ∀ v, VR f N v0 v → ∃ es, m.R (fA w) x v es ∧ ∀ e ∈ es, e = ph := by
  cases m with
  | d c =>
    obtain ⟨cs, h1, hc⟩ := zm1 (h : vag c.ag v0 _ = some r)
    obtain ⟨cs1, h2, H⟩ := V.pk_ok h1
    obtain ⟨x, h3, hl, hx⟩ := TC.mkA_inv h2
    refine ⟨x, h3, fun f N L w0 w hO hC v hv => ⟨[], ⟨TC.vR.2 ?_, rfl⟩, by simp⟩⟩
    rcases hc with ⟨ha, rfl⟩ | ⟨ha, y, rfl, rfl⟩
    · obtain ⟨vs, rfl, hv⟩ := hv
      exact ⟨vs, hx _ N vs (H f N L w0 w hO hC vs hv), by rw [ha]; rfl⟩
    · exact ⟨[v], hx _ N [v] (H f N L w0 w hO hC [v] ⟨hv, trivial⟩), by rw [ha]; rfl⟩
  | q c =>
    obtain ⟨y, hy, h1⟩ := zou (h : vC v0 _ = some r)
    subst hy
    obtain ⟨x, h2, H⟩ := pkq_ok h1
    exact ⟨x, h2, fun f N L w0 w hO hC v hv => ⟨[], ⟨H f N L w0 w hO hC v hv, rfl⟩, by simp⟩⟩
  | m g cs =>
    obtain ⟨x, h2, H⟩ := pkM_ok h
    exact ⟨x, h2, fun f N L w0 w hO hC v hv => ⟨_, H f N L w0 w hO hC v hv, fun e he => List.eq_of_mem_replicate he⟩⟩
  | b c =>
    obtain ⟨y, hy, h1⟩ := zou (h : vC v0 _ = some r)
    subst hy
    obtain ⟨x, h2, H⟩ := zv0 h1
    exact ⟨x, h2, fun f N L w0 w hO hC v hv => ⟨[ph], ⟨H f N L w0 w hO hC v hv, rfl⟩, by simp⟩⟩
  | f g =>
    obtain ⟨h1, H⟩ := zvu h
    exact ⟨(), h1, fun f N L w0 w hO hC v hv => ⟨[], ⟨H f N v hv, rfl⟩, by simp⟩⟩
  | _ => cases h
theorem pkL_ok : ∀ {l : List Md} {us : List V} {K : Pr Md.T l → Option α}, pkL l us ob K = some r → ∃ x, K x = some r ∧ ∀ (f : Fz) (N : Nm) (L : List Ent) (w0 w : World), OLR f N ob L → Cw w0 f L w → ∀ vs, VLR f N us vs → ∃ es, MLR (fA w) l x vs es ∧ ∀ e ∈ es, e = ph
  | [], us, K, h => by
    cases us with
    | cons _ _ => cases h
    | nil => exact ⟨(), h, fun f N L w0 w hO hC vs hv => ⟨[], ⟨by cases vs with | nil => rfl | cons _ _ => exact hv.elim, rfl⟩, by simp⟩⟩
  | [m], us, K, h => by
    match us, h with
    | [], h => cases h
    | _ :: _ :: _, h => cases h
    | [v0], h =>
      obtain ⟨x, h1, H⟩ := Md.pk_ok (h : m.pk v0 ob K = some r)
      refine ⟨x, h1, fun f N L w0 w hO hC vs hv => ?_⟩
      match vs, hv with
      | [v], ⟨hv, _⟩ =>
        obtain ⟨es, g1, g2⟩ := H f N L w0 w hO hC v hv
        exact ⟨es, ⟨v, rfl, g1⟩, g2⟩
  | m :: n :: l, us, K, h => by
    cases us with
    | nil => cases h
    | cons v0 us =>
      obtain ⟨x, h1, H⟩ := Md.pk_ok (h : m.pk v0 ob (fun x => pkL (n :: l) us ob fun y => K (x, y)) = some r)
      obtain ⟨y, h2, H2⟩ := pkL_ok h1
      refine ⟨(x, y), h2, fun f N L w0 w hO hC vs hv => ?_⟩
      match vs, hv with
      | v :: vs, ⟨hv, hvs⟩ =>
        obtain ⟨e1, g1, g2⟩ := H f N L w0 w hO hC v hv
        obtain ⟨e2, g3, g4⟩ := H2 f N L w0 w hO hC vs hvs
        exact ⟨e1 ++ e2, ⟨v, vs, e1, e2, rfl, rfl, g1, g3⟩, fun e he => by
          rcases List.mem_append.1 he with he | he
          · exact g2 e he
          · exact g4 e he⟩
theorem znr {P : Program} {g : Nat} {c : Con} (hcon : ConOk P g c) (hL : isLC c = true) {avs : List V} {K : V → Option α} (h : lookCall c avs ob K = some r) : ∃ v u, K v = some r ∧ (∀ f N, VR f N v u) ∧ ∀ (f : Fz) (N : Nm) (L : List Ent) (w0 w : World), OLR f N ob L → Cw w0 f L w → ∀ vs, VLR f N avs vs → Calls P g vs.toArray w fun e w' => e = .returned u ∧ Cw w0 (fA w) [] w' := by
  unfold isLC at hL
  rw [Bool.and_eq_true] at hL
  obtain ⟨x, h1, H⟩ := pkL_ok h
  obtain ⟨y, h2, h3⟩ := zaa h1
  have hnp := noP_of_L hL.2
  have hall : (c.rs ++ c.ps.filter isP).all scD = true := by rw [hnp, List.append_nil]; exact hL.1
  obtain ⟨us0, b1, b2⟩ := zus y hall
  refine ⟨_, oneV us0, h3, fun f N => ?_, fun f N L w0 w hO hC vs hv => ?_⟩
  · obtain ⟨k1, k2⟩ := backD (js := []) (ob := []) (N := N) (zve hall) (b1 f)
    exact one_ok k1 k2
  · obtain ⟨es, g1, g2⟩ := H f N L w0 w hO hC vs hv
    refine (hcon.does x y h2 (fA w) vs es (hO.f0.trans (zop hC)) g1 w0 [] w (zvx (cw_all hC) es g2)).mono ?_
    rintro e w' ⟨v, f2, L2, rfl, q1, q2, us, rvs, q3, q4, q5, q6⟩
    obtain ⟨c1, c2⟩ := b2 f2 us L2 q6
    subst c2
    rw [zuy hL.2, List.append_nil] at q3
    exact ⟨by rw [q4, ← q3, c1], Cw.weak (by simpa using q2) q1⟩
theorem ztk {v0 : V} {avs : List V} {K : Nat → List V → Option α} (h : calle v0 avs ob K = some r) : ∃ g avs', K g avs' = some r ∧ ∀ (f : Fz) (N : Nm) (L : List Ent), OLR f N ob L → ∀ u vs, VR f N v0 u → VLR f N avs vs → ∃ cap : List Value, u = .func (.func g) #[] cap.toArray ∧ VLR f N avs' (vs ++ cap) := by
  have cl : ∀ {f : Fz} {N : Nm} {l : List C} {vs : List Value}, CLR f N l vs → VLR f N (l.map .c) vs := by
    intro f N l
    induction l with
    | nil => intro vs h; cases vs with | nil => trivial | cons _ _ => exact h.elim
    | cons c l ih => intro vs h; cases vs with | nil => exact h.elim | cons v vs => exact ⟨h.1, ih h.2⟩
  unfold calle at h
  split at h
  · refine ⟨_, _, h, fun f N L hO u vs hu hv => ⟨[], hu, by simpa using hv⟩⟩
  · refine ⟨_, _, h, fun f N L hO u vs hu hv => ?_⟩
    obtain ⟨us, rfl, h2⟩ := hu
    exact ⟨us, rfl, VLR.app hv (cl h2)⟩
  · rename_i j
    obtain ⟨y, h1, h2⟩ := zaa h
    split at h2
    · refine ⟨_, _, h2, fun f N L hO u vs hu hv => ?_⟩
      obtain ⟨b, e, t, g1, g2, g3⟩ := hu
      obtain ⟨_, en, _, b', us, t', cv, g4, g5, g6, g7⟩ := hO.get h1
      rw [g1] at g4
      cases g4
      rw [g2] at g5
      cases g5
      exact ⟨_, g6, VLR.app hv (VLR.app (cl g7) ⟨⟨g1, b, rfl⟩, trivial⟩)⟩
    · cases h2
  · cases h
end
variable {α : Type} {r : α} {P : Program} {E : Env} {sl : List (Nat × V)} {ob : List Ob} {K : V → List Ob → Option α} {d : Option Tmp}
theorem zrk {α : Type} {r : α} (hE : EnvOk P E) {g : Nat} {avs : List V} {K : Con → Option α} (h : conOf E g avs K = some r) : ∃ c, ConOk P g c ∧ K c = some r := by
  obtain ⟨h1, h2⟩ := zb0 (h : cond _ _ none = some r)
  obtain ⟨c, h3, h4⟩ := zaa h2
  have hk : ∀ l : List V, akey l % 10000 = 0 := fun l => by
    induction l with
    | nil => rfl
    | cons v l ih =>
      unfold akey
      split <;> first | rfl | exact Nat.mul_mod_left _ _ | skip
      rename_i heq
      cases heq
      exact ih
  have := hE.G _ _ h3
  rw [Nat.add_mod, hk, Nat.add_zero, Nat.mod_mod, Nat.mod_eq_of_lt (Nat.blt_eq.mp h1)] at this
  exact ⟨c, this, h4⟩
theorem call_ok (hE : EnvOk P E) {fo : Operand} {args : Array Operand} {ats : Array TypeId} (h : op1 E (.call ⟨.value fo, args, ats⟩) d sl ob K = some r) : ∃ v ob', K v ob' = some r ∧ EOk P (.call ⟨.value fo, args, ats⟩) d sl ob v ob' := by
  obtain ⟨fv, h1, hf⟩ := zba (h : opd sl fo _ = some r)
  clear h
  obtain ⟨avs0, h2, hA⟩ := zpo h1
  obtain ⟨g, avs, h3, HC⟩ := ztk h2
  obtain ⟨c, h4, h5⟩ := zrk hE h3
  clear h1 h2 h3
  have hcon := h4
  have hargs : args = args.toList.toArray := by simp
  rcases zdv h5 with ⟨hlc, h6⟩ | ⟨_, h6⟩
  · obtain ⟨v, u, h7, hvu, H⟩ := znr hcon hlc h6
    refine ⟨v, ob, h7, .quiet fun f N E L w0 w hS hO hC => ⟨u, hvu f N, fun n d ty pos af gg => ?_⟩⟩
    obtain ⟨fu, e1, e2⟩ := hf f N E hS
    obtain ⟨vs, e3, e4⟩ := hA f N E hS
    obtain ⟨cap, rfl, e5⟩ := HC f N L hO fu vs e2 e4
    rw [hargs]
    exact zds e1 hcon.has e3 fun w hw => (H f N L w0 w hO hw _ e5).mono fun e w' ⟨q1, q2⟩ => ⟨q1, cw_of hw q2⟩
  · obtain ⟨hrs, h6⟩ := zb0 h6
    have hrs : ∀ m ∈ c.rs, isP m = false := fun m hm => by
      have := List.all_eq_true.1 hrs m hm
      simpa using this
    obtain ⟨x, ob1, h7, HD⟩ := zq3 h6
    obtain ⟨y, h8, h9⟩ := zaa h7
    refine ⟨_, _, h9, fun f N E L w0 n a w hS hO hn hs ty pos af ops rest K hd hK => ?_⟩
    obtain ⟨u, e1, e2⟩ := hf f N E hS
    obtain ⟨vs0, e3, e4⟩ := hA f N E hS
    obtain ⟨cap, rfl, e5⟩ := HC f N L hO u vs0 e2 e4
    obtain ⟨f1, L1, es, q1, q2⟩ := HD f N L w0 w hO hs.cw _ e5
    have hLJ := zva h6 f N L w0 w hO hs.cw _ e5
    obtain ⟨L2, q3, q4, q5⟩ := q2.rest
    have hlen := q1.len
    have hdo := hcon.does x y h8 f1 _ es q4.f0 q1
    have fin : ∀ v f2 L' a' w', Fz.le f1 f2 → (∃ us rvs, us = rvs ++ pvals c.ps (vs0 ++ cap) ∧ v = oneV rvs ∧ rvs.length = c.rs.length ∧ MLR f2 (c.rs ++ c.ps.filter isP) y us L') → St n w0 f2 (L' ++ L2) (E1 d v E) a' w' → RL P ops rest K a' w' := fun v f2 L' a' w' hle hR hs' => by
      obtain ⟨us, rvs, rfl, rfl, hrl, hM⟩ := hR
      have hLJ1 : LJ N ob (lent c.ps avs) (pvals c.ps (vs0 ++ cap)) := hLJ
      have hJ : JsR N ob1 (c.rs ++ c.ps.filter isP) (rvs ++ pvals c.ps (vs0 ++ cap)) (lent c.ps avs) := (ztq (us := avs) hrl hrs hLJ1 hlen).le (.refl N) (by rw [q2.mv.len]; exact Nat.le_refl _)
      obtain ⟨N', L3, H⟩ := zw8 (js := lent c.ps avs) hM (q4.le hle (.refl N)) (hn.len q2.mv.len) hs'.cw hJ
      have hv : VLR f2 N' (back (c.rs ++ c.ps.filter isP) y (lent c.ps avs) ob1).1 rvs := by
        have := H.vr
        rw [zt4 hrl hrs hlen] at this
        exact this
      exact hK f2 N' (oneV rvs) L3 a' w' (q2.mv.le.trans hle) H.le H.nb H.ol (one_ok hv H.nt) (q5.bk q2.mv.len H.bk (hLJ1.mem)) ⟨hs'.ev, by simpa using H.cw⟩
    rw [hargs]
    cases d with
    | some t => exact zdo (cap := cap.toArray) (Lr := es) (Lf := L2) ⟨hs.ev, q3⟩ e1 hcon.has e3 rfl (by simpa using hdo) (.free rfl) (hd t rfl) fun v f2 L' a' w' hle hR hs' => fin v f2 L' a' w' hle hR hs'
    | none => exact RL_callU (cap := cap.toArray) (Lr := es) (Lf := L2) ⟨hs.ev, q3⟩ e1 hcon.has e3 rfl (by simpa using hdo) (.free rfl) fun v f2 L' a' w' hle hR hs' => fin v f2 L' a' w' hle hR hs'
end Go.V
