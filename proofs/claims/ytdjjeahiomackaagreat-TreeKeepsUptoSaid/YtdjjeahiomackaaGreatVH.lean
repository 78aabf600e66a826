/-
  Walks and laws of this seat.
-/
import Derived.Test.YtdjjeahiomackaaGreatVG
import Derived.Test.YtdjjeahiomackaaGreatBash
namespace Go.V
set_option linter.unusedVariables false
set_option linter.unusedSimpArgs false
set_option linter.unusedSectionVars false
section
open Go.RowKit Go.Sl
variable [F0]
def clr (n : Nat) : List (Option Nat) → List Ent → List Ent
  | [], L => L
  | none :: js, L => clr n js L
  | some j :: js, L => clr n js (L.set (n - 1 - j) ph)
theorem zq4 (n : Nat) : ∀ (js : List (Option Nat)) (L : List Ent),(clr n js L).length = L.length
  | [], L => rfl
  | none :: js, L => zq4 n js L
  | some j :: js, L => by rw [clr, zq4 n js]; simp
theorem zo1 (n : Nat) : ∀ (js : List (Option Nat)) (L : List Ent) (p : Nat),(clr n js L)[p]? = L[p]? ∨ ((clr n js L)[p]? = some ph ∧ ∃ j, some j ∈ js ∧ p = n - 1 - j)
  | [], L, p => .inl rfl
  | none :: js, L, p => by
    rcases zo1 n js L p with h | ⟨h, j, h1, h2⟩
    · exact .inl h
    · exact .inr ⟨h, j, List.mem_cons_of_mem _ h1, h2⟩
  | some j :: js, L, p => by
    rcases zo1 n js (L.set (n - 1 - j) ph) p with h | ⟨h, j', h1, h2⟩
    · by_cases e : n - 1 - j = p
      · subst e
        rw [clr, h, List.getElem?_set]
        simp only [if_true]
        split
        · exact .inr ⟨rfl, j, by simp, rfl⟩
        · rename_i hh; exact .inl (List.getElem?_eq_none (by omega)).symm
      · rw [clr, h, List.getElem?_set_ne e]
        exact .inl rfl
    · exact .inr ⟨h, j', List.mem_cons_of_mem _ h1, h2⟩
theorem zso (n : Nat) : ∀ (js : List (Option Nat)) (L : List Ent) (j : Nat), some j ∈ js → n - 1 - j < L.length → (clr n js L)[n - 1 - j]? = some ph
  | [], L, j, h, _ => by simp at h
  | none :: js, L, j, h, hl => zso n js L j (by simpa using h) hl
  | some i :: js, L, j, h, hl => by
    by_cases hj : some j ∈ js
    · exact zso n js _ j hj (by simpa using hl)
    · have e : i = j := by
        rcases List.mem_cons.1 h with h | h
        · exact (Option.some.inj h).symm
        · exact absurd h hj
      subst e
      rcases zo1 n js (L.set (n - 1 - i) ph) (n - 1 - i) with h | ⟨h, _⟩
      · rw [clr, h]; simp [hl]
      · exact h
theorem OLR.no {f : Fz} {N : Nm} : ∀ {ob : List Ob} {L L' : List Ent}, OLR f N ob L → L'.length = L.length → (∀ j, og ob j ≠ some .no → L'[ob.length - 1 - j]? = L[ob.length - 1 - j]? ∨ ob.length ≤ j) → OLR f N ob L'
  | [], _, _, h, _, _ => h
  | x :: r, e :: L, e' :: L', ⟨h1, h2⟩, hl, h => by
    refine ⟨?_, OLR.no h2 (by simpa using hl) fun j hj => ?_⟩
    · by_cases hx : x = .no
      · subst hx; trivial
      · rcases h r.length (by rw [og_top]; simpa using hx) with g | g
        · simp at g; subst g; exact h1
        · simp only [List.length_cons] at g; omega
    · by_cases hlt : j < r.length
      · rcases h j (by rw [znm hlt]; exact hj) with g | g
        · have : (x :: r).length - 1 - j = (r.length - 1 - j) + 1 := by simp; omega
          rw [this] at g
          exact .inl (by simpa using g)
        · exact .inr (by simp at g; omega)
      · exact .inr (by omega)
  | _ :: _, _ :: _,[], _, hl, _ => by simp at hl
variable {f f' : Fz} {N : Nm} {ob ob' : List Ob} {L L' : List Ent} {w0 w : World} {es : List Ent}
theorem Tk.rest (h : Tk f N ob L w0 w f' ob' L' es) : ∃ L2, Cw w0 f' (es ++ L2) w ∧ OLR f' N ob' L2 ∧ Fm ob L ob' L2 := by
  obtain ⟨m, ⟨js, a1, a2, a3, a4⟩, hn⟩ := h
  have hlen := m.ol.len
  refine ⟨clr ob'.length js L', ?_, ?_, ?_⟩
  · refine Cw.re m.cw (fun p => if p < es.length then (match js[p]? with | some (some j) => ob'.length - 1 - j | _ => 0) else p - es.length) (fun p x hp => ?_) (fun p q x y hp hq hx hy hpq => ?_)
    · rw [List.getElem?_append] at hp
      split at hp
      · rename_i hlt
        rcases a2 p x hp with h1 | ⟨j, h1, h2⟩
        · exact .inl ⟨h1, hn x (List.mem_of_getElem? hp) h1⟩
        · rw [if_pos hlt, h1]; exact .inr h2
      · rename_i hge
        rw [if_neg hge]
        rcases zo1 ob'.length js L' (p - es.length) with h1 | ⟨h1, _⟩
        · rw [h1] at hp; exact .inr hp
        · rw [h1] at hp; cases hp; exact .inl ⟨zil, ph_holds⟩
    · have hin : ∀ p x, p < es.length → (es ++ clr ob'.length js L')[p]? = some x → x.key ≠ none → ∃ j, js[p]? = some (some j) := fun p x hlt hp hx => by
        rw [List.getElem?_append_left hlt] at hp
        rcases a2 p x hp with h1 | ⟨j, h1, _⟩
        · exact absurd h1 hx
        · exact ⟨j, h1⟩
      have hout : ∀ p x j, ¬ p < es.length → (es ++ clr ob'.length js L')[p]? = some x → x.key ≠ none → some j ∈ js → p - es.length ≠ ob'.length - 1 - j := fun p x j hge hp hx hj e => by
        rw [List.getElem?_append_right (by omega), e] at hp
        have hlt := (List.getElem?_eq_some_iff.1 hp).1
        rw [zq4] at hlt
        rw [zso ob'.length js L' j hj hlt] at hp
        cases hp
        exact hx zil
      by_cases h1 : p < es.length <;> by_cases h2 : q < es.length
      · rw [if_pos h1, if_pos h2]
        obtain ⟨j, g1⟩ := hin p x h1 hp hx
        obtain ⟨i, g2⟩ := hin q y h2 hq hy
        rw [g1, g2]
        simp only
        intro e
        have b1 := (a4 p j g1).1
        have b2 := (a4 q i g2).1
        have hl := m.len
        have : j = i := by omega
        subst this
        exact hpq (a3 p q j g1 g2)
      · rw [if_pos h1, if_neg h2]
        obtain ⟨j, g1⟩ := hin p x h1 hp hx
        rw [g1]
        exact fun e => hout q y j h2 hq hy (List.mem_of_getElem? g1) e.symm
      · rw [if_neg h1, if_pos h2]
        obtain ⟨j, g1⟩ := hin q y h2 hq hy
        rw [g1]
        exact fun e => hout p x j h1 hp hx (List.mem_of_getElem? g1) e
      · rw [if_neg h1, if_neg h2]
        omega
  · refine m.ol.no (zq4 _ _ _) fun j hj => ?_
    rcases zo1 ob'.length js L' (ob'.length - 1 - j) with h1 | ⟨_, i, h2, h3⟩
    · exact .inl h1
    · by_cases hlt : j < ob'.length
      · obtain ⟨p, hp⟩ := List.getElem?_of_mem h2
        obtain ⟨b1, b2, b3⟩ := a4 p i hp
        have hl := m.len
        have : i = j := by omega
        subst this
        exact absurd b3 hj
      · exact .inr (by omega)
  · refine ⟨fun j hj => ?_, ?_⟩
    rotate_left
    · rw [← m.fm.2]
      apply List.ext_getElem?
      intro p
      rw [List.getElem?_drop, List.getElem?_drop]
      rcases zo1 ob'.length js L' (ob'.length + p) with h1 | ⟨_, i, h2, h3⟩
      · exact h1
      · obtain ⟨q, hq⟩ := List.getElem?_of_mem h2
        have := (a4 q i hq).1
        have hl := m.len
        omega
    obtain ⟨b1, b2⟩ := m.fm.1 j hj
    refine ⟨b1, ?_⟩
    rw [← b2]
    rcases zo1 ob'.length js L' (ob'.length - 1 - j) with h1 | ⟨_, i, h2, h3⟩
    · exact h1
    · obtain ⟨p, hp⟩ := List.getElem?_of_mem h2
      obtain ⟨c1, c2, c3⟩ := a4 p i hp
      have := zky hj
      have hl := m.len
      have : i = j := by omega
      subst this
      exact absurd hj c2
theorem Tk.alone (h : Tk f N ob L w0 w f' ob' L' es) : Cw w0 f' (es.reverse ++ L.drop ob.length) w := by
  obtain ⟨L2, h1, _, h3⟩ := h.rest
  rw [← h3.2]
  exact (h1.sub (List.Sublist.append (List.Sublist.refl es) (List.drop_sublist _ _))).perm (List.Perm.append_right _ (List.reverse_perm _).symm)
def oneV : List Value → Value
  | [v] => v
  | vs => .tuple vs.toArray
def pvals : List Md → List Value → List Value
  | .p _ :: ms, v :: vs => v :: pvals ms vs
  | _ :: ms, _ :: vs => pvals ms vs
  | _, _ => []
structure ConOk (P : Program) (g : Nat) (c : Con) : Prop where
  has : Has P g
  does : ∀ x y, c.m x = some y → ∀ (f : Fz) (vs : List Value) (es : List Ent), Fz.le f00 f → MLR f c.ps x vs es → Does P g vs f es (fun v f' L' => ∃ us rvs, us = rvs ++ pvals c.ps vs ∧ v = oneV rvs ∧ rvs.length = c.rs.length ∧ MLR f' (c.rs ++ c.ps.filter isP) y us L')
def LJ (N : Nm) (ob : List Ob) : List Nat → List Value → Prop
  | [],[] => True
  | j :: js, u :: us => (N j = some u ∧ j < ob.length ∧ og ob j ≠ some .no) ∧ LJ N ob js us
  | _, _ => False
variable {α : Type} {r : α}
theorem LJ.back {N : Nm} {ob ob1 : List Ob} (hl : ob1.length = ob.length) (h : ∀ i, og ob i = some .no → og ob1 i = some .no) : ∀ {js : List Nat} {us : List Value}, LJ N ob1 js us → LJ N ob js us
  | [],[], _ => trivial
  | j :: js, u :: us, ⟨⟨h1, h2, h3⟩, h4⟩ => ⟨⟨h1, by omega, fun e => h3 (h j e)⟩, LJ.back hl h h4⟩
theorem dec_p {m : Md} {v0 : V} {K : m.T → List Ob → Option α} (h : m.dec v0 ob K = some r) (hm : isP m = true) : ∃ j, v0 = .c (.bp j 0) ∧ j < ob.length ∧ og ob j ≠ some .no := by
  cases m with
  | p l =>
    simp only [Md.dec] at h
    split at h
    · rename_i j
      obtain ⟨y, h1, h2⟩ := zaa h
      split at h2
      · exact ⟨j, rfl, zky h1, by rw [h1]; simp⟩
      · cases h2
    · cases h
  | _ => cases hm
theorem zva : ∀ {l : List Md} {us : List V} {ob : List Ob} {K : Pr Md.T l → List Ob → Option α}, decL l us ob K = some r → ∀ (f : Fz) (N : Nm) (L : List Ent) (w0 w : World), OLR f N ob L → Cw w0 f L w → ∀ vs, VLR f N us vs → LJ N ob (lent l us) (pvals l vs)
  | [], us, ob, K, h, f, N, L, w0, w, hO, hC, vs, hv => trivial
  | [m], us, ob, K, h, f, N, L, w0, w, hO, hC, vs, hv => by
    match us, h, vs, hv with
    | [], h, _, _ => cases h
    | _ :: _ :: _, h, _, _ => cases h
    | [v0], h,[v], ⟨hv, _⟩ =>
      cases hm : isP m with
      | false => cases m <;> first | (cases hm; done) | exact trivial
      | true =>
        obtain ⟨j, rfl, h2, h3⟩ := dec_p (h : m.dec v0 ob K = some r) hm
        obtain ⟨b, g1, rfl⟩ := hv
        cases m <;> first | (cases hm; done) | exact ⟨⟨g1, h2, h3⟩, trivial⟩
  | m :: n :: l, us, ob, K, h, f, N, L, w0, w, hO, hC, vs, hv => by
    match us, h, vs, hv with
    | [], h, _, _ => cases h
    | v0 :: us, h, v :: vs, ⟨hv, hvs⟩ =>
      have h' : m.dec v0 ob (fun x ob => decL (n :: l) us ob fun y ob => K (x, y) ob) = some r := h
      obtain ⟨x, ob1, h1, H⟩ := Md.dec_ok h'
      obtain ⟨f1, L1, es1, g1, g2⟩ := H f N L w0 w hO hC v hv
      have ih := (zva h1 f1 N L1 w0 w g2.mv.ol g2.mv.cw vs (hvs.le g2.mv.le (.refl N))).back g2.mv.len fun i hi => (g2.mv.fm.1 i hi).1
      cases hm : isP m with
      | false => cases m <;> first | (cases hm; done) | exact ih
      | true =>
        obtain ⟨j, rfl, h2, h3⟩ := dec_p h' hm
        obtain ⟨b, q1, rfl⟩ := hv
        cases m <;> first | (cases hm; done) | exact ⟨⟨q1, h2, h3⟩, ih⟩
def Bk (js : List Nat) (ob : List Ob) (L : List Ent) (ob' : List Ob) (L' : List Ent) : Prop := (∀ i, i < ob.length → i ∉ js → og ob' i = og ob i ∧ L'[ob'.length - 1 - i]? = L[ob.length - 1 - i]?) ∧ L'.drop ob'.length = L.drop ob.length
theorem Bk.refl {js : List Nat} {ob : List Ob} {L : List Ent} : Bk js ob L ob L := ⟨fun _ _ _ => ⟨rfl, rfl⟩, rfl⟩
theorem Bk.trans {js : List Nat} {ob ob1 ob2 : List Ob} {L L1 L2 : List Ent} (h : Bk js ob L ob1 L1) (hl : ob.length ≤ ob1.length) (g : Bk js ob1 L1 ob2 L2) : Bk js ob L ob2 L2 := ⟨fun i hi hn => by
  obtain ⟨a, b⟩ := h.1 i hi hn
  obtain ⟨c, d⟩ := g.1 i (by omega) hn
  exact ⟨c.trans a, d.trans b⟩, g.2.trans h.2⟩
theorem Bk.set {js : List Nat} {ob : List Ob} {L : List Ent} {j : Nat} {y : Ob} {e : Ent} (hj : j ∈ js) (hlt : j < ob.length) : Bk js ob L (oset ob j y) (L.set (ob.length - 1 - j) e) := ⟨fun i hi hn => by
  have hne : i ≠ j := fun q => hn (by rw [q]; exact hj)
  exact ⟨zhj hne, by rw [zao, List.getElem?_set_ne (by omega)]⟩, by rw [zao, zkc (by omega)]⟩
theorem Bk.mono {js ks : List Nat} {ob ob' : List Ob} {L L' : List Ent} (h : Bk js ob L ob' L') (hs : ∀ j ∈ js, j ∈ ks) : Bk ks ob L ob' L' := ⟨fun i hi hn => h.1 i hi fun hj => hn (hs i hj), h.2⟩
end
section
open Go.RowKit Go.Sl
variable [F0]
theorem og_app : ∀ {ns ob : List Ob} {i : Nat}, i < ob.length → og (ns ++ ob) i = og ob i
  | [], ob, i, h => rfl
  | x :: ns, ob, i, h => by rw [List.cons_append, znm (by simp; omega), og_app h]
theorem Bk.app {js : List Nat} {ob ns : List Ob} {L M : List Ent} (h : M.length = ns.length) : Bk js ob L (ns ++ ob) (M ++ L) := ⟨fun i hi _ => ⟨og_app hi, by
  rw [List.getElem?_append_right (by simp; omega)]
  congr 1
  simp; omega⟩, by
  rw [List.length_append, ← h, List.drop_append, List.drop_eq_nil_of_le (by omega)]
  simp⟩
theorem Bc.enc_suf {f : Fz} {b : Bc} {x : b.T} {vs : List Value} {es : List Ent} (ob : List Ob) (h : b.R f x vs es) : ∃ ns,(b.enc x ob).2 = ns ++ ob ∧ ns.length = es.length := by
  cases b with
  | d c => obtain ⟨_, rfl⟩ := h; exact ⟨[], rfl, rfl⟩
  | o e c => obtain ⟨_, _, _, _, rfl, _⟩ := h; exact ⟨[.ow e c x], rfl, rfl⟩
  | q e c d => obtain ⟨_, _, _, _, _, _, _, rfl, _⟩ := h; exact ⟨[.bx (.os ob.length :: d.lv x.2), .ow e c x.1], rfl, rfl⟩
theorem zpy {f : Fz} : ∀ {l : List Bc} {x : Pr Bc.T l} {vs : List Value} {es : List Ent} (ob : List Ob), BLR f l x vs es → ∃ ns,(encB l x ob).2 = ns ++ ob ∧ ns.length = es.length
  | [], x, vs, es, ob, h => by obtain ⟨_, rfl⟩ := h; exact ⟨[], rfl, rfl⟩
  | [b], x, vs, es, ob, h => Bc.enc_suf (b := b) ob h
  | b :: c :: r, x, vs, es, ob, h => by
    obtain ⟨v1, v2, e1, e2, _, rfl, h3, h4⟩ := h
    obtain ⟨ns, g1, g2⟩ := Bc.enc_suf ob h3
    obtain ⟨ms, g3, g4⟩ := zpy (b.enc x.1 ob).2 h4
    exact ⟨ms ++ ns, by show (encB (c :: r) x.2 (b.enc x.1 ob).2).2 = _; rw [g3, g1, List.append_assoc], by simp [g2, g4]; omega⟩
theorem Cw.putAt {w0 w : World} {f : Fz} {X M : List Ent} {b : Ent} {p : Nat} (h : Cw w0 f (b :: (X ++ M)) w) (hp : p < M.length) : Cw w0 f (X ++ M.set p b) w := by
  refine Cw.re h (fun q => if q = X.length + p then 0 else q + 1) (fun q x hq => .inr ?_) (fun q r x y hq hr _ _ hne => ?_)
  · rw [List.getElem?_append] at hq
    split at hq
    · rename_i hlt
      rw [if_neg (by omega), List.getElem?_cons_succ, List.getElem?_append_left hlt]; exact hq
    · rename_i hge
      rw [List.getElem?_set] at hq
      split at hq
      · rename_i he
        cases hq
        rw [if_pos (by omega)]; rfl
      · rename_i he
        rw [if_neg (by omega), List.getElem?_cons_succ, List.getElem?_append_right (by omega)]; exact hq
  · split <;> split <;> omega
theorem perm_a {A X M : List Ent} {b : Ent} : ((A ++ [b]) ++ (X ++ M)).Perm (b :: (X ++ (A.reverse ++ M))) := by
  have h1 : ((A ++ [b]) ++ (X ++ M)).Perm (b :: (A ++ (X ++ M))) := by
    rw [List.append_assoc]
    exact List.perm_middle
  refine h1.trans (List.Perm.cons b ?_)
  have h2 : (A ++ (X ++ M)).Perm (X ++ (A ++ M)) := by
    rw [← List.append_assoc, ← List.append_assoc]
    exact List.Perm.append_right M List.perm_append_comm
  exact h2.trans (List.Perm.append_left X (List.Perm.append_right M (List.reverse_perm A).symm))
theorem zqy {A X M : List Ent} : (A ++ (X ++ M)).Perm (X ++ (A.reverse ++ M)) := by
  have h2 : (A ++ (X ++ M)).Perm (X ++ (A ++ M)) := by
    rw [← List.append_assoc, ← List.append_assoc]
    exact List.Perm.append_right M List.perm_append_comm
  exact h2.trans (List.Perm.append_left X (List.Perm.append_right M (List.reverse_perm A).symm))
def nt : V → Prop
  | .t _ => False
  | _ => True
theorem nt_v (c : TC) (x : c.T) : nt (c.v x) := by cases c <;> trivial
def JP (N : Nm) (ob : List Ob) (m : Md) (v : Value) (js : List Nat) : Prop := isP m = true → ∃ j js', js = j :: js' ∧ N j = some v ∧ j < ob.length
structure Laid (f : Fz) (N : Nm) (ob : List Ob) (L : List Ent) (w0 w : World) (js : List Nat) (X : List Ent) (us : List V) (vs : List Value) (ob' : List Ob) (N' : Nm) (L' : List Ent) : Prop where
  le : Nm.le N N'
  nb : Nb N' ob'
  ol : OLR f N' ob' L'
  cw : Cw w0 f (X ++ L') w
  vr : VLR f N' us vs
  nt : ∀ v ∈ us, nt v
  len : ob.length ≤ ob'.length
  bk : Bk js ob L ob' L'
theorem ztc : ∀ (cs : List TC) (x : Pr TC.T cs) (ob : List Ob), ∃ ns,(encM cs x ob).2 = ns ++ ob ∧ ns.length = cs.length
  | [], _, ob => ⟨[], rfl, rfl⟩
  | [c], x, ob => ⟨[.fb (c.lv x)], rfl, rfl⟩
  | c :: d :: r, x, ob => by
    obtain ⟨ns, h1, h2⟩ := ztc (d :: r) x.2 (.fb (c.lv x.1) :: ob)
    exact ⟨ns ++ [.fb (c.lv x.1)], by show (encM (d :: r) x.2 _).2 = _; rw [h1]; simp, by simp [h2]⟩
theorem ztm {f : Fz} {N : Nm} {ob : List Ob} {L X : List Ent} {w0 w : World} {m : Md} {x : m.T} {v : Value} {es : List Ent} {js : List Nat} (h : m.R f x v es) (hO : OLR f N ob L) (hn : Nb N ob) (hC : Cw w0 f (es ++ (X ++ L)) w) (hj : JP N ob m v js) :
    ∃ N' L', Laid f N ob L w0 w js X (back1 m x js ob).1 (if isP m then [] else [v]) (back1 m x js ob).2.1 N' L' := by
  cases m with
  | d c =>
    obtain ⟨h1, rfl⟩ := h
    exact ⟨N, L, .refl N, hn, hO, hC, ⟨dataN h1, trivial⟩, fun v hv => by simp [back1] at hv; subst hv; exact nt_v c x, Nat.le_refl _, .refl⟩
  | o e c =>
    obtain ⟨N', u, k⟩ := Md.enc_ok (m := .o e c) h hO hn
    obtain ⟨rows, h2, rfl, h4⟩ := h
    exact ⟨N', _, u.le, u.nb, u.ol, hC.perm zqy, ⟨k, trivial⟩, fun v hv => by simp [back1] at hv; subst hv; trivial, by simp [back1, Md.enc], .app (ns := [_]) rfl⟩
  | g =>
    obtain ⟨N', u, k⟩ := Md.enc_ok (m := .g) h hO hn
    obtain ⟨b, rfl, rfl⟩ := h
    exact ⟨N', _, u.le, u.nb, u.ol, hC.perm zqy, ⟨k, trivial⟩, fun v hv => by simp [back1] at hv; subst hv; trivial, by simp [back1, Md.enc], .app (ns := [_]) rfl⟩
  | q c =>
    obtain ⟨h1, rfl⟩ := h
    exact ⟨N, L, .refl N, hn, hO, hC, ⟨h1, trivial⟩, fun v hv => by simp [back1, Md.enc] at hv; subst hv; trivial, Nat.le_refl _, .refl⟩
  | b c =>
    obtain ⟨N', u, k⟩ := Md.enc_ok (m := .b c) h hO hn
    obtain ⟨_, rfl⟩ := h
    exact ⟨N', _, u.le, u.nb, u.ol, hC.perm zqy, ⟨k, trivial⟩, fun v hv => by simp [back1, Md.enc] at hv; subst hv; trivial, by simp [back1, Md.enc], .app (ns := [_]) rfl⟩
  | m g cs =>
    obtain ⟨N', u, k⟩ := Md.enc_ok (m := .m g cs) h hO hn
    obtain ⟨⟨_, _, _, _, _, _, _, hcr⟩, rfl⟩ := h
    obtain ⟨ns, q1, q2⟩ := ztc cs x ob
    have hns : (Md.enc (.m g cs) x ob).2 = (.me g (encM cs x ob).1 :: ns) ++ ob := by simp [Md.enc, q1]
    refine ⟨N', _, u.le, u.nb, u.ol, hC.perm zqy, ⟨k, trivial⟩, fun v hv => by simp [back1, Md.enc] at hv; subst hv; trivial, by simp only [back1]; rw [hns, List.length_append]; omega, ?_⟩
    show Bk js ob L (Md.enc (.m g cs) x ob).2 _
    rw [hns]
    exact .app (by simp [q2])
  | f g =>
    obtain ⟨rfl, rfl⟩ := h
    exact ⟨N, L, .refl N, hn, hO, hC, ⟨rfl, trivial⟩, fun v hv => by simp [back1, Md.enc] at hv; subst hv; trivial, Nat.le_refl _, .refl⟩
  | w l =>
    obtain ⟨N', u, k⟩ := Md.enc_ok (m := .w l) h hO hn
    obtain ⟨b, vs, t, e1, rfl, rfl, h3⟩ := h
    obtain ⟨ns, q1, q2⟩ := zpy ob h3
    have hns : (Md.enc (.w l) x ob).2 = (.bx (encB l x ob).1 :: ns) ++ ob := by simp [Md.enc, q1]
    refine ⟨N', _, u.le, u.nb, u.ol, hC.perm zqy, ⟨k, trivial⟩, fun v hv => by simp [back1, Md.enc] at hv; subst hv; trivial, by simp only [back1]; rw [hns, List.length_append]; omega, ?_⟩
    show Bk js ob L (Md.enc (.w l) x ob).2 _
    rw [hns]
    exact .app (by simp [q2])
  | p l =>
    obtain ⟨b, vs, t, e1, rfl, rfl, h3⟩ := h
    obtain ⟨j, js', rfl, hN, hlt⟩ := hj rfl
    obtain ⟨N1, u1, k1⟩ := zpz h3 hO hn
    obtain ⟨ns, hns, hnl⟩ := zpy ob h3
    have hl1 := u1.ol.len
    have hlen : e1.reverse.length = ns.length := by simp [hnl]
    have hob : ob.length ≤ (encB l x ob).2.length := by rw [hns]; simp
    have hput := u1.ol.put (j := j) (x := .bx (encB l x ob).1) (e := .blk b (.cells vs.toArray t)) (by omega) ⟨b, vs, t, u1.le _ _ hN, rfl, k1⟩
    refine ⟨N1, _, u1.le, u1.nb.len (zao _ _ _), hput, Cw.putAt (hC.perm perm_a) (by omega), trivial, fun v hv => by simp [back1] at hv, by simp only [back1]; rw [zao]; exact hob, ?_⟩
    refine Bk.trans (L1 := e1.reverse ++ L) (ob1 := (encB l x ob).2) ?_ hob (Bk.set (by simp) (by omega))
    rw [hns]
    exact .app hlen
def JsR (N : Nm) (ob : List Ob) : List Md → List Value → List Nat → Prop
  | [], _, _ => True
  | .p _ :: ms, v :: vs, j :: js => (N j = some v ∧ j < ob.length) ∧ JsR N ob ms vs js
  | .p _ :: _, _, _ => False
  | _ :: ms, _ :: vs, js => JsR N ob ms vs js
  | _ :: _,[], _ => False
theorem JsR.le {N N' : Nm} {ob ob' : List Ob} (hN : Nm.le N N') (hl : ob.length ≤ ob'.length) : ∀ {ms : List Md} {vs : List Value} {js : List Nat}, JsR N ob ms vs js → JsR N' ob' ms vs js
  | [], _, _, _ => trivial
  | .p _ :: ms, v :: vs, j :: js, ⟨⟨h1, h2⟩, h3⟩ => ⟨⟨hN _ _ h1, by omega⟩, JsR.le hN hl h3⟩
  | .p _ :: _,[], _, h => h.elim
  | .p _ :: _, _ :: _,[], h => h.elim
  | .d _ :: ms, _ :: vs, js, h => JsR.le (ms := ms) (vs := vs) hN hl h
  | .o _ _ :: ms, _ :: vs, js, h => JsR.le (ms := ms) (vs := vs) hN hl h
  | .g :: ms, _ :: vs, js, h => JsR.le (ms := ms) (vs := vs) hN hl h
  | .w _ :: ms, _ :: vs, js, h => JsR.le (ms := ms) (vs := vs) hN hl h
  | .q _ :: ms, _ :: vs, js, h => JsR.le (ms := ms) (vs := vs) hN hl h
  | .b _ :: ms, _ :: vs, js, h => JsR.le (ms := ms) (vs := vs) hN hl h
  | .m _ _ :: ms, _ :: vs, js, h => JsR.le (ms := ms) (vs := vs) hN hl h
  | .f _ :: ms, _ :: vs, js, h => JsR.le (ms := ms) (vs := vs) hN hl h
  | .d _ :: ms,[], js, h => h.elim
  | .o _ _ :: ms,[], js, h => h.elim
  | .g :: ms,[], js, h => h.elim
  | .w _ :: ms,[], js, h => h.elim
  | .q _ :: ms,[], js, h => h.elim
  | .b _ :: ms,[], js, h => h.elim
  | .m _ _ :: ms,[], js, h => h.elim
  | .f _ :: ms,[], js, h => h.elim
def nonP : List Md → List Value → List Value
  | .p _ :: ms, _ :: vs => nonP ms vs
  | _ :: ms, v :: vs => v :: nonP ms vs
  | _, _ => []
theorem VLR.app {f : Fz} {N : Nm} : ∀ {l m : List V} {r s : List Value}, VLR f N l r → VLR f N m s → VLR f N (l ++ m) (r ++ s)
  | [], _,[], _, _, h => h
  | _ :: _, _, _ :: _, _, ⟨h1, h2⟩, h => ⟨h1, VLR.app h2 h⟩
theorem JsR.one {N : Nm} {ob : List Ob} {m : Md} {ms : List Md} {v : Value} {vs : List Value} {js : List Nat} {x : m.T} (h : JsR N ob (m :: ms) (v :: vs) js) : JP N ob m v js ∧ JsR N ob ms vs (back1 m x js ob).2.2 ∧ (∀ j ∈ (back1 m x js ob).2.2, j ∈ js) := by
  cases m with
  | p l =>
    cases js with
    | nil => exact h.elim
    | cons j js => exact ⟨fun _ => ⟨j, js, rfl, h.1.1, h.1.2⟩, h.2, fun i hi => List.mem_cons_of_mem _ hi⟩
  | _ => exact ⟨fun e => (by cases e), h, fun j hj => hj⟩
theorem zr3 {m : Md} {ms : List Md} {v : Value} {vs : List Value} : nonP (m :: ms) (v :: vs) = (if isP m then [] else [v]) ++ nonP ms vs := by
  cases m <;> rfl
theorem zw8 : ∀ {l : List Md} {x : Pr Md.T l} {f : Fz} {N : Nm} {ob : List Ob} {L : List Ent} {w0 w : World} {vs : List Value} {es : List Ent} {js : List Nat}, MLR f l x vs es → OLR f N ob L → Nb N ob → Cw w0 f (es ++ L) w → JsR N ob l vs js →
    ∃ N' L', Laid f N ob L w0 w js [] (back l x js ob).1 (nonP l vs) (back l x js ob).2 N' L'
  | [], x, f, N, ob, L, w0, w, vs, es, js, h, hO, hn, hC, hj => by
    obtain ⟨rfl, rfl⟩ := h
    exact ⟨N, L, .refl N, hn, hO, hC, trivial, by simp [back], Nat.le_refl _, .refl⟩
  | [m], x, f, N, ob, L, w0, w, vs, es, js, h, hO, hn, hC, hj => by
    obtain ⟨v, rfl, h2⟩ := h
    obtain ⟨N', L', H⟩ := ztm (X := []) h2 hO hn hC (hj.one (x := x)).1
    refine ⟨N', L', ?_⟩
    rw [zr3]
    have : nonP [] ([] : List Value) = [] := rfl
    rw [this, List.append_nil]
    exact H
  | m :: n :: r, x, f, N, ob, L, w0, w, vs, es, js, h, hO, hn, hC, hj => by
    obtain ⟨v, vs', e1, e2, rfl, rfl, h3, h4⟩ := h
    obtain ⟨j1, j2, j3⟩ := hj.one (x := x.1)
    rw [List.append_assoc] at hC
    obtain ⟨N1, L1, H1⟩ := ztm h3 hO hn hC j1
    obtain ⟨N2, L2, H2⟩ := zw8 (js := (back1 m x.1 js ob).2.2) h4 H1.ol H1.nb H1.cw (j2.le H1.le H1.len)
    refine ⟨N2, L2, H1.le.trans H2.le, H2.nb, H2.ol, H2.cw, ?_, fun u hu => ?_, Nat.le_trans H1.len H2.len, H1.bk.trans H1.len (H2.bk.mono j3)⟩
    · rw [zr3]
      exact VLR.app (H1.vr.le (.refl f) H2.le) H2.vr
    · rcases List.mem_append.1 hu with hu | hu
      · exact H1.nt u hu
      · exact H2.nt u hu
end
section
attribute [local irreducible] opd opr
open Go.RowKit Go.Sl
variable [F0]
def E1 (d : Option Tmp) (u : Value) (E : List (Nat × Value)) : List (Nat × Value) := match d with
  | some t => (t, u) :: E
  | none => E
def EOk (P : Program) (o : Op) (d : Option Tmp) (sl : List (Nat × V)) (ob : List Ob) (v : V) (ob' : List Ob) : Prop := ∀ (f : Fz) (N : Nm) (E : List (Nat × Value)) (L : List Ent) (w0 : World) (n : Nat) (a : Act) (w : World), SlR f N sl E → OLR f N ob L → Nb N ob → St n w0 f L E a w →
  ∀ (ty : TypeId) (pos : String) (af : Array Edge) (ops : Array Oper) (rest : List Oper) (K : AP),(∀ t, d = some t → t < n) →
  (∀ f' N' u L' a' w', Fz.le f f' → Nm.le N N' → Nb N' ob' → OLR f' N' ob' L' → VR f' N' v u → Fm ob L ob' L' → St n w0 f' L' (E1 d u E) a' w' → RL P ops rest K a' w') →
  RL P ops (⟨d, o, ty, pos, af, none⟩ :: rest) K a w
structure EnvOk (P : Program) (E : Env) : Prop where
  T : TOk P E.T
  G : ∀ g c, E.G g = some c → ConOk P (g % 10000) c
  mixed : P.follows .mixedOrders = true
variable {α : Type} {r : α} {P : Program} {E : Env} {sl : List (Nat × V)} {ob : List Ob} {K : V → List Ob → Option α} {d : Option Tmp}
theorem zlt {K : Option α} (h : dS d K = some r) : ∃ t, d = some t ∧ K = some r := by
  cases d with
  | none => cases h
  | some t => exact ⟨t, rfl, h⟩
theorem dN_inv {K : Option α} (h : dN d K = some r) : d = none ∧ K = some r := by
  cases d with
  | none => exact ⟨rfl, h⟩
  | some t => cases h
theorem EOk.quiet {o : Op} {v : V} (h : QOk P o sl ob v) : EOk P o d sl ob v ob := fun f N E L w0 n a w hS hO hn hs ty pos af ops rest K hd hK => by
  obtain ⟨u, h1, h2⟩ := h f N E L w0 w hS hO hs.cw
  refine RL_y (E' := E1 d u E) hs (.free rfl) ?_ (h2 n d ty pos af none) fun a w hs => hK f N u L a w (.refl f) (.refl N) hn hO h1 (.refl _ _) hs
  cases d with
  | none => exact .drop rfl
  | some t => exact .to rfl (hd t rfl)
theorem alloc_ok (hE : EnvOk P E) {t : TypeId} (h : op1 E (.alloc t) d sl ob K = some r) : ∃ v ob', K v ob' = some r ∧ EOk P (.alloc t) d sl ob v ob' := by
  obtain ⟨dd, rfl, h1⟩ := zlt (h : dS d _ = some r)
  obtain ⟨td, h2, h3⟩ := zaa h1
  obtain ⟨d, z, g1, g2, g3, g4, g5, g6, _⟩ := zhv (hE.T _ _ h2)
  refine ⟨_, _, h3, fun f N E L w0 n a w hS hO hn hs ty pos af ops rest K hd hK => zd3 hs g2 (.free rfl) (hd dd rfl) fun b a w hs => ?_⟩
  have u := Up.push (x := .bx td.z) (e := .blk b (.cells z.cells t)) (v := .pointer (some ⟨b,0, none⟩)) hO hn fun M hM hv => ⟨b, z.cells.toList, t, hv, by simp, g5 f M⟩
  exact hK f _ _ _ a w (.refl f) u.le u.nb u.ol ⟨b, zd6, rfl⟩ u.fm hs
theorem box_ok (hE : EnvOk P E) {t : TypeId} {x : Operand} (h : op1 E (.box t x) d sl ob K = some r) : ∃ v ob', K v ob' = some r ∧ EOk P (.box t x) d sl ob v ob' := by
  obtain ⟨dd, rfl, h1⟩ := zlt (h : dS d _ = some r)
  obtain ⟨v, h2, hx⟩ := zba h1
  obtain ⟨td, h3, h4⟩ := zaa h2
  obtain ⟨cs, h5, hc⟩ := zm1 h4
  obtain ⟨h6, h7⟩ := zb0 h5
  simp only [Bool.and_eq_true] at h6
  refine ⟨_, _, h7, fun f N E L w0 n a w hS hO hn hs ty pos af ops rest K hd hK => ?_⟩
  obtain ⟨u, e1, e2⟩ := hx f N E hS
  refine RL_box hs e1 (.free rfl) (hd dd rfl) fun b a w hs => ?_
  have hcs : CLR f N cs u.cells.toList := by
    rcases hc with ⟨_, rfl⟩ | ⟨_, y, rfl, rfl⟩
    · obtain ⟨vs, rfl, h⟩ := e2
      exact h
    · have hy : y ≠ .u := fun e => by
        subst e
        have := h6.2
        simp [isU] at this
      have := CR.one (f := f) (N := N) e2 hy
      have e : u.cells = #[u] := by cases u <;> first | rfl | simp [Value.oneCell'] at this
      rw [e]
      exact ⟨e2, trivial⟩
  have up := Up.push (x := .bx cs) (e := .blk b (.cells u.cells t)) (v := .pointer (some ⟨b,0, none⟩)) hO hn fun M hM hv => ⟨b, u.cells.toList, t, hv, by simp, hcs.le (.refl f) hM⟩
  exact hK f _ _ _ a w (.refl f) up.le up.nb up.ol ⟨b, zd6, rfl⟩ up.fm hs
theorem CLR.set {f : Fz} {N : Nm} : ∀ {l : List C} {r : List Value} {i : Nat} {c : C} {v : Value}, CLR f N l r → CR f N c v → CLR f N (l.set i c) (r.set i v)
  | [],[], _, _, _, _, _ => trivial
  | _ :: _, _ :: _,0, _, _, ⟨_, h2⟩, h => ⟨h, h2⟩
  | _ :: _, _ :: _, i + 1, _, _, ⟨h1, h2⟩, h => ⟨h1, CLR.set h2 h⟩
theorem allU {xs : List C} (h : xs.all isU = true) : ∀ c ∈ xs, c ≠ .u := fun c hc e => by
  subst e
  have := List.all_eq_true.1 h _ hc
  simp [isU] at this
theorem store_ok (hE : EnvOk P E) {t : TypeId} {x y : Operand} (h : op1 E (.store t x y) d sl ob K = some r) : ∃ v ob', K v ob' = some r ∧ EOk P (.store t x y) d sl ob v ob' := by
  obtain ⟨rfl, h1⟩ := dN_inv (h : dN d _ = some r)
  obtain ⟨v, h2, hx⟩ := zba h1
  obtain ⟨w1, h3, hy⟩ := zba h2
  obtain ⟨td, h4, h5⟩ := zaa h3
  obtain ⟨xs, h6, hc⟩ := zm1 h5
  obtain ⟨h7, h8⟩ := zb0 h6
  simp only [Bool.and_eq_true] at h7
  obtain ⟨hsz, hall⟩ := h7
  have hsz := Nat.eq_of_beq_eq_true hsz
  obtain ⟨dd, z, g1, g2, g3, g4, g5, g6, _⟩ := zhv (hE.T _ _ h4)
  clear h h1 h2 h3 h5 h6
  unfold storeTo at h8
  split at h8
  · rename_i j o
    obtain ⟨yy, k1, k2⟩ := zaa h8
    split at k2
    · rename_i cs
      rcases hc with ⟨ha, rfl⟩ | ⟨ha, c, rfl, rfl⟩
      · rw [ha] at k2
        obtain ⟨k3, k4⟩ := zb0 (k2 : cond _ _ none = some r)
        have ko := Nat.le_of_ble_eq_true k3
        refine ⟨_, _, k4, fun f N E L w0 n a w hS hO hn hs ty pos af ops rest K hd hK => ?_⟩
        obtain ⟨u, e1, b, q1, rfl⟩ := hx f N E hS
        obtain ⟨u2, e3, vs, rfl, e4⟩ := hy f N E hS
        obtain ⟨hlt, en, q2, b', ws, tt, q3, q4, q5⟩ := hO.get k1
        subst q4
        rw [q1] at q3
        cases q3
        have l1 := e4.len
        have l2 := q5.len
        have hone : OneRow td.sz vs := ⟨by omega, fun u hu => by
          obtain ⟨i, hi⟩ := List.getElem?_of_mem hu
          have hlt : i < xs.length := by have := (List.getElem?_eq_some_iff.1 hi).1; omega
          obtain ⟨u', m1, m2⟩ := e4.get (i := i) (c := xs[i]) (by simp)
          rw [hi] at m1
          cases m1
          exact m2.one (allU hall _ (by simp))⟩
        refine zsr hs q2 e1 e3 g2 hone (by simp; omega) (.free rfl) fun a w hs => ?_
        have hl : CLR f N (lay cs xs o) (ws.take o ++ vs ++ ws.drop (o + vs.length)) := by
          have := ((q5.take o).app e4).app (q5.drop (o + xs.length))
          rw [← l1] at this
          unfold lay
          rw [← l1]; exact this
        exact hK f N undef _ a w (.refl f) (.refl N) (hn.len (zao _ _ _)) (hO.put hlt ⟨b, _, tt, q1, rfl, hl⟩) rfl (.set k1 (by simp)) (show St n w0 f _ E a w from by simpa using hs)
      · rw [ha] at k2
        obtain ⟨k3, k4⟩ := zb0 (k2 : cond _ _ none = some r)
        have ko : o < cs.length := Nat.blt_eq.mp k3
        refine ⟨_, _, k4, fun f N E L w0 n a w hS hO hn hs ty pos af ops rest K hd hK => ?_⟩
        obtain ⟨u, e1, b, q1, rfl⟩ := hx f N E hS
        obtain ⟨u2, e3, e4⟩ := hy f N E hS
        obtain ⟨hlt, en, q2, b', ws, tt, q3, q4, q5⟩ := hO.get k1
        subst q4
        rw [q1] at q3
        cases q3
        have l2 := q5.len
        have e4 : CR f N c u2 := e4
        have hs1 : td.sz = 1 := by simpa using hsz.symm
        rw [hs1] at g2
        refine zl5 hs q2 e1 e3 g2 (e4.one (allU hall c (by simp))) (by simp; omega) (cs' := (ws.set o u2).toArray) (by simp) (.free rfl) fun a w hs => ?_
        exact hK f N undef _ a w (.refl f) (.refl N) (hn.len (zao _ _ _)) (hO.put hlt ⟨b, ws.set o u2, tt, q1, rfl, q5.set e4⟩) rfl (.set k1 (by simp)) hs
    · cases k2
  · rename_i k j i o
    obtain ⟨xs', ob1, k0, HF⟩ := zjy h8
    obtain ⟨yy, k1, k2⟩ := zaa k0
    split at k2
    · rename_i e c l
      obtain ⟨hk, k3⟩ := zb0 k2
      have hk := Nat.eq_of_beq_eq_true hk
      obtain ⟨x0, k4, k5⟩ := zaa k3
      clear k2 k3 h8 k0
      rcases hc with ⟨ha, rfl⟩ | ⟨ha, c0, rfl, rfl⟩
      · rw [ha] at k5
        obtain ⟨k6, k7⟩ := zb0 (k5 : cond _ _ none = some r)
        simp only [Bool.and_eq_true] at k6
        have ko := Nat.eq_of_beq_eq_true k6.1
        have kl := Nat.eq_of_beq_eq_true k6.2
        obtain ⟨zz, k8, _, kR⟩ := TC.mkA_inv k7
        subst ko
        refine ⟨_, _, k8, fun f N E L w0 n a w hS hO hn hs ty pos af ops rest K hd hK => ?_⟩
        obtain ⟨u, e1, v0, q1, q2, q3⟩ := hx f N E hS
        obtain ⟨u2, e3, vs, q4, e4⟩ := hy f N E hS
        subst q2 q4
        obtain ⟨f1, L1, m, hv⟩ := HF f N L w0 w hO hs.cw
        have hv := hv vs e4
        obtain ⟨hlt, en, q5, v', rows, q6, q7, q8⟩ := m.ol.get k1
        subst q7
        rw [q1] at q6
        cases q6
        subst hk
        obtain ⟨r0, p1, p2, p3, p4⟩ := q8.geti k4
        have hz := kR f1 N vs hv
        have hT1 : TI P t c.k td.by_ z := by
          have l1 := e4.len
          have l2 := hv.len
          have : td.sz = c.k := by omega
          rw [← this]; exact g2
        refine zru ⟨hs.ev, m.cw⟩ q5 e1 e3 p1 hT1 (c.oneR hz) (.free rfl) fun a w hs => ?_
        exact hK f1 N undef _ a w m.le (.refl N) (hn.len (by rw [zao, m.len])) (m.ol.put hlt ⟨_, _, q1, rfl, q8.set hz⟩) rfl (m.fm.trans (.set k1 (by simp))) hs
      · rw [ha] at k5
        cases xs' with
        | nil => cases k5
        | cons y0 ys =>
        cases ys with
        | cons _ _ => cases k5
        | nil =>
          have k5 : cond (Nat.blt o c.k) (c.mkA ((c.lv x0).set o y0) fun z => K (.c .u) (oset ob1 j (.ow e c (l.set i.toNat z)))) none = some r := k5
          obtain ⟨k6, k7⟩ := zb0 k5
          have ko : o < c.k := Nat.blt_eq.mp k6
          obtain ⟨zz, k8, _, kR⟩ := TC.mkA_inv k7
          refine ⟨_, _, k8, fun f N E L w0 n a w hS hO hn hs ty pos af ops rest K hd hK => ?_⟩
          obtain ⟨u, e1, v0, q1, q2, q3⟩ := hx f N E hS
          obtain ⟨u2, e3, e4⟩ := hy f N E hS
          subst q2
          obtain ⟨f1, L1, m, hv⟩ := HF f N L w0 w hO hs.cw
          obtain ⟨hv, _⟩ := hv [u2] ⟨e4, trivial⟩
          obtain ⟨hlt, en, q5, v', rows, q6, q7, q8⟩ := m.ol.get k1
          subst q7
          rw [q1] at q6
          cases q6
          subst hk
          obtain ⟨r0, p1, p2, p3, p4⟩ := q8.geti k4
          have hz := kR f1 N (r0.set o u2) (((TC.lvR (N := N) c).1 p2).set hv)
          have hs1 : td.sz = 1 := by simpa using hsz.symm
          rw [hs1] at g2
          have e4 : CR f N c0 u2 := e4
          refine zgr ⟨hs.ev, m.cw⟩ q5 e1 e3 p1 ko g2 (e4.one (allU hall c0 (by simp))) (.free rfl) fun a w hs => ?_
          exact hK f1 N undef _ a w m.le (.refl N) (hn.len (by rw [zao, m.len])) (m.ol.put hlt ⟨_, _, q1, rfl, q8.set hz⟩) rfl (m.fm.trans (.set k1 (by simp))) hs
    · cases k2
  · cases h8
end
end Go.V
