/-
  Walks and laws of this seat.
-/
import Derived.Test.YteicdfkmpnmkmaaGreatVG
namespace Go.V
set_option linter.unusedVariables false
set_option linter.unusedSimpArgs false
set_option linter.unusedSectionVars false
open Go.RowKit Go.Sl
variable [F0]
def clr (n : Nat) : List (Option Nat) → List Ent → List Ent
  | [], L => L
  | none :: js, L => clr n js L
  | some j :: js, L => clr n js (L.set (n - 1 - j) ph)
theorem zze (n : Nat) : ∀ (js : List (Option Nat)) (L : List Ent),(clr n js L).length = L.length
  | [], L => rfl
  | none :: js, L => zze n js L
  | some j :: js, L => by rw [clr, zze n js]; simp
theorem zw8 (n : Nat) : ∀ (js : List (Option Nat)) (L : List Ent) (p : Nat),(clr n js L)[p]? = L[p]? ∨ ((clr n js L)[p]? = some ph ∧ ∃ j, some j ∈ js ∧ p = n - 1 - j)
  | [], L, p => .inl rfl
  | none :: js, L, p => by
    rcases zw8 n js L p with h | ⟨h, j, h1, h2⟩
    · exact .inl h
    · exact .inr ⟨h, j, List.mem_cons_of_mem _ h1, h2⟩
  | some j :: js, L, p => by
    rcases zw8 n js (L.set (n - 1 - j) ph) p with h | ⟨h, j', h1, h2⟩
    · by_cases e : n - 1 - j = p
      · subst e
        rw [clr, h, List.getElem?_set]
        simp only [if_true]
        split
        · exact .inr ⟨rfl, j, by simp, rfl⟩
        · rename_i hh; exact .inl (List.getElem?_eq_none (by omega)).symm
      · rw [clr, h, List.getElem?_set_ne e]
        exact .inl rfl
    · exact .inr ⟨h, j', List.mem_cons_of_mem _ h1, h2⟩
theorem yce (n : Nat) : ∀ (js : List (Option Nat)) (L : List Ent) (j : Nat), some j ∈ js → n - 1 - j < L.length → (clr n js L)[n - 1 - j]? = some ph
  | [], L, j, h, _ => by simp at h
  | none :: js, L, j, h, hl => yce n js L j (by simpa using h) hl
  | some i :: js, L, j, h, hl => by
    by_cases hj : some j ∈ js
    · exact yce n js _ j hj (by simpa using hl)
    · have e : i = j := by
        rcases List.mem_cons.1 h with h | h
        · exact (Option.some.inj h).symm
        · exact absurd h hj
      subst e
      rcases zw8 n js (L.set (n - 1 - i) ph) (n - 1 - i) with h | ⟨h, _⟩
      · rw [clr, h]; simp [hl]
      · exact h
theorem OLR.no {f : Fz} {N : Nm} : ∀ {ob : List Ob} {L L' : List Ent}, OLR f N ob L → L'.length = L.length → (∀ j, og ob j ≠ some .no → L'[ob.length - 1 - j]? = L[ob.length - 1 - j]? ∨ ob.length ≤ j) → OLR f N ob L'
  | [], _, _, h, _, _ => h
  | x :: r, e :: L, e' :: L', ⟨h1, h2⟩, hl, h => by
    refine ⟨?_, OLR.no h2 (by simpa using hl) fun j hj => ?_⟩
    · by_cases hx : x = .no
      · subst hx; trivial
      · rcases h r.length (by rw [og_top]; simpa using hx) with g | g
        · simp at g; subst g; exact h1
        · simp only [List.length_cons] at g; omega
    · by_cases hlt : j < r.length
      · rcases h j (by rw [zvs hlt]; exact hj) with g | g
        · have : (x :: r).length - 1 - j = (r.length - 1 - j) + 1 := by simp; omega
          rw [this] at g
          exact .inl (by simpa using g)
        · exact .inr (by simp at g; omega)
      · exact .inr (by omega)
  | _ :: _, _ :: _,[], _, hl, _ => by simp at hl
variable {f f' : Fz} {N : Nm} {ob ob' : List Ob} {L L' : List Ent} {w0 w : World} {es : List Ent}
theorem Tk.rest (h : Tk f N ob L w0 w f' ob' L' es) : ∃ L2, Cw w0 f' (es ++ L2) w ∧ OLR f' N ob' L2 ∧ Fm ob L ob' L2 := by
  obtain ⟨m, ⟨js, a1, a2, a3, a4⟩, hn⟩ := h
  have hlen := m.ol.len
  refine ⟨clr ob'.length js L', ?_, ?_, ?_⟩
  · refine Cw.re m.cw (fun p => if p < es.length then (match js[p]? with | some (some j) => ob'.length - 1 - j | _ => 0) else p - es.length) (fun p x hp => ?_) (fun p q x y hp hq hx hy hpq => ?_)
    · rw [List.getElem?_append] at hp
      split at hp
      · rename_i hlt
        rcases a2 p x hp with h1 | ⟨j, h1, h2⟩
        · exact .inl ⟨h1, hn x (List.mem_of_getElem? hp) h1⟩
        · rw [if_pos hlt, h1]; exact .inr h2
      · rename_i hge
        rw [if_neg hge]
        rcases zw8 ob'.length js L' (p - es.length) with h1 | ⟨h1, _⟩
        · rw [h1] at hp; exact .inr hp
        · rw [h1] at hp; cases hp; exact .inl ⟨zmq, ph_holds⟩
    · have hin : ∀ p x, p < es.length → (es ++ clr ob'.length js L')[p]? = some x → x.key ≠ none → ∃ j, js[p]? = some (some j) := fun p x hlt hp hx => by
        rw [List.getElem?_append_left hlt] at hp
        rcases a2 p x hp with h1 | ⟨j, h1, _⟩
        · exact absurd h1 hx
        · exact ⟨j, h1⟩
      have hout : ∀ p x j, ¬ p < es.length → (es ++ clr ob'.length js L')[p]? = some x → x.key ≠ none → some j ∈ js → p - es.length ≠ ob'.length - 1 - j := fun p x j hge hp hx hj e => by
        rw [List.getElem?_append_right (by omega), e] at hp
        have hlt := (List.getElem?_eq_some_iff.1 hp).1
        rw [zze] at hlt
        rw [yce ob'.length js L' j hj hlt] at hp
        cases hp
        exact hx zmq
      by_cases h1 : p < es.length <;> by_cases h2 : q < es.length
      · rw [if_pos h1, if_pos h2]
        obtain ⟨j, g1⟩ := hin p x h1 hp hx
        obtain ⟨i, g2⟩ := hin q y h2 hq hy
        rw [g1, g2]
        simp only
        intro e
        have b1 := (a4 p j g1).1
        have b2 := (a4 q i g2).1
        have hl := m.len
        have : j = i := by omega
        subst this
        exact hpq (a3 p q j g1 g2)
      · rw [if_pos h1, if_neg h2]
        obtain ⟨j, g1⟩ := hin p x h1 hp hx
        rw [g1]
        exact fun e => hout q y j h2 hq hy (List.mem_of_getElem? g1) e.symm
      · rw [if_neg h1, if_pos h2]
        obtain ⟨j, g1⟩ := hin q y h2 hq hy
        rw [g1]
        exact fun e => hout p x j h1 hp hx (List.mem_of_getElem? g1) e
      · rw [if_neg h1, if_neg h2]
        omega
  · refine m.ol.no (zze _ _ _) fun j hj => ?_
    rcases zw8 ob'.length js L' (ob'.length - 1 - j) with h1 | ⟨_, i, h2, h3⟩
    · exact .inl h1
    · by_cases hlt : j < ob'.length
      · obtain ⟨p, hp⟩ := List.getElem?_of_mem h2
        obtain ⟨b1, b2, b3⟩ := a4 p i hp
        have hl := m.len
        have : i = j := by omega
        subst this
        exact absurd b3 hj
      · exact .inr (by omega)
  · refine ⟨fun j hj => ?_, ?_⟩
    rotate_left
    · rw [← m.fm.2]
      apply List.ext_getElem?
      intro p
      rw [List.getElem?_drop, List.getElem?_drop]
      rcases zw8 ob'.length js L' (ob'.length + p) with h1 | ⟨_, i, h2, h3⟩
      · exact h1
      · obtain ⟨q, hq⟩ := List.getElem?_of_mem h2
        have := (a4 q i hq).1
        have hl := m.len
        omega
    obtain ⟨b1, b2⟩ := m.fm.1 j hj
    refine ⟨b1, ?_⟩
    rw [← b2]
    rcases zw8 ob'.length js L' (ob'.length - 1 - j) with h1 | ⟨_, i, h2, h3⟩
    · exact h1
    · obtain ⟨p, hp⟩ := List.getElem?_of_mem h2
      obtain ⟨c1, c2, c3⟩ := a4 p i hp
      have := zrk hj
      have hl := m.len
      have : i = j := by omega
      subst this
      exact absurd hj c2
theorem Tk.alone (h : Tk f N ob L w0 w f' ob' L' es) : Cw w0 f' (es.reverse ++ L.drop ob.length) w := by
  obtain ⟨L2, h1, _, h3⟩ := h.rest
  rw [← h3.2]
  exact (h1.sub (List.Sublist.append (List.Sublist.refl es) (List.drop_sublist _ _))).perm (List.Perm.append_right _ (List.reverse_perm _).symm)
def oneV : List Value → Value
  | [v] => v
  | vs => .tuple vs.toArray
def pvals : List Md → List Value → List Value
  | .p _ :: ms, v :: vs => v :: pvals ms vs
  | _ :: ms, _ :: vs => pvals ms vs
  | _, _ => []
structure ConOk (P : Program) (g : Nat) (c : Con) : Prop where
  has : Has P g
  does : ∀ x y, c.m x = some y → ∀ (f : Fz) (vs : List Value) (es : List Ent), Fz.le f00 f → MLR f c.ps x vs es → Does P g vs f es (fun v f' L' => ∃ us rvs, us = rvs ++ pvals c.ps vs ∧ v = oneV rvs ∧ rvs.length = c.rs.length ∧ MLR f' (c.rs ++ c.ps.filter isP) y us L')
def LJ (N : Nm) (ob : List Ob) : List Nat → List Value → Prop
  | [],[] => True
  | j :: js, u :: us => (N j = some u ∧ j < ob.length ∧ og ob j ≠ some .no) ∧ LJ N ob js us
  | _, _ => False
variable {α : Type} {r : α}
theorem LJ.back {N : Nm} {ob ob1 : List Ob} (hl : ob1.length = ob.length) (h : ∀ i, og ob i = some .no → og ob1 i = some .no) : ∀ {js : List Nat} {us : List Value}, LJ N ob1 js us → LJ N ob js us
  | [],[], _ => trivial
  | j :: js, u :: us, ⟨⟨h1, h2, h3⟩, h4⟩ => ⟨⟨h1, by omega, fun e => h3 (h j e)⟩, LJ.back hl h h4⟩
theorem dec_p {m : Md} {v0 : V} {K : m.T → List Ob → Option α} (h : m.dec v0 ob K = some r) (hm : isP m = true) : ∃ j, v0 = .c (.bp j 0) ∧ j < ob.length ∧ og ob j ≠ some .no := by
  cases m with
  | p l =>
    simp only [Md.dec] at h
    split at h
    · rename_i j
      obtain ⟨y, h1, h2⟩ := zab h
      split at h2
      · exact ⟨j, rfl, zrk h1, by rw [h1]; simp⟩
      · cases h2
    · cases h
  | _ => cases hm
theorem yg4 : ∀ {l : List Md} {us : List V} {ob : List Ob} {K : Pr Md.T l → List Ob → Option α}, decL l us ob K = some r → ∀ (f : Fz) (N : Nm) (L : List Ent) (w0 w : World), OLR f N ob L → Cw w0 f L w → ∀ vs, VLR f N us vs → LJ N ob (lent l us) (pvals l vs)
  | [], us, ob, K, h, f, N, L, w0, w, hO, hC, vs, hv => trivial
  | [m], us, ob, K, h, f, N, L, w0, w, hO, hC, vs, hv => by
    match us, h, vs, hv with
    | [], h, _, _ => cases h
    | _ :: _ :: _, h, _, _ => cases h
    | [v0], h,[v], ⟨hv, _⟩ =>
      cases hm : isP m with
      | false => cases m <;> first | (cases hm; done) | exact trivial
      | true =>
        obtain ⟨j, rfl, h2, h3⟩ := dec_p (h : m.dec v0 ob K = some r) hm
        obtain ⟨b, g1, rfl⟩ := hv
        cases m <;> first | (cases hm; done) | exact ⟨⟨g1, h2, h3⟩, trivial⟩
  | m :: n :: l, us, ob, K, h, f, N, L, w0, w, hO, hC, vs, hv => by
    match us, h, vs, hv with
    | [], h, _, _ => cases h
    | v0 :: us, h, v :: vs, ⟨hv, hvs⟩ =>
      have h' : m.dec v0 ob (fun x ob => decL (n :: l) us ob fun y ob => K (x, y) ob) = some r := h
      obtain ⟨x, ob1, h1, H⟩ := Md.dec_ok h'
      obtain ⟨f1, L1, es1, g1, g2⟩ := H f N L w0 w hO hC v hv
      have ih := (yg4 h1 f1 N L1 w0 w g2.mv.ol g2.mv.cw vs (hvs.le g2.mv.le (.refl N))).back g2.mv.len fun i hi => (g2.mv.fm.1 i hi).1
      cases hm : isP m with
      | false => cases m <;> first | (cases hm; done) | exact ih
      | true =>
        obtain ⟨j, rfl, h2, h3⟩ := dec_p h' hm
        obtain ⟨b, q1, rfl⟩ := hv
        cases m <;> first | (cases hm; done) | exact ⟨⟨q1, h2, h3⟩, ih⟩
def Bk (js : List Nat) (ob : List Ob) (L : List Ent) (ob' : List Ob) (L' : List Ent) : Prop := (∀ i, i < ob.length → i ∉ js → og ob' i = og ob i ∧ L'[ob'.length - 1 - i]? = L[ob.length - 1 - i]?) ∧ L'.drop ob'.length = L.drop ob.length
theorem Bk.refl {js : List Nat} {ob : List Ob} {L : List Ent} : Bk js ob L ob L := ⟨fun _ _ _ => ⟨rfl, rfl⟩, rfl⟩
theorem Bk.trans {js : List Nat} {ob ob1 ob2 : List Ob} {L L1 L2 : List Ent} (h : Bk js ob L ob1 L1) (hl : ob.length ≤ ob1.length) (g : Bk js ob1 L1 ob2 L2) : Bk js ob L ob2 L2 := ⟨fun i hi hn => by
  obtain ⟨a, b⟩ := h.1 i hi hn
  obtain ⟨c, d⟩ := g.1 i (by omega) hn
  exact ⟨c.trans a, d.trans b⟩, g.2.trans h.2⟩
theorem Bk.set {js : List Nat} {ob : List Ob} {L : List Ent} {j : Nat} {y : Ob} {e : Ent} (hj : j ∈ js) (hlt : j < ob.length) : Bk js ob L (oset ob j y) (L.set (ob.length - 1 - j) e) := ⟨fun i hi hn => by
  have hne : i ≠ j := fun q => hn (by rw [q]; exact hj)
  exact ⟨zke hne, by rw [zak, List.getElem?_set_ne (by omega)]⟩, by rw [zak, zq0 (by omega)]⟩
theorem Bk.mono {js ks : List Nat} {ob ob' : List Ob} {L L' : List Ent} (h : Bk js ob L ob' L') (hs : ∀ j ∈ js, j ∈ ks) : Bk ks ob L ob' L' := ⟨fun i hi hn => h.1 i hi fun hj => hn (hs i hj), h.2⟩
end Go.V
