/-
  Walks and laws of this seat.
-/
import Derived.Test.YteicdfkmpnmkmaaGreatVH
namespace Go.V
set_option linter.unusedVariables false
set_option linter.unusedSimpArgs false
set_option linter.unusedSectionVars false
open Go.RowKit Go.Sl
variable [F0]
theorem og_app : ∀ {ns ob : List Ob} {i : Nat}, i < ob.length → og (ns ++ ob) i = og ob i
  | [], ob, i, h => rfl
  | x :: ns, ob, i, h => by rw [List.cons_append, zvs (by simp; omega), og_app h]
theorem Bk.app {js : List Nat} {ob ns : List Ob} {L M : List Ent} (h : M.length = ns.length) : Bk js ob L (ns ++ ob) (M ++ L) := ⟨fun i hi _ => ⟨og_app hi, by
  rw [List.getElem?_append_right (by simp; omega)]
  congr 1
  simp; omega⟩, by
  rw [List.length_append, ← h, List.drop_append, List.drop_eq_nil_of_le (by omega)]
  simp⟩
theorem Bc.enc_suf {f : Fz} {b : Bc} {x : b.T} {vs : List Value} {es : List Ent} (ob : List Ob) (h : b.R f x vs es) : ∃ ns,(b.enc x ob).2 = ns ++ ob ∧ ns.length = es.length := by
  cases b with
  | d c => obtain ⟨_, rfl⟩ := h; exact ⟨[], rfl, rfl⟩
  | o e c => obtain ⟨_, _, _, _, rfl, _⟩ := h; exact ⟨[.ow e c x], rfl, rfl⟩
theorem ydc {f : Fz} : ∀ {l : List Bc} {x : Pr Bc.T l} {vs : List Value} {es : List Ent} (ob : List Ob), BLR f l x vs es → ∃ ns,(encB l x ob).2 = ns ++ ob ∧ ns.length = es.length
  | [], x, vs, es, ob, h => by obtain ⟨_, rfl⟩ := h; exact ⟨[], rfl, rfl⟩
  | [b], x, vs, es, ob, h => Bc.enc_suf (b := b) ob h
  | b :: c :: r, x, vs, es, ob, h => by
    obtain ⟨v1, v2, e1, e2, _, rfl, h3, h4⟩ := h
    obtain ⟨ns, g1, g2⟩ := Bc.enc_suf ob h3
    obtain ⟨ms, g3, g4⟩ := ydc (b.enc x.1 ob).2 h4
    exact ⟨ms ++ ns, by show (encB (c :: r) x.2 (b.enc x.1 ob).2).2 = _; rw [g3, g1, List.append_assoc], by simp [g2, g4]; omega⟩
theorem Cw.putAt {w0 w : World} {f : Fz} {X M : List Ent} {b : Ent} {p : Nat} (h : Cw w0 f (b :: (X ++ M)) w) (hp : p < M.length) : Cw w0 f (X ++ M.set p b) w := by
  refine Cw.re h (fun q => if q = X.length + p then 0 else q + 1) (fun q x hq => .inr ?_) (fun q r x y hq hr _ _ hne => ?_)
  · rw [List.getElem?_append] at hq
    split at hq
    · rename_i hlt
      rw [if_neg (by omega), List.getElem?_cons_succ, List.getElem?_append_left hlt]; exact hq
    · rename_i hge
      rw [List.getElem?_set] at hq
      split at hq
      · rename_i he
        cases hq
        rw [if_pos (by omega)]; rfl
      · rename_i he
        rw [if_neg (by omega), List.getElem?_cons_succ, List.getElem?_append_right (by omega)]; exact hq
  · split <;> split <;> omega
theorem perm_a {A X M : List Ent} {b : Ent} : ((A ++ [b]) ++ (X ++ M)).Perm (b :: (X ++ (A.reverse ++ M))) := by
  have h1 : ((A ++ [b]) ++ (X ++ M)).Perm (b :: (A ++ (X ++ M))) := by
    rw [List.append_assoc]
    exact List.perm_middle
  refine h1.trans (List.Perm.cons b ?_)
  have h2 : (A ++ (X ++ M)).Perm (X ++ (A ++ M)) := by
    rw [← List.append_assoc, ← List.append_assoc]
    exact List.Perm.append_right M List.perm_append_comm
  exact h2.trans (List.Perm.append_left X (List.Perm.append_right M (List.reverse_perm A).symm))
theorem ycz {A X M : List Ent} : (A ++ (X ++ M)).Perm (X ++ (A.reverse ++ M)) := by
  have h2 : (A ++ (X ++ M)).Perm (X ++ (A ++ M)) := by
    rw [← List.append_assoc, ← List.append_assoc]
    exact List.Perm.append_right M List.perm_append_comm
  exact h2.trans (List.Perm.append_left X (List.Perm.append_right M (List.reverse_perm A).symm))
def nt : V → Prop
  | .t _ => False
  | _ => True
theorem nt_v (c : TC) (x : c.T) : nt (c.v x) := by cases c <;> trivial
def JP (N : Nm) (ob : List Ob) (m : Md) (v : Value) (js : List Nat) : Prop := isP m = true → ∃ j js', js = j :: js' ∧ N j = some v ∧ j < ob.length
structure Laid (f : Fz) (N : Nm) (ob : List Ob) (L : List Ent) (w0 w : World) (js : List Nat) (X : List Ent) (us : List V) (vs : List Value) (ob' : List Ob) (N' : Nm) (L' : List Ent) : Prop where
  le : Nm.le N N'
  nb : Nb N' ob'
  ol : OLR f N' ob' L'
  cw : Cw w0 f (X ++ L') w
  vr : VLR f N' us vs
  nt : ∀ v ∈ us, nt v
  len : ob.length ≤ ob'.length
  bk : Bk js ob L ob' L'
theorem ydb : ∀ (cs : List TC) (x : Pr TC.T cs) (ob : List Ob), ∃ ns,(encM cs x ob).2 = ns ++ ob ∧ ns.length = cs.length
  | [], _, ob => ⟨[], rfl, rfl⟩
  | [c], x, ob => ⟨[.fb (c.lv x)], rfl, rfl⟩
  | c :: d :: r, x, ob => by
    obtain ⟨ns, h1, h2⟩ := ydb (d :: r) x.2 (.fb (c.lv x.1) :: ob)
    exact ⟨ns ++ [.fb (c.lv x.1)], by show (encM (d :: r) x.2 _).2 = _; rw [h1]; simp, by simp [h2]⟩
theorem ydi {f : Fz} {N : Nm} {ob : List Ob} {L X : List Ent} {w0 w : World} {m : Md} {x : m.T} {v : Value} {es : List Ent} {js : List Nat} (h : m.R f x v es) (hO : OLR f N ob L) (hn : Nb N ob) (hC : Cw w0 f (es ++ (X ++ L)) w) (hj : JP N ob m v js) :
    ∃ N' L', Laid f N ob L w0 w js X (back1 m x js ob).1 (if isP m then [] else [v]) (back1 m x js ob).2.1 N' L' := by
  cases m with
  | d c =>
    obtain ⟨h1, rfl⟩ := h
    exact ⟨N, L, .refl N, hn, hO, hC, ⟨dataN h1, trivial⟩, fun v hv => by simp [back1] at hv; subst hv; exact nt_v c x, Nat.le_refl _, .refl⟩
  | o e c =>
    obtain ⟨N', u, k⟩ := Md.enc_ok (m := .o e c) h hO hn
    obtain ⟨rows, h2, rfl, h4⟩ := h
    exact ⟨N', _, u.le, u.nb, u.ol, hC.perm ycz, ⟨k, trivial⟩, fun v hv => by simp [back1] at hv; subst hv; trivial, by simp [back1, Md.enc], .app (ns := [_]) rfl⟩
  | g =>
    obtain ⟨N', u, k⟩ := Md.enc_ok (m := .g) h hO hn
    obtain ⟨b, rfl, rfl⟩ := h
    exact ⟨N', _, u.le, u.nb, u.ol, hC.perm ycz, ⟨k, trivial⟩, fun v hv => by simp [back1] at hv; subst hv; trivial, by simp [back1, Md.enc], .app (ns := [_]) rfl⟩
  | q c =>
    obtain ⟨h1, rfl⟩ := h
    exact ⟨N, L, .refl N, hn, hO, hC, ⟨h1, trivial⟩, fun v hv => by simp [back1, Md.enc] at hv; subst hv; trivial, Nat.le_refl _, .refl⟩
  | b c =>
    obtain ⟨N', u, k⟩ := Md.enc_ok (m := .b c) h hO hn
    obtain ⟨_, rfl⟩ := h
    exact ⟨N', _, u.le, u.nb, u.ol, hC.perm ycz, ⟨k, trivial⟩, fun v hv => by simp [back1, Md.enc] at hv; subst hv; trivial, by simp [back1, Md.enc], .app (ns := [_]) rfl⟩
  | m g cs =>
    obtain ⟨N', u, k⟩ := Md.enc_ok (m := .m g cs) h hO hn
    obtain ⟨⟨_, _, _, _, _, _, _, hcr⟩, rfl⟩ := h
    obtain ⟨ns, q1, q2⟩ := ydb cs x ob
    have hns : (Md.enc (.m g cs) x ob).2 = (.me g (encM cs x ob).1 :: ns) ++ ob := by simp [Md.enc, q1]
    refine ⟨N', _, u.le, u.nb, u.ol, hC.perm ycz, ⟨k, trivial⟩, fun v hv => by simp [back1, Md.enc] at hv; subst hv; trivial, by simp only [back1]; rw [hns, List.length_append]; omega, ?_⟩
    show Bk js ob L (Md.enc (.m g cs) x ob).2 _
    rw [hns]
    exact .app (by simp [q2])
  | f g =>
    obtain ⟨rfl, rfl⟩ := h
    exact ⟨N, L, .refl N, hn, hO, hC, ⟨rfl, trivial⟩, fun v hv => by simp [back1, Md.enc] at hv; subst hv; trivial, Nat.le_refl _, .refl⟩
  | p l =>
    obtain ⟨b, vs, t, e1, rfl, rfl, h3⟩ := h
    obtain ⟨j, js', rfl, hN, hlt⟩ := hj rfl
    obtain ⟨N1, u1, k1⟩ := yca h3 hO hn
    obtain ⟨ns, hns, hnl⟩ := ydc ob h3
    have hl1 := u1.ol.len
    have hlen : e1.reverse.length = ns.length := by simp [hnl]
    have hob : ob.length ≤ (encB l x ob).2.length := by rw [hns]; simp
    have hput := u1.ol.put (j := j) (x := .bx (encB l x ob).1) (e := .blk b (.cells vs.toArray t)) (by omega) ⟨b, vs, t, u1.le _ _ hN, rfl, k1⟩
    refine ⟨N1, _, u1.le, u1.nb.len (zak _ _ _), hput, Cw.putAt (hC.perm perm_a) (by omega), trivial, fun v hv => by simp [back1] at hv, by simp only [back1]; rw [zak]; exact hob, ?_⟩
    refine Bk.trans (L1 := e1.reverse ++ L) (ob1 := (encB l x ob).2) ?_ hob (Bk.set (by simp) (by omega))
    rw [hns]
    exact .app hlen
def JsR (N : Nm) (ob : List Ob) : List Md → List Value → List Nat → Prop
  | [], _, _ => True
  | .p _ :: ms, v :: vs, j :: js => (N j = some v ∧ j < ob.length) ∧ JsR N ob ms vs js
  | .p _ :: _, _, _ => False
  | _ :: ms, _ :: vs, js => JsR N ob ms vs js
  | _ :: _,[], _ => False
theorem JsR.le {N N' : Nm} {ob ob' : List Ob} (hN : Nm.le N N') (hl : ob.length ≤ ob'.length) : ∀ {ms : List Md} {vs : List Value} {js : List Nat}, JsR N ob ms vs js → JsR N' ob' ms vs js
  | [], _, _, _ => trivial
  | .p _ :: ms, v :: vs, j :: js, ⟨⟨h1, h2⟩, h3⟩ => ⟨⟨hN _ _ h1, by omega⟩, JsR.le hN hl h3⟩
  | .p _ :: _,[], _, h => h.elim
  | .p _ :: _, _ :: _,[], h => h.elim
  | .d _ :: ms, _ :: vs, js, h => JsR.le (ms := ms) (vs := vs) hN hl h
  | .o _ _ :: ms, _ :: vs, js, h => JsR.le (ms := ms) (vs := vs) hN hl h
  | .g :: ms, _ :: vs, js, h => JsR.le (ms := ms) (vs := vs) hN hl h
  | .q _ :: ms, _ :: vs, js, h => JsR.le (ms := ms) (vs := vs) hN hl h
  | .b _ :: ms, _ :: vs, js, h => JsR.le (ms := ms) (vs := vs) hN hl h
  | .m _ _ :: ms, _ :: vs, js, h => JsR.le (ms := ms) (vs := vs) hN hl h
  | .f _ :: ms, _ :: vs, js, h => JsR.le (ms := ms) (vs := vs) hN hl h
  | .d _ :: ms,[], js, h => h.elim
  | .o _ _ :: ms,[], js, h => h.elim
  | .g :: ms,[], js, h => h.elim
  | .q _ :: ms,[], js, h => h.elim
  | .b _ :: ms,[], js, h => h.elim
  | .m _ _ :: ms,[], js, h => h.elim
  | .f _ :: ms,[], js, h => h.elim
def nonP : List Md → List Value → List Value
  | .p _ :: ms, _ :: vs => nonP ms vs
  | _ :: ms, v :: vs => v :: nonP ms vs
  | _, _ => []
theorem VLR.app {f : Fz} {N : Nm} : ∀ {l m : List V} {r s : List Value}, VLR f N l r → VLR f N m s → VLR f N (l ++ m) (r ++ s)
  | [], _,[], _, _, h => h
  | _ :: _, _, _ :: _, _, ⟨h1, h2⟩, h => ⟨h1, VLR.app h2 h⟩
theorem JsR.one {N : Nm} {ob : List Ob} {m : Md} {ms : List Md} {v : Value} {vs : List Value} {js : List Nat} {x : m.T} (h : JsR N ob (m :: ms) (v :: vs) js) : JP N ob m v js ∧ JsR N ob ms vs (back1 m x js ob).2.2 ∧ (∀ j ∈ (back1 m x js ob).2.2, j ∈ js) := by
  cases m with
  | p l =>
    cases js with
    | nil => exact h.elim
    | cons j js => exact ⟨fun _ => ⟨j, js, rfl, h.1.1, h.1.2⟩, h.2, fun i hi => List.mem_cons_of_mem _ hi⟩
  | _ => exact ⟨fun e => (by cases e), h, fun j hj => hj⟩
theorem yan {m : Md} {ms : List Md} {v : Value} {vs : List Value} : nonP (m :: ms) (v :: vs) = (if isP m then [] else [v]) ++ nonP ms vs := by
  cases m <;> rfl
theorem yhj : ∀ {l : List Md} {x : Pr Md.T l} {f : Fz} {N : Nm} {ob : List Ob} {L : List Ent} {w0 w : World} {vs : List Value} {es : List Ent} {js : List Nat}, MLR f l x vs es → OLR f N ob L → Nb N ob → Cw w0 f (es ++ L) w → JsR N ob l vs js →
    ∃ N' L', Laid f N ob L w0 w js [] (back l x js ob).1 (nonP l vs) (back l x js ob).2 N' L'
  | [], x, f, N, ob, L, w0, w, vs, es, js, h, hO, hn, hC, hj => by
    obtain ⟨rfl, rfl⟩ := h
    exact ⟨N, L, .refl N, hn, hO, hC, trivial, by simp [back], Nat.le_refl _, .refl⟩
  | [m], x, f, N, ob, L, w0, w, vs, es, js, h, hO, hn, hC, hj => by
    obtain ⟨v, rfl, h2⟩ := h
    obtain ⟨N', L', H⟩ := ydi (X := []) h2 hO hn hC (hj.one (x := x)).1
    refine ⟨N', L', ?_⟩
    rw [yan]
    have : nonP [] ([] : List Value) = [] := rfl
    rw [this, List.append_nil]
    exact H
  | m :: n :: r, x, f, N, ob, L, w0, w, vs, es, js, h, hO, hn, hC, hj => by
    obtain ⟨v, vs', e1, e2, rfl, rfl, h3, h4⟩ := h
    obtain ⟨j1, j2, j3⟩ := hj.one (x := x.1)
    rw [List.append_assoc] at hC
    obtain ⟨N1, L1, H1⟩ := ydi h3 hO hn hC j1
    obtain ⟨N2, L2, H2⟩ := yhj (js := (back1 m x.1 js ob).2.2) h4 H1.ol H1.nb H1.cw (j2.le H1.le H1.len)
    refine ⟨N2, L2, H1.le.trans H2.le, H2.nb, H2.ol, H2.cw, ?_, fun u hu => ?_, Nat.le_trans H1.len H2.len, H1.bk.trans H1.len (H2.bk.mono j3)⟩
    · rw [yan]
      exact VLR.app (H1.vr.le (.refl f) H2.le) H2.vr
    · rcases List.mem_append.1 hu with hu | hu
      · exact H1.nt u hu
      · exact H2.nt u hu
end Go.V
