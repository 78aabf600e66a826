/-
  Walks and laws of this seat.
-/
import Derived.Test.YtdjjeahiomackaaGreatVF
namespace Go.V
set_option linter.unusedVariables false
set_option linter.unusedSimpArgs false
set_option linter.unusedSectionVars false
open Go.RowKit Go.Sl
variable [F0]
def Bc.R (f : Fz) : (b : Bc) → b.T → List Value → List Ent → Prop
  | .d c, x, vs, es => c.R f vs x ∧ es = []
  | .o e c, xs, vs, es => ∃ v rows, vs = [v] ∧ v.oneCell' = true ∧ es = [.row v e c.k rows] ∧ RW c.ty f rows xs
  | .q e c z, x, vs, es => ∃ b v rows ws t, vs = [.pointer (some ⟨b,0, none⟩)] ∧ v.oneCell' = true ∧ es = [.row v e c.k rows, .blk b (.cells (List.toArray (v :: ws)) t)] ∧ RW c.ty f rows x.1 ∧ z.R f ws x.2
def BLR (f : Fz) : (l : List Bc) → Pr Bc.T l → List Value → List Ent → Prop
  | [], _, vs, es => vs = [] ∧ es = []
  | [b], x, vs, es => b.R f x vs es
  | b :: c :: r, x, vs, es => ∃ v1 v2 e1 e2, vs = v1 ++ v2 ∧ es = e1 ++ e2 ∧ b.R f x.1 v1 e1 ∧ BLR f (c :: r) x.2 v2 e2
def BxR (f : Fz) (c : TC) (x : c.T) (v : Value) : Prop := ∃ b vs t, v = .pointer (some ⟨b,0, none⟩) ∧ f b = some (.cells (List.toArray vs) t) ∧ c.R f vs x
def CapR (f : Fz) : (cs : List TC) → Pr TC.T cs → List Value → Prop
  | [], _, vs => vs = []
  | [c], x, vs => ∃ v, vs = [v] ∧ BxR f c x v
  | c :: d :: r, x, vs => ∃ v vs', vs = v :: vs' ∧ BxR f c x.1 v ∧ CapR f (d :: r) x.2 vs'
theorem BxR.le {f f' : Fz} (hf : Fz.le f f') {c : TC} {x : c.T} {v : Value} (h : BxR f c x v) : BxR f' c x v := by
  obtain ⟨b, vs, t, h1, h2, h3⟩ := h
  exact ⟨b, vs, t, h1, hf _ _ h2, c.mono h3 hf⟩
theorem CapR.le {f f' : Fz} (hf : Fz.le f f') : ∀ {cs : List TC} {x : Pr TC.T cs} {vs : List Value}, CapR f cs x vs → CapR f' cs x vs
  | [], _, _, h => h
  | [_], _, _, h => by obtain ⟨v, h1, h2⟩ := h; exact ⟨v, h1, h2.le hf⟩
  | _ :: _ :: _, _, _, h => by obtain ⟨v, vs, h1, h2, h3⟩ := h; exact ⟨v, vs, h1, h2.le hf, CapR.le hf h3⟩
def Md.R (f : Fz) : (m : Md) → m.T → Value → List Ent → Prop
  | .d c, x, v, es => VR f (fun _ => none) (c.v x) v ∧ es = []
  | .o e c, xs, v, es => ∃ rows, v.oneCell' = true ∧ es = [.row v e c.k rows] ∧ RW c.ty f rows xs
  | .p l, x, v, es => ∃ b vs t e1, v = .pointer (some ⟨b,0, none⟩) ∧ es = e1 ++ [.blk b (.cells (List.toArray vs) t)] ∧ BLR f l x vs e1
  | .g, x, v, es => ∃ b, v = .pointer (some ⟨b,0, none⟩) ∧ es = [.blk b (.stringIter x.1 x.2)]
  | .q c, x, v, es => CR f (fun _ => none) (.fp c x 0) v ∧ es = []
  | .b c, x, v, es => BxR f c x v ∧ es = [ph]
  | .m h cs, x, v, es => (∃ b vs t cv, v = .pointer (some ⟨b,0, none⟩) ∧ f b = some (.cells #[cv] t) ∧ cv = .func (.func h) #[] (List.toArray (vs ++ [.pointer (some ⟨b,0, none⟩)])) ∧ CapR f cs x vs) ∧ es = List.replicate (cs.length + 1) ph
  | .f h, _, v, es => v = .func (.func h) #[] #[] ∧ es = []
  | .w l, x, v, es => ∃ b vs t e1, v = .pointer (some ⟨b,0, none⟩) ∧ es = e1 ++ [.blk b (.cells (List.toArray vs) t)] ∧ BLR f l x vs e1
def MLR (f : Fz) : (l : List Md) → Pr Md.T l → List Value → List Ent → Prop
  | [], _, vs, es => vs = [] ∧ es = []
  | [m], x, vs, es => ∃ v, vs = [v] ∧ m.R f x v es
  | m :: n :: r, x, vs, es => ∃ v vs' e1 e2, vs = v :: vs' ∧ es = e1 ++ e2 ∧ m.R f x.1 v e1 ∧ MLR f (n :: r) x.2 vs' e2
theorem dataN {f : Fz} {N M : Nm} {c : TC} {x : c.T} {v : Value} (h : VR f N (c.v x) v) : VR f M (c.v x) v := TC.vR.2 (TC.vR.1 h)
theorem Bc.R.le {f f' : Fz} (hf : Fz.le f f') {b : Bc} {x : b.T} {vs : List Value} {es : List Ent} (h : b.R f x vs es) : b.R f' x vs es := by
  cases b with
  | d c => exact ⟨c.mono h.1 hf, h.2⟩
  | o e c => obtain ⟨v, rows, h1, h2, h3, h4⟩ := h; exact ⟨v, rows, h1, h2, h3, h4.le hf⟩
  | q e c d => obtain ⟨b, v, rows, ws, t, h1, h2, h3, h4, h5⟩ := h; exact ⟨b, v, rows, ws, t, h1, h2, h3, h4.le hf, d.mono h5 hf⟩
theorem BLR.le {f f' : Fz} (hf : Fz.le f f') : ∀ {l : List Bc} {x : Pr Bc.T l} {vs : List Value} {es : List Ent}, BLR f l x vs es → BLR f' l x vs es
  | [], _, _, _, h => h
  | [b], _, _, _, h => Bc.R.le (b := b) hf h
  | b :: c :: r, _, _, _, h => by
    obtain ⟨v1, v2, e1, e2, h1, h2, h3, h4⟩ := h
    exact ⟨v1, v2, e1, e2, h1, h2, h3.le hf, BLR.le hf h4⟩
theorem Md.R.le {f f' : Fz} (hf : Fz.le f f') {m : Md} {x : m.T} {v : Value} {es : List Ent} (h : m.R f x v es) : m.R f' x v es := by
  cases m with
  | d c => exact ⟨VR.le hf (.refl _) h.1, h.2⟩
  | o e c => obtain ⟨rows, h1, h2, h3⟩ := h; exact ⟨rows, h1, h2, h3.le hf⟩
  | p l => obtain ⟨b, vs, t, e1, h1, h2, h3⟩ := h; exact ⟨b, vs, t, e1, h1, h2, h3.le hf⟩
  | g => exact h
  | q c => exact ⟨CR.le hf (.refl _) h.1, h.2⟩
  | b c => exact ⟨h.1.le hf, h.2⟩
  | m g cs => obtain ⟨⟨b, vs, t, cv, h1, h2, h3, h4⟩, h5⟩ := h; exact ⟨⟨b, vs, t, cv, h1, hf _ _ h2, h3, h4.le hf⟩, h5⟩
  | f g => exact h
  | w l => obtain ⟨b, vs, t, e1, h1, h2, h3⟩ := h; exact ⟨b, vs, t, e1, h1, h2, h3.le hf⟩
structure Up (f : Fz) (N : Nm) (ob : List Ob) (L : List Ent) (N' : Nm) (ob' : List Ob) (L' : List Ent) : Prop where
  le : Nm.le N N'
  nb : Nb N' ob'
  ol : OLR f N' ob' L'
  fm : Fm ob L ob' L'
theorem Up.refl {f : Fz} {N : Nm} {ob : List Ob} {L : List Ent} (h : OLR f N ob L) (hn : Nb N ob) : Up f N ob L N ob L := ⟨.refl N, hn, h, .refl _ _⟩
theorem Up.trans {f : Fz} {N N1 N2 : Nm} {ob ob1 ob2 : List Ob} {L L1 L2 : List Ent} (h : Up f N ob L N1 ob1 L1) (g : Up f N1 ob1 L1 N2 ob2 L2) : Up f N ob L N2 ob2 L2 := ⟨h.le.trans g.le, g.nb, g.ol, h.fm.trans g.fm⟩
theorem Up.push {f : Fz} {N : Nm} {ob : List Ob} {L : List Ent} {x : Ob} {e : Ent} {v : Value} (h : OLR f N ob L) (hn : Nb N ob) (hx : ∀ M, Nm.le N M → M ob.length = some v → OR f M ob.length x e) : Up f N ob L (nset N ob.length v) (x :: ob) (e :: L) := by
  have hl := nset_le (v := v) (hn ob.length (Nat.le_refl _))
  exact ⟨hl, hn.push, ⟨hx _ hl zd6, h.le (.refl f) hl⟩, .push⟩
section
variable {f : Fz} {N : Nm} {ob : List Ob} {L : List Ent}
theorem Bc.enc_ok {b : Bc} {x : b.T} {vs : List Value} {es : List Ent} (h : b.R f x vs es) (hO : OLR f N ob L) (hn : Nb N ob) : ∃ N', Up f N ob L N' (b.enc x ob).2 (es.reverse ++ L) ∧ CLR f N' (b.enc x ob).1 vs := by
  cases b with
  | d c =>
    obtain ⟨h1, rfl⟩ := h
    exact ⟨N, .refl hO hn,(TC.lvR c).1 h1⟩
  | o e c =>
    obtain ⟨v, rows, rfl, h2, rfl, h4⟩ := h
    exact ⟨_, .push (v := v) hO hn fun M hM hv => ⟨v, rows, hv, rfl, h4⟩, ⟨zd6, h2⟩, trivial⟩
  | q e c d =>
    obtain ⟨b, v, rows, ws, t, rfl, h2, rfl, h4, h5⟩ := h
    have u1 := Up.push (x := .ow e c x.1) (e := .row v e c.k rows) (v := v) hO hn fun M hM hv => ⟨v, rows, hv, rfl, h4⟩
    have u2 := Up.push (x := .bx (.os ob.length :: d.lv x.2)) (e := .blk b (.cells (List.toArray (v :: ws)) t)) (v := .pointer (some ⟨b,0, none⟩)) u1.ol u1.nb fun M hM hv => ⟨b, v :: ws, t, hv, rfl, ⟨hM _ _ zd6, h2⟩, (TC.lvR d).1 h5⟩
    exact ⟨_, u1.trans u2, ⟨b, zd6, rfl⟩, trivial⟩
theorem zpz : ∀ {l : List Bc} {x : Pr Bc.T l} {vs : List Value} {es : List Ent} {N : Nm} {ob : List Ob} {L : List Ent}, BLR f l x vs es → OLR f N ob L → Nb N ob → ∃ N', Up f N ob L N' (encB l x ob).2 (es.reverse ++ L) ∧ CLR f N' (encB l x ob).1 vs
  | [], x, vs, es, N, ob, L, h, hO, hn => by obtain ⟨rfl, rfl⟩ := h; exact ⟨N, .refl hO hn, trivial⟩
  | [b], x, vs, es, N, ob, L, h, hO, hn => Bc.enc_ok (b := b) h hO hn
  | b :: c :: r, x, vs, es, N, ob, L, h, hO, hn => by
    obtain ⟨v1, v2, e1, e2, rfl, rfl, h3, h4⟩ := h
    obtain ⟨N1, u1, k1⟩ := Bc.enc_ok h3 hO hn
    obtain ⟨N2, u2, k2⟩ := zpz h4 u1.ol u1.nb
    refine ⟨N2, ?_,(k1.le (.refl f) u2.le).app k2⟩
    rw [List.reverse_append, List.append_assoc]
    exact u1.trans u2
theorem zvq : ∀ {cs : List TC} {x : Pr TC.T cs} {vs : List Value} {N : Nm} {ob : List Ob} {L : List Ent}, CapR f cs x vs → OLR f N ob L → Nb N ob → ∃ N', Up f N ob L N' (encM cs x ob).2 (List.replicate cs.length ph ++ L) ∧ CLR f N' (encM cs x ob).1 vs
  | [], x, vs, N, ob, L, h, hO, hn => by obtain rfl := (h : vs = []); exact ⟨N, .refl hO hn, trivial⟩
  | [c], x, vs, N, ob, L, h, hO, hn => by
    obtain ⟨v, rfl, b, ws, t, rfl, h2, h3⟩ := h
    exact ⟨_, .push (v := .pointer (some ⟨b,0, none⟩)) hO hn fun M hM hv => ⟨b, ws, t, hv, h2,(TC.lvR c).1 h3⟩, ⟨b, zd6, rfl⟩, trivial⟩
  | c :: d :: r, x, vs, N, ob, L, h, hO, hn => by
    obtain ⟨v, vs', rfl, ⟨b, ws, t, rfl, h2, h3⟩, h4⟩ := h
    have u1 := Up.push (x := .fb (c.lv x.1)) (e := ph) (v := .pointer (some ⟨b,0, none⟩)) hO hn fun M hM hv => ⟨b, ws, t, hv, h2,(TC.lvR c).1 h3⟩
    obtain ⟨N2, u2, k2⟩ := zvq (cs := d :: r) h4 u1.ol u1.nb
    refine ⟨N2, ?_, ⟨b, u2.le _ _ zd6, rfl⟩, k2⟩
    have e : List.replicate (c :: d :: r).length ph ++ L = List.replicate (d :: r).length ph ++ (ph :: L) := by
      rw [List.length_cons, List.replicate_succ', List.append_assoc]; rfl
    rw [e]
    exact u1.trans u2
theorem Md.enc_ok {m : Md} {x : m.T} {v : Value} {es : List Ent} (h : m.R f x v es) (hO : OLR f N ob L) (hn : Nb N ob) : ∃ N', Up f N ob L N' (m.enc x ob).2 (es.reverse ++ L) ∧ VR f N' (m.enc x ob).1 v := by
  cases m with
  | d c =>
    obtain ⟨h1, rfl⟩ := h
    exact ⟨N, .refl hO hn, dataN h1⟩
  | o e c =>
    obtain ⟨rows, h2, rfl, h4⟩ := h
    exact ⟨_, .push (v := v) hO hn fun M hM hv => ⟨v, rows, hv, rfl, h4⟩, zd6, h2⟩
  | p l =>
    obtain ⟨b, vs, t, e1, rfl, rfl, h3⟩ := h
    obtain ⟨N1, u1, k1⟩ := zpz h3 hO hn
    refine ⟨nset N1 (encB l x ob).2.length (.pointer (some ⟨b,0, none⟩)), ?_, b, zd6, rfl⟩
    rw [List.reverse_append]
    exact u1.trans (.push (v := .pointer (some ⟨b,0, none⟩)) u1.ol u1.nb fun M hM hv => ⟨b, vs, t, hv, rfl, k1.le (.refl f) hM⟩)
  | g =>
    obtain ⟨b, rfl, rfl⟩ := h
    exact ⟨_, .push (v := .pointer (some ⟨b,0, none⟩)) hO hn fun M hM hv => ⟨b, hv, rfl⟩, zd6, b, rfl⟩
  | q c =>
    obtain ⟨h1, rfl⟩ := h
    exact ⟨N, .refl hO hn, h1⟩
  | b c =>
    obtain ⟨⟨b, vs, t, rfl, h2, h3⟩, rfl⟩ := h
    exact ⟨_, .push (v := .pointer (some ⟨b,0, none⟩)) hO hn fun M hM hv => ⟨b, vs, t, hv, h2,(TC.lvR c).1 h3⟩, b, zd6, rfl⟩
  | m g cs =>
    obtain ⟨⟨b, vs, t, cv, rfl, h2, h3, h4⟩, rfl⟩ := h
    obtain ⟨N1, u1, k1⟩ := zvq h4 hO hn
    refine ⟨nset N1 (encM cs x ob).2.length (.pointer (some ⟨b,0, none⟩)), ?_, zd6, b, rfl⟩
    rw [List.reverse_replicate, List.replicate_succ]
    exact u1.trans (.push (v := .pointer (some ⟨b,0, none⟩)) u1.ol u1.nb fun M hM hv => ⟨b, vs, t, cv, hv, h2, h3, k1.le (.refl f) hM⟩)
  | f g =>
    obtain ⟨rfl, rfl⟩ := h
    exact ⟨N, .refl hO hn, rfl⟩
  | w l =>
    obtain ⟨b, vs, t, e1, rfl, rfl, h3⟩ := h
    obtain ⟨N1, u1, k1⟩ := zpz h3 hO hn
    refine ⟨nset N1 (encB l x ob).2.length (.pointer (some ⟨b,0, none⟩)), ?_, b, zd6, rfl⟩
    rw [List.reverse_append]
    exact u1.trans (.push (v := .pointer (some ⟨b,0, none⟩)) u1.ol u1.nb fun M hM hv => ⟨b, vs, t, hv, rfl, k1.le (.refl f) hM⟩)
theorem zsi : ∀ {l : List Md} {x : Pr Md.T l} {vs : List Value} {es : List Ent} {N : Nm} {ob : List Ob} {L : List Ent}, MLR f l x vs es → OLR f N ob L → Nb N ob → ∃ N', Up f N ob L N' (encL l x ob).2 (es.reverse ++ L) ∧ VLR f N' (encL l x ob).1 vs
  | [], x, vs, es, N, ob, L, h, hO, hn => by obtain ⟨rfl, rfl⟩ := h; exact ⟨N, .refl hO hn, trivial⟩
  | [m], x, vs, es, N, ob, L, h, hO, hn => by
    obtain ⟨v, rfl, h2⟩ := h
    obtain ⟨N1, u1, k1⟩ := Md.enc_ok h2 hO hn
    exact ⟨N1, u1, k1, trivial⟩
  | m :: n :: r, x, vs, es, N, ob, L, h, hO, hn => by
    obtain ⟨v, vs', e1, e2, rfl, rfl, h3, h4⟩ := h
    obtain ⟨N1, u1, k1⟩ := Md.enc_ok h3 hO hn
    obtain ⟨N2, u2, k2⟩ := zsi h4 u1.ol u1.nb
    refine ⟨N2, ?_, k1.le (.refl f) u2.le, k2⟩
    rw [List.reverse_append, List.append_assoc]
    exact u1.trans u2
end
def Sel (ob ob' : List Ob) (L' : List Ent) (es : List Ent) : Prop := ∃ js : List (Option Nat), js.length = es.length ∧
  (∀ (p : Nat) e, es[p]? = some e → e.key = none ∨ ∃ j, js[p]? = some (some j) ∧ L'[ob'.length - 1 - j]? = some e) ∧
  (∀ (p q j : Nat), js[p]? = some (some j) → js[q]? = some (some j) → p = q) ∧
  (∀ (p j : Nat), js[p]? = some (some j) → j < ob.length ∧ og ob j ≠ some .no ∧ og ob' j = some .no)
theorem Sel.nil {ob ob' : List Ob} {L' : List Ent} : Sel ob ob' L' [] := ⟨[], rfl, by simp, by simp, by simp⟩
theorem Sel.app {ob ob1 ob2 : List Ob} {L L1 L2 : List Ent} {e1 e2 : List Ent} (h : Sel ob ob1 L1 e1) (hl : ob1.length = ob.length) (h0 : Fm ob L ob1 L1) (hf : Fm ob1 L1 ob2 L2) (g : Sel ob1 ob2 L2 e2) : Sel ob ob2 L2 (e1 ++ e2) := by
  obtain ⟨js, a1, a2, a3, a4⟩ := h
  obtain ⟨ks, b1, b2, b3, b4⟩ := g
  refine ⟨js ++ ks, by simp [a1, b1], fun p e hp => ?_, fun p q j hp hq => ?_, fun p j hp => ?_⟩
  · rw [List.getElem?_append] at hp
    split at hp
    · rename_i hlt
      rcases a2 p e hp with h1 | ⟨j, h1, h2⟩
      · exact .inl h1
      · refine .inr ⟨j, by rw [List.getElem?_append_left (by omega)]; exact h1, ?_⟩
        rw [(hf.1 j (a4 p j h1).2.2).2]; exact h2
    · rename_i hge
      rcases b2 _ e hp with h1 | ⟨j, h1, h2⟩
      · exact .inl h1
      · exact .inr ⟨j, by rw [List.getElem?_append_right (by omega), a1]; exact h1, h2⟩
  · rw [List.getElem?_append] at hp hq
    split at hp <;> split at hq
    · exact a3 p q j hp hq
    · exact absurd (a4 p j hp).2.2 (b4 _ j hq).2.1
    · exact absurd (a4 q j hq).2.2 (b4 _ j hp).2.1
    · have := b3 _ _ j hp hq; omega
  · rw [List.getElem?_append] at hp
    split at hp
    · obtain ⟨c1, c2, c3⟩ := a4 p j hp
      exact ⟨c1, c2,(hf.1 j c3).1⟩
    · obtain ⟨c1, c2, c3⟩ := b4 _ j hp
      exact ⟨by omega, fun e => c2 (h0.1 j e).1, c3⟩
structure Tk (f : Fz) (N : Nm) (ob : List Ob) (L : List Ent) (w0 w : World) (f' : Fz) (ob' : List Ob) (L' : List Ent) (es : List Ent) : Prop where
  mv : Mv f N ob L w0 w f' ob' L'
  sel : Sel ob ob' L' es
  nil : ∀ e ∈ es, e.key = none → e.holds w
theorem Tk.of {f f' : Fz} {N : Nm} {ob ob' : List Ob} {L L' : List Ent} {w0 w : World} (h : Mv f N ob L w0 w f' ob' L') : Tk f N ob L w0 w f' ob' L' [] := ⟨h, .nil, by simp⟩
theorem Tk.trans {f f1 f2 : Fz} {N : Nm} {ob ob1 ob2 : List Ob} {L L1 L2 : List Ent} {w0 w : World} {e1 e2 : List Ent} (h : Tk f N ob L w0 w f1 ob1 L1 e1) (g : Tk f1 N ob1 L1 w0 w f2 ob2 L2 e2) : Tk f N ob L w0 w f2 ob2 L2 (e1 ++ e2) :=
  ⟨h.mv.trans g.mv, h.sel.app h.mv.len h.mv.fm g.mv.fm g.sel, fun e he => by
    rcases List.mem_append.1 he with he | he
    · exact h.nil e he
    · exact g.nil e he⟩
theorem Sel.perm {ob ob' : List Ob} {L' : List Ent} {e : Ent} {es : List Ent} (h : Sel ob ob' L' ([e] ++ es)) : Sel ob ob' L' (es ++ [e]) := by
  obtain ⟨js, a1, a2, a3, a4⟩ := h
  have hl : js.length = es.length + 1 := by simpa using a1
  cases js with
  | nil => simp at hl
  | cons j0 js =>
    have hl : js.length = es.length := by simpa using hl
    have hget : ∀ p,(js ++ [j0])[p]? = if p = es.length then some j0 else if p < es.length then (j0 :: js)[p + 1]? else none := fun p => by
      rw [List.getElem?_append]
      by_cases h1 : p < es.length
      · rw [if_pos (by omega), if_neg (by omega), if_pos h1]; simp
      · rw [if_neg (by omega)]
        by_cases h2 : p = es.length
        · rw [if_pos h2, hl, h2]; simp
        · rw [if_neg h2, if_neg h1, hl]; simp; omega
    refine ⟨js ++ [j0], by simp [hl], fun p x hp => ?_, fun p q j hp hq => ?_, fun p j hp => ?_⟩
    · rw [hget]
      rw [List.getElem?_append] at hp
      split at hp
      · rename_i hlt
        rw [if_neg (by omega), if_pos hlt]
        exact a2 (p + 1) x (by simpa using hp)
      · rename_i hge
        have : p = es.length := by
          have := (List.getElem?_eq_some_iff.1 hp).1
          simp at this; omega
        subst this
        rw [if_pos rfl]
        simp at hp
        exact a2 0 x (by simpa using hp)
    · rw [hget] at hp hq
      split at hp <;> split at hq
      · omega
      · split at hq
        · have := a3 0 (q + 1) j (by simpa using hp) hq; omega
        · cases hq
      · split at hp
        · have := a3 (p + 1) 0 j hp (by simpa using hq); omega
        · cases hp
      · split at hp <;> split at hq
        · have := a3 _ _ j hp hq; omega
        · cases hq
        · cases hp
        · cases hp
    · rw [hget] at hp
      split at hp
      · exact a4 0 j (by simpa using hp)
      · split at hp
        · exact a4 _ j hp
        · cases hp
theorem Tk.perm {f f' : Fz} {N : Nm} {ob ob' : List Ob} {L L' : List Ent} {w0 w : World} {e : Ent} {es : List Ent} (h : Tk f N ob L w0 w f' ob' L' ([e] ++ es)) : Tk f N ob L w0 w f' ob' L' (es ++ [e]) :=
  ⟨h.mv, h.sel.perm, fun x hx => h.nil x (by simp at hx ⊢; exact hx.symm)⟩
theorem Sel.one {ob : List Ob} {L : List Ent} {j : Nat} {x : Ob} {e : Ent} (h : og ob j = some x) (hx : x ≠ .no) (he : L[ob.length - 1 - j]? = some e) : Sel ob (oset ob j .no) L [e] := by
  have hlt := zky h
  refine ⟨[some j], rfl, fun p e' hp => ?_, fun p q j' hp hq => ?_, fun p j' hp => ?_⟩
  · cases p with
    | zero => simp at hp; subst hp; exact .inr ⟨j, rfl, by rw [zao]; exact he⟩
    | succ p => simp at hp
  · cases p <;> cases q <;> simp at hp hq ⊢
  · cases p with
    | zero => simp at hp; subst hp; exact ⟨hlt, by rw [h]; simpa using hx, zpp hlt⟩
    | succ p => simp at hp
variable {α : Type} {r : α}
theorem noNil (w : World) (e : TypeId) (k : Nat) : (Ent.row (.slice none 0 0) e k []).holds w := ⟨World.ownsRow_nil w 0 e k, by simp⟩
theorem zsm {e : TypeId} {c' : TC} {x : C} {ob : List Ob} {K : List c'.T → List Ob → Option α} (h : decO e c' x ob K = some r) : ∃ xs ob', K xs ob' = some r ∧ ∀ (f : Fz) (N : Nm) (L : List Ent) (w0 w : World), OLR f N ob L → Cw w0 f L w → ∀ v, CR f N x v →
    ∃ rows, v.oneCell' = true ∧ Tk f N ob L w0 w f ob' L [.row v e c'.k rows] ∧ RW c'.ty f rows xs := by
  unfold decO at h
  split at h
  · rename_i j
    obtain ⟨y, h1, h2⟩ := zaa h
    split at h2
    · rename_i e' c xs
      obtain ⟨he, h3⟩ := zb0 h2
      have he := Nat.eq_of_beq_eq_true he
      obtain ⟨ec, h4⟩ := ziq h3
      subst ec
      subst he
      refine ⟨_, _, h4, fun f N L w0 w hO hC v hv => ?_⟩
      obtain ⟨hlt, en, k1, v0, rows, k2, k3, k4⟩ := hO.get h1
      subst k3
      obtain ⟨hv1, hv2⟩ := hv
      rw [k2] at hv1
      cases hv1
      refine ⟨rows, hv2, ⟨⟨.refl f, hO.say fun _ _ => trivial, hC, zao _ _ _, .say h1 (by simp)⟩, Sel.one h1 (by simp) k1, fun en he hk => ?_⟩, k4⟩
      simp at he
      subst he
      exact hC.live _ (List.mem_of_getElem? k1)
    · cases h2
  · refine ⟨[], ob, h, fun f N L w0 w hO hC v hv => ?_⟩
    have hv : v = .slice none 0 0 := hv
    subst hv
    refine ⟨[], rfl, ⟨.refl hO hC, ⟨[none], rfl, fun p e' hp => ?_, fun p q j hp hq => ?_, fun p j hp => ?_⟩, fun en he hk => ?_⟩, trivial⟩
    · cases p with
      | zero => simp at hp; subst hp; exact .inl rfl
      | succ p => simp at hp
    · cases p <;> simp at hp
    · cases p <;> simp at hp
    · simp at he
      subst he
      exact noNil w e c'.k
  · cases h
theorem Bc.dec_ok {b : Bc} {cs : List C} {ob : List Ob} {K : b.T → List C → List Ob → Option α} (h : b.dec cs ob K = some r) : ∃ x a cs' ob', cs = a ++ cs' ∧ K x cs' ob' = some r ∧ ∀ (f : Fz) (N : Nm) (L : List Ent) (w0 w : World), OLR f N ob L → Cw w0 f L w → ∀ vs, CLR f N a vs →
    ∃ f' L' es, b.R f' x vs es ∧ Tk f N ob L w0 w f' ob' L' es := by
  cases b with
  | d c =>
    obtain ⟨cs1, ob1, h1, H⟩ := zjy (h : frz ob (cs.take c.k) _ = some r)
    obtain ⟨x, h2, _, hx⟩ := TC.mkA_inv h1
    refine ⟨x, cs.take c.k, cs.drop c.k, ob1, by simp, h2, fun f N L w0 w hO hC vs hv => ?_⟩
    obtain ⟨f', L', m, hvs⟩ := H f N L w0 w hO hC
    exact ⟨f', L', [], ⟨hx f' N vs (hvs vs hv), rfl⟩, .of m⟩
  | o e c =>
    cases cs with
    | nil => cases h
    | cons y cs =>
      obtain ⟨xs, ob1, h1, H⟩ := zsm (h : decO e c y ob _ = some r)
      refine ⟨xs,[y], cs, ob1, rfl, h1, fun f N L w0 w hO hC vs hv => ?_⟩
      match vs, hv with
      | [v], ⟨hv, _⟩ =>
        obtain ⟨rows, k1, k2, k3⟩ := H f N L w0 w hO hC v hv
        exact ⟨f, L, _, ⟨v, rows, rfl, k1, rfl, k3⟩, k2⟩
  | q e c d =>
    simp only [Bc.dec] at h
    split at h
    · rename_i j cs
      obtain ⟨y, h1, h2⟩ := zaa h
      split at h2
      · rename_i z zs
        obtain ⟨xs, ob1, h3, H⟩ := zsm h2
        obtain ⟨zs1, ob2, h4, H2⟩ := zjy h3
        obtain ⟨y, h5, _, hy⟩ := TC.mkA_inv h4
        refine ⟨(xs, y),[.bp j 0], cs, ob2, rfl, h5, fun f N L w0 w hO hC vs hv => ?_⟩
        match vs, hv with
        | [v], ⟨hv, _⟩ =>
          obtain ⟨b, g1, rfl⟩ := hv
          obtain ⟨hlt, en, g2, b', ws, t, g3, rfl, g4⟩ := hO.get h1
          rw [g1] at g3
          cases g3
          match ws, g4 with
          | v :: ws, ⟨g5, g6⟩ =>
            have m0 : Mv f N ob L w0 w f (oset ob j .no) L := ⟨.refl f, hO.say fun _ _ => trivial, hC, zao _ _ _, .say h1 (by simp)⟩
            have t0 : Tk f N ob L w0 w f (oset ob j .no) L [.blk b (.cells (List.toArray (v :: ws)) t)] := ⟨m0, Sel.one h1 (by simp) g2, fun en he hk => by simp at he; subst he; cases hk⟩
            obtain ⟨rows, k1, k2, k3⟩ := H f N L w0 w m0.ol hC v g5
            obtain ⟨f2, L2, m2, hvs⟩ := H2 f N L w0 w k2.mv.ol k2.mv.cw
            have t1 := (t0.trans k2).perm
            exact ⟨f2, L2, _, ⟨b, v, rows, ws, t, rfl, k1, rfl, k3.le m2.le, hy f2 N ws (hvs ws g6)⟩, t1.trans (.of m2)⟩
      · cases h2
    · cases h
theorem zvv : ∀ {l : List Bc} {cs : List C} {ob : List Ob} {K : Pr Bc.T l → List Ob → Option α}, decB l cs ob K = some r → ∃ x ob', K x ob' = some r ∧ ∀ (f : Fz) (N : Nm) (L : List Ent) (w0 w : World), OLR f N ob L → Cw w0 f L w → ∀ vs, CLR f N cs vs →
    ∃ f' L' es, BLR f' l x vs es ∧ Tk f N ob L w0 w f' ob' L' es
  | [], cs, ob, K, h => by
    cases cs with
    | cons _ _ => cases h
    | nil => exact ⟨(), ob, h, fun f N L w0 w hO hC vs hv => ⟨f, L,[], ⟨by cases vs with | nil => rfl | cons _ _ => exact hv.elim, rfl⟩, .of (.refl hO hC)⟩⟩
  | [b], cs, ob, K, h => by
    obtain ⟨x, a, cs', ob', h1, h2, H⟩ := Bc.dec_ok (h : b.dec cs ob _ = some r)
    cases cs' with
    | cons _ _ => cases h2
    | nil =>
      rw [List.append_nil] at h1
      subst h1
      exact ⟨x, ob', h2, H⟩
  | b :: c :: l, cs, ob, K, h => by
    obtain ⟨x, a, cs1, ob1, h1, h2, H⟩ := Bc.dec_ok (h : b.dec cs ob (fun x cs ob => decB (c :: l) cs ob fun y ob => K (x, y) ob) = some r)
    obtain ⟨y, ob2, h4, H2⟩ := zvv h2
    refine ⟨(x, y), ob2, h4, fun f N L w0 w hO hC vs hv => ?_⟩
    rw [h1] at hv
    obtain ⟨v1, v2, e, k1, k2⟩ := CLR.split hv
    obtain ⟨f1, L1, es1, g1, g2⟩ := H f N L w0 w hO hC v1 k1
    obtain ⟨f2, L2, es2, g3, g4⟩ := H2 f1 N L1 w0 w g2.mv.ol g2.mv.cw v2 (k2.le g2.mv.le (.refl N))
    exact ⟨f2, L2, es1 ++ es2, ⟨v1, v2, es1, es2, e, rfl, g1.le g4.mv.le, g3⟩, g2.trans g4⟩
theorem zuz {c : TC} {ob : List Ob} {x : C} {K : c.T → Option α} (h : ptrq c ob x K = some r) : ∃ y, K y = some r ∧ ∀ (f : Fz) (N : Nm) (L : List Ent), OLR f N ob L → ∀ v, CR f N x v → CR f N (.fp c y 0) v := by
  unfold ptrq at h
  split at h
  · rename_i c' x o
    obtain ⟨y, h1, hl, hy⟩ := TC.mkA_inv h
    refine ⟨y, h1, fun f N L hO v hv => ?_⟩
    obtain ⟨b, base, rw, rfl, h2, h3⟩ := hv
    refine ⟨b, base + o,(rw.drop o).take c.k, rfl, hy f N _ ((((TC.lvR (N := N) c').1 h2).drop o).take c.k), fun j u hj => ?_⟩
    rw [List.getElem?_take] at hj
    split at hj
    · rw [List.getElem?_drop] at hj
      rw [Nat.add_assoc]; exact h3 _ _ hj
    · cases hj
  · rename_i j o
    obtain ⟨y, h1, h2⟩ := zaa h
    split at h2
    · rename_i cs
      obtain ⟨y, h3, hl, hy⟩ := TC.mkA_inv h2
      refine ⟨y, h3, fun f N L hO v hv => ?_⟩
      obtain ⟨b, g1, rfl⟩ := hv
      obtain ⟨_, en, _, b', vs, t, g3, g4, g5⟩ := hO.get h1
      rw [g1] at g3
      cases g3
      refine ⟨b, o,(vs.drop o).take c.k, rfl, hy f N _ ((g5.drop o).take c.k), fun j u hj => ?_⟩
      rw [List.getElem?_take] at hj
      split at hj
      · rw [List.getElem?_drop] at hj
        exact .inl ⟨_, t,(0,0), g4, by simpa using hj⟩
      · cases hj
    · cases h2
  · cases h
theorem zw3 {c : TC} {ob : List Ob} {x : C} {K : c.T → Option α} (h : boxq c ob x K = some r) : ∃ y, K y = some r ∧ ∀ (f : Fz) (N : Nm) (L : List Ent), OLR f N ob L → ∀ v, CR f N x v → BxR f c y v := by
  unfold boxq at h
  split at h
  · rename_i j
    obtain ⟨y, h1, h2⟩ := zaa h
    split at h2
    · rename_i cs
      obtain ⟨y, h3, hl, hy⟩ := TC.mkA_inv h2
      refine ⟨y, h3, fun f N L hO v hv => ?_⟩
      obtain ⟨b, g1, rfl⟩ := hv
      obtain ⟨_, en, _, b', vs, t, g3, g4, g5⟩ := hO.get h1
      rw [g1] at g3
      cases g3
      exact ⟨b, vs, t, rfl, g4, hy f N _ g5⟩
    · cases h2
  · cases h
theorem zn6 {ob : List Ob} : ∀ {cs : List TC} {l : List C} {K : Pr TC.T cs → Option α}, capsq ob cs l K = some r → ∃ y, K y = some r ∧ ∀ (f : Fz) (N : Nm) (L : List Ent), OLR f N ob L → ∀ vs, CLR f N l vs → CapR f cs y vs
  | [], l, K, h => by
    cases l with
    | nil => exact ⟨(), h, fun f N L hO vs hv => by cases vs with | nil => rfl | cons _ _ => exact hv.elim⟩
    | cons _ _ => cases h
  | [c], l, K, h => by
    match l, h with
    | [], h => cases h
    | _ :: _ :: _, h => cases h
    | [x], h =>
      obtain ⟨y, h1, H⟩ := zw3 (h : boxq c ob x K = some r)
      refine ⟨y, h1, fun f N L hO vs hv => ?_⟩
      match vs, hv with
      | [v], ⟨hv, _⟩ => exact ⟨v, rfl, H f N L hO v hv⟩
  | c :: d :: cs, l, K, h => by
    cases l with
    | nil => cases h
    | cons x l =>
      obtain ⟨y, h1, H⟩ := zw3 (h : boxq c ob x (fun x => capsq ob (d :: cs) l fun y => K (x, y)) = some r)
      obtain ⟨z, h2, H2⟩ := zn6 h1
      refine ⟨(y, z), h2, fun f N L hO vs hv => ?_⟩
      match vs, hv with
      | v :: vs, ⟨hv, hvs⟩ => exact ⟨v, vs, rfl, H f N L hO v hv, H2 f N L hO vs hvs⟩
theorem zle {j : Nat} : ∀ {l : List C} {K : List C → Option α}, selfL j l K = some r → ∃ l', l = l' ++ [.bp j 0] ∧ K l' = some r
  | [], _, h => by simp [selfL] at h
  | c :: l, K, h => by
    unfold selfL at h
    split at h
    · rename_i i heq
      obtain ⟨h1, h2⟩ := zb0 h
      have := Nat.eq_of_beq_eq_true h1
      subst this
      exact ⟨[], by rw [heq]; rfl, h2⟩
    · rename_i c' l' _ heq
      cases heq
      obtain ⟨l', rfl, h2⟩ := zle h
      exact ⟨_ :: l', rfl, h2⟩
    · rename_i heq; cases heq
theorem Sel.phs {ob : List Ob} {L : List Ent} {ob' : List Ob} (n : Nat) : Sel ob ob' L (List.replicate n ph) := by
  have no : ∀ (p j : Nat),(List.replicate n (none : Option Nat))[p]? = some (some j) → False := fun p j hp => by
    have := List.eq_of_mem_replicate (List.mem_of_getElem? hp)
    cases this
  refine ⟨List.replicate n none, by simp, fun p e hp => ?_, fun p q j hp _ => (no p j hp).elim, fun p j hp => (no p j hp).elim⟩
  have := List.eq_of_mem_replicate (List.mem_of_getElem? hp)
  subst this
  exact .inl zil
theorem znl {w : World} {n : Nat} : ∀ e ∈ List.replicate n ph, e.key = none → e.holds w := fun e he _ => by
  rw [List.eq_of_mem_replicate he]; exact ph_holds
theorem Fm.over {ob ob1 : List Ob} {L L1 : List Ent} {j : Nat} {x y : Ob} {e : Ent} (h : Fm (oset ob j .no) L ob1 L1) (hj : og ob j = some x) (hx : x ≠ .no) (hl : ob1.length = ob.length) : Fm ob L (oset ob1 j y) (L1.set (ob1.length - 1 - j) e) := ⟨fun i hi => by
  have hne : i ≠ j := fun q => by rw [q, hj] at hi; exact hx (Option.some.inj hi)
  obtain ⟨a, b⟩ := h.1 i (by rw [zhj hne]; exact hi)
  have h1 := zky a
  have h2 := zky hj
  rw [zao] at b
  exact ⟨by rw [zhj hne]; exact a, by rw [zao, List.getElem?_set_ne (by omega)]; exact b⟩, by
  have h2 := zky hj
  have := h.2
  rw [zao] at this
  rw [zao, zkc (by omega), this]⟩
theorem zw4 {f : Fz} {N : Nm} {L : List Ent} {w0 w : World} {i b : Nat} {vs : List Value} {t : TypeId} (hC : Cw w0 f L w) (hi : L[i]? = some (.blk b (.cells vs.toArray t))) : ∃ f1, Fz.le f f1 ∧ Cw w0 f1 (L.set i ph) w ∧ f1 b = some (.cells vs.toArray t) := by
  obtain ⟨f1, q1, q2, q3, _⟩ := hC.freezeAt hi
  have hh : w.heap[b]? = _ := hC.live _ (List.mem_of_getElem? hi)
  exact ⟨f1, q1, Cw.gone q2, by rw [q3 b rfl, hh]⟩
theorem decM_ok {g : Nat} {cs : List TC} {v0 : V} {ob : List Ob} {K : Pr TC.T cs → List Ob → Option α} (h : decM g cs v0 ob K = some r) : ∃ x ob', K x ob' = some r ∧ ∀ (f : Fz) (N : Nm) (L : List Ent) (w0 w : World), OLR f N ob L → Cw w0 f L w → ∀ v, VR f N v0 v →
    ∃ f' L' es, Md.R f' (.m g cs) x v es ∧ Tk f N ob L w0 w f' ob' L' es := by
  unfold decM at h
  split at h
  · rename_i j
    obtain ⟨y, h1, h2⟩ := zaa h
    split at h2
    · rename_i g' l
      obtain ⟨hg, h3⟩ := zb0 h2
      have hg := Nat.eq_of_beq_eq_true hg
      subst hg
      obtain ⟨x, h4, H⟩ := zn6 h3
      refine ⟨x, ob, h4, fun f N L w0 w hO hC v hv => ?_⟩
      obtain ⟨g1, b, rfl⟩ := hv
      obtain ⟨_, en, _, b', vs, t, cv, g3, g4, g5, g6⟩ := hO.get h1
      rw [g1] at g3
      cases g3
      exact ⟨f, L, _, ⟨⟨b, vs, t, cv, rfl, g4, g5, H f N L hO vs g6⟩, rfl⟩, .refl hO hC, .phs _, znl⟩
    · cases h2
  · rename_i j
    obtain ⟨y, h1, h2⟩ := zaa h
    split at h2
    · rename_i g' l
      obtain ⟨hg, h3⟩ := zb0 h2
      have hg := Nat.eq_of_beq_eq_true hg
      subst hg
      obtain ⟨l', rfl, h4⟩ := zle h3
      obtain ⟨x, h5, H⟩ := zn6 h4
      refine ⟨x, _, h5, fun f N L w0 w hO hC v hv => ?_⟩
      obtain ⟨b, g1, rfl⟩ := hv
      obtain ⟨hlt, en, k1, b', vs, t, g3, rfl, g5⟩ := hO.get h1
      rw [g1] at g3
      cases g3
      match vs, g5 with
      | [cv], ⟨g5, _⟩ =>
        have g5' := g5
        obtain ⟨us, rfl, g6⟩ := g5
        obtain ⟨u1, u2, rfl, g7, g8⟩ := CLR.split g6
        match u2, g8 with
        | [u], ⟨⟨b2, g9, g10⟩, _⟩ =>
          rw [g1] at g9
          cases g9
          subst g10
          obtain ⟨f1, q1, q2, q3⟩ := zw4 (N := N) hC k1
          refine ⟨f1, _, _, ⟨⟨b, u1, t, _, rfl, q3, rfl,(H f N L hO u1 g7).le q1⟩, rfl⟩, ⟨q1,(hO.le q1 (.refl N)).put hlt ⟨b,[_], t, g1, q3, CR.le q1 (.refl N) g5', trivial⟩, q2, zao _ _ _, .set h1 (by simp)⟩, .phs _, znl⟩
    · rename_i g' l
      obtain ⟨hg, h3⟩ := zb0 h2
      have hg := Nat.eq_of_beq_eq_true hg
      subst hg
      obtain ⟨l', rfl, h4⟩ := zle h3
      obtain ⟨x, h5, H⟩ := zn6 h4
      refine ⟨x, _, h5, fun f N L w0 w hO hC v hv => ?_⟩
      obtain ⟨b, g1, rfl⟩ := hv
      obtain ⟨hlt, en, k1, b', vs, t, g3, g4, g5⟩ := hO.get h1
      rw [g1] at g3
      cases g3
      match vs, g5 with
      | [cv], ⟨g5, _⟩ =>
        obtain ⟨us, rfl, g6⟩ := g5
        obtain ⟨u1, u2, rfl, g7, g8⟩ := CLR.split g6
        match u2, g8 with
        | [u], ⟨⟨b2, g9, g10⟩, _⟩ =>
          rw [g1] at g9
          cases g9
          subst g10
          exact ⟨f, L, _, ⟨⟨b, u1, t, _, rfl, g4, rfl, H f N L hO u1 g7⟩, rfl⟩, .refl hO hC, .phs _, znl⟩
    · cases h2
  · cases h
theorem decQ_ok {c : TC} {v0 : V} {ob : List Ob} {K : c.T → List Ob → Option α} (h : decQ c v0 ob K = some r) : ∃ x ob', K x ob' = some r ∧ ∀ (f : Fz) (N : Nm) (L : List Ent) (w0 w : World), OLR f N ob L → Cw w0 f L w → ∀ v, VR f N v0 v →
    ∃ f' L' es, Md.R f' (.q c) x v es ∧ Tk f N ob L w0 w f' ob' L' es := by
  unfold decQ at h
  split at h
  · obtain ⟨y, h1, H⟩ := zuz h
    exact ⟨y, ob, h1, fun f N L w0 w hO hC v hv => ⟨f, L,[], ⟨H f N L hO v hv, rfl⟩, .of (.refl hO hC)⟩⟩
  · cases h
theorem decX_ok {c : TC} {v0 : V} {ob : List Ob} {K : c.T → List Ob → Option α} (h : decX c v0 ob K = some r) : ∃ x ob', K x ob' = some r ∧ ∀ (f : Fz) (N : Nm) (L : List Ent) (w0 w : World), OLR f N ob L → Cw w0 f L w → ∀ v, VR f N v0 v →
    ∃ f' L' es, Md.R f' (.b c) x v es ∧ Tk f N ob L w0 w f' ob' L' es := by
  unfold decX at h
  split at h
  · rename_i j
    obtain ⟨y, h1, h3⟩ := zaa h
    split at h3
    · rename_i cs
      obtain ⟨cs1, ob1, h4, HF⟩ := zjy h3
      obtain ⟨x, h5, hl, hx⟩ := TC.mkA_inv h4
      refine ⟨x, _, h5, fun f N L w0 w hO hC v hv => ?_⟩
      obtain ⟨b, g1, rfl⟩ := hv
      obtain ⟨hlt, en, k1, b', vs, t, g3, rfl, g5⟩ := hO.get h1
      rw [g1] at g3
      cases g3
      obtain ⟨f1, L1, m1, hv1⟩ := HF f N L w0 w (hO.say fun _ _ => trivial) hC
      have hl1 : ob1.length = ob.length := by rw [m1.len, zao]
      have k2 : L1[ob1.length - 1 - j]? = some (.blk b (.cells vs.toArray t)) := by
        rw [(m1.fm.1 j (zpp hlt)).2, zao]; exact k1
      obtain ⟨f2, q1, q2, q3⟩ := zw4 (N := N) m1.cw k2
      have hcs := (hv1 vs g5).le q1 (.refl N)
      exact ⟨f2, _,[ph], ⟨⟨b, vs, t, rfl, q3, hx f2 N vs hcs⟩, rfl⟩, ⟨m1.le.trans q1,(m1.ol.le q1 (.refl N)).put (by omega) ⟨b, vs, t, g1, q3, hcs⟩, q2, by rw [zao]; exact hl1, m1.fm.over h1 (by simp) hl1⟩, .phs 1, znl (n := 1)⟩
    · rename_i cs
      obtain ⟨x, h5, hl, hx⟩ := TC.mkA_inv h3
      refine ⟨x, _, h5, fun f N L w0 w hO hC v hv => ?_⟩
      obtain ⟨b, g1, rfl⟩ := hv
      obtain ⟨hlt, en, k1, b', vs, t, g3, g4, g5⟩ := hO.get h1
      rw [g1] at g3
      cases g3
      exact ⟨f, L,[ph], ⟨⟨b, vs, t, rfl, g4, hx f N vs g5⟩, rfl⟩, .refl hO hC, .phs 1, znl (n := 1)⟩
    · cases h3
  · cases h
theorem zvu {g : Nat} {v0 : V} {K : Option α} (h : decF g v0 K = some r) : K = some r ∧ ∀ (f : Fz) (N : Nm) v, VR f N v0 v → v = .func (.func g) #[] #[] := by
  unfold decF at h
  split at h
  · obtain ⟨hg, h2⟩ := zb0 h
    have hg := Nat.eq_of_beq_eq_true hg
    subst hg
    exact ⟨h2, fun f N v hv => hv⟩
  · cases h
theorem Md.decp_ok {l : List Bc} {v0 : V} {ob : List Ob} {K : (Md.p l).T → List Ob → Option α} (h : (Md.p l).dec v0 ob K = some r) : ∃ x ob', K x ob' = some r ∧ ∀ (f : Fz) (N : Nm) (L : List Ent) (w0 w : World), OLR f N ob L → Cw w0 f L w → ∀ v, VR f N v0 v →
    ∃ f' L' es,(Md.p l).R f' x v es ∧ Tk f N ob L w0 w f' ob' L' es := by
  simp only [Md.dec] at h
  split at h
  · rename_i j
    obtain ⟨y, h1, h2⟩ := zaa h
    split at h2
    · rename_i cs
      obtain ⟨x, ob1, h3, H⟩ := zvv h2
      refine ⟨x, ob1, h3, fun f N L w0 w hO hC v hv => ?_⟩
      obtain ⟨b, g1, rfl⟩ := hv
      obtain ⟨hlt, en, k1, b', vs, t, k2, k3, k4⟩ := hO.get h1
      subst k3
      rw [g1] at k2
      cases k2
      have m1 : Tk f N ob L w0 w f (oset ob j .no) L [.blk b (.cells vs.toArray t)] := ⟨⟨.refl f, hO.say fun _ _ => trivial, hC, zao _ _ _, .say h1 (by simp)⟩, Sel.one h1 (by simp) k1, fun en he hk => by
        simp at he
        subst he
        cases hk⟩
      obtain ⟨f', L', es, q1, q2⟩ := H f N L w0 w m1.mv.ol hC vs k4
      refine ⟨f', L', es ++ [.blk b (.cells vs.toArray t)], ⟨b, vs, t, es, rfl, rfl, q1⟩, ?_⟩
      exact (m1.trans q2).perm
    · cases h2
  · cases h
theorem Md.dec_ok {m : Md} {v0 : V} {ob : List Ob} {K : m.T → List Ob → Option α} (h : m.dec v0 ob K = some r) : ∃ x ob', K x ob' = some r ∧ ∀ (f : Fz) (N : Nm) (L : List Ent) (w0 w : World), OLR f N ob L → Cw w0 f L w → ∀ v, VR f N v0 v →
    ∃ f' L' es, m.R f' x v es ∧ Tk f N ob L w0 w f' ob' L' es := by
  cases m with
  | d c =>
    obtain ⟨cs, h1, hc⟩ := zm1 (h : vag c.ag v0 _ = some r)
    obtain ⟨cs1, ob1, h2, H⟩ := zjy h1
    obtain ⟨x, h3, hl, hx⟩ := TC.mkA_inv h2
    refine ⟨x, ob1, h3, fun f N L w0 w hO hC v hv => ?_⟩
    obtain ⟨f', L', m, hvs⟩ := H f N L w0 w hO hC
    refine ⟨f', L', [], ⟨TC.vR.2 ?_, rfl⟩, .of m⟩
    rcases hc with ⟨ha, rfl⟩ | ⟨ha, y, rfl, rfl⟩
    · obtain ⟨vs, rfl, hv⟩ := hv
      exact ⟨vs, hx f' N vs (hvs vs hv), by rw [ha]; rfl⟩
    · exact ⟨[v], hx f' N [v] (hvs [v] ⟨hv, trivial⟩), by rw [ha]; rfl⟩
  | o e c =>
    obtain ⟨y, hy, h1⟩ := zou (h : vC v0 _ = some r)
    subst hy
    obtain ⟨xs, ob1, h2, H⟩ := zsm h1
    refine ⟨xs, ob1, h2, fun f N L w0 w hO hC v hv => ?_⟩
    obtain ⟨rows, k1, k2, k3⟩ := H f N L w0 w hO hC v hv
    exact ⟨f, L, _, ⟨rows, k1, rfl, k3⟩, k2⟩
  | p l => exact Md.decp_ok h
  | g =>
    simp only [Md.dec] at h
    split at h
    · rename_i j
      obtain ⟨y, h1, h2⟩ := zaa h
      split at h2
      · rename_i s p
        refine ⟨(s, p), _, h2, fun f N L w0 w hO hC v hv => ?_⟩
        obtain ⟨g1, b, rfl⟩ := hv
        obtain ⟨hlt, en, k1, b', k2, k3⟩ := hO.get h1
        subst k3
        rw [g1] at k2
        cases k2
        exact ⟨f, L, _, ⟨b, rfl, rfl⟩, ⟨.refl f, hO.say fun _ _ => trivial, hC, zao _ _ _, .say h1 (by simp)⟩, Sel.one h1 (by simp) k1, fun en he hk => by
          simp at he
          subst he
          cases hk⟩
      · cases h2
    · cases h
  | q c => exact decQ_ok h
  | b c => exact decX_ok h
  | m g cs => exact decM_ok h
  | f g =>
    obtain ⟨h1, H⟩ := zvu h
    exact ⟨(), ob, h1, fun f N L w0 w hO hC v hv => ⟨f, L,[], ⟨H f N v hv, rfl⟩, .of (.refl hO hC)⟩⟩
  | w l => exact Md.decp_ok (l := l) h
theorem zq3 : ∀ {l : List Md} {us : List V} {ob : List Ob} {K : Pr Md.T l → List Ob → Option α}, decL l us ob K = some r → ∃ x ob', K x ob' = some r ∧ ∀ (f : Fz) (N : Nm) (L : List Ent) (w0 w : World), OLR f N ob L → Cw w0 f L w → ∀ vs, VLR f N us vs →
    ∃ f' L' es, MLR f' l x vs es ∧ Tk f N ob L w0 w f' ob' L' es
  | [], us, ob, K, h => by
    cases us with
    | cons _ _ => cases h
    | nil => exact ⟨(), ob, h, fun f N L w0 w hO hC vs hv => ⟨f, L,[], ⟨by cases vs with | nil => rfl | cons _ _ => exact hv.elim, rfl⟩, .of (.refl hO hC)⟩⟩
  | [m], us, ob, K, h => by
    match us, h with
    | [], h => cases h
    | _ :: _ :: _, h => cases h
    | [v0], h =>
      obtain ⟨x, ob1, h1, H⟩ := Md.dec_ok (h : m.dec v0 ob K = some r)
      refine ⟨x, ob1, h1, fun f N L w0 w hO hC vs hv => ?_⟩
      match vs, hv with
      | [v], ⟨hv, _⟩ =>
        obtain ⟨f', L', es, g1, g2⟩ := H f N L w0 w hO hC v hv
        exact ⟨f', L', es, ⟨v, rfl, g1⟩, g2⟩
  | m :: n :: l, us, ob, K, h => by
    cases us with
    | nil => cases h
    | cons v0 us =>
      obtain ⟨x, ob1, h1, H⟩ := Md.dec_ok (h : m.dec v0 ob (fun x ob => decL (n :: l) us ob fun y ob => K (x, y) ob) = some r)
      obtain ⟨y, ob2, h2, H2⟩ := zq3 h1
      refine ⟨(x, y), ob2, h2, fun f N L w0 w hO hC vs hv => ?_⟩
      match vs, hv with
      | v :: vs, ⟨hv, hvs⟩ =>
        obtain ⟨f1, L1, es1, g1, g2⟩ := H f N L w0 w hO hC v hv
        obtain ⟨f2, L2, es2, g3, g4⟩ := H2 f1 N L1 w0 w g2.mv.ol g2.mv.cw vs (hvs.le g2.mv.le (.refl N))
        exact ⟨f2, L2, es1 ++ es2, ⟨v, vs, es1, es2, rfl, rfl, g1.le g4.mv.le, g3⟩, g2.trans g4⟩
end Go.V
