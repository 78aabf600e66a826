/-
  Walks and laws of this seat; the base is the text Base.
-/
import Derived.Test.YteicdfkmpnmkmaaGreatDE7
import Derived.Laws.Cover4
namespace Go.D
open Go.RowKit Go.Sl
section
variable {α : Type} {P : Program} {E : Env} {m : Nat} {t : Tr V} {lc : Ls} {h : H} {n : Nat} {k : KO α} {r : α}
variable (hE : ∀ t ti, E.tt.get t = some ti → TIok P t ti)

/-! ## Structs and arrays put together -/
/-- Where the parts lie. -/
def Place (P : Program) (d : Ds) (place : Nat → Option (Nat × Nat)) : Prop := match d with
  | .struct fs => ∀ (i : Nat) (p : Nat × TypeId), fs[i]? = some p → ∃ j, P.info? p.2 = some j ∧ place i = some (p.1, j.size)
  | .array _ e => ∃ j, P.info? e = some j ∧ ∀ i, place i = some (i * j.size, j.size)
  | _ => False
theorem places {P : Program} : ∀ (Fl : List Field), (∀ f ∈ Fl, ∃ i, P.info? f.type = some i) → ∃ pl, Fl.mapM (fun f => (P.info? f.type).map fun i => (f.offset, i.size)) = some pl ∧ ∀ (j : Nat) (f : Field), Fl[j]? = some f → ∃ i, P.info? f.type = some i ∧ pl[j]? = some (f.offset, i.size)
  | [], _ => ⟨[], by simp, fun j f hj => by simp at hj⟩
  | f :: Fl, h => by
    obtain ⟨i, hi⟩ := h f (by simp)
    obtain ⟨pl, h1, h2⟩ := places Fl (fun g hg => h g (by simp [hg]))
    refine ⟨(f.offset, i.size) :: pl, by simp [List.mapM_cons, hi, h1], fun j g hj => ?_⟩
    cases j with
    | zero => cases hj; exact ⟨i, hi, rfl⟩
    | succ j =>
      obtain ⟨i', g1, g2⟩ := h2 j g (by simpa using hj)
      exact ⟨i', g1, by simpa using g2⟩

include hE in
theorem partAt_inv {d : Ds} {i : Nat} {K : Nat → Nat → Option α} {r : α} {place : Nat → Option (Nat × Nat)} (hp : Place P d place) (e : partAt E d i K = some r) : ∃ o sz, place i = some (o, sz) ∧ K o sz = some r := by
  cases d <;> first | exact nn e | skip
  · rename_i fs
    obtain ⟨p, h1, e1⟩ := nthK_inv _ _ _ _ (e : nthK fs i (fun p => Prod.rec (fun o ty => oc (E.tt.get ty) fun te => K o te.sz) p) = some r)
    obtain ⟨o, ty⟩ := p
    obtain ⟨te, h2, e2⟩ := oc_inv (e1 : oc (E.tt.get ty) (fun te => K o te.sz) = some r)
    obtain ⟨j, g1, g2⟩ := hp i (o, ty) h1
    obtain ⟨d', i', z', c1, c2, c3, _⟩ := (hE _ _ h2).ok
    rw [c2] at g1
    cases g1
    exact ⟨o, te.sz, by rw [g2, c3], e2⟩
  · rename_i len el
    obtain ⟨te, h2, e2⟩ := oc_inv (e : oc (E.tt.get el) (fun te => fN (Nat.mul i te.sz) fun o => K o te.sz) = some r)
    rw [fN_eq] at e2
    obtain ⟨j, g1, g2⟩ := hp
    obtain ⟨d', i', z', c1, c2, c3, _⟩ := (hE _ _ h2).ok
    rw [c2] at g1
    cases g1
    exact ⟨i * te.sz, te.sz, by rw [g2, c3], e2⟩

include hE in
theorem parts_inv {o : Op} {d : Ds} {place : Nat → Option (Nat × Nat)} (hp : Place P d place) : ∀ (ps : List (Nat × Operand)) (l : List C) (K : List C → Option α) (r : α), (∀ p ∈ ps, p.2 ∈ o.operands.toList) → parts E m t lc d ps l K = some r →
    ∃ l', K l' = some r ∧ ∀ (N : Nat) (σ : Sg) (T2 : Nat → Option V) (a : Act) (cells : Array Value), Tm o (opT m t lc) T2 → SL N σ T2 a → CL σ l cells.toList →
      ∃ cells', Instr.fill place cells (ps.map fun p => (p.1, a.eval p.2)) = some cells' ∧ CL σ l' cells'.toList
  | [], l, K, r, _, e => ⟨l, e, fun N σ T2 a cells _ _ hR => ⟨cells, rfl, hR⟩⟩
  | (i, x) :: ps, l, K, r, hm, e => by
    obtain ⟨v, hv, e1⟩ := opd_inv (e : opd m t lc x (fun v => partAt E d i fun o sz => vcells v fun xs => lenN xs fun L => iff (Nat.beq L sz) (layK xs o l fun l => parts E m t lc d ps l K)) = some r)
    obtain ⟨off, sz, h1, e2⟩ := partAt_inv hE hp e1
    obtain ⟨xs, hx, e3⟩ := vcells_inv e2
    rw [lenN_eq] at e3
    obtain ⟨h2, e4⟩ := iff_inv e3
    have h2 := beq_iff' h2
    obtain ⟨h3, e5⟩ := layK_inv _ _ _ _ _ e4
    obtain ⟨l', e6, H⟩ := parts_inv (o := o) hp ps _ K r (fun p hp => hm p (by simp [hp])) e5
    refine ⟨l', e6, fun N σ T2 a cells ht hs hR => ?_⟩
    have hu := (evO (a := a) hv (hm (i, x) (by simp)) ht hs).cells hx
    have hz := hu.len
    have hz : (a.eval x).cells.size = sz := by simp at hz; omega
    have hcl := hR.len
    have hcl : cells.size = l.length := by simpa using hcl
    obtain ⟨cells1, g1, g2, g3⟩ := fill_step (place := place) (i := i) (off := off) (v := a.eval x) (rest := ps.map fun p => (p.1, a.eval p.2)) (cells := cells) (by rw [hz]; exact h1) (by omega)
    have hnew : CL σ (l.take off ++ xs ++ l.drop (off + xs.length)) (cells.toList.take off ++ (a.eval x).cells.toList ++ cells.toList.drop (off + xs.length)) := ((hR.take _).append hu).append (hR.drop _)
    have he : cells1.toList = cells.toList.take off ++ (a.eval x).cells.toList ++ cells.toList.drop (off + xs.length) := by
      apply List.ext_getElem?
      intro j
      rw [Array.getElem?_toList, g3 j]
      have hl1 : (cells.toList.take off).length = off := by simp; omega
      by_cases c1 : j < off
      · rw [if_neg (by omega), List.append_assoc, List.getElem?_append_left (by omega), List.getElem?_take_of_lt c1, Array.getElem?_toList]
      · by_cases c2 : j < off + (a.eval x).cells.size
        · rw [if_pos ⟨by omega, c2⟩, List.append_assoc, List.getElem?_append_right (by omega), hl1, List.getElem?_append_left (by simp; omega), Array.getElem?_toList]
        · rw [if_neg (by omega), List.getElem?_append_right (by simp; omega)]
          have : (cells.toList.take off ++ (a.eval x).cells.toList).length = off + (a.eval x).cells.size := by simp; omega
          rw [this, List.getElem?_drop, Array.getElem?_toList]
          congr 1; omega
    rw [← he] at hnew
    obtain ⟨cells', g4, g5⟩ := H N σ T2 a cells1 ht hs hnew
    exact ⟨cells', by rw [List.map_cons, g1, g4], g5⟩

include hE in
theorem opBuild_ok {ty : TypeId} {ps : Array (Nat × Operand)} (e : opBuild ty ps E m t lc h n k = some r) : Done P (.build ty ps) (opT m t lc) h.get n k r := by
  obtain ⟨ti, h1, e1⟩ := oc_inv e
  obtain ⟨hag, e2⟩ := iff_inv e1
  obtain ⟨d, it, z, q1, q2, q3, q4, q5, q6, q7, q8, q9, q10, q11⟩ := (hE _ _ h1).ok
  have hb : ∃ place, Place P ti.d place ∧ ∀ parts cells, Instr.fill place z.cells parts = some cells → P.built ty parts = some cells := by
    clear q6 e2 e1
    revert hag q7
    cases ti.d with
    | struct fs =>
      intro _ q7
      obtain ⟨Fs, rfl, c1, c2⟩ := q7
      obtain ⟨pl, g1, g2⟩ := places (P := P) Fs.toList (fun f hf => by
        obtain ⟨j, hj, rfl⟩ := List.mem_iff_getElem.1 hf
        have hj2 : j < fs.length := by simpa [c1] using hj
        obtain ⟨f, f1, _, f3, i, f4, _⟩ := c2 j fs[j] (by simp)
        have : f = Fs.toList[j] := by
          rw [← Array.getElem?_toList, List.getElem?_eq_getElem hj] at f1
          exact (Option.some.inj f1).symm
        rw [← this]
        exact ⟨i, f4⟩)
      refine ⟨(pl.toArray[·]?), fun i p hp => ?_, fun parts cells hf => ?_⟩
      · obtain ⟨f, f1, f2, f3, j, f4, _⟩ := c2 i p hp
        obtain ⟨j', g3, g4⟩ := g2 i f (by rw [Array.getElem?_toList]; exact f1)
        rw [f4] at g3
        cases g3
        exact ⟨j, by rw [← f3]; exact f4, by rw [← f2]; simpa using g4⟩
      · unfold Program.built
        simp only [q2, q1, q5, g1]
        exact hf
    | array len el =>
      intro _ q7
      obtain ⟨rfl, j, hi⟩ := q7
      · refine ⟨fun i => some (i * j.size, j.size), ⟨j, hi, fun _ => rfl⟩, fun parts cells hf => ?_⟩
        unfold Program.built
        simp only [q2, q1, q5, hi]
        exact hf
    | _ => intro hag; cases hag
  obtain ⟨place, hp, hbuilt⟩ := hb
  obtain ⟨l', e3, H⟩ := parts_inv hE (o := .build ty ps) hp ps.toList _ _ _ (fun p hp => by simp [Op.operands]; exact ⟨p.1, by simpa using hp⟩) e2
  refine ⟨_, [], [], n, e3, .ofPure fun N σ T2 a w ht hs => ?_⟩
  obtain ⟨cells, g1, g2⟩ := H N σ T2 a z.cells ht hs (q8 σ)
  have hps : (ps.map fun (i, x) => (i, a.eval x)).toList = ps.toList.map fun p => (p.1, a.eval p.2) := by simp
  refine ⟨.agg cells, ⟨cells.toList, by simp, g2⟩, fun o' q => ?_⟩
  simp only [execOp, q, Sem.run_bind, run_build w ty _ cells (hbuilt _ _ (by rw [hps]; exact g1)), Result.andThen_ok, Sem.run_pure]

/-! ## Lengths -/
include hE in
theorem len_ok {ats : List TypeId} {ars : List Operand} {l : List V} (hl : opFs (opT m t lc) ars l) (e : builtinK .len ats l E h n k = some r) : Done P (.call ⟨.builtin .len, ars.toArray, ats.toArray⟩) (opT m t lc) h.get n k r := by
  cases l with
  | nil => exact nn e
  | cons v l =>
  cases l with
  | cons _ _ => exact nn e
  | nil =>
  cases ats with
  | nil => exact nn e
  | cons ty ats =>
  cases ars with
  | nil => exact hl.elim
  | cons x ars =>
  cases ars with
  | cons _ _ => exact hl.2.elim
  | nil =>
  have hv := hl.1
  obtain ⟨ti, h1, e1⟩ := oc_inv (e : oc (E.tt.get ty) _ = some r)
  obtain ⟨d, it, z, q1, q2, q3, q4, q5, q6, q7, _⟩ := (hE _ _ h1).ok
  have hm : x ∈ (Op.call ⟨.builtin .len, [x].toArray, (ty :: ats).toArray⟩).operands.toList := by simp [Op.operands, Call.operands]
  revert e1 q7
  cases ti.d <;> intro e1 q7 <;> first | exact nn e1 | skip
  · have q7 : d = .string := q7
    subst q7
    obtain ⟨s, rfl, e2⟩ := strK_inv e1
    rw [lenN_eq] at e2
    refine ⟨_, [], [], n, e2, .ofPure fun N σ T2 a w ht hs => ?_⟩
    obtain ⟨b, g1, g2⟩ := evO hv hm ht hs
    refine ⟨.int .i64 b.size, by show _ = _; rw [← g2, byl_len]; rfl, fun o' q => ?_⟩
    simp [execOp, q, resolve, invoke, builtin, g1, Builtin.len_, run_underlying q1, goInt]
  · rename_i el
    have q7 : d = .slice el := q7
    subst q7
    rcases slK_inv e1 with ⟨rfl, e2⟩ | ⟨b, o, len, cap, rfl, e2⟩
    · refine ⟨_, [], [], n, e2, .ofPure fun N σ T2 a w ht hs => ?_⟩
      have g1 : a.eval x = .slice none 0 0 := evO hv hm ht hs
      exact ⟨.int .i64 0, rfl, fun o' q => by simp [execOp, q, resolve, invoke, builtin, g1, Builtin.len_, run_underlying q1, goInt]⟩
    · refine ⟨_, [], [], n, e2, .ofPure fun N σ T2 a w ht hs => ?_⟩
      obtain ⟨b', y, g1, g2 | ⟨rfl, rfl, o2, g2⟩⟩ := evO hv hm ht hs
      · exact ⟨.int .i64 len, rfl, fun o' q => by simp [execOp, q, resolve, invoke, builtin, g2, Builtin.len_, run_underlying q1, goInt]⟩
      · exact ⟨.int .i64 0, rfl, fun o' q => by simp [execOp, q, resolve, invoke, builtin, g2, Builtin.len_, run_underlying q1, goInt]⟩
end
end Go.D
