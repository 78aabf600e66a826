/-
  Walks and laws of this seat; the base is the text Base.
-/
import Derived.Test.YteicdfkmpnmkmaaGreatDD
namespace Go.D
open Go.RowKit Go.Sl
section
variable {α : Type} {P : Program} {E : Env} {m : Nat} {t : Tr V} {lc : Ls} {h : H} {n : Nat} {k : KO α} {r : α}

theorem opMove_ok {x : Operand} (e : opMove x E m t lc h n k = some r) : Done P (.move x) (opT m t lc) h.get n k r := by
  obtain ⟨v, hv, e⟩ := opd_inv e
  exact ⟨v, [], [], n, e, .ofPure fun N σ T2 a w ht hs => ⟨_, evO hv (by simp [Op.operands]) ht hs, fun o' q => by simp [execOp, q]⟩⟩
theorem opAssign_ok {x : Operand} (e : opMove x E m t lc h n k = some r) : Done P (.assign x) (opT m t lc) h.get n k r := by
  obtain ⟨v, hv, e⟩ := opd_inv e
  exact ⟨v, [], [], n, e, .ofPure fun N σ T2 a w ht hs => ⟨_, evO hv (by simp [Op.operands]) ht hs, fun o' q => by simp [execOp, q]⟩⟩
theorem opPick_ok {c x y : Operand} (e : opPick c x y E m t lc h n k = some r) : Done P (.pick c x y) (opT m t lc) h.get n k r := by
  obtain ⟨v, hv, e⟩ := opd_inv e
  obtain ⟨b, rfl, e⟩ := boolK_inv e
  obtain ⟨u, hu, e⟩ := opd_inv e
  refine ⟨u, [], [], n, e, .ofPure fun N σ T2 a w ht hs => ?_⟩
  have hc : a.eval c = .bool b := evO hv (by simp [Op.operands]) ht hs
  cases b with
  | true => exact ⟨_, evO (x := x) hu (by simp [Op.operands]) ht hs, fun o' q => by simp [execOp, q, asBool, hc]⟩
  | false => exact ⟨_, evO (x := y) hu (by simp [Op.operands]) ht hs, fun o' q => by simp [execOp, q, asBool, hc]⟩
theorem opNil_ok {x : Operand} (e : opNil x E m t lc h n k = some r) : Done P (.nilCheck x) (opT m t lc) h.get n k r := by
  obtain ⟨v, hv, e⟩ := opd_inv e
  obtain ⟨b, o, rfl, e⟩ := ptrK_inv e
  refine ⟨_, [], [], n, e, .ofPure fun N σ T2 a w ht hs => ?_⟩
  have hc := evO hv (by simp [Op.operands]) ht hs
  obtain ⟨b', y, h1, h2⟩ := hc
  exact ⟨_, ⟨b', y, h1, h2⟩, fun o' q => by simp [execOp, q, h2]⟩

variable (hE : ∀ t ti, E.tt.get t = some ti → TIok P t ti)
include hE

omit hE in
theorem fieldE_inv {α : Type} {d : Ds} {i : Nat} {K : Nat → TypeId → Option α} {r : α} (e : fieldE d i K = some r) : ∃ fs p, d = .struct fs ∧ fs[i]? = some p ∧ K p.1 p.2 = some r := by
  cases d <;> first | exact nn e | skip
  rename_i fs
  obtain ⟨p, h1, h2⟩ := nthK_inv _ _ _ _ (e : nthK fs i (fun p => Prod.rec K p) = some r)
  exact ⟨fs, p, rfl, h1, h2⟩
omit hE in
theorem sliceE_inv {α : Type} {d : Ds} {K : TypeId → Option α} {r : α} (e : sliceE d K = some r) : ∃ t, d = .slice t ∧ K t = some r := by
  cases d <;> first | exact nn e | exact ⟨_, rfl, e⟩
theorem elemK_inv {ty : TypeId} {K : TypeId → Nat → Nat → List C → Option α} {r : α} (e : elemK E ty K = some r) : ∃ e i z, P.underlying ty = some (.slice e) ∧ P.info? e = some i ∧ i.zero = some z ∧ 0 < i.size ∧ ∃ l : List C, (∀ σ, CL σ l z.cells.toList) ∧ l.length = i.size ∧ K e i.size i.bytes l = some r := by
  obtain ⟨ti, h1, e⟩ := oc_inv e
  obtain ⟨el, h2, e⟩ := sliceE_inv e
  obtain ⟨te, h3, e⟩ := oc_inv e
  obtain ⟨d, i, z, g1, g2, g3, g4, g5, g6, g7, g8, g9, g10⟩ := (hE _ _ h1).ok
  rw [h2] at g7
  have g7 : d = .slice el := g7
  subst g7
  obtain ⟨d', i', z', q1, q2, q3, q4, q5, q6, q7, q8, q9, q10, q11⟩ := (hE _ _ h3).ok
  exact ⟨el, i', z', g1, q2, q5, by omega, te.z, q8, by omega, by rw [q3, q4]; exact e⟩

theorem opFieldAddr_ok {ty : TypeId} {x : Operand} {i : Nat} (e : opFieldAddr ty x i E m t lc h n k = some r) : Done P (.fieldAddr ty x i) (opT m t lc) h.get n k r := by
  obtain ⟨v, hv, e⟩ := opd_inv e
  obtain ⟨b, o, rfl, e⟩ := ptrK_inv e
  obtain ⟨ti, h1, e⟩ := oc_inv e
  obtain ⟨fs, p, h2, h3, e⟩ := fieldE_inv e
  rw [fN_eq] at e
  refine ⟨_, [], [], n, e, .ofPure fun N σ T2 a w ht hs => ?_⟩
  obtain ⟨b', y, g1, g2⟩ := evO hv (by simp [Op.operands]) ht hs
  obtain ⟨d, it, z, q1, q2, q3, q4, q5, q6, q7, _⟩ := (hE _ _ h1).ok
  rw [h2] at q7
  obtain ⟨Fs, rfl, _, q7⟩ := q7
  obtain ⟨fd, c1, c2, c3, j, c4, c5⟩ := q7 i p h3
  exact ⟨.pointer (some ⟨b', o + p.1, none⟩), ⟨b', y, g1, rfl⟩, fun o' q => by simp [execOp, q, g2, Instr.fieldAt, run_underlying q1, c1, Instr.sureAddr, fieldPlace, sizeOf, typeInfo, c4, c5, c2, Sl.add_lit]⟩

theorem opIndexAddr_ok {ty : TypeId} {x ix : Operand} (e : opIndexAddr ty x ix E m t lc h n k = some r) : Done P (.indexAddr ty x ix) (opT m t lc) h.get n k r := by
  obtain ⟨v, hv, e⟩ := opd_inv e
  obtain ⟨w', hw, e⟩ := opd_inv e
  obtain ⟨kd, i, rfl, e⟩ := natK_inv e
  obtain ⟨ti, h1, e⟩ := oc_inv e
  obtain ⟨d, it, z, q1, q2, q3, q4, q5, q6, q7, _⟩ := (hE _ _ h1).ok
  revert e q7
  cases ti.d <;> intro e q7 <;> first | exact nn e | skip
  · rename_i el
    have q7 : d = .slice el := q7
    subst q7
    obtain ⟨te, h2, e⟩ := oc_inv (e : oc (E.tt.get el) _ = some r)
    obtain ⟨d', i', z', c1, c2, c3, _⟩ := (hE _ _ h2).ok
    rcases slK_inv e with ⟨_, e⟩ | ⟨b, o, l, c, rfl, e⟩
    · exact nn e
    obtain ⟨hlt, e⟩ := iff_inv e
    rw [fN_eq] at e
    have hlt := blt_iff hlt
    refine ⟨_, [], [], n, e, .ofPure fun N σ T2 a w ht hs => ?_⟩
    obtain ⟨b', y, g1, g2 | ⟨g2, _⟩⟩ := evO hv (by simp [Op.operands]) ht hs
    · have hi : a.eval ix = .int kd (i : Int) := evO hw (by simp [Op.operands]) ht hs
      exact ⟨.pointer (some ⟨b', o + i * te.sz, none⟩), ⟨b', y, g1, rfl⟩, fun o' q => by simp [execOp, q, g2, hi, Instr.indexAt, run_underlying q1, asIntOf, sizeOf, typeInfo, c2, c3, hlt, Sl.add_lit]⟩
    · omega
  · rename_i len el
    have q7 : d = .array len el := q7.1
    subst q7
    obtain ⟨te, h2, e⟩ := oc_inv (e : oc (E.tt.get el) _ = some r)
    obtain ⟨d', i', z', c1, c2, c3, _⟩ := (hE _ _ h2).ok
    obtain ⟨b, o, rfl, e⟩ := ptrK_inv e
    obtain ⟨hlt, e⟩ := iff_inv e
    rw [fN_eq] at e
    have hlt := blt_iff hlt
    refine ⟨_, [], [], n, e, .ofPure fun N σ T2 a w ht hs => ?_⟩
    obtain ⟨b', y, g1, g2⟩ := evO hv (by simp [Op.operands]) ht hs
    have hi : a.eval ix = .int kd (i : Int) := evO hw (by simp [Op.operands]) ht hs
    exact ⟨.pointer (some ⟨b', o + i * te.sz, none⟩), ⟨b', y, g1, rfl⟩, fun o' q => by simp [execOp, q, g2, hi, Instr.indexAt, run_underlying q1, asIntOf, Instr.sureAddr, sizeOf, typeInfo, c2, c3, hlt, Sl.add_lit]⟩
end
end Go.D
