/-
  Walks and laws of this seat; the base is the text Base.
-/
import Derived.Test.YteicdfkmpnmkmaaGreatDE13
namespace Go.D
open Go.RowKit Go.Sl
section
variable {α : Type} {P : Program} {E : Env} {m : Nat} {t : Tr V} {lc : Ls} {h : H} {n : Nat} {k : KO α} {r : α}
theorem opBuiltin_ok (hE : ∀ t ti, E.tt.get t = some ti → TIok P t ti) {c : Call} (e : opBuiltin c E m t lc h n k = some r) : Done P (.call c) (opT m t lc) h.get n k r := by
  obtain ⟨callee, ars, ats⟩ := c
  cases callee with
  | value _ => exact nn e
  | invoke _ _ => exact nn e
  | builtin b =>
    obtain ⟨vs, hv, e1⟩ := opdL_inv (e : opdL m t lc ars.toList (fun av => builtinK b ats.toList av E h n k) = some r)
    have fin : Done P (.call ⟨.builtin b, ars.toList.toArray, ats.toList.toArray⟩) (opT m t lc) h.get n k r := by
      cases b <;> first | exact nn e1 | exact len_ok hE hv e1 | exact append_ok hE hv e1
    simpa using fin
/-- Any operation but a call of a function. -/
theorem simple_ok (hE : ∀ t ti, E.tt.get t = some ti → TIok P t ti) {o : Op} (e : simple o E m t lc h n k = some r) : Done P o (opT m t lc) h.get n k r := by
  cases o with
  | move _ => exact opMove_ok (E := E) e
  | assign _ => exact opAssign_ok (E := E) e
  | pick _ _ _ => exact opPick_ok (E := E) e
  | alloc _ => exact opAlloc_ok hE e
  | box _ _ => exact opBox_ok e
  | build _ _ => exact opBuild_ok hE e
  | buildSlice _ _ _ => exact opBuildSlice_ok hE e
  | insert _ _ _ _ => exact (opMapUpd_ok hE e).2
  | load _ _ => exact opLoad_ok hE e
  | store _ _ _ => exact opStore_ok hE e
  | nilCheck _ => exact opNil_ok (E := E) e
  | binOp _ _ _ _ _ => exact opBin_ok hE e
  | unOp _ _ _ => exact opUn_ok (E := E) e
  | convert _ _ _ => exact opConv_ok hE e
  | makeFunc _ _ _ => exact opMakeFunc_ok (E := E) e
  | makeMap _ _ => exact opMakeMap_ok (E := E) e
  | makeSlice _ _ _ => exact opMakeSlice_ok hE e
  | slice _ _ _ _ _ => exact opSlice_ok hE e
  | fieldAddr _ _ _ => exact opFieldAddr_ok hE e
  | field _ _ _ => exact opField_ok hE e
  | indexAddr _ _ _ => exact opIndexAddr_ok hE e
  | index _ _ _ => exact opIndex_ok hE e
  | lookup _ _ _ _ => exact opLookup_ok hE e
  | mapUpdate _ _ _ _ => exact (opMapUpd_ok hE e).1
  | range _ _ => exact opRange_ok hE e
  | next _ _ => exact opNext_ok (E := E) e
  | extract _ _ => exact opExtract_ok (E := E) e
  | call _ => exact opBuiltin_ok hE e
  | _ => exact nn e
end
/-- An operation comes up. -/
theorem SSem.opS {P : Program} {o : Oper} {T T2 : Nat → Option V} {h h2 : Nat → Option AO} {n n' N : Nat} {v : V} {rs : List Nat} {us : List (Nat × AO)} {w0 w : World} {Φ : Fz} {σ : Sg} {a : Act} {K : AP} (H : SSem P o.op T h n v rs us n') (h1 : Tm o.op T T2) (h3 : ∀ b ∈ rs, h2 b = h b)
    (h4 : ∀ b, n ≤ b → b < n' → σ b = none) (h5 : SL N σ T2 a) (h6 : HR w0 Φ σ h2 w)
    (hK : ∀ u w' σ', σ.le σ' → (∀ b, (b < n ∨ n' ≤ b) → σ' b = σ b) → CV σ' v u → HR w0 Φ σ' (upd us h2) w' → K (a.put o.dst u) w') : Sl.opS P o a w K := by
  obtain ⟨u, w', σ', g1, g2, g3, g4, g5⟩ := H.sem w0 Φ N σ T2 h2 a w h1 h3 h4 h5 h6
  unfold Sl.opS
  rcases g5 o rfl with g7 | ⟨g7, hu⟩
  · rw [g7]; exact hK u w' σ' g1 g2 g3 g4
  · subst hu
    rw [g7]; exact hK undef w' σ' g1 g2 g3 g4
end Go.D
