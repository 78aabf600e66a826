/-
  Walks and laws of this seat.
-/
import Derived.Test.YteicdfkmpnmkmaaGreatVM
namespace Go.V
set_option linter.unusedVariables false
set_option linter.unusedSimpArgs false
set_option linter.unusedSectionVars false
attribute [local irreducible] opd opr
open Go.RowKit Go.Sl
variable [F0]
section
variable {α : Type} {r : α}
variable {P : Program} {E : Env} {n : Nat} {w0 : World} {f0 : Fz} {N0 : Nm} {Lk : List Ent}
def FamK (w0 : World) (f0 : Fz) (Lk : List Ent) (X : World → Prop) : Prop := ∃ f' L', X = Cw w0 f' L' ∧ Fz.le f0 f' ∧ ∀ w, Cw w0 f' L' w → Cw w0 f0 Lk w
def LOk (P : Program) (w0 : World) (f0 : Fz) (N0 : Nm) (Lk : List Ent) (n : Nat) (o : Op) (slL : List (Nat × V)) (v : V) : Prop := ∀ (Es : List (Nat × Value)), SlR f0 N0 slL Es → ∃ u, VR f0 N0 v u ∧ ∀ (d : Option Tmp) ty pos af g (a : Act), Ev n Es a → ∀ X, FamK w0 f0 Lk X → ∀ w, X w → (⟨d, o, ty, pos, af, g⟩ : Oper).quietAt P a X w u
theorem yfy (hE : EnvOk P E) {slL : List (Nat × V)} {obK : List Ob} (hO : OLR f0 N0 obK Lk) (hw : ∃ w, Cw w0 f0 Lk w) {o : Op} {K : V → Option α} (h : lookOp E o slL obK K = some r) : ∃ v, K v = some r ∧ LOk P w0 f0 N0 Lk n o slL v := by
  have q : ∀ o, cond (looks o) (qop E.T o slL obK K) none = some r → ∃ v, K v = some r ∧ LOk P w0 f0 N0 Lk n o slL v := fun o h => by
    obtain ⟨hl, h1⟩ := zar h
    obtain ⟨v, h2, hq⟩ := yfk hE.T h1
    refine ⟨v, h2, fun Es hS => ?_⟩
    obtain ⟨w1, hw1⟩ := hw
    obtain ⟨u, g1, g2⟩ := hq f0 N0 Es Lk w0 w1 hS hO hw1
    refine ⟨u, g1, fun d ty pos af g a he X hX w hXw => ?_⟩
    obtain ⟨f', L', rfl, _, hK⟩ := hX
    have hy' := g2 n d ty pos af g a he w (hK w hXw)
    unfold Oper.quietAt at hy' ⊢
    cases hr : (execOp a.eval ⟨d, o, ty, pos, af, g⟩).run P w with
    | ok x w' =>
      rw [hr] at hy'
      cases x <;> simp only [Oper.quietUpon] at hy' ⊢ <;> try exact hy'
      exact absurd hr (zrm hl)
    | halt x w' => rw [hr] at hy'; exact hy'
  cases o with
  | call c =>
    obtain ⟨callee, args, ats⟩ := c
    cases callee with
    | value fo =>
      obtain ⟨fv, h1, hf⟩ := zb3 (h : opd slL fo _ = some r)
      clear h
      obtain ⟨avs0, h2, hA⟩ := zyt h1
      obtain ⟨g, avs, h3, HC⟩ := ydg h2
      obtain ⟨c, hcon, h5⟩ := yb6 hE h3
      obtain ⟨hlc, h6⟩ := zar h5
      obtain ⟨v, u, h7, hvu, H⟩ := zvw hcon hlc h6
      refine ⟨v, h7, fun Es hS => ?_⟩
      obtain ⟨fu, e1, e2⟩ := hf f0 N0 Es hS
      obtain ⟨vs, e3, e4⟩ := hA f0 N0 Es hS
      obtain ⟨cap, rfl, e5⟩ := HC f0 N0 Lk hO fu vs e2 e4
      refine ⟨u, hvu f0 N0, fun d ty pos af gg a he X hX w hXw => ?_⟩
      obtain ⟨f', L', rfl, hle, hK⟩ := hX
      have hargs : args = args.toList.toArray := by simp
      rw [hargs]
      unfold Oper.quietAt
      rw [zs5 he e1 hcon.has e3]
      refine ⟨rfl, ?_⟩
      have := H f0 N0 Lk w0 w hO (hK w hXw) _ e5
      rw [show vs.toArray ++ cap.toArray = (vs ++ cap).toArray from by simp]
      exact this.mono fun e w' ⟨q1, q2⟩ => ⟨q1, cw_of hXw q2⟩
    | builtin b => exact q _ h
    | _ => exact q _ h
  | _ => exact q _ h
end
end Go.V
