/-
  The law BoxesTexts: the boxes of a laid tree hold the texts of the tree, blanks aside, where what comes in is of bulk at most 1048576.
-/
import Derived.Test.YteicdfkmpnmkmaaGreatI1
import Derived.Test.YteicdfkmpnmkmaaGreatPd
import Derived.Test.YteicdfkmpnmkmaaGreatM5
import Derived.JoinedCond
namespace Go.Proofs.YteicdfkmpnmkmaaGreat
set_option linter.unusedVariables false
set_option linter.unusedSimpArgs false
set_option linter.unusedSectionVars false
open Go.RowKit Go.Sl Go.V Go.ChangeShapes Go.WideShapes Go.ChangeAt
theorem ownk : ownKnob Tryz.prog.godebug = none := by kernel_rfl
theorem laid : laidOutB Tryz.prog = true := by kernel_rfl
@[reducible] def noF0 : F0 := ⟨fun _ => none⟩
theorem giveB [F0] {g : Nat} {ps : List Md} {m : Pr Md.T ps → Option (Pr Md.T ([Md.d .bool] ++ ps.filter isP))} (h : ConOk Tryz.prog g ⟨ps,[.d .bool], m⟩) {x : Pr Md.T ps} {y : Pr Md.T ([Md.d .bool] ++ ps.filter isP)} {z : Bool} (hm : m x = some y) (hz : ∀ f us L', MLR f ([Md.d .bool] ++ ps.filter isP) y us L' → us = [.bool z] ∧ L' = []) (hv : ∀ vs, pvals ps vs = []) {f : Fz} {vs : List Value} (hf : Fz.le f00 f) (hx : MLR f ps x vs []) : Gives Tryz.prog g vs f (.bool z) := fun w0 L w hC => by
  refine (h.does x y hm f vs [] hf hx w0 L w hC).mono fun u w' ⟨v, f', L', h1, h2, h3, us, rvs, h4, h5, h6, h7⟩ => ?_
  obtain ⟨rfl, rfl⟩ := hz f' us L' h7
  rw [hv, List.append_nil] at h4
  subst h4
  exact ⟨by rw [h1, h5]; rfl, Cw.weak h3 h2⟩
theorem zwh {t : TreT} (hb : BulkT t) (s : ByteArray) {f : Fz} {v0 : Value} (hT : @TC.R noF0 cTreT f [v0] t) : Gives Tryz.prog 6 [.agg #[v0], .string s] f (.bool true) := by
  obtain ⟨y, hy, K1, e1⟩ := ydl hb (s := s)
  subst hy
  refine @giveB noF0 6 _ _ (@zqe noF0 K1) (t, s) true true (e1 K1 K1 (Nat.le_refl _) (Nat.le_refl _)) (fun f us L' ⟨v, h1, h2, h3⟩ => ⟨by rw [h1, show v = _ from h2], h3⟩) (fun vs => ?_) f _ (fun b o e => by cases e) ⟨_, _,[], _, rfl, rfl, ⟨(@TC.vR noF0 _ _ cTreT t _).2 ⟨[v0], hT, rfl⟩, rfl⟩, _, rfl, rfl, rfl⟩
  cases vs with
  | nil => rfl
  | cons a l => cases l with
    | nil => rfl
    | cons b l => cases l <;> rfl
set_option maxRecDepth 100000 in
theorem zqm (H : Type) (enc : TypeId × Value → H) (W : World) (base : Nat) (args : Array Value) (ds gs : List (DataW H)) (before : List MemPlace)
    (hval : ∀ (j : Nat) t v, Tryz.f6.params[j]? = some t → args[j]? = some v → Value.okWide Tryz.prog W .any base t v)
    (hW : DataW.Whole enc Tryz.prog Tryz.f6.params.toList Rows.boxesTextsSpec.vars false W args.toList ds gs before)
    (hsz : Rows.uptoSmall H (ds ++ gs) = true) :
    Calls Tryz.prog 6 args W fun e W' => ∃ v, e = .returned v ∧ Rows.boxesTextsSpec.post enc Tryz.prog Tryz.f6 false true false false W args v W' := by
  have hW' := hW
  obtain ⟨p, q, hA0, hV, rfl, _, _⟩ := hW
  have hA : DataW.TrodAll enc Tryz.prog W 0 (fun _ => true) true Tryz.f6.params.toList args.toList ds p := hA0
  rw [Tryz.params6] at hA hval
  obtain ⟨v0, vs0, d0, ds0, p0, q0, hargs, rfl, rfl, h0, r0⟩ := trodAll_cons hA
  obtain ⟨v1, vs1, d1, ds1, p1, q1, rfl, rfl, rfl, h1, r1⟩ := trodAll_cons r0
  obtain ⟨rfl, rfl, rfl⟩ := trodAll_nil r1
  obtain rfl : args = #[v0, v1] := by cases args; simp_all
  obtain ⟨rfl, rfl⟩ := trodVars_none hV
  obtain ⟨fu0, ht0⟩ := h0
  obtain ⟨cs0, rfl⟩ := ycp Tryz.underlying37 (hval 0 37 v0 rfl rfl)
  obtain ⟨ns, R0, S0⟩ := (@ycm noF0 _) H enc W fu0 _ _ (Nat.le_refl _) ht0 (bulk_arg hsz (j := 0) rfl)
  obtain ⟨c0, hc0⟩ : ∃ v, cs0 = [v] := by
    obtain ⟨r1, r2, e1, ⟨v, rfl, _⟩, e2⟩ := (R0 : @TC.R noF0 cTreT _ _ _)
    exact ⟨v, by rw [show cs0 = _ from e1,(e2 : r2 = [])]; rfl⟩
  subst hc0
  obtain ⟨s, rfl⟩ := okWide_string Tryz.underlying9 (hval 1 9 v1 rfl rfl)
  refine (zwh S0 s R0 W [] W (Cw.start W)).mono fun e W' ⟨he, hw⟩ => ?_
  subst he
  exact ⟨_, rfl, post_law laid rfl rfl Tryz.underlying4 (by rw [Tryz.params6]; intro t ht; simp at ht; rcases ht with rfl | rfl <;> exact ⟨by kernel_rfl, of_decide_eq_true (by kernel_rfl)⟩) hW' hw.below rfl rfl rfl⟩
set_option maxRecDepth 100000 in
theorem BoxesTexts_lifted (os : Os) (started : os.Started) (H : Type) (enc : TypeId × Value → H) (F : Stop.Interp) :
    ReturnsInHanded {} Tryz.checked os 6 .any ((Rows.OpenSpec.upto Rows.boxesTextsSpec).pre6 enc Tryz.prog Tryz.f6 Rows.boxesTextsUptoRow.domain false) (((Rows.OpenSpec.upto Rows.boxesTextsSpec).at F).post enc Tryz.prog Tryz.f6 false true false false) := by
  refine returnsInHanded_of_cond (C := Tryz.checked) (s := Rows.OpenSpec.upto Rows.boxesTextsSpec) (k := Rows.uptoSmall) rfl ownk started (by kernel_rfl) Tryz.func6
    (OpenSpec.witness (enc := enc) (C := Tryz.checked) (s := Rows.OpenSpec.upto Rows.boxesTextsSpec) (k := Rows.uptoSmall) rfl false ⟨#[], #[.agg #[.slice none 0 0], .string ⟨#[]⟩],[]⟩ 8 (by kernel_rfl) (by kernel_rfl) (by kernel_rfl)
      (x := ([.agg [.nil], .lit (.string [])],[],[])) (by kernel_rfl) rfl (by kernel_rfl)) ?_
  intro W base args ds gs before hval hW _ hk _
  exact zqm H enc W base args ds gs before hval hW hk
theorem BoxesTexts_holds : Rows.BoxesTextsUptoSaid :=
  OpenClaim.holds_of_cond 6 Tryz.f6 rfl rfl rfl rfl rfl rfl rfl ⟨rfl, rfl, rfl, rfl, rfl⟩ rfl rfl rfl rfl rfl (by kernel_rfl) Tryz.func6 (by kernel_rfl)
    (of_decide_eq_true (by kernel_rfl)) (by unfold Func.isWrapper; first | (rw [if_pos (by decide +kernel)]; kernel_rfl) | (rw [if_neg (by decide +kernel)]; exact ⟨rfl, rfl⟩))
    (fun os started H enc _ F => BoxesTexts_lifted os started H enc F)
end Go.Proofs.YteicdfkmpnmkmaaGreat
