/-
  The law BoxesKept: what boxes.Build hands back is new memory each time, where what comes in is of bulk at most 1048576.
-/
import Derived.Test.YteicdfkmpnmkmaaGreatI1
import Derived.Test.YteicdfkmpnmkmaaGreatPV
import Derived.Test.YteicdfkmpnmkmaaGreatNK
import Derived.JoinedCond
namespace Go.Proofs.YteicdfkmpnmkmaaGreat
set_option linter.unusedVariables false
set_option linter.unusedSimpArgs false
set_option linter.unusedSectionVars false
open Go.RowKit Go.Sl Go.V Go.ChangeShapes Go.WideShapes Go.ChangeAt
theorem ownk : ownKnob Tryz.prog.godebug = none := by kernel_rfl
theorem laid : laidOutB Tryz.prog = true := by kernel_rfl
@[reducible] def noF0 : F0 := ⟨fun _ => none⟩
theorem yav {t : TreT} (hb : BulkT t) (s : ByteArray) {f : Fz} {v0 : Value} (hT : @TC.R noF0 cTreT f [v0] t) (h1 : v0.oneCell' = true) : Gives Tryz.prog 5 [.agg #[v0], .string s] f (.bool true) := by
  obtain ⟨y, hy, K1, e1⟩ := kept_T hb (s := s)
  obtain ⟨z, hz, K2, e2⟩ := known_TE
  subst hz
  by_cases h : y.2 = true
  · obtain ⟨s2, l, ⟨_, rfl, K3, e3⟩, ⟨_, rfl, K4, e4⟩, ⟨_, rfl, K5, e5⟩, ha, ⟨_, rfl, K6, e6⟩⟩ := hy h
    let k := K1 + K2 + K3 + K4 + K5 + K6
    exact @zxr noF0 k f (fun b o e => by cases e) t s y (e1 k k (by omega) (by omega)) (fun _ => ⟨_, _,(y.1, true), e3 k k (by omega) (by omega), e4 k k (by omega) (by omega), e5 k k (by omega) (by omega), ha, e6 k k (by omega) (by omega)⟩) (e2 k k (by omega) (by omega)) v0 hT h1
  · let k := K1 + K2
    exact @zxr noF0 k f (fun b o e => by cases e) t s y (e1 k k (by omega) (by omega)) (fun h' => absurd h' h) (e2 k k (by omega) (by omega)) v0 hT h1
set_option maxRecDepth 100000 in
theorem zt9 (H : Type) (enc : TypeId × Value → H) (W : World) (base : Nat) (args : Array Value) (ds gs : List (DataW H)) (before : List MemPlace)
    (hval : ∀ (j : Nat) t v, Tryz.f5.params[j]? = some t → args[j]? = some v → Value.okWide Tryz.prog W .any base t v)
    (hW : DataW.Whole enc Tryz.prog Tryz.f5.params.toList Rows.boxesKeptSpec.vars false W args.toList ds gs before)
    (hsz : Rows.uptoSmall H (ds ++ gs) = true) :
    Calls Tryz.prog 5 args W fun e W' => ∃ v, e = .returned v ∧ Rows.boxesKeptSpec.post enc Tryz.prog Tryz.f5 false true false false W args v W' := by
  have hW' := hW
  obtain ⟨p, q, hA0, hV, rfl, _, _⟩ := hW
  have hA : DataW.TrodAll enc Tryz.prog W 0 (fun _ => true) true Tryz.f5.params.toList args.toList ds p := hA0
  rw [Tryz.params5] at hA hval
  obtain ⟨v0, vs0, d0, ds0, p0, q0, hargs, rfl, rfl, h0, r0⟩ := trodAll_cons hA
  obtain ⟨v1, vs1, d1, ds1, p1, q1, rfl, rfl, rfl, h1, r1⟩ := trodAll_cons r0
  obtain ⟨rfl, rfl, rfl⟩ := trodAll_nil r1
  obtain rfl : args = #[v0, v1] := by cases args; simp_all
  obtain ⟨rfl, rfl⟩ := trodVars_none hV
  obtain ⟨fu0, ht0⟩ := h0
  obtain ⟨cs0, rfl⟩ := yed Tryz.underlying37 (hval 0 37 v0 rfl rfl)
  obtain ⟨ns, R0, S0⟩ := (@yea noF0 _) H enc W fu0 _ _ (Nat.le_refl _) ht0 (bulk_arg hsz (j := 0) rfl)
  obtain ⟨c0, hc0⟩ : ∃ v, cs0 = [v] := by
    obtain ⟨r1, r2, e1, ⟨v, rfl, _⟩, e2⟩ := (R0 : @TC.R noF0 cTreT _ _ _)
    exact ⟨v, by rw [show cs0 = _ from e1,(e2 : r2 = [])]; rfl⟩
  subst hc0
  obtain ⟨s, rfl⟩ := okWide_string Tryz.underlying9 (hval 1 9 v1 rfl rfl)
  refine (yav S0 s R0 ((@TC.oneR noF0 cTreT _ _ _ R0).2 _ (.head _)) W [] W (Cw.start W)).mono fun e W' ⟨he, hw⟩ => ?_
  subst he
  exact ⟨_, rfl, post_law laid rfl rfl Tryz.underlying4 (by rw [Tryz.params5]; intro t ht; simp at ht; rcases ht with rfl | rfl <;> exact ⟨by kernel_rfl, of_decide_eq_true (by kernel_rfl)⟩) hW' hw.below rfl rfl rfl⟩
set_option maxRecDepth 100000 in
theorem BoxesKept_lifted (os : Os) (started : os.Started) (H : Type) (enc : TypeId × Value → H) (F : Stop.Interp) :
    ReturnsInHanded {} Tryz.checked os 5 .any ((Rows.OpenSpec.upto Rows.boxesKeptSpec).pre6 enc Tryz.prog Tryz.f5 Rows.boxesKeptUptoRow.domain false) (((Rows.OpenSpec.upto Rows.boxesKeptSpec).at F).post enc Tryz.prog Tryz.f5 false true false false) := by
  refine returnsInHanded_of_cond (C := Tryz.checked) (s := Rows.OpenSpec.upto Rows.boxesKeptSpec) (k := Rows.uptoSmall) rfl ownk started (by kernel_rfl) Tryz.func5
    (OpenSpec.witness (enc := enc) (C := Tryz.checked) (s := Rows.OpenSpec.upto Rows.boxesKeptSpec) (k := Rows.uptoSmall) rfl false ⟨#[], #[.agg #[.slice none 0 0], .string ⟨#[]⟩],[]⟩ 8 (by kernel_rfl) (by kernel_rfl) (by kernel_rfl)
      (x := ([.agg [.nil], .lit (.string [])],[],[])) (by kernel_rfl) rfl (by kernel_rfl)) ?_
  intro W base args ds gs before hval hW _ hk _
  exact zt9 H enc W base args ds gs before hval hW hk
theorem BoxesKept_holds : Rows.BoxesKeptUptoSaid :=
  OpenClaim.holds_of_cond 5 Tryz.f5 rfl rfl rfl rfl rfl rfl rfl ⟨rfl, rfl, rfl, rfl, rfl⟩ rfl rfl rfl rfl rfl (by kernel_rfl) Tryz.func5 (by kernel_rfl)
    (of_decide_eq_true (by kernel_rfl)) (by unfold Func.isWrapper; first | (rw [if_pos (by decide +kernel)]; kernel_rfl) | (rw [if_neg (by decide +kernel)]; exact ⟨rfl, rfl⟩))
    (fun os started H enc _ F => BoxesKept_lifted os started H enc F)
end Go.Proofs.YteicdfkmpnmkmaaGreat
