/-
  The law WriteBack: a canonical tree, written, decoded and parsed, is itself, where what comes in is of bulk at most 1048576.
-/
import Derived.Test.YtpfdbeafdjnbnaaGreatDoorD7t
import Derived.Test.YtpfdbeafdjnbnaaGreatDoorX41
import Derived.Test.YtpfdbeafdjnbnaaGreatDoorRows
namespace Go.Proofs.YtpfdbeafdjnbnaaGreatDoor
set_option linter.unusedVariables false
set_option linter.unusedSimpArgs false
set_option linter.unusedSectionVars false
open Go.RowKit Go.Sl Go.ChangeShapes Go.WideShapes Go.ChangeAt
set_option maxRecDepth 100000 in
theorem zmf (H : Type) (enc : TypeId × Value → H) (W : World) (base : Nat) (args : Array Value) (ds gs : List (DataW H)) (before : List MemPlace)
    (hval : ∀ (j : Nat) t v, Tryz.f4.params[j]? = some t → args[j]? = some v → Value.okWide Tryz.prog W .any base t v)
    (hW : DataW.Whole enc Tryz.prog Tryz.f4.params.toList Rows.writeBackSpec.vars false W args.toList ds gs before)
    (hsz : Rows.uptoSmall H (ds ++ gs) = true)
    (hL : laidMetH Tryz.prog Rows.writeBackRow.laid W) :
    Calls Tryz.prog 4 args W fun e W' => ∃ v, e = .returned v ∧ Rows.writeBackSpec.post enc Tryz.prog Tryz.f4 false true false false W args v W' := by
  obtain ⟨o0, o1, hT0, hT1, hTT⟩ := zti hL
  have hW' := hW
  obtain ⟨p, q, hA0, hV, rfl, _, _⟩ := hW
  have hA : DataW.TrodAll enc Tryz.prog W 0 (fun _ => true) true Tryz.f4.params.toList args.toList ds p := hA0
  rw [Tryz.params4] at hA hval
  obtain ⟨v0, vs0, d0, ds0, p0, q0, hargs, rfl, rfl, h0, r0⟩ := trodAll_cons hA
  obtain ⟨rfl, rfl, rfl⟩ := trodAll_nil r0
  obtain rfl : args = #[v0] := by cases args; simp_all
  obtain ⟨rfl, rfl⟩ := trodVars_none hV
  obtain ⟨fu0, ht0⟩ := h0
  obtain ⟨cs0, rfl⟩ := ztm U30 (hval 0 30 v0 rfl rfl)
  obtain ⟨x0, R0, S0⟩ := (zoh _) H enc W fu0 _ _ (Nat.le_refl _) ht0 (bulk_arg hsz (j := 0) rfl)
  replace R0 : zcz.R (whole W) cs0 x0 := R0
  obtain ⟨fuel, hm⟩ := zln S0
  refine (zms fuel hT0 hT1 hTT R0 hm W [] W (Cw.start W)).mono fun e W' ⟨he, hw⟩ => ?_
  subst he
  exact ⟨_, rfl, post_law laid rfl rfl U4 (by rw [Tryz.params4]; intro t ht; simp at ht; subst ht; exact ⟨by kernel_rfl, of_decide_eq_true (by kernel_rfl)⟩) hW' hw.below rfl rfl rfl⟩
theorem zo8 (os : Os) {H : Type} (enc : TypeId × Value → H) : ∃ places, DataW.whole enc Tryz.prog ((laidWorld os).forCall (fun _ _ => 0) ⟨#[], #[.agg #[.slice none 0 0]],[]⟩).memory Tryz.f4.params.toList Rows.writeBackSpec.vars false (#[.agg #[.slice none 0 0]] : Array Value).toList 8 = some ([.agg [.nil]],[], places) :=
  ⟨[], by kernel_rfl⟩
set_option maxRecDepth 100000 in
theorem WriteBack_lifted (os : Os) (started : os.Started) (H : Type) (enc : TypeId × Value → H) (F : Stop.Interp) :
    ReturnsInHanded {} Tryz.checked os 4 .any ((Rows.OpenSpec.upto Rows.writeBackSpec).preRow enc Tryz.prog Tryz.f4 Rows.writeBackUptoRow.domain false Rows.writeBackUptoRow.laid) (((Rows.OpenSpec.upto Rows.writeBackSpec).at F).post enc Tryz.prog Tryz.f4 false true false false) := by
  obtain ⟨places, hx⟩ := zo8 os enc
  refine returnsInHanded_of_row (C := Tryz.checked) (s := Rows.OpenSpec.upto Rows.writeBackSpec) ownk started (by kernel_rfl) Tryz.func4
    (witness_row_at (enc := enc) (C := Tryz.checked) false (laidWorld os) #[.agg #[.slice none 0 0]] rfl (by kernel_rfl) (by kernel_rfl) (by kernel_rfl)
      (OpenSpec.preRow_of_cond 8 hx (by kernel_rfl) (fun k hk => by cases hk; kernel_rfl) (by kernel_rfl) (laid_met os _))) ?_
  intro W base args ds gs before hval hW _ hcond _ hL _ _
  exact zmf H enc W base args ds gs before hval hW (hcond _ rfl) hL
theorem zop : Rows.WriteBackUptoSaid :=
  OpenClaim.holds_of_cond 4 Tryz.f4 rfl rfl rfl rfl rfl rfl rfl ⟨rfl, rfl, rfl, rfl, rfl⟩ rfl rfl rfl rfl rfl (by kernel_rfl) Tryz.func4 (by kernel_rfl)
    (of_decide_eq_true (by kernel_rfl)) (by unfold Func.isWrapper; first | (rw [if_pos (by decide +kernel)]; kernel_rfl) | (rw [if_neg (by decide +kernel)]; exact ⟨rfl, rfl⟩))
    (fun os started H enc _ F => by rw [OpenClaim.pre_eq_preRow]; exact WriteBack_lifted os started H enc F)
theorem WriteBack_holds : Rows.WriteBackUptoCardSaid :=
  Claim7.holds_tied_plain_at .later [] _ _ _ _ zop (fun _ h => by cases h) (by kernel_rfl) (fun _ h => by cases h) writeBackUpto_row_tie rfl ⟨rfl, rfl⟩ (by kernel_rfl) rfl (fun f fn hf hfn => by
    obtain rfl : f = 4 := Option.some.inj (hf.symm.trans (by kernel_rfl))
    obtain rfl : fn = Tryz.f4 := (Option.some.inj (Tryz.func4.symm.trans hfn)).symm
    refine ⟨by kernel_rfl, fun j t ht => ?_⟩
    rw [Tryz.params4] at ht; have hm := Array.mem_of_getElem? ht; simp only [List.mem_toArray, List.mem_cons, List.mem_nil_iff, or_false] at hm; subst hm; exact (show Tryz.prog.wantsStandIn _ = false by kernel_rfl)) (by kernel_rfl)
end Go.Proofs.YtpfdbeafdjnbnaaGreatDoor
