/-
  Walks and laws of this seat; the base is the text Base.
-/
import Derived.Test.YtmkcglpeidbblaaDoorD10
import Derived.Test.YtmkcglpeidbblaaDoorP10
import Derived.Test.YtmkcglpeidbblaaDoorL10vl
import Derived.Test.YtmkcglpeidbblaaDoorQ10A
import Derived.Test.YtmkcglpeidbblaaDoorRows
/-
  Models of functions, and that the functions compute them. Printed by lift.py.
-/
namespace Go.Proofs.YtmkcglpeidbblaaDoor
open Go.RowKit Go.Sl Go.ChangeShapes Go.WideShapes Go.ChangeAt
set_option maxRecDepth 100000 in
theorem MatchLess_contract (H : Type) (enc : TypeId × Value → H) (W : World) (base : Nat) (args : Array Value) (ds gs : List (DataW H)) (before : List MemPlace)
    (hval : ∀ (j : Nat) t v, Tryd.f6.params[j]? = some t → args[j]? = some v → Value.okWide Tryd.prog W .any base t v)
    (hW : DataW.Whole enc Tryd.prog Tryd.f6.params.toList Rows.matchLessSpec.vars false W args.toList ds gs before)
    (hsz : (DataW.weightsEach Tryd.prog (Tryd.f6.params.toList ++ Rows.matchLessSpec.plain.varTypes Tryd.prog) (ds ++ gs)).all (· ≤ reachBytes) = true)
    (hL : laidMetH Tryd.prog Rows.matchLessRow.laid W) :
    Calls Tryd.prog 6 args W fun e W' => ∃ v, e = .returned v ∧ Rows.matchLessSpec.post enc Tryd.prog Tryd.f6 false true false false W args v W' := by
  obtain ⟨o0, o1, hT0, hT1, hTT⟩ := tabs_start hL
  have hW' := hW
  obtain ⟨p, q, hA0, hV, rfl, _, _⟩ := hW
  have hA : DataW.TrodAll enc Tryd.prog W 0 (fun _ => true) true Tryd.f6.params.toList args.toList ds p := hA0
  rw [Tryd.params6] at hA hval hsz
  obtain ⟨v0, vs0, d0, ds0, p0, q0, hargs, rfl, rfl, h0, r0⟩ := trodAll_cons hA
  obtain ⟨v1, vs1, d1, ds1, p1, q1, rfl, rfl, rfl, h1, r1⟩ := trodAll_cons r0
  obtain ⟨v2, vs2, d2, ds2, p2, q2, rfl, rfl, rfl, h2, r2⟩ := trodAll_cons r1
  obtain ⟨rfl, rfl, rfl⟩ := trodAll_nil r2
  obtain rfl : args = #[v0, v1, v2] := by cases args; simp_all
  obtain ⟨rfl, rfl⟩ := trodVars_none hV
  obtain ⟨fu0, ht0⟩ := h0
  obtain ⟨cs0, rfl⟩ := okWide_agg Tryd.underlying53 (hval 0 53 v0 rfl rfl)
  obtain ⟨x0, R0, S0⟩ := (open_match_Weight _) H enc W fu0 _ _ (Nat.le_refl _) ht0 (mem_of_all hsz (j := 0) rfl rfl)
  replace R0 : t_match_Weight.R (whole W) cs0 x0 := R0
  obtain ⟨fu1, ht1⟩ := h1
  obtain ⟨cs1, rfl⟩ := okWide_agg Tryd.underlying53 (hval 1 53 v1 rfl rfl)
  obtain ⟨x1, R1, S1⟩ := (open_match_Weight _) H enc W fu1 _ _ (Nat.le_refl _) ht1 (mem_of_all hsz (j := 1) rfl rfl)
  replace R1 : t_match_Weight.R (whole W) cs1 x1 := R1
  obtain ⟨fu2, ht2⟩ := h2
  obtain ⟨cs2, rfl⟩ := okWide_agg Tryd.underlying53 (hval 2 53 v2 rfl rfl)
  obtain ⟨x2, R2, S2⟩ := (open_match_Weight _) H enc W fu2 _ _ (Nat.le_refl _) ht2 (mem_of_all hsz (j := 2) rfl rfl)
  replace R2 : t_match_Weight.R (whole W) cs2 x2 := R2
  obtain ⟨fuel, hm⟩ := law10_MatchLess_true S0 S1 S2
  refine (law10_MatchLess_ok fuel hT0 hT1 hTT R0 R1 R2 hm W [] W (Cw.start W)).mono fun e W' ⟨he, hw⟩ => ?_
  subst he
  exact ⟨_, rfl, post_law laid rfl rfl Tryd.underlying4 (by rw [Tryd.params6]; intro t ht; simp at ht; subst ht; exact ⟨by kernel_rfl, of_decide_eq_true (by kernel_rfl)⟩) hW' hw.below rfl rfl rfl⟩
theorem MatchLess_reads (os : Os) {H : Type} (enc : TypeId × Value → H) : ∃ places, DataW.whole enc Tryd.prog ((laidWorld os).forCall (fun _ _ => 0) ⟨#[], #[.agg #[.int .i64 0, .int .i64 0, .int .i64 0], .agg #[.int .i64 0, .int .i64 0, .int .i64 0], .agg #[.int .i64 0, .int .i64 0, .int .i64 0]], []⟩).memory Tryd.f6.params.toList Rows.matchLessSpec.vars false (#[.agg #[.int .i64 0, .int .i64 0, .int .i64 0], .agg #[.int .i64 0, .int .i64 0, .int .i64 0], .agg #[.int .i64 0, .int .i64 0, .int .i64 0]] : Array Value).toList 8 = some ([.agg [.lit (.int .i64 0), .lit (.int .i64 0), .lit (.int .i64 0)], .agg [.lit (.int .i64 0), .lit (.int .i64 0), .lit (.int .i64 0)], .agg [.lit (.int .i64 0), .lit (.int .i64 0), .lit (.int .i64 0)]], [], places) :=
  ⟨[], by kernel_rfl⟩
set_option maxRecDepth 100000 in
theorem MatchLess_lifted (os : Os) (started : os.Started) (H : Type) (enc : TypeId × Value → H) (F : Stop.Interp) :
    ReturnsInHanded {} Tryd.checked os 6 .any ((OpenSpec.ofChange Rows.matchLessSpec).preRow enc Tryd.prog Tryd.f6 Rows.matchLessRow.domain false Rows.matchLessRow.laid) (((OpenSpec.ofChange Rows.matchLessSpec).at F).post enc Tryd.prog Tryd.f6 false true false false) := by
  obtain ⟨places, hx⟩ := MatchLess_reads os enc
  refine returnsInHanded_of_row (C := Tryd.checked) (s := OpenSpec.ofChange Rows.matchLessSpec) ownk started (by kernel_rfl) Tryd.func6
    (witness_row_at (enc := enc) (C := Tryd.checked) false (laidWorld os) #[.agg #[.int .i64 0, .int .i64 0, .int .i64 0], .agg #[.int .i64 0, .int .i64 0, .int .i64 0], .agg #[.int .i64 0, .int .i64 0, .int .i64 0]] rfl (by kernel_rfl) (by kernel_rfl) (by kernel_rfl)
      (OpenSpec.preRow_of_cond 8 hx (by kernel_rfl) (fun k hk => by cases hk) (by kernel_rfl) (laid_met os _))) ?_
  intro W base args ds gs before hval hW _ _ hsz hL _ _
  exact MatchLess_contract H enc W base args ds gs before hval hW hsz hL
theorem MatchLess_said : Rows.MatchLessSaid :=
  OpenClaim.holds_of_cond 6 Tryd.f6 rfl rfl rfl rfl rfl rfl rfl ⟨rfl, rfl, rfl, rfl, rfl⟩ rfl rfl rfl rfl rfl (by kernel_rfl) Tryd.func6 (by kernel_rfl)
    (of_decide_eq_true (by kernel_rfl)) (by unfold Func.isWrapper; first | (rw [if_pos (by decide +kernel)]; kernel_rfl) | (rw [if_neg (by decide +kernel)]; exact ⟨rfl, rfl⟩))
    (fun os started H enc _ F => by rw [OpenClaim.pre_eq_preRow]; exact MatchLess_lifted os started H enc F)
theorem MatchLess_holds : Rows.MatchLessCardSaid :=
  Claim7.holds_tied_plain_at .later [] _ _ _ _ MatchLess_said (fun _ h => by cases h) (by kernel_rfl) (fun _ h => by cases h) matchLess_row_tie rfl ⟨rfl, rfl⟩ (by kernel_rfl) rfl (fun f fn hf hfn => by
    obtain rfl : f = 6 := Option.some.inj (hf.symm.trans (by kernel_rfl))
    obtain rfl : fn = Tryd.f6 := (Option.some.inj (Tryd.func6.symm.trans hfn)).symm
    refine ⟨by kernel_rfl, fun j t ht => ?_⟩
    rw [Tryd.params6] at ht; have hm := Array.mem_of_getElem? ht; simp only [List.mem_toArray, List.mem_cons, List.mem_nil_iff, or_false] at hm; rcases hm with rfl | rfl | rfl <;> exact (show Tryd.prog.wantsStandIn _ = false by kernel_rfl)) (by kernel_rfl)
end Go.Proofs.YtmkcglpeidbblaaDoor
