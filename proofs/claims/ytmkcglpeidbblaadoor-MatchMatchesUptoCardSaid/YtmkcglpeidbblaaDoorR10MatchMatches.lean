/-
  Walks and laws of this seat; the base is the text Base.
-/
import Derived.Test.YtmkcglpeidbblaaDoorD10
import Derived.Test.YtmkcglpeidbblaaDoorP10
import Derived.Test.YtmkcglpeidbblaaDoorL10vm
import Derived.Test.YtmkcglpeidbblaaDoorQ10M
import Derived.Test.YtmkcglpeidbblaaDoorRows
/-
  Models of functions, and that the functions compute them. Printed by lift.py.
-/
namespace Go.Proofs.YtmkcglpeidbblaaDoor
open Go.RowKit Go.Sl Go.ChangeShapes Go.WideShapes Go.ChangeAt
set_option maxRecDepth 100000 in
theorem MatchMatches_contract (H : Type) (enc : TypeId × Value → H) (W : World) (base : Nat) (args : Array Value) (ds gs : List (DataW H)) (before : List MemPlace)
    (hval : ∀ (j : Nat) t v, Tryd.f7.params[j]? = some t → args[j]? = some v → Value.okWide Tryd.prog W .any base t v)
    (hW : DataW.Whole enc Tryd.prog Tryd.f7.params.toList Rows.matchMatchesSpec.vars false W args.toList ds gs before)
    (hsz : Rows.uptoSmall H (ds ++ gs) = true)
    (hL : laidMetH Tryd.prog Rows.matchLessRow.laid W) :
    Calls Tryd.prog 7 args W fun e W' => ∃ v, e = .returned v ∧ Rows.matchMatchesSpec.post enc Tryd.prog Tryd.f7 false true false false W args v W' := by
  obtain ⟨o0, o1, hT0, hT1, hTT⟩ := tabs_start hL
  have hW' := hW
  obtain ⟨p, q, hA0, hV, rfl, _, _⟩ := hW
  have hA : DataW.TrodAll enc Tryd.prog W 0 (fun _ => true) true Tryd.f7.params.toList args.toList ds p := hA0
  rw [Tryd.params7] at hA hval
  obtain ⟨v0, vs0, d0, ds0, p0, q0, hargs, rfl, rfl, h0, r0⟩ := trodAll_cons hA
  obtain ⟨v1, vs1, d1, ds1, p1, q1, rfl, rfl, rfl, h1, r1⟩ := trodAll_cons r0
  obtain ⟨v2, vs2, d2, ds2, p2, q2, rfl, rfl, rfl, h2, r2⟩ := trodAll_cons r1
  obtain ⟨rfl, rfl, rfl⟩ := trodAll_nil r2
  obtain rfl : args = #[v0, v1, v2] := by cases args; simp_all
  obtain ⟨rfl, rfl⟩ := trodVars_none hV
  obtain ⟨fu0, ht0⟩ := h0
  obtain ⟨cs0, rfl⟩ := okWide_agg Tryd.underlying24 (hval 0 24 v0 rfl rfl)
  obtain ⟨x0, R0, S0⟩ := (openb_api_Tree _) H enc W fu0 _ _ (Nat.le_refl _) ht0 (bulk_arg hsz (j := 0) rfl)
  replace R0 : t_api_Tree.R (whole W) cs0 x0 := R0
  obtain ⟨fu1, ht1⟩ := h1
  obtain ⟨ao1, ln1, cp1, rfl⟩ := okWide_slice Tryd.underlying31 (hval 1 31 v1 rfl rfl)
  obtain ⟨x1, R1, S1⟩ := (opb_sl Tryd.underlying31 (show Tryd.prog.cellsOf 27 = 1 from by kernel_rfl) (by decide) (openb_sheet_Selector _)) H enc W fu1 _ _ (Nat.le_refl _) ht1 (bulk_arg hsz (j := 1) rfl)
  obtain ⟨_, R1, Q1⟩ : ∃ v, [Value.slice ao1 ln1 cp1] = [v] ∧ RS t_sheet_Selector (whole W) v x1 := R1
  obtain ⟨rfl, _⟩ := List.cons.inj R1
  obtain ⟨fu2, ht2⟩ := h2
  obtain ⟨z2, rfl⟩ := okWide_int Tryd.underlying3 (hval 2 3 v2 rfl rfl)
  obtain ⟨x2, R2, S2⟩ := (opb_int Tryd.underlying3) H enc W fu2 _ _ (Nat.le_refl _) ht2 (bulk_arg hsz (j := 2) rfl)
  obtain ⟨R2, _⟩ := List.cons.inj (show [Value.int .i64 z2] = [Value.int .i64 x2] from R2)
  cases R2
  obtain ⟨fuel, hm⟩ := law10_MatchMatches_true S0 S1 S2
  refine (law10_MatchMatches_ok fuel hT0 hT1 hTT R0 Q1 hm W [] W (Cw.start W)).mono fun e W' ⟨he, hw⟩ => ?_
  subst he
  exact ⟨_, rfl, post_law laid rfl rfl Tryd.underlying4 (by rw [Tryd.params7]; intro t ht; simp at ht; rcases ht with rfl | rfl | rfl <;> exact ⟨by kernel_rfl, of_decide_eq_true (by kernel_rfl)⟩) hW' hw.below rfl rfl rfl⟩
theorem MatchMatches_reads (os : Os) {H : Type} (enc : TypeId × Value → H) : ∃ places, DataW.whole enc Tryd.prog ((laidWorld os).forCall (fun _ _ => 0) ⟨#[], #[.agg #[.slice none 0 0], .slice none 0 0, .int .i64 0], []⟩).memory Tryd.f7.params.toList Rows.matchMatchesSpec.vars false (#[.agg #[.slice none 0 0], .slice none 0 0, .int .i64 0] : Array Value).toList 8 = some ([.agg [.nil], .nil, .lit (.int .i64 0)], [], places) :=
  ⟨[], by kernel_rfl⟩
set_option maxRecDepth 100000 in
theorem MatchMatches_lifted (os : Os) (started : os.Started) (H : Type) (enc : TypeId × Value → H) (F : Stop.Interp) :
    ReturnsInHanded {} Tryd.checked os 7 .any ((Rows.OpenSpec.upto Rows.matchMatchesSpec).preRow enc Tryd.prog Tryd.f7 Rows.matchMatchesUptoRow.domain false Rows.matchMatchesUptoRow.laid) (((Rows.OpenSpec.upto Rows.matchMatchesSpec).at F).post enc Tryd.prog Tryd.f7 false true false false) := by
  obtain ⟨places, hx⟩ := MatchMatches_reads os enc
  refine returnsInHanded_of_row (C := Tryd.checked) (s := Rows.OpenSpec.upto Rows.matchMatchesSpec) ownk started (by kernel_rfl) Tryd.func7
    (witness_row_at (enc := enc) (C := Tryd.checked) false (laidWorld os) #[.agg #[.slice none 0 0], .slice none 0 0, .int .i64 0] rfl (by kernel_rfl) (by kernel_rfl) (by kernel_rfl)
      (OpenSpec.preRow_of_cond 8 hx (by kernel_rfl) (fun k hk => by cases hk; kernel_rfl) (by kernel_rfl) (laid_met os _))) ?_
  intro W base args ds gs before hval hW _ hcond _ hL _ _
  exact MatchMatches_contract H enc W base args ds gs before hval hW (hcond _ rfl) hL
theorem MatchMatches_said : Rows.MatchMatchesUptoSaid :=
  OpenClaim.holds_of_cond 7 Tryd.f7 rfl rfl rfl rfl rfl rfl rfl ⟨rfl, rfl, rfl, rfl, rfl⟩ rfl rfl rfl rfl rfl (by kernel_rfl) Tryd.func7 (by kernel_rfl)
    (of_decide_eq_true (by kernel_rfl)) (by unfold Func.isWrapper; first | (rw [if_pos (by decide +kernel)]; kernel_rfl) | (rw [if_neg (by decide +kernel)]; exact ⟨rfl, rfl⟩))
    (fun os started H enc _ F => by rw [OpenClaim.pre_eq_preRow]; exact MatchMatches_lifted os started H enc F)
theorem MatchMatches_holds : Rows.MatchMatchesUptoCardSaid :=
  Claim7.holds_tied_plain_at .later [] _ _ _ _ MatchMatches_said (fun _ h => by cases h) (by kernel_rfl) (fun _ h => by cases h) matchMatchesUpto_row_tie rfl ⟨rfl, rfl⟩ (by kernel_rfl) rfl (fun f fn hf hfn => by
    obtain rfl : f = 7 := Option.some.inj (hf.symm.trans (by kernel_rfl))
    obtain rfl : fn = Tryd.f7 := (Option.some.inj (Tryd.func7.symm.trans hfn)).symm
    refine ⟨by kernel_rfl, fun j t ht => ?_⟩
    rw [Tryd.params7] at ht; have hm := Array.mem_of_getElem? ht; simp only [List.mem_toArray, List.mem_cons, List.mem_nil_iff, or_false] at hm; rcases hm with rfl | rfl | rfl <;> exact (show Tryd.prog.wantsStandIn _ = false by kernel_rfl)) (by kernel_rfl)
end Go.Proofs.YtmkcglpeidbblaaDoor
