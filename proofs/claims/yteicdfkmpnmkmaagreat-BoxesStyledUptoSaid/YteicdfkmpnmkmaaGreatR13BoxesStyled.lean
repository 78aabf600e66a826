/-
  The law BoxesStyled: boxes.Build answers as the reference does, for any styles that are as many as nodes, where what comes in is of bulk at most 1048576.
-/
import Derived.Test.YteicdfkmpnmkmaaGreatS13w
import Derived.Test.YteicdfkmpnmkmaaGreatRows
import Derived.JoinedCond
namespace Go.Proofs.YteicdfkmpnmkmaaGreat
set_option linter.unusedVariables false
set_option linter.unusedSimpArgs false
open Go.RowKit Go.Sl Go.ChangeShapes Go.WideShapes Go.ChangeAt
theorem ownk : ownKnob Tryz.prog.godebug = none := by kernel_rfl
theorem laid : laidOutB Tryz.prog = true := by kernel_rfl
theorem RW.sty {f : Fz} : ∀ {rows : List (List Value)} {xs : List Sty}, RW tSty f rows xs → rows = xs ∧ ∀ s ∈ xs, StyTy s
  | [], [], _ => ⟨rfl, by simp⟩
  | _ :: _, _ :: _, h => by
    obtain ⟨⟨rfl, h1⟩, h2⟩ := h
    obtain ⟨rfl, h3⟩ := RW.sty h2
    exact ⟨rfl, fun s hs => by
      rcases List.mem_cons.1 hs with rfl | hs
      · exact h1
      · exact h3 s hs⟩
set_option maxRecDepth 100000 in
theorem BoxesStyled_contract (H : Type) (enc : TypeId × Value → H) (W : World) (base : Nat) (args : Array Value) (ds gs : List (DataW H)) (before : List MemPlace)
    (hval : ∀ (j : Nat) t v, Tryz.f4.params[j]? = some t → args[j]? = some v → Value.okWide Tryz.prog W .any base t v)
    (hW : DataW.Whole enc Tryz.prog Tryz.f4.params.toList Rows.boxesStyledSpec.vars false W args.toList ds gs before)
    (hsz : Rows.uptoSmall H (ds ++ gs) = true) :
    Calls Tryz.prog 4 args W fun e W' => ∃ v, e = .returned v ∧ Rows.boxesStyledSpec.post enc Tryz.prog Tryz.f4 false true false false W args v W' := by
  have hW' := hW
  obtain ⟨p, q, hA0, hV, rfl, _, _⟩ := hW
  have hA : DataW.TrodAll enc Tryz.prog W 0 (fun _ => true) true Tryz.f4.params.toList args.toList ds p := hA0
  rw [Tryz.params4] at hA hval
  obtain ⟨v0, vs0, d0, ds0, p0, q0, hargs, rfl, rfl, h0, r0⟩ := trodAll_cons hA
  obtain ⟨v1, vs1, d1, ds1, p1, q1, rfl, rfl, rfl, h1, r1⟩ := trodAll_cons r0
  obtain ⟨rfl, rfl, rfl⟩ := trodAll_nil r1
  obtain rfl : args = #[v0, v1] := by cases args; simp_all
  obtain ⟨rfl, rfl⟩ := trodVars_none hV
  obtain ⟨fu0, ht0⟩ := h0
  obtain ⟨cs0, rfl⟩ := okWide_agg Tryz.underlying37 (hval 0 37 v0 rfl rfl)
  obtain ⟨⟨ns⟩, R0, S0⟩ := (openb_api_Tree _) H enc W fu0 _ _ (Nat.le_refl _) ht0 (bulk_arg hsz (j := 0) rfl)
  obtain ⟨u0, rfl, hN⟩ : ∃ v, cs0 = [v] ∧ RS t_api_Node (whole W) v ns := R0
  obtain ⟨fu1, ht1⟩ := h1
  obtain ⟨ao1, ln1, cp1, rfl⟩ := okWide_slice Tryz.underlying40 (hval 1 40 v1 rfl rfl)
  obtain ⟨ss, R1, _⟩ := (opb_sl Tryz.underlying40 (show Tryz.prog.cellsOf 28 = 52 from by kernel_rfl) (by decide) (openb_Style _)) H enc W fu1 _ _ (Nat.le_refl _) ht1 (bulk_arg hsz (j := 1) rfl)
  obtain ⟨_, R1, rows, hL, hR⟩ : ∃ v, [Value.slice ao1 ln1 cp1] = [v] ∧ RS tSty (whole W) v ss := R1
  obtain ⟨rfl, _⟩ := List.cons.inj R1
  obtain ⟨rfl, hSS⟩ := RW.sty hR
  refine (styled_ok S0 hN hL hSS W [] W (Cw.start W)).mono fun e W' ⟨he, hw⟩ => ?_
  subst he
  exact ⟨_, rfl, post_law laid rfl rfl Tryz.underlying4 (by rw [Tryz.params4]; intro t ht; simp at ht; rcases ht with rfl | rfl <;> exact ⟨by kernel_rfl, of_decide_eq_true (by kernel_rfl)⟩) hW' hw.below rfl rfl rfl⟩
set_option maxRecDepth 100000 in
theorem BoxesStyled_lifted (os : Os) (started : os.Started) (H : Type) (enc : TypeId × Value → H) (F : Stop.Interp) :
    ReturnsInHanded {} Tryz.checked os 4 .any ((Rows.OpenSpec.upto Rows.boxesStyledSpec).pre6 enc Tryz.prog Tryz.f4 Rows.boxesStyledUptoRow.domain false) (((Rows.OpenSpec.upto Rows.boxesStyledSpec).at F).post enc Tryz.prog Tryz.f4 false true false false) := by
  refine returnsInHanded_of_cond (C := Tryz.checked) (s := Rows.OpenSpec.upto Rows.boxesStyledSpec) (k := Rows.uptoSmall) rfl ownk started (by kernel_rfl) Tryz.func4
    (OpenSpec.witness (enc := enc) (C := Tryz.checked) (s := Rows.OpenSpec.upto Rows.boxesStyledSpec) (k := Rows.uptoSmall) rfl false ⟨#[], #[.agg #[.slice none 0 0], .slice none 0 0], []⟩ 8 (by kernel_rfl) (by kernel_rfl) (by kernel_rfl)
      (x := ([.agg [.nil], .nil], [], [])) (by kernel_rfl) rfl (by kernel_rfl)) ?_
  intro W base args ds gs before hval hW _ hk _
  exact BoxesStyled_contract H enc W base args ds gs before hval hW hk
theorem BoxesStyled_holds : Rows.BoxesStyledUptoSaid :=
  OpenClaim.holds_of_cond 4 Tryz.f4 rfl rfl rfl rfl rfl rfl rfl ⟨rfl, rfl, rfl, rfl, rfl⟩ rfl rfl rfl rfl rfl (by kernel_rfl) Tryz.func4 (by kernel_rfl)
    (of_decide_eq_true (by kernel_rfl)) (by unfold Func.isWrapper; first | (rw [if_pos (by decide +kernel)]; kernel_rfl) | (rw [if_neg (by decide +kernel)]; exact ⟨rfl, rfl⟩))
    (fun os started H enc _ F => BoxesStyled_lifted os started H enc F)
end Go.Proofs.YteicdfkmpnmkmaaGreat
