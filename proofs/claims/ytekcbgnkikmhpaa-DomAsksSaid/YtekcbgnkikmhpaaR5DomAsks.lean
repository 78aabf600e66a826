/-
  Walks and laws of this seat; the base is the text Base.
-/
import Derived.Test.YtekcbgnkikmhpaaO5
import Derived.Test.YtekcbgnkikmhpaaPS
import Derived.Test.YtekcbgnkikmhpaaRows
/-
  Models of functions, and that the functions compute them. Printed by lift.py.
-/
namespace Go.Proofs.Ytekcbgnkikmhpaa
open Go.RowKit Go.Sl Go.ChangeShapes Go.WideShapes Go.ChangeAt

set_option maxRecDepth 100000 in
theorem DomAsks_lifted (os : Os) (started : os.Started) (H : Type) (enc : TypeId × Value → H) :
    ReturnsInHanded {} Try.checked os 9 .any (Rows.domAsksSpec.pre6 enc Try.prog Try.f9 Rows.domAsksRow.domain false) (Rows.domAsksSpec.post enc Try.prog Try.f9 false true false false) := by
  refine returnsInHanded_of_change_sized (C := Try.checked) ownk started (by kernel_rfl) Try.func9
    (ChangeSpec.witness6 (enc := enc) (C := Try.checked) false ⟨#[], #[.agg #[.slice none 0 0], .int .i64 0, .int .i64 0, .int .i64 0, .string ByteArray.empty], []⟩ 8 (by kernel_rfl) (by kernel_rfl) (by kernel_rfl) (by kernel_rfl)) ?_
  intro W base args ds gs before hval0 hW _ hsz0 _
  have hsz : (DataW.weightsEach Try.prog (Try.f9.params.toList ++ Rows.domAsksSpec.plain.varTypes Try.prog) (ds ++ gs)).all (· ≤ reachBytes) = true := hsz0
  clear hsz0
  have hval : ∀ (j : Nat) t v, Try.f9.params[j]? = some t → args[j]? = some v → Value.okWide Try.prog W .any base t v := hval0
  clear hval0
  have hW' := hW
  obtain ⟨p, q, hA0, hV, rfl, _, _⟩ := hW
  have hA : DataW.TrodAll enc Try.prog W 0 (fun _ => true) true Try.f9.params.toList args.toList ds p := hA0
  rw [Try.params9] at hA hval hsz
  obtain ⟨v0, vs0, d0, ds0, p0, q0, hargs, rfl, rfl, h0, r0⟩ := trodAll_cons hA
  obtain ⟨v1, vs1, d1, ds1, p1, q1, rfl, rfl, rfl, h1, r1⟩ := trodAll_cons r0
  obtain ⟨v2, vs2, d2, ds2, p2, q2, rfl, rfl, rfl, h2, r2⟩ := trodAll_cons r1
  obtain ⟨v3, vs3, d3, ds3, p3, q3, rfl, rfl, rfl, h3, r3⟩ := trodAll_cons r2
  obtain ⟨v4, vs4, d4, ds4, p4, q4, rfl, rfl, rfl, h4, r4⟩ := trodAll_cons r3
  obtain ⟨rfl, rfl, rfl⟩ := trodAll_nil r4
  obtain rfl : args = #[v0, v1, v2, v3, v4] := by cases args; simp_all
  obtain ⟨rfl, rfl⟩ := trodVars_none hV
  obtain ⟨fu0, ht0⟩ := h0
  obtain ⟨cs0, rfl⟩ := okWide_agg Try.underlying24 (hval 0 24 v0 rfl rfl)
  obtain ⟨x0, R0, S0⟩ := (open_api_Tree _) H enc W fu0 _ _ (Nat.le_refl _) ht0 (mem_of_all hsz (j := 0) rfl rfl)
  replace R0 : t_api_Tree.R (whole W) cs0 x0 := R0
  obtain ⟨fu1, ht1⟩ := h1
  obtain ⟨z1, rfl⟩ := okWide_int Try.underlying3 (hval 1 3 v1 rfl rfl)
  obtain ⟨x1, R1, S1⟩ := (op_int Try.underlying3) H enc W fu1 _ _ (Nat.le_refl _) ht1 (mem_of_all hsz (j := 1) rfl rfl)
  obtain ⟨R1, _⟩ := List.cons.inj (show [Value.int .i64 z1] = [Value.int .i64 x1] from R1)
  cases R1
  obtain ⟨fu2, ht2⟩ := h2
  obtain ⟨z2, rfl⟩ := okWide_int Try.underlying3 (hval 2 3 v2 rfl rfl)
  obtain ⟨x2, R2, S2⟩ := (op_int Try.underlying3) H enc W fu2 _ _ (Nat.le_refl _) ht2 (mem_of_all hsz (j := 2) rfl rfl)
  obtain ⟨R2, _⟩ := List.cons.inj (show [Value.int .i64 z2] = [Value.int .i64 x2] from R2)
  cases R2
  obtain ⟨fu3, ht3⟩ := h3
  obtain ⟨z3, rfl⟩ := okWide_int Try.underlying3 (hval 3 3 v3 rfl rfl)
  obtain ⟨x3, R3, S3⟩ := (op_int Try.underlying3) H enc W fu3 _ _ (Nat.le_refl _) ht3 (mem_of_all hsz (j := 3) rfl rfl)
  obtain ⟨R3, _⟩ := List.cons.inj (show [Value.int .i64 z3] = [Value.int .i64 x3] from R3)
  cases R3
  obtain ⟨fu4, ht4⟩ := h4
  obtain ⟨z4, rfl⟩ := okWide_string Try.underlying9 (hval 4 9 v4 rfl rfl)
  obtain ⟨x4, R4, S4⟩ := (op_str Try.underlying9) H enc W fu4 _ _ (Nat.le_refl _) ht4 (mem_of_all hsz (j := 4) rfl rfl)
  obtain ⟨R4, _⟩ := List.cons.inj (show [Value.string z4] = [Value.string x4] from R4)
  cases R4
  obtain ⟨fuel, hm⟩ := law5_DomAsks_true S0 S1 S2 S3 S4
  refine (law5_DomAsks_ok fuel R0 hm W [] W (Cw.start W)).mono fun e W' ⟨he, hw⟩ => ?_
  subst he
  exact ⟨_, rfl, post_law laid rfl rfl Try.underlying4 (by rw [Try.params9]; intro t ht; simp at ht; rcases ht with rfl | rfl | rfl <;> exact ⟨by kernel_rfl, of_decide_eq_true (by kernel_rfl)⟩) hW' hw.below rfl rfl rfl⟩

theorem DomAsks_holds : Rows.DomAsksSaid :=
  OpenClaim.holds_of_wide 9 Try.f9 rfl rfl rfl rfl rfl rfl rfl ⟨rfl, rfl, rfl, rfl, rfl⟩ rfl rfl rfl rfl rfl (by kernel_rfl) Try.func9 (by kernel_rfl)
    (of_decide_eq_true (by kernel_rfl)) (by unfold Func.isWrapper; first | (rw [if_pos (by decide +kernel)]; kernel_rfl) | (rw [if_neg (by decide +kernel)]; exact ⟨rfl, rfl⟩))
    (fun os started H enc _ => DomAsks_lifted os started H enc)

end Go.Proofs.Ytekcbgnkikmhpaa
