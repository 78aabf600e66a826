/-
  Walks and laws of this seat; the base is the text Base.
-/
import Derived.Test.YthpokoghhfidpaaC8
import Derived.Test.YthpokoghhfidpaaR2
import Derived.Test.YthpokoghhfidpaaRows
import Derived.Test.YthpokoghhfidpaaT1
namespace Go.Proofs.Ythpokoghhfidpaa
open Go.RowKit Go.Sl Go.ChangeShapes Go.WideShapes Go.ChangeAt

set_option maxRecDepth 100000 in
theorem SourceCursors_lifted (os : Os) (started : os.Started) (H : Type) (enc : TypeId × Value → H) :
    ReturnsInHanded {} Try.checked os 7 .any (Rows.sourceCursorsSpec.pre6 enc Try.prog Try.f7 Rows.sourceCursorsRow.domain false) (Rows.sourceCursorsSpec.post enc Try.prog Try.f7 false true false false) := by
  refine returnsInHanded_of_change_sized (C := Try.checked) ownk started (by kernel_rfl) Try.func7
    (ChangeSpec.witness6 (enc := enc) (C := Try.checked) false ⟨#[], #[.slice none 0 0, .slice none 0 0], []⟩ 8 (by kernel_rfl) (by kernel_rfl) (by kernel_rfl) (by kernel_rfl)) ?_
  intro W base args ds gs before hval0 hW _ hsz0 _
  have hsz : (DataW.weightsEach Try.prog (Try.f7.params.toList ++ Rows.sourceCursorsSpec.plain.varTypes Try.prog) (ds ++ gs)).all (· ≤ reachBytes) = true := hsz0
  clear hsz0
  have hval : ∀ (j : Nat) t v, Try.f7.params[j]? = some t → args[j]? = some v → Value.okWide Try.prog W .any base t v := hval0
  clear hval0
  have hW' := hW
  obtain ⟨p, q, hA0, hV, rfl, _, _⟩ := hW
  have hA : DataW.TrodAll enc Try.prog W 0 (fun _ => true) true Try.f7.params.toList args.toList ds p := hA0
  rw [Try.params7] at hA hval hsz
  obtain ⟨v0, vs0, d0, ds0, p0, q0, hargs, rfl, rfl, h0, r0⟩ := trodAll_cons hA
  obtain ⟨v1, vs1, d1, ds1, p1, q1, rfl, rfl, rfl, h1, r1⟩ := trodAll_cons r0
  obtain ⟨rfl, rfl, rfl⟩ := trodAll_nil r1
  obtain rfl : args = #[v0, v1] := by cases args; simp_all
  obtain ⟨rfl, rfl⟩ := trodVars_none hV
  obtain ⟨zs0, hR0, hwz0, hd0⟩ := open_row Try.underlying42 Try.underlying3 (show Try.prog.cellsOf 3 = 1 from by kernel_rfl) h0 (okWide_slice Try.underlying42 (hval 0 42 v0 rfl rfl))
  have hlen0 : zs0.length ≤ 17592186044416 := by
    rcases hd0 with ⟨_, rfl⟩ | ⟨sp, rfl⟩
    · simp
    · have := sized_slice hsz (j := 0) (t := 42) (e := 3) rfl rfl Try.underlying42
      rw [show Try.prog.bytesOf 3 = 8 from by kernel_rfl, show (lits _ zs0).length = zs0.length from by simp [lits]] at this
      simp only [reachBytes] at this
      omega
  obtain ⟨zs1, hR1, hwz1, hd1⟩ := open_row Try.underlying42 Try.underlying3 (show Try.prog.cellsOf 3 = 1 from by kernel_rfl) h1 (okWide_slice Try.underlying42 (hval 1 42 v1 rfl rfl))
  have hlen1 : zs1.length ≤ 17592186044416 := by
    rcases hd1 with ⟨_, rfl⟩ | ⟨sp, rfl⟩
    · simp
    · have := sized_slice hsz (j := 1) (t := 42) (e := 3) rfl rfl Try.underlying42
      rw [show Try.prog.bytesOf 3 = 8 from by kernel_rfl, show (lits _ zs1).length = zs1.length from by simp [lits]] at this
      simp only [reachBytes] at this
      omega
  refine ((SourceCursors_true hR0 hR1 (by omega) (fun x hx => wf_i64 (hwz1 x hx))) W [] W (Cw.start W)).mono fun e W' ⟨he, hw⟩ => ?_
  subst he
  exact ⟨_, rfl, post_law laid rfl rfl Try.underlying4 (by rw [Try.params7]; intro t ht; simp at ht; subst ht; exact ⟨by kernel_rfl, of_decide_eq_true (by kernel_rfl)⟩) hW' hw.below rfl rfl rfl⟩

theorem SourceCursors_holds : Rows.SourceCursorsSaid :=
  OpenClaim.holds_of_wide 7 Try.f7 rfl rfl rfl rfl rfl rfl rfl ⟨rfl, rfl, rfl, rfl, rfl⟩ rfl rfl rfl rfl rfl (by kernel_rfl) Try.func7 (by kernel_rfl)
    (of_decide_eq_true (by kernel_rfl)) (by unfold Func.isWrapper; first | (rw [if_pos (by decide +kernel)]; kernel_rfl) | (rw [if_neg (by decide +kernel)]; exact ⟨rfl, rfl⟩))
    (fun os started H enc _ => SourceCursors_lifted os started H enc)
end Go.Proofs.Ythpokoghhfidpaa
