/-
  Walks and laws of this seat.
-/
import Derived.Test.YtpfdbeafdjnbnaaGreatDoorX0
import Derived.Test.YtpfdbeafdjnbnaaGreatDoorX1
import Derived.Lib.LaidU8T
import Derived.Deep.DeepHandedRow
import Derived.Deep.DeepLaidRun
import Derived.Test.YtpfdbeafdjnbnaaGreatDoorCards
import Derived.Test.YtpfdbeafdjnbnaaGreatDoorTie
namespace Go.Proofs.YtpfdbeafdjnbnaaGreatDoor
set_option linter.unusedVariables false
set_option linter.unusedSimpArgs false
set_option linter.unusedSectionVars false
open Go.RowKit Go.Sl Go.ChangeShapes Go.WideShapes Go.ChangeAt Go.Lib
theorem u8x : U8Extra Tryz.prog Tryz.lays196_ren := ⟨by kernel_rfl, by kernel_rfl, by kernel_rfl, by kernel_rfl, by kernel_rfl, by kernel_rfl, by kernel_rfl⟩
theorem first_is : Rows.laid_unicode_utf8_first = firstData := by kernel_rfl
theorem zvt : Rows.laid_unicode_utf8_acceptRanges = acceptData := by kernel_rfl
theorem tabs_of {W : World} (hL : laidMetH Tryz.prog Rows.writeBackRow.laid W) : Lib.Utf8Tabs 0 1 W := by
  have h : laidMet Tryz.prog Rows.writeBackRow.laid W := hL
  have h3 := laidMet.reads h (List.mem_cons_of_mem _ (List.mem_cons_self ..))
  have h4 := laidMet.reads h (List.mem_cons_self ..)
  rw [first_is] at h3
  rw [zvt] at h4
  exact utf8Tabs_of_readsT (U8Types.of196 Tryz.lays196) u8x h3 h4
theorem zti {W : World} (hL : laidMetH Tryz.prog Rows.writeBackRow.laid W) : ∃ o0 o1, whole W 0 = some o0 ∧ whole W 1 = some o1 ∧ Tabs o0 o1 := by
  have h := tabs_of hL
  have c0 := h.1 0 (by decide)
  have c1 := (h.2 0 (by decide)).1
  unfold World.cell? at c0 c1
  simp only at c0 c1
  cases e0 : W.heap[0]? with
  | none => rw [e0] at c0; cases c0
  | some o0 =>
    cases e1 : W.heap[1]? with
    | none => rw [e1] at c1; cases c1
    | some o1 => exact ⟨o0, o1, e0, e1, Tabs.of e0 e1 h⟩
def putFirst : Obj → Obj
  | .cells _ t frozen => .cells ((List.range 256).map fun c => Value.int .u8 (firstT c)).toArray t frozen
  | o => o
def putAccept : Obj → Obj
  | .cells _ t frozen => .cells ((List.range 16).flatMap fun i => [Value.int .u8 (accLo i), Value.int .u8 (accHi i)]).toArray t frozen
  | o => o
noncomputable def laidWorld (os : Os) : World :=
  { World.holding Tryz.prog os ⟨#[], #[],[]⟩ with heap := ((World.holding Tryz.prog os ⟨#[], #[],[]⟩).heap.modify 0 putFirst).modify 1 putAccept }
theorem laid_met (os : Os) (args : Array Value) : laidMetH Tryz.prog Rows.writeBackRow.laid ((laidWorld os).forCall (fun _ _ => 0) ⟨#[], args,[]⟩).memory :=
  (laidMet_of_run3 8 (by kernel_rfl) (by kernel_rfl) (by kernel_rfl) : laidMet Tryz.prog Rows.writeBackRow.laid _)
end Go.Proofs.YtpfdbeafdjnbnaaGreatDoor
