/-
  Walks and laws of this seat; the base is the text Base.
-/
import Derived.Test.YtklcdfnhdljkjaaDoorO7
import Derived.Test.YtklcdfnhdljkjaaDoorG7t
import Derived.Lib.LaidU8T
import Derived.Deep.DeepHandedRow
import Derived.Deep.DeepLaidRun
import Derived.Test.YtklcdfnhdljkjaaDoorCards
import Derived.Test.YtklcdfnhdljkjaaDoorTie
namespace Go.Proofs.YtklcdfnhdljkjaaDoor
open Go.RowKit Go.Sl Go.ChangeShapes Go.WideShapes Go.ChangeAt Go.Lib
/-! The listed tables: from the row's list to the two blocks; a world that holds them. -/
theorem u8x : U8Extra Tryd.prog Tryd.lays196_ren := ⟨by kernel_rfl, by kernel_rfl, by kernel_rfl, by kernel_rfl, by kernel_rfl, by kernel_rfl, by kernel_rfl⟩
theorem first_is : Rows.laid_unicode_utf8_first = firstData := by kernel_rfl
theorem accept_is : Rows.laid_unicode_utf8_acceptRanges = acceptData := by kernel_rfl
theorem tabs_of {W : World} (hL : laidMetH Tryd.prog Rows.writePartsRow.laid W) : Lib.Utf8Tabs 0 1 W := by
  have h : laidMet Tryd.prog Rows.writePartsRow.laid W := hL
  have h3 := laidMet.reads h (List.mem_cons_of_mem _ (List.mem_cons_self ..))
  have h4 := laidMet.reads h (List.mem_cons_self ..)
  rw [first_is] at h3
  rw [accept_is] at h4
  exact utf8Tabs_of_readsT (U8Types.of196 Tryd.lays196) u8x h3 h4
theorem tabs_start {W : World} (hL : laidMetH Tryd.prog Rows.writePartsRow.laid W) : ∃ o0 o1, whole W 0 = some o0 ∧ whole W 1 = some o1 ∧ Tabs o0 o1 := by
  have h := tabs_of hL
  have c0 := h.1 0 (by decide)
  have c1 := (h.2 0 (by decide)).1
  unfold World.cell? at c0 c1
  simp only at c0 c1
  cases e0 : W.heap[0]? with
  | none => rw [e0] at c0; cases c0
  | some o0 =>
    cases e1 : W.heap[1]? with
    | none => rw [e1] at c1; cases c1
    | some o1 => exact ⟨o0, o1, e0, e1, Tabs.of e0 e1 h⟩
def putFirst : Obj → Obj
  | .cells _ t frozen => .cells ((List.range 256).map fun c => Value.int .u8 (firstT c)).toArray t frozen
  | o => o
def putAccept : Obj → Obj
  | .cells _ t frozen => .cells ((List.range 16).flatMap fun i => [Value.int .u8 (accLo i), Value.int .u8 (accHi i)]).toArray t frozen
  | o => o
/-- A world for the witness: the settled one, the tables as their initialisers lay them. -/
noncomputable def laidWorld (os : Os) : World :=
  { World.holding Tryd.prog os ⟨#[], #[], []⟩ with heap := ((World.holding Tryd.prog os ⟨#[], #[], []⟩).heap.modify 0 putFirst).modify 1 putAccept }
theorem laid_met (os : Os) (args : Array Value) : laidMetH Tryd.prog Rows.writePartsRow.laid ((laidWorld os).forCall (fun _ _ => 0) ⟨#[], args, []⟩).memory :=
  (laidMet_of_run3 8 (by kernel_rfl) (by kernel_rfl) (by kernel_rfl) : laidMet Tryd.prog Rows.writePartsRow.laid _)
end Go.Proofs.YtklcdfnhdljkjaaDoor
