/-
  Walks and laws of this seat; the base is the text Base.
-/
import Derived.Test.YtklcdfnhdljkjaaDoorO7
import Derived.Lib.LaidU8
import Derived.Deep.DeepHandedRow
import Derived.Deep.DeepLaidRun
import Derived.Test.YtklcdfnhdljkjaaDoorCards
import Derived.Test.YtklcdfnhdljkjaaDoorTie
namespace Go.Proofs.YtklcdfnhdljkjaaDoor
open Go.RowKit Go.Sl Go.ChangeShapes Go.WideShapes Go.ChangeAt Go.Lib
/-! A world that holds the listed tables. -/
def putFirst : Obj → Obj
  | .cells _ t frozen => .cells ((List.range 256).map fun c => Value.int .u8 (firstT c)).toArray t frozen
  | o => o
def putAccept : Obj → Obj
  | .cells _ t frozen => .cells ((List.range 16).flatMap fun i => [Value.int .u8 (accLo i), Value.int .u8 (accHi i)]).toArray t frozen
  | o => o
/-- A world for the witness: the settled one, the tables as their initialisers lay them. -/
noncomputable def laidWorld (os : Os) : World :=
  { World.holding Tryd.prog os ⟨#[], #[], []⟩ with heap := ((World.holding Tryd.prog os ⟨#[], #[], []⟩).heap.modify 0 putFirst).modify 1 putAccept }
theorem laid_met (os : Os) (args : Array Value) : laidMetH Tryd.prog Rows.writeNumbersRow.laid ((laidWorld os).forCall (fun _ _ => 0) ⟨#[], args, []⟩).memory :=
  (laidMet_of_run3 8 (by kernel_rfl) (by kernel_rfl) (by kernel_rfl) : laidMet Tryd.prog Rows.writeNumbersRow.laid _)
end Go.Proofs.YtklcdfnhdljkjaaDoor
