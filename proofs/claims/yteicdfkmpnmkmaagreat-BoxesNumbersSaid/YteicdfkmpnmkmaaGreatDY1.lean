/-
  Walks and laws of this seat; the base is the text Base.
-/
import Derived.Test.YteicdfkmpnmkmaaGreatDX17
namespace Go.D
open Go.Proofs Go.RowKit Go.Sl
set_option maxRecDepth 100000
theorem isr0 : run 100000 env 0 10 (([[60, 98, 62, 120, 60, 100, 105, 118, 62, 121, 60, 47, 100, 105, 118, 62, 60, 47, 98, 62], [], [66, 40, 66, 40, 63, 66, 40, 99, 41, 66, 40, 99, 41, 41, 41]] : List (List Nat)).map fun l => .c (.s l)) .e 0 okT = some () := by kernel_rfl
theorem iss0 : Still Tryz.prog 10 [[60, 98, 62, 120, 60, 100, 105, 118, 62, 121, 60, 47, 100, 105, 118, 62, 60, 47, 98, 62], [], [66, 40, 66, 40, 63, 66, 40, 99, 41, 66, 40, 99, 41, 41, 41]] (.b true) := run_still envOk okT_ok (fun _ _ _ h => h) isr0
theorem isr4 : run 100000 env 0 10 (([[97, 60, 98, 114, 62, 98, 60, 105, 62, 99, 60, 47, 105, 62], [], [66, 40, 99, 98, 99, 105, 40, 99, 41, 41]] : List (List Nat)).map fun l => .c (.s l)) .e 0 okT = some () := by kernel_rfl
theorem iss4 : Still Tryz.prog 10 [[97, 60, 98, 114, 62, 98, 60, 105, 62, 99, 60, 47, 105, 62], [], [66, 40, 99, 98, 99, 105, 40, 99, 41, 41]] (.b true) := run_still envOk okT_ok (fun _ _ _ h => h) isr4
theorem isr8 : run 100000 env 0 10 (([[60, 100, 105, 118, 62, 60, 100, 105, 118, 62, 60, 100, 105, 118, 62, 60, 100, 105, 118, 62, 60, 100, 105, 118, 62], [100, 105, 118, 32, 123, 32, 100, 105, 115, 112, 108, 97, 121, 58, 32, 102, 108, 101, 120, 32, 125], [66, 40, 70, 40, 70, 40, 70, 40, 70, 40, 66, 41, 41, 41, 41, 41]] : List (List Nat)).map fun l => .c (.s l)) .e 0 okT = some () := by kernel_rfl
theorem iss8 : Still Tryz.prog 10 [[60, 100, 105, 118, 62, 60, 100, 105, 118, 62, 60, 100, 105, 118, 62, 60, 100, 105, 118, 62, 60, 100, 105, 118, 62], [100, 105, 118, 32, 123, 32, 100, 105, 115, 112, 108, 97, 121, 58, 32, 102, 108, 101, 120, 32, 125], [66, 40, 70, 40, 70, 40, 70, 40, 70, 40, 66, 41, 41, 41, 41, 41]] (.b true) := run_still envOk okT_ok (fun _ _ _ h => h) isr8
end Go.D
