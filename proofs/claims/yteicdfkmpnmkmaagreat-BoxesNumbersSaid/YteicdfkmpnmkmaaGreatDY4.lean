/-
  Walks and laws of this seat; the base is the text Base.
-/
import Derived.Test.YteicdfkmpnmkmaaGreatDX17
namespace Go.D
open Go.Proofs Go.RowKit Go.Sl
set_option maxRecDepth 100000
theorem isr3 : run 100000 env 0 10 (([[60, 100, 105, 118, 62, 60, 47, 100, 105, 118, 62], [], [66, 40, 66, 41]] : List (List Nat)).map fun l => .c (.s l)) .e 0 okT = some () := by kernel_rfl
theorem iss3 : Still Tryz.prog 10 [[60, 100, 105, 118, 62, 60, 47, 100, 105, 118, 62], [], [66, 40, 66, 41]] (.b true) := run_still envOk okT_ok (fun _ _ _ h => h) isr3
theorem isr7 : run 100000 env 0 10 (([[60, 100, 105, 118, 62, 32, 60, 100, 105, 118, 62, 60, 47, 100, 105, 118, 62, 32, 60, 47, 100, 105, 118, 62], [100, 105, 118, 32, 123, 32, 119, 104, 105, 116, 101, 45, 115, 112, 97, 99, 101, 58, 32, 112, 114, 101, 32, 125], [66, 40, 66, 40, 63, 66, 40, 99, 41, 66, 63, 66, 40, 99, 41, 41, 41]] : List (List Nat)).map fun l => .c (.s l)) .e 0 okT = some () := by kernel_rfl
theorem iss7 : Still Tryz.prog 10 [[60, 100, 105, 118, 62, 32, 60, 100, 105, 118, 62, 60, 47, 100, 105, 118, 62, 32, 60, 47, 100, 105, 118, 62], [100, 105, 118, 32, 123, 32, 119, 104, 105, 116, 101, 45, 115, 112, 97, 99, 101, 58, 32, 112, 114, 101, 32, 125], [66, 40, 66, 40, 63, 66, 40, 99, 41, 66, 63, 66, 40, 99, 41, 41, 41]] (.b true) := run_still envOk okT_ok (fun _ _ _ h => h) isr7
end Go.D
