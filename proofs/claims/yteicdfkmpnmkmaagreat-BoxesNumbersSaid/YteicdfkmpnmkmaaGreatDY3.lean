/-
  Walks and laws of this seat; the base is the text Base.
-/
import Derived.Test.YteicdfkmpnmkmaaGreatDX17
namespace Go.D
open Go.Proofs Go.RowKit Go.Sl
set_option maxRecDepth 100000
theorem isr2 : run 100000 env 0 10 (([[60, 116, 114, 62, 120], [], [66, 40, 66, 40, 99, 41, 41]] : List (List Nat)).map fun l => .c (.s l)) .e 0 okT = some () := by kernel_rfl
theorem iss2 : Still Tryz.prog 10 [[60, 116, 114, 62, 120], [], [66, 40, 66, 40, 99, 41, 41]] (.b true) := run_still envOk okT_ok (fun _ _ _ h => h) isr2
theorem isr6 : run 100000 env 0 10 (([[60, 100, 105, 118, 62, 32, 60, 100, 105, 118, 62, 60, 47, 100, 105, 118, 62, 32, 60, 47, 100, 105, 118, 62], [], [66, 40, 66, 40, 66, 41, 41]] : List (List Nat)).map fun l => .c (.s l)) .e 0 okT = some () := by kernel_rfl
theorem iss6 : Still Tryz.prog 10 [[60, 100, 105, 118, 62, 32, 60, 100, 105, 118, 62, 60, 47, 100, 105, 118, 62, 32, 60, 47, 100, 105, 118, 62], [], [66, 40, 66, 40, 66, 41, 41]] (.b true) := run_still envOk okT_ok (fun _ _ _ h => h) isr6
theorem isr10 : run 100000 env 0 10 (([[60, 116, 97, 98, 108, 101, 62, 32, 60, 116, 100, 62, 49, 60, 47, 116, 97, 98, 108, 101, 62], [], [66, 40, 84, 40, 82, 40, 67, 40, 99, 41, 41, 41, 41]] : List (List Nat)).map fun l => .c (.s l)) .e 0 okT = some () := by kernel_rfl
theorem iss10 : Still Tryz.prog 10 [[60, 116, 97, 98, 108, 101, 62, 32, 60, 116, 100, 62, 49, 60, 47, 116, 97, 98, 108, 101, 62], [], [66, 40, 84, 40, 82, 40, 67, 40, 99, 41, 41, 41, 41]] (.b true) := run_still envOk okT_ok (fun _ _ _ h => h) isr10
end Go.D
