/-
  Walks and laws of this seat; the base is the text Base.
-/
import Derived.Test.YteicdfkmpnmkmaaGreatDX17
namespace Go.D
open Go.Proofs Go.RowKit Go.Sl
set_option maxRecDepth 100000
theorem isr1 : run 100000 env 0 10 (([[60, 112, 32, 115, 116, 121, 108, 101, 61, 34, 100, 105, 115, 112, 108, 97, 121, 58, 102, 108, 101, 120, 34, 62, 97, 60, 98, 62, 99, 60, 47, 98, 62, 60, 47, 112, 62], [], [66, 40, 70, 40, 63, 66, 40, 99, 41, 66, 40, 99, 41, 41, 41]] : List (List Nat)).map fun l => .c (.s l)) .e 0 okT = some () := by kernel_rfl
theorem iss1 : Still Tryz.prog 10 [[60, 112, 32, 115, 116, 121, 108, 101, 61, 34, 100, 105, 115, 112, 108, 97, 121, 58, 102, 108, 101, 120, 34, 62, 97, 60, 98, 62, 99, 60, 47, 98, 62, 60, 47, 112, 62], [], [66, 40, 70, 40, 63, 66, 40, 99, 41, 66, 40, 99, 41, 41, 41]] (.b true) := run_still envOk okT_ok (fun _ _ _ h => h) isr1
theorem isr5 : run 100000 env 0 10 (([[60, 116, 97, 98, 108, 101, 62], [112, 123, 125, 32, 116, 97, 98, 108, 101, 123, 125], [66, 40, 84, 41]] : List (List Nat)).map fun l => .c (.s l)) .e 0 okT = some () := by kernel_rfl
theorem iss5 : Still Tryz.prog 10 [[60, 116, 97, 98, 108, 101, 62], [112, 123, 125, 32, 116, 97, 98, 108, 101, 123, 125], [66, 40, 84, 41]] (.b true) := run_still envOk okT_ok (fun _ _ _ h => h) isr5
theorem isr9 : run 100000 env 0 10 (([[97, 60, 100, 105, 118, 62, 98, 60, 47, 100, 105, 118, 62, 99], [], [66, 40, 63, 66, 40, 99, 41, 66, 40, 99, 41, 63, 66, 40, 99, 41, 41]] : List (List Nat)).map fun l => .c (.s l)) .e 0 okT = some () := by kernel_rfl
theorem iss9 : Still Tryz.prog 10 [[97, 60, 100, 105, 118, 62, 98, 60, 47, 100, 105, 118, 62, 99], [], [66, 40, 63, 66, 40, 99, 41, 66, 40, 99, 41, 63, 66, 40, 99, 41, 41]] (.b true) := run_still envOk okT_ok (fun _ _ _ h => h) isr9
end Go.D
