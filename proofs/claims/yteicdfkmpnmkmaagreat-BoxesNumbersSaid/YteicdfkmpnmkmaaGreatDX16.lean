/-
  Walks and laws of this seat; the base is the text Base.
-/
import Derived.Test.YteicdfkmpnmkmaaGreatDM2
import Derived.Test.YteicdfkmpnmkmaaGreatDX13
namespace Go.D
open Go.Proofs
set_option maxRecDepth 100000
theorem fbs : (env.ft.toL id).all (fun p => fiB p.2) = true := by kernel_rfl
end Go.D
