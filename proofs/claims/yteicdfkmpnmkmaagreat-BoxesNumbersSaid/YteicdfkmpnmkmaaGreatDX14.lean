/-
  Walks and laws of this seat; the base is the text Base.
-/
import Derived.Test.YteicdfkmpnmkmaaGreatDM2
import Derived.Test.YteicdfkmpnmkmaaGreatDX13
namespace Go.D
open Go.Proofs
set_option maxRecDepth 100000
theorem tts : (env.tt.toL id).all (tiB Tryz.prog) = true := by kernel_rfl
end Go.D
