/-
  Walks and laws of this seat; the base is the text Base.
-/
import Derived.Test.YteicdfkmpnmkmaaGreatDM2
import Derived.Test.YteicdfkmpnmkmaaGreatDX13
namespace Go.D
open Go.Proofs
set_option maxRecDepth 100000
theorem fts : (env.ft.toL id).map (fun p => some p.2.fn) = (env.ft.toL id).map (fun p => Tryz.prog.funcs[p.1]?) := by kernel_rfl
theorem mixs : Tryz.prog.follows .mixedOrders = true := by kernel_rfl
end Go.D
