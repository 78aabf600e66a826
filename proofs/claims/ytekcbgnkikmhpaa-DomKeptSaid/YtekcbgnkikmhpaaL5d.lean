/-
  Walks and laws of this seat; the base is the text Base.
-/
import Derived.Test.YtekcbgnkikmhpaaL5c
import Derived.Test.YtekcbgnkikmhpaaRows
/-
  Models of functions, and that the functions compute them. Printed by lift.py.
-/
namespace Go.Proofs.Ytekcbgnkikmhpaa
open Go.RowKit Go.Sl
/-! casement/casementref5.attrs -/
/-! casement/casementref5.plain -/
/-! casement/casementref5.Right -/
/-! casement/casementref5.Lay -/
/-! casement/casementref5.Make -/
end Go.Proofs.Ytekcbgnkikmhpaa
