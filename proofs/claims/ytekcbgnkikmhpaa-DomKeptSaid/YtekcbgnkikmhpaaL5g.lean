/-
  Walks and laws of this seat; the base is the text Base.
-/
import Derived.Test.YtekcbgnkikmhpaaL5f
import Derived.Test.YtekcbgnkikmhpaaRows
/-
  Models of functions, and that the functions compute them. Printed by lift.py.
-/
namespace Go.Proofs.Ytekcbgnkikmhpaa
open Go.RowKit Go.Sl
/-! casement/casementlaw5.DomRight -/
/-! casement/casementlaw5.DomMakes -/
/-! casement/casementlaw5.DomBack -/
end Go.Proofs.Ytekcbgnkikmhpaa
