/-
  Walks and laws of this seat; the base is the text Base.
-/
import Derived.Test.YthmnohdlhlmmpaaY4
import Derived.Test.YthmnohdlhlmmpaaRows
/-
  Models of functions, and that the functions compute them. Printed by lift.py.
-/
namespace Go.Proofs.Ythmnohdlhlmmpaa
open Go.RowKit Go.Sl
/-! casement/casementbook.Same[rune] -/
/-! casement/casementbook.Roomy[rune] -/
/-! casement/casementbook.Intact[rune] -/
end Go.Proofs.Ythmnohdlhlmmpaa
