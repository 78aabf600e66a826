/-
  Walks and laws of this seat; the base is the text Base.
-/
import Derived.Test.YthmnohdlhlmmpaaL4g
import Derived.Test.YthmnohdlhlmmpaaL4r
import Derived.Test.YthmnohdlhlmmpaaL4k
import Derived.Test.YthmnohdlhlmmpaaL4m
import Derived.Test.YthmnohdlhlmmpaaRows
/-
  Models of functions, and that the functions compute them. Printed by lift.py.
-/
namespace Go.Proofs.Ythmnohdlhlmmpaa
open Go.RowKit Go.Sl
/-! casement/casementlaw4.MarkTokens -/
end Go.Proofs.Ythmnohdlhlmmpaa
