/-
  Walks and laws of this seat; the base is the text Base.
-/
import Derived.Test.YthmnohdlhlmmpaaL4vn
namespace Go.Proofs.Ythmnohdlhlmmpaa
open Go.RowKit Go.Sl
set_option maxRecDepth 100000
theorem law4_MarkNumbers_true : ∃ fuel, law4_MarkNumbers fuel = some true := ⟨60, by kernel_rfl⟩
end Go.Proofs.Ythmnohdlhlmmpaa
