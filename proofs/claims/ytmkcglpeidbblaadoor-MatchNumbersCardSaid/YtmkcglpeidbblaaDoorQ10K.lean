/-
  Walks and laws of this seat; the base is the text Base.
-/
import Derived.Test.YtmkcglpeidbblaaDoorL10k
namespace Go.Proofs.YtmkcglpeidbblaaDoor
open Go.RowKit Go.Sl
set_option maxRecDepth 100000
end Go.Proofs.YtmkcglpeidbblaaDoor
