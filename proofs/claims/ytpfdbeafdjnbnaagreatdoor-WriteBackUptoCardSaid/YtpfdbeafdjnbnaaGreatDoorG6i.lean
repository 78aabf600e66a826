/-
  Walks and laws of this seat.
-/
import Derived.Test.YtpfdbeafdjnbnaaGreatDoorX0
import Derived.Shelf.Spec.SlicesInsertGrow
namespace Go.Proofs.YtpfdbeafdjnbnaaGreatDoor
set_option linter.unusedVariables false
set_option linter.unusedSimpArgs false
set_option linter.unusedSectionVars false
open Go.Proofs Go.Shelf Go.RowKit Go.Lib
end Go.Proofs.YtpfdbeafdjnbnaaGreatDoor
