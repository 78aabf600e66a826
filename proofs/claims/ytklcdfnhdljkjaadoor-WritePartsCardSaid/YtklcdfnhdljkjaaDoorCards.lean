/-
  DERIVED. GIVEN WITH THE SEED: THE CARDS: each row of YtklcdfnhdljkjaaDoorRows.lean that lists a variable, with what it lists TIED to the program's text (the seventh form; the later family's looks); each row that meets fmt, with fmt's text TOLD by the authors' own Lean function (tested against real Go, not proved from fmt's source: count such statements apart). THE CARD IS WHAT COUNTS. Prove the row's statement (the work); the ties are given (YtklcdfnhdljkjaaDoorTie.lean); close each card by the builder's one call (the guide's Derived/Test/ToyasCard.lean, 'card_holds'). Laid BY PROGRAM, IN A SANDBOX (cutbox-door.mjs). By AI agents, Wed Nov 11 2026. No macro, syntax, notation, axiom, sorry.
-/
import Derived.Test.YtklcdfnhdljkjaaDoorRows
import GoSem.ClaimSeven
namespace Go.Proofs.YtklcdfnhdljkjaaDoor
namespace Rows

/-- THE TIED CARD OF 'casementlaw7.WriteNumbers'. -/
def writeNumbersCard : Claim7 := { stood := { row := writeNumbersRow, standIns := [], harness := (true, "c0ba21516255b713c4c75b2af17cacfceb07f4c89bf12aa5c660d0d56b8bf8b9"), looks := true }, kinds := [], alts := [], laidByText := true, laidKinds := [.data, .pinned], laidTests := true, laidLooks := .later }
def WriteNumbersCardSaid : Prop := Claim7.holds Tryd.pinned (.plain (OpenSpec.ofChange writeNumbersSpec)) writeNumbersCard

/-- THE TIED CARD OF 'casementlaw7.WriteParts'. -/
def writePartsCard : Claim7 := { stood := { row := writePartsRow, standIns := [], harness := (true, "c0ba21516255b713c4c75b2af17cacfceb07f4c89bf12aa5c660d0d56b8bf8b9"), looks := true }, kinds := [], alts := [], laidByText := true, laidKinds := [.data, .pinned], laidTests := true, laidLooks := .later }
def WritePartsCardSaid : Prop := Claim7.holds Tryd.pinned (.plain (OpenSpec.ofChange writePartsSpec)) writePartsCard

/-- THE SECOND FORM's CARD OF 'casementlaw7.WriteNumbers'. -/
def writeNumbersUptoCard : Claim7 := { stood := { row := writeNumbersUptoRow, standIns := [], harness := (true, "c0ba21516255b713c4c75b2af17cacfceb07f4c89bf12aa5c660d0d56b8bf8b9"), looks := true }, kinds := [], alts := [], laidByText := true, laidKinds := [.data, .pinned], laidTests := true, laidLooks := .later }
def WriteNumbersUptoCardSaid : Prop := Claim7.holds Tryd.pinned (.plain (OpenSpec.upto writeNumbersSpec)) writeNumbersUptoCard

/-- THE SECOND FORM's CARD OF 'casementlaw7.WriteParts'. -/
def writePartsUptoCard : Claim7 := { stood := { row := writePartsUptoRow, standIns := [], harness := (true, "c0ba21516255b713c4c75b2af17cacfceb07f4c89bf12aa5c660d0d56b8bf8b9"), looks := true }, kinds := [], alts := [], laidByText := true, laidKinds := [.data, .pinned], laidTests := true, laidLooks := .later }
def WritePartsUptoCardSaid : Prop := Claim7.holds Tryd.pinned (.plain (OpenSpec.upto writePartsSpec)) writePartsUptoCard
end Rows
end Go.Proofs.YtklcdfnhdljkjaaDoor
