/-
  DERIVED. GIVEN WITH THE SEED: THE CARDS: each row of YtpfdbeafdjnbnaaGreatDoorRows.lean that lists a variable, with what it lists TIED to the program's text (the seventh form; the later family's looks); each row that meets fmt, with fmt's text TOLD by the authors' own Lean function (tested against real Go, not proved from fmt's source: count such statements apart). THE CARD IS WHAT COUNTS. Prove the row's statement (the work); the ties are given (YtpfdbeafdjnbnaaGreatDoorTie.lean); close each card by the builder's one call (the guide's Derived/Test/ToyasCard.lean, 'card_holds'). Laid BY PROGRAM, IN A SANDBOX (cutbox-door.mjs). By AI agents, Wed Nov 11 2026. No macro, syntax, notation, axiom, sorry.
-/
import Derived.Test.YtpfdbeafdjnbnaaGreatDoorRows
import GoSem.ClaimSeven
namespace Go.Proofs.YtpfdbeafdjnbnaaGreatDoor
namespace Rows

/-- THE TIED CARD OF 'casementlaw7.WriteEscapes'. -/
def writeEscapesCard : Claim7 := { stood := { row := writeEscapesRow, standIns := [], harness := (true, "272c2d105687e28450f96d86332ecf07c94a454afba948981e4903121151106c"), looks := true }, kinds := [], alts := [], laidByText := true, laidKinds := [.data, .pinned], laidTests := true, laidLooks := .later }
def WriteEscapesCardSaid : Prop := Claim7.holds Tryz.pinned (.plain (OpenSpec.ofChange writeEscapesSpec)) writeEscapesCard

/-- THE TIED CARD OF 'casementlaw7.WriteBack'. -/
def writeBackCard : Claim7 := { stood := { row := writeBackRow, standIns := [], harness := (true, "272c2d105687e28450f96d86332ecf07c94a454afba948981e4903121151106c"), looks := true }, kinds := [], alts := [], laidByText := true, laidKinds := [.data, .pinned], laidTests := true, laidLooks := .later }
def WriteBackCardSaid : Prop := Claim7.holds Tryz.pinned (.plain (OpenSpec.ofChange writeBackSpec)) writeBackCard

/-- THE SECOND FORM's CARD OF 'casementlaw7.WriteEscapes'. -/
def writeEscapesUptoCard : Claim7 := { stood := { row := writeEscapesUptoRow, standIns := [], harness := (true, "272c2d105687e28450f96d86332ecf07c94a454afba948981e4903121151106c"), looks := true }, kinds := [], alts := [], laidByText := true, laidKinds := [.data, .pinned], laidTests := true, laidLooks := .later }
def WriteEscapesUptoCardSaid : Prop := Claim7.holds Tryz.pinned (.plain (OpenSpec.upto writeEscapesSpec)) writeEscapesUptoCard

/-- THE SECOND FORM's CARD OF 'casementlaw7.WriteBack'. -/
def writeBackUptoCard : Claim7 := { stood := { row := writeBackUptoRow, standIns := [], harness := (true, "272c2d105687e28450f96d86332ecf07c94a454afba948981e4903121151106c"), looks := true }, kinds := [], alts := [], laidByText := true, laidKinds := [.data, .pinned], laidTests := true, laidLooks := .later }
def WriteBackUptoCardSaid : Prop := Claim7.holds Tryz.pinned (.plain (OpenSpec.upto writeBackSpec)) writeBackUptoCard
end Rows
end Go.Proofs.YtpfdbeafdjnbnaaGreatDoor
