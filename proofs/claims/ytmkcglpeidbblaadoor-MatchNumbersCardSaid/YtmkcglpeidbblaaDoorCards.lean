/-
  DERIVED. GIVEN WITH THE SEED: THE CARDS: each row of YtmkcglpeidbblaaDoorRows.lean that lists a variable, with what it lists TIED to the program's text (the seventh form; the later family's looks); each row that meets fmt, with fmt's text TOLD by the authors' own Lean function (tested against real Go, not proved from fmt's source: count such statements apart). THE CARD IS WHAT COUNTS. Prove the row's statement (the work); the ties are given (YtmkcglpeidbblaaDoorTie.lean); close each card by the builder's one call (the guide's Derived/Test/ToyasCard.lean, 'card_holds'). Laid BY PROGRAM, IN A SANDBOX (cutbox-door.mjs). By AI agents, Wed Nov 11 2026. No macro, syntax, notation, axiom, sorry.
-/
import Derived.Test.YtmkcglpeidbblaaDoorRows
import GoSem.ClaimSeven
namespace Go.Proofs.YtmkcglpeidbblaaDoor
namespace Rows

/-- THE TIED CARD OF 'casementlaw10.MatchFewer'. -/
def matchFewerCard : Claim7 := { stood := { row := matchFewerRow, standIns := [], harness := (true, "59bb2d909760ff8469cf98f70cb0736e336101813bb5b0f635d4be52e60f8098"), looks := false }, kinds := [], alts := [], laidByText := true, laidKinds := [.data, .pinned], laidTests := true, laidLooks := .later }
def MatchFewerCardSaid : Prop := Claim7.holds Tryd.pinned (.plain (OpenSpec.ofChange matchFewerSpec)) matchFewerCard

/-- THE TIED CARD OF 'casementlaw10.MatchNames'. -/
def matchNamesCard : Claim7 := { stood := { row := matchNamesRow, standIns := [], harness := (true, "59bb2d909760ff8469cf98f70cb0736e336101813bb5b0f635d4be52e60f8098"), looks := false }, kinds := [], alts := [], laidByText := true, laidKinds := [.data, .pinned], laidTests := true, laidLooks := .later }
def MatchNamesCardSaid : Prop := Claim7.holds Tryd.pinned (.plain (OpenSpec.ofChange matchNamesSpec)) matchNamesCard

/-- THE TIED CARD OF 'casementlaw10.MatchAll'. -/
def matchAllCard : Claim7 := { stood := { row := matchAllRow, standIns := [], harness := (true, "59bb2d909760ff8469cf98f70cb0736e336101813bb5b0f635d4be52e60f8098"), looks := false }, kinds := [], alts := [], laidByText := true, laidKinds := [.data, .pinned], laidTests := true, laidLooks := .later }
def MatchAllCardSaid : Prop := Claim7.holds Tryd.pinned (.plain (OpenSpec.ofChange matchAllSpec)) matchAllCard

/-- THE TIED CARD OF 'casementlaw10.MatchLess'. -/
def matchLessCard : Claim7 := { stood := { row := matchLessRow, standIns := [], harness := (true, "59bb2d909760ff8469cf98f70cb0736e336101813bb5b0f635d4be52e60f8098"), looks := false }, kinds := [], alts := [], laidByText := true, laidKinds := [.data, .pinned], laidTests := true, laidLooks := .later }
def MatchLessCardSaid : Prop := Claim7.holds Tryd.pinned (.plain (OpenSpec.ofChange matchLessSpec)) matchLessCard

/-- THE TIED CARD OF 'casementlaw10.MatchMatches'. -/
def matchMatchesCard : Claim7 := { stood := { row := matchMatchesRow, standIns := [], harness := (true, "59bb2d909760ff8469cf98f70cb0736e336101813bb5b0f635d4be52e60f8098"), looks := false }, kinds := [], alts := [], laidByText := true, laidKinds := [.data, .pinned], laidTests := true, laidLooks := .later }
def MatchMatchesCardSaid : Prop := Claim7.holds Tryd.pinned (.plain (OpenSpec.ofChange matchMatchesSpec)) matchMatchesCard

/-- THE TIED CARD OF 'casementlaw10.MatchLists'. -/
def matchListsCard : Claim7 := { stood := { row := matchListsRow, standIns := [], harness := (true, "59bb2d909760ff8469cf98f70cb0736e336101813bb5b0f635d4be52e60f8098"), looks := false }, kinds := [], alts := [], laidByText := true, laidKinds := [.data, .pinned], laidTests := true, laidLooks := .later }
def MatchListsCardSaid : Prop := Claim7.holds Tryd.pinned (.plain (OpenSpec.ofChange matchListsSpec)) matchListsCard

/-- THE TIED CARD OF 'casementlaw10.MatchNumbers'. -/
def matchNumbersCard : Claim7 := { stood := { row := matchNumbersRow, standIns := [], harness := (true, "59bb2d909760ff8469cf98f70cb0736e336101813bb5b0f635d4be52e60f8098"), looks := false }, kinds := [], alts := [], laidByText := true, laidKinds := [.data, .pinned], laidTests := true, laidLooks := .later }
def MatchNumbersCardSaid : Prop := Claim7.holds Tryd.pinned (.plain (OpenSpec.ofChange matchNumbersSpec)) matchNumbersCard

/-- THE SECOND FORM's CARD OF 'casementlaw10.MatchFewer'. -/
def matchFewerUptoCard : Claim7 := { stood := { row := matchFewerUptoRow, standIns := [], harness := (true, "59bb2d909760ff8469cf98f70cb0736e336101813bb5b0f635d4be52e60f8098"), looks := false }, kinds := [], alts := [], laidByText := true, laidKinds := [.data, .pinned], laidTests := true, laidLooks := .later }
def MatchFewerUptoCardSaid : Prop := Claim7.holds Tryd.pinned (.plain (OpenSpec.upto matchFewerSpec)) matchFewerUptoCard

/-- THE SECOND FORM's CARD OF 'casementlaw10.MatchNames'. -/
def matchNamesUptoCard : Claim7 := { stood := { row := matchNamesUptoRow, standIns := [], harness := (true, "59bb2d909760ff8469cf98f70cb0736e336101813bb5b0f635d4be52e60f8098"), looks := false }, kinds := [], alts := [], laidByText := true, laidKinds := [.data, .pinned], laidTests := true, laidLooks := .later }
def MatchNamesUptoCardSaid : Prop := Claim7.holds Tryd.pinned (.plain (OpenSpec.upto matchNamesSpec)) matchNamesUptoCard

/-- THE SECOND FORM's CARD OF 'casementlaw10.MatchAll'. -/
def matchAllUptoCard : Claim7 := { stood := { row := matchAllUptoRow, standIns := [], harness := (true, "59bb2d909760ff8469cf98f70cb0736e336101813bb5b0f635d4be52e60f8098"), looks := false }, kinds := [], alts := [], laidByText := true, laidKinds := [.data, .pinned], laidTests := true, laidLooks := .later }
def MatchAllUptoCardSaid : Prop := Claim7.holds Tryd.pinned (.plain (OpenSpec.upto matchAllSpec)) matchAllUptoCard

/-- THE SECOND FORM's CARD OF 'casementlaw10.MatchLess'. -/
def matchLessUptoCard : Claim7 := { stood := { row := matchLessUptoRow, standIns := [], harness := (true, "59bb2d909760ff8469cf98f70cb0736e336101813bb5b0f635d4be52e60f8098"), looks := false }, kinds := [], alts := [], laidByText := true, laidKinds := [.data, .pinned], laidTests := true, laidLooks := .later }
def MatchLessUptoCardSaid : Prop := Claim7.holds Tryd.pinned (.plain (OpenSpec.upto matchLessSpec)) matchLessUptoCard

/-- THE SECOND FORM's CARD OF 'casementlaw10.MatchMatches'. -/
def matchMatchesUptoCard : Claim7 := { stood := { row := matchMatchesUptoRow, standIns := [], harness := (true, "59bb2d909760ff8469cf98f70cb0736e336101813bb5b0f635d4be52e60f8098"), looks := false }, kinds := [], alts := [], laidByText := true, laidKinds := [.data, .pinned], laidTests := true, laidLooks := .later }
def MatchMatchesUptoCardSaid : Prop := Claim7.holds Tryd.pinned (.plain (OpenSpec.upto matchMatchesSpec)) matchMatchesUptoCard

/-- THE SECOND FORM's CARD OF 'casementlaw10.MatchLists'. -/
def matchListsUptoCard : Claim7 := { stood := { row := matchListsUptoRow, standIns := [], harness := (true, "59bb2d909760ff8469cf98f70cb0736e336101813bb5b0f635d4be52e60f8098"), looks := false }, kinds := [], alts := [], laidByText := true, laidKinds := [.data, .pinned], laidTests := true, laidLooks := .later }
def MatchListsUptoCardSaid : Prop := Claim7.holds Tryd.pinned (.plain (OpenSpec.upto matchListsSpec)) matchListsUptoCard

/-- THE SECOND FORM's CARD OF 'casementlaw10.MatchNumbers'. -/
def matchNumbersUptoCard : Claim7 := { stood := { row := matchNumbersUptoRow, standIns := [], harness := (true, "59bb2d909760ff8469cf98f70cb0736e336101813bb5b0f635d4be52e60f8098"), looks := false }, kinds := [], alts := [], laidByText := true, laidKinds := [.data, .pinned], laidTests := true, laidLooks := .later }
def MatchNumbersUptoCardSaid : Prop := Claim7.holds Tryd.pinned (.plain (OpenSpec.upto matchNumbersSpec)) matchNumbersUptoCard
end Rows
end Go.Proofs.YtmkcglpeidbblaaDoor
