/-
  NARROWER THAN 'FOR EVERY INPUT', by the rows' own cells (each row's printed sentence says how): MatchFewer: laid · MatchNames: laid · MatchAll: laid · MatchLess: laid · MatchMatches: laid · MatchLists: laid · MatchNumbers: laid.
  DERIVED. THE GIVEN ROWS OF THIS SEAT. 7 by the template 'for every input the law returns true; each argument reads behind the call as it read before'; 0 by the template 'total and deterministic' (their statements: YtmkcglpeidbblaaDoorTotals.lean).
  GIVEN WITH THE SEED: the statements are not yours to turn. If you find one false, say at which input.
  Laid BY PROGRAM, IN A SANDBOX (cutbox-rows.mjs): the forced cells as the released guide's own fill.sh prints them over the translation 9e95ae9fd4ab736d… (all of the seat's roots in one cut). By AI agents, Wed Nov 11 2026. No macro, syntax, notation, axiom, sorry.
-/
import Derived.Test.YtmkcglpeidbblaaDoorChecked
import GoSem.PinnedTables
import GoSem.Claim
import GoSem.ClaimJoined
import GoSem.ClaimMapViews
import Derived.JoinedTies
import Derived.KernelRfl
namespace Go.Proofs.YtmkcglpeidbblaaDoor
/- THE CELL 'sum', in the pinned program and in every row, IS THE sha256 OF THE DUMP (.gsa) THAT YtmkcglpeidbblaaDoorProg.lean LOADS. Nothing in Lean hashes anything: it is a label: what it is worth is what the hold of that sum in a sandbox is worth. -/
noncomputable def Tryd.pinned : Pinned := { name := "ytmkcglpeidbblaadoor", sum := "9e95ae9fd4ab736db663b5a9d9787e26412767ddabf3bb028783c3e40909f936", checked := Tryd.checked }
namespace Rows
def none {H : Type} : Left H := { results := [], args := [] }

/- WHAT THE LISTED PACKAGE-LEVEL VARIABLES READ AS WHEN THE CALL BEGINS. Each datum BY PROGRAM (the guide's laid-datum.mjs) off the statement by which the dump's own 'gosem.cut.vars' lays the variable. In a bare row this is a premise. The card (YtmkcglpeidbblaaDoorCards.lean) ties it to the program's text. -/
def laid_unicode_utf8_acceptRanges {H : Type} : DataW H := .agg [.agg [.lit (.int .u8 128), .lit (.int .u8 191)], .agg [.lit (.int .u8 160), .lit (.int .u8 191)], .agg [.lit (.int .u8 128), .lit (.int .u8 159)], .agg [.lit (.int .u8 144), .lit (.int .u8 191)], .agg [.lit (.int .u8 128), .lit (.int .u8 143)], .agg [.lit (.int .u8 0), .lit (.int .u8 0)], .agg [.lit (.int .u8 0), .lit (.int .u8 0)], .agg [.lit (.int .u8 0), .lit (.int .u8 0)], .agg [.lit (.int .u8 0), .lit (.int .u8 0)], .agg [.lit (.int .u8 0), .lit (.int .u8 0)], .agg [.lit (.int .u8 0), .lit (.int .u8 0)], .agg [.lit (.int .u8 0), .lit (.int .u8 0)], .agg [.lit (.int .u8 0), .lit (.int .u8 0)], .agg [.lit (.int .u8 0), .lit (.int .u8 0)], .agg [.lit (.int .u8 0), .lit (.int .u8 0)], .agg [.lit (.int .u8 0), .lit (.int .u8 0)]]
/-- One of Go's own tables, pinned by name: the form's constant. -/
def laid_unicode_utf8_first : DataW Unit := Go.Pinned.utf8First

/-- 'casementlaw10.MatchFewer': WHATEVER THE INPUT: true; the input reads as it did. -/
def matchFewerSpec : ChangeSpec := { name := "matchFewer", fn := fun _ => fun
  | [d1, d2, d3, d4] => { results := [.lit (.bool true)], args := [d1, d2, d3, d4] }
  | _ => none }
def matchFewerRow : OpenClaim := { program := "ytmkcglpeidbblaadoor", sum := "9e95ae9fd4ab736db663b5a9d9787e26412767ddabf3bb028783c3e40909f936", func := "casement/casementlaw10.MatchFewer", spec := "matchFewer", inPlace := ["internal/abi.NoEscape", "internal/bytealg.MakeNoZero"], unfollowed := true, recurses := true, named := ["unicode/utf8.first", "unicode/utf8.acceptRanges"], plainKeys := false, apart := false, laid := [("unicode/utf8.acceptRanges", laid_unicode_utf8_acceptRanges), ("unicode/utf8.first", laid_unicode_utf8_first)] }
def MatchFewerSaid : Prop := matchFewerRow.holds Tryd.pinned (OpenSpec.ofChange matchFewerSpec)

/-- ITS FALSE NEIGHBOUR: 'it returns false'. Refute it at one input. -/
def matchFewerWrong : ChangeSpec := { name := "matchFewer", fn := fun _ => fun
  | [d1, d2, d3, d4] => { results := [.lit (.bool false)], args := [d1, d2, d3, d4] }
  | _ => none }
def MatchFewerWrongFalsely : Prop := matchFewerRow.holds Tryd.pinned (OpenSpec.ofChange matchFewerWrong)

/-- 'casementlaw10.MatchNames': WHATEVER THE INPUT: true; the input reads as it did. -/
def matchNamesSpec : ChangeSpec := { name := "matchNames", fn := fun _ => fun
  | [d1, d2] => { results := [.lit (.bool true)], args := [d1, d2] }
  | _ => none }
def matchNamesRow : OpenClaim := { program := "ytmkcglpeidbblaadoor", sum := "9e95ae9fd4ab736db663b5a9d9787e26412767ddabf3bb028783c3e40909f936", func := "casement/casementlaw10.MatchNames", spec := "matchNames", inPlace := ["internal/abi.NoEscape", "internal/bytealg.MakeNoZero"], unfollowed := true, recurses := true, named := ["unicode/utf8.first", "unicode/utf8.acceptRanges"], plainKeys := false, apart := false, laid := [("unicode/utf8.acceptRanges", laid_unicode_utf8_acceptRanges), ("unicode/utf8.first", laid_unicode_utf8_first)] }
def MatchNamesSaid : Prop := matchNamesRow.holds Tryd.pinned (OpenSpec.ofChange matchNamesSpec)

/-- ITS FALSE NEIGHBOUR: 'it returns false'. Refute it at one input. -/
def matchNamesWrong : ChangeSpec := { name := "matchNames", fn := fun _ => fun
  | [d1, d2] => { results := [.lit (.bool false)], args := [d1, d2] }
  | _ => none }
def MatchNamesWrongFalsely : Prop := matchNamesRow.holds Tryd.pinned (OpenSpec.ofChange matchNamesWrong)

/-- 'casementlaw10.MatchAll': WHATEVER THE INPUT: true; the input reads as it did. -/
def matchAllSpec : ChangeSpec := { name := "matchAll", fn := fun _ => fun
  | [d1, d2, d3] => { results := [.lit (.bool true)], args := [d1, d2, d3] }
  | _ => none }
def matchAllRow : OpenClaim := { program := "ytmkcglpeidbblaadoor", sum := "9e95ae9fd4ab736db663b5a9d9787e26412767ddabf3bb028783c3e40909f936", func := "casement/casementlaw10.MatchAll", spec := "matchAll", inPlace := ["internal/abi.NoEscape", "internal/bytealg.MakeNoZero"], unfollowed := true, recurses := true, named := ["unicode/utf8.first", "unicode/utf8.acceptRanges"], plainKeys := false, apart := false, laid := [("unicode/utf8.acceptRanges", laid_unicode_utf8_acceptRanges), ("unicode/utf8.first", laid_unicode_utf8_first)] }
def MatchAllSaid : Prop := matchAllRow.holds Tryd.pinned (OpenSpec.ofChange matchAllSpec)

/-- ITS FALSE NEIGHBOUR: 'it returns false'. Refute it at one input. -/
def matchAllWrong : ChangeSpec := { name := "matchAll", fn := fun _ => fun
  | [d1, d2, d3] => { results := [.lit (.bool false)], args := [d1, d2, d3] }
  | _ => none }
def MatchAllWrongFalsely : Prop := matchAllRow.holds Tryd.pinned (OpenSpec.ofChange matchAllWrong)

/-- 'casementlaw10.MatchLess': WHATEVER THE INPUT: true; the input reads as it did. -/
def matchLessSpec : ChangeSpec := { name := "matchLess", fn := fun _ => fun
  | [d1, d2, d3] => { results := [.lit (.bool true)], args := [d1, d2, d3] }
  | _ => none }
def matchLessRow : OpenClaim := { program := "ytmkcglpeidbblaadoor", sum := "9e95ae9fd4ab736db663b5a9d9787e26412767ddabf3bb028783c3e40909f936", func := "casement/casementlaw10.MatchLess", spec := "matchLess", inPlace := ["internal/abi.NoEscape", "internal/bytealg.MakeNoZero"], unfollowed := true, recurses := true, named := ["unicode/utf8.first", "unicode/utf8.acceptRanges"], plainKeys := false, apart := false, laid := [("unicode/utf8.acceptRanges", laid_unicode_utf8_acceptRanges), ("unicode/utf8.first", laid_unicode_utf8_first)] }
def MatchLessSaid : Prop := matchLessRow.holds Tryd.pinned (OpenSpec.ofChange matchLessSpec)

/-- ITS FALSE NEIGHBOUR: 'it returns false'. Refute it at one input. -/
def matchLessWrong : ChangeSpec := { name := "matchLess", fn := fun _ => fun
  | [d1, d2, d3] => { results := [.lit (.bool false)], args := [d1, d2, d3] }
  | _ => none }
def MatchLessWrongFalsely : Prop := matchLessRow.holds Tryd.pinned (OpenSpec.ofChange matchLessWrong)

/-- 'casementlaw10.MatchMatches': WHATEVER THE INPUT: true; the input reads as it did. -/
def matchMatchesSpec : ChangeSpec := { name := "matchMatches", fn := fun _ => fun
  | [d1, d2, d3] => { results := [.lit (.bool true)], args := [d1, d2, d3] }
  | _ => none }
def matchMatchesRow : OpenClaim := { program := "ytmkcglpeidbblaadoor", sum := "9e95ae9fd4ab736db663b5a9d9787e26412767ddabf3bb028783c3e40909f936", func := "casement/casementlaw10.MatchMatches", spec := "matchMatches", inPlace := ["internal/abi.NoEscape", "internal/bytealg.MakeNoZero"], unfollowed := true, recurses := true, named := ["unicode/utf8.first", "unicode/utf8.acceptRanges"], plainKeys := false, apart := false, laid := [("unicode/utf8.acceptRanges", laid_unicode_utf8_acceptRanges), ("unicode/utf8.first", laid_unicode_utf8_first)] }
def MatchMatchesSaid : Prop := matchMatchesRow.holds Tryd.pinned (OpenSpec.ofChange matchMatchesSpec)

/-- ITS FALSE NEIGHBOUR: 'it returns false'. Refute it at one input. -/
def matchMatchesWrong : ChangeSpec := { name := "matchMatches", fn := fun _ => fun
  | [d1, d2, d3] => { results := [.lit (.bool false)], args := [d1, d2, d3] }
  | _ => none }
def MatchMatchesWrongFalsely : Prop := matchMatchesRow.holds Tryd.pinned (OpenSpec.ofChange matchMatchesWrong)

/-- 'casementlaw10.MatchLists': WHATEVER THE INPUT: true; the input reads as it did. -/
def matchListsSpec : ChangeSpec := { name := "matchLists", fn := fun _ => fun
  | [d1, d2, d3, d4] => { results := [.lit (.bool true)], args := [d1, d2, d3, d4] }
  | _ => none }
def matchListsRow : OpenClaim := { program := "ytmkcglpeidbblaadoor", sum := "9e95ae9fd4ab736db663b5a9d9787e26412767ddabf3bb028783c3e40909f936", func := "casement/casementlaw10.MatchLists", spec := "matchLists", inPlace := ["internal/abi.NoEscape", "internal/bytealg.MakeNoZero"], unfollowed := true, recurses := true, named := ["unicode/utf8.first", "unicode/utf8.acceptRanges"], plainKeys := false, apart := false, laid := [("unicode/utf8.acceptRanges", laid_unicode_utf8_acceptRanges), ("unicode/utf8.first", laid_unicode_utf8_first)] }
def MatchListsSaid : Prop := matchListsRow.holds Tryd.pinned (OpenSpec.ofChange matchListsSpec)

/-- ITS FALSE NEIGHBOUR: 'it returns false'. Refute it at one input. -/
def matchListsWrong : ChangeSpec := { name := "matchLists", fn := fun _ => fun
  | [d1, d2, d3, d4] => { results := [.lit (.bool false)], args := [d1, d2, d3, d4] }
  | _ => none }
def MatchListsWrongFalsely : Prop := matchListsRow.holds Tryd.pinned (OpenSpec.ofChange matchListsWrong)

/-- 'casementlaw10.MatchNumbers': WHATEVER THE INPUT: true; the input reads as it did. -/
def matchNumbersSpec : ChangeSpec := { name := "matchNumbers", fn := fun _ => fun
  | [] => { results := [.lit (.bool true)], args := [] }
  | _ => none }
def matchNumbersRow : OpenClaim := { program := "ytmkcglpeidbblaadoor", sum := "9e95ae9fd4ab736db663b5a9d9787e26412767ddabf3bb028783c3e40909f936", func := "casement/casementlaw10.MatchNumbers", spec := "matchNumbers", inPlace := ["internal/abi.NoEscape", "internal/bytealg.MakeNoZero"], unfollowed := true, recurses := true, named := ["unicode/utf8.first", "unicode/utf8.acceptRanges"], plainKeys := false, apart := false, laid := [("unicode/utf8.acceptRanges", laid_unicode_utf8_acceptRanges), ("unicode/utf8.first", laid_unicode_utf8_first)] }
def MatchNumbersSaid : Prop := matchNumbersRow.holds Tryd.pinned (OpenSpec.ofChange matchNumbersSpec)

/-- ITS FALSE NEIGHBOUR: 'it returns false'. Refute it at one input. -/
def matchNumbersWrong : ChangeSpec := { name := "matchNumbers", fn := fun _ => fun
  | [] => { results := [.lit (.bool false)], args := [] }
  | _ => none }
def MatchNumbersWrongFalsely : Prop := matchNumbersRow.holds Tryd.pinned (OpenSpec.ofChange matchNumbersWrong)

/- THE SECOND FORM. 'bulk': how many values and letters a reading holds, each counted each time it is reached (what is shared counts as often as it is met; a slice's spare places count too). A statement '..UptoSaid' is the law's where the arguments, and the package variables that the reading takes, are together of bulk at most 1048576: NARROWER than '..Said'. Prove '..Said' where nothing that the law and all that it calls make is longer than what came in: it says more and counts as full. Else prove '..UptoSaid'. A law counts once. -/
mutual
def uptoBulk {H : Type} : DataW H → Nat
  | .lit (.string bytes) => bytes.length + 1
  | .lit _ => 1
  | .nil => 1
  | .ptr d => uptoBulk d + 1
  | .slice elems spare => uptoBulkAll elems + uptoBulkAll spare + 1
  | .agg parts => uptoBulkAll parts + 1
  | .iface _ d => uptoBulk d + 1
  | .map entries => uptoBulkEntries entries + 1
  | .held _ => 1
def uptoBulkAll {H : Type} : List (DataW H) → Nat
  | [] => 0
  | d :: r => uptoBulk d + uptoBulkAll r
def uptoBulkEntries {H : Type} : List (Lit × DataW H) → Nat
  | [] => 0
  | x :: r => uptoBulkEntry x + uptoBulkEntries r
def uptoBulkEntry {H : Type} : Lit × DataW H → Nat
  | (.string bytes, d) => bytes.length + uptoBulk d + 1
  | (_, d) => uptoBulk d + 1
 end
def uptoSmall : (H : Type) → List (DataW H) → Bool := fun _ ds => decide (uptoBulkAll ds ≤ 1048576)
def OpenSpec.upto (s : _root_.Go.ChangeSpec) : _root_.Go.OpenSpec := { _root_.Go.OpenSpec.ofChange s with cond := some uptoSmall }

/-- 'casementlaw10.MatchFewer', WHERE WHAT IT READS IS OF BULK AT MOST 1048576: true; the input reads as it did. -/
def matchFewerUptoRow : OpenClaim := { program := "ytmkcglpeidbblaadoor", sum := "9e95ae9fd4ab736db663b5a9d9787e26412767ddabf3bb028783c3e40909f936", func := "casement/casementlaw10.MatchFewer", spec := "matchFewer", inPlace := ["internal/abi.NoEscape", "internal/bytealg.MakeNoZero"], unfollowed := true, recurses := true, named := ["unicode/utf8.first", "unicode/utf8.acceptRanges"], plainKeys := false, apart := false, laid := [("unicode/utf8.acceptRanges", laid_unicode_utf8_acceptRanges), ("unicode/utf8.first", laid_unicode_utf8_first)], narrowed := true }
def MatchFewerUptoSaid : Prop := matchFewerUptoRow.holds Tryd.pinned (OpenSpec.upto matchFewerSpec)

/-- 'casementlaw10.MatchNames', WHERE WHAT IT READS IS OF BULK AT MOST 1048576: true; the input reads as it did. -/
def matchNamesUptoRow : OpenClaim := { program := "ytmkcglpeidbblaadoor", sum := "9e95ae9fd4ab736db663b5a9d9787e26412767ddabf3bb028783c3e40909f936", func := "casement/casementlaw10.MatchNames", spec := "matchNames", inPlace := ["internal/abi.NoEscape", "internal/bytealg.MakeNoZero"], unfollowed := true, recurses := true, named := ["unicode/utf8.first", "unicode/utf8.acceptRanges"], plainKeys := false, apart := false, laid := [("unicode/utf8.acceptRanges", laid_unicode_utf8_acceptRanges), ("unicode/utf8.first", laid_unicode_utf8_first)], narrowed := true }
def MatchNamesUptoSaid : Prop := matchNamesUptoRow.holds Tryd.pinned (OpenSpec.upto matchNamesSpec)

/-- 'casementlaw10.MatchAll', WHERE WHAT IT READS IS OF BULK AT MOST 1048576: true; the input reads as it did. -/
def matchAllUptoRow : OpenClaim := { program := "ytmkcglpeidbblaadoor", sum := "9e95ae9fd4ab736db663b5a9d9787e26412767ddabf3bb028783c3e40909f936", func := "casement/casementlaw10.MatchAll", spec := "matchAll", inPlace := ["internal/abi.NoEscape", "internal/bytealg.MakeNoZero"], unfollowed := true, recurses := true, named := ["unicode/utf8.first", "unicode/utf8.acceptRanges"], plainKeys := false, apart := false, laid := [("unicode/utf8.acceptRanges", laid_unicode_utf8_acceptRanges), ("unicode/utf8.first", laid_unicode_utf8_first)], narrowed := true }
def MatchAllUptoSaid : Prop := matchAllUptoRow.holds Tryd.pinned (OpenSpec.upto matchAllSpec)

/-- 'casementlaw10.MatchLess', WHERE WHAT IT READS IS OF BULK AT MOST 1048576: true; the input reads as it did. -/
def matchLessUptoRow : OpenClaim := { program := "ytmkcglpeidbblaadoor", sum := "9e95ae9fd4ab736db663b5a9d9787e26412767ddabf3bb028783c3e40909f936", func := "casement/casementlaw10.MatchLess", spec := "matchLess", inPlace := ["internal/abi.NoEscape", "internal/bytealg.MakeNoZero"], unfollowed := true, recurses := true, named := ["unicode/utf8.first", "unicode/utf8.acceptRanges"], plainKeys := false, apart := false, laid := [("unicode/utf8.acceptRanges", laid_unicode_utf8_acceptRanges), ("unicode/utf8.first", laid_unicode_utf8_first)], narrowed := true }
def MatchLessUptoSaid : Prop := matchLessUptoRow.holds Tryd.pinned (OpenSpec.upto matchLessSpec)

/-- 'casementlaw10.MatchMatches', WHERE WHAT IT READS IS OF BULK AT MOST 1048576: true; the input reads as it did. -/
def matchMatchesUptoRow : OpenClaim := { program := "ytmkcglpeidbblaadoor", sum := "9e95ae9fd4ab736db663b5a9d9787e26412767ddabf3bb028783c3e40909f936", func := "casement/casementlaw10.MatchMatches", spec := "matchMatches", inPlace := ["internal/abi.NoEscape", "internal/bytealg.MakeNoZero"], unfollowed := true, recurses := true, named := ["unicode/utf8.first", "unicode/utf8.acceptRanges"], plainKeys := false, apart := false, laid := [("unicode/utf8.acceptRanges", laid_unicode_utf8_acceptRanges), ("unicode/utf8.first", laid_unicode_utf8_first)], narrowed := true }
def MatchMatchesUptoSaid : Prop := matchMatchesUptoRow.holds Tryd.pinned (OpenSpec.upto matchMatchesSpec)

/-- 'casementlaw10.MatchLists', WHERE WHAT IT READS IS OF BULK AT MOST 1048576: true; the input reads as it did. -/
def matchListsUptoRow : OpenClaim := { program := "ytmkcglpeidbblaadoor", sum := "9e95ae9fd4ab736db663b5a9d9787e26412767ddabf3bb028783c3e40909f936", func := "casement/casementlaw10.MatchLists", spec := "matchLists", inPlace := ["internal/abi.NoEscape", "internal/bytealg.MakeNoZero"], unfollowed := true, recurses := true, named := ["unicode/utf8.first", "unicode/utf8.acceptRanges"], plainKeys := false, apart := false, laid := [("unicode/utf8.acceptRanges", laid_unicode_utf8_acceptRanges), ("unicode/utf8.first", laid_unicode_utf8_first)], narrowed := true }
def MatchListsUptoSaid : Prop := matchListsUptoRow.holds Tryd.pinned (OpenSpec.upto matchListsSpec)

/-- 'casementlaw10.MatchNumbers', WHERE WHAT IT READS IS OF BULK AT MOST 1048576: true; the input reads as it did. -/
def matchNumbersUptoRow : OpenClaim := { program := "ytmkcglpeidbblaadoor", sum := "9e95ae9fd4ab736db663b5a9d9787e26412767ddabf3bb028783c3e40909f936", func := "casement/casementlaw10.MatchNumbers", spec := "matchNumbers", inPlace := ["internal/abi.NoEscape", "internal/bytealg.MakeNoZero"], unfollowed := true, recurses := true, named := ["unicode/utf8.first", "unicode/utf8.acceptRanges"], plainKeys := false, apart := false, laid := [("unicode/utf8.acceptRanges", laid_unicode_utf8_acceptRanges), ("unicode/utf8.first", laid_unicode_utf8_first)], narrowed := true }
def MatchNumbersUptoSaid : Prop := matchNumbersUptoRow.holds Tryd.pinned (OpenSpec.upto matchNumbersSpec)

end Rows
end Go.Proofs.YtmkcglpeidbblaaDoor
