/-
  No cell of these rows narrows 'for every input' (looked for: loops, veiled, ifaces, maps, wideKeys, modest, calm, conditions, laid).
  DERIVED. THE GIVEN ROWS OF THIS SEAT. 5 by the template 'for every input the law returns true; each argument reads behind the call as it read before'; 0 by the template 'total and deterministic' (their statements: YteicdfkmpnmkmaaGreatTotals.lean).
  GIVEN WITH THE SEED: the statements are not yours to turn. If you find one false, say at which input.
  Laid BY PROGRAM, IN A SANDBOX (cutbox-rows.mjs): the forced cells as the released guide's own fill.sh prints them over the translation e994e972d8eea9f5… (all of the seat's roots in one cut). By AI agents, Wed Nov 11 2026. No macro, syntax, notation, axiom, sorry.
-/
import Derived.Test.YteicdfkmpnmkmaaGreatChecked
import GoSem.Claim
import GoSem.ClaimJoined
import GoSem.ClaimMapViews
import Derived.JoinedTies
import Derived.KernelRfl
namespace Go.Proofs.YteicdfkmpnmkmaaGreat
/- THE CELL 'sum', in the pinned program and in every row, IS THE sha256 OF THE DUMP (.gsa) THAT YteicdfkmpnmkmaaGreatProg.lean LOADS. Nothing in Lean hashes anything: it is a label: what it is worth is what the hold of that sum in a sandbox is worth. -/
noncomputable def Tryz.pinned : Pinned := { name := "yteicdfkmpnmkmaagreat", sum := "e994e972d8eea9f5d1ff7f11a52477f70fd7a0ad1702941e726b6262fc3cb564", checked := Tryz.checked }
namespace Rows
def none {H : Type} : Left H := { results := [], args := [] }

/-- 'casementlaw13.BoxesNumbers': WHATEVER THE INPUT: true; the input reads as it did. -/
def boxesNumbersSpec : ChangeSpec := { name := "boxesNumbers", fn := fun _ => fun
  | [] => { results := [.lit (.bool true)], args := [] }
  | _ => none }
def boxesNumbersRow : OpenClaim := { program := "yteicdfkmpnmkmaagreat", sum := "e994e972d8eea9f5d1ff7f11a52477f70fd7a0ad1702941e726b6262fc3cb564", func := "casement/casementlaw13.BoxesNumbers", spec := "boxesNumbers", unfollowed := true, recurses := true, apart := false }
def BoxesNumbersSaid : Prop := boxesNumbersRow.holds Tryz.pinned (OpenSpec.ofChange boxesNumbersSpec)

/-- ITS FALSE NEIGHBOUR: 'it returns false'. Refute it at one input. -/
def boxesNumbersWrong : ChangeSpec := { name := "boxesNumbers", fn := fun _ => fun
  | [] => { results := [.lit (.bool false)], args := [] }
  | _ => none }
def BoxesNumbersWrongFalsely : Prop := boxesNumbersRow.holds Tryz.pinned (OpenSpec.ofChange boxesNumbersWrong)

/-- 'casementlaw13.BoxesStyled': WHATEVER THE INPUT: true; the input reads as it did. -/
def boxesStyledSpec : ChangeSpec := { name := "boxesStyled", fn := fun _ => fun
  | [d1, d2] => { results := [.lit (.bool true)], args := [d1, d2] }
  | _ => none }
def boxesStyledRow : OpenClaim := { program := "yteicdfkmpnmkmaagreat", sum := "e994e972d8eea9f5d1ff7f11a52477f70fd7a0ad1702941e726b6262fc3cb564", func := "casement/casementlaw13.BoxesStyled", spec := "boxesStyled", unfollowed := true, recurses := true, apart := false }
def BoxesStyledSaid : Prop := boxesStyledRow.holds Tryz.pinned (OpenSpec.ofChange boxesStyledSpec)

/-- ITS FALSE NEIGHBOUR: 'it returns false'. Refute it at one input. -/
def boxesStyledWrong : ChangeSpec := { name := "boxesStyled", fn := fun _ => fun
  | [d1, d2] => { results := [.lit (.bool false)], args := [d1, d2] }
  | _ => none }
def BoxesStyledWrongFalsely : Prop := boxesStyledRow.holds Tryz.pinned (OpenSpec.ofChange boxesStyledWrong)

/-- 'casementlaw13.BoxesKept': WHATEVER THE INPUT: true; the input reads as it did. -/
def boxesKeptSpec : ChangeSpec := { name := "boxesKept", fn := fun _ => fun
  | [d1, d2] => { results := [.lit (.bool true)], args := [d1, d2] }
  | _ => none }
def boxesKeptRow : OpenClaim := { program := "yteicdfkmpnmkmaagreat", sum := "e994e972d8eea9f5d1ff7f11a52477f70fd7a0ad1702941e726b6262fc3cb564", func := "casement/casementlaw13.BoxesKept", spec := "boxesKept", unfollowed := true, recurses := true, apart := false }
def BoxesKeptSaid : Prop := boxesKeptRow.holds Tryz.pinned (OpenSpec.ofChange boxesKeptSpec)

/-- ITS FALSE NEIGHBOUR: 'it returns false'. Refute it at one input. -/
def boxesKeptWrong : ChangeSpec := { name := "boxesKept", fn := fun _ => fun
  | [d1, d2] => { results := [.lit (.bool false)], args := [d1, d2] }
  | _ => none }
def BoxesKeptWrongFalsely : Prop := boxesKeptRow.holds Tryz.pinned (OpenSpec.ofChange boxesKeptWrong)

/-- 'casementlaw13.BoxesTexts': WHATEVER THE INPUT: true; the input reads as it did. -/
def boxesTextsSpec : ChangeSpec := { name := "boxesTexts", fn := fun _ => fun
  | [d1, d2] => { results := [.lit (.bool true)], args := [d1, d2] }
  | _ => none }
def boxesTextsRow : OpenClaim := { program := "yteicdfkmpnmkmaagreat", sum := "e994e972d8eea9f5d1ff7f11a52477f70fd7a0ad1702941e726b6262fc3cb564", func := "casement/casementlaw13.BoxesTexts", spec := "boxesTexts", unfollowed := true, recurses := true, apart := false }
def BoxesTextsSaid : Prop := boxesTextsRow.holds Tryz.pinned (OpenSpec.ofChange boxesTextsSpec)

/-- ITS FALSE NEIGHBOUR: 'it returns false'. Refute it at one input. -/
def boxesTextsWrong : ChangeSpec := { name := "boxesTexts", fn := fun _ => fun
  | [d1, d2] => { results := [.lit (.bool false)], args := [d1, d2] }
  | _ => none }
def BoxesTextsWrongFalsely : Prop := boxesTextsRow.holds Tryz.pinned (OpenSpec.ofChange boxesTextsWrong)

/-- 'casementlaw13.BoxesAll': WHATEVER THE INPUT: true; the input reads as it did. -/
def boxesAllSpec : ChangeSpec := { name := "boxesAll", fn := fun _ => fun
  | [d1, d2, d3] => { results := [.lit (.bool true)], args := [d1, d2, d3] }
  | _ => none }
def boxesAllRow : OpenClaim := { program := "yteicdfkmpnmkmaagreat", sum := "e994e972d8eea9f5d1ff7f11a52477f70fd7a0ad1702941e726b6262fc3cb564", func := "casement/casementlaw13.BoxesAll", spec := "boxesAll", unfollowed := true, recurses := true, apart := false }
def BoxesAllSaid : Prop := boxesAllRow.holds Tryz.pinned (OpenSpec.ofChange boxesAllSpec)

/-- ITS FALSE NEIGHBOUR: 'it returns false'. Refute it at one input. -/
def boxesAllWrong : ChangeSpec := { name := "boxesAll", fn := fun _ => fun
  | [d1, d2, d3] => { results := [.lit (.bool false)], args := [d1, d2, d3] }
  | _ => none }
def BoxesAllWrongFalsely : Prop := boxesAllRow.holds Tryz.pinned (OpenSpec.ofChange boxesAllWrong)

/- THE SECOND FORM. 'bulk': how many values and letters a reading holds, each counted each time it is reached (what is shared counts as often as it is met; a slice's spare places count too). A statement '..UptoSaid' is the law's where the arguments, and the package variables that the reading takes, are together of bulk at most 1048576: NARROWER than '..Said'. Prove '..Said' where nothing that the law and all that it calls make is longer than what came in: it says more and counts as full. Else prove '..UptoSaid'. A law counts once. -/
mutual
def uptoBulk {H : Type} : DataW H → Nat
  | .lit (.string bytes) => bytes.length + 1
  | .lit _ => 1
  | .nil => 1
  | .ptr d => uptoBulk d + 1
  | .slice elems spare => uptoBulkAll elems + uptoBulkAll spare + 1
  | .agg parts => uptoBulkAll parts + 1
  | .iface _ d => uptoBulk d + 1
  | .map entries => uptoBulkEntries entries + 1
  | .held _ => 1
def uptoBulkAll {H : Type} : List (DataW H) → Nat
  | [] => 0
  | d :: r => uptoBulk d + uptoBulkAll r
def uptoBulkEntries {H : Type} : List (Lit × DataW H) → Nat
  | [] => 0
  | x :: r => uptoBulkEntry x + uptoBulkEntries r
def uptoBulkEntry {H : Type} : Lit × DataW H → Nat
  | (.string bytes, d) => bytes.length + uptoBulk d + 1
  | (_, d) => uptoBulk d + 1
 end
def uptoSmall : (H : Type) → List (DataW H) → Bool := fun _ ds => decide (uptoBulkAll ds ≤ 1048576)
def OpenSpec.upto (s : _root_.Go.ChangeSpec) : _root_.Go.OpenSpec := { _root_.Go.OpenSpec.ofChange s with cond := some uptoSmall }

/-- 'casementlaw13.BoxesNumbers', WHERE WHAT IT READS IS OF BULK AT MOST 1048576: true; the input reads as it did. -/
def boxesNumbersUptoRow : OpenClaim := { program := "yteicdfkmpnmkmaagreat", sum := "e994e972d8eea9f5d1ff7f11a52477f70fd7a0ad1702941e726b6262fc3cb564", func := "casement/casementlaw13.BoxesNumbers", spec := "boxesNumbers", unfollowed := true, recurses := true, apart := false, narrowed := true }
def BoxesNumbersUptoSaid : Prop := boxesNumbersUptoRow.holds Tryz.pinned (OpenSpec.upto boxesNumbersSpec)

/-- 'casementlaw13.BoxesStyled', WHERE WHAT IT READS IS OF BULK AT MOST 1048576: true; the input reads as it did. -/
def boxesStyledUptoRow : OpenClaim := { program := "yteicdfkmpnmkmaagreat", sum := "e994e972d8eea9f5d1ff7f11a52477f70fd7a0ad1702941e726b6262fc3cb564", func := "casement/casementlaw13.BoxesStyled", spec := "boxesStyled", unfollowed := true, recurses := true, apart := false, narrowed := true }
def BoxesStyledUptoSaid : Prop := boxesStyledUptoRow.holds Tryz.pinned (OpenSpec.upto boxesStyledSpec)

/-- 'casementlaw13.BoxesKept', WHERE WHAT IT READS IS OF BULK AT MOST 1048576: true; the input reads as it did. -/
def boxesKeptUptoRow : OpenClaim := { program := "yteicdfkmpnmkmaagreat", sum := "e994e972d8eea9f5d1ff7f11a52477f70fd7a0ad1702941e726b6262fc3cb564", func := "casement/casementlaw13.BoxesKept", spec := "boxesKept", unfollowed := true, recurses := true, apart := false, narrowed := true }
def BoxesKeptUptoSaid : Prop := boxesKeptUptoRow.holds Tryz.pinned (OpenSpec.upto boxesKeptSpec)

/-- 'casementlaw13.BoxesTexts', WHERE WHAT IT READS IS OF BULK AT MOST 1048576: true; the input reads as it did. -/
def boxesTextsUptoRow : OpenClaim := { program := "yteicdfkmpnmkmaagreat", sum := "e994e972d8eea9f5d1ff7f11a52477f70fd7a0ad1702941e726b6262fc3cb564", func := "casement/casementlaw13.BoxesTexts", spec := "boxesTexts", unfollowed := true, recurses := true, apart := false, narrowed := true }
def BoxesTextsUptoSaid : Prop := boxesTextsUptoRow.holds Tryz.pinned (OpenSpec.upto boxesTextsSpec)

/-- 'casementlaw13.BoxesAll', WHERE WHAT IT READS IS OF BULK AT MOST 1048576: true; the input reads as it did. -/
def boxesAllUptoRow : OpenClaim := { program := "yteicdfkmpnmkmaagreat", sum := "e994e972d8eea9f5d1ff7f11a52477f70fd7a0ad1702941e726b6262fc3cb564", func := "casement/casementlaw13.BoxesAll", spec := "boxesAll", unfollowed := true, recurses := true, apart := false, narrowed := true }
def BoxesAllUptoSaid : Prop := boxesAllUptoRow.holds Tryz.pinned (OpenSpec.upto boxesAllSpec)

end Rows
end Go.Proofs.YteicdfkmpnmkmaaGreat
