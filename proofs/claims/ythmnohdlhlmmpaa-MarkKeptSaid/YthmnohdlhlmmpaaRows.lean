/-
  No cell of these rows narrows 'for every input' (looked for: loops, veiled, ifaces, maps, wideKeys, modest, calm, conditions, laid).
  DERIVED. THE GIVEN ROWS OF THIS SEAT. 9 by the template 'for every input the law returns true; each argument reads behind the call as it read before'; 0 by the template 'total and deterministic' (their statements: YthmnohdlhlmmpaaTotals.lean).
  GIVEN WITH THE SEED: the statements are not yours to turn. If you find one false, say at which input.
  Laid BY PROGRAM, IN A SANDBOX (cutbox-rows.mjs): the forced cells as the released guide's own fill.sh prints them over the translation 8c02cb5402d60808… (all of the seat's roots in one cut). By AI agents, Wed Nov 11 2026. No macro, syntax, notation, axiom, sorry.
-/
import Derived.Test.YthmnohdlhlmmpaaChecked
import GoSem.Claim
import GoSem.ClaimJoined
import GoSem.ClaimMapViews
import Derived.JoinedTies
import Derived.KernelRfl
namespace Go.Proofs.Ythmnohdlhlmmpaa
/- THE CELL 'sum', in the pinned program and in every row, IS THE sha256 OF THE DUMP (.gsa) THAT YthmnohdlhlmmpaaProg.lean LOADS. Nothing in Lean hashes anything: it is a label: what it is worth is what the hold of that sum in a sandbox is worth. -/
noncomputable def Try.pinned : Pinned := { name := "ythmnohdlhlmmpaa", sum := "8c02cb5402d608080c3fbf71c09ed93a2acaa0682e55c4673f02c848f29641bd", checked := Try.checked }
namespace Rows
def none {H : Type} : Left H := { results := [], args := [] }

/-- 'casementlaw4.MarkNumbers': WHATEVER THE INPUT: true; the input reads as it did. -/
def markNumbersSpec : ChangeSpec := { name := "markNumbers", fn := fun _ => fun
  | [] => { results := [.lit (.bool true)], args := [] }
  | _ => none }
def markNumbersRow : OpenClaim := { program := "ythmnohdlhlmmpaa", sum := "8c02cb5402d608080c3fbf71c09ed93a2acaa0682e55c4673f02c848f29641bd", func := "casement/casementlaw4.MarkNumbers", spec := "markNumbers", inPlace := ["internal/bytealg.IndexByteString", "internal/abi.NoEscape"], unfollowed := true, recurses := true, apart := false }
def MarkNumbersSaid : Prop := markNumbersRow.holds Try.pinned (OpenSpec.ofChange markNumbersSpec)

/-- ITS FALSE NEIGHBOUR: 'it returns false'. Refute it at one input. -/
def markNumbersWrong : ChangeSpec := { name := "markNumbers", fn := fun _ => fun
  | [] => { results := [.lit (.bool false)], args := [] }
  | _ => none }
def MarkNumbersWrongFalsely : Prop := markNumbersRow.holds Try.pinned (OpenSpec.ofChange markNumbersWrong)

/-- 'casementlaw4.MarkTokens': WHATEVER THE INPUT: true; the input reads as it did. -/
def markTokensSpec : ChangeSpec := { name := "markTokens", fn := fun _ => fun
  | [d] => { results := [.lit (.bool true)], args := [d] }
  | _ => none }
def markTokensRow : OpenClaim := { program := "ythmnohdlhlmmpaa", sum := "8c02cb5402d608080c3fbf71c09ed93a2acaa0682e55c4673f02c848f29641bd", func := "casement/casementlaw4.MarkTokens", spec := "markTokens", inPlace := ["internal/bytealg.IndexByteString", "internal/abi.NoEscape"], unfollowed := true, recurses := true, apart := false }
def MarkTokensSaid : Prop := markTokensRow.holds Try.pinned (OpenSpec.ofChange markTokensSpec)

/-- ITS FALSE NEIGHBOUR: 'it returns false'. Refute it at one input. -/
def markTokensWrong : ChangeSpec := { name := "markTokens", fn := fun _ => fun
  | [d] => { results := [.lit (.bool false)], args := [d] }
  | _ => none }
def MarkTokensWrongFalsely : Prop := markTokensRow.holds Try.pinned (OpenSpec.ofChange markTokensWrong)

/-- 'casementlaw4.MarkUnescapes': WHATEVER THE INPUT: true; the input reads as it did. -/
def markUnescapesSpec : ChangeSpec := { name := "markUnescapes", fn := fun _ => fun
  | [d] => { results := [.lit (.bool true)], args := [d] }
  | _ => none }
def markUnescapesRow : OpenClaim := { program := "ythmnohdlhlmmpaa", sum := "8c02cb5402d608080c3fbf71c09ed93a2acaa0682e55c4673f02c848f29641bd", func := "casement/casementlaw4.MarkUnescapes", spec := "markUnescapes", inPlace := ["internal/bytealg.IndexByteString", "internal/abi.NoEscape"], unfollowed := true, recurses := true, apart := false }
def MarkUnescapesSaid : Prop := markUnescapesRow.holds Try.pinned (OpenSpec.ofChange markUnescapesSpec)

/-- ITS FALSE NEIGHBOUR: 'it returns false'. Refute it at one input. -/
def markUnescapesWrong : ChangeSpec := { name := "markUnescapes", fn := fun _ => fun
  | [d] => { results := [.lit (.bool false)], args := [d] }
  | _ => none }
def MarkUnescapesWrongFalsely : Prop := markUnescapesRow.holds Try.pinned (OpenSpec.ofChange markUnescapesWrong)

/-- 'casementlaw4.MarkNames': WHATEVER THE INPUT: true; the input reads as it did. -/
def markNamesSpec : ChangeSpec := { name := "markNames", fn := fun _ => fun
  | [d] => { results := [.lit (.bool true)], args := [d] }
  | _ => none }
def markNamesRow : OpenClaim := { program := "ythmnohdlhlmmpaa", sum := "8c02cb5402d608080c3fbf71c09ed93a2acaa0682e55c4673f02c848f29641bd", func := "casement/casementlaw4.MarkNames", spec := "markNames", inPlace := ["internal/bytealg.IndexByteString", "internal/abi.NoEscape"], unfollowed := true, recurses := true, apart := false }
def MarkNamesSaid : Prop := markNamesRow.holds Try.pinned (OpenSpec.ofChange markNamesSpec)

/-- ITS FALSE NEIGHBOUR: 'it returns false'. Refute it at one input. -/
def markNamesWrong : ChangeSpec := { name := "markNames", fn := fun _ => fun
  | [d] => { results := [.lit (.bool false)], args := [d] }
  | _ => none }
def MarkNamesWrongFalsely : Prop := markNamesRow.holds Try.pinned (OpenSpec.ofChange markNamesWrong)

/-- 'casementlaw4.MarkPlain': WHATEVER THE INPUT: true; the input reads as it did. -/
def markPlainSpec : ChangeSpec := { name := "markPlain", fn := fun _ => fun
  | [d] => { results := [.lit (.bool true)], args := [d] }
  | _ => none }
def markPlainRow : OpenClaim := { program := "ythmnohdlhlmmpaa", sum := "8c02cb5402d608080c3fbf71c09ed93a2acaa0682e55c4673f02c848f29641bd", func := "casement/casementlaw4.MarkPlain", spec := "markPlain", inPlace := ["internal/bytealg.IndexByteString", "internal/abi.NoEscape"], unfollowed := true, recurses := true, apart := false }
def MarkPlainSaid : Prop := markPlainRow.holds Try.pinned (OpenSpec.ofChange markPlainSpec)

/-- ITS FALSE NEIGHBOUR: 'it returns false'. Refute it at one input. -/
def markPlainWrong : ChangeSpec := { name := "markPlain", fn := fun _ => fun
  | [d] => { results := [.lit (.bool false)], args := [d] }
  | _ => none }
def MarkPlainWrongFalsely : Prop := markPlainRow.holds Try.pinned (OpenSpec.ofChange markPlainWrong)

/-- 'casementlaw4.MarkJoins': WHATEVER THE INPUT: true; the input reads as it did. -/
def markJoinsSpec : ChangeSpec := { name := "markJoins", fn := fun _ => fun
  | [d] => { results := [.lit (.bool true)], args := [d] }
  | _ => none }
def markJoinsRow : OpenClaim := { program := "ythmnohdlhlmmpaa", sum := "8c02cb5402d608080c3fbf71c09ed93a2acaa0682e55c4673f02c848f29641bd", func := "casement/casementlaw4.MarkJoins", spec := "markJoins", inPlace := ["internal/bytealg.IndexByteString", "internal/abi.NoEscape"], unfollowed := true, recurses := true, apart := false }
def MarkJoinsSaid : Prop := markJoinsRow.holds Try.pinned (OpenSpec.ofChange markJoinsSpec)

/-- ITS FALSE NEIGHBOUR: 'it returns false'. Refute it at one input. -/
def markJoinsWrong : ChangeSpec := { name := "markJoins", fn := fun _ => fun
  | [d] => { results := [.lit (.bool false)], args := [d] }
  | _ => none }
def MarkJoinsWrongFalsely : Prop := markJoinsRow.holds Try.pinned (OpenSpec.ofChange markJoinsWrong)

/-- 'casementlaw4.MarkKept': WHATEVER THE INPUT: true; the input reads as it did. -/
def markKeptSpec : ChangeSpec := { name := "markKept", fn := fun _ => fun
  | [d] => { results := [.lit (.bool true)], args := [d] }
  | _ => none }
def markKeptRow : OpenClaim := { program := "ythmnohdlhlmmpaa", sum := "8c02cb5402d608080c3fbf71c09ed93a2acaa0682e55c4673f02c848f29641bd", func := "casement/casementlaw4.MarkKept", spec := "markKept", inPlace := ["internal/bytealg.IndexByteString", "internal/abi.NoEscape"], unfollowed := true, recurses := true, apart := false }
def MarkKeptSaid : Prop := markKeptRow.holds Try.pinned (OpenSpec.ofChange markKeptSpec)

/-- ITS FALSE NEIGHBOUR: 'it returns false'. Refute it at one input. -/
def markKeptWrong : ChangeSpec := { name := "markKept", fn := fun _ => fun
  | [d] => { results := [.lit (.bool false)], args := [d] }
  | _ => none }
def MarkKeptWrongFalsely : Prop := markKeptRow.holds Try.pinned (OpenSpec.ofChange markKeptWrong)

/-- 'casementlaw4.MarkNumeric': WHATEVER THE INPUT: true; the input reads as it did. -/
def markNumericSpec : ChangeSpec := { name := "markNumeric", fn := fun _ => fun
  | [d] => { results := [.lit (.bool true)], args := [d] }
  | _ => none }
def markNumericRow : OpenClaim := { program := "ythmnohdlhlmmpaa", sum := "8c02cb5402d608080c3fbf71c09ed93a2acaa0682e55c4673f02c848f29641bd", func := "casement/casementlaw4.MarkNumeric", spec := "markNumeric", inPlace := ["internal/bytealg.IndexByteString", "internal/abi.NoEscape"], unfollowed := true, recurses := true, apart := false }
def MarkNumericSaid : Prop := markNumericRow.holds Try.pinned (OpenSpec.ofChange markNumericSpec)

/-- ITS FALSE NEIGHBOUR: 'it returns false'. Refute it at one input. -/
def markNumericWrong : ChangeSpec := { name := "markNumeric", fn := fun _ => fun
  | [d] => { results := [.lit (.bool false)], args := [d] }
  | _ => none }
def MarkNumericWrongFalsely : Prop := markNumericRow.holds Try.pinned (OpenSpec.ofChange markNumericWrong)

/-- 'casementlaw4.MarkValues': WHATEVER THE INPUT: true; the input reads as it did. -/
def markValuesSpec : ChangeSpec := { name := "markValues", fn := fun _ => fun
  | [d] => { results := [.lit (.bool true)], args := [d] }
  | _ => none }
def markValuesRow : OpenClaim := { program := "ythmnohdlhlmmpaa", sum := "8c02cb5402d608080c3fbf71c09ed93a2acaa0682e55c4673f02c848f29641bd", func := "casement/casementlaw4.MarkValues", spec := "markValues", inPlace := ["internal/bytealg.IndexByteString", "internal/abi.NoEscape"], unfollowed := true, recurses := true, apart := false }
def MarkValuesSaid : Prop := markValuesRow.holds Try.pinned (OpenSpec.ofChange markValuesSpec)

/-- ITS FALSE NEIGHBOUR: 'it returns false'. Refute it at one input. -/
def markValuesWrong : ChangeSpec := { name := "markValues", fn := fun _ => fun
  | [d] => { results := [.lit (.bool false)], args := [d] }
  | _ => none }
def MarkValuesWrongFalsely : Prop := markValuesRow.holds Try.pinned (OpenSpec.ofChange markValuesWrong)

/- THE SECOND FORM. 'bulk': how many values and letters a reading holds, each counted each time it is reached (what is shared counts as often as it is met; a slice's spare places count too). A statement '..UptoSaid' is the law's where the arguments, and the package variables that the reading takes, are together of bulk at most 1048576: NARROWER than '..Said'. Prove '..Said' where nothing that the law and all that it calls make is longer than what came in: it says more and counts as full. Else prove '..UptoSaid'. A law counts once. -/
mutual
def uptoBulk {H : Type} : DataW H → Nat
  | .lit (.string bytes) => bytes.length + 1
  | .lit _ => 1
  | .nil => 1
  | .ptr d => uptoBulk d + 1
  | .slice elems spare => uptoBulkAll elems + uptoBulkAll spare + 1
  | .agg parts => uptoBulkAll parts + 1
  | .iface _ d => uptoBulk d + 1
  | .map entries => uptoBulkEntries entries + 1
  | .held _ => 1
def uptoBulkAll {H : Type} : List (DataW H) → Nat
  | [] => 0
  | d :: r => uptoBulk d + uptoBulkAll r
def uptoBulkEntries {H : Type} : List (Lit × DataW H) → Nat
  | [] => 0
  | x :: r => uptoBulkEntry x + uptoBulkEntries r
def uptoBulkEntry {H : Type} : Lit × DataW H → Nat
  | (.string bytes, d) => bytes.length + uptoBulk d + 1
  | (_, d) => uptoBulk d + 1
 end
def uptoSmall : (H : Type) → List (DataW H) → Bool := fun _ ds => decide (uptoBulkAll ds ≤ 1048576)
def OpenSpec.upto (s : _root_.Go.ChangeSpec) : _root_.Go.OpenSpec := { _root_.Go.OpenSpec.ofChange s with cond := some uptoSmall }

/-- 'casementlaw4.MarkNumbers', WHERE WHAT IT READS IS OF BULK AT MOST 1048576: true; the input reads as it did. -/
def markNumbersUptoRow : OpenClaim := { program := "ythmnohdlhlmmpaa", sum := "8c02cb5402d608080c3fbf71c09ed93a2acaa0682e55c4673f02c848f29641bd", func := "casement/casementlaw4.MarkNumbers", spec := "markNumbers", inPlace := ["internal/bytealg.IndexByteString", "internal/abi.NoEscape"], unfollowed := true, recurses := true, apart := false, narrowed := true }
def MarkNumbersUptoSaid : Prop := markNumbersUptoRow.holds Try.pinned (OpenSpec.upto markNumbersSpec)

/-- 'casementlaw4.MarkTokens', WHERE WHAT IT READS IS OF BULK AT MOST 1048576: true; the input reads as it did. -/
def markTokensUptoRow : OpenClaim := { program := "ythmnohdlhlmmpaa", sum := "8c02cb5402d608080c3fbf71c09ed93a2acaa0682e55c4673f02c848f29641bd", func := "casement/casementlaw4.MarkTokens", spec := "markTokens", inPlace := ["internal/bytealg.IndexByteString", "internal/abi.NoEscape"], unfollowed := true, recurses := true, apart := false, narrowed := true }
def MarkTokensUptoSaid : Prop := markTokensUptoRow.holds Try.pinned (OpenSpec.upto markTokensSpec)

/-- 'casementlaw4.MarkUnescapes', WHERE WHAT IT READS IS OF BULK AT MOST 1048576: true; the input reads as it did. -/
def markUnescapesUptoRow : OpenClaim := { program := "ythmnohdlhlmmpaa", sum := "8c02cb5402d608080c3fbf71c09ed93a2acaa0682e55c4673f02c848f29641bd", func := "casement/casementlaw4.MarkUnescapes", spec := "markUnescapes", inPlace := ["internal/bytealg.IndexByteString", "internal/abi.NoEscape"], unfollowed := true, recurses := true, apart := false, narrowed := true }
def MarkUnescapesUptoSaid : Prop := markUnescapesUptoRow.holds Try.pinned (OpenSpec.upto markUnescapesSpec)

/-- 'casementlaw4.MarkNames', WHERE WHAT IT READS IS OF BULK AT MOST 1048576: true; the input reads as it did. -/
def markNamesUptoRow : OpenClaim := { program := "ythmnohdlhlmmpaa", sum := "8c02cb5402d608080c3fbf71c09ed93a2acaa0682e55c4673f02c848f29641bd", func := "casement/casementlaw4.MarkNames", spec := "markNames", inPlace := ["internal/bytealg.IndexByteString", "internal/abi.NoEscape"], unfollowed := true, recurses := true, apart := false, narrowed := true }
def MarkNamesUptoSaid : Prop := markNamesUptoRow.holds Try.pinned (OpenSpec.upto markNamesSpec)

/-- 'casementlaw4.MarkPlain', WHERE WHAT IT READS IS OF BULK AT MOST 1048576: true; the input reads as it did. -/
def markPlainUptoRow : OpenClaim := { program := "ythmnohdlhlmmpaa", sum := "8c02cb5402d608080c3fbf71c09ed93a2acaa0682e55c4673f02c848f29641bd", func := "casement/casementlaw4.MarkPlain", spec := "markPlain", inPlace := ["internal/bytealg.IndexByteString", "internal/abi.NoEscape"], unfollowed := true, recurses := true, apart := false, narrowed := true }
def MarkPlainUptoSaid : Prop := markPlainUptoRow.holds Try.pinned (OpenSpec.upto markPlainSpec)

/-- 'casementlaw4.MarkJoins', WHERE WHAT IT READS IS OF BULK AT MOST 1048576: true; the input reads as it did. -/
def markJoinsUptoRow : OpenClaim := { program := "ythmnohdlhlmmpaa", sum := "8c02cb5402d608080c3fbf71c09ed93a2acaa0682e55c4673f02c848f29641bd", func := "casement/casementlaw4.MarkJoins", spec := "markJoins", inPlace := ["internal/bytealg.IndexByteString", "internal/abi.NoEscape"], unfollowed := true, recurses := true, apart := false, narrowed := true }
def MarkJoinsUptoSaid : Prop := markJoinsUptoRow.holds Try.pinned (OpenSpec.upto markJoinsSpec)

/-- 'casementlaw4.MarkKept', WHERE WHAT IT READS IS OF BULK AT MOST 1048576: true; the input reads as it did. -/
def markKeptUptoRow : OpenClaim := { program := "ythmnohdlhlmmpaa", sum := "8c02cb5402d608080c3fbf71c09ed93a2acaa0682e55c4673f02c848f29641bd", func := "casement/casementlaw4.MarkKept", spec := "markKept", inPlace := ["internal/bytealg.IndexByteString", "internal/abi.NoEscape"], unfollowed := true, recurses := true, apart := false, narrowed := true }
def MarkKeptUptoSaid : Prop := markKeptUptoRow.holds Try.pinned (OpenSpec.upto markKeptSpec)

/-- 'casementlaw4.MarkNumeric', WHERE WHAT IT READS IS OF BULK AT MOST 1048576: true; the input reads as it did. -/
def markNumericUptoRow : OpenClaim := { program := "ythmnohdlhlmmpaa", sum := "8c02cb5402d608080c3fbf71c09ed93a2acaa0682e55c4673f02c848f29641bd", func := "casement/casementlaw4.MarkNumeric", spec := "markNumeric", inPlace := ["internal/bytealg.IndexByteString", "internal/abi.NoEscape"], unfollowed := true, recurses := true, apart := false, narrowed := true }
def MarkNumericUptoSaid : Prop := markNumericUptoRow.holds Try.pinned (OpenSpec.upto markNumericSpec)

/-- 'casementlaw4.MarkValues', WHERE WHAT IT READS IS OF BULK AT MOST 1048576: true; the input reads as it did. -/
def markValuesUptoRow : OpenClaim := { program := "ythmnohdlhlmmpaa", sum := "8c02cb5402d608080c3fbf71c09ed93a2acaa0682e55c4673f02c848f29641bd", func := "casement/casementlaw4.MarkValues", spec := "markValues", inPlace := ["internal/bytealg.IndexByteString", "internal/abi.NoEscape"], unfollowed := true, recurses := true, apart := false, narrowed := true }
def MarkValuesUptoSaid : Prop := markValuesUptoRow.holds Try.pinned (OpenSpec.upto markValuesSpec)

end Rows
end Go.Proofs.Ythmnohdlhlmmpaa
