/-
  No cell of these rows narrows 'for every input' (looked for: loops, veiled, ifaces, maps, wideKeys, modest, calm, conditions, laid).
  DERIVED. THE GIVEN ROWS OF THIS SEAT. 5 by the template 'for every input the law returns true; each argument reads behind the call as it read before'; 0 by the template 'total and deterministic' (their statements: YthpokoghhfidpaaTotals.lean).
  GIVEN WITH THE SEED: the statements are not yours to turn. If you find one false, say at which input.
  Laid BY PROGRAM, IN A SANDBOX (cutbox-rows.mjs): the forced cells as the released guide's own fill.sh prints them over the translation 040493c53d1141d1… (all of the seat's roots in one cut). By AI agents, Wed Nov 11 2026. No macro, syntax, notation, axiom, sorry.
-/
import Derived.Test.YthpokoghhfidpaaChecked
import GoSem.Claim
import GoSem.ClaimJoined
import GoSem.ClaimMapViews
import Derived.JoinedTies
import Derived.KernelRfl
namespace Go.Proofs.Ythpokoghhfidpaa
/- THE CELL 'sum', in the pinned program and in every row, IS THE sha256 OF THE DUMP (.gsa) THAT YthpokoghhfidpaaProg.lean LOADS. Nothing in Lean hashes anything: it is a label: what it is worth is what the hold of that sum in a sandbox is worth. -/
noncomputable def Try.pinned : Pinned := { name := "ythpokoghhfidpaa", sum := "040493c53d1141d18459ca0653607492c940093fbd293f907249b9a714e5c68b", checked := Try.checked }
namespace Rows
def none {H : Type} : Left H := { results := [], args := [] }

/-- 'casementlaw3.SourceDecodes': WHATEVER THE INPUT: true; the input reads as it did. -/
def sourceDecodesSpec : ChangeSpec := { name := "sourceDecodes", fn := fun _ => fun
  | [d] => { results := [.lit (.bool true)], args := [d] }
  | _ => none }
def sourceDecodesRow : OpenClaim := { program := "ythpokoghhfidpaa", sum := "040493c53d1141d18459ca0653607492c940093fbd293f907249b9a714e5c68b", func := "casement/casementlaw3.SourceDecodes", spec := "sourceDecodes", apart := false }
def SourceDecodesSaid : Prop := sourceDecodesRow.holds Try.pinned (OpenSpec.ofChange sourceDecodesSpec)

/-- ITS FALSE NEIGHBOUR: 'it returns false'. Refute it at one input. -/
def sourceDecodesWrong : ChangeSpec := { name := "sourceDecodes", fn := fun _ => fun
  | [d] => { results := [.lit (.bool false)], args := [d] }
  | _ => none }
def SourceDecodesWrongFalsely : Prop := sourceDecodesRow.holds Try.pinned (OpenSpec.ofChange sourceDecodesWrong)

/-- 'casementlaw3.SourceClean': WHATEVER THE INPUT: true; the input reads as it did. -/
def sourceCleanSpec : ChangeSpec := { name := "sourceClean", fn := fun _ => fun
  | [d1, d2] => { results := [.lit (.bool true)], args := [d1, d2] }
  | _ => none }
def sourceCleanRow : OpenClaim := { program := "ythpokoghhfidpaa", sum := "040493c53d1141d18459ca0653607492c940093fbd293f907249b9a714e5c68b", func := "casement/casementlaw3.SourceClean", spec := "sourceClean", apart := false }
def SourceCleanSaid : Prop := sourceCleanRow.holds Try.pinned (OpenSpec.ofChange sourceCleanSpec)

/-- ITS FALSE NEIGHBOUR: 'it returns false'. Refute it at one input. -/
def sourceCleanWrong : ChangeSpec := { name := "sourceClean", fn := fun _ => fun
  | [d1, d2] => { results := [.lit (.bool false)], args := [d1, d2] }
  | _ => none }
def SourceCleanWrongFalsely : Prop := sourceCleanRow.holds Try.pinned (OpenSpec.ofChange sourceCleanWrong)

/-- 'casementlaw3.SourceKept': WHATEVER THE INPUT: true; the input reads as it did. -/
def sourceKeptSpec : ChangeSpec := { name := "sourceKept", fn := fun _ => fun
  | [d] => { results := [.lit (.bool true)], args := [d] }
  | _ => none }
def sourceKeptRow : OpenClaim := { program := "ythpokoghhfidpaa", sum := "040493c53d1141d18459ca0653607492c940093fbd293f907249b9a714e5c68b", func := "casement/casementlaw3.SourceKept", spec := "sourceKept", unfollowed := true, recurses := true, apart := false }
def SourceKeptSaid : Prop := sourceKeptRow.holds Try.pinned (OpenSpec.ofChange sourceKeptSpec)

/-- ITS FALSE NEIGHBOUR: 'it returns false'. Refute it at one input. -/
def sourceKeptWrong : ChangeSpec := { name := "sourceKept", fn := fun _ => fun
  | [d] => { results := [.lit (.bool false)], args := [d] }
  | _ => none }
def SourceKeptWrongFalsely : Prop := sourceKeptRow.holds Try.pinned (OpenSpec.ofChange sourceKeptWrong)

/-- 'casementlaw3.SourceNumbers': WHATEVER THE INPUT: true; the input reads as it did. -/
def sourceNumbersSpec : ChangeSpec := { name := "sourceNumbers", fn := fun _ => fun
  | [] => { results := [.lit (.bool true)], args := [] }
  | _ => none }
def sourceNumbersRow : OpenClaim := { program := "ythpokoghhfidpaa", sum := "040493c53d1141d18459ca0653607492c940093fbd293f907249b9a714e5c68b", func := "casement/casementlaw3.SourceNumbers", spec := "sourceNumbers", apart := false }
def SourceNumbersSaid : Prop := sourceNumbersRow.holds Try.pinned (OpenSpec.ofChange sourceNumbersSpec)

/-- ITS FALSE NEIGHBOUR: 'it returns false'. Refute it at one input. -/
def sourceNumbersWrong : ChangeSpec := { name := "sourceNumbers", fn := fun _ => fun
  | [] => { results := [.lit (.bool false)], args := [] }
  | _ => none }
def SourceNumbersWrongFalsely : Prop := sourceNumbersRow.holds Try.pinned (OpenSpec.ofChange sourceNumbersWrong)

/-- 'casementlaw3.SourceCursors': WHATEVER THE INPUT: true; the input reads as it did. -/
def sourceCursorsSpec : ChangeSpec := { name := "sourceCursors", fn := fun _ => fun
  | [d1, d2] => { results := [.lit (.bool true)], args := [d1, d2] }
  | _ => none }
def sourceCursorsRow : OpenClaim := { program := "ythpokoghhfidpaa", sum := "040493c53d1141d18459ca0653607492c940093fbd293f907249b9a714e5c68b", func := "casement/casementlaw3.SourceCursors", spec := "sourceCursors", apart := false }
def SourceCursorsSaid : Prop := sourceCursorsRow.holds Try.pinned (OpenSpec.ofChange sourceCursorsSpec)

/-- ITS FALSE NEIGHBOUR: 'it returns false'. Refute it at one input. -/
def sourceCursorsWrong : ChangeSpec := { name := "sourceCursors", fn := fun _ => fun
  | [d1, d2] => { results := [.lit (.bool false)], args := [d1, d2] }
  | _ => none }
def SourceCursorsWrongFalsely : Prop := sourceCursorsRow.holds Try.pinned (OpenSpec.ofChange sourceCursorsWrong)

/- THE SECOND FORM. 'bulk': how many values and letters a reading holds, each counted each time it is reached (what is shared counts as often as it is met; a slice's spare places count too). A statement '..UptoSaid' is the law's where the arguments, and the package variables that the reading takes, are together of bulk at most 1048576: NARROWER than '..Said'. Prove '..Said' where nothing that the law and all that it calls make is longer than what came in: it says more and counts as full. Else prove '..UptoSaid'. A law counts once. -/
mutual
def uptoBulk {H : Type} : DataW H → Nat
  | .lit (.string bytes) => bytes.length + 1
  | .lit _ => 1
  | .nil => 1
  | .ptr d => uptoBulk d + 1
  | .slice elems spare => uptoBulkAll elems + uptoBulkAll spare + 1
  | .agg parts => uptoBulkAll parts + 1
  | .iface _ d => uptoBulk d + 1
  | .map entries => uptoBulkEntries entries + 1
  | .held _ => 1
def uptoBulkAll {H : Type} : List (DataW H) → Nat
  | [] => 0
  | d :: r => uptoBulk d + uptoBulkAll r
def uptoBulkEntries {H : Type} : List (Lit × DataW H) → Nat
  | [] => 0
  | x :: r => uptoBulkEntry x + uptoBulkEntries r
def uptoBulkEntry {H : Type} : Lit × DataW H → Nat
  | (.string bytes, d) => bytes.length + uptoBulk d + 1
  | (_, d) => uptoBulk d + 1
 end
def uptoSmall : (H : Type) → List (DataW H) → Bool := fun _ ds => decide (uptoBulkAll ds ≤ 1048576)
def OpenSpec.upto (s : _root_.Go.ChangeSpec) : _root_.Go.OpenSpec := { _root_.Go.OpenSpec.ofChange s with cond := some uptoSmall }

/-- 'casementlaw3.SourceDecodes', WHERE WHAT IT READS IS OF BULK AT MOST 1048576: true; the input reads as it did. -/
def sourceDecodesUptoRow : OpenClaim := { program := "ythpokoghhfidpaa", sum := "040493c53d1141d18459ca0653607492c940093fbd293f907249b9a714e5c68b", func := "casement/casementlaw3.SourceDecodes", spec := "sourceDecodes", apart := false, narrowed := true }
def SourceDecodesUptoSaid : Prop := sourceDecodesUptoRow.holds Try.pinned (OpenSpec.upto sourceDecodesSpec)

/-- 'casementlaw3.SourceClean', WHERE WHAT IT READS IS OF BULK AT MOST 1048576: true; the input reads as it did. -/
def sourceCleanUptoRow : OpenClaim := { program := "ythpokoghhfidpaa", sum := "040493c53d1141d18459ca0653607492c940093fbd293f907249b9a714e5c68b", func := "casement/casementlaw3.SourceClean", spec := "sourceClean", apart := false, narrowed := true }
def SourceCleanUptoSaid : Prop := sourceCleanUptoRow.holds Try.pinned (OpenSpec.upto sourceCleanSpec)

/-- 'casementlaw3.SourceKept', WHERE WHAT IT READS IS OF BULK AT MOST 1048576: true; the input reads as it did. -/
def sourceKeptUptoRow : OpenClaim := { program := "ythpokoghhfidpaa", sum := "040493c53d1141d18459ca0653607492c940093fbd293f907249b9a714e5c68b", func := "casement/casementlaw3.SourceKept", spec := "sourceKept", unfollowed := true, recurses := true, apart := false, narrowed := true }
def SourceKeptUptoSaid : Prop := sourceKeptUptoRow.holds Try.pinned (OpenSpec.upto sourceKeptSpec)

/-- 'casementlaw3.SourceNumbers', WHERE WHAT IT READS IS OF BULK AT MOST 1048576: true; the input reads as it did. -/
def sourceNumbersUptoRow : OpenClaim := { program := "ythpokoghhfidpaa", sum := "040493c53d1141d18459ca0653607492c940093fbd293f907249b9a714e5c68b", func := "casement/casementlaw3.SourceNumbers", spec := "sourceNumbers", apart := false, narrowed := true }
def SourceNumbersUptoSaid : Prop := sourceNumbersUptoRow.holds Try.pinned (OpenSpec.upto sourceNumbersSpec)

/-- 'casementlaw3.SourceCursors', WHERE WHAT IT READS IS OF BULK AT MOST 1048576: true; the input reads as it did. -/
def sourceCursorsUptoRow : OpenClaim := { program := "ythpokoghhfidpaa", sum := "040493c53d1141d18459ca0653607492c940093fbd293f907249b9a714e5c68b", func := "casement/casementlaw3.SourceCursors", spec := "sourceCursors", apart := false, narrowed := true }
def SourceCursorsUptoSaid : Prop := sourceCursorsUptoRow.holds Try.pinned (OpenSpec.upto sourceCursorsSpec)

end Rows
end Go.Proofs.Ythpokoghhfidpaa
