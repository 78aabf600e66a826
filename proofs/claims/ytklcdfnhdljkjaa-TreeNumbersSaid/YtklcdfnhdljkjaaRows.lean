/-
  No cell of these rows narrows 'for every input' (looked for: loops, veiled, ifaces, maps, wideKeys, modest, calm, conditions, laid).
  DERIVED. THE GIVEN ROWS OF THIS SEAT. 4 by the template 'for every input the law returns true; each argument reads behind the call as it read before'; 0 by the template 'total and deterministic' (their statements: YtklcdfnhdljkjaaTotals.lean).
  GIVEN WITH THE SEED: the statements are not yours to turn. If you find one false, say at which input.
  Laid BY PROGRAM, IN A SANDBOX (cutbox-rows.mjs): the forced cells as the released guide's own fill.sh prints them over the translation 6a4ad5bab6ca27c5… (all of the seat's roots in one cut). By AI agents, Wed Nov 11 2026. No macro, syntax, notation, axiom, sorry.
-/
import Derived.Test.YtklcdfnhdljkjaaChecked
import GoSem.Claim
import GoSem.ClaimJoined
import GoSem.ClaimMapViews
import Derived.JoinedTies
import Derived.KernelRfl
namespace Go.Proofs.Ytklcdfnhdljkjaa
/- THE CELL 'sum', in the pinned program and in every row, IS THE sha256 OF THE DUMP (.gsa) THAT YtklcdfnhdljkjaaProg.lean LOADS. Nothing in Lean hashes anything: it is a label: what it is worth is what the hold of that sum in a sandbox is worth. -/
noncomputable def Try.pinned : Pinned := { name := "ytklcdfnhdljkjaa", sum := "6a4ad5bab6ca27c5ed51f9e2f906fc516ec0f02e17edc6ae811c6603274cc651", checked := Try.checked }
namespace Rows
def none {H : Type} : Left H := { results := [], args := [] }

/-- 'casementlaw6.TreeNumbers': WHATEVER THE INPUT: true; the input reads as it did. -/
def treeNumbersSpec : ChangeSpec := { name := "treeNumbers", fn := fun _ => fun
  | [] => { results := [.lit (.bool true)], args := [] }
  | _ => none }
def treeNumbersRow : OpenClaim := { program := "ytklcdfnhdljkjaa", sum := "6a4ad5bab6ca27c5ed51f9e2f906fc516ec0f02e17edc6ae811c6603274cc651", func := "casement/casementlaw6.TreeNumbers", spec := "treeNumbers", inPlace := ["internal/bytealg.IndexByteString", "internal/abi.NoEscape", "slices.overlaps[*casement/tree.node]"], unfollowed := true, recurses := true, apart := false }
def TreeNumbersSaid : Prop := treeNumbersRow.holds Try.pinned (OpenSpec.ofChange treeNumbersSpec)

/-- ITS FALSE NEIGHBOUR: 'it returns false'. Refute it at one input. -/
def treeNumbersWrong : ChangeSpec := { name := "treeNumbers", fn := fun _ => fun
  | [] => { results := [.lit (.bool false)], args := [] }
  | _ => none }
def TreeNumbersWrongFalsely : Prop := treeNumbersRow.holds Try.pinned (OpenSpec.ofChange treeNumbersWrong)

/-- 'casementlaw6.TreeRight': WHATEVER THE INPUT: true; the input reads as it did. -/
def treeRightSpec : ChangeSpec := { name := "treeRight", fn := fun _ => fun
  | [d] => { results := [.lit (.bool true)], args := [d] }
  | _ => none }
def treeRightRow : OpenClaim := { program := "ytklcdfnhdljkjaa", sum := "6a4ad5bab6ca27c5ed51f9e2f906fc516ec0f02e17edc6ae811c6603274cc651", func := "casement/casementlaw6.TreeRight", spec := "treeRight", inPlace := ["internal/bytealg.IndexByteString", "internal/abi.NoEscape", "slices.overlaps[*casement/tree.node]"], unfollowed := true, recurses := true, apart := false }
def TreeRightSaid : Prop := treeRightRow.holds Try.pinned (OpenSpec.ofChange treeRightSpec)

/-- ITS FALSE NEIGHBOUR: 'it returns false'. Refute it at one input. -/
def treeRightWrong : ChangeSpec := { name := "treeRight", fn := fun _ => fun
  | [d] => { results := [.lit (.bool false)], args := [d] }
  | _ => none }
def TreeRightWrongFalsely : Prop := treeRightRow.holds Try.pinned (OpenSpec.ofChange treeRightWrong)

/-- 'casementlaw6.TreeTables': WHATEVER THE INPUT: true; the input reads as it did. -/
def treeTablesSpec : ChangeSpec := { name := "treeTables", fn := fun _ => fun
  | [d] => { results := [.lit (.bool true)], args := [d] }
  | _ => none }
def treeTablesRow : OpenClaim := { program := "ytklcdfnhdljkjaa", sum := "6a4ad5bab6ca27c5ed51f9e2f906fc516ec0f02e17edc6ae811c6603274cc651", func := "casement/casementlaw6.TreeTables", spec := "treeTables", inPlace := ["internal/bytealg.IndexByteString", "internal/abi.NoEscape", "slices.overlaps[*casement/tree.node]"], unfollowed := true, recurses := true, apart := false }
def TreeTablesSaid : Prop := treeTablesRow.holds Try.pinned (OpenSpec.ofChange treeTablesSpec)

/-- ITS FALSE NEIGHBOUR: 'it returns false'. Refute it at one input. -/
def treeTablesWrong : ChangeSpec := { name := "treeTables", fn := fun _ => fun
  | [d] => { results := [.lit (.bool false)], args := [d] }
  | _ => none }
def TreeTablesWrongFalsely : Prop := treeTablesRow.holds Try.pinned (OpenSpec.ofChange treeTablesWrong)

/-- 'casementlaw6.TreeOpen': WHATEVER THE INPUT: true; the input reads as it did. -/
def treeOpenSpec : ChangeSpec := { name := "treeOpen", fn := fun _ => fun
  | [d] => { results := [.lit (.bool true)], args := [d] }
  | _ => none }
def treeOpenRow : OpenClaim := { program := "ytklcdfnhdljkjaa", sum := "6a4ad5bab6ca27c5ed51f9e2f906fc516ec0f02e17edc6ae811c6603274cc651", func := "casement/casementlaw6.TreeOpen", spec := "treeOpen", inPlace := ["internal/bytealg.IndexByteString", "internal/abi.NoEscape", "slices.overlaps[*casement/tree.node]"], unfollowed := true, recurses := true, apart := false }
def TreeOpenSaid : Prop := treeOpenRow.holds Try.pinned (OpenSpec.ofChange treeOpenSpec)

/-- ITS FALSE NEIGHBOUR: 'it returns false'. Refute it at one input. -/
def treeOpenWrong : ChangeSpec := { name := "treeOpen", fn := fun _ => fun
  | [d] => { results := [.lit (.bool false)], args := [d] }
  | _ => none }
def TreeOpenWrongFalsely : Prop := treeOpenRow.holds Try.pinned (OpenSpec.ofChange treeOpenWrong)

/- THE SECOND FORM. 'bulk': how many values and letters a reading holds, each counted each time it is reached (what is shared counts as often as it is met; a slice's spare places count too). A statement '..UptoSaid' is the law's where the arguments, and the package variables that the reading takes, are together of bulk at most 1048576: NARROWER than '..Said'. Prove '..Said' where nothing that the law and all that it calls make is longer than what came in: it says more and counts as full. Else prove '..UptoSaid'. A law counts once. -/
mutual
def uptoBulk {H : Type} : DataW H → Nat
  | .lit (.string bytes) => bytes.length + 1
  | .lit _ => 1
  | .nil => 1
  | .ptr d => uptoBulk d + 1
  | .slice elems spare => uptoBulkAll elems + uptoBulkAll spare + 1
  | .agg parts => uptoBulkAll parts + 1
  | .iface _ d => uptoBulk d + 1
  | .map entries => uptoBulkEntries entries + 1
  | .held _ => 1
def uptoBulkAll {H : Type} : List (DataW H) → Nat
  | [] => 0
  | d :: r => uptoBulk d + uptoBulkAll r
def uptoBulkEntries {H : Type} : List (Lit × DataW H) → Nat
  | [] => 0
  | x :: r => uptoBulkEntry x + uptoBulkEntries r
def uptoBulkEntry {H : Type} : Lit × DataW H → Nat
  | (.string bytes, d) => bytes.length + uptoBulk d + 1
  | (_, d) => uptoBulk d + 1
 end
def uptoSmall : (H : Type) → List (DataW H) → Bool := fun _ ds => decide (uptoBulkAll ds ≤ 1048576)
def OpenSpec.upto (s : _root_.Go.ChangeSpec) : _root_.Go.OpenSpec := { _root_.Go.OpenSpec.ofChange s with cond := some uptoSmall }

/-- 'casementlaw6.TreeNumbers', WHERE WHAT IT READS IS OF BULK AT MOST 1048576: true; the input reads as it did. -/
def treeNumbersUptoRow : OpenClaim := { program := "ytklcdfnhdljkjaa", sum := "6a4ad5bab6ca27c5ed51f9e2f906fc516ec0f02e17edc6ae811c6603274cc651", func := "casement/casementlaw6.TreeNumbers", spec := "treeNumbers", inPlace := ["internal/bytealg.IndexByteString", "internal/abi.NoEscape", "slices.overlaps[*casement/tree.node]"], unfollowed := true, recurses := true, apart := false, narrowed := true }
def TreeNumbersUptoSaid : Prop := treeNumbersUptoRow.holds Try.pinned (OpenSpec.upto treeNumbersSpec)

/-- 'casementlaw6.TreeRight', WHERE WHAT IT READS IS OF BULK AT MOST 1048576: true; the input reads as it did. -/
def treeRightUptoRow : OpenClaim := { program := "ytklcdfnhdljkjaa", sum := "6a4ad5bab6ca27c5ed51f9e2f906fc516ec0f02e17edc6ae811c6603274cc651", func := "casement/casementlaw6.TreeRight", spec := "treeRight", inPlace := ["internal/bytealg.IndexByteString", "internal/abi.NoEscape", "slices.overlaps[*casement/tree.node]"], unfollowed := true, recurses := true, apart := false, narrowed := true }
def TreeRightUptoSaid : Prop := treeRightUptoRow.holds Try.pinned (OpenSpec.upto treeRightSpec)

/-- 'casementlaw6.TreeTables', WHERE WHAT IT READS IS OF BULK AT MOST 1048576: true; the input reads as it did. -/
def treeTablesUptoRow : OpenClaim := { program := "ytklcdfnhdljkjaa", sum := "6a4ad5bab6ca27c5ed51f9e2f906fc516ec0f02e17edc6ae811c6603274cc651", func := "casement/casementlaw6.TreeTables", spec := "treeTables", inPlace := ["internal/bytealg.IndexByteString", "internal/abi.NoEscape", "slices.overlaps[*casement/tree.node]"], unfollowed := true, recurses := true, apart := false, narrowed := true }
def TreeTablesUptoSaid : Prop := treeTablesUptoRow.holds Try.pinned (OpenSpec.upto treeTablesSpec)

/-- 'casementlaw6.TreeOpen', WHERE WHAT IT READS IS OF BULK AT MOST 1048576: true; the input reads as it did. -/
def treeOpenUptoRow : OpenClaim := { program := "ytklcdfnhdljkjaa", sum := "6a4ad5bab6ca27c5ed51f9e2f906fc516ec0f02e17edc6ae811c6603274cc651", func := "casement/casementlaw6.TreeOpen", spec := "treeOpen", inPlace := ["internal/bytealg.IndexByteString", "internal/abi.NoEscape", "slices.overlaps[*casement/tree.node]"], unfollowed := true, recurses := true, apart := false, narrowed := true }
def TreeOpenUptoSaid : Prop := treeOpenUptoRow.holds Try.pinned (OpenSpec.upto treeOpenSpec)

end Rows
end Go.Proofs.Ytklcdfnhdljkjaa
