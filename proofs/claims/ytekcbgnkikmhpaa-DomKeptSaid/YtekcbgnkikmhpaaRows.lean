/-
  NARROWER THAN 'FOR EVERY INPUT', by the rows' own cells (each row's printed sentence says how): DomMakes: loops · DomBack: loops · DomKept: loops.
  DERIVED. THE GIVEN ROWS OF THIS SEAT. 7 by the template 'for every input the law returns true; each argument reads behind the call as it read before'; 0 by the template 'total and deterministic' (their statements: YtekcbgnkikmhpaaTotals.lean).
  GIVEN WITH THE SEED: the statements are not yours to turn. If you find one false, say at which input.
  Laid BY PROGRAM, IN A SANDBOX (cutbox-rows.mjs): the forced cells as the released guide's own fill.sh prints them over the translation e1d1798001ae270b… (all of the seat's roots in one cut). By AI agents, Wed Nov 11 2026. No macro, syntax, notation, axiom, sorry.
-/
import Derived.Test.YtekcbgnkikmhpaaChecked
import GoSem.Claim
import GoSem.ClaimJoined
import GoSem.ClaimMapViews
import Derived.JoinedTies
import Derived.KernelRfl
namespace Go.Proofs.Ytekcbgnkikmhpaa
/- THE CELL 'sum', in the pinned program and in every row, IS THE sha256 OF THE DUMP (.gsa) THAT YtekcbgnkikmhpaaProg.lean LOADS. Nothing in Lean hashes anything: it is a label: what it is worth is what the hold of that sum in a sandbox is worth. -/
noncomputable def Try.pinned : Pinned := { name := "ytekcbgnkikmhpaa", sum := "e1d1798001ae270b24ebaa35bc09a10e0f89c42e8ac3d4c34e75c6e5d28f3736", checked := Try.checked }
namespace Rows
def none {H : Type} : Left H := { results := [], args := [] }

/-- 'casementlaw5.DomRight': WHATEVER THE INPUT: true; the input reads as it did. -/
def domRightSpec : ChangeSpec := { name := "domRight", fn := fun _ => fun
  | [d] => { results := [.lit (.bool true)], args := [d] }
  | _ => none }
def domRightRow : OpenClaim := { program := "ytekcbgnkikmhpaa", sum := "e1d1798001ae270b24ebaa35bc09a10e0f89c42e8ac3d4c34e75c6e5d28f3736", func := "casement/casementlaw5.DomRight", spec := "domRight", unfollowed := true, recurses := true, apart := false }
def DomRightSaid : Prop := domRightRow.holds Try.pinned (OpenSpec.ofChange domRightSpec)

/-- ITS FALSE NEIGHBOUR: 'it returns false'. Refute it at one input. -/
def domRightWrong : ChangeSpec := { name := "domRight", fn := fun _ => fun
  | [d] => { results := [.lit (.bool false)], args := [d] }
  | _ => none }
def DomRightWrongFalsely : Prop := domRightRow.holds Try.pinned (OpenSpec.ofChange domRightWrong)

/-- 'casementlaw5.DomMakes': WHATEVER THE INPUT: true; the input reads as it did. -/
def domMakesSpec : ChangeSpec := { name := "domMakes", fn := fun _ => fun
  | [d] => { results := [.lit (.bool true)], args := [d] }
  | _ => none }
def domMakesRow : OpenClaim := { program := "ytekcbgnkikmhpaa", sum := "e1d1798001ae270b24ebaa35bc09a10e0f89c42e8ac3d4c34e75c6e5d28f3736", func := "casement/casementlaw5.DomMakes", spec := "domMakes", unfollowed := true, recurses := true, loops := true, apart := false }
def DomMakesSaid : Prop := domMakesRow.holds Try.pinned (OpenSpec.ofChange domMakesSpec)

/-- ITS FALSE NEIGHBOUR: 'it returns false'. Refute it at one input. -/
def domMakesWrong : ChangeSpec := { name := "domMakes", fn := fun _ => fun
  | [d] => { results := [.lit (.bool false)], args := [d] }
  | _ => none }
def DomMakesWrongFalsely : Prop := domMakesRow.holds Try.pinned (OpenSpec.ofChange domMakesWrong)

/-- 'casementlaw5.DomBack': WHATEVER THE INPUT: true; the input reads as it did. -/
def domBackSpec : ChangeSpec := { name := "domBack", fn := fun _ => fun
  | [d1, d2] => { results := [.lit (.bool true)], args := [d1, d2] }
  | _ => none }
def domBackRow : OpenClaim := { program := "ytekcbgnkikmhpaa", sum := "e1d1798001ae270b24ebaa35bc09a10e0f89c42e8ac3d4c34e75c6e5d28f3736", func := "casement/casementlaw5.DomBack", spec := "domBack", unfollowed := true, recurses := true, loops := true, apart := false }
def DomBackSaid : Prop := domBackRow.holds Try.pinned (OpenSpec.ofChange domBackSpec)

/-- ITS FALSE NEIGHBOUR: 'it returns false'. Refute it at one input. -/
def domBackWrong : ChangeSpec := { name := "domBack", fn := fun _ => fun
  | [d1, d2] => { results := [.lit (.bool false)], args := [d1, d2] }
  | _ => none }
def DomBackWrongFalsely : Prop := domBackRow.holds Try.pinned (OpenSpec.ofChange domBackWrong)

/-- 'casementlaw5.DomKept': WHATEVER THE INPUT: true; the input reads as it did. -/
def domKeptSpec : ChangeSpec := { name := "domKept", fn := fun _ => fun
  | [d] => { results := [.lit (.bool true)], args := [d] }
  | _ => none }
def domKeptRow : OpenClaim := { program := "ytekcbgnkikmhpaa", sum := "e1d1798001ae270b24ebaa35bc09a10e0f89c42e8ac3d4c34e75c6e5d28f3736", func := "casement/casementlaw5.DomKept", spec := "domKept", unfollowed := true, recurses := true, loops := true, apart := false }
def DomKeptSaid : Prop := domKeptRow.holds Try.pinned (OpenSpec.ofChange domKeptSpec)

/-- ITS FALSE NEIGHBOUR: 'it returns false'. Refute it at one input. -/
def domKeptWrong : ChangeSpec := { name := "domKept", fn := fun _ => fun
  | [d] => { results := [.lit (.bool false)], args := [d] }
  | _ => none }
def DomKeptWrongFalsely : Prop := domKeptRow.holds Try.pinned (OpenSpec.ofChange domKeptWrong)

/-- 'casementlaw5.DomWalk': WHATEVER THE INPUT: true; the input reads as it did. -/
def domWalkSpec : ChangeSpec := { name := "domWalk", fn := fun _ => fun
  | [d] => { results := [.lit (.bool true)], args := [d] }
  | _ => none }
def domWalkRow : OpenClaim := { program := "ytekcbgnkikmhpaa", sum := "e1d1798001ae270b24ebaa35bc09a10e0f89c42e8ac3d4c34e75c6e5d28f3736", func := "casement/casementlaw5.DomWalk", spec := "domWalk", unfollowed := true, recurses := true, apart := false }
def DomWalkSaid : Prop := domWalkRow.holds Try.pinned (OpenSpec.ofChange domWalkSpec)

/-- ITS FALSE NEIGHBOUR: 'it returns false'. Refute it at one input. -/
def domWalkWrong : ChangeSpec := { name := "domWalk", fn := fun _ => fun
  | [d] => { results := [.lit (.bool false)], args := [d] }
  | _ => none }
def DomWalkWrongFalsely : Prop := domWalkRow.holds Try.pinned (OpenSpec.ofChange domWalkWrong)

/-- 'casementlaw5.DomNumbers': WHATEVER THE INPUT: true; the input reads as it did. -/
def domNumbersSpec : ChangeSpec := { name := "domNumbers", fn := fun _ => fun
  | [] => { results := [.lit (.bool true)], args := [] }
  | _ => none }
def domNumbersRow : OpenClaim := { program := "ytekcbgnkikmhpaa", sum := "e1d1798001ae270b24ebaa35bc09a10e0f89c42e8ac3d4c34e75c6e5d28f3736", func := "casement/casementlaw5.DomNumbers", spec := "domNumbers", unfollowed := true, recurses := true, apart := false }
def DomNumbersSaid : Prop := domNumbersRow.holds Try.pinned (OpenSpec.ofChange domNumbersSpec)

/-- ITS FALSE NEIGHBOUR: 'it returns false'. Refute it at one input. -/
def domNumbersWrong : ChangeSpec := { name := "domNumbers", fn := fun _ => fun
  | [] => { results := [.lit (.bool false)], args := [] }
  | _ => none }
def DomNumbersWrongFalsely : Prop := domNumbersRow.holds Try.pinned (OpenSpec.ofChange domNumbersWrong)

/-- 'casementlaw5.DomAsks': WHATEVER THE INPUT: true; the input reads as it did. -/
def domAsksSpec : ChangeSpec := { name := "domAsks", fn := fun _ => fun
  | [d1, d2, d3, d4, d5] => { results := [.lit (.bool true)], args := [d1, d2, d3, d4, d5] }
  | _ => none }
def domAsksRow : OpenClaim := { program := "ytekcbgnkikmhpaa", sum := "e1d1798001ae270b24ebaa35bc09a10e0f89c42e8ac3d4c34e75c6e5d28f3736", func := "casement/casementlaw5.DomAsks", spec := "domAsks", unfollowed := true, recurses := true, apart := false }
def DomAsksSaid : Prop := domAsksRow.holds Try.pinned (OpenSpec.ofChange domAsksSpec)

/-- ITS FALSE NEIGHBOUR: 'it returns false'. Refute it at one input. -/
def domAsksWrong : ChangeSpec := { name := "domAsks", fn := fun _ => fun
  | [d1, d2, d3, d4, d5] => { results := [.lit (.bool false)], args := [d1, d2, d3, d4, d5] }
  | _ => none }
def DomAsksWrongFalsely : Prop := domAsksRow.holds Try.pinned (OpenSpec.ofChange domAsksWrong)

/- THE SECOND FORM. 'bulk': how many values and letters a reading holds, each counted each time it is reached (what is shared counts as often as it is met; a slice's spare places count too). A statement '..UptoSaid' is the law's where the arguments, and the package variables that the reading takes, are together of bulk at most 1048576: NARROWER than '..Said'. Prove '..Said' where nothing that the law and all that it calls make is longer than what came in: it says more and counts as full. Else prove '..UptoSaid'. A law counts once. -/
mutual
def uptoBulk {H : Type} : DataW H → Nat
  | .lit (.string bytes) => bytes.length + 1
  | .lit _ => 1
  | .nil => 1
  | .ptr d => uptoBulk d + 1
  | .slice elems spare => uptoBulkAll elems + uptoBulkAll spare + 1
  | .agg parts => uptoBulkAll parts + 1
  | .iface _ d => uptoBulk d + 1
  | .map entries => uptoBulkEntries entries + 1
  | .held _ => 1
def uptoBulkAll {H : Type} : List (DataW H) → Nat
  | [] => 0
  | d :: r => uptoBulk d + uptoBulkAll r
def uptoBulkEntries {H : Type} : List (Lit × DataW H) → Nat
  | [] => 0
  | x :: r => uptoBulkEntry x + uptoBulkEntries r
def uptoBulkEntry {H : Type} : Lit × DataW H → Nat
  | (.string bytes, d) => bytes.length + uptoBulk d + 1
  | (_, d) => uptoBulk d + 1
 end
def uptoSmall : (H : Type) → List (DataW H) → Bool := fun _ ds => decide (uptoBulkAll ds ≤ 1048576)
def OpenSpec.upto (s : _root_.Go.ChangeSpec) : _root_.Go.OpenSpec := { _root_.Go.OpenSpec.ofChange s with cond := some uptoSmall }

/-- 'casementlaw5.DomRight', WHERE WHAT IT READS IS OF BULK AT MOST 1048576: true; the input reads as it did. -/
def domRightUptoRow : OpenClaim := { program := "ytekcbgnkikmhpaa", sum := "e1d1798001ae270b24ebaa35bc09a10e0f89c42e8ac3d4c34e75c6e5d28f3736", func := "casement/casementlaw5.DomRight", spec := "domRight", unfollowed := true, recurses := true, apart := false, narrowed := true }
def DomRightUptoSaid : Prop := domRightUptoRow.holds Try.pinned (OpenSpec.upto domRightSpec)

/-- 'casementlaw5.DomMakes', WHERE WHAT IT READS IS OF BULK AT MOST 1048576: true; the input reads as it did. -/
def domMakesUptoRow : OpenClaim := { program := "ytekcbgnkikmhpaa", sum := "e1d1798001ae270b24ebaa35bc09a10e0f89c42e8ac3d4c34e75c6e5d28f3736", func := "casement/casementlaw5.DomMakes", spec := "domMakes", unfollowed := true, recurses := true, loops := true, apart := false, narrowed := true }
def DomMakesUptoSaid : Prop := domMakesUptoRow.holds Try.pinned (OpenSpec.upto domMakesSpec)

/-- 'casementlaw5.DomBack', WHERE WHAT IT READS IS OF BULK AT MOST 1048576: true; the input reads as it did. -/
def domBackUptoRow : OpenClaim := { program := "ytekcbgnkikmhpaa", sum := "e1d1798001ae270b24ebaa35bc09a10e0f89c42e8ac3d4c34e75c6e5d28f3736", func := "casement/casementlaw5.DomBack", spec := "domBack", unfollowed := true, recurses := true, loops := true, apart := false, narrowed := true }
def DomBackUptoSaid : Prop := domBackUptoRow.holds Try.pinned (OpenSpec.upto domBackSpec)

/-- 'casementlaw5.DomKept', WHERE WHAT IT READS IS OF BULK AT MOST 1048576: true; the input reads as it did. -/
def domKeptUptoRow : OpenClaim := { program := "ytekcbgnkikmhpaa", sum := "e1d1798001ae270b24ebaa35bc09a10e0f89c42e8ac3d4c34e75c6e5d28f3736", func := "casement/casementlaw5.DomKept", spec := "domKept", unfollowed := true, recurses := true, loops := true, apart := false, narrowed := true }
def DomKeptUptoSaid : Prop := domKeptUptoRow.holds Try.pinned (OpenSpec.upto domKeptSpec)

/-- 'casementlaw5.DomWalk', WHERE WHAT IT READS IS OF BULK AT MOST 1048576: true; the input reads as it did. -/
def domWalkUptoRow : OpenClaim := { program := "ytekcbgnkikmhpaa", sum := "e1d1798001ae270b24ebaa35bc09a10e0f89c42e8ac3d4c34e75c6e5d28f3736", func := "casement/casementlaw5.DomWalk", spec := "domWalk", unfollowed := true, recurses := true, apart := false, narrowed := true }
def DomWalkUptoSaid : Prop := domWalkUptoRow.holds Try.pinned (OpenSpec.upto domWalkSpec)

/-- 'casementlaw5.DomNumbers', WHERE WHAT IT READS IS OF BULK AT MOST 1048576: true; the input reads as it did. -/
def domNumbersUptoRow : OpenClaim := { program := "ytekcbgnkikmhpaa", sum := "e1d1798001ae270b24ebaa35bc09a10e0f89c42e8ac3d4c34e75c6e5d28f3736", func := "casement/casementlaw5.DomNumbers", spec := "domNumbers", unfollowed := true, recurses := true, apart := false, narrowed := true }
def DomNumbersUptoSaid : Prop := domNumbersUptoRow.holds Try.pinned (OpenSpec.upto domNumbersSpec)

/-- 'casementlaw5.DomAsks', WHERE WHAT IT READS IS OF BULK AT MOST 1048576: true; the input reads as it did. -/
def domAsksUptoRow : OpenClaim := { program := "ytekcbgnkikmhpaa", sum := "e1d1798001ae270b24ebaa35bc09a10e0f89c42e8ac3d4c34e75c6e5d28f3736", func := "casement/casementlaw5.DomAsks", spec := "domAsks", unfollowed := true, recurses := true, apart := false, narrowed := true }
def DomAsksUptoSaid : Prop := domAsksUptoRow.holds Try.pinned (OpenSpec.upto domAsksSpec)

end Rows
end Go.Proofs.Ytekcbgnkikmhpaa
