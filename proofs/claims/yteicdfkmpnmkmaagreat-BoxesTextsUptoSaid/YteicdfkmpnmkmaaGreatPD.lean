/-
  Walks and laws of this seat.
-/
import Derived.Test.YteicdfkmpnmkmaaGreatPC
import Derived.Test.YteicdfkmpnmkmaaGreatK1
namespace Go.V
set_option linter.unusedVariables false
set_option linter.unusedSimpArgs false
set_option linter.unusedSectionVars false
set_option maxRecDepth 100000
open Go.RowKit Go.Sl
def outP (o : Option BoxT) : BoxT × Bool := match o with
  | none => (zBox, false)
  | some b => (b, true)
def KdOk (o : Option Int) : Prop := ∃ r, o = some r ∧ 1 ≤ r ∧ r ≤ 6
theorem KdOk.some {r : Int} (h : 1 ≤ r ∧ r ≤ 6) : KdOk (Option.some r) := ⟨r, rfl, h⟩
theorem KdOk.bif {b : Bool} {x y : Option Int} (h : KdOk x) (g : KdOk y) : KdOk (bif b then x else y) := by
  cases b
  · exact g
  · exact h
section
variable {k : Nat} {S : TreT → (List StyT) → Int → Int → Int → Option (BoxT × Bool)} {J : (List StyT) → Int → TreT → (Int × Int × Int × StyT × ByteArray × (List BoxT)) → StyT → (Int × Int × Int × StyT × ByteArray × (List BoxT)) → (List Int) → Bool → Int → Option (BoxT × Bool)} {t : TreT} {ss : List StyT} {i a h : Int} {r : StyT}
end
theorem fm_take {α β : Type} {f : α → Option β} {l : List α} {j : Nat} {x : α} (h : l[j]? = some x) : (l.take (j + 1)).filterMap f = (l.take j).filterMap f ++ (f x).toList := by
  rw [List.take_add_one, h, List.filterMap_append]
  cases e : f x <;> simp [e]
end Go.V
