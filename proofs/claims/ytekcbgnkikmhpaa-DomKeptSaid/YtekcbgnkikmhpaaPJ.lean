/-
  Walks and laws of this seat; the base is the text Base.
-/
import Derived.Test.YtekcbgnkikmhpaaPI
namespace Go.Proofs.Ytekcbgnkikmhpaa
open Go.RowKit Go.Sl
def okA (x : api_Node) : Prop := x.Attrs.length * 32 ≤ reachBytes
theorem S_attrs {p : dom_Part} (h : S_dom_Part p) : p.Attrs.length * 32 ≤ reachBytes ∧ ∀ k ∈ p.Kids, S_dom_Part k := by
  cases h with
  | mk _ _ h3 _ h5 => exact ⟨h3.1, h5⟩
end Go.Proofs.Ytekcbgnkikmhpaa
