/-
  Walks and laws of this seat; the base is the text Base.
-/
import Derived.Test.YtklcdfnhdljkjaaDoorBasg
import Derived.Test.YtklcdfnhdljkjaaDoorT7
/-
  Models of functions, and that the functions compute them. Printed by lift.py.
-/
namespace Go.Proofs.YtklcdfnhdljkjaaDoor
open Go.RowKit Go.Sl
structure api_Attr where
  Name : ByteArray
  Value : ByteArray
def t_api_Attr : Ty api_Attr where
  k := 2
  R f r x := r = [.string x.Name, .string x.Value]
  mono := by
    rintro f f' r x h hf
    obtain rfl := h
    exact rfl
  one := by
    rintro f r x h
    obtain rfl := h
    exact AllC.row ⟨rfl, rfl, trivial⟩ rfl
structure api_Node where
  Kind : Int
  Name : ByteArray
  Text : ByteArray
  Attrs : (List api_Attr)
  Parent : Int
  First : Int
  Last : Int
  Prev : Int
  Next : Int
def t_api_Node : Ty api_Node where
  k := 9
  R f r x := ∃ v0, r = [.int .i64 x.Kind, .string x.Name, .string x.Text, v0, .int .i64 x.Parent, .int .i64 x.First, .int .i64 x.Last, .int .i64 x.Prev, .int .i64 x.Next] ∧ RS t_api_Attr f v0 x.Attrs
  mono := by
    rintro f f' r x h hf
    obtain ⟨v0, rfl, hv0⟩ := h
    exact ⟨v0, rfl, hv0.le hf⟩
  one := by
    rintro f r x h
    obtain ⟨v0, rfl, hv0⟩ := h
    exact AllC.row ⟨rfl, rfl, rfl, hv0.one, rfl, rfl, rfl, rfl, rfl, trivial⟩ rfl
structure api_Tree where
  Nodes : (List api_Node)
def t_api_Tree : Ty api_Tree where
  k := 1
  R f r x := ∃ v0, r = [v0] ∧ RS t_api_Node f v0 x.Nodes
  mono := by
    rintro f f' r x h hf
    obtain ⟨v0, rfl, hv0⟩ := h
    exact ⟨v0, rfl, hv0.le hf⟩
  one := by
    rintro f r x h
    obtain ⟨v0, rfl, hv0⟩ := h
    exact AllC.row ⟨hv0.one, trivial⟩ rfl
structure dom_Part where
  Name : ByteArray
  Text : ByteArray
  Attrs : (List api_Attr)
  Kids : (List dom_Part)
inductive R_dom_Part (f : Fz) : List Value → dom_Part → Prop
  | mk {v0 v1 : Value} {rowsv1 : List (List Value)} {x : dom_Part} : RS t_api_Attr f v0 x.Attrs → Rd f [] v1 4 rowsv1 → rowsv1.length = x.Kids.length → (∀ (i : Nat) r y, rowsv1[i]? = some r → x.Kids[i]? = some y → R_dom_Part f r y) → R_dom_Part f [.string x.Name, .string x.Text, v0, v1] x
theorem R_dom_Part.le {f f' : Fz} {r : List Value} {x : dom_Part} (h : R_dom_Part f r x) (hf : Fz.le f f') : R_dom_Part f' r x := by
  induction h with
  | mk hv0 hrv1 hlv1 hiv1 ihv1 => exact .mk (hv0.le hf) (hrv1.le hf) hlv1 (fun i r y h1 h2 => ihv1 i r y h1 h2)
def t_dom_Part : Ty dom_Part where
  k := 4
  R := R_dom_Part
  mono := R_dom_Part.le
  one := by
    intro f r x h
    cases h with
    | mk hv0 hrv1 hlv1 hiv1 => exact AllC.row ⟨rfl, rfl, hv0.one, hrv1.one, trivial⟩ rfl
theorem R_dom_Part.ex {f : Fz} {r : List Value} {x : dom_Part} (h : t_dom_Part.R f r x) : ∃ v0 v1, r = [.string x.Name, .string x.Text, v0, v1] ∧ RS t_api_Attr f v0 x.Attrs ∧ RS t_dom_Part f v1 x.Kids := by
  cases h with
  | mk hv0 hrv1 hlv1 hiv1 => exact ⟨_, _, rfl, hv0, ⟨_, hrv1, RW.ofGet hlv1 hiv1⟩⟩
theorem R_dom_Part.of {f : Fz} {v0 v1 : Value} {x : dom_Part} (hv0 : RS t_api_Attr f v0 x.Attrs) (hv1 : RS t_dom_Part f v1 x.Kids) : t_dom_Part.R f [.string x.Name, .string x.Text, v0, v1] x := by
  obtain ⟨rowsv1, hrv1, hwv1⟩ := hv1
  exact R_dom_Part.mk hv0 hrv1 hwv1.len (fun i r y h1 h2 => hwv1.at h1 h2)
end Go.Proofs.YtklcdfnhdljkjaaDoor
