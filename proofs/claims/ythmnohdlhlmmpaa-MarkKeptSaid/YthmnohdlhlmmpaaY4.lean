/-
  Walks and laws of this seat; the base is the text Base.
-/
import Derived.Test.YthmnohdlhlmmpaaBasg
import Derived.Test.YthmnohdlhlmmpaaT4
/-
  Models of functions, and that the functions compute them. Printed by lift.py.
-/
namespace Go.Proofs.Ythmnohdlhlmmpaa
open Go.RowKit Go.Sl
structure api_Attr where
  Name : ByteArray
  Value : ByteArray
def t_api_Attr : Ty api_Attr where
  k := 2
  R f r x := r = [.string x.Name, .string x.Value]
  mono := by
    rintro f f' r x h hf
    obtain rfl := h
    exact rfl
  one := by
    rintro f r x h
    obtain rfl := h
    exact AllC.row ⟨rfl, rfl, trivial⟩ rfl
structure ref4_Token where
  Kind : Int
  Name : ByteArray
  Text : ByteArray
  Attrs : (List api_Attr)
  Closed : Bool
def t_ref4_Token : Ty ref4_Token where
  k := 5
  R f r x := ∃ v0, r = [.int .i64 x.Kind, .string x.Name, .string x.Text, v0, .bool x.Closed] ∧ RS t_api_Attr f v0 x.Attrs
  mono := by
    rintro f f' r x h hf
    obtain ⟨v0, rfl, hv0⟩ := h
    exact ⟨v0, rfl, hv0.le hf⟩
  one := by
    rintro f r x h
    obtain ⟨v0, rfl, hv0⟩ := h
    exact AllC.row ⟨rfl, rfl, rfl, hv0.one, rfl, trivial⟩ rfl
structure mark_Token where
  Kind : Int
  Name : ByteArray
  Text : ByteArray
  Attrs : (List api_Attr)
  Closed : Bool
def t_mark_Token : Ty mark_Token where
  k := 5
  R f r x := ∃ v0, r = [.int .i64 x.Kind, .string x.Name, .string x.Text, v0, .bool x.Closed] ∧ RS t_api_Attr f v0 x.Attrs
  mono := by
    rintro f f' r x h hf
    obtain ⟨v0, rfl, hv0⟩ := h
    exact ⟨v0, rfl, hv0.le hf⟩
  one := by
    rintro f r x h
    obtain ⟨v0, rfl, hv0⟩ := h
    exact AllC.row ⟨rfl, rfl, rfl, hv0.one, rfl, trivial⟩ rfl
structure source_Cursor_rune_ where
  l : (List Int)
  at_ : Int
structure mark_cutter where
  c : source_Cursor_rune_
  out : (List mark_Token)
end Go.Proofs.Ythmnohdlhlmmpaa
