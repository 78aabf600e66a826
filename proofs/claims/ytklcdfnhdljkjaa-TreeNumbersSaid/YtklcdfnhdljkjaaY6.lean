/-
  Walks and laws of this seat.
-/
import Derived.Test.YtklcdfnhdljkjaaBasg
import Derived.Test.YtklcdfnhdljkjaaT6
namespace Go.Proofs.Ytklcdfnhdljkjaa
open Go.RowKit Go.Sl
structure za9 where
  Name : ByteArray
  Value : ByteArray
def zcb : Ty za9 where
  k := 2
  R f r x := r = [.string x.Name, .string x.Value]
  mono := by
    rintro f f' r x h hf
    obtain rfl := h
    exact rfl
  one := by
    rintro f r x h
    obtain rfl := h
    exact AllC.row ⟨rfl, rfl, trivial⟩ rfl
structure zac where
  Kind : Int
  Name : ByteArray
  Text : ByteArray
  Attrs : (List za9)
  Parent : Int
  First : Int
  Last : Int
  Prev : Int
  Next : Int
def zbw : Ty zac where
  k := 9
  R f r x := ∃ v0, r = [.int .i64 x.Kind, .string x.Name, .string x.Text, v0, .int .i64 x.Parent, .int .i64 x.First, .int .i64 x.Last, .int .i64 x.Prev, .int .i64 x.Next] ∧ RS zcb f v0 x.Attrs
  mono := by
    rintro f f' r x h hf
    obtain ⟨v0, rfl, hv0⟩ := h
    exact ⟨v0, rfl, hv0.le hf⟩
  one := by
    rintro f r x h
    obtain ⟨v0, rfl, hv0⟩ := h
    exact AllC.row ⟨rfl, rfl, rfl, hv0.one, rfl, rfl, rfl, rfl, rfl, trivial⟩ rfl
structure zae where
  Nodes : (List zac)
def zff : Ty zae where
  k := 1
  R f r x := ∃ v0, r = [v0] ∧ RS zbw f v0 x.Nodes
  mono := by
    rintro f f' r x h hf
    obtain ⟨v0, rfl, hv0⟩ := h
    exact ⟨v0, rfl, hv0.le hf⟩
  one := by
    rintro f r x h
    obtain ⟨v0, rfl, hv0⟩ := h
    exact AllC.row ⟨hv0.one, trivial⟩ rfl
structure zad where
  Name : ByteArray
  Text : ByteArray
  Attrs : (List za9)
  Kids : (List zad)
inductive zck (f : Fz) : List Value → zad → Prop
  | mk {v0 v1 : Value} {rowsv1 : List (List Value)} {x : zad} : RS zcb f v0 x.Attrs → Rd f [] v1 4 rowsv1 → rowsv1.length = x.Kids.length → (∀ (i : Nat) r y, rowsv1[i]? = some r → x.Kids[i]? = some y → zck f r y) → zck f [.string x.Name, .string x.Text, v0, v1] x
theorem zck.le {f f' : Fz} {r : List Value} {x : zad} (h : zck f r x) (hf : Fz.le f f') : zck f' r x := by
  induction h with
  | mk hv0 hrv1 hlv1 hiv1 ihv1 => exact .mk (hv0.le hf) (hrv1.le hf) hlv1 (fun i r y h1 h2 => ihv1 i r y h1 h2)
def ze9 : Ty zad where
  k := 4
  R := zck
  mono := zck.le
  one := by
    intro f r x h
    cases h with
    | mk hv0 hrv1 hlv1 hiv1 => exact AllC.row ⟨rfl, rfl, hv0.one, hrv1.one, trivial⟩ rfl
theorem zck.ex {f : Fz} {r : List Value} {x : zad} (h : ze9.R f r x) : ∃ v0 v1, r = [.string x.Name, .string x.Text, v0, v1] ∧ RS zcb f v0 x.Attrs ∧ RS ze9 f v1 x.Kids := by
  cases h with
  | mk hv0 hrv1 hlv1 hiv1 => exact ⟨_, _, rfl, hv0, ⟨_, hrv1, RW.ofGet hlv1 hiv1⟩⟩
theorem zck.of {f : Fz} {v0 v1 : Value} {x : zad} (hv0 : RS zcb f v0 x.Attrs) (hv1 : RS ze9 f v1 x.Kids) : ze9.R f [.string x.Name, .string x.Text, v0, v1] x := by
  obtain ⟨rowsv1, hrv1, hwv1⟩ := hv1
  exact zck.mk hv0 hrv1 hwv1.len (fun i r y h1 h2 => hwv1.at h1 h2)
structure za5 where
  Kind : Int
  Name : ByteArray
  Text : ByteArray
  Attrs : (List za9)
  Closed : Bool
def zap : Ty za5 where
  k := 5
  R f r x := ∃ v0, r = [.int .i64 x.Kind, .string x.Name, .string x.Text, v0, .bool x.Closed] ∧ RS zcb f v0 x.Attrs
  mono := by
    rintro f f' r x h hf
    obtain ⟨v0, rfl, hv0⟩ := h
    exact ⟨v0, rfl, hv0.le hf⟩
  one := by
    rintro f r x h
    obtain ⟨v0, rfl, hv0⟩ := h
    exact AllC.row ⟨rfl, rfl, rfl, hv0.one, rfl, trivial⟩ rfl
structure za4 where
  l : (List Int)
  at_ : Int
structure za3 where
  c : za4
  out : (List za5)
structure za2 where
  name : ByteArray
  text : ByteArray
  attrs : (List za9)
  above : Int
  kids : (List Int)
def nsh : NSh za2 where
  R f ab b x l := ∃ (v0 : Value) (v1 : Value) (vk : Value) (rk : List (List Value)), l = [.blk b (.cells #[.string x.name, .string x.text, v0, v1, vk] 51 (0, 0)), .row vk 48 1 rk] ∧ RS zcb f v0 x.attrs ∧ RP ab v1 x.above ∧ RW (tP ab) f rk x.kids
  mono := by
    rintro f f' ab ab' b x l ⟨v0, v1, vk, rk, rfl, hv0, hv1, hk⟩ hf hb
    exact ⟨_, _, _, _, rfl, hv0.le hf, hv1.grow hb, (hk.grow hb).anyP⟩
  key := by
    rintro f ab b x l ⟨v0, v1, vk, rk, rfl, _, _, _⟩
    exact ⟨_, _, _, rfl⟩
structure za6 where
  open_ : (List Int)
  count : Int
  deep : Bool
end Go.Proofs.Ytklcdfnhdljkjaa
