/-
  Walks and laws of this seat.
-/
import Derived.Test.YtdjjeahiomackaaGreatBash
import Derived.Test.YtdjjeahiomackaaGreatRows
namespace Go.Proofs.YtdjjeahiomackaaGreat
set_option linter.unusedVariables false
set_option linter.unusedSimpArgs false
set_option linter.unusedSectionVars false
section
open Go.Sl
theorem mixed : Tryz.prog.follows .mixedOrders = true := by kernel_rfl
theorem ti3 : TI Tryz.prog 3 1 8 (.int .i64 0) := .of (by kernel_rfl)
theorem ti4 : TI Tryz.prog 4 1 1 (.bool false) := .of (by kernel_rfl)
theorem ti5 : TI Tryz.prog 5 1 1 (.int .u8 0) := .of (by kernel_rfl)
theorem ti9 : TI Tryz.prog 9 1 16 (.string ByteArray.empty) := .of (by kernel_rfl)
theorem ti21 : TI Tryz.prog 21 1 4 (.int .i32 0) := .of (by kernel_rfl)
theorem ti22 : TI Tryz.prog 22 1 24 (.slice none 0 0) := .of (by kernel_rfl)
theorem ti25 : TI Tryz.prog 25 1 24 (.slice none 0 0) := .of (by kernel_rfl)
theorem ti27 : TI Tryz.prog 27 5 72 (.agg #[.int .i64 0, .string ByteArray.empty, .string ByteArray.empty, .slice none 0 0, .bool false]) := .of (by kernel_rfl)
theorem ti28 : TI Tryz.prog 28 1 24 (.slice none 0 0) := .of (by kernel_rfl)
theorem ti30 : TI Tryz.prog 30 1 24 (.agg #[.slice none 0 0]) := .of (by kernel_rfl)
theorem ti38 : TI Tryz.prog 38 2 32 (.agg #[.string ByteArray.empty, .string ByteArray.empty]) := .of (by kernel_rfl)
theorem ti42 : TI Tryz.prog 42 9 104 (.agg #[.int .i64 0, .string ByteArray.empty, .string ByteArray.empty, .slice none 0 0, .int .i64 0, .int .i64 0, .int .i64 0, .int .i64 0, .int .i64 0]) := .of (by kernel_rfl)
theorem ti45 : TI Tryz.prog 45 1 24 (.slice none 0 0) := .of (by kernel_rfl)
theorem ti49 : TI Tryz.prog 49 1 8 (.pointer none) := .of (by kernel_rfl)
theorem ti50 : TI Tryz.prog 50 1 24 (.slice none 0 0) := .of (by kernel_rfl)
theorem ti52 : TI Tryz.prog 52 5 88 (.agg #[.string ByteArray.empty, .string ByteArray.empty, .slice none 0 0, .pointer none, .slice none 0 0]) := .of (by kernel_rfl)
theorem ti55 : TI Tryz.prog 55 3 40 (.agg #[.slice none 0 0, .int .i64 0, .bool false]) := .of (by kernel_rfl)
theorem ti59 : TI Tryz.prog 59 1 24 (.slice none 0 0) := .of (by kernel_rfl)
theorem ti61 : TI Tryz.prog 61 4 80 (.agg #[.string ByteArray.empty, .string ByteArray.empty, .slice none 0 0, .slice none 0 0]) := .of (by kernel_rfl)
theorem ti88 : TI Tryz.prog 88 1 8 (.nilFunc) := .of (by kernel_rfl)
theorem ti91 : TI Tryz.prog 91 1 24 (.slice none 0 0) := .of (by kernel_rfl)
theorem ti110 : TI Tryz.prog 110 1 8 (.pointer none) := .of (by kernel_rfl)
theorem ti113 : TI Tryz.prog 113 2 32 (.agg #[.pointer none, .slice none 0 0]) := .of (by kernel_rfl)
theorem ti126 : TI Tryz.prog 126 2 32 (.agg #[.slice none 0 0, .int .i64 0]) := .of (by kernel_rfl)
theorem ti128 : TI Tryz.prog 128 1 8 (.pointer none) := .of (by kernel_rfl)
theorem ti130 : TI Tryz.prog 130 2 32 (.agg #[.pointer none, .slice none 0 0]) := .of (by kernel_rfl)
theorem has5 : Has Tryz.prog 5 := ⟨_, Tryz.func5, rfl, by kernel_rfl⟩
theorem has6 : Has Tryz.prog 6 := ⟨_, Tryz.func6, rfl, by kernel_rfl⟩
theorem has7 : Has Tryz.prog 7 := ⟨_, Tryz.func7, rfl, by kernel_rfl⟩
theorem has15 : Has Tryz.prog 15 := ⟨_, Tryz.func15, rfl, by kernel_rfl⟩
theorem has16 : Has Tryz.prog 16 := ⟨_, Tryz.func16, rfl, by kernel_rfl⟩
theorem has17 : Has Tryz.prog 17 := ⟨_, Tryz.func17, rfl, by kernel_rfl⟩
theorem has18 : Has Tryz.prog 18 := ⟨_, Tryz.func18, rfl, by kernel_rfl⟩
theorem has19 : Has Tryz.prog 19 := ⟨_, Tryz.func19, rfl, by kernel_rfl⟩
theorem has33 : Has Tryz.prog 33 := ⟨_, Tryz.func33, rfl, by kernel_rfl⟩
theorem has34 : Has Tryz.prog 34 := ⟨_, Tryz.func34, rfl, by kernel_rfl⟩
theorem has35 : Has Tryz.prog 35 := ⟨_, Tryz.func35, rfl, by kernel_rfl⟩
theorem has36 : Has Tryz.prog 36 := ⟨_, Tryz.func36, rfl, by kernel_rfl⟩
theorem has37 : Has Tryz.prog 37 := ⟨_, Tryz.func37, rfl, by kernel_rfl⟩
theorem has38 : Has Tryz.prog 38 := ⟨_, Tryz.func38, rfl, by kernel_rfl⟩
theorem has39 : Has Tryz.prog 39 := ⟨_, Tryz.func39, rfl, by kernel_rfl⟩
theorem has40 : Has Tryz.prog 40 := ⟨_, Tryz.func40, rfl, by kernel_rfl⟩
theorem has41 : Has Tryz.prog 41 := ⟨_, Tryz.func41, rfl, by kernel_rfl⟩
theorem has42 : Has Tryz.prog 42 := ⟨_, Tryz.func42, rfl, by kernel_rfl⟩
theorem has43 : Has Tryz.prog 43 := ⟨_, Tryz.func43, rfl, by kernel_rfl⟩
theorem has44 : Has Tryz.prog 44 := ⟨_, Tryz.func44, rfl, by kernel_rfl⟩
theorem has45 : Has Tryz.prog 45 := ⟨_, Tryz.func45, rfl, by kernel_rfl⟩
theorem has46 : Has Tryz.prog 46 := ⟨_, Tryz.func46, rfl, by kernel_rfl⟩
theorem has47 : Has Tryz.prog 47 := ⟨_, Tryz.func47, rfl, by kernel_rfl⟩
theorem has48 : Has Tryz.prog 48 := ⟨_, Tryz.func48, rfl, by kernel_rfl⟩
theorem has49 : Has Tryz.prog 49 := ⟨_, Tryz.func49, rfl, by kernel_rfl⟩
theorem has50 : Has Tryz.prog 50 := ⟨_, Tryz.func50, rfl, by kernel_rfl⟩
theorem has51 : Has Tryz.prog 51 := ⟨_, Tryz.func51, rfl, by kernel_rfl⟩
theorem has52 : Has Tryz.prog 52 := ⟨_, Tryz.func52, rfl, by kernel_rfl⟩
theorem has58 : Has Tryz.prog 58 := ⟨_, Tryz.func58, rfl, by kernel_rfl⟩
theorem has61 : Has Tryz.prog 61 := ⟨_, Tryz.func61, rfl, by kernel_rfl⟩
theorem has62 : Has Tryz.prog 62 := ⟨_, Tryz.func62, rfl, by kernel_rfl⟩
theorem has63 : Has Tryz.prog 63 := ⟨_, Tryz.func63, rfl, by kernel_rfl⟩
theorem has67 : Has Tryz.prog 67 := ⟨_, Tryz.func67, rfl, by kernel_rfl⟩
theorem has68 : Has Tryz.prog 68 := ⟨_, Tryz.func68, rfl, by kernel_rfl⟩
theorem has69 : Has Tryz.prog 69 := ⟨_, Tryz.func69, rfl, by kernel_rfl⟩
theorem has70 : Has Tryz.prog 70 := ⟨_, Tryz.func70, rfl, by kernel_rfl⟩
theorem has71 : Has Tryz.prog 71 := ⟨_, Tryz.func71, rfl, by kernel_rfl⟩
theorem has72 : Has Tryz.prog 72 := ⟨_, Tryz.func72, rfl, by kernel_rfl⟩
theorem has75 : Has Tryz.prog 75 := ⟨_, Tryz.func75, rfl, by kernel_rfl⟩
theorem has76 : Has Tryz.prog 76 := ⟨_, Tryz.func76, rfl, by kernel_rfl⟩
theorem has77 : Has Tryz.prog 77 := ⟨_, Tryz.func77, rfl, by kernel_rfl⟩
theorem has80 : Has Tryz.prog 80 := ⟨_, Tryz.func80, rfl, by kernel_rfl⟩
theorem has84 : Has Tryz.prog 84 := ⟨_, Tryz.func84, rfl, by kernel_rfl⟩
theorem has88 : Has Tryz.prog 88 := ⟨_, Tryz.func88, rfl, by kernel_rfl⟩
theorem has89 : Has Tryz.prog 89 := ⟨_, Tryz.func89, rfl, by kernel_rfl⟩
theorem has90 : Has Tryz.prog 90 := ⟨_, Tryz.func90, rfl, by kernel_rfl⟩
theorem has91 : Has Tryz.prog 91 := ⟨_, Tryz.func91, rfl, by kernel_rfl⟩
theorem has92 : Has Tryz.prog 92 := ⟨_, Tryz.func92, rfl, by kernel_rfl⟩
theorem has93 : Has Tryz.prog 93 := ⟨_, Tryz.func93, rfl, by kernel_rfl⟩
theorem has102 : Has Tryz.prog 102 := ⟨_, Tryz.func102, rfl, by kernel_rfl⟩
end
section
open Go.RowKit Go.Sl
structure zam where
  Name : ByteArray
  Value : ByteArray
def zch : Ty zam where
  k := 2
  R f r x := r = [.string x.Name, .string x.Value]
  mono := by
    rintro f f' r x h hf
    obtain rfl := h
    exact rfl
  one := by
    rintro f r x h
    obtain rfl := h
    exact AllC.row ⟨rfl, rfl, trivial⟩ rfl
structure zal where
  Kind : Int
  Name : ByteArray
  Text : ByteArray
  Attrs : (List zam)
  Parent : Int
  First : Int
  Last : Int
  Prev : Int
  Next : Int
def zcg : Ty zal where
  k := 9
  R f r x := ∃ v0, r = [.int .i64 x.Kind, .string x.Name, .string x.Text, v0, .int .i64 x.Parent, .int .i64 x.First, .int .i64 x.Last, .int .i64 x.Prev, .int .i64 x.Next] ∧ RS zch f v0 x.Attrs
  mono := by
    rintro f f' r x h hf
    obtain ⟨v0, rfl, hv0⟩ := h
    exact ⟨v0, rfl, hv0.le hf⟩
  one := by
    rintro f r x h
    obtain ⟨v0, rfl, hv0⟩ := h
    exact AllC.row ⟨rfl, rfl, rfl, hv0.one, rfl, rfl, rfl, rfl, rfl, trivial⟩ rfl
structure zad where
  Nodes : (List zal)
def zih : Ty zad where
  k := 1
  R f r x := ∃ v0, r = [v0] ∧ RS zcg f v0 x.Nodes
  mono := by
    rintro f f' r x h hf
    obtain ⟨v0, rfl, hv0⟩ := h
    exact ⟨v0, rfl, hv0.le hf⟩
  one := by
    rintro f r x h
    obtain ⟨v0, rfl, hv0⟩ := h
    exact AllC.row ⟨hv0.one, trivial⟩ rfl
structure zah where
  Name : ByteArray
  Text : ByteArray
  Attrs : (List zam)
  Kids : (List zah)
inductive R_dom_Part (f : Fz) : List Value → zah → Prop
  | mk {v0 v1 : Value} {rowsv1 : List (List Value)} {x : zah} : RS zch f v0 x.Attrs → Rd f [] v1 4 rowsv1 → rowsv1.length = x.Kids.length → (∀ (i : Nat) r y, rowsv1[i]? = some r → x.Kids[i]? = some y → R_dom_Part f r y) → R_dom_Part f [.string x.Name, .string x.Text, v0, v1] x
theorem R_dom_Part.le {f f' : Fz} {r : List Value} {x : zah} (h : R_dom_Part f r x) (hf : Fz.le f f') : R_dom_Part f' r x := by
  induction h with
  | mk hv0 hrv1 hlv1 hiv1 ihv1 => exact .mk (hv0.le hf) (hrv1.le hf) hlv1 (fun i r y h1 h2 => ihv1 i r y h1 h2)
def zcv : Ty zah where
  k := 4
  R := R_dom_Part
  mono := R_dom_Part.le
  one := by
    intro f r x h
    cases h with
    | mk hv0 hrv1 hlv1 hiv1 => exact AllC.row ⟨rfl, rfl, hv0.one, hrv1.one, trivial⟩ rfl
theorem R_dom_Part.ex {f : Fz} {r : List Value} {x : zah} (h : zcv.R f r x) : ∃ v0 v1, r = [.string x.Name, .string x.Text, v0, v1] ∧ RS zch f v0 x.Attrs ∧ RS zcv f v1 x.Kids := by
  cases h with
  | mk hv0 hrv1 hlv1 hiv1 => exact ⟨_, _, rfl, hv0, ⟨_, hrv1, RW.ofGet hlv1 hiv1⟩⟩
theorem R_dom_Part.of {f : Fz} {v0 v1 : Value} {x : zah} (hv0 : RS zch f v0 x.Attrs) (hv1 : RS zcv f v1 x.Kids) : zcv.R f [.string x.Name, .string x.Text, v0, v1] x := by
  obtain ⟨rowsv1, hrv1, hwv1⟩ := hv1
  exact R_dom_Part.mk hv0 hrv1 hwv1.len (fun i r y h1 h2 => hwv1.at h1 h2)
structure za4 where
  Kind : Int
  Name : ByteArray
  Text : ByteArray
  Attrs : (List zam)
  Closed : Bool
def zaf : Ty za4 where
  k := 5
  R f r x := ∃ v0, r = [.int .i64 x.Kind, .string x.Name, .string x.Text, v0, .bool x.Closed] ∧ RS zch f v0 x.Attrs
  mono := by
    rintro f f' r x h hf
    obtain ⟨v0, rfl, hv0⟩ := h
    exact ⟨v0, rfl, hv0.le hf⟩
  one := by
    rintro f r x h
    obtain ⟨v0, rfl, hv0⟩ := h
    exact AllC.row ⟨rfl, rfl, rfl, hv0.one, rfl, trivial⟩ rfl
structure za7 where
  l : (List Int)
  at_ : Int
structure zac where
  c : za7
  out : (List za4)
structure za0 where
  name : ByteArray
  text : ByteArray
  attrs : (List zam)
  above : Int
  kids : (List Int)
def nsh : NSh za0 where
  R f ab b x l := ∃ (v0 : Value) (v1 : Value) (vk : Value) (rk : List (List Value)), l = [.blk b (.cells #[.string x.name, .string x.text, v0, v1, vk] 52 (0,0)), .row vk 49 1 rk] ∧ RS zch f v0 x.attrs ∧ RP ab v1 x.above ∧ RW (tP ab) f rk x.kids
  mono := by
    rintro f f' ab ab' b x l ⟨v0, v1, vk, rk, rfl, hv0, hv1, hk⟩ hf hb
    exact ⟨_, _, _, _, rfl, hv0.le hf, hv1.grow hb,(hk.grow hb).anyP⟩
  key := by
    rintro f ab b x l ⟨v0, v1, vk, rk, rfl, _, _, _⟩
    exact ⟨_, _, _, rfl⟩
structure za2 where
  open_ : (List Int)
  count : Int
  deep : Bool
end
end Go.Proofs.YtdjjeahiomackaaGreat
