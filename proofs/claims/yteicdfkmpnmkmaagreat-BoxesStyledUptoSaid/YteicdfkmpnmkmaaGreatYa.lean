/-
  Walks and laws of this seat.
-/
import Derived.Test.YteicdfkmpnmkmaaGreatT13
import Derived.Test.YteicdfkmpnmkmaaGreatBasg
namespace Go.Proofs.YteicdfkmpnmkmaaGreat
set_option linter.unusedVariables false
set_option linter.unusedSimpArgs false
open Go.RowKit Go.Sl
structure api_Attr where
  Name : ByteArray
  Value : ByteArray
def t_api_Attr : Ty api_Attr where
  k := 2
  R f r x := r = [.string x.Name, .string x.Value]
  mono := by
    rintro f f' r x h hf
    obtain rfl := h
    exact rfl
  one := by
    rintro f r x h
    obtain rfl := h
    exact AllC.row ⟨rfl, rfl, trivial⟩ rfl
structure api_Node where
  Kind : Int
  Name : ByteArray
  Text : ByteArray
  Attrs : (List api_Attr)
  Parent : Int
  First : Int
  Last : Int
  Prev : Int
  Next : Int
def t_api_Node : Ty api_Node where
  k := 9
  R f r x := ∃ v0, r = [.int .i64 x.Kind, .string x.Name, .string x.Text, v0, .int .i64 x.Parent, .int .i64 x.First, .int .i64 x.Last, .int .i64 x.Prev, .int .i64 x.Next] ∧ RS t_api_Attr f v0 x.Attrs
  mono := by
    rintro f f' r x h hf
    obtain ⟨v0, rfl, hv0⟩ := h
    exact ⟨v0, rfl, hv0.le hf⟩
  one := by
    rintro f r x h
    obtain ⟨v0, rfl, hv0⟩ := h
    exact AllC.row ⟨rfl, rfl, rfl, hv0.one, rfl, rfl, rfl, rfl, rfl, trivial⟩ rfl
structure api_Tree where
  Nodes : (List api_Node)
def t_api_Tree : Ty api_Tree where
  k := 1
  R f r x := ∃ v0, r = [v0] ∧ RS t_api_Node f v0 x.Nodes
  mono := by
    rintro f f' r x h hf
    obtain ⟨v0, rfl, hv0⟩ := h
    exact ⟨v0, rfl, hv0.le hf⟩
  one := by
    rintro f r x h
    obtain ⟨v0, rfl, hv0⟩ := h
    exact AllC.row ⟨hv0.one, trivial⟩ rfl
structure api_Len where
  Kind : Int
  N : Int
def t_api_Len : Ty api_Len where
  k := 2
  R f r x := r = [.int .i64 x.Kind, .int .i64 x.N]
  mono := by
    rintro f f' r x h hf
    obtain rfl := h
    exact rfl
  one := by
    rintro f r x h
    obtain rfl := h
    exact AllC.row ⟨rfl, rfl, trivial⟩ rfl
structure A4_api_Len where
  A0 : api_Len
  A1 : api_Len
  A2 : api_Len
  A3 : api_Len
def t_A4_api_Len : Ty A4_api_Len where
  k := 8
  R f r x := r = [.int .i64 x.A0.Kind, .int .i64 x.A0.N, .int .i64 x.A1.Kind, .int .i64 x.A1.N, .int .i64 x.A2.Kind, .int .i64 x.A2.N, .int .i64 x.A3.Kind, .int .i64 x.A3.N]
  mono := by
    rintro f f' r x h hf
    obtain rfl := h
    exact rfl
  one := by
    rintro f r x h
    obtain rfl := h
    exact AllC.row ⟨rfl, rfl, rfl, rfl, rfl, rfl, rfl, rfl, trivial⟩ rfl
structure A4_int64 where
  A0 : Int
  A1 : Int
  A2 : Int
  A3 : Int
def t_A4_int64 : Ty A4_int64 where
  k := 4
  R f r x := r = [.int .i64 x.A0, .int .i64 x.A1, .int .i64 x.A2, .int .i64 x.A3]
  mono := by
    rintro f f' r x h hf
    obtain rfl := h
    exact rfl
  one := by
    rintro f r x h
    obtain rfl := h
    exact AllC.row ⟨rfl, rfl, rfl, rfl, trivial⟩ rfl
structure api_Style where
  Display : Int
  Position : Int
  Float : Int
  Clear : Int
  Width : api_Len
  Height : api_Len
  Margin : A4_api_Len
  Padding : A4_api_Len
  Offset : A4_api_Len
  Border : A4_int64
  Color : Int
  Background : Int
  Size : Int
  Line : Int
  Align : Int
  Pre : Bool
  Hidden : Bool
  Clip : Bool
  Column : Bool
  Grow : Int
  Shrink : Int
  Order : Int
  Justify : Int
  Items : Int
  Z : Int
  Layered : Bool
def t_api_Style : Ty api_Style where
  k := 52
  R f r x := r = [.int .i64 x.Display, .int .i64 x.Position, .int .i64 x.Float, .int .i64 x.Clear, .int .i64 x.Width.Kind, .int .i64 x.Width.N, .int .i64 x.Height.Kind, .int .i64 x.Height.N, .int .i64 x.Margin.A0.Kind, .int .i64 x.Margin.A0.N, .int .i64 x.Margin.A1.Kind, .int .i64 x.Margin.A1.N, .int .i64 x.Margin.A2.Kind, .int .i64 x.Margin.A2.N, .int .i64 x.Margin.A3.Kind, .int .i64 x.Margin.A3.N, .int .i64 x.Padding.A0.Kind, .int .i64 x.Padding.A0.N, .int .i64 x.Padding.A1.Kind, .int .i64 x.Padding.A1.N, .int .i64 x.Padding.A2.Kind, .int .i64 x.Padding.A2.N, .int .i64 x.Padding.A3.Kind, .int .i64 x.Padding.A3.N, .int .i64 x.Offset.A0.Kind, .int .i64 x.Offset.A0.N, .int .i64 x.Offset.A1.Kind, .int .i64 x.Offset.A1.N, .int .i64 x.Offset.A2.Kind, .int .i64 x.Offset.A2.N, .int .i64 x.Offset.A3.Kind, .int .i64 x.Offset.A3.N, .int .i64 x.Border.A0, .int .i64 x.Border.A1, .int .i64 x.Border.A2, .int .i64 x.Border.A3, .int .u32 x.Color, .int .u32 x.Background, .int .i64 x.Size, .int .i64 x.Line, .int .i64 x.Align, .bool x.Pre, .bool x.Hidden, .bool x.Clip, .bool x.Column, .int .i64 x.Grow, .int .i64 x.Shrink, .int .i64 x.Order, .int .i64 x.Justify, .int .i64 x.Items, .int .i64 x.Z, .bool x.Layered]
  mono := by
    rintro f f' r x h hf
    obtain rfl := h
    exact rfl
  one := by
    rintro f r x h
    obtain rfl := h
    exact AllC.row ⟨rfl, rfl, rfl, rfl, rfl, rfl, rfl, rfl, rfl, rfl, rfl, rfl, rfl, rfl, rfl, rfl, rfl, rfl, rfl, rfl, rfl, rfl, rfl, rfl, rfl, rfl, rfl, rfl, rfl, rfl, rfl, rfl, rfl, rfl, rfl, rfl, rfl, rfl, rfl, rfl, rfl, rfl, rfl, rfl, rfl, rfl, rfl, rfl, rfl, rfl, rfl, rfl, trivial⟩ rfl
structure boxes_Box where
  Kind : Int
  Node : Int
  Index : Int
  Style : api_Style
  Text : ByteArray
  Kids : (List boxes_Box)
inductive R_boxes_Box (f : Fz) : List Value → boxes_Box → Prop
  | mk {v0 : Value} {rowsv0 : List (List Value)} {x : boxes_Box} : Rd f [] v0 57 rowsv0 → rowsv0.length = x.Kids.length → (∀ (i : Nat) r y, rowsv0[i]? = some r → x.Kids[i]? = some y → R_boxes_Box f r y) → R_boxes_Box f [.int .i64 x.Kind, .int .i64 x.Node, .int .i64 x.Index, .int .i64 x.Style.Display, .int .i64 x.Style.Position, .int .i64 x.Style.Float, .int .i64 x.Style.Clear, .int .i64 x.Style.Width.Kind, .int .i64 x.Style.Width.N, .int .i64 x.Style.Height.Kind, .int .i64 x.Style.Height.N, .int .i64 x.Style.Margin.A0.Kind, .int .i64 x.Style.Margin.A0.N, .int .i64 x.Style.Margin.A1.Kind, .int .i64 x.Style.Margin.A1.N, .int .i64 x.Style.Margin.A2.Kind, .int .i64 x.Style.Margin.A2.N, .int .i64 x.Style.Margin.A3.Kind, .int .i64 x.Style.Margin.A3.N, .int .i64 x.Style.Padding.A0.Kind, .int .i64 x.Style.Padding.A0.N, .int .i64 x.Style.Padding.A1.Kind, .int .i64 x.Style.Padding.A1.N, .int .i64 x.Style.Padding.A2.Kind, .int .i64 x.Style.Padding.A2.N, .int .i64 x.Style.Padding.A3.Kind, .int .i64 x.Style.Padding.A3.N, .int .i64 x.Style.Offset.A0.Kind, .int .i64 x.Style.Offset.A0.N, .int .i64 x.Style.Offset.A1.Kind, .int .i64 x.Style.Offset.A1.N, .int .i64 x.Style.Offset.A2.Kind, .int .i64 x.Style.Offset.A2.N, .int .i64 x.Style.Offset.A3.Kind, .int .i64 x.Style.Offset.A3.N, .int .i64 x.Style.Border.A0, .int .i64 x.Style.Border.A1, .int .i64 x.Style.Border.A2, .int .i64 x.Style.Border.A3, .int .u32 x.Style.Color, .int .u32 x.Style.Background, .int .i64 x.Style.Size, .int .i64 x.Style.Line, .int .i64 x.Style.Align, .bool x.Style.Pre, .bool x.Style.Hidden, .bool x.Style.Clip, .bool x.Style.Column, .int .i64 x.Style.Grow, .int .i64 x.Style.Shrink, .int .i64 x.Style.Order, .int .i64 x.Style.Justify, .int .i64 x.Style.Items, .int .i64 x.Style.Z, .bool x.Style.Layered, .string x.Text, v0] x
structure ref13_Box where
  Kind : Int
  Node : Int
  Index : Int
  Style : api_Style
  Text : ByteArray
  Kids : (List ref13_Box)
inductive R_ref13_Box (f : Fz) : List Value → ref13_Box → Prop
  | mk {v0 : Value} {rowsv0 : List (List Value)} {x : ref13_Box} : Rd f [] v0 57 rowsv0 → rowsv0.length = x.Kids.length → (∀ (i : Nat) r y, rowsv0[i]? = some r → x.Kids[i]? = some y → R_ref13_Box f r y) → R_ref13_Box f [.int .i64 x.Kind, .int .i64 x.Node, .int .i64 x.Index, .int .i64 x.Style.Display, .int .i64 x.Style.Position, .int .i64 x.Style.Float, .int .i64 x.Style.Clear, .int .i64 x.Style.Width.Kind, .int .i64 x.Style.Width.N, .int .i64 x.Style.Height.Kind, .int .i64 x.Style.Height.N, .int .i64 x.Style.Margin.A0.Kind, .int .i64 x.Style.Margin.A0.N, .int .i64 x.Style.Margin.A1.Kind, .int .i64 x.Style.Margin.A1.N, .int .i64 x.Style.Margin.A2.Kind, .int .i64 x.Style.Margin.A2.N, .int .i64 x.Style.Margin.A3.Kind, .int .i64 x.Style.Margin.A3.N, .int .i64 x.Style.Padding.A0.Kind, .int .i64 x.Style.Padding.A0.N, .int .i64 x.Style.Padding.A1.Kind, .int .i64 x.Style.Padding.A1.N, .int .i64 x.Style.Padding.A2.Kind, .int .i64 x.Style.Padding.A2.N, .int .i64 x.Style.Padding.A3.Kind, .int .i64 x.Style.Padding.A3.N, .int .i64 x.Style.Offset.A0.Kind, .int .i64 x.Style.Offset.A0.N, .int .i64 x.Style.Offset.A1.Kind, .int .i64 x.Style.Offset.A1.N, .int .i64 x.Style.Offset.A2.Kind, .int .i64 x.Style.Offset.A2.N, .int .i64 x.Style.Offset.A3.Kind, .int .i64 x.Style.Offset.A3.N, .int .i64 x.Style.Border.A0, .int .i64 x.Style.Border.A1, .int .i64 x.Style.Border.A2, .int .i64 x.Style.Border.A3, .int .u32 x.Style.Color, .int .u32 x.Style.Background, .int .i64 x.Style.Size, .int .i64 x.Style.Line, .int .i64 x.Style.Align, .bool x.Style.Pre, .bool x.Style.Hidden, .bool x.Style.Clip, .bool x.Style.Column, .int .i64 x.Style.Grow, .int .i64 x.Style.Shrink, .int .i64 x.Style.Order, .int .i64 x.Style.Justify, .int .i64 x.Style.Items, .int .i64 x.Style.Z, .bool x.Style.Layered, .string x.Text, v0] x
end Go.Proofs.YteicdfkmpnmkmaaGreat
namespace Go.Proofs.YteicdfkmpnmkmaaGreat
set_option linter.unusedVariables false
set_option linter.unusedSimpArgs false
open Go.RowKit Go.Sl Go.ChangeShapes Go.WideShapes Go.ChangeAt
def SB_api_Len (x : api_Len) : Prop := (Sint .i64) x.Kind ∧ (Sint .i64) x.N
set_option maxRecDepth 100000 in
theorem openb_api_Len (N : Nat) : OpB N Tryz.prog 23 t_api_Len SB_api_Len := by
  intro H enc w n cs x hn h hw
  obtain ⟨xs, m, rfl, rfl, hl, hxl, hf⟩ := DataW.trod_struct Tryz.underlying23 h
  have hl : cs.length = 2 := hl.trans (by kernel_rfl)
  match cs, hl with
  | [c0, c1], _ =>
  obtain ⟨a0, r0, s0⟩ := OpB.field (N := N) (i := 0) (off := 0) (sz := 1) (opb_int Tryz.underlying3) (by omega) rfl rfl (show Tryz.prog.cellsOf 3 = 1 from by kernel_rfl) hxl (hf 0 _ rfl) Tryz.underlying23 hw
  obtain ⟨rfl, _⟩ := List.cons.inj (show [c0] = [.int .i64 a0] from r0)
  obtain ⟨a1, r1, s1⟩ := OpB.field (N := N) (i := 1) (off := 1) (sz := 1) (opb_int Tryz.underlying2) (by omega) rfl rfl (show Tryz.prog.cellsOf 2 = 1 from by kernel_rfl) hxl (hf 1 _ rfl) Tryz.underlying23 hw
  obtain ⟨rfl, _⟩ := List.cons.inj (show [c1] = [.int .i64 a1] from r1)
  exact ⟨({Kind := a0, N := a1} : api_Len), rfl, ⟨s0, s1⟩⟩
def SB_api_Attr (x : api_Attr) : Prop := SstrB x.Name ∧ SstrB x.Value
set_option maxRecDepth 100000 in
theorem openb_api_Attr (N : Nat) : OpB N Tryz.prog 85 t_api_Attr SB_api_Attr := by
  intro H enc w n cs x hn h hw
  obtain ⟨xs, m, rfl, rfl, hl, hxl, hf⟩ := DataW.trod_struct Tryz.underlying85 h
  have hl : cs.length = 2 := hl.trans (by kernel_rfl)
  match cs, hl with
  | [c0, c1], _ =>
  obtain ⟨a0, r0, s0⟩ := OpB.field (N := N) (i := 0) (off := 0) (sz := 1) (opb_str Tryz.underlying9) (by omega) rfl rfl (show Tryz.prog.cellsOf 9 = 1 from by kernel_rfl) hxl (hf 0 _ rfl) Tryz.underlying85 hw
  obtain ⟨rfl, _⟩ := List.cons.inj (show [c0] = [.string a0] from r0)
  obtain ⟨a1, r1, s1⟩ := OpB.field (N := N) (i := 1) (off := 1) (sz := 1) (opb_str Tryz.underlying9) (by omega) rfl rfl (show Tryz.prog.cellsOf 9 = 1 from by kernel_rfl) hxl (hf 1 _ rfl) Tryz.underlying85 hw
  obtain ⟨rfl, _⟩ := List.cons.inj (show [c1] = [.string a1] from r1)
  exact ⟨({Name := a0, Value := a1} : api_Attr), rfl, ⟨s0, s1⟩⟩
def SB_api_Node (x : api_Node) : Prop := (Sint .i64) x.Kind ∧ SstrB x.Name ∧ SstrB x.Text ∧ (SslB SB_api_Attr) x.Attrs ∧ (Sint .i64) x.Parent ∧ (Sint .i64) x.First ∧ (Sint .i64) x.Last ∧ (Sint .i64) x.Prev ∧ (Sint .i64) x.Next
set_option maxRecDepth 100000 in
theorem openb_api_Node (N : Nat) : OpB N Tryz.prog 57 t_api_Node SB_api_Node := by
  intro H enc w n cs x hn h hw
  obtain ⟨xs, m, rfl, rfl, hl, hxl, hf⟩ := DataW.trod_struct Tryz.underlying57 h
  have hl : cs.length = 9 := hl.trans (by kernel_rfl)
  match cs, hl with
  | [c0, c1, c2, c3, c4, c5, c6, c7, c8], _ =>
  obtain ⟨a0, r0, s0⟩ := OpB.field (N := N) (i := 0) (off := 0) (sz := 1) (opb_int Tryz.underlying3) (by omega) rfl rfl (show Tryz.prog.cellsOf 3 = 1 from by kernel_rfl) hxl (hf 0 _ rfl) Tryz.underlying57 hw
  obtain ⟨rfl, _⟩ := List.cons.inj (show [c0] = [.int .i64 a0] from r0)
  obtain ⟨a1, r1, s1⟩ := OpB.field (N := N) (i := 1) (off := 1) (sz := 1) (opb_str Tryz.underlying9) (by omega) rfl rfl (show Tryz.prog.cellsOf 9 = 1 from by kernel_rfl) hxl (hf 1 _ rfl) Tryz.underlying57 hw
  obtain ⟨rfl, _⟩ := List.cons.inj (show [c1] = [.string a1] from r1)
  obtain ⟨a2, r2, s2⟩ := OpB.field (N := N) (i := 2) (off := 2) (sz := 1) (opb_str Tryz.underlying9) (by omega) rfl rfl (show Tryz.prog.cellsOf 9 = 1 from by kernel_rfl) hxl (hf 2 _ rfl) Tryz.underlying57 hw
  obtain ⟨rfl, _⟩ := List.cons.inj (show [c2] = [.string a2] from r2)
  obtain ⟨a3, r3, s3⟩ := OpB.field (N := N) (i := 3) (off := 3) (sz := 1) (opb_sl Tryz.underlying55 (show Tryz.prog.cellsOf 85 = 2 from by kernel_rfl) (by decide) (openb_api_Attr _)) (by omega) rfl rfl (show Tryz.prog.cellsOf 55 = 1 from by kernel_rfl) hxl (hf 3 _ rfl) Tryz.underlying57 hw
  obtain ⟨v3, r3, q3⟩ : ∃ v, [c3] = [v] ∧ RS t_api_Attr (whole w) v a3 := r3
  obtain ⟨rfl, _⟩ := List.cons.inj r3
  obtain ⟨a4, r4, s4⟩ := OpB.field (N := N) (i := 4) (off := 4) (sz := 1) (opb_int Tryz.underlying3) (by omega) rfl rfl (show Tryz.prog.cellsOf 3 = 1 from by kernel_rfl) hxl (hf 4 _ rfl) Tryz.underlying57 hw
  obtain ⟨rfl, _⟩ := List.cons.inj (show [c4] = [.int .i64 a4] from r4)
  obtain ⟨a5, r5, s5⟩ := OpB.field (N := N) (i := 5) (off := 5) (sz := 1) (opb_int Tryz.underlying3) (by omega) rfl rfl (show Tryz.prog.cellsOf 3 = 1 from by kernel_rfl) hxl (hf 5 _ rfl) Tryz.underlying57 hw
  obtain ⟨rfl, _⟩ := List.cons.inj (show [c5] = [.int .i64 a5] from r5)
  obtain ⟨a6, r6, s6⟩ := OpB.field (N := N) (i := 6) (off := 6) (sz := 1) (opb_int Tryz.underlying3) (by omega) rfl rfl (show Tryz.prog.cellsOf 3 = 1 from by kernel_rfl) hxl (hf 6 _ rfl) Tryz.underlying57 hw
  obtain ⟨rfl, _⟩ := List.cons.inj (show [c6] = [.int .i64 a6] from r6)
  obtain ⟨a7, r7, s7⟩ := OpB.field (N := N) (i := 7) (off := 7) (sz := 1) (opb_int Tryz.underlying3) (by omega) rfl rfl (show Tryz.prog.cellsOf 3 = 1 from by kernel_rfl) hxl (hf 7 _ rfl) Tryz.underlying57 hw
  obtain ⟨rfl, _⟩ := List.cons.inj (show [c7] = [.int .i64 a7] from r7)
  obtain ⟨a8, r8, s8⟩ := OpB.field (N := N) (i := 8) (off := 8) (sz := 1) (opb_int Tryz.underlying3) (by omega) rfl rfl (show Tryz.prog.cellsOf 3 = 1 from by kernel_rfl) hxl (hf 8 _ rfl) Tryz.underlying57 hw
  obtain ⟨rfl, _⟩ := List.cons.inj (show [c8] = [.int .i64 a8] from r8)
  exact ⟨({Kind := a0, Name := a1, Text := a2, Attrs := a3, Parent := a4, First := a5, Last := a6, Prev := a7, Next := a8} : api_Node), ⟨_, rfl, q3⟩, ⟨s0, s1, s2, s3, s4, s5, s6, s7, s8⟩⟩
def SB_api_Tree (x : api_Tree) : Prop := (SslB SB_api_Node) x.Nodes
set_option maxRecDepth 100000 in
theorem openb_api_Tree (N : Nat) : OpB N Tryz.prog 37 t_api_Tree SB_api_Tree := by
  intro H enc w n cs x hn h hw
  obtain ⟨xs, m, rfl, rfl, hl, hxl, hf⟩ := DataW.trod_struct Tryz.underlying37 h
  have hl : cs.length = 1 := hl.trans (by kernel_rfl)
  match cs, hl with
  | [c0], _ =>
  obtain ⟨a0, r0, s0⟩ := OpB.field (N := N) (i := 0) (off := 0) (sz := 1) (opb_sl Tryz.underlying35 (show Tryz.prog.cellsOf 57 = 9 from by kernel_rfl) (by decide) (openb_api_Node _)) (by omega) rfl rfl (show Tryz.prog.cellsOf 35 = 1 from by kernel_rfl) hxl (hf 0 _ rfl) Tryz.underlying37 hw
  obtain ⟨v0, r0, q0⟩ : ∃ v, [c0] = [v] ∧ RS t_api_Node (whole w) v a0 := r0
  obtain ⟨rfl, _⟩ := List.cons.inj r0
  exact ⟨({Nodes := a0} : api_Tree), ⟨_, rfl, q0⟩, s0⟩
end Go.Proofs.YteicdfkmpnmkmaaGreat
