/-
  Walks and laws of this seat; the base is the text Base.
-/
import Derived.Test.YtmkcglpeidbblaaDoorU10
import Derived.Test.YtmkcglpeidbblaaDoorO10
/-
  Models of functions, and that the functions compute them. Printed by lift.py.
-/
namespace Go.Proofs.YtmkcglpeidbblaaDoor
open Go.RowKit Go.Sl Go.ChangeShapes Go.WideShapes Go.ChangeAt
def SB_api_Attr (x : api_Attr) : Prop := SstrB x.Name ∧ SstrB x.Value
set_option maxRecDepth 100000 in
theorem openb_api_Attr (N : Nat) : OpB N Tryd.prog 91 t_api_Attr SB_api_Attr := by
  intro H enc w n cs x hn h hw
  obtain ⟨xs, m, rfl, rfl, hl, hxl, hf⟩ := DataW.trod_struct Tryd.underlying91 h
  have hl : cs.length = 2 := hl.trans (by kernel_rfl)
  match cs, hl with
  | [c0, c1], _ =>
  obtain ⟨a0, r0, s0⟩ := OpB.field (N := N) (i := 0) (off := 0) (sz := 1) (opb_str Tryd.underlying9) (by omega) rfl rfl (show Tryd.prog.cellsOf 9 = 1 from by kernel_rfl) hxl (hf 0 _ rfl) Tryd.underlying91 hw
  obtain ⟨rfl, _⟩ := List.cons.inj (show [c0] = [.string a0] from r0)
  obtain ⟨a1, r1, s1⟩ := OpB.field (N := N) (i := 1) (off := 1) (sz := 1) (opb_str Tryd.underlying9) (by omega) rfl rfl (show Tryd.prog.cellsOf 9 = 1 from by kernel_rfl) hxl (hf 1 _ rfl) Tryd.underlying91 hw
  obtain ⟨rfl, _⟩ := List.cons.inj (show [c1] = [.string a1] from r1)
  exact ⟨({Name := a0, Value := a1} : api_Attr), rfl, ⟨s0, s1⟩⟩
def SB_api_Node (x : api_Node) : Prop := (Sint .i64) x.Kind ∧ SstrB x.Name ∧ SstrB x.Text ∧ (SslB SB_api_Attr) x.Attrs ∧ (Sint .i64) x.Parent ∧ (Sint .i64) x.First ∧ (Sint .i64) x.Last ∧ (Sint .i64) x.Prev ∧ (Sint .i64) x.Next
set_option maxRecDepth 100000 in
theorem openb_api_Node (N : Nat) : OpB N Tryd.prog 42 t_api_Node SB_api_Node := by
  intro H enc w n cs x hn h hw
  obtain ⟨xs, m, rfl, rfl, hl, hxl, hf⟩ := DataW.trod_struct Tryd.underlying42 h
  have hl : cs.length = 9 := hl.trans (by kernel_rfl)
  match cs, hl with
  | [c0, c1, c2, c3, c4, c5, c6, c7, c8], _ =>
  obtain ⟨a0, r0, s0⟩ := OpB.field (N := N) (i := 0) (off := 0) (sz := 1) (opb_int Tryd.underlying3) (by omega) rfl rfl (show Tryd.prog.cellsOf 3 = 1 from by kernel_rfl) hxl (hf 0 _ rfl) Tryd.underlying42 hw
  obtain ⟨rfl, _⟩ := List.cons.inj (show [c0] = [.int .i64 a0] from r0)
  obtain ⟨a1, r1, s1⟩ := OpB.field (N := N) (i := 1) (off := 1) (sz := 1) (opb_str Tryd.underlying9) (by omega) rfl rfl (show Tryd.prog.cellsOf 9 = 1 from by kernel_rfl) hxl (hf 1 _ rfl) Tryd.underlying42 hw
  obtain ⟨rfl, _⟩ := List.cons.inj (show [c1] = [.string a1] from r1)
  obtain ⟨a2, r2, s2⟩ := OpB.field (N := N) (i := 2) (off := 2) (sz := 1) (opb_str Tryd.underlying9) (by omega) rfl rfl (show Tryd.prog.cellsOf 9 = 1 from by kernel_rfl) hxl (hf 2 _ rfl) Tryd.underlying42 hw
  obtain ⟨rfl, _⟩ := List.cons.inj (show [c2] = [.string a2] from r2)
  obtain ⟨a3, r3, s3⟩ := OpB.field (N := N) (i := 3) (off := 3) (sz := 1) (opb_sl Tryd.underlying40 (show Tryd.prog.cellsOf 91 = 2 from by kernel_rfl) (by decide) (openb_api_Attr _)) (by omega) rfl rfl (show Tryd.prog.cellsOf 40 = 1 from by kernel_rfl) hxl (hf 3 _ rfl) Tryd.underlying42 hw
  obtain ⟨v3, r3, q3⟩ : ∃ v, [c3] = [v] ∧ RS t_api_Attr (whole w) v a3 := r3
  obtain ⟨rfl, _⟩ := List.cons.inj r3
  obtain ⟨a4, r4, s4⟩ := OpB.field (N := N) (i := 4) (off := 4) (sz := 1) (opb_int Tryd.underlying3) (by omega) rfl rfl (show Tryd.prog.cellsOf 3 = 1 from by kernel_rfl) hxl (hf 4 _ rfl) Tryd.underlying42 hw
  obtain ⟨rfl, _⟩ := List.cons.inj (show [c4] = [.int .i64 a4] from r4)
  obtain ⟨a5, r5, s5⟩ := OpB.field (N := N) (i := 5) (off := 5) (sz := 1) (opb_int Tryd.underlying3) (by omega) rfl rfl (show Tryd.prog.cellsOf 3 = 1 from by kernel_rfl) hxl (hf 5 _ rfl) Tryd.underlying42 hw
  obtain ⟨rfl, _⟩ := List.cons.inj (show [c5] = [.int .i64 a5] from r5)
  obtain ⟨a6, r6, s6⟩ := OpB.field (N := N) (i := 6) (off := 6) (sz := 1) (opb_int Tryd.underlying3) (by omega) rfl rfl (show Tryd.prog.cellsOf 3 = 1 from by kernel_rfl) hxl (hf 6 _ rfl) Tryd.underlying42 hw
  obtain ⟨rfl, _⟩ := List.cons.inj (show [c6] = [.int .i64 a6] from r6)
  obtain ⟨a7, r7, s7⟩ := OpB.field (N := N) (i := 7) (off := 7) (sz := 1) (opb_int Tryd.underlying3) (by omega) rfl rfl (show Tryd.prog.cellsOf 3 = 1 from by kernel_rfl) hxl (hf 7 _ rfl) Tryd.underlying42 hw
  obtain ⟨rfl, _⟩ := List.cons.inj (show [c7] = [.int .i64 a7] from r7)
  obtain ⟨a8, r8, s8⟩ := OpB.field (N := N) (i := 8) (off := 8) (sz := 1) (opb_int Tryd.underlying3) (by omega) rfl rfl (show Tryd.prog.cellsOf 3 = 1 from by kernel_rfl) hxl (hf 8 _ rfl) Tryd.underlying42 hw
  obtain ⟨rfl, _⟩ := List.cons.inj (show [c8] = [.int .i64 a8] from r8)
  exact ⟨({Kind := a0, Name := a1, Text := a2, Attrs := a3, Parent := a4, First := a5, Last := a6, Prev := a7, Next := a8} : api_Node), ⟨_, rfl, q3⟩, ⟨s0, s1, s2, s3, s4, s5, s6, s7, s8⟩⟩
def SB_api_Tree (x : api_Tree) : Prop := (SslB SB_api_Node) x.Nodes
set_option maxRecDepth 100000 in
theorem openb_api_Tree (N : Nat) : OpB N Tryd.prog 24 t_api_Tree SB_api_Tree := by
  intro H enc w n cs x hn h hw
  obtain ⟨xs, m, rfl, rfl, hl, hxl, hf⟩ := DataW.trod_struct Tryd.underlying24 h
  have hl : cs.length = 1 := hl.trans (by kernel_rfl)
  match cs, hl with
  | [c0], _ =>
  obtain ⟨a0, r0, s0⟩ := OpB.field (N := N) (i := 0) (off := 0) (sz := 1) (opb_sl Tryd.underlying22 (show Tryd.prog.cellsOf 42 = 9 from by kernel_rfl) (by decide) (openb_api_Node _)) (by omega) rfl rfl (show Tryd.prog.cellsOf 22 = 1 from by kernel_rfl) hxl (hf 0 _ rfl) Tryd.underlying24 hw
  obtain ⟨v0, r0, q0⟩ : ∃ v, [c0] = [v] ∧ RS t_api_Node (whole w) v a0 := r0
  obtain ⟨rfl, _⟩ := List.cons.inj r0
  exact ⟨({Nodes := a0} : api_Tree), ⟨_, rfl, q0⟩, s0⟩
def SB_sheet_Test (x : sheet_Test) : Prop := (Sint .i64) x.Kind ∧ SstrB x.Name ∧ SstrB x.Value ∧ (Sint .i64) x.N
set_option maxRecDepth 100000 in
theorem openb_sheet_Test (N : Nat) : OpB N Tryd.prog 29 t_sheet_Test SB_sheet_Test := by
  intro H enc w n cs x hn h hw
  obtain ⟨xs, m, rfl, rfl, hl, hxl, hf⟩ := DataW.trod_struct Tryd.underlying29 h
  have hl : cs.length = 4 := hl.trans (by kernel_rfl)
  match cs, hl with
  | [c0, c1, c2, c3], _ =>
  obtain ⟨a0, r0, s0⟩ := OpB.field (N := N) (i := 0) (off := 0) (sz := 1) (opb_int Tryd.underlying3) (by omega) rfl rfl (show Tryd.prog.cellsOf 3 = 1 from by kernel_rfl) hxl (hf 0 _ rfl) Tryd.underlying29 hw
  obtain ⟨rfl, _⟩ := List.cons.inj (show [c0] = [.int .i64 a0] from r0)
  obtain ⟨a1, r1, s1⟩ := OpB.field (N := N) (i := 1) (off := 1) (sz := 1) (opb_str Tryd.underlying9) (by omega) rfl rfl (show Tryd.prog.cellsOf 9 = 1 from by kernel_rfl) hxl (hf 1 _ rfl) Tryd.underlying29 hw
  obtain ⟨rfl, _⟩ := List.cons.inj (show [c1] = [.string a1] from r1)
  obtain ⟨a2, r2, s2⟩ := OpB.field (N := N) (i := 2) (off := 2) (sz := 1) (opb_str Tryd.underlying9) (by omega) rfl rfl (show Tryd.prog.cellsOf 9 = 1 from by kernel_rfl) hxl (hf 2 _ rfl) Tryd.underlying29 hw
  obtain ⟨rfl, _⟩ := List.cons.inj (show [c2] = [.string a2] from r2)
  obtain ⟨a3, r3, s3⟩ := OpB.field (N := N) (i := 3) (off := 3) (sz := 1) (opb_int Tryd.underlying3) (by omega) rfl rfl (show Tryd.prog.cellsOf 3 = 1 from by kernel_rfl) hxl (hf 3 _ rfl) Tryd.underlying29 hw
  obtain ⟨rfl, _⟩ := List.cons.inj (show [c3] = [.int .i64 a3] from r3)
  exact ⟨({Kind := a0, Name := a1, Value := a2, N := a3} : sheet_Test), rfl, ⟨s0, s1, s2, s3⟩⟩
def SB_sheet_Step (x : sheet_Step) : Prop := (Sint .i64) x.Comb ∧ SstrB x.Name ∧ (SslB SB_sheet_Test) x.Tests
set_option maxRecDepth 100000 in
theorem openb_sheet_Step (N : Nat) : OpB N Tryd.prog 35 t_sheet_Step SB_sheet_Step := by
  intro H enc w n cs x hn h hw
  obtain ⟨xs, m, rfl, rfl, hl, hxl, hf⟩ := DataW.trod_struct Tryd.underlying35 h
  have hl : cs.length = 3 := hl.trans (by kernel_rfl)
  match cs, hl with
  | [c0, c1, c2], _ =>
  obtain ⟨a0, r0, s0⟩ := OpB.field (N := N) (i := 0) (off := 0) (sz := 1) (opb_int Tryd.underlying3) (by omega) rfl rfl (show Tryd.prog.cellsOf 3 = 1 from by kernel_rfl) hxl (hf 0 _ rfl) Tryd.underlying35 hw
  obtain ⟨rfl, _⟩ := List.cons.inj (show [c0] = [.int .i64 a0] from r0)
  obtain ⟨a1, r1, s1⟩ := OpB.field (N := N) (i := 1) (off := 1) (sz := 1) (opb_str Tryd.underlying9) (by omega) rfl rfl (show Tryd.prog.cellsOf 9 = 1 from by kernel_rfl) hxl (hf 1 _ rfl) Tryd.underlying35 hw
  obtain ⟨rfl, _⟩ := List.cons.inj (show [c1] = [.string a1] from r1)
  obtain ⟨a2, r2, s2⟩ := OpB.field (N := N) (i := 2) (off := 2) (sz := 1) (opb_sl Tryd.underlying33 (show Tryd.prog.cellsOf 29 = 4 from by kernel_rfl) (by decide) (openb_sheet_Test _)) (by omega) rfl rfl (show Tryd.prog.cellsOf 33 = 1 from by kernel_rfl) hxl (hf 2 _ rfl) Tryd.underlying35 hw
  obtain ⟨v2, r2, q2⟩ : ∃ v, [c2] = [v] ∧ RS t_sheet_Test (whole w) v a2 := r2
  obtain ⟨rfl, _⟩ := List.cons.inj r2
  exact ⟨({Comb := a0, Name := a1, Tests := a2} : sheet_Step), ⟨_, rfl, q2⟩, ⟨s0, s1, s2⟩⟩
def SB_sheet_Selector (x : sheet_Selector) : Prop := (SslB SB_sheet_Step) x.Steps
set_option maxRecDepth 100000 in
theorem openb_sheet_Selector (N : Nat) : OpB N Tryd.prog 27 t_sheet_Selector SB_sheet_Selector := by
  intro H enc w n cs x hn h hw
  obtain ⟨xs, m, rfl, rfl, hl, hxl, hf⟩ := DataW.trod_struct Tryd.underlying27 h
  have hl : cs.length = 1 := hl.trans (by kernel_rfl)
  match cs, hl with
  | [c0], _ =>
  obtain ⟨a0, r0, s0⟩ := OpB.field (N := N) (i := 0) (off := 0) (sz := 1) (opb_sl Tryd.underlying25 (show Tryd.prog.cellsOf 35 = 3 from by kernel_rfl) (by decide) (openb_sheet_Step _)) (by omega) rfl rfl (show Tryd.prog.cellsOf 25 = 1 from by kernel_rfl) hxl (hf 0 _ rfl) Tryd.underlying27 hw
  obtain ⟨v0, r0, q0⟩ : ∃ v, [c0] = [v] ∧ RS t_sheet_Step (whole w) v a0 := r0
  obtain ⟨rfl, _⟩ := List.cons.inj r0
  exact ⟨({Steps := a0} : sheet_Selector), ⟨_, rfl, q0⟩, s0⟩
end Go.Proofs.YtmkcglpeidbblaaDoor
