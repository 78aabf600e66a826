/-
  Walks and laws of this seat; the base is the text Base.
-/
import Derived.Test.YtklcdfnhdljkjaaDoorBasg
import Derived.Test.YtklcdfnhdljkjaaDoorY7
/-
  Models of functions, and that the functions compute them. Printed by lift.py.
-/
namespace Go.Proofs.YtklcdfnhdljkjaaDoor
open Go.RowKit Go.Sl Go.ChangeShapes Go.WideShapes Go.ChangeAt
theorem ownk : ownKnob Tryd.prog.godebug = none := by kernel_rfl
theorem laid : laidOutB Tryd.prog = true := by kernel_rfl
def S_api_Attr (x : api_Attr) : Prop := Sstr x.Name ∧ Sstr x.Value
set_option maxRecDepth 100000 in
theorem open_api_Attr (N : Nat) : OpN N Tryd.prog 43 t_api_Attr S_api_Attr := by
  intro H enc w n cs x hn h hw
  obtain ⟨xs, m, rfl, rfl, hl, hxl, hf⟩ := DataW.trod_struct Tryd.underlying43 h
  have hl : cs.length = 2 := hl.trans (by kernel_rfl)
  match cs, hl with
  | [c0, c1], _ =>
  obtain ⟨a0, r0, s0⟩ := OpN.field (N := N) (i := 0) (off := 0) (sz := 1) (op_str Tryd.underlying9) (by omega) rfl rfl (show Tryd.prog.cellsOf 9 = 1 from by kernel_rfl) hxl (hf 0 _ rfl) Tryd.underlying43 hw
  obtain ⟨rfl, _⟩ := List.cons.inj (show [c0] = [.string a0] from r0)
  obtain ⟨a1, r1, s1⟩ := OpN.field (N := N) (i := 1) (off := 1) (sz := 1) (op_str Tryd.underlying9) (by omega) rfl rfl (show Tryd.prog.cellsOf 9 = 1 from by kernel_rfl) hxl (hf 1 _ rfl) Tryd.underlying43 hw
  obtain ⟨rfl, _⟩ := List.cons.inj (show [c1] = [.string a1] from r1)
  exact ⟨({Name := a0, Value := a1} : api_Attr), rfl, ⟨s0, s1⟩⟩
def S_api_Node (x : api_Node) : Prop := (Sint .i64) x.Kind ∧ Sstr x.Name ∧ Sstr x.Text ∧ (Ssl 32 S_api_Attr) x.Attrs ∧ (Sint .i64) x.Parent ∧ (Sint .i64) x.First ∧ (Sint .i64) x.Last ∧ (Sint .i64) x.Prev ∧ (Sint .i64) x.Next
set_option maxRecDepth 100000 in
theorem open_api_Node (N : Nat) : OpN N Tryd.prog 37 t_api_Node S_api_Node := by
  intro H enc w n cs x hn h hw
  obtain ⟨xs, m, rfl, rfl, hl, hxl, hf⟩ := DataW.trod_struct Tryd.underlying37 h
  have hl : cs.length = 9 := hl.trans (by kernel_rfl)
  match cs, hl with
  | [c0, c1, c2, c3, c4, c5, c6, c7, c8], _ =>
  obtain ⟨a0, r0, s0⟩ := OpN.field (N := N) (i := 0) (off := 0) (sz := 1) (op_int Tryd.underlying3) (by omega) rfl rfl (show Tryd.prog.cellsOf 3 = 1 from by kernel_rfl) hxl (hf 0 _ rfl) Tryd.underlying37 hw
  obtain ⟨rfl, _⟩ := List.cons.inj (show [c0] = [.int .i64 a0] from r0)
  obtain ⟨a1, r1, s1⟩ := OpN.field (N := N) (i := 1) (off := 1) (sz := 1) (op_str Tryd.underlying9) (by omega) rfl rfl (show Tryd.prog.cellsOf 9 = 1 from by kernel_rfl) hxl (hf 1 _ rfl) Tryd.underlying37 hw
  obtain ⟨rfl, _⟩ := List.cons.inj (show [c1] = [.string a1] from r1)
  obtain ⟨a2, r2, s2⟩ := OpN.field (N := N) (i := 2) (off := 2) (sz := 1) (op_str Tryd.underlying9) (by omega) rfl rfl (show Tryd.prog.cellsOf 9 = 1 from by kernel_rfl) hxl (hf 2 _ rfl) Tryd.underlying37 hw
  obtain ⟨rfl, _⟩ := List.cons.inj (show [c2] = [.string a2] from r2)
  obtain ⟨a3, r3, s3⟩ := OpN.field (N := N) (i := 3) (off := 3) (sz := 1) (op_sl Tryd.underlying28 (show Tryd.prog.cellsOf 43 = 2 from by kernel_rfl) (by decide) (show Tryd.prog.bytesOf 43 = 32 from by kernel_rfl) (open_api_Attr _)) (by omega) rfl rfl (show Tryd.prog.cellsOf 28 = 1 from by kernel_rfl) hxl (hf 3 _ rfl) Tryd.underlying37 hw
  obtain ⟨v3, r3, q3⟩ : ∃ v, [c3] = [v] ∧ RS t_api_Attr (whole w) v a3 := r3
  obtain ⟨rfl, _⟩ := List.cons.inj r3
  obtain ⟨a4, r4, s4⟩ := OpN.field (N := N) (i := 4) (off := 4) (sz := 1) (op_int Tryd.underlying3) (by omega) rfl rfl (show Tryd.prog.cellsOf 3 = 1 from by kernel_rfl) hxl (hf 4 _ rfl) Tryd.underlying37 hw
  obtain ⟨rfl, _⟩ := List.cons.inj (show [c4] = [.int .i64 a4] from r4)
  obtain ⟨a5, r5, s5⟩ := OpN.field (N := N) (i := 5) (off := 5) (sz := 1) (op_int Tryd.underlying3) (by omega) rfl rfl (show Tryd.prog.cellsOf 3 = 1 from by kernel_rfl) hxl (hf 5 _ rfl) Tryd.underlying37 hw
  obtain ⟨rfl, _⟩ := List.cons.inj (show [c5] = [.int .i64 a5] from r5)
  obtain ⟨a6, r6, s6⟩ := OpN.field (N := N) (i := 6) (off := 6) (sz := 1) (op_int Tryd.underlying3) (by omega) rfl rfl (show Tryd.prog.cellsOf 3 = 1 from by kernel_rfl) hxl (hf 6 _ rfl) Tryd.underlying37 hw
  obtain ⟨rfl, _⟩ := List.cons.inj (show [c6] = [.int .i64 a6] from r6)
  obtain ⟨a7, r7, s7⟩ := OpN.field (N := N) (i := 7) (off := 7) (sz := 1) (op_int Tryd.underlying3) (by omega) rfl rfl (show Tryd.prog.cellsOf 3 = 1 from by kernel_rfl) hxl (hf 7 _ rfl) Tryd.underlying37 hw
  obtain ⟨rfl, _⟩ := List.cons.inj (show [c7] = [.int .i64 a7] from r7)
  obtain ⟨a8, r8, s8⟩ := OpN.field (N := N) (i := 8) (off := 8) (sz := 1) (op_int Tryd.underlying3) (by omega) rfl rfl (show Tryd.prog.cellsOf 3 = 1 from by kernel_rfl) hxl (hf 8 _ rfl) Tryd.underlying37 hw
  obtain ⟨rfl, _⟩ := List.cons.inj (show [c8] = [.int .i64 a8] from r8)
  exact ⟨({Kind := a0, Name := a1, Text := a2, Attrs := a3, Parent := a4, First := a5, Last := a6, Prev := a7, Next := a8} : api_Node), ⟨_, rfl, q3⟩, ⟨s0, s1, s2, s3, s4, s5, s6, s7, s8⟩⟩
def S_api_Tree (x : api_Tree) : Prop := (Ssl 104 S_api_Node) x.Nodes
set_option maxRecDepth 100000 in
theorem open_api_Tree (N : Nat) : OpN N Tryd.prog 24 t_api_Tree S_api_Tree := by
  intro H enc w n cs x hn h hw
  obtain ⟨xs, m, rfl, rfl, hl, hxl, hf⟩ := DataW.trod_struct Tryd.underlying24 h
  have hl : cs.length = 1 := hl.trans (by kernel_rfl)
  match cs, hl with
  | [c0], _ =>
  obtain ⟨a0, r0, s0⟩ := OpN.field (N := N) (i := 0) (off := 0) (sz := 1) (op_sl Tryd.underlying22 (show Tryd.prog.cellsOf 37 = 9 from by kernel_rfl) (by decide) (show Tryd.prog.bytesOf 37 = 104 from by kernel_rfl) (open_api_Node _)) (by omega) rfl rfl (show Tryd.prog.cellsOf 22 = 1 from by kernel_rfl) hxl (hf 0 _ rfl) Tryd.underlying24 hw
  obtain ⟨v0, r0, q0⟩ : ∃ v, [c0] = [v] ∧ RS t_api_Node (whole w) v a0 := r0
  obtain ⟨rfl, _⟩ := List.cons.inj r0
  exact ⟨({Nodes := a0} : api_Tree), ⟨_, rfl, q0⟩, s0⟩
end Go.Proofs.YtklcdfnhdljkjaaDoor
