/-
  Walks and laws of this seat.
-/
import Derived.Test.YteicdfkmpnmkmaaGreatU13
import Derived.Test.YteicdfkmpnmkmaaGreatTd
namespace Go.Proofs.YteicdfkmpnmkmaaGreat
set_option linter.unusedVariables false
set_option linter.unusedSimpArgs false
set_option linter.unusedSectionVars false
open Go.RowKit Go.Sl Go.V Go.ChangeShapes Go.WideShapes Go.ChangeAt
variable [F0]
theorem RS.tc {c : TC} {f : Fz} {v : Value} {xs : List c.T} (h : RS c.ty f v xs) (hz : c.fz f = f) (hw : c.wh f v) : (TC.sl c).R f [v] xs := by
  obtain ⟨rows, h1, h2⟩ := h
  exact ⟨v, rfl, rows, ⟨hz.symm ▸ h1, hw⟩, zc9.2 h2⟩
def SB_AttT (x : AttT) : Prop := SstrB x.1 ∧ SstrB x.2.1
set_option maxRecDepth 100000 in
theorem yec (N : Nat) : OpB N Tryz.prog 85 cAttT.ty SB_AttT := by
  intro H enc w n cs x hn h hw
  obtain ⟨xs, m, rfl, rfl, hl, hxl, hf⟩ := DataW.trod_struct Tryz.underlying85 h
  have hl : cs.length = 2 := hl.trans (by kernel_rfl)
  match cs, hl with
  | [c0, c1], _ =>
  obtain ⟨a0, r0, s0⟩ := OpB.field (N := N) (i := 0) (off := 0) (sz := 1) (zyu Tryz.underlying9) (by omega) rfl rfl (show Tryz.prog.cellsOf 9 = 1 from by kernel_rfl) hxl (hf 0 _ rfl) Tryz.underlying85 hw
  obtain ⟨rfl, _⟩ := List.cons.inj (show [c0] = [.string a0] from r0)
  obtain ⟨a1, r1, s1⟩ := OpB.field (N := N) (i := 1) (off := 1) (sz := 1) (zyu Tryz.underlying9) (by omega) rfl rfl (show Tryz.prog.cellsOf 9 = 1 from by kernel_rfl) hxl (hf 1 _ rfl) Tryz.underlying85 hw
  obtain ⟨rfl, _⟩ := List.cons.inj (show [c1] = [.string a1] from r1)
  exact ⟨((a0, a1,()) : AttT), ⟨[_], _, rfl, rfl,[_], _, rfl, rfl, rfl⟩, ⟨s0, s1⟩⟩
set_option maxRecDepth 100000 in
theorem yeb (N : Nat) : OpB N Tryz.prog 57 cNodT.ty NodeB := by
  intro H enc w n cs x hn h hw
  obtain ⟨xs, m, rfl, rfl, hl, hxl, hf⟩ := DataW.trod_struct Tryz.underlying57 h
  have hl : cs.length = 9 := hl.trans (by kernel_rfl)
  match cs, hl with
  | [c0, c1, c2, c3, c4, c5, c6, c7, c8], _ =>
  obtain ⟨a0, r0, s0⟩ := OpB.field (N := N) (i := 0) (off := 0) (sz := 1) (ztu Tryz.underlying3) (by omega) rfl rfl (show Tryz.prog.cellsOf 3 = 1 from by kernel_rfl) hxl (hf 0 _ rfl) Tryz.underlying57 hw
  obtain ⟨rfl, _⟩ := List.cons.inj (show [c0] = [.int .i64 a0] from r0)
  obtain ⟨a1, r1, s1⟩ := OpB.field (N := N) (i := 1) (off := 1) (sz := 1) (zyu Tryz.underlying9) (by omega) rfl rfl (show Tryz.prog.cellsOf 9 = 1 from by kernel_rfl) hxl (hf 1 _ rfl) Tryz.underlying57 hw
  obtain ⟨rfl, _⟩ := List.cons.inj (show [c1] = [.string a1] from r1)
  obtain ⟨a2, r2, s2⟩ := OpB.field (N := N) (i := 2) (off := 2) (sz := 1) (zyu Tryz.underlying9) (by omega) rfl rfl (show Tryz.prog.cellsOf 9 = 1 from by kernel_rfl) hxl (hf 2 _ rfl) Tryz.underlying57 hw
  obtain ⟨rfl, _⟩ := List.cons.inj (show [c2] = [.string a2] from r2)
  obtain ⟨a3, r3, s3⟩ := OpB.field (N := N) (i := 3) (off := 3) (sz := 1) (opb_sl Tryz.underlying55 (show Tryz.prog.cellsOf 85 = 2 from by kernel_rfl) (show 0 < 2 from by decide) (yec _)) (by omega) rfl rfl (show Tryz.prog.cellsOf 55 = 1 from by kernel_rfl) hxl (hf 3 _ rfl) Tryz.underlying57 hw
  obtain ⟨v3, r3, q3⟩ : ∃ v,[c3] = [v] ∧ RS cAttT.ty (whole w) v a3 := r3
  obtain ⟨rfl, _⟩ := List.cons.inj r3
  obtain ⟨a4, r4, s4⟩ := OpB.field (N := N) (i := 4) (off := 4) (sz := 1) (ztu Tryz.underlying3) (by omega) rfl rfl (show Tryz.prog.cellsOf 3 = 1 from by kernel_rfl) hxl (hf 4 _ rfl) Tryz.underlying57 hw
  obtain ⟨rfl, _⟩ := List.cons.inj (show [c4] = [.int .i64 a4] from r4)
  obtain ⟨a5, r5, s5⟩ := OpB.field (N := N) (i := 5) (off := 5) (sz := 1) (ztu Tryz.underlying3) (by omega) rfl rfl (show Tryz.prog.cellsOf 3 = 1 from by kernel_rfl) hxl (hf 5 _ rfl) Tryz.underlying57 hw
  obtain ⟨rfl, _⟩ := List.cons.inj (show [c5] = [.int .i64 a5] from r5)
  obtain ⟨a6, r6, s6⟩ := OpB.field (N := N) (i := 6) (off := 6) (sz := 1) (ztu Tryz.underlying3) (by omega) rfl rfl (show Tryz.prog.cellsOf 3 = 1 from by kernel_rfl) hxl (hf 6 _ rfl) Tryz.underlying57 hw
  obtain ⟨rfl, _⟩ := List.cons.inj (show [c6] = [.int .i64 a6] from r6)
  obtain ⟨a7, r7, s7⟩ := OpB.field (N := N) (i := 7) (off := 7) (sz := 1) (ztu Tryz.underlying3) (by omega) rfl rfl (show Tryz.prog.cellsOf 3 = 1 from by kernel_rfl) hxl (hf 7 _ rfl) Tryz.underlying57 hw
  obtain ⟨rfl, _⟩ := List.cons.inj (show [c7] = [.int .i64 a7] from r7)
  obtain ⟨a8, r8, s8⟩ := OpB.field (N := N) (i := 8) (off := 8) (sz := 1) (ztu Tryz.underlying3) (by omega) rfl rfl (show Tryz.prog.cellsOf 3 = 1 from by kernel_rfl) hxl (hf 8 _ rfl) Tryz.underlying57 hw
  obtain ⟨rfl, _⟩ := List.cons.inj (show [c8] = [.int .i64 a8] from r8)
  refine ⟨((a0, a1, a2, a3, a4, a5, a6, a7, a8,()) : NodT), ⟨[_], _, rfl, rfl,[_], _, rfl, rfl,[_], _, rfl, rfl,[_], _, rfl, RS.tc q3 rfl trivial,[_], _, rfl, rfl,[_], _, rfl, rfl,[_], _, rfl, rfl,[_], _, rfl, rfl,[_], _, rfl, rfl, rfl⟩, ?_⟩
  have e : ∀ {s : ByteArray}, SstrB s → s.size ≤ 2000000 := fun h => Nat.le_trans h (by decide)
  have s3' : a3.length ≤ 1048576 := s3.1
  exact ⟨e s1, e s2, by show (a3.length : Int) ≤ _; omega, fun a ha => ⟨e (s3.2 a ha).1, e (s3.2 a ha).2⟩⟩
set_option maxRecDepth 100000 in
theorem yea (N : Nat) : OpB N Tryz.prog 37 cTreT.ty BulkT := by
  intro H enc w n cs x hn h hw
  obtain ⟨xs, m, rfl, rfl, hl, hxl, hf⟩ := DataW.trod_struct Tryz.underlying37 h
  have hl : cs.length = 1 := hl.trans (by kernel_rfl)
  match cs, hl with
  | [c0], _ =>
  obtain ⟨a0, r0, s0⟩ := OpB.field (N := N) (i := 0) (off := 0) (sz := 1) (opb_sl Tryz.underlying35 (show Tryz.prog.cellsOf 57 = 9 from by kernel_rfl) (show 0 < 9 from by decide) (yeb _)) (by omega) rfl rfl (show Tryz.prog.cellsOf 35 = 1 from by kernel_rfl) hxl (hf 0 _ rfl) Tryz.underlying37 hw
  obtain ⟨v0, r0, q0⟩ : ∃ v,[c0] = [v] ∧ RS cNodT.ty (whole w) v a0 := r0
  obtain ⟨rfl, _⟩ := List.cons.inj r0
  exact ⟨((a0,()) : TreT), ⟨[_], _, rfl, RS.tc q0 rfl trivial, rfl⟩, s0.2⟩
end Go.Proofs.YteicdfkmpnmkmaaGreat
