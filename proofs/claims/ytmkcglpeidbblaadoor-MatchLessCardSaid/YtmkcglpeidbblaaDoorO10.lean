/-
  Walks and laws of this seat; the base is the text Base.
-/
import Derived.Test.YtmkcglpeidbblaaDoorBasg
import Derived.Test.YtmkcglpeidbblaaDoorY10
/-
  Models of functions, and that the functions compute them. Printed by lift.py.
-/
namespace Go.Proofs.YtmkcglpeidbblaaDoor
open Go.RowKit Go.Sl Go.ChangeShapes Go.WideShapes Go.ChangeAt
theorem ownk : ownKnob Tryd.prog.godebug = none := by kernel_rfl
theorem laid : laidOutB Tryd.prog = true := by kernel_rfl
def S_match_Weight (x : match_Weight) : Prop := (Sint .i64) x.Ids ∧ (Sint .i64) x.Tests ∧ (Sint .i64) x.Names
set_option maxRecDepth 100000 in
theorem open_match_Weight (N : Nat) : OpN N Tryd.prog 53 t_match_Weight S_match_Weight := by
  intro H enc w n cs x hn h hw
  obtain ⟨xs, m, rfl, rfl, hl, hxl, hf⟩ := DataW.trod_struct Tryd.underlying53 h
  have hl : cs.length = 3 := hl.trans (by kernel_rfl)
  match cs, hl with
  | [c0, c1, c2], _ =>
  obtain ⟨a0, r0, s0⟩ := OpN.field (N := N) (i := 0) (off := 0) (sz := 1) (op_int Tryd.underlying3) (by omega) rfl rfl (show Tryd.prog.cellsOf 3 = 1 from by kernel_rfl) hxl (hf 0 _ rfl) Tryd.underlying53 hw
  obtain ⟨rfl, _⟩ := List.cons.inj (show [c0] = [.int .i64 a0] from r0)
  obtain ⟨a1, r1, s1⟩ := OpN.field (N := N) (i := 1) (off := 1) (sz := 1) (op_int Tryd.underlying3) (by omega) rfl rfl (show Tryd.prog.cellsOf 3 = 1 from by kernel_rfl) hxl (hf 1 _ rfl) Tryd.underlying53 hw
  obtain ⟨rfl, _⟩ := List.cons.inj (show [c1] = [.int .i64 a1] from r1)
  obtain ⟨a2, r2, s2⟩ := OpN.field (N := N) (i := 2) (off := 2) (sz := 1) (op_int Tryd.underlying3) (by omega) rfl rfl (show Tryd.prog.cellsOf 3 = 1 from by kernel_rfl) hxl (hf 2 _ rfl) Tryd.underlying53 hw
  obtain ⟨rfl, _⟩ := List.cons.inj (show [c2] = [.int .i64 a2] from r2)
  exact ⟨({Ids := a0, Tests := a1, Names := a2} : match_Weight), rfl, ⟨s0, s1, s2⟩⟩
end Go.Proofs.YtmkcglpeidbblaaDoor
