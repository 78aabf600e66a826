/-
  Walks and laws of this seat; the base is the text Base.
-/
import Derived.Test.YtekcbgnkikmhpaaBasg
import Derived.Test.YtekcbgnkikmhpaaY5
/-
  Models of functions, and that the functions compute them. Printed by lift.py.
-/
namespace Go.Proofs.Ytekcbgnkikmhpaa
open Go.RowKit Go.Sl Go.ChangeShapes Go.WideShapes Go.ChangeAt
theorem ownk : ownKnob Try.prog.godebug = none := by kernel_rfl
theorem laid : laidOutB Try.prog = true := by kernel_rfl
def S_api_Attr (x : api_Attr) : Prop := Sstr x.Name ∧ Sstr x.Value
theorem open_api_Attr (N : Nat) : OpN N Try.prog 53 t_api_Attr S_api_Attr := by
  intro H enc w n cs x hn h hw
  obtain ⟨xs, m, rfl, rfl, hl, hxl, hf⟩ := DataW.trod_struct Try.underlying53 h
  have hl : cs.length = 2 := hl.trans (by kernel_rfl)
  match cs, hl with
  | [c0, c1], _ =>
  obtain ⟨a0, r0, s0⟩ := OpN.field (N := N) (i := 0) (off := 0) (sz := 1) (op_str Try.underlying9) (by omega) rfl rfl (show Try.prog.cellsOf 9 = 1 from by kernel_rfl) hxl (hf 0 _ rfl) Try.underlying53 hw
  obtain ⟨rfl, _⟩ := List.cons.inj (show [c0] = [.string a0] from r0)
  obtain ⟨a1, r1, s1⟩ := OpN.field (N := N) (i := 1) (off := 1) (sz := 1) (op_str Try.underlying9) (by omega) rfl rfl (show Try.prog.cellsOf 9 = 1 from by kernel_rfl) hxl (hf 1 _ rfl) Try.underlying53 hw
  obtain ⟨rfl, _⟩ := List.cons.inj (show [c1] = [.string a1] from r1)
  exact ⟨({Name := a0, Value := a1} : api_Attr), rfl, ⟨s0, s1⟩⟩
inductive S_dom_Part : dom_Part → Prop
  | mk {x : dom_Part} : Sstr x.Name → Sstr x.Text → (Ssl 32 S_api_Attr) x.Attrs → x.Kids.length * 80 ≤ reachBytes → (∀ k ∈ x.Kids, S_dom_Part k) → S_dom_Part x
theorem open_dom_Part : ∀ (N : Nat), OpN N Try.prog 35 t_dom_Part S_dom_Part
  | 0 => .zero
  | N + 1 => by
    have ih := open_dom_Part N
    intro H enc w n cs x hn h hw
    obtain ⟨xs, m, rfl, rfl, hl, hxl, hf⟩ := DataW.trod_struct Try.underlying35 h
    have hl : cs.length = 4 := hl.trans (by kernel_rfl)
    match cs, hl with
    | [c0, c1, c2, c3], _ =>
    obtain ⟨a0, r0, s0⟩ := OpN.field (N := N) (i := 0) (off := 0) (sz := 1) (op_str Try.underlying9) (by omega) rfl rfl (show Try.prog.cellsOf 9 = 1 from by kernel_rfl) hxl (hf 0 _ rfl) Try.underlying35 hw
    obtain ⟨rfl, _⟩ := List.cons.inj (show [c0] = [.string a0] from r0)
    obtain ⟨a1, r1, s1⟩ := OpN.field (N := N) (i := 1) (off := 1) (sz := 1) (op_str Try.underlying9) (by omega) rfl rfl (show Try.prog.cellsOf 9 = 1 from by kernel_rfl) hxl (hf 1 _ rfl) Try.underlying35 hw
    obtain ⟨rfl, _⟩ := List.cons.inj (show [c1] = [.string a1] from r1)
    obtain ⟨a2, r2, s2⟩ := OpN.field (N := N) (i := 2) (off := 2) (sz := 1) (op_sl Try.underlying32 (show Try.prog.cellsOf 53 = 2 from by kernel_rfl) (by decide) (show Try.prog.bytesOf 53 = 32 from by kernel_rfl) (open_api_Attr _)) (by omega) rfl rfl (show Try.prog.cellsOf 32 = 1 from by kernel_rfl) hxl (hf 2 _ rfl) Try.underlying35 hw
    obtain ⟨v2, r2, q2⟩ : ∃ v, [c2] = [v] ∧ RS t_api_Attr (whole w) v a2 := r2
    obtain ⟨rfl, _⟩ := List.cons.inj r2
    obtain ⟨a3, r3, s3⟩ := OpN.field (N := N) (i := 3) (off := 3) (sz := 1) (op_sl Try.underlying33 (show Try.prog.cellsOf 35 = 4 from by kernel_rfl) (by decide) (show Try.prog.bytesOf 35 = 80 from by kernel_rfl) ih) (by omega) rfl rfl (show Try.prog.cellsOf 33 = 1 from by kernel_rfl) hxl (hf 3 _ rfl) Try.underlying35 hw
    obtain ⟨v3, r3, q3⟩ : ∃ v, [c3] = [v] ∧ RS t_dom_Part (whole w) v a3 := r3
    obtain ⟨rfl, _⟩ := List.cons.inj r3
    exact ⟨({Name := a0, Text := a1, Attrs := a2, Kids := a3} : dom_Part), R_dom_Part.of (x := ({Name := a0, Text := a1, Attrs := a2, Kids := a3} : dom_Part)) q2 q3, S_dom_Part.mk s0 s1 s2 s3.1 s3.2⟩
end Go.Proofs.Ytekcbgnkikmhpaa
