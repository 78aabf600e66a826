/-
  Walks and laws of this seat; the base is the text Base.
-/
import Derived.Test.YtklcdfnhdljkjaaDoorG7p
import Derived.Test.YtklcdfnhdljkjaaDoorS7t
namespace Go.Proofs.YtklcdfnhdljkjaaDoor
open Go.RowKit Go.Sl
/-- The two blocks hold unicode/utf8's tables. -/
def Tabs (o0 o1 : Obj) : Prop := ∀ w : World, w.heap[0]? = some o0 → w.heap[1]? = some o1 → Lib.Utf8Tabs 0 1 w
theorem cell_heap {w w' : World} {b c : Nat} (h : w.heap[b]? = w'.heap[b]?) : w.cell? ⟨b, c, none⟩ = w'.cell? ⟨b, c, none⟩ := by
  unfold World.cell?
  rw [h]
theorem Tabs.of {w : World} {o0 o1 : Obj} (h0 : w.heap[0]? = some o0) (h1 : w.heap[1]? = some o1) (h : Lib.Utf8Tabs 0 1 w) : Tabs o0 o1 := fun w' e0 e1 => by
  obtain ⟨a, b⟩ := h
  refine ⟨fun c hc => ?_, fun i hi => ?_⟩
  · rw [cell_heap (w' := w) (e0.trans h0.symm)]; exact a c hc
  · rw [cell_heap (w' := w) (e1.trans h1.symm), cell_heap (w' := w) (e1.trans h1.symm)]; exact b i hi
/-- utf8.ValidString, as the library has it. -/
theorem validS_ok {f : Fz} {o0 o1 : Obj} {s : ByteArray} (hT0 : f 0 = some o0) (hT1 : f 1 = some o1) (hTT : Tabs o0 o1) (hs : s.size ≤ 9223372036854775807) : Gives Tryd.prog 29 [.string s] f (.bool (Lib.validD s.data.toList)) :=
  .of fun _ _ w hC => Any.utf8_ValidString Tryd.lays196 s w hs (hTT w (hC.frz _ _ hT0) (hC.frz _ _ hT1))
/-- What write.plain says. -/
def plainD (s : ByteArray) : Bool := Lib.validD s.data.toList && !has0 s
def write_plainT (_n : Nat) (s : ByteArray) : Option Bool := bif decide (s.size ≤ 9223372036854775807) then some (plainD s) else none
set_option maxRecDepth 20000 in
theorem write_plainT_ok (n : Nat) {f : Fz} {o0 o1 : Obj} {p0 : ByteArray} {res : Bool} (hT0 : f 0 = some o0) (hT1 : f 1 = some o1) (hTT : Tabs o0 o1) (hm : write_plainT n p0 = some res) : Gives Tryd.prog 16 [.string p0] f (.bool res) := by
  have hsz : p0.size ≤ 9223372036854775807 := by
    unfold write_plainT at hm
    by_cases h : p0.size ≤ 9223372036854775807
    · exact h
    · rw [decide_eq_false h] at hm; cases hm
  unfold write_plainT at hm
  rw [decide_eq_true hsz] at hm
  obtain rfl := Option.some.inj hm
  intro w0 L w hC
  refine enter Tryd.func16 rfl Tryd.ntmps16 (by simp) hC fun a hs => ?_
  refine W_seq fun K1 hK1 => ?_
  refine W_region ?_
  refine sy hs (y_assign rfl) ?_; clear hs; (try clear a w); intro a w hs
  refine RL_nil ?_
  refine hK1 _ _ ?_; clear hK1
  refine W_seq fun K2 hK2 => ?_
  refine W_region ?_
  refine sy hs (y_move rfl) ?_; clear hs; (try clear a w); intro a w hs
  refine sy hs (y_call rfl has29 rfl (validS_ok hT0 hT1 hTT hsz)) ?_; clear hs; (try clear a w); intro a w hs
  refine sy hs (y_move rfl) ?_; clear hs; (try clear a w); intro a w hs
  first | refine St.splitP hs (t := 5) rfl (fun hv hq => ?_) (fun hv hq => ?_) | refine St.split hs (t := 5) rfl (fun hv hq => ?_) (fun hv hq => ?_)
  · clear hs; have hs := hq; clear hq
    refine syg hs (y_move rfl) ?_; clear hs; (try clear a w); intro a w hs
    refine syg hs (y_call rfl has30 rfl contains0_ok) ?_; clear hs; (try clear a w); intro a w hs
    refine syg hs (y_not rfl) ?_; clear hs; (try clear a w); intro a w hs
    refine sy hs (y_pick rfl rfl) ?_; clear hs; (try clear a w); intro a w hs
    refine sy hs (y_assign rfl) ?_; clear hs; (try clear a w); intro a w hs
    refine RL_nil ?_
    refine hK2 _ _ ?_; clear hK2
    refine W_ret ?_
    refine Rt_1 hs rfl rfl ?_
    exact ⟨by rw [plainD, hv, Bool.true_and], hs.cw⟩
  · clear hs; have hs := hq; clear hq
    refine sno hs ?_; clear hs; (try clear a w); intro a w hs
    refine sno hs ?_; clear hs; (try clear a w); intro a w hs
    refine sno hs ?_; clear hs; (try clear a w); intro a w hs
    refine sy hs (y_pick rfl rfl) ?_; clear hs; (try clear a w); intro a w hs
    refine sy hs (y_assign rfl) ?_; clear hs; (try clear a w); intro a w hs
    refine RL_nil ?_
    refine hK2 _ _ ?_; clear hK2
    refine W_ret ?_
    refine Rt_1 hs rfl rfl ?_
    exact ⟨by rw [plainD, hv, Bool.false_and], hs.cw⟩
