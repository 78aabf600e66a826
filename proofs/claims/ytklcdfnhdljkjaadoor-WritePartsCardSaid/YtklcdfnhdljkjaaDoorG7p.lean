/-
  Walks and laws of this seat; the base is the text Base.
-/
import Derived.Test.YtklcdfnhdljkjaaDoorG7x
import Derived.Test.YtklcdfnhdljkjaaDoorS7z
import Derived.Test.YtklcdfnhdljkjaaDoorRows
namespace Go.Proofs.YtklcdfnhdljkjaaDoor
open Go.RowKit Go.Sl
/-- Does a 0 stand in it? -/
def has0 (s : ByteArray) : Bool := decide (bs [0] = s) || decide (0 ≤ Go.Lib.indexByte s.data.toList (0 : Int).toNat.toUInt8)
set_option maxRecDepth 20000 in
set_option maxHeartbeats 4000000 in
theorem index0_ok {f : Fz} {s : ByteArray} : Gives Tryd.prog 43 [.string s, .string (bs [0])] f (.int .i64 (if bs [0] = s then 0 else Go.Lib.indexByte s.data.toList (0 : Int).toNat.toUInt8)) := by
  intro w0 L w hC
  refine enter Tryd.func43 rfl Tryd.ntmps43 (by simp) hC fun a hs => ?_
  refine W_seq fun K1 hK1 => ?_
  refine W_region ?_
  refine sy hs (y_assign rfl) ?_; clear hs; (try clear a w); intro a w hs
  refine RL_nil ?_
  refine hK1 _ _ ?_; clear hK1
  refine W_seq fun K2 hK2 => ?_
  refine W_region ?_
  refine sy hs (y_move rfl) ?_; clear hs; (try clear a w); intro a w hs
  refine sy hs (y_lenS rfl Tryd.underlying9) ?_; clear hs; (try clear a w); intro a w hs
  refine sy hs (y_assign rfl) ?_; clear hs; (try clear a w); intro a w hs
  refine RL_nil ?_
  refine hK2 _ _ ?_; clear hK2
  refine W_seq fun K3 hK3 => ?_
  refine W_block fun Qe4 hB4 hO4 => ?_
  refine W_seq fun K5 hK5 => ?_
  refine W_region ?_
  refine sy hs (y_move rfl) ?_; clear hs; (try clear a w); intro a w hs
  refine sy hs (y_eql rfl rfl) ?_; clear hs; (try clear a w); intro a w hs
  rw [show decide (((bs [0]).size : Int) = 0) = false from rfl] at hs
  refine sy hs (y_move rfl) ?_; clear hs; (try clear a w); intro a w hs
  refine syg hs (y_move rfl) ?_; clear hs; (try clear a w); intro a w hs
  refine syg hs (y_move rfl) ?_; clear hs; (try clear a w); intro a w hs
  refine syg hs (y_seql rfl rfl) ?_; clear hs; (try clear a w); intro a w hs
  refine sy hs (y_pick rfl rfl) ?_; clear hs; (try clear a w); intro a w hs
  refine sy hs (y_assign rfl) ?_; clear hs; (try clear a w); intro a w hs
  refine RL_nil ?_
  refine hK5 _ _ ?_; clear hK5
  first | refine W_condP hs rfl (fun heq => ?_) (fun heq => ?_) | refine W_cond hs rfl (fun heq => ?_) (fun heq => ?_)
  · refine W_seq fun K6 hK6 => ?_
    refine W_region ?_
    refine sy hs (y_assign rfl) ?_; clear hs; (try clear a w); intro a w hs
    refine RL_nil ?_
    refine hK6 _ _ ?_; clear hK6
    refine W_ret ?_
    refine Rt_1 hs rfl rfl ?_
    exact ⟨by rw [if_pos heq], hs.cw⟩
  · refine W_seq fun K7 hK7 => ?_
    refine W_region ?_
    refine sy hs (y_move rfl) ?_; clear hs; (try clear a w); intro a w hs
    refine sy hs (y_eql rfl rfl) ?_; clear hs; (try clear a w); intro a w hs
    rw [show decide (((bs [0]).size : Int) = 1) = true from rfl] at hs
    refine sy hs (y_assign rfl) ?_; clear hs; (try clear a w); intro a w hs
    refine RL_nil ?_
    refine hK7 _ _ ?_; clear hK7
    refine W_condT hs rfl ?_
    refine W_seq fun K8 hK8 => ?_
    refine W_region ?_
    refine sy hs (y_move rfl) ?_; clear hs; (try clear a w); intro a w hs
    refine sy hs (y_move rfl) ?_; clear hs; (try clear a w); intro a w hs
    refine sy hs (y_ixW (b := 0) rfl rfl Tryd.underlying9 rfl) ?_; clear hs; (try clear a w); intro a w hs
    refine sy hs (y_call rfl has50 rfl (stringslite_ok 0 rfl)) ?_; clear hs; (try clear a w); intro a w hs
    refine sy hs (y_assign rfl) ?_; clear hs; (try clear a w); intro a w hs
    refine RL_nil ?_
    refine hK8 _ _ ?_; clear hK8
    refine W_ret ?_
    refine Rt_1 hs rfl rfl ?_
    exact ⟨by rw [if_neg heq], hs.cw⟩
set_option maxRecDepth 20000 in
theorem index1_ok {f : Fz} {s : ByteArray} : Gives Tryd.prog 38 [.string s, .string (bs [0])] f (.int .i64 (if bs [0] = s then 0 else Go.Lib.indexByte s.data.toList (0 : Int).toNat.toUInt8)) := by
  intro w0 L w hC
  refine enter Tryd.func38 rfl Tryd.ntmps38 (by simp) hC fun a hs => ?_
  refine W_seq fun K1 hK1 => ?_
  refine W_region ?_
  refine sy hs (y_assign rfl) ?_; clear hs; (try clear a w); intro a w hs
  refine RL_nil ?_
  refine hK1 _ _ ?_; clear hK1
  refine W_seq fun K2 hK2 => ?_
  refine W_region ?_
  refine sy hs (y_move rfl) ?_; clear hs; (try clear a w); intro a w hs
  refine sy hs (y_move rfl) ?_; clear hs; (try clear a w); intro a w hs
  refine sy hs (y_call rfl has43 rfl index0_ok) ?_; clear hs; (try clear a w); intro a w hs
  refine sy hs (y_assign rfl) ?_; clear hs; (try clear a w); intro a w hs
  refine RL_nil ?_
  refine hK2 _ _ ?_; clear hK2
  refine W_ret ?_
  refine Rt_1 hs rfl rfl ?_
  exact ⟨rfl, hs.cw⟩
set_option maxRecDepth 20000 in
theorem contains0_ok {f : Fz} {s : ByteArray} : Gives Tryd.prog 30 [.string s, .string (bs [0])] f (.bool (has0 s)) := by
  intro w0 L w hC
  refine enter Tryd.func30 rfl Tryd.ntmps30 (by simp) hC fun a hs => ?_
  refine W_seq fun K1 hK1 => ?_
  refine W_region ?_
  refine sy hs (y_assign rfl) ?_; clear hs; (try clear a w); intro a w hs
  refine RL_nil ?_
  refine hK1 _ _ ?_; clear hK1
  refine W_seq fun K2 hK2 => ?_
  refine W_region ?_
  refine sy hs (y_move rfl) ?_; clear hs; (try clear a w); intro a w hs
  refine sy hs (y_move rfl) ?_; clear hs; (try clear a w); intro a w hs
  refine sy hs (y_call rfl has38 rfl index1_ok) ?_; clear hs; (try clear a w); intro a w hs
  refine sy hs (y_geq rfl rfl) ?_; clear hs; (try clear a w); intro a w hs
  refine sy hs (y_assign rfl) ?_; clear hs; (try clear a w); intro a w hs
  refine RL_nil ?_
  refine hK2 _ _ ?_; clear hK2
  refine W_ret ?_
  refine Rt_1 hs rfl rfl ?_
  refine ⟨?_, hs.cw⟩
  unfold has0
  by_cases h : bs [0] = s
  · rw [if_pos h, decide_eq_true h]; rfl
  · rw [if_neg h, decide_eq_false h, Bool.false_or]
