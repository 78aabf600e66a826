/-
  Walks and laws of this seat; the base is the text Base.
-/
import Derived.Test.YthpokoghhfidpaaBase
import Derived.Test.YthpokoghhfidpaaRows
import Derived.Test.YthpokoghhfidpaaT1
import Derived.Test.YthpokoghhfidpaaC6
namespace Go.Proofs.Ythpokoghhfidpaa
open Go.RowKit Go.Sl

theorem rep_u8 (n : Nat) : List.replicate n (Value.cells (.int .u8 0)).toList = bl (List.replicate n 0) := by
  rw [bl, List.map_replicate]; rfl

set_option maxRecDepth 100000 in
theorem SourceNumbers_true {f : Fz} : Gives Try.prog 6 [] f (.bool true) := by
  intro w0 L w hC
  refine enter Try.func6 rfl Try.ntmps6 (by simp) hC fun a hs => ?_
  refine W_seq fun K1 hK1 => ?_
  refine W_region ?_
  refine sy hs (y_assign rfl) ?_; clear hs; (try clear a w); intro a w hs
  refine RL_nil ?_
  refine hK1 _ _ ?_; clear hK1
  refine W_seq fun K2 hK2 => ?_
  refine W_region ?_
  refine RL_make (m := 65537) hs rfl rfl Try.underlying22 ti5 (by decide) (by simp [OneRow, Value.oneCell', Value.cells]) (by decide) ?_; clear hs; (try clear a w); intro v21 a w hs
  obtain ⟨f1, hf1, hs, hR1⟩ := hs.frz
  rw [rep_u8] at hR1
  refine sy hs (y_call rfl has9 rfl (Decode_long hR1 (by rw [List.length_replicate]; omega))) ?_; clear hs; (try clear a w); intro a w hs
  refine sy hs (y_move rfl) ?_; clear hs; (try clear a w); intro a w hs
  refine sy hs (y_extract rfl rfl) ?_; clear hs; (try clear a w); intro a w hs
  refine sy hs (y_extract rfl rfl) ?_; clear hs; (try clear a w); intro a w hs
  refine sy hs (y_assign rfl) ?_; clear hs; (try clear a w); intro a w hs
  refine sy hs (y_assign rfl) ?_; clear hs; (try clear a w); intro a w hs
  refine RL_nil ?_
  refine hK2 _ _ ?_; clear hK2
  refine W_seq fun K3 hK3 => ?_
  refine W_region ?_
  refine RL_callV hs rfl has9 rfl (Decode_ok (xs := []) (Rd.nil _ _ _) (by decide)) ?_; clear hs; (try clear a w); rintro _ f2 L2 a w hf2 ⟨lv2, rfl, rfl, rfl⟩ hs
  rw [show decGo 0 (runesIn (bytesOf [])) = [] from by kernel_rfl] at hs
  obtain ⟨f3, hf3, hs, hR3⟩ := hs.frz
  refine sy hs (y_move rfl) ?_; clear hs; (try clear a w); intro a w hs
  refine sy hs (y_extract rfl rfl) ?_; clear hs; (try clear a w); intro a w hs
  refine sy hs (y_extract rfl rfl) ?_; clear hs; (try clear a w); intro a w hs
  refine sy hs (y_assign rfl) ?_; clear hs; (try clear a w); intro a w hs
  refine sy hs (y_assign rfl) ?_; clear hs; (try clear a w); intro a w hs
  refine RL_nil ?_
  refine hK3 _ _ ?_; clear hK3
  refine W_seq fun K4 hK4 => ?_
  refine W_region ?_
  refine RL_buildSlice (vs := [(0, .int .u8 13), (1, .int .u8 13), (2, .int .u8 10)]) (rows := bl [13, 13, 10]) hs rfl Try.underlying22 ti5 (by decide) (by kernel_rfl) rfl (by simp [OneRow, Value.oneCell']) (.free rfl) (by decide) ?_; clear hs; (try clear a w); intro tv a w hs
  refine RL_mark hs rfl Try.underlying22 Try.underlying5 (by decide) ?_; clear hs; (try clear a w); intro f4 a w hf4 hR hs
  refine RL_callV hs rfl has9 rfl (Decode_ok hR (by decide)) ?_; clear hs; (try clear a w); rintro _ f5 L5 a w hf5 ⟨lv, rfl, rfl, rfl⟩ hs
  replace hR3 := hR3.le hf4
  have hk : textOf (decGo 0 (runesIn (bytesOf [13, 13, 10]))) = ⟨#[10, 10]⟩ := by kernel_rfl
  obtain ⟨f6, hf6, hs, hR6⟩ := hs.frz
  replace hR3 := hR3.le hf6
  refine sy hs (y_move rfl) ?_; clear hs; (try clear a w); intro a w hs
  refine sy hs (y_extract rfl rfl) ?_; clear hs; (try clear a w); intro a w hs
  refine sy hs (y_extract rfl rfl) ?_; clear hs; (try clear a w); intro a w hs
  refine sy hs (y_assign rfl) ?_; clear hs; (try clear a w); intro a w hs
  refine sy hs (y_assign rfl) ?_; clear hs; (try clear a w); intro a w hs
  refine RL_nil ?_
  refine hK4 _ _ ?_; clear hK4
  refine W_seq fun K5 hK5 => ?_
  refine W_region ?_
  refine RL_buildSlice (vs := [(0, .int .i64 5), (1, .int .i64 6)]) (rows := il [5, 6]) hs rfl Try.underlying42 ti3 (by decide) (by kernel_rfl) rfl (by simp [OneRow, Value.oneCell']) (.free rfl) (by decide) ?_; clear hs; (try clear a w); intro tv a w hs
  refine RL_callW hs rfl has17 rfl (fun w hw => New_i (xs := [5, 6]) (Rd.st hs (.head _)) (by decide) hw) ?_; clear hs; (try clear a w); rintro _ f7 L7 a w hf7 ⟨c, cv, rfl, hRc, rfl⟩ hs
  replace hR3 := hR3.le hf7
  replace hR6 := hR6.le hf7
  refine sy hs (y_assign rfl) ?_; clear hs; (try clear a w); intro a w hs
  refine RL_nil ?_
  refine hK5 _ _ ?_; clear hK5
  refine W_seq fun K6 hK6 => ?_
  refine W_seq fun K7 hK7 => ?_
  refine W_region ?_
  refine sy hs (y_move rfl) ?_; clear hs; (try clear a w); intro a w hs
  refine sy hs (y_neq rfl rfl) ?_; clear hs; (try clear a w); intro a w hs
  refine sy hs (y_move rfl) ?_; clear hs; (try clear a w); intro a w hs
  refine syg hs (y_move rfl) ?_; clear hs; (try clear a w); intro a w hs
  first | (refine syg hs (y_lenM rfl Try.underlying24) ?_; clear hs; (try clear a w); intro a w hs) | (refine syg hs (y_lenR rfl Try.underlying24) ?_; clear hs; (try clear a w); intro a w hs) | (refine syg hs (y_len rfl Try.underlying24) ?_; clear hs; (try clear a w); intro a w hs)
  refine syg hs (y_neq rfl rfl) ?_; clear hs; (try clear a w); intro a w hs
  refine sy hs (y_pick rfl rfl) ?_; clear hs; (try clear a w); intro a w hs
  refine sy hs (y_move rfl) ?_; clear hs; (try clear a w); intro a w hs
  refine syg hs (y_move rfl) ?_; clear hs; (try clear a w); intro a w hs
  refine syg hs (y_neq rfl rfl) ?_; clear hs; (try clear a w); intro a w hs
  refine sy hs (y_pick rfl rfl) ?_; clear hs; (try clear a w); intro a w hs
  refine sy hs (y_move rfl) ?_; clear hs; (try clear a w); intro a w hs
  refine syg hs (y_move rfl) ?_; clear hs; (try clear a w); intro a w hs
  refine syg hs (y_r2s rfl Try.underlying24 Try.underlying21 Try.underlying9 hR6.up) ?_; clear hs; (try clear a w); intro a w hs
  rw [hk] at hs
  refine syg hs (y_sneq rfl rfl) ?_; clear hs; (try clear a w); intro a w hs
  refine sy hs (y_pick rfl rfl) ?_; clear hs; (try clear a w); intro a w hs
  refine sy hs (y_move rfl) ?_; clear hs; (try clear a w); intro a w hs
  refine syg hs (y_move rfl) ?_; clear hs; (try clear a w); intro a w hs
  refine syg hs (y_pnil rfl rfl Try.underlying40) ?_; clear hs; (try clear a w); intro a w hs
  refine sy hs (y_pick rfl rfl) ?_; clear hs; (try clear a w); intro a w hs
  refine RL_nil ?_
  refine hK7 _ _ ?_; clear hK7
  refine W_condF hs rfl ?_
  refine W_skip ?_
  refine hK6 _ _ ?_; clear hK6
  refine W_seq fun K8 hK8 => ?_
  refine W_region ?_
  refine sy hs (y_move rfl) ?_; clear hs; (try clear a w); intro a w hs
  refine RL_call (Lr := [_]) hs rfl has18 rfl rfl (Next_i (xs := [5, 6]) (at_ := 0) hRc (by decide) (by decide)) (.free rfl) (by decide) ?_; clear hs; (try clear a w); rintro _ f8 L8 a w hf8 ⟨rfl, rfl, rfl⟩ hs
  refine sy hs (y_move rfl) ?_; clear hs; (try clear a w); intro a w hs
  refine sy hs (y_extract rfl rfl) ?_; clear hs; (try clear a w); intro a w hs
  refine sy hs (y_extract rfl rfl) ?_; clear hs; (try clear a w); intro a w hs
  refine sy hs (y_assign rfl) ?_; clear hs; (try clear a w); intro a w hs
  refine sy hs (y_assign rfl) ?_; clear hs; (try clear a w); intro a w hs
  refine RL_nil ?_
  refine hK8 _ _ ?_; clear hK8
  refine W_seq fun K9 hK9 => ?_
  refine W_region ?_
  refine sy hs (y_move rfl) ?_; clear hs; (try clear a w); intro a w hs
  refine sy hs (y_callC rfl has19 rfl (fun w hw => Peek_i (xs := [5, 6]) (at_ := 1) (k := 0) (.head _) hRc (by decide) (by decide) hw)) ?_; clear hs; (try clear a w); intro a w hs
  refine sy hs (y_move rfl) ?_; clear hs; (try clear a w); intro a w hs
  refine sy hs (y_extract rfl rfl) ?_; clear hs; (try clear a w); intro a w hs
  refine sy hs (y_extract rfl rfl) ?_; clear hs; (try clear a w); intro a w hs
  refine sy hs (y_assign rfl) ?_; clear hs; (try clear a w); intro a w hs
  refine sy hs (y_assign rfl) ?_; clear hs; (try clear a w); intro a w hs
  refine RL_nil ?_
  refine hK9 _ _ ?_; clear hK9
  refine W_seq fun K10 hK10 => ?_
  refine W_region ?_
  refine sy hs (y_move rfl) ?_; clear hs; (try clear a w); intro a w hs
  refine sy hs (y_callC rfl has19 rfl (fun w hw => Peek_i (xs := [5, 6]) (at_ := 1) (k := 1) (.head _) hRc (by decide) (by decide) hw)) ?_; clear hs; (try clear a w); intro a w hs
  refine sy hs (y_move rfl) ?_; clear hs; (try clear a w); intro a w hs
  refine sy hs (y_extract rfl rfl) ?_; clear hs; (try clear a w); intro a w hs
  refine sy hs (y_extract rfl rfl) ?_; clear hs; (try clear a w); intro a w hs
  refine sy hs (y_assign rfl) ?_; clear hs; (try clear a w); intro a w hs
  refine sy hs (y_assign rfl) ?_; clear hs; (try clear a w); intro a w hs
  refine RL_nil ?_
  refine hK10 _ _ ?_; clear hK10
  refine W_seq fun K11 hK11 => ?_
  refine W_region ?_
  refine sy hs (y_move rfl) ?_; clear hs; (try clear a w); intro a w hs
  refine sy hs (y_callC rfl has19 rfl (fun w hw => Peek_i (xs := [5, 6]) (at_ := 1) (k := -1) (.head _) hRc (by decide) (by decide) hw)) ?_; clear hs; (try clear a w); intro a w hs
  refine sy hs (y_move rfl) ?_; clear hs; (try clear a w); intro a w hs
  refine sy hs (y_extract rfl rfl) ?_; clear hs; (try clear a w); intro a w hs
  refine sy hs (y_extract rfl rfl) ?_; clear hs; (try clear a w); intro a w hs
  refine sy hs (y_assign rfl) ?_; clear hs; (try clear a w); intro a w hs
  refine sy hs (y_assign rfl) ?_; clear hs; (try clear a w); intro a w hs
  refine RL_nil ?_
  refine hK11 _ _ ?_; clear hK11
  refine W_seq fun K12 hK12 => ?_
  refine W_region ?_
  refine sy hs (y_move rfl) ?_; clear hs; (try clear a w); intro a w hs
  refine RL_call (Lr := [_]) hs rfl has18 rfl rfl (Next_i (xs := [5, 6]) (at_ := 1) hRc (by decide) (by decide)) (.free rfl) (by decide) ?_; clear hs; (try clear a w); rintro _ f8 L8 a w hf8 ⟨rfl, rfl, rfl⟩ hs
  refine sy hs (y_move rfl) ?_; clear hs; (try clear a w); intro a w hs
  refine sy hs (y_extract rfl rfl) ?_; clear hs; (try clear a w); intro a w hs
  refine sy hs (y_extract rfl rfl) ?_; clear hs; (try clear a w); intro a w hs
  refine sy hs (y_assign rfl) ?_; clear hs; (try clear a w); intro a w hs
  refine sy hs (y_assign rfl) ?_; clear hs; (try clear a w); intro a w hs
  refine RL_nil ?_
  refine hK12 _ _ ?_; clear hK12
  refine W_seq fun K13 hK13 => ?_
  refine W_region ?_
  refine sy hs (y_move rfl) ?_; clear hs; (try clear a w); intro a w hs
  refine RL_call (Lr := [_]) hs rfl has18 rfl rfl (Next_i (xs := [5, 6]) (at_ := 2) hRc (by decide) (by decide)) (.free rfl) (by decide) ?_; clear hs; (try clear a w); rintro _ f8 L8 a w hf8 ⟨rfl, rfl, rfl⟩ hs
  refine sy hs (y_move rfl) ?_; clear hs; (try clear a w); intro a w hs
  refine sy hs (y_extract rfl rfl) ?_; clear hs; (try clear a w); intro a w hs
  refine sy hs (y_extract rfl rfl) ?_; clear hs; (try clear a w); intro a w hs
  refine sy hs (y_assign rfl) ?_; clear hs; (try clear a w); intro a w hs
  refine sy hs (y_assign rfl) ?_; clear hs; (try clear a w); intro a w hs
  refine RL_nil ?_
  refine hK13 _ _ ?_; clear hK13
  refine W_seq fun K14 hK14 => ?_
  refine W_region ?_
  refine sy hs (y_move rfl) ?_; clear hs; (try clear a w); intro a w hs
  refine sy hs (y_eql rfl rfl) ?_; clear hs; (try clear a w); intro a w hs
  refine sy hs (y_move rfl) ?_; clear hs; (try clear a w); intro a w hs
  refine syg hs (y_move rfl) ?_; clear hs; (try clear a w); intro a w hs
  refine sy hs (y_pick rfl rfl) ?_; clear hs; (try clear a w); intro a w hs
  refine sy hs (y_move rfl) ?_; clear hs; (try clear a w); intro a w hs
  refine syg hs (y_move rfl) ?_; clear hs; (try clear a w); intro a w hs
  refine syg hs (y_eql rfl rfl) ?_; clear hs; (try clear a w); intro a w hs
  refine sy hs (y_pick rfl rfl) ?_; clear hs; (try clear a w); intro a w hs
  refine sy hs (y_move rfl) ?_; clear hs; (try clear a w); intro a w hs
  refine syg hs (y_move rfl) ?_; clear hs; (try clear a w); intro a w hs
  refine sy hs (y_pick rfl rfl) ?_; clear hs; (try clear a w); intro a w hs
  refine sy hs (y_move rfl) ?_; clear hs; (try clear a w); intro a w hs
  refine syg hs (y_move rfl) ?_; clear hs; (try clear a w); intro a w hs
  refine syg hs (y_not rfl) ?_; clear hs; (try clear a w); intro a w hs
  refine sy hs (y_pick rfl rfl) ?_; clear hs; (try clear a w); intro a w hs
  refine sy hs (y_move rfl) ?_; clear hs; (try clear a w); intro a w hs
  refine syg hs (y_move rfl) ?_; clear hs; (try clear a w); intro a w hs
  refine syg hs (y_not rfl) ?_; clear hs; (try clear a w); intro a w hs
  refine sy hs (y_pick rfl rfl) ?_; clear hs; (try clear a w); intro a w hs
  refine sy hs (y_move rfl) ?_; clear hs; (try clear a w); intro a w hs
  refine syg hs (y_move rfl) ?_; clear hs; (try clear a w); intro a w hs
  refine syg hs (y_eql rfl rfl) ?_; clear hs; (try clear a w); intro a w hs
  refine sy hs (y_pick rfl rfl) ?_; clear hs; (try clear a w); intro a w hs
  refine sy hs (y_move rfl) ?_; clear hs; (try clear a w); intro a w hs
  refine syg hs (y_move rfl) ?_; clear hs; (try clear a w); intro a w hs
  refine sy hs (y_pick rfl rfl) ?_; clear hs; (try clear a w); intro a w hs
  refine sy hs (y_move rfl) ?_; clear hs; (try clear a w); intro a w hs
  refine syg hs (y_move rfl) ?_; clear hs; (try clear a w); intro a w hs
  refine syg hs (y_eql rfl rfl) ?_; clear hs; (try clear a w); intro a w hs
  refine sy hs (y_pick rfl rfl) ?_; clear hs; (try clear a w); intro a w hs
  refine sy hs (y_move rfl) ?_; clear hs; (try clear a w); intro a w hs
  refine syg hs (y_move rfl) ?_; clear hs; (try clear a w); intro a w hs
  refine syg hs (y_not rfl) ?_; clear hs; (try clear a w); intro a w hs
  refine sy hs (y_pick rfl rfl) ?_; clear hs; (try clear a w); intro a w hs
  refine sy hs (y_move rfl) ?_; clear hs; (try clear a w); intro a w hs
  refine syg hs (y_move rfl) ?_; clear hs; (try clear a w); intro a w hs
  refine syg hs (y_callC rfl has20 rfl (fun w hw => At_i (at_ := 2) (.head _) hw)) ?_; clear hs; (try clear a w); intro a w hs
  refine syg hs (y_eql rfl rfl) ?_; clear hs; (try clear a w); intro a w hs
  refine sy hs (y_pick rfl rfl) ?_; clear hs; (try clear a w); intro a w hs
  refine sy hs (y_move rfl) ?_; clear hs; (try clear a w); intro a w hs
  refine syg hs (y_move rfl) ?_; clear hs; (try clear a w); intro a w hs
  refine syg hs (y_callC rfl has21 rfl (fun w hw => Left_i (xs := [5, 6]) (at_ := 2) (.head _) hRc (by decide) (by decide) hw)) ?_; clear hs; (try clear a w); intro a w hs
  refine syg hs (y_eql rfl rfl) ?_; clear hs; (try clear a w); intro a w hs
  refine sy hs (y_pick rfl rfl) ?_; clear hs; (try clear a w); intro a w hs
  refine sy hs (y_move rfl) ?_; clear hs; (try clear a w); intro a w hs
  refine syg hs (y_call rfl has11 rfl known_true) ?_; clear hs; (try clear a w); intro a w hs
  refine sy hs (y_pick rfl rfl) ?_; clear hs; (try clear a w); intro a w hs
  refine sy hs (y_assign rfl) ?_; clear hs; (try clear a w); intro a w hs
  refine RL_nil ?_
  refine hK14 _ _ ?_; clear hK14
  refine W_ret ?_
  refine Rt_1 hs rfl rfl ?_
  exact ⟨rfl, (hs.weak (hf1.trans (hf3.trans (hf4.trans (hf6.trans hf7))))).tail.tail.cw⟩

