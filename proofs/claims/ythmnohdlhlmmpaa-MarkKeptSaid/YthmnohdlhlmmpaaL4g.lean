/-
  Walks and laws of this seat; the base is the text Base.
-/
import Derived.Test.YthmnohdlhlmmpaaL4h
import Derived.Test.YthmnohdlhlmmpaaL4f
import Derived.Test.YthmnohdlhlmmpaaRows
/-
  Models of functions, and that the functions compute them. Printed by lift.py.
-/
namespace Go.Proofs.Ythmnohdlhlmmpaa
open Go.RowKit Go.Sl
/-! casement/casementlaw4.cut -/
def law4_cut (n : Nat) (p0 : ByteArray) (p1 : (List ref4_Token)) : Option Bool :=
  (runesM p0).bind fun x5 =>
  (mark_Tokens n x5).bind fun x15 =>
  (law4_tokens n x15 p1).bind fun x24 =>
  some x24
set_option maxRecDepth 20000 in
set_option maxHeartbeats 4000000 in
theorem law4_cut_ok (n : Nat) {f : Fz} {p0 : ByteArray} {p1 : (List ref4_Token)} {a1 : Value} {res : Bool} (h1 : RS t_ref4_Token f a1 p1) (hm : law4_cut n p0 p1 = some res) : Gives Try.prog 12 [.string p0, a1] f (.bool res) := by
 unfold law4_cut at hm
 intro w0 L w hC
 obtain ⟨rw1, hR2, hW3⟩ := h1
 refine enter Try.func12 rfl Try.ntmps12 (by simp) hC fun a hs => ?_
 have hle := Fz.le.refl f
 refine W_seq fun K1 hK1 => ?_
 refine W_region ?_
 refine sy (v := .bool (false)) hs (y_assign rfl) ?_; clear hs; (try clear a w); intro a w hs
 refine RL_nil ?_
 refine hK1 _ _ ?_; clear hK1
 refine W_seq fun K2 hK2 => ?_
 refine W_region ?_
 refine sy (v := .string (p0)) hs (y_move rfl) ?_; clear hs; (try clear a w); intro a w hs
 obtain ⟨x5, hx6, hm⟩ := ob hm
 refine RL_s2rW hx6 hs rfl Try.underlying9 Try.underlying32 Try.underlying21 ?_; clear hs; (try clear a w); intro v7 rw8 a w hW9 hs
 replace hs : St _ _ _ (.row v7 21 1 rw8 :: L) _ _ _ := hs
 obtain ⟨f12, hf13, hs2, hR14⟩ := hs.frzAt 0 rfl
 clear hs; have hs := hs2; clear hs2
 replace hR2 := hR2.le hf13
 replace hW3 := hW3.le hf13
 replace hW9 := hW9.le hf13
 replace hle := hle.trans hf13
 replace hs : St _ _ _ (L) _ _ _ := hs
 obtain ⟨x15, hx16, hm⟩ := ob hm
 refine RL_callV hs rfl has22 rfl (mark_Tokens_ok n (f := f12) (a0 := v7) ⟨rw8, hR14, hW9⟩ hx16) ?_; clear hs; (try clear a w)
 rintro v19 f17 _ a w hf18 ⟨_, rfl, rfl, ⟨rw20, hR21, hW22⟩⟩ hs
 replace hR2 := hR2.le hf18
 replace hW3 := hW3.le hf18
 replace hW9 := hW9.le hf18
 replace hR14 := hR14.le hf18
 replace hle := hle.trans hf18
 replace hs : St _ _ _ (L) _ _ _ := hs
 refine sy (v := a1) hs (y_move rfl) ?_; clear hs; (try clear a w); intro a w hs
 obtain ⟨x24, hx25, hm⟩ := ob hm
 refine sy hs (y_call rfl has21 rfl (law4_tokens_ok n (f := f17) (a0 := v19) (a1 := a1) ⟨rw20, hR21, hW22⟩ ⟨rw1, hR2, hW3⟩ hx25)) ?_; clear hs; (try clear a w); intro a w hs
 refine sy (v := .bool (x24)) hs (y_assign rfl) ?_; clear hs; (try clear a w); intro a w hs
 refine RL_nil ?_
 refine hK2 _ _ ?_; clear hK2
 refine W_ret ?_
 obtain rfl := Option.some.inj hm
 refine RtV1 hs rfl (rv_t hs rfl) ?_
 exact ⟨rfl, (hs.weak hle).cw⟩
/-! casement/casementlaw4.known -/
def law4_known_k1 (y3 : Bool) : Option Bool :=
  some y3
def law4_known (n : Nat) : Option Bool :=
  (law4_open n (bs [112]) false [({Name := (bs [97]), Value := (bs [49])} : api_Attr), ({Name := (bs [98]), Value := (bs [120, 60])} : api_Attr)]).bind fun x13 =>
  (law4_chars n (bs [116])).bind fun x24 =>
  (law4_cut n (bs [60, 80, 32, 97, 61, 49, 32, 66, 61, 39, 120, 38, 108, 116, 59, 39, 32, 97, 61, 50, 47, 62, 116]) [x13, x24]).bind fun x40 =>
  (bif x40 then (mark_Unescape n (bs [38, 97, 109, 112, 59, 108, 116, 59, 38, 35, 54, 53, 59, 38, 35, 120, 49, 49, 48, 48, 48, 48, 59, 38, 98, 97, 100, 59, 38, 35, 59])).bind fun x43 =>
  law4_known_k1 (decide (x43 = (bs [38, 108, 116, 59, 65, 239, 191, 189, 38, 98, 97, 100, 59, 38, 35, 59]))) else
  law4_known_k1 false)
set_option maxRecDepth 20000 in
set_option maxHeartbeats 4000000 in
theorem law4_known_ok (n : Nat) {f : Fz}  {res : Bool}  (hm : law4_known n = some res) : Gives Try.prog 17 [] f (.bool res) := by
 unfold law4_known at hm
 intro w0 L w hC
 refine enter Try.func17 rfl Try.ntmps17 (by simp) hC fun a hs => ?_
 have hle := Fz.le.refl f
 refine W_seq fun K1 hK1 => ?_
 refine W_region ?_
 refine sy (v := .bool (false)) hs (y_assign rfl) ?_; clear hs; (try clear a w); intro a w hs
 refine RL_nil ?_
 refine hK1 _ _ ?_; clear hK1
 refine W_seq fun K2 hK2 => ?_
 have hbase4 := Fz.le.refl f
 refine W_post (fun a w => ∃ (f1 : Fz) (y3 : Bool), Fz.le f f1 ∧ law4_known_k1 y3 = some res ∧ St 12 w0 f1 (L) [(0, .bool (y3))] a w) ?_ ?_
 ·clear hs hm
  clear hbase4
  rintro a w ⟨f1, y3, hl2, hm, hs⟩
  replace hle := hle.trans hl2
  replace hs : St _ _ _ (L) _ _ _ := hs
  unfold law4_known_k1 at hm
  refine hK2 _ _ ?_; clear hK2
  refine W_ret ?_
  obtain rfl := Option.some.inj hm
  refine RtV1 hs rfl (rv_t hs rfl) ?_
  exact ⟨rfl, (hs.weak hle).cw⟩
 ·refine W_region ?_
  refine sy hs (y_buildS (places := [(0, 1), (1, 1)]) (cs := [.string ((bs [97])), .string ((bs [49]))]) rfl Try.underlying29 ti29 (by kernel_rfl) (by decide) rfl ⟨rfl, rfl, trivial⟩) ?_; clear hs; (try clear a w); intro a w hs
  refine sy hs (y_buildS (places := [(0, 1), (1, 1)]) (cs := [.string ((bs [98])), .string ((bs [120, 60]))]) rfl Try.underlying29 ti29 (by kernel_rfl) (by decide) rfl ⟨rfl, rfl, trivial⟩) ?_; clear hs; (try clear a w); intro a w hs
  refine RL_bsN (parts := [(0, .tmp 1), (1, .tmp 2)]) (us := [.agg #[.string ((bs [97])), .string ((bs [49]))], .agg #[.string ((bs [98])), .string ((bs [120, 60]))]]) (rows := [[.string ((bs [97])), .string ((bs [49]))], [.string ((bs [98])), .string ((bs [120, 60]))]]) hs rfl Try.underlying23 ti29 (by decide) rfl rfl (by intro r hr; simp only [List.mem_cons, List.mem_nil_iff, or_false] at hr; rcases hr with rfl | rfl; exact AllC.row ⟨rfl, rfl, trivial⟩ rfl; exact AllC.row ⟨rfl, rfl, trivial⟩ rfl) ?_; clear hs; (try clear a w); intro v5 a w hs
  have hW6 : RW t_api_Attr f [[.string ((bs [97])), .string ((bs [49]))], [.string ((bs [98])), .string ((bs [120, 60]))]] [({Name := (bs [97]), Value := (bs [49])} : api_Attr), ({Name := (bs [98]), Value := (bs [120, 60])} : api_Attr)] := ⟨rfl, ⟨rfl, trivial⟩⟩
  generalize hgrw7 : ([[.string ((bs [97])), .string ((bs [49]))], [.string ((bs [98])), .string ((bs [120, 60]))]] : List (List Value)) = rw7 at hs hW6; clear hgrw7
  replace hs : St _ _ _ (.row v5 29 2 rw7 :: L) _ _ _ := hs
  obtain ⟨f10, hf11, hs2, hR12⟩ := hs.frzAt 0 rfl
  clear hs; have hs := hs2; clear hs2
  replace hW6 := hW6.le hf11
  replace hle := hle.trans hf11
  replace hbase4 := hbase4.trans hf11
  replace hs : St _ _ _ (L) _ _ _ := hs
  obtain ⟨x13, hx14, hm⟩ := ob hm
  refine RL_callV hs rfl has15 rfl (law4_open_ok n (f := f10) (a2 := v5) ⟨rw7, hR12, hW6⟩ hx14) ?_; clear hs; (try clear a w)
  rintro _ f15 _ a w hf16 ⟨r17, rfl, rfl, hq18⟩ hs
  replace hW6 := hW6.le hf16
  replace hR12 := hR12.le hf16
  replace hle := hle.trans hf16
  replace hbase4 := hbase4.trans hf16
  obtain ⟨v19, rfl, ⟨rw20, hR21, hW22⟩⟩ := hq18
  replace hs : St _ _ _ (L) _ _ _ := hs
  obtain ⟨x24, hx25, hm⟩ := ob hm
  refine RL_callV hs rfl has13 rfl (law4_chars_ok n (f := f15)  hx25) ?_; clear hs; (try clear a w)
  rintro _ f26 _ a w hf27 ⟨r28, rfl, rfl, hq29⟩ hs
  replace hW6 := hW6.le hf27
  replace hR12 := hR12.le hf27
  replace hR21 := hR21.le hf27
  replace hW22 := hW22.le hf27
  replace hle := hle.trans hf27
  replace hbase4 := hbase4.trans hf27
  obtain ⟨v30, rfl, ⟨rw31, hR32, hW33⟩⟩ := hq29
  replace hs : St _ _ _ (L) _ _ _ := hs
  refine RL_bsN (parts := [(0, .tmp 4), (1, .tmp 5)]) (us := [.agg #[.int .i64 (x13.Kind), .string (x13.Name), .string (x13.Text), v19, .bool (x13.Closed)], .agg #[.int .i64 (x24.Kind), .string (x24.Name), .string (x24.Text), v30, .bool (x24.Closed)]]) (rows := [[.int .i64 (x13.Kind), .string (x13.Name), .string (x13.Text), v19, .bool (x13.Closed)], [.int .i64 (x24.Kind), .string (x24.Name), .string (x24.Text), v30, .bool (x24.Closed)]]) hs rfl Try.underlying39 ti25 (by decide) rfl rfl (by intro r hr; simp only [List.mem_cons, List.mem_nil_iff, or_false] at hr; rcases hr with rfl | rfl; exact AllC.row ⟨rfl, rfl, rfl, hR21.one, rfl, trivial⟩ rfl; exact AllC.row ⟨rfl, rfl, rfl, hR32.one, rfl, trivial⟩ rfl) ?_; clear hs; (try clear a w); intro v35 a w hs
  have hW36 : RW t_ref4_Token f26 [[.int .i64 (x13.Kind), .string (x13.Name), .string (x13.Text), v19, .bool (x13.Closed)], [.int .i64 (x24.Kind), .string (x24.Name), .string (x24.Text), v30, .bool (x24.Closed)]] [x13, x24] := ⟨⟨_, rfl, ⟨rw20, hR21, hW22⟩⟩, ⟨⟨_, rfl, ⟨rw31, hR32, hW33⟩⟩, trivial⟩⟩
  generalize hgrw37 : ([[.int .i64 (x13.Kind), .string (x13.Name), .string (x13.Text), v19, .bool (x13.Closed)], [.int .i64 (x24.Kind), .string (x24.Name), .string (x24.Text), v30, .bool (x24.Closed)]] : List (List Value)) = rw37 at hs hW36; clear hgrw37
  replace hs : St _ _ _ (.row v35 25 5 rw37 :: L) _ _ _ := hs
  obtain ⟨x40, hx41, hm⟩ := ob hm
  refine sy hs (y_callCK (cap := []) rfl has12 rfl (fun w9 hw9 => callsP (Lr := [.row v35 25 5 rw37]) (Lf := L) (perm_at _ 0 rfl) hw9 (fun Lz w9 hw9 => lent0 hw9 (fun f9_0 w9 hle9_0 hRl0 hw9 => (law4_cut_ok n (f := f9_0) (a1 := v35) ⟨rw37, hRl0, hW36.le hle9_0⟩ hx41) w0 _ w9 hw9)))) ?_; clear hs; (try clear a w); intro a w hs
  refine sy (v := .bool (x40)) hs (y_move rfl) ?_; clear hs; (try clear a w); intro a w hs
  refine St.split hs (t := 8) rfl (fun hg42 hq => ?_) (fun hg42 hq => ?_)
  ·clear hs; have hs := hq; clear hq
   replace hm := oc_t hg42 hm
   obtain ⟨x43, hx44, hm⟩ := ob hm
   refine syg hs (y_call rfl has16 rfl (mark_Unescape_ok n (f := f26)  hx44)) ?_; clear hs; (try clear a w); intro a w hs
   refine syg hs (y_seql rfl rfl) ?_; clear hs; (try clear a w); intro a w hs
   refine sy (v := .bool (decide (x43 = (bs [38, 108, 116, 59, 65, 239, 191, 189, 38, 98, 97, 100, 59, 38, 35, 59])))) hs (y_pick rfl rfl) ?_; clear hs; (try clear a w); intro a w hs
   refine sy (v := .bool (decide (x43 = (bs [38, 108, 116, 59, 65, 239, 191, 189, 38, 98, 97, 100, 59, 38, 35, 59])))) hs (y_assign rfl) ?_; clear hs; (try clear a w); intro a w hs
   refine RL_nil ?_
   exact ⟨_, decide (x43 = (bs [38, 108, 116, 59, 65, 239, 191, 189, 38, 98, 97, 100, 59, 38, 35, 59])), hbase4, hm, hs.subs ⟨rfl, trivial⟩ (.cons _ (.refl _))⟩
  ·clear hs; have hs := hq; clear hq
   replace hm := oc_f hg42 hm
   refine sno hs ?_; clear hs; (try clear a w); intro a w hs
   refine sno hs ?_; clear hs; (try clear a w); intro a w hs
   refine sy (v := .bool (false)) hs (y_pick rfl rfl) ?_; clear hs; (try clear a w); intro a w hs
   refine sy (v := .bool (false)) hs (y_assign rfl) ?_; clear hs; (try clear a w); intro a w hs
   refine RL_nil ?_
   exact ⟨_, false, hbase4, hm, hs.subs ⟨rfl, trivial⟩ (.cons _ (.refl _))⟩
end Go.Proofs.Ythmnohdlhlmmpaa
