/-
  Walks and laws of this seat; the base is the text Base.
-/
import Derived.Test.YthmnohdlhlmmpaaL4g
import Derived.Test.YthmnohdlhlmmpaaRows
/-
  Models of functions, and that the functions compute them. Printed by lift.py.
-/
namespace Go.Proofs.Ythmnohdlhlmmpaa
open Go.RowKit Go.Sl

/-! casement/casementlaw4.MarkNumbers -/
def law4_MarkNumbers_k1 (y3 : Bool) : Option Bool :=
  some y3
def law4_MarkNumbers (n : Nat) : Option Bool :=
  (law4_chars n (bs [97, 32, 60, 32, 98])).bind fun x5 =>
  (law4_shut n (bs [112])).bind fun x16 =>
  (law4_cut n (bs [97, 32, 60, 32, 98, 60, 47, 112, 32, 120, 62]) [x5, x16]).bind fun x32 =>
  (bif x32 then (law4_open n (bs [98, 114]) true ([] : List api_Attr)).bind fun x36 =>
  (law4_chars n (bs [120])).bind fun x47 =>
  (law4_chars n (bs [122])).bind fun x58 =>
  (law4_cut n (bs [60, 98, 114, 47, 62, 60, 33, 45, 45, 32, 60, 98, 62, 32, 45, 45, 62, 120, 60, 33, 121, 62, 122]) [x36, x47, x58]).bind fun x74 =>
  (bif x74 then (law4_open n (bs [115, 116, 121, 108, 101]) false ([] : List api_Attr)).bind fun x78 =>
  (law4_chars n (bs [97, 60, 98])).bind fun x89 =>
  (law4_shut n (bs [115, 116, 121, 108, 101])).bind fun x100 =>
  (law4_cut n (bs [60, 115, 116, 121, 108, 101, 62, 97, 60, 98, 60, 47, 83, 84, 89, 76, 69, 32, 62]) [x78, x89, x100]).bind fun x116 =>
  (bif x116 then (law4_cut n (bs [60, 97]) ([] : List ref4_Token)).bind fun x120 =>
  (bif x120 then (law4_cut n (bs [60, 97, 32, 98, 61, 34]) ([] : List ref4_Token)).bind fun x124 =>
  (bif x124 then (law4_open n (bs [112]) false [({Name := (bs [61, 120]), Value := (bs [])} : api_Attr)]).bind fun x135 =>
  (law4_cut n (bs [60, 112, 32, 61, 120, 62]) [x135]).bind fun x151 =>
  (bif x151 then (law4_chars n (bs [60])).bind fun x154 =>
  (law4_cut n (bs [60]) [x154]).bind fun x170 =>
  (bif x170 then (law4_cut n (bs [60, 47, 62]) ([] : List ref4_Token)).bind fun x174 =>
  (bif x174 then (law4_cut n (bs []) ([] : List ref4_Token)).bind fun x178 =>
  (bif x178 then (law4_chars n (bs [32, 99])).bind fun x181 =>
  (law4_cut n (bs [60, 33, 45, 45, 62, 60, 98, 62, 45, 45, 62, 32, 99]) [x181]).bind fun x197 =>
  (bif x197 then (law4_open n (bs [98, 114]) true [({Name := (bs [97]), Value := (bs [])} : api_Attr)]).bind fun x208 =>
  (law4_cut n (bs [60, 98, 114, 32, 97, 47, 62]) [x208]).bind fun x224 =>
  (bif x224 then (law4_open n (bs [115, 99, 114, 105, 112, 116]) false ([] : List api_Attr)).bind fun x228 =>
  (law4_chars n (bs [60, 47, 115, 99, 114, 105, 112, 116, 120, 62])).bind fun x239 =>
  (law4_cut n (bs [60, 115, 99, 114, 105, 112, 116, 62, 60, 47, 115, 99, 114, 105, 112, 116, 120, 62, 60, 47, 115, 99, 114, 105, 112, 116]) [x228, x239]).bind fun x255 =>
  (bif x255 then (mark_Unescape n (bs [38, 110, 98, 115, 112, 59, 38, 113, 117, 111, 116, 59, 38, 35, 48, 59, 38, 35, 120, 68, 56, 48, 48, 59, 38, 35, 49, 50, 51, 52, 53, 54, 55, 56, 57, 59])).bind fun x258 =>
  (bif (decide (x258 = (bs [194, 160, 34, 239, 191, 189, 239, 191, 189, 38, 35, 49, 50, 51, 52, 53, 54, 55, 56, 57, 59]))) then (law4_known n).bind fun x261 =>
  law4_MarkNumbers_k1 x261 else
  law4_MarkNumbers_k1 false) else
  law4_MarkNumbers_k1 false) else
  law4_MarkNumbers_k1 false) else
  law4_MarkNumbers_k1 false) else
  law4_MarkNumbers_k1 false) else
  law4_MarkNumbers_k1 false) else
  law4_MarkNumbers_k1 false) else
  law4_MarkNumbers_k1 false) else
  law4_MarkNumbers_k1 false) else
  law4_MarkNumbers_k1 false) else
  law4_MarkNumbers_k1 false) else
  law4_MarkNumbers_k1 false) else
  law4_MarkNumbers_k1 false)
set_option maxRecDepth 20000 in
set_option maxHeartbeats 4000000 in
theorem law4_MarkNumbers_ok (n : Nat) {f : Fz}  {res : Bool}  (hm : law4_MarkNumbers n = some res) : Gives Try.prog 3 [] f (.bool res) := by
 unfold law4_MarkNumbers at hm
 intro w0 L w hC
 refine enter Try.func3 rfl Try.ntmps3 (by simp) hC fun a hs => ?_
 have hle := Fz.le.refl f
 refine W_seq fun K1 hK1 => ?_
 refine W_region ?_
 refine sy (v := .bool (false)) hs (y_assign rfl) ?_; clear hs; (try clear a w); intro a w hs
 refine RL_nil ?_
 refine hK1 _ _ ?_; clear hK1
 refine W_seq fun K2 hK2 => ?_
 have hbase4 := Fz.le.refl f
 refine W_post (fun a w => ∃ (f1 : Fz) (y3 : Bool), Fz.le f f1 ∧ law4_MarkNumbers_k1 y3 = some res ∧ St 70 w0 f1 (L) [(0, .bool (y3))] a w) ?_ ?_
 ·clear hs hm
  clear hbase4
  rintro a w ⟨f1, y3, hl2, hm, hs⟩
  replace hle := hle.trans hl2
  replace hs : St _ _ _ (L) _ _ _ := hs
  unfold law4_MarkNumbers_k1 at hm
  refine hK2 _ _ ?_; clear hK2
  refine W_ret ?_
  obtain rfl := Option.some.inj hm
  refine RtV1 hs rfl (rv_t hs rfl) ?_
  exact ⟨rfl, (hs.weak hle).cw⟩
 ·refine W_region ?_
  refine sy (v := .bool (true)) hs (y_move rfl) ?_; clear hs; (try clear a w); intro a w hs
  obtain ⟨x5, hx6, hm⟩ := ob hm
  refine RL_callVg hs rfl has13 rfl (law4_chars_ok n (f := f)  hx6) ?_; clear hs; (try clear a w)
  rintro _ f7 _ a w hf8 ⟨r9, rfl, rfl, hq10⟩ hs
  replace hle := hle.trans hf8
  replace hbase4 := hbase4.trans hf8
  obtain ⟨v11, rfl, ⟨rw12, hR13, hW14⟩⟩ := hq10
  replace hs : St _ _ _ (L) _ _ _ := hs
  obtain ⟨x16, hx17, hm⟩ := ob hm
  refine RL_callVg hs rfl has14 rfl (law4_shut_ok n (f := f7)  hx17) ?_; clear hs; (try clear a w)
  rintro _ f18 _ a w hf19 ⟨r20, rfl, rfl, hq21⟩ hs
  replace hR13 := hR13.le hf19
  replace hW14 := hW14.le hf19
  replace hle := hle.trans hf19
  replace hbase4 := hbase4.trans hf19
  obtain ⟨v22, rfl, ⟨rw23, hR24, hW25⟩⟩ := hq21
  replace hs : St _ _ _ (L) _ _ _ := hs
  refine RL_guard hs rfl rfl ?_
  refine RL_bsN (parts := [(0, .tmp 2), (1, .tmp 3)]) (us := [.agg #[.int .i64 (x5.Kind), .string (x5.Name), .string (x5.Text), v11, .bool (x5.Closed)], .agg #[.int .i64 (x16.Kind), .string (x16.Name), .string (x16.Text), v22, .bool (x16.Closed)]]) (rows := [[.int .i64 (x5.Kind), .string (x5.Name), .string (x5.Text), v11, .bool (x5.Closed)], [.int .i64 (x16.Kind), .string (x16.Name), .string (x16.Text), v22, .bool (x16.Closed)]]) hs rfl Try.underlying39 ti25 (by decide) rfl rfl (by intro r hr; simp only [List.mem_cons, List.mem_nil_iff, or_false] at hr; rcases hr with rfl | rfl; exact AllC.row ⟨rfl, rfl, rfl, hR13.one, rfl, trivial⟩ rfl; exact AllC.row ⟨rfl, rfl, rfl, hR24.one, rfl, trivial⟩ rfl) ?_; clear hs; (try clear a w); intro v27 a w hs
  have hW28 : RW t_ref4_Token f18 [[.int .i64 (x5.Kind), .string (x5.Name), .string (x5.Text), v11, .bool (x5.Closed)], [.int .i64 (x16.Kind), .string (x16.Name), .string (x16.Text), v22, .bool (x16.Closed)]] [x5, x16] := ⟨⟨_, rfl, ⟨rw12, hR13, hW14⟩⟩, ⟨⟨_, rfl, ⟨rw23, hR24, hW25⟩⟩, trivial⟩⟩
  generalize hgrw29 : ([[.int .i64 (x5.Kind), .string (x5.Name), .string (x5.Text), v11, .bool (x5.Closed)], [.int .i64 (x16.Kind), .string (x16.Name), .string (x16.Text), v22, .bool (x16.Closed)]] : List (List Value)) = rw29 at hs hW28; clear hgrw29
  replace hs : St _ _ _ (.row v27 25 5 rw29 :: L) _ _ _ := hs
  obtain ⟨x32, hx33, hm⟩ := ob hm
  refine syg hs (y_callCK (cap := []) rfl has12 rfl (fun w9 hw9 => callsP (Lr := [.row v27 25 5 rw29]) (Lf := L) (perm_at _ 0 rfl) hw9 (fun Lz w9 hw9 => lent0 hw9 (fun f9_0 w9 hle9_0 hRl0 hw9 => (law4_cut_ok n (f := f9_0) (a1 := v27) ⟨rw29, hRl0, hW28.le hle9_0⟩ hx33) w0 _ w9 hw9)))) ?_; clear hs; (try clear a w); intro a w hs
  refine sy (v := .bool (x32)) hs (y_pick rfl rfl) ?_; clear hs; (try clear a w); intro a w hs
  refine sy (v := .bool (x32)) hs (y_move rfl) ?_; clear hs; (try clear a w); intro a w hs
  refine St.split hs (t := 7) rfl (fun hg34 hq => ?_) (fun hg34 hq => ?_)
  ·clear hs; have hs := hq; clear hq
   replace hm := oc_t hg34 hm
   obtain ⟨x36, hx37, hm⟩ := ob hm
   refine RL_callVg hs rfl has15 rfl (law4_open_ok n (f := f18) (a2 := (.slice none 0 0)) RS.nil hx37) ?_; clear hs; (try clear a w)
   rintro _ f38 _ a w hf39 ⟨r40, rfl, rfl, hq41⟩ hs
   replace hR13 := hR13.le hf39
   replace hW14 := hW14.le hf39
   replace hR24 := hR24.le hf39
   replace hW25 := hW25.le hf39
   replace hW28 := hW28.le hf39
   replace hle := hle.trans hf39
   replace hbase4 := hbase4.trans hf39
   obtain ⟨v42, rfl, ⟨rw43, hR44, hW45⟩⟩ := hq41
   replace hs : St _ _ _ (.row v27 25 5 rw29 :: L) _ _ _ := hs
   obtain ⟨x47, hx48, hm⟩ := ob hm
   refine RL_callVg hs rfl has13 rfl (law4_chars_ok n (f := f38)  hx48) ?_; clear hs; (try clear a w)
   rintro _ f49 _ a w hf50 ⟨r51, rfl, rfl, hq52⟩ hs
   replace hR13 := hR13.le hf50
   replace hW14 := hW14.le hf50
   replace hR24 := hR24.le hf50
   replace hW25 := hW25.le hf50
   replace hW28 := hW28.le hf50
   replace hR44 := hR44.le hf50
   replace hW45 := hW45.le hf50
   replace hle := hle.trans hf50
   replace hbase4 := hbase4.trans hf50
   obtain ⟨v53, rfl, ⟨rw54, hR55, hW56⟩⟩ := hq52
   replace hs : St _ _ _ (.row v27 25 5 rw29 :: L) _ _ _ := hs
   obtain ⟨x58, hx59, hm⟩ := ob hm
   refine RL_callVg hs rfl has13 rfl (law4_chars_ok n (f := f49)  hx59) ?_; clear hs; (try clear a w)
   rintro _ f60 _ a w hf61 ⟨r62, rfl, rfl, hq63⟩ hs
   replace hR13 := hR13.le hf61
   replace hW14 := hW14.le hf61
   replace hR24 := hR24.le hf61
   replace hW25 := hW25.le hf61
   replace hW28 := hW28.le hf61
   replace hR44 := hR44.le hf61
   replace hW45 := hW45.le hf61
   replace hR55 := hR55.le hf61
   replace hW56 := hW56.le hf61
   replace hle := hle.trans hf61
   replace hbase4 := hbase4.trans hf61
   obtain ⟨v64, rfl, ⟨rw65, hR66, hW67⟩⟩ := hq63
   replace hs : St _ _ _ (.row v27 25 5 rw29 :: L) _ _ _ := hs
   refine RL_guard hs rfl rfl ?_
   refine RL_bsN (parts := [(0, .tmp 8), (1, .tmp 9), (2, .tmp 10)]) (us := [.agg #[.int .i64 (x36.Kind), .string (x36.Name), .string (x36.Text), v42, .bool (x36.Closed)], .agg #[.int .i64 (x47.Kind), .string (x47.Name), .string (x47.Text), v53, .bool (x47.Closed)], .agg #[.int .i64 (x58.Kind), .string (x58.Name), .string (x58.Text), v64, .bool (x58.Closed)]]) (rows := [[.int .i64 (x36.Kind), .string (x36.Name), .string (x36.Text), v42, .bool (x36.Closed)], [.int .i64 (x47.Kind), .string (x47.Name), .string (x47.Text), v53, .bool (x47.Closed)], [.int .i64 (x58.Kind), .string (x58.Name), .string (x58.Text), v64, .bool (x58.Closed)]]) hs rfl Try.underlying39 ti25 (by decide) rfl rfl (by intro r hr; simp only [List.mem_cons, List.mem_nil_iff, or_false] at hr; rcases hr with rfl | rfl | rfl; exact AllC.row ⟨rfl, rfl, rfl, hR44.one, rfl, trivial⟩ rfl; exact AllC.row ⟨rfl, rfl, rfl, hR55.one, rfl, trivial⟩ rfl; exact AllC.row ⟨rfl, rfl, rfl, hR66.one, rfl, trivial⟩ rfl) ?_; clear hs; (try clear a w); intro v69 a w hs
   have hW70 : RW t_ref4_Token f60 [[.int .i64 (x36.Kind), .string (x36.Name), .string (x36.Text), v42, .bool (x36.Closed)], [.int .i64 (x47.Kind), .string (x47.Name), .string (x47.Text), v53, .bool (x47.Closed)], [.int .i64 (x58.Kind), .string (x58.Name), .string (x58.Text), v64, .bool (x58.Closed)]] [x36, x47, x58] := ⟨⟨_, rfl, ⟨rw43, hR44, hW45⟩⟩, ⟨⟨_, rfl, ⟨rw54, hR55, hW56⟩⟩, ⟨⟨_, rfl, ⟨rw65, hR66, hW67⟩⟩, trivial⟩⟩⟩
   generalize hgrw71 : ([[.int .i64 (x36.Kind), .string (x36.Name), .string (x36.Text), v42, .bool (x36.Closed)], [.int .i64 (x47.Kind), .string (x47.Name), .string (x47.Text), v53, .bool (x47.Closed)], [.int .i64 (x58.Kind), .string (x58.Name), .string (x58.Text), v64, .bool (x58.Closed)]] : List (List Value)) = rw71 at hs hW70; clear hgrw71
   replace hs : St _ _ _ (.row v69 25 5 rw71 :: .row v27 25 5 rw29 :: L) _ _ _ := hs
   obtain ⟨x74, hx75, hm⟩ := ob hm
   refine syg hs (y_callCK (cap := []) rfl has12 rfl (fun w9 hw9 => callsP (Lr := [.row v69 25 5 rw71]) (Lf := .row v27 25 5 rw29 :: L) (perm_at _ 0 rfl) hw9 (fun Lz w9 hw9 => lent0 hw9 (fun f9_0 w9 hle9_0 hRl0 hw9 => (law4_cut_ok n (f := f9_0) (a1 := v69) ⟨rw71, hRl0, hW70.le hle9_0⟩ hx75) w0 _ w9 hw9)))) ?_; clear hs; (try clear a w); intro a w hs
   refine sy (v := .bool (x74)) hs (y_pick rfl rfl) ?_; clear hs; (try clear a w); intro a w hs
   refine sy (v := .bool (x74)) hs (y_move rfl) ?_; clear hs; (try clear a w); intro a w hs
   refine St.split hs (t := 14) rfl (fun hg76 hq => ?_) (fun hg76 hq => ?_)
   ·clear hs; have hs := hq; clear hq
    replace hm := oc_t hg76 hm
    obtain ⟨x78, hx79, hm⟩ := ob hm
    refine RL_callVg hs rfl has15 rfl (law4_open_ok n (f := f60) (a2 := (.slice none 0 0)) RS.nil hx79) ?_; clear hs; (try clear a w)
    rintro _ f80 _ a w hf81 ⟨r82, rfl, rfl, hq83⟩ hs
    replace hR13 := hR13.le hf81
    replace hW14 := hW14.le hf81
    replace hR24 := hR24.le hf81
    replace hW25 := hW25.le hf81
    replace hW28 := hW28.le hf81
    replace hR44 := hR44.le hf81
    replace hW45 := hW45.le hf81
    replace hR55 := hR55.le hf81
    replace hW56 := hW56.le hf81
    replace hR66 := hR66.le hf81
    replace hW67 := hW67.le hf81
    replace hW70 := hW70.le hf81
    replace hle := hle.trans hf81
    replace hbase4 := hbase4.trans hf81
    obtain ⟨v84, rfl, ⟨rw85, hR86, hW87⟩⟩ := hq83
    replace hs : St _ _ _ (.row v69 25 5 rw71 :: .row v27 25 5 rw29 :: L) _ _ _ := hs
    obtain ⟨x89, hx90, hm⟩ := ob hm
    refine RL_callVg hs rfl has13 rfl (law4_chars_ok n (f := f80)  hx90) ?_; clear hs; (try clear a w)
    rintro _ f91 _ a w hf92 ⟨r93, rfl, rfl, hq94⟩ hs
    replace hR13 := hR13.le hf92
    replace hW14 := hW14.le hf92
    replace hR24 := hR24.le hf92
    replace hW25 := hW25.le hf92
    replace hW28 := hW28.le hf92
    replace hR44 := hR44.le hf92
    replace hW45 := hW45.le hf92
    replace hR55 := hR55.le hf92
    replace hW56 := hW56.le hf92
    replace hR66 := hR66.le hf92
    replace hW67 := hW67.le hf92
    replace hW70 := hW70.le hf92
    replace hR86 := hR86.le hf92
    replace hW87 := hW87.le hf92
    replace hle := hle.trans hf92
    replace hbase4 := hbase4.trans hf92
    obtain ⟨v95, rfl, ⟨rw96, hR97, hW98⟩⟩ := hq94
    replace hs : St _ _ _ (.row v69 25 5 rw71 :: .row v27 25 5 rw29 :: L) _ _ _ := hs
    obtain ⟨x100, hx101, hm⟩ := ob hm
    refine RL_callVg hs rfl has14 rfl (law4_shut_ok n (f := f91)  hx101) ?_; clear hs; (try clear a w)
    rintro _ f102 _ a w hf103 ⟨r104, rfl, rfl, hq105⟩ hs
    replace hR13 := hR13.le hf103
    replace hW14 := hW14.le hf103
    replace hR24 := hR24.le hf103
    replace hW25 := hW25.le hf103
    replace hW28 := hW28.le hf103
    replace hR44 := hR44.le hf103
    replace hW45 := hW45.le hf103
    replace hR55 := hR55.le hf103
    replace hW56 := hW56.le hf103
    replace hR66 := hR66.le hf103
    replace hW67 := hW67.le hf103
    replace hW70 := hW70.le hf103
    replace hR86 := hR86.le hf103
    replace hW87 := hW87.le hf103
    replace hR97 := hR97.le hf103
    replace hW98 := hW98.le hf103
    replace hle := hle.trans hf103
    replace hbase4 := hbase4.trans hf103
    obtain ⟨v106, rfl, ⟨rw107, hR108, hW109⟩⟩ := hq105
    replace hs : St _ _ _ (.row v69 25 5 rw71 :: .row v27 25 5 rw29 :: L) _ _ _ := hs
    refine RL_guard hs rfl rfl ?_
    refine RL_bsN (parts := [(0, .tmp 15), (1, .tmp 16), (2, .tmp 17)]) (us := [.agg #[.int .i64 (x78.Kind), .string (x78.Name), .string (x78.Text), v84, .bool (x78.Closed)], .agg #[.int .i64 (x89.Kind), .string (x89.Name), .string (x89.Text), v95, .bool (x89.Closed)], .agg #[.int .i64 (x100.Kind), .string (x100.Name), .string (x100.Text), v106, .bool (x100.Closed)]]) (rows := [[.int .i64 (x78.Kind), .string (x78.Name), .string (x78.Text), v84, .bool (x78.Closed)], [.int .i64 (x89.Kind), .string (x89.Name), .string (x89.Text), v95, .bool (x89.Closed)], [.int .i64 (x100.Kind), .string (x100.Name), .string (x100.Text), v106, .bool (x100.Closed)]]) hs rfl Try.underlying39 ti25 (by decide) rfl rfl (by intro r hr; simp only [List.mem_cons, List.mem_nil_iff, or_false] at hr; rcases hr with rfl | rfl | rfl; exact AllC.row ⟨rfl, rfl, rfl, hR86.one, rfl, trivial⟩ rfl; exact AllC.row ⟨rfl, rfl, rfl, hR97.one, rfl, trivial⟩ rfl; exact AllC.row ⟨rfl, rfl, rfl, hR108.one, rfl, trivial⟩ rfl) ?_; clear hs; (try clear a w); intro v111 a w hs
    have hW112 : RW t_ref4_Token f102 [[.int .i64 (x78.Kind), .string (x78.Name), .string (x78.Text), v84, .bool (x78.Closed)], [.int .i64 (x89.Kind), .string (x89.Name), .string (x89.Text), v95, .bool (x89.Closed)], [.int .i64 (x100.Kind), .string (x100.Name), .string (x100.Text), v106, .bool (x100.Closed)]] [x78, x89, x100] := ⟨⟨_, rfl, ⟨rw85, hR86, hW87⟩⟩, ⟨⟨_, rfl, ⟨rw96, hR97, hW98⟩⟩, ⟨⟨_, rfl, ⟨rw107, hR108, hW109⟩⟩, trivial⟩⟩⟩
    generalize hgrw113 : ([[.int .i64 (x78.Kind), .string (x78.Name), .string (x78.Text), v84, .bool (x78.Closed)], [.int .i64 (x89.Kind), .string (x89.Name), .string (x89.Text), v95, .bool (x89.Closed)], [.int .i64 (x100.Kind), .string (x100.Name), .string (x100.Text), v106, .bool (x100.Closed)]] : List (List Value)) = rw113 at hs hW112; clear hgrw113
    replace hs : St _ _ _ (.row v111 25 5 rw113 :: .row v69 25 5 rw71 :: .row v27 25 5 rw29 :: L) _ _ _ := hs
    obtain ⟨x116, hx117, hm⟩ := ob hm
    refine syg hs (y_callCK (cap := []) rfl has12 rfl (fun w9 hw9 => callsP (Lr := [.row v111 25 5 rw113]) (Lf := .row v69 25 5 rw71 :: .row v27 25 5 rw29 :: L) (perm_at _ 0 rfl) hw9 (fun Lz w9 hw9 => lent0 hw9 (fun f9_0 w9 hle9_0 hRl0 hw9 => (law4_cut_ok n (f := f9_0) (a1 := v111) ⟨rw113, hRl0, hW112.le hle9_0⟩ hx117) w0 _ w9 hw9)))) ?_; clear hs; (try clear a w); intro a w hs
    refine sy (v := .bool (x116)) hs (y_pick rfl rfl) ?_; clear hs; (try clear a w); intro a w hs
    refine sy (v := .bool (x116)) hs (y_move rfl) ?_; clear hs; (try clear a w); intro a w hs
    refine St.split hs (t := 21) rfl (fun hg118 hq => ?_) (fun hg118 hq => ?_)
    ·clear hs; have hs := hq; clear hq
     replace hm := oc_t hg118 hm
     obtain ⟨x120, hx121, hm⟩ := ob hm
     refine syg hs (y_call rfl has12 rfl (law4_cut_ok n (f := f102) (a1 := (.slice none 0 0)) RS.nil hx121)) ?_; clear hs; (try clear a w); intro a w hs
     refine sy (v := .bool (x120)) hs (y_pick rfl rfl) ?_; clear hs; (try clear a w); intro a w hs
     refine sy (v := .bool (x120)) hs (y_move rfl) ?_; clear hs; (try clear a w); intro a w hs
     refine St.split hs (t := 24) rfl (fun hg122 hq => ?_) (fun hg122 hq => ?_)
     ·clear hs; have hs := hq; clear hq
      replace hm := oc_t hg122 hm
      obtain ⟨x124, hx125, hm⟩ := ob hm
      refine syg hs (y_call rfl has12 rfl (law4_cut_ok n (f := f102) (a1 := (.slice none 0 0)) RS.nil hx125)) ?_; clear hs; (try clear a w); intro a w hs
      refine sy (v := .bool (x124)) hs (y_pick rfl rfl) ?_; clear hs; (try clear a w); intro a w hs
      refine sy (v := .bool (x124)) hs (y_move rfl) ?_; clear hs; (try clear a w); intro a w hs
      refine St.split hs (t := 27) rfl (fun hg126 hq => ?_) (fun hg126 hq => ?_)
      ·clear hs; have hs := hq; clear hq
       replace hm := oc_t hg126 hm
       refine syg hs (y_buildS (places := [(0, 1), (1, 1)]) (cs := [.string ((bs [61, 120])), .string ((bs []))]) rfl Try.underlying29 ti29 (by kernel_rfl) (by decide) rfl ⟨rfl, trivial⟩) ?_; clear hs; (try clear a w); intro a w hs
       refine RL_guard hs rfl rfl ?_
       refine RL_bs1a hs rfl Try.underlying23 ti29 (by decide) (AllC.row ⟨rfl, rfl, trivial⟩ rfl) ?_; clear hs; (try clear a w); intro v127 a w hs
       have hW128 : RW t_api_Attr f102 [[.string ((bs [61, 120])), .string ((bs []))]] [({Name := (bs [61, 120]), Value := (bs [])} : api_Attr)] := RW.single (rfl)
       generalize hgrw129 : ([[.string ((bs [61, 120])), .string ((bs []))]] : List (List Value)) = rw129 at hs hW128; clear hgrw129
       replace hs : St _ _ _ (.row v127 29 2 rw129 :: .row v111 25 5 rw113 :: .row v69 25 5 rw71 :: .row v27 25 5 rw29 :: L) _ _ _ := hs
       obtain ⟨f132, hf133, hs2, hR134⟩ := hs.frzAt 0 rfl
       clear hs; have hs := hs2; clear hs2
       replace hR13 := hR13.le hf133
       replace hW14 := hW14.le hf133
       replace hR24 := hR24.le hf133
       replace hW25 := hW25.le hf133
       replace hW28 := hW28.le hf133
       replace hR44 := hR44.le hf133
       replace hW45 := hW45.le hf133
       replace hR55 := hR55.le hf133
       replace hW56 := hW56.le hf133
       replace hR66 := hR66.le hf133
       replace hW67 := hW67.le hf133
       replace hW70 := hW70.le hf133
       replace hR86 := hR86.le hf133
       replace hW87 := hW87.le hf133
       replace hR97 := hR97.le hf133
       replace hW98 := hW98.le hf133
       replace hR108 := hR108.le hf133
       replace hW109 := hW109.le hf133
       replace hW112 := hW112.le hf133
       replace hW128 := hW128.le hf133
       replace hle := hle.trans hf133
       replace hbase4 := hbase4.trans hf133
       replace hs : St _ _ _ (.row v111 25 5 rw113 :: .row v69 25 5 rw71 :: .row v27 25 5 rw29 :: L) _ _ _ := hs
       obtain ⟨x135, hx136, hm⟩ := ob hm
       refine RL_callVg hs rfl has15 rfl (law4_open_ok n (f := f132) (a2 := v127) ⟨rw129, hR134, hW128⟩ hx136) ?_; clear hs; (try clear a w)
       rintro _ f137 _ a w hf138 ⟨r139, rfl, rfl, hq140⟩ hs
       replace hR13 := hR13.le hf138
       replace hW14 := hW14.le hf138
       replace hR24 := hR24.le hf138
       replace hW25 := hW25.le hf138
       replace hW28 := hW28.le hf138
       replace hR44 := hR44.le hf138
       replace hW45 := hW45.le hf138
       replace hR55 := hR55.le hf138
       replace hW56 := hW56.le hf138
       replace hR66 := hR66.le hf138
       replace hW67 := hW67.le hf138
       replace hW70 := hW70.le hf138
       replace hR86 := hR86.le hf138
       replace hW87 := hW87.le hf138
       replace hR97 := hR97.le hf138
       replace hW98 := hW98.le hf138
       replace hR108 := hR108.le hf138
       replace hW109 := hW109.le hf138
       replace hW112 := hW112.le hf138
       replace hW128 := hW128.le hf138
       replace hR134 := hR134.le hf138
       replace hle := hle.trans hf138
       replace hbase4 := hbase4.trans hf138
       obtain ⟨v141, rfl, ⟨rw142, hR143, hW144⟩⟩ := hq140
       replace hs : St _ _ _ (.row v111 25 5 rw113 :: .row v69 25 5 rw71 :: .row v27 25 5 rw29 :: L) _ _ _ := hs
       refine RL_guard hs rfl rfl ?_
       refine RL_bs1a hs rfl Try.underlying39 ti25 (by decide) (AllC.row ⟨rfl, rfl, rfl, hR143.one, rfl, trivial⟩ rfl) ?_; clear hs; (try clear a w); intro v146 a w hs
       have hW147 : RW t_ref4_Token f137 [[.int .i64 (x135.Kind), .string (x135.Name), .string (x135.Text), v141, .bool (x135.Closed)]] [x135] := RW.single (⟨_, rfl, ⟨rw142, hR143, hW144⟩⟩)
       generalize hgrw148 : ([[.int .i64 (x135.Kind), .string (x135.Name), .string (x135.Text), v141, .bool (x135.Closed)]] : List (List Value)) = rw148 at hs hW147; clear hgrw148
       replace hs : St _ _ _ (.row v146 25 5 rw148 :: .row v111 25 5 rw113 :: .row v69 25 5 rw71 :: .row v27 25 5 rw29 :: L) _ _ _ := hs
       obtain ⟨x151, hx152, hm⟩ := ob hm
       refine syg hs (y_callCK (cap := []) rfl has12 rfl (fun w9 hw9 => callsP (Lr := [.row v146 25 5 rw148]) (Lf := .row v111 25 5 rw113 :: .row v69 25 5 rw71 :: .row v27 25 5 rw29 :: L) (perm_at _ 0 rfl) hw9 (fun Lz w9 hw9 => lent0 hw9 (fun f9_0 w9 hle9_0 hRl0 hw9 => (law4_cut_ok n (f := f9_0) (a1 := v146) ⟨rw148, hRl0, hW147.le hle9_0⟩ hx152) w0 _ w9 hw9)))) ?_; clear hs; (try clear a w); intro a w hs
       refine sy (v := .bool (x151)) hs (y_pick rfl rfl) ?_; clear hs; (try clear a w); intro a w hs
       refine sy (v := .bool (x151)) hs (y_move rfl) ?_; clear hs; (try clear a w); intro a w hs
       refine St.split hs (t := 34) rfl (fun hg153 hq => ?_) (fun hg153 hq => ?_)
       ·clear hs; have hs := hq; clear hq
        replace hm := oc_t hg153 hm
        obtain ⟨x154, hx155, hm⟩ := ob hm
        refine RL_callVg hs rfl has13 rfl (law4_chars_ok n (f := f137)  hx155) ?_; clear hs; (try clear a w)
        rintro _ f156 _ a w hf157 ⟨r158, rfl, rfl, hq159⟩ hs
        replace hR13 := hR13.le hf157
        replace hW14 := hW14.le hf157
        replace hR24 := hR24.le hf157
        replace hW25 := hW25.le hf157
        replace hW28 := hW28.le hf157
        replace hR44 := hR44.le hf157
        replace hW45 := hW45.le hf157
        replace hR55 := hR55.le hf157
        replace hW56 := hW56.le hf157
        replace hR66 := hR66.le hf157
        replace hW67 := hW67.le hf157
        replace hW70 := hW70.le hf157
        replace hR86 := hR86.le hf157
        replace hW87 := hW87.le hf157
        replace hR97 := hR97.le hf157
        replace hW98 := hW98.le hf157
        replace hR108 := hR108.le hf157
        replace hW109 := hW109.le hf157
        replace hW112 := hW112.le hf157
        replace hW128 := hW128.le hf157
        replace hR134 := hR134.le hf157
        replace hR143 := hR143.le hf157
        replace hW144 := hW144.le hf157
        replace hW147 := hW147.le hf157
        replace hle := hle.trans hf157
        replace hbase4 := hbase4.trans hf157
        obtain ⟨v160, rfl, ⟨rw161, hR162, hW163⟩⟩ := hq159
        replace hs : St _ _ _ (.row v146 25 5 rw148 :: .row v111 25 5 rw113 :: .row v69 25 5 rw71 :: .row v27 25 5 rw29 :: L) _ _ _ := hs
        refine RL_guard hs rfl rfl ?_
        refine RL_bs1a hs rfl Try.underlying39 ti25 (by decide) (AllC.row ⟨rfl, rfl, rfl, hR162.one, rfl, trivial⟩ rfl) ?_; clear hs; (try clear a w); intro v165 a w hs
        have hW166 : RW t_ref4_Token f156 [[.int .i64 (x154.Kind), .string (x154.Name), .string (x154.Text), v160, .bool (x154.Closed)]] [x154] := RW.single (⟨_, rfl, ⟨rw161, hR162, hW163⟩⟩)
        generalize hgrw167 : ([[.int .i64 (x154.Kind), .string (x154.Name), .string (x154.Text), v160, .bool (x154.Closed)]] : List (List Value)) = rw167 at hs hW166; clear hgrw167
        replace hs : St _ _ _ (.row v165 25 5 rw167 :: .row v146 25 5 rw148 :: .row v111 25 5 rw113 :: .row v69 25 5 rw71 :: .row v27 25 5 rw29 :: L) _ _ _ := hs
        obtain ⟨x170, hx171, hm⟩ := ob hm
        refine syg hs (y_callCK (cap := []) rfl has12 rfl (fun w9 hw9 => callsP (Lr := [.row v165 25 5 rw167]) (Lf := .row v146 25 5 rw148 :: .row v111 25 5 rw113 :: .row v69 25 5 rw71 :: .row v27 25 5 rw29 :: L) (perm_at _ 0 rfl) hw9 (fun Lz w9 hw9 => lent0 hw9 (fun f9_0 w9 hle9_0 hRl0 hw9 => (law4_cut_ok n (f := f9_0) (a1 := v165) ⟨rw167, hRl0, hW166.le hle9_0⟩ hx171) w0 _ w9 hw9)))) ?_; clear hs; (try clear a w); intro a w hs
        refine sy (v := .bool (x170)) hs (y_pick rfl rfl) ?_; clear hs; (try clear a w); intro a w hs
        refine sy (v := .bool (x170)) hs (y_move rfl) ?_; clear hs; (try clear a w); intro a w hs
        refine St.split hs (t := 39) rfl (fun hg172 hq => ?_) (fun hg172 hq => ?_)
        ·clear hs; have hs := hq; clear hq
         replace hm := oc_t hg172 hm
         obtain ⟨x174, hx175, hm⟩ := ob hm
         refine syg hs (y_call rfl has12 rfl (law4_cut_ok n (f := f156) (a1 := (.slice none 0 0)) RS.nil hx175)) ?_; clear hs; (try clear a w); intro a w hs
         refine sy (v := .bool (x174)) hs (y_pick rfl rfl) ?_; clear hs; (try clear a w); intro a w hs
         refine sy (v := .bool (x174)) hs (y_move rfl) ?_; clear hs; (try clear a w); intro a w hs
         refine St.split hs (t := 42) rfl (fun hg176 hq => ?_) (fun hg176 hq => ?_)
         ·clear hs; have hs := hq; clear hq
          replace hm := oc_t hg176 hm
          obtain ⟨x178, hx179, hm⟩ := ob hm
          refine syg hs (y_call rfl has12 rfl (law4_cut_ok n (f := f156) (a1 := (.slice none 0 0)) RS.nil hx179)) ?_; clear hs; (try clear a w); intro a w hs
          refine sy (v := .bool (x178)) hs (y_pick rfl rfl) ?_; clear hs; (try clear a w); intro a w hs
          refine sy (v := .bool (x178)) hs (y_move rfl) ?_; clear hs; (try clear a w); intro a w hs
          refine St.split hs (t := 45) rfl (fun hg180 hq => ?_) (fun hg180 hq => ?_)
          ·clear hs; have hs := hq; clear hq
           replace hm := oc_t hg180 hm
           obtain ⟨x181, hx182, hm⟩ := ob hm
           refine RL_callVg hs rfl has13 rfl (law4_chars_ok n (f := f156)  hx182) ?_; clear hs; (try clear a w)
           rintro _ f183 _ a w hf184 ⟨r185, rfl, rfl, hq186⟩ hs
           replace hR13 := hR13.le hf184
           replace hW14 := hW14.le hf184
           replace hR24 := hR24.le hf184
           replace hW25 := hW25.le hf184
           replace hW28 := hW28.le hf184
           replace hR44 := hR44.le hf184
           replace hW45 := hW45.le hf184
           replace hR55 := hR55.le hf184
           replace hW56 := hW56.le hf184
           replace hR66 := hR66.le hf184
           replace hW67 := hW67.le hf184
           replace hW70 := hW70.le hf184
           replace hR86 := hR86.le hf184
           replace hW87 := hW87.le hf184
           replace hR97 := hR97.le hf184
           replace hW98 := hW98.le hf184
           replace hR108 := hR108.le hf184
           replace hW109 := hW109.le hf184
           replace hW112 := hW112.le hf184
           replace hW128 := hW128.le hf184
           replace hR134 := hR134.le hf184
           replace hR143 := hR143.le hf184
           replace hW144 := hW144.le hf184
           replace hW147 := hW147.le hf184
           replace hR162 := hR162.le hf184
           replace hW163 := hW163.le hf184
           replace hW166 := hW166.le hf184
           replace hle := hle.trans hf184
           replace hbase4 := hbase4.trans hf184
           obtain ⟨v187, rfl, ⟨rw188, hR189, hW190⟩⟩ := hq186
           replace hs : St _ _ _ (.row v165 25 5 rw167 :: .row v146 25 5 rw148 :: .row v111 25 5 rw113 :: .row v69 25 5 rw71 :: .row v27 25 5 rw29 :: L) _ _ _ := hs
           refine RL_guard hs rfl rfl ?_
           refine RL_bs1a hs rfl Try.underlying39 ti25 (by decide) (AllC.row ⟨rfl, rfl, rfl, hR189.one, rfl, trivial⟩ rfl) ?_; clear hs; (try clear a w); intro v192 a w hs
           have hW193 : RW t_ref4_Token f183 [[.int .i64 (x181.Kind), .string (x181.Name), .string (x181.Text), v187, .bool (x181.Closed)]] [x181] := RW.single (⟨_, rfl, ⟨rw188, hR189, hW190⟩⟩)
           generalize hgrw194 : ([[.int .i64 (x181.Kind), .string (x181.Name), .string (x181.Text), v187, .bool (x181.Closed)]] : List (List Value)) = rw194 at hs hW193; clear hgrw194
           replace hs : St _ _ _ (.row v192 25 5 rw194 :: .row v165 25 5 rw167 :: .row v146 25 5 rw148 :: .row v111 25 5 rw113 :: .row v69 25 5 rw71 :: .row v27 25 5 rw29 :: L) _ _ _ := hs
           obtain ⟨x197, hx198, hm⟩ := ob hm
           refine syg hs (y_callCK (cap := []) rfl has12 rfl (fun w9 hw9 => callsP (Lr := [.row v192 25 5 rw194]) (Lf := .row v165 25 5 rw167 :: .row v146 25 5 rw148 :: .row v111 25 5 rw113 :: .row v69 25 5 rw71 :: .row v27 25 5 rw29 :: L) (perm_at _ 0 rfl) hw9 (fun Lz w9 hw9 => lent0 hw9 (fun f9_0 w9 hle9_0 hRl0 hw9 => (law4_cut_ok n (f := f9_0) (a1 := v192) ⟨rw194, hRl0, hW193.le hle9_0⟩ hx198) w0 _ w9 hw9)))) ?_; clear hs; (try clear a w); intro a w hs
           refine sy (v := .bool (x197)) hs (y_pick rfl rfl) ?_; clear hs; (try clear a w); intro a w hs
           refine sy (v := .bool (x197)) hs (y_move rfl) ?_; clear hs; (try clear a w); intro a w hs
           refine St.split hs (t := 50) rfl (fun hg199 hq => ?_) (fun hg199 hq => ?_)
           ·clear hs; have hs := hq; clear hq
            replace hm := oc_t hg199 hm
            refine syg hs (y_buildS (places := [(0, 1), (1, 1)]) (cs := [.string ((bs [97])), .string ((bs []))]) rfl Try.underlying29 ti29 (by kernel_rfl) (by decide) rfl ⟨rfl, trivial⟩) ?_; clear hs; (try clear a w); intro a w hs
            refine RL_guard hs rfl rfl ?_
            refine RL_bs1a hs rfl Try.underlying23 ti29 (by decide) (AllC.row ⟨rfl, rfl, trivial⟩ rfl) ?_; clear hs; (try clear a w); intro v200 a w hs
            have hW201 : RW t_api_Attr f183 [[.string ((bs [97])), .string ((bs []))]] [({Name := (bs [97]), Value := (bs [])} : api_Attr)] := RW.single (rfl)
            generalize hgrw202 : ([[.string ((bs [97])), .string ((bs []))]] : List (List Value)) = rw202 at hs hW201; clear hgrw202
            replace hs : St _ _ _ (.row v200 29 2 rw202 :: .row v192 25 5 rw194 :: .row v165 25 5 rw167 :: .row v146 25 5 rw148 :: .row v111 25 5 rw113 :: .row v69 25 5 rw71 :: .row v27 25 5 rw29 :: L) _ _ _ := hs
            obtain ⟨f205, hf206, hs2, hR207⟩ := hs.frzAt 0 rfl
            clear hs; have hs := hs2; clear hs2
            replace hR13 := hR13.le hf206
            replace hW14 := hW14.le hf206
            replace hR24 := hR24.le hf206
            replace hW25 := hW25.le hf206
            replace hW28 := hW28.le hf206
            replace hR44 := hR44.le hf206
            replace hW45 := hW45.le hf206
            replace hR55 := hR55.le hf206
            replace hW56 := hW56.le hf206
            replace hR66 := hR66.le hf206
            replace hW67 := hW67.le hf206
            replace hW70 := hW70.le hf206
            replace hR86 := hR86.le hf206
            replace hW87 := hW87.le hf206
            replace hR97 := hR97.le hf206
            replace hW98 := hW98.le hf206
            replace hR108 := hR108.le hf206
            replace hW109 := hW109.le hf206
            replace hW112 := hW112.le hf206
            replace hW128 := hW128.le hf206
            replace hR134 := hR134.le hf206
            replace hR143 := hR143.le hf206
            replace hW144 := hW144.le hf206
            replace hW147 := hW147.le hf206
            replace hR162 := hR162.le hf206
            replace hW163 := hW163.le hf206
            replace hW166 := hW166.le hf206
            replace hR189 := hR189.le hf206
            replace hW190 := hW190.le hf206
            replace hW193 := hW193.le hf206
            replace hW201 := hW201.le hf206
            replace hle := hle.trans hf206
            replace hbase4 := hbase4.trans hf206
            replace hs : St _ _ _ (.row v192 25 5 rw194 :: .row v165 25 5 rw167 :: .row v146 25 5 rw148 :: .row v111 25 5 rw113 :: .row v69 25 5 rw71 :: .row v27 25 5 rw29 :: L) _ _ _ := hs
            obtain ⟨x208, hx209, hm⟩ := ob hm
            refine RL_callVg hs rfl has15 rfl (law4_open_ok n (f := f205) (a2 := v200) ⟨rw202, hR207, hW201⟩ hx209) ?_; clear hs; (try clear a w)
            rintro _ f210 _ a w hf211 ⟨r212, rfl, rfl, hq213⟩ hs
            replace hR13 := hR13.le hf211
            replace hW14 := hW14.le hf211
            replace hR24 := hR24.le hf211
            replace hW25 := hW25.le hf211
            replace hW28 := hW28.le hf211
            replace hR44 := hR44.le hf211
            replace hW45 := hW45.le hf211
            replace hR55 := hR55.le hf211
            replace hW56 := hW56.le hf211
            replace hR66 := hR66.le hf211
            replace hW67 := hW67.le hf211
            replace hW70 := hW70.le hf211
            replace hR86 := hR86.le hf211
            replace hW87 := hW87.le hf211
            replace hR97 := hR97.le hf211
            replace hW98 := hW98.le hf211
            replace hR108 := hR108.le hf211
            replace hW109 := hW109.le hf211
            replace hW112 := hW112.le hf211
            replace hW128 := hW128.le hf211
            replace hR134 := hR134.le hf211
            replace hR143 := hR143.le hf211
            replace hW144 := hW144.le hf211
            replace hW147 := hW147.le hf211
            replace hR162 := hR162.le hf211
            replace hW163 := hW163.le hf211
            replace hW166 := hW166.le hf211
            replace hR189 := hR189.le hf211
            replace hW190 := hW190.le hf211
            replace hW193 := hW193.le hf211
            replace hW201 := hW201.le hf211
            replace hR207 := hR207.le hf211
            replace hle := hle.trans hf211
            replace hbase4 := hbase4.trans hf211
            obtain ⟨v214, rfl, ⟨rw215, hR216, hW217⟩⟩ := hq213
            replace hs : St _ _ _ (.row v192 25 5 rw194 :: .row v165 25 5 rw167 :: .row v146 25 5 rw148 :: .row v111 25 5 rw113 :: .row v69 25 5 rw71 :: .row v27 25 5 rw29 :: L) _ _ _ := hs
            refine RL_guard hs rfl rfl ?_
            refine RL_bs1a hs rfl Try.underlying39 ti25 (by decide) (AllC.row ⟨rfl, rfl, rfl, hR216.one, rfl, trivial⟩ rfl) ?_; clear hs; (try clear a w); intro v219 a w hs
            have hW220 : RW t_ref4_Token f210 [[.int .i64 (x208.Kind), .string (x208.Name), .string (x208.Text), v214, .bool (x208.Closed)]] [x208] := RW.single (⟨_, rfl, ⟨rw215, hR216, hW217⟩⟩)
            generalize hgrw221 : ([[.int .i64 (x208.Kind), .string (x208.Name), .string (x208.Text), v214, .bool (x208.Closed)]] : List (List Value)) = rw221 at hs hW220; clear hgrw221
            replace hs : St _ _ _ (.row v219 25 5 rw221 :: .row v192 25 5 rw194 :: .row v165 25 5 rw167 :: .row v146 25 5 rw148 :: .row v111 25 5 rw113 :: .row v69 25 5 rw71 :: .row v27 25 5 rw29 :: L) _ _ _ := hs
            obtain ⟨x224, hx225, hm⟩ := ob hm
            refine syg hs (y_callCK (cap := []) rfl has12 rfl (fun w9 hw9 => callsP (Lr := [.row v219 25 5 rw221]) (Lf := .row v192 25 5 rw194 :: .row v165 25 5 rw167 :: .row v146 25 5 rw148 :: .row v111 25 5 rw113 :: .row v69 25 5 rw71 :: .row v27 25 5 rw29 :: L) (perm_at _ 0 rfl) hw9 (fun Lz w9 hw9 => lent0 hw9 (fun f9_0 w9 hle9_0 hRl0 hw9 => (law4_cut_ok n (f := f9_0) (a1 := v219) ⟨rw221, hRl0, hW220.le hle9_0⟩ hx225) w0 _ w9 hw9)))) ?_; clear hs; (try clear a w); intro a w hs
            refine sy (v := .bool (x224)) hs (y_pick rfl rfl) ?_; clear hs; (try clear a w); intro a w hs
            refine sy (v := .bool (x224)) hs (y_move rfl) ?_; clear hs; (try clear a w); intro a w hs
            refine St.split hs (t := 57) rfl (fun hg226 hq => ?_) (fun hg226 hq => ?_)
            ·clear hs; have hs := hq; clear hq
             replace hm := oc_t hg226 hm
             obtain ⟨x228, hx229, hm⟩ := ob hm
             refine RL_callVg hs rfl has15 rfl (law4_open_ok n (f := f210) (a2 := (.slice none 0 0)) RS.nil hx229) ?_; clear hs; (try clear a w)
             rintro _ f230 _ a w hf231 ⟨r232, rfl, rfl, hq233⟩ hs
             replace hR13 := hR13.le hf231
             replace hW14 := hW14.le hf231
             replace hR24 := hR24.le hf231
             replace hW25 := hW25.le hf231
             replace hW28 := hW28.le hf231
             replace hR44 := hR44.le hf231
             replace hW45 := hW45.le hf231
             replace hR55 := hR55.le hf231
             replace hW56 := hW56.le hf231
             replace hR66 := hR66.le hf231
             replace hW67 := hW67.le hf231
             replace hW70 := hW70.le hf231
             replace hR86 := hR86.le hf231
             replace hW87 := hW87.le hf231
             replace hR97 := hR97.le hf231
             replace hW98 := hW98.le hf231
             replace hR108 := hR108.le hf231
             replace hW109 := hW109.le hf231
             replace hW112 := hW112.le hf231
             replace hW128 := hW128.le hf231
             replace hR134 := hR134.le hf231
             replace hR143 := hR143.le hf231
             replace hW144 := hW144.le hf231
             replace hW147 := hW147.le hf231
             replace hR162 := hR162.le hf231
             replace hW163 := hW163.le hf231
             replace hW166 := hW166.le hf231
             replace hR189 := hR189.le hf231
             replace hW190 := hW190.le hf231
             replace hW193 := hW193.le hf231
             replace hW201 := hW201.le hf231
             replace hR207 := hR207.le hf231
             replace hR216 := hR216.le hf231
             replace hW217 := hW217.le hf231
             replace hW220 := hW220.le hf231
             replace hle := hle.trans hf231
             replace hbase4 := hbase4.trans hf231
             obtain ⟨v234, rfl, ⟨rw235, hR236, hW237⟩⟩ := hq233
             replace hs : St _ _ _ (.row v219 25 5 rw221 :: .row v192 25 5 rw194 :: .row v165 25 5 rw167 :: .row v146 25 5 rw148 :: .row v111 25 5 rw113 :: .row v69 25 5 rw71 :: .row v27 25 5 rw29 :: L) _ _ _ := hs
             obtain ⟨x239, hx240, hm⟩ := ob hm
             refine RL_callVg hs rfl has13 rfl (law4_chars_ok n (f := f230)  hx240) ?_; clear hs; (try clear a w)
             rintro _ f241 _ a w hf242 ⟨r243, rfl, rfl, hq244⟩ hs
             replace hR13 := hR13.le hf242
             replace hW14 := hW14.le hf242
             replace hR24 := hR24.le hf242
             replace hW25 := hW25.le hf242
             replace hW28 := hW28.le hf242
             replace hR44 := hR44.le hf242
             replace hW45 := hW45.le hf242
             replace hR55 := hR55.le hf242
             replace hW56 := hW56.le hf242
             replace hR66 := hR66.le hf242
             replace hW67 := hW67.le hf242
             replace hW70 := hW70.le hf242
             replace hR86 := hR86.le hf242
             replace hW87 := hW87.le hf242
             replace hR97 := hR97.le hf242
             replace hW98 := hW98.le hf242
             replace hR108 := hR108.le hf242
             replace hW109 := hW109.le hf242
             replace hW112 := hW112.le hf242
             replace hW128 := hW128.le hf242
             replace hR134 := hR134.le hf242
             replace hR143 := hR143.le hf242
             replace hW144 := hW144.le hf242
             replace hW147 := hW147.le hf242
             replace hR162 := hR162.le hf242
             replace hW163 := hW163.le hf242
             replace hW166 := hW166.le hf242
             replace hR189 := hR189.le hf242
             replace hW190 := hW190.le hf242
             replace hW193 := hW193.le hf242
             replace hW201 := hW201.le hf242
             replace hR207 := hR207.le hf242
             replace hR216 := hR216.le hf242
             replace hW217 := hW217.le hf242
             replace hW220 := hW220.le hf242
             replace hR236 := hR236.le hf242
             replace hW237 := hW237.le hf242
             replace hle := hle.trans hf242
             replace hbase4 := hbase4.trans hf242
             obtain ⟨v245, rfl, ⟨rw246, hR247, hW248⟩⟩ := hq244
             replace hs : St _ _ _ (.row v219 25 5 rw221 :: .row v192 25 5 rw194 :: .row v165 25 5 rw167 :: .row v146 25 5 rw148 :: .row v111 25 5 rw113 :: .row v69 25 5 rw71 :: .row v27 25 5 rw29 :: L) _ _ _ := hs
             refine RL_guard hs rfl rfl ?_
             refine RL_bsN (parts := [(0, .tmp 58), (1, .tmp 59)]) (us := [.agg #[.int .i64 (x228.Kind), .string (x228.Name), .string (x228.Text), v234, .bool (x228.Closed)], .agg #[.int .i64 (x239.Kind), .string (x239.Name), .string (x239.Text), v245, .bool (x239.Closed)]]) (rows := [[.int .i64 (x228.Kind), .string (x228.Name), .string (x228.Text), v234, .bool (x228.Closed)], [.int .i64 (x239.Kind), .string (x239.Name), .string (x239.Text), v245, .bool (x239.Closed)]]) hs rfl Try.underlying39 ti25 (by decide) rfl rfl (by intro r hr; simp only [List.mem_cons, List.mem_nil_iff, or_false] at hr; rcases hr with rfl | rfl; exact AllC.row ⟨rfl, rfl, rfl, hR236.one, rfl, trivial⟩ rfl; exact AllC.row ⟨rfl, rfl, rfl, hR247.one, rfl, trivial⟩ rfl) ?_; clear hs; (try clear a w); intro v250 a w hs
             have hW251 : RW t_ref4_Token f241 [[.int .i64 (x228.Kind), .string (x228.Name), .string (x228.Text), v234, .bool (x228.Closed)], [.int .i64 (x239.Kind), .string (x239.Name), .string (x239.Text), v245, .bool (x239.Closed)]] [x228, x239] := ⟨⟨_, rfl, ⟨rw235, hR236, hW237⟩⟩, ⟨⟨_, rfl, ⟨rw246, hR247, hW248⟩⟩, trivial⟩⟩
             generalize hgrw252 : ([[.int .i64 (x228.Kind), .string (x228.Name), .string (x228.Text), v234, .bool (x228.Closed)], [.int .i64 (x239.Kind), .string (x239.Name), .string (x239.Text), v245, .bool (x239.Closed)]] : List (List Value)) = rw252 at hs hW251; clear hgrw252
             replace hs : St _ _ _ (.row v250 25 5 rw252 :: .row v219 25 5 rw221 :: .row v192 25 5 rw194 :: .row v165 25 5 rw167 :: .row v146 25 5 rw148 :: .row v111 25 5 rw113 :: .row v69 25 5 rw71 :: .row v27 25 5 rw29 :: L) _ _ _ := hs
             obtain ⟨x255, hx256, hm⟩ := ob hm
             refine syg hs (y_callCK (cap := []) rfl has12 rfl (fun w9 hw9 => callsP (Lr := [.row v250 25 5 rw252]) (Lf := .row v219 25 5 rw221 :: .row v192 25 5 rw194 :: .row v165 25 5 rw167 :: .row v146 25 5 rw148 :: .row v111 25 5 rw113 :: .row v69 25 5 rw71 :: .row v27 25 5 rw29 :: L) (perm_at _ 0 rfl) hw9 (fun Lz w9 hw9 => lent0 hw9 (fun f9_0 w9 hle9_0 hRl0 hw9 => (law4_cut_ok n (f := f9_0) (a1 := v250) ⟨rw252, hRl0, hW251.le hle9_0⟩ hx256) w0 _ w9 hw9)))) ?_; clear hs; (try clear a w); intro a w hs
             refine sy (v := .bool (x255)) hs (y_pick rfl rfl) ?_; clear hs; (try clear a w); intro a w hs
             refine sy (v := .bool (x255)) hs (y_move rfl) ?_; clear hs; (try clear a w); intro a w hs
             refine St.split hs (t := 63) rfl (fun hg257 hq => ?_) (fun hg257 hq => ?_)
             ·clear hs; have hs := hq; clear hq
              replace hm := oc_t hg257 hm
              obtain ⟨x258, hx259, hm⟩ := ob hm
              refine syg hs (y_call rfl has16 rfl (mark_Unescape_ok n (f := f241)  hx259)) ?_; clear hs; (try clear a w); intro a w hs
              refine syg hs (y_seql rfl rfl) ?_; clear hs; (try clear a w); intro a w hs
              refine sy (v := .bool (decide (x258 = (bs [194, 160, 34, 239, 191, 189, 239, 191, 189, 38, 35, 49, 50, 51, 52, 53, 54, 55, 56, 57, 59])))) hs (y_pick rfl rfl) ?_; clear hs; (try clear a w); intro a w hs
              refine sy (v := .bool (decide (x258 = (bs [194, 160, 34, 239, 191, 189, 239, 191, 189, 38, 35, 49, 50, 51, 52, 53, 54, 55, 56, 57, 59])))) hs (y_move rfl) ?_; clear hs; (try clear a w); intro a w hs
              refine St.split hs (t := 67) rfl (fun hg260 hq => ?_) (fun hg260 hq => ?_)
              ·clear hs; have hs := hq; clear hq
               replace hm := oc_t hg260 hm
               obtain ⟨x261, hx262, hm⟩ := ob hm
               refine syg hs (y_call rfl has17 rfl (law4_known_ok n (f := f241)  hx262)) ?_; clear hs; (try clear a w); intro a w hs
               refine sy (v := .bool (x261)) hs (y_pick rfl rfl) ?_; clear hs; (try clear a w); intro a w hs
               refine sy (v := .bool (x261)) hs (y_assign rfl) ?_; clear hs; (try clear a w); intro a w hs
               refine RL_nil ?_
               exact ⟨_, x261, hbase4, hm, hs.subs ⟨rfl, trivial⟩ (.cons _ (.cons _ (.cons _ (.cons _ (.cons _ (.cons _ (.cons _ (.cons _ (.refl _)))))))))⟩
              ·clear hs; have hs := hq; clear hq
               replace hm := oc_f hg260 hm
               refine sno hs ?_; clear hs; (try clear a w); intro a w hs
               refine sy (v := .bool (false)) hs (y_pick rfl rfl) ?_; clear hs; (try clear a w); intro a w hs
               refine sy (v := .bool (false)) hs (y_assign rfl) ?_; clear hs; (try clear a w); intro a w hs
               refine RL_nil ?_
               exact ⟨_, false, hbase4, hm, hs.subs ⟨rfl, trivial⟩ (.cons _ (.cons _ (.cons _ (.cons _ (.cons _ (.cons _ (.cons _ (.cons _ (.refl _)))))))))⟩
             ·clear hs; have hs := hq; clear hq
              replace hm := oc_f hg257 hm
              refine sno hs ?_; clear hs; (try clear a w); intro a w hs
              refine sno hs ?_; clear hs; (try clear a w); intro a w hs
              refine sy (v := .bool (false)) hs (y_pick rfl rfl) ?_; clear hs; (try clear a w); intro a w hs
              refine sy (v := .bool (false)) hs (y_move rfl) ?_; clear hs; (try clear a w); intro a w hs
              refine sno hs ?_; clear hs; (try clear a w); intro a w hs
              refine sy (v := .bool (false)) hs (y_pick rfl rfl) ?_; clear hs; (try clear a w); intro a w hs
              refine sy (v := .bool (false)) hs (y_assign rfl) ?_; clear hs; (try clear a w); intro a w hs
              refine RL_nil ?_
              exact ⟨_, false, hbase4, hm, hs.subs ⟨rfl, trivial⟩ (.cons _ (.cons _ (.cons _ (.cons _ (.cons _ (.cons _ (.cons _ (.cons _ (.refl _)))))))))⟩
            ·clear hs; have hs := hq; clear hq
             replace hm := oc_f hg226 hm
             refine sno hs ?_; clear hs; (try clear a w); intro a w hs
             refine sno hs ?_; clear hs; (try clear a w); intro a w hs
             refine sno hs ?_; clear hs; (try clear a w); intro a w hs
             refine sno hs ?_; clear hs; (try clear a w); intro a w hs
             refine sy (v := .bool (false)) hs (y_pick rfl rfl) ?_; clear hs; (try clear a w); intro a w hs
             refine sy (v := .bool (false)) hs (y_move rfl) ?_; clear hs; (try clear a w); intro a w hs
             refine sno hs ?_; clear hs; (try clear a w); intro a w hs
             refine sno hs ?_; clear hs; (try clear a w); intro a w hs
             refine sy (v := .bool (false)) hs (y_pick rfl rfl) ?_; clear hs; (try clear a w); intro a w hs
             refine sy (v := .bool (false)) hs (y_move rfl) ?_; clear hs; (try clear a w); intro a w hs
             refine sno hs ?_; clear hs; (try clear a w); intro a w hs
             refine sy (v := .bool (false)) hs (y_pick rfl rfl) ?_; clear hs; (try clear a w); intro a w hs
             refine sy (v := .bool (false)) hs (y_assign rfl) ?_; clear hs; (try clear a w); intro a w hs
             refine RL_nil ?_
             exact ⟨_, false, hbase4, hm, hs.subs ⟨rfl, trivial⟩ (.cons _ (.cons _ (.cons _ (.cons _ (.cons _ (.cons _ (.cons _ (.refl _))))))))⟩
           ·clear hs; have hs := hq; clear hq
            replace hm := oc_f hg199 hm
            refine sno hs ?_; clear hs; (try clear a w); intro a w hs
            refine sno hs ?_; clear hs; (try clear a w); intro a w hs
            refine sno hs ?_; clear hs; (try clear a w); intro a w hs
            refine sno hs ?_; clear hs; (try clear a w); intro a w hs
            refine sno hs ?_; clear hs; (try clear a w); intro a w hs
            refine sy (v := .bool (false)) hs (y_pick rfl rfl) ?_; clear hs; (try clear a w); intro a w hs
            refine sy (v := .bool (false)) hs (y_move rfl) ?_; clear hs; (try clear a w); intro a w hs
            refine sno hs ?_; clear hs; (try clear a w); intro a w hs
            refine sno hs ?_; clear hs; (try clear a w); intro a w hs
            refine sno hs ?_; clear hs; (try clear a w); intro a w hs
            refine sno hs ?_; clear hs; (try clear a w); intro a w hs
            refine sy (v := .bool (false)) hs (y_pick rfl rfl) ?_; clear hs; (try clear a w); intro a w hs
            refine sy (v := .bool (false)) hs (y_move rfl) ?_; clear hs; (try clear a w); intro a w hs
            refine sno hs ?_; clear hs; (try clear a w); intro a w hs
            refine sno hs ?_; clear hs; (try clear a w); intro a w hs
            refine sy (v := .bool (false)) hs (y_pick rfl rfl) ?_; clear hs; (try clear a w); intro a w hs
            refine sy (v := .bool (false)) hs (y_move rfl) ?_; clear hs; (try clear a w); intro a w hs
            refine sno hs ?_; clear hs; (try clear a w); intro a w hs
            refine sy (v := .bool (false)) hs (y_pick rfl rfl) ?_; clear hs; (try clear a w); intro a w hs
            refine sy (v := .bool (false)) hs (y_assign rfl) ?_; clear hs; (try clear a w); intro a w hs
            refine RL_nil ?_
            exact ⟨_, false, hbase4, hm, hs.subs ⟨rfl, trivial⟩ (.cons _ (.cons _ (.cons _ (.cons _ (.cons _ (.cons _ (.refl _)))))))⟩
          ·clear hs; have hs := hq; clear hq
           replace hm := oc_f hg180 hm
           refine sno hs ?_; clear hs; (try clear a w); intro a w hs
           refine sno hs ?_; clear hs; (try clear a w); intro a w hs
           refine sno hs ?_; clear hs; (try clear a w); intro a w hs
           refine sy (v := .bool (false)) hs (y_pick rfl rfl) ?_; clear hs; (try clear a w); intro a w hs
           refine sy (v := .bool (false)) hs (y_move rfl) ?_; clear hs; (try clear a w); intro a w hs
           refine sno hs ?_; clear hs; (try clear a w); intro a w hs
           refine sno hs ?_; clear hs; (try clear a w); intro a w hs
           refine sno hs ?_; clear hs; (try clear a w); intro a w hs
           refine sno hs ?_; clear hs; (try clear a w); intro a w hs
           refine sno hs ?_; clear hs; (try clear a w); intro a w hs
           refine sy (v := .bool (false)) hs (y_pick rfl rfl) ?_; clear hs; (try clear a w); intro a w hs
           refine sy (v := .bool (false)) hs (y_move rfl) ?_; clear hs; (try clear a w); intro a w hs
           refine sno hs ?_; clear hs; (try clear a w); intro a w hs
           refine sno hs ?_; clear hs; (try clear a w); intro a w hs
           refine sno hs ?_; clear hs; (try clear a w); intro a w hs
           refine sno hs ?_; clear hs; (try clear a w); intro a w hs
           refine sy (v := .bool (false)) hs (y_pick rfl rfl) ?_; clear hs; (try clear a w); intro a w hs
           refine sy (v := .bool (false)) hs (y_move rfl) ?_; clear hs; (try clear a w); intro a w hs
           refine sno hs ?_; clear hs; (try clear a w); intro a w hs
           refine sno hs ?_; clear hs; (try clear a w); intro a w hs
           refine sy (v := .bool (false)) hs (y_pick rfl rfl) ?_; clear hs; (try clear a w); intro a w hs
           refine sy (v := .bool (false)) hs (y_move rfl) ?_; clear hs; (try clear a w); intro a w hs
           refine sno hs ?_; clear hs; (try clear a w); intro a w hs
           refine sy (v := .bool (false)) hs (y_pick rfl rfl) ?_; clear hs; (try clear a w); intro a w hs
           refine sy (v := .bool (false)) hs (y_assign rfl) ?_; clear hs; (try clear a w); intro a w hs
           refine RL_nil ?_
           exact ⟨_, false, hbase4, hm, hs.subs ⟨rfl, trivial⟩ (.cons _ (.cons _ (.cons _ (.cons _ (.cons _ (.refl _))))))⟩
         ·clear hs; have hs := hq; clear hq
          replace hm := oc_f hg176 hm
          refine sno hs ?_; clear hs; (try clear a w); intro a w hs
          refine sy (v := .bool (false)) hs (y_pick rfl rfl) ?_; clear hs; (try clear a w); intro a w hs
          refine sy (v := .bool (false)) hs (y_move rfl) ?_; clear hs; (try clear a w); intro a w hs
          refine sno hs ?_; clear hs; (try clear a w); intro a w hs
          refine sno hs ?_; clear hs; (try clear a w); intro a w hs
          refine sno hs ?_; clear hs; (try clear a w); intro a w hs
          refine sy (v := .bool (false)) hs (y_pick rfl rfl) ?_; clear hs; (try clear a w); intro a w hs
          refine sy (v := .bool (false)) hs (y_move rfl) ?_; clear hs; (try clear a w); intro a w hs
          refine sno hs ?_; clear hs; (try clear a w); intro a w hs
          refine sno hs ?_; clear hs; (try clear a w); intro a w hs
          refine sno hs ?_; clear hs; (try clear a w); intro a w hs
          refine sno hs ?_; clear hs; (try clear a w); intro a w hs
          refine sno hs ?_; clear hs; (try clear a w); intro a w hs
          refine sy (v := .bool (false)) hs (y_pick rfl rfl) ?_; clear hs; (try clear a w); intro a w hs
          refine sy (v := .bool (false)) hs (y_move rfl) ?_; clear hs; (try clear a w); intro a w hs
          refine sno hs ?_; clear hs; (try clear a w); intro a w hs
          refine sno hs ?_; clear hs; (try clear a w); intro a w hs
          refine sno hs ?_; clear hs; (try clear a w); intro a w hs
          refine sno hs ?_; clear hs; (try clear a w); intro a w hs
          refine sy (v := .bool (false)) hs (y_pick rfl rfl) ?_; clear hs; (try clear a w); intro a w hs
          refine sy (v := .bool (false)) hs (y_move rfl) ?_; clear hs; (try clear a w); intro a w hs
          refine sno hs ?_; clear hs; (try clear a w); intro a w hs
          refine sno hs ?_; clear hs; (try clear a w); intro a w hs
          refine sy (v := .bool (false)) hs (y_pick rfl rfl) ?_; clear hs; (try clear a w); intro a w hs
          refine sy (v := .bool (false)) hs (y_move rfl) ?_; clear hs; (try clear a w); intro a w hs
          refine sno hs ?_; clear hs; (try clear a w); intro a w hs
          refine sy (v := .bool (false)) hs (y_pick rfl rfl) ?_; clear hs; (try clear a w); intro a w hs
          refine sy (v := .bool (false)) hs (y_assign rfl) ?_; clear hs; (try clear a w); intro a w hs
          refine RL_nil ?_
          exact ⟨_, false, hbase4, hm, hs.subs ⟨rfl, trivial⟩ (.cons _ (.cons _ (.cons _ (.cons _ (.cons _ (.refl _))))))⟩
        ·clear hs; have hs := hq; clear hq
         replace hm := oc_f hg172 hm
         refine sno hs ?_; clear hs; (try clear a w); intro a w hs
         refine sy (v := .bool (false)) hs (y_pick rfl rfl) ?_; clear hs; (try clear a w); intro a w hs
         refine sy (v := .bool (false)) hs (y_move rfl) ?_; clear hs; (try clear a w); intro a w hs
         refine sno hs ?_; clear hs; (try clear a w); intro a w hs
         refine sy (v := .bool (false)) hs (y_pick rfl rfl) ?_; clear hs; (try clear a w); intro a w hs
         refine sy (v := .bool (false)) hs (y_move rfl) ?_; clear hs; (try clear a w); intro a w hs
         refine sno hs ?_; clear hs; (try clear a w); intro a w hs
         refine sno hs ?_; clear hs; (try clear a w); intro a w hs
         refine sno hs ?_; clear hs; (try clear a w); intro a w hs
         refine sy (v := .bool (false)) hs (y_pick rfl rfl) ?_; clear hs; (try clear a w); intro a w hs
         refine sy (v := .bool (false)) hs (y_move rfl) ?_; clear hs; (try clear a w); intro a w hs
         refine sno hs ?_; clear hs; (try clear a w); intro a w hs
         refine sno hs ?_; clear hs; (try clear a w); intro a w hs
         refine sno hs ?_; clear hs; (try clear a w); intro a w hs
         refine sno hs ?_; clear hs; (try clear a w); intro a w hs
         refine sno hs ?_; clear hs; (try clear a w); intro a w hs
         refine sy (v := .bool (false)) hs (y_pick rfl rfl) ?_; clear hs; (try clear a w); intro a w hs
         refine sy (v := .bool (false)) hs (y_move rfl) ?_; clear hs; (try clear a w); intro a w hs
         refine sno hs ?_; clear hs; (try clear a w); intro a w hs
         refine sno hs ?_; clear hs; (try clear a w); intro a w hs
         refine sno hs ?_; clear hs; (try clear a w); intro a w hs
         refine sno hs ?_; clear hs; (try clear a w); intro a w hs
         refine sy (v := .bool (false)) hs (y_pick rfl rfl) ?_; clear hs; (try clear a w); intro a w hs
         refine sy (v := .bool (false)) hs (y_move rfl) ?_; clear hs; (try clear a w); intro a w hs
         refine sno hs ?_; clear hs; (try clear a w); intro a w hs
         refine sno hs ?_; clear hs; (try clear a w); intro a w hs
         refine sy (v := .bool (false)) hs (y_pick rfl rfl) ?_; clear hs; (try clear a w); intro a w hs
         refine sy (v := .bool (false)) hs (y_move rfl) ?_; clear hs; (try clear a w); intro a w hs
         refine sno hs ?_; clear hs; (try clear a w); intro a w hs
         refine sy (v := .bool (false)) hs (y_pick rfl rfl) ?_; clear hs; (try clear a w); intro a w hs
         refine sy (v := .bool (false)) hs (y_assign rfl) ?_; clear hs; (try clear a w); intro a w hs
         refine RL_nil ?_
         exact ⟨_, false, hbase4, hm, hs.subs ⟨rfl, trivial⟩ (.cons _ (.cons _ (.cons _ (.cons _ (.cons _ (.refl _))))))⟩
       ·clear hs; have hs := hq; clear hq
        replace hm := oc_f hg153 hm
        refine sno hs ?_; clear hs; (try clear a w); intro a w hs
        refine sno hs ?_; clear hs; (try clear a w); intro a w hs
        refine sno hs ?_; clear hs; (try clear a w); intro a w hs
        refine sy (v := .bool (false)) hs (y_pick rfl rfl) ?_; clear hs; (try clear a w); intro a w hs
        refine sy (v := .bool (false)) hs (y_move rfl) ?_; clear hs; (try clear a w); intro a w hs
        refine sno hs ?_; clear hs; (try clear a w); intro a w hs
        refine sy (v := .bool (false)) hs (y_pick rfl rfl) ?_; clear hs; (try clear a w); intro a w hs
        refine sy (v := .bool (false)) hs (y_move rfl) ?_; clear hs; (try clear a w); intro a w hs
        refine sno hs ?_; clear hs; (try clear a w); intro a w hs
        refine sy (v := .bool (false)) hs (y_pick rfl rfl) ?_; clear hs; (try clear a w); intro a w hs
        refine sy (v := .bool (false)) hs (y_move rfl) ?_; clear hs; (try clear a w); intro a w hs
        refine sno hs ?_; clear hs; (try clear a w); intro a w hs
        refine sno hs ?_; clear hs; (try clear a w); intro a w hs
        refine sno hs ?_; clear hs; (try clear a w); intro a w hs
        refine sy (v := .bool (false)) hs (y_pick rfl rfl) ?_; clear hs; (try clear a w); intro a w hs
        refine sy (v := .bool (false)) hs (y_move rfl) ?_; clear hs; (try clear a w); intro a w hs
        refine sno hs ?_; clear hs; (try clear a w); intro a w hs
        refine sno hs ?_; clear hs; (try clear a w); intro a w hs
        refine sno hs ?_; clear hs; (try clear a w); intro a w hs
        refine sno hs ?_; clear hs; (try clear a w); intro a w hs
        refine sno hs ?_; clear hs; (try clear a w); intro a w hs
        refine sy (v := .bool (false)) hs (y_pick rfl rfl) ?_; clear hs; (try clear a w); intro a w hs
        refine sy (v := .bool (false)) hs (y_move rfl) ?_; clear hs; (try clear a w); intro a w hs
        refine sno hs ?_; clear hs; (try clear a w); intro a w hs
        refine sno hs ?_; clear hs; (try clear a w); intro a w hs
        refine sno hs ?_; clear hs; (try clear a w); intro a w hs
        refine sno hs ?_; clear hs; (try clear a w); intro a w hs
        refine sy (v := .bool (false)) hs (y_pick rfl rfl) ?_; clear hs; (try clear a w); intro a w hs
        refine sy (v := .bool (false)) hs (y_move rfl) ?_; clear hs; (try clear a w); intro a w hs
        refine sno hs ?_; clear hs; (try clear a w); intro a w hs
        refine sno hs ?_; clear hs; (try clear a w); intro a w hs
        refine sy (v := .bool (false)) hs (y_pick rfl rfl) ?_; clear hs; (try clear a w); intro a w hs
        refine sy (v := .bool (false)) hs (y_move rfl) ?_; clear hs; (try clear a w); intro a w hs
        refine sno hs ?_; clear hs; (try clear a w); intro a w hs
        refine sy (v := .bool (false)) hs (y_pick rfl rfl) ?_; clear hs; (try clear a w); intro a w hs
        refine sy (v := .bool (false)) hs (y_assign rfl) ?_; clear hs; (try clear a w); intro a w hs
        refine RL_nil ?_
        exact ⟨_, false, hbase4, hm, hs.subs ⟨rfl, trivial⟩ (.cons _ (.cons _ (.cons _ (.cons _ (.refl _)))))⟩
      ·clear hs; have hs := hq; clear hq
       replace hm := oc_f hg126 hm
       refine sno hs ?_; clear hs; (try clear a w); intro a w hs
       refine sno hs ?_; clear hs; (try clear a w); intro a w hs
       refine sno hs ?_; clear hs; (try clear a w); intro a w hs
       refine sno hs ?_; clear hs; (try clear a w); intro a w hs
       refine sno hs ?_; clear hs; (try clear a w); intro a w hs
       refine sy (v := .bool (false)) hs (y_pick rfl rfl) ?_; clear hs; (try clear a w); intro a w hs
       refine sy (v := .bool (false)) hs (y_move rfl) ?_; clear hs; (try clear a w); intro a w hs
       refine sno hs ?_; clear hs; (try clear a w); intro a w hs
       refine sno hs ?_; clear hs; (try clear a w); intro a w hs
       refine sno hs ?_; clear hs; (try clear a w); intro a w hs
       refine sy (v := .bool (false)) hs (y_pick rfl rfl) ?_; clear hs; (try clear a w); intro a w hs
       refine sy (v := .bool (false)) hs (y_move rfl) ?_; clear hs; (try clear a w); intro a w hs
       refine sno hs ?_; clear hs; (try clear a w); intro a w hs
       refine sy (v := .bool (false)) hs (y_pick rfl rfl) ?_; clear hs; (try clear a w); intro a w hs
       refine sy (v := .bool (false)) hs (y_move rfl) ?_; clear hs; (try clear a w); intro a w hs
       refine sno hs ?_; clear hs; (try clear a w); intro a w hs
       refine sy (v := .bool (false)) hs (y_pick rfl rfl) ?_; clear hs; (try clear a w); intro a w hs
       refine sy (v := .bool (false)) hs (y_move rfl) ?_; clear hs; (try clear a w); intro a w hs
       refine sno hs ?_; clear hs; (try clear a w); intro a w hs
       refine sno hs ?_; clear hs; (try clear a w); intro a w hs
       refine sno hs ?_; clear hs; (try clear a w); intro a w hs
       refine sy (v := .bool (false)) hs (y_pick rfl rfl) ?_; clear hs; (try clear a w); intro a w hs
       refine sy (v := .bool (false)) hs (y_move rfl) ?_; clear hs; (try clear a w); intro a w hs
       refine sno hs ?_; clear hs; (try clear a w); intro a w hs
       refine sno hs ?_; clear hs; (try clear a w); intro a w hs
       refine sno hs ?_; clear hs; (try clear a w); intro a w hs
       refine sno hs ?_; clear hs; (try clear a w); intro a w hs
       refine sno hs ?_; clear hs; (try clear a w); intro a w hs
       refine sy (v := .bool (false)) hs (y_pick rfl rfl) ?_; clear hs; (try clear a w); intro a w hs
       refine sy (v := .bool (false)) hs (y_move rfl) ?_; clear hs; (try clear a w); intro a w hs
       refine sno hs ?_; clear hs; (try clear a w); intro a w hs
       refine sno hs ?_; clear hs; (try clear a w); intro a w hs
       refine sno hs ?_; clear hs; (try clear a w); intro a w hs
       refine sno hs ?_; clear hs; (try clear a w); intro a w hs
       refine sy (v := .bool (false)) hs (y_pick rfl rfl) ?_; clear hs; (try clear a w); intro a w hs
       refine sy (v := .bool (false)) hs (y_move rfl) ?_; clear hs; (try clear a w); intro a w hs
       refine sno hs ?_; clear hs; (try clear a w); intro a w hs
       refine sno hs ?_; clear hs; (try clear a w); intro a w hs
       refine sy (v := .bool (false)) hs (y_pick rfl rfl) ?_; clear hs; (try clear a w); intro a w hs
       refine sy (v := .bool (false)) hs (y_move rfl) ?_; clear hs; (try clear a w); intro a w hs
       refine sno hs ?_; clear hs; (try clear a w); intro a w hs
       refine sy (v := .bool (false)) hs (y_pick rfl rfl) ?_; clear hs; (try clear a w); intro a w hs
       refine sy (v := .bool (false)) hs (y_assign rfl) ?_; clear hs; (try clear a w); intro a w hs
       refine RL_nil ?_
       exact ⟨_, false, hbase4, hm, hs.subs ⟨rfl, trivial⟩ (.cons _ (.cons _ (.cons _ (.refl _))))⟩
     ·clear hs; have hs := hq; clear hq
      replace hm := oc_f hg122 hm
      refine sno hs ?_; clear hs; (try clear a w); intro a w hs
      refine sy (v := .bool (false)) hs (y_pick rfl rfl) ?_; clear hs; (try clear a w); intro a w hs
      refine sy (v := .bool (false)) hs (y_move rfl) ?_; clear hs; (try clear a w); intro a w hs
      refine sno hs ?_; clear hs; (try clear a w); intro a w hs
      refine sno hs ?_; clear hs; (try clear a w); intro a w hs
      refine sno hs ?_; clear hs; (try clear a w); intro a w hs
      refine sno hs ?_; clear hs; (try clear a w); intro a w hs
      refine sno hs ?_; clear hs; (try clear a w); intro a w hs
      refine sy (v := .bool (false)) hs (y_pick rfl rfl) ?_; clear hs; (try clear a w); intro a w hs
      refine sy (v := .bool (false)) hs (y_move rfl) ?_; clear hs; (try clear a w); intro a w hs
      refine sno hs ?_; clear hs; (try clear a w); intro a w hs
      refine sno hs ?_; clear hs; (try clear a w); intro a w hs
      refine sno hs ?_; clear hs; (try clear a w); intro a w hs
      refine sy (v := .bool (false)) hs (y_pick rfl rfl) ?_; clear hs; (try clear a w); intro a w hs
      refine sy (v := .bool (false)) hs (y_move rfl) ?_; clear hs; (try clear a w); intro a w hs
      refine sno hs ?_; clear hs; (try clear a w); intro a w hs
      refine sy (v := .bool (false)) hs (y_pick rfl rfl) ?_; clear hs; (try clear a w); intro a w hs
      refine sy (v := .bool (false)) hs (y_move rfl) ?_; clear hs; (try clear a w); intro a w hs
      refine sno hs ?_; clear hs; (try clear a w); intro a w hs
      refine sy (v := .bool (false)) hs (y_pick rfl rfl) ?_; clear hs; (try clear a w); intro a w hs
      refine sy (v := .bool (false)) hs (y_move rfl) ?_; clear hs; (try clear a w); intro a w hs
      refine sno hs ?_; clear hs; (try clear a w); intro a w hs
      refine sno hs ?_; clear hs; (try clear a w); intro a w hs
      refine sno hs ?_; clear hs; (try clear a w); intro a w hs
      refine sy (v := .bool (false)) hs (y_pick rfl rfl) ?_; clear hs; (try clear a w); intro a w hs
      refine sy (v := .bool (false)) hs (y_move rfl) ?_; clear hs; (try clear a w); intro a w hs
      refine sno hs ?_; clear hs; (try clear a w); intro a w hs
      refine sno hs ?_; clear hs; (try clear a w); intro a w hs
      refine sno hs ?_; clear hs; (try clear a w); intro a w hs
      refine sno hs ?_; clear hs; (try clear a w); intro a w hs
      refine sno hs ?_; clear hs; (try clear a w); intro a w hs
      refine sy (v := .bool (false)) hs (y_pick rfl rfl) ?_; clear hs; (try clear a w); intro a w hs
      refine sy (v := .bool (false)) hs (y_move rfl) ?_; clear hs; (try clear a w); intro a w hs
      refine sno hs ?_; clear hs; (try clear a w); intro a w hs
      refine sno hs ?_; clear hs; (try clear a w); intro a w hs
      refine sno hs ?_; clear hs; (try clear a w); intro a w hs
      refine sno hs ?_; clear hs; (try clear a w); intro a w hs
      refine sy (v := .bool (false)) hs (y_pick rfl rfl) ?_; clear hs; (try clear a w); intro a w hs
      refine sy (v := .bool (false)) hs (y_move rfl) ?_; clear hs; (try clear a w); intro a w hs
      refine sno hs ?_; clear hs; (try clear a w); intro a w hs
      refine sno hs ?_; clear hs; (try clear a w); intro a w hs
      refine sy (v := .bool (false)) hs (y_pick rfl rfl) ?_; clear hs; (try clear a w); intro a w hs
      refine sy (v := .bool (false)) hs (y_move rfl) ?_; clear hs; (try clear a w); intro a w hs
      refine sno hs ?_; clear hs; (try clear a w); intro a w hs
      refine sy (v := .bool (false)) hs (y_pick rfl rfl) ?_; clear hs; (try clear a w); intro a w hs
      refine sy (v := .bool (false)) hs (y_assign rfl) ?_; clear hs; (try clear a w); intro a w hs
      refine RL_nil ?_
      exact ⟨_, false, hbase4, hm, hs.subs ⟨rfl, trivial⟩ (.cons _ (.cons _ (.cons _ (.refl _))))⟩
    ·clear hs; have hs := hq; clear hq
     replace hm := oc_f hg118 hm
     refine sno hs ?_; clear hs; (try clear a w); intro a w hs
     refine sy (v := .bool (false)) hs (y_pick rfl rfl) ?_; clear hs; (try clear a w); intro a w hs
     refine sy (v := .bool (false)) hs (y_move rfl) ?_; clear hs; (try clear a w); intro a w hs
     refine sno hs ?_; clear hs; (try clear a w); intro a w hs
     refine sy (v := .bool (false)) hs (y_pick rfl rfl) ?_; clear hs; (try clear a w); intro a w hs
     refine sy (v := .bool (false)) hs (y_move rfl) ?_; clear hs; (try clear a w); intro a w hs
     refine sno hs ?_; clear hs; (try clear a w); intro a w hs
     refine sno hs ?_; clear hs; (try clear a w); intro a w hs
     refine sno hs ?_; clear hs; (try clear a w); intro a w hs
     refine sno hs ?_; clear hs; (try clear a w); intro a w hs
     refine sno hs ?_; clear hs; (try clear a w); intro a w hs
     refine sy (v := .bool (false)) hs (y_pick rfl rfl) ?_; clear hs; (try clear a w); intro a w hs
     refine sy (v := .bool (false)) hs (y_move rfl) ?_; clear hs; (try clear a w); intro a w hs
     refine sno hs ?_; clear hs; (try clear a w); intro a w hs
     refine sno hs ?_; clear hs; (try clear a w); intro a w hs
     refine sno hs ?_; clear hs; (try clear a w); intro a w hs
     refine sy (v := .bool (false)) hs (y_pick rfl rfl) ?_; clear hs; (try clear a w); intro a w hs
     refine sy (v := .bool (false)) hs (y_move rfl) ?_; clear hs; (try clear a w); intro a w hs
     refine sno hs ?_; clear hs; (try clear a w); intro a w hs
     refine sy (v := .bool (false)) hs (y_pick rfl rfl) ?_; clear hs; (try clear a w); intro a w hs
     refine sy (v := .bool (false)) hs (y_move rfl) ?_; clear hs; (try clear a w); intro a w hs
     refine sno hs ?_; clear hs; (try clear a w); intro a w hs
     refine sy (v := .bool (false)) hs (y_pick rfl rfl) ?_; clear hs; (try clear a w); intro a w hs
     refine sy (v := .bool (false)) hs (y_move rfl) ?_; clear hs; (try clear a w); intro a w hs
     refine sno hs ?_; clear hs; (try clear a w); intro a w hs
     refine sno hs ?_; clear hs; (try clear a w); intro a w hs
     refine sno hs ?_; clear hs; (try clear a w); intro a w hs
     refine sy (v := .bool (false)) hs (y_pick rfl rfl) ?_; clear hs; (try clear a w); intro a w hs
     refine sy (v := .bool (false)) hs (y_move rfl) ?_; clear hs; (try clear a w); intro a w hs
     refine sno hs ?_; clear hs; (try clear a w); intro a w hs
     refine sno hs ?_; clear hs; (try clear a w); intro a w hs
     refine sno hs ?_; clear hs; (try clear a w); intro a w hs
     refine sno hs ?_; clear hs; (try clear a w); intro a w hs
     refine sno hs ?_; clear hs; (try clear a w); intro a w hs
     refine sy (v := .bool (false)) hs (y_pick rfl rfl) ?_; clear hs; (try clear a w); intro a w hs
     refine sy (v := .bool (false)) hs (y_move rfl) ?_; clear hs; (try clear a w); intro a w hs
     refine sno hs ?_; clear hs; (try clear a w); intro a w hs
     refine sno hs ?_; clear hs; (try clear a w); intro a w hs
     refine sno hs ?_; clear hs; (try clear a w); intro a w hs
     refine sno hs ?_; clear hs; (try clear a w); intro a w hs
     refine sy (v := .bool (false)) hs (y_pick rfl rfl) ?_; clear hs; (try clear a w); intro a w hs
     refine sy (v := .bool (false)) hs (y_move rfl) ?_; clear hs; (try clear a w); intro a w hs
     refine sno hs ?_; clear hs; (try clear a w); intro a w hs
     refine sno hs ?_; clear hs; (try clear a w); intro a w hs
     refine sy (v := .bool (false)) hs (y_pick rfl rfl) ?_; clear hs; (try clear a w); intro a w hs
     refine sy (v := .bool (false)) hs (y_move rfl) ?_; clear hs; (try clear a w); intro a w hs
     refine sno hs ?_; clear hs; (try clear a w); intro a w hs
     refine sy (v := .bool (false)) hs (y_pick rfl rfl) ?_; clear hs; (try clear a w); intro a w hs
     refine sy (v := .bool (false)) hs (y_assign rfl) ?_; clear hs; (try clear a w); intro a w hs
     refine RL_nil ?_
     exact ⟨_, false, hbase4, hm, hs.subs ⟨rfl, trivial⟩ (.cons _ (.cons _ (.cons _ (.refl _))))⟩
   ·clear hs; have hs := hq; clear hq
    replace hm := oc_f hg76 hm
    refine sno hs ?_; clear hs; (try clear a w); intro a w hs
    refine sno hs ?_; clear hs; (try clear a w); intro a w hs
    refine sno hs ?_; clear hs; (try clear a w); intro a w hs
    refine sno hs ?_; clear hs; (try clear a w); intro a w hs
    refine sno hs ?_; clear hs; (try clear a w); intro a w hs
    refine sy (v := .bool (false)) hs (y_pick rfl rfl) ?_; clear hs; (try clear a w); intro a w hs
    refine sy (v := .bool (false)) hs (y_move rfl) ?_; clear hs; (try clear a w); intro a w hs
    refine sno hs ?_; clear hs; (try clear a w); intro a w hs
    refine sy (v := .bool (false)) hs (y_pick rfl rfl) ?_; clear hs; (try clear a w); intro a w hs
    refine sy (v := .bool (false)) hs (y_move rfl) ?_; clear hs; (try clear a w); intro a w hs
    refine sno hs ?_; clear hs; (try clear a w); intro a w hs
    refine sy (v := .bool (false)) hs (y_pick rfl rfl) ?_; clear hs; (try clear a w); intro a w hs
    refine sy (v := .bool (false)) hs (y_move rfl) ?_; clear hs; (try clear a w); intro a w hs
    refine sno hs ?_; clear hs; (try clear a w); intro a w hs
    refine sno hs ?_; clear hs; (try clear a w); intro a w hs
    refine sno hs ?_; clear hs; (try clear a w); intro a w hs
    refine sno hs ?_; clear hs; (try clear a w); intro a w hs
    refine sno hs ?_; clear hs; (try clear a w); intro a w hs
    refine sy (v := .bool (false)) hs (y_pick rfl rfl) ?_; clear hs; (try clear a w); intro a w hs
    refine sy (v := .bool (false)) hs (y_move rfl) ?_; clear hs; (try clear a w); intro a w hs
    refine sno hs ?_; clear hs; (try clear a w); intro a w hs
    refine sno hs ?_; clear hs; (try clear a w); intro a w hs
    refine sno hs ?_; clear hs; (try clear a w); intro a w hs
    refine sy (v := .bool (false)) hs (y_pick rfl rfl) ?_; clear hs; (try clear a w); intro a w hs
    refine sy (v := .bool (false)) hs (y_move rfl) ?_; clear hs; (try clear a w); intro a w hs
    refine sno hs ?_; clear hs; (try clear a w); intro a w hs
    refine sy (v := .bool (false)) hs (y_pick rfl rfl) ?_; clear hs; (try clear a w); intro a w hs
    refine sy (v := .bool (false)) hs (y_move rfl) ?_; clear hs; (try clear a w); intro a w hs
    refine sno hs ?_; clear hs; (try clear a w); intro a w hs
    refine sy (v := .bool (false)) hs (y_pick rfl rfl) ?_; clear hs; (try clear a w); intro a w hs
    refine sy (v := .bool (false)) hs (y_move rfl) ?_; clear hs; (try clear a w); intro a w hs
    refine sno hs ?_; clear hs; (try clear a w); intro a w hs
    refine sno hs ?_; clear hs; (try clear a w); intro a w hs
    refine sno hs ?_; clear hs; (try clear a w); intro a w hs
    refine sy (v := .bool (false)) hs (y_pick rfl rfl) ?_; clear hs; (try clear a w); intro a w hs
    refine sy (v := .bool (false)) hs (y_move rfl) ?_; clear hs; (try clear a w); intro a w hs
    refine sno hs ?_; clear hs; (try clear a w); intro a w hs
    refine sno hs ?_; clear hs; (try clear a w); intro a w hs
    refine sno hs ?_; clear hs; (try clear a w); intro a w hs
    refine sno hs ?_; clear hs; (try clear a w); intro a w hs
    refine sno hs ?_; clear hs; (try clear a w); intro a w hs
    refine sy (v := .bool (false)) hs (y_pick rfl rfl) ?_; clear hs; (try clear a w); intro a w hs
    refine sy (v := .bool (false)) hs (y_move rfl) ?_; clear hs; (try clear a w); intro a w hs
    refine sno hs ?_; clear hs; (try clear a w); intro a w hs
    refine sno hs ?_; clear hs; (try clear a w); intro a w hs
    refine sno hs ?_; clear hs; (try clear a w); intro a w hs
    refine sno hs ?_; clear hs; (try clear a w); intro a w hs
    refine sy (v := .bool (false)) hs (y_pick rfl rfl) ?_; clear hs; (try clear a w); intro a w hs
    refine sy (v := .bool (false)) hs (y_move rfl) ?_; clear hs; (try clear a w); intro a w hs
    refine sno hs ?_; clear hs; (try clear a w); intro a w hs
    refine sno hs ?_; clear hs; (try clear a w); intro a w hs
    refine sy (v := .bool (false)) hs (y_pick rfl rfl) ?_; clear hs; (try clear a w); intro a w hs
    refine sy (v := .bool (false)) hs (y_move rfl) ?_; clear hs; (try clear a w); intro a w hs
    refine sno hs ?_; clear hs; (try clear a w); intro a w hs
    refine sy (v := .bool (false)) hs (y_pick rfl rfl) ?_; clear hs; (try clear a w); intro a w hs
    refine sy (v := .bool (false)) hs (y_assign rfl) ?_; clear hs; (try clear a w); intro a w hs
    refine RL_nil ?_
    exact ⟨_, false, hbase4, hm, hs.subs ⟨rfl, trivial⟩ (.cons _ (.cons _ (.refl _)))⟩
  ·clear hs; have hs := hq; clear hq
   replace hm := oc_f hg34 hm
   refine sno hs ?_; clear hs; (try clear a w); intro a w hs
   refine sno hs ?_; clear hs; (try clear a w); intro a w hs
   refine sno hs ?_; clear hs; (try clear a w); intro a w hs
   refine sno hs ?_; clear hs; (try clear a w); intro a w hs
   refine sno hs ?_; clear hs; (try clear a w); intro a w hs
   refine sy (v := .bool (false)) hs (y_pick rfl rfl) ?_; clear hs; (try clear a w); intro a w hs
   refine sy (v := .bool (false)) hs (y_move rfl) ?_; clear hs; (try clear a w); intro a w hs
   refine sno hs ?_; clear hs; (try clear a w); intro a w hs
   refine sno hs ?_; clear hs; (try clear a w); intro a w hs
   refine sno hs ?_; clear hs; (try clear a w); intro a w hs
   refine sno hs ?_; clear hs; (try clear a w); intro a w hs
   refine sno hs ?_; clear hs; (try clear a w); intro a w hs
   refine sy (v := .bool (false)) hs (y_pick rfl rfl) ?_; clear hs; (try clear a w); intro a w hs
   refine sy (v := .bool (false)) hs (y_move rfl) ?_; clear hs; (try clear a w); intro a w hs
   refine sno hs ?_; clear hs; (try clear a w); intro a w hs
   refine sy (v := .bool (false)) hs (y_pick rfl rfl) ?_; clear hs; (try clear a w); intro a w hs
   refine sy (v := .bool (false)) hs (y_move rfl) ?_; clear hs; (try clear a w); intro a w hs
   refine sno hs ?_; clear hs; (try clear a w); intro a w hs
   refine sy (v := .bool (false)) hs (y_pick rfl rfl) ?_; clear hs; (try clear a w); intro a w hs
   refine sy (v := .bool (false)) hs (y_move rfl) ?_; clear hs; (try clear a w); intro a w hs
   refine sno hs ?_; clear hs; (try clear a w); intro a w hs
   refine sno hs ?_; clear hs; (try clear a w); intro a w hs
   refine sno hs ?_; clear hs; (try clear a w); intro a w hs
   refine sno hs ?_; clear hs; (try clear a w); intro a w hs
   refine sno hs ?_; clear hs; (try clear a w); intro a w hs
   refine sy (v := .bool (false)) hs (y_pick rfl rfl) ?_; clear hs; (try clear a w); intro a w hs
   refine sy (v := .bool (false)) hs (y_move rfl) ?_; clear hs; (try clear a w); intro a w hs
   refine sno hs ?_; clear hs; (try clear a w); intro a w hs
   refine sno hs ?_; clear hs; (try clear a w); intro a w hs
   refine sno hs ?_; clear hs; (try clear a w); intro a w hs
   refine sy (v := .bool (false)) hs (y_pick rfl rfl) ?_; clear hs; (try clear a w); intro a w hs
   refine sy (v := .bool (false)) hs (y_move rfl) ?_; clear hs; (try clear a w); intro a w hs
   refine sno hs ?_; clear hs; (try clear a w); intro a w hs
   refine sy (v := .bool (false)) hs (y_pick rfl rfl) ?_; clear hs; (try clear a w); intro a w hs
   refine sy (v := .bool (false)) hs (y_move rfl) ?_; clear hs; (try clear a w); intro a w hs
   refine sno hs ?_; clear hs; (try clear a w); intro a w hs
   refine sy (v := .bool (false)) hs (y_pick rfl rfl) ?_; clear hs; (try clear a w); intro a w hs
   refine sy (v := .bool (false)) hs (y_move rfl) ?_; clear hs; (try clear a w); intro a w hs
   refine sno hs ?_; clear hs; (try clear a w); intro a w hs
   refine sno hs ?_; clear hs; (try clear a w); intro a w hs
   refine sno hs ?_; clear hs; (try clear a w); intro a w hs
   refine sy (v := .bool (false)) hs (y_pick rfl rfl) ?_; clear hs; (try clear a w); intro a w hs
   refine sy (v := .bool (false)) hs (y_move rfl) ?_; clear hs; (try clear a w); intro a w hs
   refine sno hs ?_; clear hs; (try clear a w); intro a w hs
   refine sno hs ?_; clear hs; (try clear a w); intro a w hs
   refine sno hs ?_; clear hs; (try clear a w); intro a w hs
   refine sno hs ?_; clear hs; (try clear a w); intro a w hs
   refine sno hs ?_; clear hs; (try clear a w); intro a w hs
   refine sy (v := .bool (false)) hs (y_pick rfl rfl) ?_; clear hs; (try clear a w); intro a w hs
   refine sy (v := .bool (false)) hs (y_move rfl) ?_; clear hs; (try clear a w); intro a w hs
   refine sno hs ?_; clear hs; (try clear a w); intro a w hs
   refine sno hs ?_; clear hs; (try clear a w); intro a w hs
   refine sno hs ?_; clear hs; (try clear a w); intro a w hs
   refine sno hs ?_; clear hs; (try clear a w); intro a w hs
   refine sy (v := .bool (false)) hs (y_pick rfl rfl) ?_; clear hs; (try clear a w); intro a w hs
   refine sy (v := .bool (false)) hs (y_move rfl) ?_; clear hs; (try clear a w); intro a w hs
   refine sno hs ?_; clear hs; (try clear a w); intro a w hs
   refine sno hs ?_; clear hs; (try clear a w); intro a w hs
   refine sy (v := .bool (false)) hs (y_pick rfl rfl) ?_; clear hs; (try clear a w); intro a w hs
   refine sy (v := .bool (false)) hs (y_move rfl) ?_; clear hs; (try clear a w); intro a w hs
   refine sno hs ?_; clear hs; (try clear a w); intro a w hs
   refine sy (v := .bool (false)) hs (y_pick rfl rfl) ?_; clear hs; (try clear a w); intro a w hs
   refine sy (v := .bool (false)) hs (y_assign rfl) ?_; clear hs; (try clear a w); intro a w hs
   refine RL_nil ?_
   exact ⟨_, false, hbase4, hm, hs.subs ⟨rfl, trivial⟩ (.cons _ (.refl _))⟩

end Go.Proofs.Ythmnohdlhlmmpaa
