/-
  Walks and laws of this seat; the base is the text Base.
-/
import Derived.Test.YthmnohdlhlmmpaaL4g
import Derived.Test.YthmnohdlhlmmpaaL4k
import Derived.Test.YthmnohdlhlmmpaaRows
/-
  Models of functions, and that the functions compute them. Printed by lift.py.
-/
namespace Go.Proofs.Ythmnohdlhlmmpaa
open Go.RowKit Go.Sl
/-! casement/casementlaw4.MarkPlain -/
def law4_MarkPlain_k2 (y6 : Bool) : Option Bool :=
  some y6
def law4_MarkPlain_k3 (y15 : Bool) : Option Bool :=
  some y15
def law4_MarkPlain_k1 (n : Nat) (x1 : ByteArray) : Option Bool :=
  (bif (decide (x1 = (bs []))) then (law4_cut n (bs []) ([] : List ref4_Token)).bind fun x8 =>
  (bif x8 then (law4_known n).bind fun x11 =>
  law4_MarkPlain_k2 x11 else
  law4_MarkPlain_k2 false) else
  (law4_chars n x1).bind fun x17 =>
  (law4_cut n x1 [x17]).bind fun x33 =>
  (bif x33 then (addS (bs [60, 98, 62]) x1).bind fun x36 =>
  (addS x36 (bs [60, 47, 98, 62])).bind fun x38 =>
  (law4_open n (bs [98]) false ([] : List api_Attr)).bind fun x41 =>
  (law4_chars n x1).bind fun x52 =>
  (law4_shut n (bs [98])).bind fun x63 =>
  (law4_cut n x38 [x41, x52, x63]).bind fun x79 =>
  (bif x79 then (mark_Unescape n x1).bind fun x82 =>
  (bif (decide (x82 = x1)) then (law4_known n).bind fun x85 =>
  law4_MarkPlain_k3 x85 else
  law4_MarkPlain_k3 false) else
  law4_MarkPlain_k3 false) else
  law4_MarkPlain_k3 false))
def law4_MarkPlain_l4 (n : Nat) (x1 : ByteArray) : Nat → Nat → Option Bool
  | 0, _ => none
  | k88 + 1, y87 =>
  (bif decide (y87 < x1.size) then (bif ((decide (((Utf8.decode x1 y87).1 : Int) = 60)) || ((decide (((Utf8.decode x1 y87).1 : Int) = 38)) || (decide (((Utf8.decode x1 y87).1 : Int) = 65533)))) then (law4_known n).bind fun x91 =>
  some x91 else
  (law4_MarkPlain_l4 n x1 k88) (y87 + (Utf8.decode x1 y87).2)) else
  law4_MarkPlain_k1 n x1)
def law4_MarkPlain (n : Nat) (p0 : ByteArray) : Option Bool :=
  (keep_Few n p0 1000).bind fun x1 =>
  law4_MarkPlain_l4 n x1 n (0 : Nat)
set_option maxRecDepth 20000 in
set_option maxHeartbeats 4000000 in
theorem law4_MarkPlain_ok (n : Nat) {f : Fz} {p0 : ByteArray} {res : Bool}  (hm : law4_MarkPlain n p0 = some res) : Gives Try.prog 7 [.string p0] f (.bool res) := by
 unfold law4_MarkPlain at hm
 intro w0 L w hC
 refine enter Try.func7 rfl Try.ntmps7 (by simp) hC fun a hs => ?_
 have hle := Fz.le.refl f
 refine W_seq fun K1 hK1 => ?_
 refine W_region ?_
 refine sy (v := .bool (false)) hs (y_assign rfl) ?_; clear hs; (try clear a w); intro a w hs
 refine RL_nil ?_
 refine hK1 _ _ ?_; clear hK1
 refine W_seq fun K2 hK2 => ?_
 refine W_region ?_
 refine sy (v := .string (p0)) hs (y_move rfl) ?_; clear hs; (try clear a w); intro a w hs
 obtain ⟨x1, hx2, hm⟩ := ob hm
 refine sy hs (y_call rfl has25 rfl (keep_Few_ok n (f := f)  hx2)) ?_; clear hs; (try clear a w); intro a w hs
 refine sy (v := .string (x1)) hs (y_assign rfl) ?_; clear hs; (try clear a w); intro a w hs
 refine RL_nil ?_
 refine hK2 _ _ ?_; clear hK2
 refine W_seq fun K3 hK3 => ?_
 refine W_seq fun K4 hK4 => ?_
 refine W_region ?_
 refine sy (v := .string (x1)) hs (y_move rfl) ?_; clear hs; (try clear a w); intro a w hs
 refine RL_range hs rfl Try.underlying9 ?_; clear hs; (try clear a w); intro b3 a w hs
 replace hs : St _ _ _ (.blk b3 (.stringIter x1 (0 : Nat)) :: L) _ _ _ := hs
 refine RL_nil ?_
 refine hK4 _ _ ?_; clear hK4
 refine W_post (fun a w => law4_MarkPlain_k1 n x1 = some res ∧ St 54 w0 f (L) [(0, .string (x1))] a w) ?_ ?_
 ·clear hs hm
  rintro a w ⟨hm, hs⟩
  replace hs : St _ _ _ (L) _ _ _ := hs
  unfold law4_MarkPlain_k1 at hm
  refine hK3 _ _ ?_; clear hK3
  refine W_seq fun K5 hK5 => ?_
  refine W_seq fun K6 hK6 => ?_
  refine W_region ?_
  refine sy (v := .string (x1)) hs (y_move rfl) ?_; clear hs; (try clear a w); intro a w hs
  refine sy hs (y_seql rfl rfl) ?_; clear hs; (try clear a w); intro a w hs
  refine RL_nil ?_
  refine hK6 _ _ ?_; clear hK6
  refine W_cond hs rfl (fun hg5 => ?_) (fun hg5 => ?_)
  ·replace hm := oc_t hg5 hm
   refine W_seq fun K7 hK7 => ?_
   refine W_post (fun a w => ∃ (y6 : Bool), law4_MarkPlain_k2 y6 = some res ∧ St 54 w0 f (L) [(2, .bool (y6))] a w) ?_ ?_
   ·clear hs hm
    rintro a w ⟨y6, hm, hs⟩
    replace hs : St _ _ _ (L) _ _ _ := hs
    unfold law4_MarkPlain_k2 at hm
    refine hK7 _ _ ?_; clear hK7
    refine W_ret ?_
    obtain rfl := Option.some.inj hm
    refine RtV1 hs rfl (rv_t hs rfl) ?_
    exact ⟨rfl, (hs.weak hle).cw⟩
   ·refine W_region ?_
    obtain ⟨x8, hx9, hm⟩ := ob hm
    refine sy hs (y_call rfl has12 rfl (law4_cut_ok n (f := f) (a1 := (.slice none 0 0)) RS.nil hx9)) ?_; clear hs; (try clear a w); intro a w hs
    refine sy (v := .bool (x8)) hs (y_move rfl) ?_; clear hs; (try clear a w); intro a w hs
    refine St.split hs (t := 26) rfl (fun hg10 hq => ?_) (fun hg10 hq => ?_)
    ·clear hs; have hs := hq; clear hq
     replace hm := oc_t hg10 hm
     obtain ⟨x11, hx12, hm⟩ := ob hm
     refine syg hs (y_call rfl has17 rfl (law4_known_ok n (f := f)  hx12)) ?_; clear hs; (try clear a w); intro a w hs
     refine sy (v := .bool (x11)) hs (y_pick rfl rfl) ?_; clear hs; (try clear a w); intro a w hs
     refine sy (v := .bool (x11)) hs (y_assign rfl) ?_; clear hs; (try clear a w); intro a w hs
     refine RL_nil ?_
     exact ⟨x11, hm, hs.sub ⟨rfl, trivial⟩⟩
    ·clear hs; have hs := hq; clear hq
     replace hm := oc_f hg10 hm
     refine sno hs ?_; clear hs; (try clear a w); intro a w hs
     refine sy (v := .bool (false)) hs (y_pick rfl rfl) ?_; clear hs; (try clear a w); intro a w hs
     refine sy (v := .bool (false)) hs (y_assign rfl) ?_; clear hs; (try clear a w); intro a w hs
     refine RL_nil ?_
     exact ⟨false, hm, hs.sub ⟨rfl, trivial⟩⟩
  ·replace hm := oc_f hg5 hm
   refine W_skip ?_
   refine hK5 _ _ ?_; clear hK5
   refine W_seq fun K8 hK8 => ?_
   have hbase16 := Fz.le.refl f
   refine W_post (fun a w => ∃ (f13 : Fz) (y15 : Bool), Fz.le f f13 ∧ law4_MarkPlain_k3 y15 = some res ∧ St 54 w0 f13 (L) [(2, .bool (y15))] a w) ?_ ?_
   ·clear hs hm
    clear hbase16
    rintro a w ⟨f13, y15, hl14, hm, hs⟩
    replace hle := hle.trans hl14
    replace hs : St _ _ _ (L) _ _ _ := hs
    unfold law4_MarkPlain_k3 at hm
    refine hK8 _ _ ?_; clear hK8
    refine W_ret ?_
    obtain rfl := Option.some.inj hm
    refine RtV1 hs rfl (rv_t hs rfl) ?_
    exact ⟨rfl, (hs.weak hle).cw⟩
   ·refine W_region ?_
    refine sy (v := .string (x1)) hs (y_move rfl) ?_; clear hs; (try clear a w); intro a w hs
    refine sy (v := .string (x1)) hs (y_move rfl) ?_; clear hs; (try clear a w); intro a w hs
    obtain ⟨x17, hx18, hm⟩ := ob hm
    refine RL_callV hs rfl has13 rfl (law4_chars_ok n (f := f)  hx18) ?_; clear hs; (try clear a w)
    rintro _ f19 _ a w hf20 ⟨r21, rfl, rfl, hq22⟩ hs
    replace hle := hle.trans hf20
    replace hbase16 := hbase16.trans hf20
    obtain ⟨v23, rfl, ⟨rw24, hR25, hW26⟩⟩ := hq22
    replace hs : St _ _ _ (L) _ _ _ := hs
    refine RL_bs1a hs rfl Try.underlying39 ti25 (by decide) (AllC.row ⟨rfl, rfl, rfl, hR25.one, rfl, trivial⟩ rfl) ?_; clear hs; (try clear a w); intro v28 a w hs
    have hW29 : RW t_ref4_Token f19 [[.int .i64 (x17.Kind), .string (x17.Name), .string (x17.Text), v23, .bool (x17.Closed)]] [x17] := RW.single (⟨_, rfl, ⟨rw24, hR25, hW26⟩⟩)
    generalize hgrw30 : ([[.int .i64 (x17.Kind), .string (x17.Name), .string (x17.Text), v23, .bool (x17.Closed)]] : List (List Value)) = rw30 at hs hW29; clear hgrw30
    replace hs : St _ _ _ (.row v28 25 5 rw30 :: L) _ _ _ := hs
    obtain ⟨x33, hx34, hm⟩ := ob hm
    refine sy hs (y_callCK (cap := []) rfl has12 rfl (fun w9 hw9 => callsP (Lr := [.row v28 25 5 rw30]) (Lf := L) (perm_at _ 0 rfl) hw9 (fun Lz w9 hw9 => lent0 hw9 (fun f9_0 w9 hle9_0 hRl0 hw9 => (law4_cut_ok n (f := f9_0) (a1 := v28) ⟨rw30, hRl0, hW29.le hle9_0⟩ hx34) w0 _ w9 hw9)))) ?_; clear hs; (try clear a w); intro a w hs
    refine sy (v := .bool (x33)) hs (y_move rfl) ?_; clear hs; (try clear a w); intro a w hs
    refine St.split hs (t := 34) rfl (fun hg35 hq => ?_) (fun hg35 hq => ?_)
    ·clear hs; have hs := hq; clear hq
     replace hm := oc_t hg35 hm
     refine syg (v := .string (x1)) hs (y_move rfl) ?_; clear hs; (try clear a w); intro a w hs
     obtain ⟨x36, hx37, hm⟩ := ob hm
     obtain ⟨hbx36, hex36⟩ := addS_some hx37
     refine syg hs (y_saddW rfl rfl hbx36 hex36) ?_; clear hs; (try clear a w); intro a w hs
     obtain ⟨x38, hx39, hm⟩ := ob hm
     obtain ⟨hbx38, hex38⟩ := addS_some hx39
     refine syg hs (y_saddW rfl rfl hbx38 hex38) ?_; clear hs; (try clear a w); intro a w hs
     obtain ⟨x41, hx42, hm⟩ := ob hm
     refine RL_callVg hs rfl has15 rfl (law4_open_ok n (f := f19) (a2 := (.slice none 0 0)) RS.nil hx42) ?_; clear hs; (try clear a w)
     rintro _ f43 _ a w hf44 ⟨r45, rfl, rfl, hq46⟩ hs
     replace hR25 := hR25.le hf44
     replace hW26 := hW26.le hf44
     replace hW29 := hW29.le hf44
     replace hle := hle.trans hf44
     replace hbase16 := hbase16.trans hf44
     obtain ⟨v47, rfl, ⟨rw48, hR49, hW50⟩⟩ := hq46
     replace hs : St _ _ _ (.row v28 25 5 rw30 :: L) _ _ _ := hs
     refine syg (v := .string (x1)) hs (y_move rfl) ?_; clear hs; (try clear a w); intro a w hs
     obtain ⟨x52, hx53, hm⟩ := ob hm
     refine RL_callVg hs rfl has13 rfl (law4_chars_ok n (f := f43)  hx53) ?_; clear hs; (try clear a w)
     rintro _ f54 _ a w hf55 ⟨r56, rfl, rfl, hq57⟩ hs
     replace hR25 := hR25.le hf55
     replace hW26 := hW26.le hf55
     replace hW29 := hW29.le hf55
     replace hR49 := hR49.le hf55
     replace hW50 := hW50.le hf55
     replace hle := hle.trans hf55
     replace hbase16 := hbase16.trans hf55
     obtain ⟨v58, rfl, ⟨rw59, hR60, hW61⟩⟩ := hq57
     replace hs : St _ _ _ (.row v28 25 5 rw30 :: L) _ _ _ := hs
     obtain ⟨x63, hx64, hm⟩ := ob hm
     refine RL_callVg hs rfl has14 rfl (law4_shut_ok n (f := f54)  hx64) ?_; clear hs; (try clear a w)
     rintro _ f65 _ a w hf66 ⟨r67, rfl, rfl, hq68⟩ hs
     replace hR25 := hR25.le hf66
     replace hW26 := hW26.le hf66
     replace hW29 := hW29.le hf66
     replace hR49 := hR49.le hf66
     replace hW50 := hW50.le hf66
     replace hR60 := hR60.le hf66
     replace hW61 := hW61.le hf66
     replace hle := hle.trans hf66
     replace hbase16 := hbase16.trans hf66
     obtain ⟨v69, rfl, ⟨rw70, hR71, hW72⟩⟩ := hq68
     replace hs : St _ _ _ (.row v28 25 5 rw30 :: L) _ _ _ := hs
     refine RL_guard hs rfl rfl ?_
     refine RL_bsN (parts := [(0, .tmp 38), (1, .tmp 40), (2, .tmp 41)]) (us := [.agg #[.int .i64 (x41.Kind), .string (x41.Name), .string (x41.Text), v47, .bool (x41.Closed)], .agg #[.int .i64 (x52.Kind), .string (x52.Name), .string (x52.Text), v58, .bool (x52.Closed)], .agg #[.int .i64 (x63.Kind), .string (x63.Name), .string (x63.Text), v69, .bool (x63.Closed)]]) (rows := [[.int .i64 (x41.Kind), .string (x41.Name), .string (x41.Text), v47, .bool (x41.Closed)], [.int .i64 (x52.Kind), .string (x52.Name), .string (x52.Text), v58, .bool (x52.Closed)], [.int .i64 (x63.Kind), .string (x63.Name), .string (x63.Text), v69, .bool (x63.Closed)]]) hs rfl Try.underlying39 ti25 (by decide) rfl rfl (by intro r hr; simp only [List.mem_cons, List.mem_nil_iff, or_false] at hr; rcases hr with rfl | rfl | rfl; exact AllC.row ⟨rfl, rfl, rfl, hR49.one, rfl, trivial⟩ rfl; exact AllC.row ⟨rfl, rfl, rfl, hR60.one, rfl, trivial⟩ rfl; exact AllC.row ⟨rfl, rfl, rfl, hR71.one, rfl, trivial⟩ rfl) ?_; clear hs; (try clear a w); intro v74 a w hs
     have hW75 : RW t_ref4_Token f65 [[.int .i64 (x41.Kind), .string (x41.Name), .string (x41.Text), v47, .bool (x41.Closed)], [.int .i64 (x52.Kind), .string (x52.Name), .string (x52.Text), v58, .bool (x52.Closed)], [.int .i64 (x63.Kind), .string (x63.Name), .string (x63.Text), v69, .bool (x63.Closed)]] [x41, x52, x63] := ⟨⟨_, rfl, ⟨rw48, hR49, hW50⟩⟩, ⟨⟨_, rfl, ⟨rw59, hR60, hW61⟩⟩, ⟨⟨_, rfl, ⟨rw70, hR71, hW72⟩⟩, trivial⟩⟩⟩
     generalize hgrw76 : ([[.int .i64 (x41.Kind), .string (x41.Name), .string (x41.Text), v47, .bool (x41.Closed)], [.int .i64 (x52.Kind), .string (x52.Name), .string (x52.Text), v58, .bool (x52.Closed)], [.int .i64 (x63.Kind), .string (x63.Name), .string (x63.Text), v69, .bool (x63.Closed)]] : List (List Value)) = rw76 at hs hW75; clear hgrw76
     replace hs : St _ _ _ (.row v74 25 5 rw76 :: .row v28 25 5 rw30 :: L) _ _ _ := hs
     obtain ⟨x79, hx80, hm⟩ := ob hm
     refine syg hs (y_callCK (cap := []) rfl has12 rfl (fun w9 hw9 => callsP (Lr := [.row v74 25 5 rw76]) (Lf := .row v28 25 5 rw30 :: L) (perm_at _ 0 rfl) hw9 (fun Lz w9 hw9 => lent0 hw9 (fun f9_0 w9 hle9_0 hRl0 hw9 => (law4_cut_ok n (f := f9_0) (a1 := v74) ⟨rw76, hRl0, hW75.le hle9_0⟩ hx80) w0 _ w9 hw9)))) ?_; clear hs; (try clear a w); intro a w hs
     refine sy (v := .bool (x79)) hs (y_pick rfl rfl) ?_; clear hs; (try clear a w); intro a w hs
     refine sy (v := .bool (x79)) hs (y_move rfl) ?_; clear hs; (try clear a w); intro a w hs
     refine St.split hs (t := 45) rfl (fun hg81 hq => ?_) (fun hg81 hq => ?_)
     ·clear hs; have hs := hq; clear hq
      replace hm := oc_t hg81 hm
      refine syg (v := .string (x1)) hs (y_move rfl) ?_; clear hs; (try clear a w); intro a w hs
      obtain ⟨x82, hx83, hm⟩ := ob hm
      refine syg hs (y_call rfl has16 rfl (mark_Unescape_ok n (f := f65)  hx83)) ?_; clear hs; (try clear a w); intro a w hs
      refine syg (v := .string (x1)) hs (y_move rfl) ?_; clear hs; (try clear a w); intro a w hs
      refine syg hs (y_seql rfl rfl) ?_; clear hs; (try clear a w); intro a w hs
      refine sy (v := .bool (decide (x82 = x1))) hs (y_pick rfl rfl) ?_; clear hs; (try clear a w); intro a w hs
      refine sy (v := .bool (decide (x82 = x1))) hs (y_move rfl) ?_; clear hs; (try clear a w); intro a w hs
      refine St.split hs (t := 51) rfl (fun hg84 hq => ?_) (fun hg84 hq => ?_)
      ·clear hs; have hs := hq; clear hq
       replace hm := oc_t hg84 hm
       obtain ⟨x85, hx86, hm⟩ := ob hm
       refine syg hs (y_call rfl has17 rfl (law4_known_ok n (f := f65)  hx86)) ?_; clear hs; (try clear a w); intro a w hs
       refine sy (v := .bool (x85)) hs (y_pick rfl rfl) ?_; clear hs; (try clear a w); intro a w hs
       refine sy (v := .bool (x85)) hs (y_assign rfl) ?_; clear hs; (try clear a w); intro a w hs
       refine RL_nil ?_
       exact ⟨_, x85, hbase16, hm, hs.subs ⟨rfl, trivial⟩ (.cons _ (.cons _ (.refl _)))⟩
      ·clear hs; have hs := hq; clear hq
       replace hm := oc_f hg84 hm
       refine sno hs ?_; clear hs; (try clear a w); intro a w hs
       refine sy (v := .bool (false)) hs (y_pick rfl rfl) ?_; clear hs; (try clear a w); intro a w hs
       refine sy (v := .bool (false)) hs (y_assign rfl) ?_; clear hs; (try clear a w); intro a w hs
       refine RL_nil ?_
       exact ⟨_, false, hbase16, hm, hs.subs ⟨rfl, trivial⟩ (.cons _ (.cons _ (.refl _)))⟩
     ·clear hs; have hs := hq; clear hq
      replace hm := oc_f hg81 hm
      refine sno hs ?_; clear hs; (try clear a w); intro a w hs
      refine sno hs ?_; clear hs; (try clear a w); intro a w hs
      refine sno hs ?_; clear hs; (try clear a w); intro a w hs
      refine sno hs ?_; clear hs; (try clear a w); intro a w hs
      refine sy (v := .bool (false)) hs (y_pick rfl rfl) ?_; clear hs; (try clear a w); intro a w hs
      refine sy (v := .bool (false)) hs (y_move rfl) ?_; clear hs; (try clear a w); intro a w hs
      refine sno hs ?_; clear hs; (try clear a w); intro a w hs
      refine sy (v := .bool (false)) hs (y_pick rfl rfl) ?_; clear hs; (try clear a w); intro a w hs
      refine sy (v := .bool (false)) hs (y_assign rfl) ?_; clear hs; (try clear a w); intro a w hs
      refine RL_nil ?_
      exact ⟨_, false, hbase16, hm, hs.subs ⟨rfl, trivial⟩ (.cons _ (.cons _ (.refl _)))⟩
    ·clear hs; have hs := hq; clear hq
     replace hm := oc_f hg35 hm
     refine sno hs ?_; clear hs; (try clear a w); intro a w hs
     refine sno hs ?_; clear hs; (try clear a w); intro a w hs
     refine sno hs ?_; clear hs; (try clear a w); intro a w hs
     refine sno hs ?_; clear hs; (try clear a w); intro a w hs
     refine sno hs ?_; clear hs; (try clear a w); intro a w hs
     refine sno hs ?_; clear hs; (try clear a w); intro a w hs
     refine sno hs ?_; clear hs; (try clear a w); intro a w hs
     refine sno hs ?_; clear hs; (try clear a w); intro a w hs
     refine sno hs ?_; clear hs; (try clear a w); intro a w hs
     refine sy (v := .bool (false)) hs (y_pick rfl rfl) ?_; clear hs; (try clear a w); intro a w hs
     refine sy (v := .bool (false)) hs (y_move rfl) ?_; clear hs; (try clear a w); intro a w hs
     refine sno hs ?_; clear hs; (try clear a w); intro a w hs
     refine sno hs ?_; clear hs; (try clear a w); intro a w hs
     refine sno hs ?_; clear hs; (try clear a w); intro a w hs
     refine sno hs ?_; clear hs; (try clear a w); intro a w hs
     refine sy (v := .bool (false)) hs (y_pick rfl rfl) ?_; clear hs; (try clear a w); intro a w hs
     refine sy (v := .bool (false)) hs (y_move rfl) ?_; clear hs; (try clear a w); intro a w hs
     refine sno hs ?_; clear hs; (try clear a w); intro a w hs
     refine sy (v := .bool (false)) hs (y_pick rfl rfl) ?_; clear hs; (try clear a w); intro a w hs
     refine sy (v := .bool (false)) hs (y_assign rfl) ?_; clear hs; (try clear a w); intro a w hs
     refine RL_nil ?_
     exact ⟨_, false, hbase16, hm, hs.subs ⟨rfl, trivial⟩ (.cons _ (.refl _))⟩
 ·refine W_block fun Qe9 hB9 hO9 => ?_
  refine W_loop (fun (k : Nat) a w => ∃ (y87 : Nat), law4_MarkPlain_l4 n x1 k y87 = some res ∧ St 54 w0 f (.blk b3 (.stringIter x1 y87) :: L) [(0, .string (x1)), (8, .pointer (some ⟨b3, 0, none⟩))] a w) (fun k => k) n ⟨(0 : Nat), hm, hs.sub ⟨rfl, rfl, trivial⟩⟩ ?_
  clear hs hm
  intro k
  rintro a w ⟨y87, hm, hs⟩
  replace hs : St _ _ _ (.blk b3 (.stringIter x1 y87) :: L) _ _ _ := hs
  intro K10 hK10
  cases k with
  | zero => simp [law4_MarkPlain_l4] at hm
  | succ k88 =>
   rw [law4_MarkPlain_l4] at hm
   refine W_seq fun K11 hK11 => ?_
   refine W_region ?_
   refine RL_next (i := 0) hs rfl rfl (fun hg89 => ?_) (fun hg89 => ?_)
   ·replace hm := oc_t (decide_eq_true hg89) hm; clear hs; (try clear a w); intro a w hs
    replace hs : St _ _ _ (.blk b3 (.stringIter x1 (y87 + (Utf8.decode x1 y87).2)) :: L) _ _ _ := hs
    refine sy (v := .bool (true)) hs (y_extract rfl rfl) ?_; clear hs; (try clear a w); intro a w hs
    refine RL_nil ?_
    refine hK11 _ _ ?_; clear hK11
    refine W_seq fun K12 hK12 => ?_
    refine W_condT hs rfl ?_
    refine W_skip ?_
    refine hK12 _ _ ?_; clear hK12
    refine W_block fun Qe13 hB13 hO13 => ?_
    refine W_seq fun K14 hK14 => ?_
    refine W_region ?_
    refine sy (v := .int .i32 (((Utf8.decode x1 y87).1 : Int))) hs (y_extract rfl rfl) ?_; clear hs; (try clear a w); intro a w hs
    refine sy (v := .int .i32 (((Utf8.decode x1 y87).1 : Int))) hs (y_assign rfl) ?_; clear hs; (try clear a w); intro a w hs
    refine RL_nil ?_
    refine hK14 _ _ ?_; clear hK14
    refine W_seq fun K15 hK15 => ?_
    refine W_post (fun a w => St 54 w0 f (.blk b3 (.stringIter x1 (y87 + (Utf8.decode x1 y87).2)) :: L) [(0, .string (x1)), (8, .pointer (some ⟨b3, 0, none⟩)), (21, .bool (((decide (((Utf8.decode x1 y87).1 : Int) = 60)) || ((decide (((Utf8.decode x1 y87).1 : Int) = 38)) || (decide (((Utf8.decode x1 y87).1 : Int) = 65533))))))] a w) ?_ ?_
    ·clear hs; intro a w hs
     refine hK15 _ _ ?_; clear hK15
     refine W_cond hs rfl (fun hg90 => ?_) (fun hg90 => ?_)
     ·replace hm := oc_t hg90 hm
      refine W_seq fun K16 hK16 => ?_
      refine W_region ?_
      obtain ⟨x91, hx92, hm⟩ := ob hm
      refine sy hs (y_call rfl has17 rfl (law4_known_ok n (f := f)  hx92)) ?_; clear hs; (try clear a w); intro a w hs
      refine sy (v := .bool (x91)) hs (y_assign rfl) ?_; clear hs; (try clear a w); intro a w hs
      refine RL_nil ?_
      refine hK16 _ _ ?_; clear hK16
      refine W_ret ?_
      obtain rfl := Option.some.inj hm
      refine RtV1 hs rfl (rv_t hs rfl) ?_
      exact ⟨rfl, ((hs.subL (.cons _ (.refl _))).weak hle).cw⟩
     ·replace hm := oc_f hg90 hm
      refine W_skip ?_
      exact hK10 k88 _ _ (Nat.lt_succ_self _) ⟨(y87 + (Utf8.decode x1 y87).2), hm, hs.sub ⟨rfl, rfl, trivial⟩⟩
    ·refine W_region ?_
     refine sy (v := .int .i32 (((Utf8.decode x1 y87).1 : Int))) hs (y_move rfl) ?_; clear hs; (try clear a w); intro a w hs
     refine sy hs (y_eql rfl rfl) ?_; clear hs; (try clear a w); intro a w hs
     refine sy (v := .bool (decide (((Utf8.decode x1 y87).1 : Int) = 60))) hs (y_move rfl) ?_; clear hs; (try clear a w); intro a w hs
     refine St.split hs (t := 14) rfl (fun hg93 hq => ?_) (fun hg93 hq => ?_)
     ·clear hs; have hs := hq; clear hq
      refine sno hs ?_; clear hs; (try clear a w); intro a w hs
      refine sno hs ?_; clear hs; (try clear a w); intro a w hs
      refine sy (v := .bool (true)) hs (y_pick rfl rfl) ?_; clear hs; (try clear a w); intro a w hs
      refine sy (v := .bool (true)) hs (y_move rfl) ?_; clear hs; (try clear a w); intro a w hs
      refine sno hs ?_; clear hs; (try clear a w); intro a w hs
      refine sno hs ?_; clear hs; (try clear a w); intro a w hs
      refine sy (v := .bool (true)) hs (y_pick rfl rfl) ?_; clear hs; (try clear a w); intro a w hs
      refine RL_nil ?_
      exact hs.sub ⟨rfl, rfl, (lkB (((or_t hg93).trans rfl)) rfl), trivial⟩
     ·clear hs; have hs := hq; clear hq
      refine syg (v := .int .i32 (((Utf8.decode x1 y87).1 : Int))) hs (y_move rfl) ?_; clear hs; (try clear a w); intro a w hs
      refine syg hs (y_eql rfl rfl) ?_; clear hs; (try clear a w); intro a w hs
      refine sy (v := .bool (decide (((Utf8.decode x1 y87).1 : Int) = 38))) hs (y_pick rfl rfl) ?_; clear hs; (try clear a w); intro a w hs
      refine sy (v := .bool (decide (((Utf8.decode x1 y87).1 : Int) = 38))) hs (y_move rfl) ?_; clear hs; (try clear a w); intro a w hs
      refine St.split hs (t := 18) rfl (fun hg94 hq => ?_) (fun hg94 hq => ?_)
      ·clear hs; have hs := hq; clear hq
       refine sno hs ?_; clear hs; (try clear a w); intro a w hs
       refine sno hs ?_; clear hs; (try clear a w); intro a w hs
       refine sy (v := .bool (true)) hs (y_pick rfl rfl) ?_; clear hs; (try clear a w); intro a w hs
       refine RL_nil ?_
       exact hs.sub ⟨rfl, rfl, (lkB (((or_f hg93).trans ((or_t hg94).trans rfl))) rfl), trivial⟩
      ·clear hs; have hs := hq; clear hq
       refine syg (v := .int .i32 (((Utf8.decode x1 y87).1 : Int))) hs (y_move rfl) ?_; clear hs; (try clear a w); intro a w hs
       refine syg hs (y_eql rfl rfl) ?_; clear hs; (try clear a w); intro a w hs
       refine sy (v := .bool (decide (((Utf8.decode x1 y87).1 : Int) = 65533))) hs (y_pick rfl rfl) ?_; clear hs; (try clear a w); intro a w hs
       refine RL_nil ?_
       exact hs.sub ⟨rfl, rfl, (lkB (((or_f hg93).trans ((or_f hg94).trans rfl))) rfl), trivial⟩
   ·replace hm := oc_f (decide_eq_false (Nat.not_lt.2 hg89)) hm; clear hs; (try clear a w); intro a w hs
    refine sy (v := .bool (false)) hs (y_extract rfl rfl) ?_; clear hs; (try clear a w); intro a w hs
    refine RL_nil ?_
    refine hK11 _ _ ?_; clear hK11
    refine W_seq fun K17 hK17 => ?_
    refine W_condF hs rfl ?_
    refine W_exit ?_
    refine hB9 _ _ ?_
    exact ⟨hm, hs.subs ⟨rfl, trivial⟩ (.cons _ (.refl _))⟩
end Go.Proofs.Ythmnohdlhlmmpaa
