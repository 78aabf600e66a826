/-
  Walks and laws of this seat; the base is the text Base.
-/
import Derived.Test.YthmnohdlhlmmpaaL4g
import Derived.Test.YthmnohdlhlmmpaaL4d
import Derived.Test.YthmnohdlhlmmpaaRows
/-
  Models of functions, and that the functions compute them. Printed by lift.py.
-/
namespace Go.Proofs.Ythmnohdlhlmmpaa
open Go.RowKit Go.Sl

/-! casement/casementlaw4.MarkNumeric -/
def law4_MarkNumeric_k2 (y4 : Bool) : Option Bool :=
  some y4
def law4_MarkNumeric_k1 (n : Nat) (x1 : Int) (y3 : Int) : Option Bool :=
  (law4_digits n x1 10).bind fun x5 =>
  (addS (bs [120, 38, 35]) x5).bind fun x7 =>
  (addS x7 (bs [59, 121])).bind fun x9 =>
  (mark_Unescape n x9).bind fun x11 =>
  (addS (bs [120]) (Utf8.encode y3)).bind fun x13 =>
  (addS x13 (bs [121])).bind fun x15 =>
  (bif (decide (x11 = x15)) then (law4_digits n x1 16).bind fun x18 =>
  (addS (bs [38, 35, 120]) x18).bind fun x20 =>
  (addS x20 (bs [59])).bind fun x22 =>
  (mark_Unescape n x22).bind fun x24 =>
  (bif (decide (x24 = (Utf8.encode y3))) then (law4_known n).bind fun x27 =>
  law4_MarkNumeric_k2 x27 else
  law4_MarkNumeric_k2 false) else
  law4_MarkNumeric_k2 false)
def law4_MarkNumeric (n : Nat) (p0 : Int) : Option Bool :=
  (book_Within n p0 1 1114111).bind fun x1 =>
  (bif ((decide (55296 ≤ x1)) && (decide (x1 ≤ 57343))) then law4_MarkNumeric_k1 n x1 65533 else
  law4_MarkNumeric_k1 n x1 (IntKind.i32.wrap x1))
set_option maxRecDepth 20000 in
set_option maxHeartbeats 4000000 in
theorem law4_MarkNumeric_ok (n : Nat) {f : Fz} {p0 : Int} {res : Bool}  (hm : law4_MarkNumeric n p0 = some res) : Gives Try.prog 10 [.int .i64 p0] f (.bool res) := by
 unfold law4_MarkNumeric at hm
 intro w0 L w hC
 refine enter Try.func10 rfl Try.ntmps10 (by simp) hC fun a hs => ?_
 have hle := Fz.le.refl f
 refine W_seq fun K1 hK1 => ?_
 refine W_region ?_
 refine sy (v := .bool (false)) hs (y_assign rfl) ?_; clear hs; (try clear a w); intro a w hs
 refine RL_nil ?_
 refine hK1 _ _ ?_; clear hK1
 refine W_seq fun K2 hK2 => ?_
 refine W_region ?_
 refine sy (v := .int .i64 (p0)) hs (y_move rfl) ?_; clear hs; (try clear a w); intro a w hs
 obtain ⟨x1, hx2, hm⟩ := ob hm
 refine sy hs (y_call rfl has31 rfl (book_Within_ok n (f := f)  hx2)) ?_; clear hs; (try clear a w); intro a w hs
 refine sy (v := .int .i64 (x1)) hs (y_assign rfl) ?_; clear hs; (try clear a w); intro a w hs
 refine RL_nil ?_
 refine hK2 _ _ ?_; clear hK2
 refine W_seq fun K3 hK3 => ?_
 refine W_region ?_
 refine sy (v := .int .i64 (x1)) hs (y_move rfl) ?_; clear hs; (try clear a w); intro a w hs
 refine sy (v := .int .i32 ((IntKind.i32.wrap x1))) hs (y_i2i rfl (by rw [Try.underlying3]; rfl) Try.underlying21 rfl) ?_; clear hs; (try clear a w); intro a w hs
 refine sy (v := .int .i32 ((IntKind.i32.wrap x1))) hs (y_assign rfl) ?_; clear hs; (try clear a w); intro a w hs
 refine RL_nil ?_
 refine hK3 _ _ ?_; clear hK3
 refine W_seq fun K4 hK4 => ?_
 refine W_seq fun K5 hK5 => ?_
 refine W_post (fun a w => St 37 w0 f (L) [(0, .int .i64 (x1)), (3, .int .i32 ((IntKind.i32.wrap x1))), (13, .bool (((decide (55296 ≤ x1)) && (decide (x1 ≤ 57343)))))] a w) ?_ ?_
 ·clear hs; intro a w hs
  refine hK5 _ _ ?_; clear hK5
  refine W_post (fun a w => ∃ (y3 : Int), law4_MarkNumeric_k1 n x1 y3 = some res ∧ St 37 w0 f (L) [(0, .int .i64 (x1)), (3, .int .i32 (y3))] a w) ?_ ?_
  ·clear hs hm
   rintro a w ⟨y3, hm, hs⟩
   replace hs : St _ _ _ (L) _ _ _ := hs
   unfold law4_MarkNumeric_k1 at hm
   refine hK4 _ _ ?_; clear hK4
   refine W_seq fun K6 hK6 => ?_
   refine W_post (fun a w => ∃ (y4 : Bool), law4_MarkNumeric_k2 y4 = some res ∧ St 37 w0 f (L) [(2, .bool (y4))] a w) ?_ ?_
   ·clear hs hm
    rintro a w ⟨y4, hm, hs⟩
    replace hs : St _ _ _ (L) _ _ _ := hs
    unfold law4_MarkNumeric_k2 at hm
    refine hK6 _ _ ?_; clear hK6
    refine W_ret ?_
    obtain rfl := Option.some.inj hm
    refine RtV1 hs rfl (rv_t hs rfl) ?_
    exact ⟨rfl, (hs.weak hle).cw⟩
   ·refine W_region ?_
    refine sy (v := .int .i64 (x1)) hs (y_move rfl) ?_; clear hs; (try clear a w); intro a w hs
    obtain ⟨x5, hx6, hm⟩ := ob hm
    refine sy hs (y_call rfl has32 rfl (law4_digits_ok n (f := f)  hx6)) ?_; clear hs; (try clear a w); intro a w hs
    obtain ⟨x7, hx8, hm⟩ := ob hm
    obtain ⟨hbx7, hex7⟩ := addS_some hx8
    refine sy hs (y_saddW rfl rfl hbx7 hex7) ?_; clear hs; (try clear a w); intro a w hs
    obtain ⟨x9, hx10, hm⟩ := ob hm
    obtain ⟨hbx9, hex9⟩ := addS_some hx10
    refine sy hs (y_saddW rfl rfl hbx9 hex9) ?_; clear hs; (try clear a w); intro a w hs
    obtain ⟨x11, hx12, hm⟩ := ob hm
    refine sy hs (y_call rfl has16 rfl (mark_Unescape_ok n (f := f)  hx12)) ?_; clear hs; (try clear a w); intro a w hs
    refine sy (v := .int .i32 (y3)) hs (y_move rfl) ?_; clear hs; (try clear a w); intro a w hs
    refine sy (v := .string ((Utf8.encode y3))) hs (y_i2s rfl (by rw [Try.underlying21]; rfl) Try.underlying9) ?_; clear hs; (try clear a w); intro a w hs
    obtain ⟨x13, hx14, hm⟩ := ob hm
    obtain ⟨hbx13, hex13⟩ := addS_some hx14
    refine sy hs (y_saddW rfl rfl hbx13 hex13) ?_; clear hs; (try clear a w); intro a w hs
    obtain ⟨x15, hx16, hm⟩ := ob hm
    obtain ⟨hbx15, hex15⟩ := addS_some hx16
    refine sy hs (y_saddW rfl rfl hbx15 hex15) ?_; clear hs; (try clear a w); intro a w hs
    refine sy hs (y_seql rfl rfl) ?_; clear hs; (try clear a w); intro a w hs
    refine sy (v := .bool (decide (x11 = x15))) hs (y_move rfl) ?_; clear hs; (try clear a w); intro a w hs
    refine St.split hs (t := 24) rfl (fun hg17 hq => ?_) (fun hg17 hq => ?_)
    ·clear hs; have hs := hq; clear hq
     replace hm := oc_t hg17 hm
     refine syg (v := .int .i64 (x1)) hs (y_move rfl) ?_; clear hs; (try clear a w); intro a w hs
     obtain ⟨x18, hx19, hm⟩ := ob hm
     refine syg hs (y_call rfl has32 rfl (law4_digits_ok n (f := f)  hx19)) ?_; clear hs; (try clear a w); intro a w hs
     obtain ⟨x20, hx21, hm⟩ := ob hm
     obtain ⟨hbx20, hex20⟩ := addS_some hx21
     refine syg hs (y_saddW rfl rfl hbx20 hex20) ?_; clear hs; (try clear a w); intro a w hs
     obtain ⟨x22, hx23, hm⟩ := ob hm
     obtain ⟨hbx22, hex22⟩ := addS_some hx23
     refine syg hs (y_saddW rfl rfl hbx22 hex22) ?_; clear hs; (try clear a w); intro a w hs
     obtain ⟨x24, hx25, hm⟩ := ob hm
     refine syg hs (y_call rfl has16 rfl (mark_Unescape_ok n (f := f)  hx25)) ?_; clear hs; (try clear a w); intro a w hs
     refine syg (v := .int .i32 (y3)) hs (y_move rfl) ?_; clear hs; (try clear a w); intro a w hs
     refine syg (v := .string ((Utf8.encode y3))) hs (y_i2s rfl (by rw [Try.underlying21]; rfl) Try.underlying9) ?_; clear hs; (try clear a w); intro a w hs
     refine syg hs (y_seql rfl rfl) ?_; clear hs; (try clear a w); intro a w hs
     refine sy (v := .bool (decide (x24 = (Utf8.encode y3)))) hs (y_pick rfl rfl) ?_; clear hs; (try clear a w); intro a w hs
     refine sy (v := .bool (decide (x24 = (Utf8.encode y3)))) hs (y_move rfl) ?_; clear hs; (try clear a w); intro a w hs
     refine St.split hs (t := 34) rfl (fun hg26 hq => ?_) (fun hg26 hq => ?_)
     ·clear hs; have hs := hq; clear hq
      replace hm := oc_t hg26 hm
      obtain ⟨x27, hx28, hm⟩ := ob hm
      refine syg hs (y_call rfl has17 rfl (law4_known_ok n (f := f)  hx28)) ?_; clear hs; (try clear a w); intro a w hs
      refine sy (v := .bool (x27)) hs (y_pick rfl rfl) ?_; clear hs; (try clear a w); intro a w hs
      refine sy (v := .bool (x27)) hs (y_assign rfl) ?_; clear hs; (try clear a w); intro a w hs
      refine RL_nil ?_
      exact ⟨x27, hm, hs.sub ⟨rfl, trivial⟩⟩
     ·clear hs; have hs := hq; clear hq
      replace hm := oc_f hg26 hm
      refine sno hs ?_; clear hs; (try clear a w); intro a w hs
      refine sy (v := .bool (false)) hs (y_pick rfl rfl) ?_; clear hs; (try clear a w); intro a w hs
      refine sy (v := .bool (false)) hs (y_assign rfl) ?_; clear hs; (try clear a w); intro a w hs
      refine RL_nil ?_
      exact ⟨false, hm, hs.sub ⟨rfl, trivial⟩⟩
    ·clear hs; have hs := hq; clear hq
     replace hm := oc_f hg17 hm
     refine sno hs ?_; clear hs; (try clear a w); intro a w hs
     refine sno hs ?_; clear hs; (try clear a w); intro a w hs
     refine sno hs ?_; clear hs; (try clear a w); intro a w hs
     refine sno hs ?_; clear hs; (try clear a w); intro a w hs
     refine sno hs ?_; clear hs; (try clear a w); intro a w hs
     refine sno hs ?_; clear hs; (try clear a w); intro a w hs
     refine sno hs ?_; clear hs; (try clear a w); intro a w hs
     refine sno hs ?_; clear hs; (try clear a w); intro a w hs
     refine sy (v := .bool (false)) hs (y_pick rfl rfl) ?_; clear hs; (try clear a w); intro a w hs
     refine sy (v := .bool (false)) hs (y_move rfl) ?_; clear hs; (try clear a w); intro a w hs
     refine sno hs ?_; clear hs; (try clear a w); intro a w hs
     refine sy (v := .bool (false)) hs (y_pick rfl rfl) ?_; clear hs; (try clear a w); intro a w hs
     refine sy (v := .bool (false)) hs (y_assign rfl) ?_; clear hs; (try clear a w); intro a w hs
     refine RL_nil ?_
     exact ⟨false, hm, hs.sub ⟨rfl, trivial⟩⟩
  ·refine W_cond hs rfl (fun hg29 => ?_) (fun hg29 => ?_)
   ·replace hm := oc_t hg29 hm
    refine W_region ?_
    refine sy (v := .int .i32 (65533)) hs (y_assign rfl) ?_; clear hs; (try clear a w); intro a w hs
    refine RL_nil ?_
    exact ⟨65533, hm, hs.sub ⟨rfl, rfl, trivial⟩⟩
   ·replace hm := oc_f hg29 hm
    refine W_skip ?_
    exact ⟨(IntKind.i32.wrap x1), hm, hs.sub ⟨rfl, rfl, trivial⟩⟩
 ·refine W_region ?_
  refine sy (v := .int .i64 (x1)) hs (y_move rfl) ?_; clear hs; (try clear a w); intro a w hs
  refine sy hs (y_geq rfl rfl) ?_; clear hs; (try clear a w); intro a w hs
  refine sy (v := .bool (decide (55296 ≤ x1))) hs (y_move rfl) ?_; clear hs; (try clear a w); intro a w hs
  refine St.split hs (t := 10) rfl (fun hg30 hq => ?_) (fun hg30 hq => ?_)
  ·clear hs; have hs := hq; clear hq
   refine syg (v := .int .i64 (x1)) hs (y_move rfl) ?_; clear hs; (try clear a w); intro a w hs
   refine syg hs (y_leq rfl rfl) ?_; clear hs; (try clear a w); intro a w hs
   refine sy (v := .bool (decide (x1 ≤ 57343))) hs (y_pick rfl rfl) ?_; clear hs; (try clear a w); intro a w hs
   refine RL_nil ?_
   exact hs.sub ⟨rfl, rfl, (lkB (((and_t hg30).trans rfl)) rfl), trivial⟩
  ·clear hs; have hs := hq; clear hq
   refine sno hs ?_; clear hs; (try clear a w); intro a w hs
   refine sno hs ?_; clear hs; (try clear a w); intro a w hs
   refine sy (v := .bool (false)) hs (y_pick rfl rfl) ?_; clear hs; (try clear a w); intro a w hs
   refine RL_nil ?_
   exact hs.sub ⟨rfl, rfl, (lkB (((and_f hg30).trans rfl)) rfl), trivial⟩

end Go.Proofs.Ythmnohdlhlmmpaa
