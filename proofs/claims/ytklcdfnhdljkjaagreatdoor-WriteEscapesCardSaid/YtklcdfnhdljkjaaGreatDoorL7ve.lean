/-
  Walks and laws of this seat; the base is the text Base.
-/
import Derived.Test.YtklcdfnhdljkjaaGreatDoorL7k
import Derived.Test.YtklcdfnhdljkjaaGreatDoorL7r
import Derived.Test.YtklcdfnhdljkjaaGreatDoorRows
/-
  Models of functions, and that the functions compute them. Printed by lift.py.
-/
namespace Go.Proofs.YtklcdfnhdljkjaaGreatDoor
open Go.RowKit Go.Sl
/-! casement/casementlaw7.WriteEscapes -/
def law7_WriteEscapes_k2 (y7 : Bool) : Option Bool :=
  some y7
def law7_WriteEscapes_k1 (n : Nat) (p1 : Bool) (x1 : ByteArray) (y3 : Bool) : Option Bool :=
  (bif y3 then (law7_known n).bind fun x5 =>
  some x5 else
  (write_Escape n x1 p1).bind fun x8 =>
  (ref7_Escape n x1 p1).bind fun x10 =>
  (bif (decide (x8 = x10)) then (law7_known n).bind fun x13 =>
  law7_WriteEscapes_k2 x13 else
  law7_WriteEscapes_k2 false))
def law7_WriteEscapes (n : Nat) (p0 : ByteArray) (p1 : Bool) : Option Bool :=
  (keep_Few n p0 1000).bind fun x1 =>
  (runesM x1).bind fun x15 =>
  (keep_Valid n x15).bind fun x22 =>
  (bif (!x22) then law7_WriteEscapes_k1 n p1 x1 true else
  (runesM x1).bind fun x25 =>
  law7_WriteEscapes_k1 n p1 x1 (decide ((textOf x25) ≠ x1)))
set_option maxRecDepth 20000 in
set_option maxHeartbeats 4000000 in
theorem law7_WriteEscapes_ok (n : Nat) {f : Fz} {p0 : ByteArray} {p1 : Bool} {res : Bool}  (hm : law7_WriteEscapes n p0 p1 = some res) : Gives Tryz.prog 3 [.string p0, .bool p1] f (.bool res) := by
 unfold law7_WriteEscapes at hm
 intro w0 L w hC
 refine enter Tryz.func3 rfl Tryz.ntmps3 (by simp) hC fun a hs => ?_
 have hle := Fz.le.refl f
 refine W_seq fun K1 hK1 => ?_
 refine W_region ?_
 refine sy (v := .bool (false)) hs (y_assign rfl) ?_; clear hs; (try clear a w); intro a w hs
 refine RL_nil ?_
 refine hK1 _ _ ?_; clear hK1
 refine W_seq fun K2 hK2 => ?_
 refine W_region ?_
 refine sy (v := .string (p0)) hs (y_move rfl) ?_; clear hs; (try clear a w); intro a w hs
 obtain ⟨x1, hx2, hm⟩ := ob hm
 refine sy hs (y_call rfl has5 rfl (keep_Few_ok n (f := f)  hx2)) ?_; clear hs; (try clear a w); intro a w hs
 refine sy (v := .string (x1)) hs (y_assign rfl) ?_; clear hs; (try clear a w); intro a w hs
 refine RL_nil ?_
 refine hK2 _ _ ?_; clear hK2
 refine W_seq fun K3 hK3 => ?_
 refine W_seq fun K4 hK4 => ?_
 refine W_post (fun a w => ∃ (y3 : Bool), law7_WriteEscapes_k1 n p1 x1 y3 = some res ∧ St 29 w0 f (L) [(0, .string (x1)), (1, .bool (p1)), (17, .bool (y3))] a w) ?_ ?_
 ·clear hs hm
  rintro a w ⟨y3, hm, hs⟩
  replace hs : St _ _ _ (L) _ _ _ := hs
  unfold law7_WriteEscapes_k1 at hm
  refine hK4 _ _ ?_; clear hK4
  refine W_cond hs rfl (fun hg4 => ?_) (fun hg4 => ?_)
  ·replace hm := oc_t hg4 hm
   refine W_seq fun K5 hK5 => ?_
   refine W_region ?_
   obtain ⟨x5, hx6, hm⟩ := ob hm
   refine sy hs (y_call rfl has7 rfl (law7_known_ok n (f := f)  hx6)) ?_; clear hs; (try clear a w); intro a w hs
   refine sy (v := .bool (x5)) hs (y_assign rfl) ?_; clear hs; (try clear a w); intro a w hs
   refine RL_nil ?_
   refine hK5 _ _ ?_; clear hK5
   refine W_ret ?_
   obtain rfl := Option.some.inj hm
   refine RtV1 hs rfl (rv_t hs rfl) ?_
   exact ⟨rfl, (hs.weak hle).cw⟩
  ·replace hm := oc_f hg4 hm
   refine W_skip ?_
   refine hK3 _ _ ?_; clear hK3
   refine W_seq fun K6 hK6 => ?_
   refine W_post (fun a w => ∃ (y7 : Bool), law7_WriteEscapes_k2 y7 = some res ∧ St 29 w0 f (L) [(4, .bool (y7))] a w) ?_ ?_
   ·clear hs hm
    rintro a w ⟨y7, hm, hs⟩
    replace hs : St _ _ _ (L) _ _ _ := hs
    unfold law7_WriteEscapes_k2 at hm
    refine hK6 _ _ ?_; clear hK6
    refine W_ret ?_
    obtain rfl := Option.some.inj hm
    refine RtV1 hs rfl (rv_t hs rfl) ?_
    exact ⟨rfl, (hs.weak hle).cw⟩
   ·refine W_region ?_
    refine sy (v := .string (x1)) hs (y_move rfl) ?_; clear hs; (try clear a w); intro a w hs
    refine sy (v := .bool (p1)) hs (y_move rfl) ?_; clear hs; (try clear a w); intro a w hs
    obtain ⟨x8, hx9, hm⟩ := ob hm
    refine sy hs (y_call rfl has8 rfl (write_Escape_ok n (f := f)  hx9)) ?_; clear hs; (try clear a w); intro a w hs
    refine sy (v := .string (x1)) hs (y_move rfl) ?_; clear hs; (try clear a w); intro a w hs
    refine sy (v := .bool (p1)) hs (y_move rfl) ?_; clear hs; (try clear a w); intro a w hs
    obtain ⟨x10, hx11, hm⟩ := ob hm
    refine sy hs (y_call rfl has9 rfl (ref7_Escape_ok n (f := f)  hx11)) ?_; clear hs; (try clear a w); intro a w hs
    refine sy hs (y_seql rfl rfl) ?_; clear hs; (try clear a w); intro a w hs
    refine sy (v := .bool (decide (x8 = x10))) hs (y_move rfl) ?_; clear hs; (try clear a w); intro a w hs
    refine St.split hs (t := 26) rfl (fun hg12 hq => ?_) (fun hg12 hq => ?_)
    ·clear hs; have hs := hq; clear hq
     replace hm := oc_t hg12 hm
     obtain ⟨x13, hx14, hm⟩ := ob hm
     refine syg hs (y_call rfl has7 rfl (law7_known_ok n (f := f)  hx14)) ?_; clear hs; (try clear a w); intro a w hs
     refine sy (v := .bool (x13)) hs (y_pick rfl rfl) ?_; clear hs; (try clear a w); intro a w hs
     refine sy (v := .bool (x13)) hs (y_assign rfl) ?_; clear hs; (try clear a w); intro a w hs
     refine RL_nil ?_
     exact ⟨x13, hm, hs.sub ⟨rfl, trivial⟩⟩
    ·clear hs; have hs := hq; clear hq
     replace hm := oc_f hg12 hm
     refine sno hs ?_; clear hs; (try clear a w); intro a w hs
     refine sy (v := .bool (false)) hs (y_pick rfl rfl) ?_; clear hs; (try clear a w); intro a w hs
     refine sy (v := .bool (false)) hs (y_assign rfl) ?_; clear hs; (try clear a w); intro a w hs
     refine RL_nil ?_
     exact ⟨false, hm, hs.sub ⟨rfl, trivial⟩⟩
 ·refine W_region ?_
  refine sy (v := .string (x1)) hs (y_move rfl) ?_; clear hs; (try clear a w); intro a w hs
  obtain ⟨x15, hx16, hm⟩ := ob hm
  refine RL_s2rW hx16 hs rfl Tryz.underlying9 Tryz.underlying24 Tryz.underlying21 ?_; clear hs; (try clear a w); intro v17 rw18 a w hW19 hs
  replace hs : St _ _ _ (.row v17 21 1 rw18 :: L) _ _ _ := hs
  obtain ⟨x22, hx23, hm⟩ := ob hm
  refine sy hs (y_callCK (cap := []) rfl has6 rfl (fun w9 hw9 => callsP (Lr := [.row v17 21 1 rw18]) (Lf := L) (perm_at _ 0 rfl) hw9 (fun Lz w9 hw9 => lent0 hw9 (fun f9_0 w9 hle9_0 hRl0 hw9 => (keep_Valid_ok n (f := f9_0) (a0 := v17) ⟨rw18, hRl0, hW19.le hle9_0⟩ hx23) w0 _ w9 hw9)))) ?_; clear hs; (try clear a w); intro a w hs
  refine sy (v := .bool ((!x22))) hs (y_not rfl) ?_; clear hs; (try clear a w); intro a w hs
  refine sy (v := .bool ((!x22))) hs (y_move rfl) ?_; clear hs; (try clear a w); intro a w hs
  refine St.split hs (t := 11) rfl (fun hg24 hq => ?_) (fun hg24 hq => ?_)
  ·clear hs; have hs := hq; clear hq
   replace hm := oc_t hg24 hm
   refine sno hs ?_; clear hs; (try clear a w); intro a w hs
   refine sno hs ?_; clear hs; (try clear a w); intro a w hs
   refine sno hs ?_; clear hs; (try clear a w); intro a w hs
   refine sno hs ?_; clear hs; (try clear a w); intro a w hs
   refine sno hs ?_; clear hs; (try clear a w); intro a w hs
   refine sy (v := .bool (true)) hs (y_pick rfl rfl) ?_; clear hs; (try clear a w); intro a w hs
   refine RL_nil ?_
   exact ⟨true, hm, hs.subs ⟨rfl, rfl, rfl, trivial⟩ (.cons _ (.refl _))⟩
  ·clear hs; have hs := hq; clear hq
   replace hm := oc_f hg24 hm
   refine syg (v := .string (x1)) hs (y_move rfl) ?_; clear hs; (try clear a w); intro a w hs
   refine RL_guard hs rfl rfl ?_
   obtain ⟨x25, hx26, hm⟩ := ob hm
   refine RL_s2rW hx26 hs rfl Tryz.underlying9 Tryz.underlying24 Tryz.underlying21 ?_; clear hs; (try clear a w); intro v27 rw28 a w hW29 hs
   replace hs : St _ _ _ (.row v27 21 1 rw28 :: .row v17 21 1 rw18 :: L) _ _ _ := hs
   refine syg (v := .string ((textOf x25))) hs (y_r2sW rfl Tryz.underlying24 Tryz.underlying21 Tryz.underlying9 (Rd.st hs (.head _)) hW29) ?_; clear hs; (try clear a w); intro a w hs
   refine syg (v := .string (x1)) hs (y_move rfl) ?_; clear hs; (try clear a w); intro a w hs
   refine syg hs (y_sneq rfl rfl) ?_; clear hs; (try clear a w); intro a w hs
   refine sy (v := .bool (decide ((textOf x25) ≠ x1))) hs (y_pick rfl rfl) ?_; clear hs; (try clear a w); intro a w hs
   refine RL_nil ?_
   exact ⟨decide ((textOf x25) ≠ x1), hm, hs.subs ⟨rfl, rfl, rfl, trivial⟩ (.cons _ (.cons _ (.refl _)))⟩
end Go.Proofs.YtklcdfnhdljkjaaGreatDoor
