/-
  Walks and laws of this seat; the base is the text Base.
-/
import Derived.Test.YthmnohdlhlmmpaaL4g
import Derived.Test.YthmnohdlhlmmpaaL4a
import Derived.Test.YthmnohdlhlmmpaaL4k
import Derived.Test.YthmnohdlhlmmpaaRows
/-
  Models of functions, and that the functions compute them. Printed by lift.py.
-/
namespace Go.Proofs.Ythmnohdlhlmmpaa
open Go.RowKit Go.Sl

/-! casement/casementlaw4.MarkUnescapes -/
def law4_MarkUnescapes_k1 (y3 : Bool) : Option Bool :=
  some y3
def law4_MarkUnescapes (n : Nat) (p0 : ByteArray) : Option Bool :=
  (keep_Few n p0 2000).bind fun x1 =>
  (mark_Unescape n x1).bind fun x4 =>
  (ref4_Unescape n x1).bind fun x6 =>
  (bif (decide (x4 = x6)) then (law4_known n).bind fun x9 =>
  law4_MarkUnescapes_k1 x9 else
  law4_MarkUnescapes_k1 false)
set_option maxRecDepth 20000 in
set_option maxHeartbeats 4000000 in
theorem law4_MarkUnescapes_ok (n : Nat) {f : Fz} {p0 : ByteArray} {res : Bool}  (hm : law4_MarkUnescapes n p0 = some res) : Gives Try.prog 5 [.string p0] f (.bool res) := by
 unfold law4_MarkUnescapes at hm
 intro w0 L w hC
 refine enter Try.func5 rfl Try.ntmps5 (by simp) hC fun a hs => ?_
 have hle := Fz.le.refl f
 refine W_seq fun K1 hK1 => ?_
 refine W_region ?_
 refine sy (v := .bool (false)) hs (y_assign rfl) ?_; clear hs; (try clear a w); intro a w hs
 refine RL_nil ?_
 refine hK1 _ _ ?_; clear hK1
 refine W_seq fun K2 hK2 => ?_
 refine W_region ?_
 refine sy (v := .string (p0)) hs (y_move rfl) ?_; clear hs; (try clear a w); intro a w hs
 obtain ⟨x1, hx2, hm⟩ := ob hm
 refine sy hs (y_call rfl has25 rfl (keep_Few_ok n (f := f)  hx2)) ?_; clear hs; (try clear a w); intro a w hs
 refine sy (v := .string (x1)) hs (y_assign rfl) ?_; clear hs; (try clear a w); intro a w hs
 refine RL_nil ?_
 refine hK2 _ _ ?_; clear hK2
 refine W_seq fun K3 hK3 => ?_
 refine W_post (fun a w => ∃ (y3 : Bool), law4_MarkUnescapes_k1 y3 = some res ∧ St 13 w0 f (L) [(2, .bool (y3))] a w) ?_ ?_
 ·clear hs hm
  rintro a w ⟨y3, hm, hs⟩
  replace hs : St _ _ _ (L) _ _ _ := hs
  unfold law4_MarkUnescapes_k1 at hm
  refine hK3 _ _ ?_; clear hK3
  refine W_ret ?_
  obtain rfl := Option.some.inj hm
  refine RtV1 hs rfl (rv_t hs rfl) ?_
  exact ⟨rfl, (hs.weak hle).cw⟩
 ·refine W_region ?_
  refine sy (v := .string (x1)) hs (y_move rfl) ?_; clear hs; (try clear a w); intro a w hs
  obtain ⟨x4, hx5, hm⟩ := ob hm
  refine sy hs (y_call rfl has16 rfl (mark_Unescape_ok n (f := f)  hx5)) ?_; clear hs; (try clear a w); intro a w hs
  refine sy (v := .string (x1)) hs (y_move rfl) ?_; clear hs; (try clear a w); intro a w hs
  obtain ⟨x6, hx7, hm⟩ := ob hm
  refine sy hs (y_call rfl has26 rfl (ref4_Unescape_ok n (f := f)  hx7)) ?_; clear hs; (try clear a w); intro a w hs
  refine sy hs (y_seql rfl rfl) ?_; clear hs; (try clear a w); intro a w hs
  refine sy (v := .bool (decide (x4 = x6))) hs (y_move rfl) ?_; clear hs; (try clear a w); intro a w hs
  refine St.split hs (t := 10) rfl (fun hg8 hq => ?_) (fun hg8 hq => ?_)
  ·clear hs; have hs := hq; clear hq
   replace hm := oc_t hg8 hm
   obtain ⟨x9, hx10, hm⟩ := ob hm
   refine syg hs (y_call rfl has17 rfl (law4_known_ok n (f := f)  hx10)) ?_; clear hs; (try clear a w); intro a w hs
   refine sy (v := .bool (x9)) hs (y_pick rfl rfl) ?_; clear hs; (try clear a w); intro a w hs
   refine sy (v := .bool (x9)) hs (y_assign rfl) ?_; clear hs; (try clear a w); intro a w hs
   refine RL_nil ?_
   exact ⟨x9, hm, hs.sub ⟨rfl, trivial⟩⟩
  ·clear hs; have hs := hq; clear hq
   replace hm := oc_f hg8 hm
   refine sno hs ?_; clear hs; (try clear a w); intro a w hs
   refine sy (v := .bool (false)) hs (y_pick rfl rfl) ?_; clear hs; (try clear a w); intro a w hs
   refine sy (v := .bool (false)) hs (y_assign rfl) ?_; clear hs; (try clear a w); intro a w hs
   refine RL_nil ?_
   exact ⟨false, hm, hs.sub ⟨rfl, trivial⟩⟩

end Go.Proofs.Ythmnohdlhlmmpaa
