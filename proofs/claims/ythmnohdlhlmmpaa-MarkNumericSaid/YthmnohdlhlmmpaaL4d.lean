/-
  Walks and laws of this seat; the base is the text Base.
-/
import Derived.Test.YthmnohdlhlmmpaaY4
import Derived.Test.YthmnohdlhlmmpaaRows
/-
  Models of functions, and that the functions compute them. Printed by lift.py.
-/
namespace Go.Proofs.Ythmnohdlhlmmpaa
open Go.RowKit Go.Sl

/-! casement/casementbook.Within -/
def book_Within_k1 (p1 : Int) (y3 : Int) : Option Int :=
  some (w64 (p1 + y3))
def book_Within (_n : Nat) (p0 : Int) (p1 : Int) (p2 : Int) : Option Int :=
  (remM p0 (w64 ((w64 (p2 - p1)) + 1))).bind fun x1 =>
  (bif (decide (x1 < 0)) then book_Within_k1 p1 (w64 ((w64 ((w64 (x1 + p2)) - p1)) + 1)) else
  book_Within_k1 p1 x1)
set_option maxRecDepth 20000 in
set_option maxHeartbeats 4000000 in
theorem book_Within_ok (n : Nat) {f : Fz} {p0 : Int} {p1 : Int} {p2 : Int} {res : Int}  (hm : book_Within n p0 p1 p2 = some res) : Gives Try.prog 31 [.int .i64 p0, .int .i64 p1, .int .i64 p2] f (.int .i64 res) := by
 unfold book_Within at hm
 intro w0 L w hC
 refine enter Try.func31 rfl Try.ntmps31 (by simp) hC fun a hs => ?_
 have hle := Fz.le.refl f
 refine W_seq fun K1 hK1 => ?_
 refine W_region ?_
 refine sy (v := .int .i64 (0)) hs (y_assign rfl) ?_; clear hs; (try clear a w); intro a w hs
 refine RL_nil ?_
 refine hK1 _ _ ?_; clear hK1
 refine W_seq fun K2 hK2 => ?_
 refine W_region ?_
 refine sy (v := .int .i64 (p0)) hs (y_move rfl) ?_; clear hs; (try clear a w); intro a w hs
 refine sy (v := .int .i64 (p2)) hs (y_move rfl) ?_; clear hs; (try clear a w); intro a w hs
 refine sy (v := .int .i64 (p1)) hs (y_move rfl) ?_; clear hs; (try clear a w); intro a w hs
 refine sy hs (y_sub rfl rfl rfl) ?_; clear hs; (try clear a w); intro a w hs
 refine sy hs (y_add rfl rfl rfl) ?_; clear hs; (try clear a w); intro a w hs
 obtain ⟨x1, hx2, hm⟩ := ob hm
 refine sy hs (y_remW rfl rfl hx2) ?_; clear hs; (try clear a w); intro a w hs
 refine sy (v := .int .i64 (x1)) hs (y_assign rfl) ?_; clear hs; (try clear a w); intro a w hs
 refine RL_nil ?_
 refine hK2 _ _ ?_; clear hK2
 refine W_seq fun K3 hK3 => ?_
 refine W_seq fun K4 hK4 => ?_
 refine W_region ?_
 refine sy (v := .int .i64 (x1)) hs (y_move rfl) ?_; clear hs; (try clear a w); intro a w hs
 refine sy hs (y_lss rfl rfl) ?_; clear hs; (try clear a w); intro a w hs
 refine RL_nil ?_
 refine hK4 _ _ ?_; clear hK4
 refine W_post (fun a w => ∃ (y3 : Int), book_Within_k1 p1 y3 = some res ∧ St 24 w0 f (L) [(0, .int .i64 (y3)), (1, .int .i64 (p1))] a w) ?_ ?_
 ·clear hs hm
  rintro a w ⟨y3, hm, hs⟩
  replace hs : St _ _ _ (L) _ _ _ := hs
  unfold book_Within_k1 at hm
  refine hK3 _ _ ?_; clear hK3
  refine W_seq fun K5 hK5 => ?_
  refine W_region ?_
  refine sy (v := .int .i64 (p1)) hs (y_move rfl) ?_; clear hs; (try clear a w); intro a w hs
  refine sy (v := .int .i64 (y3)) hs (y_move rfl) ?_; clear hs; (try clear a w); intro a w hs
  refine sy hs (y_add rfl rfl rfl) ?_; clear hs; (try clear a w); intro a w hs
  refine sy (v := .int .i64 ((w64 (p1 + y3)))) hs (y_assign rfl) ?_; clear hs; (try clear a w); intro a w hs
  refine RL_nil ?_
  refine hK5 _ _ ?_; clear hK5
  refine W_ret ?_
  obtain rfl := Option.some.inj hm
  refine RtV1 hs rfl (rv_t hs rfl) ?_
  exact ⟨rfl, (hs.weak hle).cw⟩
 ·refine W_cond hs rfl (fun hg4 => ?_) (fun hg4 => ?_)
  ·replace hm := oc_t hg4 hm
   refine W_region ?_
   refine sy (v := .int .i64 (x1)) hs (y_move rfl) ?_; clear hs; (try clear a w); intro a w hs
   refine sy (v := .int .i64 (p2)) hs (y_move rfl) ?_; clear hs; (try clear a w); intro a w hs
   refine sy hs (y_add rfl rfl rfl) ?_; clear hs; (try clear a w); intro a w hs
   refine sy (v := .int .i64 (p1)) hs (y_move rfl) ?_; clear hs; (try clear a w); intro a w hs
   refine sy hs (y_sub rfl rfl rfl) ?_; clear hs; (try clear a w); intro a w hs
   refine sy hs (y_add rfl rfl rfl) ?_; clear hs; (try clear a w); intro a w hs
   refine sy (v := .int .i64 ((w64 ((w64 ((w64 (x1 + p2)) - p1)) + 1)))) hs (y_assign rfl) ?_; clear hs; (try clear a w); intro a w hs
   refine RL_nil ?_
   exact ⟨(w64 ((w64 ((w64 (x1 + p2)) - p1)) + 1)), hm, hs.sub ⟨rfl, rfl, trivial⟩⟩
  ·replace hm := oc_f hg4 hm
   refine W_skip ?_
   exact ⟨x1, hm, hs.sub ⟨rfl, rfl, trivial⟩⟩

/-! casement/casementlaw4.digits -/
def law4_digits_k1 (y1 : ByteArray) : Option ByteArray :=
  some y1
def law4_digits_l2 (p1 : Int) : Nat → Int → ByteArray → Option ByteArray
  | 0, _, _ => none
  | k4 + 1, y2, y3 =>
  (bif ((decide (0 < y2)) || (decide (y3 = (bs [])))) then (remM y2 p1).bind fun x6 =>
  (cutS (bs [48, 49, 50, 51, 52, 53, 54, 55, 56, 57, 97, 98, 99, 100, 101, 102]) (x6 : Int) (w64 (x6 + 1))).bind fun x8 =>
  (addS x8 y3).bind fun x10 =>
  (quoM y2 p1).bind fun x12 =>
  (law4_digits_l2 p1 k4) x12 x10 else
  law4_digits_k1 y3)
def law4_digits (n : Nat) (p0 : Int) (p1 : Int) : Option ByteArray :=
  law4_digits_l2 p1 n p0 (bs [])
set_option maxRecDepth 20000 in
set_option maxHeartbeats 4000000 in
theorem law4_digits_ok (n : Nat) {f : Fz} {p0 : Int} {p1 : Int} {res : ByteArray}  (hm : law4_digits n p0 p1 = some res) : Gives Try.prog 32 [.int .i64 p0, .int .i64 p1] f (.string res) := by
 unfold law4_digits at hm
 intro w0 L w hC
 refine enter Try.func32 rfl Try.ntmps32 (by simp) hC fun a hs => ?_
 have hle := Fz.le.refl f
 refine W_seq fun K1 hK1 => ?_
 refine W_region ?_
 refine sy (v := .string ((bs []))) hs (y_assign rfl) ?_; clear hs; (try clear a w); intro a w hs
 refine RL_nil ?_
 refine hK1 _ _ ?_; clear hK1
 refine W_seq fun K2 hK2 => ?_
 refine W_region ?_
 refine sy (v := .string ((bs []))) hs (y_assign rfl) ?_; clear hs; (try clear a w); intro a w hs
 refine RL_nil ?_
 refine hK2 _ _ ?_; clear hK2
 refine W_seq fun K3 hK3 => ?_
 refine W_post (fun a w => ∃ (y1 : ByteArray), law4_digits_k1 y1 = some res ∧ St 26 w0 f (L) [(5, .string (y1))] a w) ?_ ?_
 ·clear hs hm
  rintro a w ⟨y1, hm, hs⟩
  replace hs : St _ _ _ (L) _ _ _ := hs
  unfold law4_digits_k1 at hm
  refine hK3 _ _ ?_; clear hK3
  refine W_seq fun K4 hK4 => ?_
  refine W_region ?_
  refine sy (v := .string (y1)) hs (y_move rfl) ?_; clear hs; (try clear a w); intro a w hs
  refine sy (v := .string (y1)) hs (y_assign rfl) ?_; clear hs; (try clear a w); intro a w hs
  refine RL_nil ?_
  refine hK4 _ _ ?_; clear hK4
  refine W_ret ?_
  obtain rfl := Option.some.inj hm
  refine RtV1 hs rfl (rv_t hs rfl) ?_
  exact ⟨rfl, (hs.weak hle).cw⟩
 ·refine W_block fun Qe5 hB5 hO5 => ?_
  refine W_loop (fun (k : Nat) a w => ∃ (y2 : Int) (y3 : ByteArray), law4_digits_l2 p1 k y2 y3 = some res ∧ St 26 w0 f (L) [(0, .int .i64 (y2)), (1, .int .i64 (p1)), (5, .string (y3))] a w) (fun k => k) n ⟨p0, (bs []), hm, hs.sub ⟨rfl, rfl, rfl, trivial⟩⟩ ?_
  clear hs hm
  intro k
  rintro a w ⟨y2, y3, hm, hs⟩
  replace hs : St _ _ _ (L) _ _ _ := hs
  intro K6 hK6
  cases k with
  | zero => simp [law4_digits_l2] at hm
  | succ k4 =>
   rw [law4_digits_l2] at hm
   refine W_seq fun K7 hK7 => ?_
   refine W_seq fun K8 hK8 => ?_
   refine W_post (fun a w => St 26 w0 f (L) [(0, .int .i64 (y2)), (1, .int .i64 (p1)), (5, .string (y3)), (12, .bool (((decide (0 < y2)) || (decide (y3 = (bs []))))))] a w) ?_ ?_
   ·clear hs; intro a w hs
    refine hK8 _ _ ?_; clear hK8
    refine W_cond hs rfl (fun hg5 => ?_) (fun hg5 => ?_)
    ·replace hm := oc_t hg5 hm
     refine W_skip ?_
     refine hK7 _ _ ?_; clear hK7
     refine W_block fun Qe9 hB9 hO9 => ?_
     refine W_seq fun K10 hK10 => ?_
     refine W_region ?_
     refine sy (v := .int .i64 (y2)) hs (y_move rfl) ?_; clear hs; (try clear a w); intro a w hs
     refine sy (v := .int .i64 (p1)) hs (y_move rfl) ?_; clear hs; (try clear a w); intro a w hs
     obtain ⟨x6, hx7, hm⟩ := ob hm
     refine sy hs (y_remW rfl rfl hx7) ?_; clear hs; (try clear a w); intro a w hs
     refine sy (v := .int .i64 (x6)) hs (y_assign rfl) ?_; clear hs; (try clear a w); intro a w hs
     refine RL_nil ?_
     refine hK10 _ _ ?_; clear hK10
     refine W_seq fun K11 hK11 => ?_
     refine W_region ?_
     refine sy (v := .int .i64 (x6)) hs (y_move rfl) ?_; clear hs; (try clear a w); intro a w hs
     refine sy (v := .int .i64 (x6)) hs (y_move rfl) ?_; clear hs; (try clear a w); intro a w hs
     refine sy hs (y_add rfl rfl rfl) ?_; clear hs; (try clear a w); intro a w hs
     obtain ⟨x8, hx9, hm⟩ := ob hm
     obtain ⟨⟨hlx8, hhx8, h1x8, h2x8⟩, hex8⟩ := cutS_some hx9
     refine sy hs (y_sliceS (lo := (x6 : Int).toNat) (hi := (w64 (x6 + 1)).toNat) rfl Try.underlying9 (.inr ⟨_, rfl, by rw [← hlx8]; rfl⟩) (.inr ⟨_, rfl, by rw [← hhx8]; rfl⟩) h1x8 h2x8) ?_; clear hs; (try clear a w); intro a w hs
     rw [hex8] at hs
     refine sy (v := .string (y3)) hs (y_move rfl) ?_; clear hs; (try clear a w); intro a w hs
     obtain ⟨x10, hx11, hm⟩ := ob hm
     obtain ⟨hbx10, hex10⟩ := addS_some hx11
     refine sy hs (y_saddW rfl rfl hbx10 hex10) ?_; clear hs; (try clear a w); intro a w hs
     refine sy (v := .string (x10)) hs (y_assign rfl) ?_; clear hs; (try clear a w); intro a w hs
     refine RL_nil ?_
     refine hK11 _ _ ?_; clear hK11
     refine W_region ?_
     refine sy (v := .int .i64 (y2)) hs (y_move rfl) ?_; clear hs; (try clear a w); intro a w hs
     refine sy (v := .int .i64 (p1)) hs (y_move rfl) ?_; clear hs; (try clear a w); intro a w hs
     obtain ⟨x12, hx13, hm⟩ := ob hm
     refine sy hs (y_quoW rfl rfl hx13) ?_; clear hs; (try clear a w); intro a w hs
     refine sy (v := .int .i64 (x12)) hs (y_assign rfl) ?_; clear hs; (try clear a w); intro a w hs
     refine RL_nil ?_
     exact hK6 k4 _ _ (Nat.lt_succ_self _) ⟨x12, x10, hm, hs.sub ⟨rfl, rfl, rfl, trivial⟩⟩
    ·replace hm := oc_f hg5 hm
     refine W_exit ?_
     refine hB5 _ _ ?_
     exact ⟨y3, hm, hs.sub ⟨rfl, trivial⟩⟩
   ·refine W_region ?_
    refine sy (v := .int .i64 (y2)) hs (y_move rfl) ?_; clear hs; (try clear a w); intro a w hs
    refine sy hs (y_gtr rfl rfl) ?_; clear hs; (try clear a w); intro a w hs
    refine sy (v := .bool (decide (0 < y2))) hs (y_move rfl) ?_; clear hs; (try clear a w); intro a w hs
    refine St.split hs (t := 9) rfl (fun hg14 hq => ?_) (fun hg14 hq => ?_)
    ·clear hs; have hs := hq; clear hq
     refine sno hs ?_; clear hs; (try clear a w); intro a w hs
     refine sno hs ?_; clear hs; (try clear a w); intro a w hs
     refine sy (v := .bool (true)) hs (y_pick rfl rfl) ?_; clear hs; (try clear a w); intro a w hs
     refine RL_nil ?_
     exact hs.sub ⟨rfl, rfl, rfl, (lkB (((or_t hg14).trans rfl)) rfl), trivial⟩
    ·clear hs; have hs := hq; clear hq
     refine syg (v := .string (y3)) hs (y_move rfl) ?_; clear hs; (try clear a w); intro a w hs
     refine syg hs (y_seql rfl rfl) ?_; clear hs; (try clear a w); intro a w hs
     refine sy (v := .bool (decide (y3 = (bs [])))) hs (y_pick rfl rfl) ?_; clear hs; (try clear a w); intro a w hs
     refine RL_nil ?_
     exact hs.sub ⟨rfl, rfl, rfl, (lkB (((or_f hg14).trans rfl)) rfl), trivial⟩

end Go.Proofs.Ythmnohdlhlmmpaa
