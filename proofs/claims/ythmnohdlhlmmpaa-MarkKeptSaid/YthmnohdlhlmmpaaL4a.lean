/-
  Walks and laws of this seat; the base is the text Base.
-/
import Derived.Test.YthmnohdlhlmmpaaY4
import Derived.Test.YthmnohdlhlmmpaaRows
/-
  Models of functions, and that the functions compute them. Printed by lift.py.
-/
namespace Go.Proofs.Ythmnohdlhlmmpaa
open Go.RowKit Go.Sl
/-! casement/casementref4.digit -/
def ref4_digit_k3 (p1 : Int) (y3 : Int) : Option Int :=
  (bif (decide (p1 ≤ y3)) then some (-1) else
  some y3)
def ref4_digit_k2 (p0 : Int) (p1 : Int) (y2 : Int) : Option Int :=
  (bif ((decide (65 ≤ p0)) && (decide (p0 ≤ 70))) then ref4_digit_k3 p1 (w64 ((IntKind.i64.wrap (IntKind.u8.wrap (p0 - 65))) + 10)) else
  ref4_digit_k3 p1 y2)
def ref4_digit_k1 (p0 : Int) (p1 : Int) (y1 : Int) : Option Int :=
  (bif ((decide (97 ≤ p0)) && (decide (p0 ≤ 102))) then ref4_digit_k2 p0 p1 (w64 ((IntKind.i64.wrap (IntKind.u8.wrap (p0 - 97))) + 10)) else
  ref4_digit_k2 p0 p1 y1)
def ref4_digit (_n : Nat) (p0 : Int) (p1 : Int) : Option Int :=
  (bif ((decide (48 ≤ p0)) && (decide (p0 ≤ 57))) then ref4_digit_k1 p0 p1 (IntKind.i64.wrap (IntKind.u8.wrap (p0 - 48))) else
  ref4_digit_k1 p0 p1 (-1))
set_option maxRecDepth 20000 in
set_option maxHeartbeats 4000000 in
theorem ref4_digit_ok (n : Nat) {f : Fz} {p0 : Int} {p1 : Int} {res : Int}  (hm : ref4_digit n p0 p1 = some res) : Gives Try.prog 77 [.int .u8 p0, .int .i64 p1] f (.int .i64 res) := by
 unfold ref4_digit at hm
 intro w0 L w hC
 refine enter Try.func77 rfl Try.ntmps77 (by simp) hC fun a hs => ?_
 have hle := Fz.le.refl f
 refine W_seq fun K1 hK1 => ?_
 refine W_region ?_
 refine sy (v := .int .i64 (0)) hs (y_assign rfl) ?_; clear hs; (try clear a w); intro a w hs
 refine RL_nil ?_
 refine hK1 _ _ ?_; clear hK1
 refine W_seq fun K2 hK2 => ?_
 refine W_region ?_
 refine sy (v := .int .i64 ((-1))) hs (y_assign rfl) ?_; clear hs; (try clear a w); intro a w hs
 refine RL_nil ?_
 refine hK2 _ _ ?_; clear hK2
 refine W_seq fun K3 hK3 => ?_
 refine W_seq fun K4 hK4 => ?_
 refine W_post (fun a w => St 39 w0 f (L) [(0, .int .u8 (p0)), (1, .int .i64 (p1)), (5, .int .i64 ((-1))), (11, .bool (((decide (48 ≤ p0)) && (decide (p0 ≤ 57)))))] a w) ?_ ?_
 ·clear hs; intro a w hs
  refine hK4 _ _ ?_; clear hK4
  refine W_post (fun a w => ∃ (y1 : Int), ref4_digit_k1 p0 p1 y1 = some res ∧ St 39 w0 f (L) [(0, .int .u8 (p0)), (1, .int .i64 (p1)), (5, .int .i64 (y1))] a w) ?_ ?_
  ·clear hs hm
   rintro a w ⟨y1, hm, hs⟩
   replace hs : St _ _ _ (L) _ _ _ := hs
   unfold ref4_digit_k1 at hm
   refine hK3 _ _ ?_; clear hK3
   refine W_seq fun K5 hK5 => ?_
   refine W_seq fun K6 hK6 => ?_
   refine W_post (fun a w => St 39 w0 f (L) [(0, .int .u8 (p0)), (1, .int .i64 (p1)), (5, .int .i64 (y1)), (20, .bool (((decide (97 ≤ p0)) && (decide (p0 ≤ 102)))))] a w) ?_ ?_
   ·clear hs; intro a w hs
    refine hK6 _ _ ?_; clear hK6
    refine W_post (fun a w => ∃ (y2 : Int), ref4_digit_k2 p0 p1 y2 = some res ∧ St 39 w0 f (L) [(0, .int .u8 (p0)), (1, .int .i64 (p1)), (5, .int .i64 (y2))] a w) ?_ ?_
    ·clear hs hm
     rintro a w ⟨y2, hm, hs⟩
     replace hs : St _ _ _ (L) _ _ _ := hs
     unfold ref4_digit_k2 at hm
     refine hK5 _ _ ?_; clear hK5
     refine W_seq fun K7 hK7 => ?_
     refine W_seq fun K8 hK8 => ?_
     refine W_post (fun a w => St 39 w0 f (L) [(0, .int .u8 (p0)), (1, .int .i64 (p1)), (5, .int .i64 (y2)), (30, .bool (((decide (65 ≤ p0)) && (decide (p0 ≤ 70)))))] a w) ?_ ?_
     ·clear hs; intro a w hs
      refine hK8 _ _ ?_; clear hK8
      refine W_post (fun a w => ∃ (y3 : Int), ref4_digit_k3 p1 y3 = some res ∧ St 39 w0 f (L) [(1, .int .i64 (p1)), (5, .int .i64 (y3))] a w) ?_ ?_
      ·clear hs hm
       rintro a w ⟨y3, hm, hs⟩
       replace hs : St _ _ _ (L) _ _ _ := hs
       unfold ref4_digit_k3 at hm
       refine hK7 _ _ ?_; clear hK7
       refine W_seq fun K9 hK9 => ?_
       refine W_seq fun K10 hK10 => ?_
       refine W_region ?_
       refine sy (v := .int .i64 (y3)) hs (y_move rfl) ?_; clear hs; (try clear a w); intro a w hs
       refine sy (v := .int .i64 (p1)) hs (y_move rfl) ?_; clear hs; (try clear a w); intro a w hs
       refine sy hs (y_geq rfl rfl) ?_; clear hs; (try clear a w); intro a w hs
       refine RL_nil ?_
       refine hK10 _ _ ?_; clear hK10
       refine W_cond hs rfl (fun hg4 => ?_) (fun hg4 => ?_)
       ·replace hm := oc_t hg4 hm
        refine W_seq fun K11 hK11 => ?_
        refine W_region ?_
        refine sy (v := .int .i64 ((-1))) hs (y_assign rfl) ?_; clear hs; (try clear a w); intro a w hs
        refine RL_nil ?_
        refine hK11 _ _ ?_; clear hK11
        refine W_ret ?_
        obtain rfl := Option.some.inj hm
        refine RtV1 hs rfl (rv_t hs rfl) ?_
        exact ⟨rfl, (hs.weak hle).cw⟩
       ·replace hm := oc_f hg4 hm
        refine W_skip ?_
        refine hK9 _ _ ?_; clear hK9
        refine W_seq fun K12 hK12 => ?_
        refine W_region ?_
        refine sy (v := .int .i64 (y3)) hs (y_move rfl) ?_; clear hs; (try clear a w); intro a w hs
        refine sy (v := .int .i64 (y3)) hs (y_assign rfl) ?_; clear hs; (try clear a w); intro a w hs
        refine RL_nil ?_
        refine hK12 _ _ ?_; clear hK12
        refine W_ret ?_
        obtain rfl := Option.some.inj hm
        refine RtV1 hs rfl (rv_t hs rfl) ?_
        exact ⟨rfl, (hs.weak hle).cw⟩
      ·refine W_cond hs rfl (fun hg5 => ?_) (fun hg5 => ?_)
       ·replace hm := oc_t hg5 hm
        refine W_region ?_
        refine sy (v := .int .u8 (p0)) hs (y_move rfl) ?_; clear hs; (try clear a w); intro a w hs
        refine sy hs (y_sub rfl rfl rfl) ?_; clear hs; (try clear a w); intro a w hs
        refine sy (v := .int .i64 ((IntKind.i64.wrap (IntKind.u8.wrap (p0 - 65))))) hs (y_i2i rfl (by rw [Try.underlying5]; rfl) Try.underlying3 rfl) ?_; clear hs; (try clear a w); intro a w hs
        refine sy hs (y_add rfl rfl rfl) ?_; clear hs; (try clear a w); intro a w hs
        refine sy (v := .int .i64 ((w64 ((IntKind.i64.wrap (IntKind.u8.wrap (p0 - 65))) + 10)))) hs (y_assign rfl) ?_; clear hs; (try clear a w); intro a w hs
        refine RL_nil ?_
        exact ⟨(w64 ((IntKind.i64.wrap (IntKind.u8.wrap (p0 - 65))) + 10)), hm, hs.sub ⟨rfl, rfl, trivial⟩⟩
       ·replace hm := oc_f hg5 hm
        refine W_skip ?_
        exact ⟨y2, hm, hs.sub ⟨rfl, rfl, trivial⟩⟩
     ·refine W_region ?_
      refine sy (v := .int .u8 (p0)) hs (y_move rfl) ?_; clear hs; (try clear a w); intro a w hs
      refine sy hs (y_geq rfl rfl) ?_; clear hs; (try clear a w); intro a w hs
      refine sy (v := .bool (decide (65 ≤ p0))) hs (y_move rfl) ?_; clear hs; (try clear a w); intro a w hs
      refine St.split hs (t := 27) rfl (fun hg6 hq => ?_) (fun hg6 hq => ?_)
      ·clear hs; have hs := hq; clear hq
       refine syg (v := .int .u8 (p0)) hs (y_move rfl) ?_; clear hs; (try clear a w); intro a w hs
       refine syg hs (y_leq rfl rfl) ?_; clear hs; (try clear a w); intro a w hs
       refine sy (v := .bool (decide (p0 ≤ 70))) hs (y_pick rfl rfl) ?_; clear hs; (try clear a w); intro a w hs
       refine RL_nil ?_
       exact hs.sub ⟨rfl, rfl, rfl, (lkB (((and_t hg6).trans rfl)) rfl), trivial⟩
      ·clear hs; have hs := hq; clear hq
       refine sno hs ?_; clear hs; (try clear a w); intro a w hs
       refine sno hs ?_; clear hs; (try clear a w); intro a w hs
       refine sy (v := .bool (false)) hs (y_pick rfl rfl) ?_; clear hs; (try clear a w); intro a w hs
       refine RL_nil ?_
       exact hs.sub ⟨rfl, rfl, rfl, (lkB (((and_f hg6).trans rfl)) rfl), trivial⟩
    ·refine W_cond hs rfl (fun hg7 => ?_) (fun hg7 => ?_)
     ·replace hm := oc_t hg7 hm
      refine W_region ?_
      refine sy (v := .int .u8 (p0)) hs (y_move rfl) ?_; clear hs; (try clear a w); intro a w hs
      refine sy hs (y_sub rfl rfl rfl) ?_; clear hs; (try clear a w); intro a w hs
      refine sy (v := .int .i64 ((IntKind.i64.wrap (IntKind.u8.wrap (p0 - 97))))) hs (y_i2i rfl (by rw [Try.underlying5]; rfl) Try.underlying3 rfl) ?_; clear hs; (try clear a w); intro a w hs
      refine sy hs (y_add rfl rfl rfl) ?_; clear hs; (try clear a w); intro a w hs
      refine sy (v := .int .i64 ((w64 ((IntKind.i64.wrap (IntKind.u8.wrap (p0 - 97))) + 10)))) hs (y_assign rfl) ?_; clear hs; (try clear a w); intro a w hs
      refine RL_nil ?_
      exact ⟨(w64 ((IntKind.i64.wrap (IntKind.u8.wrap (p0 - 97))) + 10)), hm, hs.sub ⟨rfl, rfl, rfl, trivial⟩⟩
     ·replace hm := oc_f hg7 hm
      refine W_skip ?_
      exact ⟨y1, hm, hs.sub ⟨rfl, rfl, rfl, trivial⟩⟩
   ·refine W_region ?_
    refine sy (v := .int .u8 (p0)) hs (y_move rfl) ?_; clear hs; (try clear a w); intro a w hs
    refine sy hs (y_geq rfl rfl) ?_; clear hs; (try clear a w); intro a w hs
    refine sy (v := .bool (decide (97 ≤ p0))) hs (y_move rfl) ?_; clear hs; (try clear a w); intro a w hs
    refine St.split hs (t := 17) rfl (fun hg8 hq => ?_) (fun hg8 hq => ?_)
    ·clear hs; have hs := hq; clear hq
     refine syg (v := .int .u8 (p0)) hs (y_move rfl) ?_; clear hs; (try clear a w); intro a w hs
     refine syg hs (y_leq rfl rfl) ?_; clear hs; (try clear a w); intro a w hs
     refine sy (v := .bool (decide (p0 ≤ 102))) hs (y_pick rfl rfl) ?_; clear hs; (try clear a w); intro a w hs
     refine RL_nil ?_
     exact hs.sub ⟨rfl, rfl, rfl, (lkB (((and_t hg8).trans rfl)) rfl), trivial⟩
    ·clear hs; have hs := hq; clear hq
     refine sno hs ?_; clear hs; (try clear a w); intro a w hs
     refine sno hs ?_; clear hs; (try clear a w); intro a w hs
     refine sy (v := .bool (false)) hs (y_pick rfl rfl) ?_; clear hs; (try clear a w); intro a w hs
     refine RL_nil ?_
     exact hs.sub ⟨rfl, rfl, rfl, (lkB (((and_f hg8).trans rfl)) rfl), trivial⟩
  ·refine W_cond hs rfl (fun hg9 => ?_) (fun hg9 => ?_)
   ·replace hm := oc_t hg9 hm
    refine W_region ?_
    refine sy (v := .int .u8 (p0)) hs (y_move rfl) ?_; clear hs; (try clear a w); intro a w hs
    refine sy hs (y_sub rfl rfl rfl) ?_; clear hs; (try clear a w); intro a w hs
    refine sy (v := .int .i64 ((IntKind.i64.wrap (IntKind.u8.wrap (p0 - 48))))) hs (y_i2i rfl (by rw [Try.underlying5]; rfl) Try.underlying3 rfl) ?_; clear hs; (try clear a w); intro a w hs
    refine sy (v := .int .i64 ((IntKind.i64.wrap (IntKind.u8.wrap (p0 - 48))))) hs (y_assign rfl) ?_; clear hs; (try clear a w); intro a w hs
    refine RL_nil ?_
    exact ⟨(IntKind.i64.wrap (IntKind.u8.wrap (p0 - 48))), hm, hs.sub ⟨rfl, rfl, rfl, trivial⟩⟩
   ·replace hm := oc_f hg9 hm
    refine W_skip ?_
    exact ⟨(-1), hm, hs.sub ⟨rfl, rfl, rfl, trivial⟩⟩
 ·refine W_region ?_
  refine sy (v := .int .u8 (p0)) hs (y_move rfl) ?_; clear hs; (try clear a w); intro a w hs
  refine sy hs (y_geq rfl rfl) ?_; clear hs; (try clear a w); intro a w hs
  refine sy (v := .bool (decide (48 ≤ p0))) hs (y_move rfl) ?_; clear hs; (try clear a w); intro a w hs
  refine St.split hs (t := 8) rfl (fun hg10 hq => ?_) (fun hg10 hq => ?_)
  ·clear hs; have hs := hq; clear hq
   refine syg (v := .int .u8 (p0)) hs (y_move rfl) ?_; clear hs; (try clear a w); intro a w hs
   refine syg hs (y_leq rfl rfl) ?_; clear hs; (try clear a w); intro a w hs
   refine sy (v := .bool (decide (p0 ≤ 57))) hs (y_pick rfl rfl) ?_; clear hs; (try clear a w); intro a w hs
   refine RL_nil ?_
   exact hs.sub ⟨rfl, rfl, rfl, (lkB (((and_t hg10).trans rfl)) rfl), trivial⟩
  ·clear hs; have hs := hq; clear hq
   refine sno hs ?_; clear hs; (try clear a w); intro a w hs
   refine sno hs ?_; clear hs; (try clear a w); intro a w hs
   refine sy (v := .bool (false)) hs (y_pick rfl rfl) ?_; clear hs; (try clear a w); intro a w hs
   refine RL_nil ?_
   exact hs.sub ⟨rfl, rfl, rfl, (lkB (((and_f hg10).trans rfl)) rfl), trivial⟩
/-! casement/casementref4.reference -/
def ref4_reference_k7 (y16 : Int) (y20 : Int) : Option (ByteArray × Int) :=
  some ((textOf [(IntKind.i32.wrap y20)]), (w64 (y16 + 1)))
def ref4_reference_k6 (y16 : Int) (y17 : Int) (y18 : Bool) : Option (ByteArray × Int) :=
  (bif y18 then some ((bs []), 0) else
  (bif ((decide (y17 = 0)) || ((decide (1114111 < y17)) || ((decide (55296 ≤ y17)) && (decide (y17 ≤ 57343))))) then ref4_reference_k7 y16 65533 else
  ref4_reference_k7 y16 y17))
def ref4_reference_k5 (p0 : ByteArray) (y14 : Int) (y16 : Int) (y17 : Int) : Option (ByteArray × Int) :=
  (bif (decide (y16 = y14)) then ref4_reference_k6 y16 y17 true else
  (bif (decide (8 < (w64 (y16 - y14)))) then ref4_reference_k6 y16 y17 true else
  (bif (decide ((p0.size : Int) ≤ y16)) then ref4_reference_k6 y16 y17 true else
  (getS p0 y16).bind fun x33 =>
  ref4_reference_k6 y16 y17 (decide (x33 ≠ 59)))))
def ref4_reference_k9 (n : Nat) (p0 : ByteArray) (y14 : Int) (y15 : Int) (y35 : Int) (y36 : Int) (lp37 : Int → Int → Option (ByteArray × Int)) (y38 : Bool) : Option (ByteArray × Int) :=
  (bif y38 then (getS p0 y35).bind fun x40 =>
  (ref4_digit n x40 y15).bind fun x42 =>
  lp37 (w64 (y35 + 1)) (w64 ((w64 (y36 * y15)) + x42)) else
  ref4_reference_k5 p0 y14 y35 y36)
def ref4_reference_l8 (n : Nat) (p0 : ByteArray) (y14 : Int) (y15 : Int) : Nat → Int → Int → Option (ByteArray × Int)
  | 0, _, _ => none
  | k37 + 1, y35, y36 =>
  (bif (decide (y35 < (p0.size : Int))) then (getS p0 y35).bind fun x45 =>
  (ref4_digit n x45 y15).bind fun x47 =>
  (bif (decide (0 ≤ x47)) then ref4_reference_k9 n p0 y14 y15 y35 y36 (ref4_reference_l8 n p0 y14 y15 k37) (decide ((w64 (y35 - y14)) < 9)) else
  ref4_reference_k9 n p0 y14 y15 y35 y36 (ref4_reference_l8 n p0 y14 y15 k37) false) else
  ref4_reference_k9 n p0 y14 y15 y35 y36 (ref4_reference_l8 n p0 y14 y15 k37) false)
def ref4_reference_k4 (n : Nat) (p0 : ByteArray) (y14 : Int) (y15 : Int) : Option (ByteArray × Int) :=
  ref4_reference_l8 n p0 y14 y15 n y14 0
def ref4_reference_k3 (n : Nat) (p0 : ByteArray) (p1 : Int) (y13 : Bool) : Option (ByteArray × Int) :=
  (bif y13 then ref4_reference_k4 n p0 (w64 ((w64 (p1 + 2)) + 1)) 16 else
  ref4_reference_k4 n p0 (w64 (p1 + 2)) 10)
def ref4_reference_k2 (n : Nat) (p0 : ByteArray) (p1 : Int) (y11 : Bool) : Option (ByteArray × Int) :=
  (bif y11 then some ((bs []), 0) else
  (bif (decide ((w64 (p1 + 2)) < (p0.size : Int))) then (getS p0 (w64 (p1 + 2))).bind fun x52 =>
  (bif (decide (x52 = 120)) then ref4_reference_k3 n p0 p1 true else
  (getS p0 (w64 (p1 + 2))).bind fun x55 =>
  ref4_reference_k3 n p0 p1 (decide (x55 = 88))) else
  ref4_reference_k3 n p0 p1 false))
def ref4_reference_k1 (n : Nat) (p0 : ByteArray) (p1 : Int) : Option (ByteArray × Int) :=
  (bif (decide ((p0.size : Int) ≤ (w64 (p1 + 1)))) then ref4_reference_k2 n p0 p1 true else
  (getS p0 (w64 (p1 + 1))).bind fun x58 =>
  ref4_reference_k2 n p0 p1 (decide (x58 ≠ 35)))
def ref4_reference_k11 (p1 : Int) (y60 : Int) (lp61 : Int → Option (ByteArray × Int)) (y63 : Bool) : Option (ByteArray × Int) :=
  (bif y63 then (geti [(bs [38]), (bs [60]), (bs [62]), (bs [34]), (bs [39]), (bs [194, 160])] y60).bind fun x65 =>
  (geti [(bs [38, 97, 109, 112, 59]), (bs [38, 108, 116, 59]), (bs [38, 103, 116, 59]), (bs [38, 113, 117, 111, 116, 59]), (bs [38, 97, 112, 111, 115, 59]), (bs [38, 110, 98, 115, 112, 59])] y60).bind fun x72 =>
  some (x65, (w64 (p1 + (x72.size : Int)))) else
  lp61 (w64 (y60 + 1)))
def ref4_reference_l10 (n : Nat) (p0 : ByteArray) (p1 : Int) : Nat → Int → Option (ByteArray × Int)
  | 0, _ => none
  | k61 + 1, y60 =>
  (bif (decide (y60 < ([(bs [38, 97, 109, 112, 59]), (bs [38, 108, 116, 59]), (bs [38, 103, 116, 59]), (bs [38, 113, 117, 111, 116, 59]), (bs [38, 97, 112, 111, 115, 59]), (bs [38, 110, 98, 115, 112, 59])].length : Int))) then (geti [(bs [38, 97, 109, 112, 59]), (bs [38, 108, 116, 59]), (bs [38, 103, 116, 59]), (bs [38, 113, 117, 111, 116, 59]), (bs [38, 97, 112, 111, 115, 59]), (bs [38, 110, 98, 115, 112, 59])] y60).bind fun x79 =>
  (bif (decide ((x79.size : Int) ≤ (w64 ((p0.size : Int) - p1)))) then (geti [(bs [38, 97, 109, 112, 59]), (bs [38, 108, 116, 59]), (bs [38, 103, 116, 59]), (bs [38, 113, 117, 111, 116, 59]), (bs [38, 97, 112, 111, 115, 59]), (bs [38, 110, 98, 115, 112, 59])] y60).bind fun x87 =>
  (cutS p0 (p1 : Int) (w64 (p1 + (x87.size : Int)))).bind fun x94 =>
  (geti [(bs [38, 97, 109, 112, 59]), (bs [38, 108, 116, 59]), (bs [38, 103, 116, 59]), (bs [38, 113, 117, 111, 116, 59]), (bs [38, 97, 112, 111, 115, 59]), (bs [38, 110, 98, 115, 112, 59])] y60).bind fun x96 =>
  ref4_reference_k11 p1 y60 (ref4_reference_l10 n p0 p1 k61) (decide (x94 = x96)) else
  ref4_reference_k11 p1 y60 (ref4_reference_l10 n p0 p1 k61) false) else
  ref4_reference_k1 n p0 p1)
def ref4_reference (n : Nat) (p0 : ByteArray) (p1 : Int) : Option (ByteArray × Int) :=
  ref4_reference_l10 n p0 p1 n 0
set_option maxRecDepth 20000 in
set_option maxHeartbeats 4000000 in
theorem ref4_reference_ok (n : Nat) {f : Fz} {p0 : ByteArray} {p1 : Int} {res : (ByteArray × Int)}  (hm : ref4_reference n p0 p1 = some res) : Gives Try.prog 57 [.string p0, .int .i64 p1] f (.tuple #[.string res.1, .int .i64 res.2]) := by
 unfold ref4_reference at hm
 intro w0 L w hC
 refine enter Try.func57 rfl Try.ntmps57 (by simp) hC fun a hs => ?_
 have hle := Fz.le.refl f
 refine W_seq fun K1 hK1 => ?_
 refine W_region ?_
 refine sy (v := .string ((bs []))) hs (y_assign rfl) ?_; clear hs; (try clear a w); intro a w hs
 refine sy (v := .int .i64 (0)) hs (y_assign rfl) ?_; clear hs; (try clear a w); intro a w hs
 refine RL_nil ?_
 refine hK1 _ _ ?_; clear hK1
 refine W_seq fun K2 hK2 => ?_
 refine W_region ?_
 refine RL_bsN (parts := [(0, .const (.string (bs [38, 97, 109, 112, 59]))), (1, .const (.string (bs [38, 108, 116, 59]))), (2, .const (.string (bs [38, 103, 116, 59]))), (3, .const (.string (bs [38, 113, 117, 111, 116, 59]))), (4, .const (.string (bs [38, 97, 112, 111, 115, 59]))), (5, .const (.string (bs [38, 110, 98, 115, 112, 59])))]) (us := [.string ((bs [38, 97, 109, 112, 59])), .string ((bs [38, 108, 116, 59])), .string ((bs [38, 103, 116, 59])), .string ((bs [38, 113, 117, 111, 116, 59])), .string ((bs [38, 97, 112, 111, 115, 59])), .string ((bs [38, 110, 98, 115, 112, 59]))]) (rows := [[.string ((bs [38, 97, 109, 112, 59]))], [.string ((bs [38, 108, 116, 59]))], [.string ((bs [38, 103, 116, 59]))], [.string ((bs [38, 113, 117, 111, 116, 59]))], [.string ((bs [38, 97, 112, 111, 115, 59]))], [.string ((bs [38, 110, 98, 115, 112, 59]))]]) hs rfl Try.underlying104 ti9 (by decide) rfl rfl (by intro r hr; simp only [List.mem_cons, List.mem_nil_iff, or_false] at hr; rcases hr with rfl | rfl | rfl | rfl | rfl | rfl; exact AllC.row ⟨rfl, trivial⟩ rfl; exact AllC.row ⟨rfl, trivial⟩ rfl; exact AllC.row ⟨rfl, trivial⟩ rfl; exact AllC.row ⟨rfl, trivial⟩ rfl; exact AllC.row ⟨rfl, trivial⟩ rfl; exact AllC.row ⟨rfl, trivial⟩ rfl) ?_; clear hs; (try clear a w); intro v1 a w hs
 have hW2 : RW tStr f [[.string ((bs [38, 97, 109, 112, 59]))], [.string ((bs [38, 108, 116, 59]))], [.string ((bs [38, 103, 116, 59]))], [.string ((bs [38, 113, 117, 111, 116, 59]))], [.string ((bs [38, 97, 112, 111, 115, 59]))], [.string ((bs [38, 110, 98, 115, 112, 59]))]] [(bs [38, 97, 109, 112, 59]), (bs [38, 108, 116, 59]), (bs [38, 103, 116, 59]), (bs [38, 113, 117, 111, 116, 59]), (bs [38, 97, 112, 111, 115, 59]), (bs [38, 110, 98, 115, 112, 59])] := ⟨rfl, ⟨rfl, ⟨rfl, ⟨rfl, ⟨rfl, ⟨rfl, trivial⟩⟩⟩⟩⟩⟩
 generalize hgrw3 : ([[.string ((bs [38, 97, 109, 112, 59]))], [.string ((bs [38, 108, 116, 59]))], [.string ((bs [38, 103, 116, 59]))], [.string ((bs [38, 113, 117, 111, 116, 59]))], [.string ((bs [38, 97, 112, 111, 115, 59]))], [.string ((bs [38, 110, 98, 115, 112, 59]))]] : List (List Value)) = rw3 at hs hW2; clear hgrw3
 replace hs : St _ _ _ (.row v1 9 1 rw3 :: L) _ _ _ := hs
 refine sy (v := v1) hs (y_assign rfl) ?_; clear hs; (try clear a w); intro a w hs
 refine RL_nil ?_
 refine hK2 _ _ ?_; clear hK2
 refine W_seq fun K3 hK3 => ?_
 refine W_region ?_
 refine RL_bsN (parts := [(0, .const (.string (bs [38]))), (1, .const (.string (bs [60]))), (2, .const (.string (bs [62]))), (3, .const (.string (bs [34]))), (4, .const (.string (bs [39]))), (5, .const (.string (bs [194, 160])))]) (us := [.string ((bs [38])), .string ((bs [60])), .string ((bs [62])), .string ((bs [34])), .string ((bs [39])), .string ((bs [194, 160]))]) (rows := [[.string ((bs [38]))], [.string ((bs [60]))], [.string ((bs [62]))], [.string ((bs [34]))], [.string ((bs [39]))], [.string ((bs [194, 160]))]]) hs rfl Try.underlying104 ti9 (by decide) rfl rfl (by intro r hr; simp only [List.mem_cons, List.mem_nil_iff, or_false] at hr; rcases hr with rfl | rfl | rfl | rfl | rfl | rfl; exact AllC.row ⟨rfl, trivial⟩ rfl; exact AllC.row ⟨rfl, trivial⟩ rfl; exact AllC.row ⟨rfl, trivial⟩ rfl; exact AllC.row ⟨rfl, trivial⟩ rfl; exact AllC.row ⟨rfl, trivial⟩ rfl; exact AllC.row ⟨rfl, trivial⟩ rfl) ?_; clear hs; (try clear a w); intro v6 a w hs
 have hW7 : RW tStr f [[.string ((bs [38]))], [.string ((bs [60]))], [.string ((bs [62]))], [.string ((bs [34]))], [.string ((bs [39]))], [.string ((bs [194, 160]))]] [(bs [38]), (bs [60]), (bs [62]), (bs [34]), (bs [39]), (bs [194, 160])] := ⟨rfl, ⟨rfl, ⟨rfl, ⟨rfl, ⟨rfl, ⟨rfl, trivial⟩⟩⟩⟩⟩⟩
 generalize hgrw8 : ([[.string ((bs [38]))], [.string ((bs [60]))], [.string ((bs [62]))], [.string ((bs [34]))], [.string ((bs [39]))], [.string ((bs [194, 160]))]] : List (List Value)) = rw8 at hs hW7; clear hgrw8
 replace hs : St _ _ _ (.row v6 9 1 rw8 :: .row v1 9 1 rw3 :: L) _ _ _ := hs
 refine sy (v := v6) hs (y_assign rfl) ?_; clear hs; (try clear a w); intro a w hs
 refine RL_nil ?_
 refine hK3 _ _ ?_; clear hK3
 refine W_seq fun K4 hK4 => ?_
 refine W_seq fun K5 hK5 => ?_
 refine W_region ?_
 refine sy (v := .int .i64 (0)) hs (y_assign rfl) ?_; clear hs; (try clear a w); intro a w hs
 refine RL_nil ?_
 refine hK5 _ _ ?_; clear hK5
 refine W_post (fun a w => ref4_reference_k1 n p0 p1 = some res ∧ St 162 w0 f (L) [(0, .string (p0)), (1, .int .i64 (p1))] a w) ?_ ?_
 ·clear hs hm
  rintro a w ⟨hm, hs⟩
  replace hs : St _ _ _ (L) _ _ _ := hs
  unfold ref4_reference_k1 at hm
  refine hK4 _ _ ?_; clear hK4
  refine W_seq fun K6 hK6 => ?_
  refine W_seq fun K7 hK7 => ?_
  refine W_post (fun a w => ∃ (y11 : Bool), ref4_reference_k2 n p0 p1 y11 = some res ∧ St 162 w0 f (L) [(0, .string (p0)), (1, .int .i64 (p1)), (70, .bool (y11))] a w) ?_ ?_
  ·clear hs hm
   rintro a w ⟨y11, hm, hs⟩
   replace hs : St _ _ _ (L) _ _ _ := hs
   unfold ref4_reference_k2 at hm
   refine hK7 _ _ ?_; clear hK7
   refine W_cond hs rfl (fun hg12 => ?_) (fun hg12 => ?_)
   ·replace hm := oc_t hg12 hm
    refine W_seq fun K8 hK8 => ?_
    refine W_region ?_
    refine sy (v := .string ((bs []))) hs (y_assign rfl) ?_; clear hs; (try clear a w); intro a w hs
    refine sy (v := .int .i64 (0)) hs (y_assign rfl) ?_; clear hs; (try clear a w); intro a w hs
    refine RL_nil ?_
    refine hK8 _ _ ?_; clear hK8
    refine W_ret ?_
    obtain rfl := Option.some.inj hm
    refine RtV2 hs rfl (rv_t hs rfl) (rv_t hs rfl) ?_
    exact ⟨rfl, (hs.weak hle).cw⟩
   ·replace hm := oc_f hg12 hm
    refine W_skip ?_
    refine hK6 _ _ ?_; clear hK6
    refine W_seq fun K9 hK9 => ?_
    refine W_region ?_
    refine sy (v := .int .i64 (p1)) hs (y_move rfl) ?_; clear hs; (try clear a w); intro a w hs
    refine sy hs (y_add rfl rfl rfl) ?_; clear hs; (try clear a w); intro a w hs
    refine sy (v := .int .i64 ((w64 (p1 + 2)))) hs (y_assign rfl) ?_; clear hs; (try clear a w); intro a w hs
    refine RL_nil ?_
    refine hK9 _ _ ?_; clear hK9
    refine W_seq fun K10 hK10 => ?_
    refine W_region ?_
    refine sy (v := .int .i64 (10)) hs (y_assign rfl) ?_; clear hs; (try clear a w); intro a w hs
    refine RL_nil ?_
    refine hK10 _ _ ?_; clear hK10
    refine W_seq fun K11 hK11 => ?_
    refine W_seq fun K12 hK12 => ?_
    refine W_post (fun a w => ∃ (y13 : Bool), ref4_reference_k3 n p0 p1 y13 = some res ∧ St 162 w0 f (L) [(0, .string (p0)), (9, .int .i64 ((w64 (p1 + 2)))), (10, .int .i64 (10)), (88, .bool (y13))] a w) ?_ ?_
    ·clear hs hm
     rintro a w ⟨y13, hm, hs⟩
     replace hs : St _ _ _ (L) _ _ _ := hs
     unfold ref4_reference_k3 at hm
     refine hK12 _ _ ?_; clear hK12
     refine W_post (fun a w => ∃ (y14 : Int) (y15 : Int), ref4_reference_k4 n p0 y14 y15 = some res ∧ St 162 w0 f (L) [(0, .string (p0)), (9, .int .i64 (y14)), (10, .int .i64 (y15))] a w) ?_ ?_
     ·clear hs hm
      rintro a w ⟨y14, y15, hm, hs⟩
      replace hs : St _ _ _ (L) _ _ _ := hs
      unfold ref4_reference_k4 at hm
      refine hK11 _ _ ?_; clear hK11
      refine W_seq fun K13 hK13 => ?_
      refine W_region ?_
      refine sy (v := .int .i64 (y14)) hs (y_move rfl) ?_; clear hs; (try clear a w); intro a w hs
      refine sy (v := .int .i64 (y14)) hs (y_assign rfl) ?_; clear hs; (try clear a w); intro a w hs
      refine RL_nil ?_
      refine hK13 _ _ ?_; clear hK13
      refine W_seq fun K14 hK14 => ?_
      refine W_region ?_
      refine sy (v := .int .i64 (0)) hs (y_assign rfl) ?_; clear hs; (try clear a w); intro a w hs
      refine RL_nil ?_
      refine hK14 _ _ ?_; clear hK14
      refine W_seq fun K15 hK15 => ?_
      refine W_post (fun a w => ∃ (y16 : Int) (y17 : Int), ref4_reference_k5 p0 y14 y16 y17 = some res ∧ St 162 w0 f (L) [(0, .string (p0)), (9, .int .i64 (y16)), (11, .int .i64 (y14)), (12, .int .i64 (y17))] a w) ?_ ?_
      ·clear hs hm
       rintro a w ⟨y16, y17, hm, hs⟩
       replace hs : St _ _ _ (L) _ _ _ := hs
       unfold ref4_reference_k5 at hm
       refine hK15 _ _ ?_; clear hK15
       refine W_seq fun K16 hK16 => ?_
       refine W_seq fun K17 hK17 => ?_
       refine W_post (fun a w => ∃ (y18 : Bool), ref4_reference_k6 y16 y17 y18 = some res ∧ St 162 w0 f (L) [(9, .int .i64 (y16)), (12, .int .i64 (y17)), (141, .bool (y18))] a w) ?_ ?_
       ·clear hs hm
        rintro a w ⟨y18, hm, hs⟩
        replace hs : St _ _ _ (L) _ _ _ := hs
        unfold ref4_reference_k6 at hm
        refine hK17 _ _ ?_; clear hK17
        refine W_cond hs rfl (fun hg19 => ?_) (fun hg19 => ?_)
        ·replace hm := oc_t hg19 hm
         refine W_seq fun K18 hK18 => ?_
         refine W_region ?_
         refine sy (v := .string ((bs []))) hs (y_assign rfl) ?_; clear hs; (try clear a w); intro a w hs
         refine sy (v := .int .i64 (0)) hs (y_assign rfl) ?_; clear hs; (try clear a w); intro a w hs
         refine RL_nil ?_
         refine hK18 _ _ ?_; clear hK18
         refine W_ret ?_
         obtain rfl := Option.some.inj hm
         refine RtV2 hs rfl (rv_t hs rfl) (rv_t hs rfl) ?_
         exact ⟨rfl, (hs.weak hle).cw⟩
        ·replace hm := oc_f hg19 hm
         refine W_skip ?_
         refine hK16 _ _ ?_; clear hK16
         refine W_seq fun K19 hK19 => ?_
         refine W_seq fun K20 hK20 => ?_
         refine W_post (fun a w => St 162 w0 f (L) [(9, .int .i64 (y16)), (12, .int .i64 (y17)), (155, .bool (((decide (y17 = 0)) || ((decide (1114111 < y17)) || ((decide (55296 ≤ y17)) && (decide (y17 ≤ 57343)))))))] a w) ?_ ?_
         ·clear hs; intro a w hs
          refine hK20 _ _ ?_; clear hK20
          refine W_post (fun a w => ∃ (y20 : Int), ref4_reference_k7 y16 y20 = some res ∧ St 162 w0 f (L) [(9, .int .i64 (y16)), (12, .int .i64 (y20))] a w) ?_ ?_
          ·clear hs hm
           rintro a w ⟨y20, hm, hs⟩
           replace hs : St _ _ _ (L) _ _ _ := hs
           unfold ref4_reference_k7 at hm
           refine hK19 _ _ ?_; clear hK19
           refine W_seq fun K21 hK21 => ?_
           refine W_region ?_
           refine sy (v := .int .i64 (y20)) hs (y_move rfl) ?_; clear hs; (try clear a w); intro a w hs
           refine sy (v := .int .i32 ((IntKind.i32.wrap y20))) hs (y_i2i rfl (by rw [Try.underlying3]; rfl) Try.underlying21 rfl) ?_; clear hs; (try clear a w); intro a w hs
           refine RL_bs1s hs rfl Try.underlying32 ti21 rfl rfl ?_; clear hs; (try clear a w); intro v21 a w hs
           have hW22 : RW (tInt .i32) f [[.int .i32 ((IntKind.i32.wrap y20))]] [(IntKind.i32.wrap y20)] := RW.single (rfl)
           generalize hgrw23 : ([[.int .i32 ((IntKind.i32.wrap y20))]] : List (List Value)) = rw23 at hs hW22; clear hgrw23
           replace hs : St _ _ _ (.row v21 21 1 rw23 :: L) _ _ _ := hs
           refine sy (v := .string ((textOf [(IntKind.i32.wrap y20)]))) hs (y_r2sW rfl Try.underlying32 Try.underlying21 Try.underlying9 (Rd.st hs (.head _)) hW22) ?_; clear hs; (try clear a w); intro a w hs
           refine sy (v := .int .i64 (y16)) hs (y_move rfl) ?_; clear hs; (try clear a w); intro a w hs
           refine sy hs (y_add rfl rfl rfl) ?_; clear hs; (try clear a w); intro a w hs
           refine sy (v := .string ((textOf [(IntKind.i32.wrap y20)]))) hs (y_assign rfl) ?_; clear hs; (try clear a w); intro a w hs
           refine sy (v := .int .i64 ((w64 (y16 + 1)))) hs (y_assign rfl) ?_; clear hs; (try clear a w); intro a w hs
           refine RL_nil ?_
           refine hK21 _ _ ?_; clear hK21
           refine W_ret ?_
           obtain rfl := Option.some.inj hm
           refine RtV2 hs rfl (rv_t hs rfl) (rv_t hs rfl) ?_
           exact ⟨rfl, ((hs.subL (.cons _ (.refl _))).weak hle).cw⟩
          ·refine W_cond hs rfl (fun hg26 => ?_) (fun hg26 => ?_)
           ·replace hm := oc_t hg26 hm
            refine W_region ?_
            refine sy (v := .int .i64 (65533)) hs (y_assign rfl) ?_; clear hs; (try clear a w); intro a w hs
            refine RL_nil ?_
            exact ⟨65533, hm, hs.sub ⟨rfl, rfl, trivial⟩⟩
           ·replace hm := oc_f hg26 hm
            refine W_skip ?_
            exact ⟨y17, hm, hs.sub ⟨rfl, rfl, trivial⟩⟩
         ·refine W_region ?_
          refine sy (v := .int .i64 (y17)) hs (y_move rfl) ?_; clear hs; (try clear a w); intro a w hs
          refine sy hs (y_eql rfl rfl) ?_; clear hs; (try clear a w); intro a w hs
          refine sy (v := .bool (decide (y17 = 0))) hs (y_move rfl) ?_; clear hs; (try clear a w); intro a w hs
          refine St.split hs (t := 144) rfl (fun hg27 hq => ?_) (fun hg27 hq => ?_)
          ·clear hs; have hs := hq; clear hq
           refine sno hs ?_; clear hs; (try clear a w); intro a w hs
           refine sno hs ?_; clear hs; (try clear a w); intro a w hs
           refine sy (v := .bool (true)) hs (y_pick rfl rfl) ?_; clear hs; (try clear a w); intro a w hs
           refine sy (v := .bool (true)) hs (y_move rfl) ?_; clear hs; (try clear a w); intro a w hs
           refine sno hs ?_; clear hs; (try clear a w); intro a w hs
           refine sno hs ?_; clear hs; (try clear a w); intro a w hs
           refine sno hs ?_; clear hs; (try clear a w); intro a w hs
           refine sun hs ?_; clear hs; (try clear a w); intro a w hs
           refine sun hs ?_; clear hs; (try clear a w); intro a w hs
           refine sno hs ?_; clear hs; (try clear a w); intro a w hs
           refine sy (v := .bool (true)) hs (y_pick rfl rfl) ?_; clear hs; (try clear a w); intro a w hs
           refine RL_nil ?_
           exact hs.sub ⟨rfl, rfl, (lkB (((or_t hg27).trans rfl)) rfl), trivial⟩
          ·clear hs; have hs := hq; clear hq
           refine syg (v := .int .i64 (y17)) hs (y_move rfl) ?_; clear hs; (try clear a w); intro a w hs
           refine syg hs (y_gtr rfl rfl) ?_; clear hs; (try clear a w); intro a w hs
           refine sy (v := .bool (decide (1114111 < y17))) hs (y_pick rfl rfl) ?_; clear hs; (try clear a w); intro a w hs
           refine sy (v := .bool (decide (1114111 < y17))) hs (y_move rfl) ?_; clear hs; (try clear a w); intro a w hs
           refine St.split hs (t := 148) rfl (fun hg28 hq => ?_) (fun hg28 hq => ?_)
           ·clear hs; have hs := hq; clear hq
            refine sno hs ?_; clear hs; (try clear a w); intro a w hs
            refine sno hs ?_; clear hs; (try clear a w); intro a w hs
            refine sno hs ?_; clear hs; (try clear a w); intro a w hs
            refine sun hs ?_; clear hs; (try clear a w); intro a w hs
            refine sun hs ?_; clear hs; (try clear a w); intro a w hs
            refine sno hs ?_; clear hs; (try clear a w); intro a w hs
            refine sy (v := .bool (true)) hs (y_pick rfl rfl) ?_; clear hs; (try clear a w); intro a w hs
            refine RL_nil ?_
            exact hs.sub ⟨rfl, rfl, (lkB (((or_f hg27).trans ((or_t hg28).trans rfl))) rfl), trivial⟩
           ·clear hs; have hs := hq; clear hq
            refine syg (v := .int .i64 (y17)) hs (y_move rfl) ?_; clear hs; (try clear a w); intro a w hs
            refine syg hs (y_geq rfl rfl) ?_; clear hs; (try clear a w); intro a w hs
            refine syg (v := .bool (decide (55296 ≤ y17))) hs (y_move rfl) ?_; clear hs; (try clear a w); intro a w hs
            refine St.split hs (t := 151) rfl (fun hg29 hq => ?_) (fun hg29 hq => ?_)
            ·clear hs; have hs := hq; clear hq
             refine syg (v := .int .i64 (y17)) hs (y_move rfl) ?_; clear hs; (try clear a w); intro a w hs
             refine syg hs (y_leq rfl rfl) ?_; clear hs; (try clear a w); intro a w hs
             refine syg (v := .bool (decide (y17 ≤ 57343))) hs (y_pick rfl rfl) ?_; clear hs; (try clear a w); intro a w hs
             refine sy (v := .bool (decide (y17 ≤ 57343))) hs (y_pick rfl rfl) ?_; clear hs; (try clear a w); intro a w hs
             refine RL_nil ?_
             exact hs.sub ⟨rfl, rfl, (lkB (((or_f hg27).trans ((or_f hg28).trans ((and_t hg29).trans rfl)))) rfl), trivial⟩
            ·clear hs; have hs := hq; clear hq
             refine sno hs ?_; clear hs; (try clear a w); intro a w hs
             refine sno hs ?_; clear hs; (try clear a w); intro a w hs
             refine syg (v := .bool (false)) hs (y_pick rfl rfl) ?_; clear hs; (try clear a w); intro a w hs
             refine sy (v := .bool (false)) hs (y_pick rfl rfl) ?_; clear hs; (try clear a w); intro a w hs
             refine RL_nil ?_
             exact hs.sub ⟨rfl, rfl, (lkB (((or_f hg27).trans ((or_f hg28).trans ((and_f hg29).trans rfl)))) rfl), trivial⟩
       ·refine W_region ?_
        refine sy (v := .int .i64 (y16)) hs (y_move rfl) ?_; clear hs; (try clear a w); intro a w hs
        refine sy (v := .int .i64 (y14)) hs (y_move rfl) ?_; clear hs; (try clear a w); intro a w hs
        refine sy hs (y_eql rfl rfl) ?_; clear hs; (try clear a w); intro a w hs
        refine sy (v := .bool (decide (y16 = y14))) hs (y_move rfl) ?_; clear hs; (try clear a w); intro a w hs
        refine St.split hs (t := 124) rfl (fun hg30 hq => ?_) (fun hg30 hq => ?_)
        ·clear hs; have hs := hq; clear hq
         replace hm := oc_t hg30 hm
         refine sno hs ?_; clear hs; (try clear a w); intro a w hs
         refine sno hs ?_; clear hs; (try clear a w); intro a w hs
         refine sno hs ?_; clear hs; (try clear a w); intro a w hs
         refine sno hs ?_; clear hs; (try clear a w); intro a w hs
         refine sy (v := .bool (true)) hs (y_pick rfl rfl) ?_; clear hs; (try clear a w); intro a w hs
         refine sy (v := .bool (true)) hs (y_move rfl) ?_; clear hs; (try clear a w); intro a w hs
         refine sno hs ?_; clear hs; (try clear a w); intro a w hs
         refine sno hs ?_; clear hs; (try clear a w); intro a w hs
         refine sno hs ?_; clear hs; (try clear a w); intro a w hs
         refine sno hs ?_; clear hs; (try clear a w); intro a w hs
         refine sy (v := .bool (true)) hs (y_pick rfl rfl) ?_; clear hs; (try clear a w); intro a w hs
         refine sy (v := .bool (true)) hs (y_move rfl) ?_; clear hs; (try clear a w); intro a w hs
         refine sno hs ?_; clear hs; (try clear a w); intro a w hs
         refine sno hs ?_; clear hs; (try clear a w); intro a w hs
         refine sno hs ?_; clear hs; (try clear a w); intro a w hs
         refine sno hs ?_; clear hs; (try clear a w); intro a w hs
         refine sy (v := .bool (true)) hs (y_pick rfl rfl) ?_; clear hs; (try clear a w); intro a w hs
         refine RL_nil ?_
         exact ⟨true, hm, hs.sub ⟨rfl, rfl, rfl, trivial⟩⟩
        ·clear hs; have hs := hq; clear hq
         replace hm := oc_f hg30 hm
         refine syg (v := .int .i64 (y16)) hs (y_move rfl) ?_; clear hs; (try clear a w); intro a w hs
         refine syg (v := .int .i64 (y14)) hs (y_move rfl) ?_; clear hs; (try clear a w); intro a w hs
         refine syg hs (y_sub rfl rfl rfl) ?_; clear hs; (try clear a w); intro a w hs
         refine syg hs (y_gtr rfl rfl) ?_; clear hs; (try clear a w); intro a w hs
         refine sy (v := .bool (decide (8 < (w64 (y16 - y14))))) hs (y_pick rfl rfl) ?_; clear hs; (try clear a w); intro a w hs
         refine sy (v := .bool (decide (8 < (w64 (y16 - y14))))) hs (y_move rfl) ?_; clear hs; (try clear a w); intro a w hs
         refine St.split hs (t := 130) rfl (fun hg31 hq => ?_) (fun hg31 hq => ?_)
         ·clear hs; have hs := hq; clear hq
          replace hm := oc_t hg31 hm
          refine sno hs ?_; clear hs; (try clear a w); intro a w hs
          refine sno hs ?_; clear hs; (try clear a w); intro a w hs
          refine sno hs ?_; clear hs; (try clear a w); intro a w hs
          refine sno hs ?_; clear hs; (try clear a w); intro a w hs
          refine sy (v := .bool (true)) hs (y_pick rfl rfl) ?_; clear hs; (try clear a w); intro a w hs
          refine sy (v := .bool (true)) hs (y_move rfl) ?_; clear hs; (try clear a w); intro a w hs
          refine sno hs ?_; clear hs; (try clear a w); intro a w hs
          refine sno hs ?_; clear hs; (try clear a w); intro a w hs
          refine sno hs ?_; clear hs; (try clear a w); intro a w hs
          refine sno hs ?_; clear hs; (try clear a w); intro a w hs
          refine sy (v := .bool (true)) hs (y_pick rfl rfl) ?_; clear hs; (try clear a w); intro a w hs
          refine RL_nil ?_
          exact ⟨true, hm, hs.sub ⟨rfl, rfl, rfl, trivial⟩⟩
         ·clear hs; have hs := hq; clear hq
          replace hm := oc_f hg31 hm
          refine syg (v := .int .i64 (y16)) hs (y_move rfl) ?_; clear hs; (try clear a w); intro a w hs
          refine syg (v := .string (p0)) hs (y_move rfl) ?_; clear hs; (try clear a w); intro a w hs
          refine syg hs (y_lenS rfl Try.underlying9) ?_; clear hs; (try clear a w); intro a w hs
          refine syg hs (y_geq rfl rfl) ?_; clear hs; (try clear a w); intro a w hs
          refine sy (v := .bool (decide ((p0.size : Int) ≤ y16))) hs (y_pick rfl rfl) ?_; clear hs; (try clear a w); intro a w hs
          refine sy (v := .bool (decide ((p0.size : Int) ≤ y16))) hs (y_move rfl) ?_; clear hs; (try clear a w); intro a w hs
          refine St.split hs (t := 136) rfl (fun hg32 hq => ?_) (fun hg32 hq => ?_)
          ·clear hs; have hs := hq; clear hq
           replace hm := oc_t hg32 hm
           refine sno hs ?_; clear hs; (try clear a w); intro a w hs
           refine sno hs ?_; clear hs; (try clear a w); intro a w hs
           refine sno hs ?_; clear hs; (try clear a w); intro a w hs
           refine sno hs ?_; clear hs; (try clear a w); intro a w hs
           refine sy (v := .bool (true)) hs (y_pick rfl rfl) ?_; clear hs; (try clear a w); intro a w hs
           refine RL_nil ?_
           exact ⟨true, hm, hs.sub ⟨rfl, rfl, rfl, trivial⟩⟩
          ·clear hs; have hs := hq; clear hq
           replace hm := oc_f hg32 hm
           refine syg (v := .string (p0)) hs (y_move rfl) ?_; clear hs; (try clear a w); intro a w hs
           refine syg (v := .int .i64 (y16)) hs (y_move rfl) ?_; clear hs; (try clear a w); intro a w hs
           obtain ⟨x33, hx34, hm⟩ := ob hm
           refine syg hs (y_ixW rfl rfl Try.underlying9 hx34) ?_; clear hs; (try clear a w); intro a w hs
           refine syg hs (y_neq rfl rfl) ?_; clear hs; (try clear a w); intro a w hs
           refine sy (v := .bool (decide (x33 ≠ 59))) hs (y_pick rfl rfl) ?_; clear hs; (try clear a w); intro a w hs
           refine RL_nil ?_
           exact ⟨decide (x33 ≠ 59), hm, hs.sub ⟨rfl, rfl, rfl, trivial⟩⟩
      ·refine W_block fun Qe22 hB22 hO22 => ?_
       refine W_loop (fun (k : Nat) a w => ∃ (y35 : Int) (y36 : Int), ref4_reference_l8 n p0 y14 y15 k y35 y36 = some res ∧ St 162 w0 f (L) [(0, .string (p0)), (9, .int .i64 (y35)), (10, .int .i64 (y15)), (11, .int .i64 (y14)), (12, .int .i64 (y36))] a w) (fun k => k) n ⟨y14, 0, hm, hs.sub ⟨rfl, rfl, rfl, rfl, rfl, trivial⟩⟩ ?_
       clear hs hm
       intro k
       rintro a w ⟨y35, y36, hm, hs⟩
       replace hs : St _ _ _ (L) _ _ _ := hs
       intro K23 hK23
       cases k with
       | zero => simp [ref4_reference_l8] at hm
       | succ k37 =>
        rw [ref4_reference_l8] at hm
        refine W_seq fun K24 hK24 => ?_
        refine W_seq fun K25 hK25 => ?_
        refine W_post (fun a w => ∃ (y38 : Bool), ref4_reference_k9 n p0 y14 y15 y35 y36 (ref4_reference_l8 n p0 y14 y15 k37) y38 = some res ∧ St 162 w0 f (L) [(0, .string (p0)), (9, .int .i64 (y35)), (10, .int .i64 (y15)), (11, .int .i64 (y14)), (12, .int .i64 (y36)), (109, .bool (y38))] a w) ?_ ?_
        ·clear hs hm
         rintro a w ⟨y38, hm, hs⟩
         replace hs : St _ _ _ (L) _ _ _ := hs
         unfold ref4_reference_k9 at hm
         refine hK25 _ _ ?_; clear hK25
         refine W_cond hs rfl (fun hg39 => ?_) (fun hg39 => ?_)
         ·replace hm := oc_t hg39 hm
          refine W_skip ?_
          refine hK24 _ _ ?_; clear hK24
          refine W_block fun Qe26 hB26 hO26 => ?_
          refine W_seq fun K27 hK27 => ?_
          refine W_region ?_
          refine sy (v := .int .i64 (y36)) hs (y_move rfl) ?_; clear hs; (try clear a w); intro a w hs
          refine sy (v := .int .i64 (y15)) hs (y_move rfl) ?_; clear hs; (try clear a w); intro a w hs
          refine sy hs (y_mul rfl rfl rfl) ?_; clear hs; (try clear a w); intro a w hs
          refine sy (v := .string (p0)) hs (y_move rfl) ?_; clear hs; (try clear a w); intro a w hs
          refine sy (v := .int .i64 (y35)) hs (y_move rfl) ?_; clear hs; (try clear a w); intro a w hs
          obtain ⟨x40, hx41, hm⟩ := ob hm
          refine sy hs (y_ixW rfl rfl Try.underlying9 hx41) ?_; clear hs; (try clear a w); intro a w hs
          refine sy (v := .int .i64 (y15)) hs (y_move rfl) ?_; clear hs; (try clear a w); intro a w hs
          obtain ⟨x42, hx43, hm⟩ := ob hm
          refine sy hs (y_call rfl has77 rfl (ref4_digit_ok n (f := f)  hx43)) ?_; clear hs; (try clear a w); intro a w hs
          refine sy hs (y_add rfl rfl rfl) ?_; clear hs; (try clear a w); intro a w hs
          refine sy (v := .int .i64 ((w64 ((w64 (y36 * y15)) + x42)))) hs (y_assign rfl) ?_; clear hs; (try clear a w); intro a w hs
          refine RL_nil ?_
          refine hK27 _ _ ?_; clear hK27
          refine W_region ?_
          refine sy (v := .int .i64 (y35)) hs (y_move rfl) ?_; clear hs; (try clear a w); intro a w hs
          refine sy hs (y_add rfl rfl rfl) ?_; clear hs; (try clear a w); intro a w hs
          refine sy (v := .int .i64 ((w64 (y35 + 1)))) hs (y_assign rfl) ?_; clear hs; (try clear a w); intro a w hs
          refine RL_nil ?_
          exact hK23 k37 _ _ (Nat.lt_succ_self _) ⟨(w64 (y35 + 1)), (w64 ((w64 (y36 * y15)) + x42)), hm, hs.sub ⟨rfl, rfl, rfl, rfl, rfl, trivial⟩⟩
         ·replace hm := oc_f hg39 hm
          refine W_exit ?_
          refine hB22 _ _ ?_
          exact ⟨y35, y36, hm, hs.sub ⟨rfl, rfl, rfl, rfl, trivial⟩⟩
        ·refine W_region ?_
         refine sy (v := .int .i64 (y35)) hs (y_move rfl) ?_; clear hs; (try clear a w); intro a w hs
         refine sy (v := .string (p0)) hs (y_move rfl) ?_; clear hs; (try clear a w); intro a w hs
         refine sy hs (y_lenS rfl Try.underlying9) ?_; clear hs; (try clear a w); intro a w hs
         refine sy hs (y_lss rfl rfl) ?_; clear hs; (try clear a w); intro a w hs
         refine sy (v := .bool (decide (y35 < (p0.size : Int)))) hs (y_move rfl) ?_; clear hs; (try clear a w); intro a w hs
         refine St.split hs (t := 96) rfl (fun hg44 hq => ?_) (fun hg44 hq => ?_)
         ·clear hs; have hs := hq; clear hq
          replace hm := oc_t hg44 hm
          refine syg (v := .string (p0)) hs (y_move rfl) ?_; clear hs; (try clear a w); intro a w hs
          refine syg (v := .int .i64 (y35)) hs (y_move rfl) ?_; clear hs; (try clear a w); intro a w hs
          obtain ⟨x45, hx46, hm⟩ := ob hm
          refine syg hs (y_ixW rfl rfl Try.underlying9 hx46) ?_; clear hs; (try clear a w); intro a w hs
          refine syg (v := .int .i64 (y15)) hs (y_move rfl) ?_; clear hs; (try clear a w); intro a w hs
          obtain ⟨x47, hx48, hm⟩ := ob hm
          refine syg hs (y_call rfl has77 rfl (ref4_digit_ok n (f := f)  hx48)) ?_; clear hs; (try clear a w); intro a w hs
          refine syg hs (y_geq rfl rfl) ?_; clear hs; (try clear a w); intro a w hs
          refine sy (v := .bool (decide (0 ≤ x47))) hs (y_pick rfl rfl) ?_; clear hs; (try clear a w); intro a w hs
          refine sy (v := .bool (decide (0 ≤ x47))) hs (y_move rfl) ?_; clear hs; (try clear a w); intro a w hs
          refine St.split hs (t := 104) rfl (fun hg49 hq => ?_) (fun hg49 hq => ?_)
          ·clear hs; have hs := hq; clear hq
           replace hm := oc_t hg49 hm
           refine syg (v := .int .i64 (y35)) hs (y_move rfl) ?_; clear hs; (try clear a w); intro a w hs
           refine syg (v := .int .i64 (y14)) hs (y_move rfl) ?_; clear hs; (try clear a w); intro a w hs
           refine syg hs (y_sub rfl rfl rfl) ?_; clear hs; (try clear a w); intro a w hs
           refine syg hs (y_lss rfl rfl) ?_; clear hs; (try clear a w); intro a w hs
           refine sy (v := .bool (decide ((w64 (y35 - y14)) < 9))) hs (y_pick rfl rfl) ?_; clear hs; (try clear a w); intro a w hs
           refine RL_nil ?_
           exact ⟨decide ((w64 (y35 - y14)) < 9), hm, hs.sub ⟨rfl, rfl, rfl, rfl, rfl, rfl, trivial⟩⟩
          ·clear hs; have hs := hq; clear hq
           replace hm := oc_f hg49 hm
           refine sno hs ?_; clear hs; (try clear a w); intro a w hs
           refine sno hs ?_; clear hs; (try clear a w); intro a w hs
           refine sno hs ?_; clear hs; (try clear a w); intro a w hs
           refine sno hs ?_; clear hs; (try clear a w); intro a w hs
           refine sy (v := .bool (false)) hs (y_pick rfl rfl) ?_; clear hs; (try clear a w); intro a w hs
           refine RL_nil ?_
           exact ⟨false, hm, hs.sub ⟨rfl, rfl, rfl, rfl, rfl, rfl, trivial⟩⟩
         ·clear hs; have hs := hq; clear hq
          replace hm := oc_f hg44 hm
          refine sno hs ?_; clear hs; (try clear a w); intro a w hs
          refine sno hs ?_; clear hs; (try clear a w); intro a w hs
          refine sno hs ?_; clear hs; (try clear a w); intro a w hs
          refine sno hs ?_; clear hs; (try clear a w); intro a w hs
          refine sno hs ?_; clear hs; (try clear a w); intro a w hs
          refine sno hs ?_; clear hs; (try clear a w); intro a w hs
          refine sy (v := .bool (false)) hs (y_pick rfl rfl) ?_; clear hs; (try clear a w); intro a w hs
          refine sy (v := .bool (false)) hs (y_move rfl) ?_; clear hs; (try clear a w); intro a w hs
          refine sno hs ?_; clear hs; (try clear a w); intro a w hs
          refine sno hs ?_; clear hs; (try clear a w); intro a w hs
          refine sno hs ?_; clear hs; (try clear a w); intro a w hs
          refine sno hs ?_; clear hs; (try clear a w); intro a w hs
          refine sy (v := .bool (false)) hs (y_pick rfl rfl) ?_; clear hs; (try clear a w); intro a w hs
          refine RL_nil ?_
          exact ⟨false, hm, hs.sub ⟨rfl, rfl, rfl, rfl, rfl, rfl, trivial⟩⟩
     ·refine W_cond hs rfl (fun hg50 => ?_) (fun hg50 => ?_)
      ·replace hm := oc_t hg50 hm
       refine W_seq fun K28 hK28 => ?_
       refine W_region ?_
       refine sy (v := .int .i64 (16)) hs (y_assign rfl) ?_; clear hs; (try clear a w); intro a w hs
       refine RL_nil ?_
       refine hK28 _ _ ?_; clear hK28
       refine W_region ?_
       refine sy (v := .int .i64 ((w64 (p1 + 2)))) hs (y_move rfl) ?_; clear hs; (try clear a w); intro a w hs
       refine sy hs (y_add rfl rfl rfl) ?_; clear hs; (try clear a w); intro a w hs
       refine sy (v := .int .i64 ((w64 ((w64 (p1 + 2)) + 1)))) hs (y_assign rfl) ?_; clear hs; (try clear a w); intro a w hs
       refine RL_nil ?_
       exact ⟨(w64 ((w64 (p1 + 2)) + 1)), 16, hm, hs.sub ⟨rfl, rfl, rfl, trivial⟩⟩
      ·replace hm := oc_f hg50 hm
       refine W_skip ?_
       exact ⟨(w64 (p1 + 2)), 10, hm, hs.sub ⟨rfl, rfl, rfl, trivial⟩⟩
    ·refine W_region ?_
     refine sy (v := .int .i64 ((w64 (p1 + 2)))) hs (y_move rfl) ?_; clear hs; (try clear a w); intro a w hs
     refine sy (v := .string (p0)) hs (y_move rfl) ?_; clear hs; (try clear a w); intro a w hs
     refine sy hs (y_lenS rfl Try.underlying9) ?_; clear hs; (try clear a w); intro a w hs
     refine sy hs (y_lss rfl rfl) ?_; clear hs; (try clear a w); intro a w hs
     refine sy (v := .bool (decide ((w64 (p1 + 2)) < (p0.size : Int)))) hs (y_move rfl) ?_; clear hs; (try clear a w); intro a w hs
     refine St.split hs (t := 77) rfl (fun hg51 hq => ?_) (fun hg51 hq => ?_)
     ·clear hs; have hs := hq; clear hq
      replace hm := oc_t hg51 hm
      refine syg (v := .string (p0)) hs (y_move rfl) ?_; clear hs; (try clear a w); intro a w hs
      refine syg (v := .int .i64 ((w64 (p1 + 2)))) hs (y_move rfl) ?_; clear hs; (try clear a w); intro a w hs
      obtain ⟨x52, hx53, hm⟩ := ob hm
      refine syg hs (y_ixW rfl rfl Try.underlying9 hx53) ?_; clear hs; (try clear a w); intro a w hs
      refine syg hs (y_eql rfl rfl) ?_; clear hs; (try clear a w); intro a w hs
      refine syg (v := .bool (decide (x52 = 120))) hs (y_move rfl) ?_; clear hs; (try clear a w); intro a w hs
      refine St.split hs (t := 82) rfl (fun hg54 hq => ?_) (fun hg54 hq => ?_)
      ·clear hs; have hs := hq; clear hq
       replace hm := oc_t hg54 hm
       refine sno hs ?_; clear hs; (try clear a w); intro a w hs
       refine sno hs ?_; clear hs; (try clear a w); intro a w hs
       refine sno hs ?_; clear hs; (try clear a w); intro a w hs
       refine sno hs ?_; clear hs; (try clear a w); intro a w hs
       refine syg (v := .bool (true)) hs (y_pick rfl rfl) ?_; clear hs; (try clear a w); intro a w hs
       refine sy (v := .bool (true)) hs (y_pick rfl rfl) ?_; clear hs; (try clear a w); intro a w hs
       refine RL_nil ?_
       exact ⟨true, hm, hs.sub ⟨rfl, rfl, rfl, rfl, trivial⟩⟩
      ·clear hs; have hs := hq; clear hq
       replace hm := oc_f hg54 hm
       refine syg (v := .string (p0)) hs (y_move rfl) ?_; clear hs; (try clear a w); intro a w hs
       refine syg (v := .int .i64 ((w64 (p1 + 2)))) hs (y_move rfl) ?_; clear hs; (try clear a w); intro a w hs
       obtain ⟨x55, hx56, hm⟩ := ob hm
       refine syg hs (y_ixW rfl rfl Try.underlying9 hx56) ?_; clear hs; (try clear a w); intro a w hs
       refine syg hs (y_eql rfl rfl) ?_; clear hs; (try clear a w); intro a w hs
       refine syg (v := .bool (decide (x55 = 88))) hs (y_pick rfl rfl) ?_; clear hs; (try clear a w); intro a w hs
       refine sy (v := .bool (decide (x55 = 88))) hs (y_pick rfl rfl) ?_; clear hs; (try clear a w); intro a w hs
       refine RL_nil ?_
       exact ⟨decide (x55 = 88), hm, hs.sub ⟨rfl, rfl, rfl, rfl, trivial⟩⟩
     ·clear hs; have hs := hq; clear hq
      replace hm := oc_f hg51 hm
      refine sno hs ?_; clear hs; (try clear a w); intro a w hs
      refine sno hs ?_; clear hs; (try clear a w); intro a w hs
      refine sno hs ?_; clear hs; (try clear a w); intro a w hs
      refine sno hs ?_; clear hs; (try clear a w); intro a w hs
      refine sno hs ?_; clear hs; (try clear a w); intro a w hs
      refine sun hs ?_; clear hs; (try clear a w); intro a w hs
      refine sun hs ?_; clear hs; (try clear a w); intro a w hs
      refine sun hs ?_; clear hs; (try clear a w); intro a w hs
      refine sun hs ?_; clear hs; (try clear a w); intro a w hs
      refine sno hs ?_; clear hs; (try clear a w); intro a w hs
      refine sy (v := .bool (false)) hs (y_pick rfl rfl) ?_; clear hs; (try clear a w); intro a w hs
      refine RL_nil ?_
      exact ⟨false, hm, hs.sub ⟨rfl, rfl, rfl, rfl, trivial⟩⟩
  ·refine W_region ?_
   refine sy (v := .int .i64 (p1)) hs (y_move rfl) ?_; clear hs; (try clear a w); intro a w hs
   refine sy hs (y_add rfl rfl rfl) ?_; clear hs; (try clear a w); intro a w hs
   refine sy (v := .string (p0)) hs (y_move rfl) ?_; clear hs; (try clear a w); intro a w hs
   refine sy hs (y_lenS rfl Try.underlying9) ?_; clear hs; (try clear a w); intro a w hs
   refine sy hs (y_geq rfl rfl) ?_; clear hs; (try clear a w); intro a w hs
   refine sy (v := .bool (decide ((p0.size : Int) ≤ (w64 (p1 + 1))))) hs (y_move rfl) ?_; clear hs; (try clear a w); intro a w hs
   refine St.split hs (t := 64) rfl (fun hg57 hq => ?_) (fun hg57 hq => ?_)
   ·clear hs; have hs := hq; clear hq
    replace hm := oc_t hg57 hm
    refine sno hs ?_; clear hs; (try clear a w); intro a w hs
    refine sno hs ?_; clear hs; (try clear a w); intro a w hs
    refine sno hs ?_; clear hs; (try clear a w); intro a w hs
    refine sno hs ?_; clear hs; (try clear a w); intro a w hs
    refine sno hs ?_; clear hs; (try clear a w); intro a w hs
    refine sy (v := .bool (true)) hs (y_pick rfl rfl) ?_; clear hs; (try clear a w); intro a w hs
    refine RL_nil ?_
    exact ⟨true, hm, hs.sub ⟨rfl, rfl, rfl, trivial⟩⟩
   ·clear hs; have hs := hq; clear hq
    replace hm := oc_f hg57 hm
    refine syg (v := .string (p0)) hs (y_move rfl) ?_; clear hs; (try clear a w); intro a w hs
    refine syg (v := .int .i64 (p1)) hs (y_move rfl) ?_; clear hs; (try clear a w); intro a w hs
    refine syg hs (y_add rfl rfl rfl) ?_; clear hs; (try clear a w); intro a w hs
    obtain ⟨x58, hx59, hm⟩ := ob hm
    refine syg hs (y_ixW rfl rfl Try.underlying9 hx59) ?_; clear hs; (try clear a w); intro a w hs
    refine syg hs (y_neq rfl rfl) ?_; clear hs; (try clear a w); intro a w hs
    refine sy (v := .bool (decide (x58 ≠ 35))) hs (y_pick rfl rfl) ?_; clear hs; (try clear a w); intro a w hs
    refine RL_nil ?_
    exact ⟨decide (x58 ≠ 35), hm, hs.sub ⟨rfl, rfl, rfl, trivial⟩⟩
 ·refine W_block fun Qe29 hB29 hO29 => ?_
  refine W_loop (fun (k : Nat) a w => ∃ (y60 : Int), ref4_reference_l10 n p0 p1 k y60 = some res ∧ St 162 w0 f (.row v6 9 1 rw8 :: .row v1 9 1 rw3 :: L) [(0, .string (p0)), (1, .int .i64 (p1)), (6, v1), (7, v6), (8, .int .i64 (y60))] a w) (fun k => k) n ⟨0, hm, hs.sub ⟨rfl, rfl, rfl, rfl, rfl, trivial⟩⟩ ?_
  clear hs hm
  intro k
  rintro a w ⟨y60, hm, hs⟩
  replace hs : St _ _ _ (.row v6 9 1 rw8 :: .row v1 9 1 rw3 :: L) _ _ _ := hs
  intro K30 hK30
  cases k with
  | zero => simp [ref4_reference_l10] at hm
  | succ k61 =>
   rw [ref4_reference_l10] at hm
   refine W_seq fun K31 hK31 => ?_
   refine W_seq fun K32 hK32 => ?_
   refine W_region ?_
   refine sy (v := .int .i64 (y60)) hs (y_move rfl) ?_; clear hs; (try clear a w); intro a w hs
   refine sy (v := v1) hs (y_move rfl) ?_; clear hs; (try clear a w); intro a w hs
   refine sy hs (y_lenW (Rd.st hs (.tail _ (.head _))) hW2 rfl Try.underlying104) ?_; clear hs; (try clear a w); intro a w hs
   refine sy hs (y_lss rfl rfl) ?_; clear hs; (try clear a w); intro a w hs
   refine RL_nil ?_
   refine hK32 _ _ ?_; clear hK32
   refine W_cond hs rfl (fun hg62 => ?_) (fun hg62 => ?_)
   ·replace hm := oc_t hg62 hm
    refine W_skip ?_
    refine hK31 _ _ ?_; clear hK31
    refine W_seq fun K33 hK33 => ?_
    refine W_block fun Qe34 hB34 hO34 => ?_
    refine W_seq fun K35 hK35 => ?_
    refine W_post (fun a w => ∃ (y63 : Bool), ref4_reference_k11 p1 y60 (ref4_reference_l10 n p0 p1 k61) y63 = some res ∧ St 162 w0 f (.row v6 9 1 rw8 :: .row v1 9 1 rw3 :: L) [(0, .string (p0)), (1, .int .i64 (p1)), (6, v1), (7, v6), (8, .int .i64 (y60)), (47, .bool (y63))] a w) ?_ ?_
    ·clear hs hm
     rintro a w ⟨y63, hm, hs⟩
     replace hs : St _ _ _ (.row v6 9 1 rw8 :: .row v1 9 1 rw3 :: L) _ _ _ := hs
     unfold ref4_reference_k11 at hm
     refine hK35 _ _ ?_; clear hK35
     refine W_cond hs rfl (fun hg64 => ?_) (fun hg64 => ?_)
     ·replace hm := oc_t hg64 hm
      refine W_seq fun K36 hK36 => ?_
      refine W_draw hs mixed (by kernel_rfl) ?_; intro a he
      refine qy (v := v6) he (y_move rfl) ?_; clear he; (try clear a); intro a he
      refine qy (v := .int .i64 (y60)) he (y_move rfl) ?_; clear he; (try clear a); intro a he
      obtain ⟨x65, hx66, hm⟩ := ob hm
      obtain ⟨r67, hr68, hq69, hi70, hb71⟩ := hW7.geti hx66
      obtain rfl : _ = ([.string (x65)] : List Value) := hq69
      refine qy he (y_indexAddr (Rd.st hs (.head _)) rfl rfl hi70 hb71 Try.underlying104 ti9) ?_; clear he; (try clear a); intro a he
      refine qy (v := .string (x65)) he (y_loadE (i := y60.toNat) (j := 0) (Rd.st hs (.head _)) rfl hr68 rfl Try.underlying9 rfl) ?_; clear he; (try clear a); intro a he
      refine qy (v := .int .i64 (p1)) he (y_move rfl) ?_; clear he; (try clear a); intro a he
      refine qy (v := v1) he (y_move rfl) ?_; clear he; (try clear a); intro a he
      refine qy (v := .int .i64 (y60)) he (y_move rfl) ?_; clear he; (try clear a); intro a he
      obtain ⟨x72, hx73, hm⟩ := ob hm
      obtain ⟨r74, hr75, hq76, hi77, hb78⟩ := hW2.geti hx73
      obtain rfl : _ = ([.string (x72)] : List Value) := hq76
      refine qy he (y_indexAddr (Rd.st hs (.tail _ (.head _))) rfl rfl hi77 hb78 Try.underlying104 ti9) ?_; clear he; (try clear a); intro a he
      refine qy (v := .string (x72)) he (y_loadE (i := y60.toNat) (j := 0) (Rd.st hs (.tail _ (.head _))) rfl hr75 rfl Try.underlying9 rfl) ?_; clear he; (try clear a); intro a he
      refine qy he (y_lenS rfl Try.underlying9) ?_; clear he; (try clear a); intro a he
      refine qy he (y_add rfl rfl rfl) ?_; clear he; (try clear a); intro a he
      refine qy (v := .string (x65)) he (y_assign rfl) ?_; clear he; (try clear a); intro a he
      refine qy (v := .int .i64 ((w64 (p1 + (x72.size : Int))))) he (y_assign rfl) ?_; clear he; (try clear a); intro a he
      refine QL_nil he ?_; clear he; (try clear hs); (try clear a); intro a w hs
      refine hK36 _ _ ?_; clear hK36
      refine W_ret ?_
      obtain rfl := Option.some.inj hm
      refine RtV2 hs rfl (rv_t hs rfl) (rv_t hs rfl) ?_
      exact ⟨rfl, ((hs.subL (.cons _ (.cons _ (.refl _)))).weak hle).cw⟩
     ·replace hm := oc_f hg64 hm
      refine W_skip ?_
      refine hK33 _ _ ?_; clear hK33
      refine W_region ?_
      refine sy (v := .int .i64 (y60)) hs (y_move rfl) ?_; clear hs; (try clear a w); intro a w hs
      refine sy hs (y_add rfl rfl rfl) ?_; clear hs; (try clear a w); intro a w hs
      refine sy (v := .int .i64 ((w64 (y60 + 1)))) hs (y_assign rfl) ?_; clear hs; (try clear a w); intro a w hs
      refine RL_nil ?_
      exact hK30 k61 _ _ (Nat.lt_succ_self _) ⟨(w64 (y60 + 1)), hm, hs.sub ⟨rfl, rfl, rfl, rfl, rfl, trivial⟩⟩
    ·refine W_draw hs mixed (by kernel_rfl) ?_; intro a he
     refine qy (v := .string (p0)) he (y_move rfl) ?_; clear he; (try clear a); intro a he
     refine qy he (y_lenS rfl Try.underlying9) ?_; clear he; (try clear a); intro a he
     refine qy (v := .int .i64 (p1)) he (y_move rfl) ?_; clear he; (try clear a); intro a he
     refine qy he (y_sub rfl rfl rfl) ?_; clear he; (try clear a); intro a he
     refine qy (v := v1) he (y_move rfl) ?_; clear he; (try clear a); intro a he
     refine qy (v := .int .i64 (y60)) he (y_move rfl) ?_; clear he; (try clear a); intro a he
     obtain ⟨x79, hx80, hm⟩ := ob hm
     obtain ⟨r81, hr82, hq83, hi84, hb85⟩ := hW2.geti hx80
     obtain rfl : _ = ([.string (x79)] : List Value) := hq83
     refine qy he (y_indexAddr (Rd.st hs (.tail _ (.head _))) rfl rfl hi84 hb85 Try.underlying104 ti9) ?_; clear he; (try clear a); intro a he
     refine qy (v := .string (x79)) he (y_loadE (i := y60.toNat) (j := 0) (Rd.st hs (.tail _ (.head _))) rfl hr82 rfl Try.underlying9 rfl) ?_; clear he; (try clear a); intro a he
     refine qy he (y_lenS rfl Try.underlying9) ?_; clear he; (try clear a); intro a he
     refine qy he (y_geq rfl rfl) ?_; clear he; (try clear a); intro a he
     refine qy (v := .bool (decide ((x79.size : Int) ≤ (w64 ((p0.size : Int) - p1))))) he (y_move rfl) ?_; clear he; (try clear a); intro a he
     refine Ev.split he (t := 31) rfl (fun hg86 hq => ?_) (fun hg86 hq => ?_)
     ·clear he; have he := hq; clear hq
      replace hm := oc_t hg86 hm
      refine qyg (v := .string (p0)) he (y_move rfl) ?_; clear he; (try clear a); intro a he
      refine qyg (v := .int .i64 (p1)) he (y_move rfl) ?_; clear he; (try clear a); intro a he
      refine qyg (v := .int .i64 (p1)) he (y_move rfl) ?_; clear he; (try clear a); intro a he
      refine qyg (v := v1) he (y_move rfl) ?_; clear he; (try clear a); intro a he
      refine qyg (v := .int .i64 (y60)) he (y_move rfl) ?_; clear he; (try clear a); intro a he
      obtain ⟨x87, hx88, hm⟩ := ob hm
      obtain ⟨r89, hr90, hq91, hi92, hb93⟩ := hW2.geti hx88
      obtain rfl : _ = ([.string (x87)] : List Value) := hq91
      refine qyg he (y_indexAddr (Rd.st hs (.tail _ (.head _))) rfl rfl hi92 hb93 Try.underlying104 ti9) ?_; clear he; (try clear a); intro a he
      refine qyg (v := .string (x87)) he (y_loadE (i := y60.toNat) (j := 0) (Rd.st hs (.tail _ (.head _))) rfl hr90 rfl Try.underlying9 rfl) ?_; clear he; (try clear a); intro a he
      refine qyg he (y_lenS rfl Try.underlying9) ?_; clear he; (try clear a); intro a he
      refine qyg he (y_add rfl rfl rfl) ?_; clear he; (try clear a); intro a he
      obtain ⟨x94, hx95, hm⟩ := ob hm
      obtain ⟨⟨hlx94, hhx94, h1x94, h2x94⟩, hex94⟩ := cutS_some hx95
      refine qyg he (y_sliceSV (lo := (p1 : Int).toNat) (hi := (w64 (p1 + (x87.size : Int))).toNat) hex94 rfl Try.underlying9 (.inr ⟨_, rfl, by rw [← hlx94]; rfl⟩) (.inr ⟨_, rfl, by rw [← hhx94]; rfl⟩) h1x94 h2x94) ?_; clear he; (try clear a); intro a he
      refine qyg (v := v1) he (y_move rfl) ?_; clear he; (try clear a); intro a he
      refine qyg (v := .int .i64 (y60)) he (y_move rfl) ?_; clear he; (try clear a); intro a he
      obtain ⟨x96, hx97, hm⟩ := ob hm
      obtain ⟨r98, hr99, hq100, hi101, hb102⟩ := hW2.geti hx97
      obtain rfl : _ = ([.string (x96)] : List Value) := hq100
      refine qyg he (y_indexAddr (Rd.st hs (.tail _ (.head _))) rfl rfl hi101 hb102 Try.underlying104 ti9) ?_; clear he; (try clear a); intro a he
      refine qyg (v := .string (x96)) he (y_loadE (i := y60.toNat) (j := 0) (Rd.st hs (.tail _ (.head _))) rfl hr99 rfl Try.underlying9 rfl) ?_; clear he; (try clear a); intro a he
      refine qyg he (y_seql rfl rfl) ?_; clear he; (try clear a); intro a he
      refine qy (v := .bool (decide (x94 = x96))) he (y_pick rfl rfl) ?_; clear he; (try clear a); intro a he
      refine QL_nil he ?_; clear he; (try clear hs); (try clear a); intro a w hs
      exact ⟨decide (x94 = x96), hm, hs.sub ⟨rfl, rfl, rfl, rfl, rfl, rfl, trivial⟩⟩
     ·clear he; have he := hq; clear hq
      replace hm := oc_f hg86 hm
      refine qno he ?_; clear he; (try clear a); intro a he
      refine qno he ?_; clear he; (try clear a); intro a he
      refine qno he ?_; clear he; (try clear a); intro a he
      refine qno he ?_; clear he; (try clear a); intro a he
      refine qno he ?_; clear he; (try clear a); intro a he
      refine qno he ?_; clear he; (try clear a); intro a he
      refine qno he ?_; clear he; (try clear a); intro a he
      refine qno he ?_; clear he; (try clear a); intro a he
      refine qno he ?_; clear he; (try clear a); intro a he
      refine qno he ?_; clear he; (try clear a); intro a he
      refine qno he ?_; clear he; (try clear a); intro a he
      refine qno he ?_; clear he; (try clear a); intro a he
      refine qno he ?_; clear he; (try clear a); intro a he
      refine qno he ?_; clear he; (try clear a); intro a he
      refine qno he ?_; clear he; (try clear a); intro a he
      refine qy (v := .bool (false)) he (y_pick rfl rfl) ?_; clear he; (try clear a); intro a he
      refine QL_nil he ?_; clear he; (try clear hs); (try clear a); intro a w hs
      exact ⟨false, hm, hs.sub ⟨rfl, rfl, rfl, rfl, rfl, rfl, trivial⟩⟩
   ·replace hm := oc_f hg62 hm
    refine W_exit ?_
    refine hB29 _ _ ?_
    exact ⟨hm, hs.subs ⟨rfl, rfl, trivial⟩ (.cons _ (.cons _ (.refl _)))⟩
/-! casement/casementref4.Unescape -/
def ref4_Unescape_k1 (y3 : (List Int)) : Option ByteArray :=
  some (bytesOf y3)
def ref4_Unescape_k3 (lp19 : (List Int) → Int → Option ByteArray) (y21 : (List Int)) (y26 : Int) : Option ByteArray :=
  lp19 y21 y26
def ref4_Unescape_k4 (p0 : ByteArray) (y9 : (List Int)) (y14 : Int) (lp19 : (List Int) → Int → Option ByteArray) : Option ByteArray :=
  (getS p0 y14).bind fun x29 =>
  (appM 1 y9 [x29]).bind fun x36 =>
  ref4_Unescape_k3 lp19 x36 (w64 (y14 + 1))
def ref4_Unescape_l2 (n : Nat) (p0 : ByteArray) : Nat → (List Int) → Int → Option ByteArray
  | 0, _, _ => none
  | k19 + 1, y9, y14 =>
  (bif (decide (y14 < (p0.size : Int))) then (getS p0 y14).bind fun x27 =>
  (bif (decide (x27 = 38)) then (ref4_reference n p0 y14).bind fun x43 =>
  (bif (decide (0 < x43.2)) then (appM 1 y9 (bytesIn x43.1)).bind fun x46 =>
  ref4_Unescape_k3 (ref4_Unescape_l2 n p0 k19) x46 x43.2 else
  ref4_Unescape_k4 p0 y9 y14 (ref4_Unescape_l2 n p0 k19)) else
  ref4_Unescape_k4 p0 y9 y14 (ref4_Unescape_l2 n p0 k19)) else
  ref4_Unescape_k1 y9)
def ref4_Unescape (n : Nat) (p0 : ByteArray) : Option ByteArray :=
  ref4_Unescape_l2 n p0 n ([] : List Int) 0
set_option maxRecDepth 20000 in
set_option maxHeartbeats 4000000 in
theorem ref4_Unescape_ok (n : Nat) {f : Fz} {p0 : ByteArray} {res : ByteArray}  (hm : ref4_Unescape n p0 = some res) : Gives Try.prog 26 [.string p0] f (.string res) := by
 unfold ref4_Unescape at hm
 intro w0 L w hC
 refine enter Try.func26 rfl Try.ntmps26 (by simp) hC fun a hs => ?_
 have hle := Fz.le.refl f
 refine W_seq fun K1 hK1 => ?_
 refine W_region ?_
 refine sy (v := .string ((bs []))) hs (y_assign rfl) ?_; clear hs; (try clear a w); intro a w hs
 refine RL_nil ?_
 refine hK1 _ _ ?_; clear hK1
 refine W_seq fun K2 hK2 => ?_
 refine W_region ?_
 refine sy (v := (.slice none 0 0)) hs (y_assign rfl) ?_; clear hs; (try clear a w); intro a w hs
 refine RL_nil ?_
 refine hK2 _ _ ?_; clear hK2
 refine W_seq fun K3 hK3 => ?_
 refine W_region ?_
 refine sy (v := .int .i64 (0)) hs (y_assign rfl) ?_; clear hs; (try clear a w); intro a w hs
 refine RL_nil ?_
 refine hK3 _ _ ?_; clear hK3
 refine W_seq fun K4 hK4 => ?_
 refine W_post (fun a w => ∃ (y3 : (List Int)) (v4 : Value) (rw5 : List (List Value)), ref4_Unescape_k1 y3 = some res ∧ RW (tInt .u8) f rw5 y3 ∧ St 37 w0 f (.row v4 5 1 rw5 :: L) [(3, v4)] a w) ?_ ?_
 ·clear hs hm
  rintro a w ⟨y3, v4, rw5, hm, hW6, hs⟩
  replace hs : St _ _ _ (.row v4 5 1 rw5 :: L) _ _ _ := hs
  unfold ref4_Unescape_k1 at hm
  refine hK4 _ _ ?_; clear hK4
  refine W_seq fun K5 hK5 => ?_
  refine W_region ?_
  refine sy (v := v4) hs (y_move rfl) ?_; clear hs; (try clear a w); intro a w hs
  refine sy (v := .string ((bytesOf y3))) hs (y_b2sW rfl Try.underlying56 Try.underlying5 Try.underlying9 (Rd.st hs (.head _)) hW6) ?_; clear hs; (try clear a w); intro a w hs
  refine sy (v := .string ((bytesOf y3))) hs (y_assign rfl) ?_; clear hs; (try clear a w); intro a w hs
  refine RL_nil ?_
  refine hK5 _ _ ?_; clear hK5
  refine W_ret ?_
  obtain rfl := Option.some.inj hm
  refine RtV1 hs rfl (rv_t hs rfl) ?_
  exact ⟨rfl, ((hs.subL (.cons _ (.refl _))).weak hle).cw⟩
 ·refine W_block fun Qe6 hB6 hO6 => ?_
  replace hs := hs.nilRow 5 1
  have hW15 : RW (tInt .u8) f [] ([] : List Int) := trivial
  generalize hgrw16 : ([] : List (List Value)) = rw16 at hs hW15; clear hgrw16
  replace hs : St _ _ _ (.row (.slice none 0 0) 5 1 rw16 :: L) _ _ _ := hs
  refine W_loop (fun (k : Nat) a w => ∃ (y9 : (List Int)) (y14 : Int) (v10 : Value) (rw11 : List (List Value)), ref4_Unescape_l2 n p0 k y9 y14 = some res ∧ RW (tInt .u8) f rw11 y9 ∧ St 37 w0 f (.row v10 5 1 rw11 :: L) [(0, .string (p0)), (3, v10), (4, .int .i64 (y14))] a w) (fun k => k) n ⟨([] : List Int), 0, (.slice none 0 0), rw16, hm, hW15, hs.sub ⟨rfl, rfl, rfl, trivial⟩⟩ ?_
  clear hs hm
  intro k
  rintro a w ⟨y9, y14, v10, rw11, hm, hW12, hs⟩
  replace hs : St _ _ _ (.row v10 5 1 rw11 :: L) _ _ _ := hs
  intro K7 hK7
  cases k with
  | zero => simp [ref4_Unescape_l2] at hm
  | succ k19 =>
   rw [ref4_Unescape_l2] at hm
   refine W_seq fun K8 hK8 => ?_
   refine W_seq fun K9 hK9 => ?_
   refine W_region ?_
   refine sy (v := .int .i64 (y14)) hs (y_move rfl) ?_; clear hs; (try clear a w); intro a w hs
   refine sy (v := .string (p0)) hs (y_move rfl) ?_; clear hs; (try clear a w); intro a w hs
   refine sy hs (y_lenS rfl Try.underlying9) ?_; clear hs; (try clear a w); intro a w hs
   refine sy hs (y_lss rfl rfl) ?_; clear hs; (try clear a w); intro a w hs
   refine RL_nil ?_
   refine hK9 _ _ ?_; clear hK9
   refine W_cond hs rfl (fun hg20 => ?_) (fun hg20 => ?_)
   ·replace hm := oc_t hg20 hm
    refine W_skip ?_
    refine hK8 _ _ ?_; clear hK8
    refine W_post (fun a w => ∃ (y21 : (List Int)) (y26 : Int) (v22 : Value) (rw23 : List (List Value)), ref4_Unescape_k3 (ref4_Unescape_l2 n p0 k19) y21 y26 = some res ∧ RW (tInt .u8) f rw23 y21 ∧ St 37 w0 f (.row v22 5 1 rw23 :: L) [(0, .string (p0)), (3, v22), (4, .int .i64 (y26))] a w) ?_ ?_
    ·clear hs hm
     rintro a w ⟨y21, y26, v22, rw23, hm, hW24, hs⟩
     replace hs : St _ _ _ (.row v22 5 1 rw23 :: L) _ _ _ := hs
     unfold ref4_Unescape_k3 at hm
     exact hK7 k19 _ _ (Nat.lt_succ_self _) ⟨y21, y26, v22, rw23, hm, hW24, hs.sub ⟨rfl, rfl, rfl, trivial⟩⟩
    ·refine W_block fun Qe10 hB10 hO10 => ?_
     refine W_seq fun K11 hK11 => ?_
     refine W_seq fun K12 hK12 => ?_
     refine W_region ?_
     refine sy (v := .string (p0)) hs (y_move rfl) ?_; clear hs; (try clear a w); intro a w hs
     refine sy (v := .int .i64 (y14)) hs (y_move rfl) ?_; clear hs; (try clear a w); intro a w hs
     obtain ⟨x27, hx28, hm⟩ := ob hm
     refine sy hs (y_ixW rfl rfl Try.underlying9 hx28) ?_; clear hs; (try clear a w); intro a w hs
     refine sy hs (y_eql rfl rfl) ?_; clear hs; (try clear a w); intro a w hs
     refine RL_nil ?_
     refine hK12 _ _ ?_; clear hK12
     refine W_post (fun a w => ref4_Unescape_k4 p0 y9 y14 (ref4_Unescape_l2 n p0 k19) = some res ∧ St 37 w0 f (.row v10 5 1 rw11 :: L) [(0, .string (p0)), (3, v10), (4, .int .i64 (y14))] a w) ?_ ?_
     ·clear hs hm
      rintro a w ⟨hm, hs⟩
      replace hs : St _ _ _ (.row v10 5 1 rw11 :: L) _ _ _ := hs
      unfold ref4_Unescape_k4 at hm
      refine hK11 _ _ ?_; clear hK11
      refine W_seq fun K13 hK13 => ?_
      refine W_region ?_
      refine sy (v := v10) hs (y_move rfl) ?_; clear hs; (try clear a w); intro a w hs
      refine sy (v := .string (p0)) hs (y_move rfl) ?_; clear hs; (try clear a w); intro a w hs
      refine sy (v := .int .i64 (y14)) hs (y_move rfl) ?_; clear hs; (try clear a w); intro a w hs
      obtain ⟨x29, hx30, hm⟩ := ob hm
      refine sy hs (y_ixW rfl rfl Try.underlying9 hx30) ?_; clear hs; (try clear a w); intro a w hs
      refine RL_bs1s hs rfl Try.underlying56 ti5 rfl rfl ?_; clear hs; (try clear a w); intro v31 a w hs
      have hW32 : RW (tInt .u8) f [[.int .u8 (x29)]] [x29] := RW.single (rfl)
      generalize hgrw33 : ([[.int .u8 (x29)]] : List (List Value)) = rw33 at hs hW32; clear hgrw33
      replace hs : St _ _ _ (.row v31 5 1 rw33 :: .row v10 5 1 rw11 :: L) _ _ _ := hs
      obtain ⟨x36, hx37, hm⟩ := ob hm
      obtain ⟨hbx36, hex36⟩ := appM_some hx37
      have hW40 := hW12.append hW32; rw [hex36] at hW40
      refine RL_append (i := 1) hs rfl rfl rfl (Rd.st hs (.head _)) Try.underlying56 ti5 (by decide) (by rw [RW.len hW12, RW.len hW32]; exact hbx36) (.free rfl) (by decide) ?_; clear hs; (try clear a w); intro v38 a w hs
      generalize hgx36 : rw11 ++ rw33 = rw39 at hs hW40; clear hgx36
      replace hs := hs.erase 0
      replace hs : St _ _ _ (.row v38 5 1 rw39 :: L) _ _ _ := hs
      refine sy (v := v38) hs (y_assign rfl) ?_; clear hs; (try clear a w); intro a w hs
      refine RL_nil ?_
      refine hK13 _ _ ?_; clear hK13
      refine W_region ?_
      refine sy (v := .int .i64 (y14)) hs (y_move rfl) ?_; clear hs; (try clear a w); intro a w hs
      refine sy hs (y_add rfl rfl rfl) ?_; clear hs; (try clear a w); intro a w hs
      refine sy (v := .int .i64 ((w64 (y14 + 1)))) hs (y_assign rfl) ?_; clear hs; (try clear a w); intro a w hs
      refine RL_nil ?_
      exact ⟨x36, (w64 (y14 + 1)), v38, rw39, hm, hW40, hs.sub ⟨rfl, rfl, rfl, trivial⟩⟩
     ·refine W_cond hs rfl (fun hg42 => ?_) (fun hg42 => ?_)
      ·replace hm := oc_t hg42 hm
       refine W_seq fun K14 hK14 => ?_
       refine W_region ?_
       refine sy (v := .string (p0)) hs (y_move rfl) ?_; clear hs; (try clear a w); intro a w hs
       refine sy (v := .int .i64 (y14)) hs (y_move rfl) ?_; clear hs; (try clear a w); intro a w hs
       obtain ⟨x43, hx44, hm⟩ := ob hm
       refine sy hs (y_call rfl has57 rfl (ref4_reference_ok n (f := f)  hx44)) ?_; clear hs; (try clear a w); intro a w hs
       refine sy (v := .tuple #[.string (x43.1), .int .i64 (x43.2)]) hs (y_move rfl) ?_; clear hs; (try clear a w); intro a w hs
       refine sy (v := .string (x43.1)) hs (y_extract rfl rfl) ?_; clear hs; (try clear a w); intro a w hs
       refine sy (v := .int .i64 (x43.2)) hs (y_extract rfl rfl) ?_; clear hs; (try clear a w); intro a w hs
       refine sy (v := .string (x43.1)) hs (y_assign rfl) ?_; clear hs; (try clear a w); intro a w hs
       refine sy (v := .int .i64 (x43.2)) hs (y_assign rfl) ?_; clear hs; (try clear a w); intro a w hs
       refine RL_nil ?_
       refine hK14 _ _ ?_; clear hK14
       refine W_seq fun K15 hK15 => ?_
       refine W_region ?_
       refine sy (v := .int .i64 (x43.2)) hs (y_move rfl) ?_; clear hs; (try clear a w); intro a w hs
       refine sy hs (y_gtr rfl rfl) ?_; clear hs; (try clear a w); intro a w hs
       refine RL_nil ?_
       refine hK15 _ _ ?_; clear hK15
       refine W_cond hs rfl (fun hg45 => ?_) (fun hg45 => ?_)
       ·replace hm := oc_t hg45 hm
        refine W_seq fun K16 hK16 => ?_
        refine W_region ?_
        refine sy (v := v10) hs (y_move rfl) ?_; clear hs; (try clear a w); intro a w hs
        refine sy (v := .string (x43.1)) hs (y_move rfl) ?_; clear hs; (try clear a w); intro a w hs
        obtain ⟨x46, hx47, hm⟩ := ob hm
        refine RL_appStrW 0 hx47 hW12 hs rfl rfl rfl Try.underlying56 Try.underlying9 ti5 rfl ?_; clear hs; (try clear a w); intro v48 rw49 a w hW50 hs
        replace hs : St _ _ _ (.row v48 5 1 rw49 :: L) _ _ _ := hs
        refine sy (v := v48) hs (y_assign rfl) ?_; clear hs; (try clear a w); intro a w hs
        refine RL_nil ?_
        refine hK16 _ _ ?_; clear hK16
        refine W_seq fun K17 hK17 => ?_
        refine W_region ?_
        refine sy (v := .int .i64 (x43.2)) hs (y_move rfl) ?_; clear hs; (try clear a w); intro a w hs
        refine sy (v := .int .i64 (x43.2)) hs (y_assign rfl) ?_; clear hs; (try clear a w); intro a w hs
        refine RL_nil ?_
        refine hK17 _ _ ?_; clear hK17
        refine W_exit ?_
        refine hB10 _ _ ?_
        exact ⟨x46, x43.2, v48, rw49, hm, hW50, hs.sub ⟨rfl, rfl, rfl, trivial⟩⟩
       ·replace hm := oc_f hg45 hm
        refine W_skip ?_
        exact ⟨hm, hs.sub ⟨rfl, rfl, rfl, trivial⟩⟩
      ·replace hm := oc_f hg42 hm
       refine W_skip ?_
       exact ⟨hm, hs.sub ⟨rfl, rfl, rfl, trivial⟩⟩
   ·replace hm := oc_f hg20 hm
    refine W_exit ?_
    refine hB6 _ _ ?_
    exact ⟨y9, v10, rw11, hm, hW12, hs.sub ⟨rfl, trivial⟩⟩
end Go.Proofs.Ythmnohdlhlmmpaa
