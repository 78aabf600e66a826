/-
  Walks and laws of this seat; the base is the text Base.
-/
import Derived.Test.YthmnohdlhlmmpaaL4c
import Derived.Test.YthmnohdlhlmmpaaG4
import Derived.Test.YthmnohdlhlmmpaaRows
/-
  Models of functions, and that the functions compute them. Printed by lift.py.
-/
namespace Go.Proofs.Ythmnohdlhlmmpaa
open Go.RowKit Go.Sl
/-! casement/mark.named -/
def mark_named (_n : Nat) (p0 : ByteArray) : Option ByteArray :=
  (bif (decide (p0 = (bs [97, 109, 112]))) then some (bs [38]) else
  (bif (decide (p0 = (bs [108, 116]))) then some (bs [60]) else
  (bif (decide (p0 = (bs [103, 116]))) then some (bs [62]) else
  (bif (decide (p0 = (bs [113, 117, 111, 116]))) then some (bs [34]) else
  (bif (decide (p0 = (bs [97, 112, 111, 115]))) then some (bs [39]) else
  (bif (decide (p0 = (bs [110, 98, 115, 112]))) then some (bs [194, 160]) else
  some (bs [])))))))
set_option maxRecDepth 20000 in
set_option maxHeartbeats 4000000 in
theorem mark_named_ok (n : Nat) {f : Fz} {p0 : ByteArray} {res : ByteArray}  (hm : mark_named n p0 = some res) : Gives Try.prog 63 [.string p0] f (.string res) := by
 unfold mark_named at hm
 intro w0 L w hC
 refine enter Try.func63 rfl Try.ntmps63 (by simp) hC fun a hs => ?_
 have hle := Fz.le.refl f
 refine W_seq fun K1 hK1 => ?_
 refine W_region ?_
 refine sy (v := .string ((bs []))) hs (y_assign rfl) ?_; clear hs; (try clear a w); intro a w hs
 refine RL_nil ?_
 refine hK1 _ _ ?_; clear hK1
 refine W_seq fun K2 hK2 => ?_
 refine W_seq fun K3 hK3 => ?_
 refine W_region ?_
 refine sy (v := .string (p0)) hs (y_move rfl) ?_; clear hs; (try clear a w); intro a w hs
 refine RL_nil ?_
 refine hK3 _ _ ?_; clear hK3
 refine W_block fun Qe4 hB4 hO4 => ?_
 refine W_seq fun K5 hK5 => ?_
 refine W_region ?_
 refine sy hs (y_seql rfl rfl) ?_; clear hs; (try clear a w); intro a w hs
 refine sy (v := .bool (decide (p0 = (bs [97, 109, 112])))) hs (y_assign rfl) ?_; clear hs; (try clear a w); intro a w hs
 refine RL_nil ?_
 refine hK5 _ _ ?_; clear hK5
 refine W_cond hs rfl (fun hg1 => ?_) (fun hg1 => ?_)
 ·replace hm := oc_t hg1 hm
  refine W_seq fun K6 hK6 => ?_
  refine W_region ?_
  refine sy (v := .string ((bs [38]))) hs (y_assign rfl) ?_; clear hs; (try clear a w); intro a w hs
  refine RL_nil ?_
  refine hK6 _ _ ?_; clear hK6
  refine W_ret ?_
  obtain rfl := Option.some.inj hm
  refine RtV1 hs rfl (rv_t hs rfl) ?_
  exact ⟨rfl, (hs.weak hle).cw⟩
 ·replace hm := oc_f hg1 hm
  refine W_seq fun K7 hK7 => ?_
  refine W_region ?_
  refine sy hs (y_seql rfl rfl) ?_; clear hs; (try clear a w); intro a w hs
  refine sy (v := .bool (decide (p0 = (bs [108, 116])))) hs (y_assign rfl) ?_; clear hs; (try clear a w); intro a w hs
  refine RL_nil ?_
  refine hK7 _ _ ?_; clear hK7
  refine W_cond hs rfl (fun hg2 => ?_) (fun hg2 => ?_)
  ·replace hm := oc_t hg2 hm
   refine W_seq fun K8 hK8 => ?_
   refine W_region ?_
   refine sy (v := .string ((bs [60]))) hs (y_assign rfl) ?_; clear hs; (try clear a w); intro a w hs
   refine RL_nil ?_
   refine hK8 _ _ ?_; clear hK8
   refine W_ret ?_
   obtain rfl := Option.some.inj hm
   refine RtV1 hs rfl (rv_t hs rfl) ?_
   exact ⟨rfl, (hs.weak hle).cw⟩
  ·replace hm := oc_f hg2 hm
   refine W_seq fun K9 hK9 => ?_
   refine W_region ?_
   refine sy hs (y_seql rfl rfl) ?_; clear hs; (try clear a w); intro a w hs
   refine sy (v := .bool (decide (p0 = (bs [103, 116])))) hs (y_assign rfl) ?_; clear hs; (try clear a w); intro a w hs
   refine RL_nil ?_
   refine hK9 _ _ ?_; clear hK9
   refine W_cond hs rfl (fun hg3 => ?_) (fun hg3 => ?_)
   ·replace hm := oc_t hg3 hm
    refine W_seq fun K10 hK10 => ?_
    refine W_region ?_
    refine sy (v := .string ((bs [62]))) hs (y_assign rfl) ?_; clear hs; (try clear a w); intro a w hs
    refine RL_nil ?_
    refine hK10 _ _ ?_; clear hK10
    refine W_ret ?_
    obtain rfl := Option.some.inj hm
    refine RtV1 hs rfl (rv_t hs rfl) ?_
    exact ⟨rfl, (hs.weak hle).cw⟩
   ·replace hm := oc_f hg3 hm
    refine W_seq fun K11 hK11 => ?_
    refine W_region ?_
    refine sy hs (y_seql rfl rfl) ?_; clear hs; (try clear a w); intro a w hs
    refine sy (v := .bool (decide (p0 = (bs [113, 117, 111, 116])))) hs (y_assign rfl) ?_; clear hs; (try clear a w); intro a w hs
    refine RL_nil ?_
    refine hK11 _ _ ?_; clear hK11
    refine W_cond hs rfl (fun hg4 => ?_) (fun hg4 => ?_)
    ·replace hm := oc_t hg4 hm
     refine W_seq fun K12 hK12 => ?_
     refine W_region ?_
     refine sy (v := .string ((bs [34]))) hs (y_assign rfl) ?_; clear hs; (try clear a w); intro a w hs
     refine RL_nil ?_
     refine hK12 _ _ ?_; clear hK12
     refine W_ret ?_
     obtain rfl := Option.some.inj hm
     refine RtV1 hs rfl (rv_t hs rfl) ?_
     exact ⟨rfl, (hs.weak hle).cw⟩
    ·replace hm := oc_f hg4 hm
     refine W_seq fun K13 hK13 => ?_
     refine W_region ?_
     refine sy hs (y_seql rfl rfl) ?_; clear hs; (try clear a w); intro a w hs
     refine sy (v := .bool (decide (p0 = (bs [97, 112, 111, 115])))) hs (y_assign rfl) ?_; clear hs; (try clear a w); intro a w hs
     refine RL_nil ?_
     refine hK13 _ _ ?_; clear hK13
     refine W_cond hs rfl (fun hg5 => ?_) (fun hg5 => ?_)
     ·replace hm := oc_t hg5 hm
      refine W_seq fun K14 hK14 => ?_
      refine W_region ?_
      refine sy (v := .string ((bs [39]))) hs (y_assign rfl) ?_; clear hs; (try clear a w); intro a w hs
      refine RL_nil ?_
      refine hK14 _ _ ?_; clear hK14
      refine W_ret ?_
      obtain rfl := Option.some.inj hm
      refine RtV1 hs rfl (rv_t hs rfl) ?_
      exact ⟨rfl, (hs.weak hle).cw⟩
     ·replace hm := oc_f hg5 hm
      refine W_seq fun K15 hK15 => ?_
      refine W_region ?_
      refine sy hs (y_seql rfl rfl) ?_; clear hs; (try clear a w); intro a w hs
      refine sy (v := .bool (decide (p0 = (bs [110, 98, 115, 112])))) hs (y_assign rfl) ?_; clear hs; (try clear a w); intro a w hs
      refine RL_nil ?_
      refine hK15 _ _ ?_; clear hK15
      refine W_cond hs rfl (fun hg6 => ?_) (fun hg6 => ?_)
      ·replace hm := oc_t hg6 hm
       refine W_seq fun K16 hK16 => ?_
       refine W_region ?_
       refine sy (v := .string ((bs [194, 160]))) hs (y_assign rfl) ?_; clear hs; (try clear a w); intro a w hs
       refine RL_nil ?_
       refine hK16 _ _ ?_; clear hK16
       refine W_ret ?_
       obtain rfl := Option.some.inj hm
       refine RtV1 hs rfl (rv_t hs rfl) ?_
       exact ⟨rfl, (hs.weak hle).cw⟩
      ·replace hm := oc_f hg6 hm
       refine W_skip ?_
       refine hK2 _ _ ?_; clear hK2
       refine W_seq fun K17 hK17 => ?_
       refine W_region ?_
       refine sy (v := .string ((bs []))) hs (y_assign rfl) ?_; clear hs; (try clear a w); intro a w hs
       refine RL_nil ?_
       refine hK17 _ _ ?_; clear hK17
       refine W_ret ?_
       obtain rfl := Option.some.inj hm
       refine RtV1 hs rfl (rv_t hs rfl) ?_
       exact ⟨rfl, (hs.weak hle).cw⟩
/-! casement/mark.numbered -/
def mark_numbered_k2 (y3 : Int) : Option ByteArray :=
  some (Utf8.encode (IntKind.i32.wrap y3))
def mark_numbered_k1 (y2 : Int) : Option ByteArray :=
  (bif ((decide (y2 = 0)) || ((decide (1114111 < y2)) || ((decide (55296 ≤ y2)) && (decide (y2 ≤ 57343))))) then mark_numbered_k2 65533 else
  mark_numbered_k2 y2)
def mark_numbered_l3 (n : Nat) (p0 : ByteArray) (p1 : Int) : Nat → Int → Int → Option ByteArray
  | 0, _, _ => none
  | k10 + 1, y8, y9 =>
  (bif (decide (y9 < (p0.size : Int))) then (getS p0 y9).bind fun x12 =>
  (mark_small n [(IntKind.i32.wrap x12)]).bind fun x19 =>
  (getS x19 0).bind fun x21 =>
  (strings_IndexByte n (bs [48, 49, 50, 51, 52, 53, 54, 55, 56, 57, 97, 98, 99, 100, 101, 102]) x21).bind fun x23 =>
  (bif ((decide (x23 < 0)) || (decide (p1 ≤ x23))) then some (bs []) else
  (mark_numbered_l3 n p0 p1 k10) (w64 ((w64 (y8 * p1)) + x23)) (w64 (y9 + 1))) else
  mark_numbered_k1 y8)
def mark_numbered (n : Nat) (p0 : ByteArray) (p1 : Int) : Option ByteArray :=
  (bif ((decide (p0 = (bs []))) || (decide (8 < (p0.size : Int)))) then some (bs []) else
  mark_numbered_l3 n p0 p1 n 0 0)
set_option maxRecDepth 20000 in
set_option maxHeartbeats 4000000 in
theorem mark_numbered_ok (n : Nat) {f : Fz} {p0 : ByteArray} {p1 : Int} {res : ByteArray}  (hm : mark_numbered n p0 p1 = some res) : Gives Try.prog 62 [.string p0, .int .i64 p1] f (.string res) := by
 unfold mark_numbered at hm
 intro w0 L w hC
 refine enter Try.func62 rfl Try.ntmps62 (by simp) hC fun a hs => ?_
 have hle := Fz.le.refl f
 refine W_seq fun K1 hK1 => ?_
 refine W_region ?_
 refine sy (v := .string ((bs []))) hs (y_assign rfl) ?_; clear hs; (try clear a w); intro a w hs
 refine RL_nil ?_
 refine hK1 _ _ ?_; clear hK1
 refine W_seq fun K2 hK2 => ?_
 refine W_seq fun K3 hK3 => ?_
 refine W_post (fun a w => St 58 w0 f (L) [(0, .string (p0)), (1, .int .i64 (p1)), (14, .bool (((decide (p0 = (bs []))) || (decide (8 < (p0.size : Int))))))] a w) ?_ ?_
 ·clear hs; intro a w hs
  refine hK3 _ _ ?_; clear hK3
  refine W_cond hs rfl (fun hg1 => ?_) (fun hg1 => ?_)
  ·replace hm := oc_t hg1 hm
   refine W_seq fun K4 hK4 => ?_
   refine W_region ?_
   refine sy (v := .string ((bs []))) hs (y_assign rfl) ?_; clear hs; (try clear a w); intro a w hs
   refine RL_nil ?_
   refine hK4 _ _ ?_; clear hK4
   refine W_ret ?_
   obtain rfl := Option.some.inj hm
   refine RtV1 hs rfl (rv_t hs rfl) ?_
   exact ⟨rfl, (hs.weak hle).cw⟩
  ·replace hm := oc_f hg1 hm
   refine W_skip ?_
   refine hK2 _ _ ?_; clear hK2
   refine W_seq fun K5 hK5 => ?_
   refine W_region ?_
   refine sy (v := .int .i64 (0)) hs (y_assign rfl) ?_; clear hs; (try clear a w); intro a w hs
   refine RL_nil ?_
   refine hK5 _ _ ?_; clear hK5
   refine W_seq fun K6 hK6 => ?_
   refine W_seq fun K7 hK7 => ?_
   refine W_region ?_
   refine sy (v := .string (p0)) hs (y_move rfl) ?_; clear hs; (try clear a w); intro a w hs
   refine sy hs (y_lenS rfl Try.underlying9) ?_; clear hs; (try clear a w); intro a w hs
   refine sy (v := .int .i64 (0)) hs (y_move rfl) ?_; clear hs; (try clear a w); intro a w hs
   refine RL_nil ?_
   refine hK7 _ _ ?_; clear hK7
   refine W_post (fun a w => ∃ (y2 : Int), mark_numbered_k1 y2 = some res ∧ St 58 w0 f (L) [(5, .int .i64 (y2))] a w) ?_ ?_
   ·clear hs hm
    rintro a w ⟨y2, hm, hs⟩
    replace hs : St _ _ _ (L) _ _ _ := hs
    unfold mark_numbered_k1 at hm
    refine hK6 _ _ ?_; clear hK6
    refine W_seq fun K8 hK8 => ?_
    refine W_seq fun K9 hK9 => ?_
    refine W_post (fun a w => St 58 w0 f (L) [(5, .int .i64 (y2)), (54, .bool (((decide (y2 = 0)) || ((decide (1114111 < y2)) || ((decide (55296 ≤ y2)) && (decide (y2 ≤ 57343)))))))] a w) ?_ ?_
    ·clear hs; intro a w hs
     refine hK9 _ _ ?_; clear hK9
     refine W_post (fun a w => ∃ (y3 : Int), mark_numbered_k2 y3 = some res ∧ St 58 w0 f (L) [(5, .int .i64 (y3))] a w) ?_ ?_
     ·clear hs hm
      rintro a w ⟨y3, hm, hs⟩
      replace hs : St _ _ _ (L) _ _ _ := hs
      unfold mark_numbered_k2 at hm
      refine hK8 _ _ ?_; clear hK8
      refine W_seq fun K10 hK10 => ?_
      refine W_region ?_
      refine sy (v := .int .i64 (y3)) hs (y_move rfl) ?_; clear hs; (try clear a w); intro a w hs
      refine sy (v := .int .i32 ((IntKind.i32.wrap y3))) hs (y_i2i rfl (by rw [Try.underlying2]; rfl) Try.underlying21 rfl) ?_; clear hs; (try clear a w); intro a w hs
      refine sy (v := .string ((Utf8.encode (IntKind.i32.wrap y3)))) hs (y_i2s rfl (by rw [Try.underlying21]; rfl) Try.underlying9) ?_; clear hs; (try clear a w); intro a w hs
      refine sy (v := .string ((Utf8.encode (IntKind.i32.wrap y3)))) hs (y_assign rfl) ?_; clear hs; (try clear a w); intro a w hs
      refine RL_nil ?_
      refine hK10 _ _ ?_; clear hK10
      refine W_ret ?_
      obtain rfl := Option.some.inj hm
      refine RtV1 hs rfl (rv_t hs rfl) ?_
      exact ⟨rfl, (hs.weak hle).cw⟩
     ·refine W_cond hs rfl (fun hg4 => ?_) (fun hg4 => ?_)
      ·replace hm := oc_t hg4 hm
       refine W_region ?_
       refine sy (v := .int .i64 (65533)) hs (y_assign rfl) ?_; clear hs; (try clear a w); intro a w hs
       refine RL_nil ?_
       exact ⟨65533, hm, hs.sub ⟨rfl, trivial⟩⟩
      ·replace hm := oc_f hg4 hm
       refine W_skip ?_
       exact ⟨y2, hm, hs.sub ⟨rfl, trivial⟩⟩
    ·refine W_region ?_
     refine sy (v := .int .i64 (y2)) hs (y_move rfl) ?_; clear hs; (try clear a w); intro a w hs
     refine sy hs (y_eql rfl rfl) ?_; clear hs; (try clear a w); intro a w hs
     refine sy (v := .bool (decide (y2 = 0))) hs (y_move rfl) ?_; clear hs; (try clear a w); intro a w hs
     refine St.split hs (t := 43) rfl (fun hg5 hq => ?_) (fun hg5 hq => ?_)
     ·clear hs; have hs := hq; clear hq
      refine sno hs ?_; clear hs; (try clear a w); intro a w hs
      refine sno hs ?_; clear hs; (try clear a w); intro a w hs
      refine sy (v := .bool (true)) hs (y_pick rfl rfl) ?_; clear hs; (try clear a w); intro a w hs
      refine sy (v := .bool (true)) hs (y_move rfl) ?_; clear hs; (try clear a w); intro a w hs
      refine sno hs ?_; clear hs; (try clear a w); intro a w hs
      refine sno hs ?_; clear hs; (try clear a w); intro a w hs
      refine sno hs ?_; clear hs; (try clear a w); intro a w hs
      refine sun hs ?_; clear hs; (try clear a w); intro a w hs
      refine sun hs ?_; clear hs; (try clear a w); intro a w hs
      refine sno hs ?_; clear hs; (try clear a w); intro a w hs
      refine sy (v := .bool (true)) hs (y_pick rfl rfl) ?_; clear hs; (try clear a w); intro a w hs
      refine RL_nil ?_
      exact hs.sub ⟨rfl, (lkB (((or_t hg5).trans rfl)) rfl), trivial⟩
     ·clear hs; have hs := hq; clear hq
      refine syg (v := .int .i64 (y2)) hs (y_move rfl) ?_; clear hs; (try clear a w); intro a w hs
      refine syg hs (y_gtr rfl rfl) ?_; clear hs; (try clear a w); intro a w hs
      refine sy (v := .bool (decide (1114111 < y2))) hs (y_pick rfl rfl) ?_; clear hs; (try clear a w); intro a w hs
      refine sy (v := .bool (decide (1114111 < y2))) hs (y_move rfl) ?_; clear hs; (try clear a w); intro a w hs
      refine St.split hs (t := 47) rfl (fun hg6 hq => ?_) (fun hg6 hq => ?_)
      ·clear hs; have hs := hq; clear hq
       refine sno hs ?_; clear hs; (try clear a w); intro a w hs
       refine sno hs ?_; clear hs; (try clear a w); intro a w hs
       refine sno hs ?_; clear hs; (try clear a w); intro a w hs
       refine sun hs ?_; clear hs; (try clear a w); intro a w hs
       refine sun hs ?_; clear hs; (try clear a w); intro a w hs
       refine sno hs ?_; clear hs; (try clear a w); intro a w hs
       refine sy (v := .bool (true)) hs (y_pick rfl rfl) ?_; clear hs; (try clear a w); intro a w hs
       refine RL_nil ?_
       exact hs.sub ⟨rfl, (lkB (((or_f hg5).trans ((or_t hg6).trans rfl))) rfl), trivial⟩
      ·clear hs; have hs := hq; clear hq
       refine syg (v := .int .i64 (y2)) hs (y_move rfl) ?_; clear hs; (try clear a w); intro a w hs
       refine syg hs (y_geq rfl rfl) ?_; clear hs; (try clear a w); intro a w hs
       refine syg (v := .bool (decide (55296 ≤ y2))) hs (y_move rfl) ?_; clear hs; (try clear a w); intro a w hs
       refine St.split hs (t := 50) rfl (fun hg7 hq => ?_) (fun hg7 hq => ?_)
       ·clear hs; have hs := hq; clear hq
        refine syg (v := .int .i64 (y2)) hs (y_move rfl) ?_; clear hs; (try clear a w); intro a w hs
        refine syg hs (y_leq rfl rfl) ?_; clear hs; (try clear a w); intro a w hs
        refine syg (v := .bool (decide (y2 ≤ 57343))) hs (y_pick rfl rfl) ?_; clear hs; (try clear a w); intro a w hs
        refine sy (v := .bool (decide (y2 ≤ 57343))) hs (y_pick rfl rfl) ?_; clear hs; (try clear a w); intro a w hs
        refine RL_nil ?_
        exact hs.sub ⟨rfl, (lkB (((or_f hg5).trans ((or_f hg6).trans ((and_t hg7).trans rfl)))) rfl), trivial⟩
       ·clear hs; have hs := hq; clear hq
        refine sno hs ?_; clear hs; (try clear a w); intro a w hs
        refine sno hs ?_; clear hs; (try clear a w); intro a w hs
        refine syg (v := .bool (false)) hs (y_pick rfl rfl) ?_; clear hs; (try clear a w); intro a w hs
        refine sy (v := .bool (false)) hs (y_pick rfl rfl) ?_; clear hs; (try clear a w); intro a w hs
        refine RL_nil ?_
        exact hs.sub ⟨rfl, (lkB (((or_f hg5).trans ((or_f hg6).trans ((and_f hg7).trans rfl)))) rfl), trivial⟩
   ·refine W_block fun Qe11 hB11 hO11 => ?_
    refine W_loop (fun (k : Nat) a w => ∃ (y8 : Int) (y9 : Int), mark_numbered_l3 n p0 p1 k y8 y9 = some res ∧ St 58 w0 f (L) [(0, .string (p0)), (1, .int .i64 (p1)), (5, .int .i64 (y8)), (16, .int .i64 ((p0.size : Int))), (17, .int .i64 (y9))] a w) (fun k => k) n ⟨0, 0, hm, hs.sub ⟨rfl, rfl, rfl, rfl, rfl, trivial⟩⟩ ?_
    clear hs hm
    intro k
    rintro a w ⟨y8, y9, hm, hs⟩
    replace hs : St _ _ _ (L) _ _ _ := hs
    intro K12 hK12
    cases k with
    | zero => simp [mark_numbered_l3] at hm
    | succ k10 =>
     rw [mark_numbered_l3] at hm
     refine W_seq fun K13 hK13 => ?_
     refine W_region ?_
     refine sy hs (y_lss rfl rfl) ?_; clear hs; (try clear a w); intro a w hs
     refine RL_nil ?_
     refine hK13 _ _ ?_; clear hK13
     refine W_seq fun K14 hK14 => ?_
     refine W_cond hs rfl (fun hg11 => ?_) (fun hg11 => ?_)
     ·replace hm := oc_t hg11 hm
      refine W_skip ?_
      refine hK14 _ _ ?_; clear hK14
      refine W_seq fun K15 hK15 => ?_
      refine W_block fun Qe16 hB16 hO16 => ?_
      refine W_seq fun K17 hK17 => ?_
      refine W_region ?_
      refine sy (v := .int .i64 (y9)) hs (y_move rfl) ?_; clear hs; (try clear a w); intro a w hs
      refine sy (v := .int .i64 (y9)) hs (y_assign rfl) ?_; clear hs; (try clear a w); intro a w hs
      refine RL_nil ?_
      refine hK17 _ _ ?_; clear hK17
      refine W_seq fun K18 hK18 => ?_
      refine W_region ?_
      refine sy (v := .string (p0)) hs (y_move rfl) ?_; clear hs; (try clear a w); intro a w hs
      refine sy (v := .int .i64 (y9)) hs (y_move rfl) ?_; clear hs; (try clear a w); intro a w hs
      obtain ⟨x12, hx13, hm⟩ := ob hm
      refine sy hs (y_ixW rfl rfl Try.underlying9 hx13) ?_; clear hs; (try clear a w); intro a w hs
      refine sy (v := .int .i32 ((IntKind.i32.wrap x12))) hs (y_i2i rfl (by rw [Try.underlying5]; rfl) Try.underlying21 rfl) ?_; clear hs; (try clear a w); intro a w hs
      refine RL_bs1s hs rfl Try.underlying32 ti21 rfl rfl ?_; clear hs; (try clear a w); intro v14 a w hs
      have hW15 : RW (tInt .i32) f [[.int .i32 ((IntKind.i32.wrap x12))]] [(IntKind.i32.wrap x12)] := RW.single (rfl)
      generalize hgrw16 : ([[.int .i32 ((IntKind.i32.wrap x12))]] : List (List Value)) = rw16 at hs hW15; clear hgrw16
      replace hs : St _ _ _ (.row v14 21 1 rw16 :: L) _ _ _ := hs
      obtain ⟨x19, hx20, hm⟩ := ob hm
      refine sy hs (y_callCK (cap := []) rfl has66 rfl (fun w9 hw9 => callsP (Lr := [.row v14 21 1 rw16]) (Lf := L) (perm_at _ 0 rfl) hw9 (fun Lz w9 hw9 => lent0 hw9 (fun f9_0 w9 hle9_0 hRl0 hw9 => (mark_small_ok n (f := f9_0) (a0 := v14) ⟨rw16, hRl0, hW15.le hle9_0⟩ hx20) w0 _ w9 hw9)))) ?_; clear hs; (try clear a w); intro a w hs
      obtain ⟨x21, hx22, hm⟩ := ob hm
      refine sy hs (y_ixW rfl rfl Try.underlying9 hx22) ?_; clear hs; (try clear a w); intro a w hs
      obtain ⟨x23, hx24, hm⟩ := ob hm
      refine sy hs (y_call rfl has33 rfl (strings_IndexByte_ok n (f := f)  hx24)) ?_; clear hs; (try clear a w); intro a w hs
      refine sy (v := .int .i64 (x23)) hs (y_assign rfl) ?_; clear hs; (try clear a w); intro a w hs
      refine RL_nil ?_
      refine hK18 _ _ ?_; clear hK18
      refine W_seq fun K19 hK19 => ?_
      refine W_seq fun K20 hK20 => ?_
      refine W_post (fun a w => St 58 w0 f (.row v14 21 1 rw16 :: L) [(0, .string (p0)), (1, .int .i64 (p1)), (5, .int .i64 (y8)), (7, .int .i64 (x23)), (16, .int .i64 ((p0.size : Int))), (17, .int .i64 (y9)), (34, .bool (((decide (x23 < 0)) || (decide (p1 ≤ x23)))))] a w) ?_ ?_
      ·clear hs; intro a w hs
       refine hK20 _ _ ?_; clear hK20
       refine W_cond hs rfl (fun hg25 => ?_) (fun hg25 => ?_)
       ·replace hm := oc_t hg25 hm
        refine W_seq fun K21 hK21 => ?_
        refine W_region ?_
        refine sy (v := .string ((bs []))) hs (y_assign rfl) ?_; clear hs; (try clear a w); intro a w hs
        refine RL_nil ?_
        refine hK21 _ _ ?_; clear hK21
        refine W_ret ?_
        obtain rfl := Option.some.inj hm
        refine RtV1 hs rfl (rv_t hs rfl) ?_
        exact ⟨rfl, ((hs.subL (.cons _ (.refl _))).weak hle).cw⟩
       ·replace hm := oc_f hg25 hm
        refine W_skip ?_
        refine hK19 _ _ ?_; clear hK19
        refine W_region ?_
        refine sy (v := .int .i64 (y8)) hs (y_move rfl) ?_; clear hs; (try clear a w); intro a w hs
        refine sy (v := .int .i64 (p1)) hs (y_move rfl) ?_; clear hs; (try clear a w); intro a w hs
        refine sy hs (y_mul rfl rfl rfl) ?_; clear hs; (try clear a w); intro a w hs
        refine sy (v := .int .i64 (x23)) hs (y_move rfl) ?_; clear hs; (try clear a w); intro a w hs
        refine sy hs (y_add rfl rfl rfl) ?_; clear hs; (try clear a w); intro a w hs
        refine sy (v := .int .i64 ((w64 ((w64 (y8 * p1)) + x23)))) hs (y_assign rfl) ?_; clear hs; (try clear a w); intro a w hs
        refine RL_nil ?_
        refine hK15 _ _ ?_; clear hK15
        refine W_region ?_
        refine sy hs (y_add rfl rfl rfl) ?_; clear hs; (try clear a w); intro a w hs
        refine sy (v := .int .i64 ((w64 (y9 + 1)))) hs (y_move rfl) ?_; clear hs; (try clear a w); intro a w hs
        refine RL_nil ?_
        exact hK12 k10 _ _ (Nat.lt_succ_self _) ⟨(w64 ((w64 (y8 * p1)) + x23)), (w64 (y9 + 1)), hm, hs.subs ⟨rfl, rfl, rfl, rfl, rfl, trivial⟩ (.cons _ (.refl _))⟩
      ·refine W_region ?_
       refine sy (v := .int .i64 (x23)) hs (y_move rfl) ?_; clear hs; (try clear a w); intro a w hs
       refine sy hs (y_lss rfl rfl) ?_; clear hs; (try clear a w); intro a w hs
       refine sy (v := .bool (decide (x23 < 0))) hs (y_move rfl) ?_; clear hs; (try clear a w); intro a w hs
       refine St.split hs (t := 30) rfl (fun hg26 hq => ?_) (fun hg26 hq => ?_)
       ·clear hs; have hs := hq; clear hq
        refine sno hs ?_; clear hs; (try clear a w); intro a w hs
        refine sno hs ?_; clear hs; (try clear a w); intro a w hs
        refine sno hs ?_; clear hs; (try clear a w); intro a w hs
        refine sy (v := .bool (true)) hs (y_pick rfl rfl) ?_; clear hs; (try clear a w); intro a w hs
        refine RL_nil ?_
        exact hs.sub ⟨rfl, rfl, rfl, rfl, rfl, rfl, (lkB (((or_t hg26).trans rfl)) rfl), trivial⟩
       ·clear hs; have hs := hq; clear hq
        refine syg (v := .int .i64 (x23)) hs (y_move rfl) ?_; clear hs; (try clear a w); intro a w hs
        refine syg (v := .int .i64 (p1)) hs (y_move rfl) ?_; clear hs; (try clear a w); intro a w hs
        refine syg hs (y_geq rfl rfl) ?_; clear hs; (try clear a w); intro a w hs
        refine sy (v := .bool (decide (p1 ≤ x23))) hs (y_pick rfl rfl) ?_; clear hs; (try clear a w); intro a w hs
        refine RL_nil ?_
        exact hs.sub ⟨rfl, rfl, rfl, rfl, rfl, rfl, (lkB (((or_f hg26).trans rfl)) rfl), trivial⟩
     ·replace hm := oc_f hg11 hm
      refine W_exit ?_
      refine hB11 _ _ ?_
      exact ⟨y8, hm, hs.sub ⟨rfl, trivial⟩⟩
 ·refine W_region ?_
  refine sy (v := .string (p0)) hs (y_move rfl) ?_; clear hs; (try clear a w); intro a w hs
  refine sy hs (y_seql rfl rfl) ?_; clear hs; (try clear a w); intro a w hs
  refine sy (v := .bool (decide (p0 = (bs [])))) hs (y_move rfl) ?_; clear hs; (try clear a w); intro a w hs
  refine St.split hs (t := 10) rfl (fun hg27 hq => ?_) (fun hg27 hq => ?_)
  ·clear hs; have hs := hq; clear hq
   refine sno hs ?_; clear hs; (try clear a w); intro a w hs
   refine sno hs ?_; clear hs; (try clear a w); intro a w hs
   refine sno hs ?_; clear hs; (try clear a w); intro a w hs
   refine sy (v := .bool (true)) hs (y_pick rfl rfl) ?_; clear hs; (try clear a w); intro a w hs
   refine RL_nil ?_
   exact hs.sub ⟨rfl, rfl, (lkB (((or_t hg27).trans rfl)) rfl), trivial⟩
  ·clear hs; have hs := hq; clear hq
   refine syg (v := .string (p0)) hs (y_move rfl) ?_; clear hs; (try clear a w); intro a w hs
   refine syg hs (y_lenS rfl Try.underlying9) ?_; clear hs; (try clear a w); intro a w hs
   refine syg hs (y_gtr rfl rfl) ?_; clear hs; (try clear a w); intro a w hs
   refine sy (v := .bool (decide (8 < (p0.size : Int)))) hs (y_pick rfl rfl) ?_; clear hs; (try clear a w); intro a w hs
   refine RL_nil ?_
   exact hs.sub ⟨rfl, rfl, (lkB (((or_f hg27).trans rfl)) rfl), trivial⟩
/-! internal/stringslite.HasPrefix -/
def internal_stringslite_HasPrefix_k1 (y1 : Bool) : Option Bool :=
  some y1
def internal_stringslite_HasPrefix (_n : Nat) (p0 : ByteArray) (p1 : ByteArray) : Option Bool :=
  (bif (decide ((p1.size : Int) ≤ (p0.size : Int))) then (cutS p0 (0 : Int) (p1.size : Int)).bind fun x3 =>
  internal_stringslite_HasPrefix_k1 (decide (x3 = p1)) else
  internal_stringslite_HasPrefix_k1 false)
set_option maxRecDepth 20000 in
set_option maxHeartbeats 4000000 in
theorem internal_stringslite_HasPrefix_ok (n : Nat) {f : Fz} {p0 : ByteArray} {p1 : ByteArray} {res : Bool}  (hm : internal_stringslite_HasPrefix n p0 p1 = some res) : Gives Try.prog 79 [.string p0, .string p1] f (.bool res) := by
 unfold internal_stringslite_HasPrefix at hm
 intro w0 L w hC
 refine enter Try.func79 rfl Try.ntmps79 (by simp) hC fun a hs => ?_
 have hle := Fz.le.refl f
 refine W_seq fun K1 hK1 => ?_
 refine W_region ?_
 refine sy (v := .bool (false)) hs (y_assign rfl) ?_; clear hs; (try clear a w); intro a w hs
 refine RL_nil ?_
 refine hK1 _ _ ?_; clear hK1
 refine W_seq fun K2 hK2 => ?_
 refine W_post (fun a w => ∃ (y1 : Bool), internal_stringslite_HasPrefix_k1 y1 = some res ∧ St 18 w0 f (L) [(4, .bool (y1))] a w) ?_ ?_
 ·clear hs hm
  rintro a w ⟨y1, hm, hs⟩
  replace hs : St _ _ _ (L) _ _ _ := hs
  unfold internal_stringslite_HasPrefix_k1 at hm
  refine hK2 _ _ ?_; clear hK2
  refine W_ret ?_
  obtain rfl := Option.some.inj hm
  refine RtV1 hs rfl (rv_t hs rfl) ?_
  exact ⟨rfl, (hs.weak hle).cw⟩
 ·refine W_region ?_
  refine sy (v := .string (p0)) hs (y_move rfl) ?_; clear hs; (try clear a w); intro a w hs
  refine sy hs (y_lenS rfl Try.underlying9) ?_; clear hs; (try clear a w); intro a w hs
  refine sy (v := .string (p1)) hs (y_move rfl) ?_; clear hs; (try clear a w); intro a w hs
  refine sy hs (y_lenS rfl Try.underlying9) ?_; clear hs; (try clear a w); intro a w hs
  refine sy hs (y_geq rfl rfl) ?_; clear hs; (try clear a w); intro a w hs
  refine sy (v := .bool (decide ((p1.size : Int) ≤ (p0.size : Int)))) hs (y_move rfl) ?_; clear hs; (try clear a w); intro a w hs
  refine St.split hs (t := 10) rfl (fun hg2 hq => ?_) (fun hg2 hq => ?_)
  ·clear hs; have hs := hq; clear hq
   replace hm := oc_t hg2 hm
   refine syg (v := .string (p0)) hs (y_move rfl) ?_; clear hs; (try clear a w); intro a w hs
   refine syg (v := .string (p1)) hs (y_move rfl) ?_; clear hs; (try clear a w); intro a w hs
   refine syg hs (y_lenS rfl Try.underlying9) ?_; clear hs; (try clear a w); intro a w hs
   obtain ⟨x3, hx4, hm⟩ := ob hm
   obtain ⟨⟨hlx3, hhx3, h1x3, h2x3⟩, hex3⟩ := cutS_some hx4
   refine syg hs (y_sliceSV (lo := (0 : Int).toNat) (hi := (p1.size : Int).toNat) hex3 rfl Try.underlying9 (.inl ⟨rfl, rfl⟩) (.inr ⟨_, rfl, by rw [← hhx3]; rfl⟩) h1x3 h2x3) ?_; clear hs; (try clear a w); intro a w hs
   refine syg (v := .string (p1)) hs (y_move rfl) ?_; clear hs; (try clear a w); intro a w hs
   refine syg hs (y_seql rfl rfl) ?_; clear hs; (try clear a w); intro a w hs
   refine sy (v := .bool (decide (x3 = p1))) hs (y_pick rfl rfl) ?_; clear hs; (try clear a w); intro a w hs
   refine sy (v := .bool (decide (x3 = p1))) hs (y_assign rfl) ?_; clear hs; (try clear a w); intro a w hs
   refine RL_nil ?_
   exact ⟨decide (x3 = p1), hm, hs.sub ⟨rfl, trivial⟩⟩
  ·clear hs; have hs := hq; clear hq
   replace hm := oc_f hg2 hm
   refine sno hs ?_; clear hs; (try clear a w); intro a w hs
   refine sno hs ?_; clear hs; (try clear a w); intro a w hs
   refine sno hs ?_; clear hs; (try clear a w); intro a w hs
   refine sno hs ?_; clear hs; (try clear a w); intro a w hs
   refine sno hs ?_; clear hs; (try clear a w); intro a w hs
   refine sno hs ?_; clear hs; (try clear a w); intro a w hs
   refine sy (v := .bool (false)) hs (y_pick rfl rfl) ?_; clear hs; (try clear a w); intro a w hs
   refine sy (v := .bool (false)) hs (y_assign rfl) ?_; clear hs; (try clear a w); intro a w hs
   refine RL_nil ?_
   exact ⟨false, hm, hs.sub ⟨rfl, trivial⟩⟩
/-! strings.HasPrefix -/
def strings_HasPrefix (n : Nat) (p0 : ByteArray) (p1 : ByteArray) : Option Bool :=
  (internal_stringslite_HasPrefix n p0 p1).bind fun x1 =>
  some x1
set_option maxRecDepth 20000 in
set_option maxHeartbeats 4000000 in
theorem strings_HasPrefix_ok (n : Nat) {f : Fz} {p0 : ByteArray} {p1 : ByteArray} {res : Bool}  (hm : strings_HasPrefix n p0 p1 = some res) : Gives Try.prog 61 [.string p0, .string p1] f (.bool res) := by
 unfold strings_HasPrefix at hm
 intro w0 L w hC
 refine enter Try.func61 rfl Try.ntmps61 (by simp) hC fun a hs => ?_
 have hle := Fz.le.refl f
 refine W_seq fun K1 hK1 => ?_
 refine W_region ?_
 refine sy (v := .bool (false)) hs (y_assign rfl) ?_; clear hs; (try clear a w); intro a w hs
 refine RL_nil ?_
 refine hK1 _ _ ?_; clear hK1
 refine W_seq fun K2 hK2 => ?_
 refine W_region ?_
 refine sy (v := .string (p0)) hs (y_move rfl) ?_; clear hs; (try clear a w); intro a w hs
 refine sy (v := .string (p1)) hs (y_move rfl) ?_; clear hs; (try clear a w); intro a w hs
 obtain ⟨x1, hx2, hm⟩ := ob hm
 refine sy hs (y_call rfl has79 rfl (internal_stringslite_HasPrefix_ok n (f := f)  hx2)) ?_; clear hs; (try clear a w); intro a w hs
 refine sy (v := .bool (x1)) hs (y_assign rfl) ?_; clear hs; (try clear a w); intro a w hs
 refine RL_nil ?_
 refine hK2 _ _ ?_; clear hK2
 refine W_ret ?_
 obtain rfl := Option.some.inj hm
 refine RtV1 hs rfl (rv_t hs rfl) ?_
 exact ⟨rfl, (hs.weak hle).cw⟩
/-! casement/mark.entity -/
def mark_entity_k1 (n : Nat) (p0 : ByteArray) (y1 : Bool) : Option ByteArray :=
  (bif y1 then (cutS p0 (2 : Int) (p0.size : Int)).bind fun x3 =>
  (mark_numbered n x3 16).bind fun x5 =>
  some x5 else
  (strings_HasPrefix n p0 (bs [35])).bind fun x7 =>
  (bif x7 then (cutS p0 (1 : Int) (p0.size : Int)).bind fun x10 =>
  (mark_numbered n x10 10).bind fun x12 =>
  some x12 else
  (mark_named n p0).bind fun x14 =>
  some x14))
def mark_entity (n : Nat) (p0 : ByteArray) : Option ByteArray :=
  (strings_HasPrefix n p0 (bs [35, 120])).bind fun x16 =>
  (bif x16 then mark_entity_k1 n p0 true else
  (strings_HasPrefix n p0 (bs [35, 88])).bind fun x19 =>
  mark_entity_k1 n p0 x19)
set_option maxRecDepth 20000 in
set_option maxHeartbeats 4000000 in
theorem mark_entity_ok (n : Nat) {f : Fz} {p0 : ByteArray} {res : ByteArray}  (hm : mark_entity n p0 = some res) : Gives Try.prog 34 [.string p0] f (.string res) := by
 unfold mark_entity at hm
 intro w0 L w hC
 refine enter Try.func34 rfl Try.ntmps34 (by simp) hC fun a hs => ?_
 have hle := Fz.le.refl f
 refine W_seq fun K1 hK1 => ?_
 refine W_region ?_
 refine sy (v := .string ((bs []))) hs (y_assign rfl) ?_; clear hs; (try clear a w); intro a w hs
 refine RL_nil ?_
 refine hK1 _ _ ?_; clear hK1
 refine W_seq fun K2 hK2 => ?_
 refine W_block fun Qe3 hB3 hO3 => ?_
 refine W_seq fun K4 hK4 => ?_
 refine W_post (fun a w => ∃ (y1 : Bool), mark_entity_k1 n p0 y1 = some res ∧ St 21 w0 f (L) [(0, .string (p0)), (3, .bool (y1))] a w) ?_ ?_
 ·clear hs hm
  rintro a w ⟨y1, hm, hs⟩
  replace hs : St _ _ _ (L) _ _ _ := hs
  unfold mark_entity_k1 at hm
  refine hK4 _ _ ?_; clear hK4
  refine W_cond hs rfl (fun hg2 => ?_) (fun hg2 => ?_)
  ·replace hm := oc_t hg2 hm
   refine W_seq fun K5 hK5 => ?_
   refine W_region ?_
   refine sy (v := .string (p0)) hs (y_move rfl) ?_; clear hs; (try clear a w); intro a w hs
   obtain ⟨x3, hx4, hm⟩ := ob hm
   obtain ⟨⟨hlx3, hhx3, h1x3, h2x3⟩, hex3⟩ := cutS_some hx4
   refine sy hs (y_sliceS (lo := (2 : Int).toNat) (hi := (p0.size : Int).toNat) rfl Try.underlying9 (.inr ⟨_, rfl, by rw [← hlx3]; rfl⟩) (.inl ⟨rfl, by simp⟩) h1x3 h2x3) ?_; clear hs; (try clear a w); intro a w hs
   rw [hex3] at hs
   obtain ⟨x5, hx6, hm⟩ := ob hm
   refine sy hs (y_call rfl has62 rfl (mark_numbered_ok n (f := f)  hx6)) ?_; clear hs; (try clear a w); intro a w hs
   refine sy (v := .string (x5)) hs (y_assign rfl) ?_; clear hs; (try clear a w); intro a w hs
   refine RL_nil ?_
   refine hK5 _ _ ?_; clear hK5
   refine W_ret ?_
   obtain rfl := Option.some.inj hm
   refine RtV1 hs rfl (rv_t hs rfl) ?_
   exact ⟨rfl, (hs.weak hle).cw⟩
  ·replace hm := oc_f hg2 hm
   refine W_seq fun K6 hK6 => ?_
   refine W_region ?_
   refine sy (v := .string (p0)) hs (y_move rfl) ?_; clear hs; (try clear a w); intro a w hs
   obtain ⟨x7, hx8, hm⟩ := ob hm
   refine sy hs (y_call rfl has61 rfl (strings_HasPrefix_ok n (f := f)  hx8)) ?_; clear hs; (try clear a w); intro a w hs
   refine sy (v := .bool (x7)) hs (y_assign rfl) ?_; clear hs; (try clear a w); intro a w hs
   refine RL_nil ?_
   refine hK6 _ _ ?_; clear hK6
   refine W_cond hs rfl (fun hg9 => ?_) (fun hg9 => ?_)
   ·replace hm := oc_t hg9 hm
    refine W_seq fun K7 hK7 => ?_
    refine W_region ?_
    refine sy (v := .string (p0)) hs (y_move rfl) ?_; clear hs; (try clear a w); intro a w hs
    obtain ⟨x10, hx11, hm⟩ := ob hm
    obtain ⟨⟨hlx10, hhx10, h1x10, h2x10⟩, hex10⟩ := cutS_some hx11
    refine sy hs (y_sliceS (lo := (1 : Int).toNat) (hi := (p0.size : Int).toNat) rfl Try.underlying9 (.inr ⟨_, rfl, by rw [← hlx10]; rfl⟩) (.inl ⟨rfl, by simp⟩) h1x10 h2x10) ?_; clear hs; (try clear a w); intro a w hs
    rw [hex10] at hs
    obtain ⟨x12, hx13, hm⟩ := ob hm
    refine sy hs (y_call rfl has62 rfl (mark_numbered_ok n (f := f)  hx13)) ?_; clear hs; (try clear a w); intro a w hs
    refine sy (v := .string (x12)) hs (y_assign rfl) ?_; clear hs; (try clear a w); intro a w hs
    refine RL_nil ?_
    refine hK7 _ _ ?_; clear hK7
    refine W_ret ?_
    obtain rfl := Option.some.inj hm
    refine RtV1 hs rfl (rv_t hs rfl) ?_
    exact ⟨rfl, (hs.weak hle).cw⟩
   ·replace hm := oc_f hg9 hm
    refine W_skip ?_
    refine hK2 _ _ ?_; clear hK2
    refine W_seq fun K8 hK8 => ?_
    refine W_region ?_
    refine sy (v := .string (p0)) hs (y_move rfl) ?_; clear hs; (try clear a w); intro a w hs
    obtain ⟨x14, hx15, hm⟩ := ob hm
    refine sy hs (y_call rfl has63 rfl (mark_named_ok n (f := f)  hx15)) ?_; clear hs; (try clear a w); intro a w hs
    refine sy (v := .string (x14)) hs (y_assign rfl) ?_; clear hs; (try clear a w); intro a w hs
    refine RL_nil ?_
    refine hK8 _ _ ?_; clear hK8
    refine W_ret ?_
    obtain rfl := Option.some.inj hm
    refine RtV1 hs rfl (rv_t hs rfl) ?_
    exact ⟨rfl, (hs.weak hle).cw⟩
 ·refine W_region ?_
  refine sy (v := .string (p0)) hs (y_move rfl) ?_; clear hs; (try clear a w); intro a w hs
  obtain ⟨x16, hx17, hm⟩ := ob hm
  refine sy hs (y_call rfl has61 rfl (strings_HasPrefix_ok n (f := f)  hx17)) ?_; clear hs; (try clear a w); intro a w hs
  refine sy (v := .bool (x16)) hs (y_move rfl) ?_; clear hs; (try clear a w); intro a w hs
  refine St.split hs (t := 6) rfl (fun hg18 hq => ?_) (fun hg18 hq => ?_)
  ·clear hs; have hs := hq; clear hq
   replace hm := oc_t hg18 hm
   refine sno hs ?_; clear hs; (try clear a w); intro a w hs
   refine sno hs ?_; clear hs; (try clear a w); intro a w hs
   refine sy (v := .bool (true)) hs (y_pick rfl rfl) ?_; clear hs; (try clear a w); intro a w hs
   refine sy (v := .bool (true)) hs (y_assign rfl) ?_; clear hs; (try clear a w); intro a w hs
   refine RL_nil ?_
   exact ⟨true, hm, hs.sub ⟨rfl, rfl, trivial⟩⟩
  ·clear hs; have hs := hq; clear hq
   replace hm := oc_f hg18 hm
   refine syg (v := .string (p0)) hs (y_move rfl) ?_; clear hs; (try clear a w); intro a w hs
   obtain ⟨x19, hx20, hm⟩ := ob hm
   refine syg hs (y_call rfl has61 rfl (strings_HasPrefix_ok n (f := f)  hx20)) ?_; clear hs; (try clear a w); intro a w hs
   refine sy (v := .bool (x19)) hs (y_pick rfl rfl) ?_; clear hs; (try clear a w); intro a w hs
   refine sy (v := .bool (x19)) hs (y_assign rfl) ?_; clear hs; (try clear a w); intro a w hs
   refine RL_nil ?_
   exact ⟨x19, hm, hs.sub ⟨rfl, rfl, trivial⟩⟩
/-! casement/mark.Unescape -/
def mark_Unescape_k1 (_y10 : Bool) (y11 : (List Int)) : Option ByteArray :=
  some (bytesOf y11)
def mark_Unescape_k3 (lp28 : ByteArray → Bool → (List Int) → Option ByteArray) (y33 : ByteArray) (y34 : Bool) (y35 : (List Int)) : Option ByteArray :=
  lp28 y33 y34 y35
def mark_Unescape_k4 (n : Nat) (y21 : ByteArray) (y22 : Bool) (y23 : (List Int)) (lp28 : ByteArray → Bool → (List Int) → Option ByteArray) : Option ByteArray :=
  (getS y21 0).bind fun x43 =>
  (builder_WriteByte n ({addr := y22, buf := y23} : Builder) x43).bind fun x45 =>
  (cutS y21 (1 : Int) (y21.size : Int)).bind fun x53 =>
  mark_Unescape_k3 lp28 x53 x45.addr x45.buf
def mark_Unescape_k5 (n : Nat) (y21 : ByteArray) (y22 : Bool) (y23 : (List Int)) (lp28 : ByteArray → Bool → (List Int) → Option ByteArray) : Option ByteArray :=
  mark_Unescape_k4 n y21 y22 y23 lp28
def mark_Unescape_l2 (n : Nat) : Nat → ByteArray → Bool → (List Int) → Option ByteArray
  | 0, _, _, _ => none
  | k28 + 1, y21, y22, y23 =>
  (bif (decide (y21 ≠ (bs []))) then (getS y21 0).bind fun x41 =>
  (bif (decide (x41 = 38)) then (cutS y21 (0 : Int) (bif decide (12 < (y21.size : Int)) then 12 else (y21.size : Int))).bind fun x56 =>
  (strings_IndexByte n x56 59).bind fun x58 =>
  (bif (decide (0 < x58)) then (cutS y21 (1 : Int) x58).bind fun x61 =>
  (mark_entity n x61).bind fun x63 =>
  (bif (decide (x63 ≠ (bs []))) then (builder_WriteString n ({addr := y22, buf := y23} : Builder) x63).bind fun x66 =>
  (cutS y21 ((w64 (x58 + 1)) : Int) (y21.size : Int)).bind fun x74 =>
  mark_Unescape_k3 (mark_Unescape_l2 n k28) x74 x66.2.addr x66.2.buf else
  mark_Unescape_k5 n y21 y22 y23 (mark_Unescape_l2 n k28)) else
  mark_Unescape_k5 n y21 y22 y23 (mark_Unescape_l2 n k28)) else
  mark_Unescape_k4 n y21 y22 y23 (mark_Unescape_l2 n k28)) else
  mark_Unescape_k1 y22 y23)
def mark_Unescape (n : Nat) (p0 : ByteArray) : Option ByteArray :=
  mark_Unescape_l2 n n p0 false ([] : List Int)
set_option maxRecDepth 20000 in
set_option maxHeartbeats 4000000 in
theorem mark_Unescape_ok (n : Nat) {f : Fz} {p0 : ByteArray} {res : ByteArray}  (hm : mark_Unescape n p0 = some res) : Gives Try.prog 16 [.string p0] f (.string res) := by
 unfold mark_Unescape at hm
 intro w0 L w hC
 refine enter Try.func16 rfl Try.ntmps16 (by simp) hC fun a hs => ?_
 have hle := Fz.le.refl f
 refine W_seq fun K1 hK1 => ?_
 refine W_region ?_
 refine sy (v := .string ((bs []))) hs (y_assign rfl) ?_; clear hs; (try clear a w); intro a w hs
 refine RL_nil ?_
 refine hK1 _ _ ?_; clear hK1
 refine W_seq fun K2 hK2 => ?_
 refine W_region ?_
 refine RL_alloc hs ti58 (.free rfl) (by decide) ?_; clear hs; (try clear a w); intro b1 a w hs
 replace hs : St _ _ _ (.blk b1 (.cells #[.pointer none, (.slice none 0 0)] 58 (0, 0)) :: L) _ _ _ := hs
 replace hs := hs.nilRow 5 1
 have hW4 : RW (tInt .u8) f [] ([] : List Int) := trivial
 generalize hgrw5 : ([] : List (List Value)) = rw5 at hs hW4; clear hgrw5
 replace hs : St _ _ _ (.row (.slice none 0 0) 5 1 rw5 :: .blk b1 (.cells #[.pointer none, (.slice none 0 0)] 58 (0, 0)) :: L) _ _ _ := hs
 replace hs : St _ _ _ (.row (.slice none 0 0) 5 1 rw5 :: .blk b1 (.cells #[baddr b1 false, (.slice none 0 0)] 58 (0, 0)) :: L) _ _ _ := hs
 refine RL_nil ?_
 refine hK2 _ _ ?_; clear hK2
 refine W_seq fun K3 hK3 => ?_
 have hbase16 := Fz.le.refl f
 refine W_post (fun a w => ∃ (f8 : Fz) (y10 : Bool) (y11 : (List Int)) (v12 : Value) (rw13 : List (List Value)), Fz.le f f8 ∧ mark_Unescape_k1 y10 y11 = some res ∧ RW (tInt .u8) f8 rw13 y11 ∧ St 37 w0 f8 (.row v12 5 1 rw13 :: .blk b1 (.cells #[baddr b1 y10, v12] 58 (0, 0)) :: L) [(3, .pointer (some ⟨b1, 0, none⟩))] a w) ?_ ?_
 ·clear hs hm
  clear hbase16
  rintro a w ⟨f8, y10, y11, v12, rw13, hl9, hm, hW14, hs⟩
  replace hW4 := hW4.le hl9
  replace hle := hle.trans hl9
  replace hs : St _ _ _ (.row v12 5 1 rw13 :: .blk b1 (.cells #[baddr b1 y10, v12] 58 (0, 0)) :: L) _ _ _ := hs
  unfold mark_Unescape_k1 at hm
  refine hK3 _ _ ?_; clear hK3
  refine W_seq fun K4 hK4 => ?_
  refine W_region ?_
  replace hs := hs.front 0
  replace hs := hs.front 1
  replace hs : St _ _ _ (.blk b1 (.cells #[baddr b1 y10, v12] 58 (0, 0)) :: .row v12 5 1 rw13 :: L) _ _ _ := hs
  refine RL_call (Lr := [.blk b1 (.cells #[baddr b1 y10, v12] 58 (0, 0)), .row v12 5 1 rw13]) (Lf := L) hs rfl has37 rfl rfl (builder_String_ok n (f := f8) (p0 := ({addr := y10, buf := y11} : Builder)) (pb := b1) (v := v12) (vr := rw13) hW14) (.free rfl) (by decide) ?_; clear hs; (try clear a w)
  rintro _ f17 _ a w hf18 ⟨rfl, rfl⟩ hs
  replace hW4 := hW4.le hf18
  replace hW14 := hW14.le hf18
  replace hle := hle.trans hf18
  replace hs : St _ _ _ (L) _ _ _ := hs
  refine sy (v := .string ((bytesOf y11))) hs (y_assign rfl) ?_; clear hs; (try clear a w); intro a w hs
  refine RL_nil ?_
  refine hK4 _ _ ?_; clear hK4
  refine W_ret ?_
  obtain rfl := Option.some.inj hm
  refine RtV1 hs rfl (rv_t hs rfl) ?_
  exact ⟨rfl, (hs.weak hle).cw⟩
 ·refine W_block fun Qe5 hB5 hO5 => ?_
  have hbase := Fz.le.refl f
  replace hs : St _ _ _ (.row (.slice none 0 0) 5 1 rw5 :: .blk b1 (.cells #[baddr b1 false, (.slice none 0 0)] 58 (0, 0)) :: L) _ _ _ := hs
  refine W_loop (fun (k : Nat) a w => ∃ (f19 : Fz) (y21 : ByteArray) (y22 : Bool) (y23 : (List Int)) (v24 : Value) (rw25 : List (List Value)), Fz.le f f19 ∧ mark_Unescape_l2 n k y21 y22 y23 = some res ∧ RW (tInt .u8) f19 rw25 y23 ∧ St 37 w0 f19 (.row v24 5 1 rw25 :: .blk b1 (.cells #[baddr b1 y22, v24] 58 (0, 0)) :: L) [(0, .string (y21)), (3, .pointer (some ⟨b1, 0, none⟩))] a w) (fun k => k) n ⟨_, p0, false, ([] : List Int), (.slice none 0 0), rw5, (Fz.le.refl _), hm, hW4, hs.sub ⟨rfl, rfl, trivial⟩⟩ ?_
  clear hs hm
  intro k
  rintro a w ⟨f19, y21, y22, y23, v24, rw25, hl20, hm, hW26, hs⟩
  replace hW4 := hW4.le hl20
  replace hle := hle.trans hl20
  replace hbase16 := hbase16.trans hl20
  replace hs : St _ _ _ (.row v24 5 1 rw25 :: .blk b1 (.cells #[baddr b1 y22, v24] 58 (0, 0)) :: L) _ _ _ := hs
  intro K6 hK6
  cases k with
  | zero => simp [mark_Unescape_l2] at hm
  | succ k28 =>
   rw [mark_Unescape_l2] at hm
   have hbase29 := hl20
   refine W_seq fun K7 hK7 => ?_
   refine W_seq fun K8 hK8 => ?_
   refine W_region ?_
   refine sy (v := .string (y21)) hs (y_move rfl) ?_; clear hs; (try clear a w); intro a w hs
   refine sy hs (y_sneq rfl rfl) ?_; clear hs; (try clear a w); intro a w hs
   refine RL_nil ?_
   refine hK8 _ _ ?_; clear hK8
   refine W_cond hs rfl (fun hg30 => ?_) (fun hg30 => ?_)
   ·replace hm := oc_t hg30 hm
    refine W_skip ?_
    refine hK7 _ _ ?_; clear hK7
    have hbase40 := Fz.le.refl f19
    refine W_post (fun a w => ∃ (f31 : Fz) (y33 : ByteArray) (y34 : Bool) (y35 : (List Int)) (v36 : Value) (rw37 : List (List Value)), Fz.le f19 f31 ∧ mark_Unescape_k3 (mark_Unescape_l2 n k28) y33 y34 y35 = some res ∧ RW (tInt .u8) f31 rw37 y35 ∧ St 37 w0 f31 (.row v36 5 1 rw37 :: .blk b1 (.cells #[baddr b1 y34, v36] 58 (0, 0)) :: L) [(0, .string (y33)), (3, .pointer (some ⟨b1, 0, none⟩))] a w) ?_ ?_
    ·clear hs hm
     clear hbase40
     rintro a w ⟨f31, y33, y34, y35, v36, rw37, hl32, hm, hW38, hs⟩
     replace hW4 := hW4.le hl32
     replace hW26 := hW26.le hl32
     replace hle := hle.trans hl32
     replace hbase16 := hbase16.trans hl32
     replace hbase29 := hbase29.trans hl32
     replace hs : St _ _ _ (.row v36 5 1 rw37 :: .blk b1 (.cells #[baddr b1 y34, v36] 58 (0, 0)) :: L) _ _ _ := hs
     unfold mark_Unescape_k3 at hm
     replace hs : St _ _ _ (.row v36 5 1 rw37 :: .blk b1 (.cells #[baddr b1 y34, v36] 58 (0, 0)) :: L) _ _ _ := hs
     exact hK6 k28 _ _ (Nat.lt_succ_self _) ⟨_, y33, y34, y35, v36, rw37, hbase29, hm, hW38, hs.sub ⟨rfl, rfl, trivial⟩⟩
    ·refine W_block fun Qe9 hB9 hO9 => ?_
     refine W_seq fun K10 hK10 => ?_
     refine W_seq fun K11 hK11 => ?_
     refine W_region ?_
     refine sy (v := .string (y21)) hs (y_move rfl) ?_; clear hs; (try clear a w); intro a w hs
     obtain ⟨x41, hx42, hm⟩ := ob hm
     refine sy hs (y_ixW rfl rfl Try.underlying9 hx42) ?_; clear hs; (try clear a w); intro a w hs
     refine sy hs (y_eql rfl rfl) ?_; clear hs; (try clear a w); intro a w hs
     refine RL_nil ?_
     refine hK11 _ _ ?_; clear hK11
     refine W_post (fun a w => mark_Unescape_k4 n y21 y22 y23 (mark_Unescape_l2 n k28) = some res ∧ St 37 w0 f19 (.row v24 5 1 rw25 :: .blk b1 (.cells #[baddr b1 y22, v24] 58 (0, 0)) :: L) [(0, .string (y21)), (3, .pointer (some ⟨b1, 0, none⟩))] a w) ?_ ?_
     ·clear hs hm
      rintro a w ⟨hm, hs⟩
      replace hs : St _ _ _ (.row v24 5 1 rw25 :: .blk b1 (.cells #[baddr b1 y22, v24] 58 (0, 0)) :: L) _ _ _ := hs
      unfold mark_Unescape_k4 at hm
      refine hK10 _ _ ?_; clear hK10
      refine W_seq fun K12 hK12 => ?_
      refine W_region ?_
      refine sy (v := .string (y21)) hs (y_move rfl) ?_; clear hs; (try clear a w); intro a w hs
      obtain ⟨x43, hx44, hm⟩ := ob hm
      refine sy hs (y_ixW rfl rfl Try.underlying9 hx44) ?_; clear hs; (try clear a w); intro a w hs
      obtain ⟨x45, hx46, hm⟩ := ob hm
      replace hs := hs.front 0
      replace hs := hs.front 1
      replace hs : St _ _ _ (.blk b1 (.cells #[baddr b1 y22, v24] 58 (0, 0)) :: .row v24 5 1 rw25 :: L) _ _ _ := hs
      refine RL_call (Lr := [.blk b1 (.cells #[baddr b1 y22, v24] 58 (0, 0)), .row v24 5 1 rw25]) (Lf := L) hs rfl has36 rfl rfl (builder_WriteByte_ok n (f := f19) (p0 := ({addr := y22, buf := y23} : Builder)) (pb := b1) (v := v24) (vr := rw25) hW26 hx46) (.free rfl) (by decide) ?_; clear hs; (try clear a w)
      rintro _ f47 _ a w hf48 ⟨v49, rw50, rfl, rfl, hW51⟩ hs
      replace hW4 := hW4.le hf48
      replace hW26 := hW26.le hf48
      replace hle := hle.trans hf48
      replace hbase16 := hbase16.trans hf48
      replace hbase29 := hbase29.trans hf48
      replace hbase40 := hbase40.trans hf48
      replace hs : St _ _ _ (.blk b1 (.cells #[baddr b1 x45.addr, v49] 58 (0, 0)) :: .row v49 5 1 rw50 :: L) _ _ _ := hs
      refine RL_nil ?_
      refine hK12 _ _ ?_; clear hK12
      refine W_region ?_
      refine sy (v := .string (y21)) hs (y_move rfl) ?_; clear hs; (try clear a w); intro a w hs
      obtain ⟨x53, hx54, hm⟩ := ob hm
      obtain ⟨⟨hlx53, hhx53, h1x53, h2x53⟩, hex53⟩ := cutS_some hx54
      refine sy hs (y_sliceS (lo := (1 : Int).toNat) (hi := (y21.size : Int).toNat) rfl Try.underlying9 (.inr ⟨_, rfl, by rw [← hlx53]; rfl⟩) (.inl ⟨rfl, by simp⟩) h1x53 h2x53) ?_; clear hs; (try clear a w); intro a w hs
      rw [hex53] at hs
      refine sy (v := .string (x53)) hs (y_assign rfl) ?_; clear hs; (try clear a w); intro a w hs
      refine RL_nil ?_
      replace hs : St _ _ _ (.blk b1 (.cells #[baddr b1 x45.addr, v49] 58 (0, 0)) :: .row v49 5 1 rw50 :: L) _ _ _ := hs
      replace hs := hs.front 1
      replace hs : St _ _ _ (.row v49 5 1 rw50 :: .blk b1 (.cells #[baddr b1 x45.addr, v49] 58 (0, 0)) :: L) _ _ _ := hs
      exact ⟨_, x53, x45.addr, x45.buf, v49, rw50, hbase40, hm, hW51, hs.sub ⟨rfl, rfl, trivial⟩⟩
     ·refine W_cond hs rfl (fun hg55 => ?_) (fun hg55 => ?_)
      ·replace hm := oc_t hg55 hm
       refine W_seq fun K13 hK13 => ?_
       refine W_region ?_
       refine sy (v := .string (y21)) hs (y_move rfl) ?_; clear hs; (try clear a w); intro a w hs
       refine sy (v := .string (y21)) hs (y_move rfl) ?_; clear hs; (try clear a w); intro a w hs
       refine sy hs (y_lenS rfl Try.underlying9) ?_; clear hs; (try clear a w); intro a w hs
       refine sy hs (y_min2 rfl rfl) ?_; clear hs; (try clear a w); intro a w hs
       obtain ⟨x56, hx57, hm⟩ := ob hm
       obtain ⟨⟨hlx56, hhx56, h1x56, h2x56⟩, hex56⟩ := cutS_some hx57
       refine sy hs (y_sliceS (lo := (0 : Int).toNat) (hi := (bif decide (12 < (y21.size : Int)) then 12 else (y21.size : Int)).toNat) rfl Try.underlying9 (.inl ⟨rfl, rfl⟩) (.inr ⟨_, rfl, by rw [← hhx56]; rfl⟩) h1x56 h2x56) ?_; clear hs; (try clear a w); intro a w hs
       rw [hex56] at hs
       obtain ⟨x58, hx59, hm⟩ := ob hm
       refine sy hs (y_call rfl has33 rfl (strings_IndexByte_ok n (f := f19)  hx59)) ?_; clear hs; (try clear a w); intro a w hs
       refine sy (v := .int .i64 (x58)) hs (y_assign rfl) ?_; clear hs; (try clear a w); intro a w hs
       refine RL_nil ?_
       refine hK13 _ _ ?_; clear hK13
       refine W_seq fun K14 hK14 => ?_
       refine W_region ?_
       refine sy (v := .int .i64 (x58)) hs (y_move rfl) ?_; clear hs; (try clear a w); intro a w hs
       refine sy hs (y_gtr rfl rfl) ?_; clear hs; (try clear a w); intro a w hs
       refine RL_nil ?_
       refine hK14 _ _ ?_; clear hK14
       refine W_post (fun a w => mark_Unescape_k5 n y21 y22 y23 (mark_Unescape_l2 n k28) = some res ∧ St 37 w0 f19 (.row v24 5 1 rw25 :: .blk b1 (.cells #[baddr b1 y22, v24] 58 (0, 0)) :: L) [(0, .string (y21)), (3, .pointer (some ⟨b1, 0, none⟩))] a w) ?_ ?_
       ·clear hs hm
        rintro a w ⟨hm, hs⟩
        replace hs : St _ _ _ (.row v24 5 1 rw25 :: .blk b1 (.cells #[baddr b1 y22, v24] 58 (0, 0)) :: L) _ _ _ := hs
        unfold mark_Unescape_k5 at hm
        replace hs : St _ _ _ (.row v24 5 1 rw25 :: .blk b1 (.cells #[baddr b1 y22, v24] 58 (0, 0)) :: L) _ _ _ := hs
        exact ⟨hm, hs.sub ⟨rfl, rfl, trivial⟩⟩
       ·refine W_cond hs rfl (fun hg60 => ?_) (fun hg60 => ?_)
        ·replace hm := oc_t hg60 hm
         refine W_seq fun K15 hK15 => ?_
         refine W_region ?_
         refine sy (v := .string (y21)) hs (y_move rfl) ?_; clear hs; (try clear a w); intro a w hs
         refine sy (v := .int .i64 (x58)) hs (y_move rfl) ?_; clear hs; (try clear a w); intro a w hs
         obtain ⟨x61, hx62, hm⟩ := ob hm
         obtain ⟨⟨hlx61, hhx61, h1x61, h2x61⟩, hex61⟩ := cutS_some hx62
         refine sy hs (y_sliceS (lo := (1 : Int).toNat) (hi := x58.toNat) rfl Try.underlying9 (.inr ⟨_, rfl, by rw [← hlx61]; rfl⟩) (.inr ⟨_, rfl, by rw [← hhx61]; rfl⟩) h1x61 h2x61) ?_; clear hs; (try clear a w); intro a w hs
         rw [hex61] at hs
         obtain ⟨x63, hx64, hm⟩ := ob hm
         refine sy hs (y_call rfl has34 rfl (mark_entity_ok n (f := f19)  hx64)) ?_; clear hs; (try clear a w); intro a w hs
         refine sy (v := .string (x63)) hs (y_assign rfl) ?_; clear hs; (try clear a w); intro a w hs
         refine RL_nil ?_
         refine hK15 _ _ ?_; clear hK15
         refine W_seq fun K16 hK16 => ?_
         refine W_region ?_
         refine sy (v := .string (x63)) hs (y_move rfl) ?_; clear hs; (try clear a w); intro a w hs
         refine sy hs (y_sneq rfl rfl) ?_; clear hs; (try clear a w); intro a w hs
         refine RL_nil ?_
         refine hK16 _ _ ?_; clear hK16
         refine W_cond hs rfl (fun hg65 => ?_) (fun hg65 => ?_)
         ·replace hm := oc_t hg65 hm
          refine W_seq fun K17 hK17 => ?_
          refine W_region ?_
          refine sy (v := .string (x63)) hs (y_move rfl) ?_; clear hs; (try clear a w); intro a w hs
          obtain ⟨x66, hx67, hm⟩ := ob hm
          replace hs := hs.front 0
          replace hs := hs.front 1
          replace hs : St _ _ _ (.blk b1 (.cells #[baddr b1 y22, v24] 58 (0, 0)) :: .row v24 5 1 rw25 :: L) _ _ _ := hs
          refine RL_call (Lr := [.blk b1 (.cells #[baddr b1 y22, v24] 58 (0, 0)), .row v24 5 1 rw25]) (Lf := L) hs rfl has35 rfl rfl (builder_WriteString_ok n (f := f19) (p0 := ({addr := y22, buf := y23} : Builder)) (pb := b1) (v := v24) (vr := rw25) hW26 hx67) (.free rfl) (by decide) ?_; clear hs; (try clear a w)
          rintro _ f68 _ a w hf69 ⟨v70, rw71, rfl, rfl, hW72⟩ hs
          replace hW4 := hW4.le hf69
          replace hW26 := hW26.le hf69
          replace hle := hle.trans hf69
          replace hbase16 := hbase16.trans hf69
          replace hbase29 := hbase29.trans hf69
          replace hbase40 := hbase40.trans hf69
          replace hs : St _ _ _ (.blk b1 (.cells #[baddr b1 x66.2.addr, v70] 58 (0, 0)) :: .row v70 5 1 rw71 :: L) _ _ _ := hs
          refine RL_nil ?_
          refine hK17 _ _ ?_; clear hK17
          refine W_seq fun K18 hK18 => ?_
          refine W_region ?_
          refine sy (v := .string (y21)) hs (y_move rfl) ?_; clear hs; (try clear a w); intro a w hs
          refine sy (v := .int .i64 (x58)) hs (y_move rfl) ?_; clear hs; (try clear a w); intro a w hs
          refine sy hs (y_add rfl rfl rfl) ?_; clear hs; (try clear a w); intro a w hs
          obtain ⟨x74, hx75, hm⟩ := ob hm
          obtain ⟨⟨hlx74, hhx74, h1x74, h2x74⟩, hex74⟩ := cutS_some hx75
          refine sy hs (y_sliceS (lo := ((w64 (x58 + 1)) : Int).toNat) (hi := (y21.size : Int).toNat) rfl Try.underlying9 (.inr ⟨_, rfl, by rw [← hlx74]; rfl⟩) (.inl ⟨rfl, by simp⟩) h1x74 h2x74) ?_; clear hs; (try clear a w); intro a w hs
          rw [hex74] at hs
          refine sy (v := .string (x74)) hs (y_assign rfl) ?_; clear hs; (try clear a w); intro a w hs
          refine RL_nil ?_
          refine hK18 _ _ ?_; clear hK18
          refine W_exit ?_
          refine hB9 _ _ ?_
          replace hs : St _ _ _ (.blk b1 (.cells #[baddr b1 x66.2.addr, v70] 58 (0, 0)) :: .row v70 5 1 rw71 :: L) _ _ _ := hs
          replace hs := hs.front 1
          replace hs : St _ _ _ (.row v70 5 1 rw71 :: .blk b1 (.cells #[baddr b1 x66.2.addr, v70] 58 (0, 0)) :: L) _ _ _ := hs
          exact ⟨_, x74, x66.2.addr, x66.2.buf, v70, rw71, hbase40, hm, hW72, hs.sub ⟨rfl, rfl, trivial⟩⟩
         ·replace hm := oc_f hg65 hm
          refine W_skip ?_
          replace hs : St _ _ _ (.row v24 5 1 rw25 :: .blk b1 (.cells #[baddr b1 y22, v24] 58 (0, 0)) :: L) _ _ _ := hs
          exact ⟨hm, hs.sub ⟨rfl, rfl, trivial⟩⟩
        ·replace hm := oc_f hg60 hm
         refine W_skip ?_
         replace hs : St _ _ _ (.row v24 5 1 rw25 :: .blk b1 (.cells #[baddr b1 y22, v24] 58 (0, 0)) :: L) _ _ _ := hs
         exact ⟨hm, hs.sub ⟨rfl, rfl, trivial⟩⟩
      ·replace hm := oc_f hg55 hm
       refine W_skip ?_
       replace hs : St _ _ _ (.row v24 5 1 rw25 :: .blk b1 (.cells #[baddr b1 y22, v24] 58 (0, 0)) :: L) _ _ _ := hs
       exact ⟨hm, hs.sub ⟨rfl, rfl, trivial⟩⟩
   ·replace hm := oc_f hg30 hm
    refine W_exit ?_
    refine hB5 _ _ ?_
    replace hs : St _ _ _ (.row v24 5 1 rw25 :: .blk b1 (.cells #[baddr b1 y22, v24] 58 (0, 0)) :: L) _ _ _ := hs
    exact ⟨_, y22, y23, v24, rw25, hbase16, hm, hW26, hs.sub ⟨rfl, trivial⟩⟩
end Go.Proofs.Ythmnohdlhlmmpaa
