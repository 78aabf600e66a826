/-
  Walks and laws of this seat.
-/
import Derived.Test.YtpfdbeafdjnbnaaGreatDoorBash
import Derived.Test.YtpfdbeafdjnbnaaGreatDoorL6c
import Derived.Test.YtpfdbeafdjnbnaaGreatDoorX0
import Derived.Test.YtpfdbeafdjnbnaaGreatDoorRows
namespace Go.Proofs.YtpfdbeafdjnbnaaGreatDoor
set_option linter.unusedVariables false
set_option linter.unusedSimpArgs false
set_option linter.unusedSectionVars false
set_option maxHeartbeats 4000000
set_option maxRecDepth 100000
open Go.RowKit Go.Sl
def zmq (n : Nat) (p0 : ByteArray) : Option ByteArray :=
  (bif (decide (p0 = (bs [97,109,112]))) then some (bs [38]) else
  (bif (decide (p0 = (bs [108,116]))) then some (bs [60]) else
  (bif (decide (p0 = (bs [103,116]))) then some (bs [62]) else
  (bif (decide (p0 = (bs [113,117,111,116]))) then some (bs [34]) else
  (bif (decide (p0 = (bs [97,112,111,115]))) then some (bs [39]) else
  (bif (decide (p0 = (bs [110,98,115,112]))) then some (bs [194,160]) else
  some (bs [])))))))
theorem zq1 (n : Nat) {f : Fz} {p0 : ByteArray} {res : ByteArray}  (hm : zmq n p0 = some res) : Gives Tryz.prog 105 [.string p0] f (.string res) := by
 unfold zmq at hm
 intro w0 L w hC
 refine enter Tryz.func105 rfl Tryz.ntmps105 (by simp) hC fun a hs => ?_
 have hle := Fz.le.refl f
 refine Wq fun hK1 => sA hs rfl fun hs => za0 <| hK1 <| Ws fun hK2 => Wq fun hK3 => sM hs rfl fun hs => za0 ?_
 refine hK3 <| zam fun Qe4 hB4 hO4 => Wq fun hK5 => s1 hs (zcs rfl rfl) fun hs => sA hs rfl fun hs => za0 <| hK5 ?_
 refine zah hs rfl (fun hg1 => ?_) (fun hg1 => ?_)
 ·replace hm := oc_t hg1 hm
  refine Wq fun hK6 => sA hs rfl fun hs => za0 <| hK6 <| zax ?_
  obtain rfl := Option.some.inj hm
  refine RtV1 hs rfl (rv_t hs rfl) ?_
  exact ⟨rfl,(hs.weak hle).cw⟩
 replace hm := oc_f hg1 hm
 refine Wq fun hK7 => s1 hs (zcs rfl rfl) fun hs => sA hs rfl fun hs => za0 <| hK7 ?_
 refine zah hs rfl (fun hg2 => ?_) (fun hg2 => ?_)
 ·replace hm := oc_t hg2 hm
  refine Wq fun hK8 => sA hs rfl fun hs => za0 <| hK8 <| zax ?_
  obtain rfl := Option.some.inj hm
  refine RtV1 hs rfl (rv_t hs rfl) ?_
  exact ⟨rfl,(hs.weak hle).cw⟩
 replace hm := oc_f hg2 hm
 refine Wq fun hK9 => s1 hs (zcs rfl rfl) fun hs => sA hs rfl fun hs => za0 <| hK9 ?_
 refine zah hs rfl (fun hg3 => ?_) (fun hg3 => ?_)
 ·replace hm := oc_t hg3 hm
  refine Wq fun hK10 => sA hs rfl fun hs => za0 <| hK10 <| zax ?_
  obtain rfl := Option.some.inj hm
  refine RtV1 hs rfl (rv_t hs rfl) ?_
  exact ⟨rfl,(hs.weak hle).cw⟩
 replace hm := oc_f hg3 hm
 refine Wq fun hK11 => s1 hs (zcs rfl rfl) fun hs => sA hs rfl fun hs => za0 <| hK11 ?_
 refine zah hs rfl (fun hg4 => ?_) (fun hg4 => ?_)
 ·replace hm := oc_t hg4 hm
  refine Wq fun hK12 => sA hs rfl fun hs => za0 <| hK12 <| zax ?_
  obtain rfl := Option.some.inj hm
  refine RtV1 hs rfl (rv_t hs rfl) ?_
  exact ⟨rfl,(hs.weak hle).cw⟩
 replace hm := oc_f hg4 hm
 refine Wq fun hK13 => s1 hs (zcs rfl rfl) fun hs => sA hs rfl fun hs => za0 <| hK13 ?_
 refine zah hs rfl (fun hg5 => ?_) (fun hg5 => ?_)
 ·replace hm := oc_t hg5 hm
  refine Wq fun hK14 => sA hs rfl fun hs => za0 <| hK14 <| zax ?_
  obtain rfl := Option.some.inj hm
  refine RtV1 hs rfl (rv_t hs rfl) ?_
  exact ⟨rfl,(hs.weak hle).cw⟩
 replace hm := oc_f hg5 hm
 refine Wq fun hK15 => s1 hs (zcs rfl rfl) fun hs => sA hs rfl fun hs => za0 <| hK15 ?_
 refine zah hs rfl (fun hg6 => ?_) (fun hg6 => ?_)
 ·replace hm := oc_t hg6 hm
  refine Wq fun hK16 => sA hs rfl fun hs => za0 <| hK16 <| zax ?_
  obtain rfl := Option.some.inj hm
  refine RtV1 hs rfl (rv_t hs rfl) ?_
  exact ⟨rfl,(hs.weak hle).cw⟩
 replace hm := oc_f hg6 hm
 refine zaj <| hK2 <| Wq fun hK17 => sA hs rfl fun hs => za0 <| hK17 <| zax ?_
 obtain rfl := Option.some.inj hm
 refine RtV1 hs rfl (rv_t hs rfl) ?_
 exact ⟨rfl,(hs.weak hle).cw⟩
def zif (y2 : Int) : Option ByteArray :=
  (bif ((decide (y2 = 0)) || ((decide (1114111 < y2)) || ((decide (55296 ≤ y2)) && (decide (y2 ≤ 57343))))) then none else
  some (Utf8.encode (IntKind.i32.wrap y2)))
def zfs (n : Nat) (p0 : ByteArray) (p1 : Int) : Nat → Int → Int → Option ByteArray
  | 0, _, _ => none
  | k9 + 1, y7, y8 =>
  (bif (decide (y8 < (p0.size : Int))) then (getS p0 y8).bind fun x11 =>
  (zhv n [(IntKind.i32.wrap x11)]).bind fun x18 =>
  (getS x18 0).bind fun x20 =>
  (ze8 n (bs [48,49,50,51,52,53,54,55,56,57,97,98,99,100,101,102]) x20).bind fun x22 =>
  (bif ((decide (x22 < 0)) || (decide (p1 ≤ x22))) then none else
  (zfs n p0 p1 k9) (w64 ((w64 (y7 * p1)) + x22)) (w64 (y8 + 1))) else
  zif y7)
def zk0 (n : Nat) (p0 : ByteArray) (p1 : Int) : Option ByteArray :=
  (bif ((decide (p0 = (bs []))) || (decide (8 < (p0.size : Int)))) then none else
  zfs n p0 p1 n 0 0)
theorem zn6 (n : Nat) {f : Fz} {p0 : ByteArray} {p1 : Int} {res : ByteArray}  (hm : zk0 n p0 p1 = some res) : Gives Tryz.prog 104 [.string p0, .int .i64 p1] f (.string res) := by
 unfold zk0 at hm
 intro w0 L w hC
 refine enter Tryz.func104 rfl Tryz.ntmps104 (by simp) hC fun a hs => ?_
 have hle := Fz.le.refl f
 refine Wq fun hK1 => sA hs rfl fun hs => za0 <| hK1 <| Ws fun hK2 => Ws fun hK3 => ?_
 refine zaq (fun a w => St 58 w0 f (L) [(0, .string (p0)),(1, .int .i64 (p1)),(14, .bool (((decide (p0 = (bs []))) || (decide (8 < (p0.size : Int))))))] a w) ?_ ?_
 ·clear hs; intro a w hs
  refine hK3 ?_
  refine zah hs rfl (fun hg1 => ?_) (fun hg1 => ?_)
  ·replace hm := oc_t hg1 hm
   refine Ws fun hK4 => ?_
   cases hm
  replace hm := oc_f hg1 hm
  refine zaj <| hK2 <| Wq fun hK5 => sA hs rfl fun hs => za0 <| hK5 <| Ws fun hK6 => Ws fun hK7 => za2 ?_
  refine sM hs rfl fun hs => s1 hs (zg2 rfl U9) fun hs => sM hs rfl fun hs => za0 <| hK7 ?_
  refine zaq (fun a w => ∃ (y2 : Int), zif y2 = some res ∧ St 58 w0 f (L) [(5, .int .i64 (y2))] a w) ?_ ?_
  ·clear hs hm
   rintro a w ⟨y2, hm, hs⟩
   unfold zif at hm
   refine hK6 <| Ws fun hK8 => Ws fun hK9 => ?_
   refine zaq (fun a w => St 58 w0 f (L) [(5, .int .i64 (y2)),(54, .bool (((decide (y2 = 0)) || ((decide (1114111 < y2)) || ((decide (55296 ≤ y2)) && (decide (y2 ≤ 57343)))))))] a w) ?_ ?_
   ·clear hs; intro a w hs
    refine hK9 ?_
    refine zah hs rfl (fun hg3 => ?_) (fun hg3 => ?_)
    ·replace hm := oc_t hg3 hm
     cases hm
    replace hm := oc_f hg3 hm
    refine zaj <| hK8 <| Wq fun hK10 => sM hs rfl fun hs => ?_
    refine s1 (v := .int .i32 ((IntKind.i32.wrap y2))) hs (zs0 rfl (by rw [Tryz.underlying2]; rfl) U21 rfl) fun hs => ?_
    refine s1 (v := .string ((Utf8.encode (IntKind.i32.wrap y2)))) hs (y_i2s rfl (by rw [U21]; rfl) U9) fun hs => ?_
    refine sA hs rfl fun hs => za0 <| hK10 <| zax ?_
    obtain rfl := Option.some.inj hm
    refine RtV1 hs rfl (rv_t hs rfl) ?_
    exact ⟨rfl,(hs.weak hle).cw⟩
   refine za2 <| sM hs rfl fun hs => s1 hs (zct rfl rfl) fun hs => sM hs rfl fun hs => ?_
   refine St.split hs (t := 43) rfl (fun hg4 hs => ?_) (fun hg4 hs => ?_)
   ·refine s3 hs fun hs => s3 hs fun hs => sP hs rfl rfl fun hs => sM hs rfl fun hs => s3 hs fun hs => s3 hs fun hs => s3 hs fun hs => s4 hs fun hs => s4 hs fun hs => s3 hs fun hs => ?_
    refine sP hs rfl rfl fun hs => za0 ?_
    exact hs.sub ⟨rfl,(lkB (((or_t hg4).trans rfl)) rfl), trivial⟩
   refine s2 (v := .int .i64 (y2)) hs (za3 rfl) fun hs => s2 hs (zhq rfl rfl) fun hs => sP hs rfl rfl fun hs => sM hs rfl fun hs => ?_
   refine St.split hs (t := 47) rfl (fun hg5 hs => ?_) (fun hg5 hs => ?_)
   ·refine s3 hs fun hs => s3 hs fun hs => s3 hs fun hs => s4 hs fun hs => s4 hs fun hs => s3 hs fun hs => sP hs rfl rfl fun hs => za0 ?_
    exact hs.sub ⟨rfl,(lkB (((or_f hg4).trans ((or_t hg5).trans rfl))) rfl), trivial⟩
   refine s2 (v := .int .i64 (y2)) hs (za3 rfl) fun hs => s2 hs (zkf rfl rfl) fun hs => s2 (v := .bool (decide (55296 ≤ y2))) hs (za3 rfl) fun hs => ?_
   refine St.split hs (t := 50) rfl (fun hg6 hs => ?_) (fun hg6 hs => ?_)
   ·refine s2 (v := .int .i64 (y2)) hs (za3 rfl) fun hs => s2 hs (zpj rfl rfl) fun hs => s2 (v := .bool (decide (y2 ≤ 57343))) hs (zaz rfl rfl) fun hs => sP hs rfl rfl fun hs => za0 ?_
    exact hs.sub ⟨rfl,(lkB (((or_f hg4).trans ((or_f hg5).trans ((zj0 hg6).trans rfl)))) rfl), trivial⟩
   refine s3 hs fun hs => s3 hs fun hs => s2 (v := .bool (false)) hs (zaz rfl rfl) fun hs => sP hs rfl rfl fun hs => za0 ?_
   exact hs.sub ⟨rfl,(lkB (((or_f hg4).trans ((or_f hg5).trans ((zmd hg6).trans rfl)))) rfl), trivial⟩
  refine zam fun Qe11 hB11 hO11 => zd1 (fun (k : Nat) a w => ∃ (y7 : Int) (y8 : Int), zfs n p0 p1 k y7 y8 = some res ∧ St 58 w0 f (L) [(0, .string (p0)),(1, .int .i64 (p1)),(5, .int .i64 (y7)),(16, .int .i64 ((p0.size : Int))),(17, .int .i64 (y8))] a w) (fun k => k) n ⟨0,0, hm, hs.sub ⟨rfl, rfl, rfl, rfl, rfl, trivial⟩⟩ ?_
  clear hs hm
  intro k
  rintro a w ⟨y7, y8, hm, hs⟩
  intro K12 hK12
  cases k with
  | zero => simp [zfs] at hm
  | succ k9 =>
   rw [zfs] at hm
   refine Wq fun hK13 => s1 hs (zgq rfl rfl) fun hs => za0 <| hK13 <| Ws fun hK14 => ?_
   refine zah hs rfl (fun hg10 => ?_) (fun hg10 => ?_)
   ·replace hm := oc_t hg10 hm
    refine zaj <| hK14 <| Ws fun hK15 => zam fun Qe16 hB16 hO16 => Wq fun hK17 => sM hs rfl fun hs => sA hs rfl fun hs => za0 <| hK17 ?_
    refine Wq fun hK18 => sM hs rfl fun hs => sM hs rfl fun hs => ?_
    obtain ⟨x11, hx12, hm⟩ := ob hm
    refine s1 hs (zoc rfl rfl U9 hx12) fun hs => ?_
    refine s1 (v := .int .i32 ((IntKind.i32.wrap x11))) hs (zs0 rfl (by rw [U5]; rfl) U21 rfl) fun hs => ?_
    refine zg1 hs rfl U24 ti21 rfl rfl fun v13 _ _ hs => ?_
    have hW14 : RW (tInt .i32) f [[.int .i32 ((IntKind.i32.wrap x11))]] [(IntKind.i32.wrap x11)] := RW.single (rfl)
    generalize hgrw15 : ([[.int .i32 ((IntKind.i32.wrap x11))]] : List (List Value)) = rw15 at hs hW14; clear hgrw15
    obtain ⟨x18, hx19, hm⟩ := ob hm
    refine sy hs (zdr (cap := []) rfl has86 rfl (fun w9 hw9 => callsP (Lr := [.row v13 21 1 rw15]) (Lf := L) (zal _ 0 rfl) hw9 (fun Lz w9 hw9 => lent0 hw9 (fun f9_0 w9 hle9_0 hRl0 hw9 => (zjz n ⟨rw15, hRl0, hW14.le hle9_0⟩ hx19) w0 _ w9 hw9)))) fun _ _ hs => ?_
    obtain ⟨x20, hx21, hm⟩ := ob hm
    refine s1 hs (zoc rfl rfl U9 hx21) fun hs => ?_
    obtain ⟨x22, hx23, hm⟩ := ob hm
    refine s1 hs (zbi rfl has83 rfl (zih n  hx23)) fun hs => sA hs rfl fun hs => za0 <| hK18 <| Ws fun hK19 => Ws fun hK20 => ?_
    refine zaq (fun a w => St 58 w0 f (.row v13 21 1 rw15 :: L) [(0, .string (p0)),(1, .int .i64 (p1)),(5, .int .i64 (y7)),(7, .int .i64 (x22)),(16, .int .i64 ((p0.size : Int))),(17, .int .i64 (y8)),(34, .bool (((decide (x22 < 0)) || (decide (p1 ≤ x22)))))] a w) ?_ ?_
    ·clear hs; intro a w hs
     refine hK20 ?_
     refine zah hs rfl (fun hg24 => ?_) (fun hg24 => ?_)
     ·replace hm := oc_t hg24 hm
      refine Ws fun hK21 => ?_
      cases hm
     replace hm := oc_f hg24 hm
     refine zaj <| hK19 <| za2 <| sM hs rfl fun hs => sM hs rfl fun hs => s1 hs (y_mul rfl rfl rfl) fun hs => sM hs rfl fun hs => s1 hs (zdz rfl rfl rfl) fun hs => sA hs rfl fun hs => za0 ?_
     refine hK15 <| za2 <| s1 hs (zdz rfl rfl rfl) fun hs => sM hs rfl fun hs => za0 ?_
     exact hK12 k9 _ _ (Nat.lt_succ_self _) ⟨(w64 ((w64 (y7 * p1)) + x22)),(w64 (y8 + 1)), hm, hs.subs ⟨rfl, rfl, rfl, rfl, rfl, trivial⟩ (.cons _ (.refl _))⟩
    refine za2 <| sM hs rfl fun hs => s1 hs (zgq rfl rfl) fun hs => sM hs rfl fun hs => ?_
    refine St.split hs (t := 30) rfl (fun hg25 hs => ?_) (fun hg25 hs => ?_)
    ·refine s3 hs fun hs => s3 hs fun hs => s3 hs fun hs => sP hs rfl rfl fun hs => za0 ?_
     exact hs.sub ⟨rfl, rfl, rfl, rfl, rfl, rfl,(lkB (((or_t hg25).trans rfl)) rfl), trivial⟩
    refine s2 (v := .int .i64 (x22)) hs (za3 rfl) fun hs => s2 (v := .int .i64 (p1)) hs (za3 rfl) fun hs => s2 hs (zkf rfl rfl) fun hs => sP hs rfl rfl fun hs => za0 ?_
    exact hs.sub ⟨rfl, rfl, rfl, rfl, rfl, rfl,(lkB (((or_f hg25).trans rfl)) rfl), trivial⟩
   replace hm := oc_f hg10 hm
   refine zc0 <| hB11 _ _ ?_
   exact ⟨y7, hm, hs.sub ⟨rfl, trivial⟩⟩
 refine za2 <| sM hs rfl fun hs => s1 hs (zcs rfl rfl) fun hs => sM hs rfl fun hs => ?_
 refine St.split hs (t := 10) rfl (fun hg26 hs => ?_) (fun hg26 hs => ?_)
 ·refine s3 hs fun hs => s3 hs fun hs => s3 hs fun hs => sP hs rfl rfl fun hs => za0 ?_
  exact hs.sub ⟨rfl, rfl,(lkB (((or_t hg26).trans rfl)) rfl), trivial⟩
 refine s2 (v := .string (p0)) hs (za3 rfl) fun hs => s2 hs (zg2 rfl U9) fun hs => s2 hs (zhq rfl rfl) fun hs => sP hs rfl rfl fun hs => za0 ?_
 exact hs.sub ⟨rfl, rfl,(lkB (((or_f hg26).trans rfl)) rfl), trivial⟩
def zc8 (y1 : Bool) : Option Bool :=
  some y1
def zdp (n : Nat) (p0 : ByteArray) (p1 : ByteArray) : Option Bool :=
  (bif (decide ((p1.size : Int) ≤ (p0.size : Int))) then (cutS p0 (0 : Int) (p1.size : Int)).bind fun x3 =>
  zc8 (decide (x3 = p1)) else
  zc8 false)
theorem zhk (n : Nat) {f : Fz} {p0 : ByteArray} {p1 : ByteArray} {res : Bool}  (hm : zdp n p0 p1 = some res) : Gives Tryz.prog 120 [.string p0, .string p1] f (.bool res) := by
 unfold zdp at hm
 intro w0 L w hC
 refine enter Tryz.func120 rfl Tryz.ntmps120 (by simp) hC fun a hs => ?_
 have hle := Fz.le.refl f
 refine Wq fun hK1 => sA hs rfl fun hs => za0 <| hK1 <| Ws fun hK2 => ?_
 refine zaq (fun a w => ∃ (y1 : Bool), zc8 y1 = some res ∧ St 18 w0 f (L) [(4, .bool (y1))] a w) ?_ ?_
 ·clear hs hm
  rintro a w ⟨y1, hm, hs⟩
  unfold zc8 at hm
  refine hK2 <| zax ?_
  obtain rfl := Option.some.inj hm
  refine RtV1 hs rfl (rv_t hs rfl) ?_
  exact ⟨rfl,(hs.weak hle).cw⟩
 refine za2 <| sM hs rfl fun hs => s1 hs (zg2 rfl U9) fun hs => sM hs rfl fun hs => s1 hs (zg2 rfl U9) fun hs => s1 hs (zkf rfl rfl) fun hs => sM hs rfl fun hs => ?_
 refine St.split hs (t := 10) rfl (fun hg2 hs => ?_) (fun hg2 hs => ?_)
 ·replace hm := oc_t hg2 hm
  refine s2 (v := .string (p0)) hs (za3 rfl) fun hs => s2 (v := .string (p1)) hs (za3 rfl) fun hs => s2 hs (zg2 rfl U9) fun hs => ?_
  obtain ⟨x3, hx4, hm⟩ := ob hm
  obtain ⟨⟨hlx3, hhx3, h1x3, h2x3⟩, hex3⟩ := zjs hx4
  refine s2 hs (zhb (lo := (0 : Int).toNat) (hi := (p1.size : Int).toNat) hex3 rfl U9 (.inl ⟨rfl, rfl⟩) (.inr ⟨_, rfl, by rw [← hhx3]; rfl⟩) h1x3 h2x3) fun hs => ?_
  refine s2 (v := .string (p1)) hs (za3 rfl) fun hs => s2 hs (zcs rfl rfl) fun hs => sP hs rfl rfl fun hs => sA hs rfl fun hs => za0 ?_
  exact ⟨decide (x3 = p1), hm, hs.sub ⟨rfl, trivial⟩⟩
 replace hm := oc_f hg2 hm
 refine s3 hs fun hs => s3 hs fun hs => s3 hs fun hs => s3 hs fun hs => s3 hs fun hs => s3 hs fun hs => sP hs rfl rfl fun hs => sA hs rfl fun hs => za0 ?_
 exact ⟨false, hm, hs.sub ⟨rfl, trivial⟩⟩
def zf5 (n : Nat) (p0 : ByteArray) (p1 : ByteArray) : Option Bool :=
  (zdp n p0 p1).bind fun x1 =>
  some x1
theorem zgt (n : Nat) {f : Fz} {p0 : ByteArray} {p1 : ByteArray} {res : Bool}  (hm : zf5 n p0 p1 = some res) : Gives Tryz.prog 103 [.string p0, .string p1] f (.bool res) := by
 unfold zf5 at hm
 intro w0 L w hC
 refine enter Tryz.func103 rfl Tryz.ntmps103 (by simp) hC fun a hs => ?_
 have hle := Fz.le.refl f
 refine Wq fun hK1 => sA hs rfl fun hs => za0 <| hK1 <| Wq fun hK2 => sM hs rfl fun hs => sM hs rfl fun hs => ?_
 obtain ⟨x1, hx2, hm⟩ := ob hm
 refine s1 hs (zbi rfl has120 rfl (zhk n  hx2)) fun hs => sA hs rfl fun hs => za0 <| hK2 <| zax ?_
 obtain rfl := Option.some.inj hm
 refine RtV1 hs rfl (rv_t hs rfl) ?_
 exact ⟨rfl,(hs.weak hle).cw⟩
def zi2 (n : Nat) (p0 : ByteArray) (y1 : Bool) : Option ByteArray :=
  (bif y1 then none else
  (zf5 n p0 (bs [35])).bind fun x3 =>
  (bif x3 then (cutS p0 (1 : Int) (p0.size : Int)).bind fun x6 =>
  (zk0 n x6 10).bind fun x8 =>
  some x8 else
  (zmq n p0).bind fun x10 =>
  some x10))
def zex (n : Nat) (p0 : ByteArray) : Option ByteArray :=
  (zf5 n p0 (bs [35,120])).bind fun x12 =>
  (bif x12 then zi2 n p0 true else
  (zf5 n p0 (bs [35,88])).bind fun x15 =>
  zi2 n p0 x15)
theorem zok (n : Nat) {f : Fz} {p0 : ByteArray} {res : ByteArray}  (hm : zex n p0 = some res) : Gives Tryz.prog 84 [.string p0] f (.string res) := by
 unfold zex at hm
 intro w0 L w hC
 refine enter Tryz.func84 rfl Tryz.ntmps84 (by simp) hC fun a hs => ?_
 have hle := Fz.le.refl f
 refine Wq fun hK1 => sA hs rfl fun hs => za0 <| hK1 <| Ws fun hK2 => zam fun Qe3 hB3 hO3 => Ws fun hK4 => ?_
 refine zaq (fun a w => ∃ (y1 : Bool), zi2 n p0 y1 = some res ∧ St 21 w0 f (L) [(0, .string (p0)),(3, .bool (y1))] a w) ?_ ?_
 ·clear hs hm
  rintro a w ⟨y1, hm, hs⟩
  unfold zi2 at hm
  refine hK4 ?_
  refine zah hs rfl (fun hg2 => ?_) (fun hg2 => ?_)
  ·replace hm := oc_t hg2 hm
   refine Ws fun hK5 => ?_
   cases hm
  replace hm := oc_f hg2 hm
  refine Wq fun hK6 => sM hs rfl fun hs => ?_
  obtain ⟨x3, hx4, hm⟩ := ob hm
  refine s1 hs (zbi rfl has103 rfl (zgt n  hx4)) fun hs => sA hs rfl fun hs => za0 <| hK6 ?_
  refine zah hs rfl (fun hg5 => ?_) (fun hg5 => ?_)
  ·replace hm := oc_t hg5 hm
   refine Wq fun hK7 => sM hs rfl fun hs => ?_
   obtain ⟨x6, hx7, hm⟩ := ob hm
   obtain ⟨⟨hlx6, hhx6, h1x6, h2x6⟩, hex6⟩ := zjs hx7
   refine s1 hs (zkw (lo := (1 : Int).toNat) (hi := (p0.size : Int).toNat) rfl U9 (.inr ⟨_, rfl, by rw [← hlx6]; rfl⟩) (.inl ⟨rfl, by simp⟩) h1x6 h2x6) fun hs => ?_
   rw [hex6] at hs
   obtain ⟨x8, hx9, hm⟩ := ob hm
   refine s1 hs (zbi rfl has104 rfl (zn6 n  hx9)) fun hs => sA hs rfl fun hs => za0 <| hK7 <| zax ?_
   obtain rfl := Option.some.inj hm
   refine RtV1 hs rfl (rv_t hs rfl) ?_
   exact ⟨rfl,(hs.weak hle).cw⟩
  replace hm := oc_f hg5 hm
  refine zaj <| hK2 <| Wq fun hK8 => sM hs rfl fun hs => ?_
  obtain ⟨x10, hx11, hm⟩ := ob hm
  refine s1 hs (zbi rfl has105 rfl (zq1 n  hx11)) fun hs => sA hs rfl fun hs => za0 <| hK8 <| zax ?_
  obtain rfl := Option.some.inj hm
  refine RtV1 hs rfl (rv_t hs rfl) ?_
  exact ⟨rfl,(hs.weak hle).cw⟩
 refine za2 <| sM hs rfl fun hs => ?_
 obtain ⟨x12, hx13, hm⟩ := ob hm
 refine s1 hs (zbi rfl has103 rfl (zgt n  hx13)) fun hs => sM hs rfl fun hs => ?_
 refine St.split hs (t := 6) rfl (fun hg14 hs => ?_) (fun hg14 hs => ?_)
 ·replace hm := oc_t hg14 hm
  refine s3 hs fun hs => s3 hs fun hs => sP hs rfl rfl fun hs => sA hs rfl fun hs => za0 ?_
  exact ⟨true, hm, hs.sub ⟨rfl, rfl, trivial⟩⟩
 replace hm := oc_f hg14 hm
 refine s2 (v := .string (p0)) hs (za3 rfl) fun hs => ?_
 obtain ⟨x15, hx16, hm⟩ := ob hm
 refine s2 hs (zbi rfl has103 rfl (zgt n  hx16)) fun hs => sP hs rfl rfl fun hs => sA hs rfl fun hs => za0 ?_
 exact ⟨x15, hm, hs.sub ⟨rfl, rfl, trivial⟩⟩
def zh2 (y10 : Bool) (y11 : (List Int)) : Option ByteArray :=
  some (bytesOf y11)
def zen (lp28 : ByteArray → Bool → (List Int) → Option ByteArray) (y33 : ByteArray) (y34 : Bool) (y35 : (List Int)) : Option ByteArray :=
  lp28 y33 y34 y35
def zft (n : Nat) (y21 : ByteArray) (y22 : Bool) (y23 : (List Int)) (lp28 : ByteArray → Bool → (List Int) → Option ByteArray) : Option ByteArray :=
  (getS y21 0).bind fun x43 =>
  (zfa n ({addr := y22, buf := y23} : Builder) x43).bind fun x45 =>
  (cutS y21 (1 : Int) (y21.size : Int)).bind fun x53 =>
  zen lp28 x53 x45.addr x45.buf
def zh1 (n : Nat) (y21 : ByteArray) (y22 : Bool) (y23 : (List Int)) (lp28 : ByteArray → Bool → (List Int) → Option ByteArray) : Option ByteArray :=
  zft n y21 y22 y23 lp28
def zav (n : Nat) : Nat → ByteArray → Bool → (List Int) → Option ByteArray
  | 0, _, _, _ => none
  | k28 + 1, y21, y22, y23 =>
  (bif (decide (y21 ≠ (bs []))) then (getS y21 0).bind fun x41 =>
  (bif (decide (x41 = 38)) then (cutS y21 (0 : Int) (bif decide (12 < (y21.size : Int)) then 12 else (y21.size : Int))).bind fun x56 =>
  (ze8 n x56 59).bind fun x58 =>
  (bif (decide (0 < x58)) then (cutS y21 (1 : Int) x58).bind fun x61 =>
  (zex n x61).bind fun x63 =>
  (bif (decide (x63 ≠ (bs []))) then (zb4 n ({addr := y22, buf := y23} : Builder) x63).bind fun x66 =>
  (cutS y21 ((w64 (x58 + 1)) : Int) (y21.size : Int)).bind fun x74 =>
  zen (zav n k28) x74 x66.2.addr x66.2.buf else
  zh1 n y21 y22 y23 (zav n k28)) else
  zh1 n y21 y22 y23 (zav n k28)) else
  zft n y21 y22 y23 (zav n k28)) else
  zh2 y22 y23)
def zdl (n : Nat) (p0 : ByteArray) : Option ByteArray :=
  zav n n p0 false ([] : List Int)
theorem zkb (n : Nat) {f : Fz} {p0 : ByteArray} {res : ByteArray}  (hm : zdl n p0 = some res) : Gives Tryz.prog 56 [.string p0] f (.string res) := by
 unfold zdl at hm
 intro w0 L w hC
 refine enter Tryz.func56 rfl Tryz.ntmps56 (by simp) hC fun a hs => ?_
 have hle := Fz.le.refl f
 refine Wq fun hK1 => sA hs rfl fun hs => za0 <| hK1 <| Wq fun hK2 => zbl hs ti59 (.free rfl) (by decide) fun b1 _ _ hs => ?_
 replace hs := hs.nilRow 5 1
 have hW4 : RW (tInt .u8) f [] ([] : List Int) := trivial
 generalize hgrw5 : ([] : List (List Value)) = rw5 at hs hW4; clear hgrw5
 refine za0 <| hK2 <| Ws fun hK3 => ?_
 have hbase16 := Fz.le.refl f
 refine zaq (fun a w => ∃ (f8 : Fz) (y10 : Bool) (y11 : (List Int)) (v12 : Value) (rw13 : List (List Value)), Fz.le f f8 ∧ zh2 y10 y11 = some res ∧ RW (tInt .u8) f8 rw13 y11 ∧ St 37 w0 f8 (.row v12 5 1 rw13 :: .blk b1 (.cells #[baddr b1 y10, v12] 59 (0,0)) :: L) [(3, pq b1 0)] a w) ?_ ?_
 ·clear hs hm
  clear hbase16
  rintro a w ⟨f8, y10, y11, v12, rw13, hl9, hm, hW14, hs⟩
  replace hle := hle.trans hl9
  unfold zh2 at hm
  refine hK3 <| Ws fun hK4 => za2 ?_
  replace hs := hs.front 0
  replace hs := hs.front 1
  refine zbb (Lr := [.blk b1 (.cells #[baddr b1 y10, v12] 59 (0,0)), .row v12 5 1 rw13]) (Lf := L) hs rfl has28 rfl rfl (zjt n (f := f8) (p0 := ({addr := y10, buf := y11} : Builder)) (pb := b1) (v := v12) (vr := rw13) hW14) (.free rfl) (by decide) ?_; clear hs; (try clear a w)
  rintro _ f17 _ a w hf18 ⟨rfl, rfl⟩ hs
  replace hle := hle.trans hf18
  refine sA hs rfl fun hs => za0 <| hK4 <| zax ?_
  obtain rfl := Option.some.inj hm
  refine RtV1 hs rfl (rv_t hs rfl) ?_
  exact ⟨rfl,(hs.weak hle).cw⟩
 refine zam fun Qe5 hB5 hO5 => ?_
 have hbase := Fz.le.refl f
 refine zd1 (fun (k : Nat) a w => ∃ (f19 : Fz) (y21 : ByteArray) (y22 : Bool) (y23 : (List Int)) (v24 : Value) (rw25 : List (List Value)), Fz.le f f19 ∧ zav n k y21 y22 y23 = some res ∧ RW (tInt .u8) f19 rw25 y23 ∧ St 37 w0 f19 (.row v24 5 1 rw25 :: .blk b1 (.cells #[baddr b1 y22, v24] 59 (0,0)) :: L) [(0, .string (y21)),(3, pq b1 0)] a w) (fun k => k) n ⟨_, p0, false,([] : List Int),(.slice none 0 0), rw5,(Fz.le.refl _), hm, hW4, hs.sub ⟨rfl, rfl, trivial⟩⟩ ?_
 clear hs hm
 intro k
 rintro a w ⟨f19, y21, y22, y23, v24, rw25, hl20, hm, hW26, hs⟩
 replace hbase16 := hbase16.trans hl20
 intro K6 hK6
 cases k with
 | zero => simp [zav] at hm
 | succ k28 =>
  rw [zav] at hm
  have hbase29 := hl20
  refine Ws fun hK7 => Wq fun hK8 => sM hs rfl fun hs => s1 hs (zhr rfl rfl) fun hs => za0 <| hK8 ?_
  refine zah hs rfl (fun hg30 => ?_) (fun hg30 => ?_)
  ·replace hm := oc_t hg30 hm
   refine zaj <| hK7 ?_
   have hbase40 := Fz.le.refl f19
   refine zaq (fun a w => ∃ (f31 : Fz) (y33 : ByteArray) (y34 : Bool) (y35 : (List Int)) (v36 : Value) (rw37 : List (List Value)), Fz.le f19 f31 ∧ zen (zav n k28) y33 y34 y35 = some res ∧ RW (tInt .u8) f31 rw37 y35 ∧ St 37 w0 f31 (.row v36 5 1 rw37 :: .blk b1 (.cells #[baddr b1 y34, v36] 59 (0,0)) :: L) [(0, .string (y33)),(3, pq b1 0)] a w) ?_ ?_
   ·clear hs hm
    clear hbase40
    rintro a w ⟨f31, y33, y34, y35, v36, rw37, hl32, hm, hW38, hs⟩
    replace hbase29 := hbase29.trans hl32
    unfold zen at hm
    exact hK6 k28 _ _ (Nat.lt_succ_self _) ⟨_, y33, y34, y35, v36, rw37, hbase29, hm, hW38, hs.sub ⟨rfl, rfl, trivial⟩⟩
   refine zam fun Qe9 hB9 hO9 => Ws fun hK10 => Wq fun hK11 => sM hs rfl fun hs => ?_
   obtain ⟨x41, hx42, hm⟩ := ob hm
   refine s1 hs (zoc rfl rfl U9 hx42) fun hs => s1 hs (zct rfl rfl) fun hs => za0 <| hK11 ?_
   refine zaq (fun a w => zft n y21 y22 y23 (zav n k28) = some res ∧ St 37 w0 f19 (.row v24 5 1 rw25 :: .blk b1 (.cells #[baddr b1 y22, v24] 59 (0,0)) :: L) [(0, .string (y21)),(3, pq b1 0)] a w) ?_ ?_
   ·clear hs hm
    rintro a w ⟨hm, hs⟩
    unfold zft at hm
    refine hK10 <| Wq fun hK12 => sM hs rfl fun hs => ?_
    obtain ⟨x43, hx44, hm⟩ := ob hm
    refine s1 hs (zoc rfl rfl U9 hx44) fun hs => ?_
    obtain ⟨x45, hx46, hm⟩ := ob hm
    replace hs := hs.front 0
    replace hs := hs.front 1
    refine zbb (Lr := [.blk b1 (.cells #[baddr b1 y22, v24] 59 (0,0)), .row v24 5 1 rw25]) (Lf := L) hs rfl has85 rfl rfl (zl8 n hW26 hx46) (.free rfl) (by decide) ?_; clear hs; (try clear a w)
    rintro _ f47 _ a w hf48 ⟨v49, rw50, rfl, rfl, hW51⟩ hs
    replace hbase40 := hbase40.trans hf48
    refine za0 <| hK12 <| za2 <| sM hs rfl fun hs => ?_
    obtain ⟨x53, hx54, hm⟩ := ob hm
    obtain ⟨⟨hlx53, hhx53, h1x53, h2x53⟩, hex53⟩ := zjs hx54
    refine s1 hs (zkw (lo := (1 : Int).toNat) (hi := (y21.size : Int).toNat) rfl U9 (.inr ⟨_, rfl, by rw [← hlx53]; rfl⟩) (.inl ⟨rfl, by simp⟩) h1x53 h2x53) fun hs => ?_
    rw [hex53] at hs
    refine sA hs rfl fun hs => za0 ?_
    replace hs := hs.front 1
    exact ⟨_, x53, x45.addr, x45.buf, v49, rw50, hbase40, hm, hW51, hs.sub ⟨rfl, rfl, trivial⟩⟩
   refine zah hs rfl (fun hg55 => ?_) (fun hg55 => ?_)
   ·replace hm := oc_t hg55 hm
    refine Wq fun hK13 => sM hs rfl fun hs => sM hs rfl fun hs => s1 hs (zg2 rfl U9) fun hs => s1 hs (y_min2 rfl rfl) fun hs => ?_
    obtain ⟨x56, hx57, hm⟩ := ob hm
    obtain ⟨⟨hlx56, hhx56, h1x56, h2x56⟩, hex56⟩ := zjs hx57
    refine s1 hs (zkw (lo := (0 : Int).toNat) (hi := (bif decide (12 < (y21.size : Int)) then 12 else (y21.size : Int)).toNat) rfl U9 (.inl ⟨rfl, rfl⟩) (.inr ⟨_, rfl, by rw [← hhx56]; rfl⟩) h1x56 h2x56) fun hs => ?_
    rw [hex56] at hs
    obtain ⟨x58, hx59, hm⟩ := ob hm
    refine s1 hs (zbi rfl has83 rfl (zih n  hx59)) fun hs => sA hs rfl fun hs => za0 <| hK13 <| Wq fun hK14 => sM hs rfl fun hs => s1 hs (zhq rfl rfl) fun hs => za0 <| hK14 ?_
    refine zaq (fun a w => zh1 n y21 y22 y23 (zav n k28) = some res ∧ St 37 w0 f19 (.row v24 5 1 rw25 :: .blk b1 (.cells #[baddr b1 y22, v24] 59 (0,0)) :: L) [(0, .string (y21)),(3, pq b1 0)] a w) ?_ ?_
    ·clear hs hm
     rintro a w ⟨hm, hs⟩
     unfold zh1 at hm
     exact ⟨hm, hs.sub ⟨rfl, rfl, trivial⟩⟩
    refine zah hs rfl (fun hg60 => ?_) (fun hg60 => ?_)
    ·replace hm := oc_t hg60 hm
     refine Wq fun hK15 => sM hs rfl fun hs => sM hs rfl fun hs => ?_
     obtain ⟨x61, hx62, hm⟩ := ob hm
     obtain ⟨⟨hlx61, hhx61, h1x61, h2x61⟩, hex61⟩ := zjs hx62
     refine s1 hs (zkw (lo := (1 : Int).toNat) (hi := x58.toNat) rfl U9 (.inr ⟨_, rfl, by rw [← hlx61]; rfl⟩) (.inr ⟨_, rfl, by rw [← hhx61]; rfl⟩) h1x61 h2x61) fun hs => ?_
     rw [hex61] at hs
     obtain ⟨x63, hx64, hm⟩ := ob hm
     refine s1 hs (zbi rfl has84 rfl (zok n  hx64)) fun hs => sA hs rfl fun hs => za0 <| hK15 <| Wq fun hK16 => sM hs rfl fun hs => s1 hs (zhr rfl rfl) fun hs => za0 <| hK16 ?_
     refine zah hs rfl (fun hg65 => ?_) (fun hg65 => ?_)
     ·replace hm := oc_t hg65 hm
      refine Wq fun hK17 => sM hs rfl fun hs => ?_
      obtain ⟨x66, hx67, hm⟩ := ob hm
      replace hs := hs.front 0
      replace hs := hs.front 1
      refine zbb (Lr := [.blk b1 (.cells #[baddr b1 y22, v24] 59 (0,0)), .row v24 5 1 rw25]) (Lf := L) hs rfl has27 rfl rfl (zc6 n hW26 hx67) (.free rfl) (by decide) ?_; clear hs; (try clear a w)
      rintro _ f68 _ a w hf69 ⟨v70, rw71, rfl, rfl, hW72⟩ hs
      replace hbase40 := hbase40.trans hf69
      refine za0 <| hK17 <| Wq fun hK18 => sM hs rfl fun hs => sM hs rfl fun hs => s1 hs (zdz rfl rfl rfl) fun hs => ?_
      obtain ⟨x74, hx75, hm⟩ := ob hm
      obtain ⟨⟨hlx74, hhx74, h1x74, h2x74⟩, hex74⟩ := zjs hx75
      refine s1 hs (zkw (lo := ((w64 (x58 + 1)) : Int).toNat) (hi := (y21.size : Int).toNat) rfl U9 (.inr ⟨_, rfl, by rw [← hlx74]; rfl⟩) (.inl ⟨rfl, by simp⟩) h1x74 h2x74) fun hs => ?_
      rw [hex74] at hs
      refine sA hs rfl fun hs => za0 <| hK18 <| zc0 <| hB9 _ _ ?_
      replace hs := hs.front 1
      exact ⟨_, x74, x66.2.addr, x66.2.buf, v70, rw71, hbase40, hm, hW72, hs.sub ⟨rfl, rfl, trivial⟩⟩
     replace hm := oc_f hg65 hm
     refine zaj ?_
     exact ⟨hm, hs.sub ⟨rfl, rfl, trivial⟩⟩
    replace hm := oc_f hg60 hm
    refine zaj ?_
    exact ⟨hm, hs.sub ⟨rfl, rfl, trivial⟩⟩
   replace hm := oc_f hg55 hm
   refine zaj ?_
   exact ⟨hm, hs.sub ⟨rfl, rfl, trivial⟩⟩
  replace hm := oc_f hg30 hm
  refine zc0 <| hB5 _ _ ?_
  exact ⟨_, y22, y23, v24, rw25, hbase16, hm, hW26, hs.sub ⟨rfl, trivial⟩⟩
end Go.Proofs.YtpfdbeafdjnbnaaGreatDoor
