/-
  Walks and laws of this seat.
-/
import Derived.Test.YtpfdbeafdjnbnaaGreatDoorBash
import Derived.Test.YtpfdbeafdjnbnaaGreatDoorX0
import Derived.Test.YtpfdbeafdjnbnaaGreatDoorRows
namespace Go.Proofs.YtpfdbeafdjnbnaaGreatDoor
set_option linter.unusedVariables false
set_option linter.unusedSimpArgs false
set_option linter.unusedSectionVars false
set_option maxHeartbeats 4000000
set_option maxRecDepth 100000
open Go.RowKit Go.Sl
def zhe (n : Nat) (p0 : (List Int)) : Option zaf :=
  (appM 4 ([] : List Int) p0).bind fun x10 =>
  some ({l := x10, at_ := 0} : zaf)
theorem zm0 (n : Nat) {f : Fz} {p0 : (List Int)} {a0 : Value} {res : zaf} (h0 : RS (tInt .i32) f a0 p0) (hm : zhe n p0 = some res) : Does Tryz.prog 47 [a0] f [] (fun r f' L' => ∃ (u0 : Nat) (u0_0 : Value) (u0_0r : List (List Value)), L' = [.blk u0 (.cells #[u0_0, .int .i64 res.at_] 144 (0,0)), .row u0_0 21 1 u0_0r] ∧ r = pq u0 0 ∧ RW (tInt .i32) f' u0_0r res.l) := by
 unfold zhe at hm
 intro w0 L w hC
 obtain ⟨rw1, hR2, hW3⟩ := h0
 refine enter Tryz.func47 rfl Tryz.ntmps47 (by simp) hC fun a hs => ?_
 have hle := Fz.le.refl f
 refine Wq fun hK1 => sA hs rfl fun hs => za0 <| hK1 <| Wq fun hK2 => sM hs rfl fun hs => ?_
 replace hs := hs.nilRow 21 1
 have hW6 : RW (tInt .i32) f [] ([] : List Int) := trivial
 generalize hgrw7 : ([] : List (List Value)) = rw7 at hs hW6; clear hgrw7
 obtain ⟨x10, hx11, hm⟩ := ob hm
 obtain ⟨hbx10, hex10⟩ := zcb hx11
 have hW14 := hW6.append hW3; rw [hex10] at hW14
 refine zc9 (i := 0) hs rfl rfl rfl hR2.up U24 ti21 (by decide) (by rw [RW.len hW6, RW.len hW3]; exact hbx10) (.free rfl) (by decide) fun v12 _ _ hs => ?_
 generalize hgx10 : rw7 ++ rw1 = rw13 at hs hW14; clear hgx10
 refine s1 hs (ze4 (places := [(0,1),(1,1)]) (cs := [v12, .int .i64 (0)]) rfl U144 ti144 (by kernel_rfl) (by decide) rfl ⟨(hs.one (i := 0) rfl), trivial⟩) fun hs => sbox hs rfl fun b17 _ _ hs => sA hs rfl fun hs => za0 <| hK2 <| zax ?_
 obtain rfl := Option.some.inj hm
 refine RtV1 hs rfl (rv_t hs rfl) ?_
 exact ⟨_, f,[.blk b17 (.cells #[v12, .int .i64 (0)] 144 (0,0)), .row v12 21 1 rw13], rfl, hle, hs.cw, b17, v12, rw13, rfl, rfl, hW14⟩
def zb8 (n : Nat) (p0 : zaf) : Option Int :=
  some (w64 ((p0.l.length : Int) - p0.at_))
theorem zel (n : Nat) {f : Fz} {p0 : zaf} {pb0 : Nat} {pv0_0 : Value} {pv0_0r : List (List Value)} {res : Int} (pv0_0h : RW (tInt .i32) f pv0_0r p0.l) (hm : zb8 n p0 = some res) : GivesL Tryz.prog 48 [pq pb0 0] f [.blk pb0 (.cells #[pv0_0, .int .i64 p0.at_] 144 (0,0)), .row pv0_0 21 1 pv0_0r] (.int .i64 res) := by
 unfold zb8 at hm
 intro w0 L w hC
 replace hC : Cw w0 f (.blk pb0 (.cells #[pv0_0, .int .i64 p0.at_] 144 (0,0)) :: .row pv0_0 21 1 pv0_0r :: L) w := hC
 refine enter Tryz.func48 rfl Tryz.ntmps48 (by simp) hC fun a hs => ?_
 have hle := Fz.le.refl f
 refine Wq fun hK1 => sA hs rfl fun hs => za0 <| hK1 <| Ws fun hK2 => ?_
 refine zju hs mixed (by kernel_rfl) ?_; intro a he
 refine qy (v := pq pb0 0) he (za3 rfl) fun _ he => qy he (za5 rfl) fun _ he => qy (v := pq pb0 0) he (za1 rfl (FO.of (off := 0) U144 rfl rfl ti24 (by decide))) fun _ he => qy (v := pv0_0) he (y_ld rfl U24 rfl (Cell.blk (.head _) rfl)) fun _ he => qy he (zc3 (Rd.st hs (.tail _ (.head _))) pv0_0h rfl U24) fun _ he => qy (v := pq pb0 0) he (za3 rfl) fun _ he => qy he (za5 rfl) fun _ he => qy (v := pq pb0 1) he (za1 rfl (FO.of (off := 1) U144 rfl rfl ti3 (by decide))) fun _ he => qy (v := .int .i64 (p0.at_)) he (y_ld rfl U3 rfl (Cell.blk (.head _) rfl)) fun _ he => qy he (zn2 rfl rfl rfl) fun _ he => ?_
 refine qy (v := .int .i64 ((w64 ((p0.l.length : Int) - p0.at_)))) he (za9 rfl) fun _ he => ?_
 refine zfw he ?_; clear he; (try clear hs); (try clear a); intro a w hs
 refine hK2 <| zax ?_
 obtain rfl := Option.some.inj hm
 refine RtV1 hs rfl (rv_t hs rfl) ?_
 exact ⟨rfl,(hs.weak hle).cw⟩
def zcg (p0 : zaf) (p1 : Int) (y4 : Bool) : Option (Int × Bool) :=
  (bif y4 then some (0, false) else
  (geti p0.l (w64 (p0.at_ + p1))).bind fun x6 =>
  some (x6, true))
def zb7 (n : Nat) (p0 : zaf) (p1 : Int) : Option (Int × Bool) :=
  (bif (decide (p1 < 0)) then zcg p0 p1 true else
  (zb8 n p0).bind fun x14 =>
  zcg p0 p1 (decide (x14 ≤ p1)))
theorem zcf (n : Nat) {f : Fz} {p0 : zaf} {pb0 : Nat} {pv0_0 : Value} {pv0_0r : List (List Value)} {p1 : Int} {res : (Int × Bool)} (pv0_0h : RW (tInt .i32) f pv0_0r p0.l) (hm : zb7 n p0 p1 = some res) : GivesL Tryz.prog 82 [pq pb0 0, .int .i64 p1] f [.blk pb0 (.cells #[pv0_0, .int .i64 p0.at_] 144 (0,0)), .row pv0_0 21 1 pv0_0r] (.tuple #[.int .i32 res.1, .bool res.2]) := by
 unfold zb7 at hm
 intro w0 L w hC
 replace hC : Cw w0 f (.blk pb0 (.cells #[pv0_0, .int .i64 p0.at_] 144 (0,0)) :: .row pv0_0 21 1 pv0_0r :: L) w := hC
 refine enter Tryz.func82 rfl Tryz.ntmps82 (by simp) hC fun a hs => ?_
 have hle := Fz.le.refl f
 refine Wq fun hK1 => sA hs rfl fun hs => sA hs rfl fun hs => za0 <| hK1 <| Ws fun hK2 => Ws fun hK3 => ?_
 refine zaq (fun a w => ∃ (y4 : Bool), zcg p0 p1 y4 = some res ∧ St 28 w0 f (.blk pb0 (.cells #[pv0_0, .int .i64 (p0.at_)] 144 (0,0)) :: .row pv0_0 21 1 pv0_0r :: L) [(0, pq pb0 0),(1, .int .i64 (p1)),(14, .bool (y4))] a w) ?_ ?_
 ·clear hs hm
  rintro a w ⟨y4, hm, hs⟩
  unfold zcg at hm
  refine hK3 ?_
  refine zah hs rfl (fun hg5 => ?_) (fun hg5 => ?_)
  ·replace hm := oc_t hg5 hm
   refine Wq fun hK4 => sA hs rfl fun hs => za0 <| hK4 <| Wq fun hK5 => sM hs rfl fun hs => sA hs rfl fun hs => sA hs rfl fun hs => ?_
   refine za0 <| hK5 <| zax ?_
   obtain rfl := Option.some.inj hm
   refine RtV2 hs rfl (rv_t hs rfl) (rv_t hs rfl) ?_
   exact ⟨rfl,(hs.weak hle).cw⟩
  replace hm := oc_f hg5 hm
  refine zaj <| hK2 <| Ws fun hK6 => ?_
  refine zju hs mixed (by kernel_rfl) ?_; intro a he
  refine qy (v := pq pb0 0) he (za3 rfl) fun _ he => qy he (za5 rfl) fun _ he => qy (v := pq pb0 0) he (za1 rfl (FO.of (off := 0) U144 rfl rfl ti24 (by decide))) fun _ he => qy (v := pv0_0) he (y_ld rfl U24 rfl (Cell.blk (.head _) rfl)) fun _ he => qy (v := pq pb0 0) he (za3 rfl) fun _ he => qy he (za5 rfl) fun _ he => qy (v := pq pb0 1) he (za1 rfl (FO.of (off := 1) U144 rfl rfl ti3 (by decide))) fun _ he => qy (v := .int .i64 (p0.at_)) he (y_ld rfl U3 rfl (Cell.blk (.head _) rfl)) fun _ he => qy (v := .int .i64 (p1)) he (za3 rfl) fun _ he => qy he (zdz rfl rfl rfl) fun _ he => ?_
  obtain ⟨x6, hx7, hm⟩ := ob hm
  obtain ⟨r8, hr9, hq10, hi11, hb12⟩ := pv0_0h.geti hx7
  obtain rfl : _ = ([.int .i32 (x6)] : List Value) := hq10
  refine qy he (zac (Rd.st hs (.tail _ (.head _))) rfl rfl hi11 hb12 U24 ti21) fun _ he => qy (v := .int .i32 (x6)) he (zbm (i := (w64 (p0.at_ + p1)).toNat) (j := 0) (Rd.st hs (.tail _ (.head _))) rfl hr9 rfl U21 rfl) fun _ he => qy (v := .int .i32 (x6)) he (za9 rfl) fun _ he => qy (v := .bool (true)) he (za9 rfl) fun _ he => ?_
  refine zfw he ?_; clear he; (try clear hs); (try clear a); intro a w hs
  refine hK6 <| zax ?_
  obtain rfl := Option.some.inj hm
  refine RtV2 hs rfl (rv_t hs rfl) (rv_t hs rfl) ?_
  exact ⟨rfl,(hs.weak hle).cw⟩
 refine za2 <| sM hs rfl fun hs => s1 hs (zgq rfl rfl) fun hs => sM hs rfl fun hs => ?_
 refine St.split hs (t := 9) rfl (fun hg13 hs => ?_) (fun hg13 hs => ?_)
 ·replace hm := oc_t hg13 hm
  refine s3 hs fun hs => s3 hs fun hs => s3 hs fun hs => s3 hs fun hs => sP hs rfl rfl fun hs => za0 ?_
  exact ⟨true, hm, hs.sub ⟨rfl, rfl, rfl, trivial⟩⟩
 replace hm := oc_f hg13 hm
 refine s2 (v := .int .i64 (p1)) hs (za3 rfl) fun hs => s2 (v := pq pb0 0) hs (za3 rfl) fun hs => ?_
 obtain ⟨x14, hx15, hm⟩ := ob hm
 refine s2 hs (zec (cap := []) (Lf := L) rfl has48 rfl ((zal _ 1 rfl).trans (zal _ 1 rfl)) (zel n pv0_0h hx15)) fun hs => s2 hs (zkf rfl rfl) fun hs => sP hs rfl rfl fun hs => za0 ?_
 exact ⟨decide (x14 ≤ p1), hm, hs.sub ⟨rfl, rfl, rfl, trivial⟩⟩
def zch (p0 : zaf) (x4 : (Int × Bool)) (y6 : Int) : Option (Int × Bool × zaf) :=
  some (x4.1, x4.2,({l := p0.l, at_ := y6} : zaf))
def zar (n : Nat) (p0 : zaf) : Option (Int × Bool × zaf) :=
  (zb7 n p0 0).bind fun x4 =>
  (bif x4.2 then zch p0 x4 (w64 (p0.at_ + 1)) else
  zch p0 x4 p0.at_)
theorem zb0 (n : Nat) {f : Fz} {p0 : zaf} {pb0 : Nat} {pv0_0 : Value} {pv0_0r : List (List Value)} {res : (Int × Bool × zaf)} (pv0_0h : RW (tInt .i32) f pv0_0r p0.l) (hm : zar n p0 = some res) : Does Tryz.prog 55 [pq pb0 0] f [.blk pb0 (.cells #[pv0_0, .int .i64 p0.at_] 144 (0,0)), .row pv0_0 21 1 pv0_0r] (fun r f' L' => ∃ (dp0_0 : Value) (dp0_0r : List (List Value)), L' = [.blk pb0 (.cells #[dp0_0, .int .i64 res.2.2.at_] 144 (0,0)), .row dp0_0 21 1 dp0_0r] ∧ r = .tuple #[.int .i32 res.1, .bool res.2.1] ∧ RW (tInt .i32) f' dp0_0r res.2.2.l) := by
 unfold zar at hm
 intro w0 L w hC
 replace hC : Cw w0 f (.blk pb0 (.cells #[pv0_0, .int .i64 p0.at_] 144 (0,0)) :: .row pv0_0 21 1 pv0_0r :: L) w := hC
 refine enter Tryz.func55 rfl Tryz.ntmps55 (by simp) hC fun a hs => ?_
 have hle := Fz.le.refl f
 refine Wq fun hK1 => sA hs rfl fun hs => sA hs rfl fun hs => za0 <| hK1 <| Wq fun hK2 => sM hs rfl fun hs => ?_
 obtain ⟨x4, hx5, hm⟩ := ob hm
 refine s1 hs (zec (cap := []) (Lf := L) rfl has82 rfl ((zal _ 1 rfl).trans (zal _ 1 rfl)) (zcf n pv0_0h hx5)) fun hs => sM hs rfl fun hs => s1 (v := .int .i32 (x4.1)) hs (zap rfl rfl) fun hs => s1 (v := .bool (x4.2)) hs (zap rfl rfl) fun hs => sA hs rfl fun hs => sA hs rfl fun hs => za0 <| hK2 <| Ws fun hK3 => Ws fun hK4 => ?_
 refine za2 <| sM hs rfl fun hs => za0 <| hK4 ?_
 refine zaq (fun a w => ∃ (y6 : Int), zch p0 x4 y6 = some res ∧ St 21 w0 f (.blk pb0 (.cells #[pv0_0, .int .i64 (y6)] 144 (0,0)) :: .row pv0_0 21 1 pv0_0r :: L) [(4, .int .i32 (x4.1)),(5, .bool (x4.2))] a w) ?_ ?_
 ·clear hs hm
  rintro a w ⟨y6, hm, hs⟩
  unfold zch at hm
  refine hK3 <| Wq fun hK5 => sM hs rfl fun hs => sM hs rfl fun hs => sA hs rfl fun hs => sA hs rfl fun hs => za0 <| hK5 <| zax ?_
  obtain rfl := Option.some.inj hm
  refine RtV2 hs rfl (rv_t hs rfl) (rv_t hs rfl) ?_
  exact ⟨_, f,[.blk pb0 (.cells #[pv0_0, .int .i64 (y6)] 144 (0,0)), .row pv0_0 21 1 pv0_0r], rfl, hle, hs.cw, pv0_0, pv0_0r, rfl, rfl, pv0_0h⟩
 refine zah hs rfl (fun hg7 => ?_) (fun hg7 => ?_)
 ·replace hm := oc_t hg7 hm
  refine za2 <| sM hs rfl fun hs => s1 hs (za5 rfl) fun hs => s1 (v := pq pb0 1) hs (za1 rfl (FO.of (off := 1) U144 rfl rfl ti3 (by decide))) fun hs => s1 (v := .int .i64 (p0.at_)) hs (y_ld rfl U3 rfl (Cell.blk (.head _) rfl)) fun hs => s1 hs (zdz rfl rfl rfl) fun hs => s1 hs (za5 rfl) fun hs => s1 (v := pq pb0 1) hs (za1 rfl (FO.of (off := 1) U144 rfl rfl ti3 (by decide))) fun hs => sstore 0 hs rfl rfl rfl ti3 rfl fun _ _ hs => za0 ?_
  exact ⟨(w64 (p0.at_ + 1)), hm, hs.sub ⟨rfl, rfl, trivial⟩⟩
 replace hm := oc_f hg7 hm
 refine zaj ?_
 exact ⟨p0.at_, hm, hs.sub ⟨rfl, rfl, trivial⟩⟩
def zgi (n : Nat) (p0 : Int) : Option Bool :=
  some ((decide (p0 = 9)) || ((decide (p0 = 10)) || ((decide (p0 = 12)) || (decide (p0 = 32)))))
theorem zhh (n : Nat) {f : Fz} {p0 : Int} {res : Bool}  (hm : zgi n p0 = some res) : Gives Tryz.prog 89 [.int .i32 p0] f (.bool res) := by
 unfold zgi at hm
 intro w0 L w hC
 refine enter Tryz.func89 rfl Tryz.ntmps89 (by simp) hC fun a hs => ?_
 have hle := Fz.le.refl f
 refine Wq fun hK1 => sA hs rfl fun hs => za0 <| hK1 <| Ws fun hK2 => ?_
 refine zaq (fun a w => St 17 w0 f (L) [(2, .bool (((decide (p0 = 9)) || ((decide (p0 = 10)) || ((decide (p0 = 12)) || (decide (p0 = 32)))))))] a w) ?_ ?_
 ·clear hs; intro a w hs
  refine hK2 <| zax ?_
  obtain rfl := Option.some.inj hm
  refine RtV1 hs rfl (rv_t hs rfl) ?_
  exact ⟨rfl,(hs.weak hle).cw⟩
 refine za2 <| sM hs rfl fun hs => s1 hs (zct rfl rfl) fun hs => sM hs rfl fun hs => ?_
 refine St.split hs (t := 5) rfl (fun hg1 hs => ?_) (fun hg1 hs => ?_)
 ·refine s3 hs fun hs => s3 hs fun hs => sP hs rfl rfl fun hs => sM hs rfl fun hs => s3 hs fun hs => s3 hs fun hs => sP hs rfl rfl fun hs => sM hs rfl fun hs => s3 hs fun hs => s3 hs fun hs => ?_
  refine sP hs rfl rfl fun hs => sA hs rfl fun hs => za0 ?_
  exact hs.sub ⟨(lkB (((or_t hg1).trans rfl)) rfl), trivial⟩
 refine s2 (v := .int .i32 (p0)) hs (za3 rfl) fun hs => s2 hs (zct rfl rfl) fun hs => sP hs rfl rfl fun hs => sM hs rfl fun hs => ?_
 refine St.split hs (t := 9) rfl (fun hg2 hs => ?_) (fun hg2 hs => ?_)
 ·refine s3 hs fun hs => s3 hs fun hs => sP hs rfl rfl fun hs => sM hs rfl fun hs => s3 hs fun hs => s3 hs fun hs => sP hs rfl rfl fun hs => sA hs rfl fun hs => za0 ?_
  exact hs.sub ⟨(lkB (((or_f hg1).trans ((or_t hg2).trans rfl))) rfl), trivial⟩
 refine s2 (v := .int .i32 (p0)) hs (za3 rfl) fun hs => s2 hs (zct rfl rfl) fun hs => sP hs rfl rfl fun hs => sM hs rfl fun hs => ?_
 refine St.split hs (t := 13) rfl (fun hg3 hs => ?_) (fun hg3 hs => ?_)
 ·refine s3 hs fun hs => s3 hs fun hs => sP hs rfl rfl fun hs => sA hs rfl fun hs => za0 ?_
  exact hs.sub ⟨(lkB (((or_f hg1).trans ((or_f hg2).trans ((or_t hg3).trans rfl)))) rfl), trivial⟩
 refine s2 (v := .int .i32 (p0)) hs (za3 rfl) fun hs => s2 hs (zct rfl rfl) fun hs => sP hs rfl rfl fun hs => sA hs rfl fun hs => za0 ?_
 exact hs.sub ⟨(lkB (((or_f hg1).trans ((or_f hg2).trans ((or_f hg3).trans rfl)))) rfl), trivial⟩
def zis (n : Nat) (p0 : Int) : Option Bool :=
  some (bif (decide (97 ≤ p0)) then ((decide (p0 ≤ 122)) || ((decide (65 ≤ p0)) && (decide (p0 ≤ 90)))) else ((decide (65 ≤ p0)) && (decide (p0 ≤ 90))))
theorem zjd (n : Nat) {f : Fz} {p0 : Int} {res : Bool}  (hm : zis n p0 = some res) : Gives Tryz.prog 50 [.int .i32 p0] f (.bool res) := by
 unfold zis at hm
 intro w0 L w hC
 refine enter Tryz.func50 rfl Tryz.ntmps50 (by simp) hC fun a hs => ?_
 have hle := Fz.le.refl f
 refine Wq fun hK1 => sA hs rfl fun hs => za0 <| hK1 <| Ws fun hK2 => ?_
 refine zaq (fun a w => St 17 w0 f (L) [(2, .bool ((bif (decide (97 ≤ p0)) then ((decide (p0 ≤ 122)) || ((decide (65 ≤ p0)) && (decide (p0 ≤ 90)))) else ((decide (65 ≤ p0)) && (decide (p0 ≤ 90))))))] a w) ?_ ?_
 ·clear hs; intro a w hs
  refine hK2 <| zax ?_
  obtain rfl := Option.some.inj hm
  refine RtV1 hs rfl (rv_t hs rfl) ?_
  exact ⟨rfl,(hs.weak hle).cw⟩
 refine za2 <| sM hs rfl fun hs => s1 hs (zkf rfl rfl) fun hs => sM hs rfl fun hs => ?_
 refine St.split hs (t := 5) rfl (fun hg1 hs => ?_) (fun hg1 hs => ?_)
 ·refine s2 (v := .int .i32 (p0)) hs (za3 rfl) fun hs => s2 hs (zpj rfl rfl) fun hs => sP hs rfl rfl fun hs => sM hs rfl fun hs => ?_
  refine St.split hs (t := 9) rfl (fun hg2 hs => ?_) (fun hg2 hs => ?_)
  ·refine s3 hs fun hs => s3 hs fun hs => s3 hs fun hs => s4 hs fun hs => s4 hs fun hs => s3 hs fun hs => sP hs rfl rfl fun hs => sA hs rfl fun hs => za0 ?_
   exact hs.sub ⟨(lkB (((zjf hg1).trans ((or_t hg2).trans rfl))) rfl), trivial⟩
  refine s2 (v := .int .i32 (p0)) hs (za3 rfl) fun hs => s2 hs (zkf rfl rfl) fun hs => s2 (v := .bool (decide (65 ≤ p0))) hs (za3 rfl) fun hs => ?_
  refine St.split hs (t := 12) rfl (fun hg3 hs => ?_) (fun hg3 hs => ?_)
  ·refine s2 (v := .int .i32 (p0)) hs (za3 rfl) fun hs => s2 hs (zpj rfl rfl) fun hs => s2 (v := .bool (decide (p0 ≤ 90))) hs (zaz rfl rfl) fun hs => sP hs rfl rfl fun hs => sA hs rfl fun hs => za0 ?_
   exact hs.sub ⟨(lkB (((zjf hg1).trans ((or_f hg2).trans ((zj0 hg3).trans rfl)))) rfl), trivial⟩
  refine s3 hs fun hs => s3 hs fun hs => s2 (v := .bool (false)) hs (zaz rfl rfl) fun hs => sP hs rfl rfl fun hs => sA hs rfl fun hs => za0 ?_
  exact hs.sub ⟨(lkB (((zjf hg1).trans ((or_f hg2).trans ((zmd hg3).trans rfl)))) rfl), trivial⟩
 refine s3 hs fun hs => s3 hs fun hs => sP hs rfl rfl fun hs => sM hs rfl fun hs => s2 (v := .int .i32 (p0)) hs (za3 rfl) fun hs => s2 hs (zkf rfl rfl) fun hs => s2 (v := .bool (decide (65 ≤ p0))) hs (za3 rfl) fun hs => ?_
 refine St.split hs (t := 12) rfl (fun hg4 hs => ?_) (fun hg4 hs => ?_)
 ·refine s2 (v := .int .i32 (p0)) hs (za3 rfl) fun hs => s2 hs (zpj rfl rfl) fun hs => s2 (v := .bool (decide (p0 ≤ 90))) hs (zaz rfl rfl) fun hs => sP hs rfl rfl fun hs => sA hs rfl fun hs => za0 ?_
  exact hs.sub ⟨(lkB (((zl9 hg1).trans ((zj0 hg4).trans rfl))) rfl), trivial⟩
 refine s3 hs fun hs => s3 hs fun hs => s2 (v := .bool (false)) hs (zaz rfl rfl) fun hs => sP hs rfl rfl fun hs => sA hs rfl fun hs => za0 ?_
 exact hs.sub ⟨(lkB (((zl9 hg1).trans ((zmd hg4).trans rfl))) rfl), trivial⟩
def zhg (y16 : (List Int)) : Option ByteArray :=
  some (textOf y16)
def zhf (y26 : Int) (lp27 : (List Int) → Int → Option ByteArray) (y36 : (List Int)) : Option ByteArray :=
  lp27 y36 (w64 (y26 + 1))
def zd8 (x10 : (List Int)) : Nat → (List Int) → Int → Option ByteArray
  | 0, _, _ => none
  | k27 + 1, y21, y26 =>
  (bif (decide (y26 < (x10.length : Int))) then (geti y21 y26).bind fun x29 =>
  (bif ((decide (65 ≤ x29)) && (decide (x29 ≤ 90))) then (geti y21 y26).bind fun x42 =>
  (seti y21 y26 (IntKind.i32.wrap ((IntKind.i32.wrap (x29 + 97)) - 65))).bind fun x49 =>
  zhf y26 (zd8 x10 k27) x49 else
  zhf y26 (zd8 x10 k27) y21) else
  zhg y21)
def zhv (n : Nat) (p0 : (List Int)) : Option ByteArray :=
  (appM 4 ([] : List Int) p0).bind fun x10 =>
  zd8 x10 n x10 0
theorem zjz (n : Nat) {f : Fz} {p0 : (List Int)} {a0 : Value} {res : ByteArray} (h0 : RS (tInt .i32) f a0 p0) (hm : zhv n p0 = some res) : Gives Tryz.prog 86 [a0] f (.string res) := by
 unfold zhv at hm
 intro w0 L w hC
 obtain ⟨rw1, hR2, hW3⟩ := h0
 refine enter Tryz.func86 rfl Tryz.ntmps86 (by simp) hC fun a hs => ?_
 have hle := Fz.le.refl f
 refine Wq fun hK1 => sA hs rfl fun hs => za0 <| hK1 <| Wq fun hK2 => sM hs rfl fun hs => ?_
 replace hs := hs.nilRow 21 1
 have hW6 : RW (tInt .i32) f [] ([] : List Int) := trivial
 generalize hgrw7 : ([] : List (List Value)) = rw7 at hs hW6; clear hgrw7
 obtain ⟨x10, hx11, hm⟩ := ob hm
 obtain ⟨hbx10, hex10⟩ := zcb hx11
 have hW14 := hW6.append hW3; rw [hex10] at hW14
 refine zc9 (i := 0) hs rfl rfl rfl hR2.up U24 ti21 (by decide) (by rw [RW.len hW6, RW.len hW3]; exact hbx10) (.free rfl) (by decide) fun v12 _ _ hs => ?_
 generalize hgx10 : rw7 ++ rw1 = rw13 at hs hW14; clear hgx10
 refine sA hs rfl fun hs => za0 <| hK2 <| Ws fun hK3 => Wq fun hK4 => sM hs rfl fun hs => s1 hs (zc3 (Rd.st hs (.head _)) hW14 rfl U24) fun hs => sM hs rfl fun hs => za0 ?_
 refine hK4 ?_
 refine zaq (fun a w => ∃ (y16 : (List Int)) (v17 : Value) (rw18 : List (List Value)), zhg y16 = some res ∧ RW (tInt .i32) f rw18 y16 ∧ St 30 w0 f (.row v17 21 1 rw18 :: L) [(3, v17)] a w) ?_ ?_
 ·clear hs hm
  rintro a w ⟨y16, v17, rw18, hm, hW19, hs⟩
  unfold zhg at hm
  refine hK3 <| Wq fun hK5 => sM hs rfl fun hs => s1 (v := .string ((textOf y16))) hs (zu4 rfl U24 U21 U9 (Rd.st hs (.head _)) hW19) fun hs => sA hs rfl fun hs => za0 <| hK5 <| zax ?_
  obtain rfl := Option.some.inj hm
  refine RtV1 hs rfl (rv_t hs rfl) ?_
  exact ⟨rfl,((hs.subL (.cons _ (.refl _))).weak hle).cw⟩
 refine zam fun Qe6 hB6 hO6 => zd1 (fun (k : Nat) a w => ∃ (y21 : (List Int)) (y26 : Int) (v22 : Value) (rw23 : List (List Value)), zd8 x10 k y21 y26 = some res ∧ RW (tInt .i32) f rw23 y21 ∧ St 30 w0 f (.row v22 21 1 rw23 :: L) [(3, v22),(8, v22),(9, .int .i64 ((x10.length : Int))),(10, .int .i64 (y26))] a w) (fun k => k) n ⟨x10,0, v12, rw13, hm, hW14, hs.sub ⟨rfl, rfl, rfl, rfl, trivial⟩⟩ ?_
 clear hs hm
 intro k
 rintro a w ⟨y21, y26, v22, rw23, hm, hW24, hs⟩
 intro K7 hK7
 cases k with
 | zero => simp [zd8] at hm
 | succ k27 =>
  rw [zd8] at hm
  refine Wq fun hK8 => s1 hs (zgq rfl rfl) fun hs => za0 <| hK8 <| Ws fun hK9 => ?_
  refine zah hs rfl (fun hg28 => ?_) (fun hg28 => ?_)
  ·replace hm := oc_t hg28 hm
   refine zaj <| hK9 <| Ws fun hK10 => zam fun Qe11 hB11 hO11 => Wq fun hK12 => sM hs rfl fun hs => ?_
   obtain ⟨x29, hx30, hm⟩ := ob hm
   obtain ⟨r31, hr32, hq33, hi34, hb35⟩ := hW24.geti hx30
   obtain rfl : _ = ([.int .i32 (x29)] : List Value) := hq33
   refine s1 hs (zac (Rd.st hs (.head _)) rfl rfl hi34 hb35 U24 ti21) fun hs => s1 (v := .int .i32 (x29)) hs (zbm (i := y26.toNat) (j := 0) (Rd.st hs (.head _)) rfl hr32 rfl U21 rfl) fun hs => sA hs rfl fun hs => sA hs rfl fun hs => za0 <| hK12 <| Ws fun hK13 => ?_
   refine zaq (fun a w => St 30 w0 f (.row v22 21 1 rw23 :: L) [(3, v22),(4, .int .i64 (y26)),(5, .int .i32 (x29)),(8, v22),(9, .int .i64 ((x10.length : Int))),(10, .int .i64 (y26)),(20, .bool (((decide (65 ≤ x29)) && (decide (x29 ≤ 90)))))] a w) ?_ ?_
   ·clear hs; intro a w hs
    refine hK13 ?_
    refine zaq (fun a w => ∃ (y36 : (List Int)) (v37 : Value) (rw38 : List (List Value)), zhf y26 (zd8 x10 k27) y36 = some res ∧ RW (tInt .i32) f rw38 y36 ∧ St 30 w0 f (.row v37 21 1 rw38 :: L) [(3, v37),(8, v37),(9, .int .i64 ((x10.length : Int))),(10, .int .i64 (y26))] a w) ?_ ?_
    ·clear hs hm
     rintro a w ⟨y36, v37, rw38, hm, hW39, hs⟩
     unfold zhf at hm
     refine hK10 <| za2 <| s1 hs (zdz rfl rfl rfl) fun hs => sM hs rfl fun hs => za0 ?_
     exact hK7 k27 _ _ (Nat.lt_succ_self _) ⟨y36,(w64 (y26 + 1)), v37, rw38, hm, hW39, hs.sub ⟨rfl, rfl, rfl, rfl, trivial⟩⟩
    refine zah hs rfl (fun hg41 => ?_) (fun hg41 => ?_)
    ·replace hm := oc_t hg41 hm
     refine za2 <| sM hs rfl fun hs => sM hs rfl fun hs => sM hs rfl fun hs => s1 hs (zdz rfl rfl rfl) fun hs => s1 hs (zn2 rfl rfl rfl) fun hs => ?_
     obtain ⟨x42, hx43, hm⟩ := ob hm
     obtain ⟨r44, hr45, hq46, hi47, hb48⟩ := hW24.geti hx43
     obtain rfl : _ = ([.int .i32 (x42)] : List Value) := hq46
     refine s1 hs (zac (Rd.st hs (.head _)) rfl rfl hi47 hb48 U24 ti21) fun hs => ?_
     obtain ⟨x49, hx50, hm⟩ := ob hm
     have hex49 := zgv hx50
     have hW52 := RW.set (i := y26.toNat) (r := [.int .i32 ((IntKind.i32.wrap ((IntKind.i32.wrap (x29 + 97)) - 65)))]) (x := ((IntKind.i32.wrap ((IntKind.i32.wrap (x29 + 97)) - 65)) : Int)) hW24 (rfl); rw [hex49] at hW52
     refine zei (i := 0) (j := 0) (m := y26.toNat) hs rfl rfl rfl hr45 (by decide) ti21 rfl (.free rfl) fun _ _ hs => ?_
     replace hs : St _ _ _ (.row v22 21 1 (rw23.set y26.toNat [.int .i32 ((IntKind.i32.wrap ((IntKind.i32.wrap (x29 + 97)) - 65)))]) :: L) _ _ _ := hs
     generalize hgrw51 : rw23.set y26.toNat [.int .i32 ((IntKind.i32.wrap ((IntKind.i32.wrap (x29 + 97)) - 65)))] = rw51 at hs hW52; clear hgrw51
     refine za0 ?_
     exact ⟨x49, v22, rw51, hm, hW52, hs.sub ⟨rfl, rfl, rfl, rfl, trivial⟩⟩
    replace hm := oc_f hg41 hm
    refine zaj ?_
    exact ⟨y21, v22, rw23, hm, hW24, hs.sub ⟨rfl, rfl, rfl, rfl, trivial⟩⟩
   refine za2 <| sM hs rfl fun hs => s1 hs (zkf rfl rfl) fun hs => sM hs rfl fun hs => ?_
   refine St.split hs (t := 17) rfl (fun hg54 hs => ?_) (fun hg54 hs => ?_)
   ·refine s2 (v := .int .i32 (x29)) hs (za3 rfl) fun hs => s2 hs (zpj rfl rfl) fun hs => sP hs rfl rfl fun hs => za0 ?_
    exact hs.sub ⟨rfl, rfl, rfl, rfl, rfl, rfl,(lkB (((zj0 hg54).trans rfl)) rfl), trivial⟩
   refine s3 hs fun hs => s3 hs fun hs => sP hs rfl rfl fun hs => za0 ?_
   exact hs.sub ⟨rfl, rfl, rfl, rfl, rfl, rfl,(lkB (((zmd hg54).trans rfl)) rfl), trivial⟩
  replace hm := oc_f hg28 hm
  refine zc0 <| hB6 _ _ ?_
  exact ⟨y21, v22, rw23, hm, hW24, hs.sub ⟨rfl, trivial⟩⟩
def zbg (n : Nat) (p0 : zag) (p1 : Int) : Option Int :=
  (zb7 n p0.c p1).bind fun x7 =>
  some x7.1
theorem zcw (n : Nat) {f : Fz} {p0 : zag} {pb0 : Nat} {pv0_0 : Nat} {pv0_1 : Value} {pv0_1r : List (List Value)} {pv0_2 : Value} {pv0_2r : List (List Value)} {p1 : Int} {res : Int} (pv0_1h : RW (tInt .i32) f pv0_1r p0.c.l) (pv0_2h : RW zb1 f pv0_2r p0.out) (hm : zbg n p0 p1 = some res) : GivesL Tryz.prog 51 [pq pb0 0, .int .i64 p1] f [.blk pb0 (.cells #[pq pv0_0 0, pv0_2] 112 (0,0)), .blk pv0_0 (.cells #[pv0_1, .int .i64 p0.c.at_] 144 (0,0)), .row pv0_1 21 1 pv0_1r, .row pv0_2 104 5 pv0_2r] (.int .i32 res) := by
 unfold zbg at hm
 intro w0 L w hC
 replace hC : Cw w0 f (.blk pb0 (.cells #[pq pv0_0 0, pv0_2] 112 (0,0)) :: .blk pv0_0 (.cells #[pv0_1, .int .i64 p0.c.at_] 144 (0,0)) :: .row pv0_1 21 1 pv0_1r :: .row pv0_2 104 5 pv0_2r :: L) w := hC
 refine enter Tryz.func51 rfl Tryz.ntmps51 (by simp) hC fun a hs => ?_
 have hle := Fz.le.refl f
 refine Wq fun hK1 => sA hs rfl fun hs => za0 <| hK1 <| Wq fun hK2 => sM hs rfl fun hs => s1 hs (za5 rfl) fun hs => s1 (v := pq pb0 0) hs (za1 rfl (FO.of (off := 0) U112 rfl rfl ti109 (by decide))) fun hs => ?_
 refine s1 (v := pq pv0_0 0) hs (y_ld rfl U109 rfl (Cell.blk (.head _) rfl)) fun hs => sM hs rfl fun hs => ?_
 obtain ⟨x7, hx8, hm⟩ := ob hm
 refine s1 hs (zec (cap := []) (Lf := .blk pb0 (.cells #[pq pv0_0 0, pv0_2] 112 (0,0)) :: .row pv0_2 104 5 pv0_2r :: L) rfl has82 rfl ((zal _ 2 rfl).trans (zal _ 2 rfl)) (zcf n pv0_1h hx8)) fun hs => sM hs rfl fun hs => s1 (v := .int .i32 (x7.1)) hs (zap rfl rfl) fun hs => s1 (v := .bool (x7.2)) hs (zap rfl rfl) fun hs => sA hs rfl fun hs => sA hs rfl fun hs => za0 <| hK2 <| Ws fun hK3 => za2 ?_
 refine sM hs rfl fun hs => sA hs rfl fun hs => za0 <| hK3 <| zax ?_
 obtain rfl := Option.some.inj hm
 refine RtV1 hs rfl (rv_t hs rfl) ?_
 exact ⟨rfl,(hs.weak hle).cw⟩
def zf8 : Option Bool :=
  some true
def zc5 (n : Nat) (p0 : zag) (p1 : Int) (x7 : (List Int)) : Nat → Int → Option Bool
  | 0, _ => none
  | k15 + 1, y14 =>
  (bif (decide (y14 < (x7.length : Int))) then (geti x7 y14).bind fun x17 =>
  (zb7 n p0.c (w64 (p1 + y14))).bind fun x24 =>
  (bif ((!x24.2) || (decide (x24.1 ≠ x17))) then some false else
  (zc5 n p0 p1 x7 k15) (w64 (y14 + 1))) else
  zf8)
def zdk (n : Nat) (p0 : zag) (p1 : Int) (p2 : ByteArray) : Option Bool :=
  (runesM p2).bind fun x7 =>
  zc5 n p0 p1 x7 n 0
theorem zhw (n : Nat) {f : Fz} {p0 : zag} {pb0 : Nat} {pv0_0 : Nat} {pv0_1 : Value} {pv0_1r : List (List Value)} {pv0_2 : Value} {pv0_2r : List (List Value)} {p1 : Int} {p2 : ByteArray} {res : Bool} (pv0_1h : RW (tInt .i32) f pv0_1r p0.c.l) (pv0_2h : RW zb1 f pv0_2r p0.out) (hm : zdk n p0 p1 p2 = some res) : GivesL Tryz.prog 52 [pq pb0 0, .int .i64 p1, .string p2] f [.blk pb0 (.cells #[pq pv0_0 0, pv0_2] 112 (0,0)), .blk pv0_0 (.cells #[pv0_1, .int .i64 p0.c.at_] 144 (0,0)), .row pv0_1 21 1 pv0_1r, .row pv0_2 104 5 pv0_2r] (.bool res) := by
 unfold zdk at hm
 intro w0 L w hC
 replace hC : Cw w0 f (.blk pb0 (.cells #[pq pv0_0 0, pv0_2] 112 (0,0)) :: .blk pv0_0 (.cells #[pv0_1, .int .i64 p0.c.at_] 144 (0,0)) :: .row pv0_1 21 1 pv0_1r :: .row pv0_2 104 5 pv0_2r :: L) w := hC
 refine enter Tryz.func52 rfl Tryz.ntmps52 (by simp) hC fun a hs => ?_
 have hle := Fz.le.refl f
 refine Wq fun hK1 => sA hs rfl fun hs => za0 <| hK1 <| Ws fun hK2 => Wq fun hK3 => sM hs rfl fun hs => ?_
 obtain ⟨x7, hx8, hm⟩ := ob hm
 refine RL_s2rW hx8 hs rfl U9 U24 U21 fun v9 rw10 _ _ hW11 hs => s1 hs (zc3 (Rd.st hs (.head _)) hW11 rfl U24) fun hs => sM hs rfl fun hs => za0 <| hK3 ?_
 refine zaq (fun a w => zf8 = some res ∧ St 38 w0 f (.blk pb0 (.cells #[pq pv0_0 0, pv0_2] 112 (0,0)) :: .blk pv0_0 (.cells #[pv0_1, .int .i64 (p0.c.at_)] 144 (0,0)) :: .row pv0_1 21 1 pv0_1r :: .row pv0_2 104 5 pv0_2r :: L) [] a w) ?_ ?_
 ·clear hs hm
  rintro a w ⟨hm, hs⟩
  unfold zf8 at hm
  refine hK2 <| Wq fun hK4 => sA hs rfl fun hs => za0 <| hK4 <| zax ?_
  obtain rfl := Option.some.inj hm
  refine RtV1 hs rfl (rv_t hs rfl) ?_
  exact ⟨rfl,(hs.weak hle).cw⟩
 refine zam fun Qe5 hB5 hO5 => zd1 (fun (k : Nat) a w => ∃ (y14 : Int), zc5 n p0 p1 x7 k y14 = some res ∧ St 38 w0 f (.row v9 21 1 rw10 :: .blk pb0 (.cells #[pq pv0_0 0, pv0_2] 112 (0,0)) :: .blk pv0_0 (.cells #[pv0_1, .int .i64 (p0.c.at_)] 144 (0,0)) :: .row pv0_1 21 1 pv0_1r :: .row pv0_2 104 5 pv0_2r :: L) [(0, pq pb0 0),(1, .int .i64 (p1)),(12, v9),(13, .int .i64 ((x7.length : Int))),(14, .int .i64 (y14))] a w) (fun k => k) n ⟨0, hm, hs.sub ⟨rfl, rfl, rfl, rfl, rfl, trivial⟩⟩ ?_
 clear hs hm
 intro k
 rintro a w ⟨y14, hm, hs⟩
 intro K6 hK6
 cases k with
 | zero => simp [zc5] at hm
 | succ k15 =>
  rw [zc5] at hm
  refine Wq fun hK7 => s1 hs (zgq rfl rfl) fun hs => za0 <| hK7 <| Ws fun hK8 => ?_
  refine zah hs rfl (fun hg16 => ?_) (fun hg16 => ?_)
  ·replace hm := oc_t hg16 hm
   refine zaj <| hK8 <| Ws fun hK9 => zam fun Qe10 hB10 hO10 => Wq fun hK11 => sM hs rfl fun hs => ?_
   obtain ⟨x17, hx18, hm⟩ := ob hm
   obtain ⟨r19, hr20, hq21, hi22, hb23⟩ := hW11.geti hx18
   obtain rfl : _ = ([.int .i32 (x17)] : List Value) := hq21
   refine s1 hs (zac (Rd.st hs (.head _)) rfl rfl hi22 hb23 U24 ti21) fun hs => s1 (v := .int .i32 (x17)) hs (zbm (i := y14.toNat) (j := 0) (Rd.st hs (.head _)) rfl hr20 rfl U21 rfl) fun hs => sA hs rfl fun hs => sA hs rfl fun hs => za0 <| hK11 <| Wq fun hK12 => sM hs rfl fun hs => s1 hs (za5 rfl) fun hs => ?_
   refine s1 (v := pq pb0 0) hs (za1 rfl (FO.of (off := 0) U112 rfl rfl ti109 (by decide))) fun hs => s1 (v := pq pv0_0 0) hs (y_ld rfl U109 rfl (Cell.blk (.tail _ (.head _)) rfl)) fun hs => sM hs rfl fun hs => sM hs rfl fun hs => s1 hs (zdz rfl rfl rfl) fun hs => ?_
   obtain ⟨x24, hx25, hm⟩ := ob hm
   refine s1 hs (zec (cap := []) (Lf := .row v9 21 1 rw10 :: .blk pb0 (.cells #[pq pv0_0 0, pv0_2] 112 (0,0)) :: .row pv0_2 104 5 pv0_2r :: L) rfl has82 rfl ((zal _ 3 rfl).trans (zal _ 3 rfl)) (zcf n pv0_1h hx25)) fun hs => sM hs rfl fun hs => s1 (v := .int .i32 (x24.1)) hs (zap rfl rfl) fun hs => s1 (v := .bool (x24.2)) hs (zap rfl rfl) fun hs => sA hs rfl fun hs => sA hs rfl fun hs => za0 <| hK12 <| Ws fun hK13 => ?_
   refine zaq (fun a w => St 38 w0 f (.row v9 21 1 rw10 :: .blk pb0 (.cells #[pq pv0_0 0, pv0_2] 112 (0,0)) :: .blk pv0_0 (.cells #[pv0_1, .int .i64 (p0.c.at_)] 144 (0,0)) :: .row pv0_1 21 1 pv0_1r :: .row pv0_2 104 5 pv0_2r :: L) [(0, pq pb0 0),(1, .int .i64 (p1)),(12, v9),(13, .int .i64 ((x7.length : Int))),(14, .int .i64 (y14)),(36, .bool (((!x24.2) || (decide (x24.1 ≠ x17)))))] a w) ?_ ?_
   ·clear hs; intro a w hs
    refine hK13 ?_
    refine zah hs rfl (fun hg26 => ?_) (fun hg26 => ?_)
    ·replace hm := oc_t hg26 hm
     refine Wq fun hK14 => sA hs rfl fun hs => za0 <| hK14 <| zax ?_
     obtain rfl := Option.some.inj hm
     refine RtV1 hs rfl (rv_t hs rfl) ?_
     exact ⟨rfl,((hs.subL (.cons _ (.cons_cons _ (.cons_cons _ (.cons_cons _ (.cons_cons _ (.refl _))))))).weak hle).cw⟩
    replace hm := oc_f hg26 hm
    refine zaj <| hK9 <| za2 <| s1 hs (zdz rfl rfl rfl) fun hs => sM hs rfl fun hs => za0 ?_
    exact hK6 k15 _ _ (Nat.lt_succ_self _) ⟨(w64 (y14 + 1)), hm, hs.sub ⟨rfl, rfl, rfl, rfl, rfl, trivial⟩⟩
   refine za2 <| sM hs rfl fun hs => s1 (v := .bool ((!x24.2))) hs (zfc rfl) fun hs => sM hs rfl fun hs => ?_
   refine St.split hs (t := 32) rfl (fun hg27 hs => ?_) (fun hg27 hs => ?_)
   ·refine s3 hs fun hs => s3 hs fun hs => s3 hs fun hs => sP hs rfl rfl fun hs => za0 ?_
    exact hs.sub ⟨rfl, rfl, rfl, rfl, rfl,(lkB (((or_t hg27).trans rfl)) rfl), trivial⟩
   refine s2 (v := .int .i32 (x24.1)) hs (za3 rfl) fun hs => s2 (v := .int .i32 (x17)) hs (za3 rfl) fun hs => s2 hs (zeo rfl rfl) fun hs => sP hs rfl rfl fun hs => za0 ?_
   exact hs.sub ⟨rfl, rfl, rfl, rfl, rfl,(lkB (((or_f hg27).trans rfl)) rfl), trivial⟩
  replace hm := oc_f hg16 hm
  refine zc0 <| hB5 _ _ ?_
  exact ⟨hm, hs.subs trivial (.cons _ (.cons_cons _ (.cons_cons _ (.cons_cons _ (.cons_cons _ (.refl _))))))⟩
def zbz (y12 : Bool) : Option Bool :=
  some y12
def zby (n : Nat) (p0 : zag) : Option Bool :=
  (zdk n p0 0 (bs [60])).bind fun x7 =>
  (bif (!x7) then some false else
  (zbg n p0 1).bind fun x10 =>
  (zis n x10).bind fun x13 =>
  (bif x13 then zbz true else
  (bif (decide (x10 = 33)) then zbz true else
  (bif (decide (x10 = 63)) then zbz true else
  zbz (decide (x10 = 47))))))
theorem zi8 (n : Nat) {f : Fz} {p0 : zag} {pb0 : Nat} {pv0_0 : Nat} {pv0_1 : Value} {pv0_1r : List (List Value)} {pv0_2 : Value} {pv0_2r : List (List Value)} {res : Bool} (pv0_1h : RW (tInt .i32) f pv0_1r p0.c.l) (pv0_2h : RW zb1 f pv0_2r p0.out) (hm : zby n p0 = some res) : GivesL Tryz.prog 49 [pq pb0 0] f [.blk pb0 (.cells #[pq pv0_0 0, pv0_2] 112 (0,0)), .blk pv0_0 (.cells #[pv0_1, .int .i64 p0.c.at_] 144 (0,0)), .row pv0_1 21 1 pv0_1r, .row pv0_2 104 5 pv0_2r] (.bool res) := by
 unfold zby at hm
 intro w0 L w hC
 replace hC : Cw w0 f (.blk pb0 (.cells #[pq pv0_0 0, pv0_2] 112 (0,0)) :: .blk pv0_0 (.cells #[pv0_1, .int .i64 p0.c.at_] 144 (0,0)) :: .row pv0_1 21 1 pv0_1r :: .row pv0_2 104 5 pv0_2r :: L) w := hC
 refine enter Tryz.func49 rfl Tryz.ntmps49 (by simp) hC fun a hs => ?_
 have hle := Fz.le.refl f
 refine Wq fun hK1 => sA hs rfl fun hs => za0 <| hK1 <| Ws fun hK2 => Wq fun hK3 => sM hs rfl fun hs => ?_
 obtain ⟨x7, hx8, hm⟩ := ob hm
 refine s1 hs (zec (cap := []) (Lf := L) rfl has52 rfl ((((zal _ 3 rfl).trans (zal _ 3 rfl)).trans (zal _ 3 rfl)).trans (zal _ 3 rfl)) (zhw n pv0_1h pv0_2h hx8)) fun hs => s1 (v := .bool ((!x7))) hs (zfc rfl) fun hs => za0 <| hK3 ?_
 refine zah hs rfl (fun hg9 => ?_) (fun hg9 => ?_)
 ·replace hm := oc_t hg9 hm
  refine Wq fun hK4 => sA hs rfl fun hs => za0 <| hK4 <| zax ?_
  obtain rfl := Option.some.inj hm
  refine RtV1 hs rfl (rv_t hs rfl) ?_
  exact ⟨rfl,(hs.weak hle).cw⟩
 replace hm := oc_f hg9 hm
 refine zaj <| hK2 <| Wq fun hK5 => sM hs rfl fun hs => ?_
 obtain ⟨x10, hx11, hm⟩ := ob hm
 refine s1 hs (zec (cap := []) (Lf := L) rfl has51 rfl ((((zal _ 3 rfl).trans (zal _ 3 rfl)).trans (zal _ 3 rfl)).trans (zal _ 3 rfl)) (zcw n pv0_1h pv0_2h hx11)) fun hs => sA hs rfl fun hs => za0 <| hK5 <| Ws fun hK6 => ?_
 refine zaq (fun a w => ∃ (y12 : Bool), zbz y12 = some res ∧ St 23 w0 f (.blk pb0 (.cells #[pq pv0_0 0, pv0_2] 112 (0,0)) :: .blk pv0_0 (.cells #[pv0_1, .int .i64 (p0.c.at_)] 144 (0,0)) :: .row pv0_1 21 1 pv0_1r :: .row pv0_2 104 5 pv0_2r :: L) [(2, .bool (y12))] a w) ?_ ?_
 ·clear hs hm
  rintro a w ⟨y12, hm, hs⟩
  unfold zbz at hm
  refine hK6 <| zax ?_
  obtain rfl := Option.some.inj hm
  refine RtV1 hs rfl (rv_t hs rfl) ?_
  exact ⟨rfl,(hs.weak hle).cw⟩
 refine za2 <| sM hs rfl fun hs => ?_
 obtain ⟨x13, hx14, hm⟩ := ob hm
 refine s1 hs (zbi rfl has50 rfl (zjd n  hx14)) fun hs => sM hs rfl fun hs => ?_
 refine St.split hs (t := 11) rfl (fun hg15 hs => ?_) (fun hg15 hs => ?_)
 ·replace hm := oc_t hg15 hm
  refine s3 hs fun hs => s3 hs fun hs => sP hs rfl rfl fun hs => sM hs rfl fun hs => s3 hs fun hs => s3 hs fun hs => sP hs rfl rfl fun hs => sM hs rfl fun hs => s3 hs fun hs => s3 hs fun hs => ?_
  refine sP hs rfl rfl fun hs => sA hs rfl fun hs => za0 ?_
  exact ⟨true, hm, hs.sub ⟨rfl, trivial⟩⟩
 replace hm := oc_f hg15 hm
 refine s2 (v := .int .i32 (x10)) hs (za3 rfl) fun hs => s2 hs (zct rfl rfl) fun hs => sP hs rfl rfl fun hs => sM hs rfl fun hs => ?_
 refine St.split hs (t := 15) rfl (fun hg16 hs => ?_) (fun hg16 hs => ?_)
 ·replace hm := oc_t hg16 hm
  refine s3 hs fun hs => s3 hs fun hs => sP hs rfl rfl fun hs => sM hs rfl fun hs => s3 hs fun hs => s3 hs fun hs => sP hs rfl rfl fun hs => sA hs rfl fun hs => za0 ?_
  exact ⟨true, hm, hs.sub ⟨rfl, trivial⟩⟩
 replace hm := oc_f hg16 hm
 refine s2 (v := .int .i32 (x10)) hs (za3 rfl) fun hs => s2 hs (zct rfl rfl) fun hs => sP hs rfl rfl fun hs => sM hs rfl fun hs => ?_
 refine St.split hs (t := 19) rfl (fun hg17 hs => ?_) (fun hg17 hs => ?_)
 ·replace hm := oc_t hg17 hm
  refine s3 hs fun hs => s3 hs fun hs => sP hs rfl rfl fun hs => sA hs rfl fun hs => za0 ?_
  exact ⟨true, hm, hs.sub ⟨rfl, trivial⟩⟩
 replace hm := oc_f hg17 hm
 refine s2 (v := .int .i32 (x10)) hs (za3 rfl) fun hs => s2 hs (zct rfl rfl) fun hs => sP hs rfl rfl fun hs => sA hs rfl fun hs => za0 ?_
 exact ⟨decide (x10 = 47), hm, hs.sub ⟨rfl, trivial⟩⟩
def zdc (y1 : Bool) : Option Bool :=
  some y1
def zea (n : Nat) (p0 : Int) : Option Bool :=
  (zgi n p0).bind fun x2 =>
  (bif (!x2) then (bif (decide (p0 ≠ 47)) then zdc (decide (p0 ≠ 62)) else
  zdc false) else
  zdc false)
theorem zl7 (n : Nat) {f : Fz} {p0 : Int} {res : Bool}  (hm : zea n p0 = some res) : Gives Tryz.prog 88 [.int .i32 p0] f (.bool res) := by
 unfold zea at hm
 intro w0 L w hC
 refine enter Tryz.func88 rfl Tryz.ntmps88 (by simp) hC fun a hs => ?_
 have hle := Fz.le.refl f
 refine Wq fun hK1 => sA hs rfl fun hs => za0 <| hK1 <| Ws fun hK2 => ?_
 refine zaq (fun a w => ∃ (y1 : Bool), zdc y1 = some res ∧ St 14 w0 f (L) [(2, .bool (y1))] a w) ?_ ?_
 ·clear hs hm
  rintro a w ⟨y1, hm, hs⟩
  unfold zdc at hm
  refine hK2 <| zax ?_
  obtain rfl := Option.some.inj hm
  refine RtV1 hs rfl (rv_t hs rfl) ?_
  exact ⟨rfl,(hs.weak hle).cw⟩
 refine za2 <| sM hs rfl fun hs => ?_
 obtain ⟨x2, hx3, hm⟩ := ob hm
 refine s1 hs (zbi rfl has89 rfl (zhh n  hx3)) fun hs => s1 (v := .bool ((!x2))) hs (zfc rfl) fun hs => sM hs rfl fun hs => ?_
 refine St.split hs (t := 6) rfl (fun hg4 hs => ?_) (fun hg4 hs => ?_)
 ·replace hm := oc_t hg4 hm
  refine s2 (v := .int .i32 (p0)) hs (za3 rfl) fun hs => s2 hs (zeo rfl rfl) fun hs => sP hs rfl rfl fun hs => sM hs rfl fun hs => ?_
  refine St.split hs (t := 10) rfl (fun hg5 hs => ?_) (fun hg5 hs => ?_)
  ·replace hm := oc_t hg5 hm
   refine s2 (v := .int .i32 (p0)) hs (za3 rfl) fun hs => s2 hs (zeo rfl rfl) fun hs => sP hs rfl rfl fun hs => sA hs rfl fun hs => za0 ?_
   exact ⟨decide (p0 ≠ 62), hm, hs.sub ⟨rfl, trivial⟩⟩
  replace hm := oc_f hg5 hm
  refine s3 hs fun hs => s3 hs fun hs => sP hs rfl rfl fun hs => sA hs rfl fun hs => za0 ?_
  exact ⟨false, hm, hs.sub ⟨rfl, trivial⟩⟩
 replace hm := oc_f hg4 hm
 refine s3 hs fun hs => s3 hs fun hs => sP hs rfl rfl fun hs => sM hs rfl fun hs => s3 hs fun hs => s3 hs fun hs => sP hs rfl rfl fun hs => sA hs rfl fun hs => za0 ?_
 exact ⟨false, hm, hs.sub ⟨rfl, trivial⟩⟩
def zcj (y1 : Bool) : Option Bool :=
  some y1
def ze9 (n : Nat) (p0 : Int) : Option Bool :=
  (zgi n p0).bind fun x2 =>
  (bif (!x2) then (bif (decide (p0 ≠ 61)) then (bif (decide (p0 ≠ 47)) then zcj (decide (p0 ≠ 62)) else
  zcj false) else
  zcj false) else
  zcj false)
theorem zl6 (n : Nat) {f : Fz} {p0 : Int} {res : Bool}  (hm : ze9 n p0 = some res) : Gives Tryz.prog 90 [.int .i32 p0] f (.bool res) := by
 unfold ze9 at hm
 intro w0 L w hC
 refine enter Tryz.func90 rfl Tryz.ntmps90 (by simp) hC fun a hs => ?_
 have hle := Fz.le.refl f
 refine Wq fun hK1 => sA hs rfl fun hs => za0 <| hK1 <| Ws fun hK2 => ?_
 refine zaq (fun a w => ∃ (y1 : Bool), zcj y1 = some res ∧ St 18 w0 f (L) [(2, .bool (y1))] a w) ?_ ?_
 ·clear hs hm
  rintro a w ⟨y1, hm, hs⟩
  unfold zcj at hm
  refine hK2 <| zax ?_
  obtain rfl := Option.some.inj hm
  refine RtV1 hs rfl (rv_t hs rfl) ?_
  exact ⟨rfl,(hs.weak hle).cw⟩
 refine za2 <| sM hs rfl fun hs => ?_
 obtain ⟨x2, hx3, hm⟩ := ob hm
 refine s1 hs (zbi rfl has89 rfl (zhh n  hx3)) fun hs => s1 (v := .bool ((!x2))) hs (zfc rfl) fun hs => sM hs rfl fun hs => ?_
 refine St.split hs (t := 6) rfl (fun hg4 hs => ?_) (fun hg4 hs => ?_)
 ·replace hm := oc_t hg4 hm
  refine s2 (v := .int .i32 (p0)) hs (za3 rfl) fun hs => s2 hs (zeo rfl rfl) fun hs => sP hs rfl rfl fun hs => sM hs rfl fun hs => ?_
  refine St.split hs (t := 10) rfl (fun hg5 hs => ?_) (fun hg5 hs => ?_)
  ·replace hm := oc_t hg5 hm
   refine s2 (v := .int .i32 (p0)) hs (za3 rfl) fun hs => s2 hs (zeo rfl rfl) fun hs => sP hs rfl rfl fun hs => sM hs rfl fun hs => ?_
   refine St.split hs (t := 14) rfl (fun hg6 hs => ?_) (fun hg6 hs => ?_)
   ·replace hm := oc_t hg6 hm
    refine s2 (v := .int .i32 (p0)) hs (za3 rfl) fun hs => s2 hs (zeo rfl rfl) fun hs => sP hs rfl rfl fun hs => sA hs rfl fun hs => za0 ?_
    exact ⟨decide (p0 ≠ 62), hm, hs.sub ⟨rfl, trivial⟩⟩
   replace hm := oc_f hg6 hm
   refine s3 hs fun hs => s3 hs fun hs => sP hs rfl rfl fun hs => sA hs rfl fun hs => za0 ?_
   exact ⟨false, hm, hs.sub ⟨rfl, trivial⟩⟩
  replace hm := oc_f hg5 hm
  refine s3 hs fun hs => s3 hs fun hs => sP hs rfl rfl fun hs => sM hs rfl fun hs => s3 hs fun hs => s3 hs fun hs => sP hs rfl rfl fun hs => sA hs rfl fun hs => za0 ?_
  exact ⟨false, hm, hs.sub ⟨rfl, trivial⟩⟩
 replace hm := oc_f hg4 hm
 refine s3 hs fun hs => s3 hs fun hs => sP hs rfl rfl fun hs => sM hs rfl fun hs => s3 hs fun hs => s3 hs fun hs => sP hs rfl rfl fun hs => sM hs rfl fun hs => s3 hs fun hs => s3 hs fun hs => ?_
 refine sP hs rfl rfl fun hs => sA hs rfl fun hs => za0 ?_
 exact ⟨false, hm, hs.sub ⟨rfl, trivial⟩⟩
def zfl (n : Nat) (p0 : Int) (q0 : Int) : Option Bool :=
  some (decide (p0 ≠ q0))
theorem zke (n : Nat) {f : Fz} {p0 : Int} {cb0 : Nat} {q0 : Int} {ca0 : List Value} {res : Bool} (hq0 : (tInt .i32).R f ca0 q0) (hc0 : f cb0 = some (.cells ca0.toArray 21 (0,0))) (hm : zfl n p0 q0 = some res) : Gives Tryz.prog 107 [.int .i32 p0, pq cb0 0] f (.bool res) := by
 unfold zfl at hm
 intro w0 L w hC
 obtain rfl : _ = ([.int .i32 (q0)] : List Value) := hq0
 refine enter Tryz.func107 rfl Tryz.ntmps107 (by simp) hC fun a hs => ?_
 have hle := Fz.le.refl f
 refine Wq fun hK1 => sA hs rfl fun hs => za0 <| hK1 <| Wq fun hK2 => sM hs rfl fun hs => s1 (v := .int .i32 (q0)) hs (y_ld rfl U21 rfl (Cell.fz hc0 rfl)) fun hs => s1 hs (zeo rfl rfl) fun hs => ?_
 refine sA hs rfl fun hs => za0 <| hK2 <| zax ?_
 obtain rfl := Option.some.inj hm
 refine RtV1 hs rfl (rv_t hs rfl) ?_
 exact ⟨rfl,(hs.weak hle).cw⟩
def zf1 (p0 : zag) (y14 : (List Int)) (y19 : (List Int)) (y24 : Int) : Option ((List Int) × zag) :=
  some (y14,({c := ({l := y19, at_ := y24} : zaf), out := p0.out} : zag))
def zdb (n : Nat) (p0 : zag) (y31 : (List Int)) (y36 : Int) (y38 : (List Int)) (y43 : Int) (lp49 : (List Int) → Int → (List Int) → Int → Bool → Option ((List Int) × zag)) (y51 : Bool) : Option ((List Int) × zag) :=
  (bif y51 then (appM 4 y38 [y43]).bind fun x58 =>
  (zar n ({l := y31, at_ := y36} : zaf)).bind fun x64 =>
  (zb7 n x64.2.2 0).bind fun x72 =>
  lp49 x64.2.2.l x64.2.2.at_ x58 x72.1 x72.2 else
  zf1 p0 y38 y31 y36)
def zb6 (n : Nat) (p0 : zag) (p1 : (Int → Option Bool)) : Nat → (List Int) → Int → (List Int) → Int → Bool → Option ((List Int) × zag)
  | 0, _, _, _, _, _ => none
  | k49 + 1, y31, y36, y38, y43, y44 =>
  (bif y44 then (p1 y43).bind fun x75 =>
  zdb n p0 y31 y36 y38 y43 (zb6 n p0 p1 k49) x75 else
  zdb n p0 y31 y36 y38 y43 (zb6 n p0 p1 k49) false)
def zce (n : Nat) (p0 : zag) (p1 : (Int → Option Bool)) : Option ((List Int) × zag) :=
  (zb7 n p0.c 0).bind fun x9 =>
  zb6 n p0 p1 n p0.c.l p0.c.at_ ([] : List Int) x9.1 x9.2
theorem ze3 (n : Nat) {f : Fz} {p0 : zag} {pb0 : Nat} {pv0_0 : Nat} {pv0_1 : Value} {pv0_1r : List (List Value)} {pv0_2 : Value} {pv0_2r : List (List Value)} {p1 : (Int → Option Bool)} {g1 : FuncId} {cap1 : List Value} {res : ((List Int) × zag)} (pv0_1h : RW (tInt .i32) f pv0_1r p0.c.l) (pv0_2h : RW zb1 f pv0_2r p0.out) (hg1 : Has Tryz.prog g1) (hf1 : ∀ f', Fz.le f f' → ∀ (z0 : Int) (r : Bool), p1 z0 = some r → Gives Tryz.prog g1 ([.int .i32 z0] ++ cap1) f' (.bool r)) (hm : zce n p0 p1 = some res) : Does Tryz.prog 87 [pq pb0 0, .func (.func g1) #[] cap1.toArray] f [.blk pb0 (.cells #[pq pv0_0 0, pv0_2] 112 (0,0)), .blk pv0_0 (.cells #[pv0_1, .int .i64 p0.c.at_] 144 (0,0)), .row pv0_1 21 1 pv0_1r, .row pv0_2 104 5 pv0_2r] (fun r f' L' => ∃ (u0 : Value) (dp0_1 : Value) (dp0_1r : List (List Value)) (dp0_2 : Value) (dp0_2r : List (List Value)), L' = [.blk pb0 (.cells #[pq pv0_0 0, dp0_2] 112 (0,0)), .blk pv0_0 (.cells #[dp0_1, .int .i64 res.2.c.at_] 144 (0,0)), .row dp0_1 21 1 dp0_1r, .row dp0_2 104 5 dp0_2r] ∧ r = u0 ∧ RS (tInt .i32) f' u0 res.1 ∧ RW (tInt .i32) f' dp0_1r res.2.c.l ∧ RW zb1 f' dp0_2r res.2.out) := by
 unfold zce at hm
 intro w0 L w hC
 replace hC : Cw w0 f (.blk pb0 (.cells #[pq pv0_0 0, pv0_2] 112 (0,0)) :: .blk pv0_0 (.cells #[pv0_1, .int .i64 p0.c.at_] 144 (0,0)) :: .row pv0_1 21 1 pv0_1r :: .row pv0_2 104 5 pv0_2r :: L) w := hC
 refine enter Tryz.func87 rfl Tryz.ntmps87 (by simp) hC fun a hs => ?_
 have hle := Fz.le.refl f
 refine Wq fun hK1 => sA hs rfl fun hs => za0 <| hK1 <| Wq fun hK2 => sA hs rfl fun hs => za0 <| hK2 ?_
 refine Ws fun hK3 => Wq fun hK4 => sM hs rfl fun hs => s1 hs (za5 rfl) fun hs => s1 (v := pq pb0 0) hs (za1 rfl (FO.of (off := 0) U112 rfl rfl ti109 (by decide))) fun hs => s1 (v := pq pv0_0 0) hs (y_ld rfl U109 rfl (Cell.blk (.head _) rfl)) fun hs => ?_
 obtain ⟨x9, hx10, hm⟩ := ob hm
 refine s1 hs (zec (cap := []) (Lf := .blk pb0 (.cells #[pq pv0_0 0, pv0_2] 112 (0,0)) :: .row pv0_2 104 5 pv0_2r :: L) rfl has82 rfl ((zal _ 2 rfl).trans (zal _ 2 rfl)) (zcf n pv0_1h hx10)) fun hs => sM hs rfl fun hs => s1 (v := .int .i32 (x9.1)) hs (zap rfl rfl) fun hs => s1 (v := .bool (x9.2)) hs (zap rfl rfl) fun hs => sA hs rfl fun hs => sA hs rfl fun hs => za0 <| hK4 ?_
 have hbase25 := Fz.le.refl f
 refine zaq (fun a w => ∃ (f11 : Fz) (y14 : (List Int)) (y19 : (List Int)) (y24 : Int) (v15 : Value) (rw16 : List (List Value)) (v20 : Value) (rw21 : List (List Value)), Fz.le f f11 ∧ zf1 p0 y14 y19 y24 = some res ∧ RW (tInt .i32) f11 rw16 y14 ∧ RW (tInt .i32) f11 rw21 y19 ∧ St 40 w0 f11 (.row v15 21 1 rw16 :: .blk pb0 (.cells #[pq pv0_0 0, pv0_2] 112 (0,0)) :: .blk pv0_0 (.cells #[v20, .int .i64 (y24)] 144 (0,0)) :: .row v20 21 1 rw21 :: .row pv0_2 104 5 pv0_2r :: L) [(5, v15)] a w) ?_ ?_
 ·clear hs hm
  clear hbase25
  rintro a w ⟨f11, y14, y19, y24, v15, rw16, v20, rw21, hl12, hm, hW17, hW22, hs⟩
  replace pv0_2h := pv0_2h.le hl12
  replace hf1 := fun f'' h'' => hf1 f'' (hl12.trans h'')
  replace hle := hle.trans hl12
  unfold zf1 at hm
  refine hK3 <| Wq fun hK5 => sM hs rfl fun hs => sA hs rfl fun hs => za0 <| hK5 <| zax ?_
  obtain ⟨f26, hf27, hs2, hR28⟩ := hs.frzAt 0 rfl
  clear hs; have hs := hs2; clear hs2
  replace pv0_2h := pv0_2h.le hf27
  replace hf1 := fun f'' h'' => hf1 f'' (hf27.trans h'')
  replace hW17 := hW17.le hf27
  replace hW22 := hW22.le hf27
  replace hle := hle.trans hf27
  obtain rfl := Option.some.inj hm
  refine RtV1 hs rfl (rv_t hs rfl) ?_
  exact ⟨_, f26,[.blk pb0 (.cells #[pq pv0_0 0, pv0_2] 112 (0,0)), .blk pv0_0 (.cells #[v20, .int .i64 (y24)] 144 (0,0)), .row v20 21 1 rw21, .row pv0_2 104 5 pv0_2r], rfl, hle, hs.cw, v15, v20, rw21, pv0_2, pv0_2r, rfl, rfl, ⟨rw16, hR28, hW17⟩, hW22, pv0_2h⟩
 refine zam fun Qe6 hB6 hO6 => ?_
 have hbase := Fz.le.refl f
 replace hs := hs.nilRow 21 1
 have hW45 : RW (tInt .i32) f [] ([] : List Int) := trivial
 generalize hgrw46 : ([] : List (List Value)) = rw46 at hs hW45; clear hgrw46
 refine zd1 (fun (k : Nat) a w => ∃ (f29 : Fz) (y31 : (List Int)) (y36 : Int) (y38 : (List Int)) (y43 : Int) (y44 : Bool) (v32 : Value) (rw33 : List (List Value)) (v39 : Value) (rw40 : List (List Value)), Fz.le f f29 ∧ zb6 n p0 p1 k y31 y36 y38 y43 y44 = some res ∧ RW (tInt .i32) f29 rw33 y31 ∧ RW (tInt .i32) f29 rw40 y38 ∧ St 40 w0 f29 (.row v39 21 1 rw40 :: .blk pb0 (.cells #[pq pv0_0 0, pv0_2] 112 (0,0)) :: .blk pv0_0 (.cells #[v32, .int .i64 (y36)] 144 (0,0)) :: .row v32 21 1 rw33 :: .row pv0_2 104 5 pv0_2r :: L) [(0, pq pb0 0),(1, .func (.func g1) #[] cap1.toArray),(5, v39),(6, .int .i32 (y43)),(7, .bool (y44))] a w) (fun k => k) n ⟨_, p0.c.l, p0.c.at_,([] : List Int), x9.1, x9.2, pv0_1, pv0_1r,(.slice none 0 0), rw46,(Fz.le.refl _), hm, pv0_1h, hW45, hs.sub ⟨rfl, rfl, rfl, rfl, rfl, trivial⟩⟩ ?_
 clear hs hm
 intro k
 rintro a w ⟨f29, y31, y36, y38, y43, y44, v32, rw33, v39, rw40, hl30, hm, hW34, hW41, hs⟩
 replace hf1 := fun f'' h'' => hf1 f'' (hl30.trans h'')
 replace hbase25 := hbase25.trans hl30
 intro K7 hK7
 cases k with
 | zero => simp [zb6] at hm
 | succ k49 =>
  rw [zb6] at hm
  have hbase50 := hl30
  refine Ws fun hK8 => Ws fun hK9 => ?_
  refine zaq (fun a w => ∃ (y51 : Bool), zdb n p0 y31 y36 y38 y43 (zb6 n p0 p1 k49) y51 = some res ∧ St 40 w0 f29 (.row v39 21 1 rw40 :: .blk pb0 (.cells #[pq pv0_0 0, pv0_2] 112 (0,0)) :: .blk pv0_0 (.cells #[v32, .int .i64 (y36)] 144 (0,0)) :: .row v32 21 1 rw33 :: .row pv0_2 104 5 pv0_2r :: L) [(0, pq pb0 0),(1, .func (.func g1) #[] cap1.toArray),(5, v39),(6, .int .i32 (y43)),(21, .bool (y51))] a w) ?_ ?_
  ·clear hs hm
   rintro a w ⟨y51, hm, hs⟩
   unfold zdb at hm
   refine hK9 ?_
   refine zah hs rfl (fun hg52 => ?_) (fun hg52 => ?_)
   ·replace hm := oc_t hg52 hm
    refine zaj <| hK8 <| Ws fun hK10 => zam fun Qe11 hB11 hO11 => Wq fun hK12 => sM hs rfl fun hs => sM hs rfl fun hs => zg1 hs rfl U24 ti21 rfl rfl fun v53 _ _ hs => ?_
    have hW54 : RW (tInt .i32) f29 [[.int .i32 (y43)]] [y43] := RW.single (rfl)
    generalize hgrw55 : ([[.int .i32 (y43)]] : List (List Value)) = rw55 at hs hW54; clear hgrw55
    obtain ⟨x58, hx59, hm⟩ := ob hm
    obtain ⟨hbx58, hex58⟩ := zcb hx59
    have hW62 := hW41.append hW54; rw [hex58] at hW62
    refine zc9 (i := 1) hs rfl rfl rfl (Rd.st hs (.head _)) U24 ti21 (by decide) (by rw [RW.len hW41, RW.len hW54]; exact hbx58) (.free rfl) (by decide) fun v60 _ _ hs => ?_
    generalize hgx58 : rw40 ++ rw55 = rw61 at hs hW62; clear hgx58
    replace hs := hs.erase 0
    refine sA hs rfl fun hs => za0 <| hK12 <| za2 <| sM hs rfl fun hs => s1 hs (za5 rfl) fun hs => s1 (v := pq pb0 0) hs (za1 rfl (FO.of (off := 0) U112 rfl rfl ti109 (by decide))) fun hs => s1 (v := pq pv0_0 0) hs (y_ld rfl U109 rfl (Cell.blk (.tail _ (.head _)) rfl)) fun hs => ?_
    obtain ⟨x64, hx65, hm⟩ := ob hm
    replace hs := hs.front 3
    replace hs := hs.front 3
    refine zbb (Lr := [.blk pv0_0 (.cells #[v32, .int .i64 (y36)] 144 (0,0)), .row v32 21 1 rw33]) (Lf := .row v60 21 1 rw61 :: .blk pb0 (.cells #[pq pv0_0 0, pv0_2] 112 (0,0)) :: .row pv0_2 104 5 pv0_2r :: L) hs rfl has55 rfl rfl (zb0 n hW34 hx65) (.free rfl) (by decide) ?_; clear hs; (try clear a w)
    rintro _ f66 _ a w hf67 ⟨v68, rw69, rfl, rfl, hW70⟩ hs
    replace hf1 := fun f'' h'' => hf1 f'' (hf67.trans h'')
    replace hW62 := hW62.le hf67
    replace hbase50 := hbase50.trans hf67
    refine za0 <| hK10 <| za2 <| sM hs rfl fun hs => s1 hs (za5 rfl) fun hs => s1 (v := pq pb0 0) hs (za1 rfl (FO.of (off := 0) U112 rfl rfl ti109 (by decide))) fun hs => s1 (v := pq pv0_0 0) hs (y_ld rfl U109 rfl (Cell.blk (.tail _ (.tail _ (.tail _ (.head _)))) rfl)) fun hs => ?_
    obtain ⟨x72, hx73, hm⟩ := ob hm
    refine s1 hs (zec (cap := []) (Lf := .row v60 21 1 rw61 :: .blk pb0 (.cells #[pq pv0_0 0, pv0_2] 112 (0,0)) :: .row pv0_2 104 5 pv0_2r :: L) rfl has82 rfl ((zal _ 1 rfl).trans (zal _ 1 rfl)) (zcf n hW70 hx73)) fun hs => sM hs rfl fun hs => s1 (v := .int .i32 (x72.1)) hs (zap rfl rfl) fun hs => s1 (v := .bool (x72.2)) hs (zap rfl rfl) fun hs => sA hs rfl fun hs => sA hs rfl fun hs => za0 ?_
    replace hs := hs.front 4
    replace hs := hs.front 2
    replace hs := hs.front 2
    replace hs := hs.front 4
    replace hs := hs.front 4
    exact hK7 k49 _ _ (Nat.lt_succ_self _) ⟨_, x64.2.2.l, x64.2.2.at_, x58, x72.1, x72.2, v68, rw69, v60, rw61, hbase50, hm, hW70, hW62, hs.sub ⟨rfl, rfl, rfl, rfl, rfl, trivial⟩⟩
   replace hm := oc_f hg52 hm
   refine zc0 <| hB6 _ _ ?_
   exact ⟨_, y38, y31, y36, v39, rw40, v32, rw33, hbase25, hm, hW41, hW34, hs.sub ⟨rfl, trivial⟩⟩
  refine za2 <| sM hs rfl fun hs => sM hs rfl fun hs => ?_
  refine St.split hs (t := 17) rfl (fun hg74 hs => ?_) (fun hg74 hs => ?_)
  ·replace hm := oc_t hg74 hm
   refine s2 (v := .func (.func g1) #[] cap1.toArray) hs (za3 rfl) fun hs => s2 (v := .int .i32 (y43)) hs (za3 rfl) fun hs => ?_
   obtain ⟨x75, hx76, hm⟩ := ob hm
   refine s2 hs (y_callK rfl hg1 rfl (hf1 _ (Fz.le.refl _) y43 x75  hx76)) fun hs => sP hs rfl rfl fun hs => za0 ?_
   exact ⟨x75, hm, hs.sub ⟨rfl, rfl, rfl, rfl, rfl, trivial⟩⟩
  replace hm := oc_f hg74 hm
  refine s3 hs fun hs => s3 hs fun hs => s3 hs fun hs => sP hs rfl rfl fun hs => za0 ?_
  exact ⟨false, hm, hs.sub ⟨rfl, rfl, rfl, rfl, rfl, trivial⟩⟩
def zf6 (n : Nat) (p0 : zag) : Option (ByteArray × Bool × zag) :=
  (zbg n p0 0).bind fun x7 =>
  (bif ((decide (x7 ≠ 34)) && (decide (x7 ≠ 39))) then none else
  (zar n p0.c).bind fun x12 =>
  (zce n ({c := x12.2.2, out := p0.out} : zag) (fun z0 => zfl n z0 x7)).bind fun x23 =>
  (zar n x23.2.c).bind fun x40 =>
  some ((textOf x23.1), x40.2.1,({c := x40.2.2, out := x23.2.out} : zag)))
theorem zl5 (n : Nat) {f : Fz} {p0 : zag} {pb0 : Nat} {pv0_0 : Nat} {pv0_1 : Value} {pv0_1r : List (List Value)} {pv0_2 : Value} {pv0_2r : List (List Value)} {res : (ByteArray × Bool × zag)} (pv0_1h : RW (tInt .i32) f pv0_1r p0.c.l) (pv0_2h : RW zb1 f pv0_2r p0.out) (hm : zf6 n p0 = some res) : Does Tryz.prog 91 [pq pb0 0] f [.blk pb0 (.cells #[pq pv0_0 0, pv0_2] 112 (0,0)), .blk pv0_0 (.cells #[pv0_1, .int .i64 p0.c.at_] 144 (0,0)), .row pv0_1 21 1 pv0_1r, .row pv0_2 104 5 pv0_2r] (fun r f' L' => ∃ (dp0_1 : Value) (dp0_1r : List (List Value)) (dp0_2 : Value) (dp0_2r : List (List Value)), L' = [.blk pb0 (.cells #[pq pv0_0 0, dp0_2] 112 (0,0)), .blk pv0_0 (.cells #[dp0_1, .int .i64 res.2.2.c.at_] 144 (0,0)), .row dp0_1 21 1 dp0_1r, .row dp0_2 104 5 dp0_2r] ∧ r = .tuple #[.string res.1, .bool res.2.1] ∧ RW (tInt .i32) f' dp0_1r res.2.2.c.l ∧ RW zb1 f' dp0_2r res.2.2.out) := by
 unfold zf6 at hm
 intro w0 L w hC
 replace hC : Cw w0 f (.blk pb0 (.cells #[pq pv0_0 0, pv0_2] 112 (0,0)) :: .blk pv0_0 (.cells #[pv0_1, .int .i64 p0.c.at_] 144 (0,0)) :: .row pv0_1 21 1 pv0_1r :: .row pv0_2 104 5 pv0_2r :: L) w := hC
 refine enter Tryz.func91 rfl Tryz.ntmps91 (by simp) hC fun a hs => ?_
 have hle := Fz.le.refl f
 refine Wq fun hK1 => sA hs rfl fun hs => sA hs rfl fun hs => za0 <| hK1 <| Wq fun hK2 => sM hs rfl fun hs => ?_
 obtain ⟨x7, hx8, hm⟩ := ob hm
 refine s1 hs (zec (cap := []) (Lf := L) rfl has51 rfl ((((zal _ 3 rfl).trans (zal _ 3 rfl)).trans (zal _ 3 rfl)).trans (zal _ 3 rfl)) (zcw n pv0_1h pv0_2h hx8)) fun hs => zbl hs ti21 (.free rfl) (by decide) fun b9 _ _ hs => ?_
 replace hs : St _ _ _ (.blk b9 (.cells #[.int .i32 (0)] 21 (0,0)) :: .blk pb0 (.cells #[pq pv0_0 0, pv0_2] 112 (0,0)) :: .blk pv0_0 (.cells #[pv0_1, .int .i64 (p0.c.at_)] 144 (0,0)) :: .row pv0_1 21 1 pv0_1r :: .row pv0_2 104 5 pv0_2r :: L) _ _ _ := hs
 refine sstore 0 hs rfl rfl rfl ti21 rfl fun _ _ hs => za0 <| hK2 <| Ws fun hK3 => Ws fun hK4 => ?_
 refine zaq (fun a w => St 38 w0 f (.blk b9 (.cells #[.int .i32 (x7)] 21 (0,0)) :: .blk pb0 (.cells #[pq pv0_0 0, pv0_2] 112 (0,0)) :: .blk pv0_0 (.cells #[pv0_1, .int .i64 (p0.c.at_)] 144 (0,0)) :: .row pv0_1 21 1 pv0_1r :: .row pv0_2 104 5 pv0_2r :: L) [(0, pq pb0 0),(4, pq b9 0),(15, .bool (((decide (x7 ≠ 34)) && (decide (x7 ≠ 39)))))] a w) ?_ ?_
 ·clear hs; intro a w hs
  refine hK4 ?_
  refine zah hs rfl (fun hg11 => ?_) (fun hg11 => ?_)
  ·replace hm := oc_t hg11 hm
   refine Ws fun hK5 => ?_
   cases hm
  replace hm := oc_f hg11 hm
  refine zaj <| hK3 <| Wq fun hK6 => sM hs rfl fun hs => s1 hs (za5 rfl) fun hs => s1 (v := pq pb0 0) hs (za1 rfl (FO.of (off := 0) U112 rfl rfl ti109 (by decide))) fun hs => s1 (v := pq pv0_0 0) hs (y_ld rfl U109 rfl (Cell.blk (.tail _ (.head _)) rfl)) fun hs => ?_
  obtain ⟨x12, hx13, hm⟩ := ob hm
  replace hs := hs.front 3
  replace hs := hs.front 3
  refine zbb (Lr := [.blk pv0_0 (.cells #[pv0_1, .int .i64 (p0.c.at_)] 144 (0,0)), .row pv0_1 21 1 pv0_1r]) (Lf := .blk b9 (.cells #[.int .i32 (x7)] 21 (0,0)) :: .blk pb0 (.cells #[pq pv0_0 0, pv0_2] 112 (0,0)) :: .row pv0_2 104 5 pv0_2r :: L) hs rfl has55 rfl rfl (zb0 n pv0_1h hx13) (.free rfl) (by decide) ?_; clear hs; (try clear a w)
  rintro _ f14 _ a w hf15 ⟨v16, rw17, rfl, rfl, hW18⟩ hs
  replace pv0_2h := pv0_2h.le hf15
  replace hle := hle.trans hf15
  refine za0 <| hK6 <| Wq fun hK7 => sM hs rfl fun hs => ?_
  obtain ⟨f20, hf21, hs2, hB22⟩ := hs.frzB 2 rfl
  clear hs; have hs := hs2; clear hs2
  replace pv0_2h := pv0_2h.le hf21
  replace hW18 := hW18.le hf21
  replace hle := hle.trans hf21
  refine s1 hs (zmj rfl) fun hs => ?_
  obtain ⟨x23, hx24, hm⟩ := ob hm
  replace hs := hs.front 3
  replace hs := hs.front 2
  replace hs := hs.front 2
  replace hs := hs.front 3
  refine zbb (Lr := [.blk pb0 (.cells #[pq pv0_0 0, pv0_2] 112 (0,0)), .blk pv0_0 (.cells #[v16, .int .i64 (x12.2.2.at_)] 144 (0,0)), .row v16 21 1 rw17, .row pv0_2 104 5 pv0_2r]) (Lf := L) hs rfl has87 rfl rfl (ze3 n (f := f20) (p0 := ({c := x12.2.2, out := p0.out} : zag)) (pb0 := pb0) (pv0_0 := pv0_0) (pv0_1 := v16) (pv0_1r := rw17) (pv0_2 := pv0_2) (pv0_2r := pv0_2r) (g1 := 107) (cap1 := [pq b9 0]) hW18 pv0_2h has107 (fun f9 hle9 z0 r9  h9 => zke n (f := f9) (cb0 := b9) (ca0 := [.int .i32 (x7)]) rfl (hle9 _ _ hB22) h9) hx24) (.free rfl) (by decide) ?_; clear hs; (try clear a w)
  rintro v27 f25 _ a w hf26 ⟨_, v31, rw32, v34, rw35, rfl, rfl, ⟨rw28, hR29, hW30⟩, hW33, hW36⟩ hs
  replace hB22 := hf26 _ _ hB22
  replace hle := hle.trans hf26
  refine sA hs rfl fun hs => za0 <| hK7 <| Wq fun hK8 => sM hs rfl fun hs => s1 hs (za5 rfl) fun hs => s1 (v := pq pb0 0) hs (za1 rfl (FO.of (off := 0) U112 rfl rfl ti109 (by decide))) fun hs => s1 (v := pq pv0_0 0) hs (y_ld rfl U109 rfl (Cell.blk (.head _) rfl)) fun hs => ?_
  obtain ⟨x40, hx41, hm⟩ := ob hm
  replace hs := hs.front 2
  replace hs := hs.front 2
  refine zbb (Lr := [.blk pv0_0 (.cells #[v31, .int .i64 (x23.2.c.at_)] 144 (0,0)), .row v31 21 1 rw32]) (Lf := .blk pb0 (.cells #[pq pv0_0 0, v34] 112 (0,0)) :: .row v34 104 5 rw35 :: L) hs rfl has55 rfl rfl (zb0 n hW33 hx41) (.free rfl) (by decide) ?_; clear hs; (try clear a w)
  rintro _ f42 _ a w hf43 ⟨v44, rw45, rfl, rfl, hW46⟩ hs
  replace hB22 := hf43 _ _ hB22
  replace hR29 := hR29.le hf43
  replace hW30 := hW30.le hf43
  replace hW36 := hW36.le hf43
  replace hle := hle.trans hf43
  refine sM hs rfl fun hs => s1 (v := .int .i32 (x40.1)) hs (zap rfl rfl) fun hs => s1 (v := .bool (x40.2.1)) hs (zap rfl rfl) fun hs => sA hs rfl fun hs => sA hs rfl fun hs => za0 <| hK8 <| Wq fun hK9 => sM hs rfl fun hs => ?_
  refine s1 (v := .string ((textOf x23.1))) hs (zu4 rfl U24 U21 U9 hR29.up hW30) fun hs => sM hs rfl fun hs => sA hs rfl fun hs => sA hs rfl fun hs => za0 <| hK9 <| zax ?_
  obtain rfl := Option.some.inj hm
  replace hs := hs.front 3
  replace hs := hs.front 2
  replace hs := hs.front 2
  replace hs := hs.front 3
  refine RtV2 hs rfl (rv_t hs rfl) (rv_t hs rfl) ?_
  exact ⟨_, f42,[.blk pb0 (.cells #[pq pv0_0 0, v34] 112 (0,0)), .blk pv0_0 (.cells #[v44, .int .i64 (x40.2.2.at_)] 144 (0,0)), .row v44 21 1 rw45, .row v34 104 5 rw35], rfl, hle, hs.cw, v44, rw45, v34, rw35, rfl, rfl, hW46, hW36⟩
 refine za2 <| s1 (v := .int .i32 (x7)) hs (y_ld rfl U21 rfl (Cell.blk (.head _) rfl)) fun hs => s1 hs (zeo rfl rfl) fun hs => sM hs rfl fun hs => ?_
 refine St.split hs (t := 12) rfl (fun hg48 hs => ?_) (fun hg48 hs => ?_)
 ·refine s2 (v := .int .i32 (x7)) hs (y_ld rfl U21 rfl (Cell.blk (.head _) rfl)) fun hs => s2 hs (zeo rfl rfl) fun hs => sP hs rfl rfl fun hs => za0 ?_
  exact hs.sub ⟨rfl, rfl,(lkB (((zj0 hg48).trans rfl)) rfl), trivial⟩
 refine s3 hs fun hs => s3 hs fun hs => sP hs rfl rfl fun hs => za0 ?_
 exact hs.sub ⟨rfl, rfl,(lkB (((zmd hg48).trans rfl)) rfl), trivial⟩
def zit : Option Bool :=
  some false
def zfk (p0 : (List zab)) (p1 : ByteArray) : Nat → Int → Option Bool
  | 0, _ => none
  | k6 + 1, y5 =>
  (bif (decide (y5 < (p0.length : Int))) then (geti p0 y5).bind fun x8 =>
  (bif (decide (x8.Name = p1)) then some true else
  (zfk p0 p1 k6) (w64 (y5 + 1))) else
  zit)
def znc (n : Nat) (p0 : (List zab)) (p1 : ByteArray) : Option Bool :=
  zfk p0 p1 n 0
theorem zsb (n : Nat) {f : Fz} {p0 : (List zab)} {a0 : Value} {p1 : ByteArray} {res : Bool} (h0 : RS zbv f a0 p0) (hm : znc n p0 p1 = some res) : Gives Tryz.prog 92 [a0, .string p1] f (.bool res) := by
 unfold znc at hm
 intro w0 L w hC
 obtain ⟨rw1, hR2, hW3⟩ := h0
 refine enter Tryz.func92 rfl Tryz.ntmps92 (by simp) hC fun a hs => ?_
 have hle := Fz.le.refl f
 refine Wq fun hK1 => sA hs rfl fun hs => za0 <| hK1 <| Ws fun hK2 => Wq fun hK3 => sM hs rfl fun hs => s1 hs (zc3 hR2 hW3 rfl U43) fun hs => ?_
 refine sM hs rfl fun hs => za0 <| hK3 ?_
 refine zaq (fun a w => zit = some res ∧ St 18 w0 f (L) [] a w) ?_ ?_
 ·clear hs hm
  rintro a w ⟨hm, hs⟩
  unfold zit at hm
  refine hK2 <| Wq fun hK4 => sA hs rfl fun hs => za0 <| hK4 <| zax ?_
  obtain rfl := Option.some.inj hm
  refine RtV1 hs rfl (rv_t hs rfl) ?_
  exact ⟨rfl,(hs.weak hle).cw⟩
 refine zam fun Qe5 hB5 hO5 => zd1 (fun (k : Nat) a w => ∃ (y5 : Int), zfk p0 p1 k y5 = some res ∧ St 18 w0 f (L) [(1, .string (p1)),(7, a0),(8, .int .i64 ((p0.length : Int))),(9, .int .i64 (y5))] a w) (fun k => k) n ⟨0, hm, hs.sub ⟨rfl, rfl, rfl, rfl, trivial⟩⟩ ?_
 clear hs hm
 intro k
 rintro a w ⟨y5, hm, hs⟩
 intro K6 hK6
 cases k with
 | zero => simp [zfk] at hm
 | succ k6 =>
  rw [zfk] at hm
  refine Wq fun hK7 => s1 hs (zgq rfl rfl) fun hs => za0 <| hK7 <| Ws fun hK8 => ?_
  refine zah hs rfl (fun hg7 => ?_) (fun hg7 => ?_)
  ·replace hm := oc_t hg7 hm
   refine zaj <| hK8 <| Ws fun hK9 => zam fun Qe10 hB10 hO10 => Ws fun hK11 => za2 ?_
   obtain ⟨x8, hx9, hm⟩ := ob hm
   obtain ⟨r10, hr11, hq12, hi13, hb14⟩ := hW3.geti hx9
   obtain rfl : _ = ([.string (x8.Name), .string (x8.Value)] : List Value) := hq12
   refine s1 hs (zac hR2 rfl rfl hi13 hb14 U43 ti42) fun hs => s1 hs (zdn hR2.up rfl hr11 U42 rfl ti42) fun hs => zbl hs ti42 (.free rfl) (by decide) fun b15 _ _ hs => zb5 (i := 0) hs rfl rfl rfl ti42 ⟨rfl, rfl⟩ (AllC.arr (r := [.string (x8.Name), .string (x8.Value)]) ⟨rfl, rfl, trivial⟩) (.free rfl) fun _ _ hs => za0 <| hK11 <| Wq fun hK12 => s1 (v := pq b15 0) hs (za1 rfl (FO.of (off := 0) U42 rfl rfl ti9 (by decide))) fun hs => s1 (v := .string (x8.Name)) hs (y_ld rfl U9 rfl (Cell.blk (.head _) rfl)) fun hs => ?_
   refine sM hs rfl fun hs => s1 hs (zcs rfl rfl) fun hs => za0 <| hK12 ?_
   refine zah hs rfl (fun hg17 => ?_) (fun hg17 => ?_)
   ·replace hm := oc_t hg17 hm
    refine Wq fun hK13 => sA hs rfl fun hs => za0 <| hK13 <| zax ?_
    obtain rfl := Option.some.inj hm
    refine RtV1 hs rfl (rv_t hs rfl) ?_
    exact ⟨rfl,((hs.subL (.cons _ (.refl _))).weak hle).cw⟩
   replace hm := oc_f hg17 hm
   refine zaj <| hK9 <| za2 <| s1 hs (zdz rfl rfl rfl) fun hs => sM hs rfl fun hs => za0 ?_
   exact hK6 k6 _ _ (Nat.lt_succ_self _) ⟨(w64 (y5 + 1)), hm, hs.subs ⟨rfl, rfl, rfl, rfl, trivial⟩ (.cons _ (.refl _))⟩
  replace hm := oc_f hg7 hm
  refine zc0 <| hB5 _ _ ?_
  exact ⟨hm, hs.sub trivial⟩
end Go.Proofs.YtpfdbeafdjnbnaaGreatDoor
