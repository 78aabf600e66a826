/-
  Walks and laws of this seat.
-/
import Derived.Test.YtdjjeahiomackaaGreatBash
import Derived.Test.YtdjjeahiomackaaGreatT6
import Derived.Test.YtdjjeahiomackaaGreatRows
namespace Go.Proofs.YtdjjeahiomackaaGreat
set_option linter.unusedVariables false
set_option linter.unusedSimpArgs false
set_option linter.unusedSectionVars false
set_option maxHeartbeats 4000000
set_option maxRecDepth 100000
open Go.RowKit Go.Sl
def zhp (n : Nat) (p0 : (List Int)) : Option za7 :=
  (appM 4 ([] : List Int) p0).bind fun x10 =>
  some ({l := x10, at_ := 0} : za7)
theorem zld (n : Nat) {f : Fz} {p0 : (List Int)} {a0 : Value} {res : za7} (h0 : RS (tInt .i32) f a0 p0) (hm : zhp n p0 = some res) : Does Tryz.prog 67 [a0] f [] (fun r f' L' => ∃ (u0 : Nat) (u0_0 : Value) (u0_0r : List (List Value)), L' = [.blk u0 (.cells #[u0_0, .int .i64 res.at_] 126 (0,0)), .row u0_0 21 1 u0_0r] ∧ r = .pointer (some ⟨u0,0, none⟩) ∧ RW (tInt .i32) f' u0_0r res.l) := by
 unfold zhp at hm
 intro w0 L w hC
 obtain ⟨rw1, hR2, hW3⟩ := h0
 refine enter Tryz.func67 rfl Tryz.ntmps67 (by simp) hC fun a hs => ?_
 have hle := Fz.le.refl f
 refine Wq fun hK1 => sA hs rfl fun hs => za1 <| hK1 <| Wq fun hK2 => sM hs rfl fun hs => ?_
 replace hs := hs.nilRow 21 1
 have hW6 : RW (tInt .i32) f [] ([] : List Int) := trivial
 generalize hgrw7 : ([] : List (List Value)) = rw7 at hs hW6; clear hgrw7
 obtain ⟨x10, hx11, hm⟩ := ob hm
 obtain ⟨hbx10, hex10⟩ := zcs hx11
 have hW14 := hW6.append hW3; rw [hex10] at hW14
 refine zdb (i := 0) hs rfl rfl rfl hR2.up Tryz.underlying45 ti21 (by decide) (by rw [RW.len hW6, RW.len hW3]; exact hbx10) (.free rfl) (by decide) fun v12 _ _ hs => ?_
 generalize hgx10 : rw7 ++ rw1 = rw13 at hs hW14; clear hgx10
 refine s1 hs (zea (places := [(0,1),(1,1)]) (cs := [v12, .int .i64 (0)]) rfl Tryz.underlying126 ti126 (by kernel_rfl) (by decide) rfl ⟨(hs.one (i := 0) rfl), trivial⟩) fun hs => sbox hs rfl fun b17 _ _ hs => sA hs rfl fun hs => za1 <| hK2 <| zbl ?_
 obtain rfl := Option.some.inj hm
 refine RtV1 hs rfl (rv_t hs rfl) ?_
 exact ⟨_, f,[.blk b17 (.cells #[v12, .int .i64 (0)] 126 (0,0)), .row v12 21 1 rw13], rfl, hle, hs.cw, b17, v12, rw13, rfl, rfl, hW14⟩
def zcd (n : Nat) (p0 : za7) : Option Int :=
  some (w64 ((p0.l.length : Int) - p0.at_))
theorem zdn (n : Nat) {f : Fz} {p0 : za7} {pb0 : Nat} {pv0_0 : Value} {pv0_0r : List (List Value)} {res : Int} (pv0_0h : RW (tInt .i32) f pv0_0r p0.l) (hm : zcd n p0 = some res) : GivesL Tryz.prog 68 [.pointer (some ⟨pb0,0, none⟩)] f [.blk pb0 (.cells #[pv0_0, .int .i64 p0.at_] 126 (0,0)), .row pv0_0 21 1 pv0_0r] (.int .i64 res) := by
 unfold zcd at hm
 intro w0 L w hC
 replace hC : Cw w0 f (.blk pb0 (.cells #[pv0_0, .int .i64 p0.at_] 126 (0,0)) :: .row pv0_0 21 1 pv0_0r :: L) w := hC
 refine enter Tryz.func68 rfl Tryz.ntmps68 (by simp) hC fun a hs => ?_
 have hle := Fz.le.refl f
 refine Wq fun hK1 => sA hs rfl fun hs => za1 <| hK1 <| Ws fun hK2 => ?_
 refine zwc hs mixed (by kernel_rfl) ?_; intro a he
 refine qy (v := .pointer (some ⟨pb0,0, none⟩)) he (za9 rfl) fun _ he => qy he (za6 rfl) fun _ he => qy (v := .pointer (some ⟨pb0,0, none⟩)) he (za3 rfl (FO.of (off := 0) Tryz.underlying126 rfl rfl ti45 (by decide))) fun _ he => qy (v := pv0_0) he (y_ld rfl Tryz.underlying45 rfl (Cell.blk (.head _) rfl)) fun _ he => qy he (ze4 (Rd.st hs (.tail _ (.head _))) pv0_0h rfl Tryz.underlying45) fun _ he => qy (v := .pointer (some ⟨pb0,0, none⟩)) he (za9 rfl) fun _ he => qy he (za6 rfl) fun _ he => qy (v := .pointer (some ⟨pb0,1, none⟩)) he (za3 rfl (FO.of (off := 1) Tryz.underlying126 rfl rfl ti3 (by decide))) fun _ he => qy (v := .int .i64 (p0.at_)) he (y_ld rfl Tryz.underlying3 rfl (Cell.blk (.head _) rfl)) fun _ he => qy he (zlz rfl rfl rfl) fun _ he => ?_
 refine qy (v := .int .i64 ((w64 ((p0.l.length : Int) - p0.at_)))) he (zb2 rfl) fun _ he => ?_
 refine zwe he ?_; clear he; (try clear hs); (try clear a); intro a w hs
 refine hK2 <| zbl ?_
 obtain rfl := Option.some.inj hm
 refine RtV1 hs rfl (rv_t hs rfl) ?_
 exact ⟨rfl,(hs.weak hle).cw⟩
def zck (p0 : za7) (p1 : Int) (y4 : Bool) : Option (Int × Bool) :=
  (bif y4 then some (0, false) else
  (geti p0.l (w64 (p0.at_ + p1))).bind fun x6 =>
  some (x6, true))
def zbd (n : Nat) (p0 : za7) (p1 : Int) : Option (Int × Bool) :=
  (bif (decide (p1 < 0)) then zck p0 p1 true else
  (zcd n p0).bind fun x14 =>
  zck p0 p1 (decide (x14 ≤ p1)))
theorem zbp (n : Nat) {f : Fz} {p0 : za7} {pb0 : Nat} {pv0_0 : Value} {pv0_0r : List (List Value)} {p1 : Int} {res : (Int × Bool)} (pv0_0h : RW (tInt .i32) f pv0_0r p0.l) (hm : zbd n p0 p1 = some res) : GivesL Tryz.prog 84 [.pointer (some ⟨pb0,0, none⟩), .int .i64 p1] f [.blk pb0 (.cells #[pv0_0, .int .i64 p0.at_] 126 (0,0)), .row pv0_0 21 1 pv0_0r] (.tuple #[.int .i32 res.1, .bool res.2]) := by
 unfold zbd at hm
 intro w0 L w hC
 replace hC : Cw w0 f (.blk pb0 (.cells #[pv0_0, .int .i64 p0.at_] 126 (0,0)) :: .row pv0_0 21 1 pv0_0r :: L) w := hC
 refine enter Tryz.func84 rfl Tryz.ntmps84 (by simp) hC fun a hs => ?_
 have hle := Fz.le.refl f
 refine Wq fun hK1 => sA hs rfl fun hs => sA hs rfl fun hs => za1 <| hK1 <| Ws fun hK2 => Ws fun hK3 => ?_
 refine zay (fun a w => ∃ (y4 : Bool), zck p0 p1 y4 = some res ∧ St 28 w0 f (.blk pb0 (.cells #[pv0_0, .int .i64 (p0.at_)] 126 (0,0)) :: .row pv0_0 21 1 pv0_0r :: L) [(0, .pointer (some ⟨pb0,0, none⟩)),(1, .int .i64 (p1)),(14, .bool (y4))] a w) ?_ ?_
 ·clear hs hm
  rintro a w ⟨y4, hm, hs⟩
  unfold zck at hm
  refine hK3 ?_
  refine zag hs rfl (fun hg5 => ?_) (fun hg5 => ?_)
  ·replace hm := oc_t hg5 hm
   refine Wq fun hK4 => sA hs rfl fun hs => za1 <| hK4 <| Wq fun hK5 => sM hs rfl fun hs => sA hs rfl fun hs => sA hs rfl fun hs => ?_
   refine za1 <| hK5 <| zbl ?_
   obtain rfl := Option.some.inj hm
   refine RtV2 hs rfl (rv_t hs rfl) (rv_t hs rfl) ?_
   exact ⟨rfl,(hs.weak hle).cw⟩
  replace hm := oc_f hg5 hm
  refine zak <| hK2 <| Ws fun hK6 => ?_
  refine zwc hs mixed (by kernel_rfl) ?_; intro a he
  refine qy (v := .pointer (some ⟨pb0,0, none⟩)) he (za9 rfl) fun _ he => qy he (za6 rfl) fun _ he => qy (v := .pointer (some ⟨pb0,0, none⟩)) he (za3 rfl (FO.of (off := 0) Tryz.underlying126 rfl rfl ti45 (by decide))) fun _ he => qy (v := pv0_0) he (y_ld rfl Tryz.underlying45 rfl (Cell.blk (.head _) rfl)) fun _ he => qy (v := .pointer (some ⟨pb0,0, none⟩)) he (za9 rfl) fun _ he => qy he (za6 rfl) fun _ he => qy (v := .pointer (some ⟨pb0,1, none⟩)) he (za3 rfl (FO.of (off := 1) Tryz.underlying126 rfl rfl ti3 (by decide))) fun _ he => qy (v := .int .i64 (p0.at_)) he (y_ld rfl Tryz.underlying3 rfl (Cell.blk (.head _) rfl)) fun _ he => qy (v := .int .i64 (p1)) he (za9 rfl) fun _ he => qy he (zga rfl rfl rfl) fun _ he => ?_
  obtain ⟨x6, hx7, hm⟩ := ob hm
  obtain ⟨r8, hr9, hq10, hi11, hb12⟩ := pv0_0h.geti hx7
  obtain rfl : _ = ([.int .i32 (x6)] : List Value) := hq10
  refine qy he (zai (Rd.st hs (.tail _ (.head _))) rfl rfl hi11 hb12 Tryz.underlying45 ti21) fun _ he => qy (v := .int .i32 (x6)) he (ze3 (i := (w64 (p0.at_ + p1)).toNat) (j := 0) (Rd.st hs (.tail _ (.head _))) rfl hr9 rfl Tryz.underlying21 rfl) fun _ he => qy (v := .int .i32 (x6)) he (zb2 rfl) fun _ he => qy (v := .bool (true)) he (zb2 rfl) fun _ he => ?_
  refine zwe he ?_; clear he; (try clear hs); (try clear a); intro a w hs
  refine hK6 <| zbl ?_
  obtain rfl := Option.some.inj hm
  refine RtV2 hs rfl (rv_t hs rfl) (rv_t hs rfl) ?_
  exact ⟨rfl,(hs.weak hle).cw⟩
 refine za5 <| sM hs rfl fun hs => s1 hs (zhw rfl rfl) fun hs => sM hs rfl fun hs => ?_
 refine St.split hs (t := 9) rfl (fun hg13 hs => ?_) (fun hg13 hs => ?_)
 ·replace hm := oc_t hg13 hm
  refine s3 hs fun hs => s3 hs fun hs => s3 hs fun hs => s3 hs fun hs => sP hs rfl rfl fun hs => za1 ?_
  exact ⟨true, hm, hs.sub ⟨rfl, rfl, rfl, trivial⟩⟩
 replace hm := oc_f hg13 hm
 refine s2 (v := .int .i64 (p1)) hs (za9 rfl) fun hs => s2 (v := .pointer (some ⟨pb0,0, none⟩)) hs (za9 rfl) fun hs => ?_
 obtain ⟨x14, hx15, hm⟩ := ob hm
 refine s2 hs (zex (cap := []) (Lf := L) rfl has68 rfl ((zae _ 1 rfl).trans (zae _ 1 rfl)) (zdn n pv0_0h hx15)) fun hs => s2 hs (zqi rfl rfl) fun hs => sP hs rfl rfl fun hs => za1 ?_
 exact ⟨decide (x14 ≤ p1), hm, hs.sub ⟨rfl, rfl, rfl, trivial⟩⟩
def zcl (p0 : za7) (x4 : (Int × Bool)) (y6 : Int) : Option (Int × Bool × za7) :=
  some (x4.1, x4.2,({l := p0.l, at_ := y6} : za7))
def zb3 (n : Nat) (p0 : za7) : Option (Int × Bool × za7) :=
  (zbd n p0 0).bind fun x4 =>
  (bif x4.2 then zcl p0 x4 (w64 (p0.at_ + 1)) else
  zcl p0 x4 p0.at_)
theorem zbb (n : Nat) {f : Fz} {p0 : za7} {pb0 : Nat} {pv0_0 : Value} {pv0_0r : List (List Value)} {res : (Int × Bool × za7)} (pv0_0h : RW (tInt .i32) f pv0_0r p0.l) (hm : zb3 n p0 = some res) : Does Tryz.prog 75 [.pointer (some ⟨pb0,0, none⟩)] f [.blk pb0 (.cells #[pv0_0, .int .i64 p0.at_] 126 (0,0)), .row pv0_0 21 1 pv0_0r] (fun r f' L' => ∃ (dp0_0 : Value) (dp0_0r : List (List Value)), L' = [.blk pb0 (.cells #[dp0_0, .int .i64 res.2.2.at_] 126 (0,0)), .row dp0_0 21 1 dp0_0r] ∧ r = .tuple #[.int .i32 res.1, .bool res.2.1] ∧ RW (tInt .i32) f' dp0_0r res.2.2.l) := by
 unfold zb3 at hm
 intro w0 L w hC
 replace hC : Cw w0 f (.blk pb0 (.cells #[pv0_0, .int .i64 p0.at_] 126 (0,0)) :: .row pv0_0 21 1 pv0_0r :: L) w := hC
 refine enter Tryz.func75 rfl Tryz.ntmps75 (by simp) hC fun a hs => ?_
 have hle := Fz.le.refl f
 refine Wq fun hK1 => sA hs rfl fun hs => sA hs rfl fun hs => za1 <| hK1 <| Wq fun hK2 => sM hs rfl fun hs => ?_
 obtain ⟨x4, hx5, hm⟩ := ob hm
 refine s1 hs (zex (cap := []) (Lf := L) rfl has84 rfl ((zae _ 1 rfl).trans (zae _ 1 rfl)) (zbp n pv0_0h hx5)) fun hs => sM hs rfl fun hs => s1 (v := .int .i32 (x4.1)) hs (zan rfl rfl) fun hs => s1 (v := .bool (x4.2)) hs (zan rfl rfl) fun hs => sA hs rfl fun hs => sA hs rfl fun hs => za1 <| hK2 <| Ws fun hK3 => Ws fun hK4 => ?_
 refine za5 <| sM hs rfl fun hs => za1 <| hK4 ?_
 refine zay (fun a w => ∃ (y6 : Int), zcl p0 x4 y6 = some res ∧ St 21 w0 f (.blk pb0 (.cells #[pv0_0, .int .i64 (y6)] 126 (0,0)) :: .row pv0_0 21 1 pv0_0r :: L) [(4, .int .i32 (x4.1)),(5, .bool (x4.2))] a w) ?_ ?_
 ·clear hs hm
  rintro a w ⟨y6, hm, hs⟩
  unfold zcl at hm
  refine hK3 <| Wq fun hK5 => sM hs rfl fun hs => sM hs rfl fun hs => sA hs rfl fun hs => sA hs rfl fun hs => za1 <| hK5 <| zbl ?_
  obtain rfl := Option.some.inj hm
  refine RtV2 hs rfl (rv_t hs rfl) (rv_t hs rfl) ?_
  exact ⟨_, f,[.blk pb0 (.cells #[pv0_0, .int .i64 (y6)] 126 (0,0)), .row pv0_0 21 1 pv0_0r], rfl, hle, hs.cw, pv0_0, pv0_0r, rfl, rfl, pv0_0h⟩
 refine zag hs rfl (fun hg7 => ?_) (fun hg7 => ?_)
 ·replace hm := oc_t hg7 hm
  refine za5 <| sM hs rfl fun hs => s1 hs (za6 rfl) fun hs => s1 (v := .pointer (some ⟨pb0,1, none⟩)) hs (za3 rfl (FO.of (off := 1) Tryz.underlying126 rfl rfl ti3 (by decide))) fun hs => s1 (v := .int .i64 (p0.at_)) hs (y_ld rfl Tryz.underlying3 rfl (Cell.blk (.head _) rfl)) fun hs => s1 hs (zga rfl rfl rfl) fun hs => s1 hs (za6 rfl) fun hs => s1 (v := .pointer (some ⟨pb0,1, none⟩)) hs (za3 rfl (FO.of (off := 1) Tryz.underlying126 rfl rfl ti3 (by decide))) fun hs => sstore 0 hs rfl rfl rfl ti3 rfl fun _ _ hs => za1 ?_
  exact ⟨(w64 (p0.at_ + 1)), hm, hs.sub ⟨rfl, rfl, trivial⟩⟩
 replace hm := oc_f hg7 hm
 refine zak ?_
 exact ⟨p0.at_, hm, hs.sub ⟨rfl, rfl, trivial⟩⟩
def zk9 (n : Nat) (p0 : Int) : Option Bool :=
  some ((decide (p0 = 9)) || ((decide (p0 = 10)) || ((decide (p0 = 12)) || (decide (p0 = 32)))))
theorem zlj (n : Nat) {f : Fz} {p0 : Int} {res : Bool}  (hm : zk9 n p0 = some res) : Gives Tryz.prog 93 [.int .i32 p0] f (.bool res) := by
 unfold zk9 at hm
 intro w0 L w hC
 refine enter Tryz.func93 rfl Tryz.ntmps93 (by simp) hC fun a hs => ?_
 have hle := Fz.le.refl f
 refine Wq fun hK1 => sA hs rfl fun hs => za1 <| hK1 <| Ws fun hK2 => ?_
 refine zay (fun a w => St 17 w0 f (L) [(2, .bool (((decide (p0 = 9)) || ((decide (p0 = 10)) || ((decide (p0 = 12)) || (decide (p0 = 32)))))))] a w) ?_ ?_
 ·clear hs; intro a w hs
  refine hK2 <| zbl ?_
  obtain rfl := Option.some.inj hm
  refine RtV1 hs rfl (rv_t hs rfl) ?_
  exact ⟨rfl,(hs.weak hle).cw⟩
 refine za5 <| sM hs rfl fun hs => s1 hs (zh5 rfl rfl) fun hs => sM hs rfl fun hs => ?_
 refine St.split hs (t := 5) rfl (fun hg1 hs => ?_) (fun hg1 hs => ?_)
 ·refine s3 hs fun hs => s3 hs fun hs => sP hs rfl rfl fun hs => sM hs rfl fun hs => s3 hs fun hs => s3 hs fun hs => sP hs rfl rfl fun hs => sM hs rfl fun hs => s3 hs fun hs => s3 hs fun hs => ?_
  refine sP hs rfl rfl fun hs => sA hs rfl fun hs => za1 ?_
  exact hs.sub ⟨(lkB (((or_t hg1).trans rfl)) rfl), trivial⟩
 refine s2 (v := .int .i32 (p0)) hs (za9 rfl) fun hs => s2 hs (zh5 rfl rfl) fun hs => sP hs rfl rfl fun hs => sM hs rfl fun hs => ?_
 refine St.split hs (t := 9) rfl (fun hg2 hs => ?_) (fun hg2 hs => ?_)
 ·refine s3 hs fun hs => s3 hs fun hs => sP hs rfl rfl fun hs => sM hs rfl fun hs => s3 hs fun hs => s3 hs fun hs => sP hs rfl rfl fun hs => sA hs rfl fun hs => za1 ?_
  exact hs.sub ⟨(lkB (((or_f hg1).trans ((or_t hg2).trans rfl))) rfl), trivial⟩
 refine s2 (v := .int .i32 (p0)) hs (za9 rfl) fun hs => s2 hs (zh5 rfl rfl) fun hs => sP hs rfl rfl fun hs => sM hs rfl fun hs => ?_
 refine St.split hs (t := 13) rfl (fun hg3 hs => ?_) (fun hg3 hs => ?_)
 ·refine s3 hs fun hs => s3 hs fun hs => sP hs rfl rfl fun hs => sA hs rfl fun hs => za1 ?_
  exact hs.sub ⟨(lkB (((or_f hg1).trans ((or_f hg2).trans ((or_t hg3).trans rfl)))) rfl), trivial⟩
 refine s2 (v := .int .i32 (p0)) hs (za9 rfl) fun hs => s2 hs (zh5 rfl rfl) fun hs => sP hs rfl rfl fun hs => sA hs rfl fun hs => za1 ?_
 exact hs.sub ⟨(lkB (((or_f hg1).trans ((or_f hg2).trans ((or_f hg3).trans rfl)))) rfl), trivial⟩
def zht (n : Nat) (p0 : Int) : Option Bool :=
  some (bif (decide (97 ≤ p0)) then ((decide (p0 ≤ 122)) || ((decide (65 ≤ p0)) && (decide (p0 ≤ 90)))) else ((decide (65 ≤ p0)) && (decide (p0 ≤ 90))))
theorem zi9 (n : Nat) {f : Fz} {p0 : Int} {res : Bool}  (hm : zht n p0 = some res) : Gives Tryz.prog 70 [.int .i32 p0] f (.bool res) := by
 unfold zht at hm
 intro w0 L w hC
 refine enter Tryz.func70 rfl Tryz.ntmps70 (by simp) hC fun a hs => ?_
 have hle := Fz.le.refl f
 refine Wq fun hK1 => sA hs rfl fun hs => za1 <| hK1 <| Ws fun hK2 => ?_
 refine zay (fun a w => St 17 w0 f (L) [(2, .bool ((bif (decide (97 ≤ p0)) then ((decide (p0 ≤ 122)) || ((decide (65 ≤ p0)) && (decide (p0 ≤ 90)))) else ((decide (65 ≤ p0)) && (decide (p0 ≤ 90))))))] a w) ?_ ?_
 ·clear hs; intro a w hs
  refine hK2 <| zbl ?_
  obtain rfl := Option.some.inj hm
  refine RtV1 hs rfl (rv_t hs rfl) ?_
  exact ⟨rfl,(hs.weak hle).cw⟩
 refine za5 <| sM hs rfl fun hs => s1 hs (zqi rfl rfl) fun hs => sM hs rfl fun hs => ?_
 refine St.split hs (t := 5) rfl (fun hg1 hs => ?_) (fun hg1 hs => ?_)
 ·refine s2 (v := .int .i32 (p0)) hs (za9 rfl) fun hs => s2 hs (zui rfl rfl) fun hs => sP hs rfl rfl fun hs => sM hs rfl fun hs => ?_
  refine St.split hs (t := 9) rfl (fun hg2 hs => ?_) (fun hg2 hs => ?_)
  ·refine s3 hs fun hs => s3 hs fun hs => s3 hs fun hs => s4 hs fun hs => s4 hs fun hs => s3 hs fun hs => sP hs rfl rfl fun hs => sA hs rfl fun hs => za1 ?_
   exact hs.sub ⟨(lkB (((bif_t hg1).trans ((or_t hg2).trans rfl))) rfl), trivial⟩
  refine s2 (v := .int .i32 (p0)) hs (za9 rfl) fun hs => s2 hs (zqi rfl rfl) fun hs => s2 (v := .bool (decide (65 ≤ p0))) hs (za9 rfl) fun hs => ?_
  refine St.split hs (t := 12) rfl (fun hg3 hs => ?_) (fun hg3 hs => ?_)
  ·refine s2 (v := .int .i32 (p0)) hs (za9 rfl) fun hs => s2 hs (zui rfl rfl) fun hs => s2 (v := .bool (decide (p0 ≤ 90))) hs (zdf rfl rfl) fun hs => sP hs rfl rfl fun hs => sA hs rfl fun hs => za1 ?_
   exact hs.sub ⟨(lkB (((bif_t hg1).trans ((or_f hg2).trans ((zj8 hg3).trans rfl)))) rfl), trivial⟩
  refine s3 hs fun hs => s3 hs fun hs => s2 (v := .bool (false)) hs (zdf rfl rfl) fun hs => sP hs rfl rfl fun hs => sA hs rfl fun hs => za1 ?_
  exact hs.sub ⟨(lkB (((bif_t hg1).trans ((or_f hg2).trans ((zoq hg3).trans rfl)))) rfl), trivial⟩
 refine s3 hs fun hs => s3 hs fun hs => sP hs rfl rfl fun hs => sM hs rfl fun hs => s2 (v := .int .i32 (p0)) hs (za9 rfl) fun hs => s2 hs (zqi rfl rfl) fun hs => s2 (v := .bool (decide (65 ≤ p0))) hs (za9 rfl) fun hs => ?_
 refine St.split hs (t := 12) rfl (fun hg4 hs => ?_) (fun hg4 hs => ?_)
 ·refine s2 (v := .int .i32 (p0)) hs (za9 rfl) fun hs => s2 hs (zui rfl rfl) fun hs => s2 (v := .bool (decide (p0 ≤ 90))) hs (zdf rfl rfl) fun hs => sP hs rfl rfl fun hs => sA hs rfl fun hs => za1 ?_
  exact hs.sub ⟨(lkB (((bif_f hg1).trans ((zj8 hg4).trans rfl))) rfl), trivial⟩
 refine s3 hs fun hs => s3 hs fun hs => s2 (v := .bool (false)) hs (zdf rfl rfl) fun hs => sP hs rfl rfl fun hs => sA hs rfl fun hs => za1 ?_
 exact hs.sub ⟨(lkB (((bif_f hg1).trans ((zoq hg4).trans rfl))) rfl), trivial⟩
def zj3 (y16 : (List Int)) : Option ByteArray :=
  some (textOf y16)
def zhb (y26 : Int) (lp27 : (List Int) → Int → Option ByteArray) (y36 : (List Int)) : Option ByteArray :=
  lp27 y36 (w64 (y26 + 1))
def zef (x10 : (List Int)) : Nat → (List Int) → Int → Option ByteArray
  | 0, _, _ => none
  | k27 + 1, y21, y26 =>
  (bif (decide (y26 < (x10.length : Int))) then (geti y21 y26).bind fun x29 =>
  (bif ((decide (65 ≤ x29)) && (decide (x29 ≤ 90))) then (geti y21 y26).bind fun x42 =>
  (seti y21 y26 (IntKind.i32.wrap ((IntKind.i32.wrap (x29 + 97)) - 65))).bind fun x49 =>
  zhb y26 (zef x10 k27) x49 else
  zhb y26 (zef x10 k27) y21) else
  zj3 y21)
def zmb (n : Nat) (p0 : (List Int)) : Option ByteArray :=
  (appM 4 ([] : List Int) p0).bind fun x10 =>
  zef x10 n x10 0
theorem zpq (n : Nat) {f : Fz} {p0 : (List Int)} {a0 : Value} {res : ByteArray} (h0 : RS (tInt .i32) f a0 p0) (hm : zmb n p0 = some res) : Gives Tryz.prog 90 [a0] f (.string res) := by
 unfold zmb at hm
 intro w0 L w hC
 obtain ⟨rw1, hR2, hW3⟩ := h0
 refine enter Tryz.func90 rfl Tryz.ntmps90 (by simp) hC fun a hs => ?_
 have hle := Fz.le.refl f
 refine Wq fun hK1 => sA hs rfl fun hs => za1 <| hK1 <| Wq fun hK2 => sM hs rfl fun hs => ?_
 replace hs := hs.nilRow 21 1
 have hW6 : RW (tInt .i32) f [] ([] : List Int) := trivial
 generalize hgrw7 : ([] : List (List Value)) = rw7 at hs hW6; clear hgrw7
 obtain ⟨x10, hx11, hm⟩ := ob hm
 obtain ⟨hbx10, hex10⟩ := zcs hx11
 have hW14 := hW6.append hW3; rw [hex10] at hW14
 refine zdb (i := 0) hs rfl rfl rfl hR2.up Tryz.underlying45 ti21 (by decide) (by rw [RW.len hW6, RW.len hW3]; exact hbx10) (.free rfl) (by decide) fun v12 _ _ hs => ?_
 generalize hgx10 : rw7 ++ rw1 = rw13 at hs hW14; clear hgx10
 refine sA hs rfl fun hs => za1 <| hK2 <| Ws fun hK3 => Wq fun hK4 => sM hs rfl fun hs => s1 hs (ze4 (Rd.st hs (.head _)) hW14 rfl Tryz.underlying45) fun hs => sM hs rfl fun hs => za1 ?_
 refine hK4 ?_
 refine zay (fun a w => ∃ (y16 : (List Int)) (v17 : Value) (rw18 : List (List Value)), zj3 y16 = some res ∧ RW (tInt .i32) f rw18 y16 ∧ St 30 w0 f (.row v17 21 1 rw18 :: L) [(3, v17)] a w) ?_ ?_
 ·clear hs hm
  rintro a w ⟨y16, v17, rw18, hm, hW19, hs⟩
  unfold zj3 at hm
  refine hK3 <| Wq fun hK5 => sM hs rfl fun hs => s1 (v := .string ((textOf y16))) hs (zuf rfl Tryz.underlying45 Tryz.underlying21 Tryz.underlying9 (Rd.st hs (.head _)) hW19) fun hs => sA hs rfl fun hs => za1 <| hK5 <| zbl ?_
  obtain rfl := Option.some.inj hm
  refine RtV1 hs rfl (rv_t hs rfl) ?_
  exact ⟨rfl,((hs.subL (.cons _ (.refl _))).weak hle).cw⟩
 refine zas fun Qe6 hB6 hO6 => zeu (fun (k : Nat) a w => ∃ (y21 : (List Int)) (y26 : Int) (v22 : Value) (rw23 : List (List Value)), zef x10 k y21 y26 = some res ∧ RW (tInt .i32) f rw23 y21 ∧ St 30 w0 f (.row v22 21 1 rw23 :: L) [(3, v22),(8, v22),(9, .int .i64 ((x10.length : Int))),(10, .int .i64 (y26))] a w) (fun k => k) n ⟨x10,0, v12, rw13, hm, hW14, hs.sub ⟨rfl, rfl, rfl, rfl, trivial⟩⟩ ?_
 clear hs hm
 intro k
 rintro a w ⟨y21, y26, v22, rw23, hm, hW24, hs⟩
 intro K7 hK7
 cases k with
 | zero => simp [zef] at hm
 | succ k27 =>
  rw [zef] at hm
  refine Wq fun hK8 => s1 hs (zhw rfl rfl) fun hs => za1 <| hK8 <| Ws fun hK9 => ?_
  refine zag hs rfl (fun hg28 => ?_) (fun hg28 => ?_)
  ·replace hm := oc_t hg28 hm
   refine zak <| hK9 <| Ws fun hK10 => zas fun Qe11 hB11 hO11 => Wq fun hK12 => sM hs rfl fun hs => ?_
   obtain ⟨x29, hx30, hm⟩ := ob hm
   obtain ⟨r31, hr32, hq33, hi34, hb35⟩ := hW24.geti hx30
   obtain rfl : _ = ([.int .i32 (x29)] : List Value) := hq33
   refine s1 hs (zai (Rd.st hs (.head _)) rfl rfl hi34 hb35 Tryz.underlying45 ti21) fun hs => s1 (v := .int .i32 (x29)) hs (ze3 (i := y26.toNat) (j := 0) (Rd.st hs (.head _)) rfl hr32 rfl Tryz.underlying21 rfl) fun hs => sA hs rfl fun hs => sA hs rfl fun hs => za1 <| hK12 <| Ws fun hK13 => ?_
   refine zay (fun a w => St 30 w0 f (.row v22 21 1 rw23 :: L) [(3, v22),(4, .int .i64 (y26)),(5, .int .i32 (x29)),(8, v22),(9, .int .i64 ((x10.length : Int))),(10, .int .i64 (y26)),(20, .bool (((decide (65 ≤ x29)) && (decide (x29 ≤ 90)))))] a w) ?_ ?_
   ·clear hs; intro a w hs
    refine hK13 ?_
    refine zay (fun a w => ∃ (y36 : (List Int)) (v37 : Value) (rw38 : List (List Value)), zhb y26 (zef x10 k27) y36 = some res ∧ RW (tInt .i32) f rw38 y36 ∧ St 30 w0 f (.row v37 21 1 rw38 :: L) [(3, v37),(8, v37),(9, .int .i64 ((x10.length : Int))),(10, .int .i64 (y26))] a w) ?_ ?_
    ·clear hs hm
     rintro a w ⟨y36, v37, rw38, hm, hW39, hs⟩
     unfold zhb at hm
     refine hK10 <| za5 <| s1 hs (zga rfl rfl rfl) fun hs => sM hs rfl fun hs => za1 ?_
     exact hK7 k27 _ _ (Nat.lt_succ_self _) ⟨y36,(w64 (y26 + 1)), v37, rw38, hm, hW39, hs.sub ⟨rfl, rfl, rfl, rfl, trivial⟩⟩
    refine zag hs rfl (fun hg41 => ?_) (fun hg41 => ?_)
    ·replace hm := oc_t hg41 hm
     refine za5 <| sM hs rfl fun hs => sM hs rfl fun hs => sM hs rfl fun hs => s1 hs (zga rfl rfl rfl) fun hs => s1 hs (zlz rfl rfl rfl) fun hs => ?_
     obtain ⟨x42, hx43, hm⟩ := ob hm
     obtain ⟨r44, hr45, hq46, hi47, hb48⟩ := hW24.geti hx43
     obtain rfl : _ = ([.int .i32 (x42)] : List Value) := hq46
     refine s1 hs (zai (Rd.st hs (.head _)) rfl rfl hi47 hb48 Tryz.underlying45 ti21) fun hs => ?_
     obtain ⟨x49, hx50, hm⟩ := ob hm
     have hex49 := zjh hx50
     have hW52 := RW.set (i := y26.toNat) (r := [.int .i32 ((IntKind.i32.wrap ((IntKind.i32.wrap (x29 + 97)) - 65)))]) (x := ((IntKind.i32.wrap ((IntKind.i32.wrap (x29 + 97)) - 65)) : Int)) hW24 (rfl); rw [hex49] at hW52
     refine zgr (i := 0) (j := 0) (m := y26.toNat) hs rfl rfl rfl hr45 (by decide) ti21 rfl (.free rfl) fun _ _ hs => ?_
     replace hs : St _ _ _ (.row v22 21 1 (rw23.set y26.toNat [.int .i32 ((IntKind.i32.wrap ((IntKind.i32.wrap (x29 + 97)) - 65)))]) :: L) _ _ _ := hs
     generalize hgrw51 : rw23.set y26.toNat [.int .i32 ((IntKind.i32.wrap ((IntKind.i32.wrap (x29 + 97)) - 65)))] = rw51 at hs hW52; clear hgrw51
     refine za1 ?_
     exact ⟨x49, v22, rw51, hm, hW52, hs.sub ⟨rfl, rfl, rfl, rfl, trivial⟩⟩
    replace hm := oc_f hg41 hm
    refine zak ?_
    exact ⟨y21, v22, rw23, hm, hW24, hs.sub ⟨rfl, rfl, rfl, rfl, trivial⟩⟩
   refine za5 <| sM hs rfl fun hs => s1 hs (zqi rfl rfl) fun hs => sM hs rfl fun hs => ?_
   refine St.split hs (t := 17) rfl (fun hg54 hs => ?_) (fun hg54 hs => ?_)
   ·refine s2 (v := .int .i32 (x29)) hs (za9 rfl) fun hs => s2 hs (zui rfl rfl) fun hs => sP hs rfl rfl fun hs => za1 ?_
    exact hs.sub ⟨rfl, rfl, rfl, rfl, rfl, rfl,(lkB (((zj8 hg54).trans rfl)) rfl), trivial⟩
   refine s3 hs fun hs => s3 hs fun hs => sP hs rfl rfl fun hs => za1 ?_
   exact hs.sub ⟨rfl, rfl, rfl, rfl, rfl, rfl,(lkB (((zoq hg54).trans rfl)) rfl), trivial⟩
  replace hm := oc_f hg28 hm
  refine ze8 <| hB6 _ _ ?_
  exact ⟨y21, v22, rw23, hm, hW24, hs.sub ⟨rfl, trivial⟩⟩
def zd7 (n : Nat) (p0 : zac) (p1 : Int) : Option Int :=
  (zbd n p0.c p1).bind fun x7 =>
  some x7.1
theorem zdk (n : Nat) {f : Fz} {p0 : zac} {pb0 : Nat} {pv0_0 : Nat} {pv0_1 : Value} {pv0_1r : List (List Value)} {pv0_2 : Value} {pv0_2r : List (List Value)} {p1 : Int} {res : Int} (pv0_1h : RW (tInt .i32) f pv0_1r p0.c.l) (pv0_2h : RW zaf f pv0_2r p0.out) (hm : zd7 n p0 p1 = some res) : GivesL Tryz.prog 71 [.pointer (some ⟨pb0,0, none⟩), .int .i64 p1] f [.blk pb0 (.cells #[.pointer (some ⟨pv0_0,0, none⟩), pv0_2] 113 (0,0)), .blk pv0_0 (.cells #[pv0_1, .int .i64 p0.c.at_] 126 (0,0)), .row pv0_1 21 1 pv0_1r, .row pv0_2 27 5 pv0_2r] (.int .i32 res) := by
 unfold zd7 at hm
 intro w0 L w hC
 replace hC : Cw w0 f (.blk pb0 (.cells #[.pointer (some ⟨pv0_0,0, none⟩), pv0_2] 113 (0,0)) :: .blk pv0_0 (.cells #[pv0_1, .int .i64 p0.c.at_] 126 (0,0)) :: .row pv0_1 21 1 pv0_1r :: .row pv0_2 27 5 pv0_2r :: L) w := hC
 refine enter Tryz.func71 rfl Tryz.ntmps71 (by simp) hC fun a hs => ?_
 have hle := Fz.le.refl f
 refine Wq fun hK1 => sA hs rfl fun hs => za1 <| hK1 <| Wq fun hK2 => sM hs rfl fun hs => s1 hs (za6 rfl) fun hs => s1 (v := .pointer (some ⟨pb0,0, none⟩)) hs (za3 rfl (FO.of (off := 0) Tryz.underlying113 rfl rfl ti110 (by decide))) fun hs => ?_
 refine s1 (v := .pointer (some ⟨pv0_0,0, none⟩)) hs (y_ld rfl Tryz.underlying110 rfl (Cell.blk (.head _) rfl)) fun hs => sM hs rfl fun hs => ?_
 obtain ⟨x7, hx8, hm⟩ := ob hm
 refine s1 hs (zex (cap := []) (Lf := .blk pb0 (.cells #[.pointer (some ⟨pv0_0,0, none⟩), pv0_2] 113 (0,0)) :: .row pv0_2 27 5 pv0_2r :: L) rfl has84 rfl ((zae _ 2 rfl).trans (zae _ 2 rfl)) (zbp n pv0_1h hx8)) fun hs => sM hs rfl fun hs => s1 (v := .int .i32 (x7.1)) hs (zan rfl rfl) fun hs => s1 (v := .bool (x7.2)) hs (zan rfl rfl) fun hs => sA hs rfl fun hs => sA hs rfl fun hs => za1 <| hK2 <| Ws fun hK3 => za5 ?_
 refine sM hs rfl fun hs => sA hs rfl fun hs => za1 <| hK3 <| zbl ?_
 obtain rfl := Option.some.inj hm
 refine RtV1 hs rfl (rv_t hs rfl) ?_
 exact ⟨rfl,(hs.weak hle).cw⟩
def zgp : Option Bool :=
  some true
def ze6 (n : Nat) (p0 : zac) (p1 : Int) (x7 : (List Int)) : Nat → Int → Option Bool
  | 0, _ => none
  | k15 + 1, y14 =>
  (bif (decide (y14 < (x7.length : Int))) then (geti x7 y14).bind fun x17 =>
  (zbd n p0.c (w64 (p1 + y14))).bind fun x24 =>
  (bif ((!x24.2) || (decide (x24.1 ≠ x17))) then some false else
  (ze6 n p0 p1 x7 k15) (w64 (y14 + 1))) else
  zgp)
def zgt (n : Nat) (p0 : zac) (p1 : Int) (p2 : ByteArray) : Option Bool :=
  (runesM p2).bind fun x7 =>
  ze6 n p0 p1 x7 n 0
theorem zim (n : Nat) {f : Fz} {p0 : zac} {pb0 : Nat} {pv0_0 : Nat} {pv0_1 : Value} {pv0_1r : List (List Value)} {pv0_2 : Value} {pv0_2r : List (List Value)} {p1 : Int} {p2 : ByteArray} {res : Bool} (pv0_1h : RW (tInt .i32) f pv0_1r p0.c.l) (pv0_2h : RW zaf f pv0_2r p0.out) (hm : zgt n p0 p1 p2 = some res) : GivesL Tryz.prog 72 [.pointer (some ⟨pb0,0, none⟩), .int .i64 p1, .string p2] f [.blk pb0 (.cells #[.pointer (some ⟨pv0_0,0, none⟩), pv0_2] 113 (0,0)), .blk pv0_0 (.cells #[pv0_1, .int .i64 p0.c.at_] 126 (0,0)), .row pv0_1 21 1 pv0_1r, .row pv0_2 27 5 pv0_2r] (.bool res) := by
 unfold zgt at hm
 intro w0 L w hC
 replace hC : Cw w0 f (.blk pb0 (.cells #[.pointer (some ⟨pv0_0,0, none⟩), pv0_2] 113 (0,0)) :: .blk pv0_0 (.cells #[pv0_1, .int .i64 p0.c.at_] 126 (0,0)) :: .row pv0_1 21 1 pv0_1r :: .row pv0_2 27 5 pv0_2r :: L) w := hC
 refine enter Tryz.func72 rfl Tryz.ntmps72 (by simp) hC fun a hs => ?_
 have hle := Fz.le.refl f
 refine Wq fun hK1 => sA hs rfl fun hs => za1 <| hK1 <| Ws fun hK2 => Wq fun hK3 => sM hs rfl fun hs => ?_
 obtain ⟨x7, hx8, hm⟩ := ob hm
 refine zwd hx8 hs rfl Tryz.underlying9 Tryz.underlying45 Tryz.underlying21 fun v9 rw10 _ _ hW11 hs => s1 hs (ze4 (Rd.st hs (.head _)) hW11 rfl Tryz.underlying45) fun hs => sM hs rfl fun hs => za1 <| hK3 ?_
 refine zay (fun a w => zgp = some res ∧ St 38 w0 f (.blk pb0 (.cells #[.pointer (some ⟨pv0_0,0, none⟩), pv0_2] 113 (0,0)) :: .blk pv0_0 (.cells #[pv0_1, .int .i64 (p0.c.at_)] 126 (0,0)) :: .row pv0_1 21 1 pv0_1r :: .row pv0_2 27 5 pv0_2r :: L) [] a w) ?_ ?_
 ·clear hs hm
  rintro a w ⟨hm, hs⟩
  unfold zgp at hm
  refine hK2 <| Wq fun hK4 => sA hs rfl fun hs => za1 <| hK4 <| zbl ?_
  obtain rfl := Option.some.inj hm
  refine RtV1 hs rfl (rv_t hs rfl) ?_
  exact ⟨rfl,(hs.weak hle).cw⟩
 refine zas fun Qe5 hB5 hO5 => zeu (fun (k : Nat) a w => ∃ (y14 : Int), ze6 n p0 p1 x7 k y14 = some res ∧ St 38 w0 f (.row v9 21 1 rw10 :: .blk pb0 (.cells #[.pointer (some ⟨pv0_0,0, none⟩), pv0_2] 113 (0,0)) :: .blk pv0_0 (.cells #[pv0_1, .int .i64 (p0.c.at_)] 126 (0,0)) :: .row pv0_1 21 1 pv0_1r :: .row pv0_2 27 5 pv0_2r :: L) [(0, .pointer (some ⟨pb0,0, none⟩)),(1, .int .i64 (p1)),(12, v9),(13, .int .i64 ((x7.length : Int))),(14, .int .i64 (y14))] a w) (fun k => k) n ⟨0, hm, hs.sub ⟨rfl, rfl, rfl, rfl, rfl, trivial⟩⟩ ?_
 clear hs hm
 intro k
 rintro a w ⟨y14, hm, hs⟩
 intro K6 hK6
 cases k with
 | zero => simp [ze6] at hm
 | succ k15 =>
  rw [ze6] at hm
  refine Wq fun hK7 => s1 hs (zhw rfl rfl) fun hs => za1 <| hK7 <| Ws fun hK8 => ?_
  refine zag hs rfl (fun hg16 => ?_) (fun hg16 => ?_)
  ·replace hm := oc_t hg16 hm
   refine zak <| hK8 <| Ws fun hK9 => zas fun Qe10 hB10 hO10 => Wq fun hK11 => sM hs rfl fun hs => ?_
   obtain ⟨x17, hx18, hm⟩ := ob hm
   obtain ⟨r19, hr20, hq21, hi22, hb23⟩ := hW11.geti hx18
   obtain rfl : _ = ([.int .i32 (x17)] : List Value) := hq21
   refine s1 hs (zai (Rd.st hs (.head _)) rfl rfl hi22 hb23 Tryz.underlying45 ti21) fun hs => s1 (v := .int .i32 (x17)) hs (ze3 (i := y14.toNat) (j := 0) (Rd.st hs (.head _)) rfl hr20 rfl Tryz.underlying21 rfl) fun hs => sA hs rfl fun hs => sA hs rfl fun hs => za1 <| hK11 <| Wq fun hK12 => sM hs rfl fun hs => s1 hs (za6 rfl) fun hs => ?_
   refine s1 (v := .pointer (some ⟨pb0,0, none⟩)) hs (za3 rfl (FO.of (off := 0) Tryz.underlying113 rfl rfl ti110 (by decide))) fun hs => s1 (v := .pointer (some ⟨pv0_0,0, none⟩)) hs (y_ld rfl Tryz.underlying110 rfl (Cell.blk (.tail _ (.head _)) rfl)) fun hs => sM hs rfl fun hs => sM hs rfl fun hs => s1 hs (zga rfl rfl rfl) fun hs => ?_
   obtain ⟨x24, hx25, hm⟩ := ob hm
   refine s1 hs (zex (cap := []) (Lf := .row v9 21 1 rw10 :: .blk pb0 (.cells #[.pointer (some ⟨pv0_0,0, none⟩), pv0_2] 113 (0,0)) :: .row pv0_2 27 5 pv0_2r :: L) rfl has84 rfl ((zae _ 3 rfl).trans (zae _ 3 rfl)) (zbp n pv0_1h hx25)) fun hs => sM hs rfl fun hs => s1 (v := .int .i32 (x24.1)) hs (zan rfl rfl) fun hs => s1 (v := .bool (x24.2)) hs (zan rfl rfl) fun hs => sA hs rfl fun hs => sA hs rfl fun hs => za1 <| hK12 <| Ws fun hK13 => ?_
   refine zay (fun a w => St 38 w0 f (.row v9 21 1 rw10 :: .blk pb0 (.cells #[.pointer (some ⟨pv0_0,0, none⟩), pv0_2] 113 (0,0)) :: .blk pv0_0 (.cells #[pv0_1, .int .i64 (p0.c.at_)] 126 (0,0)) :: .row pv0_1 21 1 pv0_1r :: .row pv0_2 27 5 pv0_2r :: L) [(0, .pointer (some ⟨pb0,0, none⟩)),(1, .int .i64 (p1)),(12, v9),(13, .int .i64 ((x7.length : Int))),(14, .int .i64 (y14)),(36, .bool (((!x24.2) || (decide (x24.1 ≠ x17)))))] a w) ?_ ?_
   ·clear hs; intro a w hs
    refine hK13 ?_
    refine zag hs rfl (fun hg26 => ?_) (fun hg26 => ?_)
    ·replace hm := oc_t hg26 hm
     refine Wq fun hK14 => sA hs rfl fun hs => za1 <| hK14 <| zbl ?_
     obtain rfl := Option.some.inj hm
     refine RtV1 hs rfl (rv_t hs rfl) ?_
     exact ⟨rfl,((hs.subL (.cons _ (.cons_cons _ (.cons_cons _ (.cons_cons _ (.cons_cons _ (.refl _))))))).weak hle).cw⟩
    replace hm := oc_f hg26 hm
    refine zak <| hK9 <| za5 <| s1 hs (zga rfl rfl rfl) fun hs => sM hs rfl fun hs => za1 ?_
    exact hK6 k15 _ _ (Nat.lt_succ_self _) ⟨(w64 (y14 + 1)), hm, hs.sub ⟨rfl, rfl, rfl, rfl, rfl, trivial⟩⟩
   refine za5 <| sM hs rfl fun hs => s1 (v := .bool ((!x24.2))) hs (zku rfl) fun hs => sM hs rfl fun hs => ?_
   refine St.split hs (t := 32) rfl (fun hg27 hs => ?_) (fun hg27 hs => ?_)
   ·refine s3 hs fun hs => s3 hs fun hs => s3 hs fun hs => sP hs rfl rfl fun hs => za1 ?_
    exact hs.sub ⟨rfl, rfl, rfl, rfl, rfl,(lkB (((or_t hg27).trans rfl)) rfl), trivial⟩
   refine s2 (v := .int .i32 (x24.1)) hs (za9 rfl) fun hs => s2 (v := .int .i32 (x17)) hs (za9 rfl) fun hs => s2 hs (zje rfl rfl) fun hs => sP hs rfl rfl fun hs => za1 ?_
   exact hs.sub ⟨rfl, rfl, rfl, rfl, rfl,(lkB (((or_f hg27).trans rfl)) rfl), trivial⟩
  replace hm := oc_f hg16 hm
  refine ze8 <| hB5 _ _ ?_
  exact ⟨hm, hs.subs trivial (.cons _ (.cons_cons _ (.cons_cons _ (.cons_cons _ (.cons_cons _ (.refl _))))))⟩
def zc8 (y12 : Bool) : Option Bool :=
  some y12
def zes (n : Nat) (p0 : zac) : Option Bool :=
  (zgt n p0 0 (bs [60])).bind fun x7 =>
  (bif (!x7) then some false else
  (zd7 n p0 1).bind fun x10 =>
  (zht n x10).bind fun x13 =>
  (bif x13 then zc8 true else
  (bif (decide (x10 = 33)) then zc8 true else
  (bif (decide (x10 = 63)) then zc8 true else
  zc8 (decide (x10 = 47))))))
theorem zh0 (n : Nat) {f : Fz} {p0 : zac} {pb0 : Nat} {pv0_0 : Nat} {pv0_1 : Value} {pv0_1r : List (List Value)} {pv0_2 : Value} {pv0_2r : List (List Value)} {res : Bool} (pv0_1h : RW (tInt .i32) f pv0_1r p0.c.l) (pv0_2h : RW zaf f pv0_2r p0.out) (hm : zes n p0 = some res) : GivesL Tryz.prog 69 [.pointer (some ⟨pb0,0, none⟩)] f [.blk pb0 (.cells #[.pointer (some ⟨pv0_0,0, none⟩), pv0_2] 113 (0,0)), .blk pv0_0 (.cells #[pv0_1, .int .i64 p0.c.at_] 126 (0,0)), .row pv0_1 21 1 pv0_1r, .row pv0_2 27 5 pv0_2r] (.bool res) := by
 unfold zes at hm
 intro w0 L w hC
 replace hC : Cw w0 f (.blk pb0 (.cells #[.pointer (some ⟨pv0_0,0, none⟩), pv0_2] 113 (0,0)) :: .blk pv0_0 (.cells #[pv0_1, .int .i64 p0.c.at_] 126 (0,0)) :: .row pv0_1 21 1 pv0_1r :: .row pv0_2 27 5 pv0_2r :: L) w := hC
 refine enter Tryz.func69 rfl Tryz.ntmps69 (by simp) hC fun a hs => ?_
 have hle := Fz.le.refl f
 refine Wq fun hK1 => sA hs rfl fun hs => za1 <| hK1 <| Ws fun hK2 => Wq fun hK3 => sM hs rfl fun hs => ?_
 obtain ⟨x7, hx8, hm⟩ := ob hm
 refine s1 hs (zex (cap := []) (Lf := L) rfl has72 rfl ((((zae _ 3 rfl).trans (zae _ 3 rfl)).trans (zae _ 3 rfl)).trans (zae _ 3 rfl)) (zim n pv0_1h pv0_2h hx8)) fun hs => s1 (v := .bool ((!x7))) hs (zku rfl) fun hs => za1 <| hK3 ?_
 refine zag hs rfl (fun hg9 => ?_) (fun hg9 => ?_)
 ·replace hm := oc_t hg9 hm
  refine Wq fun hK4 => sA hs rfl fun hs => za1 <| hK4 <| zbl ?_
  obtain rfl := Option.some.inj hm
  refine RtV1 hs rfl (rv_t hs rfl) ?_
  exact ⟨rfl,(hs.weak hle).cw⟩
 replace hm := oc_f hg9 hm
 refine zak <| hK2 <| Wq fun hK5 => sM hs rfl fun hs => ?_
 obtain ⟨x10, hx11, hm⟩ := ob hm
 refine s1 hs (zex (cap := []) (Lf := L) rfl has71 rfl ((((zae _ 3 rfl).trans (zae _ 3 rfl)).trans (zae _ 3 rfl)).trans (zae _ 3 rfl)) (zdk n pv0_1h pv0_2h hx11)) fun hs => sA hs rfl fun hs => za1 <| hK5 <| Ws fun hK6 => ?_
 refine zay (fun a w => ∃ (y12 : Bool), zc8 y12 = some res ∧ St 23 w0 f (.blk pb0 (.cells #[.pointer (some ⟨pv0_0,0, none⟩), pv0_2] 113 (0,0)) :: .blk pv0_0 (.cells #[pv0_1, .int .i64 (p0.c.at_)] 126 (0,0)) :: .row pv0_1 21 1 pv0_1r :: .row pv0_2 27 5 pv0_2r :: L) [(2, .bool (y12))] a w) ?_ ?_
 ·clear hs hm
  rintro a w ⟨y12, hm, hs⟩
  unfold zc8 at hm
  refine hK6 <| zbl ?_
  obtain rfl := Option.some.inj hm
  refine RtV1 hs rfl (rv_t hs rfl) ?_
  exact ⟨rfl,(hs.weak hle).cw⟩
 refine za5 <| sM hs rfl fun hs => ?_
 obtain ⟨x13, hx14, hm⟩ := ob hm
 refine s1 hs (zfu rfl has70 rfl (zi9 n  hx14)) fun hs => sM hs rfl fun hs => ?_
 refine St.split hs (t := 11) rfl (fun hg15 hs => ?_) (fun hg15 hs => ?_)
 ·replace hm := oc_t hg15 hm
  refine s3 hs fun hs => s3 hs fun hs => sP hs rfl rfl fun hs => sM hs rfl fun hs => s3 hs fun hs => s3 hs fun hs => sP hs rfl rfl fun hs => sM hs rfl fun hs => s3 hs fun hs => s3 hs fun hs => ?_
  refine sP hs rfl rfl fun hs => sA hs rfl fun hs => za1 ?_
  exact ⟨true, hm, hs.sub ⟨rfl, trivial⟩⟩
 replace hm := oc_f hg15 hm
 refine s2 (v := .int .i32 (x10)) hs (za9 rfl) fun hs => s2 hs (zh5 rfl rfl) fun hs => sP hs rfl rfl fun hs => sM hs rfl fun hs => ?_
 refine St.split hs (t := 15) rfl (fun hg16 hs => ?_) (fun hg16 hs => ?_)
 ·replace hm := oc_t hg16 hm
  refine s3 hs fun hs => s3 hs fun hs => sP hs rfl rfl fun hs => sM hs rfl fun hs => s3 hs fun hs => s3 hs fun hs => sP hs rfl rfl fun hs => sA hs rfl fun hs => za1 ?_
  exact ⟨true, hm, hs.sub ⟨rfl, trivial⟩⟩
 replace hm := oc_f hg16 hm
 refine s2 (v := .int .i32 (x10)) hs (za9 rfl) fun hs => s2 hs (zh5 rfl rfl) fun hs => sP hs rfl rfl fun hs => sM hs rfl fun hs => ?_
 refine St.split hs (t := 19) rfl (fun hg17 hs => ?_) (fun hg17 hs => ?_)
 ·replace hm := oc_t hg17 hm
  refine s3 hs fun hs => s3 hs fun hs => sP hs rfl rfl fun hs => sA hs rfl fun hs => za1 ?_
  exact ⟨true, hm, hs.sub ⟨rfl, trivial⟩⟩
 replace hm := oc_f hg17 hm
 refine s2 (v := .int .i32 (x10)) hs (za9 rfl) fun hs => s2 hs (zh5 rfl rfl) fun hs => sP hs rfl rfl fun hs => sA hs rfl fun hs => za1 ?_
 exact ⟨decide (x10 = 47), hm, hs.sub ⟨rfl, trivial⟩⟩
def zda (y1 : Bool) : Option Bool :=
  some y1
def zgo (n : Nat) (p0 : Int) : Option Bool :=
  (zk9 n p0).bind fun x2 =>
  (bif (!x2) then (bif (decide (p0 ≠ 47)) then zda (decide (p0 ≠ 62)) else
  zda false) else
  zda false)
theorem zkf (n : Nat) {f : Fz} {p0 : Int} {res : Bool}  (hm : zgo n p0 = some res) : Gives Tryz.prog 92 [.int .i32 p0] f (.bool res) := by
 unfold zgo at hm
 intro w0 L w hC
 refine enter Tryz.func92 rfl Tryz.ntmps92 (by simp) hC fun a hs => ?_
 have hle := Fz.le.refl f
 refine Wq fun hK1 => sA hs rfl fun hs => za1 <| hK1 <| Ws fun hK2 => ?_
 refine zay (fun a w => ∃ (y1 : Bool), zda y1 = some res ∧ St 14 w0 f (L) [(2, .bool (y1))] a w) ?_ ?_
 ·clear hs hm
  rintro a w ⟨y1, hm, hs⟩
  unfold zda at hm
  refine hK2 <| zbl ?_
  obtain rfl := Option.some.inj hm
  refine RtV1 hs rfl (rv_t hs rfl) ?_
  exact ⟨rfl,(hs.weak hle).cw⟩
 refine za5 <| sM hs rfl fun hs => ?_
 obtain ⟨x2, hx3, hm⟩ := ob hm
 refine s1 hs (zfu rfl has93 rfl (zlj n  hx3)) fun hs => s1 (v := .bool ((!x2))) hs (zku rfl) fun hs => sM hs rfl fun hs => ?_
 refine St.split hs (t := 6) rfl (fun hg4 hs => ?_) (fun hg4 hs => ?_)
 ·replace hm := oc_t hg4 hm
  refine s2 (v := .int .i32 (p0)) hs (za9 rfl) fun hs => s2 hs (zje rfl rfl) fun hs => sP hs rfl rfl fun hs => sM hs rfl fun hs => ?_
  refine St.split hs (t := 10) rfl (fun hg5 hs => ?_) (fun hg5 hs => ?_)
  ·replace hm := oc_t hg5 hm
   refine s2 (v := .int .i32 (p0)) hs (za9 rfl) fun hs => s2 hs (zje rfl rfl) fun hs => sP hs rfl rfl fun hs => sA hs rfl fun hs => za1 ?_
   exact ⟨decide (p0 ≠ 62), hm, hs.sub ⟨rfl, trivial⟩⟩
  replace hm := oc_f hg5 hm
  refine s3 hs fun hs => s3 hs fun hs => sP hs rfl rfl fun hs => sA hs rfl fun hs => za1 ?_
  exact ⟨false, hm, hs.sub ⟨rfl, trivial⟩⟩
 replace hm := oc_f hg4 hm
 refine s3 hs fun hs => s3 hs fun hs => sP hs rfl rfl fun hs => sM hs rfl fun hs => s3 hs fun hs => s3 hs fun hs => sP hs rfl rfl fun hs => sA hs rfl fun hs => za1 ?_
 exact ⟨false, hm, hs.sub ⟨rfl, trivial⟩⟩
def zff (p0 : zac) (y14 : (List Int)) (y19 : (List Int)) (y24 : Int) : Option ((List Int) × zac) :=
  some (y14,({c := ({l := y19, at_ := y24} : za7), out := p0.out} : zac))
def ze1 (n : Nat) (p0 : zac) (y31 : (List Int)) (y36 : Int) (y38 : (List Int)) (y43 : Int) (lp49 : (List Int) → Int → (List Int) → Int → Bool → Option ((List Int) × zac)) (y51 : Bool) : Option ((List Int) × zac) :=
  (bif y51 then (appM 4 y38 [y43]).bind fun x58 =>
  (zb3 n ({l := y31, at_ := y36} : za7)).bind fun x64 =>
  (zbd n x64.2.2 0).bind fun x72 =>
  lp49 x64.2.2.l x64.2.2.at_ x58 x72.1 x72.2 else
  zff p0 y38 y31 y36)
def zbs (n : Nat) (p0 : zac) (p1 : (Int → Option Bool)) : Nat → (List Int) → Int → (List Int) → Int → Bool → Option ((List Int) × zac)
  | 0, _, _, _, _, _ => none
  | k49 + 1, y31, y36, y38, y43, y44 =>
  (bif y44 then (p1 y43).bind fun x75 =>
  ze1 n p0 y31 y36 y38 y43 (zbs n p0 p1 k49) x75 else
  ze1 n p0 y31 y36 y38 y43 (zbs n p0 p1 k49) false)
def zgn (n : Nat) (p0 : zac) (p1 : (Int → Option Bool)) : Option ((List Int) × zac) :=
  (zbd n p0.c 0).bind fun x9 =>
  zbs n p0 p1 n p0.c.l p0.c.at_ ([] : List Int) x9.1 x9.2
theorem zke (n : Nat) {f : Fz} {p0 : zac} {pb0 : Nat} {pv0_0 : Nat} {pv0_1 : Value} {pv0_1r : List (List Value)} {pv0_2 : Value} {pv0_2r : List (List Value)} {p1 : (Int → Option Bool)} {g1 : FuncId} {cap1 : List Value} {res : ((List Int) × zac)} (pv0_1h : RW (tInt .i32) f pv0_1r p0.c.l) (pv0_2h : RW zaf f pv0_2r p0.out) (hg1 : Has Tryz.prog g1) (hf1 : ∀ f', Fz.le f f' → ∀ (z0 : Int) (r : Bool), p1 z0 = some r → Gives Tryz.prog g1 ([.int .i32 z0] ++ cap1) f' (.bool r)) (hm : zgn n p0 p1 = some res) : Does Tryz.prog 91 [.pointer (some ⟨pb0,0, none⟩), .func (.func g1) #[] cap1.toArray] f [.blk pb0 (.cells #[.pointer (some ⟨pv0_0,0, none⟩), pv0_2] 113 (0,0)), .blk pv0_0 (.cells #[pv0_1, .int .i64 p0.c.at_] 126 (0,0)), .row pv0_1 21 1 pv0_1r, .row pv0_2 27 5 pv0_2r] (fun r f' L' => ∃ (u0 : Value) (dp0_1 : Value) (dp0_1r : List (List Value)) (dp0_2 : Value) (dp0_2r : List (List Value)), L' = [.blk pb0 (.cells #[.pointer (some ⟨pv0_0,0, none⟩), dp0_2] 113 (0,0)), .blk pv0_0 (.cells #[dp0_1, .int .i64 res.2.c.at_] 126 (0,0)), .row dp0_1 21 1 dp0_1r, .row dp0_2 27 5 dp0_2r] ∧ r = u0 ∧ RS (tInt .i32) f' u0 res.1 ∧ RW (tInt .i32) f' dp0_1r res.2.c.l ∧ RW zaf f' dp0_2r res.2.out) := by
 unfold zgn at hm
 intro w0 L w hC
 replace hC : Cw w0 f (.blk pb0 (.cells #[.pointer (some ⟨pv0_0,0, none⟩), pv0_2] 113 (0,0)) :: .blk pv0_0 (.cells #[pv0_1, .int .i64 p0.c.at_] 126 (0,0)) :: .row pv0_1 21 1 pv0_1r :: .row pv0_2 27 5 pv0_2r :: L) w := hC
 refine enter Tryz.func91 rfl Tryz.ntmps91 (by simp) hC fun a hs => ?_
 have hle := Fz.le.refl f
 refine Wq fun hK1 => sA hs rfl fun hs => za1 <| hK1 <| Wq fun hK2 => sA hs rfl fun hs => za1 <| hK2 ?_
 refine Ws fun hK3 => Wq fun hK4 => sM hs rfl fun hs => s1 hs (za6 rfl) fun hs => s1 (v := .pointer (some ⟨pb0,0, none⟩)) hs (za3 rfl (FO.of (off := 0) Tryz.underlying113 rfl rfl ti110 (by decide))) fun hs => s1 (v := .pointer (some ⟨pv0_0,0, none⟩)) hs (y_ld rfl Tryz.underlying110 rfl (Cell.blk (.head _) rfl)) fun hs => ?_
 obtain ⟨x9, hx10, hm⟩ := ob hm
 refine s1 hs (zex (cap := []) (Lf := .blk pb0 (.cells #[.pointer (some ⟨pv0_0,0, none⟩), pv0_2] 113 (0,0)) :: .row pv0_2 27 5 pv0_2r :: L) rfl has84 rfl ((zae _ 2 rfl).trans (zae _ 2 rfl)) (zbp n pv0_1h hx10)) fun hs => sM hs rfl fun hs => s1 (v := .int .i32 (x9.1)) hs (zan rfl rfl) fun hs => s1 (v := .bool (x9.2)) hs (zan rfl rfl) fun hs => sA hs rfl fun hs => sA hs rfl fun hs => za1 <| hK4 ?_
 have hbase25 := Fz.le.refl f
 refine zay (fun a w => ∃ (f11 : Fz) (y14 : (List Int)) (y19 : (List Int)) (y24 : Int) (v15 : Value) (rw16 : List (List Value)) (v20 : Value) (rw21 : List (List Value)), Fz.le f f11 ∧ zff p0 y14 y19 y24 = some res ∧ RW (tInt .i32) f11 rw16 y14 ∧ RW (tInt .i32) f11 rw21 y19 ∧ St 40 w0 f11 (.row v15 21 1 rw16 :: .blk pb0 (.cells #[.pointer (some ⟨pv0_0,0, none⟩), pv0_2] 113 (0,0)) :: .blk pv0_0 (.cells #[v20, .int .i64 (y24)] 126 (0,0)) :: .row v20 21 1 rw21 :: .row pv0_2 27 5 pv0_2r :: L) [(5, v15)] a w) ?_ ?_
 ·clear hs hm
  clear hbase25
  rintro a w ⟨f11, y14, y19, y24, v15, rw16, v20, rw21, hl12, hm, hW17, hW22, hs⟩
  replace pv0_2h := pv0_2h.le hl12
  replace hf1 := fun f'' h'' => hf1 f'' (hl12.trans h'')
  replace hle := hle.trans hl12
  unfold zff at hm
  refine hK3 <| Wq fun hK5 => sM hs rfl fun hs => sA hs rfl fun hs => za1 <| hK5 <| zbl ?_
  obtain ⟨f26, hf27, hs2, hR28⟩ := hs.frzAt 0 rfl
  clear hs; have hs := hs2; clear hs2
  replace pv0_2h := pv0_2h.le hf27
  replace hf1 := fun f'' h'' => hf1 f'' (hf27.trans h'')
  replace hW17 := hW17.le hf27
  replace hW22 := hW22.le hf27
  replace hle := hle.trans hf27
  obtain rfl := Option.some.inj hm
  refine RtV1 hs rfl (rv_t hs rfl) ?_
  exact ⟨_, f26,[.blk pb0 (.cells #[.pointer (some ⟨pv0_0,0, none⟩), pv0_2] 113 (0,0)), .blk pv0_0 (.cells #[v20, .int .i64 (y24)] 126 (0,0)), .row v20 21 1 rw21, .row pv0_2 27 5 pv0_2r], rfl, hle, hs.cw, v15, v20, rw21, pv0_2, pv0_2r, rfl, rfl, ⟨rw16, hR28, hW17⟩, hW22, pv0_2h⟩
 refine zas fun Qe6 hB6 hO6 => ?_
 have hbase := Fz.le.refl f
 replace hs := hs.nilRow 21 1
 have hW45 : RW (tInt .i32) f [] ([] : List Int) := trivial
 generalize hgrw46 : ([] : List (List Value)) = rw46 at hs hW45; clear hgrw46
 refine zeu (fun (k : Nat) a w => ∃ (f29 : Fz) (y31 : (List Int)) (y36 : Int) (y38 : (List Int)) (y43 : Int) (y44 : Bool) (v32 : Value) (rw33 : List (List Value)) (v39 : Value) (rw40 : List (List Value)), Fz.le f f29 ∧ zbs n p0 p1 k y31 y36 y38 y43 y44 = some res ∧ RW (tInt .i32) f29 rw33 y31 ∧ RW (tInt .i32) f29 rw40 y38 ∧ St 40 w0 f29 (.row v39 21 1 rw40 :: .blk pb0 (.cells #[.pointer (some ⟨pv0_0,0, none⟩), pv0_2] 113 (0,0)) :: .blk pv0_0 (.cells #[v32, .int .i64 (y36)] 126 (0,0)) :: .row v32 21 1 rw33 :: .row pv0_2 27 5 pv0_2r :: L) [(0, .pointer (some ⟨pb0,0, none⟩)),(1, .func (.func g1) #[] cap1.toArray),(5, v39),(6, .int .i32 (y43)),(7, .bool (y44))] a w) (fun k => k) n ⟨_, p0.c.l, p0.c.at_,([] : List Int), x9.1, x9.2, pv0_1, pv0_1r,(.slice none 0 0), rw46,(Fz.le.refl _), hm, pv0_1h, hW45, hs.sub ⟨rfl, rfl, rfl, rfl, rfl, trivial⟩⟩ ?_
 clear hs hm
 intro k
 rintro a w ⟨f29, y31, y36, y38, y43, y44, v32, rw33, v39, rw40, hl30, hm, hW34, hW41, hs⟩
 replace hf1 := fun f'' h'' => hf1 f'' (hl30.trans h'')
 replace hbase25 := hbase25.trans hl30
 intro K7 hK7
 cases k with
 | zero => simp [zbs] at hm
 | succ k49 =>
  rw [zbs] at hm
  have hbase50 := hl30
  refine Ws fun hK8 => Ws fun hK9 => ?_
  refine zay (fun a w => ∃ (y51 : Bool), ze1 n p0 y31 y36 y38 y43 (zbs n p0 p1 k49) y51 = some res ∧ St 40 w0 f29 (.row v39 21 1 rw40 :: .blk pb0 (.cells #[.pointer (some ⟨pv0_0,0, none⟩), pv0_2] 113 (0,0)) :: .blk pv0_0 (.cells #[v32, .int .i64 (y36)] 126 (0,0)) :: .row v32 21 1 rw33 :: .row pv0_2 27 5 pv0_2r :: L) [(0, .pointer (some ⟨pb0,0, none⟩)),(1, .func (.func g1) #[] cap1.toArray),(5, v39),(6, .int .i32 (y43)),(21, .bool (y51))] a w) ?_ ?_
  ·clear hs hm
   rintro a w ⟨y51, hm, hs⟩
   unfold ze1 at hm
   refine hK9 ?_
   refine zag hs rfl (fun hg52 => ?_) (fun hg52 => ?_)
   ·replace hm := oc_t hg52 hm
    refine zak <| hK8 <| Ws fun hK10 => zas fun Qe11 hB11 hO11 => Wq fun hK12 => sM hs rfl fun hs => sM hs rfl fun hs => zh8 hs rfl Tryz.underlying45 ti21 rfl rfl fun v53 _ _ hs => ?_
    have hW54 : RW (tInt .i32) f29 [[.int .i32 (y43)]] [y43] := RW.single (rfl)
    generalize hgrw55 : ([[.int .i32 (y43)]] : List (List Value)) = rw55 at hs hW54; clear hgrw55
    obtain ⟨x58, hx59, hm⟩ := ob hm
    obtain ⟨hbx58, hex58⟩ := zcs hx59
    have hW62 := hW41.append hW54; rw [hex58] at hW62
    refine zdb (i := 1) hs rfl rfl rfl (Rd.st hs (.head _)) Tryz.underlying45 ti21 (by decide) (by rw [RW.len hW41, RW.len hW54]; exact hbx58) (.free rfl) (by decide) fun v60 _ _ hs => ?_
    generalize hgx58 : rw40 ++ rw55 = rw61 at hs hW62; clear hgx58
    replace hs := hs.erase 0
    refine sA hs rfl fun hs => za1 <| hK12 <| za5 <| sM hs rfl fun hs => s1 hs (za6 rfl) fun hs => s1 (v := .pointer (some ⟨pb0,0, none⟩)) hs (za3 rfl (FO.of (off := 0) Tryz.underlying113 rfl rfl ti110 (by decide))) fun hs => s1 (v := .pointer (some ⟨pv0_0,0, none⟩)) hs (y_ld rfl Tryz.underlying110 rfl (Cell.blk (.tail _ (.head _)) rfl)) fun hs => ?_
    obtain ⟨x64, hx65, hm⟩ := ob hm
    replace hs := hs.front 3
    replace hs := hs.front 3
    refine zdo (Lr := [.blk pv0_0 (.cells #[v32, .int .i64 (y36)] 126 (0,0)), .row v32 21 1 rw33]) (Lf := .row v60 21 1 rw61 :: .blk pb0 (.cells #[.pointer (some ⟨pv0_0,0, none⟩), pv0_2] 113 (0,0)) :: .row pv0_2 27 5 pv0_2r :: L) hs rfl has75 rfl rfl (zbb n hW34 hx65) (.free rfl) (by decide) ?_; clear hs; (try clear a w)
    rintro _ f66 _ a w hf67 ⟨v68, rw69, rfl, rfl, hW70⟩ hs
    replace hf1 := fun f'' h'' => hf1 f'' (hf67.trans h'')
    replace hW62 := hW62.le hf67
    replace hbase50 := hbase50.trans hf67
    refine za1 <| hK10 <| za5 <| sM hs rfl fun hs => s1 hs (za6 rfl) fun hs => s1 (v := .pointer (some ⟨pb0,0, none⟩)) hs (za3 rfl (FO.of (off := 0) Tryz.underlying113 rfl rfl ti110 (by decide))) fun hs => s1 (v := .pointer (some ⟨pv0_0,0, none⟩)) hs (y_ld rfl Tryz.underlying110 rfl (Cell.blk (.tail _ (.tail _ (.tail _ (.head _)))) rfl)) fun hs => ?_
    obtain ⟨x72, hx73, hm⟩ := ob hm
    refine s1 hs (zex (cap := []) (Lf := .row v60 21 1 rw61 :: .blk pb0 (.cells #[.pointer (some ⟨pv0_0,0, none⟩), pv0_2] 113 (0,0)) :: .row pv0_2 27 5 pv0_2r :: L) rfl has84 rfl ((zae _ 1 rfl).trans (zae _ 1 rfl)) (zbp n hW70 hx73)) fun hs => sM hs rfl fun hs => s1 (v := .int .i32 (x72.1)) hs (zan rfl rfl) fun hs => s1 (v := .bool (x72.2)) hs (zan rfl rfl) fun hs => sA hs rfl fun hs => sA hs rfl fun hs => za1 ?_
    replace hs := hs.front 4
    replace hs := hs.front 2
    replace hs := hs.front 2
    replace hs := hs.front 4
    replace hs := hs.front 4
    exact hK7 k49 _ _ (Nat.lt_succ_self _) ⟨_, x64.2.2.l, x64.2.2.at_, x58, x72.1, x72.2, v68, rw69, v60, rw61, hbase50, hm, hW70, hW62, hs.sub ⟨rfl, rfl, rfl, rfl, rfl, trivial⟩⟩
   replace hm := oc_f hg52 hm
   refine ze8 <| hB6 _ _ ?_
   exact ⟨_, y38, y31, y36, v39, rw40, v32, rw33, hbase25, hm, hW41, hW34, hs.sub ⟨rfl, trivial⟩⟩
  refine za5 <| sM hs rfl fun hs => sM hs rfl fun hs => ?_
  refine St.split hs (t := 17) rfl (fun hg74 hs => ?_) (fun hg74 hs => ?_)
  ·replace hm := oc_t hg74 hm
   refine s2 (v := .func (.func g1) #[] cap1.toArray) hs (za9 rfl) fun hs => s2 (v := .int .i32 (y43)) hs (za9 rfl) fun hs => ?_
   obtain ⟨x75, hx76, hm⟩ := ob hm
   refine s2 hs (y_callK rfl hg1 rfl (hf1 _ (Fz.le.refl _) y43 x75  hx76)) fun hs => sP hs rfl rfl fun hs => za1 ?_
   exact ⟨x75, hm, hs.sub ⟨rfl, rfl, rfl, rfl, rfl, trivial⟩⟩
  replace hm := oc_f hg74 hm
  refine s3 hs fun hs => s3 hs fun hs => s3 hs fun hs => sP hs rfl rfl fun hs => za1 ?_
  exact ⟨false, hm, hs.sub ⟨rfl, rfl, rfl, rfl, rfl, trivial⟩⟩
end Go.Proofs.YtdjjeahiomackaaGreat
