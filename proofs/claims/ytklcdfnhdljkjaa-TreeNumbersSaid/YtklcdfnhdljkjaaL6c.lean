/-
  Walks and laws of this seat.
-/
import Derived.Test.YtklcdfnhdljkjaaBasg
import Derived.Test.YtklcdfnhdljkjaaY6
import Derived.Test.YtklcdfnhdljkjaaRows
namespace Go.Proofs.Ytklcdfnhdljkjaa
set_option linter.unusedVariables false
set_option linter.unusedSimpArgs false
set_option maxHeartbeats 4000000
set_option maxRecDepth 100000
open Go.RowKit Go.Sl
def zia (n : Nat) (p0 : (List Int)) : Option za4 :=
  (appM 4 ([] : List Int) p0).bind fun x10 =>
  some ({l := x10, at_ := 0} : za4)
theorem znd (n : Nat) {f : Fz} {p0 : (List Int)} {a0 : Value} {res : za4} (h0 : RS (tInt .i32) f a0 p0) (hm : zia n p0 = some res) : Does Try.prog 26 [a0] f [] (fun r f' L' => ∃ (u0 : Nat) (u0_0 : Value) (u0_0r : List (List Value)), L' = [.blk u0 (.cells #[u0_0, .int .i64 res.at_] 98 (0, 0)), .row u0_0 21 1 u0_0r] ∧ r = .pointer (some ⟨u0, 0, none⟩) ∧ RW (tInt .i32) f' u0_0r res.l) := by
 unfold zia at hm
 intro w0 L w hC
 obtain ⟨rw1, hR2, hW3⟩ := h0
 refine enter Try.func26 rfl Try.ntmps26 (by simp) hC fun a hs => ?_
 have hle := Fz.le.refl f
 refine Wq fun hK1 => sA (v := .pointer none) hs rfl fun hs => za0 <| hK1 <| Wq fun hK2 => sM (v := a0) hs rfl fun hs => ?_
 replace hs := hs.nilRow 21 1
 have hW6 : RW (tInt .i32) f [] ([] : List Int) := trivial
 generalize hgrw7 : ([] : List (List Value)) = rw7 at hs hW6; clear hgrw7
 obtain ⟨x10, hx11, hm⟩ := ob hm
 obtain ⟨hbx10, hex10⟩ := zcj hx11
 have hW14 := hW6.append hW3; rw [hex10] at hW14
 refine zcs (i := 0) hs rfl rfl rfl hR2.up Try.underlying28 ti21 (by decide) (by rw [RW.len hW6, RW.len hW3]; exact hbx10) (.free rfl) (by decide) fun v12 _ _ hs => ?_
 generalize hgx10 : rw7 ++ rw1 = rw13 at hs hW14; clear hgx10
 refine s1 hs (zes (places := [(0, 1), (1, 1)]) (cs := [v12, .int .i64 (0)]) rfl Try.underlying98 ti98 (by kernel_rfl) (by decide) rfl ⟨(hs.one (i := 0) rfl), trivial⟩) fun hs => sbox hs rfl fun b17 _ _ hs => sA (v := .pointer (some ⟨b17, 0, none⟩)) hs rfl fun hs => za0 <| hK2 <| zau ?_
 obtain rfl := Option.some.inj hm
 refine RtV1 hs rfl (rv_t hs rfl) ?_
 exact ⟨_, f, [.blk b17 (.cells #[v12, .int .i64 (0)] 98 (0, 0)), .row v12 21 1 rw13], rfl, hle, hs.cw, b17, v12, rw13, rfl, rfl, hW14⟩
def zbc (n : Nat) (p0 : za4) : Option Int :=
  some (w64 ((p0.l.length : Int) - p0.at_))
theorem zcv (n : Nat) {f : Fz} {p0 : za4} {pb0 : Nat} {pv0_0 : Value} {pv0_0r : List (List Value)} {res : Int} (pv0_0h : RW (tInt .i32) f pv0_0r p0.l) (hm : zbc n p0 = some res) : GivesL Try.prog 27 [.pointer (some ⟨pb0, 0, none⟩)] f [.blk pb0 (.cells #[pv0_0, .int .i64 p0.at_] 98 (0, 0)), .row pv0_0 21 1 pv0_0r] (.int .i64 res) := by
 unfold zbc at hm
 intro w0 L w hC
 replace hC : Cw w0 f (.blk pb0 (.cells #[pv0_0, .int .i64 p0.at_] 98 (0, 0)) :: .row pv0_0 21 1 pv0_0r :: L) w := hC
 refine enter Try.func27 rfl Try.ntmps27 (by simp) hC fun a hs => ?_
 have hle := Fz.le.refl f
 refine Wq fun hK1 => sA (v := .int .i64 (0)) hs rfl fun hs => za0 <| hK1 <| Ws fun hK2 => ?_
 refine zk7 hs mixed (by kernel_rfl) ?_; intro a he
 refine qy (v := .pointer (some ⟨pb0, 0, none⟩)) he (zaa rfl) fun _ he => qy he (zab rfl) fun _ he => qy (v := .pointer (some ⟨pb0, 0, none⟩)) he (za1 rfl (FO.of (off := 0) Try.underlying98 rfl rfl ti28 (by decide))) fun _ he => qy (v := pv0_0) he (y_ld rfl Try.underlying28 rfl (Cell.blk (.head _) rfl)) fun _ he => qy he (zb7 (Rd.st hs (.tail _ (.head _))) pv0_0h rfl Try.underlying28) fun _ he => qy (v := .pointer (some ⟨pb0, 0, none⟩)) he (zaa rfl) fun _ he => qy he (zab rfl) fun _ he => qy (v := .pointer (some ⟨pb0, 1, none⟩)) he (za1 rfl (FO.of (off := 1) Try.underlying98 rfl rfl ti3 (by decide))) fun _ he => qy (v := .int .i64 (p0.at_)) he (y_ld rfl Try.underlying3 rfl (Cell.blk (.head _) rfl)) fun _ he => qy he (zmt rfl rfl rfl) fun _ he => ?_
 refine qy (v := .int .i64 ((w64 ((p0.l.length : Int) - p0.at_)))) he (zca rfl) fun _ he => ?_
 refine zgy he ?_; clear he; (try clear hs); (try clear a); intro a w hs
 refine hK2 <| zau ?_
 obtain rfl := Option.some.inj hm
 refine RtV1 hs rfl (rv_t hs rfl) ?_
 exact ⟨rfl, (hs.weak hle).cw⟩
def zcu (p0 : za4) (p1 : Int) (y4 : Bool) : Option (Int × Bool) :=
  (bif y4 then some (0, false) else
  (geti p0.l (w64 (p0.at_ + p1))).bind fun x6 =>
  some (x6, true))
def zb6 (n : Nat) (p0 : za4) (p1 : Int) : Option (Int × Bool) :=
  (bif (decide (p1 < 0)) then zcu p0 p1 true else
  (zbc n p0).bind fun x14 =>
  zcu p0 p1 (decide (x14 ≤ p1)))
theorem zc3 (n : Nat) {f : Fz} {p0 : za4} {pb0 : Nat} {pv0_0 : Value} {pv0_0r : List (List Value)} {p1 : Int} {res : (Int × Bool)} (pv0_0h : RW (tInt .i32) f pv0_0r p0.l) (hm : zb6 n p0 p1 = some res) : GivesL Try.prog 60 [.pointer (some ⟨pb0, 0, none⟩), .int .i64 p1] f [.blk pb0 (.cells #[pv0_0, .int .i64 p0.at_] 98 (0, 0)), .row pv0_0 21 1 pv0_0r] (.tuple #[.int .i32 res.1, .bool res.2]) := by
 unfold zb6 at hm
 intro w0 L w hC
 replace hC : Cw w0 f (.blk pb0 (.cells #[pv0_0, .int .i64 p0.at_] 98 (0, 0)) :: .row pv0_0 21 1 pv0_0r :: L) w := hC
 refine enter Try.func60 rfl Try.ntmps60 (by simp) hC fun a hs => ?_
 have hle := Fz.le.refl f
 refine Wq fun hK1 => sA (v := .int .i32 (0)) hs rfl fun hs => sA (v := .bool (false)) hs rfl fun hs => za0 <| hK1 <| Ws fun hK2 => Ws fun hK3 => ?_
 refine zai (fun a w => ∃ (y4 : Bool), zcu p0 p1 y4 = some res ∧ St 28 w0 f (.blk pb0 (.cells #[pv0_0, .int .i64 (p0.at_)] 98 (0, 0)) :: .row pv0_0 21 1 pv0_0r :: L) [(0, .pointer (some ⟨pb0, 0, none⟩)), (1, .int .i64 (p1)), (14, .bool (y4))] a w) ?_ ?_
 ·clear hs hm
  rintro a w ⟨y4, hm, hs⟩
  unfold zcu at hm
  refine hK3 ?_
  refine zaf hs rfl (fun hg5 => ?_) (fun hg5 => ?_)
  ·replace hm := oc_t hg5 hm
   refine Wq fun hK4 => sA (v := .int .i32 (0)) hs rfl fun hs => za0 <| hK4 <| Wq fun hK5 => sM (v := .int .i32 (0)) hs rfl fun hs => sA (v := .int .i32 (0)) hs rfl fun hs => sA (v := .bool (false)) hs rfl fun hs => ?_
   refine za0 <| hK5 <| zau ?_
   obtain rfl := Option.some.inj hm
   refine RtV2 hs rfl (rv_t hs rfl) (rv_t hs rfl) ?_
   exact ⟨rfl, (hs.weak hle).cw⟩
  replace hm := oc_f hg5 hm
  refine zah <| hK2 <| Ws fun hK6 => ?_
  refine zk7 hs mixed (by kernel_rfl) ?_; intro a he
  refine qy (v := .pointer (some ⟨pb0, 0, none⟩)) he (zaa rfl) fun _ he => qy he (zab rfl) fun _ he => qy (v := .pointer (some ⟨pb0, 0, none⟩)) he (za1 rfl (FO.of (off := 0) Try.underlying98 rfl rfl ti28 (by decide))) fun _ he => qy (v := pv0_0) he (y_ld rfl Try.underlying28 rfl (Cell.blk (.head _) rfl)) fun _ he => qy (v := .pointer (some ⟨pb0, 0, none⟩)) he (zaa rfl) fun _ he => qy he (zab rfl) fun _ he => qy (v := .pointer (some ⟨pb0, 1, none⟩)) he (za1 rfl (FO.of (off := 1) Try.underlying98 rfl rfl ti3 (by decide))) fun _ he => qy (v := .int .i64 (p0.at_)) he (y_ld rfl Try.underlying3 rfl (Cell.blk (.head _) rfl)) fun _ he => qy (v := .int .i64 (p1)) he (zaa rfl) fun _ he => qy he (zeq rfl rfl rfl) fun _ he => ?_
  obtain ⟨x6, hx7, hm⟩ := ob hm
  obtain ⟨r8, hr9, hq10, hi11, hb12⟩ := pv0_0h.geti hx7
  obtain rfl : _ = ([.int .i32 (x6)] : List Value) := hq10
  refine qy he (za8 (Rd.st hs (.tail _ (.head _))) rfl rfl hi11 hb12 Try.underlying28 ti21) fun _ he => qy (v := .int .i32 (x6)) he (zaw (i := (w64 (p0.at_ + p1)).toNat) (j := 0) (Rd.st hs (.tail _ (.head _))) rfl hr9 rfl Try.underlying21 rfl) fun _ he => qy (v := .int .i32 (x6)) he (zca rfl) fun _ he => qy (v := .bool (true)) he (zca rfl) fun _ he => ?_
  refine zgy he ?_; clear he; (try clear hs); (try clear a); intro a w hs
  refine hK6 <| zau ?_
  obtain rfl := Option.some.inj hm
  refine RtV2 hs rfl (rv_t hs rfl) (rv_t hs rfl) ?_
  exact ⟨rfl, (hs.weak hle).cw⟩
 refine za7 <| sM (v := .int .i64 (p1)) hs rfl fun hs => s1 hs (zg7 rfl rfl) fun hs => sM (v := .bool (decide (p1 < 0))) hs rfl fun hs => ?_
 refine St.split hs (t := 9) rfl (fun hg13 hs => ?_) (fun hg13 hs => ?_)
 ·replace hm := oc_t hg13 hm
  refine s3 hs fun hs => s3 hs fun hs => s3 hs fun hs => s3 hs fun hs => sP (v := .bool (true)) hs rfl rfl fun hs => za0 ?_
  exact ⟨true, hm, hs.sub ⟨rfl, rfl, rfl, trivial⟩⟩
 replace hm := oc_f hg13 hm
 refine s2 (v := .int .i64 (p1)) hs (zaa rfl) fun hs => s2 (v := .pointer (some ⟨pb0, 0, none⟩)) hs (zaa rfl) fun hs => ?_
 obtain ⟨x14, hx15, hm⟩ := ob hm
 refine s2 hs (zeg (cap := []) (Lf := L) rfl has27 rfl ((zag _ 1 rfl).trans (zag _ 1 rfl)) (zcv n (f := f) (p0 := p0) (pb0 := pb0) (pv0_0 := pv0_0) (pv0_0r := pv0_0r) pv0_0h hx15)) fun hs => s2 hs (zmc rfl rfl) fun hs => sP (v := .bool (decide (x14 ≤ p1))) hs rfl rfl fun hs => za0 ?_
 exact ⟨decide (x14 ≤ p1), hm, hs.sub ⟨rfl, rfl, rfl, trivial⟩⟩
def zc4 (p0 : za4) (x4 : (Int × Bool)) (y6 : Int) : Option (Int × Bool × za4) :=
  some (x4.1, x4.2, ({l := p0.l, at_ := y6} : za4))
def zaj (n : Nat) (p0 : za4) : Option (Int × Bool × za4) :=
  (zb6 n p0 0).bind fun x4 =>
  (bif x4.2 then zc4 p0 x4 (w64 (p0.at_ + 1)) else
  zc4 p0 x4 p0.at_)
theorem zao (n : Nat) {f : Fz} {p0 : za4} {pb0 : Nat} {pv0_0 : Value} {pv0_0r : List (List Value)} {res : (Int × Bool × za4)} (pv0_0h : RW (tInt .i32) f pv0_0r p0.l) (hm : zaj n p0 = some res) : Does Try.prog 34 [.pointer (some ⟨pb0, 0, none⟩)] f [.blk pb0 (.cells #[pv0_0, .int .i64 p0.at_] 98 (0, 0)), .row pv0_0 21 1 pv0_0r] (fun r f' L' => ∃ (dp0_0 : Value) (dp0_0r : List (List Value)), L' = [.blk pb0 (.cells #[dp0_0, .int .i64 res.2.2.at_] 98 (0, 0)), .row dp0_0 21 1 dp0_0r] ∧ r = .tuple #[.int .i32 res.1, .bool res.2.1] ∧ RW (tInt .i32) f' dp0_0r res.2.2.l) := by
 unfold zaj at hm
 intro w0 L w hC
 replace hC : Cw w0 f (.blk pb0 (.cells #[pv0_0, .int .i64 p0.at_] 98 (0, 0)) :: .row pv0_0 21 1 pv0_0r :: L) w := hC
 refine enter Try.func34 rfl Try.ntmps34 (by simp) hC fun a hs => ?_
 have hle := Fz.le.refl f
 refine Wq fun hK1 => sA (v := .int .i32 (0)) hs rfl fun hs => sA (v := .bool (false)) hs rfl fun hs => za0 <| hK1 <| Wq fun hK2 => sM (v := .pointer (some ⟨pb0, 0, none⟩)) hs rfl fun hs => ?_
 obtain ⟨x4, hx5, hm⟩ := ob hm
 refine s1 hs (zeg (cap := []) (Lf := L) rfl has60 rfl ((zag _ 1 rfl).trans (zag _ 1 rfl)) (zc3 n (f := f) (p0 := p0) (pb0 := pb0) (pv0_0 := pv0_0) (pv0_0r := pv0_0r) (p1 := 0) pv0_0h hx5)) fun hs => sM (v := .tuple #[.int .i32 (x4.1), .bool (x4.2)]) hs rfl fun hs => s1 (v := .int .i32 (x4.1)) hs (zar rfl rfl) fun hs => s1 (v := .bool (x4.2)) hs (zar rfl rfl) fun hs => sA (v := .int .i32 (x4.1)) hs rfl fun hs => sA (v := .bool (x4.2)) hs rfl fun hs => za0 <| hK2 <| Ws fun hK3 => Ws fun hK4 => ?_
 refine za7 <| sM (v := .bool (x4.2)) hs rfl fun hs => za0 <| hK4 ?_
 refine zai (fun a w => ∃ (y6 : Int), zc4 p0 x4 y6 = some res ∧ St 21 w0 f (.blk pb0 (.cells #[pv0_0, .int .i64 (y6)] 98 (0, 0)) :: .row pv0_0 21 1 pv0_0r :: L) [(4, .int .i32 (x4.1)), (5, .bool (x4.2))] a w) ?_ ?_
 ·clear hs hm
  rintro a w ⟨y6, hm, hs⟩
  unfold zc4 at hm
  refine hK3 <| Wq fun hK5 => sM (v := .int .i32 (x4.1)) hs rfl fun hs => sM (v := .bool (x4.2)) hs rfl fun hs => sA (v := .int .i32 (x4.1)) hs rfl fun hs => sA (v := .bool (x4.2)) hs rfl fun hs => za0 <| hK5 <| zau ?_
  obtain rfl := Option.some.inj hm
  refine RtV2 hs rfl (rv_t hs rfl) (rv_t hs rfl) ?_
  exact ⟨_, f, [.blk pb0 (.cells #[pv0_0, .int .i64 (y6)] 98 (0, 0)), .row pv0_0 21 1 pv0_0r], rfl, hle, hs.cw, pv0_0, pv0_0r, rfl, rfl, pv0_0h⟩
 refine zaf hs rfl (fun hg7 => ?_) (fun hg7 => ?_)
 ·replace hm := oc_t hg7 hm
  refine za7 <| sM (v := .pointer (some ⟨pb0, 0, none⟩)) hs rfl fun hs => s1 hs (zab rfl) fun hs => s1 (v := .pointer (some ⟨pb0, 1, none⟩)) hs (za1 rfl (FO.of (off := 1) Try.underlying98 rfl rfl ti3 (by decide))) fun hs => s1 (v := .int .i64 (p0.at_)) hs (y_ld rfl Try.underlying3 rfl (Cell.blk (.head _) rfl)) fun hs => s1 hs (zeq rfl rfl rfl) fun hs => s1 hs (zab rfl) fun hs => s1 (v := .pointer (some ⟨pb0, 1, none⟩)) hs (za1 rfl (FO.of (off := 1) Try.underlying98 rfl rfl ti3 (by decide))) fun hs => sstore 0 hs rfl rfl rfl ti3 rfl fun _ _ hs => za0 ?_
  exact ⟨(w64 (p0.at_ + 1)), hm, hs.sub ⟨rfl, rfl, trivial⟩⟩
 replace hm := oc_f hg7 hm
 refine zah ?_
 exact ⟨p0.at_, hm, hs.sub ⟨rfl, rfl, trivial⟩⟩
def zec (n : Nat) (p0 : Int) : Option Bool :=
  some ((decide (p0 = 9)) || ((decide (p0 = 10)) || ((decide (p0 = 12)) || (decide (p0 = 32)))))
theorem zgc (n : Nat) {f : Fz} {p0 : Int} {res : Bool}  (hm : zec n p0 = some res) : Gives Try.prog 69 [.int .i32 p0] f (.bool res) := by
 unfold zec at hm
 intro w0 L w hC
 refine enter Try.func69 rfl Try.ntmps69 (by simp) hC fun a hs => ?_
 have hle := Fz.le.refl f
 refine Wq fun hK1 => sA (v := .bool (false)) hs rfl fun hs => za0 <| hK1 <| Ws fun hK2 => ?_
 refine zai (fun a w => St 17 w0 f (L) [(2, .bool (((decide (p0 = 9)) || ((decide (p0 = 10)) || ((decide (p0 = 12)) || (decide (p0 = 32)))))))] a w) ?_ ?_
 ·clear hs; intro a w hs
  refine hK2 <| zau ?_
  obtain rfl := Option.some.inj hm
  refine RtV1 hs rfl (rv_t hs rfl) ?_
  exact ⟨rfl, (hs.weak hle).cw⟩
 refine za7 <| sM (v := .int .i32 (p0)) hs rfl fun hs => s1 hs (zd3 rfl rfl) fun hs => sM (v := .bool (decide (p0 = 9))) hs rfl fun hs => ?_
 refine St.split hs (t := 5) rfl (fun hg1 hs => ?_) (fun hg1 hs => ?_)
 ·refine s3 hs fun hs => s3 hs fun hs => sP (v := .bool (true)) hs rfl rfl fun hs => sM (v := .bool (true)) hs rfl fun hs => s3 hs fun hs => s3 hs fun hs => sP (v := .bool (true)) hs rfl rfl fun hs => sM (v := .bool (true)) hs rfl fun hs => s3 hs fun hs => s3 hs fun hs => ?_
  refine sP (v := .bool (true)) hs rfl rfl fun hs => sA (v := .bool (true)) hs rfl fun hs => za0 ?_
  exact hs.sub ⟨(lkB (((or_t hg1).trans rfl)) rfl), trivial⟩
 refine s2 (v := .int .i32 (p0)) hs (zaa rfl) fun hs => s2 hs (zd3 rfl rfl) fun hs => sP (v := .bool (decide (p0 = 10))) hs rfl rfl fun hs => sM (v := .bool (decide (p0 = 10))) hs rfl fun hs => ?_
 refine St.split hs (t := 9) rfl (fun hg2 hs => ?_) (fun hg2 hs => ?_)
 ·refine s3 hs fun hs => s3 hs fun hs => sP (v := .bool (true)) hs rfl rfl fun hs => sM (v := .bool (true)) hs rfl fun hs => s3 hs fun hs => s3 hs fun hs => sP (v := .bool (true)) hs rfl rfl fun hs => sA (v := .bool (true)) hs rfl fun hs => za0 ?_
  exact hs.sub ⟨(lkB (((or_f hg1).trans ((or_t hg2).trans rfl))) rfl), trivial⟩
 refine s2 (v := .int .i32 (p0)) hs (zaa rfl) fun hs => s2 hs (zd3 rfl rfl) fun hs => sP (v := .bool (decide (p0 = 12))) hs rfl rfl fun hs => sM (v := .bool (decide (p0 = 12))) hs rfl fun hs => ?_
 refine St.split hs (t := 13) rfl (fun hg3 hs => ?_) (fun hg3 hs => ?_)
 ·refine s3 hs fun hs => s3 hs fun hs => sP (v := .bool (true)) hs rfl rfl fun hs => sA (v := .bool (true)) hs rfl fun hs => za0 ?_
  exact hs.sub ⟨(lkB (((or_f hg1).trans ((or_f hg2).trans ((or_t hg3).trans rfl)))) rfl), trivial⟩
 refine s2 (v := .int .i32 (p0)) hs (zaa rfl) fun hs => s2 hs (zd3 rfl rfl) fun hs => sP (v := .bool (decide (p0 = 32))) hs rfl rfl fun hs => sA (v := .bool (decide (p0 = 32))) hs rfl fun hs => za0 ?_
 exact hs.sub ⟨(lkB (((or_f hg1).trans ((or_f hg2).trans ((or_f hg3).trans rfl)))) rfl), trivial⟩
def zi2 (n : Nat) (p0 : Int) : Option Bool :=
  some (bif (decide (97 ≤ p0)) then ((decide (p0 ≤ 122)) || ((decide (65 ≤ p0)) && (decide (p0 ≤ 90)))) else ((decide (65 ≤ p0)) && (decide (p0 ≤ 90))))
theorem zkb (n : Nat) {f : Fz} {p0 : Int} {res : Bool}  (hm : zi2 n p0 = some res) : Gives Try.prog 29 [.int .i32 p0] f (.bool res) := by
 unfold zi2 at hm
 intro w0 L w hC
 refine enter Try.func29 rfl Try.ntmps29 (by simp) hC fun a hs => ?_
 have hle := Fz.le.refl f
 refine Wq fun hK1 => sA (v := .bool (false)) hs rfl fun hs => za0 <| hK1 <| Ws fun hK2 => ?_
 refine zai (fun a w => St 17 w0 f (L) [(2, .bool ((bif (decide (97 ≤ p0)) then ((decide (p0 ≤ 122)) || ((decide (65 ≤ p0)) && (decide (p0 ≤ 90)))) else ((decide (65 ≤ p0)) && (decide (p0 ≤ 90))))))] a w) ?_ ?_
 ·clear hs; intro a w hs
  refine hK2 <| zau ?_
  obtain rfl := Option.some.inj hm
  refine RtV1 hs rfl (rv_t hs rfl) ?_
  exact ⟨rfl, (hs.weak hle).cw⟩
 refine za7 <| sM (v := .int .i32 (p0)) hs rfl fun hs => s1 hs (zmc rfl rfl) fun hs => sM (v := .bool (decide (97 ≤ p0))) hs rfl fun hs => ?_
 refine St.split hs (t := 5) rfl (fun hg1 hs => ?_) (fun hg1 hs => ?_)
 ·refine s2 (v := .int .i32 (p0)) hs (zaa rfl) fun hs => s2 hs (y_leq rfl rfl) fun hs => sP (v := .bool (decide (p0 ≤ 122))) hs rfl rfl fun hs => sM (v := .bool (decide (p0 ≤ 122))) hs rfl fun hs => ?_
  refine St.split hs (t := 9) rfl (fun hg2 hs => ?_) (fun hg2 hs => ?_)
  ·refine s3 hs fun hs => s3 hs fun hs => s3 hs fun hs => s4 hs fun hs => s4 hs fun hs => s3 hs fun hs => sP (v := .bool (true)) hs rfl rfl fun hs => sA (v := .bool (true)) hs rfl fun hs => za0 ?_
   exact hs.sub ⟨(lkB (((bif_t hg1).trans ((or_t hg2).trans rfl))) rfl), trivial⟩
  refine s2 (v := .int .i32 (p0)) hs (zaa rfl) fun hs => s2 hs (zmc rfl rfl) fun hs => s2 (v := .bool (decide (65 ≤ p0))) hs (zaa rfl) fun hs => ?_
  refine St.split hs (t := 12) rfl (fun hg3 hs => ?_) (fun hg3 hs => ?_)
  ·refine s2 (v := .int .i32 (p0)) hs (zaa rfl) fun hs => s2 hs (y_leq rfl rfl) fun hs => s2 (v := .bool (decide (p0 ≤ 90))) hs (zb4 rfl rfl) fun hs => sP (v := .bool (decide (p0 ≤ 90))) hs rfl rfl fun hs => sA (v := .bool (decide (p0 ≤ 90))) hs rfl fun hs => za0 ?_
   exact hs.sub ⟨(lkB (((bif_t hg1).trans ((or_f hg2).trans ((zgi hg3).trans rfl)))) rfl), trivial⟩
  refine s3 hs fun hs => s3 hs fun hs => s2 (v := .bool (false)) hs (zb4 rfl rfl) fun hs => sP (v := .bool (false)) hs rfl rfl fun hs => sA (v := .bool (false)) hs rfl fun hs => za0 ?_
  exact hs.sub ⟨(lkB (((bif_t hg1).trans ((or_f hg2).trans ((zll hg3).trans rfl)))) rfl), trivial⟩
 refine s3 hs fun hs => s3 hs fun hs => sP (v := .bool (false)) hs rfl rfl fun hs => sM (v := .bool (false)) hs rfl fun hs => s2 (v := .int .i32 (p0)) hs (zaa rfl) fun hs => s2 hs (zmc rfl rfl) fun hs => s2 (v := .bool (decide (65 ≤ p0))) hs (zaa rfl) fun hs => ?_
 refine St.split hs (t := 12) rfl (fun hg4 hs => ?_) (fun hg4 hs => ?_)
 ·refine s2 (v := .int .i32 (p0)) hs (zaa rfl) fun hs => s2 hs (y_leq rfl rfl) fun hs => s2 (v := .bool (decide (p0 ≤ 90))) hs (zb4 rfl rfl) fun hs => sP (v := .bool (decide (p0 ≤ 90))) hs rfl rfl fun hs => sA (v := .bool (decide (p0 ≤ 90))) hs rfl fun hs => za0 ?_
  exact hs.sub ⟨(lkB (((bif_f hg1).trans ((zgi hg4).trans rfl))) rfl), trivial⟩
 refine s3 hs fun hs => s3 hs fun hs => s2 (v := .bool (false)) hs (zb4 rfl rfl) fun hs => sP (v := .bool (false)) hs rfl rfl fun hs => sA (v := .bool (false)) hs rfl fun hs => za0 ?_
 exact hs.sub ⟨(lkB (((bif_f hg1).trans ((zll hg4).trans rfl))) rfl), trivial⟩
def zl1 (y16 : (List Int)) : Option ByteArray :=
  some (textOf y16)
def zig (y26 : Int) (lp27 : (List Int) → Int → Option ByteArray) (y36 : (List Int)) : Option ByteArray :=
  lp27 y36 (w64 (y26 + 1))
def zdp (x10 : (List Int)) : Nat → (List Int) → Int → Option ByteArray
  | 0, _, _ => none
  | k27 + 1, y21, y26 =>
  (bif (decide (y26 < (x10.length : Int))) then (geti y21 y26).bind fun x29 =>
  (bif ((decide (65 ≤ x29)) && (decide (x29 ≤ 90))) then (geti y21 y26).bind fun x42 =>
  (seti y21 y26 (IntKind.i32.wrap ((IntKind.i32.wrap (x29 + 97)) - 65))).bind fun x49 =>
  zig y26 (zdp x10 k27) x49 else
  zig y26 (zdp x10 k27) y21) else
  zl1 y21)
def zg0 (n : Nat) (p0 : (List Int)) : Option ByteArray :=
  (appM 4 ([] : List Int) p0).bind fun x10 =>
  zdp x10 n x10 0
theorem zjk (n : Nat) {f : Fz} {p0 : (List Int)} {a0 : Value} {res : ByteArray} (h0 : RS (tInt .i32) f a0 p0) (hm : zg0 n p0 = some res) : Gives Try.prog 66 [a0] f (.string res) := by
 unfold zg0 at hm
 intro w0 L w hC
 obtain ⟨rw1, hR2, hW3⟩ := h0
 refine enter Try.func66 rfl Try.ntmps66 (by simp) hC fun a hs => ?_
 have hle := Fz.le.refl f
 refine Wq fun hK1 => sA (v := .string ((bs []))) hs rfl fun hs => za0 <| hK1 <| Wq fun hK2 => sM (v := a0) hs rfl fun hs => ?_
 replace hs := hs.nilRow 21 1
 have hW6 : RW (tInt .i32) f [] ([] : List Int) := trivial
 generalize hgrw7 : ([] : List (List Value)) = rw7 at hs hW6; clear hgrw7
 obtain ⟨x10, hx11, hm⟩ := ob hm
 obtain ⟨hbx10, hex10⟩ := zcj hx11
 have hW14 := hW6.append hW3; rw [hex10] at hW14
 refine zcs (i := 0) hs rfl rfl rfl hR2.up Try.underlying28 ti21 (by decide) (by rw [RW.len hW6, RW.len hW3]; exact hbx10) (.free rfl) (by decide) fun v12 _ _ hs => ?_
 generalize hgx10 : rw7 ++ rw1 = rw13 at hs hW14; clear hgx10
 refine sA (v := v12) hs rfl fun hs => za0 <| hK2 <| Ws fun hK3 => Wq fun hK4 => sM (v := v12) hs rfl fun hs => s1 hs (zb7 (Rd.st hs (.head _)) hW14 rfl Try.underlying28) fun hs => sM (v := .int .i64 (0)) hs rfl fun hs => za0 ?_
 refine hK4 ?_
 refine zai (fun a w => ∃ (y16 : (List Int)) (v17 : Value) (rw18 : List (List Value)), zl1 y16 = some res ∧ RW (tInt .i32) f rw18 y16 ∧ St 30 w0 f (.row v17 21 1 rw18 :: L) [(3, v17)] a w) ?_ ?_
 ·clear hs hm
  rintro a w ⟨y16, v17, rw18, hm, hW19, hs⟩
  unfold zl1 at hm
  refine hK3 <| Wq fun hK5 => sM (v := v17) hs rfl fun hs => s1 (v := .string ((textOf y16))) hs (zp4 rfl Try.underlying28 Try.underlying21 Try.underlying9 (Rd.st hs (.head _)) hW19) fun hs => sA (v := .string ((textOf y16))) hs rfl fun hs => za0 <| hK5 <| zau ?_
  obtain rfl := Option.some.inj hm
  refine RtV1 hs rfl (rv_t hs rfl) ?_
  exact ⟨rfl, ((hs.subL (.cons _ (.refl _))).weak hle).cw⟩
 refine zam fun Qe6 hB6 hO6 => zcw (fun (k : Nat) a w => ∃ (y21 : (List Int)) (y26 : Int) (v22 : Value) (rw23 : List (List Value)), zdp x10 k y21 y26 = some res ∧ RW (tInt .i32) f rw23 y21 ∧ St 30 w0 f (.row v22 21 1 rw23 :: L) [(3, v22), (8, v22), (9, .int .i64 ((x10.length : Int))), (10, .int .i64 (y26))] a w) (fun k => k) n ⟨x10, 0, v12, rw13, hm, hW14, hs.sub ⟨rfl, rfl, rfl, rfl, trivial⟩⟩ ?_
 clear hs hm
 intro k
 rintro a w ⟨y21, y26, v22, rw23, hm, hW24, hs⟩
 intro K7 hK7
 cases k with
 | zero => simp [zdp] at hm
 | succ k27 =>
  rw [zdp] at hm
  refine Wq fun hK8 => s1 hs (zg7 rfl rfl) fun hs => za0 <| hK8 <| Ws fun hK9 => ?_
  refine zaf hs rfl (fun hg28 => ?_) (fun hg28 => ?_)
  ·replace hm := oc_t hg28 hm
   refine zah <| hK9 <| Ws fun hK10 => zam fun Qe11 hB11 hO11 => Wq fun hK12 => sM (v := .int .i64 (y26)) hs rfl fun hs => ?_
   obtain ⟨x29, hx30, hm⟩ := ob hm
   obtain ⟨r31, hr32, hq33, hi34, hb35⟩ := hW24.geti hx30
   obtain rfl : _ = ([.int .i32 (x29)] : List Value) := hq33
   refine s1 hs (za8 (Rd.st hs (.head _)) rfl rfl hi34 hb35 Try.underlying28 ti21) fun hs => s1 (v := .int .i32 (x29)) hs (zaw (i := y26.toNat) (j := 0) (Rd.st hs (.head _)) rfl hr32 rfl Try.underlying21 rfl) fun hs => sA (v := .int .i64 (y26)) hs rfl fun hs => sA (v := .int .i32 (x29)) hs rfl fun hs => za0 <| hK12 <| Ws fun hK13 => ?_
   refine zai (fun a w => St 30 w0 f (.row v22 21 1 rw23 :: L) [(3, v22), (4, .int .i64 (y26)), (5, .int .i32 (x29)), (8, v22), (9, .int .i64 ((x10.length : Int))), (10, .int .i64 (y26)), (20, .bool (((decide (65 ≤ x29)) && (decide (x29 ≤ 90)))))] a w) ?_ ?_
   ·clear hs; intro a w hs
    refine hK13 ?_
    refine zai (fun a w => ∃ (y36 : (List Int)) (v37 : Value) (rw38 : List (List Value)), zig y26 (zdp x10 k27) y36 = some res ∧ RW (tInt .i32) f rw38 y36 ∧ St 30 w0 f (.row v37 21 1 rw38 :: L) [(3, v37), (8, v37), (9, .int .i64 ((x10.length : Int))), (10, .int .i64 (y26))] a w) ?_ ?_
    ·clear hs hm
     rintro a w ⟨y36, v37, rw38, hm, hW39, hs⟩
     unfold zig at hm
     refine hK10 <| za7 <| s1 hs (zeq rfl rfl rfl) fun hs => sM (v := .int .i64 ((w64 (y26 + 1)))) hs rfl fun hs => za0 ?_
     exact hK7 k27 _ _ (Nat.lt_succ_self _) ⟨y36, (w64 (y26 + 1)), v37, rw38, hm, hW39, hs.sub ⟨rfl, rfl, rfl, rfl, trivial⟩⟩
    refine zaf hs rfl (fun hg41 => ?_) (fun hg41 => ?_)
    ·replace hm := oc_t hg41 hm
     refine za7 <| sM (v := v22) hs rfl fun hs => sM (v := .int .i64 (y26)) hs rfl fun hs => sM (v := .int .i32 (x29)) hs rfl fun hs => s1 hs (zeq rfl rfl rfl) fun hs => s1 hs (zmt rfl rfl rfl) fun hs => ?_
     obtain ⟨x42, hx43, hm⟩ := ob hm
     obtain ⟨r44, hr45, hq46, hi47, hb48⟩ := hW24.geti hx43
     obtain rfl : _ = ([.int .i32 (x42)] : List Value) := hq46
     refine s1 hs (za8 (Rd.st hs (.head _)) rfl rfl hi47 hb48 Try.underlying28 ti21) fun hs => ?_
     obtain ⟨x49, hx50, hm⟩ := ob hm
     have hex49 := zfo hx50
     have hW52 := RW.set (i := y26.toNat) (r := [.int .i32 ((IntKind.i32.wrap ((IntKind.i32.wrap (x29 + 97)) - 65)))]) (x := ((IntKind.i32.wrap ((IntKind.i32.wrap (x29 + 97)) - 65)) : Int)) hW24 (rfl); rw [hex49] at hW52
     refine zep (i := 0) (j := 0) (m := y26.toNat) hs rfl rfl rfl hr45 (by decide) ti21 rfl (.free rfl) fun _ _ hs => ?_
     replace hs : St _ _ _ (.row v22 21 1 (rw23.set y26.toNat [.int .i32 ((IntKind.i32.wrap ((IntKind.i32.wrap (x29 + 97)) - 65)))]) :: L) _ _ _ := hs
     generalize hgrw51 : rw23.set y26.toNat [.int .i32 ((IntKind.i32.wrap ((IntKind.i32.wrap (x29 + 97)) - 65)))] = rw51 at hs hW52; clear hgrw51
     refine za0 ?_
     exact ⟨x49, v22, rw51, hm, hW52, hs.sub ⟨rfl, rfl, rfl, rfl, trivial⟩⟩
    replace hm := oc_f hg41 hm
    refine zah ?_
    exact ⟨y21, v22, rw23, hm, hW24, hs.sub ⟨rfl, rfl, rfl, rfl, trivial⟩⟩
   refine za7 <| sM (v := .int .i32 (x29)) hs rfl fun hs => s1 hs (zmc rfl rfl) fun hs => sM (v := .bool (decide (65 ≤ x29))) hs rfl fun hs => ?_
   refine St.split hs (t := 17) rfl (fun hg54 hs => ?_) (fun hg54 hs => ?_)
   ·refine s2 (v := .int .i32 (x29)) hs (zaa rfl) fun hs => s2 hs (y_leq rfl rfl) fun hs => sP (v := .bool (decide (x29 ≤ 90))) hs rfl rfl fun hs => za0 ?_
    exact hs.sub ⟨rfl, rfl, rfl, rfl, rfl, rfl, (lkB (((zgi hg54).trans rfl)) rfl), trivial⟩
   refine s3 hs fun hs => s3 hs fun hs => sP (v := .bool (false)) hs rfl rfl fun hs => za0 ?_
   exact hs.sub ⟨rfl, rfl, rfl, rfl, rfl, rfl, (lkB (((zll hg54).trans rfl)) rfl), trivial⟩
  replace hm := oc_f hg28 hm
  refine zc9 <| hB6 _ _ ?_
  exact ⟨y21, v22, rw23, hm, hW24, hs.sub ⟨rfl, trivial⟩⟩
def zbu (n : Nat) (p0 : za3) (p1 : Int) : Option Int :=
  (zb6 n p0.c p1).bind fun x7 =>
  some x7.1
theorem zco (n : Nat) {f : Fz} {p0 : za3} {pb0 : Nat} {pv0_0 : Nat} {pv0_1 : Value} {pv0_1r : List (List Value)} {pv0_2 : Value} {pv0_2r : List (List Value)} {p1 : Int} {res : Int} (pv0_1h : RW (tInt .i32) f pv0_1r p0.c.l) (pv0_2h : RW zap f pv0_2r p0.out) (hm : zbu n p0 p1 = some res) : GivesL Try.prog 30 [.pointer (some ⟨pb0, 0, none⟩), .int .i64 p1] f [.blk pb0 (.cells #[.pointer (some ⟨pv0_0, 0, none⟩), pv0_2] 68 (0, 0)), .blk pv0_0 (.cells #[pv0_1, .int .i64 p0.c.at_] 98 (0, 0)), .row pv0_1 21 1 pv0_1r, .row pv0_2 56 5 pv0_2r] (.int .i32 res) := by
 unfold zbu at hm
 intro w0 L w hC
 replace hC : Cw w0 f (.blk pb0 (.cells #[.pointer (some ⟨pv0_0, 0, none⟩), pv0_2] 68 (0, 0)) :: .blk pv0_0 (.cells #[pv0_1, .int .i64 p0.c.at_] 98 (0, 0)) :: .row pv0_1 21 1 pv0_1r :: .row pv0_2 56 5 pv0_2r :: L) w := hC
 refine enter Try.func30 rfl Try.ntmps30 (by simp) hC fun a hs => ?_
 have hle := Fz.le.refl f
 refine Wq fun hK1 => sA (v := .int .i32 (0)) hs rfl fun hs => za0 <| hK1 <| Wq fun hK2 => sM (v := .pointer (some ⟨pb0, 0, none⟩)) hs rfl fun hs => s1 hs (zab rfl) fun hs => s1 (v := .pointer (some ⟨pb0, 0, none⟩)) hs (za1 rfl (FO.of (off := 0) Try.underlying68 rfl rfl ti65 (by decide))) fun hs => ?_
 refine s1 (v := .pointer (some ⟨pv0_0, 0, none⟩)) hs (y_ld rfl Try.underlying65 rfl (Cell.blk (.head _) rfl)) fun hs => sM (v := .int .i64 (p1)) hs rfl fun hs => ?_
 obtain ⟨x7, hx8, hm⟩ := ob hm
 refine s1 hs (zeg (cap := []) (Lf := .blk pb0 (.cells #[.pointer (some ⟨pv0_0, 0, none⟩), pv0_2] 68 (0, 0)) :: .row pv0_2 56 5 pv0_2r :: L) rfl has60 rfl ((zag _ 2 rfl).trans (zag _ 2 rfl)) (zc3 n (f := f) (p0 := p0.c) (pb0 := pv0_0) (pv0_0 := pv0_1) (pv0_0r := pv0_1r) (p1 := p1) pv0_1h hx8)) fun hs => sM (v := .tuple #[.int .i32 (x7.1), .bool (x7.2)]) hs rfl fun hs => s1 (v := .int .i32 (x7.1)) hs (zar rfl rfl) fun hs => s1 (v := .bool (x7.2)) hs (zar rfl rfl) fun hs => sA (v := .int .i32 (x7.1)) hs rfl fun hs => sA (v := .bool (x7.2)) hs rfl fun hs => za0 <| hK2 <| Ws fun hK3 => za7 ?_
 refine sM (v := .int .i32 (x7.1)) hs rfl fun hs => sA (v := .int .i32 (x7.1)) hs rfl fun hs => za0 <| hK3 <| zau ?_
 obtain rfl := Option.some.inj hm
 refine RtV1 hs rfl (rv_t hs rfl) ?_
 exact ⟨rfl, (hs.weak hle).cw⟩
def zhh : Option Bool :=
  some true
def zdd (n : Nat) (p0 : za3) (p1 : Int) (x7 : (List Int)) : Nat → Int → Option Bool
  | 0, _ => none
  | k15 + 1, y14 =>
  (bif (decide (y14 < (x7.length : Int))) then (geti x7 y14).bind fun x17 =>
  (zb6 n p0.c (w64 (p1 + y14))).bind fun x24 =>
  (bif ((!x24.2) || (decide (x24.1 ≠ x17))) then some false else
  (zdd n p0 p1 x7 k15) (w64 (y14 + 1))) else
  zhh)
def zee (n : Nat) (p0 : za3) (p1 : Int) (p2 : ByteArray) : Option Bool :=
  (runesM p2).bind fun x7 =>
  zdd n p0 p1 x7 n 0
theorem zg4 (n : Nat) {f : Fz} {p0 : za3} {pb0 : Nat} {pv0_0 : Nat} {pv0_1 : Value} {pv0_1r : List (List Value)} {pv0_2 : Value} {pv0_2r : List (List Value)} {p1 : Int} {p2 : ByteArray} {res : Bool} (pv0_1h : RW (tInt .i32) f pv0_1r p0.c.l) (pv0_2h : RW zap f pv0_2r p0.out) (hm : zee n p0 p1 p2 = some res) : GivesL Try.prog 31 [.pointer (some ⟨pb0, 0, none⟩), .int .i64 p1, .string p2] f [.blk pb0 (.cells #[.pointer (some ⟨pv0_0, 0, none⟩), pv0_2] 68 (0, 0)), .blk pv0_0 (.cells #[pv0_1, .int .i64 p0.c.at_] 98 (0, 0)), .row pv0_1 21 1 pv0_1r, .row pv0_2 56 5 pv0_2r] (.bool res) := by
 unfold zee at hm
 intro w0 L w hC
 replace hC : Cw w0 f (.blk pb0 (.cells #[.pointer (some ⟨pv0_0, 0, none⟩), pv0_2] 68 (0, 0)) :: .blk pv0_0 (.cells #[pv0_1, .int .i64 p0.c.at_] 98 (0, 0)) :: .row pv0_1 21 1 pv0_1r :: .row pv0_2 56 5 pv0_2r :: L) w := hC
 refine enter Try.func31 rfl Try.ntmps31 (by simp) hC fun a hs => ?_
 have hle := Fz.le.refl f
 refine Wq fun hK1 => sA (v := .bool (false)) hs rfl fun hs => za0 <| hK1 <| Ws fun hK2 => Wq fun hK3 => sM (v := .string (p2)) hs rfl fun hs => ?_
 obtain ⟨x7, hx8, hm⟩ := ob hm
 refine zld hx8 hs rfl Try.underlying9 Try.underlying28 Try.underlying21 fun v9 rw10 _ _ hW11 hs => s1 hs (zb7 (Rd.st hs (.head _)) hW11 rfl Try.underlying28) fun hs => sM (v := .int .i64 (0)) hs rfl fun hs => za0 <| hK3 ?_
 refine zai (fun a w => zhh = some res ∧ St 38 w0 f (.blk pb0 (.cells #[.pointer (some ⟨pv0_0, 0, none⟩), pv0_2] 68 (0, 0)) :: .blk pv0_0 (.cells #[pv0_1, .int .i64 (p0.c.at_)] 98 (0, 0)) :: .row pv0_1 21 1 pv0_1r :: .row pv0_2 56 5 pv0_2r :: L) [] a w) ?_ ?_
 ·clear hs hm
  rintro a w ⟨hm, hs⟩
  unfold zhh at hm
  refine hK2 <| Wq fun hK4 => sA (v := .bool (true)) hs rfl fun hs => za0 <| hK4 <| zau ?_
  obtain rfl := Option.some.inj hm
  refine RtV1 hs rfl (rv_t hs rfl) ?_
  exact ⟨rfl, (hs.weak hle).cw⟩
 refine zam fun Qe5 hB5 hO5 => zcw (fun (k : Nat) a w => ∃ (y14 : Int), zdd n p0 p1 x7 k y14 = some res ∧ St 38 w0 f (.row v9 21 1 rw10 :: .blk pb0 (.cells #[.pointer (some ⟨pv0_0, 0, none⟩), pv0_2] 68 (0, 0)) :: .blk pv0_0 (.cells #[pv0_1, .int .i64 (p0.c.at_)] 98 (0, 0)) :: .row pv0_1 21 1 pv0_1r :: .row pv0_2 56 5 pv0_2r :: L) [(0, .pointer (some ⟨pb0, 0, none⟩)), (1, .int .i64 (p1)), (12, v9), (13, .int .i64 ((x7.length : Int))), (14, .int .i64 (y14))] a w) (fun k => k) n ⟨0, hm, hs.sub ⟨rfl, rfl, rfl, rfl, rfl, trivial⟩⟩ ?_
 clear hs hm
 intro k
 rintro a w ⟨y14, hm, hs⟩
 intro K6 hK6
 cases k with
 | zero => simp [zdd] at hm
 | succ k15 =>
  rw [zdd] at hm
  refine Wq fun hK7 => s1 hs (zg7 rfl rfl) fun hs => za0 <| hK7 <| Ws fun hK8 => ?_
  refine zaf hs rfl (fun hg16 => ?_) (fun hg16 => ?_)
  ·replace hm := oc_t hg16 hm
   refine zah <| hK8 <| Ws fun hK9 => zam fun Qe10 hB10 hO10 => Wq fun hK11 => sM (v := .int .i64 (y14)) hs rfl fun hs => ?_
   obtain ⟨x17, hx18, hm⟩ := ob hm
   obtain ⟨r19, hr20, hq21, hi22, hb23⟩ := hW11.geti hx18
   obtain rfl : _ = ([.int .i32 (x17)] : List Value) := hq21
   refine s1 hs (za8 (Rd.st hs (.head _)) rfl rfl hi22 hb23 Try.underlying28 ti21) fun hs => s1 (v := .int .i32 (x17)) hs (zaw (i := y14.toNat) (j := 0) (Rd.st hs (.head _)) rfl hr20 rfl Try.underlying21 rfl) fun hs => sA (v := .int .i64 (y14)) hs rfl fun hs => sA (v := .int .i32 (x17)) hs rfl fun hs => za0 <| hK11 <| Wq fun hK12 => sM (v := .pointer (some ⟨pb0, 0, none⟩)) hs rfl fun hs => s1 hs (zab rfl) fun hs => ?_
   refine s1 (v := .pointer (some ⟨pb0, 0, none⟩)) hs (za1 rfl (FO.of (off := 0) Try.underlying68 rfl rfl ti65 (by decide))) fun hs => s1 (v := .pointer (some ⟨pv0_0, 0, none⟩)) hs (y_ld rfl Try.underlying65 rfl (Cell.blk (.tail _ (.head _)) rfl)) fun hs => sM (v := .int .i64 (p1)) hs rfl fun hs => sM (v := .int .i64 (y14)) hs rfl fun hs => s1 hs (zeq rfl rfl rfl) fun hs => ?_
   obtain ⟨x24, hx25, hm⟩ := ob hm
   refine s1 hs (zeg (cap := []) (Lf := .row v9 21 1 rw10 :: .blk pb0 (.cells #[.pointer (some ⟨pv0_0, 0, none⟩), pv0_2] 68 (0, 0)) :: .row pv0_2 56 5 pv0_2r :: L) rfl has60 rfl ((zag _ 3 rfl).trans (zag _ 3 rfl)) (zc3 n (f := f) (p0 := p0.c) (pb0 := pv0_0) (pv0_0 := pv0_1) (pv0_0r := pv0_1r) (p1 := (w64 (p1 + y14))) pv0_1h hx25)) fun hs => sM (v := .tuple #[.int .i32 (x24.1), .bool (x24.2)]) hs rfl fun hs => s1 (v := .int .i32 (x24.1)) hs (zar rfl rfl) fun hs => s1 (v := .bool (x24.2)) hs (zar rfl rfl) fun hs => sA (v := .int .i32 (x24.1)) hs rfl fun hs => sA (v := .bool (x24.2)) hs rfl fun hs => za0 <| hK12 <| Ws fun hK13 => ?_
   refine zai (fun a w => St 38 w0 f (.row v9 21 1 rw10 :: .blk pb0 (.cells #[.pointer (some ⟨pv0_0, 0, none⟩), pv0_2] 68 (0, 0)) :: .blk pv0_0 (.cells #[pv0_1, .int .i64 (p0.c.at_)] 98 (0, 0)) :: .row pv0_1 21 1 pv0_1r :: .row pv0_2 56 5 pv0_2r :: L) [(0, .pointer (some ⟨pb0, 0, none⟩)), (1, .int .i64 (p1)), (12, v9), (13, .int .i64 ((x7.length : Int))), (14, .int .i64 (y14)), (36, .bool (((!x24.2) || (decide (x24.1 ≠ x17)))))] a w) ?_ ?_
   ·clear hs; intro a w hs
    refine hK13 ?_
    refine zaf hs rfl (fun hg26 => ?_) (fun hg26 => ?_)
    ·replace hm := oc_t hg26 hm
     refine Wq fun hK14 => sA (v := .bool (false)) hs rfl fun hs => za0 <| hK14 <| zau ?_
     obtain rfl := Option.some.inj hm
     refine RtV1 hs rfl (rv_t hs rfl) ?_
     exact ⟨rfl, ((hs.subL (.cons _ (.cons_cons _ (.cons_cons _ (.cons_cons _ (.cons_cons _ (.refl _))))))).weak hle).cw⟩
    replace hm := oc_f hg26 hm
    refine zah <| hK9 <| za7 <| s1 hs (zeq rfl rfl rfl) fun hs => sM (v := .int .i64 ((w64 (y14 + 1)))) hs rfl fun hs => za0 ?_
    exact hK6 k15 _ _ (Nat.lt_succ_self _) ⟨(w64 (y14 + 1)), hm, hs.sub ⟨rfl, rfl, rfl, rfl, rfl, trivial⟩⟩
   refine za7 <| sM (v := .bool (x24.2)) hs rfl fun hs => s1 (v := .bool ((!x24.2))) hs (zj8 rfl) fun hs => sM (v := .bool ((!x24.2))) hs rfl fun hs => ?_
   refine St.split hs (t := 32) rfl (fun hg27 hs => ?_) (fun hg27 hs => ?_)
   ·refine s3 hs fun hs => s3 hs fun hs => s3 hs fun hs => sP (v := .bool (true)) hs rfl rfl fun hs => za0 ?_
    exact hs.sub ⟨rfl, rfl, rfl, rfl, rfl, (lkB (((or_t hg27).trans rfl)) rfl), trivial⟩
   refine s2 (v := .int .i32 (x24.1)) hs (zaa rfl) fun hs => s2 (v := .int .i32 (x17)) hs (zaa rfl) fun hs => s2 hs (zez rfl rfl) fun hs => sP (v := .bool (decide (x24.1 ≠ x17))) hs rfl rfl fun hs => za0 ?_
   exact hs.sub ⟨rfl, rfl, rfl, rfl, rfl, (lkB (((or_f hg27).trans rfl)) rfl), trivial⟩
  replace hm := oc_f hg16 hm
  refine zc9 <| hB5 _ _ ?_
  exact ⟨hm, hs.subs trivial (.cons _ (.cons_cons _ (.cons_cons _ (.cons_cons _ (.cons_cons _ (.refl _))))))⟩
def zcp (y12 : Bool) : Option Bool :=
  some y12
def zel (n : Nat) (p0 : za3) : Option Bool :=
  (zee n p0 0 (bs [60])).bind fun x7 =>
  (bif (!x7) then some false else
  (zbu n p0 1).bind fun x10 =>
  (zi2 n x10).bind fun x13 =>
  (bif x13 then zcp true else
  (bif (decide (x10 = 33)) then zcp true else
  (bif (decide (x10 = 63)) then zcp true else
  zcp (decide (x10 = 47))))))
theorem zj4 (n : Nat) {f : Fz} {p0 : za3} {pb0 : Nat} {pv0_0 : Nat} {pv0_1 : Value} {pv0_1r : List (List Value)} {pv0_2 : Value} {pv0_2r : List (List Value)} {res : Bool} (pv0_1h : RW (tInt .i32) f pv0_1r p0.c.l) (pv0_2h : RW zap f pv0_2r p0.out) (hm : zel n p0 = some res) : GivesL Try.prog 28 [.pointer (some ⟨pb0, 0, none⟩)] f [.blk pb0 (.cells #[.pointer (some ⟨pv0_0, 0, none⟩), pv0_2] 68 (0, 0)), .blk pv0_0 (.cells #[pv0_1, .int .i64 p0.c.at_] 98 (0, 0)), .row pv0_1 21 1 pv0_1r, .row pv0_2 56 5 pv0_2r] (.bool res) := by
 unfold zel at hm
 intro w0 L w hC
 replace hC : Cw w0 f (.blk pb0 (.cells #[.pointer (some ⟨pv0_0, 0, none⟩), pv0_2] 68 (0, 0)) :: .blk pv0_0 (.cells #[pv0_1, .int .i64 p0.c.at_] 98 (0, 0)) :: .row pv0_1 21 1 pv0_1r :: .row pv0_2 56 5 pv0_2r :: L) w := hC
 refine enter Try.func28 rfl Try.ntmps28 (by simp) hC fun a hs => ?_
 have hle := Fz.le.refl f
 refine Wq fun hK1 => sA (v := .bool (false)) hs rfl fun hs => za0 <| hK1 <| Ws fun hK2 => Wq fun hK3 => sM (v := .pointer (some ⟨pb0, 0, none⟩)) hs rfl fun hs => ?_
 obtain ⟨x7, hx8, hm⟩ := ob hm
 refine s1 hs (zeg (cap := []) (Lf := L) rfl has31 rfl ((((zag _ 3 rfl).trans (zag _ 3 rfl)).trans (zag _ 3 rfl)).trans (zag _ 3 rfl)) (zg4 n (f := f) (p0 := p0) (pb0 := pb0) (pv0_0 := pv0_0) (pv0_1 := pv0_1) (pv0_1r := pv0_1r) (pv0_2 := pv0_2) (pv0_2r := pv0_2r) (p1 := 0) (p2 := (bs [60])) pv0_1h pv0_2h hx8)) fun hs => s1 (v := .bool ((!x7))) hs (zj8 rfl) fun hs => za0 <| hK3 ?_
 refine zaf hs rfl (fun hg9 => ?_) (fun hg9 => ?_)
 ·replace hm := oc_t hg9 hm
  refine Wq fun hK4 => sA (v := .bool (false)) hs rfl fun hs => za0 <| hK4 <| zau ?_
  obtain rfl := Option.some.inj hm
  refine RtV1 hs rfl (rv_t hs rfl) ?_
  exact ⟨rfl, (hs.weak hle).cw⟩
 replace hm := oc_f hg9 hm
 refine zah <| hK2 <| Wq fun hK5 => sM (v := .pointer (some ⟨pb0, 0, none⟩)) hs rfl fun hs => ?_
 obtain ⟨x10, hx11, hm⟩ := ob hm
 refine s1 hs (zeg (cap := []) (Lf := L) rfl has30 rfl ((((zag _ 3 rfl).trans (zag _ 3 rfl)).trans (zag _ 3 rfl)).trans (zag _ 3 rfl)) (zco n (f := f) (p0 := p0) (pb0 := pb0) (pv0_0 := pv0_0) (pv0_1 := pv0_1) (pv0_1r := pv0_1r) (pv0_2 := pv0_2) (pv0_2r := pv0_2r) (p1 := 1) pv0_1h pv0_2h hx11)) fun hs => sA (v := .int .i32 (x10)) hs rfl fun hs => za0 <| hK5 <| Ws fun hK6 => ?_
 refine zai (fun a w => ∃ (y12 : Bool), zcp y12 = some res ∧ St 23 w0 f (.blk pb0 (.cells #[.pointer (some ⟨pv0_0, 0, none⟩), pv0_2] 68 (0, 0)) :: .blk pv0_0 (.cells #[pv0_1, .int .i64 (p0.c.at_)] 98 (0, 0)) :: .row pv0_1 21 1 pv0_1r :: .row pv0_2 56 5 pv0_2r :: L) [(2, .bool (y12))] a w) ?_ ?_
 ·clear hs hm
  rintro a w ⟨y12, hm, hs⟩
  unfold zcp at hm
  refine hK6 <| zau ?_
  obtain rfl := Option.some.inj hm
  refine RtV1 hs rfl (rv_t hs rfl) ?_
  exact ⟨rfl, (hs.weak hle).cw⟩
 refine za7 <| sM (v := .int .i32 (x10)) hs rfl fun hs => ?_
 obtain ⟨x13, hx14, hm⟩ := ob hm
 refine s1 hs (zbd rfl has29 rfl (zkb n (f := f)  hx14)) fun hs => sM (v := .bool (x13)) hs rfl fun hs => ?_
 refine St.split hs (t := 11) rfl (fun hg15 hs => ?_) (fun hg15 hs => ?_)
 ·replace hm := oc_t hg15 hm
  refine s3 hs fun hs => s3 hs fun hs => sP (v := .bool (true)) hs rfl rfl fun hs => sM (v := .bool (true)) hs rfl fun hs => s3 hs fun hs => s3 hs fun hs => sP (v := .bool (true)) hs rfl rfl fun hs => sM (v := .bool (true)) hs rfl fun hs => s3 hs fun hs => s3 hs fun hs => ?_
  refine sP (v := .bool (true)) hs rfl rfl fun hs => sA (v := .bool (true)) hs rfl fun hs => za0 ?_
  exact ⟨true, hm, hs.sub ⟨rfl, trivial⟩⟩
 replace hm := oc_f hg15 hm
 refine s2 (v := .int .i32 (x10)) hs (zaa rfl) fun hs => s2 hs (zd3 rfl rfl) fun hs => sP (v := .bool (decide (x10 = 33))) hs rfl rfl fun hs => sM (v := .bool (decide (x10 = 33))) hs rfl fun hs => ?_
 refine St.split hs (t := 15) rfl (fun hg16 hs => ?_) (fun hg16 hs => ?_)
 ·replace hm := oc_t hg16 hm
  refine s3 hs fun hs => s3 hs fun hs => sP (v := .bool (true)) hs rfl rfl fun hs => sM (v := .bool (true)) hs rfl fun hs => s3 hs fun hs => s3 hs fun hs => sP (v := .bool (true)) hs rfl rfl fun hs => sA (v := .bool (true)) hs rfl fun hs => za0 ?_
  exact ⟨true, hm, hs.sub ⟨rfl, trivial⟩⟩
 replace hm := oc_f hg16 hm
 refine s2 (v := .int .i32 (x10)) hs (zaa rfl) fun hs => s2 hs (zd3 rfl rfl) fun hs => sP (v := .bool (decide (x10 = 63))) hs rfl rfl fun hs => sM (v := .bool (decide (x10 = 63))) hs rfl fun hs => ?_
 refine St.split hs (t := 19) rfl (fun hg17 hs => ?_) (fun hg17 hs => ?_)
 ·replace hm := oc_t hg17 hm
  refine s3 hs fun hs => s3 hs fun hs => sP (v := .bool (true)) hs rfl rfl fun hs => sA (v := .bool (true)) hs rfl fun hs => za0 ?_
  exact ⟨true, hm, hs.sub ⟨rfl, trivial⟩⟩
 replace hm := oc_f hg17 hm
 refine s2 (v := .int .i32 (x10)) hs (zaa rfl) fun hs => s2 hs (zd3 rfl rfl) fun hs => sP (v := .bool (decide (x10 = 47))) hs rfl rfl fun hs => sA (v := .bool (decide (x10 = 47))) hs rfl fun hs => za0 ?_
 exact ⟨decide (x10 = 47), hm, hs.sub ⟨rfl, trivial⟩⟩
def zdw (y1 : Bool) : Option Bool :=
  some y1
def zg1 (n : Nat) (p0 : Int) : Option Bool :=
  (zec n p0).bind fun x2 =>
  (bif (!x2) then (bif (decide (p0 ≠ 47)) then zdw (decide (p0 ≠ 62)) else
  zdw false) else
  zdw false)
theorem zmf (n : Nat) {f : Fz} {p0 : Int} {res : Bool}  (hm : zg1 n p0 = some res) : Gives Try.prog 68 [.int .i32 p0] f (.bool res) := by
 unfold zg1 at hm
 intro w0 L w hC
 refine enter Try.func68 rfl Try.ntmps68 (by simp) hC fun a hs => ?_
 have hle := Fz.le.refl f
 refine Wq fun hK1 => sA (v := .bool (false)) hs rfl fun hs => za0 <| hK1 <| Ws fun hK2 => ?_
 refine zai (fun a w => ∃ (y1 : Bool), zdw y1 = some res ∧ St 14 w0 f (L) [(2, .bool (y1))] a w) ?_ ?_
 ·clear hs hm
  rintro a w ⟨y1, hm, hs⟩
  unfold zdw at hm
  refine hK2 <| zau ?_
  obtain rfl := Option.some.inj hm
  refine RtV1 hs rfl (rv_t hs rfl) ?_
  exact ⟨rfl, (hs.weak hle).cw⟩
 refine za7 <| sM (v := .int .i32 (p0)) hs rfl fun hs => ?_
 obtain ⟨x2, hx3, hm⟩ := ob hm
 refine s1 hs (zbd rfl has69 rfl (zgc n (f := f)  hx3)) fun hs => s1 (v := .bool ((!x2))) hs (zj8 rfl) fun hs => sM (v := .bool ((!x2))) hs rfl fun hs => ?_
 refine St.split hs (t := 6) rfl (fun hg4 hs => ?_) (fun hg4 hs => ?_)
 ·replace hm := oc_t hg4 hm
  refine s2 (v := .int .i32 (p0)) hs (zaa rfl) fun hs => s2 hs (zez rfl rfl) fun hs => sP (v := .bool (decide (p0 ≠ 47))) hs rfl rfl fun hs => sM (v := .bool (decide (p0 ≠ 47))) hs rfl fun hs => ?_
  refine St.split hs (t := 10) rfl (fun hg5 hs => ?_) (fun hg5 hs => ?_)
  ·replace hm := oc_t hg5 hm
   refine s2 (v := .int .i32 (p0)) hs (zaa rfl) fun hs => s2 hs (zez rfl rfl) fun hs => sP (v := .bool (decide (p0 ≠ 62))) hs rfl rfl fun hs => sA (v := .bool (decide (p0 ≠ 62))) hs rfl fun hs => za0 ?_
   exact ⟨decide (p0 ≠ 62), hm, hs.sub ⟨rfl, trivial⟩⟩
  replace hm := oc_f hg5 hm
  refine s3 hs fun hs => s3 hs fun hs => sP (v := .bool (false)) hs rfl rfl fun hs => sA (v := .bool (false)) hs rfl fun hs => za0 ?_
  exact ⟨false, hm, hs.sub ⟨rfl, trivial⟩⟩
 replace hm := oc_f hg4 hm
 refine s3 hs fun hs => s3 hs fun hs => sP (v := .bool (false)) hs rfl rfl fun hs => sM (v := .bool (false)) hs rfl fun hs => s3 hs fun hs => s3 hs fun hs => sP (v := .bool (false)) hs rfl rfl fun hs => sA (v := .bool (false)) hs rfl fun hs => za0 ?_
 exact ⟨false, hm, hs.sub ⟨rfl, trivial⟩⟩
def zcy (y1 : Bool) : Option Bool :=
  some y1
def zf1 (n : Nat) (p0 : Int) : Option Bool :=
  (zec n p0).bind fun x2 =>
  (bif (!x2) then (bif (decide (p0 ≠ 61)) then (bif (decide (p0 ≠ 47)) then zcy (decide (p0 ≠ 62)) else
  zcy false) else
  zcy false) else
  zcy false)
theorem zme (n : Nat) {f : Fz} {p0 : Int} {res : Bool}  (hm : zf1 n p0 = some res) : Gives Try.prog 70 [.int .i32 p0] f (.bool res) := by
 unfold zf1 at hm
 intro w0 L w hC
 refine enter Try.func70 rfl Try.ntmps70 (by simp) hC fun a hs => ?_
 have hle := Fz.le.refl f
 refine Wq fun hK1 => sA (v := .bool (false)) hs rfl fun hs => za0 <| hK1 <| Ws fun hK2 => ?_
 refine zai (fun a w => ∃ (y1 : Bool), zcy y1 = some res ∧ St 18 w0 f (L) [(2, .bool (y1))] a w) ?_ ?_
 ·clear hs hm
  rintro a w ⟨y1, hm, hs⟩
  unfold zcy at hm
  refine hK2 <| zau ?_
  obtain rfl := Option.some.inj hm
  refine RtV1 hs rfl (rv_t hs rfl) ?_
  exact ⟨rfl, (hs.weak hle).cw⟩
 refine za7 <| sM (v := .int .i32 (p0)) hs rfl fun hs => ?_
 obtain ⟨x2, hx3, hm⟩ := ob hm
 refine s1 hs (zbd rfl has69 rfl (zgc n (f := f)  hx3)) fun hs => s1 (v := .bool ((!x2))) hs (zj8 rfl) fun hs => sM (v := .bool ((!x2))) hs rfl fun hs => ?_
 refine St.split hs (t := 6) rfl (fun hg4 hs => ?_) (fun hg4 hs => ?_)
 ·replace hm := oc_t hg4 hm
  refine s2 (v := .int .i32 (p0)) hs (zaa rfl) fun hs => s2 hs (zez rfl rfl) fun hs => sP (v := .bool (decide (p0 ≠ 61))) hs rfl rfl fun hs => sM (v := .bool (decide (p0 ≠ 61))) hs rfl fun hs => ?_
  refine St.split hs (t := 10) rfl (fun hg5 hs => ?_) (fun hg5 hs => ?_)
  ·replace hm := oc_t hg5 hm
   refine s2 (v := .int .i32 (p0)) hs (zaa rfl) fun hs => s2 hs (zez rfl rfl) fun hs => sP (v := .bool (decide (p0 ≠ 47))) hs rfl rfl fun hs => sM (v := .bool (decide (p0 ≠ 47))) hs rfl fun hs => ?_
   refine St.split hs (t := 14) rfl (fun hg6 hs => ?_) (fun hg6 hs => ?_)
   ·replace hm := oc_t hg6 hm
    refine s2 (v := .int .i32 (p0)) hs (zaa rfl) fun hs => s2 hs (zez rfl rfl) fun hs => sP (v := .bool (decide (p0 ≠ 62))) hs rfl rfl fun hs => sA (v := .bool (decide (p0 ≠ 62))) hs rfl fun hs => za0 ?_
    exact ⟨decide (p0 ≠ 62), hm, hs.sub ⟨rfl, trivial⟩⟩
   replace hm := oc_f hg6 hm
   refine s3 hs fun hs => s3 hs fun hs => sP (v := .bool (false)) hs rfl rfl fun hs => sA (v := .bool (false)) hs rfl fun hs => za0 ?_
   exact ⟨false, hm, hs.sub ⟨rfl, trivial⟩⟩
  replace hm := oc_f hg5 hm
  refine s3 hs fun hs => s3 hs fun hs => sP (v := .bool (false)) hs rfl rfl fun hs => sM (v := .bool (false)) hs rfl fun hs => s3 hs fun hs => s3 hs fun hs => sP (v := .bool (false)) hs rfl rfl fun hs => sA (v := .bool (false)) hs rfl fun hs => za0 ?_
  exact ⟨false, hm, hs.sub ⟨rfl, trivial⟩⟩
 replace hm := oc_f hg4 hm
 refine s3 hs fun hs => s3 hs fun hs => sP (v := .bool (false)) hs rfl rfl fun hs => sM (v := .bool (false)) hs rfl fun hs => s3 hs fun hs => s3 hs fun hs => sP (v := .bool (false)) hs rfl rfl fun hs => sM (v := .bool (false)) hs rfl fun hs => s3 hs fun hs => s3 hs fun hs => ?_
 refine sP (v := .bool (false)) hs rfl rfl fun hs => sA (v := .bool (false)) hs rfl fun hs => za0 ?_
 exact ⟨false, hm, hs.sub ⟨rfl, trivial⟩⟩
def ze6 (y1 : Bool) : Option Bool :=
  some y1
def zf8 (n : Nat) (p0 : Int) : Option Bool :=
  (zec n p0).bind fun x2 =>
  (bif (!x2) then ze6 (decide (p0 ≠ 62)) else
  ze6 false)
theorem zlj (n : Nat) {f : Fz} {p0 : Int} {res : Bool}  (hm : zf8 n p0 = some res) : Gives Try.prog 82 [.int .i32 p0] f (.bool res) := by
 unfold zf8 at hm
 intro w0 L w hC
 refine enter Try.func82 rfl Try.ntmps82 (by simp) hC fun a hs => ?_
 have hle := Fz.le.refl f
 refine Wq fun hK1 => sA (v := .bool (false)) hs rfl fun hs => za0 <| hK1 <| Ws fun hK2 => ?_
 refine zai (fun a w => ∃ (y1 : Bool), ze6 y1 = some res ∧ St 10 w0 f (L) [(2, .bool (y1))] a w) ?_ ?_
 ·clear hs hm
  rintro a w ⟨y1, hm, hs⟩
  unfold ze6 at hm
  refine hK2 <| zau ?_
  obtain rfl := Option.some.inj hm
  refine RtV1 hs rfl (rv_t hs rfl) ?_
  exact ⟨rfl, (hs.weak hle).cw⟩
 refine za7 <| sM (v := .int .i32 (p0)) hs rfl fun hs => ?_
 obtain ⟨x2, hx3, hm⟩ := ob hm
 refine s1 hs (zbd rfl has69 rfl (zgc n (f := f)  hx3)) fun hs => s1 (v := .bool ((!x2))) hs (zj8 rfl) fun hs => sM (v := .bool ((!x2))) hs rfl fun hs => ?_
 refine St.split hs (t := 6) rfl (fun hg4 hs => ?_) (fun hg4 hs => ?_)
 ·replace hm := oc_t hg4 hm
  refine s2 (v := .int .i32 (p0)) hs (zaa rfl) fun hs => s2 hs (zez rfl rfl) fun hs => sP (v := .bool (decide (p0 ≠ 62))) hs rfl rfl fun hs => sA (v := .bool (decide (p0 ≠ 62))) hs rfl fun hs => za0 ?_
  exact ⟨decide (p0 ≠ 62), hm, hs.sub ⟨rfl, trivial⟩⟩
 replace hm := oc_f hg4 hm
 refine s3 hs fun hs => s3 hs fun hs => sP (v := .bool (false)) hs rfl rfl fun hs => sA (v := .bool (false)) hs rfl fun hs => za0 ?_
 exact ⟨false, hm, hs.sub ⟨rfl, trivial⟩⟩
def zgb (n : Nat) (p0 : Int) (q0 : Int) : Option Bool :=
  some (decide (p0 ≠ q0))
theorem zli (n : Nat) {f : Fz} {p0 : Int} {cb0 : Nat} {q0 : Int} {ca0 : List Value} {res : Bool} (hq0 : (tInt .i32).R f ca0 q0) (hc0 : f cb0 = some (.cells ca0.toArray 21 (0, 0))) (hm : zgb n p0 q0 = some res) : Gives Try.prog 83 [.int .i32 p0, .pointer (some ⟨cb0, 0, none⟩)] f (.bool res) := by
 unfold zgb at hm
 intro w0 L w hC
 obtain rfl : _ = ([.int .i32 (q0)] : List Value) := hq0
 refine enter Try.func83 rfl Try.ntmps83 (by simp) hC fun a hs => ?_
 have hle := Fz.le.refl f
 refine Wq fun hK1 => sA (v := .bool (false)) hs rfl fun hs => za0 <| hK1 <| Wq fun hK2 => sM (v := .int .i32 (p0)) hs rfl fun hs => s1 (v := .int .i32 (q0)) hs (y_ld rfl Try.underlying21 rfl (Cell.fz hc0 rfl)) fun hs => s1 hs (zez rfl rfl) fun hs => ?_
 refine sA (v := .bool (decide (p0 ≠ q0))) hs rfl fun hs => za0 <| hK2 <| zau ?_
 obtain rfl := Option.some.inj hm
 refine RtV1 hs rfl (rv_t hs rfl) ?_
 exact ⟨rfl, (hs.weak hle).cw⟩
def zer (p0 : za3) (y14 : (List Int)) (y19 : (List Int)) (y24 : Int) : Option ((List Int) × za3) :=
  some (y14, ({c := ({l := y19, at_ := y24} : za4), out := p0.out} : za3))
def zdv (n : Nat) (p0 : za3) (y31 : (List Int)) (y36 : Int) (y38 : (List Int)) (y43 : Int) (lp49 : (List Int) → Int → (List Int) → Int → Bool → Option ((List Int) × za3)) (y51 : Bool) : Option ((List Int) × za3) :=
  (bif y51 then (appM 4 y38 [y43]).bind fun x58 =>
  (zaj n ({l := y31, at_ := y36} : za4)).bind fun x64 =>
  (zb6 n x64.2.2 0).bind fun x72 =>
  lp49 x64.2.2.l x64.2.2.at_ x58 x72.1 x72.2 else
  zer p0 y38 y31 y36)
def zbg (n : Nat) (p0 : za3) (p1 : (Int → Option Bool)) : Nat → (List Int) → Int → (List Int) → Int → Bool → Option ((List Int) × za3)
  | 0, _, _, _, _, _ => none
  | k49 + 1, y31, y36, y38, y43, y44 =>
  (bif y44 then (p1 y43).bind fun x75 =>
  zdv n p0 y31 y36 y38 y43 (zbg n p0 p1 k49) x75 else
  zdv n p0 y31 y36 y38 y43 (zbg n p0 p1 k49) false)
def zcc (n : Nat) (p0 : za3) (p1 : (Int → Option Bool)) : Option ((List Int) × za3) :=
  (zb6 n p0.c 0).bind fun x9 =>
  zbg n p0 p1 n p0.c.l p0.c.at_ ([] : List Int) x9.1 x9.2
theorem zdu (n : Nat) {f : Fz} {p0 : za3} {pb0 : Nat} {pv0_0 : Nat} {pv0_1 : Value} {pv0_1r : List (List Value)} {pv0_2 : Value} {pv0_2r : List (List Value)} {p1 : (Int → Option Bool)} {g1 : FuncId} {cap1 : List Value} {res : ((List Int) × za3)} (pv0_1h : RW (tInt .i32) f pv0_1r p0.c.l) (pv0_2h : RW zap f pv0_2r p0.out) (hg1 : Has Try.prog g1) (hf1 : ∀ f', Fz.le f f' → ∀ (z0 : Int) (r : Bool), p1 z0 = some r → Gives Try.prog g1 ([.int .i32 z0] ++ cap1) f' (.bool r)) (hm : zcc n p0 p1 = some res) : Does Try.prog 67 [.pointer (some ⟨pb0, 0, none⟩), .func (.func g1) #[] cap1.toArray] f [.blk pb0 (.cells #[.pointer (some ⟨pv0_0, 0, none⟩), pv0_2] 68 (0, 0)), .blk pv0_0 (.cells #[pv0_1, .int .i64 p0.c.at_] 98 (0, 0)), .row pv0_1 21 1 pv0_1r, .row pv0_2 56 5 pv0_2r] (fun r f' L' => ∃ (u0 : Value) (dp0_1 : Value) (dp0_1r : List (List Value)) (dp0_2 : Value) (dp0_2r : List (List Value)), L' = [.blk pb0 (.cells #[.pointer (some ⟨pv0_0, 0, none⟩), dp0_2] 68 (0, 0)), .blk pv0_0 (.cells #[dp0_1, .int .i64 res.2.c.at_] 98 (0, 0)), .row dp0_1 21 1 dp0_1r, .row dp0_2 56 5 dp0_2r] ∧ r = u0 ∧ RS (tInt .i32) f' u0 res.1 ∧ RW (tInt .i32) f' dp0_1r res.2.c.l ∧ RW zap f' dp0_2r res.2.out) := by
 unfold zcc at hm
 intro w0 L w hC
 replace hC : Cw w0 f (.blk pb0 (.cells #[.pointer (some ⟨pv0_0, 0, none⟩), pv0_2] 68 (0, 0)) :: .blk pv0_0 (.cells #[pv0_1, .int .i64 p0.c.at_] 98 (0, 0)) :: .row pv0_1 21 1 pv0_1r :: .row pv0_2 56 5 pv0_2r :: L) w := hC
 refine enter Try.func67 rfl Try.ntmps67 (by simp) hC fun a hs => ?_
 have hle := Fz.le.refl f
 refine Wq fun hK1 => sA (v := (.slice none 0 0)) hs rfl fun hs => za0 <| hK1 <| Wq fun hK2 => sA (v := (.slice none 0 0)) hs rfl fun hs => za0 <| hK2 ?_
 refine Ws fun hK3 => Wq fun hK4 => sM (v := .pointer (some ⟨pb0, 0, none⟩)) hs rfl fun hs => s1 hs (zab rfl) fun hs => s1 (v := .pointer (some ⟨pb0, 0, none⟩)) hs (za1 rfl (FO.of (off := 0) Try.underlying68 rfl rfl ti65 (by decide))) fun hs => s1 (v := .pointer (some ⟨pv0_0, 0, none⟩)) hs (y_ld rfl Try.underlying65 rfl (Cell.blk (.head _) rfl)) fun hs => ?_
 obtain ⟨x9, hx10, hm⟩ := ob hm
 refine s1 hs (zeg (cap := []) (Lf := .blk pb0 (.cells #[.pointer (some ⟨pv0_0, 0, none⟩), pv0_2] 68 (0, 0)) :: .row pv0_2 56 5 pv0_2r :: L) rfl has60 rfl ((zag _ 2 rfl).trans (zag _ 2 rfl)) (zc3 n (f := f) (p0 := p0.c) (pb0 := pv0_0) (pv0_0 := pv0_1) (pv0_0r := pv0_1r) (p1 := 0) pv0_1h hx10)) fun hs => sM (v := .tuple #[.int .i32 (x9.1), .bool (x9.2)]) hs rfl fun hs => s1 (v := .int .i32 (x9.1)) hs (zar rfl rfl) fun hs => s1 (v := .bool (x9.2)) hs (zar rfl rfl) fun hs => sA (v := .int .i32 (x9.1)) hs rfl fun hs => sA (v := .bool (x9.2)) hs rfl fun hs => za0 <| hK4 ?_
 have hbase25 := Fz.le.refl f
 refine zai (fun a w => ∃ (f11 : Fz) (y14 : (List Int)) (y19 : (List Int)) (y24 : Int) (v15 : Value) (rw16 : List (List Value)) (v20 : Value) (rw21 : List (List Value)), Fz.le f f11 ∧ zer p0 y14 y19 y24 = some res ∧ RW (tInt .i32) f11 rw16 y14 ∧ RW (tInt .i32) f11 rw21 y19 ∧ St 40 w0 f11 (.row v15 21 1 rw16 :: .blk pb0 (.cells #[.pointer (some ⟨pv0_0, 0, none⟩), pv0_2] 68 (0, 0)) :: .blk pv0_0 (.cells #[v20, .int .i64 (y24)] 98 (0, 0)) :: .row v20 21 1 rw21 :: .row pv0_2 56 5 pv0_2r :: L) [(5, v15)] a w) ?_ ?_
 ·clear hs hm
  clear hbase25
  rintro a w ⟨f11, y14, y19, y24, v15, rw16, v20, rw21, hl12, hm, hW17, hW22, hs⟩
  replace pv0_1h := pv0_1h.le hl12
  replace pv0_2h := pv0_2h.le hl12
  replace hf1 := fun f'' h'' => hf1 f'' (hl12.trans h'')
  replace hle := hle.trans hl12
  unfold zer at hm
  refine hK3 <| Wq fun hK5 => sM (v := v15) hs rfl fun hs => sA (v := v15) hs rfl fun hs => za0 <| hK5 <| zau ?_
  obtain ⟨f26, hf27, hs2, hR28⟩ := hs.frzAt 0 rfl
  clear hs; have hs := hs2; clear hs2
  replace pv0_2h := pv0_2h.le hf27
  replace hf1 := fun f'' h'' => hf1 f'' (hf27.trans h'')
  replace hW17 := hW17.le hf27
  replace hW22 := hW22.le hf27
  replace hle := hle.trans hf27
  obtain rfl := Option.some.inj hm
  refine RtV1 hs rfl (rv_t hs rfl) ?_
  exact ⟨_, f26, [.blk pb0 (.cells #[.pointer (some ⟨pv0_0, 0, none⟩), pv0_2] 68 (0, 0)), .blk pv0_0 (.cells #[v20, .int .i64 (y24)] 98 (0, 0)), .row v20 21 1 rw21, .row pv0_2 56 5 pv0_2r], rfl, hle, hs.cw, v15, v20, rw21, pv0_2, pv0_2r, rfl, rfl, ⟨rw16, hR28, hW17⟩, hW22, pv0_2h⟩
 refine zam fun Qe6 hB6 hO6 => ?_
 have hbase := Fz.le.refl f
 replace hs := hs.nilRow 21 1
 have hW45 : RW (tInt .i32) f [] ([] : List Int) := trivial
 generalize hgrw46 : ([] : List (List Value)) = rw46 at hs hW45; clear hgrw46
 refine zcw (fun (k : Nat) a w => ∃ (f29 : Fz) (y31 : (List Int)) (y36 : Int) (y38 : (List Int)) (y43 : Int) (y44 : Bool) (v32 : Value) (rw33 : List (List Value)) (v39 : Value) (rw40 : List (List Value)), Fz.le f f29 ∧ zbg n p0 p1 k y31 y36 y38 y43 y44 = some res ∧ RW (tInt .i32) f29 rw33 y31 ∧ RW (tInt .i32) f29 rw40 y38 ∧ St 40 w0 f29 (.row v39 21 1 rw40 :: .blk pb0 (.cells #[.pointer (some ⟨pv0_0, 0, none⟩), pv0_2] 68 (0, 0)) :: .blk pv0_0 (.cells #[v32, .int .i64 (y36)] 98 (0, 0)) :: .row v32 21 1 rw33 :: .row pv0_2 56 5 pv0_2r :: L) [(0, .pointer (some ⟨pb0, 0, none⟩)), (1, .func (.func g1) #[] cap1.toArray), (5, v39), (6, .int .i32 (y43)), (7, .bool (y44))] a w) (fun k => k) n ⟨_, p0.c.l, p0.c.at_, ([] : List Int), x9.1, x9.2, pv0_1, pv0_1r, (.slice none 0 0), rw46, (Fz.le.refl _), hm, pv0_1h, hW45, hs.sub ⟨rfl, rfl, rfl, rfl, rfl, trivial⟩⟩ ?_
 clear hs hm
 intro k
 rintro a w ⟨f29, y31, y36, y38, y43, y44, v32, rw33, v39, rw40, hl30, hm, hW34, hW41, hs⟩
 replace pv0_1h := pv0_1h.le hl30
 replace pv0_2h := pv0_2h.le hl30
 replace hf1 := fun f'' h'' => hf1 f'' (hl30.trans h'')
 replace hle := hle.trans hl30
 replace hbase25 := hbase25.trans hl30
 intro K7 hK7
 cases k with
 | zero => simp [zbg] at hm
 | succ k49 =>
  rw [zbg] at hm
  have hbase50 := hl30
  refine Ws fun hK8 => Ws fun hK9 => ?_
  refine zai (fun a w => ∃ (y51 : Bool), zdv n p0 y31 y36 y38 y43 (zbg n p0 p1 k49) y51 = some res ∧ St 40 w0 f29 (.row v39 21 1 rw40 :: .blk pb0 (.cells #[.pointer (some ⟨pv0_0, 0, none⟩), pv0_2] 68 (0, 0)) :: .blk pv0_0 (.cells #[v32, .int .i64 (y36)] 98 (0, 0)) :: .row v32 21 1 rw33 :: .row pv0_2 56 5 pv0_2r :: L) [(0, .pointer (some ⟨pb0, 0, none⟩)), (1, .func (.func g1) #[] cap1.toArray), (5, v39), (6, .int .i32 (y43)), (21, .bool (y51))] a w) ?_ ?_
  ·clear hs hm
   rintro a w ⟨y51, hm, hs⟩
   unfold zdv at hm
   refine hK9 ?_
   refine zaf hs rfl (fun hg52 => ?_) (fun hg52 => ?_)
   ·replace hm := oc_t hg52 hm
    refine zah <| hK8 <| Ws fun hK10 => zam fun Qe11 hB11 hO11 => Wq fun hK12 => sM (v := v39) hs rfl fun hs => sM (v := .int .i32 (y43)) hs rfl fun hs => zfz hs rfl Try.underlying28 ti21 rfl rfl fun v53 _ _ hs => ?_
    have hW54 : RW (tInt .i32) f29 [[.int .i32 (y43)]] [y43] := RW.single (rfl)
    generalize hgrw55 : ([[.int .i32 (y43)]] : List (List Value)) = rw55 at hs hW54; clear hgrw55
    obtain ⟨x58, hx59, hm⟩ := ob hm
    obtain ⟨hbx58, hex58⟩ := zcj hx59
    have hW62 := hW41.append hW54; rw [hex58] at hW62
    refine zcs (i := 1) hs rfl rfl rfl (Rd.st hs (.head _)) Try.underlying28 ti21 (by decide) (by rw [RW.len hW41, RW.len hW54]; exact hbx58) (.free rfl) (by decide) fun v60 _ _ hs => ?_
    generalize hgx58 : rw40 ++ rw55 = rw61 at hs hW62; clear hgx58
    replace hs := hs.erase 0
    refine sA (v := v60) hs rfl fun hs => za0 <| hK12 <| za7 <| sM (v := .pointer (some ⟨pb0, 0, none⟩)) hs rfl fun hs => s1 hs (zab rfl) fun hs => s1 (v := .pointer (some ⟨pb0, 0, none⟩)) hs (za1 rfl (FO.of (off := 0) Try.underlying68 rfl rfl ti65 (by decide))) fun hs => s1 (v := .pointer (some ⟨pv0_0, 0, none⟩)) hs (y_ld rfl Try.underlying65 rfl (Cell.blk (.tail _ (.head _)) rfl)) fun hs => ?_
    obtain ⟨x64, hx65, hm⟩ := ob hm
    replace hs := hs.front 3
    replace hs := hs.front 3
    refine zbx (Lr := [.blk pv0_0 (.cells #[v32, .int .i64 (y36)] 98 (0, 0)), .row v32 21 1 rw33]) (Lf := .row v60 21 1 rw61 :: .blk pb0 (.cells #[.pointer (some ⟨pv0_0, 0, none⟩), pv0_2] 68 (0, 0)) :: .row pv0_2 56 5 pv0_2r :: L) hs rfl has34 rfl rfl (zao n (f := f29) (p0 := ({l := y31, at_ := y36} : za4)) (pb0 := pv0_0) (pv0_0 := v32) (pv0_0r := rw33) hW34 hx65) (.free rfl) (by decide) ?_; clear hs; (try clear a w)
    rintro _ f66 _ a w hf67 ⟨v68, rw69, rfl, rfl, hW70⟩ hs
    replace pv0_1h := pv0_1h.le hf67
    replace pv0_2h := pv0_2h.le hf67
    replace hf1 := fun f'' h'' => hf1 f'' (hf67.trans h'')
    replace hW34 := hW34.le hf67
    replace hW41 := hW41.le hf67
    replace hW54 := hW54.le hf67
    replace hW62 := hW62.le hf67
    replace hle := hle.trans hf67
    replace hbase25 := hbase25.trans hf67
    replace hbase50 := hbase50.trans hf67
    refine za0 <| hK10 <| za7 <| sM (v := .pointer (some ⟨pb0, 0, none⟩)) hs rfl fun hs => s1 hs (zab rfl) fun hs => s1 (v := .pointer (some ⟨pb0, 0, none⟩)) hs (za1 rfl (FO.of (off := 0) Try.underlying68 rfl rfl ti65 (by decide))) fun hs => s1 (v := .pointer (some ⟨pv0_0, 0, none⟩)) hs (y_ld rfl Try.underlying65 rfl (Cell.blk (.tail _ (.tail _ (.tail _ (.head _)))) rfl)) fun hs => ?_
    obtain ⟨x72, hx73, hm⟩ := ob hm
    refine s1 hs (zeg (cap := []) (Lf := .row v60 21 1 rw61 :: .blk pb0 (.cells #[.pointer (some ⟨pv0_0, 0, none⟩), pv0_2] 68 (0, 0)) :: .row pv0_2 56 5 pv0_2r :: L) rfl has60 rfl ((zag _ 1 rfl).trans (zag _ 1 rfl)) (zc3 n (f := f66) (p0 := x64.2.2) (pb0 := pv0_0) (pv0_0 := v68) (pv0_0r := rw69) (p1 := 0) hW70 hx73)) fun hs => sM (v := .tuple #[.int .i32 (x72.1), .bool (x72.2)]) hs rfl fun hs => s1 (v := .int .i32 (x72.1)) hs (zar rfl rfl) fun hs => s1 (v := .bool (x72.2)) hs (zar rfl rfl) fun hs => sA (v := .int .i32 (x72.1)) hs rfl fun hs => sA (v := .bool (x72.2)) hs rfl fun hs => za0 ?_
    replace hs := hs.front 4
    replace hs := hs.front 2
    replace hs := hs.front 2
    replace hs := hs.front 4
    replace hs := hs.front 4
    exact hK7 k49 _ _ (Nat.lt_succ_self _) ⟨_, x64.2.2.l, x64.2.2.at_, x58, x72.1, x72.2, v68, rw69, v60, rw61, hbase50, hm, hW70, hW62, hs.sub ⟨rfl, rfl, rfl, rfl, rfl, trivial⟩⟩
   replace hm := oc_f hg52 hm
   refine zc9 <| hB6 _ _ ?_
   exact ⟨_, y38, y31, y36, v39, rw40, v32, rw33, hbase25, hm, hW41, hW34, hs.sub ⟨rfl, trivial⟩⟩
  refine za7 <| sM (v := .bool (y44)) hs rfl fun hs => sM (v := .bool (y44)) hs rfl fun hs => ?_
  refine St.split hs (t := 17) rfl (fun hg74 hs => ?_) (fun hg74 hs => ?_)
  ·replace hm := oc_t hg74 hm
   refine s2 (v := .func (.func g1) #[] cap1.toArray) hs (zaa rfl) fun hs => s2 (v := .int .i32 (y43)) hs (zaa rfl) fun hs => ?_
   obtain ⟨x75, hx76, hm⟩ := ob hm
   refine s2 hs (y_callK rfl hg1 rfl (hf1 _ (Fz.le.refl _) y43 x75  hx76)) fun hs => sP (v := .bool (x75)) hs rfl rfl fun hs => za0 ?_
   exact ⟨x75, hm, hs.sub ⟨rfl, rfl, rfl, rfl, rfl, trivial⟩⟩
  replace hm := oc_f hg74 hm
  refine s3 hs fun hs => s3 hs fun hs => s3 hs fun hs => sP (v := .bool (false)) hs rfl rfl fun hs => za0 ?_
  exact ⟨false, hm, hs.sub ⟨rfl, rfl, rfl, rfl, rfl, trivial⟩⟩
def zi3 (p0 : za3) (y25 : (List Int)) (y30 : Int) : Option za3 :=
  some ({c := ({l := y25, at_ := y30} : za4), out := p0.out} : za3)
def zc7 (n : Nat) (p0 : za3) (x16 : (List Int)) : Nat → (List Int) → Int → Int → Option za3
  | 0, _, _, _ => none
  | k41 + 1, y34, y39, y40 =>
  (bif (decide (y40 < (x16.length : Int))) then (zaj n ({l := y34, at_ := y39} : za4)).bind fun x44 =>
  (zc7 n p0 x16 k41) x44.2.2.l x44.2.2.at_ (w64 (y40 + 1)) else
  zi3 p0 y34 y39)
def zf9 (n : Nat) (p0 : za3) (p1 : ByteArray) (y9 : (List Int)) (y14 : Int) : Option za3 :=
  (runesM p1).bind fun x16 =>
  zc7 n p0 x16 n y9 y14 0
def zeb (n : Nat) (p0 : za3) (p1 : ByteArray) (y54 : (List Int)) (y59 : Int) (lp60 : (List Int) → Int → Option za3) (y62 : Bool) : Option za3 :=
  (bif y62 then (zaj n ({l := y54, at_ := y59} : za4)).bind fun x64 =>
  lp60 x64.2.2.l x64.2.2.at_ else
  zf9 n p0 p1 y54 y59)
def zbo (n : Nat) (p0 : za3) (p1 : ByteArray) : Nat → (List Int) → Int → Option za3
  | 0, _, _ => none
  | k60 + 1, y54, y59 =>
  (zbc n ({l := y54, at_ := y59} : za4)).bind fun x72 =>
  (bif (decide (0 < x72)) then (zee n ({c := ({l := y54, at_ := y59} : za4), out := p0.out} : za3) 0 p1).bind fun x75 =>
  zeb n p0 p1 y54 y59 (zbo n p0 p1 k60) (!x75) else
  zeb n p0 p1 y54 y59 (zbo n p0 p1 k60) false)
def zfg (n : Nat) (p0 : za3) (p1 : ByteArray) : Option za3 :=
  zbo n p0 p1 n p0.c.l p0.c.at_
theorem zjw (n : Nat) {f : Fz} {p0 : za3} {pb0 : Nat} {pv0_0 : Nat} {pv0_1 : Value} {pv0_1r : List (List Value)} {pv0_2 : Value} {pv0_2r : List (List Value)} {p1 : ByteArray} {res : za3} (pv0_1h : RW (tInt .i32) f pv0_1r p0.c.l) (pv0_2h : RW zap f pv0_2r p0.out) (hm : zfg n p0 p1 = some res) : Does Try.prog 33 [.pointer (some ⟨pb0, 0, none⟩), .string p1] f [.blk pb0 (.cells #[.pointer (some ⟨pv0_0, 0, none⟩), pv0_2] 68 (0, 0)), .blk pv0_0 (.cells #[pv0_1, .int .i64 p0.c.at_] 98 (0, 0)), .row pv0_1 21 1 pv0_1r, .row pv0_2 56 5 pv0_2r] (fun r f' L' => ∃ (dp0_1 : Value) (dp0_1r : List (List Value)) (dp0_2 : Value) (dp0_2r : List (List Value)), L' = [.blk pb0 (.cells #[.pointer (some ⟨pv0_0, 0, none⟩), dp0_2] 68 (0, 0)), .blk pv0_0 (.cells #[dp0_1, .int .i64 res.c.at_] 98 (0, 0)), .row dp0_1 21 1 dp0_1r, .row dp0_2 56 5 dp0_2r] ∧ r = .tuple #[] ∧ RW (tInt .i32) f' dp0_1r res.c.l ∧ RW zap f' dp0_2r res.out) := by
 unfold zfg at hm
 intro w0 L w hC
 replace hC : Cw w0 f (.blk pb0 (.cells #[.pointer (some ⟨pv0_0, 0, none⟩), pv0_2] 68 (0, 0)) :: .blk pv0_0 (.cells #[pv0_1, .int .i64 p0.c.at_] 98 (0, 0)) :: .row pv0_1 21 1 pv0_1r :: .row pv0_2 56 5 pv0_2r :: L) w := hC
 refine enter Try.func33 rfl Try.ntmps33 (by simp) hC fun a hs => ?_
 have hle := Fz.le.refl f
 refine Ws fun hK1 => ?_
 have hbase15 := Fz.le.refl f
 refine zai (fun a w => ∃ (f7 : Fz) (y9 : (List Int)) (y14 : Int) (v10 : Value) (rw11 : List (List Value)), Fz.le f f7 ∧ zf9 n p0 p1 y9 y14 = some res ∧ RW (tInt .i32) f7 rw11 y9 ∧ St 32 w0 f7 (.blk pb0 (.cells #[.pointer (some ⟨pv0_0, 0, none⟩), pv0_2] 68 (0, 0)) :: .blk pv0_0 (.cells #[v10, .int .i64 (y14)] 98 (0, 0)) :: .row v10 21 1 rw11 :: .row pv0_2 56 5 pv0_2r :: L) [(0, .pointer (some ⟨pb0, 0, none⟩)), (1, .string (p1))] a w) ?_ ?_
 ·clear hs hm
  clear hbase15
  rintro a w ⟨f7, y9, y14, v10, rw11, hl8, hm, hW12, hs⟩
  replace pv0_1h := pv0_1h.le hl8
  replace pv0_2h := pv0_2h.le hl8
  replace hle := hle.trans hl8
  unfold zf9 at hm
  refine hK1 <| Wq fun hK2 => sM (v := .string (p1)) hs rfl fun hs => ?_
  obtain ⟨x16, hx17, hm⟩ := ob hm
  refine zld hx17 hs rfl Try.underlying9 Try.underlying28 Try.underlying21 fun v18 rw19 _ _ hW20 hs => s1 hs (zb7 (Rd.st hs (.head _)) hW20 rfl Try.underlying28) fun hs => sM (v := .int .i64 (0)) hs rfl fun hs => za0 <| hK2 ?_
  have hbase31 := Fz.le.refl f7
  refine zai (fun a w => ∃ (f23 : Fz) (y25 : (List Int)) (y30 : Int) (v26 : Value) (rw27 : List (List Value)), Fz.le f7 f23 ∧ zi3 p0 y25 y30 = some res ∧ RW (tInt .i32) f23 rw27 y25 ∧ St 32 w0 f23 (.blk pb0 (.cells #[.pointer (some ⟨pv0_0, 0, none⟩), pv0_2] 68 (0, 0)) :: .blk pv0_0 (.cells #[v26, .int .i64 (y30)] 98 (0, 0)) :: .row v26 21 1 rw27 :: .row pv0_2 56 5 pv0_2r :: L) [] a w) ?_ ?_
  ·clear hs hm
   clear hbase31
   rintro a w ⟨f23, y25, y30, v26, rw27, hl24, hm, hW28, hs⟩
   replace pv0_1h := pv0_1h.le hl24
   replace pv0_2h := pv0_2h.le hl24
   replace hW12 := hW12.le hl24
   replace hW20 := hW20.le hl24
   replace hle := hle.trans hl24
   unfold zi3 at hm
   obtain rfl := Option.some.inj hm
   refine RtV0 hs rfl  ?_
   exact ⟨_, f23, [.blk pb0 (.cells #[.pointer (some ⟨pv0_0, 0, none⟩), pv0_2] 68 (0, 0)), .blk pv0_0 (.cells #[v26, .int .i64 (y30)] 98 (0, 0)), .row v26 21 1 rw27, .row pv0_2 56 5 pv0_2r], rfl, hle, hs.cw, v26, rw27, pv0_2, pv0_2r, rfl, rfl, hW28, pv0_2h⟩
  refine zam fun Qe3 hB3 hO3 => ?_
  have hbase := Fz.le.refl f7
  refine zcw (fun (k : Nat) a w => ∃ (f32 : Fz) (y34 : (List Int)) (y39 : Int) (y40 : Int) (v35 : Value) (rw36 : List (List Value)), Fz.le f7 f32 ∧ zc7 n p0 x16 k y34 y39 y40 = some res ∧ RW (tInt .i32) f32 rw36 y34 ∧ St 32 w0 f32 (.blk pb0 (.cells #[.pointer (some ⟨pv0_0, 0, none⟩), pv0_2] 68 (0, 0)) :: .blk pv0_0 (.cells #[v35, .int .i64 (y39)] 98 (0, 0)) :: .row v35 21 1 rw36 :: .row pv0_2 56 5 pv0_2r :: L) [(0, .pointer (some ⟨pb0, 0, none⟩)), (23, .int .i64 ((x16.length : Int))), (24, .int .i64 (y40))] a w) (fun k => k) n ⟨_, y9, y14, 0, v10, rw11, (Fz.le.refl _), hm, hW12, hs.subs ⟨rfl, rfl, rfl, trivial⟩ (.cons _ (.cons_cons _ (.cons_cons _ (.cons_cons _ (.cons_cons _ (.refl _))))))⟩ ?_
  clear hs hm
  intro k
  rintro a w ⟨f32, y34, y39, y40, v35, rw36, hl33, hm, hW37, hs⟩
  replace pv0_1h := pv0_1h.le hl33
  replace pv0_2h := pv0_2h.le hl33
  replace hW12 := hW12.le hl33
  replace hW20 := hW20.le hl33
  replace hle := hle.trans hl33
  replace hbase31 := hbase31.trans hl33
  intro K4 hK4
  cases k with
  | zero => simp [zc7] at hm
  | succ k41 =>
   rw [zc7] at hm
   have hbase42 := hl33
   refine Wq fun hK5 => s1 hs (zg7 rfl rfl) fun hs => za0 <| hK5 <| Ws fun hK6 => ?_
   refine zaf hs rfl (fun hg43 => ?_) (fun hg43 => ?_)
   ·replace hm := oc_t hg43 hm
    refine zah <| hK6 <| Ws fun hK7 => zam fun Qe8 hB8 hO8 => za7 <| sM (v := .pointer (some ⟨pb0, 0, none⟩)) hs rfl fun hs => s1 hs (zab rfl) fun hs => s1 (v := .pointer (some ⟨pb0, 0, none⟩)) hs (za1 rfl (FO.of (off := 0) Try.underlying68 rfl rfl ti65 (by decide))) fun hs => s1 (v := .pointer (some ⟨pv0_0, 0, none⟩)) hs (y_ld rfl Try.underlying65 rfl (Cell.blk (.head _) rfl)) fun hs => ?_
    obtain ⟨x44, hx45, hm⟩ := ob hm
    replace hs := hs.front 2
    replace hs := hs.front 2
    refine zbx (Lr := [.blk pv0_0 (.cells #[v35, .int .i64 (y39)] 98 (0, 0)), .row v35 21 1 rw36]) (Lf := .blk pb0 (.cells #[.pointer (some ⟨pv0_0, 0, none⟩), pv0_2] 68 (0, 0)) :: .row pv0_2 56 5 pv0_2r :: L) hs rfl has34 rfl rfl (zao n (f := f32) (p0 := ({l := y34, at_ := y39} : za4)) (pb0 := pv0_0) (pv0_0 := v35) (pv0_0r := rw36) hW37 hx45) (.free rfl) (by decide) ?_; clear hs; (try clear a w)
    rintro _ f46 _ a w hf47 ⟨v48, rw49, rfl, rfl, hW50⟩ hs
    replace pv0_1h := pv0_1h.le hf47
    replace pv0_2h := pv0_2h.le hf47
    replace hW12 := hW12.le hf47
    replace hW20 := hW20.le hf47
    replace hW37 := hW37.le hf47
    replace hle := hle.trans hf47
    replace hbase31 := hbase31.trans hf47
    replace hbase42 := hbase42.trans hf47
    refine za0 <| hK7 <| za7 <| s1 hs (zeq rfl rfl rfl) fun hs => sM (v := .int .i64 ((w64 (y40 + 1)))) hs rfl fun hs => za0 ?_
    replace hs := hs.front 3
    replace hs := hs.front 2
    replace hs := hs.front 2
    replace hs := hs.front 3
    exact hK4 k41 _ _ (Nat.lt_succ_self _) ⟨_, x44.2.2.l, x44.2.2.at_, (w64 (y40 + 1)), v48, rw49, hbase42, hm, hW50, hs.sub ⟨rfl, rfl, rfl, trivial⟩⟩
   replace hm := oc_f hg43 hm
   refine zc9 <| hB3 _ _ ?_
   exact ⟨_, y34, y39, v35, rw36, hbase31, hm, hW37, hs.sub trivial⟩
 refine zam fun Qe9 hB9 hO9 => ?_
 have hbase := Fz.le.refl f
 refine zcw (fun (k : Nat) a w => ∃ (f52 : Fz) (y54 : (List Int)) (y59 : Int) (v55 : Value) (rw56 : List (List Value)), Fz.le f f52 ∧ zbo n p0 p1 k y54 y59 = some res ∧ RW (tInt .i32) f52 rw56 y54 ∧ St 32 w0 f52 (.blk pb0 (.cells #[.pointer (some ⟨pv0_0, 0, none⟩), pv0_2] 68 (0, 0)) :: .blk pv0_0 (.cells #[v55, .int .i64 (y59)] 98 (0, 0)) :: .row v55 21 1 rw56 :: .row pv0_2 56 5 pv0_2r :: L) [(0, .pointer (some ⟨pb0, 0, none⟩)), (1, .string (p1))] a w) (fun k => k) n ⟨_, p0.c.l, p0.c.at_, pv0_1, pv0_1r, (Fz.le.refl _), hm, pv0_1h, hs.sub ⟨rfl, rfl, trivial⟩⟩ ?_
 clear hs hm
 intro k
 rintro a w ⟨f52, y54, y59, v55, rw56, hl53, hm, hW57, hs⟩
 replace pv0_1h := pv0_1h.le hl53
 replace pv0_2h := pv0_2h.le hl53
 replace hle := hle.trans hl53
 replace hbase15 := hbase15.trans hl53
 intro K10 hK10
 cases k with
 | zero => simp [zbo] at hm
 | succ k60 =>
  rw [zbo] at hm
  have hbase61 := hl53
  refine Ws fun hK11 => Ws fun hK12 => ?_
  refine zai (fun a w => ∃ (y62 : Bool), zeb n p0 p1 y54 y59 (zbo n p0 p1 k60) y62 = some res ∧ St 32 w0 f52 (.blk pb0 (.cells #[.pointer (some ⟨pv0_0, 0, none⟩), pv0_2] 68 (0, 0)) :: .blk pv0_0 (.cells #[v55, .int .i64 (y59)] 98 (0, 0)) :: .row v55 21 1 rw56 :: .row pv0_2 56 5 pv0_2r :: L) [(0, .pointer (some ⟨pb0, 0, none⟩)), (1, .string (p1)), (15, .bool (y62))] a w) ?_ ?_
  ·clear hs hm
   rintro a w ⟨y62, hm, hs⟩
   unfold zeb at hm
   refine hK12 ?_
   refine zaf hs rfl (fun hg63 => ?_) (fun hg63 => ?_)
   ·replace hm := oc_t hg63 hm
    refine zah <| hK11 <| zam fun Qe13 hB13 hO13 => za7 <| sM (v := .pointer (some ⟨pb0, 0, none⟩)) hs rfl fun hs => s1 hs (zab rfl) fun hs => s1 (v := .pointer (some ⟨pb0, 0, none⟩)) hs (za1 rfl (FO.of (off := 0) Try.underlying68 rfl rfl ti65 (by decide))) fun hs => s1 (v := .pointer (some ⟨pv0_0, 0, none⟩)) hs (y_ld rfl Try.underlying65 rfl (Cell.blk (.head _) rfl)) fun hs => ?_
    obtain ⟨x64, hx65, hm⟩ := ob hm
    replace hs := hs.front 2
    replace hs := hs.front 2
    refine zbx (Lr := [.blk pv0_0 (.cells #[v55, .int .i64 (y59)] 98 (0, 0)), .row v55 21 1 rw56]) (Lf := .blk pb0 (.cells #[.pointer (some ⟨pv0_0, 0, none⟩), pv0_2] 68 (0, 0)) :: .row pv0_2 56 5 pv0_2r :: L) hs rfl has34 rfl rfl (zao n (f := f52) (p0 := ({l := y54, at_ := y59} : za4)) (pb0 := pv0_0) (pv0_0 := v55) (pv0_0r := rw56) hW57 hx65) (.free rfl) (by decide) ?_; clear hs; (try clear a w)
    rintro _ f66 _ a w hf67 ⟨v68, rw69, rfl, rfl, hW70⟩ hs
    replace pv0_1h := pv0_1h.le hf67
    replace pv0_2h := pv0_2h.le hf67
    replace hW57 := hW57.le hf67
    replace hle := hle.trans hf67
    replace hbase15 := hbase15.trans hf67
    replace hbase61 := hbase61.trans hf67
    refine za0 ?_
    replace hs := hs.front 3
    replace hs := hs.front 2
    replace hs := hs.front 2
    replace hs := hs.front 3
    exact hK10 k60 _ _ (Nat.lt_succ_self _) ⟨_, x64.2.2.l, x64.2.2.at_, v68, rw69, hbase61, hm, hW70, hs.sub ⟨rfl, rfl, trivial⟩⟩
   replace hm := oc_f hg63 hm
   refine zc9 <| hB9 _ _ ?_
   exact ⟨_, y54, y59, v55, rw56, hbase15, hm, hW57, hs.sub ⟨rfl, rfl, trivial⟩⟩
  refine za7 <| sM (v := .pointer (some ⟨pb0, 0, none⟩)) hs rfl fun hs => s1 hs (zab rfl) fun hs => s1 (v := .pointer (some ⟨pb0, 0, none⟩)) hs (za1 rfl (FO.of (off := 0) Try.underlying68 rfl rfl ti65 (by decide))) fun hs => s1 (v := .pointer (some ⟨pv0_0, 0, none⟩)) hs (y_ld rfl Try.underlying65 rfl (Cell.blk (.head _) rfl)) fun hs => ?_
  obtain ⟨x72, hx73, hm⟩ := ob hm
  refine s1 hs (zeg (cap := []) (Lf := .blk pb0 (.cells #[.pointer (some ⟨pv0_0, 0, none⟩), pv0_2] 68 (0, 0)) :: .row pv0_2 56 5 pv0_2r :: L) rfl has27 rfl ((zag _ 2 rfl).trans (zag _ 2 rfl)) (zcv n (f := f52) (p0 := ({l := y54, at_ := y59} : za4)) (pb0 := pv0_0) (pv0_0 := v55) (pv0_0r := rw56) hW57 hx73)) fun hs => s1 hs (zis rfl rfl) fun hs => sM (v := .bool (decide (0 < x72))) hs rfl fun hs => ?_
  refine St.split hs (t := 10) rfl (fun hg74 hs => ?_) (fun hg74 hs => ?_)
  ·replace hm := oc_t hg74 hm
   refine s2 (v := .pointer (some ⟨pb0, 0, none⟩)) hs (zaa rfl) fun hs => s2 (v := .string (p1)) hs (zaa rfl) fun hs => ?_
   obtain ⟨x75, hx76, hm⟩ := ob hm
   refine s2 hs (zeg (cap := []) (Lf := L) rfl has31 rfl ((((zag _ 3 rfl).trans (zag _ 3 rfl)).trans (zag _ 3 rfl)).trans (zag _ 3 rfl)) (zg4 n (f := f52) (p0 := ({c := ({l := y54, at_ := y59} : za4), out := p0.out} : za3)) (pb0 := pb0) (pv0_0 := pv0_0) (pv0_1 := v55) (pv0_1r := rw56) (pv0_2 := pv0_2) (pv0_2r := pv0_2r) (p1 := 0) (p2 := p1) hW57 pv0_2h hx76)) fun hs => s2 (v := .bool ((!x75))) hs (zj8 rfl) fun hs => sP (v := .bool ((!x75))) hs rfl rfl fun hs => za0 ?_
   exact ⟨(!x75), hm, hs.sub ⟨rfl, rfl, rfl, trivial⟩⟩
  replace hm := oc_f hg74 hm
  refine s3 hs fun hs => s3 hs fun hs => s3 hs fun hs => s3 hs fun hs => sP (v := .bool (false)) hs rfl rfl fun hs => za0 ?_
  exact ⟨false, hm, hs.sub ⟨rfl, rfl, rfl, trivial⟩⟩
def zhs (p0 : za3) (y9 : (List Int)) (y14 : Int) : Option za3 :=
  some ({c := ({l := y9, at_ := y14} : za4), out := p0.out} : za3)
def zbs (n : Nat) (p0 : za3) : Nat → (List Int) → Int → Int → Option za3
  | 0, _, _, _ => none
  | k25 + 1, y18, y23, y24 =>
  (bif (decide (y24 < 4)) then (zaj n ({l := y18, at_ := y23} : za4)).bind fun x28 =>
  (zbs n p0 k25) x28.2.2.l x28.2.2.at_ (w64 (y24 + 1)) else
  zhs p0 y18 y23)
def zg3 (n : Nat) (p0 : za3) : Option za3 :=
  zbs n p0 n p0.c.l p0.c.at_ 0
theorem zmg (n : Nat) {f : Fz} {p0 : za3} {pb0 : Nat} {pv0_0 : Nat} {pv0_1 : Value} {pv0_1r : List (List Value)} {pv0_2 : Value} {pv0_2r : List (List Value)} {res : za3} (pv0_1h : RW (tInt .i32) f pv0_1r p0.c.l) (pv0_2h : RW zap f pv0_2r p0.out) (hm : zg3 n p0 = some res) : Does Try.prog 32 [.pointer (some ⟨pb0, 0, none⟩)] f [.blk pb0 (.cells #[.pointer (some ⟨pv0_0, 0, none⟩), pv0_2] 68 (0, 0)), .blk pv0_0 (.cells #[pv0_1, .int .i64 p0.c.at_] 98 (0, 0)), .row pv0_1 21 1 pv0_1r, .row pv0_2 56 5 pv0_2r] (fun r f' L' => ∃ (dp0_1 : Value) (dp0_1r : List (List Value)) (dp0_2 : Value) (dp0_2r : List (List Value)), L' = [.blk pb0 (.cells #[.pointer (some ⟨pv0_0, 0, none⟩), dp0_2] 68 (0, 0)), .blk pv0_0 (.cells #[dp0_1, .int .i64 res.c.at_] 98 (0, 0)), .row dp0_1 21 1 dp0_1r, .row dp0_2 56 5 dp0_2r] ∧ r = .tuple #[] ∧ RW (tInt .i32) f' dp0_1r res.c.l ∧ RW zap f' dp0_2r res.out) := by
 unfold zg3 at hm
 intro w0 L w hC
 replace hC : Cw w0 f (.blk pb0 (.cells #[.pointer (some ⟨pv0_0, 0, none⟩), pv0_2] 68 (0, 0)) :: .blk pv0_0 (.cells #[pv0_1, .int .i64 p0.c.at_] 98 (0, 0)) :: .row pv0_1 21 1 pv0_1r :: .row pv0_2 56 5 pv0_2r :: L) w := hC
 refine enter Try.func32 rfl Try.ntmps32 (by simp) hC fun a hs => ?_
 have hle := Fz.le.refl f
 refine Wq fun hK1 => sM (v := .int .i64 (0)) hs rfl fun hs => za0 <| hK1 ?_
 have hbase15 := Fz.le.refl f
 refine zai (fun a w => ∃ (f7 : Fz) (y9 : (List Int)) (y14 : Int) (v10 : Value) (rw11 : List (List Value)), Fz.le f f7 ∧ zhs p0 y9 y14 = some res ∧ RW (tInt .i32) f7 rw11 y9 ∧ St 10 w0 f7 (.blk pb0 (.cells #[.pointer (some ⟨pv0_0, 0, none⟩), pv0_2] 68 (0, 0)) :: .blk pv0_0 (.cells #[v10, .int .i64 (y14)] 98 (0, 0)) :: .row v10 21 1 rw11 :: .row pv0_2 56 5 pv0_2r :: L) [] a w) ?_ ?_
 ·clear hs hm
  clear hbase15
  rintro a w ⟨f7, y9, y14, v10, rw11, hl8, hm, hW12, hs⟩
  replace pv0_1h := pv0_1h.le hl8
  replace pv0_2h := pv0_2h.le hl8
  replace hle := hle.trans hl8
  unfold zhs at hm
  obtain rfl := Option.some.inj hm
  refine RtV0 hs rfl  ?_
  exact ⟨_, f7, [.blk pb0 (.cells #[.pointer (some ⟨pv0_0, 0, none⟩), pv0_2] 68 (0, 0)), .blk pv0_0 (.cells #[v10, .int .i64 (y14)] 98 (0, 0)), .row v10 21 1 rw11, .row pv0_2 56 5 pv0_2r], rfl, hle, hs.cw, v10, rw11, pv0_2, pv0_2r, rfl, rfl, hW12, pv0_2h⟩
 refine zam fun Qe2 hB2 hO2 => ?_
 have hbase := Fz.le.refl f
 refine zcw (fun (k : Nat) a w => ∃ (f16 : Fz) (y18 : (List Int)) (y23 : Int) (y24 : Int) (v19 : Value) (rw20 : List (List Value)), Fz.le f f16 ∧ zbs n p0 k y18 y23 y24 = some res ∧ RW (tInt .i32) f16 rw20 y18 ∧ St 10 w0 f16 (.blk pb0 (.cells #[.pointer (some ⟨pv0_0, 0, none⟩), pv0_2] 68 (0, 0)) :: .blk pv0_0 (.cells #[v19, .int .i64 (y23)] 98 (0, 0)) :: .row v19 21 1 rw20 :: .row pv0_2 56 5 pv0_2r :: L) [(0, .pointer (some ⟨pb0, 0, none⟩)), (2, .int .i64 (y24))] a w) (fun k => k) n ⟨_, p0.c.l, p0.c.at_, 0, pv0_1, pv0_1r, (Fz.le.refl _), hm, pv0_1h, hs.sub ⟨rfl, rfl, trivial⟩⟩ ?_
 clear hs hm
 intro k
 rintro a w ⟨f16, y18, y23, y24, v19, rw20, hl17, hm, hW21, hs⟩
 replace pv0_1h := pv0_1h.le hl17
 replace pv0_2h := pv0_2h.le hl17
 replace hle := hle.trans hl17
 replace hbase15 := hbase15.trans hl17
 intro K3 hK3
 cases k with
 | zero => simp [zbs] at hm
 | succ k25 =>
  rw [zbs] at hm
  have hbase26 := hl17
  refine Wq fun hK4 => s1 hs (zg7 rfl rfl) fun hs => za0 <| hK4 <| Ws fun hK5 => ?_
  refine zaf hs rfl (fun hg27 => ?_) (fun hg27 => ?_)
  ·replace hm := oc_t hg27 hm
   refine zah <| hK5 <| Ws fun hK6 => zam fun Qe7 hB7 hO7 => za7 <| sM (v := .pointer (some ⟨pb0, 0, none⟩)) hs rfl fun hs => s1 hs (zab rfl) fun hs => s1 (v := .pointer (some ⟨pb0, 0, none⟩)) hs (za1 rfl (FO.of (off := 0) Try.underlying68 rfl rfl ti65 (by decide))) fun hs => s1 (v := .pointer (some ⟨pv0_0, 0, none⟩)) hs (y_ld rfl Try.underlying65 rfl (Cell.blk (.head _) rfl)) fun hs => ?_
   obtain ⟨x28, hx29, hm⟩ := ob hm
   replace hs := hs.front 2
   replace hs := hs.front 2
   refine zbx (Lr := [.blk pv0_0 (.cells #[v19, .int .i64 (y23)] 98 (0, 0)), .row v19 21 1 rw20]) (Lf := .blk pb0 (.cells #[.pointer (some ⟨pv0_0, 0, none⟩), pv0_2] 68 (0, 0)) :: .row pv0_2 56 5 pv0_2r :: L) hs rfl has34 rfl rfl (zao n (f := f16) (p0 := ({l := y18, at_ := y23} : za4)) (pb0 := pv0_0) (pv0_0 := v19) (pv0_0r := rw20) hW21 hx29) (.free rfl) (by decide) ?_; clear hs; (try clear a w)
   rintro _ f30 _ a w hf31 ⟨v32, rw33, rfl, rfl, hW34⟩ hs
   replace pv0_1h := pv0_1h.le hf31
   replace pv0_2h := pv0_2h.le hf31
   replace hW21 := hW21.le hf31
   replace hle := hle.trans hf31
   replace hbase15 := hbase15.trans hf31
   replace hbase26 := hbase26.trans hf31
   refine za0 <| hK6 <| za7 <| s1 hs (zeq rfl rfl rfl) fun hs => sM (v := .int .i64 ((w64 (y24 + 1)))) hs rfl fun hs => za0 ?_
   replace hs := hs.front 3
   replace hs := hs.front 2
   replace hs := hs.front 2
   replace hs := hs.front 3
   exact hK3 k25 _ _ (Nat.lt_succ_self _) ⟨_, x28.2.2.l, x28.2.2.at_, (w64 (y24 + 1)), v32, rw33, hbase26, hm, hW34, hs.sub ⟨rfl, rfl, trivial⟩⟩
  replace hm := oc_f hg27 hm
  refine zc9 <| hB2 _ _ ?_
  exact ⟨_, y18, y23, v19, rw20, hbase15, hm, hW21, hs.sub trivial⟩
def zf0 (n : Nat) (p0 : za3) : Option (ByteArray × Bool × za3) :=
  (zbu n p0 0).bind fun x7 =>
  (bif ((decide (x7 ≠ 34)) && (decide (x7 ≠ 39))) then (zcc n p0 (fun z0 => zf8 n z0)).bind fun x12 =>
  some ((textOf x12.1), true, x12.2) else
  (zaj n p0.c).bind fun x29 =>
  (zcc n ({c := x29.2.2, out := p0.out} : za3) (fun z0 => zgb n z0 x7)).bind fun x40 =>
  (zaj n x40.2.c).bind fun x57 =>
  some ((textOf x40.1), x57.2.1, ({c := x57.2.2, out := x40.2.out} : za3)))
theorem zmd (n : Nat) {f : Fz} {p0 : za3} {pb0 : Nat} {pv0_0 : Nat} {pv0_1 : Value} {pv0_1r : List (List Value)} {pv0_2 : Value} {pv0_2r : List (List Value)} {res : (ByteArray × Bool × za3)} (pv0_1h : RW (tInt .i32) f pv0_1r p0.c.l) (pv0_2h : RW zap f pv0_2r p0.out) (hm : zf0 n p0 = some res) : Does Try.prog 71 [.pointer (some ⟨pb0, 0, none⟩)] f [.blk pb0 (.cells #[.pointer (some ⟨pv0_0, 0, none⟩), pv0_2] 68 (0, 0)), .blk pv0_0 (.cells #[pv0_1, .int .i64 p0.c.at_] 98 (0, 0)), .row pv0_1 21 1 pv0_1r, .row pv0_2 56 5 pv0_2r] (fun r f' L' => ∃ (dp0_1 : Value) (dp0_1r : List (List Value)) (dp0_2 : Value) (dp0_2r : List (List Value)), L' = [.blk pb0 (.cells #[.pointer (some ⟨pv0_0, 0, none⟩), dp0_2] 68 (0, 0)), .blk pv0_0 (.cells #[dp0_1, .int .i64 res.2.2.c.at_] 98 (0, 0)), .row dp0_1 21 1 dp0_1r, .row dp0_2 56 5 dp0_2r] ∧ r = .tuple #[.string res.1, .bool res.2.1] ∧ RW (tInt .i32) f' dp0_1r res.2.2.c.l ∧ RW zap f' dp0_2r res.2.2.out) := by
 unfold zf0 at hm
 intro w0 L w hC
 replace hC : Cw w0 f (.blk pb0 (.cells #[.pointer (some ⟨pv0_0, 0, none⟩), pv0_2] 68 (0, 0)) :: .blk pv0_0 (.cells #[pv0_1, .int .i64 p0.c.at_] 98 (0, 0)) :: .row pv0_1 21 1 pv0_1r :: .row pv0_2 56 5 pv0_2r :: L) w := hC
 refine enter Try.func71 rfl Try.ntmps71 (by simp) hC fun a hs => ?_
 have hle := Fz.le.refl f
 refine Wq fun hK1 => sA (v := .string ((bs []))) hs rfl fun hs => sA (v := .bool (false)) hs rfl fun hs => za0 <| hK1 <| Wq fun hK2 => sM (v := .pointer (some ⟨pb0, 0, none⟩)) hs rfl fun hs => ?_
 obtain ⟨x7, hx8, hm⟩ := ob hm
 refine s1 hs (zeg (cap := []) (Lf := L) rfl has30 rfl ((((zag _ 3 rfl).trans (zag _ 3 rfl)).trans (zag _ 3 rfl)).trans (zag _ 3 rfl)) (zco n (f := f) (p0 := p0) (pb0 := pb0) (pv0_0 := pv0_0) (pv0_1 := pv0_1) (pv0_1r := pv0_1r) (pv0_2 := pv0_2) (pv0_2r := pv0_2r) (p1 := 0) pv0_1h pv0_2h hx8)) fun hs => zbt hs ti21 (.free rfl) (by decide) fun b9 _ _ hs => ?_
 replace hs : St _ _ _ (.blk b9 (.cells #[.int .i32 (0)] 21 (0, 0)) :: .blk pb0 (.cells #[.pointer (some ⟨pv0_0, 0, none⟩), pv0_2] 68 (0, 0)) :: .blk pv0_0 (.cells #[pv0_1, .int .i64 (p0.c.at_)] 98 (0, 0)) :: .row pv0_1 21 1 pv0_1r :: .row pv0_2 56 5 pv0_2r :: L) _ _ _ := hs
 refine sstore 0 hs rfl rfl rfl ti21 rfl fun _ _ hs => za0 <| hK2 <| Ws fun hK3 => Ws fun hK4 => ?_
 refine zai (fun a w => St 38 w0 f (.blk b9 (.cells #[.int .i32 (x7)] 21 (0, 0)) :: .blk pb0 (.cells #[.pointer (some ⟨pv0_0, 0, none⟩), pv0_2] 68 (0, 0)) :: .blk pv0_0 (.cells #[pv0_1, .int .i64 (p0.c.at_)] 98 (0, 0)) :: .row pv0_1 21 1 pv0_1r :: .row pv0_2 56 5 pv0_2r :: L) [(0, .pointer (some ⟨pb0, 0, none⟩)), (4, .pointer (some ⟨b9, 0, none⟩)), (15, .bool (((decide (x7 ≠ 34)) && (decide (x7 ≠ 39)))))] a w) ?_ ?_
 ·clear hs; intro a w hs
  refine hK4 ?_
  refine zaf hs rfl (fun hg11 => ?_) (fun hg11 => ?_)
  ·replace hm := oc_t hg11 hm
   refine Wq fun hK5 => sM (v := .pointer (some ⟨pb0, 0, none⟩)) hs rfl fun hs => ?_
   obtain ⟨x12, hx13, hm⟩ := ob hm
   replace hs := hs.front 4
   replace hs := hs.front 4
   replace hs := hs.front 4
   replace hs := hs.front 4
   refine zbx (Lr := [.blk pb0 (.cells #[.pointer (some ⟨pv0_0, 0, none⟩), pv0_2] 68 (0, 0)), .blk pv0_0 (.cells #[pv0_1, .int .i64 (p0.c.at_)] 98 (0, 0)), .row pv0_1 21 1 pv0_1r, .row pv0_2 56 5 pv0_2r]) (Lf := .blk b9 (.cells #[.int .i32 (x7)] 21 (0, 0)) :: L) hs rfl has67 rfl rfl (zdu n (f := f) (p0 := p0) (pb0 := pb0) (pv0_0 := pv0_0) (pv0_1 := pv0_1) (pv0_1r := pv0_1r) (pv0_2 := pv0_2) (pv0_2r := pv0_2r) (g1 := 82) (cap1 := []) pv0_1h pv0_2h has82 (fun f9 hle9 z0 r9  h9 => zlj n (f := f9)   h9) hx13) (.free rfl) (by decide) ?_; clear hs; (try clear a w)
   rintro v16 f14 _ a w hf15 ⟨_, v20, rw21, v23, rw24, rfl, rfl, ⟨rw17, hR18, hW19⟩, hW22, hW25⟩ hs
   replace pv0_1h := pv0_1h.le hf15
   replace pv0_2h := pv0_2h.le hf15
   replace hle := hle.trans hf15
   refine s1 (v := .string ((textOf x12.1))) hs (zp4 rfl Try.underlying28 Try.underlying21 Try.underlying9 hR18.up hW19) fun hs => sA (v := .string ((textOf x12.1))) hs rfl fun hs => sA (v := .bool (true)) hs rfl fun hs => za0 <| hK5 <| zau ?_
   obtain rfl := Option.some.inj hm
   refine RtV2 hs rfl (rv_t hs rfl) (rv_t hs rfl) ?_
   exact ⟨_, f14, [.blk pb0 (.cells #[.pointer (some ⟨pv0_0, 0, none⟩), v23] 68 (0, 0)), .blk pv0_0 (.cells #[v20, .int .i64 (x12.2.c.at_)] 98 (0, 0)), .row v20 21 1 rw21, .row v23 56 5 rw24], rfl, hle, (hs.subL (.cons_cons _ (.cons_cons _ (.cons_cons _ (.cons_cons _ (.cons _ (.refl _))))))).cw, v20, rw21, v23, rw24, rfl, rfl, hW22, hW25⟩
  replace hm := oc_f hg11 hm
  refine zah <| hK3 <| Wq fun hK6 => sM (v := .pointer (some ⟨pb0, 0, none⟩)) hs rfl fun hs => s1 hs (zab rfl) fun hs => s1 (v := .pointer (some ⟨pb0, 0, none⟩)) hs (za1 rfl (FO.of (off := 0) Try.underlying68 rfl rfl ti65 (by decide))) fun hs => s1 (v := .pointer (some ⟨pv0_0, 0, none⟩)) hs (y_ld rfl Try.underlying65 rfl (Cell.blk (.tail _ (.head _)) rfl)) fun hs => ?_
  obtain ⟨x29, hx30, hm⟩ := ob hm
  replace hs := hs.front 3
  replace hs := hs.front 3
  refine zbx (Lr := [.blk pv0_0 (.cells #[pv0_1, .int .i64 (p0.c.at_)] 98 (0, 0)), .row pv0_1 21 1 pv0_1r]) (Lf := .blk b9 (.cells #[.int .i32 (x7)] 21 (0, 0)) :: .blk pb0 (.cells #[.pointer (some ⟨pv0_0, 0, none⟩), pv0_2] 68 (0, 0)) :: .row pv0_2 56 5 pv0_2r :: L) hs rfl has34 rfl rfl (zao n (f := f) (p0 := p0.c) (pb0 := pv0_0) (pv0_0 := pv0_1) (pv0_0r := pv0_1r) pv0_1h hx30) (.free rfl) (by decide) ?_; clear hs; (try clear a w)
  rintro _ f31 _ a w hf32 ⟨v33, rw34, rfl, rfl, hW35⟩ hs
  replace pv0_1h := pv0_1h.le hf32
  replace pv0_2h := pv0_2h.le hf32
  replace hle := hle.trans hf32
  refine za0 <| hK6 <| Wq fun hK7 => sM (v := .pointer (some ⟨pb0, 0, none⟩)) hs rfl fun hs => ?_
  obtain ⟨f37, hf38, hs2, hB39⟩ := hs.frzB 2 rfl
  clear hs; have hs := hs2; clear hs2
  replace pv0_2h := pv0_2h.le hf38
  replace hW35 := hW35.le hf38
  replace hle := hle.trans hf38
  refine s1 hs (zqe rfl) fun hs => ?_
  obtain ⟨x40, hx41, hm⟩ := ob hm
  replace hs := hs.front 3
  replace hs := hs.front 2
  replace hs := hs.front 2
  replace hs := hs.front 3
  refine zbx (Lr := [.blk pb0 (.cells #[.pointer (some ⟨pv0_0, 0, none⟩), pv0_2] 68 (0, 0)), .blk pv0_0 (.cells #[v33, .int .i64 (x29.2.2.at_)] 98 (0, 0)), .row v33 21 1 rw34, .row pv0_2 56 5 pv0_2r]) (Lf := L) hs rfl has67 rfl rfl (zdu n (f := f37) (p0 := ({c := x29.2.2, out := p0.out} : za3)) (pb0 := pb0) (pv0_0 := pv0_0) (pv0_1 := v33) (pv0_1r := rw34) (pv0_2 := pv0_2) (pv0_2r := pv0_2r) (g1 := 83) (cap1 := [.pointer (some ⟨b9, 0, none⟩)]) hW35 pv0_2h has83 (fun f9 hle9 z0 r9  h9 => zli n (f := f9) (cb0 := b9) (ca0 := [.int .i32 (x7)]) rfl (hle9 _ _ hB39) h9) hx41) (.free rfl) (by decide) ?_; clear hs; (try clear a w)
  rintro v44 f42 _ a w hf43 ⟨_, v48, rw49, v51, rw52, rfl, rfl, ⟨rw45, hR46, hW47⟩, hW50, hW53⟩ hs
  replace pv0_2h := pv0_2h.le hf43
  replace hW35 := hW35.le hf43
  replace hB39 := hf43 _ _ hB39
  replace hle := hle.trans hf43
  refine sA (v := v44) hs rfl fun hs => za0 <| hK7 <| Wq fun hK8 => sM (v := .pointer (some ⟨pb0, 0, none⟩)) hs rfl fun hs => s1 hs (zab rfl) fun hs => s1 (v := .pointer (some ⟨pb0, 0, none⟩)) hs (za1 rfl (FO.of (off := 0) Try.underlying68 rfl rfl ti65 (by decide))) fun hs => s1 (v := .pointer (some ⟨pv0_0, 0, none⟩)) hs (y_ld rfl Try.underlying65 rfl (Cell.blk (.head _) rfl)) fun hs => ?_
  obtain ⟨x57, hx58, hm⟩ := ob hm
  replace hs := hs.front 2
  replace hs := hs.front 2
  refine zbx (Lr := [.blk pv0_0 (.cells #[v48, .int .i64 (x40.2.c.at_)] 98 (0, 0)), .row v48 21 1 rw49]) (Lf := .blk pb0 (.cells #[.pointer (some ⟨pv0_0, 0, none⟩), v51] 68 (0, 0)) :: .row v51 56 5 rw52 :: L) hs rfl has34 rfl rfl (zao n (f := f42) (p0 := x40.2.c) (pb0 := pv0_0) (pv0_0 := v48) (pv0_0r := rw49) hW50 hx58) (.free rfl) (by decide) ?_; clear hs; (try clear a w)
  rintro _ f59 _ a w hf60 ⟨v61, rw62, rfl, rfl, hW63⟩ hs
  replace pv0_2h := pv0_2h.le hf60
  replace hW35 := hW35.le hf60
  replace hB39 := hf60 _ _ hB39
  replace hR46 := hR46.le hf60
  replace hW47 := hW47.le hf60
  replace hW50 := hW50.le hf60
  replace hW53 := hW53.le hf60
  replace hle := hle.trans hf60
  refine sM (v := .tuple #[.int .i32 (x57.1), .bool (x57.2.1)]) hs rfl fun hs => s1 (v := .int .i32 (x57.1)) hs (zar rfl rfl) fun hs => s1 (v := .bool (x57.2.1)) hs (zar rfl rfl) fun hs => sA (v := .int .i32 (x57.1)) hs rfl fun hs => sA (v := .bool (x57.2.1)) hs rfl fun hs => za0 <| hK8 <| Wq fun hK9 => sM (v := v44) hs rfl fun hs => ?_
  refine s1 (v := .string ((textOf x40.1))) hs (zp4 rfl Try.underlying28 Try.underlying21 Try.underlying9 hR46.up hW47) fun hs => sM (v := .bool (x57.2.1)) hs rfl fun hs => sA (v := .string ((textOf x40.1))) hs rfl fun hs => sA (v := .bool (x57.2.1)) hs rfl fun hs => za0 <| hK9 <| zau ?_
  obtain rfl := Option.some.inj hm
  replace hs := hs.front 3
  replace hs := hs.front 2
  replace hs := hs.front 2
  replace hs := hs.front 3
  refine RtV2 hs rfl (rv_t hs rfl) (rv_t hs rfl) ?_
  exact ⟨_, f59, [.blk pb0 (.cells #[.pointer (some ⟨pv0_0, 0, none⟩), v51] 68 (0, 0)), .blk pv0_0 (.cells #[v61, .int .i64 (x57.2.2.at_)] 98 (0, 0)), .row v61 21 1 rw62, .row v51 56 5 rw52], rfl, hle, hs.cw, v61, rw62, v51, rw52, rfl, rfl, hW63, hW53⟩
 refine za7 <| s1 (v := .int .i32 (x7)) hs (y_ld rfl Try.underlying21 rfl (Cell.blk (.head _) rfl)) fun hs => s1 hs (zez rfl rfl) fun hs => sM (v := .bool (decide (x7 ≠ 34))) hs rfl fun hs => ?_
 refine St.split hs (t := 12) rfl (fun hg65 hs => ?_) (fun hg65 hs => ?_)
 ·refine s2 (v := .int .i32 (x7)) hs (y_ld rfl Try.underlying21 rfl (Cell.blk (.head _) rfl)) fun hs => s2 hs (zez rfl rfl) fun hs => sP (v := .bool (decide (x7 ≠ 39))) hs rfl rfl fun hs => za0 ?_
  exact hs.sub ⟨rfl, rfl, (lkB (((zgi hg65).trans rfl)) rfl), trivial⟩
 refine s3 hs fun hs => s3 hs fun hs => sP (v := .bool (false)) hs rfl rfl fun hs => za0 ?_
 exact hs.sub ⟨rfl, rfl, (lkB (((zll hg65).trans rfl)) rfl), trivial⟩
def zmy : Option Bool :=
  some false
def zh5 (p0 : (List za9)) (p1 : ByteArray) : Nat → Int → Option Bool
  | 0, _ => none
  | k6 + 1, y5 =>
  (bif (decide (y5 < (p0.length : Int))) then (geti p0 y5).bind fun x8 =>
  (bif (decide (x8.Name = p1)) then some true else
  (zh5 p0 p1 k6) (w64 (y5 + 1))) else
  zmy)
def zp0 (n : Nat) (p0 : (List za9)) (p1 : ByteArray) : Option Bool :=
  zh5 p0 p1 n 0
theorem mark_has_ok (n : Nat) {f : Fz} {p0 : (List za9)} {a0 : Value} {p1 : ByteArray} {res : Bool} (h0 : RS zcb f a0 p0) (hm : zp0 n p0 p1 = some res) : Gives Try.prog 72 [a0, .string p1] f (.bool res) := by
 unfold zp0 at hm
 intro w0 L w hC
 obtain ⟨rw1, hR2, hW3⟩ := h0
 refine enter Try.func72 rfl Try.ntmps72 (by simp) hC fun a hs => ?_
 have hle := Fz.le.refl f
 refine Wq fun hK1 => sA (v := .bool (false)) hs rfl fun hs => za0 <| hK1 <| Ws fun hK2 => Wq fun hK3 => sM (v := a0) hs rfl fun hs => s1 hs (zb7 hR2 hW3 rfl Try.underlying34) fun hs => ?_
 refine sM (v := .int .i64 (0)) hs rfl fun hs => za0 <| hK3 ?_
 refine zai (fun a w => zmy = some res ∧ St 18 w0 f (L) [] a w) ?_ ?_
 ·clear hs hm
  rintro a w ⟨hm, hs⟩
  unfold zmy at hm
  refine hK2 <| Wq fun hK4 => sA (v := .bool (false)) hs rfl fun hs => za0 <| hK4 <| zau ?_
  obtain rfl := Option.some.inj hm
  refine RtV1 hs rfl (rv_t hs rfl) ?_
  exact ⟨rfl, (hs.weak hle).cw⟩
 refine zam fun Qe5 hB5 hO5 => zcw (fun (k : Nat) a w => ∃ (y5 : Int), zh5 p0 p1 k y5 = some res ∧ St 18 w0 f (L) [(1, .string (p1)), (7, a0), (8, .int .i64 ((p0.length : Int))), (9, .int .i64 (y5))] a w) (fun k => k) n ⟨0, hm, hs.sub ⟨rfl, rfl, rfl, rfl, trivial⟩⟩ ?_
 clear hs hm
 intro k
 rintro a w ⟨y5, hm, hs⟩
 intro K6 hK6
 cases k with
 | zero => simp [zh5] at hm
 | succ k6 =>
  rw [zh5] at hm
  refine Wq fun hK7 => s1 hs (zg7 rfl rfl) fun hs => za0 <| hK7 <| Ws fun hK8 => ?_
  refine zaf hs rfl (fun hg7 => ?_) (fun hg7 => ?_)
  ·replace hm := oc_t hg7 hm
   refine zah <| hK8 <| Ws fun hK9 => zam fun Qe10 hB10 hO10 => Ws fun hK11 => za7 ?_
   obtain ⟨x8, hx9, hm⟩ := ob hm
   obtain ⟨r10, hr11, hq12, hi13, hb14⟩ := hW3.geti hx9
   obtain rfl : _ = ([.string (x8.Name), .string (x8.Value)] : List Value) := hq12
   refine s1 hs (za8 hR2 rfl rfl hi13 hb14 Try.underlying34 ti84) fun hs => s1 hs (zfm hR2.up rfl hr11 Try.underlying84 rfl ti84) fun hs => zbt hs ti84 (.free rfl) (by decide) fun b15 _ _ hs => zat (i := 0) hs rfl rfl rfl ti84 ⟨rfl, rfl⟩ (AllC.arr (r := [.string (x8.Name), .string (x8.Value)]) ⟨rfl, rfl, trivial⟩) (.free rfl) fun _ _ hs => za0 <| hK11 <| Wq fun hK12 => s1 (v := .pointer (some ⟨b15, 0, none⟩)) hs (za1 rfl (FO.of (off := 0) Try.underlying84 rfl rfl ti9 (by decide))) fun hs => s1 (v := .string (x8.Name)) hs (y_ld rfl Try.underlying9 rfl (Cell.blk (.head _) rfl)) fun hs => ?_
   refine sM (v := .string (p1)) hs rfl fun hs => s1 hs (zd9 rfl rfl) fun hs => za0 <| hK12 ?_
   refine zaf hs rfl (fun hg17 => ?_) (fun hg17 => ?_)
   ·replace hm := oc_t hg17 hm
    refine Wq fun hK13 => sA (v := .bool (true)) hs rfl fun hs => za0 <| hK13 <| zau ?_
    obtain rfl := Option.some.inj hm
    refine RtV1 hs rfl (rv_t hs rfl) ?_
    exact ⟨rfl, ((hs.subL (.cons _ (.refl _))).weak hle).cw⟩
   replace hm := oc_f hg17 hm
   refine zah <| hK9 <| za7 <| s1 hs (zeq rfl rfl rfl) fun hs => sM (v := .int .i64 ((w64 (y5 + 1)))) hs rfl fun hs => za0 ?_
   exact hK6 k6 _ _ (Nat.lt_succ_self _) ⟨(w64 (y5 + 1)), hm, hs.subs ⟨rfl, rfl, rfl, rfl, trivial⟩ (.cons _ (.refl _))⟩
  replace hm := oc_f hg7 hm
  refine zc9 <| hB5 _ _ ?_
  exact ⟨hm, hs.sub trivial⟩
def zfs (y11 : (List Int)) (y16 : Int) (y24 : (List za5)) : Option za3 :=
  some ({c := ({l := y11, at_ := y16} : za4), out := y24} : za3)
def zft (p0 : za3) (y11 : (List Int)) (y16 : Int) (y18 : (List Int)) : Option za3 :=
  (bif (decide (0 < (y18.length : Int))) then (appM 72 p0.out [({Kind := 1, Name := (bs []), Text := (textOf y18), Attrs := ([] : List za9), Closed := false} : za5)]).bind fun x38 =>
  zfs y11 y16 x38 else
  zfs y11 y16 p0.out)
def zd0 (n : Nat) (p0 : za3) (y7 : Int) : Nat → (List Int) → Int → (List Int) → Int → Option za3
  | 0, _, _, _, _ => none
  | k64 + 1, y47, y52, y54, y59 =>
  (bif (decide (y59 < y7)) then (zaj n ({l := y47, at_ := y52} : za4)).bind fun x67 =>
  (appM 4 y54 [x67.1]).bind fun x80 =>
  (zd0 n p0 y7 k64) x67.2.2.l x67.2.2.at_ x80 (w64 (y59 + 1)) else
  zft p0 y47 y52 y54)
def zd1 (n : Nat) (p0 : za3) (y7 : Int) : Option za3 :=
  zd0 n p0 y7 n p0.c.l p0.c.at_ ([] : List Int) 0
def zek (y86 : Int) (lp87 : Int → Option za3) : Option za3 :=
  lp87 (w64 (y86 + 1))
def zci (n : Nat) (p0 : za3) (y86 : Int) (lp87 : Int → Option za3) (y103 : Bool) : Option za3 :=
  (bif y103 then zd1 n p0 y86 else
  zek y86 lp87)
def zej (n : Nat) (p0 : za3) (p1 : ByteArray) (y86 : Int) (lp87 : Int → Option za3) (y96 : (List Int)) : Option za3 :=
  (zb6 n p0.c (w64 ((w64 (y86 + 2)) + (p1.size : Int)))).bind fun x101 =>
  (zg0 n y96).bind fun x105 =>
  (bif (decide (x105 = p1)) then (bif (!x101.2) then zci n p0 y86 lp87 true else
  (zec n x101.1).bind fun x109 =>
  (bif x109 then zci n p0 y86 lp87 true else
  (bif (decide (x101.1 = 47)) then zci n p0 y86 lp87 true else
  zci n p0 y86 lp87 (decide (x101.1 = 62))))) else
  zci n p0 y86 lp87 false)
def zcz (n : Nat) (p0 : za3) (p1 : ByteArray) (y86 : Int) (lp87 : Int → Option za3) : Nat → (List Int) → Int → Option za3
  | 0, _, _ => none
  | k124 + 1, y114, y119 =>
  (bif (decide (y119 < (p1.size : Int))) then (zbu n p0 (w64 ((w64 (y86 + 2)) + y119))).bind fun x126 =>
  (appM 4 y114 [x126]).bind fun x133 =>
  (zcz n p0 p1 y86 lp87 k124) x133 (w64 (y119 + 1)) else
  zej n p0 p1 y86 lp87 y114)
def zb2 (n : Nat) (p0 : za3) (p1 : ByteArray) : Nat → Int → Option za3
  | 0, _ => none
  | k87 + 1, y86 =>
  (zbc n p0.c).bind fun x88 =>
  (bif (decide (y86 < x88)) then (zee n p0 y86 (bs [60, 47])).bind fun x91 =>
  (bif (!x91) then zek y86 (zb2 n p0 p1 k87) else
  zcz n p0 p1 y86 (zb2 n p0 p1 k87) n ([] : List Int) 0) else
  zd1 n p0 y86)
def zh6 (n : Nat) (p0 : za3) (p1 : ByteArray) : Option za3 :=
  zb2 n p0 p1 n 0
theorem zng (n : Nat) {f : Fz} {p0 : za3} {pb0 : Nat} {pv0_0 : Nat} {pv0_1 : Value} {pv0_1r : List (List Value)} {pv0_2 : Value} {pv0_2r : List (List Value)} {p1 : ByteArray} {res : za3} (pv0_1h : RW (tInt .i32) f pv0_1r p0.c.l) (pv0_2h : RW zap f pv0_2r p0.out) (hm : zh6 n p0 p1 = some res) : Does Try.prog 37 [.pointer (some ⟨pb0, 0, none⟩), .string p1] f [.blk pb0 (.cells #[.pointer (some ⟨pv0_0, 0, none⟩), pv0_2] 68 (0, 0)), .blk pv0_0 (.cells #[pv0_1, .int .i64 p0.c.at_] 98 (0, 0)), .row pv0_1 21 1 pv0_1r, .row pv0_2 56 5 pv0_2r] (fun r f' L' => ∃ (dp0_1 : Value) (dp0_1r : List (List Value)) (dp0_2 : Value) (dp0_2r : List (List Value)), L' = [.blk pb0 (.cells #[.pointer (some ⟨pv0_0, 0, none⟩), dp0_2] 68 (0, 0)), .blk pv0_0 (.cells #[dp0_1, .int .i64 res.c.at_] 98 (0, 0)), .row dp0_1 21 1 dp0_1r, .row dp0_2 56 5 dp0_2r] ∧ r = .tuple #[] ∧ RW (tInt .i32) f' dp0_1r res.c.l ∧ RW zap f' dp0_2r res.out) := by
 unfold zh6 at hm
 intro w0 L w hC
 replace hC : Cw w0 f (.blk pb0 (.cells #[.pointer (some ⟨pv0_0, 0, none⟩), pv0_2] 68 (0, 0)) :: .blk pv0_0 (.cells #[pv0_1, .int .i64 p0.c.at_] 98 (0, 0)) :: .row pv0_1 21 1 pv0_1r :: .row pv0_2 56 5 pv0_2r :: L) w := hC
 refine enter Try.func37 rfl Try.ntmps37 (by simp) hC fun a hs => ?_
 have hle := Fz.le.refl f
 refine Wq fun hK1 => sA (v := .int .i64 (0)) hs rfl fun hs => za0 <| hK1 <| Ws fun hK2 => ?_
 refine zai (fun a w => ∃ (y7 : Int), zd1 n p0 y7 = some res ∧ St 104 w0 f (.blk pb0 (.cells #[.pointer (some ⟨pv0_0, 0, none⟩), pv0_2] 68 (0, 0)) :: .blk pv0_0 (.cells #[pv0_1, .int .i64 (p0.c.at_)] 98 (0, 0)) :: .row pv0_1 21 1 pv0_1r :: .row pv0_2 56 5 pv0_2r :: L) [(0, .pointer (some ⟨pb0, 0, none⟩)), (4, .int .i64 (y7))] a w) ?_ ?_
 ·clear hs hm
  rintro a w ⟨y7, hm, hs⟩
  unfold zd1 at hm
  refine hK2 <| Wq fun hK3 => sA (v := (.slice none 0 0)) hs rfl fun hs => za0 <| hK3 <| Ws fun hK4 => Wq fun hK5 => sM (v := .int .i64 (y7)) hs rfl fun hs => ?_
  refine sM (v := .int .i64 (0)) hs rfl fun hs => za0 <| hK5 ?_
  have hbase23 := Fz.le.refl f
  refine zai (fun a w => ∃ (f9 : Fz) (y11 : (List Int)) (y16 : Int) (y18 : (List Int)) (v12 : Value) (rw13 : List (List Value)) (v19 : Value) (rw20 : List (List Value)), Fz.le f f9 ∧ zft p0 y11 y16 y18 = some res ∧ RW (tInt .i32) f9 rw13 y11 ∧ RW (tInt .i32) f9 rw20 y18 ∧ St 104 w0 f9 (.row v19 21 1 rw20 :: .blk pb0 (.cells #[.pointer (some ⟨pv0_0, 0, none⟩), pv0_2] 68 (0, 0)) :: .blk pv0_0 (.cells #[v12, .int .i64 (y16)] 98 (0, 0)) :: .row v12 21 1 rw13 :: .row pv0_2 56 5 pv0_2r :: L) [(0, .pointer (some ⟨pb0, 0, none⟩)), (9, v19)] a w) ?_ ?_
  ·clear hs hm
   clear hbase23
   rintro a w ⟨f9, y11, y16, y18, v12, rw13, v19, rw20, hl10, hm, hW14, hW21, hs⟩
   replace pv0_1h := pv0_1h.le hl10
   replace pv0_2h := pv0_2h.le hl10
   replace hle := hle.trans hl10
   unfold zft at hm
   refine hK4 <| Wq fun hK6 => sM (v := v19) hs rfl fun hs => s1 hs (zb7 (Rd.st hs (.head _)) hW21 rfl Try.underlying28) fun hs => s1 hs (zis rfl rfl) fun hs => za0 <| hK6 ?_
   refine zai (fun a w => ∃ (y24 : (List za5)) (v25 : Value) (rw26 : List (List Value)), zfs y11 y16 y24 = some res ∧ RW zap f9 rw26 y24 ∧ St 104 w0 f9 (.blk pb0 (.cells #[.pointer (some ⟨pv0_0, 0, none⟩), v25] 68 (0, 0)) :: .blk pv0_0 (.cells #[v12, .int .i64 (y16)] 98 (0, 0)) :: .row v12 21 1 rw13 :: .row v25 56 5 rw26 :: L) [] a w) ?_ ?_
   ·clear hs hm
    rintro a w ⟨y24, v25, rw26, hm, hW27, hs⟩
    unfold zfs at hm
    obtain rfl := Option.some.inj hm
    refine RtV0 hs rfl  ?_
    exact ⟨_, f9, [.blk pb0 (.cells #[.pointer (some ⟨pv0_0, 0, none⟩), v25] 68 (0, 0)), .blk pv0_0 (.cells #[v12, .int .i64 (y16)] 98 (0, 0)), .row v12 21 1 rw13, .row v25 56 5 rw26], rfl, hle, hs.cw, v12, rw13, v25, rw26, rfl, rfl, hW14, hW27⟩
   refine zaf hs rfl (fun hg29 => ?_) (fun hg29 => ?_)
   ·replace hm := oc_t hg29 hm
    have hsD := hs.subL (L' := .row v19 21 1 rw20 :: .blk pb0 (.cells #[.pointer (some ⟨pv0_0, 0, none⟩), pv0_2] 68 (0, 0)) :: []) (.cons_cons _ (.cons_cons _ (.cons _ (.cons _ (.cons _ (List.nil_sublist _))))))
    have hbd30 := Fz.le.refl f9
    refine zjc hs (.row v19 21 1 rw20 :: .blk pb0 (.cells #[.pointer (some ⟨pv0_0, 0, none⟩), pv0_2] 68 (0, 0)) :: []) [12] (.look 0 (.look 1 (.look 2 (.look 3 (.look 4 (.look 5 (.look 6 (.look 7 (.any [8] (fun _ => .any [9] (fun _ => .look 10 (.look 11 (.any [12] (fun _ => .done)))))))))))))) mixed (by kernel_rfl) fun _ he => uy (v := .pointer (some ⟨pb0, 0, none⟩)) 0 he rfl (zaa rfl) fun _ he => uy (v := .pointer (some ⟨pb0, 0, none⟩)) 1 he rfl (zaa rfl) fun _ he => uy 2 he rfl (zab rfl) fun _ he => uy (v := .pointer (some ⟨pb0, 1, none⟩)) 3 he rfl (za1 rfl (FO.of (off := 1) Try.underlying68 rfl rfl ti40 (by decide))) fun _ he => uy (v := pv0_2) 4 he rfl (y_ld rfl Try.underlying40 rfl (Cell.blk (.tail _ (.head _)) rfl)) fun _ he => uy (v := v19) 5 he rfl (zaa rfl) fun _ he => uy (v := .string ((textOf y18))) 6 he rfl (zp4 rfl Try.underlying28 Try.underlying21 Try.underlying9 (Rd.st hsD (.head _)) hW21) fun _ he => uy 7 he rfl (zes (places := [(0, 1), (1, 1), (2, 1), (3, 1), (4, 1)]) (cs := [.int .i64 (1), .string ((bs [])), .string ((textOf y18)), (.slice none 0 0), .bool (false)]) rfl Try.underlying56 ti56 (by kernel_rfl) (by decide) rfl ⟨rfl, rfl, trivial⟩) fun _ he => ?_
    refine ze2 he rfl ?_; clear he; (try clear a); intro a w hs
    refine zn5 hs rfl Try.underlying40 ti56 (by decide) (AllC.row ⟨rfl, rfl, rfl, rfl, rfl, trivial⟩ rfl) fun v32 _ _ hs => ?_
    have hW33 : RW zap f9 [[.int .i64 (1), .string ((bs [])), .string ((textOf y18)), (.slice none 0 0), .bool (false)]] [({Kind := 1, Name := (bs []), Text := (textOf y18), Attrs := ([] : List za9), Closed := false} : za5)] := RW.single (⟨_, rfl, RS.nil⟩)
    generalize hgrw34 : ([[.int .i64 (1), .string ((bs [])), .string ((textOf y18)), (.slice none 0 0), .bool (false)]] : List (List Value)) = rw34 at hs hW33; clear hgrw34
    have ho37 : v32.oneCell' = true := hs.one (i := 0) rfl
    refine uon hs fun _ he => ?_
    refine ze2 he rfl ?_; clear he; (try clear a); intro a w hs
    obtain ⟨x38, hx39, hm⟩ := ob hm
    obtain ⟨hbx38, hex38⟩ := zcj hx39
    have hW42 := pv0_2h.append hW33; rw [hex38] at hW42
    refine zcs (i := 5) hs rfl rfl rfl (Rd.st hs (.head _)) Try.underlying40 ti56 (by decide) (by rw [RW.len pv0_2h, RW.len hW33]; exact hbx38) (.free rfl) (by decide) fun v40 _ _ hs => ?_
    generalize hgx38 : pv0_2r ++ rw34 = rw41 at hs hW42; clear hgx38
    replace hs := hs.erase 0
    have ho44 : v40.oneCell' = true := hs.one (i := 4) rfl
    refine uon hs fun _ he => uy 10 he rfl (zab rfl) fun _ he => uy (v := .pointer (some ⟨pb0, 1, none⟩)) 11 he rfl (za1 rfl (FO.of (off := 1) Try.underlying68 rfl rfl ti40 (by decide))) fun _ he => ?_
    refine ze2 he rfl ?_; clear he; (try clear a); intro a w hs
    refine sstore 1 hs rfl rfl rfl ti40 ho44 fun _ _ hs => uend hs fun _ he => ?_
    refine znq he ?_; clear he; (try clear a); intro w hs; try clear hsD
    exact ⟨x38, v40, rw41, hm, hW42, hs.subs trivial (.cons _ (.cons_cons _ (.cons_cons _ (.cons_cons _ (.cons_cons _ (.refl _))))))⟩
   replace hm := oc_f hg29 hm
   refine zah ?_
   exact ⟨p0.out, pv0_2, pv0_2r, hm, pv0_2h, hs.subs trivial (.cons _ (.cons_cons _ (.cons_cons _ (.cons_cons _ (.cons_cons _ (.refl _))))))⟩
  refine zam fun Qe7 hB7 hO7 => ?_
  have hbase := Fz.le.refl f
  replace hs := hs.nilRow 21 1
  have hW60 : RW (tInt .i32) f [] ([] : List Int) := trivial
  generalize hgrw61 : ([] : List (List Value)) = rw61 at hs hW60; clear hgrw61
  refine zcw (fun (k : Nat) a w => ∃ (f45 : Fz) (y47 : (List Int)) (y52 : Int) (y54 : (List Int)) (y59 : Int) (v48 : Value) (rw49 : List (List Value)) (v55 : Value) (rw56 : List (List Value)), Fz.le f f45 ∧ zd0 n p0 y7 k y47 y52 y54 y59 = some res ∧ RW (tInt .i32) f45 rw49 y47 ∧ RW (tInt .i32) f45 rw56 y54 ∧ St 104 w0 f45 (.row v55 21 1 rw56 :: .blk pb0 (.cells #[.pointer (some ⟨pv0_0, 0, none⟩), pv0_2] 68 (0, 0)) :: .blk pv0_0 (.cells #[v48, .int .i64 (y52)] 98 (0, 0)) :: .row v48 21 1 rw49 :: .row pv0_2 56 5 pv0_2r :: L) [(0, .pointer (some ⟨pb0, 0, none⟩)), (9, v55), (73, .int .i64 (y7)), (74, .int .i64 (y59))] a w) (fun k => k) n ⟨_, p0.c.l, p0.c.at_, ([] : List Int), 0, pv0_1, pv0_1r, (.slice none 0 0), rw61, (Fz.le.refl _), hm, pv0_1h, hW60, hs.sub ⟨rfl, rfl, rfl, rfl, trivial⟩⟩ ?_
  clear hs hm
  intro k
  rintro a w ⟨f45, y47, y52, y54, y59, v48, rw49, v55, rw56, hl46, hm, hW50, hW57, hs⟩
  replace pv0_1h := pv0_1h.le hl46
  replace pv0_2h := pv0_2h.le hl46
  replace hle := hle.trans hl46
  replace hbase23 := hbase23.trans hl46
  intro K8 hK8
  cases k with
  | zero => simp [zd0] at hm
  | succ k64 =>
   rw [zd0] at hm
   have hbase65 := hl46
   refine Wq fun hK9 => s1 hs (zg7 rfl rfl) fun hs => za0 <| hK9 <| Ws fun hK10 => ?_
   refine zaf hs rfl (fun hg66 => ?_) (fun hg66 => ?_)
   ·replace hm := oc_t hg66 hm
    refine zah <| hK10 <| Ws fun hK11 => zam fun Qe12 hB12 hO12 => Wq fun hK13 => sM (v := .pointer (some ⟨pb0, 0, none⟩)) hs rfl fun hs => s1 hs (zab rfl) fun hs => s1 (v := .pointer (some ⟨pb0, 0, none⟩)) hs (za1 rfl (FO.of (off := 0) Try.underlying68 rfl rfl ti65 (by decide))) fun hs => s1 (v := .pointer (some ⟨pv0_0, 0, none⟩)) hs (y_ld rfl Try.underlying65 rfl (Cell.blk (.tail _ (.head _)) rfl)) fun hs => ?_
    obtain ⟨x67, hx68, hm⟩ := ob hm
    replace hs := hs.front 3
    replace hs := hs.front 3
    refine zbx (Lr := [.blk pv0_0 (.cells #[v48, .int .i64 (y52)] 98 (0, 0)), .row v48 21 1 rw49]) (Lf := .row v55 21 1 rw56 :: .blk pb0 (.cells #[.pointer (some ⟨pv0_0, 0, none⟩), pv0_2] 68 (0, 0)) :: .row pv0_2 56 5 pv0_2r :: L) hs rfl has34 rfl rfl (zao n (f := f45) (p0 := ({l := y47, at_ := y52} : za4)) (pb0 := pv0_0) (pv0_0 := v48) (pv0_0r := rw49) hW50 hx68) (.free rfl) (by decide) ?_; clear hs; (try clear a w)
    rintro _ f69 _ a w hf70 ⟨v71, rw72, rfl, rfl, hW73⟩ hs
    replace pv0_1h := pv0_1h.le hf70
    replace pv0_2h := pv0_2h.le hf70
    replace hW50 := hW50.le hf70
    replace hW57 := hW57.le hf70
    replace hle := hle.trans hf70
    replace hbase23 := hbase23.trans hf70
    replace hbase65 := hbase65.trans hf70
    refine sM (v := .tuple #[.int .i32 (x67.1), .bool (x67.2.1)]) hs rfl fun hs => s1 (v := .int .i32 (x67.1)) hs (zar rfl rfl) fun hs => s1 (v := .bool (x67.2.1)) hs (zar rfl rfl) fun hs => sA (v := .int .i32 (x67.1)) hs rfl fun hs => sA (v := .bool (x67.2.1)) hs rfl fun hs => za0 <| hK13 <| za7 <| sM (v := v55) hs rfl fun hs => sM (v := .int .i32 (x67.1)) hs rfl fun hs => ?_
    refine zfz hs rfl Try.underlying28 ti21 rfl rfl fun v75 _ _ hs => ?_
    have hW76 : RW (tInt .i32) f69 [[.int .i32 (x67.1)]] [x67.1] := RW.single (rfl)
    generalize hgrw77 : ([[.int .i32 (x67.1)]] : List (List Value)) = rw77 at hs hW76; clear hgrw77
    obtain ⟨x80, hx81, hm⟩ := ob hm
    obtain ⟨hbx80, hex80⟩ := zcj hx81
    have hW84 := hW57.append hW76; rw [hex80] at hW84
    refine zcs (i := 3) hs rfl rfl rfl (Rd.st hs (.head _)) Try.underlying28 ti21 (by decide) (by rw [RW.len hW57, RW.len hW76]; exact hbx80) (.free rfl) (by decide) fun v82 _ _ hs => ?_
    generalize hgx80 : rw56 ++ rw77 = rw83 at hs hW84; clear hgx80
    replace hs := hs.erase 0
    refine sA (v := v82) hs rfl fun hs => za0 <| hK11 <| za7 <| s1 hs (zeq rfl rfl rfl) fun hs => sM (v := .int .i64 ((w64 (y59 + 1)))) hs rfl fun hs => za0 ?_
    replace hs := hs.front 4
    replace hs := hs.front 2
    replace hs := hs.front 2
    replace hs := hs.front 4
    replace hs := hs.front 4
    exact hK8 k64 _ _ (Nat.lt_succ_self _) ⟨_, x67.2.2.l, x67.2.2.at_, x80, (w64 (y59 + 1)), v71, rw72, v82, rw83, hbase65, hm, hW73, hW84, hs.sub ⟨rfl, rfl, rfl, rfl, trivial⟩⟩
   replace hm := oc_f hg66 hm
   refine zc9 <| hB7 _ _ ?_
   exact ⟨_, y47, y52, y54, v48, rw49, v55, rw56, hbase23, hm, hW50, hW57, hs.sub ⟨rfl, rfl, trivial⟩⟩
 refine zam fun Qe14 hB14 hO14 => zcw (fun (k : Nat) a w => ∃ (y86 : Int), zb2 n p0 p1 k y86 = some res ∧ St 104 w0 f (.blk pb0 (.cells #[.pointer (some ⟨pv0_0, 0, none⟩), pv0_2] 68 (0, 0)) :: .blk pv0_0 (.cells #[pv0_1, .int .i64 (p0.c.at_)] 98 (0, 0)) :: .row pv0_1 21 1 pv0_1r :: .row pv0_2 56 5 pv0_2r :: L) [(0, .pointer (some ⟨pb0, 0, none⟩)), (1, .string (p1)), (4, .int .i64 (y86))] a w) (fun k => k) n ⟨0, hm, hs.sub ⟨rfl, rfl, rfl, trivial⟩⟩ ?_
 clear hs hm
 intro k
 rintro a w ⟨y86, hm, hs⟩
 intro K15 hK15
 cases k with
 | zero => simp [zb2] at hm
 | succ k87 =>
  rw [zb2] at hm
  refine Ws fun hK16 => Wq fun hK17 => sM (v := .int .i64 (y86)) hs rfl fun hs => sM (v := .pointer (some ⟨pb0, 0, none⟩)) hs rfl fun hs => s1 hs (zab rfl) fun hs => s1 (v := .pointer (some ⟨pb0, 0, none⟩)) hs (za1 rfl (FO.of (off := 0) Try.underlying68 rfl rfl ti65 (by decide))) fun hs => s1 (v := .pointer (some ⟨pv0_0, 0, none⟩)) hs (y_ld rfl Try.underlying65 rfl (Cell.blk (.head _) rfl)) fun hs => ?_
  obtain ⟨x88, hx89, hm⟩ := ob hm
  refine s1 hs (zeg (cap := []) (Lf := .blk pb0 (.cells #[.pointer (some ⟨pv0_0, 0, none⟩), pv0_2] 68 (0, 0)) :: .row pv0_2 56 5 pv0_2r :: L) rfl has27 rfl ((zag _ 2 rfl).trans (zag _ 2 rfl)) (zcv n (f := f) (p0 := p0.c) (pb0 := pv0_0) (pv0_0 := pv0_1) (pv0_0r := pv0_1r) pv0_1h hx89)) fun hs => s1 hs (zg7 rfl rfl) fun hs => za0 <| hK17 ?_
  refine zaf hs rfl (fun hg90 => ?_) (fun hg90 => ?_)
  ·replace hm := oc_t hg90 hm
   refine zah <| hK16 <| Ws fun hK18 => ?_
   refine zai (fun a w => zek y86 (zb2 n p0 p1 k87) = some res ∧ St 104 w0 f (.blk pb0 (.cells #[.pointer (some ⟨pv0_0, 0, none⟩), pv0_2] 68 (0, 0)) :: .blk pv0_0 (.cells #[pv0_1, .int .i64 (p0.c.at_)] 98 (0, 0)) :: .row pv0_1 21 1 pv0_1r :: .row pv0_2 56 5 pv0_2r :: L) [(0, .pointer (some ⟨pb0, 0, none⟩)), (1, .string (p1)), (4, .int .i64 (y86))] a w) ?_ ?_
   ·clear hs hm
    rintro a w ⟨hm, hs⟩
    unfold zek at hm
    refine hK18 <| za7 <| sM (v := .int .i64 (y86)) hs rfl fun hs => s1 hs (zeq rfl rfl rfl) fun hs => sA (v := .int .i64 ((w64 (y86 + 1)))) hs rfl fun hs => za0 ?_
    exact hK15 k87 _ _ (Nat.lt_succ_self _) ⟨(w64 (y86 + 1)), hm, hs.sub ⟨rfl, rfl, rfl, trivial⟩⟩
   refine zam fun Qe19 hB19 hO19 => Ws fun hK20 => Wq fun hK21 => sM (v := .pointer (some ⟨pb0, 0, none⟩)) hs rfl fun hs => sM (v := .int .i64 (y86)) hs rfl fun hs => ?_
   obtain ⟨x91, hx92, hm⟩ := ob hm
   refine s1 hs (zeg (cap := []) (Lf := L) rfl has31 rfl ((((zag _ 3 rfl).trans (zag _ 3 rfl)).trans (zag _ 3 rfl)).trans (zag _ 3 rfl)) (zg4 n (f := f) (p0 := p0) (pb0 := pb0) (pv0_0 := pv0_0) (pv0_1 := pv0_1) (pv0_1r := pv0_1r) (pv0_2 := pv0_2) (pv0_2r := pv0_2r) (p1 := y86) (p2 := (bs [60, 47])) pv0_1h pv0_2h hx92)) fun hs => s1 (v := .bool ((!x91))) hs (zj8 rfl) fun hs => za0 <| hK21 ?_
   refine zaf hs rfl (fun hg93 => ?_) (fun hg93 => ?_)
   ·replace hm := oc_t hg93 hm
    refine zc9 <| hB19 _ _ ?_
    exact ⟨hm, hs.sub ⟨rfl, rfl, rfl, trivial⟩⟩
   replace hm := oc_f hg93 hm
   refine zah <| hK20 <| Wq fun hK22 => sA (v := (.slice none 0 0)) hs rfl fun hs => za0 <| hK22 <| Ws fun hK23 => Ws fun hK24 => za7 ?_
   refine sM (v := .string (p1)) hs rfl fun hs => s1 hs (zn6 rfl Try.underlying9) fun hs => sM (v := .int .i64 (0)) hs rfl fun hs => za0 <| hK24 ?_
   refine zai (fun a w => ∃ (y96 : (List Int)) (v97 : Value) (rw98 : List (List Value)), zej n p0 p1 y86 (zb2 n p0 p1 k87) y96 = some res ∧ RW (tInt .i32) f rw98 y96 ∧ St 104 w0 f (.row v97 21 1 rw98 :: .blk pb0 (.cells #[.pointer (some ⟨pv0_0, 0, none⟩), pv0_2] 68 (0, 0)) :: .blk pv0_0 (.cells #[pv0_1, .int .i64 (p0.c.at_)] 98 (0, 0)) :: .row pv0_1 21 1 pv0_1r :: .row pv0_2 56 5 pv0_2r :: L) [(0, .pointer (some ⟨pb0, 0, none⟩)), (1, .string (p1)), (4, .int .i64 (y86)), (5, v97)] a w) ?_ ?_
   ·clear hs hm
    rintro a w ⟨y96, v97, rw98, hm, hW99, hs⟩
    unfold zej at hm
    refine hK23 <| Wq fun hK25 => sM (v := .pointer (some ⟨pb0, 0, none⟩)) hs rfl fun hs => s1 hs (zab rfl) fun hs => s1 (v := .pointer (some ⟨pb0, 0, none⟩)) hs (za1 rfl (FO.of (off := 0) Try.underlying68 rfl rfl ti65 (by decide))) fun hs => s1 (v := .pointer (some ⟨pv0_0, 0, none⟩)) hs (y_ld rfl Try.underlying65 rfl (Cell.blk (.tail _ (.head _)) rfl)) fun hs => sM (v := .int .i64 (y86)) hs rfl fun hs => s1 hs (zeq rfl rfl rfl) fun hs => sM (v := .string (p1)) hs rfl fun hs => ?_
    refine s1 hs (zn6 rfl Try.underlying9) fun hs => s1 hs (zeq rfl rfl rfl) fun hs => ?_
    obtain ⟨x101, hx102, hm⟩ := ob hm
    refine s1 hs (zeg (cap := []) (Lf := .row v97 21 1 rw98 :: .blk pb0 (.cells #[.pointer (some ⟨pv0_0, 0, none⟩), pv0_2] 68 (0, 0)) :: .row pv0_2 56 5 pv0_2r :: L) rfl has60 rfl ((zag _ 3 rfl).trans (zag _ 3 rfl)) (zc3 n (f := f) (p0 := p0.c) (pb0 := pv0_0) (pv0_0 := pv0_1) (pv0_0r := pv0_1r) (p1 := (w64 ((w64 (y86 + 2)) + (p1.size : Int)))) pv0_1h hx102)) fun hs => sM (v := .tuple #[.int .i32 (x101.1), .bool (x101.2)]) hs rfl fun hs => s1 (v := .int .i32 (x101.1)) hs (zar rfl rfl) fun hs => s1 (v := .bool (x101.2)) hs (zar rfl rfl) fun hs => sA (v := .int .i32 (x101.1)) hs rfl fun hs => sA (v := .bool (x101.2)) hs rfl fun hs => za0 <| hK25 <| Ws fun hK26 => ?_
    refine zai (fun a w => ∃ (y103 : Bool), zci n p0 y86 (zb2 n p0 p1 k87) y103 = some res ∧ St 104 w0 f (.blk pb0 (.cells #[.pointer (some ⟨pv0_0, 0, none⟩), pv0_2] 68 (0, 0)) :: .blk pv0_0 (.cells #[pv0_1, .int .i64 (p0.c.at_)] 98 (0, 0)) :: .row pv0_1 21 1 pv0_1r :: .row pv0_2 56 5 pv0_2r :: L) [(0, .pointer (some ⟨pb0, 0, none⟩)), (1, .string (p1)), (4, .int .i64 (y86)), (72, .bool (y103))] a w) ?_ ?_
    ·clear hs hm
     rintro a w ⟨y103, hm, hs⟩
     unfold zci at hm
     refine hK26 ?_
     refine zaf hs rfl (fun hg104 => ?_) (fun hg104 => ?_)
     ·replace hm := oc_t hg104 hm
      refine zc9 <| hO19 _ rfl _ _ <| hB14 _ _ ?_
      exact ⟨y86, hm, hs.sub ⟨rfl, rfl, trivial⟩⟩
     replace hm := oc_f hg104 hm
     refine zah ?_
     exact ⟨hm, hs.sub ⟨rfl, rfl, rfl, trivial⟩⟩
    refine za7 <| sM (v := v97) hs rfl fun hs => ?_
    obtain ⟨x105, hx106, hm⟩ := ob hm
    refine sy hs (zeh (cap := []) rfl has66 rfl (fun w9 hw9 => callsP (Lr := [.row v97 21 1 rw98]) (Lf := .blk pb0 (.cells #[.pointer (some ⟨pv0_0, 0, none⟩), pv0_2] 68 (0, 0)) :: .blk pv0_0 (.cells #[pv0_1, .int .i64 (p0.c.at_)] 98 (0, 0)) :: .row pv0_1 21 1 pv0_1r :: .row pv0_2 56 5 pv0_2r :: L) (zag _ 0 rfl) hw9 (fun Lz w9 hw9 => lent0 hw9 (fun f9_0 w9 hle9_0 hRl0 hw9 => (zjk n (f := f9_0) (a0 := v97) ⟨rw98, hRl0, hW99.le hle9_0⟩ hx106) w0 _ w9 hw9)))) fun _ _ hs => sM (v := .string (p1)) hs rfl fun hs => s1 hs (zd9 rfl rfl) fun hs => sM (v := .bool (decide (x105 = p1))) hs rfl fun hs => ?_
    refine St.split hs (t := 57) rfl (fun hg107 hs => ?_) (fun hg107 hs => ?_)
    ·replace hm := oc_t hg107 hm
     refine s2 (v := .bool (x101.2)) hs (zaa rfl) fun hs => s2 (v := .bool ((!x101.2))) hs (zj8 rfl) fun hs => s2 (v := .bool ((!x101.2))) hs (zaa rfl) fun hs => ?_
     refine St.split hs (t := 60) rfl (fun hg108 hs => ?_) (fun hg108 hs => ?_)
     ·replace hm := oc_t hg108 hm
      refine s3 hs fun hs => s3 hs fun hs => s2 (v := .bool (true)) hs (zb4 rfl rfl) fun hs => s2 (v := .bool (true)) hs (zaa rfl) fun hs => s3 hs fun hs => s3 hs fun hs => s2 (v := .bool (true)) hs (zb4 rfl rfl) fun hs => s2 (v := .bool (true)) hs (zaa rfl) fun hs => s3 hs fun hs => s3 hs fun hs => ?_
      refine s2 (v := .bool (true)) hs (zb4 rfl rfl) fun hs => sP (v := .bool (true)) hs rfl rfl fun hs => za0 ?_
      exact ⟨true, hm, hs.subs ⟨rfl, rfl, rfl, rfl, trivial⟩ (.cons _ (.cons_cons _ (.cons_cons _ (.cons_cons _ (.cons_cons _ (.refl _))))))⟩
     replace hm := oc_f hg108 hm
     refine s2 (v := .int .i32 (x101.1)) hs (zaa rfl) fun hs => ?_
     obtain ⟨x109, hx110, hm⟩ := ob hm
     refine s2 hs (zbd rfl has69 rfl (zgc n (f := f)  hx110)) fun hs => s2 (v := .bool (x109)) hs (zb4 rfl rfl) fun hs => s2 (v := .bool (x109)) hs (zaa rfl) fun hs => ?_
     refine St.split hs (t := 64) rfl (fun hg111 hs => ?_) (fun hg111 hs => ?_)
     ·replace hm := oc_t hg111 hm
      refine s3 hs fun hs => s3 hs fun hs => s2 (v := .bool (true)) hs (zb4 rfl rfl) fun hs => s2 (v := .bool (true)) hs (zaa rfl) fun hs => s3 hs fun hs => s3 hs fun hs => s2 (v := .bool (true)) hs (zb4 rfl rfl) fun hs => sP (v := .bool (true)) hs rfl rfl fun hs => za0 ?_
      exact ⟨true, hm, hs.subs ⟨rfl, rfl, rfl, rfl, trivial⟩ (.cons _ (.cons_cons _ (.cons_cons _ (.cons_cons _ (.cons_cons _ (.refl _))))))⟩
     replace hm := oc_f hg111 hm
     refine s2 (v := .int .i32 (x101.1)) hs (zaa rfl) fun hs => s2 hs (zd3 rfl rfl) fun hs => s2 (v := .bool (decide (x101.1 = 47))) hs (zb4 rfl rfl) fun hs => s2 (v := .bool (decide (x101.1 = 47))) hs (zaa rfl) fun hs => ?_
     refine St.split hs (t := 68) rfl (fun hg112 hs => ?_) (fun hg112 hs => ?_)
     ·replace hm := oc_t hg112 hm
      refine s3 hs fun hs => s3 hs fun hs => s2 (v := .bool (true)) hs (zb4 rfl rfl) fun hs => sP (v := .bool (true)) hs rfl rfl fun hs => za0 ?_
      exact ⟨true, hm, hs.subs ⟨rfl, rfl, rfl, rfl, trivial⟩ (.cons _ (.cons_cons _ (.cons_cons _ (.cons_cons _ (.cons_cons _ (.refl _))))))⟩
     replace hm := oc_f hg112 hm
     refine s2 (v := .int .i32 (x101.1)) hs (zaa rfl) fun hs => s2 hs (zd3 rfl rfl) fun hs => s2 (v := .bool (decide (x101.1 = 62))) hs (zb4 rfl rfl) fun hs => sP (v := .bool (decide (x101.1 = 62))) hs rfl rfl fun hs => za0 ?_
     exact ⟨decide (x101.1 = 62), hm, hs.subs ⟨rfl, rfl, rfl, rfl, trivial⟩ (.cons _ (.cons_cons _ (.cons_cons _ (.cons_cons _ (.cons_cons _ (.refl _))))))⟩
    replace hm := oc_f hg107 hm
    refine s3 hs fun hs => s3 hs fun hs => s3 hs fun hs => s4 hs fun hs => s4 hs fun hs => s3 hs fun hs => s3 hs fun hs => s4 hs fun hs => s4 hs fun hs => s3 hs fun hs => ?_
    refine s3 hs fun hs => s4 hs fun hs => s4 hs fun hs => s3 hs fun hs => sP (v := .bool (false)) hs rfl rfl fun hs => za0 ?_
    exact ⟨false, hm, hs.subs ⟨rfl, rfl, rfl, rfl, trivial⟩ (.cons _ (.cons_cons _ (.cons_cons _ (.cons_cons _ (.cons_cons _ (.refl _))))))⟩
   refine zam fun Qe27 hB27 hO27 => ?_
   replace hs := hs.nilRow 21 1
   have hW120 : RW (tInt .i32) f [] ([] : List Int) := trivial
   generalize hgrw121 : ([] : List (List Value)) = rw121 at hs hW120; clear hgrw121
   refine zcw (fun (k : Nat) a w => ∃ (y114 : (List Int)) (y119 : Int) (v115 : Value) (rw116 : List (List Value)), zcz n p0 p1 y86 (zb2 n p0 p1 k87) k y114 y119 = some res ∧ RW (tInt .i32) f rw116 y114 ∧ St 104 w0 f (.row v115 21 1 rw116 :: .blk pb0 (.cells #[.pointer (some ⟨pv0_0, 0, none⟩), pv0_2] 68 (0, 0)) :: .blk pv0_0 (.cells #[pv0_1, .int .i64 (p0.c.at_)] 98 (0, 0)) :: .row pv0_1 21 1 pv0_1r :: .row pv0_2 56 5 pv0_2r :: L) [(0, .pointer (some ⟨pb0, 0, none⟩)), (1, .string (p1)), (4, .int .i64 (y86)), (5, v115), (26, .int .i64 ((p1.size : Int))), (27, .int .i64 (y119))] a w) (fun k => k) n ⟨([] : List Int), 0, (.slice none 0 0), rw121, hm, hW120, hs.sub ⟨rfl, rfl, rfl, rfl, rfl, rfl, trivial⟩⟩ ?_
   clear hs hm
   intro k
   rintro a w ⟨y114, y119, v115, rw116, hm, hW117, hs⟩
   intro K28 hK28
   cases k with
   | zero => simp [zcz] at hm
   | succ k124 =>
    rw [zcz] at hm
    refine Wq fun hK29 => s1 hs (zg7 rfl rfl) fun hs => za0 <| hK29 <| Ws fun hK30 => ?_
    refine zaf hs rfl (fun hg125 => ?_) (fun hg125 => ?_)
    ·replace hm := oc_t hg125 hm
     refine zah <| hK30 <| Ws fun hK31 => zam fun Qe32 hB32 hO32 => Wq fun hK33 => sM (v := .int .i64 (y119)) hs rfl fun hs => sA (v := .int .i64 (y119)) hs rfl fun hs => za0 <| hK33 ?_
     refine za7 <| sM (v := v115) hs rfl fun hs => sM (v := .pointer (some ⟨pb0, 0, none⟩)) hs rfl fun hs => sM (v := .int .i64 (y86)) hs rfl fun hs => s1 hs (zeq rfl rfl rfl) fun hs => sM (v := .int .i64 (y119)) hs rfl fun hs => s1 hs (zeq rfl rfl rfl) fun hs => ?_
     obtain ⟨x126, hx127, hm⟩ := ob hm
     refine s1 hs (zeg (cap := []) (Lf := .row v115 21 1 rw116 :: L) rfl has30 rfl ((((zag _ 4 rfl).trans (zag _ 4 rfl)).trans (zag _ 4 rfl)).trans (zag _ 4 rfl)) (zco n (f := f) (p0 := p0) (pb0 := pb0) (pv0_0 := pv0_0) (pv0_1 := pv0_1) (pv0_1r := pv0_1r) (pv0_2 := pv0_2) (pv0_2r := pv0_2r) (p1 := (w64 ((w64 (y86 + 2)) + y119))) pv0_1h pv0_2h hx127)) fun hs => zfz hs rfl Try.underlying28 ti21 rfl rfl fun v128 _ _ hs => ?_
     have hW129 : RW (tInt .i32) f [[.int .i32 (x126)]] [x126] := RW.single (rfl)
     generalize hgrw130 : ([[.int .i32 (x126)]] : List (List Value)) = rw130 at hs hW129; clear hgrw130
     obtain ⟨x133, hx134, hm⟩ := ob hm
     obtain ⟨hbx133, hex133⟩ := zcj hx134
     have hW137 := hW117.append hW129; rw [hex133] at hW137
     refine zcs (i := 1) hs rfl rfl rfl (Rd.st hs (.head _)) Try.underlying28 ti21 (by decide) (by rw [RW.len hW117, RW.len hW129]; exact hbx133) (.free rfl) (by decide) fun v135 _ _ hs => ?_
     generalize hgx133 : rw116 ++ rw130 = rw136 at hs hW137; clear hgx133
     replace hs := hs.erase 0
     refine sA (v := v135) hs rfl fun hs => za0 <| hK31 <| za7 <| s1 hs (zeq rfl rfl rfl) fun hs => sM (v := .int .i64 ((w64 (y119 + 1)))) hs rfl fun hs => za0 ?_
     exact hK28 k124 _ _ (Nat.lt_succ_self _) ⟨x133, (w64 (y119 + 1)), v135, rw136, hm, hW137, hs.sub ⟨rfl, rfl, rfl, rfl, rfl, rfl, trivial⟩⟩
    replace hm := oc_f hg125 hm
    refine zc9 <| hB27 _ _ ?_
    exact ⟨y114, v115, rw116, hm, hW117, hs.sub ⟨rfl, rfl, rfl, rfl, trivial⟩⟩
  replace hm := oc_f hg90 hm
  refine zc9 <| hB14 _ _ ?_
  exact ⟨y86, hm, hs.sub ⟨rfl, rfl, trivial⟩⟩
end Go.Proofs.Ytklcdfnhdljkjaa
