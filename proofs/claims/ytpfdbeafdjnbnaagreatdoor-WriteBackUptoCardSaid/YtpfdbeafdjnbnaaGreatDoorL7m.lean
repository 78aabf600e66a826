/-
  Walks and laws of this seat.
-/
import Derived.Test.YtpfdbeafdjnbnaaGreatDoorBash
import Derived.Test.YtpfdbeafdjnbnaaGreatDoorL7a
import Derived.Test.YtpfdbeafdjnbnaaGreatDoorX3
import Derived.Test.YtpfdbeafdjnbnaaGreatDoorX0
import Derived.Test.YtpfdbeafdjnbnaaGreatDoorX21
import Derived.Test.YtpfdbeafdjnbnaaGreatDoorRows
namespace Go.Proofs.YtpfdbeafdjnbnaaGreatDoor
set_option linter.unusedVariables false
set_option linter.unusedSimpArgs false
set_option linter.unusedSectionVars false
set_option maxHeartbeats 4000000
set_option maxRecDepth 100000
open Go.RowKit Go.Sl
def zhs (y22 : Bool) (y23 : (List Int)) : Option Builder :=
  some ({addr := y22, buf := y23} : Builder)
def zf3 (y37 : Int) (lp38 : Bool → (List Int) → Int → Option Builder) (y43 : Bool) (y44 : (List Int)) : Option Builder :=
  lp38 y43 y44 (w64 (y37 + 1))
def zgh (y37 : Int) (lp38 : Bool → (List Int) → Int → Option Builder) (y124 : Bool) (y125 : (List Int)) : Option Builder :=
  zf3 y37 lp38 y124 y125
def zf2 (n : Nat) (q0 : zaa) (slf : Int → zaa → Builder → Option Builder) (y37 : Int) (lp38 : Bool → (List Int) → Int → Option Builder) (x50 : Int) (x57 : zae) (y105 : Bool) (y106 : (List Int)) : Option Builder :=
  (zb4 n ({addr := y105, buf := y106} : Builder) (bs [62])).bind fun x112 =>
  (zgc n x57.Name).bind fun x120 =>
  (bif (!x120) then (slf x50 q0 ({addr := x112.2.addr, buf := x112.2.buf} : Builder)).bind fun x132 =>
  (addS (bs [60,47]) x57.Name).bind fun x140 =>
  (addS x140 (bs [62])).bind fun x142 =>
  (zb4 n ({addr := x132.addr, buf := x132.buf} : Builder) x142).bind fun x144 =>
  zgh y37 lp38 x144.2.addr x144.2.buf else
  zgh y37 lp38 x112.2.addr x112.2.buf)
def zc4 (n : Nat) (q0 : zaa) (slf : Int → zaa → Builder → Option Builder) (y37 : Int) (lp38 : Bool → (List Int) → Int → Option Builder) (x50 : Int) (x57 : zae) : Nat → Bool → (List Int) → Int → Option Builder
  | 0, _, _, _ => none
  | k161 + 1, y154, y155, y160 =>
  (bif (decide (y160 < (x57.Attrs.length : Int))) then (geti x57.Attrs y160).bind fun x164 =>
  (addS (bs [32]) x164.Name).bind fun x174 =>
  (addS x174 (bs [61,34])).bind fun x176 =>
  (zga n x164.Value true).bind fun x178 =>
  (addS x176 x178).bind fun x180 =>
  (addS x180 (bs [34])).bind fun x182 =>
  (zb4 n ({addr := y154, buf := y155} : Builder) x182).bind fun x184 =>
  (zc4 n q0 slf y37 lp38 x50 x57 k161) x184.2.addr x184.2.buf (w64 (y160 + 1)) else
  zf2 n q0 slf y37 lp38 x50 x57 y154 y155)
def ze7 (n : Nat) (q0 : zaa) (slf : Int → zaa → Builder → Option Builder) (y31 : Bool) (y32 : (List Int)) (y37 : Int) (lp38 : Bool → (List Int) → Int → Option Builder) (x50 : Int) (x57 : zae) (y72 : Bool) : Option Builder :=
  (bif y72 then (zb4 n ({addr := y31, buf := y32} : Builder) x57.Text).bind fun x74 =>
  zf3 y37 lp38 x74.2.addr x74.2.buf else
  (bif (decide (x57.Kind = 2)) then (zga n x57.Text false).bind fun x83 =>
  (zb4 n ({addr := y31, buf := y32} : Builder) x83).bind fun x85 =>
  zf3 y37 lp38 x85.2.addr x85.2.buf else
  (addS (bs [60]) x57.Name).bind fun x93 =>
  (zb4 n ({addr := y31, buf := y32} : Builder) x93).bind fun x95 =>
  zc4 n q0 slf y37 lp38 x50 x57 n x95.2.addr x95.2.buf 0))
def zaw (n : Nat) (p0 : Int) (q0 : zaa) (slf : Int → zaa → Builder → Option Builder) (x11 : (List Int)) : Nat → Bool → (List Int) → Int → Option Builder
  | 0, _, _, _ => none
  | k38 + 1, y31, y32, y37 =>
  (bif (decide (y37 < (x11.length : Int))) then (geti x11 y37).bind fun x50 =>
  (geti q0.Nodes x50).bind fun x57 =>
  (bif (decide (x57.Kind = 2)) then (geti q0.Nodes p0).bind fun x210 =>
  (zat n [(bs [115,116,121,108,101]),(bs [115,99,114,105,112,116])] x210.Name).bind fun x222 =>
  ze7 n q0 slf y31 y32 y37 (zaw n p0 q0 slf x11 k38) x50 x57 x222 else
  ze7 n q0 slf y31 y32 y37 (zaw n p0 q0 slf x11 k38) x50 x57 false) else
  zhs y31 y32)
def zgz (slf : Int → zaa → Builder → Option Builder) (n : Nat) (p0 : Int) (q0 : zaa) (q1 : Builder) : Option Builder :=
  (zm8 n q0 p0).bind fun x11 =>
  zaw n p0 q0 slf x11 n q1.addr q1.buf 0
def zbk : Nat → Int → zaa → Builder → Option Builder
  | 0, _, _, _ => none
  | n + 1, p0, q0, q1 => zgz (zbk n) n p0 q0 q1
theorem zlw {slf : Int → zaa → Builder → Option Builder} (n : Nat) (slf_ok : ∀ {f : Fz} {p0 : Int} {cb0 : Nat} {q0 : zaa} {ca0 : List Value} {cb1 : Nat} {q1 : Builder} {cv1_0 : Value} {cv1_0r : List (List Value)} {cb2 : Nat} {res : Builder} (_ : zcz.R f ca0 q0) (_ : f cb0 = some (.cells ca0.toArray 30 (0,0))) (_ : RW (tInt .u8) f cv1_0r q1.buf) (_ : f cb2 = some (.cells #[.func (.func 25) #[] #[pq cb0 0, pq cb1 0, pq cb2 0]] 60 (0,0))) (_ : slf p0 q0 q1 = some res), Does Tryz.prog 25 [.int .i64 p0, pq cb0 0, pq cb1 0, pq cb2 0] f [.blk cb1 (.cells #[baddr cb1 q1.addr, cv1_0] 59 (0,0)), .row cv1_0 5 1 cv1_0r] (fun r f' L' => ∃ (dv1_0 : Value) (dv1_0r : List (List Value)), L' = [.blk cb1 (.cells #[baddr cb1 res.addr, dv1_0] 59 (0,0)), .row dv1_0 5 1 dv1_0r] ∧ r = .tuple #[] ∧ RW (tInt .u8) f' dv1_0r res.buf)) {f : Fz} {p0 : Int} {cb0 : Nat} {q0 : zaa} {ca0 : List Value} {cb1 : Nat} {q1 : Builder} {cv1_0 : Value} {cv1_0r : List (List Value)} {cb2 : Nat} {res : Builder} (hq0 : zcz.R f ca0 q0) (hc0 : f cb0 = some (.cells ca0.toArray 30 (0,0))) (cv1_0h : RW (tInt .u8) f cv1_0r q1.buf) (hc2 : f cb2 = some (.cells #[.func (.func 25) #[] #[pq cb0 0, pq cb1 0, pq cb2 0]] 60 (0,0))) (hm : zgz slf n p0 q0 q1 = some res) : Does Tryz.prog 25 [.int .i64 p0, pq cb0 0, pq cb1 0, pq cb2 0] f [.blk cb1 (.cells #[baddr cb1 q1.addr, cv1_0] 59 (0,0)), .row cv1_0 5 1 cv1_0r] (fun r f' L' => ∃ (dv1_0 : Value) (dv1_0r : List (List Value)), L' = [.blk cb1 (.cells #[baddr cb1 res.addr, dv1_0] 59 (0,0)), .row dv1_0 5 1 dv1_0r] ∧ r = .tuple #[] ∧ RW (tInt .u8) f' dv1_0r res.buf) := by
 unfold zgz at hm
 intro w0 L w hC
 replace hC : Cw w0 f (.blk cb1 (.cells #[baddr cb1 q1.addr, cv1_0] 59 (0,0)) :: .row cv1_0 5 1 cv1_0r :: L) w := hC
 obtain ⟨v2, rfl, ⟨rw3, hR4, hW5⟩⟩ := hq0
 refine enter Tryz.func25 rfl Tryz.ntmps25 (by simp) hC fun a hs => ?_
 have hle := Fz.le.refl f
 refine Wq fun hK1 => s1 hs (y_ldF rfl U30 rfl ti30 hc0 rfl) fun hs => sM hs rfl fun hs => ?_
 obtain ⟨x11, hx12, hm⟩ := ob hm
 refine zhp hs rfl has26 rfl (zsg n ⟨_, rfl, ⟨rw3, hR4, hW5⟩⟩ hx12) ?_; clear hs; (try clear a w)
 rintro v15 f13 _ a w hf14 ⟨_, rfl, rfl, ⟨rw16, hR17, hW18⟩⟩ hs
 replace hR4 := hR4.le hf14
 replace hW5 := hW5.le hf14
 replace hc0 := hf14 _ _ hc0
 replace cv1_0h := cv1_0h.le hf14
 replace hc2 := hf14 _ _ hc2
 replace hle := hle.trans hf14
 refine s1 hs (zc3 hR17 hW18 rfl U61) fun hs => sM hs rfl fun hs => za0 <| hK1 ?_
 have hbase28 := Fz.le.refl f13
 refine zaq (fun a w => ∃ (f20 : Fz) (y22 : Bool) (y23 : (List Int)) (v24 : Value) (rw25 : List (List Value)), Fz.le f13 f20 ∧ zhs y22 y23 = some res ∧ RW (tInt .u8) f20 rw25 y23 ∧ St 84 w0 f20 (.blk cb1 (.cells #[baddr cb1 y22, v24] 59 (0,0)) :: .row v24 5 1 rw25 :: L) [] a w) ?_ ?_
 ·clear hs hm
  clear hbase28
  rintro a w ⟨f20, y22, y23, v24, rw25, hl21, hm, hW26, hs⟩
  replace hc0 := hl21 _ _ hc0
  replace cv1_0h := cv1_0h.le hl21
  replace hc2 := hl21 _ _ hc2
  replace hle := hle.trans hl21
  unfold zhs at hm
  obtain rfl := Option.some.inj hm
  refine RtV0 hs rfl  ?_
  exact ⟨_, f20,[.blk cb1 (.cells #[baddr cb1 y22, v24] 59 (0,0)), .row v24 5 1 rw25], rfl, hle, hs.cw, v24, rw25, rfl, rfl, hW26⟩
 refine zam fun Qe2 hB2 hO2 => ?_
 have hbase := Fz.le.refl f13
 refine zd1 (fun (k : Nat) a w => ∃ (f29 : Fz) (y31 : Bool) (y32 : (List Int)) (y37 : Int) (v33 : Value) (rw34 : List (List Value)), Fz.le f13 f29 ∧ zaw n p0 q0 slf x11 k y31 y32 y37 = some res ∧ RW (tInt .u8) f29 rw34 y32 ∧ St 84 w0 f29 (.blk cb1 (.cells #[baddr cb1 y31, v33] 59 (0,0)) :: .row v33 5 1 rw34 :: L) [(0, .int .i64 (p0)),(1, pq cb0 0),(2, pq cb1 0),(3, pq cb2 0),(12, v15),(13, .int .i64 ((x11.length : Int))),(14, .int .i64 (y37))] a w) (fun k => k) n ⟨_, q1.addr, q1.buf,0, cv1_0, cv1_0r,(Fz.le.refl _), hm, cv1_0h, hs.sub ⟨rfl, rfl, rfl, rfl, rfl, rfl, rfl, trivial⟩⟩ ?_
 clear hs hm
 intro k
 rintro a w ⟨f29, y31, y32, y37, v33, rw34, hl30, hm, hW35, hs⟩
 replace hR4 := hR4.le hl30
 replace hW5 := hW5.le hl30
 replace hc0 := hl30 _ _ hc0
 replace cv1_0h := cv1_0h.le hl30
 replace hc2 := hl30 _ _ hc2
 replace hR17 := hR17.le hl30
 replace hW18 := hW18.le hl30
 replace hbase28 := hbase28.trans hl30
 intro K3 hK3
 cases k with
 | zero => simp [zaw] at hm
 | succ k38 =>
  rw [zaw] at hm
  have hbase39 := hl30
  refine Wq fun hK4 => s1 hs (zgq rfl rfl) fun hs => za0 <| hK4 <| Ws fun hK5 => ?_
  refine zah hs rfl (fun hg40 => ?_) (fun hg40 => ?_)
  ·replace hm := oc_t hg40 hm
   refine zaj <| hK5 <| Ws fun hK6 => ?_
   have hbase49 := Fz.le.refl f29
   refine zaq (fun a w => ∃ (f41 : Fz) (y43 : Bool) (y44 : (List Int)) (v45 : Value) (rw46 : List (List Value)), Fz.le f29 f41 ∧ zf3 y37 (zaw n p0 q0 slf x11 k38) y43 y44 = some res ∧ RW (tInt .u8) f41 rw46 y44 ∧ St 84 w0 f41 (.blk cb1 (.cells #[baddr cb1 y43, v45] 59 (0,0)) :: .row v45 5 1 rw46 :: L) [(0, .int .i64 (p0)),(1, pq cb0 0),(2, pq cb1 0),(3, pq cb2 0),(12, v15),(13, .int .i64 ((x11.length : Int))),(14, .int .i64 (y37))] a w) ?_ ?_
   ·clear hs hm
    clear hbase49
    rintro a w ⟨f41, y43, y44, v45, rw46, hl42, hm, hW47, hs⟩
    replace hc0 := hl42 _ _ hc0
    replace cv1_0h := cv1_0h.le hl42
    replace hc2 := hl42 _ _ hc2
    replace hbase39 := hbase39.trans hl42
    unfold zf3 at hm
    refine hK6 <| za2 <| s1 hs (zdz rfl rfl rfl) fun hs => sM hs rfl fun hs => za0 ?_
    exact hK3 k38 _ _ (Nat.lt_succ_self _) ⟨_, y43, y44,(w64 (y37 + 1)), v45, rw46, hbase39, hm, hW47, hs.sub ⟨rfl, rfl, rfl, rfl, rfl, rfl, rfl, trivial⟩⟩
   refine zam fun Qe7 hB7 hO7 => Ws fun hK8 => za2 ?_
   obtain ⟨x50, hx51, hm⟩ := ob hm
   obtain ⟨r52, hr53, hq54, hi55, hb56⟩ := hW18.geti hx51
   obtain rfl : _ = ([.int .i64 (x50)] : List Value) := hq54
   refine s1 hs (zac hR17 rfl rfl hi55 hb56 U61 ti3) fun hs => s1 (v := .int .i64 (x50)) hs (zbm (i := y37.toNat) (j := 0) hR17.up rfl hr53 rfl U3 rfl) fun hs => sA hs rfl fun hs => za0 <| hK8 <| Wq fun hK9 => s1 (v := pq cb0 0) hs (za1 rfl (FO.of (off := 0) U30 rfl rfl ti28 (by decide))) fun hs => s1 (v := v2) hs (y_ld rfl U28 rfl (Cell.fz hc0 rfl)) fun hs => sM hs rfl fun hs => ?_
   obtain ⟨x57, hx58, hm⟩ := ob hm
   obtain ⟨r59, hr60, hq61, hi62, hb63⟩ := hW5.geti hx58
   obtain ⟨v64, rfl, ⟨rw65, hR66, hW67⟩⟩ := hq61
   refine s1 hs (zac hR4 rfl rfl hi62 hb63 U28 ti53) fun hs => s1 hs (zdn hR4.up rfl hr60 U53 rfl ti53) fun hs => zbl hs ti53 (.free rfl) (by decide) fun b69 _ _ hs => zb5 (i := 0) hs rfl rfl rfl ti53 ⟨rfl, rfl⟩ (AllC.arr (r := [.int .i64 (x57.Kind), .string (x57.Name), .string (x57.Text), v64, .int .i64 (x57.Parent), .int .i64 (x57.First), .int .i64 (x57.Last), .int .i64 (x57.Prev), .int .i64 (x57.Next)]) ⟨rfl, rfl, rfl, hR66.one, rfl, rfl, rfl, rfl, rfl, trivial⟩) (.free rfl) fun _ _ hs => za0 <| hK9 <| Ws fun hK10 => zam fun Qe11 hB11 hO11 => Ws fun hK12 => ?_
   refine zaq (fun a w => ∃ (y72 : Bool), ze7 n q0 slf y31 y32 y37 (zaw n p0 q0 slf x11 k38) x50 x57 y72 = some res ∧ St 84 w0 f29 (.blk b69 (.cells #[.int .i64 (x57.Kind), .string (x57.Name), .string (x57.Text), v64, .int .i64 (x57.Parent), .int .i64 (x57.First), .int .i64 (x57.Last), .int .i64 (x57.Prev), .int .i64 (x57.Next)] 53 (0,0)) :: .blk cb1 (.cells #[baddr cb1 y31, v33] 59 (0,0)) :: .row v33 5 1 rw34 :: L) [(0, .int .i64 (p0)),(1, pq cb0 0),(2, pq cb1 0),(3, pq cb2 0),(6, .int .i64 (x50)),(7, pq b69 0),(12, v15),(13, .int .i64 ((x11.length : Int))),(14, .int .i64 (y37)),(23, .bool (y72))] a w) ?_ ?_
   ·clear hs hm
    rintro a w ⟨y72, hm, hs⟩
    unfold ze7 at hm
    refine hK12 ?_
    refine zah hs rfl (fun hg73 => ?_) (fun hg73 => ?_)
    ·replace hm := oc_t hg73 hm
     refine Wq fun hK13 => s1 (v := pq b69 2) hs (za1 rfl (FO.of (off := 2) U53 rfl rfl ti9 (by decide))) fun hs => s1 (v := .string (x57.Text)) hs (y_ld rfl U9 rfl (Cell.blk (.head _) rfl)) fun hs => ?_
     obtain ⟨x74, hx75, hm⟩ := ob hm
     replace hs := hs.front 2
     replace hs := hs.front 2
     refine zbb (Lr := [.blk cb1 (.cells #[baddr cb1 y31, v33] 59 (0,0)), .row v33 5 1 rw34]) (Lf := .blk b69 (.cells #[.int .i64 (x57.Kind), .string (x57.Name), .string (x57.Text), v64, .int .i64 (x57.Parent), .int .i64 (x57.First), .int .i64 (x57.Last), .int .i64 (x57.Prev), .int .i64 (x57.Next)] 53 (0,0)) :: L) hs rfl has27 rfl rfl (zc6 n hW35 hx75) (.free rfl) (by decide) ?_; clear hs; (try clear a w)
     rintro _ f76 _ a w hf77 ⟨v78, rw79, rfl, rfl, hW80⟩ hs
     replace hc0 := hf77 _ _ hc0
     replace cv1_0h := cv1_0h.le hf77
     replace hc2 := hf77 _ _ hc2
     replace hbase49 := hbase49.trans hf77
     refine za0 <| hK13 <| zc0 <| hO11 _ rfl _ _ <| hB7 _ _ ?_
     exact ⟨_, x74.2.addr, x74.2.buf, v78, rw79, hbase49, hm, hW80, hs.subs ⟨rfl, rfl, rfl, rfl, rfl, rfl, rfl, trivial⟩ (.cons_cons _ (.cons_cons _ (.cons _ (.refl _))))⟩
    replace hm := oc_f hg73 hm
    refine Wq fun hK14 => s1 (v := pq b69 0) hs (za1 rfl (FO.of (off := 0) U53 rfl rfl ti3 (by decide))) fun hs => s1 (v := .int .i64 (x57.Kind)) hs (y_ld rfl U3 rfl (Cell.blk (.head _) rfl)) fun hs => s1 hs (zct rfl rfl) fun hs => sA hs rfl fun hs => za0 <| hK14 ?_
    refine zah hs rfl (fun hg82 => ?_) (fun hg82 => ?_)
    ·replace hm := oc_t hg82 hm
     refine Wq fun hK15 => s1 (v := pq b69 2) hs (za1 rfl (FO.of (off := 2) U53 rfl rfl ti9 (by decide))) fun hs => s1 (v := .string (x57.Text)) hs (y_ld rfl U9 rfl (Cell.blk (.head _) rfl)) fun hs => ?_
     obtain ⟨x83, hx84, hm⟩ := ob hm
     refine s1 hs (zbi rfl has8 rfl (zki n  hx84)) fun hs => ?_
     obtain ⟨x85, hx86, hm⟩ := ob hm
     replace hs := hs.front 2
     replace hs := hs.front 2
     refine zbb (Lr := [.blk cb1 (.cells #[baddr cb1 y31, v33] 59 (0,0)), .row v33 5 1 rw34]) (Lf := .blk b69 (.cells #[.int .i64 (x57.Kind), .string (x57.Name), .string (x57.Text), v64, .int .i64 (x57.Parent), .int .i64 (x57.First), .int .i64 (x57.Last), .int .i64 (x57.Prev), .int .i64 (x57.Next)] 53 (0,0)) :: L) hs rfl has27 rfl rfl (zc6 n hW35 hx86) (.free rfl) (by decide) ?_; clear hs; (try clear a w)
     rintro _ f87 _ a w hf88 ⟨v89, rw90, rfl, rfl, hW91⟩ hs
     replace hc0 := hf88 _ _ hc0
     replace cv1_0h := cv1_0h.le hf88
     replace hc2 := hf88 _ _ hc2
     replace hbase49 := hbase49.trans hf88
     refine za0 <| hK15 <| zc0 <| hO11 _ rfl _ _ <| hB7 _ _ ?_
     exact ⟨_, x85.2.addr, x85.2.buf, v89, rw90, hbase49, hm, hW91, hs.subs ⟨rfl, rfl, rfl, rfl, rfl, rfl, rfl, trivial⟩ (.cons_cons _ (.cons_cons _ (.cons _ (.refl _))))⟩
    replace hm := oc_f hg82 hm
    refine zaj <| hK10 <| Wq fun hK16 => s1 (v := pq b69 1) hs (za1 rfl (FO.of (off := 1) U53 rfl rfl ti9 (by decide))) fun hs => s1 (v := .string (x57.Name)) hs (y_ld rfl U9 rfl (Cell.blk (.head _) rfl)) fun hs => ?_
    obtain ⟨x93, hx94, hm⟩ := ob hm
    obtain ⟨hbx93, hex93⟩ := zj1 hx94
    refine s1 hs (zlh rfl rfl hbx93 hex93) fun hs => ?_
    obtain ⟨x95, hx96, hm⟩ := ob hm
    replace hs := hs.front 2
    replace hs := hs.front 2
    refine zbb (Lr := [.blk cb1 (.cells #[baddr cb1 y31, v33] 59 (0,0)), .row v33 5 1 rw34]) (Lf := .blk b69 (.cells #[.int .i64 (x57.Kind), .string (x57.Name), .string (x57.Text), v64, .int .i64 (x57.Parent), .int .i64 (x57.First), .int .i64 (x57.Last), .int .i64 (x57.Prev), .int .i64 (x57.Next)] 53 (0,0)) :: L) hs rfl has27 rfl rfl (zc6 n hW35 hx96) (.free rfl) (by decide) ?_; clear hs; (try clear a w)
    rintro _ f97 _ a w hf98 ⟨v99, rw100, rfl, rfl, hW101⟩ hs
    replace hR4 := hR4.le hf98
    replace hW5 := hW5.le hf98
    replace hc0 := hf98 _ _ hc0
    replace cv1_0h := cv1_0h.le hf98
    replace hc2 := hf98 _ _ hc2
    replace hR17 := hR17.le hf98
    replace hW18 := hW18.le hf98
    replace hW35 := hW35.le hf98
    replace hR66 := hR66.le hf98
    replace hW67 := hW67.le hf98
    replace hbase49 := hbase49.trans hf98
    refine za0 <| hK16 <| Ws fun hK17 => Wq fun hK18 => s1 (v := pq b69 3) hs (za1 rfl (FO.of (off := 3) U53 rfl rfl ti43 (by decide))) fun hs => s1 (v := v64) hs (y_ld rfl U43 rfl (Cell.blk (.tail _ (.tail _ (.head _))) rfl)) fun hs => s1 hs (zc3 hR66 hW67 rfl U43) fun hs => sM hs rfl fun hs => za0 ?_
    refine hK18 ?_
    have hbase111 := Fz.le.refl f97
    refine zaq (fun a w => ∃ (f103 : Fz) (y105 : Bool) (y106 : (List Int)) (v107 : Value) (rw108 : List (List Value)), Fz.le f97 f103 ∧ zf2 n q0 slf y37 (zaw n p0 q0 slf x11 k38) x50 x57 y105 y106 = some res ∧ RW (tInt .u8) f103 rw108 y106 ∧ St 84 w0 f103 (.blk cb1 (.cells #[baddr cb1 y105, v107] 59 (0,0)) :: .row v107 5 1 rw108 :: .blk b69 (.cells #[.int .i64 (x57.Kind), .string (x57.Name), .string (x57.Text), v64, .int .i64 (x57.Parent), .int .i64 (x57.First), .int .i64 (x57.Last), .int .i64 (x57.Prev), .int .i64 (x57.Next)] 53 (0,0)) :: L) [(0, .int .i64 (p0)),(1, pq cb0 0),(2, pq cb1 0),(3, pq cb2 0),(6, .int .i64 (x50)),(7, pq b69 0),(12, v15),(13, .int .i64 ((x11.length : Int))),(14, .int .i64 (y37))] a w) ?_ ?_
    ·clear hs hm
     clear hbase111
     rintro a w ⟨f103, y105, y106, v107, rw108, hl104, hm, hW109, hs⟩
     replace hR4 := hR4.le hl104
     replace hW5 := hW5.le hl104
     replace hc0 := hl104 _ _ hc0
     replace cv1_0h := cv1_0h.le hl104
     replace hc2 := hl104 _ _ hc2
     replace hbase49 := hbase49.trans hl104
     unfold zf2 at hm
     refine hK17 <| Ws fun hK19 => za2 ?_
     obtain ⟨x112, hx113, hm⟩ := ob hm
     replace hs := hs.front 1
     replace hs := hs.front 1
     refine zbb (Lr := [.blk cb1 (.cells #[baddr cb1 y105, v107] 59 (0,0)), .row v107 5 1 rw108]) (Lf := .blk b69 (.cells #[.int .i64 (x57.Kind), .string (x57.Name), .string (x57.Text), v64, .int .i64 (x57.Parent), .int .i64 (x57.First), .int .i64 (x57.Last), .int .i64 (x57.Prev), .int .i64 (x57.Next)] 53 (0,0)) :: L) hs rfl has27 rfl rfl (zc6 n hW109 hx113) (.free rfl) (by decide) ?_; clear hs; (try clear a w)
     rintro _ f114 _ a w hf115 ⟨v116, rw117, rfl, rfl, hW118⟩ hs
     replace hR4 := hR4.le hf115
     replace hW5 := hW5.le hf115
     replace hc0 := hf115 _ _ hc0
     replace cv1_0h := cv1_0h.le hf115
     replace hc2 := hf115 _ _ hc2
     replace hbase49 := hbase49.trans hf115
     refine za0 <| hK19 <| Wq fun hK20 => s1 (v := pq b69 1) hs (za1 rfl (FO.of (off := 1) U53 rfl rfl ti9 (by decide))) fun hs => s1 (v := .string (x57.Name)) hs (y_ld rfl U9 rfl (Cell.blk (.tail _ (.tail _ (.head _))) rfl)) fun hs => ?_
     obtain ⟨x120, hx121, hm⟩ := ob hm
     refine s1 hs (zbi rfl has23 rfl (zj5 n  hx121)) fun hs => s1 (v := .bool ((!x120))) hs (zfc rfl) fun hs => za0 <| hK20 ?_
     have hbase130 := Fz.le.refl f114
     refine zaq (fun a w => ∃ (f122 : Fz) (y124 : Bool) (y125 : (List Int)) (v126 : Value) (rw127 : List (List Value)), Fz.le f114 f122 ∧ zgh y37 (zaw n p0 q0 slf x11 k38) y124 y125 = some res ∧ RW (tInt .u8) f122 rw127 y125 ∧ St 84 w0 f122 (.blk cb1 (.cells #[baddr cb1 y124, v126] 59 (0,0)) :: .row v126 5 1 rw127 :: L) [(0, .int .i64 (p0)),(1, pq cb0 0),(2, pq cb1 0),(3, pq cb2 0),(12, v15),(13, .int .i64 ((x11.length : Int))),(14, .int .i64 (y37))] a w) ?_ ?_
     ·clear hs hm
      clear hbase130
      rintro a w ⟨f122, y124, y125, v126, rw127, hl123, hm, hW128, hs⟩
      replace hc0 := hl123 _ _ hc0
      replace cv1_0h := cv1_0h.le hl123
      replace hc2 := hl123 _ _ hc2
      replace hbase49 := hbase49.trans hl123
      unfold zgh at hm
      exact ⟨_, y124, y125, v126, rw127, hbase49, hm, hW128, hs.sub ⟨rfl, rfl, rfl, rfl, rfl, rfl, rfl, trivial⟩⟩
     refine zah hs rfl (fun hg131 => ?_) (fun hg131 => ?_)
     ·replace hm := oc_t hg131 hm
      refine Wq fun hK21 => s1 (v := .func (.func 25) #[] #[pq cb0 0, pq cb1 0, pq cb2 0]) hs (y_ld rfl Tryz.underlying60 rfl (Cell.fz hc2 rfl)) fun hs => sM hs rfl fun hs => ?_
      obtain ⟨x132, hx133, hm⟩ := ob hm
      replace hs := hs.front 1
      replace hs := hs.front 1
      refine zbb (Lr := [.blk cb1 (.cells #[baddr cb1 x112.2.addr, v116] 59 (0,0)), .row v116 5 1 rw117]) (Lf := .blk b69 (.cells #[.int .i64 (x57.Kind), .string (x57.Name), .string (x57.Text), v64, .int .i64 (x57.Parent), .int .i64 (x57.First), .int .i64 (x57.Last), .int .i64 (x57.Prev), .int .i64 (x57.Next)] 53 (0,0)) :: L) hs rfl has25 rfl rfl (slf_ok (f := f114) (cb0 := cb0) (ca0 := [v2]) (cb1 := cb1) (q1 := ({addr := x112.2.addr, buf := x112.2.buf} : Builder)) (cv1_0 := v116) (cv1_0r := rw117) (cb2 := cb2) ⟨_, rfl, ⟨rw3, hR4, hW5⟩⟩ hc0 hW118 hc2 hx133) (.free rfl) (by decide) ?_; clear hs; (try clear a w)
      rintro _ f134 _ a w hf135 ⟨v136, rw137, rfl, rfl, hW138⟩ hs
      replace hc0 := hf135 _ _ hc0
      replace cv1_0h := cv1_0h.le hf135
      replace hc2 := hf135 _ _ hc2
      replace hbase130 := hbase130.trans hf135
      refine za0 <| hK21 <| za2 <| s1 (v := pq b69 1) hs (za1 rfl (FO.of (off := 1) U53 rfl rfl ti9 (by decide))) fun hs => s1 (v := .string (x57.Name)) hs (y_ld rfl U9 rfl (Cell.blk (.tail _ (.tail _ (.head _))) rfl)) fun hs => ?_
      obtain ⟨x140, hx141, hm⟩ := ob hm
      obtain ⟨hbx140, hex140⟩ := zj1 hx141
      refine s1 hs (zlh rfl rfl hbx140 hex140) fun hs => ?_
      obtain ⟨x142, hx143, hm⟩ := ob hm
      obtain ⟨hbx142, hex142⟩ := zj1 hx143
      refine s1 hs (zlh rfl rfl hbx142 hex142) fun hs => ?_
      obtain ⟨x144, hx145, hm⟩ := ob hm
      replace hs := hs.front 1
      replace hs := hs.front 1
      refine zbb (Lr := [.blk cb1 (.cells #[baddr cb1 x132.addr, v136] 59 (0,0)), .row v136 5 1 rw137]) (Lf := .blk b69 (.cells #[.int .i64 (x57.Kind), .string (x57.Name), .string (x57.Text), v64, .int .i64 (x57.Parent), .int .i64 (x57.First), .int .i64 (x57.Last), .int .i64 (x57.Prev), .int .i64 (x57.Next)] 53 (0,0)) :: L) hs rfl has27 rfl rfl (zc6 n hW138 hx145) (.free rfl) (by decide) ?_; clear hs; (try clear a w)
      rintro _ f146 _ a w hf147 ⟨v148, rw149, rfl, rfl, hW150⟩ hs
      replace hc0 := hf147 _ _ hc0
      replace cv1_0h := cv1_0h.le hf147
      replace hc2 := hf147 _ _ hc2
      replace hbase130 := hbase130.trans hf147
      refine za0 ?_
      exact ⟨_, x144.2.addr, x144.2.buf, v148, rw149, hbase130, hm, hW150, hs.subs ⟨rfl, rfl, rfl, rfl, rfl, rfl, rfl, trivial⟩ (.cons_cons _ (.cons_cons _ (.cons _ (.refl _))))⟩
     replace hm := oc_f hg131 hm
     refine zaj ?_
     exact ⟨_, x112.2.addr, x112.2.buf, v116, rw117,(Fz.le.refl _), hm, hW118, hs.subs ⟨rfl, rfl, rfl, rfl, rfl, rfl, rfl, trivial⟩ (.cons_cons _ (.cons_cons _ (.cons _ (.refl _))))⟩
    refine zam fun Qe22 hB22 hO22 => ?_
    have hbase := Fz.le.refl f97
    refine zd1 (fun (k : Nat) a w => ∃ (f152 : Fz) (y154 : Bool) (y155 : (List Int)) (y160 : Int) (v156 : Value) (rw157 : List (List Value)), Fz.le f97 f152 ∧ zc4 n q0 slf y37 (zaw n p0 q0 slf x11 k38) x50 x57 k y154 y155 y160 = some res ∧ RW (tInt .u8) f152 rw157 y155 ∧ St 84 w0 f152 (.blk cb1 (.cells #[baddr cb1 y154, v156] 59 (0,0)) :: .row v156 5 1 rw157 :: .blk b69 (.cells #[.int .i64 (x57.Kind), .string (x57.Name), .string (x57.Text), v64, .int .i64 (x57.Parent), .int .i64 (x57.First), .int .i64 (x57.Last), .int .i64 (x57.Prev), .int .i64 (x57.Next)] 53 (0,0)) :: L) [(0, .int .i64 (p0)),(1, pq cb0 0),(2, pq cb1 0),(3, pq cb2 0),(6, .int .i64 (x50)),(7, pq b69 0),(12, v15),(13, .int .i64 ((x11.length : Int))),(14, .int .i64 (y37)),(53, v64),(54, .int .i64 ((x57.Attrs.length : Int))),(55, .int .i64 (y160))] a w) (fun k => k) n ⟨_, x95.2.addr, x95.2.buf,0, v99, rw100,(Fz.le.refl _), hm, hW101, hs.sub ⟨rfl, rfl, rfl, rfl, rfl, rfl, rfl, rfl, rfl, rfl, rfl, rfl, trivial⟩⟩ ?_
    clear hs hm
    intro k
    rintro a w ⟨f152, y154, y155, y160, v156, rw157, hl153, hm, hW158, hs⟩
    replace hR4 := hR4.le hl153
    replace hW5 := hW5.le hl153
    replace hc0 := hl153 _ _ hc0
    replace cv1_0h := cv1_0h.le hl153
    replace hc2 := hl153 _ _ hc2
    replace hR17 := hR17.le hl153
    replace hW18 := hW18.le hl153
    replace hW35 := hW35.le hl153
    replace hR66 := hR66.le hl153
    replace hW67 := hW67.le hl153
    replace hW101 := hW101.le hl153
    replace hbase111 := hbase111.trans hl153
    intro K23 hK23
    cases k with
    | zero => simp [zc4] at hm
    | succ k161 =>
     rw [zc4] at hm
     have hbase162 := hl153
     refine Wq fun hK24 => s1 hs (zgq rfl rfl) fun hs => za0 <| hK24 <| Ws fun hK25 => ?_
     refine zah hs rfl (fun hg163 => ?_) (fun hg163 => ?_)
     ·replace hm := oc_t hg163 hm
      refine zaj <| hK25 <| Ws fun hK26 => zam fun Qe27 hB27 hO27 => Ws fun hK28 => za2 ?_
      obtain ⟨x164, hx165, hm⟩ := ob hm
      obtain ⟨r166, hr167, hq168, hi169, hb170⟩ := hW67.geti hx165
      obtain rfl : _ = ([.string (x164.Name), .string (x164.Value)] : List Value) := hq168
      refine s1 hs (zac hR66 rfl rfl hi169 hb170 U43 ti42) fun hs => s1 hs (zdn hR66.up rfl hr167 U42 rfl ti42) fun hs => zbl hs ti42 (.free rfl) (by decide) fun b171 _ _ hs => zb5 (i := 0) hs rfl rfl rfl ti42 ⟨rfl, rfl⟩ (AllC.arr (r := [.string (x164.Name), .string (x164.Value)]) ⟨rfl, rfl, trivial⟩) (.free rfl) fun _ _ hs => za0 <| hK28 ?_
      have hsD := hs.subL (L' := .blk b171 (.cells #[.string (x164.Name), .string (x164.Value)] 42 (0,0)) :: []) (.cons_cons _ (.cons _ (.cons _ (.cons _ (List.nil_sublist _)))))
      have hbd173 := Fz.le.refl f152
      refine zj2 hs (.blk b171 (.cells #[.string (x164.Name), .string (x164.Value)] 42 (0,0)) :: []) [9] (.look 0 (.look 1 (.look 2 (.look 3 (.look 4 (.look 5 (.look 6 (.look 7 (.look 8 (.any [9] (fun _ => .done))))))))))) mixed (by kernel_rfl) fun _ he => uy (v := pq b171 0) 0 he rfl (za1 rfl (FO.of (off := 0) U42 rfl rfl ti9 (by decide))) fun _ he => uy (v := .string (x164.Name)) 1 he rfl (y_ld rfl U9 rfl (Cell.blk (.head _) rfl)) fun _ he => ?_
      obtain ⟨x174, hx175, hm⟩ := ob hm
      obtain ⟨hbx174, hex174⟩ := zj1 hx175
      refine uy 2 he rfl (zlh rfl rfl hbx174 hex174) fun _ he => ?_
      obtain ⟨x176, hx177, hm⟩ := ob hm
      obtain ⟨hbx176, hex176⟩ := zj1 hx177
      refine uy 3 he rfl (zlh rfl rfl hbx176 hex176) fun _ he => uy (v := pq b171 1) 4 he rfl (za1 rfl (FO.of (off := 1) U42 rfl rfl ti9 (by decide))) fun _ he => uy (v := .string (x164.Value)) 5 he rfl (y_ld rfl U9 rfl (Cell.blk (.head _) rfl)) fun _ he => ?_
      obtain ⟨x178, hx179, hm⟩ := ob hm
      refine ucall 6 he rfl rfl has8 rfl (fun f9 L9 w9 hfc _ hw9 => (zki n  hx179) w0 L9 w9 hw9) fun _ he => ?_
      obtain ⟨x180, hx181, hm⟩ := ob hm
      obtain ⟨hbx180, hex180⟩ := zj1 hx181
      refine uy 7 he rfl (zlh rfl rfl hbx180 hex180) fun _ he => ?_
      obtain ⟨x182, hx183, hm⟩ := ob hm
      obtain ⟨hbx182, hex182⟩ := zj1 hx183
      refine uy 8 he rfl (zlh rfl rfl hbx182 hex182) fun _ he => ?_
      refine zeh he rfl ?_; clear he; (try clear a); intro a w hs
      obtain ⟨x184, hx185, hm⟩ := ob hm
      replace hs := hs.front 2
      replace hs := hs.front 2
      refine zbb (Lr := [.blk cb1 (.cells #[baddr cb1 y154, v156] 59 (0,0)), .row v156 5 1 rw157]) (Lf := .blk b171 (.cells #[.string (x164.Name), .string (x164.Value)] 42 (0,0)) :: .blk b69 (.cells #[.int .i64 (x57.Kind), .string (x57.Name), .string (x57.Text), v64, .int .i64 (x57.Parent), .int .i64 (x57.First), .int .i64 (x57.Last), .int .i64 (x57.Prev), .int .i64 (x57.Next)] 53 (0,0)) :: L) hs rfl has27 rfl rfl (zc6 n hW158 hx185) (.free rfl) (by decide) ?_; clear hs; (try clear a w)
      rintro _ f186 _ a w hf187 ⟨v188, rw189, rfl, rfl, hW190⟩ hs
      have hR191 := hR4.le hf187
      have hW192 := hW5.le hf187
      have hc193 := hf187 _ _ hc0
      have cv194 := cv1_0h.le hf187
      have hc195 := hf187 _ _ hc2
      have hR196 := hR17.le hf187
      have hW197 := hW18.le hf187
      have hW198 := hW35.le hf187
      have hR199 := hR66.le hf187
      have hW200 := hW67.le hf187
      have hW201 := hW101.le hf187
      have hW202 := hW158.le hf187
      replace hbase162 := hbase162.trans hf187
      refine uend hs fun _ he => ?_
      refine zmg he ?_; clear he; (try clear a); intro w hs; try clear hsD
      refine hK26 <| za2 <| s1 hs (zdz rfl rfl rfl) fun hs => sM hs rfl fun hs => za0 ?_
      exact hK23 k161 _ _ (Nat.lt_succ_self _) ⟨_, x184.2.addr, x184.2.buf,(w64 (y160 + 1)), v188, rw189, hbase162, hm, hW190, hs.subs ⟨rfl, rfl, rfl, rfl, rfl, rfl, rfl, rfl, rfl, rfl, rfl, rfl, trivial⟩ (.cons_cons _ (.cons_cons _ (.cons _ (.cons_cons _ (.refl _)))))⟩
     replace hm := oc_f hg163 hm
     refine zc0 <| hB22 _ _ ?_
     exact ⟨_, y154, y155, v156, rw157, hbase111, hm, hW158, hs.sub ⟨rfl, rfl, rfl, rfl, rfl, rfl, rfl, rfl, rfl, trivial⟩⟩
   refine za2 <| s1 (v := pq b69 0) hs (za1 rfl (FO.of (off := 0) U53 rfl rfl ti3 (by decide))) fun hs => s1 (v := .int .i64 (x57.Kind)) hs (y_ld rfl U3 rfl (Cell.blk (.head _) rfl)) fun hs => s1 hs (zct rfl rfl) fun hs => sM hs rfl fun hs => ?_
   refine St.split hs (t := 27) rfl (fun hg204 hs => ?_) (fun hg204 hs => ?_)
   ·replace hm := oc_t hg204 hm
    refine zqp hs rfl rfl ?_
    refine zjv (parts := [(0, .const (.string (bs [115,116,121,108,101]))),(1, .const (.string (bs [115,99,114,105,112,116])))]) (us := [.string ((bs [115,116,121,108,101])), .string ((bs [115,99,114,105,112,116]))]) (rows := [[.string ((bs [115,116,121,108,101]))],[.string ((bs [115,99,114,105,112,116]))]]) hs rfl U47 ti9 (by decide) rfl rfl (by intro r hr; simp only [List.mem_cons, List.mem_nil_iff, or_false] at hr; rcases hr with rfl | rfl; exact AllC.row ⟨rfl, trivial⟩ rfl; exact AllC.row ⟨rfl, trivial⟩ rfl) fun v205 _ _ hs => ?_
    have hW206 : RW tStr f29 [[.string ((bs [115,116,121,108,101]))],[.string ((bs [115,99,114,105,112,116]))]] [(bs [115,116,121,108,101]),(bs [115,99,114,105,112,116])] := ⟨rfl, ⟨rfl, trivial⟩⟩
    generalize hgrw207 : ([[.string ((bs [115,116,121,108,101]))],[.string ((bs [115,99,114,105,112,116]))]] : List (List Value)) = rw207 at hs hW206; clear hgrw207
    refine s2 (v := pq cb0 0) hs (za1 rfl (FO.of (off := 0) U30 rfl rfl ti28 (by decide))) fun hs => s2 (v := v2) hs (y_ld rfl U28 rfl (Cell.fz hc0 rfl)) fun hs => s2 (v := .int .i64 (p0)) hs (za3 rfl) fun hs => ?_
    obtain ⟨x210, hx211, hm⟩ := ob hm
    obtain ⟨r212, hr213, hq214, hi215, hb216⟩ := hW5.geti hx211
    obtain ⟨v217, rfl, ⟨rw218, hR219, hW220⟩⟩ := hq214
    refine s2 hs (zac hR4 rfl rfl hi215 hb216 U28 ti53) fun hs => s2 (v := eaddr v2 9 p0.toNat 1) hs (zck (i := p0.toNat) (j := 0) hR4 rfl hb216 (FO.of (off := 1) U53 rfl rfl ti9 (by decide))) fun hs => s2 (v := .string (x210.Name)) hs (zbm (i := p0.toNat) (j := 1) hR4.up rfl hr213 rfl U9 rfl) fun hs => ?_
    obtain ⟨x222, hx223, hm⟩ := ob hm
    refine syg hs (zdr (cap := []) rfl has19 rfl (fun w9 hw9 => callsP (Lr := [.row v205 9 1 rw207]) (Lf := .blk b69 (.cells #[.int .i64 (x57.Kind), .string (x57.Name), .string (x57.Text), v64, .int .i64 (x57.Parent), .int .i64 (x57.First), .int .i64 (x57.Last), .int .i64 (x57.Prev), .int .i64 (x57.Next)] 53 (0,0)) :: .blk cb1 (.cells #[baddr cb1 y31, v33] 59 (0,0)) :: .row v33 5 1 rw34 :: L) (zal _ 0 rfl) hw9 (fun Lz w9 hw9 => lent0 hw9 (fun f9_0 w9 hle9_0 hRl0 hw9 => (zbs n ⟨rw207, hRl0, hW206.le hle9_0⟩ hx223) w0 _ w9 hw9)))) fun _ _ hs => sP hs rfl rfl fun hs => sA hs rfl fun hs => za0 ?_
    exact ⟨x222, hm, hs.subs ⟨rfl, rfl, rfl, rfl, rfl, rfl, rfl, rfl, rfl, rfl, trivial⟩ (.cons _ (.cons_cons _ (.cons_cons _ (.cons_cons _ (.refl _)))))⟩
   replace hm := oc_f hg204 hm
   refine s3 hs fun hs => s3 hs fun hs => s3 hs fun hs => s3 hs fun hs => s3 hs fun hs => s3 hs fun hs => s3 hs fun hs => s3 hs fun hs => sP hs rfl rfl fun hs => sA hs rfl fun hs => ?_
   refine za0 ?_
   exact ⟨false, hm, hs.sub ⟨rfl, rfl, rfl, rfl, rfl, rfl, rfl, rfl, rfl, rfl, trivial⟩⟩
  replace hm := oc_f hg40 hm
  refine zc0 <| hB2 _ _ ?_
  exact ⟨_, y31, y32, v33, rw34, hbase28, hm, hW35, hs.sub trivial⟩
theorem zjh : ∀ (n : Nat) {f : Fz} {p0 : Int} {cb0 : Nat} {q0 : zaa} {ca0 : List Value} {cb1 : Nat} {q1 : Builder} {cv1_0 : Value} {cv1_0r : List (List Value)} {cb2 : Nat} {res : Builder} (_hq0 : zcz.R f ca0 q0) (_hc0 : f cb0 = some (.cells ca0.toArray 30 (0,0))) (_cv1_0h : RW (tInt .u8) f cv1_0r q1.buf) (_hc2 : f cb2 = some (.cells #[.func (.func 25) #[] #[pq cb0 0, pq cb1 0, pq cb2 0]] 60 (0,0))) (_ : zbk n p0 q0 q1 = some res), Does Tryz.prog 25 [.int .i64 p0, pq cb0 0, pq cb1 0, pq cb2 0] f [.blk cb1 (.cells #[baddr cb1 q1.addr, cv1_0] 59 (0,0)), .row cv1_0 5 1 cv1_0r] (fun r f' L' => ∃ (dv1_0 : Value) (dv1_0r : List (List Value)), L' = [.blk cb1 (.cells #[baddr cb1 res.addr, dv1_0] 59 (0,0)), .row dv1_0 5 1 dv1_0r] ∧ r = .tuple #[] ∧ RW (tInt .u8) f' dv1_0r res.buf)
  | 0, f, p0, cb0, q0, ca0, cb1, q1, cv1_0, cv1_0r, cb2, res, hq0, hc0, cv1_0h, hc2, hm => by simp [zbk] at hm
  | n + 1, f, p0, cb0, q0, ca0, cb1, q1, cv1_0, cv1_0r, cb2, res, hq0, hc0, cv1_0h, hc2, hm => zlw n (zjh n) hq0 hc0 cv1_0h hc2 hm
def zh8 (n : Nat) (p0 : zaa) : Option ByteArray :=
  (zib n p0).bind fun x8 =>
  (bif (decide (x8 ≠ 0)) then some (bs []) else
  (zbk n 0 p0 ({addr := false, buf := ([] : List Int)} : Builder)).bind fun x26 =>
  some (bytesOf x26.buf))
theorem zkh (n : Nat) {f : Fz} {p0 : zaa} {a0 : List Value} {res : ByteArray} (h0 : zcz.R f a0 p0) (hm : zh8 n p0 = some res) : Gives Tryz.prog 11 [.agg a0.toArray] f (.string res) := by
 unfold zh8 at hm
 intro w0 L w hC
 obtain ⟨v1, rfl, ⟨rw2, hR3, hW4⟩⟩ := h0
 refine enter Tryz.func11 rfl Tryz.ntmps11 (by simp) hC fun a hs => ?_
 have hle := Fz.le.refl f
 refine Wq fun hK1 => sbox hs rfl fun b6 _ _ hs => sA hs rfl fun hs => za0 <| hK1 <| Ws fun hK2 => Wq fun hK3 => s1 hs (zj3 rfl U30 rfl ti30 (.head _) rfl) fun hs => ?_
 obtain ⟨x8, hx9, hm⟩ := ob hm
 refine s1 hs (zbi rfl has18 rfl (zkt n ⟨_, rfl, ⟨rw2, hR3, hW4⟩⟩ hx9)) fun hs => s1 hs (zeo rfl rfl) fun hs => za0 <| hK3 ?_
 refine zah hs rfl (fun hg10 => ?_) (fun hg10 => ?_)
 ·replace hm := oc_t hg10 hm
  refine Wq fun hK4 => sA hs rfl fun hs => za0 <| hK4 <| zax ?_
  obtain rfl := Option.some.inj hm
  refine RtV1 hs rfl (rv_t hs rfl) ?_
  exact ⟨rfl,((hs.subL (.cons _ (.refl _))).weak hle).cw⟩
 replace hm := oc_f hg10 hm
 refine zaj <| hK2 <| Wq fun hK5 => zbl hs ti59 (.free rfl) (by decide) fun b11 _ _ hs => ?_
 replace hs := hs.nilRow 5 1
 have hW14 : RW (tInt .u8) f [] ([] : List Int) := trivial
 generalize hgrw15 : ([] : List (List Value)) = rw15 at hs hW14; clear hgrw15
 refine za0 <| hK5 <| Wq fun hK6 => zbl hs ti60 (.free rfl) (by decide) fun b18 _ _ hs => za0 <| hK6 <| Ws fun hK7 => za2 ?_
 obtain ⟨f20, hf21, hs2, hB22⟩ := hs.frzB 3 rfl
 clear hs; have hs := hs2; clear hs2
 replace hR3 := hR3.le hf21
 replace hW4 := hW4.le hf21
 replace hW14 := hW14.le hf21
 replace hle := hle.trans hf21
 replace hs : St _ _ _ (.blk b18 (.cells #[.nilFunc] 60 (0,0)) :: .row (.slice none 0 0) 5 1 rw15 :: .blk b11 (.cells #[baddr b11 false,(.slice none 0 0)] 59 (0,0)) :: L) _ _ _ := hs
 refine s1 hs (zmj rfl) fun hs => sstore 0 hs rfl rfl rfl ti60 rfl fun _ _ hs => za0 <| hK7 <| Wq fun hK8 => s1 (v := .func (.func 25) #[] #[pq b6 0, pq b11 0, pq b18 0]) hs (y_ld rfl Tryz.underlying60 rfl (Cell.blk (.head _) rfl)) fun hs => ?_
 obtain ⟨f23, hf24, hs2, hB25⟩ := hs.frzB 0 rfl
 clear hs; have hs := hs2; clear hs2
 replace hR3 := hR3.le hf24
 replace hW4 := hW4.le hf24
 replace hW14 := hW14.le hf24
 replace hB22 := hf24 _ _ hB22
 replace hle := hle.trans hf24
 obtain ⟨x26, hx27, hm⟩ := ob hm
 replace hs := hs.front 0
 replace hs := hs.front 1
 refine zbb (Lr := [.blk b11 (.cells #[baddr b11 false,(.slice none 0 0)] 59 (0,0)), .row (.slice none 0 0) 5 1 rw15]) (Lf := L) hs rfl has25 rfl rfl (zjh n ⟨_, rfl, ⟨rw2, hR3, hW4⟩⟩ hB22 hW14 hB25 hx27) (.free rfl) (by decide) ?_; clear hs; (try clear a w)
 rintro _ f28 _ a w hf29 ⟨v30, rw31, rfl, rfl, hW32⟩ hs
 replace hB22 := hf29 _ _ hB22
 replace hB25 := hf29 _ _ hB25
 replace hle := hle.trans hf29
 refine za0 <| hK8 <| Ws fun hK9 => za2 ?_
 replace hs := hs.front 1
 replace hs := hs.front 1
 refine zbb (Lr := [.blk b11 (.cells #[baddr b11 x26.addr, v30] 59 (0,0)), .row v30 5 1 rw31]) (Lf := L) hs rfl has28 rfl rfl (zjt n hW32) (.free rfl) (by decide) ?_; clear hs; (try clear a w)
 rintro _ f34 _ a w hf35 ⟨rfl, rfl⟩ hs
 replace hB22 := hf35 _ _ hB22
 replace hB25 := hf35 _ _ hB25
 replace hle := hle.trans hf35
 refine sA hs rfl fun hs => za0 <| hK9 <| zax ?_
 obtain rfl := Option.some.inj hm
 refine RtV1 hs rfl (rv_t hs rfl) ?_
 exact ⟨rfl,(hs.weak hle).cw⟩
end Go.Proofs.YtpfdbeafdjnbnaaGreatDoor
