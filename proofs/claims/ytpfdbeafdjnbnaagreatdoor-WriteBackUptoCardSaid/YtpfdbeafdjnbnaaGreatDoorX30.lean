/-
  Walks and laws of this seat.
-/
import Derived.Test.YtpfdbeafdjnbnaaGreatDoorBash
import Derived.Test.YtpfdbeafdjnbnaaGreatDoorX0
import Derived.Test.YtpfdbeafdjnbnaaGreatDoorRows
import Derived.Test.YtpfdbeafdjnbnaaGreatDoorX21
namespace Go.Proofs.YtpfdbeafdjnbnaaGreatDoor
set_option linter.unusedVariables false
set_option linter.unusedSimpArgs false
set_option linter.unusedSectionVars false
section
set_option maxHeartbeats 4000000
set_option maxRecDepth 100000
open Go.RowKit Go.Sl
def zh0 (y12 : (List Int)) : Option ((List Int) × Int) :=
  some (y12,0)
def zfr (p0 : (List Int)) (y27 : Nat) (lp32 : (List Int) → Int → Nat → Option ((List Int) × Int)) (y34 : (List Int)) : Option ((List Int) × Int) :=
  lp32 y34 ((Utf8.decode (bytesOf p0) y27).1 : Int) (y27 + (Utf8.decode (bytesOf p0) y27).2)
def zfq (p0 : (List Int)) (y27 : Nat) (lp32 : (List Int) → Int → Nat → Option ((List Int) × Int)) (y40 : (List Int)) : Option ((List Int) × Int) :=
  zfr p0 y27 lp32 y40
def zfp (p0 : (List Int)) (y27 : Nat) (lp32 : (List Int) → Int → Nat → Option ((List Int) × Int)) (y57 : (List Int)) : Option ((List Int) × Int) :=
  zfq p0 y27 lp32 y57
def zba (p0 : (List Int)) : Nat → (List Int) → Int → Nat → Option ((List Int) × Int)
  | 0, _, _, _ => none
  | k32 + 1, y21, y26, y27 =>
  (bif decide (y27 < (bytesOf p0).size) then (bif ((decide (((Utf8.decode (bytesOf p0) y27).1 : Int) = 10)) && (decide (y26 = 13))) then zfr p0 y27 (zba p0 k32) y21 else
  (bif (decide (((Utf8.decode (bytesOf p0) y27).1 : Int) = 13)) then (appM 4 y21 [10]).bind fun x51 =>
  zfq p0 y27 (zba p0 k32) x51 else
  (bif (decide (((Utf8.decode (bytesOf p0) y27).1 : Int) = 0)) then (appM 4 y21 [65533]).bind fun x68 =>
  zfp p0 y27 (zba p0 k32) x68 else
  (appM 4 y21 [((Utf8.decode (bytesOf p0) y27).1 : Int)]).bind fun x79 =>
  zfp p0 y27 (zba p0 k32) x79))) else
  zh0 y21)
def zfj (n : Nat) (p0 : (List Int)) : Option ((List Int) × Int) :=
  (bif (decide (65536 < (p0.length : Int))) then some (([] : List Int),3) else
  zba p0 n ([] : List Int) 0 (0 : Nat))
theorem zn3 (n : Nat) {f : Fz} {p0 : (List Int)} {a0 : Value} {res : ((List Int) × Int)} (h0 : RS (tInt .u8) f a0 p0) (hm : zfj n p0 = some res) : Does Tryz.prog 12 [a0] f [] (fun r f' L' => ∃ (u0 : Value), L' = [] ∧ r = .tuple #[u0, .int .i64 res.2] ∧ RS (tInt .i32) f' u0 res.1) := by
 unfold zfj at hm
 intro w0 L w hC
 obtain ⟨rw1, hR2, hW3⟩ := h0
 refine enter Tryz.func12 rfl Tryz.ntmps12 (by simp) hC fun a hs => ?_
 have hle := Fz.le.refl f
 refine Wq fun hK1 => sA hs rfl fun hs => sA hs rfl fun hs => za0 <| hK1 <| Ws fun hK2 => Wq fun hK3 => sM hs rfl fun hs => ?_
 refine s1 hs (zc3 hR2 hW3 rfl U36) fun hs => s1 hs (zhq rfl rfl) fun hs => za0 <| hK3 ?_
 refine zah hs rfl (fun hg6 => ?_) (fun hg6 => ?_)
 ·replace hm := oc_t hg6 hm
  refine Wq fun hK4 => sA hs rfl fun hs => sA hs rfl fun hs => za0 <| hK4 <| zax ?_
  obtain rfl := Option.some.inj hm
  refine RtV2 hs rfl (rv_t hs rfl) (rv_t hs rfl) ?_
  exact ⟨_, f,[], rfl, hle, hs.cw,(.slice none 0 0), rfl, rfl, RS.nil⟩
 replace hm := oc_f hg6 hm
 refine zaj <| hK2 <| Wq fun hK5 => sA hs rfl fun hs => za0 <| hK5 <| Wq fun hK6 => sA hs rfl fun hs => ?_
 refine za0 <| hK6 <| Ws fun hK7 => Wq fun hK8 => sM hs rfl fun hs => s1 (v := .string ((bytesOf p0))) hs (y_b2sW rfl U36 U5 U9 hR2.up hW3) fun hs => zql hs rfl U9 fun b9 _ _ hs => za0 <| hK8 ?_
 refine zaq (fun a w => ∃ (y12 : (List Int)) (v13 : Value) (rw14 : List (List Value)), zh0 y12 = some res ∧ RW (tInt .i32) f rw14 y12 ∧ St 42 w0 f (.row v13 21 1 rw14 :: L) [(4, v13)] a w) ?_ ?_
 ·clear hs hm
  rintro a w ⟨y12, v13, rw14, hm, hW15, hs⟩
  unfold zh0 at hm
  refine hK7 <| Wq fun hK9 => sM hs rfl fun hs => sA hs rfl fun hs => sA hs rfl fun hs => za0 <| hK9 <| zax ?_
  obtain ⟨f17, hf18, hs2, hR19⟩ := hs.frzAt 0 rfl
  clear hs; have hs := hs2; clear hs2
  replace hW15 := hW15.le hf18
  replace hle := hle.trans hf18
  obtain rfl := Option.some.inj hm
  refine RtV2 hs rfl (rv_t hs rfl) (rv_t hs rfl) ?_
  exact ⟨_, f17,[], rfl, hle, hs.cw, v13, rfl, rfl, ⟨rw14, hR19, hW15⟩⟩
 refine zam fun Qe10 hB10 hO10 => ?_
 replace hs := hs.nilRow 21 1
 have hW28 : RW (tInt .i32) f [] ([] : List Int) := trivial
 generalize hgrw29 : ([] : List (List Value)) = rw29 at hs hW28; clear hgrw29
 refine zd1 (fun (k : Nat) a w => ∃ (y21 : (List Int)) (y26 : Int) (y27 : Nat) (v22 : Value) (rw23 : List (List Value)), zba p0 k y21 y26 y27 = some res ∧ RW (tInt .i32) f rw23 y21 ∧ St 42 w0 f (.row v22 21 1 rw23 :: .blk b9 (.stringIter (bytesOf p0) y27) :: L) [(4, v22),(5, .int .i32 (y26)),(13, pq b9 0)] a w) (fun k => k) n ⟨([] : List Int),0,(0 : Nat),(.slice none 0 0), rw29, hm, hW28, hs.sub ⟨rfl, rfl, rfl, trivial⟩⟩ ?_
 clear hs hm
 intro k
 rintro a w ⟨y21, y26, y27, v22, rw23, hm, hW24, hs⟩
 intro K11 hK11
 cases k with
 | zero => simp [zba] at hm
 | succ k32 =>
  rw [zba] at hm
  refine Ws fun hK12 => za2 ?_
  refine zsm (i := 1) hs rfl rfl (fun hg33 => ?_) (fun hg33 => ?_)
  ·replace hm := oc_t (decide_eq_true hg33) hm; clear hs; (try clear a w); intro a w hs
   refine s1 (v := .bool (true)) hs (zap rfl rfl) fun hs => za0 <| hK12 <| Ws fun hK13 => zdq hs rfl <| zaj <| hK13 <| zam fun Qe14 hB14 hO14 => Ws fun hK15 => za2 ?_
   refine s1 (v := .int .i32 (((Utf8.decode (bytesOf p0) y27).1 : Int))) hs (zap rfl rfl) fun hs => sA hs rfl fun hs => za0 <| hK15 <| Ws fun hK16 => zam fun Qe17 hB17 hO17 => Ws fun hK18 => ?_
   refine zaq (fun a w => St 42 w0 f (.row v22 21 1 rw23 :: .blk b9 (.stringIter (bytesOf p0) (y27 + (Utf8.decode (bytesOf p0) y27).2)) :: L) [(4, v22),(7, .int .i32 (((Utf8.decode (bytesOf p0) y27).1 : Int))),(13, pq b9 0),(21, .bool (((decide (((Utf8.decode (bytesOf p0) y27).1 : Int) = 10)) && (decide (y26 = 13)))))] a w) ?_ ?_
   ·clear hs; intro a w hs
    refine hK18 ?_
    refine zaq (fun a w => ∃ (y34 : (List Int)) (v35 : Value) (rw36 : List (List Value)), zfr p0 y27 (zba p0 k32) y34 = some res ∧ RW (tInt .i32) f rw36 y34 ∧ St 42 w0 f (.row v35 21 1 rw36 :: .blk b9 (.stringIter (bytesOf p0) (y27 + (Utf8.decode (bytesOf p0) y27).2)) :: L) [(4, v35),(7, .int .i32 (((Utf8.decode (bytesOf p0) y27).1 : Int))),(13, pq b9 0)] a w) ?_ ?_
    ·clear hs hm
     rintro a w ⟨y34, v35, rw36, hm, hW37, hs⟩
     unfold zfr at hm
     refine hK16 <| za2 <| sM hs rfl fun hs => sA hs rfl fun hs => za0 ?_
     exact hK11 k32 _ _ (Nat.lt_succ_self _) ⟨y34,((Utf8.decode (bytesOf p0) y27).1 : Int),(y27 + (Utf8.decode (bytesOf p0) y27).2), v35, rw36, hm, hW37, hs.sub ⟨rfl, rfl, rfl, trivial⟩⟩
    refine zah hs rfl (fun hg39 => ?_) (fun hg39 => ?_)
    ·replace hm := oc_t hg39 hm
     refine zaj ?_
     exact ⟨y21, v22, rw23, hm, hW24, hs.sub ⟨rfl, rfl, rfl, trivial⟩⟩
    replace hm := oc_f hg39 hm
    refine Wq fun hK19 => sM hs rfl fun hs => s1 hs (zct rfl rfl) fun hs => sA hs rfl fun hs => za0 <| hK19 ?_
    refine zaq (fun a w => ∃ (y40 : (List Int)) (v41 : Value) (rw42 : List (List Value)), zfq p0 y27 (zba p0 k32) y40 = some res ∧ RW (tInt .i32) f rw42 y40 ∧ St 42 w0 f (.row v41 21 1 rw42 :: .blk b9 (.stringIter (bytesOf p0) (y27 + (Utf8.decode (bytesOf p0) y27).2)) :: L) [(4, v41),(7, .int .i32 (((Utf8.decode (bytesOf p0) y27).1 : Int))),(13, pq b9 0)] a w) ?_ ?_
    ·clear hs hm
     rintro a w ⟨y40, v41, rw42, hm, hW43, hs⟩
     unfold zfq at hm
     exact ⟨y40, v41, rw42, hm, hW43, hs.sub ⟨rfl, rfl, rfl, trivial⟩⟩
    refine zah hs rfl (fun hg45 => ?_) (fun hg45 => ?_)
    ·replace hm := oc_t hg45 hm
     refine za2 <| sM hs rfl fun hs => zg1 hs rfl U24 ti21 rfl rfl fun v46 _ _ hs => ?_
     have hW47 : RW (tInt .i32) f [[.int .i32 (10)]] [10] := RW.single (rfl)
     generalize hgrw48 : ([[.int .i32 (10)]] : List (List Value)) = rw48 at hs hW47; clear hgrw48
     obtain ⟨x51, hx52, hm⟩ := ob hm
     obtain ⟨hbx51, hex51⟩ := zcb hx52
     have hW55 := hW24.append hW47; rw [hex51] at hW55
     refine zc9 (i := 1) hs rfl rfl rfl (Rd.st hs (.head _)) U24 ti21 (by decide) (by rw [RW.len hW24, RW.len hW47]; exact hbx51) (.free rfl) (by decide) fun v53 _ _ hs => ?_
     generalize hgx51 : rw23 ++ rw48 = rw54 at hs hW55; clear hgx51
     replace hs := hs.erase 0
     refine sA hs rfl fun hs => za0 ?_
     exact ⟨x51, v53, rw54, hm, hW55, hs.sub ⟨rfl, rfl, rfl, trivial⟩⟩
    replace hm := oc_f hg45 hm
    refine Wq fun hK20 => sM hs rfl fun hs => s1 hs (zct rfl rfl) fun hs => sA hs rfl fun hs => za0 <| hK20 ?_
    refine zaq (fun a w => ∃ (y57 : (List Int)) (v58 : Value) (rw59 : List (List Value)), zfp p0 y27 (zba p0 k32) y57 = some res ∧ RW (tInt .i32) f rw59 y57 ∧ St 42 w0 f (.row v58 21 1 rw59 :: .blk b9 (.stringIter (bytesOf p0) (y27 + (Utf8.decode (bytesOf p0) y27).2)) :: L) [(4, v58),(7, .int .i32 (((Utf8.decode (bytesOf p0) y27).1 : Int))),(13, pq b9 0)] a w) ?_ ?_
    ·clear hs hm
     rintro a w ⟨y57, v58, rw59, hm, hW60, hs⟩
     unfold zfp at hm
     exact ⟨y57, v58, rw59, hm, hW60, hs.sub ⟨rfl, rfl, rfl, trivial⟩⟩
    refine zah hs rfl (fun hg62 => ?_) (fun hg62 => ?_)
    ·replace hm := oc_t hg62 hm
     refine za2 <| sM hs rfl fun hs => zg1 hs rfl U24 ti21 rfl rfl fun v63 _ _ hs => ?_
     have hW64 : RW (tInt .i32) f [[.int .i32 (65533)]] [65533] := RW.single (rfl)
     generalize hgrw65 : ([[.int .i32 (65533)]] : List (List Value)) = rw65 at hs hW64; clear hgrw65
     obtain ⟨x68, hx69, hm⟩ := ob hm
     obtain ⟨hbx68, hex68⟩ := zcb hx69
     have hW72 := hW24.append hW64; rw [hex68] at hW72
     refine zc9 (i := 1) hs rfl rfl rfl (Rd.st hs (.head _)) U24 ti21 (by decide) (by rw [RW.len hW24, RW.len hW64]; exact hbx68) (.free rfl) (by decide) fun v70 _ _ hs => ?_
     generalize hgx68 : rw23 ++ rw65 = rw71 at hs hW72; clear hgx68
     replace hs := hs.erase 0
     refine sA hs rfl fun hs => za0 ?_
     exact ⟨x68, v70, rw71, hm, hW72, hs.sub ⟨rfl, rfl, rfl, trivial⟩⟩
    replace hm := oc_f hg62 hm
    refine za2 <| sM hs rfl fun hs => sM hs rfl fun hs => zg1 hs rfl U24 ti21 rfl rfl fun v74 _ _ hs => ?_
    have hW75 : RW (tInt .i32) f [[.int .i32 (((Utf8.decode (bytesOf p0) y27).1 : Int))]] [((Utf8.decode (bytesOf p0) y27).1 : Int)] := RW.single (rfl)
    generalize hgrw76 : ([[.int .i32 (((Utf8.decode (bytesOf p0) y27).1 : Int))]] : List (List Value)) = rw76 at hs hW75; clear hgrw76
    obtain ⟨x79, hx80, hm⟩ := ob hm
    obtain ⟨hbx79, hex79⟩ := zcb hx80
    have hW83 := hW24.append hW75; rw [hex79] at hW83
    refine zc9 (i := 1) hs rfl rfl rfl (Rd.st hs (.head _)) U24 ti21 (by decide) (by rw [RW.len hW24, RW.len hW75]; exact hbx79) (.free rfl) (by decide) fun v81 _ _ hs => ?_
    generalize hgx79 : rw23 ++ rw76 = rw82 at hs hW83; clear hgx79
    replace hs := hs.erase 0
    refine sA hs rfl fun hs => za0 ?_
    exact ⟨x79, v81, rw82, hm, hW83, hs.sub ⟨rfl, rfl, rfl, trivial⟩⟩
   refine za2 <| sM hs rfl fun hs => s1 hs (zct rfl rfl) fun hs => sM hs rfl fun hs => ?_
   refine St.split hs (t := 24) rfl (fun hg85 hs => ?_) (fun hg85 hs => ?_)
   ·refine s2 (v := .int .i32 (y26)) hs (za3 rfl) fun hs => s2 hs (zct rfl rfl) fun hs => sP hs rfl rfl fun hs => sA hs rfl fun hs => za0 ?_
    exact hs.sub ⟨rfl, rfl, rfl,(lkB (((zj0 hg85).trans rfl)) rfl), trivial⟩
   refine s3 hs fun hs => s3 hs fun hs => sP hs rfl rfl fun hs => sA hs rfl fun hs => za0 ?_
   exact hs.sub ⟨rfl, rfl, rfl,(lkB (((zmd hg85).trans rfl)) rfl), trivial⟩
  replace hm := oc_f (decide_eq_false (Nat.not_lt.2 hg33)) hm; clear hs; (try clear a w); intro a w hs
  refine s1 (v := .bool (false)) hs (zap rfl rfl) fun hs => za0 <| hK12 <| Ws fun hK21 => zdj hs rfl <| zc0 <| hB10 _ _ ?_
  exact ⟨y21, v22, rw23, hm, hW24, hs.subs ⟨rfl, trivial⟩ (.cons_cons _ (.cons _ (.refl _)))⟩
def zgg : Option Bool :=
  some true
def zbo (p0 : (List zab)) (p1 : (List zab)) : Nat → Int → Option Bool
  | 0, _ => none
  | k11 + 1, y10 =>
  (bif (decide (y10 < (p0.length : Int))) then (geti p0 y10).bind fun x13 =>
  (geti p1 y10).bind fun x20 =>
  (bif (!(decide (x13.Name = x20.Name) && (decide (x13.Value = x20.Value) && true))) then some false else
  (zbo p0 p1 k11) (w64 (y10 + 1))) else
  zgg)
def zg6 (n : Nat) (p0 : (List zab)) (p1 : (List zab)) : Option Bool :=
  (bif (decide ((p0.length : Int) ≠ (p1.length : Int))) then some false else
  zbo p0 p1 n 0)
theorem zkv (n : Nat) {f : Fz} {p0 : (List zab)} {a0 : Value} {p1 : (List zab)} {a1 : Value} {res : Bool} (h0 : RS zbv f a0 p0) (h1 : RS zbv f a1 p1) (hm : zg6 n p0 p1 = some res) : Gives Tryz.prog 59 [a0, a1] f (.bool res) := by
 unfold zg6 at hm
 intro w0 L w hC
 obtain ⟨rw1, hR2, hW3⟩ := h0
 obtain ⟨rw5, hR6, hW7⟩ := h1
 refine enter Tryz.func59 rfl Tryz.ntmps59 (by simp) hC fun a hs => ?_
 have hle := Fz.le.refl f
 refine Wq fun hK1 => sA hs rfl fun hs => za0 <| hK1 <| Ws fun hK2 => Wq fun hK3 => sM hs rfl fun hs => s1 hs (zc3 hR2 hW3 rfl U43) fun hs => ?_
 refine sM hs rfl fun hs => s1 hs (zc3 hR6 hW7 rfl U43) fun hs => s1 hs (zeo rfl rfl) fun hs => za0 <| hK3 ?_
 refine zah hs rfl (fun hg9 => ?_) (fun hg9 => ?_)
 ·replace hm := oc_t hg9 hm
  refine Wq fun hK4 => sA hs rfl fun hs => za0 <| hK4 <| zax ?_
  obtain rfl := Option.some.inj hm
  refine RtV1 hs rfl (rv_t hs rfl) ?_
  exact ⟨rfl,(hs.weak hle).cw⟩
 replace hm := oc_f hg9 hm
 refine zaj <| hK2 <| Ws fun hK5 => Wq fun hK6 => sA hs rfl fun hs => za0 <| hK6 ?_
 refine zaq (fun a w => zgg = some res ∧ St 26 w0 f (L) [] a w) ?_ ?_
 ·clear hs hm
  rintro a w ⟨hm, hs⟩
  unfold zgg at hm
  refine hK5 <| Wq fun hK7 => sA hs rfl fun hs => za0 <| hK7 <| zax ?_
  obtain rfl := Option.some.inj hm
  refine RtV1 hs rfl (rv_t hs rfl) ?_
  exact ⟨rfl,(hs.weak hle).cw⟩
 refine zam fun Qe8 hB8 hO8 => zd1 (fun (k : Nat) a w => ∃ (y10 : Int), zbo p0 p1 k y10 = some res ∧ St 26 w0 f (L) [(0, a0),(1, a1),(5, .int .i64 (y10))] a w) (fun k => k) n ⟨0, hm, hs.sub ⟨rfl, rfl, rfl, trivial⟩⟩ ?_
 clear hs hm
 intro k
 rintro a w ⟨y10, hm, hs⟩
 intro K9 hK9
 cases k with
 | zero => simp [zbo] at hm
 | succ k11 =>
  rw [zbo] at hm
  refine Ws fun hK10 => Wq fun hK11 => sM hs rfl fun hs => sM hs rfl fun hs => s1 hs (zc3 hR2 hW3 rfl U43) fun hs => s1 hs (zgq rfl rfl) fun hs => za0 <| hK11 ?_
  refine zah hs rfl (fun hg12 => ?_) (fun hg12 => ?_)
  ·replace hm := oc_t hg12 hm
   refine zaj <| hK10 <| Ws fun hK12 => zam fun Qe13 hB13 hO13 => Ws fun hK14 => ?_
   refine zju hs mixed (by kernel_rfl) ?_; intro a he
   refine qy (v := a0) he (za3 rfl) fun _ he => qy (v := .int .i64 (y10)) he (za3 rfl) fun _ he => ?_
   obtain ⟨x13, hx14, hm⟩ := ob hm
   obtain ⟨r15, hr16, hq17, hi18, hb19⟩ := hW3.geti hx14
   obtain rfl : _ = ([.string (x13.Name), .string (x13.Value)] : List Value) := hq17
   refine qy he (zac hR2 rfl rfl hi18 hb19 U43 ti42) fun _ he => qy he (zdn hR2.up rfl hr16 U42 rfl ti42) fun _ he => qy (v := a1) he (za3 rfl) fun _ he => qy (v := .int .i64 (y10)) he (za3 rfl) fun _ he => ?_
   obtain ⟨x20, hx21, hm⟩ := ob hm
   obtain ⟨r22, hr23, hq24, hi25, hb26⟩ := hW7.geti hx21
   obtain rfl : _ = ([.string (x20.Name), .string (x20.Value)] : List Value) := hq24
   refine qy he (zac hR6 rfl rfl hi25 hb26 U43 ti42) fun _ he => qy he (zdn hR6.up rfl hr23 U42 rfl ti42) fun _ he => qy he (y_stneq rfl rfl U42 (by kernel_rfl) (by kernel_rfl) (fun w => (zve rfl U9 rfl rfl (zve rfl U9 rfl rfl eqF_nil)))) fun _ he => ?_
   refine zfw he ?_; clear he; (try clear hs); (try clear a); intro a w hs
   refine hK14 ?_
   refine zah hs rfl (fun hg27 => ?_) (fun hg27 => ?_)
   ·replace hm := oc_t hg27 hm
    refine Wq fun hK15 => sA hs rfl fun hs => za0 <| hK15 <| zax ?_
    obtain rfl := Option.some.inj hm
    refine RtV1 hs rfl (rv_t hs rfl) ?_
    exact ⟨rfl,(hs.weak hle).cw⟩
   replace hm := oc_f hg27 hm
   refine zaj <| hK12 <| za2 <| sM hs rfl fun hs => s1 hs (zdz rfl rfl rfl) fun hs => sA hs rfl fun hs => za0 ?_
   exact hK9 k11 _ _ (Nat.lt_succ_self _) ⟨(w64 (y10 + 1)), hm, hs.sub ⟨rfl, rfl, rfl, trivial⟩⟩
  replace hm := oc_f hg12 hm
  refine zc0 <| hB8 _ _ ?_
  exact ⟨hm, hs.sub trivial⟩
def zbu (y15 : Bool) : Option Bool :=
  some y15
def zhj (n : Nat) (p0 : zae) (p1 : zae) : Option Bool :=
  (bif (decide (p0.Kind = p1.Kind)) then (bif (decide (p0.Name = p1.Name)) then (bif (decide (p0.Text = p1.Text)) then (zg6 n p0.Attrs p1.Attrs).bind fun x19 =>
  (bif x19 then (bif (decide (p0.Parent = p1.Parent)) then (bif (decide (p0.First = p1.First)) then (bif (decide (p0.Last = p1.Last)) then (bif (decide (p0.Prev = p1.Prev)) then zbu (decide (p0.Next = p1.Next)) else
  zbu false) else
  zbu false) else
  zbu false) else
  zbu false) else
  zbu false) else
  zbu false) else
  zbu false) else
  zbu false)
theorem zn8 (n : Nat) {f : Fz} {p0 : zae} {a0 : List Value} {p1 : zae} {a1 : List Value} {res : Bool} (h0 : zcr.R f a0 p0) (h1 : zcr.R f a1 p1) (hm : zhj n p0 p1 = some res) : Gives Tryz.prog 31 [.agg a0.toArray, .agg a1.toArray] f (.bool res) := by
 unfold zhj at hm
 intro w0 L w hC
 obtain ⟨v1, rfl, ⟨rw2, hR3, hW4⟩⟩ := h0
 obtain ⟨v6, rfl, ⟨rw7, hR8, hW9⟩⟩ := h1
 refine enter Tryz.func31 rfl Tryz.ntmps31 (by simp) hC fun a hs => ?_
 have hle := Fz.le.refl f
 refine Wq fun hK1 => sbox hs rfl fun b11 _ _ hs => sbox hs rfl fun b13 _ _ hs => sA hs rfl fun hs => za0 <| hK1 <| Ws fun hK2 => ?_
 refine zaq (fun a w => ∃ (y15 : Bool), zbu y15 = some res ∧ St 66 w0 f (L) [(4, .bool (y15))] a w) ?_ ?_
 ·clear hs hm
  rintro a w ⟨y15, hm, hs⟩
  unfold zbu at hm
  refine hK2 <| zax ?_
  obtain rfl := Option.some.inj hm
  refine RtV1 hs rfl (rv_t hs rfl) ?_
  exact ⟨rfl,(hs.weak hle).cw⟩
 refine za2 <| s1 (v := pq b11 0) hs (za1 rfl (FO.of (off := 0) U53 rfl rfl ti3 (by decide))) fun hs => s1 (v := .int .i64 (p0.Kind)) hs (y_ld rfl U3 rfl (Cell.blk (.tail _ (.head _)) rfl)) fun hs => s1 (v := pq b13 0) hs (za1 rfl (FO.of (off := 0) U53 rfl rfl ti3 (by decide))) fun hs => s1 (v := .int .i64 (p1.Kind)) hs (y_ld rfl U3 rfl (Cell.blk (.head _) rfl)) fun hs => s1 hs (zct rfl rfl) fun hs => sM hs rfl fun hs => ?_
 refine St.split hs (t := 10) rfl (fun hg16 hs => ?_) (fun hg16 hs => ?_)
 ·replace hm := oc_t hg16 hm
  refine s2 (v := pq b11 1) hs (za1 rfl (FO.of (off := 1) U53 rfl rfl ti9 (by decide))) fun hs => s2 (v := .string (p0.Name)) hs (y_ld rfl U9 rfl (Cell.blk (.tail _ (.head _)) rfl)) fun hs => s2 (v := pq b13 1) hs (za1 rfl (FO.of (off := 1) U53 rfl rfl ti9 (by decide))) fun hs => s2 (v := .string (p1.Name)) hs (y_ld rfl U9 rfl (Cell.blk (.head _) rfl)) fun hs => s2 hs (zcs rfl rfl) fun hs => sP hs rfl rfl fun hs => sM hs rfl fun hs => ?_
  refine St.split hs (t := 17) rfl (fun hg17 hs => ?_) (fun hg17 hs => ?_)
  ·replace hm := oc_t hg17 hm
   refine s2 (v := pq b11 2) hs (za1 rfl (FO.of (off := 2) U53 rfl rfl ti9 (by decide))) fun hs => s2 (v := .string (p0.Text)) hs (y_ld rfl U9 rfl (Cell.blk (.tail _ (.head _)) rfl)) fun hs => s2 (v := pq b13 2) hs (za1 rfl (FO.of (off := 2) U53 rfl rfl ti9 (by decide))) fun hs => s2 (v := .string (p1.Text)) hs (y_ld rfl U9 rfl (Cell.blk (.head _) rfl)) fun hs => s2 hs (zcs rfl rfl) fun hs => sP hs rfl rfl fun hs => sM hs rfl fun hs => ?_
   refine St.split hs (t := 24) rfl (fun hg18 hs => ?_) (fun hg18 hs => ?_)
   ·replace hm := oc_t hg18 hm
    refine s2 (v := pq b11 3) hs (za1 rfl (FO.of (off := 3) U53 rfl rfl ti43 (by decide))) fun hs => s2 (v := v1) hs (y_ld rfl U43 rfl (Cell.blk (.tail _ (.head _)) rfl)) fun hs => s2 (v := pq b13 3) hs (za1 rfl (FO.of (off := 3) U53 rfl rfl ti43 (by decide))) fun hs => s2 (v := v6) hs (y_ld rfl U43 rfl (Cell.blk (.head _) rfl)) fun hs => ?_
    obtain ⟨x19, hx20, hm⟩ := ob hm
    refine s2 hs (zbi rfl has59 rfl (zkv n ⟨rw2, hR3, hW4⟩ ⟨rw7, hR8, hW9⟩ hx20)) fun hs => sP hs rfl rfl fun hs => sM hs rfl fun hs => ?_
    refine St.split hs (t := 31) rfl (fun hg21 hs => ?_) (fun hg21 hs => ?_)
    ·replace hm := oc_t hg21 hm
     refine s2 (v := pq b11 4) hs (za1 rfl (FO.of (off := 4) U53 rfl rfl ti3 (by decide))) fun hs => s2 (v := .int .i64 (p0.Parent)) hs (y_ld rfl U3 rfl (Cell.blk (.tail _ (.head _)) rfl)) fun hs => s2 (v := pq b13 4) hs (za1 rfl (FO.of (off := 4) U53 rfl rfl ti3 (by decide))) fun hs => s2 (v := .int .i64 (p1.Parent)) hs (y_ld rfl U3 rfl (Cell.blk (.head _) rfl)) fun hs => s2 hs (zct rfl rfl) fun hs => sP hs rfl rfl fun hs => sM hs rfl fun hs => ?_
     refine St.split hs (t := 38) rfl (fun hg22 hs => ?_) (fun hg22 hs => ?_)
     ·replace hm := oc_t hg22 hm
      refine s2 (v := pq b11 5) hs (za1 rfl (FO.of (off := 5) U53 rfl rfl ti3 (by decide))) fun hs => s2 (v := .int .i64 (p0.First)) hs (y_ld rfl U3 rfl (Cell.blk (.tail _ (.head _)) rfl)) fun hs => s2 (v := pq b13 5) hs (za1 rfl (FO.of (off := 5) U53 rfl rfl ti3 (by decide))) fun hs => s2 (v := .int .i64 (p1.First)) hs (y_ld rfl U3 rfl (Cell.blk (.head _) rfl)) fun hs => s2 hs (zct rfl rfl) fun hs => sP hs rfl rfl fun hs => sM hs rfl fun hs => ?_
      refine St.split hs (t := 45) rfl (fun hg23 hs => ?_) (fun hg23 hs => ?_)
      ·replace hm := oc_t hg23 hm
       refine s2 (v := pq b11 6) hs (za1 rfl (FO.of (off := 6) U53 rfl rfl ti3 (by decide))) fun hs => s2 (v := .int .i64 (p0.Last)) hs (y_ld rfl U3 rfl (Cell.blk (.tail _ (.head _)) rfl)) fun hs => s2 (v := pq b13 6) hs (za1 rfl (FO.of (off := 6) U53 rfl rfl ti3 (by decide))) fun hs => s2 (v := .int .i64 (p1.Last)) hs (y_ld rfl U3 rfl (Cell.blk (.head _) rfl)) fun hs => s2 hs (zct rfl rfl) fun hs => sP hs rfl rfl fun hs => sM hs rfl fun hs => ?_
       refine St.split hs (t := 52) rfl (fun hg24 hs => ?_) (fun hg24 hs => ?_)
       ·replace hm := oc_t hg24 hm
        refine s2 (v := pq b11 7) hs (za1 rfl (FO.of (off := 7) U53 rfl rfl ti3 (by decide))) fun hs => s2 (v := .int .i64 (p0.Prev)) hs (y_ld rfl U3 rfl (Cell.blk (.tail _ (.head _)) rfl)) fun hs => s2 (v := pq b13 7) hs (za1 rfl (FO.of (off := 7) U53 rfl rfl ti3 (by decide))) fun hs => s2 (v := .int .i64 (p1.Prev)) hs (y_ld rfl U3 rfl (Cell.blk (.head _) rfl)) fun hs => s2 hs (zct rfl rfl) fun hs => sP hs rfl rfl fun hs => sM hs rfl fun hs => ?_
        refine St.split hs (t := 59) rfl (fun hg25 hs => ?_) (fun hg25 hs => ?_)
        ·replace hm := oc_t hg25 hm
         refine s2 (v := pq b11 8) hs (za1 rfl (FO.of (off := 8) U53 rfl rfl ti3 (by decide))) fun hs => s2 (v := .int .i64 (p0.Next)) hs (y_ld rfl U3 rfl (Cell.blk (.tail _ (.head _)) rfl)) fun hs => s2 (v := pq b13 8) hs (za1 rfl (FO.of (off := 8) U53 rfl rfl ti3 (by decide))) fun hs => s2 (v := .int .i64 (p1.Next)) hs (y_ld rfl U3 rfl (Cell.blk (.head _) rfl)) fun hs => s2 hs (zct rfl rfl) fun hs => sP hs rfl rfl fun hs => sA hs rfl fun hs => za0 ?_
         exact ⟨decide (p0.Next = p1.Next), hm, hs.subs ⟨rfl, trivial⟩ (.cons _ (.cons _ (.refl _)))⟩
        replace hm := oc_f hg25 hm
        refine s3 hs fun hs => s3 hs fun hs => s3 hs fun hs => s3 hs fun hs => s3 hs fun hs => sP hs rfl rfl fun hs => sA hs rfl fun hs => za0 ?_
        exact ⟨false, hm, hs.subs ⟨rfl, trivial⟩ (.cons _ (.cons _ (.refl _)))⟩
       replace hm := oc_f hg24 hm
       refine s3 hs fun hs => s3 hs fun hs => s3 hs fun hs => s3 hs fun hs => s3 hs fun hs => sP hs rfl rfl fun hs => sM hs rfl fun hs => s3 hs fun hs => s3 hs fun hs => s3 hs fun hs => ?_
       refine s3 hs fun hs => s3 hs fun hs => sP hs rfl rfl fun hs => sA hs rfl fun hs => za0 ?_
       exact ⟨false, hm, hs.subs ⟨rfl, trivial⟩ (.cons _ (.cons _ (.refl _)))⟩
      replace hm := oc_f hg23 hm
      refine s3 hs fun hs => s3 hs fun hs => s3 hs fun hs => s3 hs fun hs => s3 hs fun hs => sP hs rfl rfl fun hs => sM hs rfl fun hs => s3 hs fun hs => s3 hs fun hs => s3 hs fun hs => ?_
      refine s3 hs fun hs => s3 hs fun hs => sP hs rfl rfl fun hs => sM hs rfl fun hs => s3 hs fun hs => s3 hs fun hs => s3 hs fun hs => s3 hs fun hs => s3 hs fun hs => sP hs rfl rfl fun hs => ?_
      refine sA hs rfl fun hs => za0 ?_
      exact ⟨false, hm, hs.subs ⟨rfl, trivial⟩ (.cons _ (.cons _ (.refl _)))⟩
     replace hm := oc_f hg22 hm
     refine s3 hs fun hs => s3 hs fun hs => s3 hs fun hs => s3 hs fun hs => s3 hs fun hs => sP hs rfl rfl fun hs => sM hs rfl fun hs => s3 hs fun hs => s3 hs fun hs => s3 hs fun hs => ?_
     refine s3 hs fun hs => s3 hs fun hs => sP hs rfl rfl fun hs => sM hs rfl fun hs => s3 hs fun hs => s3 hs fun hs => s3 hs fun hs => s3 hs fun hs => s3 hs fun hs => sP hs rfl rfl fun hs => ?_
     refine sM hs rfl fun hs => s3 hs fun hs => s3 hs fun hs => s3 hs fun hs => s3 hs fun hs => s3 hs fun hs => sP hs rfl rfl fun hs => sA hs rfl fun hs => za0 ?_
     exact ⟨false, hm, hs.subs ⟨rfl, trivial⟩ (.cons _ (.cons _ (.refl _)))⟩
    replace hm := oc_f hg21 hm
    refine s3 hs fun hs => s3 hs fun hs => s3 hs fun hs => s3 hs fun hs => s3 hs fun hs => sP hs rfl rfl fun hs => sM hs rfl fun hs => s3 hs fun hs => s3 hs fun hs => s3 hs fun hs => ?_
    refine s3 hs fun hs => s3 hs fun hs => sP hs rfl rfl fun hs => sM hs rfl fun hs => s3 hs fun hs => s3 hs fun hs => s3 hs fun hs => s3 hs fun hs => s3 hs fun hs => sP hs rfl rfl fun hs => ?_
    refine sM hs rfl fun hs => s3 hs fun hs => s3 hs fun hs => s3 hs fun hs => s3 hs fun hs => s3 hs fun hs => sP hs rfl rfl fun hs => sM hs rfl fun hs => s3 hs fun hs => s3 hs fun hs => ?_
    refine s3 hs fun hs => s3 hs fun hs => s3 hs fun hs => sP hs rfl rfl fun hs => sA hs rfl fun hs => za0 ?_
    exact ⟨false, hm, hs.subs ⟨rfl, trivial⟩ (.cons _ (.cons _ (.refl _)))⟩
   replace hm := oc_f hg18 hm
   refine s3 hs fun hs => s3 hs fun hs => s3 hs fun hs => s3 hs fun hs => s3 hs fun hs => sP hs rfl rfl fun hs => sM hs rfl fun hs => s3 hs fun hs => s3 hs fun hs => s3 hs fun hs => ?_
   refine s3 hs fun hs => s3 hs fun hs => sP hs rfl rfl fun hs => sM hs rfl fun hs => s3 hs fun hs => s3 hs fun hs => s3 hs fun hs => s3 hs fun hs => s3 hs fun hs => sP hs rfl rfl fun hs => ?_
   refine sM hs rfl fun hs => s3 hs fun hs => s3 hs fun hs => s3 hs fun hs => s3 hs fun hs => s3 hs fun hs => sP hs rfl rfl fun hs => sM hs rfl fun hs => s3 hs fun hs => s3 hs fun hs => ?_
   refine s3 hs fun hs => s3 hs fun hs => s3 hs fun hs => sP hs rfl rfl fun hs => sM hs rfl fun hs => s3 hs fun hs => s3 hs fun hs => s3 hs fun hs => s3 hs fun hs => s3 hs fun hs => ?_
   refine sP hs rfl rfl fun hs => sA hs rfl fun hs => za0 ?_
   exact ⟨false, hm, hs.subs ⟨rfl, trivial⟩ (.cons _ (.cons _ (.refl _)))⟩
  replace hm := oc_f hg17 hm
  refine s3 hs fun hs => s3 hs fun hs => s3 hs fun hs => s3 hs fun hs => s3 hs fun hs => sP hs rfl rfl fun hs => sM hs rfl fun hs => s3 hs fun hs => s3 hs fun hs => s3 hs fun hs => ?_
  refine s3 hs fun hs => s3 hs fun hs => sP hs rfl rfl fun hs => sM hs rfl fun hs => s3 hs fun hs => s3 hs fun hs => s3 hs fun hs => s3 hs fun hs => s3 hs fun hs => sP hs rfl rfl fun hs => ?_
  refine sM hs rfl fun hs => s3 hs fun hs => s3 hs fun hs => s3 hs fun hs => s3 hs fun hs => s3 hs fun hs => sP hs rfl rfl fun hs => sM hs rfl fun hs => s3 hs fun hs => s3 hs fun hs => ?_
  refine s3 hs fun hs => s3 hs fun hs => s3 hs fun hs => sP hs rfl rfl fun hs => sM hs rfl fun hs => s3 hs fun hs => s3 hs fun hs => s3 hs fun hs => s3 hs fun hs => s3 hs fun hs => ?_
  refine sP hs rfl rfl fun hs => sM hs rfl fun hs => s3 hs fun hs => s3 hs fun hs => s3 hs fun hs => s3 hs fun hs => s3 hs fun hs => sP hs rfl rfl fun hs => sA hs rfl fun hs => za0 ?_
  exact ⟨false, hm, hs.subs ⟨rfl, trivial⟩ (.cons _ (.cons _ (.refl _)))⟩
 replace hm := oc_f hg16 hm
 refine s3 hs fun hs => s3 hs fun hs => s3 hs fun hs => s3 hs fun hs => s3 hs fun hs => sP hs rfl rfl fun hs => sM hs rfl fun hs => s3 hs fun hs => s3 hs fun hs => s3 hs fun hs => ?_
 refine s3 hs fun hs => s3 hs fun hs => sP hs rfl rfl fun hs => sM hs rfl fun hs => s3 hs fun hs => s3 hs fun hs => s3 hs fun hs => s3 hs fun hs => s3 hs fun hs => sP hs rfl rfl fun hs => ?_
 refine sM hs rfl fun hs => s3 hs fun hs => s3 hs fun hs => s3 hs fun hs => s3 hs fun hs => s3 hs fun hs => sP hs rfl rfl fun hs => sM hs rfl fun hs => s3 hs fun hs => s3 hs fun hs => ?_
 refine s3 hs fun hs => s3 hs fun hs => s3 hs fun hs => sP hs rfl rfl fun hs => sM hs rfl fun hs => s3 hs fun hs => s3 hs fun hs => s3 hs fun hs => s3 hs fun hs => s3 hs fun hs => ?_
 refine sP hs rfl rfl fun hs => sM hs rfl fun hs => s3 hs fun hs => s3 hs fun hs => s3 hs fun hs => s3 hs fun hs => s3 hs fun hs => sP hs rfl rfl fun hs => sM hs rfl fun hs => s3 hs fun hs => ?_
 refine s3 hs fun hs => s3 hs fun hs => s3 hs fun hs => s3 hs fun hs => sP hs rfl rfl fun hs => sA hs rfl fun hs => za0 ?_
 exact ⟨false, hm, hs.subs ⟨rfl, trivial⟩ (.cons _ (.cons _ (.refl _)))⟩
def zig : Option Bool :=
  some true
def zcv (n : Nat) (p0 : zaa) (p1 : zaa) : Nat → Int → Option Bool
  | 0, _ => none
  | k17 + 1, y16 =>
  (bif (decide (y16 < (p0.Nodes.length : Int))) then (geti p0.Nodes y16).bind fun x19 =>
  (geti p1.Nodes y16).bind fun x31 =>
  (zhj n x19 x31).bind fun x43 =>
  (bif (!x43) then some false else
  (zcv n p0 p1 k17) (w64 (y16 + 1))) else
  zig)
def zgk (n : Nat) (p0 : zaa) (p1 : zaa) : Option Bool :=
  (bif (decide ((p0.Nodes.length : Int) ≠ (p1.Nodes.length : Int))) then some false else
  zcv n p0 p1 n 0)
theorem zn7 (n : Nat) {f : Fz} {p0 : zaa} {a0 : List Value} {p1 : zaa} {a1 : List Value} {res : Bool} (h0 : zcz.R f a0 p0) (h1 : zcz.R f a1 p1) (hm : zgk n p0 p1 = some res) : Gives Tryz.prog 14 [.agg a0.toArray, .agg a1.toArray] f (.bool res) := by
 unfold zgk at hm
 intro w0 L w hC
 obtain ⟨v1, rfl, ⟨rw2, hR3, hW4⟩⟩ := h0
 obtain ⟨v6, rfl, ⟨rw7, hR8, hW9⟩⟩ := h1
 refine enter Tryz.func14 rfl Tryz.ntmps14 (by simp) hC fun a hs => ?_
 have hle := Fz.le.refl f
 refine Wq fun hK1 => sbox hs rfl fun b11 _ _ hs => sbox hs rfl fun b13 _ _ hs => sA hs rfl fun hs => za0 <| hK1 <| Ws fun hK2 => Ws fun hK3 => za2 ?_
 refine s1 (v := pq b11 0) hs (za1 rfl (FO.of (off := 0) U30 rfl rfl ti28 (by decide))) fun hs => s1 (v := v1) hs (y_ld rfl U28 rfl (Cell.blk (.tail _ (.head _)) rfl)) fun hs => s1 hs (zc3 hR3 hW4 rfl U28) fun hs => s1 (v := pq b13 0) hs (za1 rfl (FO.of (off := 0) U30 rfl rfl ti28 (by decide))) fun hs => s1 (v := v6) hs (y_ld rfl U28 rfl (Cell.blk (.head _) rfl)) fun hs => s1 hs (zc3 hR8 hW9 rfl U28) fun hs => s1 hs (zeo rfl rfl) fun hs => za0 <| hK3 ?_
 refine zah hs rfl (fun hg15 => ?_) (fun hg15 => ?_)
 ·replace hm := oc_t hg15 hm
  refine Wq fun hK4 => sA hs rfl fun hs => za0 <| hK4 <| zax ?_
  obtain rfl := Option.some.inj hm
  refine RtV1 hs rfl (rv_t hs rfl) ?_
  exact ⟨rfl,((hs.subL (.cons _ (.cons _ (.refl _)))).weak hle).cw⟩
 replace hm := oc_f hg15 hm
 refine zaj <| hK2 <| Ws fun hK5 => Wq fun hK6 => sA hs rfl fun hs => za0 <| hK6 ?_
 refine zaq (fun a w => zig = some res ∧ St 32 w0 f (L) [] a w) ?_ ?_
 ·clear hs hm
  rintro a w ⟨hm, hs⟩
  unfold zig at hm
  refine hK5 <| Wq fun hK7 => sA hs rfl fun hs => za0 <| hK7 <| zax ?_
  obtain rfl := Option.some.inj hm
  refine RtV1 hs rfl (rv_t hs rfl) ?_
  exact ⟨rfl,(hs.weak hle).cw⟩
 refine zam fun Qe8 hB8 hO8 => zd1 (fun (k : Nat) a w => ∃ (y16 : Int), zcv n p0 p1 k y16 = some res ∧ St 32 w0 f (.blk b13 (.cells #[v6] 30 (0,0)) :: .blk b11 (.cells #[v1] 30 (0,0)) :: L) [(2, pq b11 0),(3, pq b13 0),(5, .int .i64 (y16))] a w) (fun k => k) n ⟨0, hm, hs.sub ⟨rfl, rfl, rfl, trivial⟩⟩ ?_
 clear hs hm
 intro k
 rintro a w ⟨y16, hm, hs⟩
 intro K9 hK9
 cases k with
 | zero => simp [zcv] at hm
 | succ k17 =>
  rw [zcv] at hm
  refine Ws fun hK10 => Wq fun hK11 => sM hs rfl fun hs => s1 (v := pq b11 0) hs (za1 rfl (FO.of (off := 0) U30 rfl rfl ti28 (by decide))) fun hs => s1 (v := v1) hs (y_ld rfl U28 rfl (Cell.blk (.tail _ (.head _)) rfl)) fun hs => s1 hs (zc3 hR3 hW4 rfl U28) fun hs => s1 hs (zgq rfl rfl) fun hs => za0 <| hK11 ?_
  refine zah hs rfl (fun hg18 => ?_) (fun hg18 => ?_)
  ·replace hm := oc_t hg18 hm
   refine zaj <| hK10 <| Ws fun hK12 => zam fun Qe13 hB13 hO13 => Ws fun hK14 => ?_
   refine zju hs mixed (by kernel_rfl) ?_; intro a he
   refine qy (v := pq b11 0) he (za1 rfl (FO.of (off := 0) U30 rfl rfl ti28 (by decide))) fun _ he => qy (v := v1) he (y_ld rfl U28 rfl (Cell.blk (.tail _ (.head _)) rfl)) fun _ he => qy (v := .int .i64 (y16)) he (za3 rfl) fun _ he => ?_
   obtain ⟨x19, hx20, hm⟩ := ob hm
   obtain ⟨r21, hr22, hq23, hi24, hb25⟩ := hW4.geti hx20
   obtain ⟨v26, rfl, ⟨rw27, hR28, hW29⟩⟩ := hq23
   refine qy he (zac hR3 rfl rfl hi24 hb25 U28 ti53) fun _ he => qy he (zdn hR3.up rfl hr22 U53 rfl ti53) fun _ he => qy (v := pq b13 0) he (za1 rfl (FO.of (off := 0) U30 rfl rfl ti28 (by decide))) fun _ he => qy (v := v6) he (y_ld rfl U28 rfl (Cell.blk (.head _) rfl)) fun _ he => qy (v := .int .i64 (y16)) he (za3 rfl) fun _ he => ?_
   obtain ⟨x31, hx32, hm⟩ := ob hm
   obtain ⟨r33, hr34, hq35, hi36, hb37⟩ := hW9.geti hx32
   obtain ⟨v38, rfl, ⟨rw39, hR40, hW41⟩⟩ := hq35
   refine qy he (zac hR8 rfl rfl hi36 hb37 U28 ti53) fun _ he => qy he (zdn hR8.up rfl hr34 U53 rfl ti53) fun _ he => ?_
   obtain ⟨x43, hx44, hm⟩ := ob hm
   refine qy he (zbi rfl has31 rfl (zn8 n ⟨_, rfl, ⟨rw27, hR28, hW29⟩⟩ ⟨_, rfl, ⟨rw39, hR40, hW41⟩⟩ hx44)) fun _ he => qy (v := .bool ((!x43))) he (zfc rfl) fun _ he => ?_
   refine zfw he ?_; clear he; (try clear hs); (try clear a); intro a w hs
   refine hK14 ?_
   refine zah hs rfl (fun hg45 => ?_) (fun hg45 => ?_)
   ·replace hm := oc_t hg45 hm
    refine Wq fun hK15 => sA hs rfl fun hs => za0 <| hK15 <| zax ?_
    obtain rfl := Option.some.inj hm
    refine RtV1 hs rfl (rv_t hs rfl) ?_
    exact ⟨rfl,((hs.subL (.cons _ (.cons _ (.refl _)))).weak hle).cw⟩
   replace hm := oc_f hg45 hm
   refine zaj <| hK12 <| za2 <| sM hs rfl fun hs => s1 hs (zdz rfl rfl rfl) fun hs => sA hs rfl fun hs => za0 ?_
   exact hK9 k17 _ _ (Nat.lt_succ_self _) ⟨(w64 (y16 + 1)), hm, hs.sub ⟨rfl, rfl, rfl, trivial⟩⟩
  replace hm := oc_f hg18 hm
  refine zc0 <| hB8 _ _ ?_
  exact ⟨hm, hs.subs trivial (.cons _ (.cons _ (.refl _)))⟩
end
section
open Go.RowKit Go.Sl
open Go.V (T)
theorem dec_loop {p : List Int} {s : ByteArray} (hs : bytesOf p = s) : ∀ (ys acc : List Int) (i : Nat) (c : Int), Vr ys → (∀ y ∈ ys, y ≠ 13 ∧ y ≠ 0) → (byL s).drop i = enc8 ys → c ≠ 13 → acc.length + ys.length ≤ 1000000 →
    T (fun _ n => zba p n acc c i) (· = (acc ++ ys,0)) := by
  intro ys
  induction ys with
  | nil =>
    intro acc i c _ _ hd _ _
    have hi : ¬ i < s.size := fun h => by
      have := congrArg List.length hd
      rw [List.length_drop, zgo] at this
      have e : (enc8 []).length = 0 := rfl
      omega
    refine T.step ?_
    unfold zba zh0
    rw [hs]
    refine T.dec (fun h => absurd h hi) fun _ => T.some ?_
    rw [List.append_nil]
  | cons y ys ih =>
    intro acc i c hv hy hd hc hl
    have hx := hv y (List.mem_cons_self ..)
    obtain ⟨h13, h0⟩ := hy y (List.mem_cons_self ..)
    obtain ⟨m, rfl⟩ : ∃ m : Nat, y = m := ⟨y.toNat, by simp [Utf8.valid] at hx; omega⟩
    have hd : (byL s).drop i = encL m ++ enc8 ys := hd
    have hdec : Utf8.decode s i = (m,(encL m).length) := by rw [ziy, hd, zrn hx]
    have hne : (encL m).length ≠ 0 := fun h => zvg m (List.eq_nil_of_length_eq_zero h)
    have hi : i < s.size := by
      have := congrArg List.length hd
      rw [List.length_drop, zgo, List.length_append] at this
      omega
    have hd2 : (byL s).drop (i + (encL m).length) = enc8 ys := by
      rw [← List.drop_drop, hd, List.drop_left' rfl]
    simp only [List.length_cons] at hl
    have := ih (acc ++ [(m : Int)]) (i + (encL m).length) m hv.tail (fun z hz => hy z (List.mem_cons_of_mem _ hz)) hd2 h13 (by simp; omega)
    rw [List.append_assoc] at this
    refine T.step ?_
    unfold zba zfp zfq zfr
    rw [hs, hdec]
    refine T.dec (fun _ => ?_) fun h => absurd hi h
    rw [show (decide ((m : Int) = 10) && decide (c = 13)) = false by rw [decide_eq_false hc, Bool.and_false]]
    refine T.bif (fun h => Bool.noConfusion h) fun _ => ?_
    refine T.dec (fun h => absurd h h13) fun _ => T.dec (fun h => absurd h h0) fun _ => ?_
    refine T.app (by simp; omega) (by simp; omega) ?_
    exact this
theorem Decode_T {R : List Int} {s : ByteArray} (hs : s = textOf R) (hv : Vr R) (hn : ∀ y ∈ R, y ≠ 13 ∧ y ≠ 0) (hl : s.size ≤ 65536) : T (fun k _ => zfj k (bytesIn s)) (· = (R,0)) := by
  unfold zfj
  rw [zak]
  refine T.dec (fun h => by omega) fun _ => ?_
  have hlen : R.length ≤ s.size := by
    have e : R = runesIn s := by rw [hs, zjb hv]
    rw [e]; exact zjc s
  have := dec_loop (zf9 s) R [] 0 0 hv hn (by rw [List.drop_zero, hs, zg0 hv]) (by decide) (by simp; omega)
  exact T.diag (F := fun _ n => zba (bytesIn s) n [] 0 0) this
theorem zsn {s : ByteArray} (hl : 65536 < s.size) : T (fun k _ => zfj k (bytesIn s)) (· = ([],3)) := by
  unfold zfj
  rw [zak]
  exact T.dec (fun _ => T.some rfl) fun h => by omega
end
end Go.Proofs.YtpfdbeafdjnbnaaGreatDoor
