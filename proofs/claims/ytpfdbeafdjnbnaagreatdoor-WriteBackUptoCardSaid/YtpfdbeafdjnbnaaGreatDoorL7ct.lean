/-
  Walks and laws of this seat.
-/
import Derived.Test.YtpfdbeafdjnbnaaGreatDoorBash
import Derived.Test.YtpfdbeafdjnbnaaGreatDoorL7a
import Derived.Test.YtpfdbeafdjnbnaaGreatDoorX3
import Derived.Test.YtpfdbeafdjnbnaaGreatDoorX1
import Derived.Test.YtpfdbeafdjnbnaaGreatDoorRows
namespace Go.Proofs.YtpfdbeafdjnbnaaGreatDoor
set_option linter.unusedVariables false
set_option linter.unusedSimpArgs false
set_option linter.unusedSectionVars false
set_option maxHeartbeats 4000000
set_option maxRecDepth 100000
open Go.RowKit Go.Sl
def zhc : Option Bool :=
  some true
def zdu (y22 : Int) (lp23 : (List Bool) → Int → Option Bool) (y25 : (List Bool)) : Option Bool :=
  lp23 y25 (w64 (y22 + 1))
def zdt (y22 : Int) (lp23 : (List Bool) → Int → Option Bool) (y61 : (List Bool)) (y69 : Bool) : Option Bool :=
  (bif y69 then some false else
  zdu y22 lp23 y61)
def zh5 (y22 : Int) (lp23 : (List Bool) → Int → Option Bool) (y61 : (List Bool)) : Option Bool :=
  zdu y22 lp23 y61
def zee (y91 : Int) (lp92 : Int → Option Bool) (y103 : Bool) : Option Bool :=
  (bif y103 then some false else
  lp92 (w64 (y91 + 1)))
def zbp (n : Nat) (y22 : Int) (lp23 : (List Bool) → Int → Option Bool) (x30 : zae) (y61 : (List Bool)) : Nat → Int → Option Bool
  | 0, _ => none
  | k92 + 1, y91 =>
  (bif (decide (y91 < (x30.Attrs.length : Int))) then (geti x30.Attrs y91).bind fun x94 =>
  (zed n x94.Name).bind fun x105 =>
  (bif (!x105) then zee y91 (zbp n y22 lp23 x30 y61 k92) true else
  (zg9 n x94.Value).bind fun x108 =>
  zee y91 (zbp n y22 lp23 x30 y61 k92) (!x108)) else
  zh5 y22 lp23 y61)
def zds (n : Nat) (y22 : Int) (lp23 : (List Bool) → Int → Option Bool) (x30 : zae) (y61 : (List Bool)) (y89 : Bool) : Option Bool :=
  (bif y89 then some false else
  zbp n y22 lp23 x30 y61 n 0)
def zbw (n : Nat) (y22 : Int) (lp23 : (List Bool) → Int → Option Bool) (x30 : zae) (y61 : (List Bool)) (y87 : Bool) : Option Bool :=
  (bif y87 then some false else
  (geti y61 x30.Parent).bind fun x110 =>
  (bif x110 then (zat n [(bs [100,105,118]),(bs [104,49]),(bs [108,105]),(bs [112]),(bs [116,97,98,108,101]),(bs [117,108])] x30.Name).bind fun x123 =>
  zds n y22 lp23 x30 y61 x123 else
  zds n y22 lp23 x30 y61 false))
def zd4 (n : Nat) (p0 : zaa) (y22 : Int) (lp23 : (List Bool) → Int → Option Bool) (x30 : zae) (x46 : zae) (y61 : (List Bool)) (y66 : Bool) : Option Bool :=
  (bif y66 then some false else
  (bif (decide (x30.Kind = 2)) then (zg9 n x30.Text).bind fun x71 =>
  (bif (!x71) then zdt y22 lp23 y61 true else
  (bif (decide (0 ≤ x30.Prev)) then (geti p0.Nodes x30.Prev).bind fun x75 =>
  zdt y22 lp23 y61 (decide (x75.Kind = 2)) else
  zdt y22 lp23 y61 false)) else
  (zio n x30.Name).bind fun x125 =>
  (bif (!x125) then zbw n y22 lp23 x30 y61 true else
  (zgc n x30.Name).bind fun x128 =>
  (bif x128 then (bif (decide (0 ≤ x30.First)) then zbw n y22 lp23 x30 y61 true else
  (zep n x30.Name).bind fun x132 =>
  (bif (decide (x132 ≠ (bs []))) then (zep n x30.Name).bind fun x135 =>
  zbw n y22 lp23 x30 y61 (decide (x135 ≠ x46.Name)) else
  zbw n y22 lp23 x30 y61 false)) else
  (zep n x30.Name).bind fun x137 =>
  (bif (decide (x137 ≠ (bs []))) then (zep n x30.Name).bind fun x140 =>
  zbw n y22 lp23 x30 y61 (decide (x140 ≠ x46.Name)) else
  zbw n y22 lp23 x30 y61 false)))))
def zc7 (n : Nat) (p0 : zaa) (y22 : Int) (lp23 : (List Bool) → Int → Option Bool) (x30 : zae) (x46 : zae) (y61 : (List Bool)) : Option Bool :=
  (zat n [(bs [116,97,98,108,101]),(bs [116,114]),(bs [117,108])] x46.Name).bind fun x149 =>
  (bif x149 then (bif (decide (x30.Kind = 2)) then zd4 n p0 y22 lp23 x30 x46 y61 true else
  (zep n x30.Name).bind fun x153 =>
  zd4 n p0 y22 lp23 x30 x46 y61 (decide (x153 ≠ x46.Name))) else
  zd4 n p0 y22 lp23 x30 x46 y61 false)
def zao (n : Nat) (p0 : zaa) : Nat → (List Bool) → Int → Option Bool
  | 0, _, _ => none
  | k23 + 1, y17, y22 =>
  (bif (decide (y22 < (p0.Nodes.length : Int))) then (geti p0.Nodes y22).bind fun x30 =>
  (bif (decide (y22 = 0)) then zdu y22 (zao n p0 k23) y17 else
  (geti p0.Nodes x30.Parent).bind fun x46 =>
  (geti y17 x30.Parent).bind fun x155 =>
  (bif x155 then (geti y17 y22).bind fun x163 =>
  (seti y17 y22 true).bind fun x170 =>
  zc7 n p0 y22 (zao n p0 k23) x30 x46 x170 else
  (geti y17 y22).bind fun x175 =>
  (seti y17 y22 (decide (x30.Name = (bs [112])))).bind fun x182 =>
  zc7 n p0 y22 (zao n p0 k23) x30 x46 x182)) else
  zhc)
def zdv (n : Nat) (p0 : zaa) (y8 : Bool) : Option Bool :=
  (bif y8 then some false else
  (repM 1 (p0.Nodes.length : Int) false).bind fun x10 =>
  zao n p0 n x10 0)
def zcu (n : Nat) (p0 : zaa) : Option Bool :=
  (zib n p0).bind fun x187 =>
  (bif (decide (x187 ≠ 0)) then zdv n p0 true else
  (geti p0.Nodes 0).bind fun x190 =>
  (bif (decide (x190.Name ≠ (bs [114,111,111,116]))) then zdv n p0 true else
  (geti p0.Nodes 0).bind fun x203 =>
  zdv n p0 (decide (0 < (x203.Attrs.length : Int)))))
theorem zj4 (n : Nat) {f : Fz} {o0 : Obj} {o1 : Obj} {p0 : zaa} {a0 : List Value} {res : Bool} (hT0 : f 0 = some o0) (hT1 : f 1 = some o1) (hTT : Tabs o0 o1) (h0 : zcz.R f a0 p0) (hm : zcu n p0 = some res) : Gives Tryz.prog 10 [.agg a0.toArray] f (.bool res) := by
 unfold zcu at hm
 intro w0 L w hC
 obtain ⟨v1, rfl, ⟨rw2, hR3, hW4⟩⟩ := h0
 refine enter Tryz.func10 rfl Tryz.ntmps10 (by simp) hC fun a hs => ?_
 have hle := Fz.le.refl f
 refine Wq fun hK1 => sbox hs rfl fun b6 _ _ hs => sA hs rfl fun hs => za0 <| hK1 <| Ws fun hK2 => Ws fun hK3 => ?_
 refine zaq (fun a w => ∃ (y8 : Bool), zdv n p0 y8 = some res ∧ St 159 w0 f (.blk b6 (.cells #[v1] 30 (0,0)) :: L) [(1, pq b6 0),(28, .bool (y8))] a w) ?_ ?_
 ·clear hs hm
  rintro a w ⟨y8, hm, hs⟩
  unfold zdv at hm
  refine hK3 ?_
  refine zah hs rfl (fun hg9 => ?_) (fun hg9 => ?_)
  ·replace hm := oc_t hg9 hm
   refine Wq fun hK4 => sA hs rfl fun hs => za0 <| hK4 <| zax ?_
   obtain rfl := Option.some.inj hm
   refine RtV1 hs rfl (rv_t hs rfl) ?_
   exact ⟨rfl,((hs.subL (.cons _ (.refl _))).weak hle).cw⟩
  replace hm := oc_f hg9 hm
  refine zaj <| hK2 <| Wq fun hK5 => s1 (v := pq b6 0) hs (za1 rfl (FO.of (off := 0) U30 rfl rfl ti28 (by decide))) fun hs => s1 (v := v1) hs (y_ld rfl U28 rfl (Cell.blk (.head _) rfl)) fun hs => s1 hs (zc3 hR3 hW4 rfl U28) fun hs => ?_
  obtain ⟨x10, hx11, hm⟩ := ob hm
  obtain ⟨hix10, hbx10, hex10⟩ := zno hx11
  refine zqo hs rfl rfl hix10 U54 ti4 (by decide) (AllC.row ⟨rfl, trivial⟩ rfl) hbx10 fun v12 _ _ hs => ?_
  replace hs : St _ _ _ (.row v12 4 1 (List.replicate (p0.Nodes.length : Int).toNat ([.bool (false)] : List Value)) :: .blk b6 (.cells #[v1] 30 (0,0)) :: L) _ _ _ := hs
  have hW14 : RW tBool f (List.replicate (p0.Nodes.length : Int).toNat ([.bool (false)] : List Value)) x10 := by rw [← hex10]; exact RW.rep (t := tBool) (r := [.bool (false)]) (rfl) _
  generalize hgx10 : (List.replicate (p0.Nodes.length : Int).toNat ([.bool (false)] : List Value)) = rw13 at hs hW14; clear hgx10
  replace hs : St _ _ _ (.row v12 4 1 rw13 :: .blk b6 (.cells #[v1] 30 (0,0)) :: L) _ _ _ := hs
  refine sA hs rfl fun hs => za0 <| hK5 <| Ws fun hK6 => Wq fun hK7 => s1 (v := pq b6 0) hs (za1 rfl (FO.of (off := 0) U30 rfl rfl ti28 (by decide))) fun hs => s1 (v := v1) hs (y_ld rfl U28 rfl (Cell.blk (.tail _ (.head _)) rfl)) fun hs => s1 hs (zc3 hR3 hW4 rfl U28) fun hs => sM hs rfl fun hs => ?_
  refine za0 <| hK7 ?_
  refine zaq (fun a w => zhc = some res ∧ St 159 w0 f (L) [] a w) ?_ ?_
  ·clear hs hm
   rintro a w ⟨hm, hs⟩
   replace hs : St _ _ _ (L) _ _ _ := hs
   unfold zhc at hm
   refine hK6 <| Wq fun hK8 => sA hs rfl fun hs => za0 <| hK8 <| zax ?_
   obtain rfl := Option.some.inj hm
   refine RtV1 hs rfl (rv_t hs rfl) ?_
   exact ⟨rfl,(hs.weak hle).cw⟩
  refine zam fun Qe9 hB9 hO9 => zd1 (fun (k : Nat) a w => ∃ (y17 : (List Bool)) (y22 : Int) (v18 : Value) (rw19 : List (List Value)), zao n p0 k y17 y22 = some res ∧ RW tBool f rw19 y17 ∧ St 159 w0 f (.row v18 4 1 rw19 :: .blk b6 (.cells #[v1] 30 (0,0)) :: L) [(1, pq b6 0),(3, v18),(34, v1),(35, .int .i64 ((p0.Nodes.length : Int))),(36, .int .i64 (y22))] a w) (fun k => k) n ⟨x10,0, v12, rw13, hm, hW14, hs.sub ⟨rfl, rfl, rfl, rfl, rfl, trivial⟩⟩ ?_
  clear hs hm
  intro k
  rintro a w ⟨y17, y22, v18, rw19, hm, hW20, hs⟩
  intro K10 hK10
  cases k with
  | zero => simp [zao] at hm
  | succ k23 =>
   rw [zao] at hm
   refine Wq fun hK11 => s1 hs (zgq rfl rfl) fun hs => za0 <| hK11 <| Ws fun hK12 => ?_
   refine zah hs rfl (fun hg24 => ?_) (fun hg24 => ?_)
   ·replace hm := oc_t hg24 hm
    refine zaj <| hK12 <| Ws fun hK13 => ?_
    refine zaq (fun a w => ∃ (y25 : (List Bool)) (v26 : Value) (rw27 : List (List Value)), zdu y22 (zao n p0 k23) y25 = some res ∧ RW tBool f rw27 y25 ∧ St 159 w0 f (.row v26 4 1 rw27 :: .blk b6 (.cells #[v1] 30 (0,0)) :: L) [(1, pq b6 0),(3, v26),(34, v1),(35, .int .i64 ((p0.Nodes.length : Int))),(36, .int .i64 (y22))] a w) ?_ ?_
    ·clear hs hm
     rintro a w ⟨y25, v26, rw27, hm, hW28, hs⟩
     unfold zdu at hm
     refine hK13 <| za2 <| s1 hs (zdz rfl rfl rfl) fun hs => sM hs rfl fun hs => za0 ?_
     exact hK10 k23 _ _ (Nat.lt_succ_self _) ⟨y25,(w64 (y22 + 1)), v26, rw27, hm, hW28, hs.sub ⟨rfl, rfl, rfl, rfl, rfl, trivial⟩⟩
    refine zam fun Qe14 hB14 hO14 => Wq fun hK15 => sM hs rfl fun hs => ?_
    obtain ⟨x30, hx31, hm⟩ := ob hm
    obtain ⟨r32, hr33, hq34, hi35, hb36⟩ := hW4.geti hx31
    obtain ⟨v37, rfl, ⟨rw38, hR39, hW40⟩⟩ := hq34
    refine s1 hs (zac hR3 rfl rfl hi35 hb36 U28 ti53) fun hs => s1 hs (zdn hR3.up rfl hr33 U53 rfl ti53) fun hs => zbl hs ti53 (.free rfl) (by decide) fun b42 _ _ hs => sA hs rfl fun hs => zb5 (i := 0) hs rfl rfl rfl ti53 ⟨rfl, rfl⟩ (AllC.arr (r := [.int .i64 (x30.Kind), .string (x30.Name), .string (x30.Text), v37, .int .i64 (x30.Parent), .int .i64 (x30.First), .int .i64 (x30.Last), .int .i64 (x30.Prev), .int .i64 (x30.Next)]) ⟨rfl, rfl, rfl, hR39.one, rfl, rfl, rfl, rfl, rfl, trivial⟩) (.free rfl) fun _ _ hs => za0 <| hK15 <| Ws fun hK16 => Ws fun hK17 => za2 ?_
    refine sM hs rfl fun hs => s1 hs (zct rfl rfl) fun hs => za0 <| hK17 ?_
    refine zah hs rfl (fun hg45 => ?_) (fun hg45 => ?_)
    ·replace hm := oc_t hg45 hm
     refine zc0 <| hB14 _ _ ?_
     exact ⟨y17, v18, rw19, hm, hW20, hs.subs ⟨rfl, rfl, rfl, rfl, rfl, trivial⟩ (.cons _ (.cons_cons _ (.cons_cons _ (.refl _))))⟩
    replace hm := oc_f hg45 hm
    refine zaj <| hK16 <| Wq fun hK18 => s1 (v := pq b6 0) hs (za1 rfl (FO.of (off := 0) U30 rfl rfl ti28 (by decide))) fun hs => s1 (v := v1) hs (y_ld rfl U28 rfl (Cell.blk (.tail _ (.tail _ (.head _))) rfl)) fun hs => s1 (v := pq b42 4) hs (za1 rfl (FO.of (off := 4) U53 rfl rfl ti3 (by decide))) fun hs => s1 (v := .int .i64 (x30.Parent)) hs (y_ld rfl U3 rfl (Cell.blk (.head _) rfl)) fun hs => ?_
    obtain ⟨x46, hx47, hm⟩ := ob hm
    obtain ⟨r48, hr49, hq50, hi51, hb52⟩ := hW4.geti hx47
    obtain ⟨v53, rfl, ⟨rw54, hR55, hW56⟩⟩ := hq50
    refine s1 hs (zac hR3 rfl rfl hi51 hb52 U28 ti53) fun hs => s1 hs (zdn hR3.up rfl hr49 U53 rfl ti53) fun hs => zbl hs ti53 (.free rfl) (by decide) fun b58 _ _ hs => zb5 (i := 0) hs rfl rfl rfl ti53 ⟨rfl, rfl⟩ (AllC.arr (r := [.int .i64 (x46.Kind), .string (x46.Name), .string (x46.Text), v53, .int .i64 (x46.Parent), .int .i64 (x46.First), .int .i64 (x46.Last), .int .i64 (x46.Prev), .int .i64 (x46.Next)]) ⟨rfl, rfl, rfl, hR55.one, rfl, rfl, rfl, rfl, rfl, trivial⟩) (.free rfl) fun _ _ hs => za0 <| hK18 <| Ws fun hK19 => ?_
    refine zaq (fun a w => ∃ (y61 : (List Bool)) (v62 : Value) (rw63 : List (List Value)), zc7 n p0 y22 (zao n p0 k23) x30 x46 y61 = some res ∧ RW tBool f rw63 y61 ∧ St 159 w0 f (.blk b58 (.cells #[.int .i64 (x46.Kind), .string (x46.Name), .string (x46.Text), v53, .int .i64 (x46.Parent), .int .i64 (x46.First), .int .i64 (x46.Last), .int .i64 (x46.Prev), .int .i64 (x46.Next)] 53 (0,0)) :: .blk b42 (.cells #[.int .i64 (x30.Kind), .string (x30.Name), .string (x30.Text), v37, .int .i64 (x30.Parent), .int .i64 (x30.First), .int .i64 (x30.Last), .int .i64 (x30.Prev), .int .i64 (x30.Next)] 53 (0,0)) :: .row v62 4 1 rw63 :: .blk b6 (.cells #[v1] 30 (0,0)) :: L) [(1, pq b6 0),(3, v62),(5, pq b42 0),(6, pq b58 0),(34, v1),(35, .int .i64 ((p0.Nodes.length : Int))),(36, .int .i64 (y22))] a w) ?_ ?_
    ·clear hs hm
     rintro a w ⟨y61, v62, rw63, hm, hW64, hs⟩
     unfold zc7 at hm
     refine hK19 <| Ws fun hK20 => Ws fun hK21 => ?_
     refine zaq (fun a w => ∃ (y66 : Bool), zd4 n p0 y22 (zao n p0 k23) x30 x46 y61 y66 = some res ∧ St 159 w0 f (.blk b58 (.cells #[.int .i64 (x46.Kind), .string (x46.Name), .string (x46.Text), v53, .int .i64 (x46.Parent), .int .i64 (x46.First), .int .i64 (x46.Last), .int .i64 (x46.Prev), .int .i64 (x46.Next)] 53 (0,0)) :: .blk b42 (.cells #[.int .i64 (x30.Kind), .string (x30.Name), .string (x30.Text), v37, .int .i64 (x30.Parent), .int .i64 (x30.First), .int .i64 (x30.Last), .int .i64 (x30.Prev), .int .i64 (x30.Next)] 53 (0,0)) :: .row v62 4 1 rw63 :: .blk b6 (.cells #[v1] 30 (0,0)) :: L) [(1, pq b6 0),(3, v62),(5, pq b42 0),(6, pq b58 0),(34, v1),(35, .int .i64 ((p0.Nodes.length : Int))),(36, .int .i64 (y22)),(78, .bool (y66))] a w) ?_ ?_
     ·clear hs hm
      rintro a w ⟨y66, hm, hs⟩
      unfold zd4 at hm
      refine hK21 ?_
      refine zah hs rfl (fun hg67 => ?_) (fun hg67 => ?_)
      ·replace hm := oc_t hg67 hm
       refine Wq fun hK22 => sA hs rfl fun hs => za0 <| hK22 <| zax ?_
       obtain rfl := Option.some.inj hm
       refine RtV1 hs rfl (rv_t hs rfl) ?_
       exact ⟨rfl,((hs.subL (.cons _ (.cons _ (.cons _ (.cons _ (.refl _)))))).weak hle).cw⟩
      replace hm := oc_f hg67 hm
      refine zaj <| hK20 <| Ws fun hK23 => Wq fun hK24 => s1 (v := pq b42 0) hs (za1 rfl (FO.of (off := 0) U53 rfl rfl ti3 (by decide))) fun hs => s1 (v := .int .i64 (x30.Kind)) hs (y_ld rfl U3 rfl (Cell.blk (.tail _ (.head _)) rfl)) fun hs => s1 hs (zct rfl rfl) fun hs => za0 <| hK24 ?_
      refine zah hs rfl (fun hg68 => ?_) (fun hg68 => ?_)
      ·replace hm := oc_t hg68 hm
       refine Ws fun hK25 => Ws fun hK26 => ?_
       refine zaq (fun a w => ∃ (y69 : Bool), zdt y22 (zao n p0 k23) y61 y69 = some res ∧ St 159 w0 f (.row v62 4 1 rw63 :: .blk b6 (.cells #[v1] 30 (0,0)) :: L) [(1, pq b6 0),(3, v62),(34, v1),(35, .int .i64 ((p0.Nodes.length : Int))),(36, .int .i64 (y22)),(100, .bool (y69))] a w) ?_ ?_
       ·clear hs hm
        rintro a w ⟨y69, hm, hs⟩
        unfold zdt at hm
        refine hK26 ?_
        refine zah hs rfl (fun hg70 => ?_) (fun hg70 => ?_)
        ·replace hm := oc_t hg70 hm
         refine Wq fun hK27 => sA hs rfl fun hs => za0 <| hK27 <| zax ?_
         obtain rfl := Option.some.inj hm
         refine RtV1 hs rfl (rv_t hs rfl) ?_
         exact ⟨rfl,((hs.subL (.cons _ (.cons _ (.refl _)))).weak hle).cw⟩
        replace hm := oc_f hg70 hm
        refine zaj <| hK25 <| zc0 <| hB14 _ _ ?_
        exact ⟨y61, v62, rw63, hm, hW64, hs.sub ⟨rfl, rfl, rfl, rfl, rfl, trivial⟩⟩
       refine za2 <| s1 (v := pq b42 2) hs (za1 rfl (FO.of (off := 2) U53 rfl rfl ti9 (by decide))) fun hs => s1 (v := .string (x30.Text)) hs (y_ld rfl U9 rfl (Cell.blk (.tail _ (.head _)) rfl)) fun hs => ?_
       obtain ⟨x71, hx72, hm⟩ := ob hm
       refine s1 hs (zbi rfl has21 rfl (zkg n  hT0 hT1 hTT hx72)) fun hs => s1 (v := .bool ((!x71))) hs (zfc rfl) fun hs => sM hs rfl fun hs => ?_
       refine St.split hs (t := 86) rfl (fun hg73 hs => ?_) (fun hg73 hs => ?_)
       ·replace hm := oc_t hg73 hm
        refine s3 hs fun hs => s3 hs fun hs => s3 hs fun hs => s3 hs fun hs => s4 hs fun hs => s4 hs fun hs => s4 hs fun hs => s4 hs fun hs => s4 hs fun hs => s4 hs fun hs => ?_
        refine s4 hs fun hs => s4 hs fun hs => s3 hs fun hs => sP hs rfl rfl fun hs => za0 ?_
        exact ⟨true, hm, hs.subs ⟨rfl, rfl, rfl, rfl, rfl, rfl, trivial⟩ (.cons _ (.cons _ (.cons_cons _ (.cons_cons _ (.refl _)))))⟩
       replace hm := oc_f hg73 hm
       refine s2 (v := pq b42 7) hs (za1 rfl (FO.of (off := 7) U53 rfl rfl ti3 (by decide))) fun hs => s2 (v := .int .i64 (x30.Prev)) hs (y_ld rfl U3 rfl (Cell.blk (.tail _ (.head _)) rfl)) fun hs => s2 hs (zkf rfl rfl) fun hs => s2 (v := .bool (decide (0 ≤ x30.Prev))) hs (za3 rfl) fun hs => ?_
       refine St.split hs (t := 90) rfl (fun hg74 hs => ?_) (fun hg74 hs => ?_)
       ·replace hm := oc_t hg74 hm
        refine s2 (v := pq b6 0) hs (za1 rfl (FO.of (off := 0) U30 rfl rfl ti28 (by decide))) fun hs => s2 (v := v1) hs (y_ld rfl U28 rfl (Cell.blk (.tail _ (.tail _ (.tail _ (.head _)))) rfl)) fun hs => s2 (v := pq b42 7) hs (za1 rfl (FO.of (off := 7) U53 rfl rfl ti3 (by decide))) fun hs => s2 (v := .int .i64 (x30.Prev)) hs (y_ld rfl U3 rfl (Cell.blk (.tail _ (.head _)) rfl)) fun hs => ?_
        obtain ⟨x75, hx76, hm⟩ := ob hm
        obtain ⟨r77, hr78, hq79, hi80, hb81⟩ := hW4.geti hx76
        obtain ⟨v82, rfl, ⟨rw83, hR84, hW85⟩⟩ := hq79
        refine s2 hs (zac hR3 rfl rfl hi80 hb81 U28 ti53) fun hs => s2 (v := eaddr v1 9 x30.Prev.toNat 0) hs (zck (i := x30.Prev.toNat) (j := 0) hR3 rfl hb81 (FO.of (off := 0) U53 rfl rfl ti3 (by decide))) fun hs => s2 (v := .int .i64 (x75.Kind)) hs (zbm (i := x30.Prev.toNat) (j := 0) hR3.up rfl hr78 rfl U3 rfl) fun hs => s2 hs (zct rfl rfl) fun hs => s2 (v := .bool (decide (x75.Kind = 2))) hs (zaz rfl rfl) fun hs => sP hs rfl rfl fun hs => za0 ?_
        exact ⟨decide (x75.Kind = 2), hm, hs.subs ⟨rfl, rfl, rfl, rfl, rfl, rfl, trivial⟩ (.cons _ (.cons _ (.cons_cons _ (.cons_cons _ (.refl _)))))⟩
       replace hm := oc_f hg74 hm
       refine s3 hs fun hs => s3 hs fun hs => s3 hs fun hs => s3 hs fun hs => s3 hs fun hs => s3 hs fun hs => s3 hs fun hs => s3 hs fun hs => s2 (v := .bool (false)) hs (zaz rfl rfl) fun hs => sP hs rfl rfl fun hs => ?_
       refine za0 ?_
       exact ⟨false, hm, hs.subs ⟨rfl, rfl, rfl, rfl, rfl, rfl, trivial⟩ (.cons _ (.cons _ (.cons_cons _ (.cons_cons _ (.refl _)))))⟩
      replace hm := oc_f hg68 hm
      refine zaj <| hK23 <| Ws fun hK28 => Ws fun hK29 => ?_
      refine zaq (fun a w => ∃ (y87 : Bool), zbw n y22 (zao n p0 k23) x30 y61 y87 = some res ∧ St 159 w0 f (.blk b42 (.cells #[.int .i64 (x30.Kind), .string (x30.Name), .string (x30.Text), v37, .int .i64 (x30.Parent), .int .i64 (x30.First), .int .i64 (x30.Last), .int .i64 (x30.Prev), .int .i64 (x30.Next)] 53 (0,0)) :: .row v62 4 1 rw63 :: .blk b6 (.cells #[v1] 30 (0,0)) :: L) [(1, pq b6 0),(3, v62),(5, pq b42 0),(34, v1),(35, .int .i64 ((p0.Nodes.length : Int))),(36, .int .i64 (y22)),(128, .bool (y87))] a w) ?_ ?_
      ·clear hs hm
       rintro a w ⟨y87, hm, hs⟩
       unfold zbw at hm
       refine hK29 ?_
       refine zah hs rfl (fun hg88 => ?_) (fun hg88 => ?_)
       ·replace hm := oc_t hg88 hm
        refine Wq fun hK30 => sA hs rfl fun hs => za0 <| hK30 <| zax ?_
        obtain rfl := Option.some.inj hm
        refine RtV1 hs rfl (rv_t hs rfl) ?_
        exact ⟨rfl,((hs.subL (.cons _ (.cons _ (.cons _ (.refl _))))).weak hle).cw⟩
       replace hm := oc_f hg88 hm
       refine zaj <| hK28 <| Ws fun hK31 => Ws fun hK32 => ?_
       refine zaq (fun a w => ∃ (y89 : Bool), zds n y22 (zao n p0 k23) x30 y61 y89 = some res ∧ St 159 w0 f (.blk b42 (.cells #[.int .i64 (x30.Kind), .string (x30.Name), .string (x30.Text), v37, .int .i64 (x30.Parent), .int .i64 (x30.First), .int .i64 (x30.Last), .int .i64 (x30.Prev), .int .i64 (x30.Next)] 53 (0,0)) :: .row v62 4 1 rw63 :: .blk b6 (.cells #[v1] 30 (0,0)) :: L) [(1, pq b6 0),(3, v62),(5, pq b42 0),(34, v1),(35, .int .i64 ((p0.Nodes.length : Int))),(36, .int .i64 (y22)),(139, .bool (y89))] a w) ?_ ?_
       ·clear hs hm
        rintro a w ⟨y89, hm, hs⟩
        unfold zds at hm
        refine hK32 ?_
        refine zah hs rfl (fun hg90 => ?_) (fun hg90 => ?_)
        ·replace hm := oc_t hg90 hm
         refine Wq fun hK33 => sA hs rfl fun hs => za0 <| hK33 <| zax ?_
         obtain rfl := Option.some.inj hm
         refine RtV1 hs rfl (rv_t hs rfl) ?_
         exact ⟨rfl,((hs.subL (.cons _ (.cons _ (.cons _ (.refl _))))).weak hle).cw⟩
        replace hm := oc_f hg90 hm
        refine zaj <| hK31 <| Wq fun hK34 => s1 (v := pq b42 3) hs (za1 rfl (FO.of (off := 3) U53 rfl rfl ti43 (by decide))) fun hs => s1 (v := v37) hs (y_ld rfl U43 rfl (Cell.blk (.head _) rfl)) fun hs => s1 hs (zc3 hR39 hW40 rfl U43) fun hs => sM hs rfl fun hs => za0 <| hK34 ?_
        refine zaq (fun a w => zh5 y22 (zao n p0 k23) y61 = some res ∧ St 159 w0 f (.row v62 4 1 rw63 :: .blk b6 (.cells #[v1] 30 (0,0)) :: L) [(1, pq b6 0),(3, v62),(34, v1),(35, .int .i64 ((p0.Nodes.length : Int))),(36, .int .i64 (y22))] a w) ?_ ?_
        ·clear hs hm
         rintro a w ⟨hm, hs⟩
         unfold zh5 at hm
         exact ⟨y61, v62, rw63, hm, hW64, hs.sub ⟨rfl, rfl, rfl, rfl, rfl, trivial⟩⟩
        refine zam fun Qe35 hB35 hO35 => zd1 (fun (k : Nat) a w => ∃ (y91 : Int), zbp n y22 (zao n p0 k23) x30 y61 k y91 = some res ∧ St 159 w0 f (.row v62 4 1 rw63 :: .blk b6 (.cells #[v1] 30 (0,0)) :: L) [(1, pq b6 0),(3, v62),(34, v1),(35, .int .i64 ((p0.Nodes.length : Int))),(36, .int .i64 (y22)),(141, v37),(142, .int .i64 ((x30.Attrs.length : Int))),(143, .int .i64 (y91))] a w) (fun k => k) n ⟨0, hm, hs.subs ⟨rfl, rfl, rfl, rfl, rfl, rfl, rfl, rfl, trivial⟩ (.cons _ (.cons_cons _ (.cons_cons _ (.refl _))))⟩ ?_
        clear hs hm
        intro k
        rintro a w ⟨y91, hm, hs⟩
        intro K36 hK36
        cases k with
        | zero => simp [zbp] at hm
        | succ k92 =>
         rw [zbp] at hm
         refine Wq fun hK37 => s1 hs (zgq rfl rfl) fun hs => za0 <| hK37 <| Ws fun hK38 => ?_
         refine zah hs rfl (fun hg93 => ?_) (fun hg93 => ?_)
         ·replace hm := oc_t hg93 hm
          refine zaj <| hK38 <| Ws fun hK39 => zam fun Qe40 hB40 hO40 => Ws fun hK41 => za2 ?_
          obtain ⟨x94, hx95, hm⟩ := ob hm
          obtain ⟨r96, hr97, hq98, hi99, hb100⟩ := hW40.geti hx95
          obtain rfl : _ = ([.string (x94.Name), .string (x94.Value)] : List Value) := hq98
          refine s1 hs (zac hR39 rfl rfl hi99 hb100 U43 ti42) fun hs => s1 hs (zdn hR39.up rfl hr97 U42 rfl ti42) fun hs => zbl hs ti42 (.free rfl) (by decide) fun b101 _ _ hs => zb5 (i := 0) hs rfl rfl rfl ti42 ⟨rfl, rfl⟩ (AllC.arr (r := [.string (x94.Name), .string (x94.Value)]) ⟨rfl, rfl, trivial⟩) (.free rfl) fun _ _ hs => za0 <| hK41 <| Ws fun hK42 => ?_
          refine zaq (fun a w => ∃ (y103 : Bool), zee y91 (zbp n y22 (zao n p0 k23) x30 y61 k92) y103 = some res ∧ St 159 w0 f (.row v62 4 1 rw63 :: .blk b6 (.cells #[v1] 30 (0,0)) :: L) [(1, pq b6 0),(3, v62),(34, v1),(35, .int .i64 ((p0.Nodes.length : Int))),(36, .int .i64 (y22)),(141, v37),(142, .int .i64 ((x30.Attrs.length : Int))),(143, .int .i64 (y91)),(156, .bool (y103))] a w) ?_ ?_
          ·clear hs hm
           rintro a w ⟨y103, hm, hs⟩
           unfold zee at hm
           refine hK42 ?_
           refine zah hs rfl (fun hg104 => ?_) (fun hg104 => ?_)
           ·replace hm := oc_t hg104 hm
            refine Wq fun hK43 => sA hs rfl fun hs => za0 <| hK43 <| zax ?_
            obtain rfl := Option.some.inj hm
            refine RtV1 hs rfl (rv_t hs rfl) ?_
            exact ⟨rfl,((hs.subL (.cons _ (.cons _ (.refl _)))).weak hle).cw⟩
           replace hm := oc_f hg104 hm
           refine zaj <| hK39 <| za2 <| s1 hs (zdz rfl rfl rfl) fun hs => sM hs rfl fun hs => za0 ?_
           exact hK36 k92 _ _ (Nat.lt_succ_self _) ⟨(w64 (y91 + 1)), hm, hs.sub ⟨rfl, rfl, rfl, rfl, rfl, rfl, rfl, rfl, trivial⟩⟩
          refine za2 <| s1 (v := pq b101 0) hs (za1 rfl (FO.of (off := 0) U42 rfl rfl ti9 (by decide))) fun hs => s1 (v := .string (x94.Name)) hs (y_ld rfl U9 rfl (Cell.blk (.head _) rfl)) fun hs => ?_
          obtain ⟨x105, hx106, hm⟩ := ob hm
          refine s1 hs (zbi rfl has24 rfl (zlv n  hx106)) fun hs => s1 (v := .bool ((!x105))) hs (zfc rfl) fun hs => sM hs rfl fun hs => ?_
          refine St.split hs (t := 151) rfl (fun hg107 hs => ?_) (fun hg107 hs => ?_)
          ·replace hm := oc_t hg107 hm
           refine s3 hs fun hs => s3 hs fun hs => s3 hs fun hs => s3 hs fun hs => sP hs rfl rfl fun hs => za0 ?_
           exact ⟨true, hm, hs.subs ⟨rfl, rfl, rfl, rfl, rfl, rfl, rfl, rfl, rfl, trivial⟩ (.cons _ (.cons_cons _ (.cons_cons _ (.refl _))))⟩
          replace hm := oc_f hg107 hm
          refine s2 (v := pq b101 1) hs (za1 rfl (FO.of (off := 1) U42 rfl rfl ti9 (by decide))) fun hs => s2 (v := .string (x94.Value)) hs (y_ld rfl U9 rfl (Cell.blk (.head _) rfl)) fun hs => ?_
          obtain ⟨x108, hx109, hm⟩ := ob hm
          refine s2 hs (zbi rfl has21 rfl (zkg n  hT0 hT1 hTT hx109)) fun hs => s2 (v := .bool ((!x108))) hs (zfc rfl) fun hs => sP hs rfl rfl fun hs => za0 ?_
          exact ⟨(!x108), hm, hs.subs ⟨rfl, rfl, rfl, rfl, rfl, rfl, rfl, rfl, rfl, trivial⟩ (.cons _ (.cons_cons _ (.cons_cons _ (.refl _))))⟩
         replace hm := oc_f hg93 hm
         refine zc0 <| hB35 _ _ ?_
         exact ⟨hm, hs.sub ⟨rfl, rfl, rfl, rfl, rfl, trivial⟩⟩
       refine za2 <| sM hs rfl fun hs => s1 (v := pq b42 4) hs (za1 rfl (FO.of (off := 4) U53 rfl rfl ti3 (by decide))) fun hs => s1 (v := .int .i64 (x30.Parent)) hs (y_ld rfl U3 rfl (Cell.blk (.head _) rfl)) fun hs => ?_
       obtain ⟨x110, hx111, hm⟩ := ob hm
       obtain ⟨r112, hr113, hq114, hi115, hb116⟩ := hW64.geti hx111
       obtain rfl : _ = ([.bool (x110)] : List Value) := hq114
       refine s1 hs (zac (Rd.st hs (.tail _ (.head _))) rfl rfl hi115 hb116 U54 ti4) fun hs => s1 (v := .bool (x110)) hs (zbm (i := x30.Parent.toNat) (j := 0) (Rd.st hs (.tail _ (.head _))) rfl hr113 rfl U4 rfl) fun hs => sM hs rfl fun hs => ?_
       refine St.split hs (t := 134) rfl (fun hg117 hs => ?_) (fun hg117 hs => ?_)
       ·replace hm := oc_t hg117 hm
        refine zqp hs rfl rfl ?_
        refine zjv (parts := [(0, .const (.string (bs [100,105,118]))),(1, .const (.string (bs [104,49]))),(2, .const (.string (bs [108,105]))),(3, .const (.string (bs [112]))),(4, .const (.string (bs [116,97,98,108,101]))),(5, .const (.string (bs [117,108])))]) (us := [.string ((bs [100,105,118])), .string ((bs [104,49])), .string ((bs [108,105])), .string ((bs [112])), .string ((bs [116,97,98,108,101])), .string ((bs [117,108]))]) (rows := [[.string ((bs [100,105,118]))],[.string ((bs [104,49]))],[.string ((bs [108,105]))],[.string ((bs [112]))],[.string ((bs [116,97,98,108,101]))],[.string ((bs [117,108]))]]) hs rfl U47 ti9 (by decide) rfl rfl (by intro r hr; simp only [List.mem_cons, List.mem_nil_iff, or_false] at hr; rcases hr with rfl | rfl | rfl | rfl | rfl | rfl; exact AllC.row ⟨rfl, trivial⟩ rfl; exact AllC.row ⟨rfl, trivial⟩ rfl; exact AllC.row ⟨rfl, trivial⟩ rfl; exact AllC.row ⟨rfl, trivial⟩ rfl; exact AllC.row ⟨rfl, trivial⟩ rfl; exact AllC.row ⟨rfl, trivial⟩ rfl) fun v118 _ _ hs => ?_
        have hW119 : RW tStr f [[.string ((bs [100,105,118]))],[.string ((bs [104,49]))],[.string ((bs [108,105]))],[.string ((bs [112]))],[.string ((bs [116,97,98,108,101]))],[.string ((bs [117,108]))]] [(bs [100,105,118]),(bs [104,49]),(bs [108,105]),(bs [112]),(bs [116,97,98,108,101]),(bs [117,108])] := ⟨rfl, ⟨rfl, ⟨rfl, ⟨rfl, ⟨rfl, ⟨rfl, trivial⟩⟩⟩⟩⟩⟩
        generalize hgrw120 : ([[.string ((bs [100,105,118]))],[.string ((bs [104,49]))],[.string ((bs [108,105]))],[.string ((bs [112]))],[.string ((bs [116,97,98,108,101]))],[.string ((bs [117,108]))]] : List (List Value)) = rw120 at hs hW119; clear hgrw120
        refine s2 (v := pq b42 1) hs (za1 rfl (FO.of (off := 1) U53 rfl rfl ti9 (by decide))) fun hs => s2 (v := .string (x30.Name)) hs (y_ld rfl U9 rfl (Cell.blk (.tail _ (.head _)) rfl)) fun hs => ?_
        obtain ⟨x123, hx124, hm⟩ := ob hm
        refine syg hs (zdr (cap := []) rfl has19 rfl (fun w9 hw9 => callsP (Lr := [.row v118 9 1 rw120]) (Lf := .blk b42 (.cells #[.int .i64 (x30.Kind), .string (x30.Name), .string (x30.Text), v37, .int .i64 (x30.Parent), .int .i64 (x30.First), .int .i64 (x30.Last), .int .i64 (x30.Prev), .int .i64 (x30.Next)] 53 (0,0)) :: .row v62 4 1 rw63 :: .blk b6 (.cells #[v1] 30 (0,0)) :: L) (zal _ 0 rfl) hw9 (fun Lz w9 hw9 => lent0 hw9 (fun f9_0 w9 hle9_0 hRl0 hw9 => (zbs n ⟨rw120, hRl0, hW119.le hle9_0⟩ hx124) w0 _ w9 hw9)))) fun _ _ hs => sP hs rfl rfl fun hs => za0 ?_
        exact ⟨x123, hm, hs.subs ⟨rfl, rfl, rfl, rfl, rfl, rfl, rfl, trivial⟩ (.cons _ (.cons_cons _ (.cons_cons _ (.cons_cons _ (.refl _)))))⟩
       replace hm := oc_f hg117 hm
       refine s3 hs fun hs => s3 hs fun hs => s3 hs fun hs => s3 hs fun hs => sP hs rfl rfl fun hs => za0 ?_
       exact ⟨false, hm, hs.sub ⟨rfl, rfl, rfl, rfl, rfl, rfl, rfl, trivial⟩⟩
      refine zju hs mixed (by kernel_rfl) ?_; intro a he
      refine qy (v := pq b42 1) he (za1 rfl (FO.of (off := 1) U53 rfl rfl ti9 (by decide))) fun _ he => qy (v := .string (x30.Name)) he (y_ld rfl U9 rfl (Cell.blk (.tail _ (.head _)) rfl)) fun _ he => ?_
      obtain ⟨x125, hx126, hm⟩ := ob hm
      refine qy he (zbi rfl has22 rfl (zod n  hx126)) fun _ he => qy (v := .bool ((!x125))) he (zfc rfl) fun _ he => qy (v := .bool ((!x125))) he (za3 rfl) fun _ he => ?_
      refine Ev.split he (t := 105) rfl (fun hg127 hq => ?_) (fun hg127 hq => ?_)
      ·clear he; have he := hq; clear hq
       replace hm := oc_t hg127 hm
       refine qno he fun _ he => qno he fun _ he => qno he fun _ he => qno he fun _ he => qun he fun _ he => qun he fun _ he => qun he fun _ he => qno he fun _ he => qy (v := .bool (true)) he (zaz rfl rfl) fun _ he => qy (v := .bool (true)) he (za3 rfl) fun _ he => ?_
       refine qno he fun _ he => qno he fun _ he => qno he fun _ he => qno he fun _ he => qno he fun _ he => qun he fun _ he => qun he fun _ he => qun he fun _ he => qun he fun _ he => qun he fun _ he => ?_
       refine qun he fun _ he => qno he fun _ he => qy (v := .bool (true)) he (zaz rfl rfl) fun _ he => ?_
       refine zfw he ?_; clear he; (try clear hs); (try clear a); intro a w hs
       exact ⟨true, hm, hs.subs ⟨rfl, rfl, rfl, rfl, rfl, rfl, rfl, trivial⟩ (.cons _ (.cons_cons _ (.cons_cons _ (.cons_cons _ (.refl _)))))⟩
      clear he; have he := hq; clear hq
      replace hm := oc_f hg127 hm
      refine qyg (v := pq b42 1) he (za1 rfl (FO.of (off := 1) U53 rfl rfl ti9 (by decide))) fun _ he => qyg (v := .string (x30.Name)) he (y_ld rfl U9 rfl (Cell.blk (.tail _ (.head _)) rfl)) fun _ he => ?_
      obtain ⟨x128, hx129, hm⟩ := ob hm
      refine qyg he (zbi rfl has23 rfl (zj5 n  hx129)) fun _ he => qyg (v := .bool (x128)) he (za3 rfl) fun _ he => ?_
      refine Ev.split he (t := 109) rfl (fun hg130 hq => ?_) (fun hg130 hq => ?_)
      ·clear he; have he := hq; clear hq
       replace hm := oc_t hg130 hm
       refine qyg (v := pq b42 5) he (za1 rfl (FO.of (off := 5) U53 rfl rfl ti3 (by decide))) fun _ he => qyg (v := .int .i64 (x30.First)) he (y_ld rfl U3 rfl (Cell.blk (.tail _ (.head _)) rfl)) fun _ he => qyg he (zkf rfl rfl) fun _ he => qyg (v := .bool (decide (0 ≤ x30.First))) he (zaz rfl rfl) fun _ he => qy (v := .bool (decide (0 ≤ x30.First))) he (zaz rfl rfl) fun _ he => qy (v := .bool (decide (0 ≤ x30.First))) he (za3 rfl) fun _ he => ?_
       refine Ev.split he (t := 115) rfl (fun hg131 hq => ?_) (fun hg131 hq => ?_)
       ·clear he; have he := hq; clear hq
        replace hm := oc_t hg131 hm
        refine qno he fun _ he => qno he fun _ he => qno he fun _ he => qno he fun _ he => qno he fun _ he => qun he fun _ he => qun he fun _ he => qun he fun _ he => qun he fun _ he => qun he fun _ he => ?_
        refine qun he fun _ he => qno he fun _ he => qy (v := .bool (true)) he (zaz rfl rfl) fun _ he => ?_
        refine zfw he ?_; clear he; (try clear hs); (try clear a); intro a w hs
        exact ⟨true, hm, hs.subs ⟨rfl, rfl, rfl, rfl, rfl, rfl, rfl, trivial⟩ (.cons _ (.cons_cons _ (.cons_cons _ (.cons_cons _ (.refl _)))))⟩
       clear he; have he := hq; clear hq
       replace hm := oc_f hg131 hm
       refine qyg (v := pq b42 1) he (za1 rfl (FO.of (off := 1) U53 rfl rfl ti9 (by decide))) fun _ he => qyg (v := .string (x30.Name)) he (y_ld rfl U9 rfl (Cell.blk (.tail _ (.head _)) rfl)) fun _ he => ?_
       obtain ⟨x132, hx133, hm⟩ := ob hm
       refine qyg he (zbi rfl has20 rfl (zg8 n  hx133)) fun _ he => qyg he (zhr rfl rfl) fun _ he => qyg (v := .bool (decide (x132 ≠ (bs [])))) he (za3 rfl) fun _ he => ?_
       refine Ev.split he (t := 120) rfl (fun hg134 hq => ?_) (fun hg134 hq => ?_)
       ·clear he; have he := hq; clear hq
        replace hm := oc_t hg134 hm
        refine qyg (v := pq b42 1) he (za1 rfl (FO.of (off := 1) U53 rfl rfl ti9 (by decide))) fun _ he => qyg (v := .string (x30.Name)) he (y_ld rfl U9 rfl (Cell.blk (.tail _ (.head _)) rfl)) fun _ he => ?_
        obtain ⟨x135, hx136, hm⟩ := ob hm
        refine qyg he (zbi rfl has20 rfl (zg8 n  hx136)) fun _ he => qyg (v := pq b58 1) he (za1 rfl (FO.of (off := 1) U53 rfl rfl ti9 (by decide))) fun _ he => qyg (v := .string (x46.Name)) he (y_ld rfl U9 rfl (Cell.blk (.head _) rfl)) fun _ he => qyg he (zhr rfl rfl) fun _ he => qyg (v := .bool (decide (x135 ≠ x46.Name))) he (zaz rfl rfl) fun _ he => qy (v := .bool (decide (x135 ≠ x46.Name))) he (zaz rfl rfl) fun _ he => ?_
        refine zfw he ?_; clear he; (try clear hs); (try clear a); intro a w hs
        exact ⟨decide (x135 ≠ x46.Name), hm, hs.subs ⟨rfl, rfl, rfl, rfl, rfl, rfl, rfl, trivial⟩ (.cons _ (.cons_cons _ (.cons_cons _ (.cons_cons _ (.refl _)))))⟩
       clear he; have he := hq; clear hq
       replace hm := oc_f hg134 hm
       refine qno he fun _ he => qno he fun _ he => qno he fun _ he => qno he fun _ he => qno he fun _ he => qno he fun _ he => qyg (v := .bool (false)) he (zaz rfl rfl) fun _ he => qy (v := .bool (false)) he (zaz rfl rfl) fun _ he => ?_
       refine zfw he ?_; clear he; (try clear hs); (try clear a); intro a w hs
       exact ⟨false, hm, hs.subs ⟨rfl, rfl, rfl, rfl, rfl, rfl, rfl, trivial⟩ (.cons _ (.cons_cons _ (.cons_cons _ (.cons_cons _ (.refl _)))))⟩
      clear he; have he := hq; clear hq
      replace hm := oc_f hg130 hm
      refine qno he fun _ he => qno he fun _ he => qno he fun _ he => qyg (v := .bool (false)) he (zaz rfl rfl) fun _ he => qy (v := .bool (false)) he (zaz rfl rfl) fun _ he => qy (v := .bool (false)) he (za3 rfl) fun _ he => qyg (v := pq b42 1) he (za1 rfl (FO.of (off := 1) U53 rfl rfl ti9 (by decide))) fun _ he => qyg (v := .string (x30.Name)) he (y_ld rfl U9 rfl (Cell.blk (.tail _ (.head _)) rfl)) fun _ he => ?_
      obtain ⟨x137, hx138, hm⟩ := ob hm
      refine qyg he (zbi rfl has20 rfl (zg8 n  hx138)) fun _ he => qyg he (zhr rfl rfl) fun _ he => qyg (v := .bool (decide (x137 ≠ (bs [])))) he (za3 rfl) fun _ he => ?_
      refine Ev.split he (t := 120) rfl (fun hg139 hq => ?_) (fun hg139 hq => ?_)
      ·clear he; have he := hq; clear hq
       replace hm := oc_t hg139 hm
       refine qyg (v := pq b42 1) he (za1 rfl (FO.of (off := 1) U53 rfl rfl ti9 (by decide))) fun _ he => qyg (v := .string (x30.Name)) he (y_ld rfl U9 rfl (Cell.blk (.tail _ (.head _)) rfl)) fun _ he => ?_
       obtain ⟨x140, hx141, hm⟩ := ob hm
       refine qyg he (zbi rfl has20 rfl (zg8 n  hx141)) fun _ he => qyg (v := pq b58 1) he (za1 rfl (FO.of (off := 1) U53 rfl rfl ti9 (by decide))) fun _ he => qyg (v := .string (x46.Name)) he (y_ld rfl U9 rfl (Cell.blk (.head _) rfl)) fun _ he => qyg he (zhr rfl rfl) fun _ he => qyg (v := .bool (decide (x140 ≠ x46.Name))) he (zaz rfl rfl) fun _ he => qy (v := .bool (decide (x140 ≠ x46.Name))) he (zaz rfl rfl) fun _ he => ?_
       refine zfw he ?_; clear he; (try clear hs); (try clear a); intro a w hs
       exact ⟨decide (x140 ≠ x46.Name), hm, hs.subs ⟨rfl, rfl, rfl, rfl, rfl, rfl, rfl, trivial⟩ (.cons _ (.cons_cons _ (.cons_cons _ (.cons_cons _ (.refl _)))))⟩
      clear he; have he := hq; clear hq
      replace hm := oc_f hg139 hm
      refine qno he fun _ he => qno he fun _ he => qno he fun _ he => qno he fun _ he => qno he fun _ he => qno he fun _ he => qyg (v := .bool (false)) he (zaz rfl rfl) fun _ he => qy (v := .bool (false)) he (zaz rfl rfl) fun _ he => ?_
      refine zfw he ?_; clear he; (try clear hs); (try clear a); intro a w hs
      exact ⟨false, hm, hs.subs ⟨rfl, rfl, rfl, rfl, rfl, rfl, rfl, trivial⟩ (.cons _ (.cons_cons _ (.cons_cons _ (.cons_cons _ (.refl _)))))⟩
     have hsD := hs.subL (L' := .blk b58 (.cells #[.int .i64 (x46.Kind), .string (x46.Name), .string (x46.Text), v53, .int .i64 (x46.Parent), .int .i64 (x46.First), .int .i64 (x46.Last), .int .i64 (x46.Prev), .int .i64 (x46.Next)] 53 (0,0)) :: .blk b42 (.cells #[.int .i64 (x30.Kind), .string (x30.Name), .string (x30.Text), v37, .int .i64 (x30.Parent), .int .i64 (x30.First), .int .i64 (x30.Last), .int .i64 (x30.Prev), .int .i64 (x30.Next)] 53 (0,0)) :: []) (.cons_cons _ (.cons_cons _ (.cons _ (.cons _ (List.nil_sublist _)))))
     have hbd142 := Fz.le.refl f
     refine zj2 hs (.blk b58 (.cells #[.int .i64 (x46.Kind), .string (x46.Name), .string (x46.Text), v53, .int .i64 (x46.Parent), .int .i64 (x46.First), .int .i64 (x46.Last), .int .i64 (x46.Prev), .int .i64 (x46.Next)] 53 (0,0)) :: .blk b42 (.cells #[.int .i64 (x30.Kind), .string (x30.Name), .string (x30.Text), v37, .int .i64 (x30.Parent), .int .i64 (x30.First), .int .i64 (x30.Last), .int .i64 (x30.Prev), .int .i64 (x30.Next)] 53 (0,0)) :: []) [] (.look 1 (.look 2 (.any [0] (fun _ => .any [3] (fun _ => .look 4 (.look 5 (.look 6 (.look 7 (.look 8 (.look 9 (.look 10 (.look 11 (.look 12 (.look 13 (.look 14 (.look 15 (.look 16 (.done)))))))))))))))))) mixed (by kernel_rfl) fun _ he => uy (v := pq b58 1) 1 he rfl (za1 rfl (FO.of (off := 1) U53 rfl rfl ti9 (by decide))) fun _ he => uy (v := .string (x46.Name)) 2 he rfl (y_ld rfl U9 rfl (Cell.blk (.head _) rfl)) fun _ he => ?_
     refine zeh he rfl ?_; clear he; (try clear a); intro a w hs
     refine zjv (parts := [(0, .const (.string (bs [116,97,98,108,101]))),(1, .const (.string (bs [116,114]))),(2, .const (.string (bs [117,108])))]) (us := [.string ((bs [116,97,98,108,101])), .string ((bs [116,114])), .string ((bs [117,108]))]) (rows := [[.string ((bs [116,97,98,108,101]))],[.string ((bs [116,114]))],[.string ((bs [117,108]))]]) hs rfl U47 ti9 (by decide) rfl rfl (by intro r hr; simp only [List.mem_cons, List.mem_nil_iff, or_false] at hr; rcases hr with rfl | rfl | rfl; exact AllC.row ⟨rfl, trivial⟩ rfl; exact AllC.row ⟨rfl, trivial⟩ rfl; exact AllC.row ⟨rfl, trivial⟩ rfl) fun v143 _ _ hs => ?_
     have hW144 : RW tStr f [[.string ((bs [116,97,98,108,101]))],[.string ((bs [116,114]))],[.string ((bs [117,108]))]] [(bs [116,97,98,108,101]),(bs [116,114]),(bs [117,108])] := ⟨rfl, ⟨rfl, ⟨rfl, trivial⟩⟩⟩
     generalize hgrw145 : ([[.string ((bs [116,97,98,108,101]))],[.string ((bs [116,114]))],[.string ((bs [117,108]))]] : List (List Value)) = rw145 at hs hW144; clear hgrw145
     have ho148 : v143.oneCell' = true := hs.one (i := 0) rfl
     refine uon hs fun _ he => ?_
     refine zeh he rfl ?_; clear he; (try clear a); intro a w hs
     obtain ⟨x149, hx150, hm⟩ := ob hm
     refine sy hs (zdr (cap := []) rfl has19 rfl (fun w9 hw9 => callsP (Lr := [.row v143 9 1 rw145]) (Lf := .blk b58 (.cells #[.int .i64 (x46.Kind), .string (x46.Name), .string (x46.Text), v53, .int .i64 (x46.Parent), .int .i64 (x46.First), .int .i64 (x46.Last), .int .i64 (x46.Prev), .int .i64 (x46.Next)] 53 (0,0)) :: .blk b42 (.cells #[.int .i64 (x30.Kind), .string (x30.Name), .string (x30.Text), v37, .int .i64 (x30.Parent), .int .i64 (x30.First), .int .i64 (x30.Last), .int .i64 (x30.Prev), .int .i64 (x30.Next)] 53 (0,0)) :: .row v62 4 1 rw63 :: .blk b6 (.cells #[v1] 30 (0,0)) :: L) (zal _ 0 rfl) hw9 (fun Lz w9 hw9 => lent0 hw9 (fun f9_0 w9 hle9_0 hRl0 hw9 => (zbs n ⟨rw145, hRl0, hW144.le hle9_0⟩ hx150) w0 _ w9 hw9)))) fun _ _ hs => uon hs fun _ he => uy (v := .bool (x149)) 4 he rfl (za3 rfl) fun _ he => ?_
     refine Ev.split he (t := 66) rfl (fun hg151 hq => ?_) (fun hg151 hq => ?_)
     ·clear he; have he := hq; clear hq
      replace hm := oc_t hg151 hm
      refine uyg (v := pq b42 0) 5 he rfl (za1 rfl (FO.of (off := 0) U53 rfl rfl ti3 (by decide))) fun _ he => uyg (v := .int .i64 (x30.Kind)) 6 he rfl (y_ld rfl U3 rfl (Cell.blk (.tail _ (.head _)) rfl)) fun _ he => uyg 7 he rfl (zct rfl rfl) fun _ he => uyg (v := .bool (decide (x30.Kind = 2))) 8 he rfl (za3 rfl) fun _ he => ?_
      refine Ev.split he (t := 70) rfl (fun hg152 hq => ?_) (fun hg152 hq => ?_)
      ·clear he; have he := hq; clear hq
       replace hm := oc_t hg152 hm
       refine uno 9 he rfl fun _ he => uno 10 he rfl fun _ he => uno 11 he rfl fun _ he => uno 12 he rfl fun _ he => uno 13 he rfl fun _ he => uno 14 he rfl fun _ he => uyg (v := .bool (true)) 15 he rfl (zaz rfl rfl) fun _ he => uy (v := .bool (true)) 16 he rfl (zaz rfl rfl) fun _ he => ?_
       refine zmg he ?_; clear he; (try clear a); intro w hs; try clear hsD
       exact ⟨true, hm, hs.subs ⟨rfl, rfl, rfl, rfl, rfl, rfl, rfl, rfl, trivial⟩ (.cons _ (.cons_cons _ (.cons_cons _ (.cons_cons _ (.cons_cons _ (.refl _))))))⟩
      clear he; have he := hq; clear hq
      replace hm := oc_f hg152 hm
      refine uyg (v := pq b42 1) 9 he rfl (za1 rfl (FO.of (off := 1) U53 rfl rfl ti9 (by decide))) fun _ he => uyg (v := .string (x30.Name)) 10 he rfl (y_ld rfl U9 rfl (Cell.blk (.tail _ (.head _)) rfl)) fun _ he => ?_
      obtain ⟨x153, hx154, hm⟩ := ob hm
      refine ucallg 11 he rfl rfl has20 rfl (fun f9 L9 w9 hfc _ hw9 => (zg8 n  hx154) w0 L9 w9 hw9) fun _ he => uyg (v := pq b58 1) 12 he rfl (za1 rfl (FO.of (off := 1) U53 rfl rfl ti9 (by decide))) fun _ he => uyg (v := .string (x46.Name)) 13 he rfl (y_ld rfl U9 rfl (Cell.blk (.head _) rfl)) fun _ he => uyg 14 he rfl (zhr rfl rfl) fun _ he => uyg (v := .bool (decide (x153 ≠ x46.Name))) 15 he rfl (zaz rfl rfl) fun _ he => uy (v := .bool (decide (x153 ≠ x46.Name))) 16 he rfl (zaz rfl rfl) fun _ he => ?_
      refine zmg he ?_; clear he; (try clear a); intro w hs; try clear hsD
      exact ⟨decide (x153 ≠ x46.Name), hm, hs.subs ⟨rfl, rfl, rfl, rfl, rfl, rfl, rfl, rfl, trivial⟩ (.cons _ (.cons_cons _ (.cons_cons _ (.cons_cons _ (.cons_cons _ (.refl _))))))⟩
     clear he; have he := hq; clear hq
     replace hm := oc_f hg151 hm
     refine uno 5 he rfl fun _ he => uno 6 he rfl fun _ he => uno 7 he rfl fun _ he => uno 8 he rfl fun _ he => uun 9 he rfl fun _ he => uun 10 he rfl fun _ he => uun 11 he rfl fun _ he => uun 12 he rfl fun _ he => uun 13 he rfl fun _ he => uun 14 he rfl fun _ he => ?_
     refine uno 15 he rfl fun _ he => uy (v := .bool (false)) 16 he rfl (zaz rfl rfl) fun _ he => ?_
     refine zmg he ?_; clear he; (try clear a); intro w hs; try clear hsD
     exact ⟨false, hm, hs.subs ⟨rfl, rfl, rfl, rfl, rfl, rfl, rfl, rfl, trivial⟩ (.cons _ (.cons_cons _ (.cons_cons _ (.cons_cons _ (.cons_cons _ (.refl _))))))⟩
    refine za2 <| sM hs rfl fun hs => sM hs rfl fun hs => sM hs rfl fun hs => s1 (v := pq b42 4) hs (za1 rfl (FO.of (off := 4) U53 rfl rfl ti3 (by decide))) fun hs => s1 (v := .int .i64 (x30.Parent)) hs (y_ld rfl U3 rfl (Cell.blk (.tail _ (.head _)) rfl)) fun hs => ?_
    obtain ⟨x155, hx156, hm⟩ := ob hm
    obtain ⟨r157, hr158, hq159, hi160, hb161⟩ := hW20.geti hx156
    obtain rfl : _ = ([.bool (x155)] : List Value) := hq159
    refine s1 hs (zac (Rd.st hs (.tail _ (.tail _ (.head _)))) rfl rfl hi160 hb161 U54 ti4) fun hs => s1 (v := .bool (x155)) hs (zbm (i := x30.Parent.toNat) (j := 0) (Rd.st hs (.tail _ (.tail _ (.head _)))) rfl hr158 rfl U4 rfl) fun hs => sM hs rfl fun hs => ?_
    refine St.split hs (t := 56) rfl (fun hg162 hs => ?_) (fun hg162 hs => ?_)
    ·replace hm := oc_t hg162 hm
     refine s3 hs fun hs => s3 hs fun hs => s3 hs fun hs => sP hs rfl rfl fun hs => ?_
     obtain ⟨x163, hx164, hm⟩ := ob hm
     obtain ⟨r165, hr166, hq167, hi168, hb169⟩ := hW20.geti hx164
     obtain rfl : _ = ([.bool (x163)] : List Value) := hq167
     refine s1 hs (zac (Rd.st hs (.tail _ (.tail _ (.head _)))) rfl rfl hi168 hb169 U54 ti4) fun hs => ?_
     obtain ⟨x170, hx171, hm⟩ := ob hm
     have hex170 := zgv hx171
     have hW173 := RW.set (i := y22.toNat) (r := [.bool (true)]) (x := (true : Bool)) hW20 (rfl); rw [hex170] at hW173
     refine zei (i := 2) (j := 0) (m := y22.toNat) hs rfl rfl rfl hr166 (by decide) ti4 rfl (.free rfl) fun _ _ hs => ?_
     replace hs : St _ _ _ (.blk b58 (.cells #[.int .i64 (x46.Kind), .string (x46.Name), .string (x46.Text), v53, .int .i64 (x46.Parent), .int .i64 (x46.First), .int .i64 (x46.Last), .int .i64 (x46.Prev), .int .i64 (x46.Next)] 53 (0,0)) :: .blk b42 (.cells #[.int .i64 (x30.Kind), .string (x30.Name), .string (x30.Text), v37, .int .i64 (x30.Parent), .int .i64 (x30.First), .int .i64 (x30.Last), .int .i64 (x30.Prev), .int .i64 (x30.Next)] 53 (0,0)) :: .row v18 4 1 (rw19.set y22.toNat [.bool (true)]) :: .blk b6 (.cells #[v1] 30 (0,0)) :: L) _ _ _ := hs
     generalize hgrw172 : rw19.set y22.toNat [.bool (true)] = rw172 at hs hW173; clear hgrw172
     refine za0 ?_
     exact ⟨x170, v18, rw172, hm, hW173, hs.sub ⟨rfl, rfl, rfl, rfl, rfl, rfl, rfl, trivial⟩⟩
    replace hm := oc_f hg162 hm
    refine s2 (v := pq b42 1) hs (za1 rfl (FO.of (off := 1) U53 rfl rfl ti9 (by decide))) fun hs => s2 (v := .string (x30.Name)) hs (y_ld rfl U9 rfl (Cell.blk (.tail _ (.head _)) rfl)) fun hs => s2 hs (zcs rfl rfl) fun hs => sP hs rfl rfl fun hs => ?_
    obtain ⟨x175, hx176, hm⟩ := ob hm
    obtain ⟨r177, hr178, hq179, hi180, hb181⟩ := hW20.geti hx176
    obtain rfl : _ = ([.bool (x175)] : List Value) := hq179
    refine s1 hs (zac (Rd.st hs (.tail _ (.tail _ (.head _)))) rfl rfl hi180 hb181 U54 ti4) fun hs => ?_
    obtain ⟨x182, hx183, hm⟩ := ob hm
    have hex182 := zgv hx183
    have hW185 := RW.set (i := y22.toNat) (r := [.bool (decide (x30.Name = (bs [112])))]) (x := ((decide (x30.Name = (bs [112]))) : Bool)) hW20 (rfl); rw [hex182] at hW185
    refine zei (i := 2) (j := 0) (m := y22.toNat) hs rfl rfl rfl hr178 (by decide) ti4 rfl (.free rfl) fun _ _ hs => ?_
    replace hs : St _ _ _ (.blk b58 (.cells #[.int .i64 (x46.Kind), .string (x46.Name), .string (x46.Text), v53, .int .i64 (x46.Parent), .int .i64 (x46.First), .int .i64 (x46.Last), .int .i64 (x46.Prev), .int .i64 (x46.Next)] 53 (0,0)) :: .blk b42 (.cells #[.int .i64 (x30.Kind), .string (x30.Name), .string (x30.Text), v37, .int .i64 (x30.Parent), .int .i64 (x30.First), .int .i64 (x30.Last), .int .i64 (x30.Prev), .int .i64 (x30.Next)] 53 (0,0)) :: .row v18 4 1 (rw19.set y22.toNat [.bool (decide (x30.Name = (bs [112])))]) :: .blk b6 (.cells #[v1] 30 (0,0)) :: L) _ _ _ := hs
    generalize hgrw184 : rw19.set y22.toNat [.bool (decide (x30.Name = (bs [112])))] = rw184 at hs hW185; clear hgrw184
    refine za0 ?_
    exact ⟨x182, v18, rw184, hm, hW185, hs.sub ⟨rfl, rfl, rfl, rfl, rfl, rfl, rfl, trivial⟩⟩
   replace hm := oc_f hg24 hm
   refine zc0 <| hB9 _ _ ?_
   exact ⟨hm, hs.subs trivial (.cons _ (.cons _ (.refl _)))⟩
 refine za2 <| s1 hs (zj3 rfl U30 rfl ti30 (.head _) rfl) fun hs => ?_
 obtain ⟨x187, hx188, hm⟩ := ob hm
 refine s1 hs (zbi rfl has18 rfl (zkt n ⟨_, rfl, ⟨rw2, hR3, hW4⟩⟩ hx188)) fun hs => s1 hs (zeo rfl rfl) fun hs => sM hs rfl fun hs => ?_
 refine St.split hs (t := 12) rfl (fun hg189 hs => ?_) (fun hg189 hs => ?_)
 ·replace hm := oc_t hg189 hm
  refine s3 hs fun hs => s3 hs fun hs => s3 hs fun hs => s3 hs fun hs => s3 hs fun hs => s3 hs fun hs => sP hs rfl rfl fun hs => sM hs rfl fun hs => s3 hs fun hs => s3 hs fun hs => ?_
  refine s3 hs fun hs => s3 hs fun hs => s3 hs fun hs => s3 hs fun hs => s3 hs fun hs => sP hs rfl rfl fun hs => za0 ?_
  exact ⟨true, hm, hs.sub ⟨rfl, rfl, trivial⟩⟩
 replace hm := oc_f hg189 hm
 refine s2 (v := pq b6 0) hs (za1 rfl (FO.of (off := 0) U30 rfl rfl ti28 (by decide))) fun hs => s2 (v := v1) hs (y_ld rfl U28 rfl (Cell.blk (.head _) rfl)) fun hs => ?_
 obtain ⟨x190, hx191, hm⟩ := ob hm
 obtain ⟨r192, hr193, hq194, hi195, hb196⟩ := hW4.geti hx191
 obtain ⟨v197, rfl, ⟨rw198, hR199, hW200⟩⟩ := hq194
 refine s2 hs (zac hR3 rfl rfl hi195 hb196 U28 ti53) fun hs => s2 (v := eaddr v1 9 ((0 : Int).toNat) 1) hs (zck (i := (0 : Int).toNat) (j := 0) hR3 rfl hb196 (FO.of (off := 1) U53 rfl rfl ti9 (by decide))) fun hs => s2 (v := .string (x190.Name)) hs (zbm (i := (0 : Int).toNat) (j := 1) hR3.up rfl hr193 rfl U9 rfl) fun hs => s2 hs (zhr rfl rfl) fun hs => sP hs rfl rfl fun hs => sM hs rfl fun hs => ?_
 refine St.split hs (t := 20) rfl (fun hg202 hs => ?_) (fun hg202 hs => ?_)
 ·replace hm := oc_t hg202 hm
  refine s3 hs fun hs => s3 hs fun hs => s3 hs fun hs => s3 hs fun hs => s3 hs fun hs => s3 hs fun hs => s3 hs fun hs => sP hs rfl rfl fun hs => za0 ?_
  exact ⟨true, hm, hs.sub ⟨rfl, rfl, trivial⟩⟩
 replace hm := oc_f hg202 hm
 refine s2 (v := pq b6 0) hs (za1 rfl (FO.of (off := 0) U30 rfl rfl ti28 (by decide))) fun hs => s2 (v := v1) hs (y_ld rfl U28 rfl (Cell.blk (.head _) rfl)) fun hs => ?_
 obtain ⟨x203, hx204, hm⟩ := ob hm
 obtain ⟨r205, hr206, hq207, hi208, hb209⟩ := hW4.geti hx204
 obtain ⟨v210, rfl, ⟨rw211, hR212, hW213⟩⟩ := hq207
 refine s2 hs (zac hR3 rfl rfl hi208 hb209 U28 ti53) fun hs => s2 (v := eaddr v1 9 ((0 : Int).toNat) 3) hs (zck (i := (0 : Int).toNat) (j := 0) hR3 rfl hb209 (FO.of (off := 3) U53 rfl rfl ti43 (by decide))) fun hs => s2 (v := v210) hs (zbm (i := (0 : Int).toNat) (j := 3) hR3.up rfl hr206 rfl U43 rfl) fun hs => s2 hs (zc3 hR212 hW213 rfl U43) fun hs => s2 hs (zhq rfl rfl) fun hs => sP hs rfl rfl fun hs => za0 ?_
 exact ⟨decide (0 < (x203.Attrs.length : Int)), hm, hs.sub ⟨rfl, rfl, trivial⟩⟩
end Go.Proofs.YtpfdbeafdjnbnaaGreatDoor
