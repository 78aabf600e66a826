/-
  Walks and laws of this seat.
-/
import Derived.Test.YtpfdbeafdjnbnaaGreatDoorBash
import Derived.Test.YtpfdbeafdjnbnaaGreatDoorX0
import Derived.Test.YtpfdbeafdjnbnaaGreatDoorRows
namespace Go.Proofs.YtpfdbeafdjnbnaaGreatDoor
set_option linter.unusedVariables false
set_option linter.unusedSimpArgs false
set_option linter.unusedSectionVars false
set_option maxHeartbeats 4000000
set_option maxRecDepth 100000
open Go.RowKit Go.Sl
def zmt (_n : Nat) (p0 : zaa) (p1 : Int) : Option Bool :=
  some ((decide (0 ≤ p1)) && (decide (p1 < (p0.Nodes.length : Int))))
theorem zp7 (n : Nat) {f : Fz} {p0 : zaa} {a0 : List Value} {p1 : Int} {res : Bool} (h0 : zcz.R f a0 p0) (hm : zmt n p0 p1 = some res) : Gives Tryz.prog 41 [.agg a0.toArray, .int .i64 p1] f (.bool res) := by
 unfold zmt at hm
 intro w0 L w hC
 obtain ⟨v1, rfl, ⟨rw2, hR3, hW4⟩⟩ := h0
 refine enter Tryz.func41 rfl Tryz.ntmps41 (by simp) hC fun a hs => ?_
 have hle := Fz.le.refl f
 refine Wq fun hK1 => sbox hs rfl fun b6 _ _ hs => sA hs rfl fun hs => za0 <| hK1 <| Ws fun hK2 => ?_
 refine zaq (fun a w => St 14 w0 f (.blk b6 (.cells #[v1] 30 (0,0)) :: L) [(4, .bool (((decide (0 ≤ p1)) && (decide (p1 < (p0.Nodes.length : Int))))))] a w) ?_ ?_
 ·clear hs; intro a w hs
  refine hK2 <| zax ?_
  obtain rfl := Option.some.inj hm
  refine RtV1 hs rfl (rv_t hs rfl) ?_
  exact ⟨rfl,((hs.subL (.cons _ (.refl _))).weak hle).cw⟩
 refine za2 <| sM hs rfl fun hs => s1 hs (zkf rfl rfl) fun hs => sM hs rfl fun hs => ?_
 refine St.split hs (t := 7) rfl (fun hg8 hs => ?_) (fun hg8 hs => ?_)
 ·refine s2 (v := .int .i64 (p1)) hs (za3 rfl) fun hs => s2 (v := pq b6 0) hs (za1 rfl (FO.of (off := 0) U30 rfl rfl ti28 (by decide))) fun hs => s2 (v := v1) hs (y_ld rfl U28 rfl (Cell.blk (.head _) rfl)) fun hs => s2 hs (zc3 hR3 hW4 rfl U28) fun hs => s2 hs (zgq rfl rfl) fun hs => sP hs rfl rfl fun hs => sA hs rfl fun hs => za0 ?_
  exact hs.sub ⟨(lkB (((zj0 hg8).trans rfl)) rfl), trivial⟩
 refine s3 hs fun hs => s3 hs fun hs => s3 hs fun hs => s3 hs fun hs => s3 hs fun hs => sP hs rfl rfl fun hs => sA hs rfl fun hs => za0 ?_
 exact hs.sub ⟨(lkB (((zmd hg8).trans rfl)) rfl), trivial⟩
def zkr : Option Bool :=
  some true
def zge (y17 : (List (ByteArray × Int))) (y21 : Int) (lp22 : (List (ByteArray × Int)) → Int → Option Bool) (x24 : zab) (y33 : Bool) : Option Bool :=
  (bif y33 then some false else
  lp22 (mputM y17 x24.Name (w64 (((mgetM y17 x24.Name).getD 0) + 1))) (w64 (y21 + 1)))
def zew (p0 : zae) : Nat → (List (ByteArray × Int)) → Int → Option Bool
  | 0, _, _ => none
  | k22 + 1, y17, y21 =>
  (bif (decide (y21 < (p0.Attrs.length : Int))) then (geti p0.Attrs y21).bind fun x24 =>
  (bif (decide (x24.Name = (bs []))) then zge y17 y21 (zew p0 k22) x24 true else
  zge y17 y21 (zew p0 k22) x24 (decide (0 < ((mgetM y17 x24.Name).getD 0)))) else
  zkr)
def zks (n : Nat) (p0 : zae) : Option Bool :=
  (bif (decide (p0.Kind = 2)) then some ((decide (p0.Name = (bs []))) && ((decide (p0.Text ≠ (bs []))) && ((decide ((p0.Attrs.length : Int) = 0)) && ((decide (p0.First = (-1))) && (decide (p0.Last = (-1))))))) else
  (bif ((decide (p0.Kind ≠ 1)) || ((decide (p0.Name = (bs []))) || ((decide (p0.Text ≠ (bs []))) || (decide (64 < (p0.Attrs.length : Int)))))) then some false else
  zew p0 n ([] : List (ByteArray × Int)) 0))
theorem zrk (n : Nat) {f : Fz} {p0 : zae} {a0 : List Value} {res : Bool} (h0 : zcr.R f a0 p0) (hm : zks n p0 = some res) : Gives Tryz.prog 63 [.agg a0.toArray] f (.bool res) := by
 unfold zks at hm
 intro w0 L w hC
 obtain ⟨v1, rfl, ⟨rw2, hR3, hW4⟩⟩ := h0
 refine enter Tryz.func63 rfl Tryz.ntmps63 (by simp) hC fun a hs => ?_
 have hle := Fz.le.refl f
 refine Wq fun hK1 => sbox hs rfl fun b6 _ _ hs => sA hs rfl fun hs => za0 <| hK1 <| Ws fun hK2 => Wq fun hK3 => s1 (v := pq b6 0) hs (za1 rfl (FO.of (off := 0) U53 rfl rfl ti3 (by decide))) fun hs => ?_
 refine s1 (v := .int .i64 (p0.Kind)) hs (y_ld rfl U3 rfl (Cell.blk (.head _) rfl)) fun hs => s1 hs (zct rfl rfl) fun hs => za0 <| hK3 ?_
 refine zah hs rfl (fun hg8 => ?_) (fun hg8 => ?_)
 ·replace hm := oc_t hg8 hm
  refine Ws fun hK4 => ?_
  refine zaq (fun a w => St 76 w0 f (.blk b6 (.cells #[.int .i64 (p0.Kind), .string (p0.Name), .string (p0.Text), v1, .int .i64 (p0.Parent), .int .i64 (p0.First), .int .i64 (p0.Last), .int .i64 (p0.Prev), .int .i64 (p0.Next)] 53 (0,0)) :: L) [(2, .bool (((decide (p0.Name = (bs []))) && ((decide (p0.Text ≠ (bs []))) && ((decide ((p0.Attrs.length : Int) = 0)) && ((decide (p0.First = (-1))) && (decide (p0.Last = (-1)))))))))] a w) ?_ ?_
  ·clear hs; intro a w hs
   refine hK4 <| zax ?_
   obtain rfl := Option.some.inj hm
   refine RtV1 hs rfl (rv_t hs rfl) ?_
   exact ⟨rfl,((hs.subL (.cons _ (.refl _))).weak hle).cw⟩
  refine za2 <| s1 (v := pq b6 1) hs (za1 rfl (FO.of (off := 1) U53 rfl rfl ti9 (by decide))) fun hs => s1 (v := .string (p0.Name)) hs (y_ld rfl U9 rfl (Cell.blk (.head _) rfl)) fun hs => s1 hs (zcs rfl rfl) fun hs => sM hs rfl fun hs => ?_
  refine St.split hs (t := 12) rfl (fun hg9 hs => ?_) (fun hg9 hs => ?_)
  ·refine s2 (v := pq b6 2) hs (za1 rfl (FO.of (off := 2) U53 rfl rfl ti9 (by decide))) fun hs => s2 (v := .string (p0.Text)) hs (y_ld rfl U9 rfl (Cell.blk (.head _) rfl)) fun hs => s2 hs (zhr rfl rfl) fun hs => sP hs rfl rfl fun hs => sM hs rfl fun hs => ?_
   refine St.split hs (t := 17) rfl (fun hg10 hs => ?_) (fun hg10 hs => ?_)
   ·refine s2 (v := pq b6 3) hs (za1 rfl (FO.of (off := 3) U53 rfl rfl ti43 (by decide))) fun hs => s2 (v := v1) hs (y_ld rfl U43 rfl (Cell.blk (.head _) rfl)) fun hs => s2 hs (zc3 hR3 hW4 rfl U43) fun hs => s2 hs (zct rfl rfl) fun hs => sP hs rfl rfl fun hs => sM hs rfl fun hs => ?_
    refine St.split hs (t := 23) rfl (fun hg11 hs => ?_) (fun hg11 hs => ?_)
    ·refine s2 (v := pq b6 5) hs (za1 rfl (FO.of (off := 5) U53 rfl rfl ti3 (by decide))) fun hs => s2 (v := .int .i64 (p0.First)) hs (y_ld rfl U3 rfl (Cell.blk (.head _) rfl)) fun hs => s2 hs (zct rfl rfl) fun hs => sP hs rfl rfl fun hs => sM hs rfl fun hs => ?_
     refine St.split hs (t := 28) rfl (fun hg12 hs => ?_) (fun hg12 hs => ?_)
     ·refine s2 (v := pq b6 6) hs (za1 rfl (FO.of (off := 6) U53 rfl rfl ti3 (by decide))) fun hs => s2 (v := .int .i64 (p0.Last)) hs (y_ld rfl U3 rfl (Cell.blk (.head _) rfl)) fun hs => s2 hs (zct rfl rfl) fun hs => sP hs rfl rfl fun hs => sA hs rfl fun hs => za0 ?_
      exact hs.sub ⟨(lkB (((zj0 hg9).trans ((zj0 hg10).trans ((zj0 hg11).trans ((zj0 hg12).trans rfl))))) rfl), trivial⟩
     refine s3 hs fun hs => s3 hs fun hs => s3 hs fun hs => sP hs rfl rfl fun hs => sA hs rfl fun hs => za0 ?_
     exact hs.sub ⟨(lkB (((zj0 hg9).trans ((zj0 hg10).trans ((zj0 hg11).trans ((zmd hg12).trans rfl))))) rfl), trivial⟩
    refine s3 hs fun hs => s3 hs fun hs => s3 hs fun hs => sP hs rfl rfl fun hs => sM hs rfl fun hs => s3 hs fun hs => s3 hs fun hs => s3 hs fun hs => sP hs rfl rfl fun hs => sA hs rfl fun hs => ?_
    refine za0 ?_
    exact hs.sub ⟨(lkB (((zj0 hg9).trans ((zj0 hg10).trans ((zmd hg11).trans rfl)))) rfl), trivial⟩
   refine s3 hs fun hs => s3 hs fun hs => s3 hs fun hs => s3 hs fun hs => sP hs rfl rfl fun hs => sM hs rfl fun hs => s3 hs fun hs => s3 hs fun hs => s3 hs fun hs => sP hs rfl rfl fun hs => ?_
   refine sM hs rfl fun hs => s3 hs fun hs => s3 hs fun hs => s3 hs fun hs => sP hs rfl rfl fun hs => sA hs rfl fun hs => za0 ?_
   exact hs.sub ⟨(lkB (((zj0 hg9).trans ((zmd hg10).trans rfl))) rfl), trivial⟩
  refine s3 hs fun hs => s3 hs fun hs => s3 hs fun hs => sP hs rfl rfl fun hs => sM hs rfl fun hs => s3 hs fun hs => s3 hs fun hs => s3 hs fun hs => s3 hs fun hs => sP hs rfl rfl fun hs => ?_
  refine sM hs rfl fun hs => s3 hs fun hs => s3 hs fun hs => s3 hs fun hs => sP hs rfl rfl fun hs => sM hs rfl fun hs => s3 hs fun hs => s3 hs fun hs => s3 hs fun hs => sP hs rfl rfl fun hs => ?_
  refine sA hs rfl fun hs => za0 ?_
  exact hs.sub ⟨(lkB (((zmd hg9).trans rfl)) rfl), trivial⟩
 replace hm := oc_f hg8 hm
 refine zaj <| hK2 <| Ws fun hK5 => Ws fun hK6 => ?_
 refine zaq (fun a w => St 76 w0 f (.blk b6 (.cells #[.int .i64 (p0.Kind), .string (p0.Name), .string (p0.Text), v1, .int .i64 (p0.Parent), .int .i64 (p0.First), .int .i64 (p0.Last), .int .i64 (p0.Prev), .int .i64 (p0.Next)] 53 (0,0)) :: L) [(1, pq b6 0),(51, .bool (((decide (p0.Kind ≠ 1)) || ((decide (p0.Name = (bs []))) || ((decide (p0.Text ≠ (bs []))) || (decide (64 < (p0.Attrs.length : Int))))))))] a w) ?_ ?_
 ·clear hs; intro a w hs
  refine hK6 ?_
  refine zah hs rfl (fun hg13 => ?_) (fun hg13 => ?_)
  ·replace hm := oc_t hg13 hm
   refine Wq fun hK7 => sA hs rfl fun hs => za0 <| hK7 <| zax ?_
   obtain rfl := Option.some.inj hm
   refine RtV1 hs rfl (rv_t hs rfl) ?_
   exact ⟨rfl,((hs.subL (.cons _ (.refl _))).weak hle).cw⟩
  replace hm := oc_f hg13 hm
  refine zaj <| hK5 <| Wq fun hK8 => zu1 hs fun b14 _ _ hs => ?_
  have hS15 : SM (fun x => .int .i64 x) #[] [] := SM.nil
  refine sA hs rfl fun hs => za0 <| hK8 <| Ws fun hK9 => Wq fun hK10 => s1 (v := pq b6 3) hs (za1 rfl (FO.of (off := 3) U53 rfl rfl ti43 (by decide))) fun hs => s1 (v := v1) hs (y_ld rfl U43 rfl (Cell.blk (.tail _ (.head _)) rfl)) fun hs => s1 hs (zc3 hR3 hW4 rfl U43) fun hs => sM hs rfl fun hs => ?_
  refine za0 <| hK10 ?_
  refine zaq (fun a w => zkr = some res ∧ St 76 w0 f (L) [] a w) ?_ ?_
  ·clear hs hm
   rintro a w ⟨hm, hs⟩
   unfold zkr at hm
   refine hK9 <| Wq fun hK11 => sA hs rfl fun hs => za0 <| hK11 <| zax ?_
   obtain rfl := Option.some.inj hm
   refine RtV1 hs rfl (rv_t hs rfl) ?_
   exact ⟨rfl,(hs.weak hle).cw⟩
  refine zam fun Qe12 hB12 hO12 => zd1 (fun (k : Nat) a w => ∃ (y17 : (List (ByteArray × Int))) (y21 : Int) (es18 : Array MapEntry) (c19 : Nat), zew p0 k y17 y21 = some res ∧ SM (fun x => .int .i64 x) es18 y17 ∧ St 76 w0 f (.blk b14 (.map es18 c19) :: L) [(3, .map (some b14)),(54, v1),(55, .int .i64 ((p0.Attrs.length : Int))),(56, .int .i64 (y21))] a w) (fun k => k) n ⟨([] : List (ByteArray × Int)),0, #[],0, hm, hS15, hs.subs ⟨rfl, rfl, rfl, rfl, trivial⟩ (.cons_cons _ (.cons _ (.refl _)))⟩ ?_
  clear hs hm
  intro k
  rintro a w ⟨y17, y21, es18, c19, hm, hS20, hs⟩
  intro K13 hK13
  cases k with
  | zero => simp [zew] at hm
  | succ k22 =>
   rw [zew] at hm
   refine Wq fun hK14 => s1 hs (zgq rfl rfl) fun hs => za0 <| hK14 <| Ws fun hK15 => ?_
   refine zah hs rfl (fun hg23 => ?_) (fun hg23 => ?_)
   ·replace hm := oc_t hg23 hm
    refine zaj <| hK15 <| Ws fun hK16 => zam fun Qe17 hB17 hO17 => Ws fun hK18 => za2 ?_
    obtain ⟨x24, hx25, hm⟩ := ob hm
    obtain ⟨r26, hr27, hq28, hi29, hb30⟩ := hW4.geti hx25
    obtain rfl : _ = ([.string (x24.Name), .string (x24.Value)] : List Value) := hq28
    refine s1 hs (zac hR3 rfl rfl hi29 hb30 U43 ti42) fun hs => s1 hs (zdn hR3.up rfl hr27 U42 rfl ti42) fun hs => zbl hs ti42 (.free rfl) (by decide) fun b31 _ _ hs => zb5 (i := 0) hs rfl rfl rfl ti42 ⟨rfl, rfl⟩ (AllC.arr (r := [.string (x24.Name), .string (x24.Value)]) ⟨rfl, rfl, trivial⟩) (.free rfl) fun _ _ hs => za0 <| hK18 <| Ws fun hK19 => Ws fun hK20 => ?_
    refine zaq (fun a w => ∃ (y33 : Bool), zge y17 y21 (zew p0 k22) x24 y33 = some res ∧ St 76 w0 f (.blk b31 (.cells #[.string (x24.Name), .string (x24.Value)] 42 (0,0)) :: .blk b14 (.map es18 c19) :: L) [(3, .map (some b14)),(5, pq b31 0),(54, v1),(55, .int .i64 ((p0.Attrs.length : Int))),(56, .int .i64 (y21)),(69, .bool (y33))] a w) ?_ ?_
    ·clear hs hm
     rintro a w ⟨y33, hm, hs⟩
     unfold zge at hm
     refine hK20 ?_
     refine zah hs rfl (fun hg34 => ?_) (fun hg34 => ?_)
     ·replace hm := oc_t hg34 hm
      refine Wq fun hK21 => sA hs rfl fun hs => za0 <| hK21 <| zax ?_
      obtain rfl := Option.some.inj hm
      refine RtV1 hs rfl (rv_t hs rfl) ?_
      exact ⟨rfl,((hs.subL (.cons _ (.cons _ (.refl _)))).weak hle).cw⟩
     replace hm := oc_f hg34 hm
     refine zaj <| hK19 <| za2 <| sM hs rfl fun hs => s1 (v := pq b31 0) hs (za1 rfl (FO.of (off := 0) U42 rfl rfl ti9 (by decide))) fun hs => s1 (v := .string (x24.Name)) hs (y_ld rfl U9 rfl (Cell.blk (.head _) rfl)) fun hs => sy hs (zqs (enc := (fun x => .int .i64 x)) (z := 0) rfl rfl U167 U9 ti3 (.tail _ (.head _)) hS20) fun _ _ hs => s1 hs (zdz rfl rfl rfl) fun hs => zqn (enc := (fun x => .int .i64 x)) (u := (w64 (((mgetM y17 x24.Name).getD 0) + 1))) 1 hs rfl rfl rfl rfl U167 U9 hS20 fun es35 c36 _ _ hS37 hs => za0 ?_
     refine hK16 <| za2 <| s1 hs (zdz rfl rfl rfl) fun hs => sM hs rfl fun hs => za0 ?_
     exact hK13 k22 _ _ (Nat.lt_succ_self _) ⟨(mputM y17 x24.Name (w64 (((mgetM y17 x24.Name).getD 0) + 1))),(w64 (y21 + 1)), es35, c36, hm, hS37, hs.subs ⟨rfl, rfl, rfl, rfl, trivial⟩ (.cons _ (.cons_cons _ (.refl _)))⟩
    refine za2 <| s1 (v := pq b31 0) hs (za1 rfl (FO.of (off := 0) U42 rfl rfl ti9 (by decide))) fun hs => s1 (v := .string (x24.Name)) hs (y_ld rfl U9 rfl (Cell.blk (.head _) rfl)) fun hs => s1 hs (zcs rfl rfl) fun hs => sM hs rfl fun hs => ?_
    refine St.split hs (t := 63) rfl (fun hg38 hs => ?_) (fun hg38 hs => ?_)
    ·replace hm := oc_t hg38 hm
     refine s3 hs fun hs => s3 hs fun hs => s3 hs fun hs => s3 hs fun hs => s3 hs fun hs => sP hs rfl rfl fun hs => za0 ?_
     exact ⟨true, hm, hs.sub ⟨rfl, rfl, rfl, rfl, rfl, rfl, trivial⟩⟩
    replace hm := oc_f hg38 hm
    refine s2 (v := .map (some b14)) hs (za3 rfl) fun hs => s2 (v := pq b31 0) hs (za1 rfl (FO.of (off := 0) U42 rfl rfl ti9 (by decide))) fun hs => s2 (v := .string (x24.Name)) hs (y_ld rfl U9 rfl (Cell.blk (.head _) rfl)) fun hs => syg hs (zqs (enc := (fun x => .int .i64 x)) (z := 0) rfl rfl U167 U9 ti3 (.tail _ (.head _)) hS20) fun _ _ hs => s2 hs (zhq rfl rfl) fun hs => sP hs rfl rfl fun hs => za0 ?_
    exact ⟨decide (0 < ((mgetM y17 x24.Name).getD 0)), hm, hs.sub ⟨rfl, rfl, rfl, rfl, rfl, rfl, trivial⟩⟩
   replace hm := oc_f hg23 hm
   refine zc0 <| hB12 _ _ ?_
   exact ⟨hm, hs.subs trivial (.cons _ (.refl _))⟩
 refine za2 <| s1 (v := pq b6 0) hs (za1 rfl (FO.of (off := 0) U53 rfl rfl ti3 (by decide))) fun hs => s1 (v := .int .i64 (p0.Kind)) hs (y_ld rfl U3 rfl (Cell.blk (.head _) rfl)) fun hs => s1 hs (zeo rfl rfl) fun hs => sM hs rfl fun hs => ?_
 refine St.split hs (t := 36) rfl (fun hg39 hs => ?_) (fun hg39 hs => ?_)
 ·refine s3 hs fun hs => s3 hs fun hs => s3 hs fun hs => sP hs rfl rfl fun hs => sM hs rfl fun hs => s3 hs fun hs => s3 hs fun hs => s3 hs fun hs => sP hs rfl rfl fun hs => sM hs rfl fun hs => ?_
  refine s3 hs fun hs => s3 hs fun hs => s3 hs fun hs => s3 hs fun hs => sP hs rfl rfl fun hs => za0 ?_
  exact hs.sub ⟨rfl,(lkB (((or_t hg39).trans rfl)) rfl), trivial⟩
 refine s2 (v := pq b6 1) hs (za1 rfl (FO.of (off := 1) U53 rfl rfl ti9 (by decide))) fun hs => s2 (v := .string (p0.Name)) hs (y_ld rfl U9 rfl (Cell.blk (.head _) rfl)) fun hs => s2 hs (zcs rfl rfl) fun hs => sP hs rfl rfl fun hs => sM hs rfl fun hs => ?_
 refine St.split hs (t := 41) rfl (fun hg40 hs => ?_) (fun hg40 hs => ?_)
 ·refine s3 hs fun hs => s3 hs fun hs => s3 hs fun hs => sP hs rfl rfl fun hs => sM hs rfl fun hs => s3 hs fun hs => s3 hs fun hs => s3 hs fun hs => s3 hs fun hs => sP hs rfl rfl fun hs => ?_
  refine za0 ?_
  exact hs.sub ⟨rfl,(lkB (((or_f hg39).trans ((or_t hg40).trans rfl))) rfl), trivial⟩
 refine s2 (v := pq b6 2) hs (za1 rfl (FO.of (off := 2) U53 rfl rfl ti9 (by decide))) fun hs => s2 (v := .string (p0.Text)) hs (y_ld rfl U9 rfl (Cell.blk (.head _) rfl)) fun hs => s2 hs (zhr rfl rfl) fun hs => sP hs rfl rfl fun hs => sM hs rfl fun hs => ?_
 refine St.split hs (t := 46) rfl (fun hg41 hs => ?_) (fun hg41 hs => ?_)
 ·refine s3 hs fun hs => s3 hs fun hs => s3 hs fun hs => s3 hs fun hs => sP hs rfl rfl fun hs => za0 ?_
  exact hs.sub ⟨rfl,(lkB (((or_f hg39).trans ((or_f hg40).trans ((or_t hg41).trans rfl)))) rfl), trivial⟩
 refine s2 (v := pq b6 3) hs (za1 rfl (FO.of (off := 3) U53 rfl rfl ti43 (by decide))) fun hs => s2 (v := v1) hs (y_ld rfl U43 rfl (Cell.blk (.head _) rfl)) fun hs => s2 hs (zc3 hR3 hW4 rfl U43) fun hs => s2 hs (zhq rfl rfl) fun hs => sP hs rfl rfl fun hs => za0 ?_
 exact hs.sub ⟨rfl,(lkB (((or_f hg39).trans ((or_f hg40).trans ((or_f hg41).trans rfl)))) rfl), trivial⟩
def zk6 : Option Bool :=
  some true
def zd9 (y41 : Int) (lp42 : Int → Option Bool) (y59 : Bool) : Option Bool :=
  (bif y59 then some false else
  lp42 (w64 (y41 + 1)))
def zc2 (p0 : zaa) (y36 : (List Int)) : Nat → Int → Option Bool
  | 0, _ => none
  | k42 + 1, y41 =>
  (bif (decide (y41 < (p0.Nodes.length : Int))) then (geti p0.Nodes y41).bind fun x44 =>
  (geti y36 y41).bind fun x61 =>
  (bif (decide (x44.Last ≠ x61)) then zd9 y41 (zc2 p0 y36 k42) true else
  (geti y36 y41).bind fun x69 =>
  (bif (decide (x69 = (-1))) then (bif (decide (x44.First ≠ (-1))) then zd9 y41 (zc2 p0 y36 k42) true else
  (geti y36 y41).bind fun x78 =>
  (bif (decide (x78 ≠ (-1))) then (geti y36 y41).bind fun x86 =>
  (geti p0.Nodes x86).bind fun x93 =>
  zd9 y41 (zc2 p0 y36 k42) (decide (x93.Next ≠ (-1))) else
  zd9 y41 (zc2 p0 y36 k42) false)) else
  (geti y36 y41).bind fun x105 =>
  (bif (decide (x105 ≠ (-1))) then (geti y36 y41).bind fun x113 =>
  (geti p0.Nodes x113).bind fun x120 =>
  zd9 y41 (zc2 p0 y36 k42) (decide (x120.Next ≠ (-1))) else
  zd9 y41 (zc2 p0 y36 k42) false))) else
  zk6)
def zk7 (n : Nat) (p0 : zaa) (y36 : (List Int)) : Option Bool :=
  zc2 p0 y36 n 0
def zfn (y142 : Int) (lp143 : (List Int) → (List Int) → Int → Option Bool) (y145 : (List Int)) (y150 : (List Int)) : Option Bool :=
  lp143 y145 y150 (w64 (y142 + 1))
def zfz (y142 : Int) (lp143 : (List Int) → (List Int) → Int → Option Bool) (x213 : (List Int)) (y218 : (List Int)) : Option Bool :=
  zfn y142 lp143 y218 x213
def ze5 (y142 : Int) (lp143 : (List Int) → (List Int) → Int → Option Bool) (x155 : zae) (x177 : (List Int)) (y197 : (List Int)) (y204 : Bool) : Option Bool :=
  (bif y204 then some false else
  (geti x177 x155.Parent).bind fun _x206 =>
  (seti x177 x155.Parent y142).bind fun x213 =>
  (bif (decide (x155.Kind = 1)) then (appM 8 y197 [y142]).bind fun x229 =>
  zfz y142 lp143 x213 x229 else
  zfz y142 lp143 x213 y197))
def zhl (p0 : zaa) (y142 : Int) (lp143 : (List Int) → (List Int) → Int → Option Bool) (x155 : zae) (x177 : (List Int)) (y197 : (List Int)) (y202 : Bool) : Option Bool :=
  (bif y202 then some false else
  (bif (decide (x155.Prev = (-1))) then (geti p0.Nodes x155.Parent).bind fun x236 =>
  (bif (decide (x236.First ≠ y142)) then ze5 y142 lp143 x155 x177 y197 true else
  (bif (decide (x155.Prev ≠ (-1))) then (geti p0.Nodes x155.Prev).bind fun x250 =>
  ze5 y142 lp143 x155 x177 y197 (decide (x250.Next ≠ y142)) else
  ze5 y142 lp143 x155 x177 y197 false)) else
  (bif (decide (x155.Prev ≠ (-1))) then (geti p0.Nodes x155.Prev).bind fun x263 =>
  ze5 y142 lp143 x155 x177 y197 (decide (x263.Next ≠ y142)) else
  ze5 y142 lp143 x155 x177 y197 false)))
def zhm (p0 : zaa) (y142 : Int) (lp143 : (List Int) → (List Int) → Int → Option Bool) (x155 : zae) (x177 : (List Int)) (y197 : (List Int)) : Option Bool :=
  (bif (decide ((y197.length : Int) = 0)) then zhl p0 y142 lp143 x155 x177 y197 true else
  (geti x177 x155.Parent).bind fun x276 =>
  zhl p0 y142 lp143 x155 x177 y197 (decide (x155.Prev ≠ x276)))
def zgy (p0 : zaa) (y142 : Int) (lp143 : (List Int) → (List Int) → Int → Option Bool) (x155 : zae) (x177 : (List Int)) (y283 : (List Int)) (lp288 : (List Int) → Option Bool) (y289 : Bool) : Option Bool :=
  (bif y289 then (cutM y283 (0 : Int) (w64 ((y283.length : Int) - 1))).bind fun x291 =>
  lp288 x291 else
  zhm p0 y142 lp143 x155 x177 y283)
def zd3 (p0 : zaa) (y142 : Int) (lp143 : (List Int) → (List Int) → Int → Option Bool) (x155 : zae) (x177 : (List Int)) : Nat → (List Int) → Option Bool
  | 0, _ => none
  | k288 + 1, y283 =>
  (bif (decide (0 < (y283.length : Int))) then (geti y283 (w64 ((y283.length : Int) - 1))).bind fun x299 =>
  zgy p0 y142 lp143 x155 x177 y283 (zd3 p0 y142 lp143 x155 x177 k288) (decide (x299 ≠ x155.Parent)) else
  zgy p0 y142 lp143 x155 x177 y283 (zd3 p0 y142 lp143 x155 x177 k288) false)
def zbh (n : Nat) (p0 : zaa) : Nat → (List Int) → (List Int) → Int → Option Bool
  | 0, _, _, _ => none
  | k143 + 1, y132, y137, y142 =>
  (bif (decide (y142 < (p0.Nodes.length : Int))) then (geti p0.Nodes y142).bind fun x155 =>
  (geti y137 y142).bind fun _x170 =>
  (seti y137 y142 (-1)).bind fun x177 =>
  (zks n x155).bind fun x182 =>
  (bif (!x182) then some false else
  (bif (decide (y142 = 0)) then (appM 8 y132 [0]).bind fun x191 =>
  zfn y142 (zbh n p0 k143) x191 x177 else
  zd3 p0 y142 (zbh n p0 k143) x155 x177 n y132)) else
  zk7 n p0 y137)
def zjr (n : Nat) (p0 : zaa) : Option Bool :=
  (geti p0.Nodes 0).bind fun x8 =>
  (bif ((decide (x8.Kind ≠ 1)) || ((decide (x8.Parent ≠ (-1))) || ((decide (x8.Prev ≠ (-1))) || (decide (x8.Next ≠ (-1)))))) then some false else
  (repM 8 (p0.Nodes.length : Int) (0 : Int)).bind fun x29 =>
  zbh n p0 n ([] : List Int) x29 0)
theorem zq9 (n : Nat) {f : Fz} {p0 : zaa} {a0 : List Value} {res : Bool} (h0 : zcz.R f a0 p0) (hm : zjr n p0 = some res) : Gives Tryz.prog 36 [.agg a0.toArray] f (.bool res) := by
 unfold zjr at hm
 intro w0 L w hC
 obtain ⟨v1, rfl, ⟨rw2, hR3, hW4⟩⟩ := h0
 refine enter Tryz.func36 rfl Tryz.ntmps36 (by simp) hC fun a hs => ?_
 have hle := Fz.le.refl f
 refine Wq fun hK1 => sbox hs rfl fun b6 _ _ hs => sA hs rfl fun hs => za0 <| hK1 <| Wq fun hK2 => s1 (v := pq b6 0) hs (za1 rfl (FO.of (off := 0) U30 rfl rfl ti28 (by decide))) fun hs => s1 (v := v1) hs (y_ld rfl U28 rfl (Cell.blk (.head _) rfl)) fun hs => ?_
 obtain ⟨x8, hx9, hm⟩ := ob hm
 obtain ⟨r10, hr11, hq12, hi13, hb14⟩ := hW4.geti hx9
 obtain ⟨v15, rfl, ⟨rw16, hR17, hW18⟩⟩ := hq12
 refine s1 hs (zac hR3 rfl rfl hi13 hb14 U28 ti53) fun hs => s1 hs (zdn hR3.up rfl hr11 U53 rfl ti53) fun hs => zbl hs ti53 (.free rfl) (by decide) fun b20 _ _ hs => zb5 (i := 0) hs rfl rfl rfl ti53 ⟨rfl, rfl⟩ (AllC.arr (r := [.int .i64 (x8.Kind), .string (x8.Name), .string (x8.Text), v15, .int .i64 (x8.Parent), .int .i64 (x8.First), .int .i64 (x8.Last), .int .i64 (x8.Prev), .int .i64 (x8.Next)]) ⟨rfl, rfl, rfl, hR17.one, rfl, rfl, rfl, rfl, rfl, trivial⟩) (.free rfl) fun _ _ hs => za0 <| hK2 <| Ws fun hK3 => Ws fun hK4 => ?_
 refine zaq (fun a w => St 178 w0 f (.blk b20 (.cells #[.int .i64 (x8.Kind), .string (x8.Name), .string (x8.Text), v15, .int .i64 (x8.Parent), .int .i64 (x8.First), .int .i64 (x8.Last), .int .i64 (x8.Prev), .int .i64 (x8.Next)] 53 (0,0)) :: .blk b6 (.cells #[v1] 30 (0,0)) :: L) [(1, pq b6 0),(31, .bool (((decide (x8.Kind ≠ 1)) || ((decide (x8.Parent ≠ (-1))) || ((decide (x8.Prev ≠ (-1))) || (decide (x8.Next ≠ (-1))))))))] a w) ?_ ?_
 ·clear hs; intro a w hs
  refine hK4 ?_
  refine zah hs rfl (fun hg23 => ?_) (fun hg23 => ?_)
  ·replace hm := oc_t hg23 hm
   refine Wq fun hK5 => sA hs rfl fun hs => za0 <| hK5 <| zax ?_
   obtain rfl := Option.some.inj hm
   refine RtV1 hs rfl (rv_t hs rfl) ?_
   exact ⟨rfl,((hs.subL (.cons _ (.cons _ (.refl _)))).weak hle).cw⟩
  replace hm := oc_f hg23 hm
  refine zaj <| hK3 <| Wq fun hK6 => zvx hs U61 ti3 fun v24 _ _ hs => ?_
  have hW25 : RW (tInt .i64) f [] ([] : List Int) := trivial
  generalize hgrw26 : ([] : List (List Value)) = rw26 at hs hW25; clear hgrw26
  refine sA hs rfl fun hs => za0 <| hK6 <| Wq fun hK7 => s1 (v := pq b6 0) hs (za1 rfl (FO.of (off := 0) U30 rfl rfl ti28 (by decide))) fun hs => s1 (v := v1) hs (y_ld rfl U28 rfl (Cell.blk (.tail _ (.tail _ (.head _))) rfl)) fun hs => s1 hs (zc3 hR3 hW4 rfl U28) fun hs => ?_
  obtain ⟨x29, hx30, hm⟩ := ob hm
  obtain ⟨hix29, hbx29, hex29⟩ := zno hx30
  refine zqo hs rfl rfl hix29 U61 ti3 (by decide) (AllC.row ⟨rfl, trivial⟩ rfl) hbx29 fun v31 _ _ hs => ?_
  replace hs : St _ _ _ (.row v31 3 1 (List.replicate (p0.Nodes.length : Int).toNat ([.int .i64 (0)] : List Value)) :: .row v24 3 1 rw26 :: .blk b20 (.cells #[.int .i64 (x8.Kind), .string (x8.Name), .string (x8.Text), v15, .int .i64 (x8.Parent), .int .i64 (x8.First), .int .i64 (x8.Last), .int .i64 (x8.Prev), .int .i64 (x8.Next)] 53 (0,0)) :: .blk b6 (.cells #[v1] 30 (0,0)) :: L) _ _ _ := hs
  have hW33 : RW (tInt .i64) f (List.replicate (p0.Nodes.length : Int).toNat ([.int .i64 (0)] : List Value)) x29 := by rw [← hex29]; exact RW.rep (t := (tInt .i64)) (r := [.int .i64 (0)]) (rfl) _
  generalize hgx29 : (List.replicate (p0.Nodes.length : Int).toNat ([.int .i64 (0)] : List Value)) = rw32 at hs hW33; clear hgx29
  replace hs : St _ _ _ (.row v31 3 1 rw32 :: .row v24 3 1 rw26 :: .blk b20 (.cells #[.int .i64 (x8.Kind), .string (x8.Name), .string (x8.Text), v15, .int .i64 (x8.Parent), .int .i64 (x8.First), .int .i64 (x8.Last), .int .i64 (x8.Prev), .int .i64 (x8.Next)] 53 (0,0)) :: .blk b6 (.cells #[v1] 30 (0,0)) :: L) _ _ _ := hs
  refine sA hs rfl fun hs => za0 <| hK7 <| Ws fun hK8 => Wq fun hK9 => s1 (v := pq b6 0) hs (za1 rfl (FO.of (off := 0) U30 rfl rfl ti28 (by decide))) fun hs => s1 (v := v1) hs (y_ld rfl U28 rfl (Cell.blk (.tail _ (.tail _ (.tail _ (.head _)))) rfl)) fun hs => s1 hs (zc3 hR3 hW4 rfl U28) fun hs => sM hs rfl fun hs => ?_
  refine za0 <| hK9 ?_
  refine zaq (fun a w => ∃ (y36 : (List Int)) (v37 : Value) (rw38 : List (List Value)), zk7 n p0 y36 = some res ∧ RW (tInt .i64) f rw38 y36 ∧ St 178 w0 f (.row v37 3 1 rw38 :: .blk b6 (.cells #[v1] 30 (0,0)) :: L) [(1, pq b6 0),(5, v37)] a w) ?_ ?_
  ·clear hs hm
   rintro a w ⟨y36, v37, rw38, hm, hW39, hs⟩
   replace hs : St _ _ _ (.row v37 3 1 rw38 :: .blk b6 (.cells #[v1] 30 (0,0)) :: L) _ _ _ := hs
   unfold zk7 at hm
   refine hK8 <| Ws fun hK10 => Wq fun hK11 => s1 (v := pq b6 0) hs (za1 rfl (FO.of (off := 0) U30 rfl rfl ti28 (by decide))) fun hs => s1 (v := v1) hs (y_ld rfl U28 rfl (Cell.blk (.tail _ (.head _)) rfl)) fun hs => s1 hs (zc3 hR3 hW4 rfl U28) fun hs => sM hs rfl fun hs => za0 <| hK11 ?_
   refine zaq (fun a w => zk6 = some res ∧ St 178 w0 f (L) [] a w) ?_ ?_
   ·clear hs hm
    rintro a w ⟨hm, hs⟩
    replace hs : St _ _ _ (L) _ _ _ := hs
    unfold zk6 at hm
    refine hK10 <| Wq fun hK12 => sA hs rfl fun hs => za0 <| hK12 <| zax ?_
    obtain rfl := Option.some.inj hm
    refine RtV1 hs rfl (rv_t hs rfl) ?_
    exact ⟨rfl,(hs.weak hle).cw⟩
   refine zam fun Qe13 hB13 hO13 => zd1 (fun (k : Nat) a w => ∃ (y41 : Int), zc2 p0 y36 k y41 = some res ∧ St 178 w0 f (.row v37 3 1 rw38 :: .blk b6 (.cells #[v1] 30 (0,0)) :: L) [(1, pq b6 0),(5, v37),(132, v1),(133, .int .i64 ((p0.Nodes.length : Int))),(134, .int .i64 (y41))] a w) (fun k => k) n ⟨0, hm, hs.sub ⟨rfl, rfl, rfl, rfl, rfl, trivial⟩⟩ ?_
   clear hs hm
   intro k
   rintro a w ⟨y41, hm, hs⟩
   replace hs : St _ _ _ (.row v37 3 1 rw38 :: .blk b6 (.cells #[v1] 30 (0,0)) :: L) _ _ _ := hs
   intro K14 hK14
   cases k with
   | zero => simp [zc2] at hm
   | succ k42 =>
    rw [zc2] at hm
    refine Wq fun hK15 => s1 hs (zgq rfl rfl) fun hs => za0 <| hK15 <| Ws fun hK16 => ?_
    refine zah hs rfl (fun hg43 => ?_) (fun hg43 => ?_)
    ·replace hm := oc_t hg43 hm
     refine zaj <| hK16 <| Ws fun hK17 => zam fun Qe18 hB18 hO18 => Wq fun hK19 => sM hs rfl fun hs => ?_
     obtain ⟨x44, hx45, hm⟩ := ob hm
     obtain ⟨r46, hr47, hq48, hi49, hb50⟩ := hW4.geti hx45
     obtain ⟨v51, rfl, ⟨rw52, hR53, hW54⟩⟩ := hq48
     refine s1 hs (zac hR3 rfl rfl hi49 hb50 U28 ti53) fun hs => s1 hs (zdn hR3.up rfl hr47 U53 rfl ti53) fun hs => zbl hs ti53 (.free rfl) (by decide) fun b56 _ _ hs => ?_
     replace hs : St _ _ _ (.blk b56 (.cells #[.int .i64 (0), .string ((bs [])), .string ((bs [])),(.slice none 0 0), .int .i64 (0), .int .i64 (0), .int .i64 (0), .int .i64 (0), .int .i64 (0)] 53 (0,0)) :: .row v37 3 1 rw38 :: .blk b6 (.cells #[v1] 30 (0,0)) :: L) _ _ _ := hs
     refine sA hs rfl fun hs => zb5 (i := 0) hs rfl rfl rfl ti53 ⟨rfl, rfl⟩ (AllC.arr (r := [.int .i64 (x44.Kind), .string (x44.Name), .string (x44.Text), v51, .int .i64 (x44.Parent), .int .i64 (x44.First), .int .i64 (x44.Last), .int .i64 (x44.Prev), .int .i64 (x44.Next)]) ⟨rfl, rfl, rfl, hR53.one, rfl, rfl, rfl, rfl, rfl, trivial⟩) (.free rfl) fun _ _ hs => ?_
     replace hs : St _ _ _ (.blk b56 (.cells #[.int .i64 (x44.Kind), .string (x44.Name), .string (x44.Text), v51, .int .i64 (x44.Parent), .int .i64 (x44.First), .int .i64 (x44.Last), .int .i64 (x44.Prev), .int .i64 (x44.Next)] 53 (0,0)) :: .row v37 3 1 rw38 :: .blk b6 (.cells #[v1] 30 (0,0)) :: L) _ _ _ := hs
     refine za0 <| hK19 <| Ws fun hK20 => ?_
     refine zaq (fun a w => ∃ (y59 : Bool), zd9 y41 (zc2 p0 y36 k42) y59 = some res ∧ St 178 w0 f (.row v37 3 1 rw38 :: .blk b6 (.cells #[v1] 30 (0,0)) :: L) [(1, pq b6 0),(5, v37),(132, v1),(133, .int .i64 ((p0.Nodes.length : Int))),(134, .int .i64 (y41)),(176, .bool (y59))] a w) ?_ ?_
     ·clear hs hm
      rintro a w ⟨y59, hm, hs⟩
      replace hs : St _ _ _ (.row v37 3 1 rw38 :: .blk b6 (.cells #[v1] 30 (0,0)) :: L) _ _ _ := hs
      unfold zd9 at hm
      refine hK20 ?_
      refine zah hs rfl (fun hg60 => ?_) (fun hg60 => ?_)
      ·replace hm := oc_t hg60 hm
       refine Wq fun hK21 => sA hs rfl fun hs => za0 <| hK21 <| zax ?_
       obtain rfl := Option.some.inj hm
       refine RtV1 hs rfl (rv_t hs rfl) ?_
       exact ⟨rfl,((hs.subL (.cons _ (.cons _ (.refl _)))).weak hle).cw⟩
      replace hm := oc_f hg60 hm
      refine zaj <| hK17 <| za2 <| s1 hs (zdz rfl rfl rfl) fun hs => sM hs rfl fun hs => za0 ?_
      exact hK14 k42 _ _ (Nat.lt_succ_self _) ⟨(w64 (y41 + 1)), hm, hs.sub ⟨rfl, rfl, rfl, rfl, rfl, trivial⟩⟩
     refine zju hs mixed (by kernel_rfl) ?_; intro a he
     refine qy (v := pq b56 6) he (za1 rfl (FO.of (off := 6) U53 rfl rfl ti3 (by decide))) fun _ he => qy (v := .int .i64 (x44.Last)) he (y_ld rfl U3 rfl (Cell.blk (.head _) rfl)) fun _ he => qy (v := v37) he (za3 rfl) fun _ he => qy (v := .int .i64 (y41)) he (za3 rfl) fun _ he => ?_
     obtain ⟨x61, hx62, hm⟩ := ob hm
     obtain ⟨r63, hr64, hq65, hi66, hb67⟩ := hW39.geti hx62
     obtain rfl : _ = ([.int .i64 (x61)] : List Value) := hq65
     refine qy he (zac (Rd.st hs (.tail _ (.head _))) rfl rfl hi66 hb67 U61 ti3) fun _ he => qy (v := .int .i64 (x61)) he (zbm (i := y41.toNat) (j := 0) (Rd.st hs (.tail _ (.head _))) rfl hr64 rfl U3 rfl) fun _ he => qy he (zeo rfl rfl) fun _ he => qy (v := .bool (decide (x44.Last ≠ x61))) he (za3 rfl) fun _ he => ?_
     refine Ev.split he (t := 146) rfl (fun hg68 hq => ?_) (fun hg68 hq => ?_)
     ·clear he; have he := hq; clear hq
      replace hm := oc_t hg68 hm
      refine qno he fun _ he => qno he fun _ he => qno he fun _ he => qno he fun _ he => qno he fun _ he => qno he fun _ he => qun he fun _ he => qun he fun _ he => qun he fun _ he => qno he fun _ he => ?_
      refine qy (v := .bool (true)) he (zaz rfl rfl) fun _ he => qy (v := .bool (true)) he (za3 rfl) fun _ he => qno he fun _ he => qno he fun _ he => qno he fun _ he => qno he fun _ he => qno he fun _ he => qno he fun _ he => qun he fun _ he => qun he fun _ he => ?_
      refine qun he fun _ he => qun he fun _ he => qun he fun _ he => qun he fun _ he => qun he fun _ he => qun he fun _ he => qun he fun _ he => qun he fun _ he => qno he fun _ he => qy (v := .bool (true)) he (zaz rfl rfl) fun _ he => ?_
      refine zfw he ?_; clear he; (try clear hs); (try clear a); intro a w hs
      exact ⟨true, hm, hs.subs ⟨rfl, rfl, rfl, rfl, rfl, rfl, trivial⟩ (.cons _ (.cons_cons _ (.cons_cons _ (.refl _))))⟩
     clear he; have he := hq; clear hq
     replace hm := oc_f hg68 hm
     refine qyg (v := v37) he (za3 rfl) fun _ he => qyg (v := .int .i64 (y41)) he (za3 rfl) fun _ he => ?_
     obtain ⟨x69, hx70, hm⟩ := ob hm
     obtain ⟨r71, hr72, hq73, hi74, hb75⟩ := hW39.geti hx70
     obtain rfl : _ = ([.int .i64 (x69)] : List Value) := hq73
     refine qyg he (zac (Rd.st hs (.tail _ (.head _))) rfl rfl hi74 hb75 U61 ti3) fun _ he => qyg (v := .int .i64 (x69)) he (zbm (i := y41.toNat) (j := 0) (Rd.st hs (.tail _ (.head _))) rfl hr72 rfl U3 rfl) fun _ he => qyg he (zct rfl rfl) fun _ he => qyg (v := .bool (decide (x69 = (-1)))) he (za3 rfl) fun _ he => ?_
     refine Ev.split he (t := 152) rfl (fun hg76 hq => ?_) (fun hg76 hq => ?_)
     ·clear he; have he := hq; clear hq
      replace hm := oc_t hg76 hm
      refine qyg (v := pq b56 5) he (za1 rfl (FO.of (off := 5) U53 rfl rfl ti3 (by decide))) fun _ he => qyg (v := .int .i64 (x44.First)) he (y_ld rfl U3 rfl (Cell.blk (.head _) rfl)) fun _ he => qyg he (zeo rfl rfl) fun _ he => qyg (v := .bool (decide (x44.First ≠ (-1)))) he (zaz rfl rfl) fun _ he => qy (v := .bool (decide (x44.First ≠ (-1)))) he (zaz rfl rfl) fun _ he => qy (v := .bool (decide (x44.First ≠ (-1)))) he (za3 rfl) fun _ he => ?_
      refine Ev.split he (t := 158) rfl (fun hg77 hq => ?_) (fun hg77 hq => ?_)
      ·clear he; have he := hq; clear hq
       replace hm := oc_t hg77 hm
       refine qno he fun _ he => qno he fun _ he => qno he fun _ he => qno he fun _ he => qno he fun _ he => qno he fun _ he => qun he fun _ he => qun he fun _ he => qun he fun _ he => qun he fun _ he => ?_
       refine qun he fun _ he => qun he fun _ he => qun he fun _ he => qun he fun _ he => qun he fun _ he => qun he fun _ he => qno he fun _ he => qy (v := .bool (true)) he (zaz rfl rfl) fun _ he => ?_
       refine zfw he ?_; clear he; (try clear hs); (try clear a); intro a w hs
       exact ⟨true, hm, hs.subs ⟨rfl, rfl, rfl, rfl, rfl, rfl, trivial⟩ (.cons _ (.cons_cons _ (.cons_cons _ (.refl _))))⟩
      clear he; have he := hq; clear hq
      replace hm := oc_f hg77 hm
      refine qyg (v := v37) he (za3 rfl) fun _ he => qyg (v := .int .i64 (y41)) he (za3 rfl) fun _ he => ?_
      obtain ⟨x78, hx79, hm⟩ := ob hm
      obtain ⟨r80, hr81, hq82, hi83, hb84⟩ := hW39.geti hx79
      obtain rfl : _ = ([.int .i64 (x78)] : List Value) := hq82
      refine qyg he (zac (Rd.st hs (.tail _ (.head _))) rfl rfl hi83 hb84 U61 ti3) fun _ he => qyg (v := .int .i64 (x78)) he (zbm (i := y41.toNat) (j := 0) (Rd.st hs (.tail _ (.head _))) rfl hr81 rfl U3 rfl) fun _ he => qyg he (zeo rfl rfl) fun _ he => qyg (v := .bool (decide (x78 ≠ (-1)))) he (za3 rfl) fun _ he => ?_
      refine Ev.split he (t := 164) rfl (fun hg85 hq => ?_) (fun hg85 hq => ?_)
      ·clear he; have he := hq; clear hq
       replace hm := oc_t hg85 hm
       refine qyg (v := pq b6 0) he (za1 rfl (FO.of (off := 0) U30 rfl rfl ti28 (by decide))) fun _ he => qyg (v := v1) he (y_ld rfl U28 rfl (Cell.blk (.tail _ (.tail _ (.head _))) rfl)) fun _ he => qyg (v := v37) he (za3 rfl) fun _ he => qyg (v := .int .i64 (y41)) he (za3 rfl) fun _ he => ?_
       obtain ⟨x86, hx87, hm⟩ := ob hm
       obtain ⟨r88, hr89, hq90, hi91, hb92⟩ := hW39.geti hx87
       obtain rfl : _ = ([.int .i64 (x86)] : List Value) := hq90
       refine qyg he (zac (Rd.st hs (.tail _ (.head _))) rfl rfl hi91 hb92 U61 ti3) fun _ he => qyg (v := .int .i64 (x86)) he (zbm (i := y41.toNat) (j := 0) (Rd.st hs (.tail _ (.head _))) rfl hr89 rfl U3 rfl) fun _ he => ?_
       obtain ⟨x93, hx94, hm⟩ := ob hm
       obtain ⟨r95, hr96, hq97, hi98, hb99⟩ := hW4.geti hx94
       obtain ⟨v100, rfl, ⟨rw101, hR102, hW103⟩⟩ := hq97
       refine qyg he (zac hR3 rfl rfl hi98 hb99 U28 ti53) fun _ he => qyg (v := eaddr v1 9 x86.toNat 8) he (zck (i := x86.toNat) (j := 0) hR3 rfl hb99 (FO.of (off := 8) U53 rfl rfl ti3 (by decide))) fun _ he => qyg (v := .int .i64 (x93.Next)) he (zbm (i := x86.toNat) (j := 8) hR3.up rfl hr96 rfl U3 rfl) fun _ he => qyg he (zeo rfl rfl) fun _ he => qyg (v := .bool (decide (x93.Next ≠ (-1)))) he (zaz rfl rfl) fun _ he => qy (v := .bool (decide (x93.Next ≠ (-1)))) he (zaz rfl rfl) fun _ he => ?_
       refine zfw he ?_; clear he; (try clear hs); (try clear a); intro a w hs
       exact ⟨decide (x93.Next ≠ (-1)), hm, hs.subs ⟨rfl, rfl, rfl, rfl, rfl, rfl, trivial⟩ (.cons _ (.cons_cons _ (.cons_cons _ (.refl _))))⟩
      clear he; have he := hq; clear hq
      replace hm := oc_f hg85 hm
      refine qno he fun _ he => qno he fun _ he => qno he fun _ he => qno he fun _ he => qno he fun _ he => qno he fun _ he => qno he fun _ he => qno he fun _ he => qno he fun _ he => qno he fun _ he => ?_
      refine qyg (v := .bool (false)) he (zaz rfl rfl) fun _ he => qy (v := .bool (false)) he (zaz rfl rfl) fun _ he => ?_
      refine zfw he ?_; clear he; (try clear hs); (try clear a); intro a w hs
      exact ⟨false, hm, hs.subs ⟨rfl, rfl, rfl, rfl, rfl, rfl, trivial⟩ (.cons _ (.cons_cons _ (.cons_cons _ (.refl _))))⟩
     clear he; have he := hq; clear hq
     replace hm := oc_f hg76 hm
     refine qno he fun _ he => qno he fun _ he => qno he fun _ he => qyg (v := .bool (false)) he (zaz rfl rfl) fun _ he => qy (v := .bool (false)) he (zaz rfl rfl) fun _ he => qy (v := .bool (false)) he (za3 rfl) fun _ he => qyg (v := v37) he (za3 rfl) fun _ he => qyg (v := .int .i64 (y41)) he (za3 rfl) fun _ he => ?_
     obtain ⟨x105, hx106, hm⟩ := ob hm
     obtain ⟨r107, hr108, hq109, hi110, hb111⟩ := hW39.geti hx106
     obtain rfl : _ = ([.int .i64 (x105)] : List Value) := hq109
     refine qyg he (zac (Rd.st hs (.tail _ (.head _))) rfl rfl hi110 hb111 U61 ti3) fun _ he => qyg (v := .int .i64 (x105)) he (zbm (i := y41.toNat) (j := 0) (Rd.st hs (.tail _ (.head _))) rfl hr108 rfl U3 rfl) fun _ he => qyg he (zeo rfl rfl) fun _ he => qyg (v := .bool (decide (x105 ≠ (-1)))) he (za3 rfl) fun _ he => ?_
     refine Ev.split he (t := 164) rfl (fun hg112 hq => ?_) (fun hg112 hq => ?_)
     ·clear he; have he := hq; clear hq
      replace hm := oc_t hg112 hm
      refine qyg (v := pq b6 0) he (za1 rfl (FO.of (off := 0) U30 rfl rfl ti28 (by decide))) fun _ he => qyg (v := v1) he (y_ld rfl U28 rfl (Cell.blk (.tail _ (.tail _ (.head _))) rfl)) fun _ he => qyg (v := v37) he (za3 rfl) fun _ he => qyg (v := .int .i64 (y41)) he (za3 rfl) fun _ he => ?_
      obtain ⟨x113, hx114, hm⟩ := ob hm
      obtain ⟨r115, hr116, hq117, hi118, hb119⟩ := hW39.geti hx114
      obtain rfl : _ = ([.int .i64 (x113)] : List Value) := hq117
      refine qyg he (zac (Rd.st hs (.tail _ (.head _))) rfl rfl hi118 hb119 U61 ti3) fun _ he => qyg (v := .int .i64 (x113)) he (zbm (i := y41.toNat) (j := 0) (Rd.st hs (.tail _ (.head _))) rfl hr116 rfl U3 rfl) fun _ he => ?_
      obtain ⟨x120, hx121, hm⟩ := ob hm
      obtain ⟨r122, hr123, hq124, hi125, hb126⟩ := hW4.geti hx121
      obtain ⟨v127, rfl, ⟨rw128, hR129, hW130⟩⟩ := hq124
      refine qyg he (zac hR3 rfl rfl hi125 hb126 U28 ti53) fun _ he => qyg (v := eaddr v1 9 x113.toNat 8) he (zck (i := x113.toNat) (j := 0) hR3 rfl hb126 (FO.of (off := 8) U53 rfl rfl ti3 (by decide))) fun _ he => qyg (v := .int .i64 (x120.Next)) he (zbm (i := x113.toNat) (j := 8) hR3.up rfl hr123 rfl U3 rfl) fun _ he => qyg he (zeo rfl rfl) fun _ he => qyg (v := .bool (decide (x120.Next ≠ (-1)))) he (zaz rfl rfl) fun _ he => qy (v := .bool (decide (x120.Next ≠ (-1)))) he (zaz rfl rfl) fun _ he => ?_
      refine zfw he ?_; clear he; (try clear hs); (try clear a); intro a w hs
      exact ⟨decide (x120.Next ≠ (-1)), hm, hs.subs ⟨rfl, rfl, rfl, rfl, rfl, rfl, trivial⟩ (.cons _ (.cons_cons _ (.cons_cons _ (.refl _))))⟩
     clear he; have he := hq; clear hq
     replace hm := oc_f hg112 hm
     refine qno he fun _ he => qno he fun _ he => qno he fun _ he => qno he fun _ he => qno he fun _ he => qno he fun _ he => qno he fun _ he => qno he fun _ he => qno he fun _ he => qno he fun _ he => ?_
     refine qyg (v := .bool (false)) he (zaz rfl rfl) fun _ he => qy (v := .bool (false)) he (zaz rfl rfl) fun _ he => ?_
     refine zfw he ?_; clear he; (try clear hs); (try clear a); intro a w hs
     exact ⟨false, hm, hs.subs ⟨rfl, rfl, rfl, rfl, rfl, rfl, trivial⟩ (.cons _ (.cons_cons _ (.cons_cons _ (.refl _))))⟩
    replace hm := oc_f hg43 hm
    refine zc0 <| hB13 _ _ ?_
    exact ⟨hm, hs.subs trivial (.cons _ (.cons _ (.refl _)))⟩
  refine zam fun Qe22 hB22 hO22 => zd1 (fun (k : Nat) a w => ∃ (y132 : (List Int)) (y137 : (List Int)) (y142 : Int) (v133 : Value) (rw134 : List (List Value)) (v138 : Value) (rw139 : List (List Value)), zbh n p0 k y132 y137 y142 = some res ∧ RW (tInt .i64) f rw134 y132 ∧ RW (tInt .i64) f rw139 y137 ∧ St 178 w0 f (.row v138 3 1 rw139 :: .row v133 3 1 rw134 :: .blk b6 (.cells #[v1] 30 (0,0)) :: L) [(1, pq b6 0),(4, v133),(5, v138),(38, v1),(39, .int .i64 ((p0.Nodes.length : Int))),(40, .int .i64 (y142))] a w) (fun k => k) n ⟨([] : List Int), x29,0, v24, rw26, v31, rw32, hm, hW25, hW33, hs.subs ⟨rfl, rfl, rfl, rfl, rfl, rfl, trivial⟩ (.cons_cons _ (.cons_cons _ (.cons _ (.cons_cons _ (.refl _)))))⟩ ?_
  clear hs hm
  intro k
  rintro a w ⟨y132, y137, y142, v133, rw134, v138, rw139, hm, hW135, hW140, hs⟩
  intro K23 hK23
  cases k with
  | zero => simp [zbh] at hm
  | succ k143 =>
   rw [zbh] at hm
   refine Wq fun hK24 => s1 hs (zgq rfl rfl) fun hs => za0 <| hK24 <| Ws fun hK25 => ?_
   refine zah hs rfl (fun hg144 => ?_) (fun hg144 => ?_)
   ·replace hm := oc_t hg144 hm
    refine zaj <| hK25 <| Ws fun hK26 => ?_
    refine zaq (fun a w => ∃ (y145 : (List Int)) (y150 : (List Int)) (v146 : Value) (rw147 : List (List Value)) (v151 : Value) (rw152 : List (List Value)), zfn y142 (zbh n p0 k143) y145 y150 = some res ∧ RW (tInt .i64) f rw147 y145 ∧ RW (tInt .i64) f rw152 y150 ∧ St 178 w0 f (.row v151 3 1 rw152 :: .row v146 3 1 rw147 :: .blk b6 (.cells #[v1] 30 (0,0)) :: L) [(1, pq b6 0),(4, v146),(5, v151),(38, v1),(39, .int .i64 ((p0.Nodes.length : Int))),(40, .int .i64 (y142))] a w) ?_ ?_
    ·clear hs hm
     rintro a w ⟨y145, y150, v146, rw147, v151, rw152, hm, hW148, hW153, hs⟩
     unfold zfn at hm
     refine hK26 <| za2 <| s1 hs (zdz rfl rfl rfl) fun hs => sM hs rfl fun hs => za0 ?_
     exact hK23 k143 _ _ (Nat.lt_succ_self _) ⟨y145, y150,(w64 (y142 + 1)), v146, rw147, v151, rw152, hm, hW148, hW153, hs.sub ⟨rfl, rfl, rfl, rfl, rfl, rfl, trivial⟩⟩
    refine zam fun Qe27 hB27 hO27 => Wq fun hK28 => sM hs rfl fun hs => ?_
    obtain ⟨x155, hx156, hm⟩ := ob hm
    obtain ⟨r157, hr158, hq159, hi160, hb161⟩ := hW4.geti hx156
    obtain ⟨v162, rfl, ⟨rw163, hR164, hW165⟩⟩ := hq159
    refine s1 hs (zac hR3 rfl rfl hi160 hb161 U28 ti53) fun hs => s1 hs (zdn hR3.up rfl hr158 U53 rfl ti53) fun hs => zbl hs ti53 (.free rfl) (by decide) fun b167 _ _ hs => sA hs rfl fun hs => zb5 (i := 0) hs rfl rfl rfl ti53 ⟨rfl, rfl⟩ (AllC.arr (r := [.int .i64 (x155.Kind), .string (x155.Name), .string (x155.Text), v162, .int .i64 (x155.Parent), .int .i64 (x155.First), .int .i64 (x155.Last), .int .i64 (x155.Prev), .int .i64 (x155.Next)]) ⟨rfl, rfl, rfl, hR164.one, rfl, rfl, rfl, rfl, rfl, trivial⟩) (.free rfl) fun _ _ hs => za0 <| hK28 <| Wq fun hK29 => sM hs rfl fun hs => ?_
    refine sM hs rfl fun hs => ?_
    obtain ⟨x170, hx171, hm⟩ := ob hm
    obtain ⟨r172, hr173, hq174, hi175, hb176⟩ := hW140.geti hx171
    obtain rfl : _ = ([.int .i64 (x170)] : List Value) := hq174
    refine s1 hs (zac (Rd.st hs (.tail _ (.head _))) rfl rfl hi175 hb176 U61 ti3) fun hs => ?_
    obtain ⟨x177, hx178, hm⟩ := ob hm
    have hex177 := zgv hx178
    have hW180 := RW.set (i := y142.toNat) (r := [.int .i64 ((-1))]) (x := ((-1) : Int)) hW140 (rfl); rw [hex177] at hW180
    refine zei (i := 1) (j := 0) (m := y142.toNat) hs rfl rfl rfl hr173 (by decide) ti3 rfl (.free rfl) fun _ _ hs => ?_
    replace hs : St _ _ _ (.blk b167 (.cells #[.int .i64 (x155.Kind), .string (x155.Name), .string (x155.Text), v162, .int .i64 (x155.Parent), .int .i64 (x155.First), .int .i64 (x155.Last), .int .i64 (x155.Prev), .int .i64 (x155.Next)] 53 (0,0)) :: .row v138 3 1 (rw139.set y142.toNat [.int .i64 ((-1))]) :: .row v133 3 1 rw134 :: .blk b6 (.cells #[v1] 30 (0,0)) :: L) _ _ _ := hs
    generalize hgrw179 : rw139.set y142.toNat [.int .i64 ((-1))] = rw179 at hs hW180; clear hgrw179
    refine za0 <| hK29 <| Ws fun hK30 => Wq fun hK31 => s1 hs (zj3 rfl U53 rfl ti53 (.head _) rfl) fun hs => ?_
    obtain ⟨x182, hx183, hm⟩ := ob hm
    refine s1 hs (zbi rfl has63 rfl (zrk n ⟨_, rfl, ⟨rw163, hR164, hW165⟩⟩ hx183)) fun hs => s1 (v := .bool ((!x182))) hs (zfc rfl) fun hs => za0 <| hK31 ?_
    refine zah hs rfl (fun hg184 => ?_) (fun hg184 => ?_)
    ·replace hm := oc_t hg184 hm
     refine Wq fun hK32 => sA hs rfl fun hs => za0 <| hK32 <| zax ?_
     obtain rfl := Option.some.inj hm
     refine RtV1 hs rfl (rv_t hs rfl) ?_
     exact ⟨rfl,((hs.subL (.cons _ (.cons _ (.cons _ (.cons _ (.refl _)))))).weak hle).cw⟩
    replace hm := oc_f hg184 hm
    refine zaj <| hK30 <| Ws fun hK33 => Wq fun hK34 => sM hs rfl fun hs => s1 hs (zct rfl rfl) fun hs => za0 <| hK34 ?_
    refine zah hs rfl (fun hg185 => ?_) (fun hg185 => ?_)
    ·replace hm := oc_t hg185 hm
     refine Wq fun hK35 => sM hs rfl fun hs => zg1 hs rfl U61 ti3 rfl rfl fun v186 _ _ hs => ?_
     have hW187 : RW (tInt .i64) f [[.int .i64 (0)]] [0] := RW.single (rfl)
     generalize hgrw188 : ([[.int .i64 (0)]] : List (List Value)) = rw188 at hs hW187; clear hgrw188
     obtain ⟨x191, hx192, hm⟩ := ob hm
     obtain ⟨hbx191, hex191⟩ := zcb hx192
     have hW195 := hW135.append hW187; rw [hex191] at hW195
     refine zc9 (i := 3) hs rfl rfl rfl (Rd.st hs (.head _)) U61 ti3 (by decide) (by rw [RW.len hW135, RW.len hW187]; exact hbx191) (.free rfl) (by decide) fun v193 _ _ hs => ?_
     generalize hgx191 : rw134 ++ rw188 = rw194 at hs hW195; clear hgx191
     replace hs := hs.erase 0
     refine sA hs rfl fun hs => za0 <| hK35 <| zc0 <| hB27 _ _ ?_
     exact ⟨x191, x177, v193, rw194, v138, rw179, hm, hW195, hW180, hs.subs ⟨rfl, rfl, rfl, rfl, rfl, rfl, trivial⟩ (.cons _ (.cons_cons _ (.cons_cons _ (.cons_cons _ (.refl _)))))⟩
    replace hm := oc_f hg185 hm
    refine zaj <| hK33 <| Ws fun hK36 => ?_
    refine zaq (fun a w => ∃ (y197 : (List Int)) (v198 : Value) (rw199 : List (List Value)), zhm p0 y142 (zbh n p0 k143) x155 x177 y197 = some res ∧ RW (tInt .i64) f rw199 y197 ∧ St 178 w0 f (.blk b167 (.cells #[.int .i64 (x155.Kind), .string (x155.Name), .string (x155.Text), v162, .int .i64 (x155.Parent), .int .i64 (x155.First), .int .i64 (x155.Last), .int .i64 (x155.Prev), .int .i64 (x155.Next)] 53 (0,0)) :: .row v138 3 1 rw179 :: .row v198 3 1 rw199 :: .blk b6 (.cells #[v1] 30 (0,0)) :: L) [(1, pq b6 0),(4, v198),(5, v138),(6, .int .i64 (y142)),(7, pq b167 0),(38, v1),(39, .int .i64 ((p0.Nodes.length : Int))),(40, .int .i64 (y142))] a w) ?_ ?_
    ·clear hs hm
     rintro a w ⟨y197, v198, rw199, hm, hW200, hs⟩
     unfold zhm at hm
     refine hK36 <| Ws fun hK37 => Ws fun hK38 => ?_
     refine zaq (fun a w => ∃ (y202 : Bool), zhl p0 y142 (zbh n p0 k143) x155 x177 y197 y202 = some res ∧ St 178 w0 f (.blk b167 (.cells #[.int .i64 (x155.Kind), .string (x155.Name), .string (x155.Text), v162, .int .i64 (x155.Parent), .int .i64 (x155.First), .int .i64 (x155.Last), .int .i64 (x155.Prev), .int .i64 (x155.Next)] 53 (0,0)) :: .row v138 3 1 rw179 :: .row v198 3 1 rw199 :: .blk b6 (.cells #[v1] 30 (0,0)) :: L) [(1, pq b6 0),(4, v198),(5, v138),(6, .int .i64 (y142)),(7, pq b167 0),(38, v1),(39, .int .i64 ((p0.Nodes.length : Int))),(40, .int .i64 (y142)),(87, .bool (y202))] a w) ?_ ?_
     ·clear hs hm
      rintro a w ⟨y202, hm, hs⟩
      unfold zhl at hm
      refine hK38 ?_
      refine zah hs rfl (fun hg203 => ?_) (fun hg203 => ?_)
      ·replace hm := oc_t hg203 hm
       refine Wq fun hK39 => sA hs rfl fun hs => za0 <| hK39 <| zax ?_
       obtain rfl := Option.some.inj hm
       refine RtV1 hs rfl (rv_t hs rfl) ?_
       exact ⟨rfl,((hs.subL (.cons _ (.cons _ (.cons _ (.cons _ (.refl _)))))).weak hle).cw⟩
      replace hm := oc_f hg203 hm
      refine zaj <| hK37 <| Ws fun hK40 => Ws fun hK41 => ?_
      refine zaq (fun a w => ∃ (y204 : Bool), ze5 y142 (zbh n p0 k143) x155 x177 y197 y204 = some res ∧ St 178 w0 f (.blk b167 (.cells #[.int .i64 (x155.Kind), .string (x155.Name), .string (x155.Text), v162, .int .i64 (x155.Parent), .int .i64 (x155.First), .int .i64 (x155.Last), .int .i64 (x155.Prev), .int .i64 (x155.Next)] 53 (0,0)) :: .row v138 3 1 rw179 :: .row v198 3 1 rw199 :: .blk b6 (.cells #[v1] 30 (0,0)) :: L) [(1, pq b6 0),(4, v198),(5, v138),(6, .int .i64 (y142)),(7, pq b167 0),(38, v1),(39, .int .i64 ((p0.Nodes.length : Int))),(40, .int .i64 (y142)),(117, .bool (y204))] a w) ?_ ?_
      ·clear hs hm
       rintro a w ⟨y204, hm, hs⟩
       unfold ze5 at hm
       refine hK41 ?_
       refine zah hs rfl (fun hg205 => ?_) (fun hg205 => ?_)
       ·replace hm := oc_t hg205 hm
        refine Wq fun hK42 => sA hs rfl fun hs => za0 <| hK42 <| zax ?_
        obtain rfl := Option.some.inj hm
        refine RtV1 hs rfl (rv_t hs rfl) ?_
        exact ⟨rfl,((hs.subL (.cons _ (.cons _ (.cons _ (.cons _ (.refl _)))))).weak hle).cw⟩
       replace hm := oc_f hg205 hm
       refine zaj <| hK40 <| Wq fun hK43 => sM hs rfl fun hs => s1 (v := pq b167 4) hs (za1 rfl (FO.of (off := 4) U53 rfl rfl ti3 (by decide))) fun hs => s1 (v := .int .i64 (x155.Parent)) hs (y_ld rfl U3 rfl (Cell.blk (.head _) rfl)) fun hs => sM hs rfl fun hs => ?_
       obtain ⟨x206, hx207, hm⟩ := ob hm
       obtain ⟨r208, hr209, hq210, hi211, hb212⟩ := hW180.geti hx207
       obtain rfl : _ = ([.int .i64 (x206)] : List Value) := hq210
       refine s1 hs (zac (Rd.st hs (.tail _ (.head _))) rfl rfl hi211 hb212 U61 ti3) fun hs => ?_
       obtain ⟨x213, hx214, hm⟩ := ob hm
       have hex213 := zgv hx214
       have hW216 := RW.set (i := x155.Parent.toNat) (r := [.int .i64 (y142)]) (x := (y142 : Int)) hW180 (rfl); rw [hex213] at hW216
       refine zei (i := 1) (j := 0) (m := x155.Parent.toNat) hs rfl rfl rfl hr209 (by decide) ti3 rfl (.free rfl) fun _ _ hs => ?_
       replace hs : St _ _ _ (.blk b167 (.cells #[.int .i64 (x155.Kind), .string (x155.Name), .string (x155.Text), v162, .int .i64 (x155.Parent), .int .i64 (x155.First), .int .i64 (x155.Last), .int .i64 (x155.Prev), .int .i64 (x155.Next)] 53 (0,0)) :: .row v138 3 1 (rw179.set x155.Parent.toNat [.int .i64 (y142)]) :: .row v198 3 1 rw199 :: .blk b6 (.cells #[v1] 30 (0,0)) :: L) _ _ _ := hs
       generalize hgrw215 : rw179.set x155.Parent.toNat [.int .i64 (y142)] = rw215 at hs hW216; clear hgrw215
       refine za0 <| hK43 <| Wq fun hK44 => s1 (v := pq b167 0) hs (za1 rfl (FO.of (off := 0) U53 rfl rfl ti3 (by decide))) fun hs => s1 (v := .int .i64 (x155.Kind)) hs (y_ld rfl U3 rfl (Cell.blk (.head _) rfl)) fun hs => s1 hs (zct rfl rfl) fun hs => za0 <| hK44 ?_
       refine zaq (fun a w => ∃ (y218 : (List Int)) (v219 : Value) (rw220 : List (List Value)), zfz y142 (zbh n p0 k143) x213 y218 = some res ∧ RW (tInt .i64) f rw220 y218 ∧ St 178 w0 f (.row v138 3 1 rw215 :: .row v219 3 1 rw220 :: .blk b6 (.cells #[v1] 30 (0,0)) :: L) [(1, pq b6 0),(4, v219),(5, v138),(38, v1),(39, .int .i64 ((p0.Nodes.length : Int))),(40, .int .i64 (y142))] a w) ?_ ?_
       ·clear hs hm
        rintro a w ⟨y218, v219, rw220, hm, hW221, hs⟩
        unfold zfz at hm
        exact ⟨y218, x213, v219, rw220, v138, rw215, hm, hW221, hW216, hs.sub ⟨rfl, rfl, rfl, rfl, rfl, rfl, trivial⟩⟩
       refine zah hs rfl (fun hg223 => ?_) (fun hg223 => ?_)
       ·replace hm := oc_t hg223 hm
        refine za2 <| sM hs rfl fun hs => sM hs rfl fun hs => zg1 hs rfl U61 ti3 rfl rfl fun v224 _ _ hs => ?_
        have hW225 : RW (tInt .i64) f [[.int .i64 (y142)]] [y142] := RW.single (rfl)
        generalize hgrw226 : ([[.int .i64 (y142)]] : List (List Value)) = rw226 at hs hW225; clear hgrw226
        obtain ⟨x229, hx230, hm⟩ := ob hm
        obtain ⟨hbx229, hex229⟩ := zcb hx230
        have hW233 := hW200.append hW225; rw [hex229] at hW233
        refine zc9 (i := 3) hs rfl rfl rfl (Rd.st hs (.head _)) U61 ti3 (by decide) (by rw [RW.len hW200, RW.len hW225]; exact hbx229) (.free rfl) (by decide) fun v231 _ _ hs => ?_
        generalize hgx229 : rw199 ++ rw226 = rw232 at hs hW233; clear hgx229
        replace hs := hs.erase 0
        refine sA hs rfl fun hs => za0 ?_
        exact ⟨x229, v231, rw232, hm, hW233, hs.subs ⟨rfl, rfl, rfl, rfl, rfl, rfl, trivial⟩ (.cons _ (.cons_cons _ (.cons_cons _ (.cons_cons _ (.refl _)))))⟩
       replace hm := oc_f hg223 hm
       refine zaj ?_
       exact ⟨y197, v198, rw199, hm, hW200, hs.subs ⟨rfl, rfl, rfl, rfl, rfl, rfl, trivial⟩ (.cons _ (.cons_cons _ (.cons_cons _ (.cons_cons _ (.refl _)))))⟩
      refine za2 <| s1 (v := pq b167 7) hs (za1 rfl (FO.of (off := 7) U53 rfl rfl ti3 (by decide))) fun hs => s1 (v := .int .i64 (x155.Prev)) hs (y_ld rfl U3 rfl (Cell.blk (.head _) rfl)) fun hs => s1 hs (zct rfl rfl) fun hs => sM hs rfl fun hs => ?_
      refine St.split hs (t := 91) rfl (fun hg235 hs => ?_) (fun hg235 hs => ?_)
      ·replace hm := oc_t hg235 hm
       refine s2 (v := pq b6 0) hs (za1 rfl (FO.of (off := 0) U30 rfl rfl ti28 (by decide))) fun hs => s2 (v := v1) hs (y_ld rfl U28 rfl (Cell.blk (.tail _ (.tail _ (.tail _ (.head _)))) rfl)) fun hs => s2 (v := pq b167 4) hs (za1 rfl (FO.of (off := 4) U53 rfl rfl ti3 (by decide))) fun hs => s2 (v := .int .i64 (x155.Parent)) hs (y_ld rfl U3 rfl (Cell.blk (.head _) rfl)) fun hs => ?_
       obtain ⟨x236, hx237, hm⟩ := ob hm
       obtain ⟨r238, hr239, hq240, hi241, hb242⟩ := hW4.geti hx237
       obtain ⟨v243, rfl, ⟨rw244, hR245, hW246⟩⟩ := hq240
       refine s2 hs (zac hR3 rfl rfl hi241 hb242 U28 ti53) fun hs => s2 (v := eaddr v1 9 x155.Parent.toNat 5) hs (zck (i := x155.Parent.toNat) (j := 0) hR3 rfl hb242 (FO.of (off := 5) U53 rfl rfl ti3 (by decide))) fun hs => s2 (v := .int .i64 (x236.First)) hs (zbm (i := x155.Parent.toNat) (j := 5) hR3.up rfl hr239 rfl U3 rfl) fun hs => s2 (v := .int .i64 (y142)) hs (za3 rfl) fun hs => s2 hs (zeo rfl rfl) fun hs => sP hs rfl rfl fun hs => sM hs rfl fun hs => ?_
       refine St.split hs (t := 102) rfl (fun hg248 hs => ?_) (fun hg248 hs => ?_)
       ·replace hm := oc_t hg248 hm
        refine s3 hs fun hs => s3 hs fun hs => s3 hs fun hs => s3 hs fun hs => s4 hs fun hs => s4 hs fun hs => s4 hs fun hs => s4 hs fun hs => s4 hs fun hs => s4 hs fun hs => ?_
        refine s4 hs fun hs => s4 hs fun hs => s4 hs fun hs => s3 hs fun hs => sP hs rfl rfl fun hs => za0 ?_
        exact ⟨true, hm, hs.sub ⟨rfl, rfl, rfl, rfl, rfl, rfl, rfl, rfl, rfl, trivial⟩⟩
       replace hm := oc_f hg248 hm
       refine s2 (v := pq b167 7) hs (za1 rfl (FO.of (off := 7) U53 rfl rfl ti3 (by decide))) fun hs => s2 (v := .int .i64 (x155.Prev)) hs (y_ld rfl U3 rfl (Cell.blk (.head _) rfl)) fun hs => s2 hs (zeo rfl rfl) fun hs => s2 (v := .bool (decide (x155.Prev ≠ (-1)))) hs (za3 rfl) fun hs => ?_
       refine St.split hs (t := 106) rfl (fun hg249 hs => ?_) (fun hg249 hs => ?_)
       ·replace hm := oc_t hg249 hm
        refine s2 (v := pq b6 0) hs (za1 rfl (FO.of (off := 0) U30 rfl rfl ti28 (by decide))) fun hs => s2 (v := v1) hs (y_ld rfl U28 rfl (Cell.blk (.tail _ (.tail _ (.tail _ (.head _)))) rfl)) fun hs => s2 (v := pq b167 7) hs (za1 rfl (FO.of (off := 7) U53 rfl rfl ti3 (by decide))) fun hs => s2 (v := .int .i64 (x155.Prev)) hs (y_ld rfl U3 rfl (Cell.blk (.head _) rfl)) fun hs => ?_
        obtain ⟨x250, hx251, hm⟩ := ob hm
        obtain ⟨r252, hr253, hq254, hi255, hb256⟩ := hW4.geti hx251
        obtain ⟨v257, rfl, ⟨rw258, hR259, hW260⟩⟩ := hq254
        refine s2 hs (zac hR3 rfl rfl hi255 hb256 U28 ti53) fun hs => s2 (v := eaddr v1 9 x155.Prev.toNat 8) hs (zck (i := x155.Prev.toNat) (j := 0) hR3 rfl hb256 (FO.of (off := 8) U53 rfl rfl ti3 (by decide))) fun hs => s2 (v := .int .i64 (x250.Next)) hs (zbm (i := x155.Prev.toNat) (j := 8) hR3.up rfl hr253 rfl U3 rfl) fun hs => s2 (v := .int .i64 (y142)) hs (za3 rfl) fun hs => s2 hs (zeo rfl rfl) fun hs => s2 (v := .bool (decide (x250.Next ≠ y142))) hs (zaz rfl rfl) fun hs => sP hs rfl rfl fun hs => za0 ?_
        exact ⟨decide (x250.Next ≠ y142), hm, hs.sub ⟨rfl, rfl, rfl, rfl, rfl, rfl, rfl, rfl, rfl, trivial⟩⟩
       replace hm := oc_f hg249 hm
       refine s3 hs fun hs => s3 hs fun hs => s3 hs fun hs => s3 hs fun hs => s3 hs fun hs => s3 hs fun hs => s3 hs fun hs => s3 hs fun hs => s3 hs fun hs => s2 (v := .bool (false)) hs (zaz rfl rfl) fun hs => ?_
       refine sP hs rfl rfl fun hs => za0 ?_
       exact ⟨false, hm, hs.sub ⟨rfl, rfl, rfl, rfl, rfl, rfl, rfl, rfl, rfl, trivial⟩⟩
      replace hm := oc_f hg235 hm
      refine s3 hs fun hs => s3 hs fun hs => s3 hs fun hs => s3 hs fun hs => s3 hs fun hs => s3 hs fun hs => s3 hs fun hs => s3 hs fun hs => s3 hs fun hs => sP hs rfl rfl fun hs => ?_
      refine sM hs rfl fun hs => s2 (v := pq b167 7) hs (za1 rfl (FO.of (off := 7) U53 rfl rfl ti3 (by decide))) fun hs => s2 (v := .int .i64 (x155.Prev)) hs (y_ld rfl U3 rfl (Cell.blk (.head _) rfl)) fun hs => s2 hs (zeo rfl rfl) fun hs => s2 (v := .bool (decide (x155.Prev ≠ (-1)))) hs (za3 rfl) fun hs => ?_
      refine St.split hs (t := 106) rfl (fun hg262 hs => ?_) (fun hg262 hs => ?_)
      ·replace hm := oc_t hg262 hm
       refine s2 (v := pq b6 0) hs (za1 rfl (FO.of (off := 0) U30 rfl rfl ti28 (by decide))) fun hs => s2 (v := v1) hs (y_ld rfl U28 rfl (Cell.blk (.tail _ (.tail _ (.tail _ (.head _)))) rfl)) fun hs => s2 (v := pq b167 7) hs (za1 rfl (FO.of (off := 7) U53 rfl rfl ti3 (by decide))) fun hs => s2 (v := .int .i64 (x155.Prev)) hs (y_ld rfl U3 rfl (Cell.blk (.head _) rfl)) fun hs => ?_
       obtain ⟨x263, hx264, hm⟩ := ob hm
       obtain ⟨r265, hr266, hq267, hi268, hb269⟩ := hW4.geti hx264
       obtain ⟨v270, rfl, ⟨rw271, hR272, hW273⟩⟩ := hq267
       refine s2 hs (zac hR3 rfl rfl hi268 hb269 U28 ti53) fun hs => s2 (v := eaddr v1 9 x155.Prev.toNat 8) hs (zck (i := x155.Prev.toNat) (j := 0) hR3 rfl hb269 (FO.of (off := 8) U53 rfl rfl ti3 (by decide))) fun hs => s2 (v := .int .i64 (x263.Next)) hs (zbm (i := x155.Prev.toNat) (j := 8) hR3.up rfl hr266 rfl U3 rfl) fun hs => s2 (v := .int .i64 (y142)) hs (za3 rfl) fun hs => s2 hs (zeo rfl rfl) fun hs => s2 (v := .bool (decide (x263.Next ≠ y142))) hs (zaz rfl rfl) fun hs => sP hs rfl rfl fun hs => za0 ?_
       exact ⟨decide (x263.Next ≠ y142), hm, hs.sub ⟨rfl, rfl, rfl, rfl, rfl, rfl, rfl, rfl, rfl, trivial⟩⟩
      replace hm := oc_f hg262 hm
      refine s3 hs fun hs => s3 hs fun hs => s3 hs fun hs => s3 hs fun hs => s3 hs fun hs => s3 hs fun hs => s3 hs fun hs => s3 hs fun hs => s3 hs fun hs => s2 (v := .bool (false)) hs (zaz rfl rfl) fun hs => ?_
      refine sP hs rfl rfl fun hs => za0 ?_
      exact ⟨false, hm, hs.sub ⟨rfl, rfl, rfl, rfl, rfl, rfl, rfl, rfl, rfl, trivial⟩⟩
     refine zju hs mixed (by kernel_rfl) ?_; intro a he
     refine qy (v := v198) he (za3 rfl) fun _ he => qy he (zc3 (Rd.st hs (.tail _ (.tail _ (.head _)))) hW200 rfl U61) fun _ he => qy he (zct rfl rfl) fun _ he => qy (v := .bool (decide ((y197.length : Int) = 0))) he (za3 rfl) fun _ he => ?_
     refine Ev.split he (t := 78) rfl (fun hg275 hq => ?_) (fun hg275 hq => ?_)
     ·clear he; have he := hq; clear hq
      replace hm := oc_t hg275 hm
      refine qno he fun _ he => qno he fun _ he => qno he fun _ he => qno he fun _ he => qno he fun _ he => qno he fun _ he => qno he fun _ he => qno he fun _ he => qy (v := .bool (true)) he (zaz rfl rfl) fun _ he => ?_
      refine zfw he ?_; clear he; (try clear hs); (try clear a); intro a w hs
      exact ⟨true, hm, hs.sub ⟨rfl, rfl, rfl, rfl, rfl, rfl, rfl, rfl, rfl, trivial⟩⟩
     clear he; have he := hq; clear hq
     replace hm := oc_f hg275 hm
     refine qyg (v := pq b167 7) he (za1 rfl (FO.of (off := 7) U53 rfl rfl ti3 (by decide))) fun _ he => qyg (v := .int .i64 (x155.Prev)) he (y_ld rfl U3 rfl (Cell.blk (.head _) rfl)) fun _ he => qyg (v := v138) he (za3 rfl) fun _ he => qyg (v := pq b167 4) he (za1 rfl (FO.of (off := 4) U53 rfl rfl ti3 (by decide))) fun _ he => qyg (v := .int .i64 (x155.Parent)) he (y_ld rfl U3 rfl (Cell.blk (.head _) rfl)) fun _ he => ?_
     obtain ⟨x276, hx277, hm⟩ := ob hm
     obtain ⟨r278, hr279, hq280, hi281, hb282⟩ := hW180.geti hx277
     obtain rfl : _ = ([.int .i64 (x276)] : List Value) := hq280
     refine qyg he (zac (Rd.st hs (.tail _ (.head _))) rfl rfl hi281 hb282 U61 ti3) fun _ he => qyg (v := .int .i64 (x276)) he (zbm (i := x155.Parent.toNat) (j := 0) (Rd.st hs (.tail _ (.head _))) rfl hr279 rfl U3 rfl) fun _ he => qyg he (zeo rfl rfl) fun _ he => qy (v := .bool (decide (x155.Prev ≠ x276))) he (zaz rfl rfl) fun _ he => ?_
     refine zfw he ?_; clear he; (try clear hs); (try clear a); intro a w hs
     exact ⟨decide (x155.Prev ≠ x276), hm, hs.sub ⟨rfl, rfl, rfl, rfl, rfl, rfl, rfl, rfl, rfl, trivial⟩⟩
    refine zam fun Qe45 hB45 hO45 => zd1 (fun (k : Nat) a w => ∃ (y283 : (List Int)) (v284 : Value) (rw285 : List (List Value)), zd3 p0 y142 (zbh n p0 k143) x155 x177 k y283 = some res ∧ RW (tInt .i64) f rw285 y283 ∧ St 178 w0 f (.blk b167 (.cells #[.int .i64 (x155.Kind), .string (x155.Name), .string (x155.Text), v162, .int .i64 (x155.Parent), .int .i64 (x155.First), .int .i64 (x155.Last), .int .i64 (x155.Prev), .int .i64 (x155.Next)] 53 (0,0)) :: .row v138 3 1 rw179 :: .row v284 3 1 rw285 :: .blk b6 (.cells #[v1] 30 (0,0)) :: L) [(1, pq b6 0),(4, v284),(5, v138),(6, .int .i64 (y142)),(7, pq b167 0),(38, v1),(39, .int .i64 ((p0.Nodes.length : Int))),(40, .int .i64 (y142))] a w) (fun k => k) n ⟨y132, v133, rw134, hm, hW135, hs.sub ⟨rfl, rfl, rfl, rfl, rfl, rfl, rfl, rfl, trivial⟩⟩ ?_
    clear hs hm
    intro k
    rintro a w ⟨y283, v284, rw285, hm, hW286, hs⟩
    intro K46 hK46
    cases k with
    | zero => simp [zd3] at hm
    | succ k288 =>
     rw [zd3] at hm
     refine Ws fun hK47 => Ws fun hK48 => ?_
     refine zaq (fun a w => ∃ (y289 : Bool), zgy p0 y142 (zbh n p0 k143) x155 x177 y283 (zd3 p0 y142 (zbh n p0 k143) x155 x177 k288) y289 = some res ∧ St 178 w0 f (.blk b167 (.cells #[.int .i64 (x155.Kind), .string (x155.Name), .string (x155.Text), v162, .int .i64 (x155.Parent), .int .i64 (x155.First), .int .i64 (x155.Last), .int .i64 (x155.Prev), .int .i64 (x155.Next)] 53 (0,0)) :: .row v138 3 1 rw179 :: .row v284 3 1 rw285 :: .blk b6 (.cells #[v1] 30 (0,0)) :: L) [(1, pq b6 0),(4, v284),(5, v138),(6, .int .i64 (y142)),(7, pq b167 0),(38, v1),(39, .int .i64 ((p0.Nodes.length : Int))),(40, .int .i64 (y142)),(69, .bool (y289))] a w) ?_ ?_
     ·clear hs hm
      rintro a w ⟨y289, hm, hs⟩
      unfold zgy at hm
      refine hK48 ?_
      refine zah hs rfl (fun hg290 => ?_) (fun hg290 => ?_)
      ·replace hm := oc_t hg290 hm
       refine zaj <| hK47 <| zam fun Qe49 hB49 hO49 => za2 <| sM hs rfl fun hs => sM hs rfl fun hs => s1 hs (zc3 (Rd.st hs (.tail _ (.tail _ (.head _)))) hW286 rfl U61) fun hs => s1 hs (zn2 rfl rfl rfl) fun hs => ?_
       obtain ⟨x291, hx292, hm⟩ := ob hm
       obtain ⟨⟨hlx291, hhx291, h1x291, h2x291⟩, hex291⟩ := zm9 hx292
       have hW293 := (hW286.take (w64 ((y283.length : Int) - 1)).toNat).drop (Int.toNat 0); rw [hex291] at hW293
       simp only [Int.toNat_zero, List.drop_zero] at hW293
       refine s1 hs (zpg (lo := (0 : Nat)) (hi := (w64 ((y283.length : Int) - 1)).toNat) rfl U61 ti3 (.inl ⟨rfl, rfl⟩) (.inr ⟨_, rfl, by rw [← hhx291]; rfl⟩) h1x291 (by rw [RW.len hW286]; exact h2x291) (Rd.st hs (.tail _ (.tail _ (.head _))))) fun hs => ?_
       replace hs := hs.shrink (i := 2) rfl (m := (w64 ((y283.length : Int) - 1)).toNat) (by rw [RW.len hW286]; exact h2x291)
       generalize hgrw295 : List.take _ rw285 = rw295 at hs hW293; clear hgrw295
       generalize hgv296 : cutv v284 1 0 _ = v296 at hs; clear hgv296
       refine sA hs rfl fun hs => za0 ?_
       exact hK46 k288 _ _ (Nat.lt_succ_self _) ⟨x291, v296, rw295, hm, hW293, hs.sub ⟨rfl, rfl, rfl, rfl, rfl, rfl, rfl, rfl, trivial⟩⟩
      replace hm := oc_f hg290 hm
      refine zc0 <| hB45 _ _ ?_
      exact ⟨y283, v284, rw285, hm, hW286, hs.sub ⟨rfl, rfl, rfl, rfl, rfl, rfl, rfl, rfl, trivial⟩⟩
     refine zju hs mixed (by kernel_rfl) ?_; intro a he
     refine qy (v := v284) he (za3 rfl) fun _ he => qy he (zc3 (Rd.st hs (.tail _ (.tail _ (.head _)))) hW286 rfl U61) fun _ he => qy he (zhq rfl rfl) fun _ he => qy (v := .bool (decide (0 < (y283.length : Int)))) he (za3 rfl) fun _ he => ?_
     refine Ev.split he (t := 59) rfl (fun hg298 hq => ?_) (fun hg298 hq => ?_)
     ·clear he; have he := hq; clear hq
      replace hm := oc_t hg298 hm
      refine qyg (v := v284) he (za3 rfl) fun _ he => qyg (v := v284) he (za3 rfl) fun _ he => qyg he (zc3 (Rd.st hs (.tail _ (.tail _ (.head _)))) hW286 rfl U61) fun _ he => qyg he (zn2 rfl rfl rfl) fun _ he => ?_
      obtain ⟨x299, hx300, hm⟩ := ob hm
      obtain ⟨r301, hr302, hq303, hi304, hb305⟩ := hW286.geti hx300
      obtain rfl : _ = ([.int .i64 (x299)] : List Value) := hq303
      refine qyg he (zac (Rd.st hs (.tail _ (.tail _ (.head _)))) rfl rfl hi304 hb305 U61 ti3) fun _ he => qyg (v := .int .i64 (x299)) he (zbm (i := (w64 ((y283.length : Int) - 1)).toNat) (j := 0) (Rd.st hs (.tail _ (.tail _ (.head _)))) rfl hr302 rfl U3 rfl) fun _ he => qyg (v := pq b167 4) he (za1 rfl (FO.of (off := 4) U53 rfl rfl ti3 (by decide))) fun _ he => qyg (v := .int .i64 (x155.Parent)) he (y_ld rfl U3 rfl (Cell.blk (.head _) rfl)) fun _ he => qyg he (zeo rfl rfl) fun _ he => qy (v := .bool (decide (x299 ≠ x155.Parent))) he (zaz rfl rfl) fun _ he => ?_
      refine zfw he ?_; clear he; (try clear hs); (try clear a); intro a w hs
      exact ⟨decide (x299 ≠ x155.Parent), hm, hs.sub ⟨rfl, rfl, rfl, rfl, rfl, rfl, rfl, rfl, rfl, trivial⟩⟩
     clear he; have he := hq; clear hq
     replace hm := oc_f hg298 hm
     refine qno he fun _ he => qno he fun _ he => qno he fun _ he => qno he fun _ he => qno he fun _ he => qno he fun _ he => qno he fun _ he => qno he fun _ he => qno he fun _ he => qy (v := .bool (false)) he (zaz rfl rfl) fun _ he => ?_
     refine zfw he ?_; clear he; (try clear hs); (try clear a); intro a w hs
     exact ⟨false, hm, hs.sub ⟨rfl, rfl, rfl, rfl, rfl, rfl, rfl, rfl, rfl, trivial⟩⟩
   replace hm := oc_f hg144 hm
   refine zc0 <| hB22 _ _ ?_
   exact ⟨y137, v138, rw139, hm, hW140, hs.subs ⟨rfl, rfl, trivial⟩ (.cons_cons _ (.cons _ (.cons_cons _ (.refl _))))⟩
 refine za2 <| s1 (v := pq b20 0) hs (za1 rfl (FO.of (off := 0) U53 rfl rfl ti3 (by decide))) fun hs => s1 (v := .int .i64 (x8.Kind)) hs (y_ld rfl U3 rfl (Cell.blk (.head _) rfl)) fun hs => s1 hs (zeo rfl rfl) fun hs => sM hs rfl fun hs => ?_
 refine St.split hs (t := 17) rfl (fun hg306 hs => ?_) (fun hg306 hs => ?_)
 ·refine s3 hs fun hs => s3 hs fun hs => s3 hs fun hs => sP hs rfl rfl fun hs => sM hs rfl fun hs => s3 hs fun hs => s3 hs fun hs => s3 hs fun hs => sP hs rfl rfl fun hs => sM hs rfl fun hs => ?_
  refine s3 hs fun hs => s3 hs fun hs => s3 hs fun hs => sP hs rfl rfl fun hs => za0 ?_
  exact hs.sub ⟨rfl,(lkB (((or_t hg306).trans rfl)) rfl), trivial⟩
 refine s2 (v := pq b20 4) hs (za1 rfl (FO.of (off := 4) U53 rfl rfl ti3 (by decide))) fun hs => s2 (v := .int .i64 (x8.Parent)) hs (y_ld rfl U3 rfl (Cell.blk (.head _) rfl)) fun hs => s2 hs (zeo rfl rfl) fun hs => sP hs rfl rfl fun hs => sM hs rfl fun hs => ?_
 refine St.split hs (t := 22) rfl (fun hg307 hs => ?_) (fun hg307 hs => ?_)
 ·refine s3 hs fun hs => s3 hs fun hs => s3 hs fun hs => sP hs rfl rfl fun hs => sM hs rfl fun hs => s3 hs fun hs => s3 hs fun hs => s3 hs fun hs => sP hs rfl rfl fun hs => za0 ?_
  exact hs.sub ⟨rfl,(lkB (((or_f hg306).trans ((or_t hg307).trans rfl))) rfl), trivial⟩
 refine s2 (v := pq b20 7) hs (za1 rfl (FO.of (off := 7) U53 rfl rfl ti3 (by decide))) fun hs => s2 (v := .int .i64 (x8.Prev)) hs (y_ld rfl U3 rfl (Cell.blk (.head _) rfl)) fun hs => s2 hs (zeo rfl rfl) fun hs => sP hs rfl rfl fun hs => sM hs rfl fun hs => ?_
 refine St.split hs (t := 27) rfl (fun hg308 hs => ?_) (fun hg308 hs => ?_)
 ·refine s3 hs fun hs => s3 hs fun hs => s3 hs fun hs => sP hs rfl rfl fun hs => za0 ?_
  exact hs.sub ⟨rfl,(lkB (((or_f hg306).trans ((or_f hg307).trans ((or_t hg308).trans rfl)))) rfl), trivial⟩
 refine s2 (v := pq b20 8) hs (za1 rfl (FO.of (off := 8) U53 rfl rfl ti3 (by decide))) fun hs => s2 (v := .int .i64 (x8.Next)) hs (y_ld rfl U3 rfl (Cell.blk (.head _) rfl)) fun hs => s2 hs (zeo rfl rfl) fun hs => sP hs rfl rfl fun hs => za0 ?_
 exact hs.sub ⟨rfl,(lkB (((or_f hg306).trans ((or_f hg307).trans ((or_f hg308).trans rfl)))) rfl), trivial⟩
def zku : Option Int :=
  some 0
def zgf (y25 : Int) (lp26 : (List Int) → Int → Option Int) (y55 : (List Int)) : Option Int :=
  (geti y55 y25).bind fun x60 =>
  (bif (decide (256 < x60)) then some 5 else
  lp26 y55 (w64 (y25 + 1)))
def zdd (p0 : zaa) : Nat → (List Int) → Int → Option Int
  | 0, _, _ => none
  | k26 + 1, y20, y25 =>
  (bif (decide (y25 < (p0.Nodes.length : Int))) then (geti p0.Nodes y25).bind fun x28 =>
  (geti y20 y25).bind fun _x43 =>
  (seti y20 y25 1).bind fun x50 =>
  (bif (decide (0 < y25)) then (geti x50 x28.Parent).bind fun x69 =>
  (geti x50 y25).bind fun _x76 =>
  (seti x50 y25 (w64 (x69 + 1))).bind fun x83 =>
  zgf y25 (zdd p0 k26) x83 else
  zgf y25 (zdd p0 k26) x50) else
  zku)
def zib (n : Nat) (p0 : zaa) : Option Int :=
  (bif (decide ((p0.Nodes.length : Int) = 0)) then some 10 else
  (bif (decide (4096 < (p0.Nodes.length : Int))) then some 4 else
  (zjr n p0).bind fun x10 =>
  (bif (!x10) then some 10 else
  (repM 8 (p0.Nodes.length : Int) (0 : Int)).bind fun x13 =>
  zdd p0 n x13 0)))
theorem zkt (n : Nat) {f : Fz} {p0 : zaa} {a0 : List Value} {res : Int} (h0 : zcz.R f a0 p0) (hm : zib n p0 = some res) : Gives Tryz.prog 18 [.agg a0.toArray] f (.int .i64 res) := by
 unfold zib at hm
 intro w0 L w hC
 obtain ⟨v1, rfl, ⟨rw2, hR3, hW4⟩⟩ := h0
 refine enter Tryz.func18 rfl Tryz.ntmps18 (by simp) hC fun a hs => ?_
 have hle := Fz.le.refl f
 refine Wq fun hK1 => sbox hs rfl fun b6 _ _ hs => sA hs rfl fun hs => za0 <| hK1 <| Ws fun hK2 => zam fun Qe3 hB3 hO3 => Ws fun hK4 => za2 ?_
 refine s1 (v := pq b6 0) hs (za1 rfl (FO.of (off := 0) U30 rfl rfl ti28 (by decide))) fun hs => s1 (v := v1) hs (y_ld rfl U28 rfl (Cell.blk (.head _) rfl)) fun hs => s1 hs (zc3 hR3 hW4 rfl U28) fun hs => s1 hs (zct rfl rfl) fun hs => sA hs rfl fun hs => za0 <| hK4 ?_
 refine zah hs rfl (fun hg8 => ?_) (fun hg8 => ?_)
 ·replace hm := oc_t hg8 hm
  refine Wq fun hK5 => sA hs rfl fun hs => za0 <| hK5 <| zax ?_
  obtain rfl := Option.some.inj hm
  refine RtV1 hs rfl (rv_t hs rfl) ?_
  exact ⟨rfl,((hs.subL (.cons _ (.refl _))).weak hle).cw⟩
 replace hm := oc_f hg8 hm
 refine Wq fun hK6 => s1 (v := pq b6 0) hs (za1 rfl (FO.of (off := 0) U30 rfl rfl ti28 (by decide))) fun hs => s1 (v := v1) hs (y_ld rfl U28 rfl (Cell.blk (.head _) rfl)) fun hs => s1 hs (zc3 hR3 hW4 rfl U28) fun hs => s1 hs (zhq rfl rfl) fun hs => sA hs rfl fun hs => za0 <| hK6 ?_
 refine zah hs rfl (fun hg9 => ?_) (fun hg9 => ?_)
 ·replace hm := oc_t hg9 hm
  refine Wq fun hK7 => sA hs rfl fun hs => za0 <| hK7 <| zax ?_
  obtain rfl := Option.some.inj hm
  refine RtV1 hs rfl (rv_t hs rfl) ?_
  exact ⟨rfl,((hs.subL (.cons _ (.refl _))).weak hle).cw⟩
 replace hm := oc_f hg9 hm
 refine Wq fun hK8 => s1 hs (zj3 rfl U30 rfl ti30 (.head _) rfl) fun hs => ?_
 obtain ⟨x10, hx11, hm⟩ := ob hm
 refine s1 hs (zbi rfl has36 rfl (zq9 n ⟨_, rfl, ⟨rw2, hR3, hW4⟩⟩ hx11)) fun hs => s1 (v := .bool ((!x10))) hs (zfc rfl) fun hs => sA hs rfl fun hs => za0 <| hK8 ?_
 refine zah hs rfl (fun hg12 => ?_) (fun hg12 => ?_)
 ·replace hm := oc_t hg12 hm
  refine Wq fun hK9 => sA hs rfl fun hs => za0 <| hK9 <| zax ?_
  obtain rfl := Option.some.inj hm
  refine RtV1 hs rfl (rv_t hs rfl) ?_
  exact ⟨rfl,((hs.subL (.cons _ (.refl _))).weak hle).cw⟩
 replace hm := oc_f hg12 hm
 refine zaj <| hK2 <| Wq fun hK10 => s1 (v := pq b6 0) hs (za1 rfl (FO.of (off := 0) U30 rfl rfl ti28 (by decide))) fun hs => s1 (v := v1) hs (y_ld rfl U28 rfl (Cell.blk (.head _) rfl)) fun hs => s1 hs (zc3 hR3 hW4 rfl U28) fun hs => ?_
 obtain ⟨x13, hx14, hm⟩ := ob hm
 obtain ⟨hix13, hbx13, hex13⟩ := zno hx14
 refine zqo hs rfl rfl hix13 U61 ti3 (by decide) (AllC.row ⟨rfl, trivial⟩ rfl) hbx13 fun v15 _ _ hs => ?_
 replace hs : St _ _ _ (.row v15 3 1 (List.replicate (p0.Nodes.length : Int).toNat ([.int .i64 (0)] : List Value)) :: .blk b6 (.cells #[v1] 30 (0,0)) :: L) _ _ _ := hs
 have hW17 : RW (tInt .i64) f (List.replicate (p0.Nodes.length : Int).toNat ([.int .i64 (0)] : List Value)) x13 := by rw [← hex13]; exact RW.rep (t := (tInt .i64)) (r := [.int .i64 (0)]) (rfl) _
 generalize hgx13 : (List.replicate (p0.Nodes.length : Int).toNat ([.int .i64 (0)] : List Value)) = rw16 at hs hW17; clear hgx13
 replace hs : St _ _ _ (.row v15 3 1 rw16 :: .blk b6 (.cells #[v1] 30 (0,0)) :: L) _ _ _ := hs
 refine sA hs rfl fun hs => za0 <| hK10 <| Ws fun hK11 => Wq fun hK12 => s1 (v := pq b6 0) hs (za1 rfl (FO.of (off := 0) U30 rfl rfl ti28 (by decide))) fun hs => s1 (v := v1) hs (y_ld rfl U28 rfl (Cell.blk (.tail _ (.head _)) rfl)) fun hs => s1 hs (zc3 hR3 hW4 rfl U28) fun hs => sM hs rfl fun hs => ?_
 refine za0 <| hK12 ?_
 refine zaq (fun a w => zku = some res ∧ St 52 w0 f (L) [] a w) ?_ ?_
 ·clear hs hm
  rintro a w ⟨hm, hs⟩
  replace hs : St _ _ _ (L) _ _ _ := hs
  unfold zku at hm
  refine hK11 <| Wq fun hK13 => sA hs rfl fun hs => za0 <| hK13 <| zax ?_
  obtain rfl := Option.some.inj hm
  refine RtV1 hs rfl (rv_t hs rfl) ?_
  exact ⟨rfl,(hs.weak hle).cw⟩
 refine zam fun Qe14 hB14 hO14 => zd1 (fun (k : Nat) a w => ∃ (y20 : (List Int)) (y25 : Int) (v21 : Value) (rw22 : List (List Value)), zdd p0 k y20 y25 = some res ∧ RW (tInt .i64) f rw22 y20 ∧ St 52 w0 f (.row v21 3 1 rw22 :: L) [(3, v21),(25, v1),(26, .int .i64 ((p0.Nodes.length : Int))),(27, .int .i64 (y25))] a w) (fun k => k) n ⟨x13,0, v15, rw16, hm, hW17, hs.subs ⟨rfl, rfl, rfl, rfl, trivial⟩ (.cons_cons _ (.cons _ (.refl _)))⟩ ?_
 clear hs hm
 intro k
 rintro a w ⟨y20, y25, v21, rw22, hm, hW23, hs⟩
 intro K15 hK15
 cases k with
 | zero => simp [zdd] at hm
 | succ k26 =>
  rw [zdd] at hm
  refine Wq fun hK16 => s1 hs (zgq rfl rfl) fun hs => za0 <| hK16 <| Ws fun hK17 => ?_
  refine zah hs rfl (fun hg27 => ?_) (fun hg27 => ?_)
  ·replace hm := oc_t hg27 hm
   refine zaj <| hK17 <| Ws fun hK18 => zam fun Qe19 hB19 hO19 => Wq fun hK20 => sM hs rfl fun hs => ?_
   obtain ⟨x28, hx29, hm⟩ := ob hm
   obtain ⟨r30, hr31, hq32, hi33, hb34⟩ := hW4.geti hx29
   obtain ⟨v35, rfl, ⟨rw36, hR37, hW38⟩⟩ := hq32
   refine s1 hs (zac hR3 rfl rfl hi33 hb34 U28 ti53) fun hs => s1 hs (zdn hR3.up rfl hr31 U53 rfl ti53) fun hs => zbl hs ti53 (.free rfl) (by decide) fun b40 _ _ hs => sA hs rfl fun hs => zb5 (i := 0) hs rfl rfl rfl ti53 ⟨rfl, rfl⟩ (AllC.arr (r := [.int .i64 (x28.Kind), .string (x28.Name), .string (x28.Text), v35, .int .i64 (x28.Parent), .int .i64 (x28.First), .int .i64 (x28.Last), .int .i64 (x28.Prev), .int .i64 (x28.Next)]) ⟨rfl, rfl, rfl, hR37.one, rfl, rfl, rfl, rfl, rfl, trivial⟩) (.free rfl) fun _ _ hs => za0 <| hK20 <| Wq fun hK21 => sM hs rfl fun hs => ?_
   refine sM hs rfl fun hs => ?_
   obtain ⟨x43, hx44, hm⟩ := ob hm
   obtain ⟨r45, hr46, hq47, hi48, hb49⟩ := hW23.geti hx44
   obtain rfl : _ = ([.int .i64 (x43)] : List Value) := hq47
   refine s1 hs (zac (Rd.st hs (.tail _ (.head _))) rfl rfl hi48 hb49 U61 ti3) fun hs => ?_
   obtain ⟨x50, hx51, hm⟩ := ob hm
   have hex50 := zgv hx51
   have hW53 := RW.set (i := y25.toNat) (r := [.int .i64 (1)]) (x := (1 : Int)) hW23 (rfl); rw [hex50] at hW53
   refine zei (i := 1) (j := 0) (m := y25.toNat) hs rfl rfl rfl hr46 (by decide) ti3 rfl (.free rfl) fun _ _ hs => ?_
   replace hs : St _ _ _ (.blk b40 (.cells #[.int .i64 (x28.Kind), .string (x28.Name), .string (x28.Text), v35, .int .i64 (x28.Parent), .int .i64 (x28.First), .int .i64 (x28.Last), .int .i64 (x28.Prev), .int .i64 (x28.Next)] 53 (0,0)) :: .row v21 3 1 (rw22.set y25.toNat [.int .i64 (1)]) :: L) _ _ _ := hs
   generalize hgrw52 : rw22.set y25.toNat [.int .i64 (1)] = rw52 at hs hW53; clear hgrw52
   refine za0 <| hK21 <| Ws fun hK22 => Wq fun hK23 => sM hs rfl fun hs => s1 hs (zhq rfl rfl) fun hs => za0 <| hK23 ?_
   refine zaq (fun a w => ∃ (y55 : (List Int)) (v56 : Value) (rw57 : List (List Value)), zgf y25 (zdd p0 k26) y55 = some res ∧ RW (tInt .i64) f rw57 y55 ∧ St 52 w0 f (.row v56 3 1 rw57 :: L) [(3, v56),(4, .int .i64 (y25)),(25, v1),(26, .int .i64 ((p0.Nodes.length : Int))),(27, .int .i64 (y25))] a w) ?_ ?_
   ·clear hs hm
    rintro a w ⟨y55, v56, rw57, hm, hW58, hs⟩
    unfold zgf at hm
    refine hK22 <| Wq fun hK24 => sM hs rfl fun hs => sM hs rfl fun hs => ?_
    obtain ⟨x60, hx61, hm⟩ := ob hm
    obtain ⟨r62, hr63, hq64, hi65, hb66⟩ := hW58.geti hx61
    obtain rfl : _ = ([.int .i64 (x60)] : List Value) := hq64
    refine s1 hs (zac (Rd.st hs (.head _)) rfl rfl hi65 hb66 U61 ti3) fun hs => s1 (v := .int .i64 (x60)) hs (zbm (i := y25.toNat) (j := 0) (Rd.st hs (.head _)) rfl hr63 rfl U3 rfl) fun hs => s1 hs (zhq rfl rfl) fun hs => za0 <| hK24 ?_
    refine zah hs rfl (fun hg67 => ?_) (fun hg67 => ?_)
    ·replace hm := oc_t hg67 hm
     refine Wq fun hK25 => sA hs rfl fun hs => za0 <| hK25 <| zax ?_
     obtain rfl := Option.some.inj hm
     refine RtV1 hs rfl (rv_t hs rfl) ?_
     exact ⟨rfl,((hs.subL (.cons _ (.refl _))).weak hle).cw⟩
    replace hm := oc_f hg67 hm
    refine zaj <| hK18 <| za2 <| s1 hs (zdz rfl rfl rfl) fun hs => sM hs rfl fun hs => za0 ?_
    exact hK15 k26 _ _ (Nat.lt_succ_self _) ⟨y55,(w64 (y25 + 1)), v56, rw57, hm, hW58, hs.sub ⟨rfl, rfl, rfl, rfl, trivial⟩⟩
   refine zah hs rfl (fun hg68 => ?_) (fun hg68 => ?_)
   ·replace hm := oc_t hg68 hm
    refine za2 <| sM hs rfl fun hs => sM hs rfl fun hs => sM hs rfl fun hs => s1 (v := pq b40 4) hs (za1 rfl (FO.of (off := 4) U53 rfl rfl ti3 (by decide))) fun hs => s1 (v := .int .i64 (x28.Parent)) hs (y_ld rfl U3 rfl (Cell.blk (.head _) rfl)) fun hs => ?_
    obtain ⟨x69, hx70, hm⟩ := ob hm
    obtain ⟨r71, hr72, hq73, hi74, hb75⟩ := hW53.geti hx70
    obtain rfl : _ = ([.int .i64 (x69)] : List Value) := hq73
    refine s1 hs (zac (Rd.st hs (.tail _ (.head _))) rfl rfl hi74 hb75 U61 ti3) fun hs => s1 (v := .int .i64 (x69)) hs (zbm (i := x28.Parent.toNat) (j := 0) (Rd.st hs (.tail _ (.head _))) rfl hr72 rfl U3 rfl) fun hs => s1 hs (zdz rfl rfl rfl) fun hs => ?_
    obtain ⟨x76, hx77, hm⟩ := ob hm
    obtain ⟨r78, hr79, hq80, hi81, hb82⟩ := hW53.geti hx77
    obtain rfl : _ = ([.int .i64 (x76)] : List Value) := hq80
    refine s1 hs (zac (Rd.st hs (.tail _ (.head _))) rfl rfl hi81 hb82 U61 ti3) fun hs => ?_
    obtain ⟨x83, hx84, hm⟩ := ob hm
    have hex83 := zgv hx84
    have hW86 := RW.set (i := y25.toNat) (r := [.int .i64 ((w64 (x69 + 1)))]) (x := ((w64 (x69 + 1)) : Int)) hW53 (rfl); rw [hex83] at hW86
    refine zei (i := 1) (j := 0) (m := y25.toNat) hs rfl rfl rfl hr79 (by decide) ti3 rfl (.free rfl) fun _ _ hs => ?_
    replace hs : St _ _ _ (.blk b40 (.cells #[.int .i64 (x28.Kind), .string (x28.Name), .string (x28.Text), v35, .int .i64 (x28.Parent), .int .i64 (x28.First), .int .i64 (x28.Last), .int .i64 (x28.Prev), .int .i64 (x28.Next)] 53 (0,0)) :: .row v21 3 1 (rw52.set y25.toNat [.int .i64 ((w64 (x69 + 1)))]) :: L) _ _ _ := hs
    generalize hgrw85 : rw52.set y25.toNat [.int .i64 ((w64 (x69 + 1)))] = rw85 at hs hW86; clear hgrw85
    refine za0 ?_
    exact ⟨x83, v21, rw85, hm, hW86, hs.subs ⟨rfl, rfl, rfl, rfl, rfl, trivial⟩ (.cons _ (.cons_cons _ (.refl _)))⟩
   replace hm := oc_f hg68 hm
   refine zaj ?_
   exact ⟨x50, v21, rw52, hm, hW53, hs.subs ⟨rfl, rfl, rfl, rfl, rfl, trivial⟩ (.cons _ (.cons_cons _ (.refl _)))⟩
  replace hm := oc_f hg27 hm
  refine zc0 <| hB14 _ _ ?_
  exact ⟨hm, hs.subs trivial (.cons _ (.refl _))⟩
def zlo (y27 : (List Int)) : Option (List Int) :=
  some y27
def zix (p0 : zaa) (y36 : (List Int)) (y41 : Int) (lp46 : (List Int) → Int → Option (List Int)) (y47 : Bool) : Option (List Int) :=
  (bif y47 then (appM 8 y36 [y41]).bind fun x54 =>
  (geti p0.Nodes y41).bind fun x60 =>
  lp46 x54 x60.Next else
  zlo y36)
def zf0 (n : Nat) (p0 : zaa) : Nat → (List Int) → Int → Option (List Int)
  | 0, _, _ => none
  | k46 + 1, y36, y41 =>
  (zmt n p0 y41).bind fun x72 =>
  (bif x72 then zix p0 y36 y41 (zf0 n p0 k46) (decide ((y36.length : Int) < (p0.Nodes.length : Int))) else
  zix p0 y36 y41 (zf0 n p0 k46) false)
def zm8 (n : Nat) (p0 : zaa) (p1 : Int) : Option (List Int) :=
  (zmt n p0 p1).bind fun x9 =>
  (bif (!x9) then some ([] : List Int) else
  (geti p0.Nodes p1).bind fun x14 =>
  zf0 n p0 n ([] : List Int) x14.First)
theorem zsg (n : Nat) {f : Fz} {p0 : zaa} {a0 : List Value} {p1 : Int} {res : (List Int)} (h0 : zcz.R f a0 p0) (hm : zm8 n p0 p1 = some res) : Does Tryz.prog 26 [.agg a0.toArray, .int .i64 p1] f [] (fun r f' L' => ∃ (u0 : Value), L' = [] ∧ r = u0 ∧ RS (tInt .i64) f' u0 res) := by
 unfold zm8 at hm
 intro w0 L w hC
 obtain ⟨v1, rfl, ⟨rw2, hR3, hW4⟩⟩ := h0
 refine enter Tryz.func26 rfl Tryz.ntmps26 (by simp) hC fun a hs => ?_
 have hle := Fz.le.refl f
 refine Wq fun hK1 => sbox hs rfl fun b6 _ _ hs => sA hs rfl fun hs => za0 <| hK1 <| Ws fun hK2 => Wq fun hK3 => s1 hs (zj3 rfl U30 rfl ti30 (.head _) rfl) fun hs => ?_
 refine sM hs rfl fun hs => ?_
 obtain ⟨x9, hx10, hm⟩ := ob hm
 refine s1 hs (zbi rfl has41 rfl (zp7 n ⟨_, rfl, ⟨rw2, hR3, hW4⟩⟩ hx10)) fun hs => s1 (v := .bool ((!x9))) hs (zfc rfl) fun hs => za0 <| hK3 ?_
 refine zah hs rfl (fun hg11 => ?_) (fun hg11 => ?_)
 ·replace hm := oc_t hg11 hm
  refine Wq fun hK4 => sA hs rfl fun hs => za0 <| hK4 <| zax ?_
  obtain rfl := Option.some.inj hm
  refine RtV1 hs rfl (rv_t hs rfl) ?_
  exact ⟨_, f,[], rfl, hle,(hs.subL (.cons _ (.refl _))).cw,(.slice none 0 0), rfl, rfl, RS.nil⟩
 replace hm := oc_f hg11 hm
 refine zaj <| hK2 <| Wq fun hK5 => sA hs rfl fun hs => za0 <| hK5 <| Ws fun hK6 => Ws fun hK7 => za2 ?_
 refine s1 (v := pq b6 0) hs (za1 rfl (FO.of (off := 0) U30 rfl rfl ti28 (by decide))) fun hs => s1 (v := v1) hs (y_ld rfl U28 rfl (Cell.blk (.head _) rfl)) fun hs => sM hs rfl fun hs => ?_
 obtain ⟨x14, hx15, hm⟩ := ob hm
 obtain ⟨r16, hr17, hq18, hi19, hb20⟩ := hW4.geti hx15
 obtain ⟨v21, rfl, ⟨rw22, hR23, hW24⟩⟩ := hq18
 refine s1 hs (zac hR3 rfl rfl hi19 hb20 U28 ti53) fun hs => s1 (v := eaddr v1 9 p1.toNat 5) hs (zck (i := p1.toNat) (j := 0) hR3 rfl hb20 (FO.of (off := 5) U53 rfl rfl ti3 (by decide))) fun hs => s1 (v := .int .i64 (x14.First)) hs (zbm (i := p1.toNat) (j := 5) hR3.up rfl hr17 rfl U3 rfl) fun hs => sA hs rfl fun hs => za0 <| hK7 ?_
 refine zaq (fun a w => ∃ (y27 : (List Int)) (v28 : Value) (rw29 : List (List Value)), zlo y27 = some res ∧ RW (tInt .i64) f rw29 y27 ∧ St 39 w0 f (.row v28 3 1 rw29 :: L) [(5, v28)] a w) ?_ ?_
 ·clear hs hm
  rintro a w ⟨y27, v28, rw29, hm, hW30, hs⟩
  unfold zlo at hm
  refine hK6 <| Wq fun hK8 => sM hs rfl fun hs => sA hs rfl fun hs => za0 <| hK8 <| zax ?_
  obtain ⟨f32, hf33, hs2, hR34⟩ := hs.frzAt 0 rfl
  clear hs; have hs := hs2; clear hs2
  replace hW30 := hW30.le hf33
  replace hle := hle.trans hf33
  obtain rfl := Option.some.inj hm
  refine RtV1 hs rfl (rv_t hs rfl) ?_
  exact ⟨_, f32,[], rfl, hle, hs.cw, v28, rfl, rfl, ⟨rw29, hR34, hW30⟩⟩
 refine zam fun Qe9 hB9 hO9 => ?_
 replace hs := hs.nilRow 3 1
 have hW42 : RW (tInt .i64) f [] ([] : List Int) := trivial
 generalize hgrw43 : ([] : List (List Value)) = rw43 at hs hW42; clear hgrw43
 refine zd1 (fun (k : Nat) a w => ∃ (y36 : (List Int)) (y41 : Int) (v37 : Value) (rw38 : List (List Value)), zf0 n p0 k y36 y41 = some res ∧ RW (tInt .i64) f rw38 y36 ∧ St 39 w0 f (.row v37 3 1 rw38 :: .blk b6 (.cells #[v1] 30 (0,0)) :: L) [(2, pq b6 0),(5, v37),(6, .int .i64 (y41))] a w) (fun k => k) n ⟨([] : List Int), x14.First,(.slice none 0 0), rw43, hm, hW42, hs.sub ⟨rfl, rfl, rfl, trivial⟩⟩ ?_
 clear hs hm
 intro k
 rintro a w ⟨y36, y41, v37, rw38, hm, hW39, hs⟩
 intro K10 hK10
 cases k with
 | zero => simp [zf0] at hm
 | succ k46 =>
  rw [zf0] at hm
  refine Ws fun hK11 => Ws fun hK12 => ?_
  refine zaq (fun a w => ∃ (y47 : Bool), zix p0 y36 y41 (zf0 n p0 k46) y47 = some res ∧ St 39 w0 f (.row v37 3 1 rw38 :: .blk b6 (.cells #[v1] 30 (0,0)) :: L) [(2, pq b6 0),(5, v37),(6, .int .i64 (y41)),(27, .bool (y47))] a w) ?_ ?_
  ·clear hs hm
   rintro a w ⟨y47, hm, hs⟩
   unfold zix at hm
   refine hK12 ?_
   refine zah hs rfl (fun hg48 => ?_) (fun hg48 => ?_)
   ·replace hm := oc_t hg48 hm
    refine zaj <| hK11 <| Ws fun hK13 => zam fun Qe14 hB14 hO14 => za2 <| sM hs rfl fun hs => sM hs rfl fun hs => zg1 hs rfl U61 ti3 rfl rfl fun v49 _ _ hs => ?_
    have hW50 : RW (tInt .i64) f [[.int .i64 (y41)]] [y41] := RW.single (rfl)
    generalize hgrw51 : ([[.int .i64 (y41)]] : List (List Value)) = rw51 at hs hW50; clear hgrw51
    obtain ⟨x54, hx55, hm⟩ := ob hm
    obtain ⟨hbx54, hex54⟩ := zcb hx55
    have hW58 := hW39.append hW50; rw [hex54] at hW58
    refine zc9 (i := 1) hs rfl rfl rfl (Rd.st hs (.head _)) U61 ti3 (by decide) (by rw [RW.len hW39, RW.len hW50]; exact hbx54) (.free rfl) (by decide) fun v56 _ _ hs => ?_
    generalize hgx54 : rw38 ++ rw51 = rw57 at hs hW58; clear hgx54
    replace hs := hs.erase 0
    refine sA hs rfl fun hs => za0 <| hK13 <| za2 <| s1 (v := pq b6 0) hs (za1 rfl (FO.of (off := 0) U30 rfl rfl ti28 (by decide))) fun hs => s1 (v := v1) hs (y_ld rfl U28 rfl (Cell.blk (.tail _ (.head _)) rfl)) fun hs => sM hs rfl fun hs => ?_
    obtain ⟨x60, hx61, hm⟩ := ob hm
    obtain ⟨r62, hr63, hq64, hi65, hb66⟩ := hW4.geti hx61
    obtain ⟨v67, rfl, ⟨rw68, hR69, hW70⟩⟩ := hq64
    refine s1 hs (zac hR3 rfl rfl hi65 hb66 U28 ti53) fun hs => s1 (v := eaddr v1 9 y41.toNat 8) hs (zck (i := y41.toNat) (j := 0) hR3 rfl hb66 (FO.of (off := 8) U53 rfl rfl ti3 (by decide))) fun hs => s1 (v := .int .i64 (x60.Next)) hs (zbm (i := y41.toNat) (j := 8) hR3.up rfl hr63 rfl U3 rfl) fun hs => sA hs rfl fun hs => za0 ?_
    exact hK10 k46 _ _ (Nat.lt_succ_self _) ⟨x54, x60.Next, v56, rw57, hm, hW58, hs.sub ⟨rfl, rfl, rfl, trivial⟩⟩
   replace hm := oc_f hg48 hm
   refine zc0 <| hB9 _ _ ?_
   exact ⟨y36, v37, rw38, hm, hW39, hs.subs ⟨rfl, trivial⟩ (.cons_cons _ (.cons _ (.refl _)))⟩
  refine za2 <| s1 hs (zj3 rfl U30 rfl ti30 (.tail _ (.head _)) rfl) fun hs => sM hs rfl fun hs => ?_
  obtain ⟨x72, hx73, hm⟩ := ob hm
  refine s1 hs (zbi rfl has41 rfl (zp7 n ⟨_, rfl, ⟨rw2, hR3, hW4⟩⟩ hx73)) fun hs => sM hs rfl fun hs => ?_
  refine St.split hs (t := 20) rfl (fun hg74 hs => ?_) (fun hg74 hs => ?_)
  ·replace hm := oc_t hg74 hm
   refine s2 (v := v37) hs (za3 rfl) fun hs => s2 hs (zc3 (Rd.st hs (.head _)) hW39 rfl U61) fun hs => s2 (v := pq b6 0) hs (za1 rfl (FO.of (off := 0) U30 rfl rfl ti28 (by decide))) fun hs => s2 (v := v1) hs (y_ld rfl U28 rfl (Cell.blk (.tail _ (.head _)) rfl)) fun hs => s2 hs (zc3 hR3 hW4 rfl U28) fun hs => s2 hs (zgq rfl rfl) fun hs => sP hs rfl rfl fun hs => za0 ?_
   exact ⟨decide ((y36.length : Int) < (p0.Nodes.length : Int)), hm, hs.sub ⟨rfl, rfl, rfl, rfl, trivial⟩⟩
  replace hm := oc_f hg74 hm
  refine s3 hs fun hs => s3 hs fun hs => s3 hs fun hs => s3 hs fun hs => s3 hs fun hs => s3 hs fun hs => sP hs rfl rfl fun hs => za0 ?_
  exact ⟨false, hm, hs.sub ⟨rfl, rfl, rfl, rfl, trivial⟩⟩
end Go.Proofs.YtpfdbeafdjnbnaaGreatDoor
