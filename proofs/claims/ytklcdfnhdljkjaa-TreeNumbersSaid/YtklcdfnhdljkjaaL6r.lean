/-
  Walks and laws of this seat.
-/
import Derived.Test.YtklcdfnhdljkjaaBasg
import Derived.Test.YtklcdfnhdljkjaaY6
import Derived.Test.YtklcdfnhdljkjaaRows
namespace Go.Proofs.Ytklcdfnhdljkjaa
set_option linter.unusedVariables false
set_option linter.unusedSimpArgs false
set_option maxHeartbeats 4000000
set_option maxRecDepth 100000
open Go.RowKit Go.Sl
def zkv (p0 : (List za9)) : Option Bool :=
  some (decide ((p0.length : Int) ≤ 64))
def zku (y5 : Int) (lp6 : Int → Option Bool) : Option Bool :=
  lp6 (w64 (y5 + 1))
def zie (p0 : (List za9)) (y5 : Int) (lp6 : Int → Option Bool) : Nat → Int → Option Bool
  | 0, _ => none
  | k17 + 1, y16 =>
  (bif (decide (y16 < y5)) then (geti p0 y16).bind fun x19 =>
  (geti p0 y5).bind fun x26 =>
  (bif (decide (x19.Name = x26.Name)) then some false else
  (zie p0 y5 lp6 k17) (w64 (y16 + 1))) else
  zku y5 lp6)
def zga (n : Nat) (p0 : (List za9)) : Nat → Int → Option Bool
  | 0, _ => none
  | k6 + 1, y5 =>
  (bif (decide (y5 < (p0.length : Int))) then (geti p0 y5).bind fun x8 =>
  (bif (decide (x8.Name = (bs []))) then some false else
  zie p0 y5 (zga n p0 k6) n 0) else
  zkv p0)
def zny (n : Nat) (p0 : (List za9)) : Option Bool :=
  zga n p0 n 0
theorem zrj (n : Nat) {f : Fz} {p0 : (List za9)} {a0 : Value} {res : Bool} (h0 : RS zcb f a0 p0) (hm : zny n p0 = some res) : Gives Try.prog 74 [a0] f (.bool res) := by
 unfold zny at hm
 intro w0 L w hC
 obtain ⟨rw1, hR2, hW3⟩ := h0
 refine enter Try.func74 rfl Try.ntmps74 (by simp) hC fun a hs => ?_
 have hle := Fz.le.refl f
 refine Wq fun hK1 => sA (v := .bool (false)) hs rfl fun hs => za0 <| hK1 <| Ws fun hK2 => Wq fun hK3 => sA (v := .int .i64 (0)) hs rfl fun hs => za0 ?_
 refine hK3 ?_
 refine zai (fun a w => zkv p0 = some res ∧ St 36 w0 f (L) [(0, a0)] a w) ?_ ?_
 ·clear hs hm
  rintro a w ⟨hm, hs⟩
  unfold zkv at hm
  refine hK2 <| Wq fun hK4 => sM (v := a0) hs rfl fun hs => s1 hs (zb7 hR2 hW3 rfl Try.underlying34) fun hs => s1 hs (y_leq rfl rfl) fun hs => sA (v := .bool (decide ((p0.length : Int) ≤ 64))) hs rfl fun hs => za0 <| hK4 <| zau ?_
  obtain rfl := Option.some.inj hm
  refine RtV1 hs rfl (rv_t hs rfl) ?_
  exact ⟨rfl, (hs.weak hle).cw⟩
 refine zam fun Qe5 hB5 hO5 => zcw (fun (k : Nat) a w => ∃ (y5 : Int), zga n p0 k y5 = some res ∧ St 36 w0 f (L) [(0, a0), (3, .int .i64 (y5))] a w) (fun k => k) n ⟨0, hm, hs.sub ⟨rfl, rfl, trivial⟩⟩ ?_
 clear hs hm
 intro k
 rintro a w ⟨y5, hm, hs⟩
 intro K6 hK6
 cases k with
 | zero => simp [zga] at hm
 | succ k6 =>
  rw [zga] at hm
  refine Ws fun hK7 => Wq fun hK8 => sM (v := .int .i64 (y5)) hs rfl fun hs => sM (v := a0) hs rfl fun hs => s1 hs (zb7 hR2 hW3 rfl Try.underlying34) fun hs => s1 hs (zg7 rfl rfl) fun hs => za0 <| hK8 ?_
  refine zaf hs rfl (fun hg7 => ?_) (fun hg7 => ?_)
  ·replace hm := oc_t hg7 hm
   refine zah <| hK7 <| Ws fun hK9 => zam fun Qe10 hB10 hO10 => Ws fun hK11 => Wq fun hK12 => sM (v := a0) hs rfl fun hs => sM (v := .int .i64 (y5)) hs rfl fun hs => ?_
   obtain ⟨x8, hx9, hm⟩ := ob hm
   obtain ⟨r10, hr11, hq12, hi13, hb14⟩ := hW3.geti hx9
   obtain rfl : _ = ([.string (x8.Name), .string (x8.Value)] : List Value) := hq12
   refine s1 hs (za8 hR2 rfl rfl hi13 hb14 Try.underlying34 ti84) fun hs => s1 (v := eaddr a0 2 y5.toNat 0) hs (zal (i := y5.toNat) (j := 0) hR2 rfl hb14 (FO.of (off := 0) Try.underlying84 rfl rfl ti9 (by decide))) fun hs => s1 (v := .string (x8.Name)) hs (zaw (i := y5.toNat) (j := 0) hR2.up rfl hr11 rfl Try.underlying9 rfl) fun hs => s1 hs (zd9 rfl rfl) fun hs => za0 <| hK12 ?_
   refine zaf hs rfl (fun hg15 => ?_) (fun hg15 => ?_)
   ·replace hm := oc_t hg15 hm
    refine Wq fun hK13 => sA (v := .bool (false)) hs rfl fun hs => za0 <| hK13 <| zau ?_
    obtain rfl := Option.some.inj hm
    refine RtV1 hs rfl (rv_t hs rfl) ?_
    exact ⟨rfl, (hs.weak hle).cw⟩
   replace hm := oc_f hg15 hm
   refine zah <| hK11 <| Wq fun hK14 => sA (v := .int .i64 (0)) hs rfl fun hs => za0 <| hK14 ?_
   refine zai (fun a w => zku y5 (zga n p0 k6) = some res ∧ St 36 w0 f (L) [(0, a0), (3, .int .i64 (y5))] a w) ?_ ?_
   ·clear hs hm
    rintro a w ⟨hm, hs⟩
    unfold zku at hm
    refine hK9 <| za7 <| sM (v := .int .i64 (y5)) hs rfl fun hs => s1 hs (zeq rfl rfl rfl) fun hs => sA (v := .int .i64 ((w64 (y5 + 1)))) hs rfl fun hs => za0 ?_
    exact hK6 k6 _ _ (Nat.lt_succ_self _) ⟨(w64 (y5 + 1)), hm, hs.sub ⟨rfl, rfl, trivial⟩⟩
   refine zam fun Qe15 hB15 hO15 => zcw (fun (k : Nat) a w => ∃ (y16 : Int), zie p0 y5 (zga n p0 k6) k y16 = some res ∧ St 36 w0 f (L) [(0, a0), (3, .int .i64 (y5)), (4, .int .i64 (y16))] a w) (fun k => k) n ⟨0, hm, hs.sub ⟨rfl, rfl, rfl, trivial⟩⟩ ?_
   clear hs hm
   intro k
   rintro a w ⟨y16, hm, hs⟩
   intro K16 hK16
   cases k with
   | zero => simp [zie] at hm
   | succ k17 =>
    rw [zie] at hm
    refine Ws fun hK17 => Wq fun hK18 => sM (v := .int .i64 (y16)) hs rfl fun hs => sM (v := .int .i64 (y5)) hs rfl fun hs => s1 hs (zg7 rfl rfl) fun hs => za0 <| hK18 ?_
    refine zaf hs rfl (fun hg18 => ?_) (fun hg18 => ?_)
    ·replace hm := oc_t hg18 hm
     refine zah <| hK17 <| Ws fun hK19 => zam fun Qe20 hB20 hO20 => Ws fun hK21 => ?_
     refine zk7 hs mixed (by kernel_rfl) ?_; intro a he
     refine qy (v := a0) he (zaa rfl) fun _ he => qy (v := .int .i64 (y16)) he (zaa rfl) fun _ he => ?_
     obtain ⟨x19, hx20, hm⟩ := ob hm
     obtain ⟨r21, hr22, hq23, hi24, hb25⟩ := hW3.geti hx20
     obtain rfl : _ = ([.string (x19.Name), .string (x19.Value)] : List Value) := hq23
     refine qy he (za8 hR2 rfl rfl hi24 hb25 Try.underlying34 ti84) fun _ he => qy (v := eaddr a0 2 y16.toNat 0) he (zal (i := y16.toNat) (j := 0) hR2 rfl hb25 (FO.of (off := 0) Try.underlying84 rfl rfl ti9 (by decide))) fun _ he => qy (v := .string (x19.Name)) he (zaw (i := y16.toNat) (j := 0) hR2.up rfl hr22 rfl Try.underlying9 rfl) fun _ he => qy (v := a0) he (zaa rfl) fun _ he => qy (v := .int .i64 (y5)) he (zaa rfl) fun _ he => ?_
     obtain ⟨x26, hx27, hm⟩ := ob hm
     obtain ⟨r28, hr29, hq30, hi31, hb32⟩ := hW3.geti hx27
     obtain rfl : _ = ([.string (x26.Name), .string (x26.Value)] : List Value) := hq30
     refine qy he (za8 hR2 rfl rfl hi31 hb32 Try.underlying34 ti84) fun _ he => qy (v := eaddr a0 2 y5.toNat 0) he (zal (i := y5.toNat) (j := 0) hR2 rfl hb32 (FO.of (off := 0) Try.underlying84 rfl rfl ti9 (by decide))) fun _ he => qy (v := .string (x26.Name)) he (zaw (i := y5.toNat) (j := 0) hR2.up rfl hr29 rfl Try.underlying9 rfl) fun _ he => qy he (zd9 rfl rfl) fun _ he => ?_
     refine zgy he ?_; clear he; (try clear hs); (try clear a); intro a w hs
     refine hK21 ?_
     refine zaf hs rfl (fun hg33 => ?_) (fun hg33 => ?_)
     ·replace hm := oc_t hg33 hm
      refine Wq fun hK22 => sA (v := .bool (false)) hs rfl fun hs => za0 <| hK22 <| zau ?_
      obtain rfl := Option.some.inj hm
      refine RtV1 hs rfl (rv_t hs rfl) ?_
      exact ⟨rfl, (hs.weak hle).cw⟩
     replace hm := oc_f hg33 hm
     refine zah <| hK19 <| za7 <| sM (v := .int .i64 (y16)) hs rfl fun hs => s1 hs (zeq rfl rfl rfl) fun hs => sA (v := .int .i64 ((w64 (y16 + 1)))) hs rfl fun hs => za0 ?_
     exact hK16 k17 _ _ (Nat.lt_succ_self _) ⟨(w64 (y16 + 1)), hm, hs.sub ⟨rfl, rfl, rfl, trivial⟩⟩
    replace hm := oc_f hg18 hm
    refine zc9 <| hB15 _ _ ?_
    exact ⟨hm, hs.sub ⟨rfl, rfl, trivial⟩⟩
  replace hm := oc_f hg7 hm
  refine zc9 <| hB5 _ _ ?_
  exact ⟨hm, hs.sub ⟨rfl, trivial⟩⟩
def zid (y9 : Bool) : Option Bool :=
  some y9
def znx (n : Nat) (p0 : zac) : Option Bool :=
  (bif (decide (p0.Kind = 1)) then (bif (decide (p0.Name ≠ (bs []))) then (bif (decide (p0.Text = (bs []))) then (zny n p0.Attrs).bind fun x12 =>
  zid x12 else
  zid false) else
  zid false) else
  some ((decide (p0.Kind = 2)) && ((decide (p0.Name = (bs []))) && ((decide (p0.Text ≠ (bs []))) && ((decide ((p0.Attrs.length : Int) = 0)) && ((decide (p0.First = (-1))) && (decide (p0.Last = (-1)))))))))
theorem zri (n : Nat) {f : Fz} {p0 : zac} {a0 : List Value} {res : Bool} (h0 : zbw.R f a0 p0) (hm : znx n p0 = some res) : Gives Try.prog 39 [.agg a0.toArray] f (.bool res) := by
 unfold znx at hm
 intro w0 L w hC
 obtain ⟨v1, rfl, ⟨rw2, hR3, hW4⟩⟩ := h0
 refine enter Try.func39 rfl Try.ntmps39 (by simp) hC fun a hs => ?_
 have hle := Fz.le.refl f
 refine Wq fun hK1 => sbox hs rfl fun b6 _ _ hs => sA (v := .bool (false)) hs rfl fun hs => za0 <| hK1 <| Ws fun hK2 => Wq fun hK3 => s1 (v := .pointer (some ⟨b6, 0, none⟩)) hs (za1 rfl (FO.of (off := 0) Try.underlying36 rfl rfl ti3 (by decide))) fun hs => ?_
 refine s1 (v := .int .i64 (p0.Kind)) hs (y_ld rfl Try.underlying3 rfl (Cell.blk (.head _) rfl)) fun hs => s1 hs (zd3 rfl rfl) fun hs => za0 <| hK3 ?_
 refine zaf hs rfl (fun hg8 => ?_) (fun hg8 => ?_)
 ·replace hm := oc_t hg8 hm
  refine Ws fun hK4 => ?_
  refine zai (fun a w => ∃ (y9 : Bool), zid y9 = some res ∧ St 48 w0 f (L) [(2, .bool (y9))] a w) ?_ ?_
  ·clear hs hm
   rintro a w ⟨y9, hm, hs⟩
   unfold zid at hm
   refine hK4 <| zau ?_
   obtain rfl := Option.some.inj hm
   refine RtV1 hs rfl (rv_t hs rfl) ?_
   exact ⟨rfl, (hs.weak hle).cw⟩
  refine za7 <| s1 (v := .pointer (some ⟨b6, 1, none⟩)) hs (za1 rfl (FO.of (off := 1) Try.underlying36 rfl rfl ti9 (by decide))) fun hs => s1 (v := .string (p0.Name)) hs (y_ld rfl Try.underlying9 rfl (Cell.blk (.head _) rfl)) fun hs => s1 hs (zlm rfl rfl) fun hs => sM (v := .bool (decide (p0.Name ≠ (bs [])))) hs rfl fun hs => ?_
  refine St.split hs (t := 9) rfl (fun hg10 hs => ?_) (fun hg10 hs => ?_)
  ·replace hm := oc_t hg10 hm
   refine s2 (v := .pointer (some ⟨b6, 2, none⟩)) hs (za1 rfl (FO.of (off := 2) Try.underlying36 rfl rfl ti9 (by decide))) fun hs => s2 (v := .string (p0.Text)) hs (y_ld rfl Try.underlying9 rfl (Cell.blk (.head _) rfl)) fun hs => s2 hs (zd9 rfl rfl) fun hs => sP (v := .bool (decide (p0.Text = (bs [])))) hs rfl rfl fun hs => sM (v := .bool (decide (p0.Text = (bs [])))) hs rfl fun hs => ?_
   refine St.split hs (t := 14) rfl (fun hg11 hs => ?_) (fun hg11 hs => ?_)
   ·replace hm := oc_t hg11 hm
    refine s2 (v := .pointer (some ⟨b6, 3, none⟩)) hs (za1 rfl (FO.of (off := 3) Try.underlying36 rfl rfl ti34 (by decide))) fun hs => s2 (v := v1) hs (y_ld rfl Try.underlying34 rfl (Cell.blk (.head _) rfl)) fun hs => ?_
    obtain ⟨x12, hx13, hm⟩ := ob hm
    refine s2 hs (zbd rfl has74 rfl (zrj n (f := f) (a0 := v1) ⟨rw2, hR3, hW4⟩ hx13)) fun hs => sP (v := .bool (x12)) hs rfl rfl fun hs => sA (v := .bool (x12)) hs rfl fun hs => za0 ?_
    exact ⟨x12, hm, hs.subs ⟨rfl, trivial⟩ (.cons _ (.refl _))⟩
   replace hm := oc_f hg11 hm
   refine s3 hs fun hs => s3 hs fun hs => s3 hs fun hs => sP (v := .bool (false)) hs rfl rfl fun hs => sA (v := .bool (false)) hs rfl fun hs => za0 ?_
   exact ⟨false, hm, hs.subs ⟨rfl, trivial⟩ (.cons _ (.refl _))⟩
  replace hm := oc_f hg10 hm
  refine s3 hs fun hs => s3 hs fun hs => s3 hs fun hs => sP (v := .bool (false)) hs rfl rfl fun hs => sM (v := .bool (false)) hs rfl fun hs => s3 hs fun hs => s3 hs fun hs => s3 hs fun hs => sP (v := .bool (false)) hs rfl rfl fun hs => sA (v := .bool (false)) hs rfl fun hs => ?_
  refine za0 ?_
  exact ⟨false, hm, hs.subs ⟨rfl, trivial⟩ (.cons _ (.refl _))⟩
 replace hm := oc_f hg8 hm
 refine zah <| hK2 <| Ws fun hK5 => ?_
 refine zai (fun a w => St 48 w0 f (.blk b6 (.cells #[.int .i64 (p0.Kind), .string (p0.Name), .string (p0.Text), v1, .int .i64 (p0.Parent), .int .i64 (p0.First), .int .i64 (p0.Last), .int .i64 (p0.Prev), .int .i64 (p0.Next)] 36 (0, 0)) :: L) [(2, .bool (((decide (p0.Kind = 2)) && ((decide (p0.Name = (bs []))) && ((decide (p0.Text ≠ (bs []))) && ((decide ((p0.Attrs.length : Int) = 0)) && ((decide (p0.First = (-1))) && (decide (p0.Last = (-1))))))))))] a w) ?_ ?_
 ·clear hs; intro a w hs
  refine hK5 <| zau ?_
  obtain rfl := Option.some.inj hm
  refine RtV1 hs rfl (rv_t hs rfl) ?_
  exact ⟨rfl, ((hs.subL (.cons _ (.refl _))).weak hle).cw⟩
 refine za7 <| s1 (v := .pointer (some ⟨b6, 0, none⟩)) hs (za1 rfl (FO.of (off := 0) Try.underlying36 rfl rfl ti3 (by decide))) fun hs => s1 (v := .int .i64 (p0.Kind)) hs (y_ld rfl Try.underlying3 rfl (Cell.blk (.head _) rfl)) fun hs => s1 hs (zd3 rfl rfl) fun hs => sM (v := .bool (decide (p0.Kind = 2))) hs rfl fun hs => ?_
 refine St.split hs (t := 22) rfl (fun hg14 hs => ?_) (fun hg14 hs => ?_)
 ·refine s2 (v := .pointer (some ⟨b6, 1, none⟩)) hs (za1 rfl (FO.of (off := 1) Try.underlying36 rfl rfl ti9 (by decide))) fun hs => s2 (v := .string (p0.Name)) hs (y_ld rfl Try.underlying9 rfl (Cell.blk (.head _) rfl)) fun hs => s2 hs (zd9 rfl rfl) fun hs => sP (v := .bool (decide (p0.Name = (bs [])))) hs rfl rfl fun hs => sM (v := .bool (decide (p0.Name = (bs [])))) hs rfl fun hs => ?_
  refine St.split hs (t := 27) rfl (fun hg15 hs => ?_) (fun hg15 hs => ?_)
  ·refine s2 (v := .pointer (some ⟨b6, 2, none⟩)) hs (za1 rfl (FO.of (off := 2) Try.underlying36 rfl rfl ti9 (by decide))) fun hs => s2 (v := .string (p0.Text)) hs (y_ld rfl Try.underlying9 rfl (Cell.blk (.head _) rfl)) fun hs => s2 hs (zlm rfl rfl) fun hs => sP (v := .bool (decide (p0.Text ≠ (bs [])))) hs rfl rfl fun hs => sM (v := .bool (decide (p0.Text ≠ (bs [])))) hs rfl fun hs => ?_
   refine St.split hs (t := 32) rfl (fun hg16 hs => ?_) (fun hg16 hs => ?_)
   ·refine s2 (v := .pointer (some ⟨b6, 3, none⟩)) hs (za1 rfl (FO.of (off := 3) Try.underlying36 rfl rfl ti34 (by decide))) fun hs => s2 (v := v1) hs (y_ld rfl Try.underlying34 rfl (Cell.blk (.head _) rfl)) fun hs => s2 hs (zb7 hR3 hW4 rfl Try.underlying34) fun hs => s2 hs (zd3 rfl rfl) fun hs => sP (v := .bool (decide ((p0.Attrs.length : Int) = 0))) hs rfl rfl fun hs => sM (v := .bool (decide ((p0.Attrs.length : Int) = 0))) hs rfl fun hs => ?_
    refine St.split hs (t := 38) rfl (fun hg17 hs => ?_) (fun hg17 hs => ?_)
    ·refine s2 (v := .pointer (some ⟨b6, 5, none⟩)) hs (za1 rfl (FO.of (off := 5) Try.underlying36 rfl rfl ti3 (by decide))) fun hs => s2 (v := .int .i64 (p0.First)) hs (y_ld rfl Try.underlying3 rfl (Cell.blk (.head _) rfl)) fun hs => s2 hs (zd3 rfl rfl) fun hs => sP (v := .bool (decide (p0.First = (-1)))) hs rfl rfl fun hs => sM (v := .bool (decide (p0.First = (-1)))) hs rfl fun hs => ?_
     refine St.split hs (t := 43) rfl (fun hg18 hs => ?_) (fun hg18 hs => ?_)
     ·refine s2 (v := .pointer (some ⟨b6, 6, none⟩)) hs (za1 rfl (FO.of (off := 6) Try.underlying36 rfl rfl ti3 (by decide))) fun hs => s2 (v := .int .i64 (p0.Last)) hs (y_ld rfl Try.underlying3 rfl (Cell.blk (.head _) rfl)) fun hs => s2 hs (zd3 rfl rfl) fun hs => sP (v := .bool (decide (p0.Last = (-1)))) hs rfl rfl fun hs => sA (v := .bool (decide (p0.Last = (-1)))) hs rfl fun hs => za0 ?_
      exact hs.sub ⟨(lkB (((zgi hg14).trans ((zgi hg15).trans ((zgi hg16).trans ((zgi hg17).trans ((zgi hg18).trans rfl)))))) rfl), trivial⟩
     refine s3 hs fun hs => s3 hs fun hs => s3 hs fun hs => sP (v := .bool (false)) hs rfl rfl fun hs => sA (v := .bool (false)) hs rfl fun hs => za0 ?_
     exact hs.sub ⟨(lkB (((zgi hg14).trans ((zgi hg15).trans ((zgi hg16).trans ((zgi hg17).trans ((zll hg18).trans rfl)))))) rfl), trivial⟩
    refine s3 hs fun hs => s3 hs fun hs => s3 hs fun hs => sP (v := .bool (false)) hs rfl rfl fun hs => sM (v := .bool (false)) hs rfl fun hs => s3 hs fun hs => s3 hs fun hs => s3 hs fun hs => sP (v := .bool (false)) hs rfl rfl fun hs => sA (v := .bool (false)) hs rfl fun hs => ?_
    refine za0 ?_
    exact hs.sub ⟨(lkB (((zgi hg14).trans ((zgi hg15).trans ((zgi hg16).trans ((zll hg17).trans rfl))))) rfl), trivial⟩
   refine s3 hs fun hs => s3 hs fun hs => s3 hs fun hs => s3 hs fun hs => sP (v := .bool (false)) hs rfl rfl fun hs => sM (v := .bool (false)) hs rfl fun hs => s3 hs fun hs => s3 hs fun hs => s3 hs fun hs => sP (v := .bool (false)) hs rfl rfl fun hs => ?_
   refine sM (v := .bool (false)) hs rfl fun hs => s3 hs fun hs => s3 hs fun hs => s3 hs fun hs => sP (v := .bool (false)) hs rfl rfl fun hs => sA (v := .bool (false)) hs rfl fun hs => za0 ?_
   exact hs.sub ⟨(lkB (((zgi hg14).trans ((zgi hg15).trans ((zll hg16).trans rfl)))) rfl), trivial⟩
  refine s3 hs fun hs => s3 hs fun hs => s3 hs fun hs => sP (v := .bool (false)) hs rfl rfl fun hs => sM (v := .bool (false)) hs rfl fun hs => s3 hs fun hs => s3 hs fun hs => s3 hs fun hs => s3 hs fun hs => sP (v := .bool (false)) hs rfl rfl fun hs => ?_
  refine sM (v := .bool (false)) hs rfl fun hs => s3 hs fun hs => s3 hs fun hs => s3 hs fun hs => sP (v := .bool (false)) hs rfl rfl fun hs => sM (v := .bool (false)) hs rfl fun hs => s3 hs fun hs => s3 hs fun hs => s3 hs fun hs => sP (v := .bool (false)) hs rfl rfl fun hs => ?_
  refine sA (v := .bool (false)) hs rfl fun hs => za0 ?_
  exact hs.sub ⟨(lkB (((zgi hg14).trans ((zll hg15).trans rfl))) rfl), trivial⟩
 refine s3 hs fun hs => s3 hs fun hs => s3 hs fun hs => sP (v := .bool (false)) hs rfl rfl fun hs => sM (v := .bool (false)) hs rfl fun hs => s3 hs fun hs => s3 hs fun hs => s3 hs fun hs => sP (v := .bool (false)) hs rfl rfl fun hs => sM (v := .bool (false)) hs rfl fun hs => ?_
 refine s3 hs fun hs => s3 hs fun hs => s3 hs fun hs => s3 hs fun hs => sP (v := .bool (false)) hs rfl rfl fun hs => sM (v := .bool (false)) hs rfl fun hs => s3 hs fun hs => s3 hs fun hs => s3 hs fun hs => sP (v := .bool (false)) hs rfl rfl fun hs => ?_
 refine sM (v := .bool (false)) hs rfl fun hs => s3 hs fun hs => s3 hs fun hs => s3 hs fun hs => sP (v := .bool (false)) hs rfl rfl fun hs => sA (v := .bool (false)) hs rfl fun hs => za0 ?_
 exact hs.sub ⟨(lkB (((zll hg14).trans rfl)) rfl), trivial⟩
def zkx (y48 : Int) : Option Int :=
  (bif (decide (256 < y48)) then some 5 else
  some 0)
def zhe (y50 : Int) (lp51 : Int → Option Int) (y53 : Bool) : Option Int :=
  (bif y53 then some 10 else
  lp51 (w64 (y50 + 1)))
def zeu (p0 : zae) (y43 : (List zac)) (y48 : Int) : Nat → Int → Option Int
  | 0, _ => none
  | k51 + 1, y50 =>
  (bif (decide (y50 < (p0.Nodes.length : Int))) then (geti p0.Nodes y50).bind fun x55 =>
  (geti y43 y50).bind fun x67 =>
  (bif (decide (x55.First ≠ x67.First)) then zhe y50 (zeu p0 y43 y48 k51) true else
  (geti p0.Nodes y50).bind fun x80 =>
  (geti y43 y50).bind fun x92 =>
  (bif (decide (x80.Last ≠ x92.Last)) then zhe y50 (zeu p0 y43 y48 k51) true else
  (geti p0.Nodes y50).bind fun x105 =>
  (geti y43 y50).bind fun x117 =>
  (bif (decide (x105.Prev ≠ x117.Prev)) then zhe y50 (zeu p0 y43 y48 k51) true else
  (geti p0.Nodes y50).bind fun x130 =>
  (geti y43 y50).bind fun x142 =>
  zhe y50 (zeu p0 y43 y48 k51) (decide (x130.Next ≠ x142.Next))))) else
  zkx y48)
def zky (n : Nat) (p0 : zae) (y43 : (List zac)) (y48 : Int) : Option Int :=
  zeu p0 y43 y48 n 0
def zjj (y165 : Int) (lp166 : (List zac) → Int → (List Int) → Int → Option Int) (y168 : (List zac)) (y173 : Int) (y174 : (List Int)) : Option Int :=
  lp166 y168 y173 y174 (w64 (y165 + 1))
def ziy (y165 : Int) (lp166 : (List zac) → Int → (List Int) → Int → Option Int) (x195 : zac) (x219 : (List Int)) (y225 : Int) (y268 : (List zac)) : Option Int :=
  (geti y268 x195.Parent).bind fun x273 =>
  (seti y268 x195.Parent ({x273 with Last := y165} : zac)).bind fun x285 =>
  zjj y165 lp166 x285 y225 x219
def ziz (y154 : (List zac)) (y165 : Int) (lp166 : (List zac) → Int → (List Int) → Int → Option Int) (x195 : zac) (x219 : (List Int)) (y225 : Int) : Option Int :=
  (geti y154 x195.Parent).bind fun x226 =>
  (geti y154 y165).bind fun x239 =>
  (seti y154 y165 ({Kind := 0, Name := (bs []), Text := (bs []), Attrs := ([] : List za9), Parent := x195.Parent, First := (-1), Last := (-1), Prev := x226.Last, Next := (-1)} : zac)).bind fun x251 =>
  (geti x251 x195.Parent).bind fun x256 =>
  (bif (decide (0 ≤ x256.Last)) then (geti x251 x195.Parent).bind fun x291 =>
  (geti x251 x291.Last).bind fun x303 =>
  (seti x251 x291.Last ({x303 with Next := y165} : zac)).bind fun x315 =>
  ziy y165 lp166 x195 x219 y225 x315 else
  (geti x251 x195.Parent).bind fun x320 =>
  (seti x251 x195.Parent ({x320 with First := y165} : zac)).bind fun x332 =>
  ziy y165 lp166 x195 x219 y225 x332)
def zji (y154 : (List zac)) (y159 : Int) (y165 : Int) (lp166 : (List zac) → Int → (List Int) → Int → Option Int) (x195 : zac) (y207 : (List Int)) (y212 : Bool) : Option Int :=
  (bif y212 then some 10 else
  (appM 8 y207 [y165]).bind fun x219 =>
  (bif (decide (y159 < (x219.length : Int))) then ziz y154 y165 lp166 x195 x219 (x219.length : Int) else
  ziz y154 y165 lp166 x195 x219 y159))
def zkw (p0 : zae) (y154 : (List zac)) (y159 : Int) (y165 : Int) (lp166 : (List zac) → Int → (List Int) → Int → Option Int) (x195 : zac) (y207 : (List Int)) : Option Int :=
  (bif (decide ((y207.length : Int) = 0)) then zji y154 y159 y165 lp166 x195 y207 true else
  (geti p0.Nodes x195.Parent).bind fun x339 =>
  zji y154 y159 y165 lp166 x195 y207 (decide (x339.Kind ≠ 1)))
def zix (p0 : zae) (y154 : (List zac)) (y159 : Int) (y165 : Int) (lp166 : (List zac) → Int → (List Int) → Int → Option Int) (x195 : zac) (y351 : (List Int)) (lp356 : (List Int) → Option Int) (y357 : Bool) : Option Int :=
  (bif y357 then (cutM y351 (0 : Int) (w64 ((y351.length : Int) - 1))).bind fun x359 =>
  lp356 x359 else
  zkw p0 y154 y159 y165 lp166 x195 y351)
def zfx (p0 : zae) (y154 : (List zac)) (y159 : Int) (y165 : Int) (lp166 : (List zac) → Int → (List Int) → Int → Option Int) (x195 : zac) : Nat → (List Int) → Option Int
  | 0, _ => none
  | k356 + 1, y351 =>
  (bif (decide (0 < (y351.length : Int))) then (geti y351 (w64 ((y351.length : Int) - 1))).bind fun x367 =>
  zix p0 y154 y159 y165 lp166 x195 y351 (zfx p0 y154 y159 y165 lp166 x195 k356) (decide (x367 ≠ x195.Parent)) else
  zix p0 y154 y159 y165 lp166 x195 y351 (zfx p0 y154 y159 y165 lp166 x195 k356) false)
def zch (n : Nat) (p0 : zae) : Nat → (List zac) → Int → (List Int) → Int → Option Int
  | 0, _, _, _, _ => none
  | k166 + 1, y154, y159, y160, y165 =>
  (bif (decide (y165 < (p0.Nodes.length : Int))) then (geti p0.Nodes y165).bind fun x179 =>
  (znx n x179).bind fun x191 =>
  (bif (!x191) then some 10 else
  (bif (decide (y165 = 0)) then zjj y165 (zch n p0 k166) y154 y159 y160 else
  (geti p0.Nodes y165).bind fun x195 =>
  zfx p0 y154 y159 y165 (zch n p0 k166) x195 n y160)) else
  zky n p0 y154 y159)
def zhf (n : Nat) (p0 : zae) (y10 : Bool) : Option Int :=
  (bif y10 then some 10 else
  (repM 104 (p0.Nodes.length : Int) ({Kind := (0 : Int), Name := (bs []), Text := (bs []), Attrs := ([] : (List za9)), Parent := (0 : Int), First := (0 : Int), Last := (0 : Int), Prev := (0 : Int), Next := (0 : Int)} : zac)).bind fun x12 =>
  (geti x12 0).bind fun x26 =>
  (seti x12 0 ({Kind := 0, Name := (bs []), Text := (bs []), Attrs := ([] : List za9), Parent := (-1), First := (-1), Last := (-1), Prev := (-1), Next := (-1)} : zac)).bind fun x38 =>
  zch n p0 n x38 1 [0] 0)
def znz (n : Nat) (p0 : zae) : Option Int :=
  (bif (decide ((p0.Nodes.length : Int) = 0)) then some 10 else
  (bif (decide (4096 < (p0.Nodes.length : Int))) then some 4 else
  (geti p0.Nodes 0).bind fun x374 =>
  (bif (decide (x374.Kind ≠ 1)) then zhf n p0 true else
  (geti p0.Nodes 0).bind fun x387 =>
  (bif (decide (x387.Parent ≠ (-1))) then zhf n p0 true else
  (geti p0.Nodes 0).bind fun x400 =>
  (bif (decide (x400.Prev ≠ (-1))) then zhf n p0 true else
  (geti p0.Nodes 0).bind fun x413 =>
  zhf n p0 (decide (x413.Next ≠ (-1))))))))
theorem zrk (n : Nat) {f : Fz} {p0 : zae} {a0 : List Value} {res : Int} (h0 : zff.R f a0 p0) (hm : znz n p0 = some res) : Gives Try.prog 17 [.agg a0.toArray] f (.int .i64 res) := by
 unfold znz at hm
 intro w0 L w hC
 obtain ⟨v1, rfl, ⟨rw2, hR3, hW4⟩⟩ := h0
 refine enter Try.func17 rfl Try.ntmps17 (by simp) hC fun a hs => ?_
 have hle := Fz.le.refl f
 refine Wq fun hK1 => sbox hs rfl fun b6 _ _ hs => sA (v := .int .i64 (0)) hs rfl fun hs => za0 <| hK1 <| Wq fun hK2 => s1 (v := .pointer (some ⟨b6, 0, none⟩)) hs (za1 rfl (FO.of (off := 0) Try.underlying24 rfl rfl ti22 (by decide))) fun hs => s1 (v := v1) hs (y_ld rfl Try.underlying22 rfl (Cell.blk (.head _) rfl)) fun hs => ?_
 refine sA (v := v1) hs rfl fun hs => za0 <| hK2 <| Ws fun hK3 => Wq fun hK4 => sM (v := v1) hs rfl fun hs => s1 hs (zb7 hR3 hW4 rfl Try.underlying22) fun hs => s1 hs (zd3 rfl rfl) fun hs => za0 ?_
 refine hK4 ?_
 refine zaf hs rfl (fun hg8 => ?_) (fun hg8 => ?_)
 ·replace hm := oc_t hg8 hm
  refine Wq fun hK5 => sA (v := .int .i64 (10)) hs rfl fun hs => za0 <| hK5 <| zau ?_
  obtain rfl := Option.some.inj hm
  refine RtV1 hs rfl (rv_t hs rfl) ?_
  exact ⟨rfl, ((hs.subL (.cons _ (.refl _))).weak hle).cw⟩
 replace hm := oc_f hg8 hm
 refine zah <| hK3 <| Ws fun hK6 => Wq fun hK7 => sM (v := v1) hs rfl fun hs => s1 hs (zb7 hR3 hW4 rfl Try.underlying22) fun hs => s1 hs (zis rfl rfl) fun hs => za0 <| hK7 ?_
 refine zaf hs rfl (fun hg9 => ?_) (fun hg9 => ?_)
 ·replace hm := oc_t hg9 hm
  refine Wq fun hK8 => sA (v := .int .i64 (4)) hs rfl fun hs => za0 <| hK8 <| zau ?_
  obtain rfl := Option.some.inj hm
  refine RtV1 hs rfl (rv_t hs rfl) ?_
  exact ⟨rfl, ((hs.subL (.cons _ (.refl _))).weak hle).cw⟩
 replace hm := oc_f hg9 hm
 refine zah <| hK6 <| Ws fun hK9 => Ws fun hK10 => ?_
 refine zai (fun a w => ∃ (y10 : Bool), zhf n p0 y10 = some res ∧ St 202 w0 f (L) [(3, v1), (43, .bool (y10))] a w) ?_ ?_
 ·clear hs hm
  rintro a w ⟨y10, hm, hs⟩
  unfold zhf at hm
  refine hK10 ?_
  refine zaf hs rfl (fun hg11 => ?_) (fun hg11 => ?_)
  ·replace hm := oc_t hg11 hm
   refine Wq fun hK11 => sA (v := .int .i64 (10)) hs rfl fun hs => za0 <| hK11 <| zau ?_
   obtain rfl := Option.some.inj hm
   refine RtV1 hs rfl (rv_t hs rfl) ?_
   exact ⟨rfl, (hs.weak hle).cw⟩
  replace hm := oc_f hg11 hm
  refine zah <| hK9 <| Wq fun hK12 => sM (v := v1) hs rfl fun hs => s1 hs (zb7 hR3 hW4 rfl Try.underlying22) fun hs => ?_
  obtain ⟨x12, hx13, hm⟩ := ob hm
  obtain ⟨hix12, hbx12, hex12⟩ := zpb hx13
  refine zs6 hs rfl rfl hix12 Try.underlying22 ti36 (by decide) (AllC.row ⟨rfl, rfl, rfl, rfl, rfl, rfl, rfl, rfl, rfl, trivial⟩ rfl) hbx12 fun v14 _ _ hs => ?_
  replace hs : St _ _ _ (.row v14 36 9 (List.replicate (p0.Nodes.length : Int).toNat ([.int .i64 (0), .string ((bs [])), .string ((bs [])), (.slice none 0 0), .int .i64 (0), .int .i64 (0), .int .i64 (0), .int .i64 (0), .int .i64 (0)] : List Value)) :: L) _ _ _ := hs
  have hW16 : RW zbw f (List.replicate (p0.Nodes.length : Int).toNat ([.int .i64 (0), .string ((bs [])), .string ((bs [])), (.slice none 0 0), .int .i64 (0), .int .i64 (0), .int .i64 (0), .int .i64 (0), .int .i64 (0)] : List Value)) x12 := by rw [← hex12]; exact RW.rep (t := zbw) (r := [.int .i64 (0), .string ((bs [])), .string ((bs [])), (.slice none 0 0), .int .i64 (0), .int .i64 (0), .int .i64 (0), .int .i64 (0), .int .i64 (0)]) (⟨_, rfl, RS.nil⟩) _
  generalize hgx12 : (List.replicate (p0.Nodes.length : Int).toNat ([.int .i64 (0), .string ((bs [])), .string ((bs [])), (.slice none 0 0), .int .i64 (0), .int .i64 (0), .int .i64 (0), .int .i64 (0), .int .i64 (0)] : List Value)) = rw15 at hs hW16; clear hgx12
  replace hs : St _ _ _ (.row v14 36 9 rw15 :: L) _ _ _ := hs
  refine sA (v := v14) hs rfl fun hs => za0 <| hK12 <| Wq fun hK13 => sA (v := .int .i64 (1)) hs rfl fun hs => za0 <| hK13 <| Ws fun hK14 => za7 ?_
  refine zfz hs rfl Try.underlying46 ti3 rfl rfl fun v20 _ _ hs => ?_
  have hW21 : RW (tInt .i64) f [[.int .i64 (0)]] [0] := RW.single (rfl)
  generalize hgrw22 : ([[.int .i64 (0)]] : List (List Value)) = rw22 at hs hW21; clear hgrw22
  replace hs : St _ _ _ (.row v20 3 1 rw22 :: .row v14 36 9 rw15 :: L) _ _ _ := hs
  refine sA (v := v20) hs rfl fun hs => za0 <| hK14 <| Wq fun hK15 => sM (v := v14) hs rfl fun hs => s1 hs (zes (places := [(0, 1), (1, 1), (2, 1), (3, 1), (4, 1), (5, 1), (6, 1), (7, 1), (8, 1)]) (cs := [.int .i64 (0), .string ((bs [])), .string ((bs [])), (.slice none 0 0), .int .i64 ((-1)), .int .i64 ((-1)), .int .i64 ((-1)), .int .i64 ((-1)), .int .i64 ((-1))]) rfl Try.underlying36 ti36 (by kernel_rfl) (by decide) rfl ⟨rfl, rfl, rfl, rfl, rfl, trivial⟩) fun hs => ?_
  obtain ⟨x26, hx27, hm⟩ := ob hm
  obtain ⟨r28, hr29, hq30, hi31, hb32⟩ := hW16.geti hx27
  obtain ⟨v33, rfl, ⟨rw34, hR35, hW36⟩⟩ := hq30
  refine s1 hs (za8 (Rd.st hs (.tail _ (.head _))) rfl rfl hi31 hb32 Try.underlying22 ti36) fun hs => ?_
  obtain ⟨x38, hx39, hm⟩ := ob hm
  have hex38 := zfo hx39
  have hW41 := RW.set (i := (0 : Int).toNat) (r := [.int .i64 (0), .string ((bs [])), .string ((bs [])), (.slice none 0 0), .int .i64 ((-1)), .int .i64 ((-1)), .int .i64 ((-1)), .int .i64 ((-1)), .int .i64 ((-1))]) (x := (({Kind := 0, Name := (bs []), Text := (bs []), Attrs := ([] : List za9), Parent := (-1), First := (-1), Last := (-1), Prev := (-1), Next := (-1)} : zac) : zac)) hW16 (⟨_, rfl, RS.nil⟩); rw [hex38] at hW41
  refine zoo (i := 1) (m := (0 : Int).toNat) (r' := [.int .i64 (0), .string ((bs [])), .string ((bs [])), (.slice none 0 0), .int .i64 ((-1)), .int .i64 ((-1)), .int .i64 ((-1)), .int .i64 ((-1)), .int .i64 ((-1))]) hs rfl rfl rfl hr29 ti36 (AllC.row ⟨rfl, rfl, rfl, rfl, rfl, rfl, rfl, rfl, rfl, trivial⟩ rfl) (.free rfl) fun _ _ hs => ?_
  replace hs : St _ _ _ (.row v20 3 1 rw22 :: .row v14 36 9 (rw15.set ((0 : Int).toNat) [.int .i64 (0), .string ((bs [])), .string ((bs [])), (.slice none 0 0), .int .i64 ((-1)), .int .i64 ((-1)), .int .i64 ((-1)), .int .i64 ((-1)), .int .i64 ((-1))]) :: L) _ _ _ := hs
  generalize hgrw40 : rw15.set ((0 : Int).toNat) [.int .i64 (0), .string ((bs [])), .string ((bs [])), (.slice none 0 0), .int .i64 ((-1)), .int .i64 ((-1)), .int .i64 ((-1)), .int .i64 ((-1)), .int .i64 ((-1))] = rw40 at hs hW41; clear hgrw40
  refine za0 <| hK15 <| Ws fun hK16 => Wq fun hK17 => sA (v := .int .i64 (0)) hs rfl fun hs => za0 <| hK17 ?_
  refine zai (fun a w => ∃ (y43 : (List zac)) (y48 : Int) (v44 : Value) (rw45 : List (List Value)), zky n p0 y43 y48 = some res ∧ RW zbw f rw45 y43 ∧ St 202 w0 f (.row v44 36 9 rw45 :: L) [(3, v1), (4, v44), (5, .int .i64 (y48))] a w) ?_ ?_
  ·clear hs hm
   rintro a w ⟨y43, y48, v44, rw45, hm, hW46, hs⟩
   unfold zky at hm
   refine hK16 <| Ws fun hK18 => Wq fun hK19 => sA (v := .int .i64 (0)) hs rfl fun hs => za0 <| hK19 ?_
   refine zai (fun a w => zkx y48 = some res ∧ St 202 w0 f (L) [(5, .int .i64 (y48))] a w) ?_ ?_
   ·clear hs hm
    rintro a w ⟨hm, hs⟩
    unfold zkx at hm
    refine hK18 <| Ws fun hK20 => Wq fun hK21 => sM (v := .int .i64 (y48)) hs rfl fun hs => s1 hs (zis rfl rfl) fun hs => za0 <| hK21 ?_
    refine zaf hs rfl (fun hg49 => ?_) (fun hg49 => ?_)
    ·replace hm := oc_t hg49 hm
     refine Wq fun hK22 => sA (v := .int .i64 (5)) hs rfl fun hs => za0 <| hK22 <| zau ?_
     obtain rfl := Option.some.inj hm
     refine RtV1 hs rfl (rv_t hs rfl) ?_
     exact ⟨rfl, (hs.weak hle).cw⟩
    replace hm := oc_f hg49 hm
    refine zah <| hK20 <| Wq fun hK23 => sA (v := .int .i64 (0)) hs rfl fun hs => za0 <| hK23 <| zau ?_
    obtain rfl := Option.some.inj hm
    refine RtV1 hs rfl (rv_t hs rfl) ?_
    exact ⟨rfl, (hs.weak hle).cw⟩
   refine zam fun Qe24 hB24 hO24 => zcw (fun (k : Nat) a w => ∃ (y50 : Int), zeu p0 y43 y48 k y50 = some res ∧ St 202 w0 f (.row v44 36 9 rw45 :: L) [(3, v1), (4, v44), (5, .int .i64 (y48)), (9, .int .i64 (y50))] a w) (fun k => k) n ⟨0, hm, hs.sub ⟨rfl, rfl, rfl, rfl, trivial⟩⟩ ?_
   clear hs hm
   intro k
   rintro a w ⟨y50, hm, hs⟩
   intro K25 hK25
   cases k with
   | zero => simp [zeu] at hm
   | succ k51 =>
    rw [zeu] at hm
    refine Ws fun hK26 => Wq fun hK27 => sM (v := .int .i64 (y50)) hs rfl fun hs => sM (v := v1) hs rfl fun hs => s1 hs (zb7 hR3 hW4 rfl Try.underlying22) fun hs => s1 hs (zg7 rfl rfl) fun hs => za0 <| hK27 ?_
    refine zaf hs rfl (fun hg52 => ?_) (fun hg52 => ?_)
    ·replace hm := oc_t hg52 hm
     refine zah <| hK26 <| Ws fun hK28 => zam fun Qe29 hB29 hO29 => Ws fun hK30 => ?_
     refine zai (fun a w => ∃ (y53 : Bool), zhe y50 (zeu p0 y43 y48 k51) y53 = some res ∧ St 202 w0 f (.row v44 36 9 rw45 :: L) [(3, v1), (4, v44), (5, .int .i64 (y48)), (9, .int .i64 (y50)), (199, .bool (y53))] a w) ?_ ?_
     ·clear hs hm
      rintro a w ⟨y53, hm, hs⟩
      unfold zhe at hm
      refine hK30 ?_
      refine zaf hs rfl (fun hg54 => ?_) (fun hg54 => ?_)
      ·replace hm := oc_t hg54 hm
       refine Wq fun hK31 => sA (v := .int .i64 (10)) hs rfl fun hs => za0 <| hK31 <| zau ?_
       obtain rfl := Option.some.inj hm
       refine RtV1 hs rfl (rv_t hs rfl) ?_
       exact ⟨rfl, ((hs.subL (.cons _ (.refl _))).weak hle).cw⟩
      replace hm := oc_f hg54 hm
      refine zah <| hK28 <| za7 <| sM (v := .int .i64 (y50)) hs rfl fun hs => s1 hs (zeq rfl rfl rfl) fun hs => sA (v := .int .i64 ((w64 (y50 + 1)))) hs rfl fun hs => za0 ?_
      exact hK25 k51 _ _ (Nat.lt_succ_self _) ⟨(w64 (y50 + 1)), hm, hs.sub ⟨rfl, rfl, rfl, rfl, trivial⟩⟩
     refine zk7 hs mixed (by kernel_rfl) ?_; intro a he
     refine qy (v := v1) he (zaa rfl) fun _ he => qy (v := .int .i64 (y50)) he (zaa rfl) fun _ he => ?_
     obtain ⟨x55, hx56, hm⟩ := ob hm
     obtain ⟨r57, hr58, hq59, hi60, hb61⟩ := hW4.geti hx56
     obtain ⟨v62, rfl, ⟨rw63, hR64, hW65⟩⟩ := hq59
     refine qy he (za8 hR3 rfl rfl hi60 hb61 Try.underlying22 ti36) fun _ he => qy (v := eaddr v1 9 y50.toNat 5) he (zal (i := y50.toNat) (j := 0) hR3 rfl hb61 (FO.of (off := 5) Try.underlying36 rfl rfl ti3 (by decide))) fun _ he => qy (v := .int .i64 (x55.First)) he (zaw (i := y50.toNat) (j := 5) hR3.up rfl hr58 rfl Try.underlying3 rfl) fun _ he => qy (v := v44) he (zaa rfl) fun _ he => qy (v := .int .i64 (y50)) he (zaa rfl) fun _ he => ?_
     obtain ⟨x67, hx68, hm⟩ := ob hm
     obtain ⟨r69, hr70, hq71, hi72, hb73⟩ := hW46.geti hx68
     obtain ⟨v74, rfl, ⟨rw75, hR76, hW77⟩⟩ := hq71
     refine qy he (za8 (Rd.st hs (.head _)) rfl rfl hi72 hb73 Try.underlying22 ti36) fun _ he => qy (v := eaddr v44 9 y50.toNat 5) he (zal (i := y50.toNat) (j := 0) (Rd.st hs (.head _)) rfl hb73 (FO.of (off := 5) Try.underlying36 rfl rfl ti3 (by decide))) fun _ he => qy (v := .int .i64 (x67.First)) he (zaw (i := y50.toNat) (j := 5) (Rd.st hs (.head _)) rfl hr70 rfl Try.underlying3 rfl) fun _ he => qy he (zez rfl rfl) fun _ he => qy (v := .bool (decide (x55.First ≠ x67.First))) he (zaa rfl) fun _ he => ?_
     refine Ev.split he (t := 161) rfl (fun hg79 hq => ?_) (fun hg79 hq => ?_)
     ·clear he; have he := hq; clear hq
      replace hm := oc_t hg79 hm
      refine qno he fun _ he => qno he fun _ he => qno he fun _ he => qno he fun _ he => qno he fun _ he => qno he fun _ he => qno he fun _ he => qno he fun _ he => qno he fun _ he => qno he fun _ he => ?_
      refine qno he fun _ he => qy (v := .bool (true)) he (zb4 rfl rfl) fun _ he => qy (v := .bool (true)) he (zaa rfl) fun _ he => qno he fun _ he => qno he fun _ he => qno he fun _ he => qno he fun _ he => qno he fun _ he => qno he fun _ he => qno he fun _ he => ?_
      refine qno he fun _ he => qno he fun _ he => qno he fun _ he => qno he fun _ he => qy (v := .bool (true)) he (zb4 rfl rfl) fun _ he => qy (v := .bool (true)) he (zaa rfl) fun _ he => qno he fun _ he => qno he fun _ he => qno he fun _ he => qno he fun _ he => ?_
      refine qno he fun _ he => qno he fun _ he => qno he fun _ he => qno he fun _ he => qno he fun _ he => qno he fun _ he => qno he fun _ he => qy (v := .bool (true)) he (zb4 rfl rfl) fun _ he => ?_
      refine zgy he ?_; clear he; (try clear hs); (try clear a); intro a w hs
      exact ⟨true, hm, hs.sub ⟨rfl, rfl, rfl, rfl, rfl, trivial⟩⟩
     clear he; have he := hq; clear hq
     replace hm := oc_f hg79 hm
     refine qyg (v := v1) he (zaa rfl) fun _ he => qyg (v := .int .i64 (y50)) he (zaa rfl) fun _ he => ?_
     obtain ⟨x80, hx81, hm⟩ := ob hm
     obtain ⟨r82, hr83, hq84, hi85, hb86⟩ := hW4.geti hx81
     obtain ⟨v87, rfl, ⟨rw88, hR89, hW90⟩⟩ := hq84
     refine qyg he (za8 hR3 rfl rfl hi85 hb86 Try.underlying22 ti36) fun _ he => qyg (v := eaddr v1 9 y50.toNat 6) he (zal (i := y50.toNat) (j := 0) hR3 rfl hb86 (FO.of (off := 6) Try.underlying36 rfl rfl ti3 (by decide))) fun _ he => qyg (v := .int .i64 (x80.Last)) he (zaw (i := y50.toNat) (j := 6) hR3.up rfl hr83 rfl Try.underlying3 rfl) fun _ he => qyg (v := v44) he (zaa rfl) fun _ he => qyg (v := .int .i64 (y50)) he (zaa rfl) fun _ he => ?_
     obtain ⟨x92, hx93, hm⟩ := ob hm
     obtain ⟨r94, hr95, hq96, hi97, hb98⟩ := hW46.geti hx93
     obtain ⟨v99, rfl, ⟨rw100, hR101, hW102⟩⟩ := hq96
     refine qyg he (za8 (Rd.st hs (.head _)) rfl rfl hi97 hb98 Try.underlying22 ti36) fun _ he => qyg (v := eaddr v44 9 y50.toNat 6) he (zal (i := y50.toNat) (j := 0) (Rd.st hs (.head _)) rfl hb98 (FO.of (off := 6) Try.underlying36 rfl rfl ti3 (by decide))) fun _ he => qyg (v := .int .i64 (x92.Last)) he (zaw (i := y50.toNat) (j := 6) (Rd.st hs (.head _)) rfl hr95 rfl Try.underlying3 rfl) fun _ he => qyg he (zez rfl rfl) fun _ he => qy (v := .bool (decide (x80.Last ≠ x92.Last))) he (zb4 rfl rfl) fun _ he => qy (v := .bool (decide (x80.Last ≠ x92.Last))) he (zaa rfl) fun _ he => ?_
     refine Ev.split he (t := 174) rfl (fun hg104 hq => ?_) (fun hg104 hq => ?_)
     ·clear he; have he := hq; clear hq
      replace hm := oc_t hg104 hm
      refine qno he fun _ he => qno he fun _ he => qno he fun _ he => qno he fun _ he => qno he fun _ he => qno he fun _ he => qno he fun _ he => qno he fun _ he => qno he fun _ he => qno he fun _ he => ?_
      refine qno he fun _ he => qy (v := .bool (true)) he (zb4 rfl rfl) fun _ he => qy (v := .bool (true)) he (zaa rfl) fun _ he => qno he fun _ he => qno he fun _ he => qno he fun _ he => qno he fun _ he => qno he fun _ he => qno he fun _ he => qno he fun _ he => ?_
      refine qno he fun _ he => qno he fun _ he => qno he fun _ he => qno he fun _ he => qy (v := .bool (true)) he (zb4 rfl rfl) fun _ he => ?_
      refine zgy he ?_; clear he; (try clear hs); (try clear a); intro a w hs
      exact ⟨true, hm, hs.sub ⟨rfl, rfl, rfl, rfl, rfl, trivial⟩⟩
     clear he; have he := hq; clear hq
     replace hm := oc_f hg104 hm
     refine qyg (v := v1) he (zaa rfl) fun _ he => qyg (v := .int .i64 (y50)) he (zaa rfl) fun _ he => ?_
     obtain ⟨x105, hx106, hm⟩ := ob hm
     obtain ⟨r107, hr108, hq109, hi110, hb111⟩ := hW4.geti hx106
     obtain ⟨v112, rfl, ⟨rw113, hR114, hW115⟩⟩ := hq109
     refine qyg he (za8 hR3 rfl rfl hi110 hb111 Try.underlying22 ti36) fun _ he => qyg (v := eaddr v1 9 y50.toNat 7) he (zal (i := y50.toNat) (j := 0) hR3 rfl hb111 (FO.of (off := 7) Try.underlying36 rfl rfl ti3 (by decide))) fun _ he => qyg (v := .int .i64 (x105.Prev)) he (zaw (i := y50.toNat) (j := 7) hR3.up rfl hr108 rfl Try.underlying3 rfl) fun _ he => qyg (v := v44) he (zaa rfl) fun _ he => qyg (v := .int .i64 (y50)) he (zaa rfl) fun _ he => ?_
     obtain ⟨x117, hx118, hm⟩ := ob hm
     obtain ⟨r119, hr120, hq121, hi122, hb123⟩ := hW46.geti hx118
     obtain ⟨v124, rfl, ⟨rw125, hR126, hW127⟩⟩ := hq121
     refine qyg he (za8 (Rd.st hs (.head _)) rfl rfl hi122 hb123 Try.underlying22 ti36) fun _ he => qyg (v := eaddr v44 9 y50.toNat 7) he (zal (i := y50.toNat) (j := 0) (Rd.st hs (.head _)) rfl hb123 (FO.of (off := 7) Try.underlying36 rfl rfl ti3 (by decide))) fun _ he => qyg (v := .int .i64 (x117.Prev)) he (zaw (i := y50.toNat) (j := 7) (Rd.st hs (.head _)) rfl hr120 rfl Try.underlying3 rfl) fun _ he => qyg he (zez rfl rfl) fun _ he => qy (v := .bool (decide (x105.Prev ≠ x117.Prev))) he (zb4 rfl rfl) fun _ he => qy (v := .bool (decide (x105.Prev ≠ x117.Prev))) he (zaa rfl) fun _ he => ?_
     refine Ev.split he (t := 187) rfl (fun hg129 hq => ?_) (fun hg129 hq => ?_)
     ·clear he; have he := hq; clear hq
      replace hm := oc_t hg129 hm
      refine qno he fun _ he => qno he fun _ he => qno he fun _ he => qno he fun _ he => qno he fun _ he => qno he fun _ he => qno he fun _ he => qno he fun _ he => qno he fun _ he => qno he fun _ he => ?_
      refine qno he fun _ he => qy (v := .bool (true)) he (zb4 rfl rfl) fun _ he => ?_
      refine zgy he ?_; clear he; (try clear hs); (try clear a); intro a w hs
      exact ⟨true, hm, hs.sub ⟨rfl, rfl, rfl, rfl, rfl, trivial⟩⟩
     clear he; have he := hq; clear hq
     replace hm := oc_f hg129 hm
     refine qyg (v := v1) he (zaa rfl) fun _ he => qyg (v := .int .i64 (y50)) he (zaa rfl) fun _ he => ?_
     obtain ⟨x130, hx131, hm⟩ := ob hm
     obtain ⟨r132, hr133, hq134, hi135, hb136⟩ := hW4.geti hx131
     obtain ⟨v137, rfl, ⟨rw138, hR139, hW140⟩⟩ := hq134
     refine qyg he (za8 hR3 rfl rfl hi135 hb136 Try.underlying22 ti36) fun _ he => qyg (v := eaddr v1 9 y50.toNat 8) he (zal (i := y50.toNat) (j := 0) hR3 rfl hb136 (FO.of (off := 8) Try.underlying36 rfl rfl ti3 (by decide))) fun _ he => qyg (v := .int .i64 (x130.Next)) he (zaw (i := y50.toNat) (j := 8) hR3.up rfl hr133 rfl Try.underlying3 rfl) fun _ he => qyg (v := v44) he (zaa rfl) fun _ he => qyg (v := .int .i64 (y50)) he (zaa rfl) fun _ he => ?_
     obtain ⟨x142, hx143, hm⟩ := ob hm
     obtain ⟨r144, hr145, hq146, hi147, hb148⟩ := hW46.geti hx143
     obtain ⟨v149, rfl, ⟨rw150, hR151, hW152⟩⟩ := hq146
     refine qyg he (za8 (Rd.st hs (.head _)) rfl rfl hi147 hb148 Try.underlying22 ti36) fun _ he => qyg (v := eaddr v44 9 y50.toNat 8) he (zal (i := y50.toNat) (j := 0) (Rd.st hs (.head _)) rfl hb148 (FO.of (off := 8) Try.underlying36 rfl rfl ti3 (by decide))) fun _ he => qyg (v := .int .i64 (x142.Next)) he (zaw (i := y50.toNat) (j := 8) (Rd.st hs (.head _)) rfl hr145 rfl Try.underlying3 rfl) fun _ he => qyg he (zez rfl rfl) fun _ he => qy (v := .bool (decide (x130.Next ≠ x142.Next))) he (zb4 rfl rfl) fun _ he => ?_
     refine zgy he ?_; clear he; (try clear hs); (try clear a); intro a w hs
     exact ⟨decide (x130.Next ≠ x142.Next), hm, hs.sub ⟨rfl, rfl, rfl, rfl, rfl, trivial⟩⟩
    replace hm := oc_f hg52 hm
    refine zc9 <| hB24 _ _ ?_
    exact ⟨hm, hs.subs ⟨rfl, trivial⟩ (.cons _ (.refl _))⟩
  refine zam fun Qe32 hB32 hO32 => zcw (fun (k : Nat) a w => ∃ (y154 : (List zac)) (y159 : Int) (y160 : (List Int)) (y165 : Int) (v155 : Value) (rw156 : List (List Value)) (v161 : Value) (rw162 : List (List Value)), zch n p0 k y154 y159 y160 y165 = some res ∧ RW zbw f rw156 y154 ∧ RW (tInt .i64) f rw162 y160 ∧ St 202 w0 f (.row v161 3 1 rw162 :: .row v155 36 9 rw156 :: L) [(3, v1), (4, v155), (5, .int .i64 (y159)), (6, v161), (7, .int .i64 (y165))] a w) (fun k => k) n ⟨x38, 1, [0], 0, v14, rw40, v20, rw22, hm, hW41, hW21, hs.sub ⟨rfl, rfl, rfl, rfl, rfl, trivial⟩⟩ ?_
  clear hs hm
  intro k
  rintro a w ⟨y154, y159, y160, y165, v155, rw156, v161, rw162, hm, hW157, hW163, hs⟩
  intro K33 hK33
  cases k with
  | zero => simp [zch] at hm
  | succ k166 =>
   rw [zch] at hm
   refine Ws fun hK34 => Wq fun hK35 => sM (v := .int .i64 (y165)) hs rfl fun hs => sM (v := v1) hs rfl fun hs => s1 hs (zb7 hR3 hW4 rfl Try.underlying22) fun hs => s1 hs (zg7 rfl rfl) fun hs => za0 <| hK35 ?_
   refine zaf hs rfl (fun hg167 => ?_) (fun hg167 => ?_)
   ·replace hm := oc_t hg167 hm
    refine zah <| hK34 <| Ws fun hK36 => ?_
    refine zai (fun a w => ∃ (y168 : (List zac)) (y173 : Int) (y174 : (List Int)) (v169 : Value) (rw170 : List (List Value)) (v175 : Value) (rw176 : List (List Value)), zjj y165 (zch n p0 k166) y168 y173 y174 = some res ∧ RW zbw f rw170 y168 ∧ RW (tInt .i64) f rw176 y174 ∧ St 202 w0 f (.row v175 3 1 rw176 :: .row v169 36 9 rw170 :: L) [(3, v1), (4, v169), (5, .int .i64 (y173)), (6, v175), (7, .int .i64 (y165))] a w) ?_ ?_
    ·clear hs hm
     rintro a w ⟨y168, y173, y174, v169, rw170, v175, rw176, hm, hW171, hW177, hs⟩
     unfold zjj at hm
     refine hK36 <| za7 <| sM (v := .int .i64 (y165)) hs rfl fun hs => s1 hs (zeq rfl rfl rfl) fun hs => sA (v := .int .i64 ((w64 (y165 + 1)))) hs rfl fun hs => za0 ?_
     exact hK33 k166 _ _ (Nat.lt_succ_self _) ⟨y168, y173, y174, (w64 (y165 + 1)), v169, rw170, v175, rw176, hm, hW171, hW177, hs.sub ⟨rfl, rfl, rfl, rfl, rfl, trivial⟩⟩
    refine zam fun Qe37 hB37 hO37 => Ws fun hK38 => Wq fun hK39 => sM (v := v1) hs rfl fun hs => sM (v := .int .i64 (y165)) hs rfl fun hs => ?_
    obtain ⟨x179, hx180, hm⟩ := ob hm
    obtain ⟨r181, hr182, hq183, hi184, hb185⟩ := hW4.geti hx180
    obtain ⟨v186, rfl, ⟨rw187, hR188, hW189⟩⟩ := hq183
    refine s1 hs (za8 hR3 rfl rfl hi184 hb185 Try.underlying22 ti36) fun hs => s1 hs (zfm hR3.up rfl hr182 Try.underlying36 rfl ti36) fun hs => ?_
    obtain ⟨x191, hx192, hm⟩ := ob hm
    refine s1 hs (zbd rfl has39 rfl (zri n (f := f) (a0 := [.int .i64 (x179.Kind), .string (x179.Name), .string (x179.Text), v186, .int .i64 (x179.Parent), .int .i64 (x179.First), .int .i64 (x179.Last), .int .i64 (x179.Prev), .int .i64 (x179.Next)]) ⟨_, rfl, ⟨rw187, hR188, hW189⟩⟩ hx192)) fun hs => s1 (v := .bool ((!x191))) hs (zj8 rfl) fun hs => za0 <| hK39 ?_
    refine zaf hs rfl (fun hg193 => ?_) (fun hg193 => ?_)
    ·replace hm := oc_t hg193 hm
     refine Wq fun hK40 => sA (v := .int .i64 (10)) hs rfl fun hs => za0 <| hK40 <| zau ?_
     obtain rfl := Option.some.inj hm
     refine RtV1 hs rfl (rv_t hs rfl) ?_
     exact ⟨rfl, ((hs.subL (.cons _ (.cons _ (.refl _)))).weak hle).cw⟩
    replace hm := oc_f hg193 hm
    refine zah <| hK38 <| Ws fun hK41 => Wq fun hK42 => sM (v := .int .i64 (y165)) hs rfl fun hs => s1 hs (zd3 rfl rfl) fun hs => za0 <| hK42 ?_
    refine zaf hs rfl (fun hg194 => ?_) (fun hg194 => ?_)
    ·replace hm := oc_t hg194 hm
     refine zc9 <| hB37 _ _ ?_
     exact ⟨y154, y159, y160, v155, rw156, v161, rw162, hm, hW157, hW163, hs.sub ⟨rfl, rfl, rfl, rfl, rfl, trivial⟩⟩
    replace hm := oc_f hg194 hm
    refine zah <| hK41 <| Wq fun hK43 => sM (v := v1) hs rfl fun hs => sM (v := .int .i64 (y165)) hs rfl fun hs => ?_
    obtain ⟨x195, hx196, hm⟩ := ob hm
    obtain ⟨r197, hr198, hq199, hi200, hb201⟩ := hW4.geti hx196
    obtain ⟨v202, rfl, ⟨rw203, hR204, hW205⟩⟩ := hq199
    refine s1 hs (za8 hR3 rfl rfl hi200 hb201 Try.underlying22 ti36) fun hs => s1 (v := eaddr v1 9 y165.toNat 4) hs (zal (i := y165.toNat) (j := 0) hR3 rfl hb201 (FO.of (off := 4) Try.underlying36 rfl rfl ti3 (by decide))) fun hs => s1 (v := .int .i64 (x195.Parent)) hs (zaw (i := y165.toNat) (j := 4) hR3.up rfl hr198 rfl Try.underlying3 rfl) fun hs => sA (v := .int .i64 (x195.Parent)) hs rfl fun hs => za0 <| hK43 <| Ws fun hK44 => ?_
    refine zai (fun a w => ∃ (y207 : (List Int)) (v208 : Value) (rw209 : List (List Value)), zkw p0 y154 y159 y165 (zch n p0 k166) x195 y207 = some res ∧ RW (tInt .i64) f rw209 y207 ∧ St 202 w0 f (.row v208 3 1 rw209 :: .row v155 36 9 rw156 :: L) [(3, v1), (4, v155), (5, .int .i64 (y159)), (6, v208), (7, .int .i64 (y165)), (8, .int .i64 (x195.Parent))] a w) ?_ ?_
    ·clear hs hm
     rintro a w ⟨y207, v208, rw209, hm, hW210, hs⟩
     unfold zkw at hm
     refine hK44 <| Ws fun hK45 => Ws fun hK46 => ?_
     refine zai (fun a w => ∃ (y212 : Bool), zji y154 y159 y165 (zch n p0 k166) x195 y207 y212 = some res ∧ St 202 w0 f (.row v208 3 1 rw209 :: .row v155 36 9 rw156 :: L) [(3, v1), (4, v155), (5, .int .i64 (y159)), (6, v208), (7, .int .i64 (y165)), (8, .int .i64 (x195.Parent)), (98, .bool (y212))] a w) ?_ ?_
     ·clear hs hm
      rintro a w ⟨y212, hm, hs⟩
      unfold zji at hm
      refine hK46 ?_
      refine zaf hs rfl (fun hg213 => ?_) (fun hg213 => ?_)
      ·replace hm := oc_t hg213 hm
       refine Wq fun hK47 => sA (v := .int .i64 (10)) hs rfl fun hs => za0 <| hK47 <| zau ?_
       obtain rfl := Option.some.inj hm
       refine RtV1 hs rfl (rv_t hs rfl) ?_
       exact ⟨rfl, ((hs.subL (.cons _ (.cons _ (.refl _)))).weak hle).cw⟩
      replace hm := oc_f hg213 hm
      refine zah <| hK45 <| Wq fun hK48 => sM (v := v208) hs rfl fun hs => sM (v := .int .i64 (y165)) hs rfl fun hs => zfz hs rfl Try.underlying46 ti3 rfl rfl fun v214 _ _ hs => ?_
      have hW215 : RW (tInt .i64) f [[.int .i64 (y165)]] [y165] := RW.single (rfl)
      generalize hgrw216 : ([[.int .i64 (y165)]] : List (List Value)) = rw216 at hs hW215; clear hgrw216
      obtain ⟨x219, hx220, hm⟩ := ob hm
      obtain ⟨hbx219, hex219⟩ := zcj hx220
      have hW223 := hW210.append hW215; rw [hex219] at hW223
      refine zcs (i := 1) hs rfl rfl rfl (Rd.st hs (.head _)) Try.underlying46 ti3 (by decide) (by rw [RW.len hW210, RW.len hW215]; exact hbx219) (.free rfl) (by decide) fun v221 _ _ hs => ?_
      generalize hgx219 : rw209 ++ rw216 = rw222 at hs hW223; clear hgx219
      replace hs := hs.erase 0
      refine sA (v := v221) hs rfl fun hs => za0 <| hK48 <| Ws fun hK49 => Wq fun hK50 => sM (v := v221) hs rfl fun hs => s1 hs (zb7 (Rd.st hs (.head _)) hW223 rfl Try.underlying46) fun hs => sM (v := .int .i64 (y159)) hs rfl fun hs => s1 hs (zis rfl rfl) fun hs => ?_
      refine za0 <| hK50 ?_
      refine zai (fun a w => ∃ (y225 : Int), ziz y154 y165 (zch n p0 k166) x195 x219 y225 = some res ∧ St 202 w0 f (.row v221 3 1 rw222 :: .row v155 36 9 rw156 :: L) [(3, v1), (4, v155), (5, .int .i64 (y225)), (6, v221), (7, .int .i64 (y165)), (8, .int .i64 (x195.Parent))] a w) ?_ ?_
      ·clear hs hm
       rintro a w ⟨y225, hm, hs⟩
       unfold ziz at hm
       refine hK49 <| Wq fun hK51 => sM (v := v155) hs rfl fun hs => sM (v := .int .i64 (y165)) hs rfl fun hs => sM (v := .int .i64 (x195.Parent)) hs rfl fun hs => sM (v := v155) hs rfl fun hs => sM (v := .int .i64 (x195.Parent)) hs rfl fun hs => ?_
       obtain ⟨x226, hx227, hm⟩ := ob hm
       obtain ⟨r228, hr229, hq230, hi231, hb232⟩ := hW157.geti hx227
       obtain ⟨v233, rfl, ⟨rw234, hR235, hW236⟩⟩ := hq230
       refine s1 hs (za8 (Rd.st hs (.tail _ (.head _))) rfl rfl hi231 hb232 Try.underlying22 ti36) fun hs => s1 (v := eaddr v155 9 x195.Parent.toNat 6) hs (zal (i := x195.Parent.toNat) (j := 0) (Rd.st hs (.tail _ (.head _))) rfl hb232 (FO.of (off := 6) Try.underlying36 rfl rfl ti3 (by decide))) fun hs => s1 (v := .int .i64 (x226.Last)) hs (zaw (i := x195.Parent.toNat) (j := 6) (Rd.st hs (.tail _ (.head _))) rfl hr229 rfl Try.underlying3 rfl) fun hs => s1 hs (zes (places := [(0, 1), (1, 1), (2, 1), (3, 1), (4, 1), (5, 1), (6, 1), (7, 1), (8, 1)]) (cs := [.int .i64 (0), .string ((bs [])), .string ((bs [])), (.slice none 0 0), .int .i64 (x195.Parent), .int .i64 ((-1)), .int .i64 ((-1)), .int .i64 (x226.Last), .int .i64 ((-1))]) rfl Try.underlying36 ti36 (by kernel_rfl) (by decide) rfl ⟨rfl, rfl, rfl, rfl, rfl, trivial⟩) fun hs => ?_
       obtain ⟨x239, hx240, hm⟩ := ob hm
       obtain ⟨r241, hr242, hq243, hi244, hb245⟩ := hW157.geti hx240
       obtain ⟨v246, rfl, ⟨rw247, hR248, hW249⟩⟩ := hq243
       refine s1 hs (za8 (Rd.st hs (.tail _ (.head _))) rfl rfl hi244 hb245 Try.underlying22 ti36) fun hs => ?_
       obtain ⟨x251, hx252, hm⟩ := ob hm
       have hex251 := zfo hx252
       have hW254 := RW.set (i := y165.toNat) (r := [.int .i64 (0), .string ((bs [])), .string ((bs [])), (.slice none 0 0), .int .i64 (x195.Parent), .int .i64 ((-1)), .int .i64 ((-1)), .int .i64 (x226.Last), .int .i64 ((-1))]) (x := (({Kind := 0, Name := (bs []), Text := (bs []), Attrs := ([] : List za9), Parent := x195.Parent, First := (-1), Last := (-1), Prev := x226.Last, Next := (-1)} : zac) : zac)) hW157 (⟨_, rfl, RS.nil⟩); rw [hex251] at hW254
       refine zoo (i := 1) (m := y165.toNat) (r' := [.int .i64 (0), .string ((bs [])), .string ((bs [])), (.slice none 0 0), .int .i64 (x195.Parent), .int .i64 ((-1)), .int .i64 ((-1)), .int .i64 (x226.Last), .int .i64 ((-1))]) hs rfl rfl rfl hr242 ti36 (AllC.row ⟨rfl, rfl, rfl, rfl, rfl, rfl, rfl, rfl, rfl, trivial⟩ rfl) (.free rfl) fun _ _ hs => ?_
       replace hs : St _ _ _ (.row v221 3 1 rw222 :: .row v155 36 9 (rw156.set y165.toNat [.int .i64 (0), .string ((bs [])), .string ((bs [])), (.slice none 0 0), .int .i64 (x195.Parent), .int .i64 ((-1)), .int .i64 ((-1)), .int .i64 (x226.Last), .int .i64 ((-1))]) :: L) _ _ _ := hs
       generalize hgrw253 : rw156.set y165.toNat [.int .i64 (0), .string ((bs [])), .string ((bs [])), (.slice none 0 0), .int .i64 (x195.Parent), .int .i64 ((-1)), .int .i64 ((-1)), .int .i64 (x226.Last), .int .i64 ((-1))] = rw253 at hs hW254; clear hgrw253
       refine za0 <| hK51 <| Ws fun hK52 => Wq fun hK53 => sM (v := v155) hs rfl fun hs => sM (v := .int .i64 (x195.Parent)) hs rfl fun hs => ?_
       obtain ⟨x256, hx257, hm⟩ := ob hm
       obtain ⟨r258, hr259, hq260, hi261, hb262⟩ := hW254.geti hx257
       obtain ⟨v263, rfl, ⟨rw264, hR265, hW266⟩⟩ := hq260
       refine s1 hs (za8 (Rd.st hs (.tail _ (.head _))) rfl rfl hi261 hb262 Try.underlying22 ti36) fun hs => s1 (v := eaddr v155 9 x195.Parent.toNat 6) hs (zal (i := x195.Parent.toNat) (j := 0) (Rd.st hs (.tail _ (.head _))) rfl hb262 (FO.of (off := 6) Try.underlying36 rfl rfl ti3 (by decide))) fun hs => s1 (v := .int .i64 (x256.Last)) hs (zaw (i := x195.Parent.toNat) (j := 6) (Rd.st hs (.tail _ (.head _))) rfl hr259 rfl Try.underlying3 rfl) fun hs => s1 hs (zmc rfl rfl) fun hs => za0 <| hK53 ?_
       refine zai (fun a w => ∃ (y268 : (List zac)) (v269 : Value) (rw270 : List (List Value)), ziy y165 (zch n p0 k166) x195 x219 y225 y268 = some res ∧ RW zbw f rw270 y268 ∧ St 202 w0 f (.row v221 3 1 rw222 :: .row v269 36 9 rw270 :: L) [(3, v1), (4, v269), (5, .int .i64 (y225)), (6, v221), (7, .int .i64 (y165)), (8, .int .i64 (x195.Parent))] a w) ?_ ?_
       ·clear hs hm
        rintro a w ⟨y268, v269, rw270, hm, hW271, hs⟩
        unfold ziy at hm
        refine hK52 <| za7 <| sM (v := v269) hs rfl fun hs => sM (v := .int .i64 (x195.Parent)) hs rfl fun hs => sM (v := .int .i64 (y165)) hs rfl fun hs => ?_
        obtain ⟨x273, hx274, hm⟩ := ob hm
        obtain ⟨r275, hr276, hq277, hi278, hb279⟩ := hW271.geti hx274
        obtain ⟨v280, rfl, ⟨rw281, hR282, hW283⟩⟩ := hq277
        refine s1 hs (za8 (Rd.st hs (.tail _ (.head _))) rfl rfl hi278 hb279 Try.underlying22 ti36) fun hs => s1 (v := eaddr v269 9 x195.Parent.toNat 6) hs (zal (i := x195.Parent.toNat) (j := 0) (Rd.st hs (.tail _ (.head _))) rfl hb279 (FO.of (off := 6) Try.underlying36 rfl rfl ti3 (by decide))) fun hs => ?_
        obtain ⟨x285, hx286, hm⟩ := ob hm
        have hex285 := zfo hx286
        have hW288 := RW.set (i := x195.Parent.toNat) (r := [.int .i64 (x273.Kind), .string (x273.Name), .string (x273.Text), v280, .int .i64 (x273.Parent), .int .i64 (x273.First), .int .i64 (y165), .int .i64 (x273.Prev), .int .i64 (x273.Next)]) (x := (({x273 with Last := y165} : zac) : zac)) hW271 (⟨_, rfl, ⟨rw281, hR282, hW283⟩⟩); rw [hex285] at hW288
        refine zep (i := 1) (j := 6) (m := x195.Parent.toNat) hs rfl rfl rfl hr276 (by decide) ti3 rfl (.free rfl) fun _ _ hs => ?_
        replace hs : St _ _ _ (.row v221 3 1 rw222 :: .row v269 36 9 (rw270.set x195.Parent.toNat [.int .i64 (x273.Kind), .string (x273.Name), .string (x273.Text), v280, .int .i64 (x273.Parent), .int .i64 (x273.First), .int .i64 (y165), .int .i64 (x273.Prev), .int .i64 (x273.Next)]) :: L) _ _ _ := hs
        generalize hgrw287 : rw270.set x195.Parent.toNat [.int .i64 (x273.Kind), .string (x273.Name), .string (x273.Text), v280, .int .i64 (x273.Parent), .int .i64 (x273.First), .int .i64 (y165), .int .i64 (x273.Prev), .int .i64 (x273.Next)] = rw287 at hs hW288; clear hgrw287
        refine za0 ?_
        exact ⟨x285, y225, x219, v269, rw287, v221, rw222, hm, hW288, hW223, hs.sub ⟨rfl, rfl, rfl, rfl, rfl, trivial⟩⟩
       refine zaf hs rfl (fun hg290 => ?_) (fun hg290 => ?_)
       ·replace hm := oc_t hg290 hm
        refine za7 <| sM (v := v155) hs rfl fun hs => sM (v := v155) hs rfl fun hs => sM (v := .int .i64 (x195.Parent)) hs rfl fun hs => ?_
        obtain ⟨x291, hx292, hm⟩ := ob hm
        obtain ⟨r293, hr294, hq295, hi296, hb297⟩ := hW254.geti hx292
        obtain ⟨v298, rfl, ⟨rw299, hR300, hW301⟩⟩ := hq295
        refine s1 hs (za8 (Rd.st hs (.tail _ (.head _))) rfl rfl hi296 hb297 Try.underlying22 ti36) fun hs => s1 (v := eaddr v155 9 x195.Parent.toNat 6) hs (zal (i := x195.Parent.toNat) (j := 0) (Rd.st hs (.tail _ (.head _))) rfl hb297 (FO.of (off := 6) Try.underlying36 rfl rfl ti3 (by decide))) fun hs => s1 (v := .int .i64 (x291.Last)) hs (zaw (i := x195.Parent.toNat) (j := 6) (Rd.st hs (.tail _ (.head _))) rfl hr294 rfl Try.underlying3 rfl) fun hs => sM (v := .int .i64 (y165)) hs rfl fun hs => ?_
        obtain ⟨x303, hx304, hm⟩ := ob hm
        obtain ⟨r305, hr306, hq307, hi308, hb309⟩ := hW254.geti hx304
        obtain ⟨v310, rfl, ⟨rw311, hR312, hW313⟩⟩ := hq307
        refine s1 hs (za8 (Rd.st hs (.tail _ (.head _))) rfl rfl hi308 hb309 Try.underlying22 ti36) fun hs => s1 (v := eaddr v155 9 x291.Last.toNat 8) hs (zal (i := x291.Last.toNat) (j := 0) (Rd.st hs (.tail _ (.head _))) rfl hb309 (FO.of (off := 8) Try.underlying36 rfl rfl ti3 (by decide))) fun hs => ?_
        obtain ⟨x315, hx316, hm⟩ := ob hm
        have hex315 := zfo hx316
        have hW318 := RW.set (i := x291.Last.toNat) (r := [.int .i64 (x303.Kind), .string (x303.Name), .string (x303.Text), v310, .int .i64 (x303.Parent), .int .i64 (x303.First), .int .i64 (x303.Last), .int .i64 (x303.Prev), .int .i64 (y165)]) (x := (({x303 with Next := y165} : zac) : zac)) hW254 (⟨_, rfl, ⟨rw311, hR312, hW313⟩⟩); rw [hex315] at hW318
        refine zep (i := 1) (j := 8) (m := x291.Last.toNat) hs rfl rfl rfl hr306 (by decide) ti3 rfl (.free rfl) fun _ _ hs => ?_
        replace hs : St _ _ _ (.row v221 3 1 rw222 :: .row v155 36 9 (rw253.set x291.Last.toNat [.int .i64 (x303.Kind), .string (x303.Name), .string (x303.Text), v310, .int .i64 (x303.Parent), .int .i64 (x303.First), .int .i64 (x303.Last), .int .i64 (x303.Prev), .int .i64 (y165)]) :: L) _ _ _ := hs
        generalize hgrw317 : rw253.set x291.Last.toNat [.int .i64 (x303.Kind), .string (x303.Name), .string (x303.Text), v310, .int .i64 (x303.Parent), .int .i64 (x303.First), .int .i64 (x303.Last), .int .i64 (x303.Prev), .int .i64 (y165)] = rw317 at hs hW318; clear hgrw317
        refine za0 ?_
        exact ⟨x315, v155, rw317, hm, hW318, hs.sub ⟨rfl, rfl, rfl, rfl, rfl, rfl, trivial⟩⟩
       replace hm := oc_f hg290 hm
       refine za7 <| sM (v := v155) hs rfl fun hs => sM (v := .int .i64 (x195.Parent)) hs rfl fun hs => sM (v := .int .i64 (y165)) hs rfl fun hs => ?_
       obtain ⟨x320, hx321, hm⟩ := ob hm
       obtain ⟨r322, hr323, hq324, hi325, hb326⟩ := hW254.geti hx321
       obtain ⟨v327, rfl, ⟨rw328, hR329, hW330⟩⟩ := hq324
       refine s1 hs (za8 (Rd.st hs (.tail _ (.head _))) rfl rfl hi325 hb326 Try.underlying22 ti36) fun hs => s1 (v := eaddr v155 9 x195.Parent.toNat 5) hs (zal (i := x195.Parent.toNat) (j := 0) (Rd.st hs (.tail _ (.head _))) rfl hb326 (FO.of (off := 5) Try.underlying36 rfl rfl ti3 (by decide))) fun hs => ?_
       obtain ⟨x332, hx333, hm⟩ := ob hm
       have hex332 := zfo hx333
       have hW335 := RW.set (i := x195.Parent.toNat) (r := [.int .i64 (x320.Kind), .string (x320.Name), .string (x320.Text), v327, .int .i64 (x320.Parent), .int .i64 (y165), .int .i64 (x320.Last), .int .i64 (x320.Prev), .int .i64 (x320.Next)]) (x := (({x320 with First := y165} : zac) : zac)) hW254 (⟨_, rfl, ⟨rw328, hR329, hW330⟩⟩); rw [hex332] at hW335
       refine zep (i := 1) (j := 5) (m := x195.Parent.toNat) hs rfl rfl rfl hr323 (by decide) ti3 rfl (.free rfl) fun _ _ hs => ?_
       replace hs : St _ _ _ (.row v221 3 1 rw222 :: .row v155 36 9 (rw253.set x195.Parent.toNat [.int .i64 (x320.Kind), .string (x320.Name), .string (x320.Text), v327, .int .i64 (x320.Parent), .int .i64 (y165), .int .i64 (x320.Last), .int .i64 (x320.Prev), .int .i64 (x320.Next)]) :: L) _ _ _ := hs
       generalize hgrw334 : rw253.set x195.Parent.toNat [.int .i64 (x320.Kind), .string (x320.Name), .string (x320.Text), v327, .int .i64 (x320.Parent), .int .i64 (y165), .int .i64 (x320.Last), .int .i64 (x320.Prev), .int .i64 (x320.Next)] = rw334 at hs hW335; clear hgrw334
       refine za0 ?_
       exact ⟨x332, v155, rw334, hm, hW335, hs.sub ⟨rfl, rfl, rfl, rfl, rfl, rfl, trivial⟩⟩
      refine zaf hs rfl (fun hg337 => ?_) (fun hg337 => ?_)
      ·replace hm := oc_t hg337 hm
       refine za7 <| sM (v := v221) hs rfl fun hs => s1 hs (zb7 (Rd.st hs (.head _)) hW223 rfl Try.underlying46) fun hs => sA (v := .int .i64 ((x219.length : Int))) hs rfl fun hs => za0 ?_
       exact ⟨(x219.length : Int), hm, hs.sub ⟨rfl, rfl, rfl, rfl, rfl, rfl, trivial⟩⟩
      replace hm := oc_f hg337 hm
      refine zah ?_
      exact ⟨y159, hm, hs.sub ⟨rfl, rfl, rfl, rfl, rfl, rfl, trivial⟩⟩
     refine za7 <| sM (v := v208) hs rfl fun hs => s1 hs (zb7 (Rd.st hs (.head _)) hW210 rfl Try.underlying46) fun hs => s1 hs (zd3 rfl rfl) fun hs => sM (v := .bool (decide ((y207.length : Int) = 0))) hs rfl fun hs => ?_
     refine St.split hs (t := 91) rfl (fun hg338 hs => ?_) (fun hg338 hs => ?_)
     ·replace hm := oc_t hg338 hm
      refine s3 hs fun hs => s3 hs fun hs => s3 hs fun hs => s3 hs fun hs => s3 hs fun hs => s3 hs fun hs => sP (v := .bool (true)) hs rfl rfl fun hs => za0 ?_
      exact ⟨true, hm, hs.sub ⟨rfl, rfl, rfl, rfl, rfl, rfl, rfl, trivial⟩⟩
     replace hm := oc_f hg338 hm
     refine s2 (v := v1) hs (zaa rfl) fun hs => s2 (v := .int .i64 (x195.Parent)) hs (zaa rfl) fun hs => ?_
     obtain ⟨x339, hx340, hm⟩ := ob hm
     obtain ⟨r341, hr342, hq343, hi344, hb345⟩ := hW4.geti hx340
     obtain ⟨v346, rfl, ⟨rw347, hR348, hW349⟩⟩ := hq343
     refine s2 hs (za8 hR3 rfl rfl hi344 hb345 Try.underlying22 ti36) fun hs => s2 (v := eaddr v1 9 x195.Parent.toNat 0) hs (zal (i := x195.Parent.toNat) (j := 0) hR3 rfl hb345 (FO.of (off := 0) Try.underlying36 rfl rfl ti3 (by decide))) fun hs => s2 (v := .int .i64 (x339.Kind)) hs (zaw (i := x195.Parent.toNat) (j := 0) hR3.up rfl hr342 rfl Try.underlying3 rfl) fun hs => s2 hs (zez rfl rfl) fun hs => sP (v := .bool (decide (x339.Kind ≠ 1))) hs rfl rfl fun hs => za0 ?_
     exact ⟨decide (x339.Kind ≠ 1), hm, hs.sub ⟨rfl, rfl, rfl, rfl, rfl, rfl, rfl, trivial⟩⟩
    refine zam fun Qe54 hB54 hO54 => zcw (fun (k : Nat) a w => ∃ (y351 : (List Int)) (v352 : Value) (rw353 : List (List Value)), zfx p0 y154 y159 y165 (zch n p0 k166) x195 k y351 = some res ∧ RW (tInt .i64) f rw353 y351 ∧ St 202 w0 f (.row v352 3 1 rw353 :: .row v155 36 9 rw156 :: L) [(3, v1), (4, v155), (5, .int .i64 (y159)), (6, v352), (7, .int .i64 (y165)), (8, .int .i64 (x195.Parent))] a w) (fun k => k) n ⟨y160, v161, rw162, hm, hW163, hs.sub ⟨rfl, rfl, rfl, rfl, rfl, rfl, trivial⟩⟩ ?_
    clear hs hm
    intro k
    rintro a w ⟨y351, v352, rw353, hm, hW354, hs⟩
    intro K55 hK55
    cases k with
    | zero => simp [zfx] at hm
    | succ k356 =>
     rw [zfx] at hm
     refine Ws fun hK56 => Ws fun hK57 => ?_
     refine zai (fun a w => ∃ (y357 : Bool), zix p0 y154 y159 y165 (zch n p0 k166) x195 y351 (zfx p0 y154 y159 y165 (zch n p0 k166) x195 k356) y357 = some res ∧ St 202 w0 f (.row v352 3 1 rw353 :: .row v155 36 9 rw156 :: L) [(3, v1), (4, v155), (5, .int .i64 (y159)), (6, v352), (7, .int .i64 (y165)), (8, .int .i64 (x195.Parent)), (82, .bool (y357))] a w) ?_ ?_
     ·clear hs hm
      rintro a w ⟨y357, hm, hs⟩
      unfold zix at hm
      refine hK57 ?_
      refine zaf hs rfl (fun hg358 => ?_) (fun hg358 => ?_)
      ·replace hm := oc_t hg358 hm
       refine zah <| hK56 <| zam fun Qe58 hB58 hO58 => za7 <| sM (v := v352) hs rfl fun hs => sM (v := v352) hs rfl fun hs => s1 hs (zb7 (Rd.st hs (.head _)) hW354 rfl Try.underlying46) fun hs => s1 hs (zmt rfl rfl rfl) fun hs => ?_
       obtain ⟨x359, hx360, hm⟩ := ob hm
       obtain ⟨⟨hlx359, hhx359, h1x359, h2x359⟩, hex359⟩ := zj7 hx360
       have hW361 := (hW354.take (w64 ((y351.length : Int) - 1)).toNat).drop (Int.toNat 0); rw [hex359] at hW361
       simp only [Int.toNat_zero, List.drop_zero] at hW361
       refine s1 hs (zln (lo := (0 : Nat)) (hi := (w64 ((y351.length : Int) - 1)).toNat) rfl Try.underlying46 ti3 (.inl ⟨rfl, rfl⟩) (.inr ⟨_, rfl, by rw [← hhx359]; rfl⟩) h1x359 (by rw [RW.len hW354]; exact h2x359) (Rd.st hs (.head _))) fun hs => ?_
       replace hs := hs.shrink (i := 0) rfl (m := (w64 ((y351.length : Int) - 1)).toNat) (by rw [RW.len hW354]; exact h2x359)
       generalize hgrw363 : List.take _ rw353 = rw363 at hs hW361; clear hgrw363
       generalize hgv364 : cutv v352 1 0 _ = v364 at hs; clear hgv364
       refine sA (v := v364) hs rfl fun hs => za0 ?_
       exact hK55 k356 _ _ (Nat.lt_succ_self _) ⟨x359, v364, rw363, hm, hW361, hs.sub ⟨rfl, rfl, rfl, rfl, rfl, rfl, trivial⟩⟩
      replace hm := oc_f hg358 hm
      refine zc9 <| hB54 _ _ ?_
      exact ⟨y351, v352, rw353, hm, hW354, hs.sub ⟨rfl, rfl, rfl, rfl, rfl, rfl, trivial⟩⟩
     refine za7 <| sM (v := v352) hs rfl fun hs => s1 hs (zb7 (Rd.st hs (.head _)) hW354 rfl Try.underlying46) fun hs => s1 hs (zis rfl rfl) fun hs => sM (v := .bool (decide (0 < (y351.length : Int)))) hs rfl fun hs => ?_
     refine St.split hs (t := 73) rfl (fun hg366 hs => ?_) (fun hg366 hs => ?_)
     ·replace hm := oc_t hg366 hm
      refine s2 (v := v352) hs (zaa rfl) fun hs => s2 (v := v352) hs (zaa rfl) fun hs => s2 hs (zb7 (Rd.st hs (.head _)) hW354 rfl Try.underlying46) fun hs => s2 hs (zmt rfl rfl rfl) fun hs => ?_
      obtain ⟨x367, hx368, hm⟩ := ob hm
      obtain ⟨r369, hr370, hq371, hi372, hb373⟩ := hW354.geti hx368
      obtain rfl : _ = ([.int .i64 (x367)] : List Value) := hq371
      refine s2 hs (za8 (Rd.st hs (.head _)) rfl rfl hi372 hb373 Try.underlying46 ti3) fun hs => s2 (v := .int .i64 (x367)) hs (zaw (i := (w64 ((y351.length : Int) - 1)).toNat) (j := 0) (Rd.st hs (.head _)) rfl hr370 rfl Try.underlying3 rfl) fun hs => s2 (v := .int .i64 (x195.Parent)) hs (zaa rfl) fun hs => s2 hs (zez rfl rfl) fun hs => sP (v := .bool (decide (x367 ≠ x195.Parent))) hs rfl rfl fun hs => za0 ?_
      exact ⟨decide (x367 ≠ x195.Parent), hm, hs.sub ⟨rfl, rfl, rfl, rfl, rfl, rfl, rfl, trivial⟩⟩
     replace hm := oc_f hg366 hm
     refine s3 hs fun hs => s3 hs fun hs => s3 hs fun hs => s3 hs fun hs => s3 hs fun hs => s3 hs fun hs => s3 hs fun hs => s3 hs fun hs => sP (v := .bool (false)) hs rfl rfl fun hs => za0 ?_
     exact ⟨false, hm, hs.sub ⟨rfl, rfl, rfl, rfl, rfl, rfl, rfl, trivial⟩⟩
   replace hm := oc_f hg167 hm
   refine zc9 <| hB32 _ _ ?_
   exact ⟨y154, y159, v155, rw156, hm, hW157, hs.subs ⟨rfl, rfl, rfl, trivial⟩ (.cons _ (.cons_cons _ (.refl _)))⟩
 refine za7 <| sM (v := v1) hs rfl fun hs => ?_
 obtain ⟨x374, hx375, hm⟩ := ob hm
 obtain ⟨r376, hr377, hq378, hi379, hb380⟩ := hW4.geti hx375
 obtain ⟨v381, rfl, ⟨rw382, hR383, hW384⟩⟩ := hq378
 refine s1 hs (za8 hR3 rfl rfl hi379 hb380 Try.underlying22 ti36) fun hs => s1 (v := eaddr v1 9 ((0 : Int).toNat) 0) hs (zal (i := (0 : Int).toNat) (j := 0) hR3 rfl hb380 (FO.of (off := 0) Try.underlying36 rfl rfl ti3 (by decide))) fun hs => s1 (v := .int .i64 (x374.Kind)) hs (zaw (i := (0 : Int).toNat) (j := 0) hR3.up rfl hr377 rfl Try.underlying3 rfl) fun hs => s1 hs (zez rfl rfl) fun hs => sM (v := .bool (decide (x374.Kind ≠ 1))) hs rfl fun hs => ?_
 refine St.split hs (t := 23) rfl (fun hg386 hs => ?_) (fun hg386 hs => ?_)
 ·replace hm := oc_t hg386 hm
  refine s3 hs fun hs => s3 hs fun hs => s3 hs fun hs => s3 hs fun hs => s3 hs fun hs => sP (v := .bool (true)) hs rfl rfl fun hs => sM (v := .bool (true)) hs rfl fun hs => s3 hs fun hs => s3 hs fun hs => s3 hs fun hs => ?_
  refine s3 hs fun hs => s3 hs fun hs => sP (v := .bool (true)) hs rfl rfl fun hs => sM (v := .bool (true)) hs rfl fun hs => s3 hs fun hs => s3 hs fun hs => s3 hs fun hs => s3 hs fun hs => s3 hs fun hs => sP (v := .bool (true)) hs rfl rfl fun hs => ?_
  refine za0 ?_
  exact ⟨true, hm, hs.subs ⟨rfl, rfl, trivial⟩ (.cons _ (.refl _))⟩
 replace hm := oc_f hg386 hm
 refine s2 (v := v1) hs (zaa rfl) fun hs => ?_
 obtain ⟨x387, hx388, hm⟩ := ob hm
 obtain ⟨r389, hr390, hq391, hi392, hb393⟩ := hW4.geti hx388
 obtain ⟨v394, rfl, ⟨rw395, hR396, hW397⟩⟩ := hq391
 refine s2 hs (za8 hR3 rfl rfl hi392 hb393 Try.underlying22 ti36) fun hs => s2 (v := eaddr v1 9 ((0 : Int).toNat) 4) hs (zal (i := (0 : Int).toNat) (j := 0) hR3 rfl hb393 (FO.of (off := 4) Try.underlying36 rfl rfl ti3 (by decide))) fun hs => s2 (v := .int .i64 (x387.Parent)) hs (zaw (i := (0 : Int).toNat) (j := 4) hR3.up rfl hr390 rfl Try.underlying3 rfl) fun hs => s2 hs (zez rfl rfl) fun hs => sP (v := .bool (decide (x387.Parent ≠ (-1)))) hs rfl rfl fun hs => sM (v := .bool (decide (x387.Parent ≠ (-1)))) hs rfl fun hs => ?_
 refine St.split hs (t := 30) rfl (fun hg399 hs => ?_) (fun hg399 hs => ?_)
 ·replace hm := oc_t hg399 hm
  refine s3 hs fun hs => s3 hs fun hs => s3 hs fun hs => s3 hs fun hs => s3 hs fun hs => sP (v := .bool (true)) hs rfl rfl fun hs => sM (v := .bool (true)) hs rfl fun hs => s3 hs fun hs => s3 hs fun hs => s3 hs fun hs => ?_
  refine s3 hs fun hs => s3 hs fun hs => sP (v := .bool (true)) hs rfl rfl fun hs => za0 ?_
  exact ⟨true, hm, hs.subs ⟨rfl, rfl, trivial⟩ (.cons _ (.refl _))⟩
 replace hm := oc_f hg399 hm
 refine s2 (v := v1) hs (zaa rfl) fun hs => ?_
 obtain ⟨x400, hx401, hm⟩ := ob hm
 obtain ⟨r402, hr403, hq404, hi405, hb406⟩ := hW4.geti hx401
 obtain ⟨v407, rfl, ⟨rw408, hR409, hW410⟩⟩ := hq404
 refine s2 hs (za8 hR3 rfl rfl hi405 hb406 Try.underlying22 ti36) fun hs => s2 (v := eaddr v1 9 ((0 : Int).toNat) 7) hs (zal (i := (0 : Int).toNat) (j := 0) hR3 rfl hb406 (FO.of (off := 7) Try.underlying36 rfl rfl ti3 (by decide))) fun hs => s2 (v := .int .i64 (x400.Prev)) hs (zaw (i := (0 : Int).toNat) (j := 7) hR3.up rfl hr403 rfl Try.underlying3 rfl) fun hs => s2 hs (zez rfl rfl) fun hs => sP (v := .bool (decide (x400.Prev ≠ (-1)))) hs rfl rfl fun hs => sM (v := .bool (decide (x400.Prev ≠ (-1)))) hs rfl fun hs => ?_
 refine St.split hs (t := 37) rfl (fun hg412 hs => ?_) (fun hg412 hs => ?_)
 ·replace hm := oc_t hg412 hm
  refine s3 hs fun hs => s3 hs fun hs => s3 hs fun hs => s3 hs fun hs => s3 hs fun hs => sP (v := .bool (true)) hs rfl rfl fun hs => za0 ?_
  exact ⟨true, hm, hs.subs ⟨rfl, rfl, trivial⟩ (.cons _ (.refl _))⟩
 replace hm := oc_f hg412 hm
 refine s2 (v := v1) hs (zaa rfl) fun hs => ?_
 obtain ⟨x413, hx414, hm⟩ := ob hm
 obtain ⟨r415, hr416, hq417, hi418, hb419⟩ := hW4.geti hx414
 obtain ⟨v420, rfl, ⟨rw421, hR422, hW423⟩⟩ := hq417
 refine s2 hs (za8 hR3 rfl rfl hi418 hb419 Try.underlying22 ti36) fun hs => s2 (v := eaddr v1 9 ((0 : Int).toNat) 8) hs (zal (i := (0 : Int).toNat) (j := 0) hR3 rfl hb419 (FO.of (off := 8) Try.underlying36 rfl rfl ti3 (by decide))) fun hs => s2 (v := .int .i64 (x413.Next)) hs (zaw (i := (0 : Int).toNat) (j := 8) hR3.up rfl hr416 rfl Try.underlying3 rfl) fun hs => s2 hs (zez rfl rfl) fun hs => sP (v := .bool (decide (x413.Next ≠ (-1)))) hs rfl rfl fun hs => za0 ?_
 exact ⟨decide (x413.Next ≠ (-1)), hm, hs.subs ⟨rfl, rfl, trivial⟩ (.cons _ (.refl _))⟩
def zlr (y25 : (List Int)) : Option (List Int) :=
  some y25
def zj2 (p0 : zae) : Nat → (List Int) → Int → Option (List Int)
  | 0, _, _ => none
  | k44 + 1, y34, y39 =>
  (bif (decide (0 ≤ y39)) then (appM 8 y34 [y39]).bind fun x51 =>
  (geti p0.Nodes y39).bind fun x57 =>
  (zj2 p0 k44) x51 x57.Next else
  zlr y34)
def zpd (n : Nat) (p0 : zae) (p1 : Int) : Option (List Int) :=
  (bif ((decide (p1 < 0)) || (decide ((p0.Nodes.length : Int) ≤ p1))) then some ([] : List Int) else
  (geti p0.Nodes p1).bind fun x12 =>
  zj2 p0 n ([] : List Int) x12.First)
theorem ref5_Kids_ok (n : Nat) {f : Fz} {p0 : zae} {a0 : List Value} {p1 : Int} {res : (List Int)} (h0 : zff.R f a0 p0) (hm : zpd n p0 p1 = some res) : Does Try.prog 40 [.agg a0.toArray, .int .i64 p1] f [] (fun r f' L' => ∃ (u0 : Value), L' = [] ∧ r = u0 ∧ RS (tInt .i64) f' u0 res) := by
 unfold zpd at hm
 intro w0 L w hC
 obtain ⟨v1, rfl, ⟨rw2, hR3, hW4⟩⟩ := h0
 refine enter Try.func40 rfl Try.ntmps40 (by simp) hC fun a hs => ?_
 have hle := Fz.le.refl f
 refine Wq fun hK1 => sbox hs rfl fun b6 _ _ hs => sA (v := (.slice none 0 0)) hs rfl fun hs => za0 <| hK1 <| Wq fun hK2 => sA (v := (.slice none 0 0)) hs rfl fun hs => za0 ?_
 refine hK2 <| Ws fun hK3 => Ws fun hK4 => ?_
 refine zai (fun a w => St 35 w0 f (.blk b6 (.cells #[v1] 24 (0, 0)) :: L) [(1, .int .i64 (p1)), (2, .pointer (some ⟨b6, 0, none⟩)), (5, (.slice none 0 0)), (15, .bool (((decide (p1 < 0)) || (decide ((p0.Nodes.length : Int) ≤ p1)))))] a w) ?_ ?_
 ·clear hs; intro a w hs
  refine hK4 ?_
  refine zaf hs rfl (fun hg10 => ?_) (fun hg10 => ?_)
  ·replace hm := oc_t hg10 hm
   refine Wq fun hK5 => sA (v := (.slice none 0 0)) hs rfl fun hs => za0 <| hK5 <| zau ?_
   obtain rfl := Option.some.inj hm
   refine RtV1 hs rfl (rv_t hs rfl) ?_
   exact ⟨_, f, [], rfl, hle, (hs.subL (.cons _ (.refl _))).cw, (.slice none 0 0), rfl, rfl, RS.nil⟩
  replace hm := oc_f hg10 hm
  refine zah <| hK3 <| Ws fun hK6 => Wq fun hK7 => s1 (v := .pointer (some ⟨b6, 0, none⟩)) hs (za1 rfl (FO.of (off := 0) Try.underlying24 rfl rfl ti22 (by decide))) fun hs => s1 (v := v1) hs (y_ld rfl Try.underlying22 rfl (Cell.blk (.head _) rfl)) fun hs => sM (v := .int .i64 (p1)) hs rfl fun hs => ?_
  obtain ⟨x12, hx13, hm⟩ := ob hm
  obtain ⟨r14, hr15, hq16, hi17, hb18⟩ := hW4.geti hx13
  obtain ⟨v19, rfl, ⟨rw20, hR21, hW22⟩⟩ := hq16
  refine s1 hs (za8 hR3 rfl rfl hi17 hb18 Try.underlying22 ti36) fun hs => s1 (v := eaddr v1 9 p1.toNat 5) hs (zal (i := p1.toNat) (j := 0) hR3 rfl hb18 (FO.of (off := 5) Try.underlying36 rfl rfl ti3 (by decide))) fun hs => s1 (v := .int .i64 (x12.First)) hs (zaw (i := p1.toNat) (j := 5) hR3.up rfl hr15 rfl Try.underlying3 rfl) fun hs => sA (v := .int .i64 (x12.First)) hs rfl fun hs => za0 <| hK7 ?_
  refine zai (fun a w => ∃ (y25 : (List Int)) (v26 : Value) (rw27 : List (List Value)), zlr y25 = some res ∧ RW (tInt .i64) f rw27 y25 ∧ St 35 w0 f (.row v26 3 1 rw27 :: L) [(5, v26)] a w) ?_ ?_
  ·clear hs hm
   rintro a w ⟨y25, v26, rw27, hm, hW28, hs⟩
   unfold zlr at hm
   refine hK6 <| Wq fun hK8 => sM (v := v26) hs rfl fun hs => sA (v := v26) hs rfl fun hs => za0 <| hK8 <| zau ?_
   obtain ⟨f30, hf31, hs2, hR32⟩ := hs.frzAt 0 rfl
   clear hs; have hs := hs2; clear hs2
   replace hW28 := hW28.le hf31
   replace hle := hle.trans hf31
   obtain rfl := Option.some.inj hm
   refine RtV1 hs rfl (rv_t hs rfl) ?_
   exact ⟨_, f30, [], rfl, hle, hs.cw, v26, rfl, rfl, ⟨rw27, hR32, hW28⟩⟩
  refine zam fun Qe9 hB9 hO9 => ?_
  replace hs := hs.nilRow 3 1
  have hW40 : RW (tInt .i64) f [] ([] : List Int) := trivial
  generalize hgrw41 : ([] : List (List Value)) = rw41 at hs hW40; clear hgrw41
  refine zcw (fun (k : Nat) a w => ∃ (y34 : (List Int)) (y39 : Int) (v35 : Value) (rw36 : List (List Value)), zj2 p0 k y34 y39 = some res ∧ RW (tInt .i64) f rw36 y34 ∧ St 35 w0 f (.row v35 3 1 rw36 :: .blk b6 (.cells #[v1] 24 (0, 0)) :: L) [(2, .pointer (some ⟨b6, 0, none⟩)), (5, v35), (6, .int .i64 (y39))] a w) (fun k => k) n ⟨([] : List Int), x12.First, (.slice none 0 0), rw41, hm, hW40, hs.sub ⟨rfl, rfl, rfl, trivial⟩⟩ ?_
  clear hs hm
  intro k
  rintro a w ⟨y34, y39, v35, rw36, hm, hW37, hs⟩
  intro K10 hK10
  cases k with
  | zero => simp [zj2] at hm
  | succ k44 =>
   rw [zj2] at hm
   refine Ws fun hK11 => Wq fun hK12 => sM (v := .int .i64 (y39)) hs rfl fun hs => s1 hs (zmc rfl rfl) fun hs => za0 <| hK12 ?_
   refine zaf hs rfl (fun hg45 => ?_) (fun hg45 => ?_)
   ·replace hm := oc_t hg45 hm
    refine zah <| hK11 <| Ws fun hK13 => zam fun Qe14 hB14 hO14 => za7 <| sM (v := v35) hs rfl fun hs => sM (v := .int .i64 (y39)) hs rfl fun hs => zfz hs rfl Try.underlying46 ti3 rfl rfl fun v46 _ _ hs => ?_
    have hW47 : RW (tInt .i64) f [[.int .i64 (y39)]] [y39] := RW.single (rfl)
    generalize hgrw48 : ([[.int .i64 (y39)]] : List (List Value)) = rw48 at hs hW47; clear hgrw48
    obtain ⟨x51, hx52, hm⟩ := ob hm
    obtain ⟨hbx51, hex51⟩ := zcj hx52
    have hW55 := hW37.append hW47; rw [hex51] at hW55
    refine zcs (i := 1) hs rfl rfl rfl (Rd.st hs (.head _)) Try.underlying46 ti3 (by decide) (by rw [RW.len hW37, RW.len hW47]; exact hbx51) (.free rfl) (by decide) fun v53 _ _ hs => ?_
    generalize hgx51 : rw36 ++ rw48 = rw54 at hs hW55; clear hgx51
    replace hs := hs.erase 0
    refine sA (v := v53) hs rfl fun hs => za0 <| hK13 <| za7 <| s1 (v := .pointer (some ⟨b6, 0, none⟩)) hs (za1 rfl (FO.of (off := 0) Try.underlying24 rfl rfl ti22 (by decide))) fun hs => s1 (v := v1) hs (y_ld rfl Try.underlying22 rfl (Cell.blk (.tail _ (.head _)) rfl)) fun hs => sM (v := .int .i64 (y39)) hs rfl fun hs => ?_
    obtain ⟨x57, hx58, hm⟩ := ob hm
    obtain ⟨r59, hr60, hq61, hi62, hb63⟩ := hW4.geti hx58
    obtain ⟨v64, rfl, ⟨rw65, hR66, hW67⟩⟩ := hq61
    refine s1 hs (za8 hR3 rfl rfl hi62 hb63 Try.underlying22 ti36) fun hs => s1 (v := eaddr v1 9 y39.toNat 8) hs (zal (i := y39.toNat) (j := 0) hR3 rfl hb63 (FO.of (off := 8) Try.underlying36 rfl rfl ti3 (by decide))) fun hs => s1 (v := .int .i64 (x57.Next)) hs (zaw (i := y39.toNat) (j := 8) hR3.up rfl hr60 rfl Try.underlying3 rfl) fun hs => sA (v := .int .i64 (x57.Next)) hs rfl fun hs => za0 ?_
    exact hK10 k44 _ _ (Nat.lt_succ_self _) ⟨x51, x57.Next, v53, rw54, hm, hW55, hs.sub ⟨rfl, rfl, rfl, trivial⟩⟩
   replace hm := oc_f hg45 hm
   refine zc9 <| hB9 _ _ ?_
   exact ⟨y34, v35, rw36, hm, hW37, hs.subs ⟨rfl, trivial⟩ (.cons_cons _ (.cons _ (.refl _)))⟩
 refine za7 <| sM (v := .int .i64 (p1)) hs rfl fun hs => s1 hs (zg7 rfl rfl) fun hs => sM (v := .bool (decide (p1 < 0))) hs rfl fun hs => ?_
 refine St.split hs (t := 9) rfl (fun hg69 hs => ?_) (fun hg69 hs => ?_)
 ·refine s3 hs fun hs => s3 hs fun hs => s3 hs fun hs => s3 hs fun hs => s3 hs fun hs => sP (v := .bool (true)) hs rfl rfl fun hs => za0 ?_
  exact hs.sub ⟨rfl, rfl, rfl, (lkB (((or_t hg69).trans rfl)) rfl), trivial⟩
 refine s2 (v := .int .i64 (p1)) hs (zaa rfl) fun hs => s2 (v := .pointer (some ⟨b6, 0, none⟩)) hs (za1 rfl (FO.of (off := 0) Try.underlying24 rfl rfl ti22 (by decide))) fun hs => s2 (v := v1) hs (y_ld rfl Try.underlying22 rfl (Cell.blk (.head _) rfl)) fun hs => s2 hs (zb7 hR3 hW4 rfl Try.underlying22) fun hs => s2 hs (zmc rfl rfl) fun hs => sP (v := .bool (decide ((p0.Nodes.length : Int) ≤ p1))) hs rfl rfl fun hs => za0 ?_
 exact hs.sub ⟨rfl, rfl, rfl, (lkB (((or_f hg69).trans rfl)) rfl), trivial⟩
end Go.Proofs.Ytklcdfnhdljkjaa
