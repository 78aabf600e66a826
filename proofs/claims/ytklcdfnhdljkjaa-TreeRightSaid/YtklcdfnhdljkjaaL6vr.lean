/-
  Walks and laws of this seat.
-/
import Derived.Test.YtklcdfnhdljkjaaBasg
import Derived.Test.YtklcdfnhdljkjaaL6k
import Derived.Test.YtklcdfnhdljkjaaL6h
import Derived.Test.YtklcdfnhdljkjaaRows
namespace Go.Proofs.Ytklcdfnhdljkjaa
set_option linter.unusedVariables false
set_option linter.unusedSimpArgs false
set_option maxHeartbeats 4000000
set_option maxRecDepth 100000
open Go.RowKit Go.Sl
def zf3 (y29 : Bool) : Option Bool :=
  some y29
def zf2 (n : Nat) : Option Bool :=
  (zfj n).bind fun x39 =>
  some x39
def zb9 (y41 : Int) (lp42 : Int → Option Bool) (y59 : Bool) : Option Bool :=
  (bif y59 then some false else
  lp42 (w64 (y41 + 1)))
def zax (n : Nat) (x14 : (zae × Int)) : Nat → Int → Option Bool
  | 0, _ => none
  | k42 + 1, y41 =>
  (bif (decide (y41 < (x14.1.Nodes.length : Int))) then (geti x14.1.Nodes y41).bind fun x44 =>
  (bif (decide (x44.Kind = 2)) then (bif (decide (0 ≤ x44.Next)) then (geti x14.1.Nodes x44.Next).bind fun x63 =>
  (bif (decide (x63.Kind = 2)) then zb9 y41 (zax n x14 k42) true else
  (bif (decide (x44.Kind = 1)) then (zh2 n x44.Name).bind fun x77 =>
  (bif x77 then zb9 y41 (zax n x14 k42) (decide (0 ≤ x44.First)) else
  zb9 y41 (zax n x14 k42) false) else
  zb9 y41 (zax n x14 k42) false)) else
  (bif (decide (x44.Kind = 1)) then (zh2 n x44.Name).bind fun x81 =>
  (bif x81 then zb9 y41 (zax n x14 k42) (decide (0 ≤ x44.First)) else
  zb9 y41 (zax n x14 k42) false) else
  zb9 y41 (zax n x14 k42) false)) else
  (bif (decide (x44.Kind = 1)) then (zh2 n x44.Name).bind fun x85 =>
  (bif x85 then zb9 y41 (zax n x14 k42) (decide (0 ≤ x44.First)) else
  zb9 y41 (zax n x14 k42) false) else
  zb9 y41 (zax n x14 k42) false)) else
  zf2 n)
def zed (n : Nat) (x14 : (zae × Int)) (y37 : Bool) : Option Bool :=
  (bif y37 then some false else
  zax n x14 n 1)
def zhu (n : Nat) (p0 : (List Int)) : Option Bool :=
  (zgf n p0 2000).bind fun x5 =>
  (zbp n x5).bind fun x14 =>
  (bif (decide (x14.2 ≠ 0)) then (bif (decide ((x14.1.Nodes.length : Int) = 0)) then (bif (decide (x14.2 = 4)) then (zfj n).bind fun x32 =>
  zf3 x32 else
  (bif (decide (x14.2 = 5)) then (zfj n).bind fun x35 =>
  zf3 x35 else
  zf3 false)) else
  zf3 false) else
  (bif (decide ((x14.1.Nodes.length : Int) = 0)) then zed n x14 true else
  (zjy n x14.1).bind fun x89 =>
  (bif (decide (x89 ≠ 0)) then zed n x14 true else
  (geti x14.1.Nodes 0).bind fun x92 =>
  (bif (decide (x92.Name ≠ (bs [114, 111, 111, 116]))) then zed n x14 true else
  (geti x14.1.Nodes 0).bind fun x105 =>
  zed n x14 (decide (0 < (x105.Attrs.length : Int)))))))
theorem zo4 (n : Nat) {f : Fz} {p0 : (List Int)} {a0 : Value} {res : Bool} (h0 : RS (tInt .i32) f a0 p0) (hm : zhu n p0 = some res) : Gives Try.prog 4 [a0] f (.bool res) := by
 unfold zhu at hm
 intro w0 L w hC
 obtain ⟨rw1, hR2, hW3⟩ := h0
 refine enter Try.func4 rfl Try.ntmps4 (by simp) hC fun a hs => ?_
 have hle := Fz.le.refl f
 refine Wq fun hK1 => sA (v := .bool (false)) hs rfl fun hs => za0 <| hK1 <| Wq fun hK2 => sM (v := a0) hs rfl fun hs => ?_
 obtain ⟨x5, hx6, hm⟩ := ob hm
 refine zen hs rfl has11 rfl (zjb n (f := f) (a0 := a0) ⟨rw1, hR2, hW3⟩ hx6) ?_; clear hs; (try clear a w)
 rintro v9 f7 _ a w hf8 ⟨_, rfl, rfl, ⟨rw10, hR11, hW12⟩⟩ hs
 replace hR2 := hR2.le hf8
 replace hW3 := hW3.le hf8
 replace hle := hle.trans hf8
 refine sA (v := v9) hs rfl fun hs => za0 <| hK2 <| Wq fun hK3 => sM (v := v9) hs rfl fun hs => ?_
 obtain ⟨x14, hx15, hm⟩ := ob hm
 refine zen hs rfl has7 rfl (zet n (f := f7) (a0 := v9) ⟨rw10, hR11, hW12⟩ hx15) ?_; clear hs; (try clear a w)
 rintro _ f16 _ a w hf17 ⟨r18, rfl, rfl, hq19⟩ hs
 replace hR2 := hR2.le hf17
 replace hW3 := hW3.le hf17
 replace hR11 := hR11.le hf17
 replace hW12 := hW12.le hf17
 replace hle := hle.trans hf17
 obtain ⟨v20, rfl, ⟨rw21, hR22, hW23⟩⟩ := hq19
 refine sM (v := .tuple #[.agg #[v20], .int .i64 (x14.2)]) hs rfl fun hs => s1 (v := .agg #[v20]) hs (zar rfl rfl) fun hs => s1 (v := .int .i64 (x14.2)) hs (zar rfl rfl) fun hs => zbt hs ti24 (.free rfl) (by decide) fun b25 _ _ hs => zat (i := 0) hs rfl rfl rfl ti24 ⟨rfl, rfl⟩ (AllC.arr (r := [v20]) ⟨hR22.one, trivial⟩) (.free rfl) fun _ _ hs => sA (v := .int .i64 (x14.2)) hs rfl fun hs => za0 <| hK3 <| Ws fun hK4 => Ws fun hK5 => ?_
 refine za7 <| sM (v := .int .i64 (x14.2)) hs rfl fun hs => s1 hs (zez rfl rfl) fun hs => za0 <| hK5 ?_
 refine zaf hs rfl (fun hg28 => ?_) (fun hg28 => ?_)
 ·replace hm := oc_t hg28 hm
  refine Ws fun hK6 => ?_
  refine zai (fun a w => ∃ (y29 : Bool), zf3 y29 = some res ∧ St 103 w0 f16 (L) [(2, .bool (y29))] a w) ?_ ?_
  ·clear hs hm
   rintro a w ⟨y29, hm, hs⟩
   unfold zf3 at hm
   refine hK6 <| zau ?_
   obtain rfl := Option.some.inj hm
   refine RtV1 hs rfl (rv_t hs rfl) ?_
   exact ⟨rfl, (hs.weak hle).cw⟩
  refine za7 <| s1 (v := .pointer (some ⟨b25, 0, none⟩)) hs (za1 rfl (FO.of (off := 0) Try.underlying24 rfl rfl ti22 (by decide))) fun hs => s1 (v := v20) hs (y_ld rfl Try.underlying22 rfl (Cell.blk (.head _) rfl)) fun hs => s1 hs (zb7 hR22 hW23 rfl Try.underlying22) fun hs => s1 hs (zd3 rfl rfl) fun hs => sM (v := .bool (decide ((x14.1.Nodes.length : Int) = 0))) hs rfl fun hs => ?_
  refine St.split hs (t := 20) rfl (fun hg30 hs => ?_) (fun hg30 hs => ?_)
  ·replace hm := oc_t hg30 hm
   refine s2 (v := .int .i64 (x14.2)) hs (zaa rfl) fun hs => s2 hs (zd3 rfl rfl) fun hs => s2 (v := .bool (decide (x14.2 = 4))) hs (zaa rfl) fun hs => ?_
   refine St.split hs (t := 23) rfl (fun hg31 hs => ?_) (fun hg31 hs => ?_)
   ·replace hm := oc_t hg31 hm
    refine s3 hs fun hs => s3 hs fun hs => s2 (v := .bool (true)) hs (zb4 rfl rfl) fun hs => sP (v := .bool (true)) hs rfl rfl fun hs => sM (v := .bool (true)) hs rfl fun hs => ?_
    obtain ⟨x32, hx33, hm⟩ := ob hm
    refine s2 hs (zbd rfl has10 rfl (zfu n (f := f16)  hx33)) fun hs => sP (v := .bool (x32)) hs rfl rfl fun hs => sA (v := .bool (x32)) hs rfl fun hs => za0 ?_
    exact ⟨x32, hm, hs.subs ⟨rfl, trivial⟩ (.cons _ (.refl _))⟩
   replace hm := oc_f hg31 hm
   refine s2 (v := .int .i64 (x14.2)) hs (zaa rfl) fun hs => s2 hs (zd3 rfl rfl) fun hs => s2 (v := .bool (decide (x14.2 = 5))) hs (zb4 rfl rfl) fun hs => sP (v := .bool (decide (x14.2 = 5))) hs rfl rfl fun hs => sM (v := .bool (decide (x14.2 = 5))) hs rfl fun hs => ?_
   refine St.split hs (t := 28) rfl (fun hg34 hs => ?_) (fun hg34 hs => ?_)
   ·replace hm := oc_t hg34 hm
    obtain ⟨x35, hx36, hm⟩ := ob hm
    refine s2 hs (zbd rfl has10 rfl (zfu n (f := f16)  hx36)) fun hs => sP (v := .bool (x35)) hs rfl rfl fun hs => sA (v := .bool (x35)) hs rfl fun hs => za0 ?_
    exact ⟨x35, hm, hs.subs ⟨rfl, trivial⟩ (.cons _ (.refl _))⟩
   replace hm := oc_f hg34 hm
   refine s3 hs fun hs => sP (v := .bool (false)) hs rfl rfl fun hs => sA (v := .bool (false)) hs rfl fun hs => za0 ?_
   exact ⟨false, hm, hs.subs ⟨rfl, trivial⟩ (.cons _ (.refl _))⟩
  replace hm := oc_f hg30 hm
  refine s3 hs fun hs => s3 hs fun hs => s3 hs fun hs => s4 hs fun hs => s4 hs fun hs => s3 hs fun hs => sP (v := .bool (false)) hs rfl rfl fun hs => sM (v := .bool (false)) hs rfl fun hs => s3 hs fun hs => sP (v := .bool (false)) hs rfl rfl fun hs => ?_
  refine sA (v := .bool (false)) hs rfl fun hs => za0 ?_
  exact ⟨false, hm, hs.subs ⟨rfl, trivial⟩ (.cons _ (.refl _))⟩
 replace hm := oc_f hg28 hm
 refine zah <| hK4 <| Ws fun hK7 => Ws fun hK8 => ?_
 refine zai (fun a w => ∃ (y37 : Bool), zed n x14 y37 = some res ∧ St 103 w0 f16 (.blk b25 (.cells #[v20] 24 (0, 0)) :: L) [(3, .pointer (some ⟨b25, 0, none⟩)), (56, .bool (y37))] a w) ?_ ?_
 ·clear hs hm
  rintro a w ⟨y37, hm, hs⟩
  unfold zed at hm
  refine hK8 ?_
  refine zaf hs rfl (fun hg38 => ?_) (fun hg38 => ?_)
  ·replace hm := oc_t hg38 hm
   refine Wq fun hK9 => sA (v := .bool (false)) hs rfl fun hs => za0 <| hK9 <| zau ?_
   obtain rfl := Option.some.inj hm
   refine RtV1 hs rfl (rv_t hs rfl) ?_
   exact ⟨rfl, ((hs.subL (.cons _ (.refl _))).weak hle).cw⟩
  replace hm := oc_f hg38 hm
  refine zah <| hK7 <| Ws fun hK10 => Wq fun hK11 => sA (v := .int .i64 (1)) hs rfl fun hs => za0 <| hK11 ?_
  refine zai (fun a w => zf2 n = some res ∧ St 103 w0 f16 (L) [] a w) ?_ ?_
  ·clear hs hm
   rintro a w ⟨hm, hs⟩
   unfold zf2 at hm
   refine hK10 <| Ws fun hK12 => za7 ?_
   obtain ⟨x39, hx40, hm⟩ := ob hm
   refine s1 hs (zbd rfl has10 rfl (zfu n (f := f16)  hx40)) fun hs => sA (v := .bool (x39)) hs rfl fun hs => za0 <| hK12 <| zau ?_
   obtain rfl := Option.some.inj hm
   refine RtV1 hs rfl (rv_t hs rfl) ?_
   exact ⟨rfl, (hs.weak hle).cw⟩
  refine zam fun Qe13 hB13 hO13 => zcw (fun (k : Nat) a w => ∃ (y41 : Int), zax n x14 k y41 = some res ∧ St 103 w0 f16 (.blk b25 (.cells #[v20] 24 (0, 0)) :: L) [(3, .pointer (some ⟨b25, 0, none⟩)), (5, .int .i64 (y41))] a w) (fun k => k) n ⟨1, hm, hs.sub ⟨rfl, rfl, trivial⟩⟩ ?_
  clear hs hm
  intro k
  rintro a w ⟨y41, hm, hs⟩
  intro K14 hK14
  cases k with
  | zero => simp [zax] at hm
  | succ k42 =>
   rw [zax] at hm
   refine Ws fun hK15 => Wq fun hK16 => sM (v := .int .i64 (y41)) hs rfl fun hs => s1 (v := .pointer (some ⟨b25, 0, none⟩)) hs (za1 rfl (FO.of (off := 0) Try.underlying24 rfl rfl ti22 (by decide))) fun hs => s1 (v := v20) hs (y_ld rfl Try.underlying22 rfl (Cell.blk (.head _) rfl)) fun hs => s1 hs (zb7 hR22 hW23 rfl Try.underlying22) fun hs => s1 hs (zg7 rfl rfl) fun hs => za0 <| hK16 ?_
   refine zaf hs rfl (fun hg43 => ?_) (fun hg43 => ?_)
   ·replace hm := oc_t hg43 hm
    refine zah <| hK15 <| Ws fun hK17 => zam fun Qe18 hB18 hO18 => Wq fun hK19 => s1 (v := .pointer (some ⟨b25, 0, none⟩)) hs (za1 rfl (FO.of (off := 0) Try.underlying24 rfl rfl ti22 (by decide))) fun hs => s1 (v := v20) hs (y_ld rfl Try.underlying22 rfl (Cell.blk (.head _) rfl)) fun hs => sM (v := .int .i64 (y41)) hs rfl fun hs => ?_
    obtain ⟨x44, hx45, hm⟩ := ob hm
    obtain ⟨r46, hr47, hq48, hi49, hb50⟩ := hW23.geti hx45
    obtain ⟨v51, rfl, ⟨rw52, hR53, hW54⟩⟩ := hq48
    refine s1 hs (za8 hR22 rfl rfl hi49 hb50 Try.underlying22 ti36) fun hs => s1 hs (zfm hR22.up rfl hr47 Try.underlying36 rfl ti36) fun hs => zbt hs ti36 (.free rfl) (by decide) fun b56 _ _ hs => zat (i := 0) hs rfl rfl rfl ti36 ⟨rfl, rfl⟩ (AllC.arr (r := [.int .i64 (x44.Kind), .string (x44.Name), .string (x44.Text), v51, .int .i64 (x44.Parent), .int .i64 (x44.First), .int .i64 (x44.Last), .int .i64 (x44.Prev), .int .i64 (x44.Next)]) ⟨rfl, rfl, rfl, hR53.one, rfl, rfl, rfl, rfl, rfl, trivial⟩) (.free rfl) fun _ _ hs => za0 <| hK19 <| Ws fun hK20 => ?_
    refine zai (fun a w => ∃ (y59 : Bool), zb9 y41 (zax n x14 k42) y59 = some res ∧ St 103 w0 f16 (.blk b25 (.cells #[v20] 24 (0, 0)) :: L) [(3, .pointer (some ⟨b25, 0, none⟩)), (5, .int .i64 (y41)), (101, .bool (y59))] a w) ?_ ?_
    ·clear hs hm
     rintro a w ⟨y59, hm, hs⟩
     unfold zb9 at hm
     refine hK20 ?_
     refine zaf hs rfl (fun hg60 => ?_) (fun hg60 => ?_)
     ·replace hm := oc_t hg60 hm
      refine Wq fun hK21 => sA (v := .bool (false)) hs rfl fun hs => za0 <| hK21 <| zau ?_
      obtain rfl := Option.some.inj hm
      refine RtV1 hs rfl (rv_t hs rfl) ?_
      exact ⟨rfl, ((hs.subL (.cons _ (.refl _))).weak hle).cw⟩
     replace hm := oc_f hg60 hm
     refine zah <| hK17 <| za7 <| sM (v := .int .i64 (y41)) hs rfl fun hs => s1 hs (zeq rfl rfl rfl) fun hs => sA (v := .int .i64 ((w64 (y41 + 1)))) hs rfl fun hs => za0 ?_
     exact hK14 k42 _ _ (Nat.lt_succ_self _) ⟨(w64 (y41 + 1)), hm, hs.sub ⟨rfl, rfl, trivial⟩⟩
    refine za7 <| s1 (v := .pointer (some ⟨b56, 0, none⟩)) hs (za1 rfl (FO.of (off := 0) Try.underlying36 rfl rfl ti3 (by decide))) fun hs => s1 (v := .int .i64 (x44.Kind)) hs (y_ld rfl Try.underlying3 rfl (Cell.blk (.head _) rfl)) fun hs => s1 hs (zd3 rfl rfl) fun hs => sM (v := .bool (decide (x44.Kind = 2))) hs rfl fun hs => ?_
    refine St.split hs (t := 72) rfl (fun hg61 hs => ?_) (fun hg61 hs => ?_)
    ·replace hm := oc_t hg61 hm
     refine s2 (v := .pointer (some ⟨b56, 8, none⟩)) hs (za1 rfl (FO.of (off := 8) Try.underlying36 rfl rfl ti3 (by decide))) fun hs => s2 (v := .int .i64 (x44.Next)) hs (y_ld rfl Try.underlying3 rfl (Cell.blk (.head _) rfl)) fun hs => s2 hs (zmc rfl rfl) fun hs => sP (v := .bool (decide (0 ≤ x44.Next))) hs rfl rfl fun hs => sM (v := .bool (decide (0 ≤ x44.Next))) hs rfl fun hs => ?_
     refine St.split hs (t := 77) rfl (fun hg62 hs => ?_) (fun hg62 hs => ?_)
     ·replace hm := oc_t hg62 hm
      refine s2 (v := .pointer (some ⟨b25, 0, none⟩)) hs (za1 rfl (FO.of (off := 0) Try.underlying24 rfl rfl ti22 (by decide))) fun hs => s2 (v := v20) hs (y_ld rfl Try.underlying22 rfl (Cell.blk (.tail _ (.head _)) rfl)) fun hs => s2 (v := .pointer (some ⟨b56, 8, none⟩)) hs (za1 rfl (FO.of (off := 8) Try.underlying36 rfl rfl ti3 (by decide))) fun hs => s2 (v := .int .i64 (x44.Next)) hs (y_ld rfl Try.underlying3 rfl (Cell.blk (.head _) rfl)) fun hs => ?_
      obtain ⟨x63, hx64, hm⟩ := ob hm
      obtain ⟨r65, hr66, hq67, hi68, hb69⟩ := hW23.geti hx64
      obtain ⟨v70, rfl, ⟨rw71, hR72, hW73⟩⟩ := hq67
      refine s2 hs (za8 hR22 rfl rfl hi68 hb69 Try.underlying22 ti36) fun hs => s2 (v := eaddr v20 9 x44.Next.toNat 0) hs (zal (i := x44.Next.toNat) (j := 0) hR22 rfl hb69 (FO.of (off := 0) Try.underlying36 rfl rfl ti3 (by decide))) fun hs => s2 (v := .int .i64 (x63.Kind)) hs (zaw (i := x44.Next.toNat) (j := 0) hR22.up rfl hr66 rfl Try.underlying3 rfl) fun hs => s2 hs (zd3 rfl rfl) fun hs => sP (v := .bool (decide (x63.Kind = 2))) hs rfl rfl fun hs => sM (v := .bool (decide (x63.Kind = 2))) hs rfl fun hs => ?_
      refine St.split hs (t := 87) rfl (fun hg75 hs => ?_) (fun hg75 hs => ?_)
      ·replace hm := oc_t hg75 hm
       refine s3 hs fun hs => s3 hs fun hs => s3 hs fun hs => s3 hs fun hs => s4 hs fun hs => s4 hs fun hs => s4 hs fun hs => s3 hs fun hs => s3 hs fun hs => s4 hs fun hs => ?_
       refine s4 hs fun hs => s4 hs fun hs => s3 hs fun hs => sP (v := .bool (true)) hs rfl rfl fun hs => za0 ?_
       exact ⟨true, hm, hs.subs ⟨rfl, rfl, rfl, trivial⟩ (.cons _ (.cons_cons _ (.refl _)))⟩
      replace hm := oc_f hg75 hm
      refine s2 (v := .pointer (some ⟨b56, 0, none⟩)) hs (za1 rfl (FO.of (off := 0) Try.underlying36 rfl rfl ti3 (by decide))) fun hs => s2 (v := .int .i64 (x44.Kind)) hs (y_ld rfl Try.underlying3 rfl (Cell.blk (.head _) rfl)) fun hs => s2 hs (zd3 rfl rfl) fun hs => s2 (v := .bool (decide (x44.Kind = 1))) hs (zaa rfl) fun hs => ?_
      refine St.split hs (t := 91) rfl (fun hg76 hs => ?_) (fun hg76 hs => ?_)
      ·replace hm := oc_t hg76 hm
       refine s2 (v := .pointer (some ⟨b56, 1, none⟩)) hs (za1 rfl (FO.of (off := 1) Try.underlying36 rfl rfl ti9 (by decide))) fun hs => s2 (v := .string (x44.Name)) hs (y_ld rfl Try.underlying9 rfl (Cell.blk (.head _) rfl)) fun hs => ?_
       obtain ⟨x77, hx78, hm⟩ := ob hm
       refine s2 hs (zbd rfl has8 rfl (zh1 n (f := f16)  hx78)) fun hs => s2 (v := .bool (x77)) hs (zb4 rfl rfl) fun hs => s2 (v := .bool (x77)) hs (zaa rfl) fun hs => ?_
       refine St.split hs (t := 96) rfl (fun hg79 hs => ?_) (fun hg79 hs => ?_)
       ·replace hm := oc_t hg79 hm
        refine s2 (v := .pointer (some ⟨b56, 5, none⟩)) hs (za1 rfl (FO.of (off := 5) Try.underlying36 rfl rfl ti3 (by decide))) fun hs => s2 (v := .int .i64 (x44.First)) hs (y_ld rfl Try.underlying3 rfl (Cell.blk (.head _) rfl)) fun hs => s2 hs (zmc rfl rfl) fun hs => s2 (v := .bool (decide (0 ≤ x44.First))) hs (zb4 rfl rfl) fun hs => sP (v := .bool (decide (0 ≤ x44.First))) hs rfl rfl fun hs => za0 ?_
        exact ⟨decide (0 ≤ x44.First), hm, hs.subs ⟨rfl, rfl, rfl, trivial⟩ (.cons _ (.cons_cons _ (.refl _)))⟩
       replace hm := oc_f hg79 hm
       refine s3 hs fun hs => s3 hs fun hs => s3 hs fun hs => s2 (v := .bool (false)) hs (zb4 rfl rfl) fun hs => sP (v := .bool (false)) hs rfl rfl fun hs => za0 ?_
       exact ⟨false, hm, hs.subs ⟨rfl, rfl, rfl, trivial⟩ (.cons _ (.cons_cons _ (.refl _)))⟩
      replace hm := oc_f hg76 hm
      refine s3 hs fun hs => s3 hs fun hs => s3 hs fun hs => s2 (v := .bool (false)) hs (zb4 rfl rfl) fun hs => s2 (v := .bool (false)) hs (zaa rfl) fun hs => s3 hs fun hs => s3 hs fun hs => s3 hs fun hs => s2 (v := .bool (false)) hs (zb4 rfl rfl) fun hs => sP (v := .bool (false)) hs rfl rfl fun hs => ?_
      refine za0 ?_
      exact ⟨false, hm, hs.subs ⟨rfl, rfl, rfl, trivial⟩ (.cons _ (.cons_cons _ (.refl _)))⟩
     replace hm := oc_f hg62 hm
     refine s3 hs fun hs => s3 hs fun hs => s3 hs fun hs => s3 hs fun hs => s3 hs fun hs => s3 hs fun hs => s3 hs fun hs => s3 hs fun hs => sP (v := .bool (false)) hs rfl rfl fun hs => sM (v := .bool (false)) hs rfl fun hs => ?_
     refine s2 (v := .pointer (some ⟨b56, 0, none⟩)) hs (za1 rfl (FO.of (off := 0) Try.underlying36 rfl rfl ti3 (by decide))) fun hs => s2 (v := .int .i64 (x44.Kind)) hs (y_ld rfl Try.underlying3 rfl (Cell.blk (.head _) rfl)) fun hs => s2 hs (zd3 rfl rfl) fun hs => s2 (v := .bool (decide (x44.Kind = 1))) hs (zaa rfl) fun hs => ?_
     refine St.split hs (t := 91) rfl (fun hg80 hs => ?_) (fun hg80 hs => ?_)
     ·replace hm := oc_t hg80 hm
      refine s2 (v := .pointer (some ⟨b56, 1, none⟩)) hs (za1 rfl (FO.of (off := 1) Try.underlying36 rfl rfl ti9 (by decide))) fun hs => s2 (v := .string (x44.Name)) hs (y_ld rfl Try.underlying9 rfl (Cell.blk (.head _) rfl)) fun hs => ?_
      obtain ⟨x81, hx82, hm⟩ := ob hm
      refine s2 hs (zbd rfl has8 rfl (zh1 n (f := f16)  hx82)) fun hs => s2 (v := .bool (x81)) hs (zb4 rfl rfl) fun hs => s2 (v := .bool (x81)) hs (zaa rfl) fun hs => ?_
      refine St.split hs (t := 96) rfl (fun hg83 hs => ?_) (fun hg83 hs => ?_)
      ·replace hm := oc_t hg83 hm
       refine s2 (v := .pointer (some ⟨b56, 5, none⟩)) hs (za1 rfl (FO.of (off := 5) Try.underlying36 rfl rfl ti3 (by decide))) fun hs => s2 (v := .int .i64 (x44.First)) hs (y_ld rfl Try.underlying3 rfl (Cell.blk (.head _) rfl)) fun hs => s2 hs (zmc rfl rfl) fun hs => s2 (v := .bool (decide (0 ≤ x44.First))) hs (zb4 rfl rfl) fun hs => sP (v := .bool (decide (0 ≤ x44.First))) hs rfl rfl fun hs => za0 ?_
       exact ⟨decide (0 ≤ x44.First), hm, hs.subs ⟨rfl, rfl, rfl, trivial⟩ (.cons _ (.cons_cons _ (.refl _)))⟩
      replace hm := oc_f hg83 hm
      refine s3 hs fun hs => s3 hs fun hs => s3 hs fun hs => s2 (v := .bool (false)) hs (zb4 rfl rfl) fun hs => sP (v := .bool (false)) hs rfl rfl fun hs => za0 ?_
      exact ⟨false, hm, hs.subs ⟨rfl, rfl, rfl, trivial⟩ (.cons _ (.cons_cons _ (.refl _)))⟩
     replace hm := oc_f hg80 hm
     refine s3 hs fun hs => s3 hs fun hs => s3 hs fun hs => s2 (v := .bool (false)) hs (zb4 rfl rfl) fun hs => s2 (v := .bool (false)) hs (zaa rfl) fun hs => s3 hs fun hs => s3 hs fun hs => s3 hs fun hs => s2 (v := .bool (false)) hs (zb4 rfl rfl) fun hs => sP (v := .bool (false)) hs rfl rfl fun hs => ?_
     refine za0 ?_
     exact ⟨false, hm, hs.subs ⟨rfl, rfl, rfl, trivial⟩ (.cons _ (.cons_cons _ (.refl _)))⟩
    replace hm := oc_f hg61 hm
    refine s3 hs fun hs => s3 hs fun hs => s3 hs fun hs => sP (v := .bool (false)) hs rfl rfl fun hs => sM (v := .bool (false)) hs rfl fun hs => s3 hs fun hs => s3 hs fun hs => s3 hs fun hs => s3 hs fun hs => s3 hs fun hs => ?_
    refine s3 hs fun hs => s3 hs fun hs => s3 hs fun hs => sP (v := .bool (false)) hs rfl rfl fun hs => sM (v := .bool (false)) hs rfl fun hs => s2 (v := .pointer (some ⟨b56, 0, none⟩)) hs (za1 rfl (FO.of (off := 0) Try.underlying36 rfl rfl ti3 (by decide))) fun hs => s2 (v := .int .i64 (x44.Kind)) hs (y_ld rfl Try.underlying3 rfl (Cell.blk (.head _) rfl)) fun hs => s2 hs (zd3 rfl rfl) fun hs => s2 (v := .bool (decide (x44.Kind = 1))) hs (zaa rfl) fun hs => ?_
    refine St.split hs (t := 91) rfl (fun hg84 hs => ?_) (fun hg84 hs => ?_)
    ·replace hm := oc_t hg84 hm
     refine s2 (v := .pointer (some ⟨b56, 1, none⟩)) hs (za1 rfl (FO.of (off := 1) Try.underlying36 rfl rfl ti9 (by decide))) fun hs => s2 (v := .string (x44.Name)) hs (y_ld rfl Try.underlying9 rfl (Cell.blk (.head _) rfl)) fun hs => ?_
     obtain ⟨x85, hx86, hm⟩ := ob hm
     refine s2 hs (zbd rfl has8 rfl (zh1 n (f := f16)  hx86)) fun hs => s2 (v := .bool (x85)) hs (zb4 rfl rfl) fun hs => s2 (v := .bool (x85)) hs (zaa rfl) fun hs => ?_
     refine St.split hs (t := 96) rfl (fun hg87 hs => ?_) (fun hg87 hs => ?_)
     ·replace hm := oc_t hg87 hm
      refine s2 (v := .pointer (some ⟨b56, 5, none⟩)) hs (za1 rfl (FO.of (off := 5) Try.underlying36 rfl rfl ti3 (by decide))) fun hs => s2 (v := .int .i64 (x44.First)) hs (y_ld rfl Try.underlying3 rfl (Cell.blk (.head _) rfl)) fun hs => s2 hs (zmc rfl rfl) fun hs => s2 (v := .bool (decide (0 ≤ x44.First))) hs (zb4 rfl rfl) fun hs => sP (v := .bool (decide (0 ≤ x44.First))) hs rfl rfl fun hs => za0 ?_
      exact ⟨decide (0 ≤ x44.First), hm, hs.subs ⟨rfl, rfl, rfl, trivial⟩ (.cons _ (.cons_cons _ (.refl _)))⟩
     replace hm := oc_f hg87 hm
     refine s3 hs fun hs => s3 hs fun hs => s3 hs fun hs => s2 (v := .bool (false)) hs (zb4 rfl rfl) fun hs => sP (v := .bool (false)) hs rfl rfl fun hs => za0 ?_
     exact ⟨false, hm, hs.subs ⟨rfl, rfl, rfl, trivial⟩ (.cons _ (.cons_cons _ (.refl _)))⟩
    replace hm := oc_f hg84 hm
    refine s3 hs fun hs => s3 hs fun hs => s3 hs fun hs => s2 (v := .bool (false)) hs (zb4 rfl rfl) fun hs => s2 (v := .bool (false)) hs (zaa rfl) fun hs => s3 hs fun hs => s3 hs fun hs => s3 hs fun hs => s2 (v := .bool (false)) hs (zb4 rfl rfl) fun hs => sP (v := .bool (false)) hs rfl rfl fun hs => ?_
    refine za0 ?_
    exact ⟨false, hm, hs.subs ⟨rfl, rfl, rfl, trivial⟩ (.cons _ (.cons_cons _ (.refl _)))⟩
   replace hm := oc_f hg43 hm
   refine zc9 <| hB13 _ _ ?_
   exact ⟨hm, hs.subs trivial (.cons _ (.refl _))⟩
 refine za7 <| s1 (v := .pointer (some ⟨b25, 0, none⟩)) hs (za1 rfl (FO.of (off := 0) Try.underlying24 rfl rfl ti22 (by decide))) fun hs => s1 (v := v20) hs (y_ld rfl Try.underlying22 rfl (Cell.blk (.head _) rfl)) fun hs => s1 hs (zb7 hR22 hW23 rfl Try.underlying22) fun hs => s1 hs (zd3 rfl rfl) fun hs => sM (v := .bool (decide ((x14.1.Nodes.length : Int) = 0))) hs rfl fun hs => ?_
 refine St.split hs (t := 35) rfl (fun hg88 hs => ?_) (fun hg88 hs => ?_)
 ·replace hm := oc_t hg88 hm
  refine s3 hs fun hs => s3 hs fun hs => s3 hs fun hs => sP (v := .bool (true)) hs rfl rfl fun hs => sM (v := .bool (true)) hs rfl fun hs => s3 hs fun hs => s3 hs fun hs => s3 hs fun hs => s3 hs fun hs => s3 hs fun hs => ?_
  refine s3 hs fun hs => sP (v := .bool (true)) hs rfl rfl fun hs => sM (v := .bool (true)) hs rfl fun hs => s3 hs fun hs => s3 hs fun hs => s3 hs fun hs => s3 hs fun hs => s3 hs fun hs => s3 hs fun hs => s3 hs fun hs => ?_
  refine sP (v := .bool (true)) hs rfl rfl fun hs => za0 ?_
  exact ⟨true, hm, hs.sub ⟨rfl, rfl, trivial⟩⟩
 replace hm := oc_f hg88 hm
 refine s2 hs (zk8 rfl Try.underlying24 rfl ti24 (.head _) rfl) fun hs => ?_
 obtain ⟨x89, hx90, hm⟩ := ob hm
 refine s2 hs (zbd rfl has12 rfl (zom n (f := f16) (a0 := [v20]) ⟨_, rfl, ⟨rw21, hR22, hW23⟩⟩ hx90)) fun hs => s2 hs (zez rfl rfl) fun hs => sP (v := .bool (decide (x89 ≠ 0))) hs rfl rfl fun hs => sM (v := .bool (decide (x89 ≠ 0))) hs rfl fun hs => ?_
 refine St.split hs (t := 40) rfl (fun hg91 hs => ?_) (fun hg91 hs => ?_)
 ·replace hm := oc_t hg91 hm
  refine s3 hs fun hs => s3 hs fun hs => s3 hs fun hs => s3 hs fun hs => s3 hs fun hs => s3 hs fun hs => sP (v := .bool (true)) hs rfl rfl fun hs => sM (v := .bool (true)) hs rfl fun hs => s3 hs fun hs => s3 hs fun hs => ?_
  refine s3 hs fun hs => s3 hs fun hs => s3 hs fun hs => s3 hs fun hs => s3 hs fun hs => sP (v := .bool (true)) hs rfl rfl fun hs => za0 ?_
  exact ⟨true, hm, hs.sub ⟨rfl, rfl, trivial⟩⟩
 replace hm := oc_f hg91 hm
 refine s2 (v := .pointer (some ⟨b25, 0, none⟩)) hs (za1 rfl (FO.of (off := 0) Try.underlying24 rfl rfl ti22 (by decide))) fun hs => s2 (v := v20) hs (y_ld rfl Try.underlying22 rfl (Cell.blk (.head _) rfl)) fun hs => ?_
 obtain ⟨x92, hx93, hm⟩ := ob hm
 obtain ⟨r94, hr95, hq96, hi97, hb98⟩ := hW23.geti hx93
 obtain ⟨v99, rfl, ⟨rw100, hR101, hW102⟩⟩ := hq96
 refine s2 hs (za8 hR22 rfl rfl hi97 hb98 Try.underlying22 ti36) fun hs => s2 (v := eaddr v20 9 ((0 : Int).toNat) 1) hs (zal (i := (0 : Int).toNat) (j := 0) hR22 rfl hb98 (FO.of (off := 1) Try.underlying36 rfl rfl ti9 (by decide))) fun hs => s2 (v := .string (x92.Name)) hs (zaw (i := (0 : Int).toNat) (j := 1) hR22.up rfl hr95 rfl Try.underlying9 rfl) fun hs => s2 hs (zlm rfl rfl) fun hs => sP (v := .bool (decide (x92.Name ≠ (bs [114, 111, 111, 116])))) hs rfl rfl fun hs => sM (v := .bool (decide (x92.Name ≠ (bs [114, 111, 111, 116])))) hs rfl fun hs => ?_
 refine St.split hs (t := 48) rfl (fun hg104 hs => ?_) (fun hg104 hs => ?_)
 ·replace hm := oc_t hg104 hm
  refine s3 hs fun hs => s3 hs fun hs => s3 hs fun hs => s3 hs fun hs => s3 hs fun hs => s3 hs fun hs => s3 hs fun hs => sP (v := .bool (true)) hs rfl rfl fun hs => za0 ?_
  exact ⟨true, hm, hs.sub ⟨rfl, rfl, trivial⟩⟩
 replace hm := oc_f hg104 hm
 refine s2 (v := .pointer (some ⟨b25, 0, none⟩)) hs (za1 rfl (FO.of (off := 0) Try.underlying24 rfl rfl ti22 (by decide))) fun hs => s2 (v := v20) hs (y_ld rfl Try.underlying22 rfl (Cell.blk (.head _) rfl)) fun hs => ?_
 obtain ⟨x105, hx106, hm⟩ := ob hm
 obtain ⟨r107, hr108, hq109, hi110, hb111⟩ := hW23.geti hx106
 obtain ⟨v112, rfl, ⟨rw113, hR114, hW115⟩⟩ := hq109
 refine s2 hs (za8 hR22 rfl rfl hi110 hb111 Try.underlying22 ti36) fun hs => s2 (v := eaddr v20 9 ((0 : Int).toNat) 3) hs (zal (i := (0 : Int).toNat) (j := 0) hR22 rfl hb111 (FO.of (off := 3) Try.underlying36 rfl rfl ti34 (by decide))) fun hs => s2 (v := v112) hs (zaw (i := (0 : Int).toNat) (j := 3) hR22.up rfl hr108 rfl Try.underlying34 rfl) fun hs => s2 hs (zb7 hR114 hW115 rfl Try.underlying34) fun hs => s2 hs (zis rfl rfl) fun hs => sP (v := .bool (decide (0 < (x105.Attrs.length : Int)))) hs rfl rfl fun hs => za0 ?_
 exact ⟨decide (0 < (x105.Attrs.length : Int)), hm, hs.sub ⟨rfl, rfl, trivial⟩⟩
end Go.Proofs.Ytklcdfnhdljkjaa
