/-
  Walks and laws of this seat.
-/
import Derived.Test.YtklcdfnhdljkjaaBasg
import Derived.Test.YtklcdfnhdljkjaaL6k
import Derived.Test.YtklcdfnhdljkjaaL6h
import Derived.Test.YtklcdfnhdljkjaaRows
namespace Go.Proofs.Ytklcdfnhdljkjaa
set_option linter.unusedVariables false
set_option linter.unusedSimpArgs false
set_option maxHeartbeats 4000000
set_option maxRecDepth 100000
open Go.RowKit Go.Sl
def zem (n : Nat) : Option Bool :=
  (zfj n).bind fun x31 =>
  some x31
def zds (y33 : Int) (lp34 : Int → Option Bool) (y73 : Bool) : Option Bool :=
  (bif y73 then some false else
  lp34 (w64 (y33 + 1)))
def zbe (n : Nat) (x14 : (zae × Int)) : Nat → Int → Option Bool
  | 0, _ => none
  | k34 + 1, y33 =>
  (bif (decide (y33 < (x14.1.Nodes.length : Int))) then (geti x14.1.Nodes y33).bind fun x36 =>
  (geti x14.1.Nodes x36.Parent).bind fun x48 =>
  (geti x14.1.Nodes y33).bind fun x60 =>
  (bif ((decide (x60.Name = x48.Name)) && ((decide (x60.Name = (bs [116, 114]))) || ((decide (x60.Name = (bs [116, 100]))) || (decide (x60.Name = (bs [112])))))) then some false else
  (bif (decide (x48.Name = (bs [116, 97, 98, 108, 101]))) then (geti x14.1.Nodes y33).bind fun x76 =>
  (bif (decide (x76.Kind = 1)) then zds y33 (zbe n x14 k34) (decide (x60.Name ≠ (bs [116, 114]))) else
  zds y33 (zbe n x14 k34) false) else
  zds y33 (zbe n x14 k34) false)) else
  zem n)
def zh7 (n : Nat) (p0 : (List Int)) : Option Bool :=
  (zgf n p0 2000).bind fun x5 =>
  (zbp n x5).bind fun x14 =>
  (bif (decide (x14.2 ≠ 0)) then (zfj n).bind fun x29 =>
  some x29 else
  zbe n x14 n 1)
theorem znj (n : Nat) {f : Fz} {p0 : (List Int)} {a0 : Value} {res : Bool} (h0 : RS (tInt .i32) f a0 p0) (hm : zh7 n p0 = some res) : Gives Try.prog 5 [a0] f (.bool res) := by
 unfold zh7 at hm
 intro w0 L w hC
 obtain ⟨rw1, hR2, hW3⟩ := h0
 refine enter Try.func5 rfl Try.ntmps5 (by simp) hC fun a hs => ?_
 have hle := Fz.le.refl f
 refine Wq fun hK1 => sA (v := .bool (false)) hs rfl fun hs => za0 <| hK1 <| Wq fun hK2 => sM (v := a0) hs rfl fun hs => ?_
 obtain ⟨x5, hx6, hm⟩ := ob hm
 refine zen hs rfl has11 rfl (zjb n (f := f) (a0 := a0) ⟨rw1, hR2, hW3⟩ hx6) ?_; clear hs; (try clear a w)
 rintro v9 f7 _ a w hf8 ⟨_, rfl, rfl, ⟨rw10, hR11, hW12⟩⟩ hs
 replace hR2 := hR2.le hf8
 replace hW3 := hW3.le hf8
 replace hle := hle.trans hf8
 refine sA (v := v9) hs rfl fun hs => za0 <| hK2 <| Wq fun hK3 => sM (v := v9) hs rfl fun hs => ?_
 obtain ⟨x14, hx15, hm⟩ := ob hm
 refine zen hs rfl has7 rfl (zet n (f := f7) (a0 := v9) ⟨rw10, hR11, hW12⟩ hx15) ?_; clear hs; (try clear a w)
 rintro _ f16 _ a w hf17 ⟨r18, rfl, rfl, hq19⟩ hs
 replace hR2 := hR2.le hf17
 replace hW3 := hW3.le hf17
 replace hR11 := hR11.le hf17
 replace hW12 := hW12.le hf17
 replace hle := hle.trans hf17
 obtain ⟨v20, rfl, ⟨rw21, hR22, hW23⟩⟩ := hq19
 refine sM (v := .tuple #[.agg #[v20], .int .i64 (x14.2)]) hs rfl fun hs => s1 (v := .agg #[v20]) hs (zar rfl rfl) fun hs => s1 (v := .int .i64 (x14.2)) hs (zar rfl rfl) fun hs => zbt hs ti24 (.free rfl) (by decide) fun b25 _ _ hs => zat (i := 0) hs rfl rfl rfl ti24 ⟨rfl, rfl⟩ (AllC.arr (r := [v20]) ⟨hR22.one, trivial⟩) (.free rfl) fun _ _ hs => sA (v := .int .i64 (x14.2)) hs rfl fun hs => za0 <| hK3 <| Ws fun hK4 => Ws fun hK5 => ?_
 refine za7 <| sM (v := .int .i64 (x14.2)) hs rfl fun hs => s1 hs (zez rfl rfl) fun hs => za0 <| hK5 ?_
 refine zaf hs rfl (fun hg28 => ?_) (fun hg28 => ?_)
 ·replace hm := oc_t hg28 hm
  refine Ws fun hK6 => za7 ?_
  obtain ⟨x29, hx30, hm⟩ := ob hm
  refine s1 hs (zbd rfl has10 rfl (zfu n (f := f16)  hx30)) fun hs => sA (v := .bool (x29)) hs rfl fun hs => za0 <| hK6 <| zau ?_
  obtain rfl := Option.some.inj hm
  refine RtV1 hs rfl (rv_t hs rfl) ?_
  exact ⟨rfl, ((hs.subL (.cons _ (.refl _))).weak hle).cw⟩
 replace hm := oc_f hg28 hm
 refine zah <| hK4 <| Ws fun hK7 => Wq fun hK8 => sA (v := .int .i64 (1)) hs rfl fun hs => za0 <| hK8 ?_
 refine zai (fun a w => zem n = some res ∧ St 73 w0 f16 (L) [] a w) ?_ ?_
 ·clear hs hm
  rintro a w ⟨hm, hs⟩
  unfold zem at hm
  refine hK7 <| Ws fun hK9 => za7 ?_
  obtain ⟨x31, hx32, hm⟩ := ob hm
  refine s1 hs (zbd rfl has10 rfl (zfu n (f := f16)  hx32)) fun hs => sA (v := .bool (x31)) hs rfl fun hs => za0 <| hK9 <| zau ?_
  obtain rfl := Option.some.inj hm
  refine RtV1 hs rfl (rv_t hs rfl) ?_
  exact ⟨rfl, (hs.weak hle).cw⟩
 refine zam fun Qe10 hB10 hO10 => zcw (fun (k : Nat) a w => ∃ (y33 : Int), zbe n x14 k y33 = some res ∧ St 73 w0 f16 (.blk b25 (.cells #[v20] 24 (0, 0)) :: L) [(3, .pointer (some ⟨b25, 0, none⟩)), (5, .int .i64 (y33))] a w) (fun k => k) n ⟨1, hm, hs.sub ⟨rfl, rfl, trivial⟩⟩ ?_
 clear hs hm
 intro k
 rintro a w ⟨y33, hm, hs⟩
 intro K11 hK11
 cases k with
 | zero => simp [zbe] at hm
 | succ k34 =>
  rw [zbe] at hm
  refine Ws fun hK12 => Wq fun hK13 => sM (v := .int .i64 (y33)) hs rfl fun hs => s1 (v := .pointer (some ⟨b25, 0, none⟩)) hs (za1 rfl (FO.of (off := 0) Try.underlying24 rfl rfl ti22 (by decide))) fun hs => s1 (v := v20) hs (y_ld rfl Try.underlying22 rfl (Cell.blk (.head _) rfl)) fun hs => s1 hs (zb7 hR22 hW23 rfl Try.underlying22) fun hs => s1 hs (zg7 rfl rfl) fun hs => za0 <| hK13 ?_
  refine zaf hs rfl (fun hg35 => ?_) (fun hg35 => ?_)
  ·replace hm := oc_t hg35 hm
   refine zah <| hK12 <| Ws fun hK14 => zam fun Qe15 hB15 hO15 => Ws fun hK16 => ?_
   refine zk7 hs mixed (by kernel_rfl) ?_; intro a he
   refine qy (v := .pointer (some ⟨b25, 0, none⟩)) he (za1 rfl (FO.of (off := 0) Try.underlying24 rfl rfl ti22 (by decide))) fun _ he => qy (v := v20) he (y_ld rfl Try.underlying22 rfl (Cell.blk (.head _) rfl)) fun _ he => qy (v := .pointer (some ⟨b25, 0, none⟩)) he (za1 rfl (FO.of (off := 0) Try.underlying24 rfl rfl ti22 (by decide))) fun _ he => qy (v := v20) he (y_ld rfl Try.underlying22 rfl (Cell.blk (.head _) rfl)) fun _ he => qy (v := .int .i64 (y33)) he (zaa rfl) fun _ he => ?_
   obtain ⟨x36, hx37, hm⟩ := ob hm
   obtain ⟨r38, hr39, hq40, hi41, hb42⟩ := hW23.geti hx37
   obtain ⟨v43, rfl, ⟨rw44, hR45, hW46⟩⟩ := hq40
   refine qy he (za8 hR22 rfl rfl hi41 hb42 Try.underlying22 ti36) fun _ he => qy (v := eaddr v20 9 y33.toNat 4) he (zal (i := y33.toNat) (j := 0) hR22 rfl hb42 (FO.of (off := 4) Try.underlying36 rfl rfl ti3 (by decide))) fun _ he => qy (v := .int .i64 (x36.Parent)) he (zaw (i := y33.toNat) (j := 4) hR22.up rfl hr39 rfl Try.underlying3 rfl) fun _ he => ?_
   obtain ⟨x48, hx49, hm⟩ := ob hm
   obtain ⟨r50, hr51, hq52, hi53, hb54⟩ := hW23.geti hx49
   obtain ⟨v55, rfl, ⟨rw56, hR57, hW58⟩⟩ := hq52
   refine qy he (za8 hR22 rfl rfl hi53 hb54 Try.underlying22 ti36) fun _ he => qy (v := eaddr v20 9 x36.Parent.toNat 1) he (zal (i := x36.Parent.toNat) (j := 0) hR22 rfl hb54 (FO.of (off := 1) Try.underlying36 rfl rfl ti9 (by decide))) fun _ he => qy (v := .string (x48.Name)) he (zaw (i := x36.Parent.toNat) (j := 1) hR22.up rfl hr51 rfl Try.underlying9 rfl) fun _ he => qy (v := .string (x48.Name)) he (zca rfl) fun _ he => ?_
   refine zgy he ?_; clear he; (try clear hs); (try clear a); intro a w hs
   refine hK16 <| Wq fun hK17 => s1 (v := .pointer (some ⟨b25, 0, none⟩)) hs (za1 rfl (FO.of (off := 0) Try.underlying24 rfl rfl ti22 (by decide))) fun hs => s1 (v := v20) hs (y_ld rfl Try.underlying22 rfl (Cell.blk (.head _) rfl)) fun hs => sM (v := .int .i64 (y33)) hs rfl fun hs => ?_
   obtain ⟨x60, hx61, hm⟩ := ob hm
   obtain ⟨r62, hr63, hq64, hi65, hb66⟩ := hW23.geti hx61
   obtain ⟨v67, rfl, ⟨rw68, hR69, hW70⟩⟩ := hq64
   refine s1 hs (za8 hR22 rfl rfl hi65 hb66 Try.underlying22 ti36) fun hs => s1 (v := eaddr v20 9 y33.toNat 1) hs (zal (i := y33.toNat) (j := 0) hR22 rfl hb66 (FO.of (off := 1) Try.underlying36 rfl rfl ti9 (by decide))) fun hs => s1 (v := .string (x60.Name)) hs (zaw (i := y33.toNat) (j := 1) hR22.up rfl hr63 rfl Try.underlying9 rfl) fun hs => sA (v := .string (x60.Name)) hs rfl fun hs => za0 <| hK17 <| Ws fun hK18 => Ws fun hK19 => ?_
   refine zai (fun a w => St 73 w0 f16 (.blk b25 (.cells #[v20] 24 (0, 0)) :: L) [(3, .pointer (some ⟨b25, 0, none⟩)), (5, .int .i64 (y33)), (6, .string (x48.Name)), (7, .string (x60.Name)), (56, .bool (((decide (x60.Name = x48.Name)) && ((decide (x60.Name = (bs [116, 114]))) || ((decide (x60.Name = (bs [116, 100]))) || (decide (x60.Name = (bs [112]))))))))] a w) ?_ ?_
   ·clear hs; intro a w hs
    refine hK19 ?_
    refine zaf hs rfl (fun hg72 => ?_) (fun hg72 => ?_)
    ·replace hm := oc_t hg72 hm
     refine Wq fun hK20 => sA (v := .bool (false)) hs rfl fun hs => za0 <| hK20 <| zau ?_
     obtain rfl := Option.some.inj hm
     refine RtV1 hs rfl (rv_t hs rfl) ?_
     exact ⟨rfl, ((hs.subL (.cons _ (.refl _))).weak hle).cw⟩
    replace hm := oc_f hg72 hm
    refine zah <| hK18 <| Ws fun hK21 => ?_
    refine zai (fun a w => ∃ (y73 : Bool), zds y33 (zbe n x14 k34) y73 = some res ∧ St 73 w0 f16 (.blk b25 (.cells #[v20] 24 (0, 0)) :: L) [(3, .pointer (some ⟨b25, 0, none⟩)), (5, .int .i64 (y33)), (71, .bool (y73))] a w) ?_ ?_
    ·clear hs hm
     rintro a w ⟨y73, hm, hs⟩
     unfold zds at hm
     refine hK21 ?_
     refine zaf hs rfl (fun hg74 => ?_) (fun hg74 => ?_)
     ·replace hm := oc_t hg74 hm
      refine Wq fun hK22 => sA (v := .bool (false)) hs rfl fun hs => za0 <| hK22 <| zau ?_
      obtain rfl := Option.some.inj hm
      refine RtV1 hs rfl (rv_t hs rfl) ?_
      exact ⟨rfl, ((hs.subL (.cons _ (.refl _))).weak hle).cw⟩
     replace hm := oc_f hg74 hm
     refine zah <| hK14 <| za7 <| sM (v := .int .i64 (y33)) hs rfl fun hs => s1 hs (zeq rfl rfl rfl) fun hs => sA (v := .int .i64 ((w64 (y33 + 1)))) hs rfl fun hs => za0 ?_
     exact hK11 k34 _ _ (Nat.lt_succ_self _) ⟨(w64 (y33 + 1)), hm, hs.sub ⟨rfl, rfl, trivial⟩⟩
    refine za7 <| sM (v := .string (x48.Name)) hs rfl fun hs => s1 hs (zd9 rfl rfl) fun hs => sM (v := .bool (decide (x48.Name = (bs [116, 97, 98, 108, 101])))) hs rfl fun hs => ?_
    refine St.split hs (t := 59) rfl (fun hg75 hs => ?_) (fun hg75 hs => ?_)
    ·replace hm := oc_t hg75 hm
     refine s2 (v := .pointer (some ⟨b25, 0, none⟩)) hs (za1 rfl (FO.of (off := 0) Try.underlying24 rfl rfl ti22 (by decide))) fun hs => s2 (v := v20) hs (y_ld rfl Try.underlying22 rfl (Cell.blk (.head _) rfl)) fun hs => s2 (v := .int .i64 (y33)) hs (zaa rfl) fun hs => ?_
     obtain ⟨x76, hx77, hm⟩ := ob hm
     obtain ⟨r78, hr79, hq80, hi81, hb82⟩ := hW23.geti hx77
     obtain ⟨v83, rfl, ⟨rw84, hR85, hW86⟩⟩ := hq80
     refine s2 hs (za8 hR22 rfl rfl hi81 hb82 Try.underlying22 ti36) fun hs => s2 (v := eaddr v20 9 y33.toNat 0) hs (zal (i := y33.toNat) (j := 0) hR22 rfl hb82 (FO.of (off := 0) Try.underlying36 rfl rfl ti3 (by decide))) fun hs => s2 (v := .int .i64 (x76.Kind)) hs (zaw (i := y33.toNat) (j := 0) hR22.up rfl hr79 rfl Try.underlying3 rfl) fun hs => s2 hs (zd3 rfl rfl) fun hs => sP (v := .bool (decide (x76.Kind = 1))) hs rfl rfl fun hs => sM (v := .bool (decide (x76.Kind = 1))) hs rfl fun hs => ?_
     refine St.split hs (t := 68) rfl (fun hg88 hs => ?_) (fun hg88 hs => ?_)
     ·replace hm := oc_t hg88 hm
      refine s2 (v := .string (x60.Name)) hs (zaa rfl) fun hs => s2 hs (zlm rfl rfl) fun hs => sP (v := .bool (decide (x60.Name ≠ (bs [116, 114])))) hs rfl rfl fun hs => za0 ?_
      exact ⟨decide (x60.Name ≠ (bs [116, 114])), hm, hs.sub ⟨rfl, rfl, rfl, trivial⟩⟩
     replace hm := oc_f hg88 hm
     refine s3 hs fun hs => s3 hs fun hs => sP (v := .bool (false)) hs rfl rfl fun hs => za0 ?_
     exact ⟨false, hm, hs.sub ⟨rfl, rfl, rfl, trivial⟩⟩
    replace hm := oc_f hg75 hm
    refine s3 hs fun hs => s3 hs fun hs => s3 hs fun hs => s3 hs fun hs => s3 hs fun hs => s3 hs fun hs => s3 hs fun hs => sP (v := .bool (false)) hs rfl rfl fun hs => sM (v := .bool (false)) hs rfl fun hs => s3 hs fun hs => ?_
    refine s3 hs fun hs => sP (v := .bool (false)) hs rfl rfl fun hs => za0 ?_
    exact ⟨false, hm, hs.sub ⟨rfl, rfl, rfl, trivial⟩⟩
   refine za7 <| sM (v := .string (x60.Name)) hs rfl fun hs => sM (v := .string (x48.Name)) hs rfl fun hs => s1 hs (zd9 rfl rfl) fun hs => sM (v := .bool (decide (x60.Name = x48.Name))) hs rfl fun hs => ?_
   refine St.split hs (t := 45) rfl (fun hg89 hs => ?_) (fun hg89 hs => ?_)
   ·refine s2 (v := .string (x60.Name)) hs (zaa rfl) fun hs => s2 hs (zd9 rfl rfl) fun hs => s2 (v := .bool (decide (x60.Name = (bs [116, 114])))) hs (zaa rfl) fun hs => ?_
    refine St.split hs (t := 48) rfl (fun hg90 hs => ?_) (fun hg90 hs => ?_)
    ·refine s3 hs fun hs => s3 hs fun hs => s2 (v := .bool (true)) hs (zb4 rfl rfl) fun hs => s2 (v := .bool (true)) hs (zaa rfl) fun hs => s3 hs fun hs => s3 hs fun hs => s2 (v := .bool (true)) hs (zb4 rfl rfl) fun hs => sP (v := .bool (true)) hs rfl rfl fun hs => za0 ?_
     exact hs.sub ⟨rfl, rfl, rfl, rfl, (lkB (((zgi hg89).trans ((or_t hg90).trans rfl))) rfl), trivial⟩
    refine s2 (v := .string (x60.Name)) hs (zaa rfl) fun hs => s2 hs (zd9 rfl rfl) fun hs => s2 (v := .bool (decide (x60.Name = (bs [116, 100])))) hs (zb4 rfl rfl) fun hs => s2 (v := .bool (decide (x60.Name = (bs [116, 100])))) hs (zaa rfl) fun hs => ?_
    refine St.split hs (t := 52) rfl (fun hg91 hs => ?_) (fun hg91 hs => ?_)
    ·refine s3 hs fun hs => s3 hs fun hs => s2 (v := .bool (true)) hs (zb4 rfl rfl) fun hs => sP (v := .bool (true)) hs rfl rfl fun hs => za0 ?_
     exact hs.sub ⟨rfl, rfl, rfl, rfl, (lkB (((zgi hg89).trans ((or_f hg90).trans ((or_t hg91).trans rfl)))) rfl), trivial⟩
    refine s2 (v := .string (x60.Name)) hs (zaa rfl) fun hs => s2 hs (zd9 rfl rfl) fun hs => s2 (v := .bool (decide (x60.Name = (bs [112])))) hs (zb4 rfl rfl) fun hs => sP (v := .bool (decide (x60.Name = (bs [112])))) hs rfl rfl fun hs => za0 ?_
    exact hs.sub ⟨rfl, rfl, rfl, rfl, (lkB (((zgi hg89).trans ((or_f hg90).trans ((or_f hg91).trans rfl)))) rfl), trivial⟩
   refine s3 hs fun hs => s3 hs fun hs => s3 hs fun hs => s4 hs fun hs => s4 hs fun hs => s3 hs fun hs => s3 hs fun hs => s4 hs fun hs => s4 hs fun hs => s3 hs fun hs => ?_
   refine sP (v := .bool (false)) hs rfl rfl fun hs => za0 ?_
   exact hs.sub ⟨rfl, rfl, rfl, rfl, (lkB (((zll hg89).trans rfl)) rfl), trivial⟩
  replace hm := oc_f hg35 hm
  refine zc9 <| hB10 _ _ ?_
  exact ⟨hm, hs.subs trivial (.cons _ (.refl _))⟩
end Go.Proofs.Ytklcdfnhdljkjaa
