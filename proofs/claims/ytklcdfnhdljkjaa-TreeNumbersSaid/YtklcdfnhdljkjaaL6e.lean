/-
  Walks and laws of this seat.
-/
import Derived.Test.YtklcdfnhdljkjaaBasg
import Derived.Test.YtklcdfnhdljkjaaL6c
import Derived.Test.YtklcdfnhdljkjaaG6
import Derived.Test.YtklcdfnhdljkjaaRows
namespace Go.Proofs.Ytklcdfnhdljkjaa
set_option linter.unusedVariables false
set_option linter.unusedSimpArgs false
set_option maxHeartbeats 4000000
set_option maxRecDepth 100000
open Go.RowKit Go.Sl
def zkl (n : Nat) (p0 : ByteArray) : Option ByteArray :=
  (bif (decide (p0 = (bs [97, 109, 112]))) then some (bs [38]) else
  (bif (decide (p0 = (bs [108, 116]))) then some (bs [60]) else
  (bif (decide (p0 = (bs [103, 116]))) then some (bs [62]) else
  (bif (decide (p0 = (bs [113, 117, 111, 116]))) then some (bs [34]) else
  (bif (decide (p0 = (bs [97, 112, 111, 115]))) then some (bs [39]) else
  (bif (decide (p0 = (bs [110, 98, 115, 112]))) then some (bs [194, 160]) else
  some (bs [])))))))
theorem zrq (n : Nat) {f : Fz} {p0 : ByteArray} {res : ByteArray}  (hm : zkl n p0 = some res) : Gives Try.prog 80 [.string p0] f (.string res) := by
 unfold zkl at hm
 intro w0 L w hC
 refine enter Try.func80 rfl Try.ntmps80 (by simp) hC fun a hs => ?_
 have hle := Fz.le.refl f
 refine Wq fun hK1 => sA (v := .string ((bs []))) hs rfl fun hs => za0 <| hK1 <| Ws fun hK2 => Wq fun hK3 => sM (v := .string (p0)) hs rfl fun hs => za0 ?_
 refine hK3 <| zam fun Qe4 hB4 hO4 => Wq fun hK5 => s1 hs (zd9 rfl rfl) fun hs => sA (v := .bool (decide (p0 = (bs [97, 109, 112])))) hs rfl fun hs => za0 <| hK5 ?_
 refine zaf hs rfl (fun hg1 => ?_) (fun hg1 => ?_)
 ·replace hm := oc_t hg1 hm
  refine Wq fun hK6 => sA (v := .string ((bs [38]))) hs rfl fun hs => za0 <| hK6 <| zau ?_
  obtain rfl := Option.some.inj hm
  refine RtV1 hs rfl (rv_t hs rfl) ?_
  exact ⟨rfl, (hs.weak hle).cw⟩
 replace hm := oc_f hg1 hm
 refine Wq fun hK7 => s1 hs (zd9 rfl rfl) fun hs => sA (v := .bool (decide (p0 = (bs [108, 116])))) hs rfl fun hs => za0 <| hK7 ?_
 refine zaf hs rfl (fun hg2 => ?_) (fun hg2 => ?_)
 ·replace hm := oc_t hg2 hm
  refine Wq fun hK8 => sA (v := .string ((bs [60]))) hs rfl fun hs => za0 <| hK8 <| zau ?_
  obtain rfl := Option.some.inj hm
  refine RtV1 hs rfl (rv_t hs rfl) ?_
  exact ⟨rfl, (hs.weak hle).cw⟩
 replace hm := oc_f hg2 hm
 refine Wq fun hK9 => s1 hs (zd9 rfl rfl) fun hs => sA (v := .bool (decide (p0 = (bs [103, 116])))) hs rfl fun hs => za0 <| hK9 ?_
 refine zaf hs rfl (fun hg3 => ?_) (fun hg3 => ?_)
 ·replace hm := oc_t hg3 hm
  refine Wq fun hK10 => sA (v := .string ((bs [62]))) hs rfl fun hs => za0 <| hK10 <| zau ?_
  obtain rfl := Option.some.inj hm
  refine RtV1 hs rfl (rv_t hs rfl) ?_
  exact ⟨rfl, (hs.weak hle).cw⟩
 replace hm := oc_f hg3 hm
 refine Wq fun hK11 => s1 hs (zd9 rfl rfl) fun hs => sA (v := .bool (decide (p0 = (bs [113, 117, 111, 116])))) hs rfl fun hs => za0 <| hK11 ?_
 refine zaf hs rfl (fun hg4 => ?_) (fun hg4 => ?_)
 ·replace hm := oc_t hg4 hm
  refine Wq fun hK12 => sA (v := .string ((bs [34]))) hs rfl fun hs => za0 <| hK12 <| zau ?_
  obtain rfl := Option.some.inj hm
  refine RtV1 hs rfl (rv_t hs rfl) ?_
  exact ⟨rfl, (hs.weak hle).cw⟩
 replace hm := oc_f hg4 hm
 refine Wq fun hK13 => s1 hs (zd9 rfl rfl) fun hs => sA (v := .bool (decide (p0 = (bs [97, 112, 111, 115])))) hs rfl fun hs => za0 <| hK13 ?_
 refine zaf hs rfl (fun hg5 => ?_) (fun hg5 => ?_)
 ·replace hm := oc_t hg5 hm
  refine Wq fun hK14 => sA (v := .string ((bs [39]))) hs rfl fun hs => za0 <| hK14 <| zau ?_
  obtain rfl := Option.some.inj hm
  refine RtV1 hs rfl (rv_t hs rfl) ?_
  exact ⟨rfl, (hs.weak hle).cw⟩
 replace hm := oc_f hg5 hm
 refine Wq fun hK15 => s1 hs (zd9 rfl rfl) fun hs => sA (v := .bool (decide (p0 = (bs [110, 98, 115, 112])))) hs rfl fun hs => za0 <| hK15 ?_
 refine zaf hs rfl (fun hg6 => ?_) (fun hg6 => ?_)
 ·replace hm := oc_t hg6 hm
  refine Wq fun hK16 => sA (v := .string ((bs [194, 160]))) hs rfl fun hs => za0 <| hK16 <| zau ?_
  obtain rfl := Option.some.inj hm
  refine RtV1 hs rfl (rv_t hs rfl) ?_
  exact ⟨rfl, (hs.weak hle).cw⟩
 replace hm := oc_f hg6 hm
 refine zah <| hK2 <| Wq fun hK17 => sA (v := .string ((bs []))) hs rfl fun hs => za0 <| hK17 <| zau ?_
 obtain rfl := Option.some.inj hm
 refine RtV1 hs rfl (rv_t hs rfl) ?_
 exact ⟨rfl, (hs.weak hle).cw⟩
def zgj (y3 : Int) : Option ByteArray :=
  some (Utf8.encode (IntKind.i32.wrap y3))
def zgk (y2 : Int) : Option ByteArray :=
  (bif ((decide (y2 = 0)) || ((decide (1114111 < y2)) || ((decide (55296 ≤ y2)) && (decide (y2 ≤ 57343))))) then zgj 65533 else
  zgj y2)
def zdx (n : Nat) (p0 : ByteArray) (p1 : Int) : Nat → Int → Int → Option ByteArray
  | 0, _, _ => none
  | k10 + 1, y8, y9 =>
  (bif (decide (y9 < (p0.size : Int))) then (getS p0 y9).bind fun x12 =>
  (zg0 n [(IntKind.i32.wrap x12)]).bind fun x19 =>
  (getS x19 0).bind fun x21 =>
  (zdc n (bs [48, 49, 50, 51, 52, 53, 54, 55, 56, 57, 97, 98, 99, 100, 101, 102]) x21).bind fun x23 =>
  (bif ((decide (x23 < 0)) || (decide (p1 ≤ x23))) then some (bs []) else
  (zdx n p0 p1 k10) (w64 ((w64 (y8 * p1)) + x23)) (w64 (y9 + 1))) else
  zgk y8)
def zhg (n : Nat) (p0 : ByteArray) (p1 : Int) : Option ByteArray :=
  (bif ((decide (p0 = (bs []))) || (decide (8 < (p0.size : Int)))) then some (bs []) else
  zdx n p0 p1 n 0 0)
theorem zle (n : Nat) {f : Fz} {p0 : ByteArray} {p1 : Int} {res : ByteArray}  (hm : zhg n p0 p1 = some res) : Gives Try.prog 79 [.string p0, .int .i64 p1] f (.string res) := by
 unfold zhg at hm
 intro w0 L w hC
 refine enter Try.func79 rfl Try.ntmps79 (by simp) hC fun a hs => ?_
 have hle := Fz.le.refl f
 refine Wq fun hK1 => sA (v := .string ((bs []))) hs rfl fun hs => za0 <| hK1 <| Ws fun hK2 => Ws fun hK3 => ?_
 refine zai (fun a w => St 58 w0 f (L) [(0, .string (p0)), (1, .int .i64 (p1)), (14, .bool (((decide (p0 = (bs []))) || (decide (8 < (p0.size : Int))))))] a w) ?_ ?_
 ·clear hs; intro a w hs
  refine hK3 ?_
  refine zaf hs rfl (fun hg1 => ?_) (fun hg1 => ?_)
  ·replace hm := oc_t hg1 hm
   refine Wq fun hK4 => sA (v := .string ((bs []))) hs rfl fun hs => za0 <| hK4 <| zau ?_
   obtain rfl := Option.some.inj hm
   refine RtV1 hs rfl (rv_t hs rfl) ?_
   exact ⟨rfl, (hs.weak hle).cw⟩
  replace hm := oc_f hg1 hm
  refine zah <| hK2 <| Wq fun hK5 => sA (v := .int .i64 (0)) hs rfl fun hs => za0 <| hK5 <| Ws fun hK6 => Ws fun hK7 => za7 ?_
  refine sM (v := .string (p0)) hs rfl fun hs => s1 hs (zn6 rfl Try.underlying9) fun hs => sM (v := .int .i64 (0)) hs rfl fun hs => za0 <| hK7 ?_
  refine zai (fun a w => ∃ (y2 : Int), zgk y2 = some res ∧ St 58 w0 f (L) [(5, .int .i64 (y2))] a w) ?_ ?_
  ·clear hs hm
   rintro a w ⟨y2, hm, hs⟩
   unfold zgk at hm
   refine hK6 <| Ws fun hK8 => Ws fun hK9 => ?_
   refine zai (fun a w => St 58 w0 f (L) [(5, .int .i64 (y2)), (54, .bool (((decide (y2 = 0)) || ((decide (1114111 < y2)) || ((decide (55296 ≤ y2)) && (decide (y2 ≤ 57343)))))))] a w) ?_ ?_
   ·clear hs; intro a w hs
    refine hK9 ?_
    refine zai (fun a w => ∃ (y3 : Int), zgj y3 = some res ∧ St 58 w0 f (L) [(5, .int .i64 (y3))] a w) ?_ ?_
    ·clear hs hm
     rintro a w ⟨y3, hm, hs⟩
     unfold zgj at hm
     refine hK8 <| Wq fun hK10 => sM (v := .int .i64 (y3)) hs rfl fun hs => ?_
     refine s1 (v := .int .i32 ((IntKind.i32.wrap y3))) hs (y_i2i rfl (by rw [Try.underlying2]; rfl) Try.underlying21 rfl) fun hs => ?_
     refine s1 (v := .string ((Utf8.encode (IntKind.i32.wrap y3)))) hs (y_i2s rfl (by rw [Try.underlying21]; rfl) Try.underlying9) fun hs => ?_
     refine sA (v := .string ((Utf8.encode (IntKind.i32.wrap y3)))) hs rfl fun hs => za0 <| hK10 <| zau ?_
     obtain rfl := Option.some.inj hm
     refine RtV1 hs rfl (rv_t hs rfl) ?_
     exact ⟨rfl, (hs.weak hle).cw⟩
    refine zaf hs rfl (fun hg4 => ?_) (fun hg4 => ?_)
    ·replace hm := oc_t hg4 hm
     refine za7 <| sA (v := .int .i64 (65533)) hs rfl fun hs => za0 ?_
     exact ⟨65533, hm, hs.sub ⟨rfl, trivial⟩⟩
    replace hm := oc_f hg4 hm
    refine zah ?_
    exact ⟨y2, hm, hs.sub ⟨rfl, trivial⟩⟩
   refine za7 <| sM (v := .int .i64 (y2)) hs rfl fun hs => s1 hs (zd3 rfl rfl) fun hs => sM (v := .bool (decide (y2 = 0))) hs rfl fun hs => ?_
   refine St.split hs (t := 43) rfl (fun hg5 hs => ?_) (fun hg5 hs => ?_)
   ·refine s3 hs fun hs => s3 hs fun hs => sP (v := .bool (true)) hs rfl rfl fun hs => sM (v := .bool (true)) hs rfl fun hs => s3 hs fun hs => s3 hs fun hs => s3 hs fun hs => s4 hs fun hs => s4 hs fun hs => s3 hs fun hs => ?_
    refine sP (v := .bool (true)) hs rfl rfl fun hs => za0 ?_
    exact hs.sub ⟨rfl, (lkB (((or_t hg5).trans rfl)) rfl), trivial⟩
   refine s2 (v := .int .i64 (y2)) hs (zaa rfl) fun hs => s2 hs (zis rfl rfl) fun hs => sP (v := .bool (decide (1114111 < y2))) hs rfl rfl fun hs => sM (v := .bool (decide (1114111 < y2))) hs rfl fun hs => ?_
   refine St.split hs (t := 47) rfl (fun hg6 hs => ?_) (fun hg6 hs => ?_)
   ·refine s3 hs fun hs => s3 hs fun hs => s3 hs fun hs => s4 hs fun hs => s4 hs fun hs => s3 hs fun hs => sP (v := .bool (true)) hs rfl rfl fun hs => za0 ?_
    exact hs.sub ⟨rfl, (lkB (((or_f hg5).trans ((or_t hg6).trans rfl))) rfl), trivial⟩
   refine s2 (v := .int .i64 (y2)) hs (zaa rfl) fun hs => s2 hs (zmc rfl rfl) fun hs => s2 (v := .bool (decide (55296 ≤ y2))) hs (zaa rfl) fun hs => ?_
   refine St.split hs (t := 50) rfl (fun hg7 hs => ?_) (fun hg7 hs => ?_)
   ·refine s2 (v := .int .i64 (y2)) hs (zaa rfl) fun hs => s2 hs (y_leq rfl rfl) fun hs => s2 (v := .bool (decide (y2 ≤ 57343))) hs (zb4 rfl rfl) fun hs => sP (v := .bool (decide (y2 ≤ 57343))) hs rfl rfl fun hs => za0 ?_
    exact hs.sub ⟨rfl, (lkB (((or_f hg5).trans ((or_f hg6).trans ((zgi hg7).trans rfl)))) rfl), trivial⟩
   refine s3 hs fun hs => s3 hs fun hs => s2 (v := .bool (false)) hs (zb4 rfl rfl) fun hs => sP (v := .bool (false)) hs rfl rfl fun hs => za0 ?_
   exact hs.sub ⟨rfl, (lkB (((or_f hg5).trans ((or_f hg6).trans ((zll hg7).trans rfl)))) rfl), trivial⟩
  refine zam fun Qe11 hB11 hO11 => zcw (fun (k : Nat) a w => ∃ (y8 : Int) (y9 : Int), zdx n p0 p1 k y8 y9 = some res ∧ St 58 w0 f (L) [(0, .string (p0)), (1, .int .i64 (p1)), (5, .int .i64 (y8)), (16, .int .i64 ((p0.size : Int))), (17, .int .i64 (y9))] a w) (fun k => k) n ⟨0, 0, hm, hs.sub ⟨rfl, rfl, rfl, rfl, rfl, trivial⟩⟩ ?_
  clear hs hm
  intro k
  rintro a w ⟨y8, y9, hm, hs⟩
  intro K12 hK12
  cases k with
  | zero => simp [zdx] at hm
  | succ k10 =>
   rw [zdx] at hm
   refine Wq fun hK13 => s1 hs (zg7 rfl rfl) fun hs => za0 <| hK13 <| Ws fun hK14 => ?_
   refine zaf hs rfl (fun hg11 => ?_) (fun hg11 => ?_)
   ·replace hm := oc_t hg11 hm
    refine zah <| hK14 <| Ws fun hK15 => zam fun Qe16 hB16 hO16 => Wq fun hK17 => sM (v := .int .i64 (y9)) hs rfl fun hs => sA (v := .int .i64 (y9)) hs rfl fun hs => za0 <| hK17 ?_
    refine Wq fun hK18 => sM (v := .string (p0)) hs rfl fun hs => sM (v := .int .i64 (y9)) hs rfl fun hs => ?_
    obtain ⟨x12, hx13, hm⟩ := ob hm
    refine s1 hs (y_ixW rfl rfl Try.underlying9 hx13) fun hs => ?_
    refine s1 (v := .int .i32 ((IntKind.i32.wrap x12))) hs (y_i2i rfl (by rw [Try.underlying5]; rfl) Try.underlying21 rfl) fun hs => ?_
    refine zfz hs rfl Try.underlying28 ti21 rfl rfl fun v14 _ _ hs => ?_
    have hW15 : RW (tInt .i32) f [[.int .i32 ((IntKind.i32.wrap x12))]] [(IntKind.i32.wrap x12)] := RW.single (rfl)
    generalize hgrw16 : ([[.int .i32 ((IntKind.i32.wrap x12))]] : List (List Value)) = rw16 at hs hW15; clear hgrw16
    obtain ⟨x19, hx20, hm⟩ := ob hm
    refine sy hs (zeh (cap := []) rfl has66 rfl (fun w9 hw9 => callsP (Lr := [.row v14 21 1 rw16]) (Lf := L) (zag _ 0 rfl) hw9 (fun Lz w9 hw9 => lent0 hw9 (fun f9_0 w9 hle9_0 hRl0 hw9 => (zjk n (f := f9_0) (a0 := v14) ⟨rw16, hRl0, hW15.le hle9_0⟩ hx20) w0 _ w9 hw9)))) fun _ _ hs => ?_
    obtain ⟨x21, hx22, hm⟩ := ob hm
    refine s1 hs (y_ixW rfl rfl Try.underlying9 hx22) fun hs => ?_
    obtain ⟨x23, hx24, hm⟩ := ob hm
    refine s1 hs (zbd rfl has61 rfl (zjd n (f := f)  hx24)) fun hs => sA (v := .int .i64 (x23)) hs rfl fun hs => za0 <| hK18 <| Ws fun hK19 => Ws fun hK20 => ?_
    refine zai (fun a w => St 58 w0 f (.row v14 21 1 rw16 :: L) [(0, .string (p0)), (1, .int .i64 (p1)), (5, .int .i64 (y8)), (7, .int .i64 (x23)), (16, .int .i64 ((p0.size : Int))), (17, .int .i64 (y9)), (34, .bool (((decide (x23 < 0)) || (decide (p1 ≤ x23)))))] a w) ?_ ?_
    ·clear hs; intro a w hs
     refine hK20 ?_
     refine zaf hs rfl (fun hg25 => ?_) (fun hg25 => ?_)
     ·replace hm := oc_t hg25 hm
      refine Wq fun hK21 => sA (v := .string ((bs []))) hs rfl fun hs => za0 <| hK21 <| zau ?_
      obtain rfl := Option.some.inj hm
      refine RtV1 hs rfl (rv_t hs rfl) ?_
      exact ⟨rfl, ((hs.subL (.cons _ (.refl _))).weak hle).cw⟩
     replace hm := oc_f hg25 hm
     refine zah <| hK19 <| za7 <| sM (v := .int .i64 (y8)) hs rfl fun hs => sM (v := .int .i64 (p1)) hs rfl fun hs => s1 hs (y_mul rfl rfl rfl) fun hs => sM (v := .int .i64 (x23)) hs rfl fun hs => s1 hs (zeq rfl rfl rfl) fun hs => sA (v := .int .i64 ((w64 ((w64 (y8 * p1)) + x23)))) hs rfl fun hs => za0 ?_
     refine hK15 <| za7 <| s1 hs (zeq rfl rfl rfl) fun hs => sM (v := .int .i64 ((w64 (y9 + 1)))) hs rfl fun hs => za0 ?_
     exact hK12 k10 _ _ (Nat.lt_succ_self _) ⟨(w64 ((w64 (y8 * p1)) + x23)), (w64 (y9 + 1)), hm, hs.subs ⟨rfl, rfl, rfl, rfl, rfl, trivial⟩ (.cons _ (.refl _))⟩
    refine za7 <| sM (v := .int .i64 (x23)) hs rfl fun hs => s1 hs (zg7 rfl rfl) fun hs => sM (v := .bool (decide (x23 < 0))) hs rfl fun hs => ?_
    refine St.split hs (t := 30) rfl (fun hg26 hs => ?_) (fun hg26 hs => ?_)
    ·refine s3 hs fun hs => s3 hs fun hs => s3 hs fun hs => sP (v := .bool (true)) hs rfl rfl fun hs => za0 ?_
     exact hs.sub ⟨rfl, rfl, rfl, rfl, rfl, rfl, (lkB (((or_t hg26).trans rfl)) rfl), trivial⟩
    refine s2 (v := .int .i64 (x23)) hs (zaa rfl) fun hs => s2 (v := .int .i64 (p1)) hs (zaa rfl) fun hs => s2 hs (zmc rfl rfl) fun hs => sP (v := .bool (decide (p1 ≤ x23))) hs rfl rfl fun hs => za0 ?_
    exact hs.sub ⟨rfl, rfl, rfl, rfl, rfl, rfl, (lkB (((or_f hg26).trans rfl)) rfl), trivial⟩
   replace hm := oc_f hg11 hm
   refine zc9 <| hB11 _ _ ?_
   exact ⟨y8, hm, hs.sub ⟨rfl, trivial⟩⟩
 refine za7 <| sM (v := .string (p0)) hs rfl fun hs => s1 hs (zd9 rfl rfl) fun hs => sM (v := .bool (decide (p0 = (bs [])))) hs rfl fun hs => ?_
 refine St.split hs (t := 10) rfl (fun hg27 hs => ?_) (fun hg27 hs => ?_)
 ·refine s3 hs fun hs => s3 hs fun hs => s3 hs fun hs => sP (v := .bool (true)) hs rfl rfl fun hs => za0 ?_
  exact hs.sub ⟨rfl, rfl, (lkB (((or_t hg27).trans rfl)) rfl), trivial⟩
 refine s2 (v := .string (p0)) hs (zaa rfl) fun hs => s2 hs (zn6 rfl Try.underlying9) fun hs => s2 hs (zis rfl rfl) fun hs => sP (v := .bool (decide (8 < (p0.size : Int)))) hs rfl rfl fun hs => za0 ?_
 exact hs.sub ⟨rfl, rfl, (lkB (((or_f hg27).trans rfl)) rfl), trivial⟩
def zbm (y1 : Bool) : Option Bool :=
  some y1
def zd2 (n : Nat) (p0 : ByteArray) (p1 : ByteArray) : Option Bool :=
  (bif (decide ((p1.size : Int) ≤ (p0.size : Int))) then (cutS p0 (0 : Int) (p1.size : Int)).bind fun x3 =>
  zbm (decide (x3 = p1)) else
  zbm false)
theorem zik (n : Nat) {f : Fz} {p0 : ByteArray} {p1 : ByteArray} {res : Bool}  (hm : zd2 n p0 p1 = some res) : Gives Try.prog 87 [.string p0, .string p1] f (.bool res) := by
 unfold zd2 at hm
 intro w0 L w hC
 refine enter Try.func87 rfl Try.ntmps87 (by simp) hC fun a hs => ?_
 have hle := Fz.le.refl f
 refine Wq fun hK1 => sA (v := .bool (false)) hs rfl fun hs => za0 <| hK1 <| Ws fun hK2 => ?_
 refine zai (fun a w => ∃ (y1 : Bool), zbm y1 = some res ∧ St 18 w0 f (L) [(4, .bool (y1))] a w) ?_ ?_
 ·clear hs hm
  rintro a w ⟨y1, hm, hs⟩
  unfold zbm at hm
  refine hK2 <| zau ?_
  obtain rfl := Option.some.inj hm
  refine RtV1 hs rfl (rv_t hs rfl) ?_
  exact ⟨rfl, (hs.weak hle).cw⟩
 refine za7 <| sM (v := .string (p0)) hs rfl fun hs => s1 hs (zn6 rfl Try.underlying9) fun hs => sM (v := .string (p1)) hs rfl fun hs => s1 hs (zn6 rfl Try.underlying9) fun hs => s1 hs (zmc rfl rfl) fun hs => sM (v := .bool (decide ((p1.size : Int) ≤ (p0.size : Int)))) hs rfl fun hs => ?_
 refine St.split hs (t := 10) rfl (fun hg2 hs => ?_) (fun hg2 hs => ?_)
 ·replace hm := oc_t hg2 hm
  refine s2 (v := .string (p0)) hs (zaa rfl) fun hs => s2 (v := .string (p1)) hs (zaa rfl) fun hs => s2 hs (zn6 rfl Try.underlying9) fun hs => ?_
  obtain ⟨x3, hx4, hm⟩ := ob hm
  obtain ⟨⟨hlx3, hhx3, h1x3, h2x3⟩, hex3⟩ := zj6 hx4
  refine s2 hs (y_sliceSV (lo := (0 : Int).toNat) (hi := (p1.size : Int).toNat) hex3 rfl Try.underlying9 (.inl ⟨rfl, rfl⟩) (.inr ⟨_, rfl, by rw [← hhx3]; rfl⟩) h1x3 h2x3) fun hs => ?_
  refine s2 (v := .string (p1)) hs (zaa rfl) fun hs => s2 hs (zd9 rfl rfl) fun hs => sP (v := .bool (decide (x3 = p1))) hs rfl rfl fun hs => sA (v := .bool (decide (x3 = p1))) hs rfl fun hs => za0 ?_
  exact ⟨decide (x3 = p1), hm, hs.sub ⟨rfl, trivial⟩⟩
 replace hm := oc_f hg2 hm
 refine s3 hs fun hs => s3 hs fun hs => s3 hs fun hs => s3 hs fun hs => s3 hs fun hs => s3 hs fun hs => sP (v := .bool (false)) hs rfl rfl fun hs => sA (v := .bool (false)) hs rfl fun hs => za0 ?_
 exact ⟨false, hm, hs.sub ⟨rfl, trivial⟩⟩
def zea (n : Nat) (p0 : ByteArray) (p1 : ByteArray) : Option Bool :=
  (zd2 n p0 p1).bind fun x1 =>
  some x1
theorem zhq (n : Nat) {f : Fz} {p0 : ByteArray} {p1 : ByteArray} {res : Bool}  (hm : zea n p0 p1 = some res) : Gives Try.prog 78 [.string p0, .string p1] f (.bool res) := by
 unfold zea at hm
 intro w0 L w hC
 refine enter Try.func78 rfl Try.ntmps78 (by simp) hC fun a hs => ?_
 have hle := Fz.le.refl f
 refine Wq fun hK1 => sA (v := .bool (false)) hs rfl fun hs => za0 <| hK1 <| Wq fun hK2 => sM (v := .string (p0)) hs rfl fun hs => sM (v := .string (p1)) hs rfl fun hs => ?_
 obtain ⟨x1, hx2, hm⟩ := ob hm
 refine s1 hs (zbd rfl has87 rfl (zik n (f := f)  hx2)) fun hs => sA (v := .bool (x1)) hs rfl fun hs => za0 <| hK2 <| zau ?_
 obtain rfl := Option.some.inj hm
 refine RtV1 hs rfl (rv_t hs rfl) ?_
 exact ⟨rfl, (hs.weak hle).cw⟩
def zdf (n : Nat) (p0 : ByteArray) (y1 : Bool) : Option ByteArray :=
  (bif y1 then (cutS p0 (2 : Int) (p0.size : Int)).bind fun x3 =>
  (zhg n x3 16).bind fun x5 =>
  some x5 else
  (zea n p0 (bs [35])).bind fun x7 =>
  (bif x7 then (cutS p0 (1 : Int) (p0.size : Int)).bind fun x10 =>
  (zhg n x10 10).bind fun x12 =>
  some x12 else
  (zkl n p0).bind fun x14 =>
  some x14))
def zjv (n : Nat) (p0 : ByteArray) : Option ByteArray :=
  (zea n p0 (bs [35, 120])).bind fun x16 =>
  (bif x16 then zdf n p0 true else
  (zea n p0 (bs [35, 88])).bind fun x19 =>
  zdf n p0 x19)
theorem zq7 (n : Nat) {f : Fz} {p0 : ByteArray} {res : ByteArray}  (hm : zjv n p0 = some res) : Gives Try.prog 62 [.string p0] f (.string res) := by
 unfold zjv at hm
 intro w0 L w hC
 refine enter Try.func62 rfl Try.ntmps62 (by simp) hC fun a hs => ?_
 have hle := Fz.le.refl f
 refine Wq fun hK1 => sA (v := .string ((bs []))) hs rfl fun hs => za0 <| hK1 <| Ws fun hK2 => zam fun Qe3 hB3 hO3 => Ws fun hK4 => ?_
 refine zai (fun a w => ∃ (y1 : Bool), zdf n p0 y1 = some res ∧ St 21 w0 f (L) [(0, .string (p0)), (3, .bool (y1))] a w) ?_ ?_
 ·clear hs hm
  rintro a w ⟨y1, hm, hs⟩
  unfold zdf at hm
  refine hK4 ?_
  refine zaf hs rfl (fun hg2 => ?_) (fun hg2 => ?_)
  ·replace hm := oc_t hg2 hm
   refine Wq fun hK5 => sM (v := .string (p0)) hs rfl fun hs => ?_
   obtain ⟨x3, hx4, hm⟩ := ob hm
   obtain ⟨⟨hlx3, hhx3, h1x3, h2x3⟩, hex3⟩ := zj6 hx4
   refine s1 hs (zk2 (lo := (2 : Int).toNat) (hi := (p0.size : Int).toNat) rfl Try.underlying9 (.inr ⟨_, rfl, by rw [← hlx3]; rfl⟩) (.inl ⟨rfl, by simp⟩) h1x3 h2x3) fun hs => ?_
   rw [hex3] at hs
   obtain ⟨x5, hx6, hm⟩ := ob hm
   refine s1 hs (zbd rfl has79 rfl (zle n (f := f)  hx6)) fun hs => sA (v := .string (x5)) hs rfl fun hs => za0 <| hK5 <| zau ?_
   obtain rfl := Option.some.inj hm
   refine RtV1 hs rfl (rv_t hs rfl) ?_
   exact ⟨rfl, (hs.weak hle).cw⟩
  replace hm := oc_f hg2 hm
  refine Wq fun hK6 => sM (v := .string (p0)) hs rfl fun hs => ?_
  obtain ⟨x7, hx8, hm⟩ := ob hm
  refine s1 hs (zbd rfl has78 rfl (zhq n (f := f)  hx8)) fun hs => sA (v := .bool (x7)) hs rfl fun hs => za0 <| hK6 ?_
  refine zaf hs rfl (fun hg9 => ?_) (fun hg9 => ?_)
  ·replace hm := oc_t hg9 hm
   refine Wq fun hK7 => sM (v := .string (p0)) hs rfl fun hs => ?_
   obtain ⟨x10, hx11, hm⟩ := ob hm
   obtain ⟨⟨hlx10, hhx10, h1x10, h2x10⟩, hex10⟩ := zj6 hx11
   refine s1 hs (zk2 (lo := (1 : Int).toNat) (hi := (p0.size : Int).toNat) rfl Try.underlying9 (.inr ⟨_, rfl, by rw [← hlx10]; rfl⟩) (.inl ⟨rfl, by simp⟩) h1x10 h2x10) fun hs => ?_
   rw [hex10] at hs
   obtain ⟨x12, hx13, hm⟩ := ob hm
   refine s1 hs (zbd rfl has79 rfl (zle n (f := f)  hx13)) fun hs => sA (v := .string (x12)) hs rfl fun hs => za0 <| hK7 <| zau ?_
   obtain rfl := Option.some.inj hm
   refine RtV1 hs rfl (rv_t hs rfl) ?_
   exact ⟨rfl, (hs.weak hle).cw⟩
  replace hm := oc_f hg9 hm
  refine zah <| hK2 <| Wq fun hK8 => sM (v := .string (p0)) hs rfl fun hs => ?_
  obtain ⟨x14, hx15, hm⟩ := ob hm
  refine s1 hs (zbd rfl has80 rfl (zrq n (f := f)  hx15)) fun hs => sA (v := .string (x14)) hs rfl fun hs => za0 <| hK8 <| zau ?_
  obtain rfl := Option.some.inj hm
  refine RtV1 hs rfl (rv_t hs rfl) ?_
  exact ⟨rfl, (hs.weak hle).cw⟩
 refine za7 <| sM (v := .string (p0)) hs rfl fun hs => ?_
 obtain ⟨x16, hx17, hm⟩ := ob hm
 refine s1 hs (zbd rfl has78 rfl (zhq n (f := f)  hx17)) fun hs => sM (v := .bool (x16)) hs rfl fun hs => ?_
 refine St.split hs (t := 6) rfl (fun hg18 hs => ?_) (fun hg18 hs => ?_)
 ·replace hm := oc_t hg18 hm
  refine s3 hs fun hs => s3 hs fun hs => sP (v := .bool (true)) hs rfl rfl fun hs => sA (v := .bool (true)) hs rfl fun hs => za0 ?_
  exact ⟨true, hm, hs.sub ⟨rfl, rfl, trivial⟩⟩
 replace hm := oc_f hg18 hm
 refine s2 (v := .string (p0)) hs (zaa rfl) fun hs => ?_
 obtain ⟨x19, hx20, hm⟩ := ob hm
 refine s2 hs (zbd rfl has78 rfl (zhq n (f := f)  hx20)) fun hs => sP (v := .bool (x19)) hs rfl rfl fun hs => sA (v := .bool (x19)) hs rfl fun hs => za0 ?_
 exact ⟨x19, hm, hs.sub ⟨rfl, rfl, trivial⟩⟩
def zhy (y10 : Bool) (y11 : (List Int)) : Option ByteArray :=
  some (bytesOf y11)
def zfi (lp28 : ByteArray → Bool → (List Int) → Option ByteArray) (y33 : ByteArray) (y34 : Bool) (y35 : (List Int)) : Option ByteArray :=
  lp28 y33 y34 y35
def zfh (n : Nat) (y21 : ByteArray) (y22 : Bool) (y23 : (List Int)) (lp28 : ByteArray → Bool → (List Int) → Option ByteArray) : Option ByteArray :=
  (getS y21 0).bind fun x43 =>
  (zhn n ({addr := y22, buf := y23} : Builder) x43).bind fun x45 =>
  (cutS y21 (1 : Int) (y21.size : Int)).bind fun x53 =>
  zfi lp28 x53 x45.addr x45.buf
def zgl (n : Nat) (y21 : ByteArray) (y22 : Bool) (y23 : (List Int)) (lp28 : ByteArray → Bool → (List Int) → Option ByteArray) : Option ByteArray :=
  zfh n y21 y22 y23 lp28
def zba (n : Nat) : Nat → ByteArray → Bool → (List Int) → Option ByteArray
  | 0, _, _, _ => none
  | k28 + 1, y21, y22, y23 =>
  (bif (decide (y21 ≠ (bs []))) then (getS y21 0).bind fun x41 =>
  (bif (decide (x41 = 38)) then (cutS y21 (0 : Int) (bif decide (12 < (y21.size : Int)) then 12 else (y21.size : Int))).bind fun x56 =>
  (zdc n x56 59).bind fun x58 =>
  (bif (decide (0 < x58)) then (cutS y21 (1 : Int) x58).bind fun x61 =>
  (zjv n x61).bind fun x63 =>
  (bif (decide (x63 ≠ (bs []))) then (zgh n ({addr := y22, buf := y23} : Builder) x63).bind fun x66 =>
  (cutS y21 ((w64 (x58 + 1)) : Int) (y21.size : Int)).bind fun x74 =>
  zfi (zba n k28) x74 x66.2.addr x66.2.buf else
  zgl n y21 y22 y23 (zba n k28)) else
  zgl n y21 y22 y23 (zba n k28)) else
  zfh n y21 y22 y23 (zba n k28)) else
  zhy y22 y23)
def zgd (n : Nat) (p0 : ByteArray) : Option ByteArray :=
  zba n n p0 false ([] : List Int)
theorem zlf (n : Nat) {f : Fz} {p0 : ByteArray} {res : ByteArray}  (hm : zgd n p0 = some res) : Gives Try.prog 35 [.string p0] f (.string res) := by
 unfold zgd at hm
 intro w0 L w hC
 refine enter Try.func35 rfl Try.ntmps35 (by simp) hC fun a hs => ?_
 have hle := Fz.le.refl f
 refine Wq fun hK1 => sA (v := .string ((bs []))) hs rfl fun hs => za0 <| hK1 <| Wq fun hK2 => zbt hs ti103 (.free rfl) (by decide) fun b1 _ _ hs => ?_
 replace hs := hs.nilRow 5 1
 have hW4 : RW (tInt .u8) f [] ([] : List Int) := trivial
 generalize hgrw5 : ([] : List (List Value)) = rw5 at hs hW4; clear hgrw5
 refine za0 <| hK2 <| Ws fun hK3 => ?_
 have hbase16 := Fz.le.refl f
 refine zai (fun a w => ∃ (f8 : Fz) (y10 : Bool) (y11 : (List Int)) (v12 : Value) (rw13 : List (List Value)), Fz.le f f8 ∧ zhy y10 y11 = some res ∧ RW (tInt .u8) f8 rw13 y11 ∧ St 37 w0 f8 (.row v12 5 1 rw13 :: .blk b1 (.cells #[baddr b1 y10, v12] 103 (0, 0)) :: L) [(3, .pointer (some ⟨b1, 0, none⟩))] a w) ?_ ?_
 ·clear hs hm
  clear hbase16
  rintro a w ⟨f8, y10, y11, v12, rw13, hl9, hm, hW14, hs⟩
  replace hW4 := hW4.le hl9
  replace hle := hle.trans hl9
  unfold zhy at hm
  refine hK3 <| Ws fun hK4 => za7 ?_
  replace hs := hs.front 0
  replace hs := hs.front 1
  refine zbx (Lr := [.blk b1 (.cells #[baddr b1 y10, v12] 103 (0, 0)), .row v12 5 1 rw13]) (Lf := L) hs rfl has65 rfl rfl (zob n (f := f8) (p0 := ({addr := y10, buf := y11} : Builder)) (pb := b1) (v := v12) (vr := rw13) hW14) (.free rfl) (by decide) ?_; clear hs; (try clear a w)
  rintro _ f17 _ a w hf18 ⟨rfl, rfl⟩ hs
  replace hW4 := hW4.le hf18
  replace hW14 := hW14.le hf18
  replace hle := hle.trans hf18
  refine sA (v := .string ((bytesOf y11))) hs rfl fun hs => za0 <| hK4 <| zau ?_
  obtain rfl := Option.some.inj hm
  refine RtV1 hs rfl (rv_t hs rfl) ?_
  exact ⟨rfl, (hs.weak hle).cw⟩
 refine zam fun Qe5 hB5 hO5 => ?_
 have hbase := Fz.le.refl f
 refine zcw (fun (k : Nat) a w => ∃ (f19 : Fz) (y21 : ByteArray) (y22 : Bool) (y23 : (List Int)) (v24 : Value) (rw25 : List (List Value)), Fz.le f f19 ∧ zba n k y21 y22 y23 = some res ∧ RW (tInt .u8) f19 rw25 y23 ∧ St 37 w0 f19 (.row v24 5 1 rw25 :: .blk b1 (.cells #[baddr b1 y22, v24] 103 (0, 0)) :: L) [(0, .string (y21)), (3, .pointer (some ⟨b1, 0, none⟩))] a w) (fun k => k) n ⟨_, p0, false, ([] : List Int), (.slice none 0 0), rw5, (Fz.le.refl _), hm, hW4, hs.sub ⟨rfl, rfl, trivial⟩⟩ ?_
 clear hs hm
 intro k
 rintro a w ⟨f19, y21, y22, y23, v24, rw25, hl20, hm, hW26, hs⟩
 replace hW4 := hW4.le hl20
 replace hle := hle.trans hl20
 replace hbase16 := hbase16.trans hl20
 intro K6 hK6
 cases k with
 | zero => simp [zba] at hm
 | succ k28 =>
  rw [zba] at hm
  have hbase29 := hl20
  refine Ws fun hK7 => Wq fun hK8 => sM (v := .string (y21)) hs rfl fun hs => s1 hs (zlm rfl rfl) fun hs => za0 <| hK8 ?_
  refine zaf hs rfl (fun hg30 => ?_) (fun hg30 => ?_)
  ·replace hm := oc_t hg30 hm
   refine zah <| hK7 ?_
   have hbase40 := Fz.le.refl f19
   refine zai (fun a w => ∃ (f31 : Fz) (y33 : ByteArray) (y34 : Bool) (y35 : (List Int)) (v36 : Value) (rw37 : List (List Value)), Fz.le f19 f31 ∧ zfi (zba n k28) y33 y34 y35 = some res ∧ RW (tInt .u8) f31 rw37 y35 ∧ St 37 w0 f31 (.row v36 5 1 rw37 :: .blk b1 (.cells #[baddr b1 y34, v36] 103 (0, 0)) :: L) [(0, .string (y33)), (3, .pointer (some ⟨b1, 0, none⟩))] a w) ?_ ?_
   ·clear hs hm
    clear hbase40
    rintro a w ⟨f31, y33, y34, y35, v36, rw37, hl32, hm, hW38, hs⟩
    replace hW4 := hW4.le hl32
    replace hW26 := hW26.le hl32
    replace hle := hle.trans hl32
    replace hbase16 := hbase16.trans hl32
    replace hbase29 := hbase29.trans hl32
    unfold zfi at hm
    exact hK6 k28 _ _ (Nat.lt_succ_self _) ⟨_, y33, y34, y35, v36, rw37, hbase29, hm, hW38, hs.sub ⟨rfl, rfl, trivial⟩⟩
   refine zam fun Qe9 hB9 hO9 => Ws fun hK10 => Wq fun hK11 => sM (v := .string (y21)) hs rfl fun hs => ?_
   obtain ⟨x41, hx42, hm⟩ := ob hm
   refine s1 hs (y_ixW rfl rfl Try.underlying9 hx42) fun hs => s1 hs (zd3 rfl rfl) fun hs => za0 <| hK11 ?_
   refine zai (fun a w => zfh n y21 y22 y23 (zba n k28) = some res ∧ St 37 w0 f19 (.row v24 5 1 rw25 :: .blk b1 (.cells #[baddr b1 y22, v24] 103 (0, 0)) :: L) [(0, .string (y21)), (3, .pointer (some ⟨b1, 0, none⟩))] a w) ?_ ?_
   ·clear hs hm
    rintro a w ⟨hm, hs⟩
    unfold zfh at hm
    refine hK10 <| Wq fun hK12 => sM (v := .string (y21)) hs rfl fun hs => ?_
    obtain ⟨x43, hx44, hm⟩ := ob hm
    refine s1 hs (y_ixW rfl rfl Try.underlying9 hx44) fun hs => ?_
    obtain ⟨x45, hx46, hm⟩ := ob hm
    replace hs := hs.front 0
    replace hs := hs.front 1
    refine zbx (Lr := [.blk b1 (.cells #[baddr b1 y22, v24] 103 (0, 0)), .row v24 5 1 rw25]) (Lf := L) hs rfl has64 rfl rfl (zmj n (f := f19) (p0 := ({addr := y22, buf := y23} : Builder)) (pb := b1) (v := v24) (vr := rw25) hW26 hx46) (.free rfl) (by decide) ?_; clear hs; (try clear a w)
    rintro _ f47 _ a w hf48 ⟨v49, rw50, rfl, rfl, hW51⟩ hs
    replace hW4 := hW4.le hf48
    replace hW26 := hW26.le hf48
    replace hle := hle.trans hf48
    replace hbase16 := hbase16.trans hf48
    replace hbase29 := hbase29.trans hf48
    replace hbase40 := hbase40.trans hf48
    refine za0 <| hK12 <| za7 <| sM (v := .string (y21)) hs rfl fun hs => ?_
    obtain ⟨x53, hx54, hm⟩ := ob hm
    obtain ⟨⟨hlx53, hhx53, h1x53, h2x53⟩, hex53⟩ := zj6 hx54
    refine s1 hs (zk2 (lo := (1 : Int).toNat) (hi := (y21.size : Int).toNat) rfl Try.underlying9 (.inr ⟨_, rfl, by rw [← hlx53]; rfl⟩) (.inl ⟨rfl, by simp⟩) h1x53 h2x53) fun hs => ?_
    rw [hex53] at hs
    refine sA (v := .string (x53)) hs rfl fun hs => za0 ?_
    replace hs := hs.front 1
    exact ⟨_, x53, x45.addr, x45.buf, v49, rw50, hbase40, hm, hW51, hs.sub ⟨rfl, rfl, trivial⟩⟩
   refine zaf hs rfl (fun hg55 => ?_) (fun hg55 => ?_)
   ·replace hm := oc_t hg55 hm
    refine Wq fun hK13 => sM (v := .string (y21)) hs rfl fun hs => sM (v := .string (y21)) hs rfl fun hs => s1 hs (zn6 rfl Try.underlying9) fun hs => s1 hs (y_min2 rfl rfl) fun hs => ?_
    obtain ⟨x56, hx57, hm⟩ := ob hm
    obtain ⟨⟨hlx56, hhx56, h1x56, h2x56⟩, hex56⟩ := zj6 hx57
    refine s1 hs (zk2 (lo := (0 : Int).toNat) (hi := (bif decide (12 < (y21.size : Int)) then 12 else (y21.size : Int)).toNat) rfl Try.underlying9 (.inl ⟨rfl, rfl⟩) (.inr ⟨_, rfl, by rw [← hhx56]; rfl⟩) h1x56 h2x56) fun hs => ?_
    rw [hex56] at hs
    obtain ⟨x58, hx59, hm⟩ := ob hm
    refine s1 hs (zbd rfl has61 rfl (zjd n (f := f19)  hx59)) fun hs => sA (v := .int .i64 (x58)) hs rfl fun hs => za0 <| hK13 <| Wq fun hK14 => sM (v := .int .i64 (x58)) hs rfl fun hs => s1 hs (zis rfl rfl) fun hs => za0 <| hK14 ?_
    refine zai (fun a w => zgl n y21 y22 y23 (zba n k28) = some res ∧ St 37 w0 f19 (.row v24 5 1 rw25 :: .blk b1 (.cells #[baddr b1 y22, v24] 103 (0, 0)) :: L) [(0, .string (y21)), (3, .pointer (some ⟨b1, 0, none⟩))] a w) ?_ ?_
    ·clear hs hm
     rintro a w ⟨hm, hs⟩
     unfold zgl at hm
     exact ⟨hm, hs.sub ⟨rfl, rfl, trivial⟩⟩
    refine zaf hs rfl (fun hg60 => ?_) (fun hg60 => ?_)
    ·replace hm := oc_t hg60 hm
     refine Wq fun hK15 => sM (v := .string (y21)) hs rfl fun hs => sM (v := .int .i64 (x58)) hs rfl fun hs => ?_
     obtain ⟨x61, hx62, hm⟩ := ob hm
     obtain ⟨⟨hlx61, hhx61, h1x61, h2x61⟩, hex61⟩ := zj6 hx62
     refine s1 hs (zk2 (lo := (1 : Int).toNat) (hi := x58.toNat) rfl Try.underlying9 (.inr ⟨_, rfl, by rw [← hlx61]; rfl⟩) (.inr ⟨_, rfl, by rw [← hhx61]; rfl⟩) h1x61 h2x61) fun hs => ?_
     rw [hex61] at hs
     obtain ⟨x63, hx64, hm⟩ := ob hm
     refine s1 hs (zbd rfl has62 rfl (zq7 n (f := f19)  hx64)) fun hs => sA (v := .string (x63)) hs rfl fun hs => za0 <| hK15 <| Wq fun hK16 => sM (v := .string (x63)) hs rfl fun hs => s1 hs (zlm rfl rfl) fun hs => za0 <| hK16 ?_
     refine zaf hs rfl (fun hg65 => ?_) (fun hg65 => ?_)
     ·replace hm := oc_t hg65 hm
      refine Wq fun hK17 => sM (v := .string (x63)) hs rfl fun hs => ?_
      obtain ⟨x66, hx67, hm⟩ := ob hm
      replace hs := hs.front 0
      replace hs := hs.front 1
      refine zbx (Lr := [.blk b1 (.cells #[baddr b1 y22, v24] 103 (0, 0)), .row v24 5 1 rw25]) (Lf := L) hs rfl has63 rfl rfl (zlk n (f := f19) (p0 := ({addr := y22, buf := y23} : Builder)) (pb := b1) (v := v24) (vr := rw25) hW26 hx67) (.free rfl) (by decide) ?_; clear hs; (try clear a w)
      rintro _ f68 _ a w hf69 ⟨v70, rw71, rfl, rfl, hW72⟩ hs
      replace hW4 := hW4.le hf69
      replace hW26 := hW26.le hf69
      replace hle := hle.trans hf69
      replace hbase16 := hbase16.trans hf69
      replace hbase29 := hbase29.trans hf69
      replace hbase40 := hbase40.trans hf69
      refine za0 <| hK17 <| Wq fun hK18 => sM (v := .string (y21)) hs rfl fun hs => sM (v := .int .i64 (x58)) hs rfl fun hs => s1 hs (zeq rfl rfl rfl) fun hs => ?_
      obtain ⟨x74, hx75, hm⟩ := ob hm
      obtain ⟨⟨hlx74, hhx74, h1x74, h2x74⟩, hex74⟩ := zj6 hx75
      refine s1 hs (zk2 (lo := ((w64 (x58 + 1)) : Int).toNat) (hi := (y21.size : Int).toNat) rfl Try.underlying9 (.inr ⟨_, rfl, by rw [← hlx74]; rfl⟩) (.inl ⟨rfl, by simp⟩) h1x74 h2x74) fun hs => ?_
      rw [hex74] at hs
      refine sA (v := .string (x74)) hs rfl fun hs => za0 <| hK18 <| zc9 <| hB9 _ _ ?_
      replace hs := hs.front 1
      exact ⟨_, x74, x66.2.addr, x66.2.buf, v70, rw71, hbase40, hm, hW72, hs.sub ⟨rfl, rfl, trivial⟩⟩
     replace hm := oc_f hg65 hm
     refine zah ?_
     exact ⟨hm, hs.sub ⟨rfl, rfl, trivial⟩⟩
    replace hm := oc_f hg60 hm
    refine zah ?_
    exact ⟨hm, hs.sub ⟨rfl, rfl, trivial⟩⟩
   replace hm := oc_f hg55 hm
   refine zah ?_
   exact ⟨hm, hs.sub ⟨rfl, rfl, trivial⟩⟩
  replace hm := oc_f hg30 hm
  refine zc9 <| hB5 _ _ ?_
  exact ⟨_, y22, y23, v24, rw25, hbase16, hm, hW26, hs.sub ⟨rfl, trivial⟩⟩
end Go.Proofs.Ytklcdfnhdljkjaa
