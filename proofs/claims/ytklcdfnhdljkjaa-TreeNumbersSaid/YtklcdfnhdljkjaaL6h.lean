/-
  Walks and laws of this seat.
-/
import Derived.Test.YtklcdfnhdljkjaaBasg
import Derived.Test.YtklcdfnhdljkjaaY6
import Derived.Test.YtklcdfnhdljkjaaRows
namespace Go.Proofs.Ytklcdfnhdljkjaa
set_option linter.unusedVariables false
set_option linter.unusedSimpArgs false
set_option maxHeartbeats 4000000
set_option maxRecDepth 100000
open Go.RowKit Go.Sl
def zhb : Option Bool :=
  some true
def zc2 (p0 : (List za9)) (p1 : (List za9)) : Nat → Int → Option Bool
  | 0, _ => none
  | k11 + 1, y10 =>
  (bif (decide (y10 < (p0.length : Int))) then (geti p0 y10).bind fun x13 =>
  (geti p1 y10).bind fun x20 =>
  (bif (!(decide (x13.Name = x20.Name) && (decide (x13.Value = x20.Value) && true))) then some false else
  (zc2 p0 p1 k11) (w64 (y10 + 1))) else
  zhb)
def zgw (n : Nat) (p0 : (List za9)) (p1 : (List za9)) : Option Bool :=
  (bif (decide ((p0.length : Int) ≠ (p1.length : Int))) then some false else
  zc2 p0 p1 n 0)
theorem zm0 (n : Nat) {f : Fz} {p0 : (List za9)} {a0 : Value} {p1 : (List za9)} {a1 : Value} {res : Bool} (h0 : RS zcb f a0 p0) (h1 : RS zcb f a1 p1) (hm : zgw n p0 p1 = some res) : Gives Try.prog 42 [a0, a1] f (.bool res) := by
 unfold zgw at hm
 intro w0 L w hC
 obtain ⟨rw1, hR2, hW3⟩ := h0
 obtain ⟨rw5, hR6, hW7⟩ := h1
 refine enter Try.func42 rfl Try.ntmps42 (by simp) hC fun a hs => ?_
 have hle := Fz.le.refl f
 refine Wq fun hK1 => sA (v := .bool (false)) hs rfl fun hs => za0 <| hK1 <| Ws fun hK2 => Wq fun hK3 => sM (v := a0) hs rfl fun hs => s1 hs (zb7 hR2 hW3 rfl Try.underlying34) fun hs => ?_
 refine sM (v := a1) hs rfl fun hs => s1 hs (zb7 hR6 hW7 rfl Try.underlying34) fun hs => s1 hs (zez rfl rfl) fun hs => za0 <| hK3 ?_
 refine zaf hs rfl (fun hg9 => ?_) (fun hg9 => ?_)
 ·replace hm := oc_t hg9 hm
  refine Wq fun hK4 => sA (v := .bool (false)) hs rfl fun hs => za0 <| hK4 <| zau ?_
  obtain rfl := Option.some.inj hm
  refine RtV1 hs rfl (rv_t hs rfl) ?_
  exact ⟨rfl, (hs.weak hle).cw⟩
 replace hm := oc_f hg9 hm
 refine zah <| hK2 <| Ws fun hK5 => Wq fun hK6 => sA (v := .int .i64 (0)) hs rfl fun hs => za0 <| hK6 ?_
 refine zai (fun a w => zhb = some res ∧ St 26 w0 f (L) [] a w) ?_ ?_
 ·clear hs hm
  rintro a w ⟨hm, hs⟩
  unfold zhb at hm
  refine hK5 <| Wq fun hK7 => sA (v := .bool (true)) hs rfl fun hs => za0 <| hK7 <| zau ?_
  obtain rfl := Option.some.inj hm
  refine RtV1 hs rfl (rv_t hs rfl) ?_
  exact ⟨rfl, (hs.weak hle).cw⟩
 refine zam fun Qe8 hB8 hO8 => zcw (fun (k : Nat) a w => ∃ (y10 : Int), zc2 p0 p1 k y10 = some res ∧ St 26 w0 f (L) [(0, a0), (1, a1), (5, .int .i64 (y10))] a w) (fun k => k) n ⟨0, hm, hs.sub ⟨rfl, rfl, rfl, trivial⟩⟩ ?_
 clear hs hm
 intro k
 rintro a w ⟨y10, hm, hs⟩
 intro K9 hK9
 cases k with
 | zero => simp [zc2] at hm
 | succ k11 =>
  rw [zc2] at hm
  refine Ws fun hK10 => Wq fun hK11 => sM (v := .int .i64 (y10)) hs rfl fun hs => sM (v := a0) hs rfl fun hs => s1 hs (zb7 hR2 hW3 rfl Try.underlying34) fun hs => s1 hs (zg7 rfl rfl) fun hs => za0 <| hK11 ?_
  refine zaf hs rfl (fun hg12 => ?_) (fun hg12 => ?_)
  ·replace hm := oc_t hg12 hm
   refine zah <| hK10 <| Ws fun hK12 => zam fun Qe13 hB13 hO13 => Ws fun hK14 => ?_
   refine zk7 hs mixed (by kernel_rfl) ?_; intro a he
   refine qy (v := a0) he (zaa rfl) fun _ he => qy (v := .int .i64 (y10)) he (zaa rfl) fun _ he => ?_
   obtain ⟨x13, hx14, hm⟩ := ob hm
   obtain ⟨r15, hr16, hq17, hi18, hb19⟩ := hW3.geti hx14
   obtain rfl : _ = ([.string (x13.Name), .string (x13.Value)] : List Value) := hq17
   refine qy he (za8 hR2 rfl rfl hi18 hb19 Try.underlying34 ti84) fun _ he => qy he (zfm hR2.up rfl hr16 Try.underlying84 rfl ti84) fun _ he => qy (v := a1) he (zaa rfl) fun _ he => qy (v := .int .i64 (y10)) he (zaa rfl) fun _ he => ?_
   obtain ⟨x20, hx21, hm⟩ := ob hm
   obtain ⟨r22, hr23, hq24, hi25, hb26⟩ := hW7.geti hx21
   obtain rfl : _ = ([.string (x20.Name), .string (x20.Value)] : List Value) := hq24
   refine qy he (za8 hR6 rfl rfl hi25 hb26 Try.underlying34 ti84) fun _ he => qy he (zfm hR6.up rfl hr23 Try.underlying84 rfl ti84) fun _ he => qy he (y_stneq rfl rfl Try.underlying84 (by kernel_rfl) (by kernel_rfl) (fun w => (eqF_str rfl Try.underlying9 rfl rfl (eqF_str rfl Try.underlying9 rfl rfl eqF_nil)))) fun _ he => ?_
   refine zgy he ?_; clear he; (try clear hs); (try clear a); intro a w hs
   refine hK14 ?_
   refine zaf hs rfl (fun hg27 => ?_) (fun hg27 => ?_)
   ·replace hm := oc_t hg27 hm
    refine Wq fun hK15 => sA (v := .bool (false)) hs rfl fun hs => za0 <| hK15 <| zau ?_
    obtain rfl := Option.some.inj hm
    refine RtV1 hs rfl (rv_t hs rfl) ?_
    exact ⟨rfl, (hs.weak hle).cw⟩
   replace hm := oc_f hg27 hm
   refine zah <| hK12 <| za7 <| sM (v := .int .i64 (y10)) hs rfl fun hs => s1 hs (zeq rfl rfl rfl) fun hs => sA (v := .int .i64 ((w64 (y10 + 1)))) hs rfl fun hs => za0 ?_
   exact hK9 k11 _ _ (Nat.lt_succ_self _) ⟨(w64 (y10 + 1)), hm, hs.sub ⟨rfl, rfl, rfl, trivial⟩⟩
  replace hm := oc_f hg12 hm
  refine zc9 <| hB8 _ _ ?_
  exact ⟨hm, hs.sub trivial⟩
def zbv (y15 : Bool) : Option Bool :=
  some y15
def zij (n : Nat) (p0 : zac) (p1 : zac) : Option Bool :=
  (bif (decide (p0.Kind = p1.Kind)) then (bif (decide (p0.Name = p1.Name)) then (bif (decide (p0.Text = p1.Text)) then (zgw n p0.Attrs p1.Attrs).bind fun x19 =>
  (bif x19 then (bif (decide (p0.Parent = p1.Parent)) then (bif (decide (p0.First = p1.First)) then (bif (decide (p0.Last = p1.Last)) then (bif (decide (p0.Prev = p1.Prev)) then zbv (decide (p0.Next = p1.Next)) else
  zbv false) else
  zbv false) else
  zbv false) else
  zbv false) else
  zbv false) else
  zbv false) else
  zbv false) else
  zbv false)
theorem zou (n : Nat) {f : Fz} {p0 : zac} {a0 : List Value} {p1 : zac} {a1 : List Value} {res : Bool} (h0 : zbw.R f a0 p0) (h1 : zbw.R f a1 p1) (hm : zij n p0 p1 = some res) : Gives Try.prog 20 [.agg a0.toArray, .agg a1.toArray] f (.bool res) := by
 unfold zij at hm
 intro w0 L w hC
 obtain ⟨v1, rfl, ⟨rw2, hR3, hW4⟩⟩ := h0
 obtain ⟨v6, rfl, ⟨rw7, hR8, hW9⟩⟩ := h1
 refine enter Try.func20 rfl Try.ntmps20 (by simp) hC fun a hs => ?_
 have hle := Fz.le.refl f
 refine Wq fun hK1 => sbox hs rfl fun b11 _ _ hs => sbox hs rfl fun b13 _ _ hs => sA (v := .bool (false)) hs rfl fun hs => za0 <| hK1 <| Ws fun hK2 => ?_
 refine zai (fun a w => ∃ (y15 : Bool), zbv y15 = some res ∧ St 66 w0 f (L) [(4, .bool (y15))] a w) ?_ ?_
 ·clear hs hm
  rintro a w ⟨y15, hm, hs⟩
  unfold zbv at hm
  refine hK2 <| zau ?_
  obtain rfl := Option.some.inj hm
  refine RtV1 hs rfl (rv_t hs rfl) ?_
  exact ⟨rfl, (hs.weak hle).cw⟩
 refine za7 <| s1 (v := .pointer (some ⟨b11, 0, none⟩)) hs (za1 rfl (FO.of (off := 0) Try.underlying36 rfl rfl ti3 (by decide))) fun hs => s1 (v := .int .i64 (p0.Kind)) hs (y_ld rfl Try.underlying3 rfl (Cell.blk (.tail _ (.head _)) rfl)) fun hs => s1 (v := .pointer (some ⟨b13, 0, none⟩)) hs (za1 rfl (FO.of (off := 0) Try.underlying36 rfl rfl ti3 (by decide))) fun hs => s1 (v := .int .i64 (p1.Kind)) hs (y_ld rfl Try.underlying3 rfl (Cell.blk (.head _) rfl)) fun hs => s1 hs (zd3 rfl rfl) fun hs => sM (v := .bool (decide (p0.Kind = p1.Kind))) hs rfl fun hs => ?_
 refine St.split hs (t := 10) rfl (fun hg16 hs => ?_) (fun hg16 hs => ?_)
 ·replace hm := oc_t hg16 hm
  refine s2 (v := .pointer (some ⟨b11, 1, none⟩)) hs (za1 rfl (FO.of (off := 1) Try.underlying36 rfl rfl ti9 (by decide))) fun hs => s2 (v := .string (p0.Name)) hs (y_ld rfl Try.underlying9 rfl (Cell.blk (.tail _ (.head _)) rfl)) fun hs => s2 (v := .pointer (some ⟨b13, 1, none⟩)) hs (za1 rfl (FO.of (off := 1) Try.underlying36 rfl rfl ti9 (by decide))) fun hs => s2 (v := .string (p1.Name)) hs (y_ld rfl Try.underlying9 rfl (Cell.blk (.head _) rfl)) fun hs => s2 hs (zd9 rfl rfl) fun hs => sP (v := .bool (decide (p0.Name = p1.Name))) hs rfl rfl fun hs => sM (v := .bool (decide (p0.Name = p1.Name))) hs rfl fun hs => ?_
  refine St.split hs (t := 17) rfl (fun hg17 hs => ?_) (fun hg17 hs => ?_)
  ·replace hm := oc_t hg17 hm
   refine s2 (v := .pointer (some ⟨b11, 2, none⟩)) hs (za1 rfl (FO.of (off := 2) Try.underlying36 rfl rfl ti9 (by decide))) fun hs => s2 (v := .string (p0.Text)) hs (y_ld rfl Try.underlying9 rfl (Cell.blk (.tail _ (.head _)) rfl)) fun hs => s2 (v := .pointer (some ⟨b13, 2, none⟩)) hs (za1 rfl (FO.of (off := 2) Try.underlying36 rfl rfl ti9 (by decide))) fun hs => s2 (v := .string (p1.Text)) hs (y_ld rfl Try.underlying9 rfl (Cell.blk (.head _) rfl)) fun hs => s2 hs (zd9 rfl rfl) fun hs => sP (v := .bool (decide (p0.Text = p1.Text))) hs rfl rfl fun hs => sM (v := .bool (decide (p0.Text = p1.Text))) hs rfl fun hs => ?_
   refine St.split hs (t := 24) rfl (fun hg18 hs => ?_) (fun hg18 hs => ?_)
   ·replace hm := oc_t hg18 hm
    refine s2 (v := .pointer (some ⟨b11, 3, none⟩)) hs (za1 rfl (FO.of (off := 3) Try.underlying36 rfl rfl ti34 (by decide))) fun hs => s2 (v := v1) hs (y_ld rfl Try.underlying34 rfl (Cell.blk (.tail _ (.head _)) rfl)) fun hs => s2 (v := .pointer (some ⟨b13, 3, none⟩)) hs (za1 rfl (FO.of (off := 3) Try.underlying36 rfl rfl ti34 (by decide))) fun hs => s2 (v := v6) hs (y_ld rfl Try.underlying34 rfl (Cell.blk (.head _) rfl)) fun hs => ?_
    obtain ⟨x19, hx20, hm⟩ := ob hm
    refine s2 hs (zbd rfl has42 rfl (zm0 n (f := f) (a0 := v1) (a1 := v6) ⟨rw2, hR3, hW4⟩ ⟨rw7, hR8, hW9⟩ hx20)) fun hs => sP (v := .bool (x19)) hs rfl rfl fun hs => sM (v := .bool (x19)) hs rfl fun hs => ?_
    refine St.split hs (t := 31) rfl (fun hg21 hs => ?_) (fun hg21 hs => ?_)
    ·replace hm := oc_t hg21 hm
     refine s2 (v := .pointer (some ⟨b11, 4, none⟩)) hs (za1 rfl (FO.of (off := 4) Try.underlying36 rfl rfl ti3 (by decide))) fun hs => s2 (v := .int .i64 (p0.Parent)) hs (y_ld rfl Try.underlying3 rfl (Cell.blk (.tail _ (.head _)) rfl)) fun hs => s2 (v := .pointer (some ⟨b13, 4, none⟩)) hs (za1 rfl (FO.of (off := 4) Try.underlying36 rfl rfl ti3 (by decide))) fun hs => s2 (v := .int .i64 (p1.Parent)) hs (y_ld rfl Try.underlying3 rfl (Cell.blk (.head _) rfl)) fun hs => s2 hs (zd3 rfl rfl) fun hs => sP (v := .bool (decide (p0.Parent = p1.Parent))) hs rfl rfl fun hs => sM (v := .bool (decide (p0.Parent = p1.Parent))) hs rfl fun hs => ?_
     refine St.split hs (t := 38) rfl (fun hg22 hs => ?_) (fun hg22 hs => ?_)
     ·replace hm := oc_t hg22 hm
      refine s2 (v := .pointer (some ⟨b11, 5, none⟩)) hs (za1 rfl (FO.of (off := 5) Try.underlying36 rfl rfl ti3 (by decide))) fun hs => s2 (v := .int .i64 (p0.First)) hs (y_ld rfl Try.underlying3 rfl (Cell.blk (.tail _ (.head _)) rfl)) fun hs => s2 (v := .pointer (some ⟨b13, 5, none⟩)) hs (za1 rfl (FO.of (off := 5) Try.underlying36 rfl rfl ti3 (by decide))) fun hs => s2 (v := .int .i64 (p1.First)) hs (y_ld rfl Try.underlying3 rfl (Cell.blk (.head _) rfl)) fun hs => s2 hs (zd3 rfl rfl) fun hs => sP (v := .bool (decide (p0.First = p1.First))) hs rfl rfl fun hs => sM (v := .bool (decide (p0.First = p1.First))) hs rfl fun hs => ?_
      refine St.split hs (t := 45) rfl (fun hg23 hs => ?_) (fun hg23 hs => ?_)
      ·replace hm := oc_t hg23 hm
       refine s2 (v := .pointer (some ⟨b11, 6, none⟩)) hs (za1 rfl (FO.of (off := 6) Try.underlying36 rfl rfl ti3 (by decide))) fun hs => s2 (v := .int .i64 (p0.Last)) hs (y_ld rfl Try.underlying3 rfl (Cell.blk (.tail _ (.head _)) rfl)) fun hs => s2 (v := .pointer (some ⟨b13, 6, none⟩)) hs (za1 rfl (FO.of (off := 6) Try.underlying36 rfl rfl ti3 (by decide))) fun hs => s2 (v := .int .i64 (p1.Last)) hs (y_ld rfl Try.underlying3 rfl (Cell.blk (.head _) rfl)) fun hs => s2 hs (zd3 rfl rfl) fun hs => sP (v := .bool (decide (p0.Last = p1.Last))) hs rfl rfl fun hs => sM (v := .bool (decide (p0.Last = p1.Last))) hs rfl fun hs => ?_
       refine St.split hs (t := 52) rfl (fun hg24 hs => ?_) (fun hg24 hs => ?_)
       ·replace hm := oc_t hg24 hm
        refine s2 (v := .pointer (some ⟨b11, 7, none⟩)) hs (za1 rfl (FO.of (off := 7) Try.underlying36 rfl rfl ti3 (by decide))) fun hs => s2 (v := .int .i64 (p0.Prev)) hs (y_ld rfl Try.underlying3 rfl (Cell.blk (.tail _ (.head _)) rfl)) fun hs => s2 (v := .pointer (some ⟨b13, 7, none⟩)) hs (za1 rfl (FO.of (off := 7) Try.underlying36 rfl rfl ti3 (by decide))) fun hs => s2 (v := .int .i64 (p1.Prev)) hs (y_ld rfl Try.underlying3 rfl (Cell.blk (.head _) rfl)) fun hs => s2 hs (zd3 rfl rfl) fun hs => sP (v := .bool (decide (p0.Prev = p1.Prev))) hs rfl rfl fun hs => sM (v := .bool (decide (p0.Prev = p1.Prev))) hs rfl fun hs => ?_
        refine St.split hs (t := 59) rfl (fun hg25 hs => ?_) (fun hg25 hs => ?_)
        ·replace hm := oc_t hg25 hm
         refine s2 (v := .pointer (some ⟨b11, 8, none⟩)) hs (za1 rfl (FO.of (off := 8) Try.underlying36 rfl rfl ti3 (by decide))) fun hs => s2 (v := .int .i64 (p0.Next)) hs (y_ld rfl Try.underlying3 rfl (Cell.blk (.tail _ (.head _)) rfl)) fun hs => s2 (v := .pointer (some ⟨b13, 8, none⟩)) hs (za1 rfl (FO.of (off := 8) Try.underlying36 rfl rfl ti3 (by decide))) fun hs => s2 (v := .int .i64 (p1.Next)) hs (y_ld rfl Try.underlying3 rfl (Cell.blk (.head _) rfl)) fun hs => s2 hs (zd3 rfl rfl) fun hs => sP (v := .bool (decide (p0.Next = p1.Next))) hs rfl rfl fun hs => sA (v := .bool (decide (p0.Next = p1.Next))) hs rfl fun hs => za0 ?_
         exact ⟨decide (p0.Next = p1.Next), hm, hs.subs ⟨rfl, trivial⟩ (.cons _ (.cons _ (.refl _)))⟩
        replace hm := oc_f hg25 hm
        refine s3 hs fun hs => s3 hs fun hs => s3 hs fun hs => s3 hs fun hs => s3 hs fun hs => sP (v := .bool (false)) hs rfl rfl fun hs => sA (v := .bool (false)) hs rfl fun hs => za0 ?_
        exact ⟨false, hm, hs.subs ⟨rfl, trivial⟩ (.cons _ (.cons _ (.refl _)))⟩
       replace hm := oc_f hg24 hm
       refine s3 hs fun hs => s3 hs fun hs => s3 hs fun hs => s3 hs fun hs => s3 hs fun hs => sP (v := .bool (false)) hs rfl rfl fun hs => sM (v := .bool (false)) hs rfl fun hs => s3 hs fun hs => s3 hs fun hs => s3 hs fun hs => ?_
       refine s3 hs fun hs => s3 hs fun hs => sP (v := .bool (false)) hs rfl rfl fun hs => sA (v := .bool (false)) hs rfl fun hs => za0 ?_
       exact ⟨false, hm, hs.subs ⟨rfl, trivial⟩ (.cons _ (.cons _ (.refl _)))⟩
      replace hm := oc_f hg23 hm
      refine s3 hs fun hs => s3 hs fun hs => s3 hs fun hs => s3 hs fun hs => s3 hs fun hs => sP (v := .bool (false)) hs rfl rfl fun hs => sM (v := .bool (false)) hs rfl fun hs => s3 hs fun hs => s3 hs fun hs => s3 hs fun hs => ?_
      refine s3 hs fun hs => s3 hs fun hs => sP (v := .bool (false)) hs rfl rfl fun hs => sM (v := .bool (false)) hs rfl fun hs => s3 hs fun hs => s3 hs fun hs => s3 hs fun hs => s3 hs fun hs => s3 hs fun hs => sP (v := .bool (false)) hs rfl rfl fun hs => ?_
      refine sA (v := .bool (false)) hs rfl fun hs => za0 ?_
      exact ⟨false, hm, hs.subs ⟨rfl, trivial⟩ (.cons _ (.cons _ (.refl _)))⟩
     replace hm := oc_f hg22 hm
     refine s3 hs fun hs => s3 hs fun hs => s3 hs fun hs => s3 hs fun hs => s3 hs fun hs => sP (v := .bool (false)) hs rfl rfl fun hs => sM (v := .bool (false)) hs rfl fun hs => s3 hs fun hs => s3 hs fun hs => s3 hs fun hs => ?_
     refine s3 hs fun hs => s3 hs fun hs => sP (v := .bool (false)) hs rfl rfl fun hs => sM (v := .bool (false)) hs rfl fun hs => s3 hs fun hs => s3 hs fun hs => s3 hs fun hs => s3 hs fun hs => s3 hs fun hs => sP (v := .bool (false)) hs rfl rfl fun hs => ?_
     refine sM (v := .bool (false)) hs rfl fun hs => s3 hs fun hs => s3 hs fun hs => s3 hs fun hs => s3 hs fun hs => s3 hs fun hs => sP (v := .bool (false)) hs rfl rfl fun hs => sA (v := .bool (false)) hs rfl fun hs => za0 ?_
     exact ⟨false, hm, hs.subs ⟨rfl, trivial⟩ (.cons _ (.cons _ (.refl _)))⟩
    replace hm := oc_f hg21 hm
    refine s3 hs fun hs => s3 hs fun hs => s3 hs fun hs => s3 hs fun hs => s3 hs fun hs => sP (v := .bool (false)) hs rfl rfl fun hs => sM (v := .bool (false)) hs rfl fun hs => s3 hs fun hs => s3 hs fun hs => s3 hs fun hs => ?_
    refine s3 hs fun hs => s3 hs fun hs => sP (v := .bool (false)) hs rfl rfl fun hs => sM (v := .bool (false)) hs rfl fun hs => s3 hs fun hs => s3 hs fun hs => s3 hs fun hs => s3 hs fun hs => s3 hs fun hs => sP (v := .bool (false)) hs rfl rfl fun hs => ?_
    refine sM (v := .bool (false)) hs rfl fun hs => s3 hs fun hs => s3 hs fun hs => s3 hs fun hs => s3 hs fun hs => s3 hs fun hs => sP (v := .bool (false)) hs rfl rfl fun hs => sM (v := .bool (false)) hs rfl fun hs => s3 hs fun hs => s3 hs fun hs => ?_
    refine s3 hs fun hs => s3 hs fun hs => s3 hs fun hs => sP (v := .bool (false)) hs rfl rfl fun hs => sA (v := .bool (false)) hs rfl fun hs => za0 ?_
    exact ⟨false, hm, hs.subs ⟨rfl, trivial⟩ (.cons _ (.cons _ (.refl _)))⟩
   replace hm := oc_f hg18 hm
   refine s3 hs fun hs => s3 hs fun hs => s3 hs fun hs => s3 hs fun hs => s3 hs fun hs => sP (v := .bool (false)) hs rfl rfl fun hs => sM (v := .bool (false)) hs rfl fun hs => s3 hs fun hs => s3 hs fun hs => s3 hs fun hs => ?_
   refine s3 hs fun hs => s3 hs fun hs => sP (v := .bool (false)) hs rfl rfl fun hs => sM (v := .bool (false)) hs rfl fun hs => s3 hs fun hs => s3 hs fun hs => s3 hs fun hs => s3 hs fun hs => s3 hs fun hs => sP (v := .bool (false)) hs rfl rfl fun hs => ?_
   refine sM (v := .bool (false)) hs rfl fun hs => s3 hs fun hs => s3 hs fun hs => s3 hs fun hs => s3 hs fun hs => s3 hs fun hs => sP (v := .bool (false)) hs rfl rfl fun hs => sM (v := .bool (false)) hs rfl fun hs => s3 hs fun hs => s3 hs fun hs => ?_
   refine s3 hs fun hs => s3 hs fun hs => s3 hs fun hs => sP (v := .bool (false)) hs rfl rfl fun hs => sM (v := .bool (false)) hs rfl fun hs => s3 hs fun hs => s3 hs fun hs => s3 hs fun hs => s3 hs fun hs => s3 hs fun hs => ?_
   refine sP (v := .bool (false)) hs rfl rfl fun hs => sA (v := .bool (false)) hs rfl fun hs => za0 ?_
   exact ⟨false, hm, hs.subs ⟨rfl, trivial⟩ (.cons _ (.cons _ (.refl _)))⟩
  replace hm := oc_f hg17 hm
  refine s3 hs fun hs => s3 hs fun hs => s3 hs fun hs => s3 hs fun hs => s3 hs fun hs => sP (v := .bool (false)) hs rfl rfl fun hs => sM (v := .bool (false)) hs rfl fun hs => s3 hs fun hs => s3 hs fun hs => s3 hs fun hs => ?_
  refine s3 hs fun hs => s3 hs fun hs => sP (v := .bool (false)) hs rfl rfl fun hs => sM (v := .bool (false)) hs rfl fun hs => s3 hs fun hs => s3 hs fun hs => s3 hs fun hs => s3 hs fun hs => s3 hs fun hs => sP (v := .bool (false)) hs rfl rfl fun hs => ?_
  refine sM (v := .bool (false)) hs rfl fun hs => s3 hs fun hs => s3 hs fun hs => s3 hs fun hs => s3 hs fun hs => s3 hs fun hs => sP (v := .bool (false)) hs rfl rfl fun hs => sM (v := .bool (false)) hs rfl fun hs => s3 hs fun hs => s3 hs fun hs => ?_
  refine s3 hs fun hs => s3 hs fun hs => s3 hs fun hs => sP (v := .bool (false)) hs rfl rfl fun hs => sM (v := .bool (false)) hs rfl fun hs => s3 hs fun hs => s3 hs fun hs => s3 hs fun hs => s3 hs fun hs => s3 hs fun hs => ?_
  refine sP (v := .bool (false)) hs rfl rfl fun hs => sM (v := .bool (false)) hs rfl fun hs => s3 hs fun hs => s3 hs fun hs => s3 hs fun hs => s3 hs fun hs => s3 hs fun hs => sP (v := .bool (false)) hs rfl rfl fun hs => sA (v := .bool (false)) hs rfl fun hs => za0 ?_
  exact ⟨false, hm, hs.subs ⟨rfl, trivial⟩ (.cons _ (.cons _ (.refl _)))⟩
 replace hm := oc_f hg16 hm
 refine s3 hs fun hs => s3 hs fun hs => s3 hs fun hs => s3 hs fun hs => s3 hs fun hs => sP (v := .bool (false)) hs rfl rfl fun hs => sM (v := .bool (false)) hs rfl fun hs => s3 hs fun hs => s3 hs fun hs => s3 hs fun hs => ?_
 refine s3 hs fun hs => s3 hs fun hs => sP (v := .bool (false)) hs rfl rfl fun hs => sM (v := .bool (false)) hs rfl fun hs => s3 hs fun hs => s3 hs fun hs => s3 hs fun hs => s3 hs fun hs => s3 hs fun hs => sP (v := .bool (false)) hs rfl rfl fun hs => ?_
 refine sM (v := .bool (false)) hs rfl fun hs => s3 hs fun hs => s3 hs fun hs => s3 hs fun hs => s3 hs fun hs => s3 hs fun hs => sP (v := .bool (false)) hs rfl rfl fun hs => sM (v := .bool (false)) hs rfl fun hs => s3 hs fun hs => s3 hs fun hs => ?_
 refine s3 hs fun hs => s3 hs fun hs => s3 hs fun hs => sP (v := .bool (false)) hs rfl rfl fun hs => sM (v := .bool (false)) hs rfl fun hs => s3 hs fun hs => s3 hs fun hs => s3 hs fun hs => s3 hs fun hs => s3 hs fun hs => ?_
 refine sP (v := .bool (false)) hs rfl rfl fun hs => sM (v := .bool (false)) hs rfl fun hs => s3 hs fun hs => s3 hs fun hs => s3 hs fun hs => s3 hs fun hs => s3 hs fun hs => sP (v := .bool (false)) hs rfl rfl fun hs => sM (v := .bool (false)) hs rfl fun hs => s3 hs fun hs => ?_
 refine s3 hs fun hs => s3 hs fun hs => s3 hs fun hs => s3 hs fun hs => sP (v := .bool (false)) hs rfl rfl fun hs => sA (v := .bool (false)) hs rfl fun hs => za0 ?_
 exact ⟨false, hm, hs.subs ⟨rfl, trivial⟩ (.cons _ (.cons _ (.refl _)))⟩
def zja : Option Bool :=
  some true
def ze0 (n : Nat) (p0 : zae) (p1 : zae) : Nat → Int → Option Bool
  | 0, _ => none
  | k17 + 1, y16 =>
  (bif (decide (y16 < (p0.Nodes.length : Int))) then (geti p0.Nodes y16).bind fun x19 =>
  (geti p1.Nodes y16).bind fun x31 =>
  (zij n x19 x31).bind fun x43 =>
  (bif (!x43) then some false else
  (ze0 n p0 p1 k17) (w64 (y16 + 1))) else
  zja)
def zii (n : Nat) (p0 : zae) (p1 : zae) : Option Bool :=
  (bif (decide ((p0.Nodes.length : Int) ≠ (p1.Nodes.length : Int))) then some false else
  ze0 n p0 p1 n 0)
theorem zot (n : Nat) {f : Fz} {p0 : zae} {a0 : List Value} {p1 : zae} {a1 : List Value} {res : Bool} (h0 : zff.R f a0 p0) (h1 : zff.R f a1 p1) (hm : zii n p0 p1 = some res) : Gives Try.prog 13 [.agg a0.toArray, .agg a1.toArray] f (.bool res) := by
 unfold zii at hm
 intro w0 L w hC
 obtain ⟨v1, rfl, ⟨rw2, hR3, hW4⟩⟩ := h0
 obtain ⟨v6, rfl, ⟨rw7, hR8, hW9⟩⟩ := h1
 refine enter Try.func13 rfl Try.ntmps13 (by simp) hC fun a hs => ?_
 have hle := Fz.le.refl f
 refine Wq fun hK1 => sbox hs rfl fun b11 _ _ hs => sbox hs rfl fun b13 _ _ hs => sA (v := .bool (false)) hs rfl fun hs => za0 <| hK1 <| Ws fun hK2 => Ws fun hK3 => za7 ?_
 refine s1 (v := .pointer (some ⟨b11, 0, none⟩)) hs (za1 rfl (FO.of (off := 0) Try.underlying24 rfl rfl ti22 (by decide))) fun hs => s1 (v := v1) hs (y_ld rfl Try.underlying22 rfl (Cell.blk (.tail _ (.head _)) rfl)) fun hs => s1 hs (zb7 hR3 hW4 rfl Try.underlying22) fun hs => s1 (v := .pointer (some ⟨b13, 0, none⟩)) hs (za1 rfl (FO.of (off := 0) Try.underlying24 rfl rfl ti22 (by decide))) fun hs => s1 (v := v6) hs (y_ld rfl Try.underlying22 rfl (Cell.blk (.head _) rfl)) fun hs => s1 hs (zb7 hR8 hW9 rfl Try.underlying22) fun hs => s1 hs (zez rfl rfl) fun hs => za0 <| hK3 ?_
 refine zaf hs rfl (fun hg15 => ?_) (fun hg15 => ?_)
 ·replace hm := oc_t hg15 hm
  refine Wq fun hK4 => sA (v := .bool (false)) hs rfl fun hs => za0 <| hK4 <| zau ?_
  obtain rfl := Option.some.inj hm
  refine RtV1 hs rfl (rv_t hs rfl) ?_
  exact ⟨rfl, ((hs.subL (.cons _ (.cons _ (.refl _)))).weak hle).cw⟩
 replace hm := oc_f hg15 hm
 refine zah <| hK2 <| Ws fun hK5 => Wq fun hK6 => sA (v := .int .i64 (0)) hs rfl fun hs => za0 <| hK6 ?_
 refine zai (fun a w => zja = some res ∧ St 32 w0 f (L) [] a w) ?_ ?_
 ·clear hs hm
  rintro a w ⟨hm, hs⟩
  unfold zja at hm
  refine hK5 <| Wq fun hK7 => sA (v := .bool (true)) hs rfl fun hs => za0 <| hK7 <| zau ?_
  obtain rfl := Option.some.inj hm
  refine RtV1 hs rfl (rv_t hs rfl) ?_
  exact ⟨rfl, (hs.weak hle).cw⟩
 refine zam fun Qe8 hB8 hO8 => zcw (fun (k : Nat) a w => ∃ (y16 : Int), ze0 n p0 p1 k y16 = some res ∧ St 32 w0 f (.blk b13 (.cells #[v6] 24 (0, 0)) :: .blk b11 (.cells #[v1] 24 (0, 0)) :: L) [(2, .pointer (some ⟨b11, 0, none⟩)), (3, .pointer (some ⟨b13, 0, none⟩)), (5, .int .i64 (y16))] a w) (fun k => k) n ⟨0, hm, hs.sub ⟨rfl, rfl, rfl, trivial⟩⟩ ?_
 clear hs hm
 intro k
 rintro a w ⟨y16, hm, hs⟩
 intro K9 hK9
 cases k with
 | zero => simp [ze0] at hm
 | succ k17 =>
  rw [ze0] at hm
  refine Ws fun hK10 => Wq fun hK11 => sM (v := .int .i64 (y16)) hs rfl fun hs => s1 (v := .pointer (some ⟨b11, 0, none⟩)) hs (za1 rfl (FO.of (off := 0) Try.underlying24 rfl rfl ti22 (by decide))) fun hs => s1 (v := v1) hs (y_ld rfl Try.underlying22 rfl (Cell.blk (.tail _ (.head _)) rfl)) fun hs => s1 hs (zb7 hR3 hW4 rfl Try.underlying22) fun hs => s1 hs (zg7 rfl rfl) fun hs => za0 <| hK11 ?_
  refine zaf hs rfl (fun hg18 => ?_) (fun hg18 => ?_)
  ·replace hm := oc_t hg18 hm
   refine zah <| hK10 <| Ws fun hK12 => zam fun Qe13 hB13 hO13 => Ws fun hK14 => ?_
   refine zk7 hs mixed (by kernel_rfl) ?_; intro a he
   refine qy (v := .pointer (some ⟨b11, 0, none⟩)) he (za1 rfl (FO.of (off := 0) Try.underlying24 rfl rfl ti22 (by decide))) fun _ he => qy (v := v1) he (y_ld rfl Try.underlying22 rfl (Cell.blk (.tail _ (.head _)) rfl)) fun _ he => qy (v := .int .i64 (y16)) he (zaa rfl) fun _ he => ?_
   obtain ⟨x19, hx20, hm⟩ := ob hm
   obtain ⟨r21, hr22, hq23, hi24, hb25⟩ := hW4.geti hx20
   obtain ⟨v26, rfl, ⟨rw27, hR28, hW29⟩⟩ := hq23
   refine qy he (za8 hR3 rfl rfl hi24 hb25 Try.underlying22 ti36) fun _ he => qy he (zfm hR3.up rfl hr22 Try.underlying36 rfl ti36) fun _ he => qy (v := .pointer (some ⟨b13, 0, none⟩)) he (za1 rfl (FO.of (off := 0) Try.underlying24 rfl rfl ti22 (by decide))) fun _ he => qy (v := v6) he (y_ld rfl Try.underlying22 rfl (Cell.blk (.head _) rfl)) fun _ he => qy (v := .int .i64 (y16)) he (zaa rfl) fun _ he => ?_
   obtain ⟨x31, hx32, hm⟩ := ob hm
   obtain ⟨r33, hr34, hq35, hi36, hb37⟩ := hW9.geti hx32
   obtain ⟨v38, rfl, ⟨rw39, hR40, hW41⟩⟩ := hq35
   refine qy he (za8 hR8 rfl rfl hi36 hb37 Try.underlying22 ti36) fun _ he => qy he (zfm hR8.up rfl hr34 Try.underlying36 rfl ti36) fun _ he => ?_
   obtain ⟨x43, hx44, hm⟩ := ob hm
   refine qy he (zbd rfl has20 rfl (zou n (f := f) (a0 := [.int .i64 (x19.Kind), .string (x19.Name), .string (x19.Text), v26, .int .i64 (x19.Parent), .int .i64 (x19.First), .int .i64 (x19.Last), .int .i64 (x19.Prev), .int .i64 (x19.Next)]) (a1 := [.int .i64 (x31.Kind), .string (x31.Name), .string (x31.Text), v38, .int .i64 (x31.Parent), .int .i64 (x31.First), .int .i64 (x31.Last), .int .i64 (x31.Prev), .int .i64 (x31.Next)]) ⟨_, rfl, ⟨rw27, hR28, hW29⟩⟩ ⟨_, rfl, ⟨rw39, hR40, hW41⟩⟩ hx44)) fun _ he => qy (v := .bool ((!x43))) he (zj8 rfl) fun _ he => ?_
   refine zgy he ?_; clear he; (try clear hs); (try clear a); intro a w hs
   refine hK14 ?_
   refine zaf hs rfl (fun hg45 => ?_) (fun hg45 => ?_)
   ·replace hm := oc_t hg45 hm
    refine Wq fun hK15 => sA (v := .bool (false)) hs rfl fun hs => za0 <| hK15 <| zau ?_
    obtain rfl := Option.some.inj hm
    refine RtV1 hs rfl (rv_t hs rfl) ?_
    exact ⟨rfl, ((hs.subL (.cons _ (.cons _ (.refl _)))).weak hle).cw⟩
   replace hm := oc_f hg45 hm
   refine zah <| hK12 <| za7 <| sM (v := .int .i64 (y16)) hs rfl fun hs => s1 hs (zeq rfl rfl rfl) fun hs => sA (v := .int .i64 ((w64 (y16 + 1)))) hs rfl fun hs => za0 ?_
   exact hK9 k17 _ _ (Nat.lt_succ_self _) ⟨(w64 (y16 + 1)), hm, hs.sub ⟨rfl, rfl, rfl, trivial⟩⟩
  replace hm := oc_f hg18 hm
  refine zc9 <| hB8 _ _ ?_
  exact ⟨hm, hs.subs trivial (.cons _ (.cons _ (.refl _)))⟩
def zgf (n : Nat) (p0 : (List Int)) (p1 : Int) : Option (List Int) :=
  (bif (decide (p1 < (p0.length : Int))) then (cutM p0 (0 : Int) p1).bind fun x7 =>
  some x7 else
  some p0)
theorem zjb (n : Nat) {f : Fz} {p0 : (List Int)} {a0 : Value} {p1 : Int} {res : (List Int)} (h0 : RS (tInt .i32) f a0 p0) (hm : zgf n p0 p1 = some res) : Does Try.prog 11 [a0, .int .i64 p1] f [] (fun r f' L' => ∃ (u0 : Value), L' = [] ∧ r = u0 ∧ RS (tInt .i32) f' u0 res) := by
 unfold zgf at hm
 intro w0 L w hC
 obtain ⟨rw1, hR2, hW3⟩ := h0
 refine enter Try.func11 rfl Try.ntmps11 (by simp) hC fun a hs => ?_
 have hle := Fz.le.refl f
 refine Wq fun hK1 => sA (v := (.slice none 0 0)) hs rfl fun hs => za0 <| hK1 <| Ws fun hK2 => Wq fun hK3 => sM (v := a0) hs rfl fun hs => s1 hs (zb7 hR2 hW3 rfl Try.underlying28) fun hs => ?_
 refine sM (v := .int .i64 (p1)) hs rfl fun hs => s1 hs (zis rfl rfl) fun hs => za0 <| hK3 ?_
 refine zaf hs rfl (fun hg6 => ?_) (fun hg6 => ?_)
 ·replace hm := oc_t hg6 hm
  refine Wq fun hK4 => sM (v := a0) hs rfl fun hs => sM (v := .int .i64 (p1)) hs rfl fun hs => ?_
  obtain ⟨x7, hx8, hm⟩ := ob hm
  obtain ⟨⟨hlx7, hhx7, h1x7, h2x7⟩, hex7⟩ := zj7 hx8
  have hW9 := (hW3.take p1.toNat).drop (Int.toNat 0); rw [hex7] at hW9
  simp only [Int.toNat_zero, List.drop_zero] at hW9
  refine s1 hs (zln (lo := (0 : Nat)) (hi := p1.toNat) rfl Try.underlying28 ti21 (.inl ⟨rfl, rfl⟩) (.inr ⟨_, rfl, by rw [← hhx7]; rfl⟩) h1x7 (by rw [RW.len hW3]; exact h2x7) hR2) fun hs => ?_
  have hR10 : Rd f [] (cutv a0 1 0 p1.toNat) 1 (List.take p1.toNat rw1) := by have hz := (hR2 : Rd _ [] _ _ _).cut (lo := 0) (hi := p1.toNat) (Nat.zero_le _) (by rw [RW.len hW3]; exact h2x7); rw [List.drop_zero] at hz; exact hz
  generalize hgrw11 : List.take _ rw1 = rw11 at hR10 hW9; clear hgrw11
  generalize hgv12 : cutv a0 1 _ _ = v12 at hs hR10; clear hgv12
  refine sA (v := v12) hs rfl fun hs => za0 <| hK4 <| zau ?_
  obtain rfl := Option.some.inj hm
  refine RtV1 hs rfl (rv_t hs rfl) ?_
  exact ⟨_, f, [], rfl, hle, hs.cw, v12, rfl, rfl, ⟨rw11, hR10, hW9⟩⟩
 replace hm := oc_f hg6 hm
 refine zah <| hK2 <| Wq fun hK5 => sM (v := a0) hs rfl fun hs => sA (v := a0) hs rfl fun hs => za0 <| hK5 <| zau ?_
 obtain rfl := Option.some.inj hm
 refine RtV1 hs rfl (rv_t hs rfl) ?_
 exact ⟨_, f, [], rfl, hle, hs.cw, a0, rfl, rfl, ⟨rw1, hR2, hW3⟩⟩
end Go.Proofs.Ytklcdfnhdljkjaa
