/-
  Walks and laws of this seat.
-/
import Derived.Test.YtklcdfnhdljkjaaBasg
import Derived.Test.YtklcdfnhdljkjaaL6k
import Derived.Test.YtklcdfnhdljkjaaL6h
import Derived.Test.YtklcdfnhdljkjaaRows
namespace Go.Proofs.Ytklcdfnhdljkjaa
set_option linter.unusedVariables false
set_option linter.unusedSimpArgs false
set_option maxHeartbeats 4000000
set_option maxRecDepth 100000
open Go.RowKit Go.Sl
def zfk (y68 : Bool) : Option Bool :=
  some y68
def zfl (n : Nat) (x5 : (List Int)) : Option Bool :=
  (addS (bs [60, 100, 105, 118, 62, 60, 115, 112, 97, 110, 62]) (textOf x5)).bind fun x14 =>
  (runesM x14).bind fun x16 =>
  (zbp n x16).bind fun x26 =>
  (addS (bs [60, 100, 105, 118, 62, 60, 115, 112, 97, 110, 62]) (textOf x5)).bind fun x40 =>
  (addS x40 (bs [60, 47, 115, 112, 97, 110, 62, 60, 47, 100, 105, 118, 62, 60, 47, 117, 62, 60, 47, 114, 111, 111, 116, 62, 60, 47, 104, 114, 62])).bind fun x42 =>
  (runesM x42).bind fun x44 =>
  (zbp n x44).bind fun x54 =>
  (bif (decide (x26.2 = 0)) then (bif (decide (x54.2 = 0)) then (zii n x26.1 x54.1).bind fun x71 =>
  (bif x71 then (zfj n).bind fun x74 =>
  zfk x74 else
  zfk false) else
  zfk false) else
  zfk false)
def zdz (n : Nat) (x5 : (List Int)) : Nat → Int → Option Bool
  | 0, _ => none
  | k77 + 1, y76 =>
  (bif (decide (y76 < (x5.length : Int))) then (geti x5 y76).bind fun x79 =>
  (bif (decide (x79 = 60)) then (zfj n).bind fun x87 =>
  some x87 else
  (zdz n x5 k77) (w64 (y76 + 1))) else
  zfl n x5)
def zih (n : Nat) (p0 : (List Int)) : Option Bool :=
  (zgf n p0 1000).bind fun x5 =>
  zdz n x5 n 0
theorem zos (n : Nat) {f : Fz} {p0 : (List Int)} {a0 : Value} {res : Bool} (h0 : RS (tInt .i32) f a0 p0) (hm : zih n p0 = some res) : Gives Try.prog 6 [a0] f (.bool res) := by
 unfold zih at hm
 intro w0 L w hC
 obtain ⟨rw1, hR2, hW3⟩ := h0
 refine enter Try.func6 rfl Try.ntmps6 (by simp) hC fun a hs => ?_
 have hle := Fz.le.refl f
 refine Wq fun hK1 => sA (v := .bool (false)) hs rfl fun hs => za0 <| hK1 <| Wq fun hK2 => sM (v := a0) hs rfl fun hs => ?_
 obtain ⟨x5, hx6, hm⟩ := ob hm
 refine zen hs rfl has11 rfl (zjb n (f := f) (a0 := a0) ⟨rw1, hR2, hW3⟩ hx6) ?_; clear hs; (try clear a w)
 rintro v9 f7 _ a w hf8 ⟨_, rfl, rfl, ⟨rw10, hR11, hW12⟩⟩ hs
 replace hR2 := hR2.le hf8
 replace hW3 := hW3.le hf8
 replace hle := hle.trans hf8
 refine sA (v := v9) hs rfl fun hs => za0 <| hK2 <| Ws fun hK3 => Wq fun hK4 => sA (v := .int .i64 (0)) hs rfl fun hs => za0 <| hK4 ?_
 refine zai (fun a w => zfl n x5 = some res ∧ St 53 w0 f7 (L) [(0, v9)] a w) ?_ ?_
 ·clear hs hm
  rintro a w ⟨hm, hs⟩
  unfold zfl at hm
  refine hK3 <| Wq fun hK5 => sM (v := v9) hs rfl fun hs => s1 (v := .string ((textOf x5))) hs (zp4 rfl Try.underlying28 Try.underlying21 Try.underlying9 hR11.up hW12) fun hs => ?_
  obtain ⟨x14, hx15, hm⟩ := ob hm
  obtain ⟨hbx14, hex14⟩ := zg6 hx15
  refine s1 hs (zir rfl rfl hbx14 hex14) fun hs => ?_
  obtain ⟨x16, hx17, hm⟩ := ob hm
  refine zld hx17 hs rfl Try.underlying9 Try.underlying28 Try.underlying21 fun v18 rw19 _ _ hW20 hs => ?_
  obtain ⟨f23, hf24, hs2, hR25⟩ := hs.frzAt 0 rfl
  clear hs; have hs := hs2; clear hs2
  replace hR11 := hR11.le hf24
  replace hW12 := hW12.le hf24
  replace hW20 := hW20.le hf24
  replace hle := hle.trans hf24
  obtain ⟨x26, hx27, hm⟩ := ob hm
  refine zen hs rfl has7 rfl (zet n (f := f23) (a0 := v18) ⟨rw19, hR25, hW20⟩ hx27) ?_; clear hs; (try clear a w)
  rintro _ f28 _ a w hf29 ⟨r30, rfl, rfl, hq31⟩ hs
  replace hR11 := hR11.le hf29
  replace hW12 := hW12.le hf29
  replace hW20 := hW20.le hf29
  replace hR25 := hR25.le hf29
  replace hle := hle.trans hf29
  obtain ⟨v32, rfl, ⟨rw33, hR34, hW35⟩⟩ := hq31
  refine sM (v := .tuple #[.agg #[v32], .int .i64 (x26.2)]) hs rfl fun hs => s1 (v := .agg #[v32]) hs (zar rfl rfl) fun hs => s1 (v := .int .i64 (x26.2)) hs (zar rfl rfl) fun hs => zbt hs ti24 (.free rfl) (by decide) fun b37 _ _ hs => zat (i := 0) hs rfl rfl rfl ti24 ⟨rfl, rfl⟩ (AllC.arr (r := [v32]) ⟨hR34.one, trivial⟩) (.free rfl) fun _ _ hs => sA (v := .int .i64 (x26.2)) hs rfl fun hs => za0 <| hK5 <| Ws fun hK6 => za7 ?_
  refine sM (v := v9) hs rfl fun hs => s1 (v := .string ((textOf x5))) hs (zp4 rfl Try.underlying28 Try.underlying21 Try.underlying9 hR11.up hW12) fun hs => ?_
  obtain ⟨x40, hx41, hm⟩ := ob hm
  obtain ⟨hbx40, hex40⟩ := zg6 hx41
  refine s1 hs (zir rfl rfl hbx40 hex40) fun hs => ?_
  obtain ⟨x42, hx43, hm⟩ := ob hm
  obtain ⟨hbx42, hex42⟩ := zg6 hx43
  refine s1 hs (zir rfl rfl hbx42 hex42) fun hs => ?_
  obtain ⟨x44, hx45, hm⟩ := ob hm
  refine zld hx45 hs rfl Try.underlying9 Try.underlying28 Try.underlying21 fun v46 rw47 _ _ hW48 hs => ?_
  obtain ⟨f51, hf52, hs2, hR53⟩ := hs.frzAt 0 rfl
  clear hs; have hs := hs2; clear hs2
  replace hR11 := hR11.le hf52
  replace hW12 := hW12.le hf52
  replace hW20 := hW20.le hf52
  replace hR25 := hR25.le hf52
  replace hR34 := hR34.le hf52
  replace hW35 := hW35.le hf52
  replace hW48 := hW48.le hf52
  replace hle := hle.trans hf52
  obtain ⟨x54, hx55, hm⟩ := ob hm
  refine zen hs rfl has7 rfl (zet n (f := f51) (a0 := v46) ⟨rw47, hR53, hW48⟩ hx55) ?_; clear hs; (try clear a w)
  rintro _ f56 _ a w hf57 ⟨r58, rfl, rfl, hq59⟩ hs
  replace hR11 := hR11.le hf57
  replace hW12 := hW12.le hf57
  replace hW20 := hW20.le hf57
  replace hR25 := hR25.le hf57
  replace hR34 := hR34.le hf57
  replace hW35 := hW35.le hf57
  replace hW48 := hW48.le hf57
  replace hR53 := hR53.le hf57
  replace hle := hle.trans hf57
  obtain ⟨v60, rfl, ⟨rw61, hR62, hW63⟩⟩ := hq59
  refine sM (v := .tuple #[.agg #[v60], .int .i64 (x54.2)]) hs rfl fun hs => s1 (v := .agg #[v60]) hs (zar rfl rfl) fun hs => s1 (v := .int .i64 (x54.2)) hs (zar rfl rfl) fun hs => zbt hs ti24 (.free rfl) (by decide) fun b65 _ _ hs => zat (i := 0) hs rfl rfl rfl ti24 ⟨rfl, rfl⟩ (AllC.arr (r := [v60]) ⟨hR62.one, trivial⟩) (.free rfl) fun _ _ hs => sA (v := .int .i64 (x54.2)) hs rfl fun hs => za0 <| hK6 <| Ws fun hK7 => ?_
  refine zai (fun a w => ∃ (y68 : Bool), zfk y68 = some res ∧ St 53 w0 f56 (L) [(2, .bool (y68))] a w) ?_ ?_
  ·clear hs hm
   rintro a w ⟨y68, hm, hs⟩
   unfold zfk at hm
   refine hK7 <| zau ?_
   obtain rfl := Option.some.inj hm
   refine RtV1 hs rfl (rv_t hs rfl) ?_
   exact ⟨rfl, (hs.weak hle).cw⟩
  refine za7 <| sM (v := .int .i64 (x26.2)) hs rfl fun hs => s1 hs (zd3 rfl rfl) fun hs => sM (v := .bool (decide (x26.2 = 0))) hs rfl fun hs => ?_
  refine St.split hs (t := 41) rfl (fun hg69 hs => ?_) (fun hg69 hs => ?_)
  ·replace hm := oc_t hg69 hm
   refine s2 (v := .int .i64 (x54.2)) hs (zaa rfl) fun hs => s2 hs (zd3 rfl rfl) fun hs => sP (v := .bool (decide (x54.2 = 0))) hs rfl rfl fun hs => sM (v := .bool (decide (x54.2 = 0))) hs rfl fun hs => ?_
   refine St.split hs (t := 45) rfl (fun hg70 hs => ?_) (fun hg70 hs => ?_)
   ·replace hm := oc_t hg70 hm
    refine s2 hs (zk8 rfl Try.underlying24 rfl ti24 (.tail _ (.head _)) rfl) fun hs => s2 hs (zk8 rfl Try.underlying24 rfl ti24 (.head _) rfl) fun hs => ?_
    obtain ⟨x71, hx72, hm⟩ := ob hm
    refine s2 hs (zbd rfl has13 rfl (zot n (f := f56) (a0 := [v32]) (a1 := [v60]) ⟨_, rfl, ⟨rw33, hR34, hW35⟩⟩ ⟨_, rfl, ⟨rw61, hR62, hW63⟩⟩ hx72)) fun hs => sP (v := .bool (x71)) hs rfl rfl fun hs => sM (v := .bool (x71)) hs rfl fun hs => ?_
    refine St.split hs (t := 50) rfl (fun hg73 hs => ?_) (fun hg73 hs => ?_)
    ·replace hm := oc_t hg73 hm
     obtain ⟨x74, hx75, hm⟩ := ob hm
     refine s2 hs (zbd rfl has10 rfl (zfu n (f := f56)  hx75)) fun hs => sP (v := .bool (x74)) hs rfl rfl fun hs => sA (v := .bool (x74)) hs rfl fun hs => za0 ?_
     exact ⟨x74, hm, hs.subs ⟨rfl, trivial⟩ (.cons _ (.cons _ (.refl _)))⟩
    replace hm := oc_f hg73 hm
    refine s3 hs fun hs => sP (v := .bool (false)) hs rfl rfl fun hs => sA (v := .bool (false)) hs rfl fun hs => za0 ?_
    exact ⟨false, hm, hs.subs ⟨rfl, trivial⟩ (.cons _ (.cons _ (.refl _)))⟩
   replace hm := oc_f hg70 hm
   refine s3 hs fun hs => s3 hs fun hs => s3 hs fun hs => sP (v := .bool (false)) hs rfl rfl fun hs => sM (v := .bool (false)) hs rfl fun hs => s3 hs fun hs => sP (v := .bool (false)) hs rfl rfl fun hs => sA (v := .bool (false)) hs rfl fun hs => za0 ?_
   exact ⟨false, hm, hs.subs ⟨rfl, trivial⟩ (.cons _ (.cons _ (.refl _)))⟩
  replace hm := oc_f hg69 hm
  refine s3 hs fun hs => s3 hs fun hs => sP (v := .bool (false)) hs rfl rfl fun hs => sM (v := .bool (false)) hs rfl fun hs => s3 hs fun hs => s3 hs fun hs => s3 hs fun hs => sP (v := .bool (false)) hs rfl rfl fun hs => sM (v := .bool (false)) hs rfl fun hs => s3 hs fun hs => ?_
  refine sP (v := .bool (false)) hs rfl rfl fun hs => sA (v := .bool (false)) hs rfl fun hs => za0 ?_
  exact ⟨false, hm, hs.subs ⟨rfl, trivial⟩ (.cons _ (.cons _ (.refl _)))⟩
 refine zam fun Qe8 hB8 hO8 => zcw (fun (k : Nat) a w => ∃ (y76 : Int), zdz n x5 k y76 = some res ∧ St 53 w0 f7 (L) [(0, v9), (3, .int .i64 (y76))] a w) (fun k => k) n ⟨0, hm, hs.sub ⟨rfl, rfl, trivial⟩⟩ ?_
 clear hs hm
 intro k
 rintro a w ⟨y76, hm, hs⟩
 intro K9 hK9
 cases k with
 | zero => simp [zdz] at hm
 | succ k77 =>
  rw [zdz] at hm
  refine Ws fun hK10 => Wq fun hK11 => sM (v := .int .i64 (y76)) hs rfl fun hs => sM (v := v9) hs rfl fun hs => s1 hs (zb7 hR11 hW12 rfl Try.underlying28) fun hs => s1 hs (zg7 rfl rfl) fun hs => za0 <| hK11 ?_
  refine zaf hs rfl (fun hg78 => ?_) (fun hg78 => ?_)
  ·replace hm := oc_t hg78 hm
   refine zah <| hK10 <| Ws fun hK12 => zam fun Qe13 hB13 hO13 => Wq fun hK14 => sM (v := v9) hs rfl fun hs => sM (v := .int .i64 (y76)) hs rfl fun hs => ?_
   obtain ⟨x79, hx80, hm⟩ := ob hm
   obtain ⟨r81, hr82, hq83, hi84, hb85⟩ := hW12.geti hx80
   obtain rfl : _ = ([.int .i32 (x79)] : List Value) := hq83
   refine s1 hs (za8 hR11 rfl rfl hi84 hb85 Try.underlying28 ti21) fun hs => s1 (v := .int .i32 (x79)) hs (zaw (i := y76.toNat) (j := 0) hR11.up rfl hr82 rfl Try.underlying21 rfl) fun hs => s1 hs (zd3 rfl rfl) fun hs => za0 <| hK14 ?_
   refine zaf hs rfl (fun hg86 => ?_) (fun hg86 => ?_)
   ·replace hm := oc_t hg86 hm
    refine Ws fun hK15 => za7 ?_
    obtain ⟨x87, hx88, hm⟩ := ob hm
    refine s1 hs (zbd rfl has10 rfl (zfu n (f := f7)  hx88)) fun hs => sA (v := .bool (x87)) hs rfl fun hs => za0 <| hK15 <| zau ?_
    obtain rfl := Option.some.inj hm
    refine RtV1 hs rfl (rv_t hs rfl) ?_
    exact ⟨rfl, (hs.weak hle).cw⟩
   replace hm := oc_f hg86 hm
   refine zah <| hK12 <| za7 <| sM (v := .int .i64 (y76)) hs rfl fun hs => s1 hs (zeq rfl rfl rfl) fun hs => sA (v := .int .i64 ((w64 (y76 + 1)))) hs rfl fun hs => za0 ?_
   exact hK9 k77 _ _ (Nat.lt_succ_self _) ⟨(w64 (y76 + 1)), hm, hs.sub ⟨rfl, rfl, trivial⟩⟩
  replace hm := oc_f hg78 hm
  refine zc9 <| hB8 _ _ ?_
  exact ⟨hm, hs.sub ⟨rfl, trivial⟩⟩
end Go.Proofs.Ytklcdfnhdljkjaa
