/-
  Walks and laws of this seat.
-/
import Derived.Test.YtklcdfnhdljkjaaBasg
import Derived.Test.YtklcdfnhdljkjaaL6k
import Derived.Test.YtklcdfnhdljkjaaL6h
import Derived.Test.YtklcdfnhdljkjaaRows
namespace Go.Proofs.Ytklcdfnhdljkjaa
set_option linter.unusedVariables false
set_option linter.unusedSimpArgs false
set_option maxHeartbeats 4000000
set_option maxRecDepth 100000
open Go.RowKit Go.Sl
def zas (y103 : Bool) : Option Bool :=
  some y103
def zfa (n : Nat) (y1 : ByteArray) (y2 : ByteArray) : Option Bool :=
  (runesM y1).bind fun x3 =>
  (zbp n x3).bind fun x13 =>
  (cutS y1 (4 : Int) (y1.size : Int)).bind fun x27 =>
  (runesM x27).bind fun x29 =>
  (zbp n x29).bind fun x39 =>
  (runesM y2).bind fun x53 =>
  (zbp n x53).bind fun x63 =>
  (addS y2 (bs [120])).bind fun x77 =>
  (runesM x77).bind fun x79 =>
  (zbp n x79).bind fun x89 =>
  (bif (decide (x13.2 = 4)) then (bif (decide (x39.2 = 0)) then (bif (decide (x63.2 = 0)) then (bif (decide (x89.2 = 5)) then (zh2 n (bs [98, 114])).bind fun x108 =>
  (bif x108 then (zh2 n (bs [98])).bind fun x111 =>
  (bif (!x111) then (zfe n (bs [60, 117, 108, 62, 60, 108, 105, 62, 49, 60, 108, 105, 62, 50, 60, 47, 117, 108, 62, 120]) (bs [117, 108, 40, 108, 105, 40, 49, 59, 41, 108, 105, 40, 50, 59, 41, 41, 120, 59])).bind fun x114 =>
  (bif x114 then (zfe n (bs [60, 98, 62, 49, 60, 105, 62, 50, 60, 47, 98, 62, 51, 60, 47, 105, 62, 52]) (bs [98, 40, 49, 59, 105, 40, 50, 59, 41, 41, 105, 40, 51, 59, 41, 52, 59])).bind fun x117 =>
  (bif x117 then (zfe n (bs [60, 47, 112, 62]) (bs [112, 40, 41])).bind fun x120 =>
  (bif x120 then (zfe n (bs [60, 47, 100, 105, 118, 62]) (bs [])).bind fun x123 =>
  (bif x123 then (zfe n (bs [60, 98, 114, 62, 120, 60, 47, 98, 114, 62]) (bs [98, 114, 40, 41, 120, 59])).bind fun x126 =>
  (bif x126 then (zfe n (bs []) (bs [])).bind fun x129 =>
  (bif x129 then (zfe n (bs [60, 116, 100, 62]) (bs [116, 100, 40, 41])).bind fun x132 =>
  (bif x132 then (zfe n (bs [60, 112, 62, 60, 98, 62, 49, 60, 112, 62, 50]) (bs [112, 40, 98, 40, 49, 59, 41, 41, 112, 40, 50, 59, 41])).bind fun x135 =>
  (bif x135 then (zfe n (bs [60, 116, 97, 98, 108, 101, 62, 60, 116, 114, 62, 32, 60, 98, 62, 120, 60, 47, 98, 62, 121, 60, 47, 116, 97, 98, 108, 101, 62]) (bs [98, 40, 120, 59, 41, 121, 59, 116, 97, 98, 108, 101, 40, 116, 114, 40, 41, 41])).bind fun x138 =>
  (bif x138 then (zfj n).bind fun x141 =>
  zas x141 else
  zas false) else
  zas false) else
  zas false) else
  zas false) else
  zas false) else
  zas false) else
  zas false) else
  zas false) else
  zas false) else
  zas false) else
  zas false) else
  zas false) else
  zas false) else
  zas false) else
  zas false)
def zcr (n : Nat) (y1 : ByteArray) : Nat → ByteArray → Int → Option Bool
  | 0, _, _ => none
  | k145 + 1, y143, y144 =>
  (bif (decide (y144 < 255)) then (addS y143 (bs [60, 105, 62])).bind fun x147 =>
  (zcr n y1 k145) x147 (w64 (y144 + 1)) else
  zfa n y1 y143)
def zfb (n : Nat) (y1 : ByteArray) : Option Bool :=
  zcr n y1 n (bs []) 0
def zcq (n : Nat) : Nat → ByteArray → Int → Option Bool
  | 0, _, _ => none
  | k151 + 1, y149, y150 =>
  (bif (decide (y150 < 4096)) then (addS y149 (bs [60, 98, 114, 62])).bind fun x153 =>
  (zcq n k151) x153 (w64 (y150 + 1)) else
  zfb n y149)
def zgo (n : Nat) : Option Bool :=
  zcq n n (bs []) 0
theorem zn1 (n : Nat) {f : Fz}  {res : Bool}  (hm : zgo n = some res) : Gives Try.prog 3 [] f (.bool res) := by
 unfold zgo at hm
 intro w0 L w hC
 refine enter Try.func3 rfl Try.ntmps3 (by simp) hC fun a hs => ?_
 have hle := Fz.le.refl f
 refine Wq fun hK1 => sA (v := .bool (false)) hs rfl fun hs => za0 <| hK1 <| Wq fun hK2 => sA (v := .string ((bs []))) hs rfl fun hs => za0 <| hK2 ?_
 refine Ws fun hK3 => Wq fun hK4 => sA (v := .int .i64 (0)) hs rfl fun hs => za0 <| hK4 ?_
 refine zai (fun a w => ∃ (y1 : ByteArray), zfb n y1 = some res ∧ St 102 w0 f (L) [(1, .string (y1))] a w) ?_ ?_
 ·clear hs hm
  rintro a w ⟨y1, hm, hs⟩
  unfold zfb at hm
  refine hK3 <| Wq fun hK5 => sA (v := .string ((bs []))) hs rfl fun hs => za0 <| hK5 <| Ws fun hK6 => Wq fun hK7 => sA (v := .int .i64 (0)) hs rfl fun hs => ?_
  refine za0 <| hK7 ?_
  refine zai (fun a w => ∃ (y2 : ByteArray), zfa n y1 y2 = some res ∧ St 102 w0 f (L) [(1, .string (y1)), (3, .string (y2))] a w) ?_ ?_
  ·clear hs hm
   rintro a w ⟨y2, hm, hs⟩
   unfold zfa at hm
   refine hK6 <| Wq fun hK8 => sM (v := .string (y1)) hs rfl fun hs => ?_
   obtain ⟨x3, hx4, hm⟩ := ob hm
   refine zld hx4 hs rfl Try.underlying9 Try.underlying28 Try.underlying21 fun v5 rw6 _ _ hW7 hs => ?_
   obtain ⟨f10, hf11, hs2, hR12⟩ := hs.frzAt 0 rfl
   clear hs; have hs := hs2; clear hs2
   replace hW7 := hW7.le hf11
   replace hle := hle.trans hf11
   obtain ⟨x13, hx14, hm⟩ := ob hm
   refine zen hs rfl has7 rfl (zet n (f := f10) (a0 := v5) ⟨rw6, hR12, hW7⟩ hx14) ?_; clear hs; (try clear a w)
   rintro _ f15 _ a w hf16 ⟨r17, rfl, rfl, hq18⟩ hs
   replace hW7 := hW7.le hf16
   replace hR12 := hR12.le hf16
   replace hle := hle.trans hf16
   obtain ⟨v19, rfl, ⟨rw20, hR21, hW22⟩⟩ := hq18
   refine sM (v := .tuple #[.agg #[v19], .int .i64 (x13.2)]) hs rfl fun hs => s1 (v := .agg #[v19]) hs (zar rfl rfl) fun hs => s1 (v := .int .i64 (x13.2)) hs (zar rfl rfl) fun hs => zbt hs ti24 (.free rfl) (by decide) fun b24 _ _ hs => zat (i := 0) hs rfl rfl rfl ti24 ⟨rfl, rfl⟩ (AllC.arr (r := [v19]) ⟨hR21.one, trivial⟩) (.free rfl) fun _ _ hs => sA (v := .int .i64 (x13.2)) hs rfl fun hs => za0 <| hK8 <| Ws fun hK9 => za7 ?_
   refine sM (v := .string (y1)) hs rfl fun hs => ?_
   obtain ⟨x27, hx28, hm⟩ := ob hm
   obtain ⟨⟨hlx27, hhx27, h1x27, h2x27⟩, hex27⟩ := zj6 hx28
   refine s1 hs (zk2 (lo := (4 : Int).toNat) (hi := (y1.size : Int).toNat) rfl Try.underlying9 (.inr ⟨_, rfl, by rw [← hlx27]; rfl⟩) (.inl ⟨rfl, by simp⟩) h1x27 h2x27) fun hs => ?_
   rw [hex27] at hs
   obtain ⟨x29, hx30, hm⟩ := ob hm
   refine zld hx30 hs rfl Try.underlying9 Try.underlying28 Try.underlying21 fun v31 rw32 _ _ hW33 hs => ?_
   obtain ⟨f36, hf37, hs2, hR38⟩ := hs.frzAt 0 rfl
   clear hs; have hs := hs2; clear hs2
   replace hW7 := hW7.le hf37
   replace hR12 := hR12.le hf37
   replace hR21 := hR21.le hf37
   replace hW22 := hW22.le hf37
   replace hW33 := hW33.le hf37
   replace hle := hle.trans hf37
   obtain ⟨x39, hx40, hm⟩ := ob hm
   refine zen hs rfl has7 rfl (zet n (f := f36) (a0 := v31) ⟨rw32, hR38, hW33⟩ hx40) ?_; clear hs; (try clear a w)
   rintro _ f41 _ a w hf42 ⟨r43, rfl, rfl, hq44⟩ hs
   replace hW7 := hW7.le hf42
   replace hR12 := hR12.le hf42
   replace hR21 := hR21.le hf42
   replace hW22 := hW22.le hf42
   replace hW33 := hW33.le hf42
   replace hR38 := hR38.le hf42
   replace hle := hle.trans hf42
   obtain ⟨v45, rfl, ⟨rw46, hR47, hW48⟩⟩ := hq44
   refine sM (v := .tuple #[.agg #[v45], .int .i64 (x39.2)]) hs rfl fun hs => s1 (v := .agg #[v45]) hs (zar rfl rfl) fun hs => s1 (v := .int .i64 (x39.2)) hs (zar rfl rfl) fun hs => zbt hs ti24 (.free rfl) (by decide) fun b50 _ _ hs => zat (i := 0) hs rfl rfl rfl ti24 ⟨rfl, rfl⟩ (AllC.arr (r := [v45]) ⟨hR47.one, trivial⟩) (.free rfl) fun _ _ hs => sA (v := .int .i64 (x39.2)) hs rfl fun hs => za0 <| hK9 <| Ws fun hK10 => za7 ?_
   refine sM (v := .string (y2)) hs rfl fun hs => ?_
   obtain ⟨x53, hx54, hm⟩ := ob hm
   refine zld hx54 hs rfl Try.underlying9 Try.underlying28 Try.underlying21 fun v55 rw56 _ _ hW57 hs => ?_
   obtain ⟨f60, hf61, hs2, hR62⟩ := hs.frzAt 0 rfl
   clear hs; have hs := hs2; clear hs2
   replace hW7 := hW7.le hf61
   replace hR12 := hR12.le hf61
   replace hR21 := hR21.le hf61
   replace hW22 := hW22.le hf61
   replace hW33 := hW33.le hf61
   replace hR38 := hR38.le hf61
   replace hR47 := hR47.le hf61
   replace hW48 := hW48.le hf61
   replace hW57 := hW57.le hf61
   replace hle := hle.trans hf61
   obtain ⟨x63, hx64, hm⟩ := ob hm
   refine zen hs rfl has7 rfl (zet n (f := f60) (a0 := v55) ⟨rw56, hR62, hW57⟩ hx64) ?_; clear hs; (try clear a w)
   rintro _ f65 _ a w hf66 ⟨r67, rfl, rfl, hq68⟩ hs
   replace hW7 := hW7.le hf66
   replace hR12 := hR12.le hf66
   replace hR21 := hR21.le hf66
   replace hW22 := hW22.le hf66
   replace hW33 := hW33.le hf66
   replace hR38 := hR38.le hf66
   replace hR47 := hR47.le hf66
   replace hW48 := hW48.le hf66
   replace hW57 := hW57.le hf66
   replace hR62 := hR62.le hf66
   replace hle := hle.trans hf66
   obtain ⟨v69, rfl, ⟨rw70, hR71, hW72⟩⟩ := hq68
   refine sM (v := .tuple #[.agg #[v69], .int .i64 (x63.2)]) hs rfl fun hs => s1 (v := .agg #[v69]) hs (zar rfl rfl) fun hs => s1 (v := .int .i64 (x63.2)) hs (zar rfl rfl) fun hs => zbt hs ti24 (.free rfl) (by decide) fun b74 _ _ hs => zat (i := 0) hs rfl rfl rfl ti24 ⟨rfl, rfl⟩ (AllC.arr (r := [v69]) ⟨hR71.one, trivial⟩) (.free rfl) fun _ _ hs => sA (v := .int .i64 (x63.2)) hs rfl fun hs => za0 <| hK10 <| Ws fun hK11 => za7 ?_
   refine sM (v := .string (y2)) hs rfl fun hs => ?_
   obtain ⟨x77, hx78, hm⟩ := ob hm
   obtain ⟨hbx77, hex77⟩ := zg6 hx78
   refine s1 hs (zir rfl rfl hbx77 hex77) fun hs => ?_
   obtain ⟨x79, hx80, hm⟩ := ob hm
   refine zld hx80 hs rfl Try.underlying9 Try.underlying28 Try.underlying21 fun v81 rw82 _ _ hW83 hs => ?_
   obtain ⟨f86, hf87, hs2, hR88⟩ := hs.frzAt 0 rfl
   clear hs; have hs := hs2; clear hs2
   replace hW7 := hW7.le hf87
   replace hR12 := hR12.le hf87
   replace hR21 := hR21.le hf87
   replace hW22 := hW22.le hf87
   replace hW33 := hW33.le hf87
   replace hR38 := hR38.le hf87
   replace hR47 := hR47.le hf87
   replace hW48 := hW48.le hf87
   replace hW57 := hW57.le hf87
   replace hR62 := hR62.le hf87
   replace hR71 := hR71.le hf87
   replace hW72 := hW72.le hf87
   replace hW83 := hW83.le hf87
   replace hle := hle.trans hf87
   obtain ⟨x89, hx90, hm⟩ := ob hm
   refine zen hs rfl has7 rfl (zet n (f := f86) (a0 := v81) ⟨rw82, hR88, hW83⟩ hx90) ?_; clear hs; (try clear a w)
   rintro _ f91 _ a w hf92 ⟨r93, rfl, rfl, hq94⟩ hs
   replace hW7 := hW7.le hf92
   replace hR12 := hR12.le hf92
   replace hR21 := hR21.le hf92
   replace hW22 := hW22.le hf92
   replace hW33 := hW33.le hf92
   replace hR38 := hR38.le hf92
   replace hR47 := hR47.le hf92
   replace hW48 := hW48.le hf92
   replace hW57 := hW57.le hf92
   replace hR62 := hR62.le hf92
   replace hR71 := hR71.le hf92
   replace hW72 := hW72.le hf92
   replace hW83 := hW83.le hf92
   replace hR88 := hR88.le hf92
   replace hle := hle.trans hf92
   obtain ⟨v95, rfl, ⟨rw96, hR97, hW98⟩⟩ := hq94
   refine sM (v := .tuple #[.agg #[v95], .int .i64 (x89.2)]) hs rfl fun hs => s1 (v := .agg #[v95]) hs (zar rfl rfl) fun hs => s1 (v := .int .i64 (x89.2)) hs (zar rfl rfl) fun hs => zbt hs ti24 (.free rfl) (by decide) fun b100 _ _ hs => zat (i := 0) hs rfl rfl rfl ti24 ⟨rfl, rfl⟩ (AllC.arr (r := [v95]) ⟨hR97.one, trivial⟩) (.free rfl) fun _ _ hs => sA (v := .int .i64 (x89.2)) hs rfl fun hs => za0 <| hK11 <| Ws fun hK12 => ?_
   refine zai (fun a w => ∃ (y103 : Bool), zas y103 = some res ∧ St 102 w0 f91 (L) [(0, .bool (y103))] a w) ?_ ?_
   ·clear hs hm
    rintro a w ⟨y103, hm, hs⟩
    unfold zas at hm
    refine hK12 <| zau ?_
    obtain rfl := Option.some.inj hm
    refine RtV1 hs rfl (rv_t hs rfl) ?_
    exact ⟨rfl, (hs.weak hle).cw⟩
   refine za7 <| sM (v := .int .i64 (x13.2)) hs rfl fun hs => s1 hs (zd3 rfl rfl) fun hs => sM (v := .bool (decide (x13.2 = 4))) hs rfl fun hs => ?_
   refine St.split hs (t := 53) rfl (fun hg104 hs => ?_) (fun hg104 hs => ?_)
   ·replace hm := oc_t hg104 hm
    refine s2 (v := .int .i64 (x39.2)) hs (zaa rfl) fun hs => s2 hs (zd3 rfl rfl) fun hs => sP (v := .bool (decide (x39.2 = 0))) hs rfl rfl fun hs => sM (v := .bool (decide (x39.2 = 0))) hs rfl fun hs => ?_
    refine St.split hs (t := 57) rfl (fun hg105 hs => ?_) (fun hg105 hs => ?_)
    ·replace hm := oc_t hg105 hm
     refine s2 (v := .int .i64 (x63.2)) hs (zaa rfl) fun hs => s2 hs (zd3 rfl rfl) fun hs => sP (v := .bool (decide (x63.2 = 0))) hs rfl rfl fun hs => sM (v := .bool (decide (x63.2 = 0))) hs rfl fun hs => ?_
     refine St.split hs (t := 61) rfl (fun hg106 hs => ?_) (fun hg106 hs => ?_)
     ·replace hm := oc_t hg106 hm
      refine s2 (v := .int .i64 (x89.2)) hs (zaa rfl) fun hs => s2 hs (zd3 rfl rfl) fun hs => sP (v := .bool (decide (x89.2 = 5))) hs rfl rfl fun hs => sM (v := .bool (decide (x89.2 = 5))) hs rfl fun hs => ?_
      refine St.split hs (t := 65) rfl (fun hg107 hs => ?_) (fun hg107 hs => ?_)
      ·replace hm := oc_t hg107 hm
       obtain ⟨x108, hx109, hm⟩ := ob hm
       refine s2 hs (zbd rfl has8 rfl (zh1 n (f := f91)  hx109)) fun hs => sP (v := .bool (x108)) hs rfl rfl fun hs => sM (v := .bool (x108)) hs rfl fun hs => ?_
       refine St.split hs (t := 68) rfl (fun hg110 hs => ?_) (fun hg110 hs => ?_)
       ·replace hm := oc_t hg110 hm
        obtain ⟨x111, hx112, hm⟩ := ob hm
        refine s2 hs (zbd rfl has8 rfl (zh1 n (f := f91)  hx112)) fun hs => s2 (v := .bool ((!x111))) hs (zj8 rfl) fun hs => sP (v := .bool ((!x111))) hs rfl rfl fun hs => sM (v := .bool ((!x111))) hs rfl fun hs => ?_
        refine St.split hs (t := 72) rfl (fun hg113 hs => ?_) (fun hg113 hs => ?_)
        ·replace hm := oc_t hg113 hm
         obtain ⟨x114, hx115, hm⟩ := ob hm
         refine s2 hs (zbd rfl has9 rfl (zg5 n (f := f91)  hx115)) fun hs => sP (v := .bool (x114)) hs rfl rfl fun hs => sM (v := .bool (x114)) hs rfl fun hs => ?_
         refine St.split hs (t := 75) rfl (fun hg116 hs => ?_) (fun hg116 hs => ?_)
         ·replace hm := oc_t hg116 hm
          obtain ⟨x117, hx118, hm⟩ := ob hm
          refine s2 hs (zbd rfl has9 rfl (zg5 n (f := f91)  hx118)) fun hs => sP (v := .bool (x117)) hs rfl rfl fun hs => sM (v := .bool (x117)) hs rfl fun hs => ?_
          refine St.split hs (t := 78) rfl (fun hg119 hs => ?_) (fun hg119 hs => ?_)
          ·replace hm := oc_t hg119 hm
           obtain ⟨x120, hx121, hm⟩ := ob hm
           refine s2 hs (zbd rfl has9 rfl (zg5 n (f := f91)  hx121)) fun hs => sP (v := .bool (x120)) hs rfl rfl fun hs => sM (v := .bool (x120)) hs rfl fun hs => ?_
           refine St.split hs (t := 81) rfl (fun hg122 hs => ?_) (fun hg122 hs => ?_)
           ·replace hm := oc_t hg122 hm
            obtain ⟨x123, hx124, hm⟩ := ob hm
            refine s2 hs (zbd rfl has9 rfl (zg5 n (f := f91)  hx124)) fun hs => sP (v := .bool (x123)) hs rfl rfl fun hs => sM (v := .bool (x123)) hs rfl fun hs => ?_
            refine St.split hs (t := 84) rfl (fun hg125 hs => ?_) (fun hg125 hs => ?_)
            ·replace hm := oc_t hg125 hm
             obtain ⟨x126, hx127, hm⟩ := ob hm
             refine s2 hs (zbd rfl has9 rfl (zg5 n (f := f91)  hx127)) fun hs => sP (v := .bool (x126)) hs rfl rfl fun hs => sM (v := .bool (x126)) hs rfl fun hs => ?_
             refine St.split hs (t := 87) rfl (fun hg128 hs => ?_) (fun hg128 hs => ?_)
             ·replace hm := oc_t hg128 hm
              obtain ⟨x129, hx130, hm⟩ := ob hm
              refine s2 hs (zbd rfl has9 rfl (zg5 n (f := f91)  hx130)) fun hs => sP (v := .bool (x129)) hs rfl rfl fun hs => sM (v := .bool (x129)) hs rfl fun hs => ?_
              refine St.split hs (t := 90) rfl (fun hg131 hs => ?_) (fun hg131 hs => ?_)
              ·replace hm := oc_t hg131 hm
               obtain ⟨x132, hx133, hm⟩ := ob hm
               refine s2 hs (zbd rfl has9 rfl (zg5 n (f := f91)  hx133)) fun hs => sP (v := .bool (x132)) hs rfl rfl fun hs => sM (v := .bool (x132)) hs rfl fun hs => ?_
               refine St.split hs (t := 93) rfl (fun hg134 hs => ?_) (fun hg134 hs => ?_)
               ·replace hm := oc_t hg134 hm
                obtain ⟨x135, hx136, hm⟩ := ob hm
                refine s2 hs (zbd rfl has9 rfl (zg5 n (f := f91)  hx136)) fun hs => sP (v := .bool (x135)) hs rfl rfl fun hs => sM (v := .bool (x135)) hs rfl fun hs => ?_
                refine St.split hs (t := 96) rfl (fun hg137 hs => ?_) (fun hg137 hs => ?_)
                ·replace hm := oc_t hg137 hm
                 obtain ⟨x138, hx139, hm⟩ := ob hm
                 refine s2 hs (zbd rfl has9 rfl (zg5 n (f := f91)  hx139)) fun hs => sP (v := .bool (x138)) hs rfl rfl fun hs => sM (v := .bool (x138)) hs rfl fun hs => ?_
                 refine St.split hs (t := 99) rfl (fun hg140 hs => ?_) (fun hg140 hs => ?_)
                 ·replace hm := oc_t hg140 hm
                  obtain ⟨x141, hx142, hm⟩ := ob hm
                  refine s2 hs (zbd rfl has10 rfl (zfu n (f := f91)  hx142)) fun hs => sP (v := .bool (x141)) hs rfl rfl fun hs => sA (v := .bool (x141)) hs rfl fun hs => za0 ?_
                  exact ⟨x141, hm, hs.subs ⟨rfl, trivial⟩ (.cons _ (.cons _ (.cons _ (.cons _ (.refl _)))))⟩
                 replace hm := oc_f hg140 hm
                 refine s3 hs fun hs => sP (v := .bool (false)) hs rfl rfl fun hs => sA (v := .bool (false)) hs rfl fun hs => za0 ?_
                 exact ⟨false, hm, hs.subs ⟨rfl, trivial⟩ (.cons _ (.cons _ (.cons _ (.cons _ (.refl _)))))⟩
                replace hm := oc_f hg137 hm
                refine s3 hs fun hs => sP (v := .bool (false)) hs rfl rfl fun hs => sM (v := .bool (false)) hs rfl fun hs => s3 hs fun hs => sP (v := .bool (false)) hs rfl rfl fun hs => sA (v := .bool (false)) hs rfl fun hs => za0 ?_
                exact ⟨false, hm, hs.subs ⟨rfl, trivial⟩ (.cons _ (.cons _ (.cons _ (.cons _ (.refl _)))))⟩
               replace hm := oc_f hg134 hm
               refine s3 hs fun hs => sP (v := .bool (false)) hs rfl rfl fun hs => sM (v := .bool (false)) hs rfl fun hs => s3 hs fun hs => sP (v := .bool (false)) hs rfl rfl fun hs => sM (v := .bool (false)) hs rfl fun hs => s3 hs fun hs => sP (v := .bool (false)) hs rfl rfl fun hs => sA (v := .bool (false)) hs rfl fun hs => za0 ?_
               exact ⟨false, hm, hs.subs ⟨rfl, trivial⟩ (.cons _ (.cons _ (.cons _ (.cons _ (.refl _)))))⟩
              replace hm := oc_f hg131 hm
              refine s3 hs fun hs => sP (v := .bool (false)) hs rfl rfl fun hs => sM (v := .bool (false)) hs rfl fun hs => s3 hs fun hs => sP (v := .bool (false)) hs rfl rfl fun hs => sM (v := .bool (false)) hs rfl fun hs => s3 hs fun hs => sP (v := .bool (false)) hs rfl rfl fun hs => sM (v := .bool (false)) hs rfl fun hs => s3 hs fun hs => ?_
              refine sP (v := .bool (false)) hs rfl rfl fun hs => sA (v := .bool (false)) hs rfl fun hs => za0 ?_
              exact ⟨false, hm, hs.subs ⟨rfl, trivial⟩ (.cons _ (.cons _ (.cons _ (.cons _ (.refl _)))))⟩
             replace hm := oc_f hg128 hm
             refine s3 hs fun hs => sP (v := .bool (false)) hs rfl rfl fun hs => sM (v := .bool (false)) hs rfl fun hs => s3 hs fun hs => sP (v := .bool (false)) hs rfl rfl fun hs => sM (v := .bool (false)) hs rfl fun hs => s3 hs fun hs => sP (v := .bool (false)) hs rfl rfl fun hs => sM (v := .bool (false)) hs rfl fun hs => s3 hs fun hs => ?_
             refine sP (v := .bool (false)) hs rfl rfl fun hs => sM (v := .bool (false)) hs rfl fun hs => s3 hs fun hs => sP (v := .bool (false)) hs rfl rfl fun hs => sA (v := .bool (false)) hs rfl fun hs => za0 ?_
             exact ⟨false, hm, hs.subs ⟨rfl, trivial⟩ (.cons _ (.cons _ (.cons _ (.cons _ (.refl _)))))⟩
            replace hm := oc_f hg125 hm
            refine s3 hs fun hs => sP (v := .bool (false)) hs rfl rfl fun hs => sM (v := .bool (false)) hs rfl fun hs => s3 hs fun hs => sP (v := .bool (false)) hs rfl rfl fun hs => sM (v := .bool (false)) hs rfl fun hs => s3 hs fun hs => sP (v := .bool (false)) hs rfl rfl fun hs => sM (v := .bool (false)) hs rfl fun hs => s3 hs fun hs => ?_
            refine sP (v := .bool (false)) hs rfl rfl fun hs => sM (v := .bool (false)) hs rfl fun hs => s3 hs fun hs => sP (v := .bool (false)) hs rfl rfl fun hs => sM (v := .bool (false)) hs rfl fun hs => s3 hs fun hs => sP (v := .bool (false)) hs rfl rfl fun hs => sA (v := .bool (false)) hs rfl fun hs => za0 ?_
            exact ⟨false, hm, hs.subs ⟨rfl, trivial⟩ (.cons _ (.cons _ (.cons _ (.cons _ (.refl _)))))⟩
           replace hm := oc_f hg122 hm
           refine s3 hs fun hs => sP (v := .bool (false)) hs rfl rfl fun hs => sM (v := .bool (false)) hs rfl fun hs => s3 hs fun hs => sP (v := .bool (false)) hs rfl rfl fun hs => sM (v := .bool (false)) hs rfl fun hs => s3 hs fun hs => sP (v := .bool (false)) hs rfl rfl fun hs => sM (v := .bool (false)) hs rfl fun hs => s3 hs fun hs => ?_
           refine sP (v := .bool (false)) hs rfl rfl fun hs => sM (v := .bool (false)) hs rfl fun hs => s3 hs fun hs => sP (v := .bool (false)) hs rfl rfl fun hs => sM (v := .bool (false)) hs rfl fun hs => s3 hs fun hs => sP (v := .bool (false)) hs rfl rfl fun hs => sM (v := .bool (false)) hs rfl fun hs => s3 hs fun hs => sP (v := .bool (false)) hs rfl rfl fun hs => ?_
           refine sA (v := .bool (false)) hs rfl fun hs => za0 ?_
           exact ⟨false, hm, hs.subs ⟨rfl, trivial⟩ (.cons _ (.cons _ (.cons _ (.cons _ (.refl _)))))⟩
          replace hm := oc_f hg119 hm
          refine s3 hs fun hs => sP (v := .bool (false)) hs rfl rfl fun hs => sM (v := .bool (false)) hs rfl fun hs => s3 hs fun hs => sP (v := .bool (false)) hs rfl rfl fun hs => sM (v := .bool (false)) hs rfl fun hs => s3 hs fun hs => sP (v := .bool (false)) hs rfl rfl fun hs => sM (v := .bool (false)) hs rfl fun hs => s3 hs fun hs => ?_
          refine sP (v := .bool (false)) hs rfl rfl fun hs => sM (v := .bool (false)) hs rfl fun hs => s3 hs fun hs => sP (v := .bool (false)) hs rfl rfl fun hs => sM (v := .bool (false)) hs rfl fun hs => s3 hs fun hs => sP (v := .bool (false)) hs rfl rfl fun hs => sM (v := .bool (false)) hs rfl fun hs => s3 hs fun hs => sP (v := .bool (false)) hs rfl rfl fun hs => ?_
          refine sM (v := .bool (false)) hs rfl fun hs => s3 hs fun hs => sP (v := .bool (false)) hs rfl rfl fun hs => sA (v := .bool (false)) hs rfl fun hs => za0 ?_
          exact ⟨false, hm, hs.subs ⟨rfl, trivial⟩ (.cons _ (.cons _ (.cons _ (.cons _ (.refl _)))))⟩
         replace hm := oc_f hg116 hm
         refine s3 hs fun hs => sP (v := .bool (false)) hs rfl rfl fun hs => sM (v := .bool (false)) hs rfl fun hs => s3 hs fun hs => sP (v := .bool (false)) hs rfl rfl fun hs => sM (v := .bool (false)) hs rfl fun hs => s3 hs fun hs => sP (v := .bool (false)) hs rfl rfl fun hs => sM (v := .bool (false)) hs rfl fun hs => s3 hs fun hs => ?_
         refine sP (v := .bool (false)) hs rfl rfl fun hs => sM (v := .bool (false)) hs rfl fun hs => s3 hs fun hs => sP (v := .bool (false)) hs rfl rfl fun hs => sM (v := .bool (false)) hs rfl fun hs => s3 hs fun hs => sP (v := .bool (false)) hs rfl rfl fun hs => sM (v := .bool (false)) hs rfl fun hs => s3 hs fun hs => sP (v := .bool (false)) hs rfl rfl fun hs => ?_
         refine sM (v := .bool (false)) hs rfl fun hs => s3 hs fun hs => sP (v := .bool (false)) hs rfl rfl fun hs => sM (v := .bool (false)) hs rfl fun hs => s3 hs fun hs => sP (v := .bool (false)) hs rfl rfl fun hs => sA (v := .bool (false)) hs rfl fun hs => za0 ?_
         exact ⟨false, hm, hs.subs ⟨rfl, trivial⟩ (.cons _ (.cons _ (.cons _ (.cons _ (.refl _)))))⟩
        replace hm := oc_f hg113 hm
        refine s3 hs fun hs => sP (v := .bool (false)) hs rfl rfl fun hs => sM (v := .bool (false)) hs rfl fun hs => s3 hs fun hs => sP (v := .bool (false)) hs rfl rfl fun hs => sM (v := .bool (false)) hs rfl fun hs => s3 hs fun hs => sP (v := .bool (false)) hs rfl rfl fun hs => sM (v := .bool (false)) hs rfl fun hs => s3 hs fun hs => ?_
        refine sP (v := .bool (false)) hs rfl rfl fun hs => sM (v := .bool (false)) hs rfl fun hs => s3 hs fun hs => sP (v := .bool (false)) hs rfl rfl fun hs => sM (v := .bool (false)) hs rfl fun hs => s3 hs fun hs => sP (v := .bool (false)) hs rfl rfl fun hs => sM (v := .bool (false)) hs rfl fun hs => s3 hs fun hs => sP (v := .bool (false)) hs rfl rfl fun hs => ?_
        refine sM (v := .bool (false)) hs rfl fun hs => s3 hs fun hs => sP (v := .bool (false)) hs rfl rfl fun hs => sM (v := .bool (false)) hs rfl fun hs => s3 hs fun hs => sP (v := .bool (false)) hs rfl rfl fun hs => sM (v := .bool (false)) hs rfl fun hs => s3 hs fun hs => sP (v := .bool (false)) hs rfl rfl fun hs => sA (v := .bool (false)) hs rfl fun hs => ?_
        refine za0 ?_
        exact ⟨false, hm, hs.subs ⟨rfl, trivial⟩ (.cons _ (.cons _ (.cons _ (.cons _ (.refl _)))))⟩
       replace hm := oc_f hg110 hm
       refine s3 hs fun hs => s3 hs fun hs => sP (v := .bool (false)) hs rfl rfl fun hs => sM (v := .bool (false)) hs rfl fun hs => s3 hs fun hs => sP (v := .bool (false)) hs rfl rfl fun hs => sM (v := .bool (false)) hs rfl fun hs => s3 hs fun hs => sP (v := .bool (false)) hs rfl rfl fun hs => sM (v := .bool (false)) hs rfl fun hs => ?_
       refine s3 hs fun hs => sP (v := .bool (false)) hs rfl rfl fun hs => sM (v := .bool (false)) hs rfl fun hs => s3 hs fun hs => sP (v := .bool (false)) hs rfl rfl fun hs => sM (v := .bool (false)) hs rfl fun hs => s3 hs fun hs => sP (v := .bool (false)) hs rfl rfl fun hs => sM (v := .bool (false)) hs rfl fun hs => s3 hs fun hs => ?_
       refine sP (v := .bool (false)) hs rfl rfl fun hs => sM (v := .bool (false)) hs rfl fun hs => s3 hs fun hs => sP (v := .bool (false)) hs rfl rfl fun hs => sM (v := .bool (false)) hs rfl fun hs => s3 hs fun hs => sP (v := .bool (false)) hs rfl rfl fun hs => sM (v := .bool (false)) hs rfl fun hs => s3 hs fun hs => sP (v := .bool (false)) hs rfl rfl fun hs => ?_
       refine sM (v := .bool (false)) hs rfl fun hs => s3 hs fun hs => sP (v := .bool (false)) hs rfl rfl fun hs => sA (v := .bool (false)) hs rfl fun hs => za0 ?_
       exact ⟨false, hm, hs.subs ⟨rfl, trivial⟩ (.cons _ (.cons _ (.cons _ (.cons _ (.refl _)))))⟩
      replace hm := oc_f hg107 hm
      refine s3 hs fun hs => sP (v := .bool (false)) hs rfl rfl fun hs => sM (v := .bool (false)) hs rfl fun hs => s3 hs fun hs => s3 hs fun hs => sP (v := .bool (false)) hs rfl rfl fun hs => sM (v := .bool (false)) hs rfl fun hs => s3 hs fun hs => sP (v := .bool (false)) hs rfl rfl fun hs => sM (v := .bool (false)) hs rfl fun hs => ?_
      refine s3 hs fun hs => sP (v := .bool (false)) hs rfl rfl fun hs => sM (v := .bool (false)) hs rfl fun hs => s3 hs fun hs => sP (v := .bool (false)) hs rfl rfl fun hs => sM (v := .bool (false)) hs rfl fun hs => s3 hs fun hs => sP (v := .bool (false)) hs rfl rfl fun hs => sM (v := .bool (false)) hs rfl fun hs => s3 hs fun hs => ?_
      refine sP (v := .bool (false)) hs rfl rfl fun hs => sM (v := .bool (false)) hs rfl fun hs => s3 hs fun hs => sP (v := .bool (false)) hs rfl rfl fun hs => sM (v := .bool (false)) hs rfl fun hs => s3 hs fun hs => sP (v := .bool (false)) hs rfl rfl fun hs => sM (v := .bool (false)) hs rfl fun hs => s3 hs fun hs => sP (v := .bool (false)) hs rfl rfl fun hs => ?_
      refine sM (v := .bool (false)) hs rfl fun hs => s3 hs fun hs => sP (v := .bool (false)) hs rfl rfl fun hs => sM (v := .bool (false)) hs rfl fun hs => s3 hs fun hs => sP (v := .bool (false)) hs rfl rfl fun hs => sA (v := .bool (false)) hs rfl fun hs => za0 ?_
      exact ⟨false, hm, hs.subs ⟨rfl, trivial⟩ (.cons _ (.cons _ (.cons _ (.cons _ (.refl _)))))⟩
     replace hm := oc_f hg106 hm
     refine s3 hs fun hs => s3 hs fun hs => sP (v := .bool (false)) hs rfl rfl fun hs => sM (v := .bool (false)) hs rfl fun hs => s3 hs fun hs => sP (v := .bool (false)) hs rfl rfl fun hs => sM (v := .bool (false)) hs rfl fun hs => s3 hs fun hs => s3 hs fun hs => sP (v := .bool (false)) hs rfl rfl fun hs => ?_
     refine sM (v := .bool (false)) hs rfl fun hs => s3 hs fun hs => sP (v := .bool (false)) hs rfl rfl fun hs => sM (v := .bool (false)) hs rfl fun hs => s3 hs fun hs => sP (v := .bool (false)) hs rfl rfl fun hs => sM (v := .bool (false)) hs rfl fun hs => s3 hs fun hs => sP (v := .bool (false)) hs rfl rfl fun hs => sM (v := .bool (false)) hs rfl fun hs => ?_
     refine s3 hs fun hs => sP (v := .bool (false)) hs rfl rfl fun hs => sM (v := .bool (false)) hs rfl fun hs => s3 hs fun hs => sP (v := .bool (false)) hs rfl rfl fun hs => sM (v := .bool (false)) hs rfl fun hs => s3 hs fun hs => sP (v := .bool (false)) hs rfl rfl fun hs => sM (v := .bool (false)) hs rfl fun hs => s3 hs fun hs => ?_
     refine sP (v := .bool (false)) hs rfl rfl fun hs => sM (v := .bool (false)) hs rfl fun hs => s3 hs fun hs => sP (v := .bool (false)) hs rfl rfl fun hs => sM (v := .bool (false)) hs rfl fun hs => s3 hs fun hs => sP (v := .bool (false)) hs rfl rfl fun hs => sM (v := .bool (false)) hs rfl fun hs => s3 hs fun hs => sP (v := .bool (false)) hs rfl rfl fun hs => ?_
     refine sA (v := .bool (false)) hs rfl fun hs => za0 ?_
     exact ⟨false, hm, hs.subs ⟨rfl, trivial⟩ (.cons _ (.cons _ (.cons _ (.cons _ (.refl _)))))⟩
    replace hm := oc_f hg105 hm
    refine s3 hs fun hs => s3 hs fun hs => sP (v := .bool (false)) hs rfl rfl fun hs => sM (v := .bool (false)) hs rfl fun hs => s3 hs fun hs => s3 hs fun hs => sP (v := .bool (false)) hs rfl rfl fun hs => sM (v := .bool (false)) hs rfl fun hs => s3 hs fun hs => sP (v := .bool (false)) hs rfl rfl fun hs => ?_
    refine sM (v := .bool (false)) hs rfl fun hs => s3 hs fun hs => s3 hs fun hs => sP (v := .bool (false)) hs rfl rfl fun hs => sM (v := .bool (false)) hs rfl fun hs => s3 hs fun hs => sP (v := .bool (false)) hs rfl rfl fun hs => sM (v := .bool (false)) hs rfl fun hs => s3 hs fun hs => sP (v := .bool (false)) hs rfl rfl fun hs => ?_
    refine sM (v := .bool (false)) hs rfl fun hs => s3 hs fun hs => sP (v := .bool (false)) hs rfl rfl fun hs => sM (v := .bool (false)) hs rfl fun hs => s3 hs fun hs => sP (v := .bool (false)) hs rfl rfl fun hs => sM (v := .bool (false)) hs rfl fun hs => s3 hs fun hs => sP (v := .bool (false)) hs rfl rfl fun hs => sM (v := .bool (false)) hs rfl fun hs => ?_
    refine s3 hs fun hs => sP (v := .bool (false)) hs rfl rfl fun hs => sM (v := .bool (false)) hs rfl fun hs => s3 hs fun hs => sP (v := .bool (false)) hs rfl rfl fun hs => sM (v := .bool (false)) hs rfl fun hs => s3 hs fun hs => sP (v := .bool (false)) hs rfl rfl fun hs => sM (v := .bool (false)) hs rfl fun hs => s3 hs fun hs => ?_
    refine sP (v := .bool (false)) hs rfl rfl fun hs => sM (v := .bool (false)) hs rfl fun hs => s3 hs fun hs => sP (v := .bool (false)) hs rfl rfl fun hs => sA (v := .bool (false)) hs rfl fun hs => za0 ?_
    exact ⟨false, hm, hs.subs ⟨rfl, trivial⟩ (.cons _ (.cons _ (.cons _ (.cons _ (.refl _)))))⟩
   replace hm := oc_f hg104 hm
   refine s3 hs fun hs => s3 hs fun hs => sP (v := .bool (false)) hs rfl rfl fun hs => sM (v := .bool (false)) hs rfl fun hs => s3 hs fun hs => s3 hs fun hs => sP (v := .bool (false)) hs rfl rfl fun hs => sM (v := .bool (false)) hs rfl fun hs => s3 hs fun hs => s3 hs fun hs => ?_
   refine sP (v := .bool (false)) hs rfl rfl fun hs => sM (v := .bool (false)) hs rfl fun hs => s3 hs fun hs => sP (v := .bool (false)) hs rfl rfl fun hs => sM (v := .bool (false)) hs rfl fun hs => s3 hs fun hs => s3 hs fun hs => sP (v := .bool (false)) hs rfl rfl fun hs => sM (v := .bool (false)) hs rfl fun hs => s3 hs fun hs => ?_
   refine sP (v := .bool (false)) hs rfl rfl fun hs => sM (v := .bool (false)) hs rfl fun hs => s3 hs fun hs => sP (v := .bool (false)) hs rfl rfl fun hs => sM (v := .bool (false)) hs rfl fun hs => s3 hs fun hs => sP (v := .bool (false)) hs rfl rfl fun hs => sM (v := .bool (false)) hs rfl fun hs => s3 hs fun hs => sP (v := .bool (false)) hs rfl rfl fun hs => ?_
   refine sM (v := .bool (false)) hs rfl fun hs => s3 hs fun hs => sP (v := .bool (false)) hs rfl rfl fun hs => sM (v := .bool (false)) hs rfl fun hs => s3 hs fun hs => sP (v := .bool (false)) hs rfl rfl fun hs => sM (v := .bool (false)) hs rfl fun hs => s3 hs fun hs => sP (v := .bool (false)) hs rfl rfl fun hs => sM (v := .bool (false)) hs rfl fun hs => ?_
   refine s3 hs fun hs => sP (v := .bool (false)) hs rfl rfl fun hs => sM (v := .bool (false)) hs rfl fun hs => s3 hs fun hs => sP (v := .bool (false)) hs rfl rfl fun hs => sM (v := .bool (false)) hs rfl fun hs => s3 hs fun hs => sP (v := .bool (false)) hs rfl rfl fun hs => sA (v := .bool (false)) hs rfl fun hs => za0 ?_
   exact ⟨false, hm, hs.subs ⟨rfl, trivial⟩ (.cons _ (.cons _ (.cons _ (.cons _ (.refl _)))))⟩
  refine zam fun Qe13 hB13 hO13 => zcw (fun (k : Nat) a w => ∃ (y143 : ByteArray) (y144 : Int), zcr n y1 k y143 y144 = some res ∧ St 102 w0 f (L) [(1, .string (y1)), (3, .string (y143)), (4, .int .i64 (y144))] a w) (fun k => k) n ⟨(bs []), 0, hm, hs.sub ⟨rfl, rfl, rfl, trivial⟩⟩ ?_
  clear hs hm
  intro k
  rintro a w ⟨y143, y144, hm, hs⟩
  intro K14 hK14
  cases k with
  | zero => simp [zcr] at hm
  | succ k145 =>
   rw [zcr] at hm
   refine Ws fun hK15 => Wq fun hK16 => sM (v := .int .i64 (y144)) hs rfl fun hs => s1 hs (zg7 rfl rfl) fun hs => za0 <| hK16 ?_
   refine zaf hs rfl (fun hg146 => ?_) (fun hg146 => ?_)
   ·replace hm := oc_t hg146 hm
    refine zah <| hK15 <| Ws fun hK17 => zam fun Qe18 hB18 hO18 => za7 <| sM (v := .string (y143)) hs rfl fun hs => ?_
    obtain ⟨x147, hx148, hm⟩ := ob hm
    obtain ⟨hbx147, hex147⟩ := zg6 hx148
    refine s1 hs (zir rfl rfl hbx147 hex147) fun hs => sA (v := .string (x147)) hs rfl fun hs => za0 <| hK17 <| za7 <| sM (v := .int .i64 (y144)) hs rfl fun hs => s1 hs (zeq rfl rfl rfl) fun hs => sA (v := .int .i64 ((w64 (y144 + 1)))) hs rfl fun hs => za0 ?_
    exact hK14 k145 _ _ (Nat.lt_succ_self _) ⟨x147, (w64 (y144 + 1)), hm, hs.sub ⟨rfl, rfl, rfl, trivial⟩⟩
   replace hm := oc_f hg146 hm
   refine zc9 <| hB13 _ _ ?_
   exact ⟨y143, hm, hs.sub ⟨rfl, rfl, trivial⟩⟩
 refine zam fun Qe19 hB19 hO19 => zcw (fun (k : Nat) a w => ∃ (y149 : ByteArray) (y150 : Int), zcq n k y149 y150 = some res ∧ St 102 w0 f (L) [(1, .string (y149)), (2, .int .i64 (y150))] a w) (fun k => k) n ⟨(bs []), 0, hm, hs.sub ⟨rfl, rfl, trivial⟩⟩ ?_
 clear hs hm
 intro k
 rintro a w ⟨y149, y150, hm, hs⟩
 intro K20 hK20
 cases k with
 | zero => simp [zcq] at hm
 | succ k151 =>
  rw [zcq] at hm
  refine Ws fun hK21 => Wq fun hK22 => sM (v := .int .i64 (y150)) hs rfl fun hs => s1 hs (zg7 rfl rfl) fun hs => za0 <| hK22 ?_
  refine zaf hs rfl (fun hg152 => ?_) (fun hg152 => ?_)
  ·replace hm := oc_t hg152 hm
   refine zah <| hK21 <| Ws fun hK23 => zam fun Qe24 hB24 hO24 => za7 <| sM (v := .string (y149)) hs rfl fun hs => ?_
   obtain ⟨x153, hx154, hm⟩ := ob hm
   obtain ⟨hbx153, hex153⟩ := zg6 hx154
   refine s1 hs (zir rfl rfl hbx153 hex153) fun hs => sA (v := .string (x153)) hs rfl fun hs => za0 <| hK23 <| za7 <| sM (v := .int .i64 (y150)) hs rfl fun hs => s1 hs (zeq rfl rfl rfl) fun hs => sA (v := .int .i64 ((w64 (y150 + 1)))) hs rfl fun hs => za0 ?_
   exact hK20 k151 _ _ (Nat.lt_succ_self _) ⟨x153, (w64 (y150 + 1)), hm, hs.sub ⟨rfl, rfl, trivial⟩⟩
  replace hm := oc_f hg152 hm
  refine zc9 <| hB19 _ _ ?_
  exact ⟨y149, hm, hs.sub ⟨rfl, trivial⟩⟩
end Go.Proofs.Ytklcdfnhdljkjaa
