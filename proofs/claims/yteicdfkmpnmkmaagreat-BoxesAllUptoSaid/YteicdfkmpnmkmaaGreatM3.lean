/-
  Walks and laws of this seat.
-/
import Derived.Test.YteicdfkmpnmkmaaGreatM2
namespace Go.V
set_option linter.unusedVariables false
set_option linter.unusedSimpArgs false
set_option linter.unusedSectionVars false
variable [F0]
set_option maxRecDepth 100000
open Go.RowKit Go.Sl Go.Proofs
def znk (a0 : BoxT) : Option Bool :=
  (bif decide (a0.x.1 = 1) then
  some true
  else bif decide (a0.x.1 = 2) then
  some true
  else some (decide (a0.x.1 = 3)))
def zl1 : Con := ⟨[.d cBoxT],[.d .bool], fun x => znk x⟩
theorem zm1 : ConOk Tryz.prog 25 (zl1) :=
  za1 (ps := [.d cBoxT]) (rs := [.d .bool]) (fn := Tryz.f25) (E := ⟨tOf tl, gOf []⟩) ⟨za3 zac, za4 trivial, mixedOk⟩ (body := bodyOf Tryz.f25) (pl := []) (M := 400) (cuts := []) (entry := fun n x => znk x) rfl rfl (by decide) (by kernel_rfl) trivial (fun _ _ => by kernel_rfl) 0
def zi9 (a0 : BoxT) : Option Bool :=
  (bif decide (a0.x.1 = 1) then
  some true
  else bif decide (a0.x.1 = 2) then
  some true
  else some (decide (a0.x.1 = 3)))
def zkp : Con := ⟨[.d cBoxT],[.d .bool], fun x => zi9 x⟩
theorem zlu : ConOk Tryz.prog 26 (zkp) :=
  za1 (ps := [.d cBoxT]) (rs := [.d .bool]) (fn := Tryz.f26) (E := ⟨tOf tl, gOf []⟩) ⟨za3 zac, za4 trivial, mixedOk⟩ (body := bodyOf Tryz.f26) (pl := []) (M := 400) (cuts := []) (entry := fun n x => zi9 x) rfl rfl (by decide) (by kernel_rfl) trivial (fun _ _ => by kernel_rfl) 0
def ze6 : Nat → (ByteArray × Nat) → Option Bool
  | 0, _ => none
  | n + 1, v20 =>
  bif decide (v20.2 < v20.1.size) then
  (bif decide (((Utf8.decode v20.1 v20.2).1 : Int) ≠ 9) then
  bif decide (((Utf8.decode v20.1 v20.2).1 : Int) ≠ 10) then
  bif decide (((Utf8.decode v20.1 v20.2).1 : Int) ≠ 12) then
  (bif decide (((Utf8.decode v20.1 v20.2).1 : Int) ≠ 32) then
  (some false)
  else (ze6 n) (v20.1,(v20.2 + (Utf8.decode v20.1 v20.2).2)))
  else ((ze6 n) (v20.1,(v20.2 + (Utf8.decode v20.1 v20.2).2)))
  else ((ze6 n) (v20.1,(v20.2 + (Utf8.decode v20.1 v20.2).2)))
  else ((ze6 n) (v20.1,(v20.2 + (Utf8.decode v20.1 v20.2).2))))
  else (some true)
def zt8 (n : Nat) (a0 : BoxT) (a1 : Bool) : Option Bool :=
  (bif decide (a0.x.1 ≠ 7) then
  (some false)
  else bif a1 then
  (bif a0.x.2.2.2.1.2.2.2.2.2.2.2.2.2.2.2.2.2.2.2.1 then
  (some false)
  else ((ze6 n) (a0.x.2.2.2.2.1,0)))
  else ((ze6 n) (a0.x.2.2.2.2.1,0)))
def zwj (k : Nat) (a0 : BoxT) (a1 : Bool) : Option Bool := zt8 k a0 a1
def zpj (k : Nat) : Con := ⟨[.d cBoxT, .d .bool],[.d .bool], fun x => zwj k x.1 x.2⟩
theorem zxl (k : Nat) : ConOk Tryz.prog 102 (zpj k) :=
  za1 (ps := [.d cBoxT, .d .bool]) (rs := [.d .bool]) (fn := Tryz.f102) (E := ⟨tOf tl, gOf []⟩) ⟨za3 zac, za4 trivial, mixedOk⟩ (body := bodyOf Tryz.f102) (pl := []) (M := 400) (cuts := [⟨4,[0,5,4,1,0,1,1],[20],[.g], fun n x => ze6 n x,[]⟩]) (entry := fun n x => zt8 n x.1 x.2) rfl rfl (by decide) (by kernel_rfl) ⟨⟨fun _ => by kernel_rfl, fun _ _ => by kernel_rfl⟩, trivial⟩ (fun _ _ => by kernel_rfl) k
def zko (a0 : BoxT) : Option Bool :=
  (bif decide (a0.x.1 = 6) then
  some true
  else bif decide (a0.x.1 = 7) then
  some true
  else some (decide (a0.x.1 = 8)))
def zol : Con := ⟨[.d cBoxT],[.d .bool], fun x => zko x⟩
theorem zwz : ConOk Tryz.prog 129 (zol) :=
  za1 (ps := [.d cBoxT]) (rs := [.d .bool]) (fn := Tryz.f129) (E := ⟨tOf tl, gOf []⟩) ⟨za3 zac, za4 trivial, mixedOk⟩ (body := bodyOf Tryz.f129) (pl := []) (M := 400) (cuts := []) (entry := fun n x => zko x) rfl rfl (by decide) (by kernel_rfl) trivial (fun _ _ => by kernel_rfl) 0
def zcp (a0 : BoxT) (a1 : Int) (a2 : Bool) : Option Bool :=
  (bif decide (a1 = 1) then
  ((zko (Tr.mk a0.x a0.kids)).bind fun r1 =>
  bif r1 then
  bif (!a2) then
  some true
  else some (decide (a0.x.1 ≠ 6))
  else some false)
  else (some (decide (a0.x.1 ≠ a1))))
def zoj : Con := ⟨[.d cBoxT, .d (.int .i64), .d .bool],[.d .bool], fun x => zcp x.1 x.2.1 x.2.2⟩
theorem zwy : ConOk Tryz.prog 105 (zoj) :=
  za1 (ps := [.d cBoxT, .d (.int .i64), .d .bool]) (rs := [.d .bool]) (fn := Tryz.f105) (E := ⟨tOf tl, gOf [(129, zol)]⟩) ⟨za3 zac, za4 ⟨zwz, trivial⟩, mixedOk⟩ (body := bodyOf Tryz.f105) (pl := []) (M := 400) (cuts := []) (entry := fun n x => zcp x.1 x.2.1 x.2.2) rfl rfl (by decide) (by kernel_rfl) trivial (fun _ _ => by kernel_rfl) 0
mutual
def ze2 : Nat → (List BoxT) → Bool → Int → Option Bool
  | 0, _, _, _ => none
  | n + 1, a0, a1, v5 =>
  (bif decide (v5 < (a0.length : Int)) then
  ((geti a0 v5).bind fun r1 =>
  bif decide (r1.x.1 ≠ 7) then
  (some false)
  else bif a1 then
  (geti a0 v5).bind fun r2 =>
  (bif r2.x.2.2.2.1.2.2.2.2.2.2.2.2.2.2.2.2.2.2.2.1 then
  (some false)
  else ((geti a0 v5).bind fun r3 =>
  (ze1 n) a0 a1 v5 (r3.x.2.2.2.2.1,0)))
  else ((geti a0 v5).bind fun r3 =>
  (ze1 n) a0 a1 v5 (r3.x.2.2.2.2.1,0)))
  else (some true))
def ze1 : Nat → (List BoxT) → Bool → Int → (ByteArray × Nat) → Option Bool
  | 0, _, _, _, _ => none
  | n + 1, a0, a1, v5, v36 =>
  bif decide (v36.2 < v36.1.size) then
  ((zbw ((Utf8.decode v36.1 v36.2).1 : Int)).bind fun r4 =>
  (bif (!r4) then
  (some false)
  else (ze1 n) a0 a1 v5 (v36.1,(v36.2 + (Utf8.decode v36.1 v36.2).2))))
  else ((ze2 n) a0 a1 (w64 (v5 + 1)))
end
def zn8 (n : Nat) (a0 : (List BoxT)) (a1 : Bool) : Option Bool :=
  ((ze2 n) a0 a1 0)
def zrd (k : Nat) (a0 : (List BoxT)) (a1 : Bool) : Option Bool := zn8 k a0 a1
def zon (k : Nat) : Con := ⟨[.d (.sl cBoxT), .d .bool],[.d .bool], fun x => zrd k x.1 x.2⟩
theorem zx0 (k : Nat) : ConOk Tryz.prog 106 (zon k) :=
  za1 (ps := [.d (.sl cBoxT), .d .bool]) (rs := [.d .bool]) (fn := Tryz.f106) (E := ⟨tOf tl, gOf [(45, zc1)]⟩) ⟨za3 zac, za4 ⟨zd3, trivial⟩, mixedOk⟩ (body := bodyOf Tryz.f106) (pl := []) (M := 400) (cuts := [⟨2,[0,0,5,4,1,0,1],[0,1,5],[.d (.sl cBoxT), .d .bool, .d (.int .i64)], fun n x => ze2 n x.1 x.2.1 x.2.2,[]⟩, ⟨7,[0,5,4,1,1,4,0,1,5,4,1,0,1],[0,1,5,36],[.d (.sl cBoxT), .d .bool, .d (.int .i64), .g], fun n x => ze1 n x.1 x.2.1 x.2.2.1 x.2.2.2,[]⟩]) (entry := fun n x => zn8 n x.1 x.2) rfl rfl (by decide) (by kernel_rfl) ⟨⟨fun _ => by kernel_rfl, fun _ _ => by kernel_rfl⟩, ⟨fun _ => by kernel_rfl, fun _ _ => by kernel_rfl⟩, trivial⟩ (fun _ _ => by kernel_rfl) k
def zrs (a0 : BoxT) : Option Bool :=
  ((znk (Tr.mk a0.x a0.kids)).bind fun r1 =>
  bif (!r1) then
  bif decide (a0.x.1 ≠ 4) then
  some (decide (a0.x.1 ≠ 5))
  else some false
  else some false)
def zpi : Con := ⟨[.d cBoxT],[.d .bool], fun x => zrs x⟩
theorem zxk : ConOk Tryz.prog 66 (zpi) :=
  za1 (ps := [.d cBoxT]) (rs := [.d .bool]) (fn := Tryz.f66) (E := ⟨tOf tl, gOf [(25, zl1)]⟩) ⟨za3 zac, za4 ⟨zm1, trivial⟩, mixedOk⟩ (body := bodyOf Tryz.f66) (pl := []) (M := 400) (cuts := []) (entry := fun n x => zrs x) rfl rfl (by decide) (by kernel_rfl) trivial (fun _ _ => by kernel_rfl) 0
def zrr (a0 : BoxT) : Option Bool :=
  (some (decide (a0.x.1 ≠ 4)))
def zph : Con := ⟨[.d cBoxT],[.d .bool], fun x => zrr x⟩
theorem zxj : ConOk Tryz.prog 64 (zph) :=
  za1 (ps := [.d cBoxT]) (rs := [.d .bool]) (fn := Tryz.f64) (E := ⟨tOf tl, gOf []⟩) ⟨za3 zac, za4 trivial, mixedOk⟩ (body := bodyOf Tryz.f64) (pl := []) (M := 400) (cuts := []) (entry := fun n x => zrr x) rfl rfl (by decide) (by kernel_rfl) trivial (fun _ _ => by kernel_rfl) 0
def zrq (a0 : BoxT) : Option Bool :=
  (some (decide (a0.x.1 ≠ 5)))
def zpg : Con := ⟨[.d cBoxT],[.d .bool], fun x => zrq x⟩
theorem zxi : ConOk Tryz.prog 65 (zpg) :=
  za1 (ps := [.d cBoxT]) (rs := [.d .bool]) (fn := Tryz.f65) (E := ⟨tOf tl, gOf []⟩) ⟨za3 zac, za4 trivial, mixedOk⟩ (body := bodyOf Tryz.f65) (pl := []) (M := 400) (cuts := []) (entry := fun n x => zrq x) rfl rfl (by decide) (by kernel_rfl) trivial (fun _ _ => by kernel_rfl) 0
def zrp (a0 : BoxT) : Option Bool :=
  (bif decide (a0.x.1 = 7) then
  some true
  else some (decide (a0.x.1 = 8)))
def zpf : Con := ⟨[.d cBoxT],[.d .bool], fun x => zrp x⟩
theorem zxh : ConOk Tryz.prog 67 (zpf) :=
  za1 (ps := [.d cBoxT]) (rs := [.d .bool]) (fn := Tryz.f67) (E := ⟨tOf tl, gOf []⟩) ⟨za3 zac, za4 trivial, mixedOk⟩ (body := bodyOf Tryz.f67) (pl := []) (M := 400) (cuts := []) (entry := fun n x => zrp x) rfl rfl (by decide) (by kernel_rfl) trivial (fun _ _ => by kernel_rfl) 0
def zl0 : Option StyT :=
  (some (0,0,0,0,(0,0,()),(0,0,()),((1,0,()),(1,0,()),(1,0,()),(1,0,()),()),((1,0,()),(1,0,()),(1,0,()),(1,0,()),()),((0,0,()),(0,0,()),(0,0,()),(0,0,()),()),(0,0,0,0,()),255,0,1024,(-1),0, false, false, false, false,0,1,0,0,4,0, false,()))
def zkz : Con := ⟨[],[.d cStyT], fun _ => zl0⟩
theorem zt3 : ConOk Tryz.prog 143 (zkz) :=
  za1 (ps := []) (rs := [.d cStyT]) (fn := Tryz.f143) (E := ⟨tOf tl, gOf []⟩) ⟨za3 zac, za4 trivial, mixedOk⟩ (body := bodyOf Tryz.f143) (pl := []) (M := 400) (cuts := []) (entry := fun n _ => zl0) rfl rfl (by decide) (by kernel_rfl) trivial (fun _ _ => by kernel_rfl) 0
def zo1 (y2 : Int) (y3 : Int) (y4 : Int) (y5 : Int) (y6 : Bool) (y7 : Bool) (r1 : StyT) : Option StyT :=
  some (r1.1, r1.2.1, r1.2.2.1, r1.2.2.2.1, r1.2.2.2.2.1, r1.2.2.2.2.2.1, r1.2.2.2.2.2.2.1, r1.2.2.2.2.2.2.2.1, r1.2.2.2.2.2.2.2.2.1, r1.2.2.2.2.2.2.2.2.2.1, y2, r1.2.2.2.2.2.2.2.2.2.2.2.1, y3, y4, y5, y6, y7, r1.2.2.2.2.2.2.2.2.2.2.2.2.2.2.2.2.2.1, r1.2.2.2.2.2.2.2.2.2.2.2.2.2.2.2.2.2.2.1, r1.2.2.2.2.2.2.2.2.2.2.2.2.2.2.2.2.2.2.2.1, r1.2.2.2.2.2.2.2.2.2.2.2.2.2.2.2.2.2.2.2.2.1, r1.2.2.2.2.2.2.2.2.2.2.2.2.2.2.2.2.2.2.2.2.2.1, r1.2.2.2.2.2.2.2.2.2.2.2.2.2.2.2.2.2.2.2.2.2.2.1, r1.2.2.2.2.2.2.2.2.2.2.2.2.2.2.2.2.2.2.2.2.2.2.2.1, r1.2.2.2.2.2.2.2.2.2.2.2.2.2.2.2.2.2.2.2.2.2.2.2.2.1, r1.2.2.2.2.2.2.2.2.2.2.2.2.2.2.2.2.2.2.2.2.2.2.2.2.2.1,())
def zni (a0 : StyT) (a1 : Bool) : Option StyT :=
  ((zl0).bind fun r1 =>
  (bif (!a1) then
  (zo1 a0.2.2.2.2.2.2.2.2.2.2.1 a0.2.2.2.2.2.2.2.2.2.2.2.2.1 a0.2.2.2.2.2.2.2.2.2.2.2.2.2.1 a0.2.2.2.2.2.2.2.2.2.2.2.2.2.2.1 a0.2.2.2.2.2.2.2.2.2.2.2.2.2.2.2.1 a0.2.2.2.2.2.2.2.2.2.2.2.2.2.2.2.2.1 r1)
  else (zo1 r1.2.2.2.2.2.2.2.2.2.2.1 r1.2.2.2.2.2.2.2.2.2.2.2.2.1 r1.2.2.2.2.2.2.2.2.2.2.2.2.2.1 r1.2.2.2.2.2.2.2.2.2.2.2.2.2.2.1 r1.2.2.2.2.2.2.2.2.2.2.2.2.2.2.2.1 r1.2.2.2.2.2.2.2.2.2.2.2.2.2.2.2.2.1 r1)))
def zmj : Con := ⟨[.d cStyT, .d .bool],[.d cStyT], fun x => zni x.1 x.2⟩
theorem zuz : ConOk Tryz.prog 128 (zmj) :=
  za1 (ps := [.d cStyT, .d .bool]) (rs := [.d cStyT]) (fn := Tryz.f128) (E := ⟨tOf tl, gOf [(143, zkz)]⟩) ⟨za3 zac, za4 ⟨zt3, trivial⟩, mixedOk⟩ (body := bodyOf Tryz.f128) (pl := [(3,[(0,0),(1,0),(2,0),(3,0),(4,0),(5,0),(6,0),(7,0),(8,0),(9,0),(10,0),(11,0),(12,0),(13,1),(14,0),(15,1),(16,0),(17,1),(18,0),(19,1),(20,0),(21,1),(22,0),(23,1)],[2])]) (M := 400) (cuts := []) (entry := fun n x => zni x.1 x.2) rfl rfl (by decide) (by kernel_rfl) trivial (fun _ _ => by kernel_rfl) 0
def zhs (y1 : Bool) (a0 : StyT) (a1 : Int) : Option Int :=
  (bif decide (a0.1 = 3) then
  (some 2)
  else (bif decide (a0.1 = 4) then
  (some 3)
  else (bif decide (a0.1 = 5) then
  (bif decide (a1 = 3) then
  (bif (!y1) then
  (some 4)
  else (some 1))
  else (some 1))
  else (bif decide (a0.1 = 6) then
  (bif decide (a1 = 4) then
  (bif (!y1) then
  (some 5)
  else (some 1))
  else (some 1))
  else (bif decide (a0.1 = 0) then
  (bif (!y1) then
  (bif decide (a1 ≠ 2) then
  (some 6)
  else (some 1))
  else (some 1))
  else (some 1))))))
def zi8 (a0 : StyT) (a1 : Int) : Option Int :=
  (bif decide (a1 = 0) then
  (zhs true a0 a1)
  else bif decide (a0.2.1 = 2) then
  (zhs true a0 a1)
  else bif decide (a0.2.1 = 3) then
  (zhs true a0 a1)
  else (zhs (decide (a0.2.2.1 ≠ 0)) a0 a1))
def zqj : Con := ⟨[.d cStyT, .d (.int .i64)],[.d (.int .i64)], fun x => zi8 x.1 x.2⟩
theorem zz3 : ConOk Tryz.prog 69 (zqj) :=
  za1 (ps := [.d cStyT, .d (.int .i64)]) (rs := [.d (.int .i64)]) (fn := Tryz.f69) (E := ⟨tOf tl, gOf []⟩) ⟨za3 zac, za4 trivial, mixedOk⟩ (body := bodyOf Tryz.f69) (pl := []) (M := 400) (cuts := []) (entry := fun n x => zi8 x.1 x.2) rfl rfl (by decide) (by kernel_rfl) trivial (fun _ _ => by kernel_rfl) 0
def znj (y2 : Bool) (a0 : StyT) (a1 : Int) : Option Int :=
  (bif decide (a0.1 = 1) then
  (some 1)
  else (bif decide (a0.1 = 3) then
  (some 2)
  else (bif decide (a0.1 = 4) then
  (some 3)
  else (bif decide (a0.1 = 5) then
  (bif decide (a1 = 3) then
  (bif (!y2) then
  (some 4)
  else (some 1))
  else (some 1))
  else (bif decide (a0.1 = 6) then
  (bif decide (a1 = 4) then
  (bif (!y2) then
  (some 5)
  else (some 1))
  else (some 1))
  else (bif y2 then
  (some 1)
  else (bif decide (a1 = 2) then
  (some 1)
  else (some 6))))))))
def zt7 (y1 : Bool) (a1 : Int) (a0 : StyT) : Option Int :=
  bif decide (a1 = 0) then
  (znj true a0 a1)
  else bif y1 then
  (znj true a0 a1)
  else (znj (decide (a0.2.2.1 ≠ 0)) a0 a1)
def zu4 (a0 : StyT) (a1 : Int) : Option Int :=
  (bif decide (a0.2.1 = 2) then
  (zt7 true a1 a0)
  else (zt7 (decide (a0.2.1 = 3)) a1 a0))
def zr1 : Con := ⟨[.d cStyT, .d (.int .i64)],[.d (.int .i64)], fun x => zu4 x.1 x.2⟩
theorem zzz : ConOk Tryz.prog 33 (zr1) :=
  za1 (ps := [.d cStyT, .d (.int .i64)]) (rs := [.d (.int .i64)]) (fn := Tryz.f33) (E := ⟨tOf tl, gOf []⟩) ⟨za3 zac, za4 trivial, mixedOk⟩ (body := bodyOf Tryz.f33) (pl := []) (M := 400) (cuts := []) (entry := fun n x => zu4 x.1 x.2) rfl rfl (by decide) (by kernel_rfl) trivial (fun _ _ => by kernel_rfl) 0
def zzq (a0 : TreT) (a1 : Int) : Option Bool :=
  (bif decide (0 ≤ a1) then
  some (decide (a1 < (a0.1.length : Int)))
  else some false)
def zwe : Con := ⟨[.d cTreT, .d (.int .i64)],[.d .bool], fun x => zzq x.1 x.2⟩
theorem yey : ConOk Tryz.prog 62 (zwe) :=
  za1 (ps := [.d cTreT, .d (.int .i64)]) (rs := [.d .bool]) (fn := Tryz.f62) (E := ⟨tOf tl, gOf []⟩) ⟨za3 zac, za4 trivial, mixedOk⟩ (body := bodyOf Tryz.f62) (pl := []) (M := 400) (cuts := []) (entry := fun n x => zzq x.1 x.2) rfl rfl (by decide) (by kernel_rfl) trivial (fun _ _ => by kernel_rfl) 0
def zu2 : Nat → TreT → (List Int) → Int → Option (List Int)
  | 0, _, _, _ => none
  | n + 1, v2, v5, v6 =>
  (zzq v2 v6).bind fun r3 =>
  bif r3 then
  (bif decide ((v5.length : Int) < (v2.1.length : Int)) then
  ((appM 8 v5 ([v6])).bind fun r4 =>
  ((geti v2.1 v6).bind fun r5 =>
  (zu2 n) v2 r4 r5.2.2.2.2.2.2.2.2.1))
  else (some v5))
  else (some v5)
def zya (n : Nat) (a0 : TreT) (a1 : Int) : Option (List Int) :=
  ((zzq a0 a1).bind fun r1 =>
  (bif (!r1) then
  (some ([]))
  else ((geti a0.1 a1).bind fun r2 =>
  (zu2 n) a0 ([]) r2.2.2.2.2.2.1)))
def ydw (k : Nat) (a0 : TreT) (a1 : Int) : Option (List Int) := zya k a0 a1
def zuv (k : Nat) : Con := ⟨[.d cTreT, .d (.int .i64)],[.d (.sl (.int .i64))], fun x => ydw k x.1 x.2⟩
theorem ycw (k : Nat) : ConOk Tryz.prog 34 (zuv k) :=
  za1 (ps := [.d cTreT, .d (.int .i64)]) (rs := [.d (.sl (.int .i64))]) (fn := Tryz.f34) (E := ⟨tOf tl, gOf [(62, zwe)]⟩) ⟨za3 zac, za4 ⟨yey, trivial⟩, mixedOk⟩ (body := bodyOf Tryz.f34) (pl := []) (M := 400) (cuts := [⟨5,[0,0,5,4,1,0,1,1,1],[2,5,6],[.p [.d cTreT], .o 3 (.int .i64), .d (.int .i64)], fun n x => zu2 n x.1 x.2.1 x.2.2,[]⟩]) (entry := fun n x => zya n x.1 x.2) rfl rfl (by decide) (by kernel_rfl) ⟨⟨fun _ => by kernel_rfl, fun _ _ => by kernel_rfl⟩, trivial⟩ (fun _ _ => by kernel_rfl) k
def zml (k : Nat) (S0 : BoxT → Option BoxT) (S1 : BoxT → Int → Bool → Unit → Option (List BoxT)) (S2 : BoxT → Int → Bool → Unit → Option (List BoxT)) (S3 : BoxT → Int → Bool → Unit → Option (List BoxT)) (S4 : BoxT → Int → Bool → Unit → Option (List BoxT)) (S5 : (List BoxT) → Bool → (List BoxT) → Int → BoxT → Option ((List BoxT) × (List BoxT))) (S6 : Int → StyT → (List BoxT) → Option BoxT) (y4 : Int) (v1 : BoxT) : Option BoxT :=
  (S3 (Tr.mk (y4, v1.x.2.1, v1.x.2.2.1, v1.x.2.2.2.1, v1.x.2.2.2.2.1,()) v1.kids) 1 true ()).bind fun r7 =>
  (some (Tr.mk (y4, v1.x.2.1, v1.x.2.2.1, v1.x.2.2.2.1, v1.x.2.2.2.2.1,()) r7))
def zih (k : Nat) (S0 : BoxT → Option BoxT) (S1 : BoxT → Int → Bool → Unit → Option (List BoxT)) (S2 : BoxT → Int → Bool → Unit → Option (List BoxT)) (S3 : BoxT → Int → Bool → Unit → Option (List BoxT)) (S4 : BoxT → Int → Bool → Unit → Option (List BoxT)) (S5 : (List BoxT) → Bool → (List BoxT) → Int → BoxT → Option ((List BoxT) × (List BoxT))) (S6 : Int → StyT → (List BoxT) → Option BoxT) (y4 : Int) (v1 : BoxT) : Option BoxT :=
  (bif decide (y4 = 2) then
  ((S4 (Tr.mk (y4, v1.x.2.1, v1.x.2.2.1, v1.x.2.2.2.1, v1.x.2.2.2.2.1,()) v1.kids) 1 true ()).bind fun r8 =>
  (some (Tr.mk (y4, v1.x.2.1, v1.x.2.2.1, v1.x.2.2.2.1, v1.x.2.2.2.2.1,()) r8)))
  else (some (Tr.mk (y4, v1.x.2.1, v1.x.2.2.1, v1.x.2.2.2.1, v1.x.2.2.2.2.1,()) v1.kids)))
def zii (k : Nat) (S0 : BoxT → Option BoxT) (S1 : BoxT → Int → Bool → Unit → Option (List BoxT)) (S2 : BoxT → Int → Bool → Unit → Option (List BoxT)) (S3 : BoxT → Int → Bool → Unit → Option (List BoxT)) (S4 : BoxT → Int → Bool → Unit → Option (List BoxT)) (S5 : (List BoxT) → Bool → (List BoxT) → Int → BoxT → Option ((List BoxT) × (List BoxT))) (S6 : Int → StyT → (List BoxT) → Option BoxT) (y4 : Int) (v1 : BoxT) (v3 : Bool) : Option BoxT :=
  (bif decide (y4 = 3) then
  ((S1 (Tr.mk (y4, v1.x.2.1, v1.x.2.2.1, v1.x.2.2.2.1, v1.x.2.2.2.2.1,()) v1.kids) 4 false ()).bind fun r5 =>
  (some (Tr.mk (y4, v1.x.2.1, v1.x.2.2.1, v1.x.2.2.2.1, v1.x.2.2.2.2.1,()) r5)))
  else (bif decide (y4 = 4) then
  ((S2 (Tr.mk (y4, v1.x.2.1, v1.x.2.2.1, v1.x.2.2.2.1, v1.x.2.2.2.2.1,()) v1.kids) 5 false ()).bind fun r6 =>
  (some (Tr.mk (y4, v1.x.2.1, v1.x.2.2.1, v1.x.2.2.2.1, v1.x.2.2.2.2.1,()) r6)))
  else (bif decide (y4 = 1) then
  (bif v3 then
  (zml k S0 S1 S2 S3 S4 S5 S6 y4 v1)
  else (zih k S0 S1 S2 S3 S4 S5 S6 y4 v1))
  else bif decide (y4 = 5) then
  (bif v3 then
  (zml k S0 S1 S2 S3 S4 S5 S6 y4 v1)
  else (zih k S0 S1 S2 S3 S4 S5 S6 y4 v1))
  else (zih k S0 S1 S2 S3 S4 S5 S6 y4 v1))))
def ziv (k : Nat) (S0 : BoxT → Option BoxT) (S1 : BoxT → Int → Bool → Unit → Option (List BoxT)) (S2 : BoxT → Int → Bool → Unit → Option (List BoxT)) (S3 : BoxT → Int → Bool → Unit → Option (List BoxT)) (S4 : BoxT → Int → Bool → Unit → Option (List BoxT)) (S5 : (List BoxT) → Bool → (List BoxT) → Int → BoxT → Option ((List BoxT) × (List BoxT))) (S6 : Int → StyT → (List BoxT) → Option BoxT) : Nat → BoxT → BoxT → Bool → (List BoxT) → Int → Int → Option BoxT
  | 0, _, _, _, _, _, _ => none
  | n + 1, v1, v2, v3, v7, v8, v9 =>
  (bif decide (v9 < v8) then
  ((geti v7 v9).bind fun r1 =>
  (bif v3 then
  ((ziv k S0 S1 S2 S3 S4 S5 S6 n) (Tr.mk v1.x v1.kids) (Tr.mk v2.x v2.kids) true v7 v8 (w64 (v9 + 1)))
  else (znk (Tr.mk r1.x r1.kids)).bind fun r2 =>
  ((ziv k S0 S1 S2 S3 S4 S5 S6 n) (Tr.mk v1.x v1.kids) (Tr.mk v2.x v2.kids) r2 v7 v8 (w64 (v9 + 1)))))
  else (bif decide (v1.x.1 = 6) then
  (bif v3 then
  (zii k S0 S1 S2 S3 S4 S5 S6 1 v1 v3)
  else (zii k S0 S1 S2 S3 S4 S5 S6 v1.x.1 v1 v3))
  else (zii k S0 S1 S2 S3 S4 S5 S6 v1.x.1 v1 v3)))
def zr2 (k : Nat) (S0 : BoxT → Option BoxT) (S1 : BoxT → Int → Bool → Unit → Option (List BoxT)) (S2 : BoxT → Int → Bool → Unit → Option (List BoxT)) (S3 : BoxT → Int → Bool → Unit → Option (List BoxT)) (S4 : BoxT → Int → Bool → Unit → Option (List BoxT)) (S5 : (List BoxT) → Bool → (List BoxT) → Int → BoxT → Option ((List BoxT) × (List BoxT))) (S6 : Int → StyT → (List BoxT) → Option BoxT) (n : Nat) (a0 : BoxT) : Option BoxT :=
  ((ziv k S0 S1 S2 S3 S4 S5 S6 n) (Tr.mk a0.x a0.kids) (Tr.mk (0,0,0,(0,0,0,0,(0,0,()),(0,0,()),((0,0,()),(0,0,()),(0,0,()),(0,0,()),()),((0,0,()),(0,0,()),(0,0,()),(0,0,()),()),((0,0,()),(0,0,()),(0,0,()),(0,0,()),()),(0,0,0,0,()),0,0,0,0,0, false, false, false, false,0,0,0,0,0,0, false,()),(bs []),()) ([])) false a0.kids (a0.kids.length : Int) 0)
def zc8 (k : Nat) (S0 : BoxT → Option BoxT) (S1 : BoxT → Int → Bool → Unit → Option (List BoxT)) (S2 : BoxT → Int → Bool → Unit → Option (List BoxT)) (S3 : BoxT → Int → Bool → Unit → Option (List BoxT)) (S4 : BoxT → Int → Bool → Unit → Option (List BoxT)) (S5 : (List BoxT) → Bool → (List BoxT) → Int → BoxT → Option ((List BoxT) × (List BoxT))) (S6 : Int → StyT → (List BoxT) → Option BoxT) : Nat → Unit → BoxT → Int → Bool → (List BoxT) → (List BoxT) → (List BoxT) → Int → Int → Option (List BoxT)
  | 0, _, _, _, _, _, _, _, _, _ => none
  | n + 1, a3, v4, v5, v6, v9, v10, v16, v17, v18 =>
  (bif decide (v18 < v17) then
  ((geti v16 v18).bind fun r1 =>
  ((zrr (Tr.mk r1.x r1.kids)).bind fun r2 =>
  (bif r2 then
  ((appM 448 v10 ([(Tr.mk (0,0,0,(0,0,0,0,(0,0,()),(0,0,()),((0,0,()),(0,0,()),(0,0,()),(0,0,()),()),((0,0,()),(0,0,()),(0,0,()),(0,0,()),()),((0,0,()),(0,0,()),(0,0,()),(0,0,()),()),(0,0,0,0,()),0,0,0,0,0, false, false, false, false,0,0,0,0,0,0, false,()),(bs []),()) ([]))])).bind fun r3 =>
  (geti r3 (v10.length : Int)).bind fun r4 =>
  (geti r3 (v10.length : Int)).bind fun r5 =>
  ((zc8 k S0 S1 S2 S3 S4 S5 S6 n) () (Tr.mk v4.x v4.kids) v5 v6 v9 (r3.set (v10.length : Int).toNat (Tr.mk r1.x r1.kids)) v16 v17 (w64 (v18 + 1))))
  else ((S5 v10 v6 v9 v5 (Tr.mk v4.x v4.kids)).bind fun r6 =>
  ((appM 448 r6.2 ([(Tr.mk (0,0,0,(0,0,0,0,(0,0,()),(0,0,()),((0,0,()),(0,0,()),(0,0,()),(0,0,()),()),((0,0,()),(0,0,()),(0,0,()),(0,0,()),()),((0,0,()),(0,0,()),(0,0,()),(0,0,()),()),(0,0,0,0,()),0,0,0,0,0, false, false, false, false,0,0,0,0,0,0, false,()),(bs []),()) ([]))])).bind fun r7 =>
  (geti r7 (r6.2.length : Int)).bind fun r8 =>
  (geti r7 (r6.2.length : Int)).bind fun r9 =>
  ((zc8 k S0 S1 S2 S3 S4 S5 S6 n) () (Tr.mk v4.x v4.kids) v5 v6 (r7.set (r6.2.length : Int).toNat (Tr.mk r1.x r1.kids)) r6.1 v16 v17 (w64 (v18 + 1))))))))
  else ((S5 v10 v6 v9 v5 (Tr.mk v4.x v4.kids)).bind fun r12 =>
  (some r12.2)))
def zhg (k : Nat) (S0 : BoxT → Option BoxT) (S1 : BoxT → Int → Bool → Unit → Option (List BoxT)) (S2 : BoxT → Int → Bool → Unit → Option (List BoxT)) (S3 : BoxT → Int → Bool → Unit → Option (List BoxT)) (S4 : BoxT → Int → Bool → Unit → Option (List BoxT)) (S5 : (List BoxT) → Bool → (List BoxT) → Int → BoxT → Option ((List BoxT) × (List BoxT))) (S6 : Int → StyT → (List BoxT) → Option BoxT) (n : Nat) (a0 : BoxT) (a1 : Int) (a2 : Bool) (a3 : Unit) : Option (List BoxT) :=
  ((zc8 k S0 S1 S2 S3 S4 S5 S6 n) () (Tr.mk a0.x a0.kids) a1 a2 ([]) ([]) a0.kids (a0.kids.length : Int) 0)
def zc7 (k : Nat) (S0 : BoxT → Option BoxT) (S1 : BoxT → Int → Bool → Unit → Option (List BoxT)) (S2 : BoxT → Int → Bool → Unit → Option (List BoxT)) (S3 : BoxT → Int → Bool → Unit → Option (List BoxT)) (S4 : BoxT → Int → Bool → Unit → Option (List BoxT)) (S5 : (List BoxT) → Bool → (List BoxT) → Int → BoxT → Option ((List BoxT) × (List BoxT))) (S6 : Int → StyT → (List BoxT) → Option BoxT) : Nat → Unit → BoxT → Int → Bool → (List BoxT) → (List BoxT) → (List BoxT) → Int → Int → Option (List BoxT)
  | 0, _, _, _, _, _, _, _, _, _ => none
  | n + 1, a3, v4, v5, v6, v9, v10, v16, v17, v18 =>
  (bif decide (v18 < v17) then
  ((geti v16 v18).bind fun r1 =>
  ((zrq (Tr.mk r1.x r1.kids)).bind fun r2 =>
  (bif r2 then
  ((appM 448 v10 ([(Tr.mk (0,0,0,(0,0,0,0,(0,0,()),(0,0,()),((0,0,()),(0,0,()),(0,0,()),(0,0,()),()),((0,0,()),(0,0,()),(0,0,()),(0,0,()),()),((0,0,()),(0,0,()),(0,0,()),(0,0,()),()),(0,0,0,0,()),0,0,0,0,0, false, false, false, false,0,0,0,0,0,0, false,()),(bs []),()) ([]))])).bind fun r3 =>
  (geti r3 (v10.length : Int)).bind fun r4 =>
  (geti r3 (v10.length : Int)).bind fun r5 =>
  ((zc7 k S0 S1 S2 S3 S4 S5 S6 n) () (Tr.mk v4.x v4.kids) v5 v6 v9 (r3.set (v10.length : Int).toNat (Tr.mk r1.x r1.kids)) v16 v17 (w64 (v18 + 1))))
  else ((S5 v10 v6 v9 v5 (Tr.mk v4.x v4.kids)).bind fun r6 =>
  ((appM 448 r6.2 ([(Tr.mk (0,0,0,(0,0,0,0,(0,0,()),(0,0,()),((0,0,()),(0,0,()),(0,0,()),(0,0,()),()),((0,0,()),(0,0,()),(0,0,()),(0,0,()),()),((0,0,()),(0,0,()),(0,0,()),(0,0,()),()),(0,0,0,0,()),0,0,0,0,0, false, false, false, false,0,0,0,0,0,0, false,()),(bs []),()) ([]))])).bind fun r7 =>
  (geti r7 (r6.2.length : Int)).bind fun r8 =>
  (geti r7 (r6.2.length : Int)).bind fun r9 =>
  ((zc7 k S0 S1 S2 S3 S4 S5 S6 n) () (Tr.mk v4.x v4.kids) v5 v6 (r7.set (r6.2.length : Int).toNat (Tr.mk r1.x r1.kids)) r6.1 v16 v17 (w64 (v18 + 1))))))))
  else ((S5 v10 v6 v9 v5 (Tr.mk v4.x v4.kids)).bind fun r12 =>
  (some r12.2)))
def zhf (k : Nat) (S0 : BoxT → Option BoxT) (S1 : BoxT → Int → Bool → Unit → Option (List BoxT)) (S2 : BoxT → Int → Bool → Unit → Option (List BoxT)) (S3 : BoxT → Int → Bool → Unit → Option (List BoxT)) (S4 : BoxT → Int → Bool → Unit → Option (List BoxT)) (S5 : (List BoxT) → Bool → (List BoxT) → Int → BoxT → Option ((List BoxT) × (List BoxT))) (S6 : Int → StyT → (List BoxT) → Option BoxT) (n : Nat) (a0 : BoxT) (a1 : Int) (a2 : Bool) (a3 : Unit) : Option (List BoxT) :=
  ((zc7 k S0 S1 S2 S3 S4 S5 S6 n) () (Tr.mk a0.x a0.kids) a1 a2 ([]) ([]) a0.kids (a0.kids.length : Int) 0)
def zd9 (k : Nat) (S0 : BoxT → Option BoxT) (S1 : BoxT → Int → Bool → Unit → Option (List BoxT)) (S2 : BoxT → Int → Bool → Unit → Option (List BoxT)) (S3 : BoxT → Int → Bool → Unit → Option (List BoxT)) (S4 : BoxT → Int → Bool → Unit → Option (List BoxT)) (S5 : (List BoxT) → Bool → (List BoxT) → Int → BoxT → Option ((List BoxT) × (List BoxT))) (S6 : Int → StyT → (List BoxT) → Option BoxT) : Nat → Unit → BoxT → Int → Bool → (List BoxT) → (List BoxT) → (List BoxT) → Int → Int → Option (List BoxT)
  | 0, _, _, _, _, _, _, _, _, _ => none
  | n + 1, a3, v4, v5, v6, v9, v10, v16, v17, v18 =>
  (bif decide (v18 < v17) then
  ((geti v16 v18).bind fun r1 =>
  ((zrs (Tr.mk r1.x r1.kids)).bind fun r2 =>
  (bif r2 then
  ((appM 448 v10 ([(Tr.mk (0,0,0,(0,0,0,0,(0,0,()),(0,0,()),((0,0,()),(0,0,()),(0,0,()),(0,0,()),()),((0,0,()),(0,0,()),(0,0,()),(0,0,()),()),((0,0,()),(0,0,()),(0,0,()),(0,0,()),()),(0,0,0,0,()),0,0,0,0,0, false, false, false, false,0,0,0,0,0,0, false,()),(bs []),()) ([]))])).bind fun r3 =>
  (geti r3 (v10.length : Int)).bind fun r4 =>
  (geti r3 (v10.length : Int)).bind fun r5 =>
  ((zd9 k S0 S1 S2 S3 S4 S5 S6 n) () (Tr.mk v4.x v4.kids) v5 v6 v9 (r3.set (v10.length : Int).toNat (Tr.mk r1.x r1.kids)) v16 v17 (w64 (v18 + 1))))
  else ((S5 v10 v6 v9 v5 (Tr.mk v4.x v4.kids)).bind fun r6 =>
  ((appM 448 r6.2 ([(Tr.mk (0,0,0,(0,0,0,0,(0,0,()),(0,0,()),((0,0,()),(0,0,()),(0,0,()),(0,0,()),()),((0,0,()),(0,0,()),(0,0,()),(0,0,()),()),((0,0,()),(0,0,()),(0,0,()),(0,0,()),()),(0,0,0,0,()),0,0,0,0,0, false, false, false, false,0,0,0,0,0,0, false,()),(bs []),()) ([]))])).bind fun r7 =>
  (geti r7 (r6.2.length : Int)).bind fun r8 =>
  (geti r7 (r6.2.length : Int)).bind fun r9 =>
  ((zd9 k S0 S1 S2 S3 S4 S5 S6 n) () (Tr.mk v4.x v4.kids) v5 v6 (r7.set (r6.2.length : Int).toNat (Tr.mk r1.x r1.kids)) r6.1 v16 v17 (w64 (v18 + 1))))))))
  else ((S5 v10 v6 v9 v5 (Tr.mk v4.x v4.kids)).bind fun r12 =>
  (some r12.2)))
def zj5 (k : Nat) (S0 : BoxT → Option BoxT) (S1 : BoxT → Int → Bool → Unit → Option (List BoxT)) (S2 : BoxT → Int → Bool → Unit → Option (List BoxT)) (S3 : BoxT → Int → Bool → Unit → Option (List BoxT)) (S4 : BoxT → Int → Bool → Unit → Option (List BoxT)) (S5 : (List BoxT) → Bool → (List BoxT) → Int → BoxT → Option ((List BoxT) × (List BoxT))) (S6 : Int → StyT → (List BoxT) → Option BoxT) (n : Nat) (a0 : BoxT) (a1 : Int) (a2 : Bool) (a3 : Unit) : Option (List BoxT) :=
  ((zd9 k S0 S1 S2 S3 S4 S5 S6 n) () (Tr.mk a0.x a0.kids) a1 a2 ([]) ([]) a0.kids (a0.kids.length : Int) 0)
def zc6 (k : Nat) (S0 : BoxT → Option BoxT) (S1 : BoxT → Int → Bool → Unit → Option (List BoxT)) (S2 : BoxT → Int → Bool → Unit → Option (List BoxT)) (S3 : BoxT → Int → Bool → Unit → Option (List BoxT)) (S4 : BoxT → Int → Bool → Unit → Option (List BoxT)) (S5 : (List BoxT) → Bool → (List BoxT) → Int → BoxT → Option ((List BoxT) × (List BoxT))) (S6 : Int → StyT → (List BoxT) → Option BoxT) : Nat → Unit → BoxT → Int → Bool → (List BoxT) → (List BoxT) → (List BoxT) → Int → Int → Option (List BoxT)
  | 0, _, _, _, _, _, _, _, _, _ => none
  | n + 1, a3, v4, v5, v6, v9, v10, v16, v17, v18 =>
  (bif decide (v18 < v17) then
  ((geti v16 v18).bind fun r1 =>
  ((zrp (Tr.mk r1.x r1.kids)).bind fun r2 =>
  (bif r2 then
  ((appM 448 v10 ([(Tr.mk (0,0,0,(0,0,0,0,(0,0,()),(0,0,()),((0,0,()),(0,0,()),(0,0,()),(0,0,()),()),((0,0,()),(0,0,()),(0,0,()),(0,0,()),()),((0,0,()),(0,0,()),(0,0,()),(0,0,()),()),(0,0,0,0,()),0,0,0,0,0, false, false, false, false,0,0,0,0,0,0, false,()),(bs []),()) ([]))])).bind fun r3 =>
  (geti r3 (v10.length : Int)).bind fun r4 =>
  (geti r3 (v10.length : Int)).bind fun r5 =>
  ((zc6 k S0 S1 S2 S3 S4 S5 S6 n) () (Tr.mk v4.x v4.kids) v5 v6 v9 (r3.set (v10.length : Int).toNat (Tr.mk r1.x r1.kids)) v16 v17 (w64 (v18 + 1))))
  else ((S5 v10 v6 v9 v5 (Tr.mk v4.x v4.kids)).bind fun r6 =>
  ((appM 448 r6.2 ([(Tr.mk (0,0,0,(0,0,0,0,(0,0,()),(0,0,()),((0,0,()),(0,0,()),(0,0,()),(0,0,()),()),((0,0,()),(0,0,()),(0,0,()),(0,0,()),()),((0,0,()),(0,0,()),(0,0,()),(0,0,()),()),(0,0,0,0,()),0,0,0,0,0, false, false, false, false,0,0,0,0,0,0, false,()),(bs []),()) ([]))])).bind fun r7 =>
  (geti r7 (r6.2.length : Int)).bind fun r8 =>
  (geti r7 (r6.2.length : Int)).bind fun r9 =>
  ((zc6 k S0 S1 S2 S3 S4 S5 S6 n) () (Tr.mk v4.x v4.kids) v5 v6 (r7.set (r6.2.length : Int).toNat (Tr.mk r1.x r1.kids)) r6.1 v16 v17 (w64 (v18 + 1))))))))
  else ((S5 v10 v6 v9 v5 (Tr.mk v4.x v4.kids)).bind fun r12 =>
  (some r12.2)))
def zhe (k : Nat) (S0 : BoxT → Option BoxT) (S1 : BoxT → Int → Bool → Unit → Option (List BoxT)) (S2 : BoxT → Int → Bool → Unit → Option (List BoxT)) (S3 : BoxT → Int → Bool → Unit → Option (List BoxT)) (S4 : BoxT → Int → Bool → Unit → Option (List BoxT)) (S5 : (List BoxT) → Bool → (List BoxT) → Int → BoxT → Option ((List BoxT) × (List BoxT))) (S6 : Int → StyT → (List BoxT) → Option BoxT) (n : Nat) (a0 : BoxT) (a1 : Int) (a2 : Bool) (a3 : Unit) : Option (List BoxT) :=
  ((zc6 k S0 S1 S2 S3 S4 S5 S6 n) () (Tr.mk a0.x a0.kids) a1 a2 ([]) ([]) a0.kids (a0.kids.length : Int) 0)
def zfz (k : Nat) (S0 : BoxT → Option BoxT) (S1 : BoxT → Int → Bool → Unit → Option (List BoxT)) (S2 : BoxT → Int → Bool → Unit → Option (List BoxT)) (S3 : BoxT → Int → Bool → Unit → Option (List BoxT)) (S4 : BoxT → Int → Bool → Unit → Option (List BoxT)) (S5 : (List BoxT) → Bool → (List BoxT) → Int → BoxT → Option ((List BoxT) × (List BoxT))) (S6 : Int → StyT → (List BoxT) → Option BoxT) : Nat → (List BoxT) → Bool → (List BoxT) → Int → BoxT → Bool → (List BoxT) → Int → Int → Option ((List BoxT) × (List BoxT))
  | 0, _, _, _, _, _, _, _, _, _ => none
  | n + 1, a0, a1, a2, a3, a4, v5, v8, v9, v10 =>
  (bif decide (v10 < v9) then
  ((geti v8 v10).bind fun r1 =>
  (bif v5 then
  (zwj k (Tr.mk r1.x r1.kids) a1).bind fun r2 =>
  ((zfz k S0 S1 S2 S3 S4 S5 S6 n) a0 a1 a2 a3 (Tr.mk a4.x a4.kids) r2 v8 v9 (w64 (v10 + 1)))
  else ((zfz k S0 S1 S2 S3 S4 S5 S6 n) a0 a1 a2 a3 (Tr.mk a4.x a4.kids) false v8 v9 (w64 (v10 + 1)))))
  else (bif (!v5) then
  ((S6 a3 a4.x.2.2.2.1 a0).bind fun r4 =>
  (appM 448 a2 ([(Tr.mk (0,0,0,(0,0,0,0,(0,0,()),(0,0,()),((0,0,()),(0,0,()),(0,0,()),(0,0,()),()),((0,0,()),(0,0,()),(0,0,()),(0,0,()),()),((0,0,()),(0,0,()),(0,0,()),(0,0,()),()),(0,0,0,0,()),0,0,0,0,0, false, false, false, false,0,0,0,0,0,0, false,()),(bs []),()) ([]))])).bind fun r5 =>
  (geti r5 (a2.length : Int)).bind fun r6 =>
  (geti r5 (a2.length : Int)).bind fun r7 =>
  (some ([],(r5.set (a2.length : Int).toNat (Tr.mk r4.x r4.kids)))))
  else (some ([], a2))))
def zmk (k : Nat) (S0 : BoxT → Option BoxT) (S1 : BoxT → Int → Bool → Unit → Option (List BoxT)) (S2 : BoxT → Int → Bool → Unit → Option (List BoxT)) (S3 : BoxT → Int → Bool → Unit → Option (List BoxT)) (S4 : BoxT → Int → Bool → Unit → Option (List BoxT)) (S5 : (List BoxT) → Bool → (List BoxT) → Int → BoxT → Option ((List BoxT) × (List BoxT))) (S6 : Int → StyT → (List BoxT) → Option BoxT) (n : Nat) (a0 : (List BoxT)) (a1 : Bool) (a2 : (List BoxT)) (a3 : Int) (a4 : BoxT) : Option ((List BoxT) × (List BoxT)) :=
  ((zfz k S0 S1 S2 S3 S4 S5 S6 n) a0 a1 a2 a3 (Tr.mk a4.x a4.kids) true a0 (a0.length : Int) 0)
def zeq (k : Nat) (S0 : BoxT → Option BoxT) (S1 : BoxT → Int → Bool → Unit → Option (List BoxT)) (S2 : BoxT → Int → Bool → Unit → Option (List BoxT)) (S3 : BoxT → Int → Bool → Unit → Option (List BoxT)) (S4 : BoxT → Int → Bool → Unit → Option (List BoxT)) (S5 : (List BoxT) → Bool → (List BoxT) → Int → BoxT → Option ((List BoxT) × (List BoxT))) (S6 : Int → StyT → (List BoxT) → Option BoxT) (y2 : Int) (a0 : Int) (r1 : StyT) (a2 : (List BoxT)) : Option BoxT :=
  (S0 (Tr.mk (a0,(-1),0,(zcr r1 y2),(bs []),()) a2)).bind fun r3 =>
  some (Tr.mk r3.x r3.kids)
def zmm (k : Nat) (S0 : BoxT → Option BoxT) (S1 : BoxT → Int → Bool → Unit → Option (List BoxT)) (S2 : BoxT → Int → Bool → Unit → Option (List BoxT)) (S3 : BoxT → Int → Bool → Unit → Option (List BoxT)) (S4 : BoxT → Int → Bool → Unit → Option (List BoxT)) (S5 : (List BoxT) → Bool → (List BoxT) → Int → BoxT → Option ((List BoxT) × (List BoxT))) (S6 : Int → StyT → (List BoxT) → Option BoxT) (a0 : Int) (a1 : StyT) (a2 : (List BoxT)) : Option BoxT :=
  ((zni a1 false).bind fun r1 =>
  (bif decide (a0 = 1) then
  (zeq k S0 S1 S2 S3 S4 S5 S6 1 a0 r1 a2)
  else (bif decide (a0 = 4) then
  (zeq k S0 S1 S2 S3 S4 S5 S6 5 a0 r1 a2)
  else (bif decide (a0 = 5) then
  (zeq k S0 S1 S2 S3 S4 S5 S6 6 a0 r1 a2)
  else (zeq k S0 S1 S2 S3 S4 S5 S6 r1.1 a0 r1 a2)))))
mutual
def zap : Nat → BoxT → Option BoxT
  | 0, _ => none
  | k + 1, a0 => zr2 k (zap k) (za7 k) (za6 k) (zaa k) (za5 k) (zad k) (zae k) k a0
def za7 : Nat → BoxT → Int → Bool → Unit → Option (List BoxT)
  | 0, _, _, _, _ => none
  | k + 1, a0, a1, a2, a3 => zhg k (zap k) (za7 k) (za6 k) (zaa k) (za5 k) (zad k) (zae k) k a0 a1 a2 a3
def za6 : Nat → BoxT → Int → Bool → Unit → Option (List BoxT)
  | 0, _, _, _, _ => none
  | k + 1, a0, a1, a2, a3 => zhf k (zap k) (za7 k) (za6 k) (zaa k) (za5 k) (zad k) (zae k) k a0 a1 a2 a3
def zaa : Nat → BoxT → Int → Bool → Unit → Option (List BoxT)
  | 0, _, _, _, _ => none
  | k + 1, a0, a1, a2, a3 => zj5 k (zap k) (za7 k) (za6 k) (zaa k) (za5 k) (zad k) (zae k) k a0 a1 a2 a3
def za5 : Nat → BoxT → Int → Bool → Unit → Option (List BoxT)
  | 0, _, _, _, _ => none
  | k + 1, a0, a1, a2, a3 => zhe k (zap k) (za7 k) (za6 k) (zaa k) (za5 k) (zad k) (zae k) k a0 a1 a2 a3
def zad : Nat → (List BoxT) → Bool → (List BoxT) → Int → BoxT → Option ((List BoxT) × (List BoxT))
  | 0, _, _, _, _, _ => none
  | k + 1, a0, a1, a2, a3, a4 => zmk k (zap k) (za7 k) (za6 k) (zaa k) (za5 k) (zad k) (zae k) k a0 a1 a2 a3 a4
def zae : Nat → Int → StyT → (List BoxT) → Option BoxT
  | 0, _, _, _ => none
  | k + 1, a0, a1, a2 => zmm k (zap k) (za7 k) (za6 k) (zaa k) (za5 k) (zad k) (zae k) a0 a1 a2
end
def zbd (k : Nat) : Con := ⟨[.d cBoxT],[.d cBoxT], fun x => zap k x⟩
def zao (k : Nat) : Con := ⟨[.d cBoxT, .d (.int .i64), .d .bool, .f 64],[.d (.sl cBoxT)], fun x => za7 k x.1 x.2.1 x.2.2.1 x.2.2.2⟩
def zan (k : Nat) : Con := ⟨[.d cBoxT, .d (.int .i64), .d .bool, .f 65],[.d (.sl cBoxT)], fun x => za6 k x.1 x.2.1 x.2.2.1 x.2.2.2⟩
def zau (k : Nat) : Con := ⟨[.d cBoxT, .d (.int .i64), .d .bool, .f 66],[.d (.sl cBoxT)], fun x => zaa k x.1 x.2.1 x.2.2.1 x.2.2.2⟩
def zam (k : Nat) : Con := ⟨[.d cBoxT, .d (.int .i64), .d .bool, .f 67],[.d (.sl cBoxT)], fun x => za5 k x.1 x.2.1 x.2.2.1 x.2.2.2⟩
def zb9 (k : Nat) : Con := ⟨[.p [.o 31 cBoxT], .b .bool, .p [.o 31 cBoxT], .b (.int .i64), .b cBoxT],[], fun x => zad k x.1 x.2.1 x.2.2.1 x.2.2.2.1 x.2.2.2.2⟩
def zba (k : Nat) : Con := ⟨[.d (.int .i64), .d cStyT, .d (.sl cBoxT)],[.d cBoxT], fun x => zae k x.1 x.2.1 x.2.2⟩
theorem za0 : (k : Nat) → ConOk Tryz.prog 35 (zbd k) ∧ ConOk Tryz.prog 63 (zao k) ∧ ConOk Tryz.prog 63 (zan k) ∧ ConOk Tryz.prog 63 (zau k) ∧ ConOk Tryz.prog 63 (zam k) ∧ ConOk Tryz.prog 101 (zb9 k) ∧ ConOk Tryz.prog 103 (zba k)
  | 0 => ⟨con0 ⟨Tryz.f35, rfl, rfl, by decide⟩, con0 ⟨Tryz.f63, rfl, rfl, by decide⟩, con0 ⟨Tryz.f63, rfl, rfl, by decide⟩, con0 ⟨Tryz.f63, rfl, rfl, by decide⟩, con0 ⟨Tryz.f63, rfl, rfl, by decide⟩, con0 ⟨Tryz.f101, rfl, rfl, by decide⟩, con0 ⟨Tryz.f103, rfl, rfl, by decide⟩⟩
  | k + 1 => ⟨za1 (ps := [.d cBoxT]) (rs := [.d cBoxT]) (fn := Tryz.f35) (E := ⟨tOf tl, gOf [(35, zbd k),(650063, zao k),(660063, zan k),(670063, zau k),(680063, zam k),(101, zb9 k),(103, zba k),(25, zl1)]⟩) ⟨za3 zac, za4 ⟨(za0 k).1,(za0 k).2.1,(za0 k).2.2.1,(za0 k).2.2.2.1,(za0 k).2.2.2.2.1,(za0 k).2.2.2.2.2.1,(za0 k).2.2.2.2.2.2, zm1, trivial⟩, mixedOk⟩ (body := bodyOf Tryz.f35) (pl := []) (M := 400) (cuts := [⟨3,[0,5,4,1,0,1,1],[1,2,3,7,8,9],[.p [.d cBoxT], .p [.d cBoxT], .d .bool, .d (.sl cBoxT), .d (.int .i64), .d (.int .i64)], fun n x => ziv k (zap k) (za7 k) (za6 k) (zaa k) (za5 k) (zad k) (zae k) n x.1 x.2.1 x.2.2.1 x.2.2.2.1 x.2.2.2.2.1 x.2.2.2.2.2,[]⟩]) (entry := fun n x => zr2 k (zap k) (za7 k) (za6 k) (zaa k) (za5 k) (zad k) (zae k) n x) rfl rfl (by decide) (by kernel_rfl) ⟨⟨fun _ => by kernel_rfl, fun _ _ => by kernel_rfl⟩, trivial⟩ (fun _ _ => by kernel_rfl) k,
    za1 (ps := [.d cBoxT, .d (.int .i64), .d .bool, .f 64]) (rs := [.d (.sl cBoxT)]) (fn := Tryz.f63) (E := ⟨tOf tl, gOf [(35, zbd k),(650063, zao k),(660063, zan k),(670063, zau k),(680063, zam k),(101, zb9 k),(103, zba k),(64, zph)]⟩) ⟨za3 zac, za4 ⟨(za0 k).1,(za0 k).2.1,(za0 k).2.2.1,(za0 k).2.2.2.1,(za0 k).2.2.2.2.1,(za0 k).2.2.2.2.2.1,(za0 k).2.2.2.2.2.2, zxj, trivial⟩, mixedOk⟩ (body := bodyOf Tryz.f63) (pl := [(7,[(0,0),(1,0),(2,0),(3,1),(4,2),(1007,0),(5,2),(6,2),(1007,1)],[13,1000010]),(9,[(0,0),(1,0),(2,0),(3,1),(4,2),(1007,0),(5,2),(6,2),(1007,1)],[13,1000009])]) (M := 400) (cuts := [⟨4,[0,5,4,1,0,1,1,1],[3,4,5,6,9,10,16,17,18],[.f 64, .b cBoxT, .b (.int .i64), .b .bool, .p [.o 31 cBoxT], .p [.o 31 cBoxT], .d (.sl cBoxT), .d (.int .i64), .d (.int .i64)], fun n x => zc8 k (zap k) (za7 k) (za6 k) (zaa k) (za5 k) (zad k) (zae k) n x.1 x.2.1 x.2.2.1 x.2.2.2.1 x.2.2.2.2.1 x.2.2.2.2.2.1 x.2.2.2.2.2.2.1 x.2.2.2.2.2.2.2.1 x.2.2.2.2.2.2.2.2,[(11,101,[10,6,9,5,4])]⟩]) (entry := fun n x => zhg k (zap k) (za7 k) (za6 k) (zaa k) (za5 k) (zad k) (zae k) n x.1 x.2.1 x.2.2.1 x.2.2.2) rfl rfl (by decide) (by kernel_rfl) ⟨⟨fun _ => by kernel_rfl, fun _ _ => by kernel_rfl⟩, trivial⟩ (fun _ _ => by kernel_rfl) k,
    za1 (ps := [.d cBoxT, .d (.int .i64), .d .bool, .f 65]) (rs := [.d (.sl cBoxT)]) (fn := Tryz.f63) (E := ⟨tOf tl, gOf [(35, zbd k),(650063, zao k),(660063, zan k),(670063, zau k),(680063, zam k),(101, zb9 k),(103, zba k),(65, zpg)]⟩) ⟨za3 zac, za4 ⟨(za0 k).1,(za0 k).2.1,(za0 k).2.2.1,(za0 k).2.2.2.1,(za0 k).2.2.2.2.1,(za0 k).2.2.2.2.2.1,(za0 k).2.2.2.2.2.2, zxi, trivial⟩, mixedOk⟩ (body := bodyOf Tryz.f63) (pl := [(7,[(0,0),(1,0),(2,0),(3,1),(4,2),(1007,0),(5,2),(6,2),(1007,1)],[13,1000010]),(9,[(0,0),(1,0),(2,0),(3,1),(4,2),(1007,0),(5,2),(6,2),(1007,1)],[13,1000009])]) (M := 400) (cuts := [⟨4,[0,5,4,1,0,1,1,1],[3,4,5,6,9,10,16,17,18],[.f 65, .b cBoxT, .b (.int .i64), .b .bool, .p [.o 31 cBoxT], .p [.o 31 cBoxT], .d (.sl cBoxT), .d (.int .i64), .d (.int .i64)], fun n x => zc7 k (zap k) (za7 k) (za6 k) (zaa k) (za5 k) (zad k) (zae k) n x.1 x.2.1 x.2.2.1 x.2.2.2.1 x.2.2.2.2.1 x.2.2.2.2.2.1 x.2.2.2.2.2.2.1 x.2.2.2.2.2.2.2.1 x.2.2.2.2.2.2.2.2,[(11,101,[10,6,9,5,4])]⟩]) (entry := fun n x => zhf k (zap k) (za7 k) (za6 k) (zaa k) (za5 k) (zad k) (zae k) n x.1 x.2.1 x.2.2.1 x.2.2.2) rfl rfl (by decide) (by kernel_rfl) ⟨⟨fun _ => by kernel_rfl, fun _ _ => by kernel_rfl⟩, trivial⟩ (fun _ _ => by kernel_rfl) k,
    za1 (ps := [.d cBoxT, .d (.int .i64), .d .bool, .f 66]) (rs := [.d (.sl cBoxT)]) (fn := Tryz.f63) (E := ⟨tOf tl, gOf [(35, zbd k),(650063, zao k),(660063, zan k),(670063, zau k),(680063, zam k),(101, zb9 k),(103, zba k),(66, zpi)]⟩) ⟨za3 zac, za4 ⟨(za0 k).1,(za0 k).2.1,(za0 k).2.2.1,(za0 k).2.2.2.1,(za0 k).2.2.2.2.1,(za0 k).2.2.2.2.2.1,(za0 k).2.2.2.2.2.2, zxk, trivial⟩, mixedOk⟩ (body := bodyOf Tryz.f63) (pl := [(7,[(0,0),(1,0),(2,0),(3,1),(4,2),(1007,0),(5,2),(6,2),(1007,1)],[13,1000010]),(9,[(0,0),(1,0),(2,0),(3,1),(4,2),(1007,0),(5,2),(6,2),(1007,1)],[13,1000009])]) (M := 400) (cuts := [⟨4,[0,5,4,1,0,1,1,1],[3,4,5,6,9,10,16,17,18],[.f 66, .b cBoxT, .b (.int .i64), .b .bool, .p [.o 31 cBoxT], .p [.o 31 cBoxT], .d (.sl cBoxT), .d (.int .i64), .d (.int .i64)], fun n x => zd9 k (zap k) (za7 k) (za6 k) (zaa k) (za5 k) (zad k) (zae k) n x.1 x.2.1 x.2.2.1 x.2.2.2.1 x.2.2.2.2.1 x.2.2.2.2.2.1 x.2.2.2.2.2.2.1 x.2.2.2.2.2.2.2.1 x.2.2.2.2.2.2.2.2,[(11,101,[10,6,9,5,4])]⟩]) (entry := fun n x => zj5 k (zap k) (za7 k) (za6 k) (zaa k) (za5 k) (zad k) (zae k) n x.1 x.2.1 x.2.2.1 x.2.2.2) rfl rfl (by decide) (by kernel_rfl) ⟨⟨fun _ => by kernel_rfl, fun _ _ => by kernel_rfl⟩, trivial⟩ (fun _ _ => by kernel_rfl) k,
    za1 (ps := [.d cBoxT, .d (.int .i64), .d .bool, .f 67]) (rs := [.d (.sl cBoxT)]) (fn := Tryz.f63) (E := ⟨tOf tl, gOf [(35, zbd k),(650063, zao k),(660063, zan k),(670063, zau k),(680063, zam k),(101, zb9 k),(103, zba k),(67, zpf)]⟩) ⟨za3 zac, za4 ⟨(za0 k).1,(za0 k).2.1,(za0 k).2.2.1,(za0 k).2.2.2.1,(za0 k).2.2.2.2.1,(za0 k).2.2.2.2.2.1,(za0 k).2.2.2.2.2.2, zxh, trivial⟩, mixedOk⟩ (body := bodyOf Tryz.f63) (pl := [(7,[(0,0),(1,0),(2,0),(3,1),(4,2),(1007,0),(5,2),(6,2),(1007,1)],[13,1000010]),(9,[(0,0),(1,0),(2,0),(3,1),(4,2),(1007,0),(5,2),(6,2),(1007,1)],[13,1000009])]) (M := 400) (cuts := [⟨4,[0,5,4,1,0,1,1,1],[3,4,5,6,9,10,16,17,18],[.f 67, .b cBoxT, .b (.int .i64), .b .bool, .p [.o 31 cBoxT], .p [.o 31 cBoxT], .d (.sl cBoxT), .d (.int .i64), .d (.int .i64)], fun n x => zc6 k (zap k) (za7 k) (za6 k) (zaa k) (za5 k) (zad k) (zae k) n x.1 x.2.1 x.2.2.1 x.2.2.2.1 x.2.2.2.2.1 x.2.2.2.2.2.1 x.2.2.2.2.2.2.1 x.2.2.2.2.2.2.2.1 x.2.2.2.2.2.2.2.2,[(11,101,[10,6,9,5,4])]⟩]) (entry := fun n x => zhe k (zap k) (za7 k) (za6 k) (zaa k) (za5 k) (zad k) (zae k) n x.1 x.2.1 x.2.2.1 x.2.2.2) rfl rfl (by decide) (by kernel_rfl) ⟨⟨fun _ => by kernel_rfl, fun _ _ => by kernel_rfl⟩, trivial⟩ (fun _ _ => by kernel_rfl) k,
    za1 (ps := [.p [.o 31 cBoxT], .b .bool, .p [.o 31 cBoxT], .b (.int .i64), .b cBoxT]) (rs := []) (fn := Tryz.f101) (E := ⟨tOf tl, gOf [(35, zbd k),(650063, zao k),(660063, zan k),(670063, zau k),(680063, zam k),(101, zb9 k),(103, zba k),(102, zpj k)]⟩) ⟨za3 zac, za4 ⟨(za0 k).1,(za0 k).2.1,(za0 k).2.2.1,(za0 k).2.2.2.1,(za0 k).2.2.2.2.1,(za0 k).2.2.2.2.2.1,(za0 k).2.2.2.2.2.2, zxl k, trivial⟩, mixedOk⟩ (body := bodyOf Tryz.f101) (pl := [(7,[(0,0),(1,0),(2,0),(3,0),(4,0),(6,0),(1007,0),(5,1),(1007,1),(8,2),(1011,0),(9,2),(10,2),(1011,1)],[0,3,4,1000002])]) (M := 400) (cuts := [⟨2,[0,5,4,1,0,1],[0,1,2,3,4,5,8,9,10],[.p [.d (.sl cBoxT)], .b .bool, .p [.o 31 cBoxT], .b (.int .i64), .b cBoxT, .d .bool, .d (.sl cBoxT), .d (.int .i64), .d (.int .i64)], fun n x => zfz k (zap k) (za7 k) (za6 k) (zaa k) (za5 k) (zad k) (zae k) n x.1 x.2.1 x.2.2.1 x.2.2.2.1 x.2.2.2.2.1 x.2.2.2.2.2.1 x.2.2.2.2.2.2.1 x.2.2.2.2.2.2.2.1 x.2.2.2.2.2.2.2.2,[]⟩]) (entry := fun n x => zmk k (zap k) (za7 k) (za6 k) (zaa k) (za5 k) (zad k) (zae k) n x.1 x.2.1 x.2.2.1 x.2.2.2.1 x.2.2.2.2) rfl rfl (by decide) (by kernel_rfl) ⟨⟨fun _ => by kernel_rfl, fun _ _ => by kernel_rfl⟩, trivial⟩ (fun _ _ => by kernel_rfl) k,
    za1 (ps := [.d (.int .i64), .d cStyT, .d (.sl cBoxT)]) (rs := [.d cBoxT]) (fn := Tryz.f103) (E := ⟨tOf tl, gOf [(35, zbd k),(650063, zao k),(660063, zan k),(670063, zau k),(680063, zam k),(101, zb9 k),(103, zba k),(128, zmj)]⟩) ⟨za3 zac, za4 ⟨(za0 k).1,(za0 k).2.1,(za0 k).2.2.1,(za0 k).2.2.2.1,(za0 k).2.2.2.2.1,(za0 k).2.2.2.2.2.1,(za0 k).2.2.2.2.2.2, zuz, trivial⟩, mixedOk⟩ (body := bodyOf Tryz.f103) (pl := []) (M := 400) (cuts := []) (entry := fun n x => zmm k (zap k) (za7 k) (za6 k) (zaa k) (za5 k) (zad k) (zae k) x.1 x.2.1 x.2.2) rfl rfl (by decide) (by kernel_rfl) trivial (fun _ _ => by kernel_rfl) k⟩
theorem zwi (k : Nat) : ConOk Tryz.prog 35 (zbd k) := (za0 k).1
def zee (k : Nat) (S : Int → Int → Int → TreT → (List StyT) → (TreT × (List StyT)) → Option (BoxT × Bool)) (J22 : Int → (TreT × (List StyT)) → (Int × Int × Int × StyT × ByteArray × (List BoxT)) → (Int × Int × Int × StyT × ByteArray × (List BoxT)) → (List Int) → Int → Int → Option (BoxT × Bool)) (y7 : Int) (a3 : TreT) (a0 : Int) (a5 : (TreT × (List StyT))) (y6 : Int) (r2 : StyT) (y3 : Int) (y4 : Int) : Option (BoxT × Bool) :=
  (ydw k a3 a0).bind fun r8 =>
  J22 y7 (a5.1, a5.2) (0,0,0,(0,0,0,0,(0,0,()),(0,0,()),((0,0,()),(0,0,()),(0,0,()),(0,0,()),()),((0,0,()),(0,0,()),(0,0,()),(0,0,()),()),((0,0,()),(0,0,()),(0,0,()),(0,0,()),()),(0,0,0,0,()),0,0,0,0,0, false, false, false, false,0,0,0,0,0,0, false,()),(bs []),[]) (y6, a0,0,(zja (zjb r2 y3) y4),(bs []),[]) r8 (r8.length : Int) 0
def zgv (k : Nat) (S : Int → Int → Int → TreT → (List StyT) → (TreT × (List StyT)) → Option (BoxT × Bool)) (J22 : Int → (TreT × (List StyT)) → (Int × Int × Int × StyT × ByteArray × (List BoxT)) → (Int × Int × Int × StyT × ByteArray × (List BoxT)) → (List Int) → Int → Int → Option (BoxT × Bool)) (y6 : Int) (a2 : Int) (a3 : TreT) (a0 : Int) (a5 : (TreT × (List StyT))) (r2 : StyT) (y3 : Int) (y4 : Int) : Option (BoxT × Bool) :=
  bif decide (y6 = 2) then
  ((zee k S J22 (w64 (a2 + 1)) a3 a0 a5 y6 r2 y3 y4))
  else bif decide (y6 = 3) then
  ((zee k S J22 (w64 (a2 + 1)) a3 a0 a5 y6 r2 y3 y4))
  else bif decide (y3 = 2) then
  ((zee k S J22 (w64 (a2 + 1)) a3 a0 a5 y6 r2 y3 y4))
  else (bif decide (y3 = 3) then
  ((zee k S J22 (w64 (a2 + 1)) a3 a0 a5 y6 r2 y3 y4))
  else (zee k S J22 a2 a3 a0 a5 y6 r2 y3 y4))
def zgw (k : Nat) (S : Int → Int → Int → TreT → (List StyT) → (TreT × (List StyT)) → Option (BoxT × Bool)) (J22 : Int → (TreT × (List StyT)) → (Int × Int × Int × StyT × ByteArray × (List BoxT)) → (Int × Int × Int × StyT × ByteArray × (List BoxT)) → (List Int) → Int → Int → Option (BoxT × Bool)) (y4 : Int) (r2 : StyT) (y3 : Int) (a1 : Int) (a2 : Int) (a3 : TreT) (a0 : Int) (a5 : (TreT × (List StyT))) : Option (BoxT × Bool) :=
  (zu4 (zja (zjb r2 y3) y4) a1).bind fun r5 =>
  (bif decide (4 ≤ a2) then
  bif decide (r5 = 2) then
  ((zgv k S J22 1 a2 a3 a0 a5 r2 y3 y4))
  else (bif decide (r5 = 3) then
  ((zgv k S J22 1 a2 a3 a0 a5 r2 y3 y4))
  else (zgv k S J22 r5 a2 a3 a0 a5 r2 y3 y4))
  else (zgv k S J22 r5 a2 a3 a0 a5 r2 y3 y4))
def zgx (k : Nat) (S : Int → Int → Int → TreT → (List StyT) → (TreT × (List StyT)) → Option (BoxT × Bool)) (J22 : Int → (TreT × (List StyT)) → (Int × Int × Int × StyT × ByteArray × (List BoxT)) → (Int × Int × Int × StyT × ByteArray × (List BoxT)) → (List Int) → Int → Int → Option (BoxT × Bool)) (y3 : Int) (r2 : StyT) (a1 : Int) (a2 : Int) (a3 : TreT) (a0 : Int) (a5 : (TreT × (List StyT))) : Option (BoxT × Bool) :=
  (bif decide (y3 = 2) then
  ((zgw k S J22 0 r2 y3 a1 a2 a3 a0 a5))
  else bif decide (y3 = 3) then
  ((zgw k S J22 0 r2 y3 a1 a2 a3 a0 a5))
  else (bif decide (a1 = 2) then
  ((zgw k S J22 0 r2 y3 a1 a2 a3 a0 a5))
  else (zgw k S J22 r2.2.2.1 r2 y3 a1 a2 a3 a0 a5)))
def zl2 (k : Nat) (S : Int → Int → Int → TreT → (List StyT) → (TreT × (List StyT)) → Option (BoxT × Bool)) (J22 : Int → (TreT × (List StyT)) → (Int × Int × Int × StyT × ByteArray × (List BoxT)) → (Int × Int × Int × StyT × ByteArray × (List BoxT)) → (List Int) → Int → Int → Option (BoxT × Bool)) (y12 : (List BoxT)) (a2 : Int) (a5 : (TreT × (List StyT))) (v9 : (Int × Int × Int × StyT × ByteArray × (List BoxT))) (v12 : (Int × Int × Int × StyT × ByteArray × (List BoxT))) (v123 : (List Int)) (v124 : Int) (v125 : Int) : Option (BoxT × Bool) :=
  J22 a2 (a5.1, a5.2) (v9.1, v9.2.1, v9.2.2.1, v9.2.2.2.1, v9.2.2.2.2.1, v9.2.2.2.2.2) (v12.1, v12.2.1, v12.2.2.1, v12.2.2.2.1, v12.2.2.2.2.1, y12) v123 v124 (w64 (v125 + 1))
def zcb (k : Nat) (S : Int → Int → Int → TreT → (List StyT) → (TreT × (List StyT)) → Option (BoxT × Bool)) : Nat → Int → (TreT × (List StyT)) → (Int × Int × Int × StyT × ByteArray × (List BoxT)) → (Int × Int × Int × StyT × ByteArray × (List BoxT)) → (List Int) → Int → Int → Option (BoxT × Bool)
  | 0, _, _, _, _, _, _, _ => none
  | n + 1, a2, a5, v9, v12, v123, v124, v125 =>
  (bif decide (v125 < v124) then
  ((geti v123 v125).bind fun r9 =>
  ((S r9 v12.1 a2 a5.1 a5.2 (a5.1, a5.2)).bind fun r10 =>
  (bif r10.2 then
  ((appM 448 v12.2.2.2.2.2 ([(Tr.mk r10.1.x r10.1.kids)])).bind fun r11 =>
  (zl2 k S (zcb k S n) r11 a2 a5 v9 v12 v123 v124 v125))
  else (zl2 k S (zcb k S n) v12.2.2.2.2.2 a2 a5 v9 v12 v123 v124 v125))))
  else ((zap k (Tr.mk (v12.1, v12.2.1, v12.2.2.1, v12.2.2.2.1, v12.2.2.2.2.1,()) v12.2.2.2.2.2)).bind fun r13 =>
  some ((Tr.mk r13.x r13.kids), true)))
def zpl (k : Nat) (S : Int → Int → Int → TreT → (List StyT) → (TreT × (List StyT)) → Option (BoxT × Bool)) (n : Nat) (a0 : Int) (a1 : Int) (a2 : Int) (a3 : TreT) (a4 : (List StyT)) (a5 : (TreT × (List StyT))) : Option (BoxT × Bool) :=
  ((geti a3.1 a0).bind fun r1 =>
  ((geti a4 a0).bind fun r2 =>
  (bif decide (r1.1 = 2) then
  (some ((Tr.mk (7, a0,0, r2, r1.2.2.1,()) ([])), true))
  else (bif decide (r2.1 = 2) then
  (some ((Tr.mk (0,0,0,(0,0,0,0,(0,0,()),(0,0,()),((0,0,()),(0,0,()),(0,0,()),(0,0,()),()),((0,0,()),(0,0,()),(0,0,()),(0,0,()),()),((0,0,()),(0,0,()),(0,0,()),(0,0,()),()),(0,0,0,0,()),0,0,0,0,0, false, false, false, false,0,0,0,0,0,0, false,()),(bs []),()) ([])), false))
  else (bif decide (r1.2.1 = (bs [98,114])) then
  (some ((Tr.mk (8, a0,0, r2,(bs []),()) ([])), true))
  else (bif decide (4 ≤ a2) then
  bif decide (r2.2.1 = 2) then
  ((zgx k S (zcb k S n) 0 r2 a1 a2 a3 a0 a5))
  else (bif decide (r2.2.1 = 3) then
  ((zgx k S (zcb k S n) 0 r2 a1 a2 a3 a0 a5))
  else (zgx k S (zcb k S n) r2.2.1 r2 a1 a2 a3 a0 a5))
  else (zgx k S (zcb k S n) r2.2.1 r2 a1 a2 a3 a0 a5)))))))
def zg0 : Nat → Int → Int → Int → TreT → (List StyT) → (TreT × (List StyT)) → Option (BoxT × Bool)
  | 0, _, _, _, _, _, _ => none
  | k + 1, a0, a1, a2, a3, a4, a5 => zpl k (fun a0 a1 a2 a3 a4 a5 => zg0 k a0 a1 a2 a3 a4 a5) k a0 a1 a2 a3 a4 a5
def zmn (k : Nat) : Con := ⟨[.d (.int .i64), .d (.int .i64), .d (.int .i64), .b cTreT, .b (.sl cStyT), .m 32 [cTreT,(.sl cStyT)]],[.d cBoxT, .d .bool], fun x => zg0 k x.1 x.2.1 x.2.2.1 x.2.2.2.1 x.2.2.2.2.1 x.2.2.2.2.2⟩
theorem zo2 : (k : Nat) → ConOk Tryz.prog 32 (zmn k)
  | 0 => con0 ⟨Tryz.f32, rfl, rfl, by decide⟩
  | k + 1 => za1 (ps := [.d (.int .i64), .d (.int .i64), .d (.int .i64), .b cTreT, .b (.sl cStyT), .m 32 [cTreT,(.sl cStyT)]]) (rs := [.d cBoxT, .d .bool]) (fn := Tryz.f32) (E := ⟨tOf tl, gOf [(32, zmn k),(33, zr1),(34, zuv k),(35, zbd k)]⟩) ⟨za3 zac, za4 ⟨zo2 k, zzz, ycw k, zwi k, trivial⟩, mixedOk⟩ (body := bodyOf Tryz.f32) (pl := [(4,[(0,0),(1,0),(2,0),(3,1),(4,0),(5,1)],[11])]) (M := 400) (cuts := [⟨22,[0,5,4,1,0,1,1,1,1,1,1,1,1,1],[2,5,9,12,123,124,125],[.d (.int .i64), .m 32 [cTreT,(.sl cStyT)], .p [.d (.int .i64), .d (.int .i64), .d (.int .i64), .d cStyT, .d .str, .o 31 cBoxT], .p [.d (.int .i64), .d (.int .i64), .d (.int .i64), .d cStyT, .d .str, .o 31 cBoxT], .d (.sl (.int .i64)), .d (.int .i64), .d (.int .i64)], fun n x => zcb k (zg0 k) n x.1 x.2.1 x.2.2.1 x.2.2.2.1 x.2.2.2.2.1 x.2.2.2.2.2.1 x.2.2.2.2.2.2,[]⟩]) (entry := fun n x => zpl k (zg0 k) n x.1 x.2.1 x.2.2.1 x.2.2.2.1 x.2.2.2.2.1 x.2.2.2.2.2) rfl rfl (by decide) (by kernel_rfl) ⟨⟨fun _ => by kernel_rfl, fun _ _ => by kernel_rfl⟩, trivial⟩ (fun _ _ => by kernel_rfl) k
def zht (k : Nat) (S0 : Int → StyT → (List BoxT) → Option BoxT) (S1 : (List BoxT) → StyT → Int → Option (List BoxT)) (S2 : (List BoxT) → StyT → Int → Bool → Option (List BoxT)) (J7 : Int → (List BoxT) → BoxT → StyT → BoxT → Int → Option BoxT) (y5 : (List BoxT)) (a0 : Int) (a2 : (List BoxT)) (r1 : StyT) (r3 : Int) : Option BoxT :=
  J7 a0 a2 (Tr.mk (0,0,0,(0,0,0,0,(0,0,()),(0,0,()),((0,0,()),(0,0,()),(0,0,()),(0,0,()),()),((0,0,()),(0,0,()),(0,0,()),(0,0,()),()),((0,0,()),(0,0,()),(0,0,()),(0,0,()),()),(0,0,0,0,()),0,0,0,0,0, false, false, false, false,0,0,0,0,0,0, false,()),(bs []),()) ([])) (zcr r1 r3) (Tr.mk (a0,(-1),0,(zcr r1 r3),(bs []),()) y5) 0
def zbh (k : Nat) (S0 : Int → StyT → (List BoxT) → Option BoxT) (S1 : (List BoxT) → StyT → Int → Option (List BoxT)) (S2 : (List BoxT) → StyT → Int → Bool → Option (List BoxT)) : Nat → Int → (List BoxT) → BoxT → StyT → BoxT → Int → Option BoxT
  | 0, _, _, _, _, _, _ => none
  | n + 1, a0, a2, v6, v7, v8, v9 =>
  bif decide (v9 < (a2.length : Int)) then
  (bif decide (a0 = 5) then
  ((geti a2 v9).bind fun r6 =>
  (zi9 (Tr.mk r6.x r6.kids)).bind fun r7 =>
  (bif r7 then
  ((S1 a2 v7 1).bind fun r8 =>
  (some (Tr.mk v8.x r8)))
  else ((zbh k S0 S1 S2 n) a0 a2 (Tr.mk v6.x v6.kids) v7 (Tr.mk v8.x v8.kids) (w64 (v9 + 1)))))
  else (some (Tr.mk v8.x v8.kids)))
  else (some (Tr.mk v8.x v8.kids))
def zil (k : Nat) (S0 : Int → StyT → (List BoxT) → Option BoxT) (S1 : (List BoxT) → StyT → Int → Option (List BoxT)) (S2 : (List BoxT) → StyT → Int → Bool → Option (List BoxT)) (n : Nat) (a0 : Int) (a1 : StyT) (a2 : (List BoxT)) : Option BoxT :=
  ((zf8 a1 false).bind fun r1 =>
  ((geti ([0,1,0,0,5,6] : List Int) a0).bind fun r2 =>
  (geti ([0,1,0,0,5,6]) a0).bind fun r3 =>
  (bif decide (a0 = 4) then
  ((S1 a2 (zcr r1 r3) 5).bind fun r4 =>
  (zht k S0 S1 S2 (zbh k S0 S1 S2 n) r4 a0 a2 r1 r3))
  else (zht k S0 S1 S2 (zbh k S0 S1 S2 n) a2 a0 a2 r1 r3))))
def zok (k : Nat) (S0 : Int → StyT → (List BoxT) → Option BoxT) (S1 : (List BoxT) → StyT → Int → Option (List BoxT)) (S2 : (List BoxT) → StyT → Int → Bool → Option (List BoxT)) (a0 : (List BoxT)) (a1 : StyT) (a2 : Int) : Option (List BoxT) :=
  ((S2 a0 a1 a2 false).bind fun r1 =>
  some r1)
def zf3 (k : Nat) (S0 : Int → StyT → (List BoxT) → Option BoxT) (S1 : (List BoxT) → StyT → Int → Option (List BoxT)) (S2 : (List BoxT) → StyT → Int → Bool → Option (List BoxT)) (J3 : (List BoxT) → Int → Bool → StyT → (List BoxT) → (List BoxT) → Int → Option (List BoxT)) (y8 : (List BoxT)) (v11 : Int) (a0 : (List BoxT)) (a2 : Int) (a3 : Bool) (v5 : StyT) : Option (List BoxT) :=
  (bif decide (v11 < (a0.length : Int)) then
  ((geti a0 v11).bind fun r9 =>
  (appM 448 y8 ([(Tr.mk r9.x r9.kids)])).bind fun r10 =>
  (J3 a0 a2 a3 v5 r10 ([]) (w64 (v11 + 1))))
  else (J3 a0 a2 a3 v5 y8 ([]) (w64 (v11 + 1))))
def zhr (k : Nat) (S0 : Int → StyT → (List BoxT) → Option BoxT) (S1 : (List BoxT) → StyT → Int → Option (List BoxT)) (S2 : (List BoxT) → StyT → Int → Bool → Option (List BoxT)) (J3 : (List BoxT) → Int → Bool → StyT → (List BoxT) → (List BoxT) → Int → Option (List BoxT)) (v10 : (List BoxT)) (a2 : Int) (v5 : StyT) (v9 : (List BoxT)) (v11 : Int) (a0 : (List BoxT)) (a3 : Bool) : Option (List BoxT) :=
  bif decide (0 < (v10.length : Int)) then
  (zrd k v10 (decide (a2 = 1))).bind fun r5 =>
  (bif (!r5) then
  ((S0 a2 v5 v10).bind fun r6 =>
  (appM 448 v9 ([(Tr.mk r6.x r6.kids)])).bind fun r7 =>
  (zf3 k S0 S1 S2 J3 r7 v11 a0 a2 a3 v5))
  else (zf3 k S0 S1 S2 J3 v9 v11 a0 a2 a3 v5))
  else (zf3 k S0 S1 S2 J3 v9 v11 a0 a2 a3 v5)
def zch (k : Nat) (S0 : Int → StyT → (List BoxT) → Option BoxT) (S1 : (List BoxT) → StyT → Int → Option (List BoxT)) (S2 : (List BoxT) → StyT → Int → Bool → Option (List BoxT)) : Nat → (List BoxT) → Int → Bool → StyT → (List BoxT) → (List BoxT) → Int → Option (List BoxT)
  | 0, _, _, _, _, _, _, _ => none
  | n + 1, a0, a2, a3, v5, v9, v10, v11 =>
  (bif decide (v11 ≤ (a0.length : Int)) then
  (bif decide (v11 < (a0.length : Int)) then
  (geti a0 v11).bind fun r1 =>
  (zcp (Tr.mk r1.x r1.kids) a2 a3).bind fun r2 =>
  (bif r2 then
  ((geti a0 v11).bind fun r3 =>
  (appM 448 v10 ([(Tr.mk r3.x r3.kids)])).bind fun r4 =>
  ((zch k S0 S1 S2 n) a0 a2 a3 v5 v9 r4 (w64 (v11 + 1))))
  else (zhr k S0 S1 S2 (zch k S0 S1 S2 n) v10 a2 v5 v9 v11 a0 a3))
  else (zhr k S0 S1 S2 (zch k S0 S1 S2 n) v10 a2 v5 v9 v11 a0 a3))
  else (some v9))
def zli (k : Nat) (S0 : Int → StyT → (List BoxT) → Option BoxT) (S1 : (List BoxT) → StyT → Int → Option (List BoxT)) (S2 : (List BoxT) → StyT → Int → Bool → Option (List BoxT)) (n : Nat) (a0 : (List BoxT)) (a1 : StyT) (a2 : Int) (a3 : Bool) : Option (List BoxT) :=
  ((zch k S0 S1 S2 n) a0 a2 a3 a1 ([]) ([]) 0)
mutual
def zag : Nat → Int → StyT → (List BoxT) → Option BoxT
  | 0, _, _, _ => none
  | k + 1, a0, a1, a2 => zil k (zag k) (zai k) (zaw k) k a0 a1 a2
def zai : Nat → (List BoxT) → StyT → Int → Option (List BoxT)
  | 0, _, _, _ => none
  | k + 1, a0, a1, a2 => zok k (zag k) (zai k) (zaw k) a0 a1 a2
def zaw : Nat → (List BoxT) → StyT → Int → Bool → Option (List BoxT)
  | 0, _, _, _, _ => none
  | k + 1, a0, a1, a2, a3 => zli k (zag k) (zai k) (zaw k) k a0 a1 a2 a3
end
def zgs (k : Nat) : Con := ⟨[.d (.int .i64), .d cStyT, .d (.sl cBoxT)],[.d cBoxT], fun x => zag k x.1 x.2.1 x.2.2⟩
def zej (k : Nat) : Con := ⟨[.d (.sl cBoxT), .d cStyT, .d (.int .i64)],[.d (.sl cBoxT)], fun x => zai k x.1 x.2.1 x.2.2⟩
def zei (k : Nat) : Con := ⟨[.d (.sl cBoxT), .d cStyT, .d (.int .i64), .d .bool],[.d (.sl cBoxT)], fun x => zaw k x.1 x.2.1 x.2.2.1 x.2.2.2⟩
theorem zb4 : (k : Nat) → ConOk Tryz.prog 107 (zgs k) ∧ ConOk Tryz.prog 71 (zej k) ∧ ConOk Tryz.prog 72 (zei k)
  | 0 => ⟨con0 ⟨Tryz.f107, rfl, rfl, by decide⟩, con0 ⟨Tryz.f71, rfl, rfl, by decide⟩, con0 ⟨Tryz.f72, rfl, rfl, by decide⟩⟩
  | k + 1 => ⟨za1 (ps := [.d (.int .i64), .d cStyT, .d (.sl cBoxT)]) (rs := [.d cBoxT]) (fn := Tryz.f107) (E := ⟨tOf tl, gOf [(107, zgs k),(71, zej k),(72, zei k),(26, zkp),(77, zks)]⟩) ⟨za3 zac, za4 ⟨(zb4 k).1,(zb4 k).2.1,(zb4 k).2.2, zlu, zqn, trivial⟩, mixedOk⟩ (body := bodyOf Tryz.f107) (pl := []) (M := 400) (cuts := [⟨7,[0,0,5,4,1,0,1,1,1,1,1],[0,2,6,7,8,9],[.d (.int .i64), .d (.sl cBoxT), .p [.d cBoxT], .p [.d cStyT], .p [.d cBoxT], .d (.int .i64)], fun n x => zbh k (zag k) (zai k) (zaw k) n x.1 x.2.1 x.2.2.1 x.2.2.2.1 x.2.2.2.2.1 x.2.2.2.2.2,[]⟩]) (entry := fun n x => zil k (zag k) (zai k) (zaw k) n x.1 x.2.1 x.2.2) rfl rfl (by decide) (by kernel_rfl) ⟨⟨fun _ => by kernel_rfl, fun _ _ => by kernel_rfl⟩, trivial⟩ (fun _ _ => by kernel_rfl) k,
    za1 (ps := [.d (.sl cBoxT), .d cStyT, .d (.int .i64)]) (rs := [.d (.sl cBoxT)]) (fn := Tryz.f71) (E := ⟨tOf tl, gOf [(107, zgs k),(71, zej k),(72, zei k)]⟩) ⟨za3 zac, za4 ⟨(zb4 k).1,(zb4 k).2.1,(zb4 k).2.2, trivial⟩, mixedOk⟩ (body := bodyOf Tryz.f71) (pl := []) (M := 400) (cuts := []) (entry := fun n x => zok k (zag k) (zai k) (zaw k) x.1 x.2.1 x.2.2) rfl rfl (by decide) (by kernel_rfl) trivial (fun _ _ => by kernel_rfl) k,
    za1 (ps := [.d (.sl cBoxT), .d cStyT, .d (.int .i64), .d .bool]) (rs := [.d (.sl cBoxT)]) (fn := Tryz.f72) (E := ⟨tOf tl, gOf [(107, zgs k),(71, zej k),(72, zei k),(105, zoj),(106, zon k)]⟩) ⟨za3 zac, za4 ⟨(zb4 k).1,(zb4 k).2.1,(zb4 k).2.2, zwy, zx0 k, trivial⟩, mixedOk⟩ (body := bodyOf Tryz.f72) (pl := []) (M := 400) (cuts := [⟨3,[0,0,5,4,1,0,1,1],[0,2,3,5,9,10,11],[.d (.sl cBoxT), .d (.int .i64), .d .bool, .p [.d cStyT], .o 44 cBoxT, .o 44 cBoxT, .d (.int .i64)], fun n x => zch k (zag k) (zai k) (zaw k) n x.1 x.2.1 x.2.2.1 x.2.2.2.1 x.2.2.2.2.1 x.2.2.2.2.2.1 x.2.2.2.2.2.2,[]⟩]) (entry := fun n x => zli k (zag k) (zai k) (zaw k) n x.1 x.2.1 x.2.2.1 x.2.2.2) rfl rfl (by decide) (by kernel_rfl) ⟨⟨fun _ => by kernel_rfl, fun _ _ => by kernel_rfl⟩, trivial⟩ (fun _ _ => by kernel_rfl) k⟩
theorem zz2 (k : Nat) : ConOk Tryz.prog 71 (zej k) := (zb4 k).2.1
theorem zz1 (k : Nat) : ConOk Tryz.prog 72 (zei k) := (zb4 k).2.2
def zc2 (k : Nat) (S : TreT → (List StyT) → Int → Int → Int → Option (BoxT × Bool)) (J21 : (List StyT) → Int → TreT → (Int × Int × Int × StyT × ByteArray × (List BoxT)) → StyT → (Int × Int × Int × StyT × ByteArray × (List BoxT)) → (List Int) → Bool → Int → Option (BoxT × Bool)) (y7 : Int) (a0 : TreT) (a2 : Int) (a1 : (List StyT)) (r2 : StyT) (y3 : Int) (y4 : Int) (y6 : Int) : Option (BoxT × Bool) :=
  (zse k a0 a2).bind fun r8 =>
  (J21 a1 y7 a0 (0,0,0,(0,0,0,0,(0,0,()),(0,0,()),((0,0,()),(0,0,()),(0,0,()),(0,0,()),()),((0,0,()),(0,0,()),(0,0,()),(0,0,()),()),((0,0,()),(0,0,()),(0,0,()),(0,0,()),()),(0,0,0,0,()),0,0,0,0,0, false, false, false, false,0,0,0,0,0,0, false,()),(bs []),[]) (zja (zjb r2 y3) y4) (y6, a2,0,(zja (zjb r2 y3) y4),(bs []),[]) r8 false 0)
def zek (k : Nat) (S : TreT → (List StyT) → Int → Int → Int → Option (BoxT × Bool)) (J21 : (List StyT) → Int → TreT → (Int × Int × Int × StyT × ByteArray × (List BoxT)) → StyT → (Int × Int × Int × StyT × ByteArray × (List BoxT)) → (List Int) → Bool → Int → Option (BoxT × Bool)) (y6 : Int) (a4 : Int) (a0 : TreT) (a2 : Int) (a1 : (List StyT)) (r2 : StyT) (y3 : Int) (y4 : Int) : Option (BoxT × Bool) :=
  bif decide (y6 = 2) then
  ((zc2 k S J21 (w64 (a4 + 1)) a0 a2 a1 r2 y3 y4 y6))
  else bif decide (y6 = 3) then
  ((zc2 k S J21 (w64 (a4 + 1)) a0 a2 a1 r2 y3 y4 y6))
  else bif decide (y3 = 2) then
  ((zc2 k S J21 (w64 (a4 + 1)) a0 a2 a1 r2 y3 y4 y6))
  else (bif decide (y3 = 3) then
  ((zc2 k S J21 (w64 (a4 + 1)) a0 a2 a1 r2 y3 y4 y6))
  else (zc2 k S J21 a4 a0 a2 a1 r2 y3 y4 y6))
def zdb (k : Nat) (S : TreT → (List StyT) → Int → Int → Int → Option (BoxT × Bool)) (J21 : (List StyT) → Int → TreT → (Int × Int × Int × StyT × ByteArray × (List BoxT)) → StyT → (Int × Int × Int × StyT × ByteArray × (List BoxT)) → (List Int) → Bool → Int → Option (BoxT × Bool)) (y4 : Int) (r2 : StyT) (y3 : Int) (a3 : Int) (a4 : Int) (a0 : TreT) (a2 : Int) (a1 : (List StyT)) : Option (BoxT × Bool) :=
  (zi8 (zja (zjb r2 y3) y4) a3).bind fun r5 =>
  (bif decide (4 ≤ a4) then
  bif decide (r5 = 2) then
  ((zek k S J21 1 a4 a0 a2 a1 r2 y3 y4))
  else (bif decide (r5 = 3) then
  ((zek k S J21 1 a4 a0 a2 a1 r2 y3 y4))
  else (zek k S J21 r5 a4 a0 a2 a1 r2 y3 y4))
  else (zek k S J21 r5 a4 a0 a2 a1 r2 y3 y4))
def zav (k : Nat) (S : TreT → (List StyT) → Int → Int → Int → Option (BoxT × Bool)) (J21 : (List StyT) → Int → TreT → (Int × Int × Int × StyT × ByteArray × (List BoxT)) → StyT → (Int × Int × Int × StyT × ByteArray × (List BoxT)) → (List Int) → Bool → Int → Option (BoxT × Bool)) (y3 : Int) (r2 : StyT) (a3 : Int) (a4 : Int) (a0 : TreT) (a2 : Int) (a1 : (List StyT)) : Option (BoxT × Bool) :=
  bif decide (y3 = 2) then
  ((zdb k S J21 0 r2 y3 a3 a4 a0 a2 a1))
  else bif decide (y3 = 3) then
  ((zdb k S J21 0 r2 y3 a3 a4 a0 a2 a1))
  else (bif decide (a3 = 2) then
  ((zdb k S J21 0 r2 y3 a3 a4 a0 a2 a1))
  else (zdb k S J21 r2.2.2.1 r2 y3 a3 a4 a0 a2 a1))
def zdj (k : Nat) (S : TreT → (List StyT) → Int → Int → Int → Option (BoxT × Bool)) (J21 : (List StyT) → Int → TreT → (Int × Int × Int × StyT × ByteArray × (List BoxT)) → StyT → (Int × Int × Int × StyT × ByteArray × (List BoxT)) → (List Int) → Bool → Int → Option (BoxT × Bool)) (y13 : Bool) (y14 : (List BoxT)) (a1 : (List StyT)) (a4 : Int) (v5 : TreT) (v10 : (Int × Int × Int × StyT × ByteArray × (List BoxT))) (v13 : StyT) (v14 : (Int × Int × Int × StyT × ByteArray × (List BoxT))) (v15 : (List Int)) (v17 : Int) : Option (BoxT × Bool) :=
  J21 a1 a4 v5 (v10.1, v10.2.1, v10.2.2.1, v10.2.2.2.1, v10.2.2.2.2.1, v10.2.2.2.2.2) v13 (v14.1, v14.2.1, v14.2.2.1, v14.2.2.2.1, v14.2.2.2.2.1, y14) v15 y13 (w64 (v17 + 1))
def zfl (k : Nat) (S : TreT → (List StyT) → Int → Int → Int → Option (BoxT × Bool)) (y15 : Int) (v14 : (Int × Int × Int × StyT × ByteArray × (List BoxT))) : Option (BoxT × Bool) :=
  some ((Tr.mk (y15, v14.2.1, v14.2.2.1, v14.2.2.2.1, v14.2.2.2.2.1,()) v14.2.2.2.2.2), true)
def zfn (k : Nat) (S : TreT → (List StyT) → Int → Int → Int → Option (BoxT × Bool)) (v16 : Bool) (v14 : (Int × Int × Int × StyT × ByteArray × (List BoxT))) (v13 : StyT) (y15 : Int) : Option (BoxT × Bool) :=
  (bif v16 then
  ((zai k v14.2.2.2.2.2 v13 1).bind fun r18 =>
  (some ((Tr.mk (y15, v14.2.1, v14.2.2.1, v14.2.2.2.1, v14.2.2.2.2.1,()) r18), true)))
  else (zfl k S y15 v14))
def zfm (k : Nat) (S : TreT → (List StyT) → Int → Int → Int → Option (BoxT × Bool)) (y15 : Int) (v14 : (Int × Int × Int × StyT × ByteArray × (List BoxT))) (v13 : StyT) : Option (BoxT × Bool) :=
  (bif decide (y15 = 2) then
  ((zaw k v14.2.2.2.2.2 v13 1 true).bind fun r19 =>
  (some ((Tr.mk (y15, v14.2.1, v14.2.2.1, v14.2.2.2.1, v14.2.2.2.2.1,()) r19), true)))
  else (zfl k S y15 v14))
def zbo (k : Nat) (S : TreT → (List StyT) → Int → Int → Int → Option (BoxT × Bool)) (y15 : Int) (v14 : (Int × Int × Int × StyT × ByteArray × (List BoxT))) (v13 : StyT) (v16 : Bool) : Option (BoxT × Bool) :=
  (bif decide (y15 = 3) then
  ((zai k v14.2.2.2.2.2 v13 4).bind fun r16 =>
  (some ((Tr.mk (y15, v14.2.1, v14.2.2.1, v14.2.2.2.1, v14.2.2.2.2.1,()) r16), true)))
  else (bif decide (y15 = 4) then
  ((zai k v14.2.2.2.2.2 v13 5).bind fun r17 =>
  (some ((Tr.mk (y15, v14.2.1, v14.2.2.1, v14.2.2.2.1, v14.2.2.2.2.1,()) r17), true)))
  else (bif decide (y15 = 1) then
  (bif decide (y15 = 1) then
  (zfn k S v16 v14 v13 y15)
  else (zfm k S y15 v14 v13))
  else (bif decide (y15 = 5) then
  (zfn k S v16 v14 v13 y15)
  else (zfm k S y15 v14 v13)))))
def zbb (k : Nat) (S : TreT → (List StyT) → Int → Int → Int → Option (BoxT × Bool)) : Nat → (List StyT) → Int → TreT → (Int × Int × Int × StyT × ByteArray × (List BoxT)) → StyT → (Int × Int × Int × StyT × ByteArray × (List BoxT)) → (List Int) → Bool → Int → Option (BoxT × Bool)
  | 0, _, _, _, _, _, _, _, _, _ => none
  | n + 1, a1, a4, v5, v10, v13, v14, v15, v16, v17 =>
  (bif decide (v17 < (v15.length : Int)) then
  ((geti v15 v17).bind fun r9 =>
  (S v5 a1 r9 v14.1 a4).bind fun r10 =>
  (bif r10.2 then
  ((appM 448 v14.2.2.2.2.2 ([(Tr.mk r10.1.x r10.1.kids)])).bind fun r11 =>
  (bif v16 then
  (zdj k S (zbb k S n) true r11 a1 a4 v5 v10 v13 v14 v15 v17)
  else (zi9 (Tr.mk r10.1.x r10.1.kids)).bind fun r12 =>
  (zdj k S (zbb k S n) r12 r11 a1 a4 v5 v10 v13 v14 v15 v17)))
  else (zdj k S (zbb k S n) v16 v14.2.2.2.2.2 a1 a4 v5 v10 v13 v14 v15 v17)))
  else (bif decide (v14.1 = 6) then
  (bif v16 then
  (zbo k S 1 v14 v13 v16)
  else (zbo k S v14.1 v14 v13 v16))
  else (zbo k S v14.1 v14 v13 v16)))
def zjl (k : Nat) (S : TreT → (List StyT) → Int → Int → Int → Option (BoxT × Bool)) (n : Nat) (a0 : TreT) (a1 : (List StyT)) (a2 : Int) (a3 : Int) (a4 : Int) : Option (BoxT × Bool) :=
  ((geti a0.1 a2).bind fun r1 =>
  ((geti a1 a2).bind fun r2 =>
  (bif decide (r1.1 = 2) then
  (some ((Tr.mk (7, a2,0, r2, r1.2.2.1,()) ([])), true))
  else (bif decide (r2.1 = 2) then
  (some ((Tr.mk (0,0,0,(0,0,0,0,(0,0,()),(0,0,()),((0,0,()),(0,0,()),(0,0,()),(0,0,()),()),((0,0,()),(0,0,()),(0,0,()),(0,0,()),()),((0,0,()),(0,0,()),(0,0,()),(0,0,()),()),(0,0,0,0,()),0,0,0,0,0, false, false, false, false,0,0,0,0,0,0, false,()),(bs []),()) ([])), false))
  else (bif decide (r1.2.1 = (bs [98,114])) then
  (some ((Tr.mk (8, a2,0, r2,(bs []),()) ([])), true))
  else (bif decide (4 ≤ a4) then
  bif decide (r2.2.1 = 2) then
  ((zav k S (zbb k S n) 0 r2 a3 a4 a0 a2 a1))
  else (bif decide (r2.2.1 = 3) then
  ((zav k S (zbb k S n) 0 r2 a3 a4 a0 a2 a1))
  else (zav k S (zbb k S n) r2.2.1 r2 a3 a4 a0 a2 a1))
  else (zav k S (zbb k S n) r2.2.1 r2 a3 a4 a0 a2 a1)))))))
def zb8 : Nat → TreT → (List StyT) → Int → Int → Int → Option (BoxT × Bool)
  | 0, _, _, _, _, _ => none
  | k + 1, a0, a1, a2, a3, a4 => zjl k (fun a0 a1 a2 a3 a4 => zb8 k a0 a1 a2 a3 a4) k a0 a1 a2 a3 a4
def zom (k : Nat) : Con := ⟨[.d cTreT, .d (.sl cStyT), .d (.int .i64), .d (.int .i64), .d (.int .i64)],[.d cBoxT, .d .bool], fun x => zb8 k x.1 x.2.1 x.2.2.1 x.2.2.2.1 x.2.2.2.2⟩
theorem zqk : (k : Nat) → ConOk Tryz.prog 39 (zom k)
  | 0 => con0 ⟨Tryz.f39, rfl, rfl, by decide⟩
  | k + 1 => za1 (ps := [.d cTreT, .d (.sl cStyT), .d (.int .i64), .d (.int .i64), .d (.int .i64)]) (rs := [.d cBoxT, .d .bool]) (fn := Tryz.f39) (E := ⟨tOf tl, gOf [(39, zom k),(26, zkp),(69, zqj),(70, zsd k),(71, zej k),(72, zei k)]⟩) ⟨za3 zac, za4 ⟨zqk k, zlu, zz3, yas k, zz2 k, zz1 k, trivial⟩, mixedOk⟩ (body := bodyOf Tryz.f39) (pl := [(13,[(0,0),(1,0),(2,0),(3,0),(4,0),(5,0),(6,1),(7,1)],[13]),(23,[(0,0),(1,0),(2,0),(3,0),(4,0),(5,0),(6,0),(7,0),(8,0),(1013,0),(9,1),(10,1),(11,0),(12,0),(1013,1),(14,1),(15,0)],[5,14])]) (M := 400) (cuts := [⟨21,[0,0,5,4,1,0,1,1,1,1,1,1,1,1,1,1,1,1,1],[1,4,5,10,13,14,15,16,17],[.d (.sl cStyT), .d (.int .i64), .p [.d cTreT], .p [.d (.int .i64), .d (.int .i64), .d (.int .i64), .d cStyT, .d .str, .o 44 cBoxT], .p [.d cStyT], .p [.d (.int .i64), .d (.int .i64), .d (.int .i64), .d cStyT, .d .str, .o 44 cBoxT], .d (.sl (.int .i64)), .d .bool, .d (.int .i64)], fun n x => zbb k (zb8 k) n x.1 x.2.1 x.2.2.1 x.2.2.2.1 x.2.2.2.2.1 x.2.2.2.2.2.1 x.2.2.2.2.2.2.1 x.2.2.2.2.2.2.2.1 x.2.2.2.2.2.2.2.2,[]⟩]) (entry := fun n x => zjl k (zb8 k) n x.1 x.2.1 x.2.2.1 x.2.2.2.1 x.2.2.2.2) rfl rfl (by decide) (by kernel_rfl) ⟨⟨fun _ => by kernel_rfl, fun _ _ => by kernel_rfl⟩, trivial⟩ (fun _ _ => by kernel_rfl) k
def zia (k : Nat) (S : BoxT → Option (List BoxT)) : Nat → BoxT → (List BoxT) → Int → Option (List BoxT)
  | 0, _, _, _ => none
  | n + 1, v1, v3, v4 =>
  (bif decide (v4 < (v1.kids.length : Int)) then
  ((geti v1.kids v4).bind fun r1 =>
  (S (Tr.mk r1.x r1.kids)).bind fun r2 =>
  (appM 448 v3 r2).bind fun r3 =>
  ((zia k S n) (Tr.mk v1.x v1.kids) r3 (w64 (v4 + 1))))
  else (some v3))
def zna (k : Nat) (S : BoxT → Option (List BoxT)) (n : Nat) (a0 : BoxT) : Option (List BoxT) :=
  ((zia k S n) (Tr.mk a0.x a0.kids) ([(Tr.mk a0.x a0.kids)]) 0)
def zgb : Nat → BoxT → Option (List BoxT)
  | 0, _ => none
  | k + 1, a0 => zna k (fun a0 => zgb k a0) k a0
def zsk (k : Nat) : Con := ⟨[.d cBoxT],[.d (.sl cBoxT)], fun x => zgb k x⟩
theorem zuo : (k : Nat) → ConOk Tryz.prog 21 (zsk k)
  | 0 => con0 ⟨Tryz.f21, rfl, rfl, by decide⟩
  | k + 1 => za1 (ps := [.d cBoxT]) (rs := [.d (.sl cBoxT)]) (fn := Tryz.f21) (E := ⟨tOf tl, gOf [(21, zsk k)]⟩) ⟨za3 zac, za4 ⟨zuo k, trivial⟩, mixedOk⟩ (body := bodyOf Tryz.f21) (pl := []) (M := 400) (cuts := [⟨3,[0,0,5,4,1,0,1,1],[1,3,4],[.p [.d cBoxT], .o 44 cBoxT, .d (.int .i64)], fun n x => zia k (zgb k) n x.1 x.2.1 x.2.2,[]⟩]) (entry := fun n x => zna k (zgb k) n x) rfl rfl (by decide) (by kernel_rfl) ⟨⟨fun _ => by kernel_rfl, fun _ _ => by kernel_rfl⟩, trivial⟩ (fun _ _ => by kernel_rfl) k
def zk2 (k : Nat) (S : BoxT → Option BoxT) : Nat → BoxT → (Int × Int × Int × StyT × ByteArray × (List BoxT)) → (Int × Int × Int × StyT × ByteArray × (List BoxT)) → Int → Option BoxT
  | 0, _, _, _, _ => none
  | n + 1, v1, v2, v3, v4 =>
  (bif decide (v4 < (v1.kids.length : Int)) then
  ((geti v1.kids v4).bind fun r1 =>
  (S (Tr.mk r1.x r1.kids)).bind fun r2 =>
  (appM 448 v3.2.2.2.2.2 ([(Tr.mk r2.x r2.kids)])).bind fun r3 =>
  ((zk2 k S n) (Tr.mk v1.x v1.kids) (v2.1, v2.2.1, v2.2.2.1, v2.2.2.2.1, v2.2.2.2.2.1, v2.2.2.2.2.2) (v3.1, v3.2.1, v3.2.2.1, v3.2.2.2.1, v3.2.2.2.2.1, r3) (w64 (v4 + 1))))
  else (some (Tr.mk (v3.1, v3.2.1, v3.2.2.1, v3.2.2.2.1, v3.2.2.2.2.1,()) v3.2.2.2.2.2)))
def zpz (k : Nat) (S : BoxT → Option BoxT) (n : Nat) (a0 : BoxT) : Option BoxT :=
  ((zk2 k S n) (Tr.mk a0.x a0.kids) (0,0,0,(0,0,0,0,(0,0,()),(0,0,()),((0,0,()),(0,0,()),(0,0,()),(0,0,()),()),((0,0,()),(0,0,()),(0,0,()),(0,0,()),()),((0,0,()),(0,0,()),(0,0,()),(0,0,()),()),(0,0,0,0,()),0,0,0,0,0, false, false, false, false,0,0,0,0,0,0, false,()),(bs []),[]) (a0.x.1, a0.x.2.1, a0.x.2.2.1, a0.x.2.2.2.1, a0.x.2.2.2.2.1,[]) 0)
def ziu : Nat → BoxT → Option BoxT
  | 0, _ => none
  | k + 1, a0 => zpz k (fun a0 => ziu k a0) k a0
def zut (k : Nat) : Con := ⟨[.d cBoxT],[.d cBoxT], fun x => ziu k x⟩
theorem zw7 : (k : Nat) → ConOk Tryz.prog 22 (zut k)
  | 0 => con0 ⟨Tryz.f22, rfl, rfl, by decide⟩
  | k + 1 => za1 (ps := [.d cBoxT]) (rs := [.d cBoxT]) (fn := Tryz.f22) (E := ⟨tOf tl, gOf [(22, zut k)]⟩) ⟨za3 zac, za4 ⟨zw7 k, trivial⟩, mixedOk⟩ (body := bodyOf Tryz.f22) (pl := [(5,[(0,0),(1,0),(2,0),(3,0),(4,0),(5,0),(6,0),(7,1),(8,1),(9,1),(10,0),(11,2)],[1,3])]) (M := 400) (cuts := [⟨3,[0,0,5,4,1,0,1,1],[1,2,3,4],[.p [.d cBoxT], .p [.d (.int .i64), .d (.int .i64), .d (.int .i64), .d cStyT, .d .str, .o 31 cBoxT], .p [.d (.int .i64), .d (.int .i64), .d (.int .i64), .d cStyT, .d .str, .o 31 cBoxT], .d (.int .i64)], fun n x => zk2 k (ziu k) n x.1 x.2.1 x.2.2.1 x.2.2.2,[]⟩]) (entry := fun n x => zpz k (ziu k) n x) rfl rfl (by decide) (by kernel_rfl) ⟨⟨fun _ => by kernel_rfl, fun _ _ => by kernel_rfl⟩, trivial⟩ (fun _ _ => by kernel_rfl) k
def zzi (k : Nat) (S : BoxT → Option ByteArray) : Nat → BoxT → ByteArray → Int → Option ByteArray
  | 0, _, _, _ => none
  | n + 1, v1, v3, v4 =>
  (bif decide (v4 < (v1.kids.length : Int)) then
  ((geti v1.kids v4).bind fun r1 =>
  (S (Tr.mk r1.x r1.kids)).bind fun r2 =>
  (addS v3 r2).bind fun r3 =>
  ((zzi k S n) (Tr.mk v1.x v1.kids) r3 (w64 (v4 + 1))))
  else (some v3))
def zm0 (k : Nat) (S : BoxT → Option ByteArray) (J10 : BoxT → ByteArray → Int → Option ByteArray) (y4 : ByteArray) (a0 : BoxT) : Option ByteArray :=
  (bif decide ((a0.kids.length : Int) = 0) then
  (some y4)
  else ((addS y4 (bs [40])).bind fun r5 =>
  (J10 (Tr.mk a0.x a0.kids) r5 0)))
def zqs (k : Nat) (S : BoxT → Option ByteArray) (J10 : BoxT → ByteArray → Int → Option ByteArray) (y1 : ByteArray) (a0 : BoxT) : Option ByteArray :=
  bif decide (1 ≤ a0.x.1) then
  (bif decide (a0.x.1 ≤ 8) then
  ((cutS (bs [66,70,84,82,67,105,99,98]) (w64 (a0.x.1 - 1)) a0.x.1).bind fun r2 =>
  (addS y1 r2).bind fun r3 =>
  (zm0 k S J10 r3 a0))
  else (zm0 k S J10 y1 a0))
  else (zm0 k S J10 y1 a0)
def zit (k : Nat) (S : BoxT → Option ByteArray) : Nat → BoxT → ByteArray → Int → Option ByteArray
  | 0, _, _, _ => none
  | n + 1, v1, v3, v4 =>
  (bif decide (v4 < (v1.kids.length : Int)) then
  ((geti v1.kids v4).bind fun r6 =>
  (S (Tr.mk r6.x r6.kids)).bind fun r7 =>
  (addS v3 r7).bind fun r8 =>
  ((zit k S n) (Tr.mk v1.x v1.kids) r8 (w64 (v4 + 1))))
  else ((addS v3 (bs [41])).bind fun r9 =>
  some r9))
def zst (k : Nat) (S : BoxT → Option ByteArray) (n : Nat) (a0 : BoxT) : Option ByteArray :=
  (bif decide (a0.x.2.1 < 0) then
  (zqs k S (zit k S n) (bs [63]) a0)
  else (zqs k S (zit k S n) (bs []) a0))
def zkw : Nat → BoxT → Option ByteArray
  | 0, _ => none
  | k + 1, a0 => zst k (fun a0 => zkw k a0) k a0
def zkv (k : Nat) : Con := ⟨[.d cBoxT],[.d .str], fun x => zkw k x⟩
theorem zqr : (k : Nat) → ConOk Tryz.prog 37 (zkv k)
  | 0 => con0 ⟨Tryz.f37, rfl, rfl, by decide⟩
  | k + 1 => za1 (ps := [.d cBoxT]) (rs := [.d .str]) (fn := Tryz.f37) (E := ⟨tOf tl, gOf [(37, zkv k)]⟩) ⟨za3 zac, za4 ⟨zqr k, trivial⟩, mixedOk⟩ (body := bodyOf Tryz.f37) (pl := []) (M := 400) (cuts := [⟨10,[0,0,5,4,1,0,1,1,1,1,1,1],[1,3,4],[.p [.d cBoxT], .d .str, .d (.int .i64)], fun n x => zit k (zkw k) n x.1 x.2.1 x.2.2,[]⟩]) (entry := fun n x => zst k (zkw k) n x) rfl rfl (by decide) (by kernel_rfl) ⟨⟨fun _ => by kernel_rfl, fun _ _ => by kernel_rfl⟩, trivial⟩ (fun _ _ => by kernel_rfl) k
end Go.V
