/-
  Walks and laws of this seat.
-/
import Derived.Test.YteicdfkmpnmkmaaGreatM1
namespace Go.V
set_option linter.unusedVariables false
set_option linter.unusedSimpArgs false
set_option linter.unusedSectionVars false
variable [F0]
set_option maxRecDepth 100000
open Go.RowKit Go.Sl Go.Proofs
def ztk : Nat → ByteArray → (List ByteArray) → Int → Option Bool
  | 0, _, _, _ => none
  | n + 1, a0, a1, v5 =>
  (bif decide (v5 < (a1.length : Int)) then
  ((geti a1 v5).bind fun r1 =>
  (bif decide (r1 = a0) then
  (some true)
  else ((ztk n) a0 a1 (w64 (v5 + 1)))))
  else (some false))
def zxy (n : Nat) (a0 : ByteArray) (a1 : (List ByteArray)) : Option Bool :=
  ((ztk n) a0 a1 0)
def zv3 (k : Nat) (a0 : ByteArray) (a1 : (List ByteArray)) : Option Bool := zxy k a0 a1
def zl9 (k : Nat) : Con := ⟨[.d .str, .d (.sl .str)],[.d .bool], fun x => zv3 k x.1 x.2⟩
theorem zr8 (k : Nat) : ConOk Tryz.prog 125 (zl9 k) :=
  za1 (ps := [.d .str, .d (.sl .str)]) (rs := [.d .bool]) (fn := Tryz.f125) (E := ⟨tOf tl, gOf []⟩) ⟨za3 zac, za4 trivial, mixedOk⟩ (body := bodyOf Tryz.f125) (pl := []) (M := 400) (cuts := [⟨2,[0,0,5,4,1,0,1],[0,1,5],[.d .str, .d (.sl .str), .d (.int .i64)], fun n x => ztk n x.1 x.2.1 x.2.2,[]⟩]) (entry := fun n x => zxy n x.1 x.2) rfl rfl (by decide) (by kernel_rfl) ⟨⟨fun _ => by kernel_rfl, fun _ _ => by kernel_rfl⟩, trivial⟩ (fun _ _ => by kernel_rfl) k
def zn1 (y2 : Int) (a0 : Int) (a1 : Int) : Option Int :=
  bif decide (65 ≤ a0) then
  (bif decide (a0 ≤ 70) then
  ((bif decide (a1 ≤ (w64 ((w64 (IntKind.u8.wrap (a0 - 65))) + 10))) then
  (some (-1))
  else (some (w64 ((w64 (IntKind.u8.wrap (a0 - 65))) + 10)))))
  else ((bif decide (a1 ≤ y2) then
  (some (-1))
  else (some y2))))
  else ((bif decide (a1 ≤ y2) then
  (some (-1))
  else (some y2)))
def zn2 (y1 : Int) (a0 : Int) (a1 : Int) : Option Int :=
  bif decide (97 ≤ a0) then
  (bif decide (a0 ≤ 102) then
  (zn1 (w64 ((w64 (IntKind.u8.wrap (a0 - 97))) + 10)) a0 a1)
  else (zn1 y1 a0 a1))
  else (zn1 y1 a0 a1)
def zpw (a0 : Int) (a1 : Int) : Option Int :=
  (bif decide (48 ≤ a0) then
  (bif decide (a0 ≤ 57) then
  (zn2 (w64 (IntKind.u8.wrap (a0 - 48))) a0 a1)
  else (zn2 (-1) a0 a1))
  else (zn2 (-1) a0 a1))
def zqi : Con := ⟨[.d (.int .u8), .d (.int .i64)],[.d (.int .i64)], fun x => zpw x.1 x.2⟩
theorem zz0 : ConOk Tryz.prog 126 (zqi) :=
  za1 (ps := [.d (.int .u8), .d (.int .i64)]) (rs := [.d (.int .i64)]) (fn := Tryz.f126) (E := ⟨tOf tl, gOf []⟩) ⟨za3 zac, za4 trivial, mixedOk⟩ (body := bodyOf Tryz.f126) (pl := []) (M := 400) (cuts := []) (entry := fun n x => zpw x.1 x.2) rfl rfl (by decide) (by kernel_rfl) trivial (fun _ _ => by kernel_rfl) 0
def zn3 : Nat → (List Int) → Int → Option Int
  | 0, _, _ => none
  | n + 1, a0, a1 =>
  bif decide (a1 < (a0.length : Int)) then
  (geti a0 a1).bind fun r1 =>
  (zbw r1).bind fun r2 =>
  (bif r2 then
  ((zn3 n) a0 (w64 (a1 + 1)))
  else (some a1))
  else (some a1)
def zsg (n : Nat) (a0 : (List Int)) (a1 : Int) : Option Int :=
  ((zn3 n) a0 a1)
def zr9 (k : Nat) (a0 : (List Int)) (a1 : Int) : Option Int := zsg k a0 a1
def zoc (k : Nat) : Con := ⟨[.d (.sl (.int .i32)), .d (.int .i64)],[.d (.int .i64)], fun x => zr9 k x.1 x.2⟩
theorem zwt (k : Nat) : ConOk Tryz.prog 127 (zoc k) :=
  za1 (ps := [.d (.sl (.int .i32)), .d (.int .i64)]) (rs := [.d (.int .i64)]) (fn := Tryz.f127) (E := ⟨tOf tl, gOf [(45, zc1)]⟩) ⟨za3 zac, za4 ⟨zd3, trivial⟩, mixedOk⟩ (body := bodyOf Tryz.f127) (pl := []) (M := 400) (cuts := [⟨1,[0,0,5,4,0,1],[0,1],[.d (.sl (.int .i32)), .d (.int .i64)], fun n x => zn3 n x.1 x.2,[]⟩]) (entry := fun n x => zsg n x.1 x.2) rfl rfl (by decide) (by kernel_rfl) ⟨⟨fun _ => by kernel_rfl, fun _ _ => by kernel_rfl⟩, trivial⟩ (fun _ _ => by kernel_rfl) k
def zkm (a0 : Int) : Option Bool :=
  (bif decide (97 ≤ a0) then
  bif decide (a0 ≤ 122) then
  some true
  else bif decide (65 ≤ a0) then
  some (decide (a0 ≤ 90))
  else some false
  else bif decide (65 ≤ a0) then
  some (decide (a0 ≤ 90))
  else some false)
def zkl : Con := ⟨[.d (.int .i32)],[.d .bool], fun x => zkm x⟩
theorem zqh : ConOk Tryz.prog 56 (zkl) :=
  za1 (ps := [.d (.int .i32)]) (rs := [.d .bool]) (fn := Tryz.f56) (E := ⟨tOf tl, gOf []⟩) ⟨za3 zac, za4 trivial, mixedOk⟩ (body := bodyOf Tryz.f56) (pl := []) (M := 400) (cuts := []) (entry := fun n x => zkm x) rfl rfl (by decide) (by kernel_rfl) trivial (fun _ _ => by kernel_rfl) 0
def zvn : Nat → (List Int) → Int → ByteArray → Int → Option Bool
  | 0, _, _, _, _ => none
  | n + 1, a0, a1, a2, v7 =>
  (bif decide (v7 < (a2.size : Int)) then
  (bif decide ((a0.length : Int) ≤ (w64 (a1 + v7))) then
  (some false)
  else (geti a0 (w64 (a1 + v7))).bind fun r1 =>
  (getS a2 v7).bind fun r2 =>
  (bif decide (r1 ≠ (IntKind.i32.wrap r2)) then
  (some false)
  else ((zvn n) a0 a1 a2 (w64 (v7 + 1)))))
  else (some true))
def yat (n : Nat) (a0 : (List Int)) (a1 : Int) (a2 : ByteArray) : Option Bool :=
  ((zvn n) a0 a1 a2 0)
def zyz (k : Nat) (a0 : (List Int)) (a1 : Int) (a2 : ByteArray) : Option Bool := yat k a0 a1 a2
def zn0 (k : Nat) : Con := ⟨[.d (.sl (.int .i32)), .d (.int .i64), .d .str],[.d .bool], fun x => zyz k x.1 x.2.1 x.2.2⟩
theorem ztq (k : Nat) : ConOk Tryz.prog 59 (zn0 k) :=
  za1 (ps := [.d (.sl (.int .i32)), .d (.int .i64), .d .str]) (rs := [.d .bool]) (fn := Tryz.f59) (E := ⟨tOf tl, gOf []⟩) ⟨za3 zac, za4 trivial, mixedOk⟩ (body := bodyOf Tryz.f59) (pl := [(4,[(0,0),(1,0),(2,0),(3,0),(4,0),(5,0),(6,0),(7,0),(8,0),(9,0),(10,0),(11,0),(12,0),(13,0),(14,0),(15,0),(16,0),(17,0),(18,0)],[])]) (M := 400) (cuts := [⟨2,[0,0,5,4,1,0,1],[0,1,2,7],[.d (.sl (.int .i32)), .d (.int .i64), .d .str, .d (.int .i64)], fun n x => zvn n x.1 x.2.1 x.2.2.1 x.2.2.2,[]⟩]) (entry := fun n x => yat n x.1 x.2.1 x.2.2) rfl rfl (by decide) (by kernel_rfl) ⟨⟨fun _ => by kernel_rfl, fun _ _ => by kernel_rfl⟩, trivial⟩ (fun _ _ => by kernel_rfl) k
def zn4 (k : Nat) : Nat → (List Int) → Int → ByteArray → Option Int
  | 0, _, _, _ => none
  | n + 1, a0, a1, a2 =>
  (bif decide (a1 < (a0.length : Int)) then
  ((zyz k a0 a1 a2).bind fun r1 =>
  (bif r1 then
  (some (w64 (a1 + (a2.size : Int))))
  else ((zn4 k n) a0 (w64 (a1 + 1)) a2)))
  else (some (a0.length : Int)))
def zsh (k : Nat) (n : Nat) (a0 : (List Int)) (a1 : Int) (a2 : ByteArray) : Option Int :=
  ((zn4 k n) a0 a1 a2)
def zra (k : Nat) (a0 : (List Int)) (a1 : Int) (a2 : ByteArray) : Option Int := zsh k k a0 a1 a2
def zod (k : Nat) : Con := ⟨[.d (.sl (.int .i32)), .d (.int .i64), .d .str],[.d (.int .i64)], fun x => zra k x.1 x.2.1 x.2.2⟩
theorem zwu (k : Nat) : ConOk Tryz.prog 60 (zod k) :=
  za1 (ps := [.d (.sl (.int .i32)), .d (.int .i64), .d .str]) (rs := [.d (.int .i64)]) (fn := Tryz.f60) (E := ⟨tOf tl, gOf [(59, zn0 k)]⟩) ⟨za3 zac, za4 ⟨ztq k, trivial⟩, mixedOk⟩ (body := bodyOf Tryz.f60) (pl := []) (M := 400) (cuts := [⟨1,[0,0,5,4,0,1],[0,1,2],[.d (.sl (.int .i32)), .d (.int .i64), .d .str], fun n x => zn4 k n x.1 x.2.1 x.2.2,[]⟩]) (entry := fun n x => zsh k n x.1 x.2.1 x.2.2) rfl rfl (by decide) (by kernel_rfl) ⟨⟨fun _ => by kernel_rfl, fun _ _ => by kernel_rfl⟩, trivial⟩ (fun _ _ => by kernel_rfl) k
def zn5 (a0 : (List Int)) (a1 : Int) : Option Bool :=
  ((geti a0 a1).bind fun r1 =>
  bif decide (r1 ≠ 60) then
  (some false)
  else (bif decide ((a0.length : Int) ≤ (w64 (a1 + 1))) then
  (some false)
  else ((geti a0 (w64 (a1 + 1))).bind fun r2 =>
  ((zkm r2).bind fun r3 =>
  bif r3 then
  some true
  else bif decide (r2 = 47) then
  some true
  else bif decide (r2 = 33) then
  some true
  else some (decide (r2 = 63))))))
def zoe : Con := ⟨[.d (.sl (.int .i32)), .d (.int .i64)],[.d .bool], fun x => zn5 x.1 x.2⟩
theorem zwv : ConOk Tryz.prog 54 (zoe) :=
  za1 (ps := [.d (.sl (.int .i32)), .d (.int .i64)]) (rs := [.d .bool]) (fn := Tryz.f54) (E := ⟨tOf tl, gOf [(56, zkl)]⟩) ⟨za3 zac, za4 ⟨zqh, trivial⟩, mixedOk⟩ (body := bodyOf Tryz.f54) (pl := []) (M := 400) (cuts := []) (entry := fun n x => zn5 x.1 x.2) rfl rfl (by decide) (by kernel_rfl) trivial (fun _ _ => by kernel_rfl) 0
def ztr : Nat → (List AttT) → AttT → Int → Option (List AttT)
  | 0, _, _, _ => none
  | n + 1, a0, v3, v5 =>
  (bif decide (v5 < (a0.length : Int)) then
  ((geti a0 v5).bind fun r1 =>
  (geti a0 v5).bind fun r2 =>
  (bif decide (r2.1 = v3.1) then
  (some a0)
  else ((ztr n) a0 v3 (w64 (v5 + 1)))))
  else (bif decide (64 ≤ (a0.length : Int)) then
  (some a0)
  else ((appM 32 a0 ([v3])).bind fun r3 =>
  some r3)))
def zy3 (n : Nat) (a0 : (List AttT)) (a1 : AttT) : Option (List AttT) :=
  ((ztr n) a0 a1 0)
def ydc (k : Nat) (a0 : (List AttT)) (a1 : AttT) : Option (List AttT) := zy3 k a0 a1
def zum (k : Nat) : Con := ⟨[.o 85 cAttT, .d cAttT],[.o 85 cAttT], fun x => ydc k x.1 x.2⟩
theorem ycg (k : Nat) : ConOk Tryz.prog 99 (zum k) :=
  za1 (ps := [.o 85 cAttT, .d cAttT]) (rs := [.o 85 cAttT]) (fn := Tryz.f99) (E := ⟨tOf tl, gOf []⟩) ⟨za3 zac, za4 trivial, mixedOk⟩ (body := bodyOf Tryz.f99) (pl := [(4,[(0,0),(1,0),(2,0),(3,0),(4,0),(5,0),(6,0),(7,0)],[0,3])]) (M := 400) (cuts := [⟨2,[0,0,5,4,1,0,1],[0,3,5],[.o 85 cAttT, .p [.d cAttT], .d (.int .i64)], fun n x => ztr n x.1 x.2.1 x.2.2,[]⟩]) (entry := fun n x => zy3 n x.1 x.2) rfl rfl (by decide) (by kernel_rfl) ⟨⟨fun _ => by kernel_rfl, fun _ _ => by kernel_rfl⟩, trivial⟩ (fun _ _ => by kernel_rfl) k
def zg8 (v9 : Int) (v11 : Int) (a0 : ByteArray) (v12 : Int) : Option (ByteArray × Int) :=
  bif decide (v9 = v11) then
  (some ((bs []),0))
  else bif decide (8 < (w64 (v9 - v11))) then
  (some ((bs []),0))
  else bif decide ((a0.size : Int) ≤ v9) then
  (some ((bs []),0))
  else (getS a0 v9).bind fun r16 =>
  (bif decide (r16 ≠ 59) then
  (some ((bs []),0))
  else (bif decide (v12 = 0) then
  ((some ((textOf ([(IntKind.i32.wrap 65533)])),(w64 (v9 + 1)))))
  else bif decide (1114111 < v12) then
  ((some ((textOf ([(IntKind.i32.wrap 65533)])),(w64 (v9 + 1)))))
  else bif decide (55296 ≤ v12) then
  (bif decide (v12 ≤ 57343) then
  ((some ((textOf ([(IntKind.i32.wrap 65533)])),(w64 (v9 + 1)))))
  else (some ((textOf ([(IntKind.i32.wrap v12)])),(w64 (v9 + 1)))))
  else (some ((textOf ([(IntKind.i32.wrap v12)])),(w64 (v9 + 1))))))
mutual
def zgr : Nat → ByteArray → Int → (List ByteArray) → (List ByteArray) → Int → Option (ByteArray × Int)
  | 0, _, _, _, _, _ => none
  | n + 1, a0, a1, v6, v7, v8 =>
  (bif decide (v8 < (v6.length : Int)) then
  ((geti v6 v8).bind fun r1 =>
  bif decide ((r1.size : Int) ≤ (w64 ((a0.size : Int) - a1))) then
  (geti v6 v8).bind fun r2 =>
  (cutS a0 a1 (w64 (a1 + (r2.size : Int)))).bind fun r3 =>
  (geti v6 v8).bind fun r4 =>
  (bif decide (r3 = r4) then
  ((geti v7 v8).bind fun r5 =>
  (geti v6 v8).bind fun r6 =>
  some (r5,(w64 (a1 + (r6.size : Int)))))
  else ((zgr n) a0 a1 v6 v7 (w64 (v8 + 1))))
  else ((zgr n) a0 a1 v6 v7 (w64 (v8 + 1))))
  else (bif decide ((a0.size : Int) ≤ (w64 (a1 + 1))) then
  (some ((bs []),0))
  else (getS a0 (w64 (a1 + 1))).bind fun r7 =>
  (bif decide (r7 ≠ 35) then
  (some ((bs []),0))
  else (bif decide ((w64 (a1 + 2)) < (a0.size : Int)) then
  (getS a0 (w64 (a1 + 2))).bind fun r8 =>
  bif decide (r8 = 120) then
  ((((zcl n) a0 (w64 ((w64 (a1 + 2)) + 1)) 16 (w64 ((w64 (a1 + 2)) + 1)) 0)))
  else (getS a0 (w64 (a1 + 2))).bind fun r9 =>
  (bif decide (r9 = 88) then
  ((((zcl n) a0 (w64 ((w64 (a1 + 2)) + 1)) 16 (w64 ((w64 (a1 + 2)) + 1)) 0)))
  else (((zcl n) a0 (w64 (a1 + 2)) 10 (w64 (a1 + 2)) 0)))
  else (((zcl n) a0 (w64 (a1 + 2)) 10 (w64 (a1 + 2)) 0))))))
def zcl : Nat → ByteArray → Int → Int → Int → Int → Option (ByteArray × Int)
  | 0, _, _, _, _, _ => none
  | n + 1, a0, v9, v10, v11, v12 =>
  bif decide (v9 < (a0.size : Int)) then
  (getS a0 v9).bind fun r12 =>
  (zpw r12 v10).bind fun r13 =>
  bif decide (0 ≤ r13) then
  (bif decide ((w64 (v9 - v11)) < 9) then
  ((getS a0 v9).bind fun r14 =>
  (zpw r14 v10).bind fun r15 =>
  ((zcl n) a0 (w64 (v9 + 1)) v10 v11 (w64 ((w64 (v12 * v10)) + r15))))
  else (zg8 v9 v11 a0 v12))
  else (zg8 v9 v11 a0 v12)
  else (zg8 v9 v11 a0 v12)
end
def zns (n : Nat) (a0 : ByteArray) (a1 : Int) : Option (ByteArray × Int) :=
  ((zgr n) a0 a1 ([(bs [38,97,109,112,59]),(bs [38,108,116,59]),(bs [38,103,116,59]),(bs [38,113,117,111,116,59]),(bs [38,97,112,111,115,59]),(bs [38,110,98,115,112,59])]) ([(bs [38]),(bs [60]),(bs [62]),(bs [34]),(bs [39]),(bs [194,160])]) 0)
def zqg (k : Nat) (a0 : ByteArray) (a1 : Int) : Option (ByteArray × Int) := zns k a0 a1
def zlg (k : Nat) : Con := ⟨[.d .str, .d (.int .i64)],[.d .str, .d (.int .i64)], fun x => zqg k x.1 x.2⟩
theorem ztp (k : Nat) : ConOk Tryz.prog 96 (zlg k) :=
  za1 (ps := [.d .str, .d (.int .i64)]) (rs := [.d .str, .d (.int .i64)]) (fn := Tryz.f96) (E := ⟨tOf tl, gOf [(126, zqi)]⟩) ⟨za3 zac, za4 ⟨zz0, trivial⟩, mixedOk⟩ (body := bodyOf Tryz.f96) (pl := [(6,[(0,0),(1,0),(2,0),(3,0),(4,0),(5,0),(6,0),(7,0),(8,0),(9,0),(10,0),(11,0),(12,0),(13,0),(14,0),(15,0),(16,0),(17,0),(18,0),(19,0),(20,0),(21,0),(22,0),(23,0),(24,0),(25,0),(26,0)],[]),(7,[(0,0),(1,0),(2,0),(3,0),(4,0),(5,0),(6,0),(7,0),(8,0),(9,0),(10,0),(11,0),(12,0)],[])]) (M := 400) (cuts := [⟨4,[0,0,5,4,1,0,1,1,1],[0,1,6,7,8],[.d .str, .d (.int .i64), .d (.sl .str), .d (.sl .str), .d (.int .i64)], fun n x => zgr n x.1 x.2.1 x.2.2.1 x.2.2.2.1 x.2.2.2.2,[]⟩, ⟨17,[0,0,5,4,0,1,1,1,1,1,1,1,1,1,1],[0,9,10,11,12],[.d .str, .d (.int .i64), .d (.int .i64), .d (.int .i64), .d (.int .i64)], fun n x => zcl n x.1 x.2.1 x.2.2.1 x.2.2.2.1 x.2.2.2.2,[]⟩]) (entry := fun n x => zns n x.1 x.2) rfl rfl (by decide) (by kernel_rfl) ⟨⟨fun _ => by kernel_rfl, fun _ _ => by kernel_rfl⟩, ⟨fun _ => by kernel_rfl, fun _ _ => by kernel_rfl⟩, trivial⟩ (fun _ _ => by kernel_rfl) k
def zlh (k : Nat) (J3 : ByteArray → (List Int) → Int → Option ByteArray) (a0 : ByteArray) (v4 : Int) (v3 : (List Int)) : Option ByteArray :=
  (getS a0 v4).bind fun r4 =>
  (appM 1 v3 ([r4])).bind fun r5 =>
  (J3 a0 r5 (w64 (v4 + 1)))
def zf2 (k : Nat) : Nat → ByteArray → (List Int) → Int → Option ByteArray
  | 0, _, _, _ => none
  | n + 1, a0, v3, v4 =>
  (bif decide (v4 < (a0.size : Int)) then
  ((getS a0 v4).bind fun r1 =>
  (bif decide (r1 = 38) then
  ((zqg k a0 v4).bind fun r2 =>
  (bif decide (0 < r2.2) then
  ((appM 1 v3 (bytesIn r2.1)).bind fun r3 =>
  ((zf2 k n) a0 r3 r2.2))
  else (zlh k (zf2 k n) a0 v4 v3)))
  else (zlh k (zf2 k n) a0 v4 v3)))
  else (some (bytesOf v3)))
def zog (k : Nat) (n : Nat) (a0 : ByteArray) : Option ByteArray :=
  ((zf2 k n) a0 ([]) 0)
def zjk (k : Nat) (a0 : ByteArray) : Option ByteArray := zog k k a0
def zi7 (k : Nat) : Con := ⟨[.d .str],[.d .str], fun x => zjk k x⟩
theorem znt (k : Nat) : ConOk Tryz.prog 55 (zi7 k) :=
  za1 (ps := [.d .str]) (rs := [.d .str]) (fn := Tryz.f55) (E := ⟨tOf tl, gOf [(96, zlg k)]⟩) ⟨za3 zac, za4 ⟨ztp k, trivial⟩, mixedOk⟩ (body := bodyOf Tryz.f55) (pl := []) (M := 400) (cuts := [⟨3,[0,0,5,4,0,1,1,1],[0,3,4],[.d .str, .o 5 (.int .u8), .d (.int .i64)], fun n x => zf2 k n x.1 x.2.1 x.2.2,[]⟩]) (entry := fun n x => zog k n x) rfl rfl (by decide) (by kernel_rfl) ⟨⟨fun _ => by kernel_rfl, fun _ _ => by kernel_rfl⟩, trivial⟩ (fun _ _ => by kernel_rfl) k
def zga (k : Nat) (J12 : (List Int) → Int → AttT → AttT → Int → Option (AttT × Int)) (J19 : (List Int) → Int → AttT → Int → AttT → Option (AttT × Int)) (a0 : (List Int)) (v6 : Int) (a1 : Int) (v4 : AttT) : Option (AttT × Int) :=
  (cutM a0 v6 a1).bind fun r6 =>
  (zeh k r6).bind fun r7 =>
  ((zr9 k a0 a1).bind fun r8 =>
  (bif decide ((a0.length : Int) ≤ r8) then
  (some ((r7,(bs []),()), r8))
  else (geti a0 r8).bind fun r9 =>
  (bif decide (r9 ≠ 61) then
  (some ((r7,(bs []),()), r8))
  else ((zr9 k a0 (w64 (r8 + 1))).bind fun r10 =>
  (bif decide (r10 < (a0.length : Int)) then
  (geti a0 r10).bind fun r11 =>
  bif decide (r11 = 34) then
  (J12 a0 r10 v4 (r7,(bs []),()) (w64 (r10 + 1)))
  else (geti a0 r10).bind fun r12 =>
  (bif decide (r12 = 39) then
  (J12 a0 r10 v4 (r7,(bs []),()) (w64 (r10 + 1)))
  else (J19 a0 r10 v4 r10 (r7,(bs []),())))
  else (J19 a0 r10 v4 r10 (r7,(bs []),())))))))
def zof (k : Nat) (a0 : (List Int)) (a1 : Int) (v9 : Int) (v7 : AttT) : Option (AttT × Int) :=
  (cutM a0 (w64 (a1 + 1)) v9).bind fun r15 =>
  (zjk k (textOf r15)).bind fun r16 =>
  (bif decide (v9 < (a0.length : Int)) then
  (some ((v7.1, r16,()),(w64 (v9 + 1))))
  else (some ((v7.1, r16,()), v9)))
def zkn (k : Nat) (a0 : (List Int)) (v6 : Int) (a1 : Int) (v7 : AttT) : Option (AttT × Int) :=
  (cutM a0 v6 a1).bind fun r21 =>
  (zjk k (textOf r21)).bind fun r22 =>
  (some ((v7.1, r22,()), a1))
mutual
def zrb (k : Nat) : Nat → (List Int) → Int → AttT → Int → Option (AttT × Int)
  | 0, _, _, _, _ => none
  | n + 1, a0, a1, v4, v6 =>
  bif decide (a1 < (a0.length : Int)) then
  (geti a0 a1).bind fun r1 =>
  (zbw r1).bind fun r2 =>
  bif (!r2) then
  (geti a0 a1).bind fun r3 =>
  bif decide (r3 ≠ 61) then
  (geti a0 a1).bind fun r4 =>
  bif decide (r4 ≠ 47) then
  (geti a0 a1).bind fun r5 =>
  (bif decide (r5 ≠ 62) then
  ((zrb k n) a0 (w64 (a1 + 1)) v4 v6)
  else (zga k (zf1 k n) (zf0 k n) a0 v6 a1 v4))
  else (zga k (zf1 k n) (zf0 k n) a0 v6 a1 v4)
  else (zga k (zf1 k n) (zf0 k n) a0 v6 a1 v4)
  else (zga k (zf1 k n) (zf0 k n) a0 v6 a1 v4)
  else (zga k (zf1 k n) (zf0 k n) a0 v6 a1 v4)
def zf1 (k : Nat) : Nat → (List Int) → Int → AttT → AttT → Int → Option (AttT × Int)
  | 0, _, _, _, _, _ => none
  | n + 1, a0, a1, v4, v7, v9 =>
  bif decide (v9 < (a0.length : Int)) then
  (geti a0 v9).bind fun r13 =>
  (geti a0 a1).bind fun r14 =>
  (bif decide (r13 ≠ r14) then
  ((zf1 k n) a0 a1 v4 v7 (w64 (v9 + 1)))
  else (zof k a0 a1 v9 v7))
  else (zof k a0 a1 v9 v7)
def zf0 (k : Nat) : Nat → (List Int) → Int → AttT → Int → AttT → Option (AttT × Int)
  | 0, _, _, _, _, _ => none
  | n + 1, a0, a1, v4, v6, v7 =>
  bif decide (a1 < (a0.length : Int)) then
  (geti a0 a1).bind fun r18 =>
  (zbw r18).bind fun r19 =>
  bif (!r19) then
  (geti a0 a1).bind fun r20 =>
  (bif decide (r20 ≠ 62) then
  ((zf0 k n) a0 (w64 (a1 + 1)) v4 v6 v7)
  else (zkn k a0 v6 a1 v7))
  else (zkn k a0 v6 a1 v7)
  else (zkn k a0 v6 a1 v7)
end
def zvo (k : Nat) (n : Nat) (a0 : (List Int)) (a1 : Int) : Option (AttT × Int) :=
  ((zrb k n) a0 (w64 (a1 + 1)) ((bs []),(bs []),()) a1)
def yav (k : Nat) (a0 : (List Int)) (a1 : Int) : Option (AttT × Int) := zvo k k a0 a1
def zsi (k : Nat) : Con := ⟨[.d (.sl (.int .i32)), .d (.int .i64)],[.d cAttT, .d (.int .i64)], fun x => yav k x.1 x.2⟩
theorem yau (k : Nat) : ConOk Tryz.prog 98 (zsi k) :=
  za1 (ps := [.d (.sl (.int .i32)), .d (.int .i64)]) (rs := [.d cAttT, .d (.int .i64)]) (fn := Tryz.f98) (E := ⟨tOf tl, gOf [(45, zc1),(55, zi7 k),(97, zda k),(127, zoc k)]⟩) ⟨za3 zac, za4 ⟨zd3, znt k, zfj k, zwt k, trivial⟩, mixedOk⟩ (body := bodyOf Tryz.f98) (pl := [(12,[(0,0),(1,0),(2,0),(3,0),(4,0),(5,0),(6,0),(7,0),(8,0),(9,0),(10,0),(11,0),(12,0),(13,0),(14,0)],[])]) (M := 400) (cuts := [⟨3,[0,0,5,4,0,1,1,1],[0,1,4,6],[.d (.sl (.int .i32)), .d (.int .i64), .p [.d cAttT], .d (.int .i64)], fun n x => zrb k n x.1 x.2.1 x.2.2.1 x.2.2.2,[]⟩, ⟨12,[0,0,5,4,0,1,2,1,0,1,1,1,1,1,1,1,1],[0,1,4,7,9],[.d (.sl (.int .i32)), .d (.int .i64), .p [.d cAttT], .p [.d cAttT], .d (.int .i64)], fun n x => zf1 k n x.1 x.2.1 x.2.2.1 x.2.2.2.1 x.2.2.2.2,[]⟩, ⟨19,[0,0,5,4,0,1,1,1,1,1,1,1,1,1,1],[0,1,4,6,7],[.d (.sl (.int .i32)), .d (.int .i64), .p [.d cAttT], .d (.int .i64), .p [.d cAttT]], fun n x => zf0 k n x.1 x.2.1 x.2.2.1 x.2.2.2.1 x.2.2.2.2,[]⟩]) (entry := fun n x => zvo k n x.1 x.2) rfl rfl (by decide) (by kernel_rfl) ⟨⟨fun _ => by kernel_rfl, fun _ _ => by kernel_rfl⟩, ⟨fun _ => by kernel_rfl, fun _ _ => by kernel_rfl⟩, ⟨fun _ => by kernel_rfl, fun _ _ => by kernel_rfl⟩, trivial⟩ (fun _ _ => by kernel_rfl) k
def zjj (k : Nat) (J6 : (List Int) → Int → (Int × ByteArray × ByteArray × (List AttT) × Bool) → (Int × ByteArray × ByteArray × (List AttT) × Bool) → Bool → Option (TokT × Int × Bool)) (a0 : (List Int)) (v7 : Int) (a1 : Int) (v4 : (Int × ByteArray × ByteArray × (List AttT) × Bool)) : Option (TokT × Int × Bool) :=
  (cutM a0 v7 a1).bind fun r5 =>
  (zeh k r5).bind fun r6 =>
  (J6 a0 a1 (v4.1, v4.2.1, v4.2.2.1, v4.2.2.2.1, v4.2.2.2.2) (0, r6,(bs []),[], false) false)
def zsf (k : Nat) (J6 : (List Int) → Int → (Int × ByteArray × ByteArray × (List AttT) × Bool) → (Int × ByteArray × ByteArray × (List AttT) × Bool) → Bool → Option (TokT × Int × Bool)) (a0 : (List Int)) (a1 : Int) (v4 : (Int × ByteArray × ByteArray × (List AttT) × Bool)) (v8 : (Int × ByteArray × ByteArray × (List AttT) × Bool)) : Option (TokT × Int × Bool) :=
  (geti a0 a1).bind fun r11 =>
  (J6 a0 (w64 (a1 + 1)) (v4.1, v4.2.1, v4.2.2.1, v4.2.2.2.1, v4.2.2.2.2) (v8.1, v8.2.1, v8.2.2.1, v8.2.2.2.1, v8.2.2.2.2) (decide (r11 = 47)))
mutual
def zto (k : Nat) : Nat → (List Int) → Int → (Int × ByteArray × ByteArray × (List AttT) × Bool) → Int → Option (TokT × Int × Bool)
  | 0, _, _, _, _ => none
  | n + 1, a0, a1, v4, v7 =>
  bif decide (a1 < (a0.length : Int)) then
  (geti a0 a1).bind fun r1 =>
  (zbw r1).bind fun r2 =>
  bif (!r2) then
  (geti a0 a1).bind fun r3 =>
  bif decide (r3 ≠ 47) then
  (geti a0 a1).bind fun r4 =>
  (bif decide (r4 ≠ 62) then
  ((zto k n) a0 (w64 (a1 + 1)) (v4.1, v4.2.1, v4.2.2.1, v4.2.2.2.1, v4.2.2.2.2) v7)
  else (zjj k (zha k n) a0 v7 a1 v4))
  else (zjj k (zha k n) a0 v7 a1 v4)
  else (zjj k (zha k n) a0 v7 a1 v4)
  else (zjj k (zha k n) a0 v7 a1 v4)
def zha (k : Nat) : Nat → (List Int) → Int → (Int × ByteArray × ByteArray × (List AttT) × Bool) → (Int × ByteArray × ByteArray × (List AttT) × Bool) → Bool → Option (TokT × Int × Bool)
  | 0, _, _, _, _, _ => none
  | n + 1, a0, a1, v4, v8, v9 =>
  (bif decide (a1 < (a0.length : Int)) then
  ((geti a0 a1).bind fun r7 =>
  (bif decide (r7 = 62) then
  (some ((v8.1, v8.2.1, v8.2.2.1, v8.2.2.2.1, v9,()),(w64 (a1 + 1)), true))
  else ((geti a0 a1).bind fun r8 =>
  (zbw r8).bind fun r9 =>
  bif r9 then
  (zsf k (zha k n) a0 a1 v4 v8)
  else (geti a0 a1).bind fun r10 =>
  (bif decide (r10 = 47) then
  (zsf k (zha k n) a0 a1 v4 v8)
  else ((yav k a0 a1).bind fun r12 =>
  ((ydc k v8.2.2.2.1 r12.1).bind fun r13 =>
  (zha k n) a0 r12.2 (v4.1, v4.2.1, v4.2.2.1, v4.2.2.2.1, v4.2.2.2.2) (v8.1, v8.2.1, v8.2.2.1, r13, v8.2.2.2.2) false))))))
  else (some ((0,(bs []),(bs []),[], false,()), a1, false)))
end
def zy1 (k : Nat) (n : Nat) (a0 : (List Int)) (a1 : Int) : Option (TokT × Int × Bool) :=
  ((zto k n) a0 a1 (0,(bs []),(bs []),[], false) a1)
def zyy (k : Nat) (a0 : (List Int)) (a1 : Int) : Option (TokT × Int × Bool) := zy1 k k a0 a1
def zuk (k : Nat) : Con := ⟨[.d (.sl (.int .i32)), .d (.int .i64)],[.d cTokT, .d (.int .i64), .d .bool], fun x => zyy k x.1 x.2⟩
theorem yce (k : Nat) : ConOk Tryz.prog 57 (zuk k) :=
  za1 (ps := [.d (.sl (.int .i32)), .d (.int .i64)]) (rs := [.d cTokT, .d (.int .i64), .d .bool]) (fn := Tryz.f57) (E := ⟨tOf tl, gOf [(45, zc1),(97, zda k),(98, zsi k),(99, zum k)]⟩) ⟨za3 zac, za4 ⟨zd3, zfj k, yau k, ycg k, trivial⟩, mixedOk⟩ (body := bodyOf Tryz.f57) (pl := []) (M := 400) (cuts := [⟨2,[0,0,5,4,0,1,1],[0,1,4,7],[.d (.sl (.int .i32)), .d (.int .i64), .p [.d (.int .i64), .d .str, .d .str, .o 85 cAttT, .d .bool], .d (.int .i64)], fun n x => zto k n x.1 x.2.1 x.2.2.1 x.2.2.2,[]⟩, ⟨6,[0,0,5,4,0,1,1,1,1,1],[0,1,4,8,9],[.d (.sl (.int .i32)), .d (.int .i64), .p [.d (.int .i64), .d .str, .d .str, .o 85 cAttT, .d .bool], .p [.d (.int .i64), .d .str, .d .str, .o 85 cAttT, .d .bool], .d .bool], fun n x => zha k n x.1 x.2.1 x.2.2.1 x.2.2.2.1 x.2.2.2.2,[]⟩]) (entry := fun n x => zy1 k n x.1 x.2) rfl rfl (by decide) (by kernel_rfl) ⟨⟨fun _ => by kernel_rfl, fun _ _ => by kernel_rfl⟩, ⟨fun _ => by kernel_rfl, fun _ _ => by kernel_rfl⟩, trivial⟩ (fun _ _ => by kernel_rfl) k
def zjx (k : Nat) : Nat → (List Int) → Int → ByteArray → Option Int
  | 0, _, _, _ => none
  | n + 1, a0, a1, a2 =>
  (bif decide (a1 < (a0.length : Int)) then
  ((zyz k a0 a1 (bs [60,47])).bind fun r1 =>
  bif r1 then
  bif decide ((w64 ((w64 (a1 + 2)) + (a2.size : Int))) ≤ (a0.length : Int)) then
  (cutM a0 (w64 (a1 + 2)) (w64 ((w64 (a1 + 2)) + (a2.size : Int)))).bind fun r2 =>
  (zeh k r2).bind fun r3 =>
  bif decide (r3 = a2) then
  bif decide ((w64 ((w64 (a1 + 2)) + (a2.size : Int))) = (a0.length : Int)) then
  (some a1)
  else (geti a0 (w64 ((w64 (a1 + 2)) + (a2.size : Int)))).bind fun r4 =>
  (zbw r4).bind fun r5 =>
  bif r5 then
  (some a1)
  else (geti a0 (w64 ((w64 (a1 + 2)) + (a2.size : Int)))).bind fun r6 =>
  bif decide (r6 = 47) then
  (some a1)
  else (geti a0 (w64 ((w64 (a1 + 2)) + (a2.size : Int)))).bind fun r7 =>
  (bif decide (r7 = 62) then
  (some a1)
  else ((zjx k n) a0 (w64 (a1 + 1)) a2))
  else ((zjx k n) a0 (w64 (a1 + 1)) a2)
  else ((zjx k n) a0 (w64 (a1 + 1)) a2)
  else ((zjx k n) a0 (w64 (a1 + 1)) a2))
  else (some a1))
def zy2 (k : Nat) (n : Nat) (a0 : (List Int)) (a1 : Int) (a2 : ByteArray) : Option Int :=
  ((zjx k n) a0 a1 a2)
def ydb (k : Nat) (a0 : (List Int)) (a1 : Int) (a2 : ByteArray) : Option Int := zy2 k k a0 a1 a2
def zul (k : Nat) : Con := ⟨[.d (.sl (.int .i32)), .d (.int .i64), .d .str],[.d (.int .i64)], fun x => ydb k x.1 x.2.1 x.2.2⟩
theorem ycf (k : Nat) : ConOk Tryz.prog 58 (zul k) :=
  za1 (ps := [.d (.sl (.int .i32)), .d (.int .i64), .d .str]) (rs := [.d (.int .i64)]) (fn := Tryz.f58) (E := ⟨tOf tl, gOf [(45, zc1),(59, zn0 k),(97, zda k)]⟩) ⟨za3 zac, za4 ⟨zd3, ztq k, zfj k, trivial⟩, mixedOk⟩ (body := bodyOf Tryz.f58) (pl := []) (M := 400) (cuts := [⟨1,[0,0,5,4,0,1],[0,1,2],[.d (.sl (.int .i32)), .d (.int .i64), .d .str], fun n x => zjx k n x.1 x.2.1 x.2.2,[]⟩]) (entry := fun n x => zy2 k n x.1 x.2.1 x.2.2) rfl rfl (by decide) (by kernel_rfl) ⟨⟨fun _ => by kernel_rfl, fun _ _ => by kernel_rfl⟩, trivial⟩ (fun _ _ => by kernel_rfl) k
def znv (k : Nat) (J3 : (List Int) → (List TokT) → Int → Option (List TokT)) (a0 : (List Int)) (r4 : (TokT × Int × Bool)) (r5 : (List TokT)) : Option (List TokT) :=
  (ydb k a0 r4.2.1 r4.1.2.1).bind fun r6 =>
  (bif decide (r4.2.1 < r6) then
  ((cutM a0 r4.2.1 r6).bind fun r7 =>
  (appM 72 r5 ([(1,(bs []),(textOf r7),[], false,())])).bind fun r8 =>
  (J3 a0 r8 r6))
  else (J3 a0 r5 r6))
def zj7 (k : Nat) (J3 : (List Int) → (List TokT) → Int → Option (List TokT)) (a0 : (List Int)) (v4 : Int) (v3 : (List TokT)) : Option (List TokT) :=
  (zyz k a0 v4 (bs [60,33,45,45])).bind fun r15 =>
  (bif r15 then
  ((zra k a0 (w64 (v4 + 4)) (bs [45,45,62])).bind fun r16 =>
  J3 a0 v3 r16)
  else ((zra k a0 v4 (bs [62])).bind fun r17 =>
  J3 a0 v3 r17))
def znu (k : Nat) (J3 : (List Int) → (List TokT) → Int → Option (List TokT)) (a0 : (List Int)) (v5 : Int) (v4 : Int) (v3 : (List TokT)) : Option (List TokT) :=
  (cutM a0 v5 v4).bind fun r19 =>
  (zjk k (textOf r19)).bind fun r20 =>
  (appM 72 v3 ([(1,(bs []), r20,[], false,())])).bind fun r21 =>
  J3 a0 r21 v4
mutual
def zbe (k : Nat) : Nat → (List Int) → (List TokT) → Int → Option (List TokT)
  | 0, _, _, _ => none
  | n + 1, a0, v3, v4 =>
  (bif decide (v4 < (a0.length : Int)) then
  ((zn5 a0 v4).bind fun r1 =>
  (bif (!r1) then
  ((zn6 k n) a0 v3 v4 v4)
  else ((geti a0 (w64 (v4 + 1))).bind fun r2 =>
  (zkm r2).bind fun r3 =>
  (bif r3 then
  ((zyy k a0 (w64 (v4 + 1))).bind fun r4 =>
  (bif (!r4.2.2) then
  (zbe k n) a0 v3 r4.2.1
  else ((appM 72 v3 ([(2, r4.1.2.1, r4.1.2.2.1, r4.1.2.2.2.1, r4.1.2.2.2.2.1,())])).bind fun r5 =>
  (bif decide (r4.1.2.1 = (bs [115,116,121,108,101])) then
  (znv k (zbe k n) a0 r4 r5)
  else (bif decide (r4.1.2.1 = (bs [115,99,114,105,112,116])) then
  (znv k (zbe k n) a0 r4 r5)
  else (zbe k n) a0 r5 r4.2.1)))))
  else ((geti a0 (w64 (v4 + 1))).bind fun r10 =>
  bif decide (r10 = 47) then
  bif decide ((w64 (v4 + 2)) < (a0.length : Int)) then
  (geti a0 (w64 (v4 + 2))).bind fun r11 =>
  (zkm r11).bind fun r12 =>
  (bif r12 then
  ((zyy k a0 (w64 (v4 + 2))).bind fun r13 =>
  (bif r13.2.2 then
  ((appM 72 v3 ([(3, r13.1.2.1,(bs []),[], false,())])).bind fun r14 =>
  (zbe k n) a0 r14 r13.2.1)
  else (zbe k n) a0 v3 r13.2.1))
  else (zj7 k (zbe k n) a0 v4 v3))
  else (zj7 k (zbe k n) a0 v4 v3)
  else (zj7 k (zbe k n) a0 v4 v3))))))
  else (some v3))
def zn6 (k : Nat) : Nat → (List Int) → (List TokT) → Int → Int → Option (List TokT)
  | 0, _, _, _, _ => none
  | n + 1, a0, v3, v4, v5 =>
  bif decide (v4 < (a0.length : Int)) then
  (zn5 a0 v4).bind fun r18 =>
  (bif (!r18) then
  ((zn6 k n) a0 v3 (w64 (v4 + 1)) v5)
  else (znu k (zbe k n) a0 v5 v4 v3))
  else (znu k (zbe k n) a0 v5 v4 v3)
end
def zsj (k : Nat) (n : Nat) (a0 : (List Int)) : Option (List TokT) :=
  ((zbe k n) a0 ([]) 0)
def zvp (k : Nat) (a0 : (List Int)) : Option (List TokT) := zsj k k a0
def zoh (k : Nat) : Con := ⟨[.d (.sl (.int .i32))],[.d (.sl cTokT)], fun x => zvp k x⟩
theorem zww (k : Nat) : ConOk Tryz.prog 30 (zoh k) :=
  za1 (ps := [.d (.sl (.int .i32))]) (rs := [.d (.sl cTokT)]) (fn := Tryz.f30) (E := ⟨tOf tl, gOf [(54, zoe),(55, zi7 k),(56, zkl),(57, zuk k),(58, zul k),(59, zn0 k),(60, zod k)]⟩) ⟨za3 zac, za4 ⟨zwv, znt k, zqh, yce k, ycf k, ztq k, zwu k, trivial⟩, mixedOk⟩ (body := bodyOf Tryz.f30) (pl := []) (M := 400) (cuts := [⟨3,[0,0,5,4,0,1,1,1],[0,3,4],[.d (.sl (.int .i32)), .o 102 cTokT, .d (.int .i64)], fun n x => zbe k n x.1 x.2.1 x.2.2,[]⟩, ⟨6,[0,0,5,4,0,1,2,1,0,4,1,5,4,0,1,1,1],[0,3,4,5],[.d (.sl (.int .i32)), .o 102 cTokT, .d (.int .i64), .d (.int .i64)], fun n x => zn6 k n x.1 x.2.1 x.2.2.1 x.2.2.2,[]⟩]) (entry := fun n x => zsj k n x) rfl rfl (by decide) (by kernel_rfl) ⟨⟨fun _ => by kernel_rfl, fun _ _ => by kernel_rfl⟩, ⟨fun _ => by kernel_rfl, fun _ _ => by kernel_rfl⟩, trivial⟩ (fun _ _ => by kernel_rfl) k
def ztl (k : Nat) (a0 : ByteArray) : Option Bool :=
  ((zv3 k a0 ([(bs [100,105,118]),(bs [112]),(bs [117,108]),(bs [108,105]),(bs [104,49]),(bs [116,97,98,108,101])])).bind fun r1 =>
  some r1)
def zqb (k : Nat) : Con := ⟨[.d .str],[.d .bool], fun x => ztl k x⟩
theorem zyt (k : Nat) : ConOk Tryz.prog 88 (zqb k) :=
  za1 (ps := [.d .str]) (rs := [.d .bool]) (fn := Tryz.f88) (E := ⟨tOf tl, gOf [(125, zl9 k)]⟩) ⟨za3 zac, za4 ⟨zr8 k, trivial⟩, mixedOk⟩ (body := bodyOf Tryz.f88) (pl := []) (M := 400) (cuts := []) (entry := fun n x => ztl k x) rfl rfl (by decide) (by kernel_rfl) trivial (fun _ _ => by kernel_rfl) k
def zs9 (k : Nat) (a0 : ByteArray) : Option Bool :=
  ((zv3 k a0 ([(bs [98,114]),(bs [104,114]),(bs [105,109,103]),(bs [105,110,112,117,116]),(bs [108,105,110,107]),(bs [109,101,116,97])])).bind fun r1 =>
  some r1)
def zmw (k : Nat) : Con := ⟨[.d .str],[.d .bool], fun x => zs9 k x⟩
theorem zuh (k : Nat) : ConOk Tryz.prog 93 (zmw k) :=
  za1 (ps := [.d .str]) (rs := [.d .bool]) (fn := Tryz.f93) (E := ⟨tOf tl, gOf [(125, zl9 k)]⟩) ⟨za3 zac, za4 ⟨zr8 k, trivial⟩, mixedOk⟩ (body := bodyOf Tryz.f93) (pl := []) (M := 400) (cuts := []) (entry := fun n x => zs9 k x) rfl rfl (by decide) (by kernel_rfl) trivial (fun _ _ => by kernel_rfl) k
def zsb (k : Nat) (a0 : ByteArray) : Option Bool :=
  ((zv3 k a0 ([(bs [97]),(bs [98]),(bs [101,109]),(bs [105]),(bs [117])])).bind fun r1 =>
  some r1)
def zsa (k : Nat) : Con := ⟨[.d .str],[.d .bool], fun x => zsb k x⟩
theorem yar (k : Nat) : ConOk Tryz.prog 95 (zsa k) :=
  za1 (ps := [.d .str]) (rs := [.d .bool]) (fn := Tryz.f95) (E := ⟨tOf tl, gOf [(125, zl9 k)]⟩) ⟨za3 zac, za4 ⟨zr8 k, trivial⟩, mixedOk⟩ (body := bodyOf Tryz.f95) (pl := []) (M := 400) (cuts := []) (entry := fun n x => zsb k x) rfl rfl (by decide) (by kernel_rfl) trivial (fun _ _ => by kernel_rfl) k
def zho : Nat → GroT → ByteArray → Int → Int → Option Int
  | 0, _, _, _, _ => none
  | n + 1, a0, a1, a2, v7 =>
  (bif decide (a2 < v7) then
  ((geti a0.2.1 v7).bind fun r1 =>
  (geti a0.1 r1).bind fun r2 =>
  (bif decide (r2.1 = a1) then
  (some v7)
  else ((zho n) a0 a1 a2 (w64 (v7 - 1)))))
  else (some (-1)))
def zlc (n : Nat) (a0 : GroT) (a1 : ByteArray) (a2 : Int) : Option Int :=
  ((zho n) a0 a1 a2 (w64 ((a0.2.1.length : Int) - 1)))
def zed (k : Nat) (a0 : GroT) (a1 : ByteArray) (a2 : Int) : Option Int := zlc k a0 a1 a2
def zcd (k : Nat) : Con := ⟨[.q cGroT, .d .str, .d (.int .i64)],[.d (.int .i64)], fun x => zed k x.1 x.2.1 x.2.2⟩
theorem zdw (k : Nat) : ConOk Tryz.prog 94 (zcd k) :=
  za1 (ps := [.q cGroT, .d .str, .d (.int .i64)]) (rs := [.d (.int .i64)]) (fn := Tryz.f94) (E := ⟨tOf tl, gOf []⟩) ⟨za3 zac, za4 trivial, mixedOk⟩ (body := bodyOf Tryz.f94) (pl := [(4,[(0,0),(1,0),(2,0),(3,0),(4,0),(5,0),(6,0),(7,0),(8,0),(9,0),(10,0),(11,0),(12,0),(13,0),(14,0),(15,0)],[])]) (M := 400) (cuts := [⟨2,[0,0,5,4,1,0,1],[0,1,2,7],[.q cGroT, .d .str, .d (.int .i64), .d (.int .i64)], fun n x => zho n x.1 x.2.1 x.2.2.1 x.2.2.2,[]⟩]) (entry := fun n x => zlc n x.1 x.2.1 x.2.2) rfl rfl (by decide) (by kernel_rfl) ⟨⟨fun _ => by kernel_rfl, fun _ _ => by kernel_rfl⟩, trivial⟩ (fun _ _ => by kernel_rfl) k
def zdz (a0 : GroT) : Option ByteArray :=
  ((geti a0.2.1 (w64 ((a0.2.1.length : Int) - 1))).bind fun r1 =>
  (geti a0.1 r1).bind fun r2 =>
  some r2.1)
def zdy : Con := ⟨[.q cGroT],[.d .str], fun x => zdz x⟩
theorem zi0 : ConOk Tryz.prog 91 (zdy) :=
  za1 (ps := [.q cGroT]) (rs := [.d .str]) (fn := Tryz.f91) (E := ⟨tOf tl, gOf []⟩) ⟨za3 zac, za4 trivial, mixedOk⟩ (body := bodyOf Tryz.f91) (pl := [(1,[(0,0),(1,0),(2,0),(3,0),(4,0),(5,0),(6,0),(7,0),(8,0),(9,0),(10,0),(11,0),(12,0),(13,0),(14,0),(15,0),(16,0),(17,0),(18,0),(19,0)],[])]) (M := 400) (cuts := []) (entry := fun n x => zdz x) rfl rfl (by decide) (by kernel_rfl) trivial (fun _ _ => by kernel_rfl) 0
def zhq : Nat → GroT → ByteArray → ByteArray → Int → Option Int
  | 0, _, _, _, _ => none
  | n + 1, a0, a1, a2, v7 =>
  (bif decide (0 < v7) then
  ((geti a0.2.1 v7).bind fun r1 =>
  (geti a0.1 r1).bind fun r2 =>
  (bif decide (r2.1 = a1) then
  (some v7)
  else (bif decide (r2.1 = a2) then
  (some v7)
  else ((zhq n) a0 a1 a2 (w64 (v7 - 1))))))
  else (some 0))
def zld (n : Nat) (a0 : GroT) (a1 : ByteArray) (a2 : ByteArray) : Option Int :=
  ((zhq n) a0 a1 a2 (w64 ((a0.2.1.length : Int) - 1)))
def zcy (k : Nat) (a0 : GroT) (a1 : ByteArray) (a2 : ByteArray) : Option Int := zld k a0 a1 a2
def zg7 (k : Nat) : Con := ⟨[.q cGroT, .d .str, .d .str],[.d (.int .i64)], fun x => zcy k x.1 x.2.1 x.2.2⟩
theorem zke (k : Nat) : ConOk Tryz.prog 90 (zg7 k) :=
  za1 (ps := [.q cGroT, .d .str, .d .str]) (rs := [.d (.int .i64)]) (fn := Tryz.f90) (E := ⟨tOf tl, gOf []⟩) ⟨za3 zac, za4 trivial, mixedOk⟩ (body := bodyOf Tryz.f90) (pl := [(4,[(0,0),(1,0),(2,0),(3,0),(4,0),(5,0),(6,0),(7,0),(8,0),(9,0),(10,0),(11,0),(12,0),(13,0),(14,0)],[])]) (M := 400) (cuts := [⟨2,[0,0,5,4,1,0,1],[0,1,2,7],[.q cGroT, .d .str, .d .str, .d (.int .i64)], fun n x => zhq n x.1 x.2.1 x.2.2.1 x.2.2.2,[]⟩]) (entry := fun n x => zld n x.1 x.2.1 x.2.2) rfl rfl (by decide) (by kernel_rfl) ⟨⟨fun _ => by kernel_rfl, fun _ _ => by kernel_rfl⟩, trivial⟩ (fun _ _ => by kernel_rfl) k
def zh1 : Nat → GroT → Int → Int → Option Int
  | 0, _, _, _ => none
  | n + 1, a0, a1, v5 =>
  (bif decide (0 < a1) then
  ((geti a0.1 a1).bind fun r1 =>
  ((zh1 n) a0 r1.2.2.2.1 (w64 (v5 + 1))))
  else (some v5))
def zkf (n : Nat) (a0 : GroT) (a1 : Int) : Option Int :=
  ((zh1 n) a0 a1 1)
def zm8 (k : Nat) (a0 : GroT) (a1 : Int) : Option Int := zkf k a0 a1
def zix (k : Nat) : Con := ⟨[.q cGroT, .d (.int .i64)],[.d (.int .i64)], fun x => zm8 k x.1 x.2⟩
theorem zq2 (k : Nat) : ConOk Tryz.prog 51 (zix k) :=
  za1 (ps := [.q cGroT, .d (.int .i64)]) (rs := [.d (.int .i64)]) (fn := Tryz.f51) (E := ⟨tOf tl, gOf []⟩) ⟨za3 zac, za4 trivial, mixedOk⟩ (body := bodyOf Tryz.f51) (pl := []) (M := 400) (cuts := [⟨2,[0,0,5,4,0,1,1],[0,1,5],[.q cGroT, .d (.int .i64), .d (.int .i64)], fun n x => zh1 n x.1 x.2.1 x.2.2,[]⟩]) (entry := fun n x => zkf n x.1 x.2) rfl rfl (by decide) (by kernel_rfl) ⟨⟨fun _ => by kernel_rfl, fun _ _ => by kernel_rfl⟩, trivial⟩ (fun _ _ => by kernel_rfl) k
def zdd (k : Nat) (a0 : GroT) (a1 : ByteArray) : Option Bool :=
  ((zdz a0).bind fun r1 =>
  ((zed k a0 (bs [116,97,98,108,101]) 0).bind fun r2 =>
  (bif decide (0 < r2) then
  bif decide (r1 = (bs [116,97,98,108,101])) then
  bif decide (a1 ≠ (bs [116,114])) then
  bif decide (a1 ≠ (bs [116,100])) then
  some true
  else bif decide (r1 = (bs [116,114])) then
  some (decide (a1 ≠ (bs [116,100])))
  else some false
  else bif decide (r1 = (bs [116,114])) then
  some (decide (a1 ≠ (bs [116,100])))
  else some false
  else bif decide (r1 = (bs [116,114])) then
  some (decide (a1 ≠ (bs [116,100])))
  else some false
  else some false)))
def zdi (k : Nat) : Con := ⟨[.q cGroT, .d .str],[.d .bool], fun x => zdd k x.1 x.2⟩
theorem zhp (k : Nat) : ConOk Tryz.prog 85 (zdi k) :=
  za1 (ps := [.q cGroT, .d .str]) (rs := [.d .bool]) (fn := Tryz.f85) (E := ⟨tOf tl, gOf [(91, zdy),(94, zcd k)]⟩) ⟨za3 zac, za4 ⟨zi0, zdw k, trivial⟩, mixedOk⟩ (body := bodyOf Tryz.f85) (pl := []) (M := 400) (cuts := []) (entry := fun n x => zdd k x.1 x.2) rfl rfl (by decide) (by kernel_rfl) trivial (fun _ _ => by kernel_rfl) k
def zh2 (k : Nat) : Nat → GroT → Int → Int → Int → Option (Int × Int)
  | 0, _, _, _, _ => none
  | n + 1, a0, v4, v5, v6 =>
  (geti a0.1 v5).bind fun r4 =>
  (bif decide (v6 < (r4.2.2.2.2.1.length : Int)) then
  ((geti a0.1 v5).bind fun r5 =>
  (geti r5.2.2.2.2.1 v6).bind fun r6 =>
  (bif decide (r6 = v4) then
  (some (v5, v6))
  else ((zh2 k n) a0 v4 v5 (w64 (v6 + 1)))))
  else (some (v5,0)))
def zki (k : Nat) (n : Nat) (a0 : GroT) : Option (Int × Int) :=
  ((zed k a0 (bs [116,97,98,108,101]) 0).bind fun r1 =>
  (geti a0.2.1 r1).bind fun r2 =>
  ((geti a0.1 r2).bind fun r3 =>
  ((zh2 k n) a0 r2 r3.2.2.2.1 0)))
def zi4 (k : Nat) (a0 : GroT) : Option (Int × Int) := zki k k a0
def zex (k : Nat) : Con := ⟨[.q cGroT],[.d (.int .i64), .d (.int .i64)], fun x => zi4 k x⟩
theorem zjf (k : Nat) : ConOk Tryz.prog 86 (zex k) :=
  za1 (ps := [.q cGroT]) (rs := [.d (.int .i64), .d (.int .i64)]) (fn := Tryz.f86) (E := ⟨tOf tl, gOf [(94, zcd k)]⟩) ⟨za3 zac, za4 ⟨zdw k, trivial⟩, mixedOk⟩ (body := bodyOf Tryz.f86) (pl := [(1,[(0,0),(1,0),(2,0),(3,0),(4,0),(5,0),(6,0),(7,0),(8,0)],[])]) (M := 400) (cuts := [⟨4,[0,0,5,4,1,0,1,1,1],[0,4,5,6],[.q cGroT, .d (.int .i64), .d (.int .i64), .d (.int .i64)], fun n x => zh2 k n x.1 x.2.1 x.2.2.1 x.2.2.2,[]⟩]) (entry := fun n x => zki k n x) rfl rfl (by decide) (by kernel_rfl) ⟨⟨fun _ => by kernel_rfl, fun _ _ => by kernel_rfl⟩, trivial⟩ (fun _ _ => by kernel_rfl) k
def zca (k : Nat) (a0 : ((List NodG) × (List Int))) (a1 : ByteArray) (a2 : Int) : Option ((List NodG) × (List Int)) :=
  ((zed k (a0.1, a0.2,()) a1 a2).bind fun r1 =>
  (bif decide (0 < r1) then
  ((cutM a0.2 0 r1).bind fun r2 =>
  some (a0.1, r2))
  else some (a0.1, a0.2)))
def zg4 (k : Nat) : Con := ⟨[.p [.o 97 cNodG, .o 3 (.int .i64)], .d .str, .d (.int .i64)],[], fun x => zca k x.1 x.2.1 x.2.2⟩
theorem zka (k : Nat) : ConOk Tryz.prog 89 (zg4 k) :=
  za1 (ps := [.p [.o 97 cNodG, .o 3 (.int .i64)], .d .str, .d (.int .i64)]) (rs := []) (fn := Tryz.f89) (E := ⟨tOf tl, gOf [(94, zcd k)]⟩) ⟨za3 zac, za4 ⟨zdw k, trivial⟩, mixedOk⟩ (body := bodyOf Tryz.f89) (pl := []) (M := 400) (cuts := []) (entry := fun n x => zca k x.1 x.2.1 x.2.2) rfl rfl (by decide) (by kernel_rfl) trivial (fun _ _ => by kernel_rfl) k
def zew (a0 : ((List NodG) × (List Int))) (a1 : NodG) (a2 : Int) (a3 : Int) : Option (Int × ((List NodG) × (List Int))) :=
  ((appM 88 a0.1 ([(a1.1, a1.2.1, a1.2.2.1, a2, a1.2.2.2.2.1,())])).bind fun r1 =>
  ((geti r1 a2).bind fun r2 =>
  (geti r1 a2).bind fun r3 =>
  ((cutM r3.2.2.2.2.1 0 a3).bind fun r4 =>
  (cutM r3.2.2.2.2.1 a3 r3.2.2.2.2.1.length).bind fun r5 =>
  (appM 8 ([]) r4).bind fun r6 =>
  (appM 8 r6 ([(a0.1.length : Int)])).bind fun r7 =>
  (appM 8 r7 r5).bind fun r8 =>
  ((geti r1 a2).bind fun r9 =>
  (geti r1 a2).bind fun r10 =>
  (some ((a0.1.length : Int),((r1.set a2.toNat (r10.1, r10.2.1, r10.2.2.1, r10.2.2.2.1, r8,())), a0.2)))))))
def zh0 : Con := ⟨[.p [.o 97 cNodG, .o 3 (.int .i64)], .d cNodG, .d (.int .i64), .d (.int .i64)],[.d (.int .i64)], fun x => zew x.1 x.2.1 x.2.2.1 x.2.2.2⟩
theorem zla : ConOk Tryz.prog 87 (zh0) :=
  za1 (ps := [.p [.o 97 cNodG, .o 3 (.int .i64)], .d cNodG, .d (.int .i64), .d (.int .i64)]) (rs := [.d (.int .i64)]) (fn := Tryz.f87) (E := ⟨tOf tl, gOf []⟩) ⟨za3 zac, za4 trivial, mixedOk⟩ (body := bodyOf Tryz.f87) (pl := [(3,[(0,0),(1,0),(2,0),(3,0),(4,0),(5,0),(6,1),(7,1),(8,0),(9,0),(10,2)],[0,5]),(5,[(1,0),(2,0),(3,0),(5,0),(8,0),(9,0),(10,0),(1000,0),(1006,0),(1000,1),(4,1),(1006,1),(7,1),(11,1),(12,1)],[])]) (M := 400) (cuts := []) (entry := fun n x => zew x.1 x.2.1 x.2.2.1 x.2.2.2) rfl rfl (by decide) (by kernel_rfl) trivial (fun _ _ => by kernel_rfl) 0
def zhz (k : Nat) (y7 : Int) (y8 : Int) (a0 : ((List NodG) × (List Int))) (a1 : ByteArray) (a2 : (List AttT)) : Option ((List NodG) × (List Int)) :=
  (zew (a0.1, a0.2) (a1,(bs []), a2,0,[],()) y7 y8).bind fun r9 =>
  ((zs9 k a1).bind fun r10 =>
  (bif (!r10) then
  ((appM 8 r9.2.2 ([r9.1])).bind fun r11 =>
  some (r9.2.1, r11))
  else some (r9.2.1, r9.2.2)))
def zb1 (k : Nat) (a0 : ((List NodG) × (List Int))) (a1 : ByteArray) (a2 : (List AttT)) : Option ((List NodG) × (List Int)) :=
  ((geti a0.2 (w64 ((a0.2.length : Int) - 1))).bind fun r1 =>
  (geti a0.2 (w64 ((a0.2.length : Int) - 1))).bind fun r2 =>
  ((geti a0.1 r2).bind fun r3 =>
  (geti a0.1 r2).bind fun r4 =>
  ((zdd k (a0.1, a0.2,()) a1).bind fun r5 =>
  (bif r5 then
  ((zi4 k (a0.1, a0.2,())).bind fun r6 =>
  (zhz k r6.1 r6.2 a0 a1 a2))
  else (zhz k r2 (r4.2.2.2.2.1.length : Int) a0 a1 a2)))))
def zdx (k : Nat) : Con := ⟨[.p [.o 97 cNodG, .o 3 (.int .i64)], .d .str, .d (.sl cAttT)],[], fun x => zb1 k x.1 x.2.1 x.2.2⟩
theorem zhy (k : Nat) : ConOk Tryz.prog 92 (zdx k) :=
  za1 (ps := [.p [.o 97 cNodG, .o 3 (.int .i64)], .d .str, .d (.sl cAttT)]) (rs := []) (fn := Tryz.f92) (E := ⟨tOf tl, gOf [(85, zdi k),(86, zex k),(87, zh0),(93, zmw k)]⟩) ⟨za3 zac, za4 ⟨zhp k, zjf k, zla, zuh k, trivial⟩, mixedOk⟩ (body := bodyOf Tryz.f92) (pl := [(0,[(0,0),(1,0),(2,0),(3,0),(4,0),(5,0),(6,0),(7,0),(8,0),(9,0),(10,0),(11,0),(12,0)],[1000000])]) (M := 400) (cuts := []) (entry := fun n x => zb1 k x.1 x.2.1 x.2.2) rfl rfl (by decide) (by kernel_rfl) trivial (fun _ _ => by kernel_rfl) k
def zkd (k : Nat) (y4 : (List NodG)) (y5 : (List Int)) (a1 : ByteArray) (a2 : (List AttT)) : Option ((List NodG) × (List Int)) :=
  (bif decide (a1 = (bs [108,105])) then
  ((zcy k (y4, y5,()) (bs [117,108]) (bs [116,100])).bind fun r6 =>
  (zca k (y4, y5) (bs [108,105]) r6).bind fun r7 =>
  ((zb1 k (r7.1, r7.2) a1 a2).bind fun r16 =>
  some (r16.1, r16.2)))
  else (bif decide (a1 = (bs [116,114])) then
  ((zcy k (y4, y5,()) (bs [116,97,98,108,101]) (bs [116,97,98,108,101])).bind fun r8 =>
  (zca k (y4, y5) (bs [116,114]) r8).bind fun r9 =>
  ((zb1 k (r9.1, r9.2) a1 a2).bind fun r16 =>
  some (r16.1, r16.2)))
  else (bif decide (a1 = (bs [116,100])) then
  ((zcy k (y4, y5,()) (bs [116,114]) (bs [116,114])).bind fun r10 =>
  (zca k (y4, y5) (bs [116,100]) r10).bind fun r11 =>
  ((zdz (r11.1, r11.2,())).bind fun r12 =>
  (bif decide (r12 = (bs [116,97,98,108,101])) then
  ((zb1 k (r11.1, r11.2) (bs [116,114]) ([])).bind fun r13 =>
  ((zb1 k (r13.1, r13.2) a1 a2).bind fun r16 =>
  some (r16.1, r16.2)))
  else ((zb1 k (r11.1, r11.2) a1 a2).bind fun r16 =>
  some (r16.1, r16.2)))))
  else ((zb1 k (y4, y5) a1 a2).bind fun r16 =>
  some (r16.1, r16.2)))))
def zgn (k : Nat) (a0 : ((List NodG) × (List Int))) (a1 : ByteArray) (a2 : (List AttT)) : Option ((List NodG) × (List Int)) :=
  ((ztl k a1).bind fun r1 =>
  (bif r1 then
  ((zcy k (a0.1, a0.2,()) (bs [116,100]) (bs [116,100])).bind fun r2 =>
  (zca k (a0.1, a0.2) (bs [112]) r2).bind fun r3 =>
  (zkd k r3.1 r3.2 a1 a2))
  else (zkd k a0.1 a0.2 a1 a2)))
def zg6 (k : Nat) : Con := ⟨[.p [.o 97 cNodG, .o 3 (.int .i64)], .d .str, .d (.sl cAttT)],[], fun x => zgn k x.1 x.2.1 x.2.2⟩
theorem zkc (k : Nat) : ConOk Tryz.prog 49 (zg6 k) :=
  za1 (ps := [.p [.o 97 cNodG, .o 3 (.int .i64)], .d .str, .d (.sl cAttT)]) (rs := []) (fn := Tryz.f49) (E := ⟨tOf tl, gOf [(88, zqb k),(89, zg4 k),(90, zg7 k),(91, zdy),(92, zdx k)]⟩) ⟨za3 zac, za4 ⟨zyt k, zka k, zke k, zi0, zhy k, trivial⟩, mixedOk⟩ (body := bodyOf Tryz.f49) (pl := []) (M := 400) (cuts := []) (entry := fun n x => zgn k x.1 x.2.1 x.2.2) rfl rfl (by decide) (by kernel_rfl) trivial (fun _ _ => by kernel_rfl) k
def zje (k : Nat) (a1 : ByteArray) (a0 : ((List NodG) × (List Int))) (r2 : Int) (r4 : NodG) : Option ((List NodG) × (List Int)) :=
  (bif decide (a1 ≠ (bs [])) then
  ((zew (a0.1, a0.2) ((bs []), a1,[],0,[],()) r2 (r4.2.2.2.2.1.length : Int)).bind fun r19 =>
  some (r19.2.1, r19.2.2))
  else some (a0.1, a0.2))
def zi1 (k : Nat) (a1 : ByteArray) (a0 : ((List NodG) × (List Int))) (r21 : (Int × Int)) : Option ((List NodG) × (List Int)) :=
  (bif decide (a1 ≠ (bs [])) then
  ((zew (a0.1, a0.2) ((bs []), a1,[],0,[],()) r21.1 r21.2).bind fun r35 =>
  some (r35.2.1, r35.2.2))
  else some (a0.1, a0.2))
def ze0 (k : Nat) : Nat → ((List NodG) × (List Int)) → ByteArray → Bool → (ByteArray × Nat) → Option ((List NodG) × (List Int))
  | 0, _, _, _, _ => none
  | n + 1, a0, a1, v6, v34 =>
  bif decide (v34.2 < v34.1.size) then
  (bif v6 then
  (zbw ((Utf8.decode v34.1 v34.2).1 : Int)).bind fun r20 =>
  (ze0 k n) (a0.1, a0.2) a1 r20 (v34.1,(v34.2 + (Utf8.decode v34.1 v34.2).2))
  else (ze0 k n) (a0.1, a0.2) a1 false (v34.1,(v34.2 + (Utf8.decode v34.1 v34.2).2)))
  else (bif v6 then
  some (a0.1, a0.2)
  else ((zi4 k (a0.1, a0.2,())).bind fun r21 =>
  (bif decide (0 < r21.2) then
  (geti a0.1 r21.1).bind fun r22 =>
  (geti a0.1 r21.1).bind fun r23 =>
  (geti r23.2.2.2.2.1 (w64 (r21.2 - 1))).bind fun r24 =>
  (geti a0.1 r24).bind fun r25 =>
  (geti a0.1 r24).bind fun r26 =>
  (bif decide (r26.1 = (bs [])) then
  ((geti a0.1 r21.1).bind fun r27 =>
  (geti a0.1 r21.1).bind fun r28 =>
  (geti r28.2.2.2.2.1 (w64 (r21.2 - 1))).bind fun r29 =>
  ((geti a0.1 r29).bind fun r30 =>
  (geti a0.1 r29).bind fun r31 =>
  (addS r31.2.1 a1).bind fun r32 =>
  (geti a0.1 r29).bind fun r33 =>
  (geti a0.1 r29).bind fun r34 =>
  some ((a0.1.set r29.toNat (r34.1, r32, r34.2.2.1, r34.2.2.2.1, r34.2.2.2.2.1,())), a0.2)))
  else (zi1 k a1 a0 r21))
  else (zi1 k a1 a0 r21))))
def zkh (k : Nat) (n : Nat) (a0 : ((List NodG) × (List Int))) (a1 : ByteArray) : Option ((List NodG) × (List Int)) :=
  ((geti a0.2 (w64 ((a0.2.length : Int) - 1))).bind fun r1 =>
  (geti a0.2 (w64 ((a0.2.length : Int) - 1))).bind fun r2 =>
  ((geti a0.1 r2).bind fun r3 =>
  (geti a0.1 r2).bind fun r4 =>
  ((zdd k (a0.1, a0.2,()) (bs [])).bind fun r5 =>
  (bif r5 then
  ((ze0 k n) (a0.1, a0.2) a1 true (a1,0))
  else (bif decide (0 < (r4.2.2.2.2.1.length : Int)) then
  (geti a0.1 r2).bind fun r6 =>
  (geti a0.1 r2).bind fun r7 =>
  (geti r7.2.2.2.2.1 (w64 ((r4.2.2.2.2.1.length : Int) - 1))).bind fun r8 =>
  (geti a0.1 r8).bind fun r9 =>
  (geti a0.1 r8).bind fun r10 =>
  (bif decide (r10.1 = (bs [])) then
  ((geti a0.1 r2).bind fun r11 =>
  (geti a0.1 r2).bind fun r12 =>
  (geti r12.2.2.2.2.1 (w64 ((r4.2.2.2.2.1.length : Int) - 1))).bind fun r13 =>
  ((geti a0.1 r13).bind fun r14 =>
  (geti a0.1 r13).bind fun r15 =>
  (addS r15.2.1 a1).bind fun r16 =>
  (geti a0.1 r13).bind fun r17 =>
  (geti a0.1 r13).bind fun r18 =>
  some ((a0.1.set r13.toNat (r18.1, r16, r18.2.2.1, r18.2.2.2.1, r18.2.2.2.2.1,())), a0.2)))
  else (zje k a1 a0 r2 r4))
  else (zje k a1 a0 r2 r4))))))
def zma (k : Nat) (a0 : ((List NodG) × (List Int))) (a1 : ByteArray) : Option ((List NodG) × (List Int)) := zkh k k a0 a1
def ziz (k : Nat) : Con := ⟨[.p [.o 97 cNodG, .o 3 (.int .i64)], .d .str],[], fun x => zma k x.1 x.2⟩
theorem zq4 (k : Nat) : ConOk Tryz.prog 48 (ziz k) :=
  za1 (ps := [.p [.o 97 cNodG, .o 3 (.int .i64)], .d .str]) (rs := []) (fn := Tryz.f48) (E := ⟨tOf tl, gOf [(45, zc1),(85, zdi k),(86, zex k),(87, zh0)]⟩) ⟨za3 zac, za4 ⟨zd3, zhp k, zjf k, zla, trivial⟩, mixedOk⟩ (body := bodyOf Tryz.f48) (pl := [(0,[(0,0),(1,0),(2,0),(3,0),(4,0),(5,0),(6,0),(7,0),(8,0),(9,0),(10,0),(11,0),(12,0)],[1000000]),(10,[(0,0),(1,0),(2,0),(3,0),(4,0),(5,0),(6,0),(7,0),(8,0),(9,0),(10,0),(11,0),(12,0),(13,0),(14,0),(15,0),(16,0),(17,0),(18,0),(19,0),(20,0),(21,0),(22,0),(23,0)],[1000000]),(12,[(0,0),(1,0),(2,0),(3,0),(4,0),(5,0),(6,0),(7,0),(8,0),(9,0),(10,0),(11,0),(12,0),(13,0),(14,0),(15,0),(16,0),(17,2)],[1000000])]) (M := 400) (cuts := [⟨5,[0,5,4,1,0,1,2,1,0,1,1],[0,1,6,34],[.p [.o 97 cNodG, .o 3 (.int .i64)], .d .str, .d .bool, .g], fun n x => ze0 k n x.1 x.2.1 x.2.2.1 x.2.2.2,[]⟩]) (entry := fun n x => zkh k n x.1 x.2) rfl rfl (by decide) (by kernel_rfl) ⟨⟨fun _ => by kernel_rfl, fun _ _ => by kernel_rfl⟩, trivial⟩ (fun _ _ => by kernel_rfl) k
def zde (k : Nat) (J14 : ((List NodG) × (List Int)) → (List Int) → (List Int) → Int → Option ((List NodG) × (List Int))) (y3 : Int) (a0 : ((List NodG) × (List Int))) (a1 : ByteArray) : Option ((List NodG) × (List Int)) :=
  (zed k (a0.1, a0.2,()) a1 y3).bind fun r4 =>
  (bif decide (r4 < 0) then
  (bif decide (a1 = (bs [112])) then
  ((zgn k (a0.1, a0.2) (bs [112]) ([])).bind fun r5 =>
  ((zca k (r5.1, r5.2) (bs [112]) 0).bind fun r6 =>
  some (r6.1, r6.2)))
  else some (a0.1, a0.2))
  else ((cutM a0.2 (w64 (r4 + 1)) (a0.2.length : Int)).bind fun r7 =>
  (cutM a0.2 (w64 (r4 + 1)) (a0.2.length : Int)).bind fun r8 =>
  (appM 8 ([]) r8).bind fun r9 =>
  ((cutM a0.2 0 r4).bind fun r10 =>
  ((zsb k a1).bind fun r11 =>
  (bif (!r11) then
  some (a0.1, r10)
  else (J14 (a0.1, r10) r9 ([]) 0))))))
mutual
def zbf (k : Nat) : Nat → ((List NodG) × (List Int)) → (List Int) → (List Int) → Int → Option ((List NodG) × (List Int))
  | 0, _, _, _, _ => none
  | n + 1, a0, v6, v7, v8 =>
  (bif decide (v8 < (v6.length : Int)) then
  ((geti v6 v8).bind fun r12 =>
  (geti a0.1 r12).bind fun r13 =>
  (geti a0.1 r12).bind fun r14 =>
  (zsb k r14.1).bind fun r15 =>
  (bif r15 then
  ((geti v6 v8).bind fun r16 =>
  (appM 8 v7 ([r16])).bind fun r17 =>
  ((zbf k n) (a0.1, a0.2) v6 r17 (w64 (v8 + 1))))
  else ((zbf k n) (a0.1, a0.2) v6 v7 (w64 (v8 + 1)))))
  else (bif decide (8 < (v7.length : Int)) then
  ((cutM v7 (w64 ((v7.length : Int) - 8)) (v7.length : Int)).bind fun r19 =>
  ((cutM v7 (w64 ((v7.length : Int) - 8)) (v7.length : Int)).bind fun r20 =>
  (zdf k n) (a0.1, a0.2) r20 0))
  else ((zdf k n) (a0.1, a0.2) v7 0)))
def zdf (k : Nat) : Nat → ((List NodG) × (List Int)) → (List Int) → Int → Option ((List NodG) × (List Int))
  | 0, _, _, _ => none
  | n + 1, a0, v7, v9 =>
  (bif decide (v9 < (v7.length : Int)) then
  ((geti v7 v9).bind fun r21 =>
  (geti a0.1 r21).bind fun r22 =>
  (geti a0.1 r21).bind fun r23 =>
  ((zb1 k (a0.1, a0.2) r23.1 r23.2.2.1).bind fun r24 =>
  ((zdf k n) (r24.1, r24.2) v7 (w64 (v9 + 1)))))
  else some (a0.1, a0.2))
end
def zkg (k : Nat) (n : Nat) (a0 : ((List NodG) × (List Int))) (a1 : ByteArray) : Option ((List NodG) × (List Int)) :=
  ((zs9 k a1).bind fun r1 =>
  bif r1 then
  (some (a0.1, a0.2))
  else (bif decide (a1 = (bs [114,111,111,116])) then
  some (a0.1, a0.2)
  else (bif decide (a1 ≠ (bs [116,100])) then
  bif decide (a1 ≠ (bs [116,114])) then
  (bif decide (a1 ≠ (bs [116,97,98,108,101])) then
  ((zcy k (a0.1, a0.2,()) (bs [116,100]) (bs [116,100])).bind fun r2 =>
  (zde k (zbf k n) r2 a0 a1))
  else (zde k (zbf k n) 0 a0 a1))
  else (zde k (zbf k n) 0 a0 a1)
  else (zde k (zbf k n) 0 a0 a1))))
def zm9 (k : Nat) (a0 : ((List NodG) × (List Int))) (a1 : ByteArray) : Option ((List NodG) × (List Int)) := zkg k k a0 a1
def ziy (k : Nat) : Con := ⟨[.p [.o 97 cNodG, .o 3 (.int .i64)], .d .str],[], fun x => zm9 k x.1 x.2⟩
theorem zq3 (k : Nat) : ConOk Tryz.prog 50 (ziy k) :=
  za1 (ps := [.p [.o 97 cNodG, .o 3 (.int .i64)], .d .str]) (rs := []) (fn := Tryz.f50) (E := ⟨tOf tl, gOf [(49, zg6 k),(89, zg4 k),(90, zg7 k),(92, zdx k),(93, zmw k),(94, zcd k),(95, zsa k)]⟩) ⟨za3 zac, za4 ⟨zkc k, zka k, zke k, zhy k, zuh k, zdw k, yar k, trivial⟩, mixedOk⟩ (body := bodyOf Tryz.f50) (pl := [(16,[(0,0),(1,0),(2,0),(3,0),(4,0),(5,0),(6,0),(7,0),(8,0),(9,0),(10,0),(11,0)],[1000000]),(23,[(0,0),(1,0),(2,0),(3,0),(4,0),(5,0),(6,0),(7,0),(8,0),(9,0),(10,1),(11,1)],[1000000])]) (M := 400) (cuts := [⟨14,[0,0,5,4,1,0,1,1,1,1,1,1,1,1,1],[0,6,7,8],[.p [.o 97 cNodG, .o 3 (.int .i64)], .d (.sl (.int .i64)), .o 3 (.int .i64), .d (.int .i64)], fun n x => zbf k n x.1 x.2.1 x.2.2.1 x.2.2.2,[]⟩, ⟨21,[0,0,5,4,1,1,1,1,1,1,1,1,1,1,1,1],[0,7,9],[.p [.o 97 cNodG, .o 3 (.int .i64)], .d (.sl (.int .i64)), .d (.int .i64)], fun n x => zdf k n x.1 x.2.1 x.2.2,[]⟩]) (entry := fun n x => zkg k n x.1 x.2) rfl rfl (by decide) (by kernel_rfl) ⟨⟨fun _ => by kernel_rfl, fun _ _ => by kernel_rfl⟩, ⟨fun _ => by kernel_rfl, fun _ _ => by kernel_rfl⟩, trivial⟩ (fun _ _ => by kernel_rfl) k
def zhn (k : Nat) (S : GroT → Int → Int → Option ParT) : Nat → GroT → Int → (ByteArray × ByteArray × (List AttT) × (List ParT)) → NodG → (ByteArray × ByteArray × (List AttT) × (List ParT)) → Int → Option ParT
  | 0, _, _, _, _, _, _ => none
  | n + 1, a0, a2, v6, v7, v8, v9 =>
  bif decide (v9 < (v7.2.2.2.2.1.length : Int)) then
  (bif decide (0 < a2) then
  ((geti v7.2.2.2.2.1 v9).bind fun r2 =>
  (S a0 r2 (w64 (a2 - 1))).bind fun r3 =>
  (appM 80 v8.2.2.2 ([(Tr.mk r3.x r3.kids)])).bind fun r4 =>
  ((zhn k S n) a0 a2 (v6.1, v6.2.1, v6.2.2.1, v6.2.2.2) v7 (v8.1, v8.2.1, v8.2.2.1, r4) (w64 (v9 + 1))))
  else (some (Tr.mk (v8.1, v8.2.1, v8.2.2.1,()) v8.2.2.2)))
  else (some (Tr.mk (v8.1, v8.2.1, v8.2.2.1,()) v8.2.2.2))
def zlb (k : Nat) (S : GroT → Int → Int → Option ParT) (n : Nat) (a0 : GroT) (a1 : Int) (a2 : Int) : Option ParT :=
  ((geti a0.1 a1).bind fun r1 =>
  ((zhn k S n) a0 a2 ((bs []),(bs []),[],[]) r1 (r1.1, r1.2.1, r1.2.2.1,[]) 0))
def zec : Nat → GroT → Int → Int → Option ParT
  | 0, _, _, _ => none
  | k + 1, a0, a1, a2 => zlb k (fun a0 a1 a2 => zec k a0 a1 a2) k a0 a1 a2
def zg5 (k : Nat) : Con := ⟨[.b cGroT, .d (.int .i64), .d (.int .i64)],[.d cParT], fun x => zec k x.1 x.2.1 x.2.2⟩
theorem zkb : (k : Nat) → ConOk Tryz.prog 53 (zg5 k)
  | 0 => con0 ⟨Tryz.f53, rfl, rfl, by decide⟩
  | k + 1 => za1 (ps := [.b cGroT, .d (.int .i64), .d (.int .i64)]) (rs := [.d cParT]) (fn := Tryz.f53) (E := ⟨tOf tl, gOf [(53, zg5 k)]⟩) ⟨za3 zac, za4 ⟨zkb k, trivial⟩, mixedOk⟩ (body := bodyOf Tryz.f53) (pl := [(6,[(0,0),(1,0),(2,0),(3,0),(4,0),(5,0),(6,0),(7,0),(8,0),(9,0),(10,1),(11,1),(12,1),(13,0),(14,2)],[7,8])]) (M := 400) (cuts := [⟨4,[0,0,5,4,1,0,1,1,1],[0,2,6,7,8,9],[.b cGroT, .d (.int .i64), .p [.d .str, .d .str, .d (.sl cAttT), .o 109 cParT], .p [.d cNodG], .p [.d .str, .d .str, .d (.sl cAttT), .o 109 cParT], .d (.int .i64)], fun n x => zhn k (zec k) n x.1 x.2.1 x.2.2.1 x.2.2.2.1 x.2.2.2.2.1 x.2.2.2.2.2,[]⟩]) (entry := fun n x => zlb k (zec k) n x.1 x.2.1 x.2.2) rfl rfl (by decide) (by kernel_rfl) ⟨⟨fun _ => by kernel_rfl, fun _ _ => by kernel_rfl⟩, trivial⟩ (fun _ _ => by kernel_rfl) k
def zvm (k : Nat) (S : (List NodT) → ParT → Int → Int → Option (List NodT)) (J10 : (List NodT) → ParT → Int → Int → Int → Option (List NodT)) (y4 : (List NodT)) (a1 : ParT) (a0 : (List NodT)) : Option (List NodT) :=
  (bif decide (a1.x.1 = (bs [])) then
  (some y4)
  else (J10 y4 (Tr.mk a1.x a1.kids) (a0.length : Int) (-1) 0))
def zkj (k : Nat) (S : (List NodT) → ParT → Int → Int → Option (List NodT)) : Nat → (List NodT) → ParT → Int → Int → Int → Option (List NodT)
  | 0, _, _, _, _, _ => none
  | n + 1, a0, v5, v9, v11, v12 =>
  (bif decide (v12 < (v5.kids.length : Int)) then
  ((geti v5.kids v12).bind fun r5 =>
  (S a0 (Tr.mk r5.x r5.kids) v9 v11).bind fun r6 =>
  (bif decide (0 ≤ v11) then
  ((geti r6 v11).bind fun r7 =>
  (geti r6 v11).bind fun r8 =>
  (((zkj k S n) (r6.set v11.toNat (zm3 r8 (a0.length : Int))) (Tr.mk v5.x v5.kids) v9 (a0.length : Int) (w64 (v12 + 1)))))
  else ((geti r6 v9).bind fun r9 =>
  (geti r6 v9).bind fun r10 =>
  (((zkj k S n) (r6.set v9.toNat (znq r10 (a0.length : Int))) (Tr.mk v5.x v5.kids) v9 (a0.length : Int) (w64 (v12 + 1)))))))
  else ((geti a0 v9).bind fun r12 =>
  (geti a0 v9).bind fun r13 =>
  (some (a0.set v9.toNat (zjc r13 v11)))))
def zy0 (k : Nat) (S : (List NodT) → ParT → Int → Int → Option (List NodT)) (n : Nat) (a0 : (List NodT)) (a1 : ParT) (a2 : Int) (a3 : Int) : Option (List NodT) :=
  (bif decide (a1.x.1 ≠ (bs [])) then
  ((appM 32 ([]) a1.x.2.2.1).bind fun r1 =>
  ((appM 104 a0 ([(1, a1.x.1,(bs []), r1, a2,(-1),(-1), a3,(-1),())])).bind fun r3 =>
  (zvm k S (zkj k S n) r3 a1 a0)))
  else ((appM 104 a0 ([(2,(bs []), a1.x.2.1,[], a2,(-1),(-1), a3,(-1),())])).bind fun r2 =>
  (zvm k S (zkj k S n) r2 a1 a0)))
def zsc : Nat → (List NodT) → ParT → Int → Int → Option (List NodT)
  | 0, _, _, _, _ => none
  | k + 1, a0, a1, a2, a3 => zy0 k (fun a0 a1 a2 a3 => zsc k a0 a1 a2 a3) k a0 a1 a2 a3
def zob (k : Nat) : Con := ⟨[.o 57 cNodT, .d cParT, .d (.int .i64), .d (.int .i64)],[.o 57 cNodT], fun x => zsc k x.1 x.2.1 x.2.2.1 x.2.2.2⟩
theorem zvl : (k : Nat) → ConOk Tryz.prog 52 (zob k)
  | 0 => con0 ⟨Tryz.f52, rfl, rfl, by decide⟩
  | k + 1 => za1 (ps := [.o 57 cNodT, .d cParT, .d (.int .i64), .d (.int .i64)]) (rs := [.o 57 cNodT]) (fn := Tryz.f52) (E := ⟨tOf tl, gOf [(52, zob k)]⟩) ⟨za3 zac, za4 ⟨zvl k, trivial⟩, mixedOk⟩ (body := bodyOf Tryz.f52) (pl := [(4,[(0,0),(1,0),(3,0),(4,0),(6,0),(7,0),(2,1),(5,1),(8,1),(9,1)],[5])]) (M := 400) (cuts := [⟨10,[0,0,5,4,1,0,1,1,1,1,1,1,1],[0,5,9,11,12],[.o 57 cNodT, .p [.d cParT], .d (.int .i64), .d (.int .i64), .d (.int .i64)], fun n x => zkj k (zsc k) n x.1 x.2.1 x.2.2.1 x.2.2.2.1 x.2.2.2.2,[]⟩]) (entry := fun n x => zy0 k (zsc k) n x.1 x.2.1 x.2.2.1 x.2.2.2) rfl rfl (by decide) (by kernel_rfl) ⟨⟨fun _ => by kernel_rfl, fun _ _ => by kernel_rfl⟩, trivial⟩ (fun _ _ => by kernel_rfl) k
mutual
def zh8 (k : Nat) : Nat → (List TokT) → TreT → ((List NodG) × (List Int)) → Bool → Int → Option (TreT × Int)
  | 0, _, _, _, _, _ => none
  | n + 1, a0, v2, v4, v5, v6 =>
  (bif decide (v6 < (a0.length : Int)) then
  ((geti a0 v6).bind fun r1 =>
  (bif decide (r1.1 = 1) then
  ((geti a0 v6).bind fun r2 =>
  (zma k (v4.1, v4.2) r2.2.2.1).bind fun r3 =>
  ((zh8 k n) a0 v2 (r3.1, r3.2) v5 (w64 (v6 + 1))))
  else (bif decide (r1.1 = 2) then
  ((geti a0 v6).bind fun r4 =>
  (geti a0 v6).bind fun r5 =>
  (zgn k (v4.1, v4.2) r4.2.1 r5.2.2.2.1).bind fun r6 =>
  ((zh8 k n) a0 v2 (r6.1, r6.2) v5 (w64 (v6 + 1))))
  else (bif decide (r1.1 = 3) then
  ((geti a0 v6).bind fun r7 =>
  (zm9 k (v4.1, v4.2) r7.2.1).bind fun r8 =>
  ((zh8 k n) a0 v2 (r8.1, r8.2) v5 (w64 (v6 + 1))))
  else ((zh8 k n) a0 v2 (v4.1, v4.2) v5 (w64 (v6 + 1)))))))
  else ((zji k n) v2 (v4.1, v4.2) v5 0))
def zji (k : Nat) : Nat → TreT → ((List NodG) × (List Int)) → Bool → Int → Option (TreT × Int)
  | 0, _, _, _, _ => none
  | n + 1, v2, v4, v5, v7 =>
  (bif decide (v7 < (v4.1.length : Int)) then
  (bif v5 then
  ((zji k n) v2 (v4.1, v4.2) true (w64 (v7 + 1)))
  else (zm8 k (v4.1, v4.2,()) v7).bind fun r11 =>
  ((zji k n) v2 (v4.1, v4.2) (decide (256 < r11)) (w64 (v7 + 1))))
  else (bif decide (4096 < (v4.1.length : Int)) then
  (some (([],()),4))
  else (bif v5 then
  (some (([],()),5))
  else ((zec k (v4.1, v4.2,()) 0 256).bind fun r13 =>
  (zsc k ([]) (Tr.mk r13.x r13.kids) (-1) (-1)).bind fun r14 =>
  some ((r14,()),0)))))
end
def zui (k : Nat) (n : Nat) (a0 : (List TokT)) : Option (TreT × Int) :=
  ((zh8 k n) a0 ([],()) ([((bs [114,111,111,116]),(bs []),[],(-1),[],())],[0]) false 0)
def zxz (k : Nat) (a0 : (List TokT)) : Option (TreT × Int) := zui k k a0
def zqa (k : Nat) : Con := ⟨[.d (.sl cTokT)],[.d cTreT, .d (.int .i64)], fun x => zxz k x⟩
theorem zys (k : Nat) : ConOk Tryz.prog 29 (zqa k) :=
  za1 (ps := [.d (.sl cTokT)]) (rs := [.d cTreT, .d (.int .i64)]) (fn := Tryz.f29) (E := ⟨tOf tl, gOf [(48, ziz k),(49, zg6 k),(50, ziy k),(51, zix k),(52, zob k),(53, zg5 k)]⟩) ⟨za3 zac, za4 ⟨zq4 k, zkc k, zq3 k, zq2 k, zvl k, zkb k, trivial⟩, mixedOk⟩ (body := bodyOf Tryz.f29) (pl := [(10,[(0,0),(1,0),(2,0),(3,0),(4,0),(5,0),(6,0),(7,0),(8,0),(9,0),(10,0),(11,1)],[])]) (M := 400) (cuts := [⟨4,[0,0,5,4,1,0,1,1,1],[0,2,4,5,6],[.d (.sl cTokT), .p [.d cTreT], .p [.o 97 cNodG, .o 3 (.int .i64)], .d .bool, .d (.int .i64)], fun n x => zh8 k n x.1 x.2.1 x.2.2.1 x.2.2.2.1 x.2.2.2.2,[]⟩, ⟨14,[0,0,5,4,1,0,1,1,1,1],[2,4,5,7],[.p [.d cTreT], .p [.o 97 cNodG, .o 3 (.int .i64)], .d .bool, .d (.int .i64)], fun n x => zji k n x.1 x.2.1 x.2.2.1 x.2.2.2,[]⟩]) (entry := fun n x => zui k n x) rfl rfl (by decide) (by kernel_rfl) ⟨⟨fun _ => by kernel_rfl, fun _ _ => by kernel_rfl⟩, ⟨fun _ => by kernel_rfl, fun _ _ => by kernel_rfl⟩, trivial⟩ (fun _ _ => by kernel_rfl) k
mutual
def zey : Nat → (List AttT) → Int → Option Bool
  | 0, _, _ => none
  | n + 1, a0, v3 =>
  (bif decide (v3 < (a0.length : Int)) then
  ((geti a0 v3).bind fun r1 =>
  (bif decide (r1.1 = (bs [])) then
  (some false)
  else ((zh9 n) a0 v3 0)))
  else (some (decide ((a0.length : Int) ≤ 64))))
def zh9 : Nat → (List AttT) → Int → Int → Option Bool
  | 0, _, _, _ => none
  | n + 1, a0, v3, v4 =>
  (bif decide (v4 < v3) then
  ((geti a0 v4).bind fun r2 =>
  (geti a0 v3).bind fun r3 =>
  (bif decide (r2.1 = r3.1) then
  (some false)
  else ((zh9 n) a0 v3 (w64 (v4 + 1)))))
  else ((zey n) a0 (w64 (v3 + 1))))
end
def zoa (n : Nat) (a0 : (List AttT)) : Option Bool :=
  ((zey n) a0 0)
def ztm (k : Nat) (a0 : (List AttT)) : Option Bool := zoa k a0
def zqd (k : Nat) : Con := ⟨[.d (.sl cAttT)],[.d .bool], fun x => ztm k x⟩
theorem zyv (k : Nat) : ConOk Tryz.prog 104 (zqd k) :=
  za1 (ps := [.d (.sl cAttT)]) (rs := [.d .bool]) (fn := Tryz.f104) (E := ⟨tOf tl, gOf []⟩) ⟨za3 zac, za4 trivial, mixedOk⟩ (body := bodyOf Tryz.f104) (pl := [(9,[(0,0),(1,0),(2,0),(3,0),(4,0),(5,0),(6,0),(7,0),(8,0),(9,0),(10,0)],[])]) (M := 400) (cuts := [⟨2,[0,0,5,4,1,0,1],[0,3],[.d (.sl cAttT), .d (.int .i64)], fun n x => zey n x.1 x.2,[]⟩, ⟨7,[0,0,5,4,1,1,4,0,1,5,4,1,0,1],[0,3,4],[.d (.sl cAttT), .d (.int .i64), .d (.int .i64)], fun n x => zh9 n x.1 x.2.1 x.2.2,[]⟩]) (entry := fun n x => zoa n x) rfl rfl (by decide) (by kernel_rfl) ⟨⟨fun _ => by kernel_rfl, fun _ _ => by kernel_rfl⟩, ⟨fun _ => by kernel_rfl, fun _ _ => by kernel_rfl⟩, trivial⟩ (fun _ _ => by kernel_rfl) k
def zmb (k : Nat) (a0 : NodT) : Option Bool :=
  (bif decide (a0.1 = 1) then
  (bif decide (a0.2.1 ≠ (bs [])) then
  bif decide (a0.2.2.1 = (bs [])) then
  (ztm k a0.2.2.2.1).bind fun r1 =>
  some r1
  else some false
  else some false)
  else (bif decide (a0.1 = 2) then
  bif decide (a0.2.1 = (bs [])) then
  bif decide (a0.2.2.1 ≠ (bs [])) then
  bif decide ((a0.2.2.2.1.length : Int) = 0) then
  bif decide (a0.2.2.2.2.2.1 = (-1)) then
  some (decide (a0.2.2.2.2.2.2.1 = (-1)))
  else some false
  else some false
  else some false
  else some false
  else some false))
def zqc (k : Nat) : Con := ⟨[.d cNodT],[.d .bool], fun x => zmb k x⟩
theorem zyu (k : Nat) : ConOk Tryz.prog 68 (zqc k) :=
  za1 (ps := [.d cNodT]) (rs := [.d .bool]) (fn := Tryz.f68) (E := ⟨tOf tl, gOf [(104, zqd k)]⟩) ⟨za3 zac, za4 ⟨zyv k, trivial⟩, mixedOk⟩ (body := bodyOf Tryz.f68) (pl := []) (M := 400) (cuts := []) (entry := fun n x => zmb k x) rfl rfl (by decide) (by kernel_rfl) trivial (fun _ _ => by kernel_rfl) k
def zi5 : Nat → TreT → (List Int) → Int → Option (List Int)
  | 0, _, _, _ => none
  | n + 1, v2, v5, v6 =>
  (bif decide (0 ≤ v6) then
  ((appM 8 v5 ([v6])).bind fun r2 =>
  ((geti v2.1 v6).bind fun r3 =>
  (zi5 n) v2 r2 r3.2.2.2.2.2.2.2.2.1))
  else (some v5))
def zmx (n : Nat) (a0 : TreT) (a1 : Int) : Option (List Int) :=
  (bif decide (a1 < 0) then
  (some ([]))
  else (bif decide ((a0.1.length : Int) ≤ a1) then
  (some ([]))
  else ((geti a0.1 a1).bind fun r1 =>
  (zi5 n) a0 ([]) r1.2.2.2.2.2.1)))
def zse (k : Nat) (a0 : TreT) (a1 : Int) : Option (List Int) := zmx k a0 a1
def zsd (k : Nat) : Con := ⟨[.d cTreT, .d (.int .i64)],[.d (.sl (.int .i64))], fun x => zse k x.1 x.2⟩
theorem yas (k : Nat) : ConOk Tryz.prog 70 (zsd k) :=
  za1 (ps := [.d cTreT, .d (.int .i64)]) (rs := [.d (.sl (.int .i64))]) (fn := Tryz.f70) (E := ⟨tOf tl, gOf []⟩) ⟨za3 zac, za4 trivial, mixedOk⟩ (body := bodyOf Tryz.f70) (pl := []) (M := 400) (cuts := [⟨5,[0,0,5,4,1,0,1,1,1],[2,5,6],[.p [.d cTreT], .o 3 (.int .i64), .d (.int .i64)], fun n x => zi5 n x.1 x.2.1 x.2.2,[]⟩]) (entry := fun n x => zmx n x.1 x.2) rfl rfl (by decide) (by kernel_rfl) ⟨⟨fun _ => by kernel_rfl, fun _ _ => by kernel_rfl⟩, trivial⟩ (fun _ _ => by kernel_rfl) k
def zgo (k : Nat) (J13 : (List NodT) → (List NodT) → Int → (List Int) → Int → Option Int) (y29 : (List NodT)) (v8 : Int) (v3 : (List NodT)) (v7 : Int) (y16 : Int) (r15 : (List Int)) : Option Int :=
  (geti y29 v8).bind fun r30 =>
  (geti y29 v8).bind fun r31 =>
  (J13 v3 (y29.set v8.toNat (zjc r31 v7)) y16 r15 (w64 (v7 + 1)))
def zgp (k : Nat) (J13 : (List NodT) → (List NodT) → Int → (List Int) → Int → Option Int) (y16 : Int) (v4 : (List NodT)) (v8 : Int) (v7 : Int) (v3 : (List NodT)) (r15 : (List Int)) : Option Int :=
  (geti v4 v8).bind fun r17 =>
  (geti v4 v8).bind fun r18 =>
  (geti v4 v7).bind fun r19 =>
  (geti v4 v7).bind fun r20 =>
  ((geti (v4.set v7.toNat (0,(bs []),(bs []),[], v8,(-1),(-1), r18.2.2.2.2.2.2.1,(-1),())) v8).bind fun r21 =>
  (geti (v4.set v7.toNat (0,(bs []),(bs []),[], v8,(-1),(-1), r18.2.2.2.2.2.2.1,(-1),())) v8).bind fun r22 =>
  (bif decide (0 ≤ r22.2.2.2.2.2.2.1) then
  ((geti (v4.set v7.toNat (0,(bs []),(bs []),[], v8,(-1),(-1), r18.2.2.2.2.2.2.1,(-1),())) v8).bind fun r23 =>
  (geti (v4.set v7.toNat (0,(bs []),(bs []),[], v8,(-1),(-1), r18.2.2.2.2.2.2.1,(-1),())) v8).bind fun r24 =>
  (geti (v4.set v7.toNat (0,(bs []),(bs []),[], v8,(-1),(-1), r18.2.2.2.2.2.2.1,(-1),())) r24.2.2.2.2.2.2.1).bind fun r25 =>
  (geti (v4.set v7.toNat (0,(bs []),(bs []),[], v8,(-1),(-1), r18.2.2.2.2.2.2.1,(-1),())) r24.2.2.2.2.2.2.1).bind fun r26 =>
  (zgo k J13 ((v4.set v7.toNat (0,(bs []),(bs []),[], v8,(-1),(-1), r18.2.2.2.2.2.2.1,(-1),())).set r24.2.2.2.2.2.2.1.toNat (zm3 r26 v7)) v8 v3 v7 y16 r15))
  else ((geti (v4.set v7.toNat (0,(bs []),(bs []),[], v8,(-1),(-1), r18.2.2.2.2.2.2.1,(-1),())) v8).bind fun r27 =>
  (geti (v4.set v7.toNat (0,(bs []),(bs []),[], v8,(-1),(-1), r18.2.2.2.2.2.2.1,(-1),())) v8).bind fun r28 =>
  (zgo k J13 ((v4.set v7.toNat (0,(bs []),(bs []),[], v8,(-1),(-1), r18.2.2.2.2.2.2.1,(-1),())).set v8.toNat (znq r28 v7)) v8 v3 v7 y16 r15))))
def zgq (k : Nat) (J13 : (List NodT) → (List NodT) → Int → (List Int) → Int → Option Int) (v6 : (List Int)) (v3 : (List NodT)) (v8 : Int) (v7 : Int) (v5 : Int) (v4 : (List NodT)) : Option Int :=
  bif decide ((v6.length : Int) = 0) then
  (some 10)
  else (geti v3 v8).bind fun r14 =>
  (bif decide (r14.1 ≠ 1) then
  (some 10)
  else ((appM 8 v6 ([v7])).bind fun r15 =>
  (bif decide (v5 < (r15.length : Int)) then
  (zgp k J13 (r15.length : Int) v4 v8 v7 v3 r15)
  else (zgp k J13 v5 v4 v8 v7 v3 r15))))
mutual
def zb6 (k : Nat) : Nat → (List NodT) → (List NodT) → Int → (List Int) → Int → Option Int
  | 0, _, _, _, _, _ => none
  | n + 1, v3, v4, v5, v6, v7 =>
  (bif decide (v7 < (v3.length : Int)) then
  ((geti v3 v7).bind fun r8 =>
  (zmb k r8).bind fun r9 =>
  (bif (!r9) then
  (some 10)
  else (bif decide (v7 = 0) then
  ((zb6 k n) v3 v4 v5 v6 (w64 (v7 + 1)))
  else ((geti v3 v7).bind fun r10 =>
  (zfi k n) v3 v4 v5 v6 v7 r10.2.2.2.2.1))))
  else ((zfh k n) v3 v4 v5 0))
def zfi (k : Nat) : Nat → (List NodT) → (List NodT) → Int → (List Int) → Int → Int → Option Int
  | 0, _, _, _, _, _, _ => none
  | n + 1, v3, v4, v5, v6, v7, v8 =>
  bif decide (0 < (v6.length : Int)) then
  (geti v6 (w64 ((v6.length : Int) - 1))).bind fun r11 =>
  (geti v6 (w64 ((v6.length : Int) - 1))).bind fun r12 =>
  (bif decide (r12 ≠ v8) then
  ((cutM v6 0 (w64 ((v6.length : Int) - 1))).bind fun r13 =>
  (zfi k n) v3 v4 v5 r13 v7 v8)
  else (zgq k (zb6 k n) v6 v3 v8 v7 v5 v4))
  else (zgq k (zb6 k n) v6 v3 v8 v7 v5 v4)
def zfh (k : Nat) : Nat → (List NodT) → (List NodT) → Int → Int → Option Int
  | 0, _, _, _, _ => none
  | n + 1, v3, v4, v5, v9 =>
  (bif decide (v9 < (v3.length : Int)) then
  ((geti v3 v9).bind fun r32 =>
  (geti v4 v9).bind fun r33 =>
  bif decide (r32.2.2.2.2.2.1 ≠ r33.2.2.2.2.2.1) then
  (some 10)
  else (geti v3 v9).bind fun r34 =>
  (geti v4 v9).bind fun r35 =>
  bif decide (r34.2.2.2.2.2.2.1 ≠ r35.2.2.2.2.2.2.1) then
  (some 10)
  else (geti v3 v9).bind fun r36 =>
  (geti v4 v9).bind fun r37 =>
  bif decide (r36.2.2.2.2.2.2.2.1 ≠ r37.2.2.2.2.2.2.2.1) then
  (some 10)
  else (geti v3 v9).bind fun r38 =>
  (geti v4 v9).bind fun r39 =>
  (bif decide (r38.2.2.2.2.2.2.2.2.1 ≠ r39.2.2.2.2.2.2.2.2.1) then
  (some 10)
  else ((zfh k n) v3 v4 v5 (w64 (v9 + 1)))))
  else (bif decide (256 < v5) then
  (some 5)
  else (some 0)))
end
def zle (k : Nat) (n : Nat) (a0 : TreT) : Option Int :=
  (bif decide ((a0.1.length : Int) = 0) then
  (some 10)
  else (bif decide (4096 < (a0.1.length : Int)) then
  (some 4)
  else ((geti a0.1 0).bind fun r1 =>
  bif decide (r1.1 ≠ 1) then
  (some 10)
  else (geti a0.1 0).bind fun r2 =>
  bif decide (r2.2.2.2.2.1 ≠ (-1)) then
  (some 10)
  else (geti a0.1 0).bind fun r3 =>
  bif decide (r3.2.2.2.2.2.2.2.1 ≠ (-1)) then
  (some 10)
  else (geti a0.1 0).bind fun r4 =>
  (bif decide (r4.2.2.2.2.2.2.2.2.1 ≠ (-1)) then
  (some 10)
  else ((repM 104 (a0.1.length : Int) (0,(bs []),(bs []),[],0,0,0,0,0,())).bind fun r5 =>
  ((geti r5 0).bind fun r6 =>
  (geti r5 0).bind fun r7 =>
  ((zb6 k n) a0.1 (r5.set (Int.toNat 0) (0,(bs []),(bs []),[],(-1),(-1),(-1),(-1),(-1),())) 1 ([0]) 0)))))))
def ztn (k : Nat) (a0 : TreT) : Option Int := zle k k a0
def zqe (k : Nat) : Con := ⟨[.d cTreT],[.d (.int .i64)], fun x => ztn k x⟩
theorem zyw (k : Nat) : ConOk Tryz.prog 38 (zqe k) :=
  za1 (ps := [.d cTreT]) (rs := [.d (.int .i64)]) (fn := Tryz.f38) (E := ⟨tOf tl, gOf [(68, zqc k)]⟩) ⟨za3 zac, za4 ⟨zyu k, trivial⟩, mixedOk⟩ (body := bodyOf Tryz.f38) (pl := [(34,[(0,0),(1,0),(2,0),(3,0),(4,0),(5,0),(6,0),(7,0),(8,0),(9,0),(10,0),(11,0),(12,0),(13,0),(14,0),(15,0),(16,0),(17,0),(18,0),(19,0),(20,0),(21,0),(22,0),(23,0),(24,0),(25,0),(26,0),(27,0),(28,0),(29,0),(30,0),(31,0),(32,0),(33,0),(34,0),(35,0),(36,0),(37,0),(38,0),(39,0),(40,0),(41,0),(42,0),(43,0),(44,0),(45,0),(46,0),(47,0),(48,0),(49,0)],[])]) (M := 400) (cuts := [⟨13,[0,0,5,4,1,0,1,1,1,1,1,1,1,1,1],[3,4,5,6,7],[.d (.sl cNodT), .o 57 cNodT, .d (.int .i64), .o 3 (.int .i64), .d (.int .i64)], fun n x => zb6 k n x.1 x.2.1 x.2.2.1 x.2.2.2.1 x.2.2.2.2,[]⟩, ⟨19,[0,0,5,4,0,1,1,1,4,0,1,5,4,1,0,1,1,1,1,1,1,1,1,1],[3,4,5,6,7,8],[.d (.sl cNodT), .o 57 cNodT, .d (.int .i64), .o 3 (.int .i64), .d (.int .i64), .d (.int .i64)], fun n x => zfi k n x.1 x.2.1 x.2.2.1 x.2.2.2.1 x.2.2.2.2.1 x.2.2.2.2.2,[]⟩, ⟨32,[0,0,5,4,1,0,1,1,1,1,1,1,1,1,1,1],[3,4,5,9],[.d (.sl cNodT), .d (.sl cNodT), .d (.int .i64), .d (.int .i64)], fun n x => zfh k n x.1 x.2.1 x.2.2.1 x.2.2.2,[]⟩]) (entry := fun n x => zle k n x) rfl rfl (by decide) (by kernel_rfl) ⟨⟨fun _ => by kernel_rfl, fun _ _ => by kernel_rfl⟩, ⟨fun _ => by kernel_rfl, fun _ _ => by kernel_rfl⟩, ⟨fun _ => by kernel_rfl, fun _ _ => by kernel_rfl⟩, trivial⟩ (fun _ _ => by kernel_rfl) k
mutual
def zfa (k : Nat) : Nat → TreT → Int → Option Bool
  | 0, _, _ => none
  | n + 1, v1, v3 =>
  (bif decide (v3 < (v1.1.length : Int)) then
  ((geti v1.1 v3).bind fun r2 =>
  (addS r2.2.1 (bs [124])).bind fun r3 =>
  (geti v1.1 v3).bind fun r4 =>
  (addS r3 r4.2.2.1).bind fun r5 =>
  ((zhc k n) v1 v3 r5 0))
  else (some true))
def zhc (k : Nat) : Nat → TreT → Int → ByteArray → Int → Option Bool
  | 0, _, _, _, _ => none
  | n + 1, v1, v3, v4, v5 =>
  (geti v1.1 v3).bind fun r6 =>
  (bif decide (v5 < (r6.2.2.2.1.length : Int)) then
  ((addS v4 (bs [124])).bind fun r7 =>
  (geti v1.1 v3).bind fun r8 =>
  (geti r8.2.2.2.1 v5).bind fun r9 =>
  (addS r7 r9.1).bind fun r10 =>
  (addS r10 (bs [124])).bind fun r11 =>
  (geti v1.1 v3).bind fun r12 =>
  (geti r12.2.2.2.1 v5).bind fun r13 =>
  (addS r11 r13.2.1).bind fun r14 =>
  ((zhc k n) v1 v3 r14 (w64 (v5 + 1))))
  else ((runesM v4).bind fun r15 =>
  (bif decide ((textOf r15) ≠ v4) then
  (some false)
  else ((zfa k n) v1 (w64 (v3 + 1))))))
end
def zln (k : Nat) (n : Nat) (a0 : TreT) : Option Bool :=
  ((ztn k a0).bind fun r1 =>
  (bif decide (r1 ≠ 0) then
  (some false)
  else ((zfa k n) a0 0)))
def ztx (k : Nat) (a0 : TreT) : Option Bool := zln k k a0
def zqt (k : Nat) : Con := ⟨[.d cTreT],[.d .bool], fun x => ztx k x⟩
theorem zzk (k : Nat) : ConOk Tryz.prog 12 (zqt k) :=
  za1 (ps := [.d cTreT]) (rs := [.d .bool]) (fn := Tryz.f12) (E := ⟨tOf tl, gOf [(38, zqe k)]⟩) ⟨za3 zac, za4 ⟨zyw k, trivial⟩, mixedOk⟩ (body := bodyOf Tryz.f12) (pl := [(6,[(0,0),(1,0),(2,0),(3,0),(4,0),(5,0),(6,0),(7,0),(8,0),(9,0),(10,0),(11,0),(12,0),(13,0),(14,0)],[1]),(10,[(0,0),(1,0),(2,0),(3,0),(4,0),(5,0),(6,0),(7,0),(8,0),(9,0),(10,0),(11,0),(12,0),(13,0),(14,0),(15,0),(16,0),(17,0),(18,0),(19,0),(20,0),(21,0),(22,0),(23,0),(24,0),(25,0)],[1])]) (M := 400) (cuts := [⟨4,[0,0,5,4,1,0,1,1],[1,3],[.p [.d cTreT], .d (.int .i64)], fun n x => zfa k n x.1 x.2,[]⟩, ⟨8,[0,0,5,4,1,0,1,4,0,1,5,4,1,0,1,1],[1,3,4,5],[.p [.d cTreT], .d (.int .i64), .d .str, .d (.int .i64)], fun n x => zhc k n x.1 x.2.1 x.2.2.1 x.2.2.2,[]⟩]) (entry := fun n x => zln k n x) rfl rfl (by decide) (by kernel_rfl) ⟨⟨fun _ => by kernel_rfl, fun _ _ => by kernel_rfl⟩, ⟨fun _ => by kernel_rfl, fun _ _ => by kernel_rfl⟩, trivial⟩ (fun _ _ => by kernel_rfl) k
def znm (a0 : Int) (a1 : Int) (a2 : Int) : Option Int :=
  ((remM a0 (w64 ((w64 (a2 - a1)) + 1))).bind fun r1 =>
  (bif decide (r1 < 0) then
  (some (w64 (a1 + (w64 ((w64 ((w64 (r1 + a2)) - a1)) + 1)))))
  else (some (w64 (a1 + r1)))))
def zwl : Con := ⟨[.d (.int .i64), .d (.int .i64), .d (.int .i64)],[.d (.int .i64)], fun x => znm x.1 x.2.1 x.2.2⟩
theorem zxo : ConOk Tryz.prog 24 (zwl) :=
  za1 (ps := [.d (.int .i64), .d (.int .i64), .d (.int .i64)]) (rs := [.d (.int .i64)]) (fn := Tryz.f24) (E := ⟨tOf tl, gOf []⟩) ⟨za3 zac, za4 trivial, mixedOk⟩ (body := bodyOf Tryz.f24) (pl := []) (M := 400) (cuts := []) (entry := fun n x => znm x.1 x.2.1 x.2.2) rfl rfl (by decide) (by kernel_rfl) trivial (fun _ _ => by kernel_rfl) 0
end Go.V
