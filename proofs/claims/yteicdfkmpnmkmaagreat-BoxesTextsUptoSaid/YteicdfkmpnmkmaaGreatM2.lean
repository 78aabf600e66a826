/-
  Walks and laws of this seat.
-/
import Derived.Test.YteicdfkmpnmkmaaGreatM1
namespace Go.V
set_option linter.unusedVariables false
set_option linter.unusedSimpArgs false
set_option linter.unusedSectionVars false
variable [F0]
set_option maxRecDepth 100000
open Go.RowKit Go.Sl Go.Proofs
def zs1 : Nat → ByteArray → (List ByteArray) → Int → Option Bool
  | 0, _, _, _ => none
  | n + 1, a0, a1, v5 =>
  (bif decide (v5 < (a1.length : Int)) then
  ((geti a1 v5).bind fun r1 =>
  (bif decide (r1 = a0) then
  (some true)
  else ((zs1 n) a0 a1 (w64 (v5 + 1)))))
  else (some false))
def zvz (n : Nat) (a0 : ByteArray) (a1 : (List ByteArray)) : Option Bool :=
  ((zs1 n) a0 a1 0)
def zth (k : Nat) (a0 : ByteArray) (a1 : (List ByteArray)) : Option Bool := zvz k a0 a1
def zkn (k : Nat) : Con := ⟨[.d .str, .d (.sl .str)],[.d .bool], fun x => zth k x.1 x.2⟩
theorem zq0 (k : Nat) : ConOk Tryz.prog 125 (zkn k) :=
  za7 (ps := [.d .str, .d (.sl .str)]) (rs := [.d .bool]) (fn := Tryz.f125) (E := ⟨tOf tl, gOf []⟩) ⟨zaa zad, zab trivial, mixedOk⟩ (body := bodyOf Tryz.f125) (pl := []) (M := 400) (cuts := [⟨2,[0,0,5,4,1,0,1],[0,1,5],[.d .str, .d (.sl .str), .d (.int .i64)], fun n x => zs1 n x.1 x.2.1 x.2.2,[]⟩]) (entry := fun n x => zvz n x.1 x.2) rfl rfl (by decide) (by kernel_rfl) ⟨⟨fun _ => by kernel_rfl, fun _ _ => by kernel_rfl⟩, trivial⟩ (fun _ _ => by kernel_rfl) k
def zm6 (y2 : Int) (a0 : Int) (a1 : Int) : Option Int :=
  bif decide (65 ≤ a0) then
  (bif decide (a0 ≤ 70) then
  ((bif decide (a1 ≤ (w64 ((w64 (IntKind.u8.wrap (a0 - 65))) + 10))) then
  (some (-1))
  else (some (w64 ((w64 (IntKind.u8.wrap (a0 - 65))) + 10)))))
  else ((bif decide (a1 ≤ y2) then
  (some (-1))
  else (some y2))))
  else ((bif decide (a1 ≤ y2) then
  (some (-1))
  else (some y2)))
def zm7 (y1 : Int) (a0 : Int) (a1 : Int) : Option Int :=
  bif decide (97 ≤ a0) then
  (bif decide (a0 ≤ 102) then
  (zm6 (w64 ((w64 (IntKind.u8.wrap (a0 - 97))) + 10)) a0 a1)
  else (zm6 y1 a0 a1))
  else (zm6 y1 a0 a1)
def zom (a0 : Int) (a1 : Int) : Option Int :=
  (bif decide (48 ≤ a0) then
  (bif decide (a0 ≤ 57) then
  (zm7 (w64 (IntKind.u8.wrap (a0 - 48))) a0 a1)
  else (zm7 (-1) a0 a1))
  else (zm7 (-1) a0 a1))
def zpb : Con := ⟨[.d (.int .u8), .d (.int .i64)],[.d (.int .i64)], fun x => zom x.1 x.2⟩
theorem zx2 : ConOk Tryz.prog 126 (zpb) :=
  za7 (ps := [.d (.int .u8), .d (.int .i64)]) (rs := [.d (.int .i64)]) (fn := Tryz.f126) (E := ⟨tOf tl, gOf []⟩) ⟨zaa zad, zab trivial, mixedOk⟩ (body := bodyOf Tryz.f126) (pl := []) (M := 400) (cuts := []) (entry := fun n x => zom x.1 x.2) rfl rfl (by decide) (by kernel_rfl) trivial (fun _ _ => by kernel_rfl) 0
def zm8 : Nat → (List Int) → Int → Option Int
  | 0, _, _ => none
  | n + 1, a0, a1 =>
  bif decide (a1 < (a0.length : Int)) then
  (geti a0 a1).bind fun r1 =>
  (zbt r1).bind fun r2 =>
  (bif r2 then
  ((zm8 n) a0 (w64 (a1 + 1)))
  else (some a1))
  else (some a1)
def zr4 (n : Nat) (a0 : (List Int)) (a1 : Int) : Option Int :=
  ((zm8 n) a0 a1)
def zq1 (k : Nat) (a0 : (List Int)) (a1 : Int) : Option Int := zr4 k a0 a1
def znb (k : Nat) : Con := ⟨[.d (.sl (.int .i32)), .d (.int .i64)],[.d (.int .i64)], fun x => zq1 k x.1 x.2⟩
theorem zv1 (k : Nat) : ConOk Tryz.prog 127 (znb k) :=
  za7 (ps := [.d (.sl (.int .i32)), .d (.int .i64)]) (rs := [.d (.int .i64)]) (fn := Tryz.f127) (E := ⟨tOf tl, gOf [(45, zbw)]⟩) ⟨zaa zad, zab ⟨zd5, trivial⟩, mixedOk⟩ (body := bodyOf Tryz.f127) (pl := []) (M := 400) (cuts := [⟨1,[0,0,5,4,0,1],[0,1],[.d (.sl (.int .i32)), .d (.int .i64)], fun n x => zm8 n x.1 x.2,[]⟩]) (entry := fun n x => zr4 n x.1 x.2) rfl rfl (by decide) (by kernel_rfl) ⟨⟨fun _ => by kernel_rfl, fun _ _ => by kernel_rfl⟩, trivial⟩ (fun _ _ => by kernel_rfl) k
def zk0 (a0 : Int) : Option Bool :=
  (bif decide (97 ≤ a0) then
  bif decide (a0 ≤ 122) then
  some true
  else bif decide (65 ≤ a0) then
  some (decide (a0 ≤ 90))
  else some false
  else bif decide (65 ≤ a0) then
  some (decide (a0 ≤ 90))
  else some false)
def zjz : Con := ⟨[.d (.int .i32)],[.d .bool], fun x => zk0 x⟩
theorem zpa : ConOk Tryz.prog 56 (zjz) :=
  za7 (ps := [.d (.int .i32)]) (rs := [.d .bool]) (fn := Tryz.f56) (E := ⟨tOf tl, gOf []⟩) ⟨zaa zad, zab trivial, mixedOk⟩ (body := bodyOf Tryz.f56) (pl := []) (M := 400) (cuts := []) (entry := fun n x => zk0 x) rfl rfl (by decide) (by kernel_rfl) trivial (fun _ _ => by kernel_rfl) 0
def zu0 : Nat → (List Int) → Int → ByteArray → Int → Option Bool
  | 0, _, _, _, _ => none
  | n + 1, a0, a1, a2, v7 =>
  (bif decide (v7 < (a2.size : Int)) then
  (bif decide ((a0.length : Int) ≤ (w64 (a1 + v7))) then
  (some false)
  else (geti a0 (w64 (a1 + v7))).bind fun r1 =>
  (getS a2 v7).bind fun r2 =>
  (bif decide (r1 ≠ (IntKind.i32.wrap r2)) then
  (some false)
  else ((zu0 n) a0 a1 a2 (w64 (v7 + 1)))))
  else (some true))
def zyh (n : Nat) (a0 : (List Int)) (a1 : Int) (a2 : ByteArray) : Option Bool :=
  ((zu0 n) a0 a1 a2 0)
def zx1 (k : Nat) (a0 : (List Int)) (a1 : Int) (a2 : ByteArray) : Option Bool := zyh k a0 a1 a2
def zm5 (k : Nat) : Con := ⟨[.d (.sl (.int .i32)), .d (.int .i64), .d .str],[.d .bool], fun x => zx1 k x.1 x.2.1 x.2.2⟩
theorem zs7 (k : Nat) : ConOk Tryz.prog 59 (zm5 k) :=
  za7 (ps := [.d (.sl (.int .i32)), .d (.int .i64), .d .str]) (rs := [.d .bool]) (fn := Tryz.f59) (E := ⟨tOf tl, gOf []⟩) ⟨zaa zad, zab trivial, mixedOk⟩ (body := bodyOf Tryz.f59) (pl := [(4,[(0,0),(1,0),(2,0),(3,0),(4,0),(5,0),(6,0),(7,0),(8,0),(9,0),(10,0),(11,0),(12,0),(13,0),(14,0),(15,0),(16,0),(17,0),(18,0)],[])]) (M := 400) (cuts := [⟨2,[0,0,5,4,1,0,1],[0,1,2,7],[.d (.sl (.int .i32)), .d (.int .i64), .d .str, .d (.int .i64)], fun n x => zu0 n x.1 x.2.1 x.2.2.1 x.2.2.2,[]⟩]) (entry := fun n x => zyh n x.1 x.2.1 x.2.2) rfl rfl (by decide) (by kernel_rfl) ⟨⟨fun _ => by kernel_rfl, fun _ _ => by kernel_rfl⟩, trivial⟩ (fun _ _ => by kernel_rfl) k
def zm9 (k : Nat) : Nat → (List Int) → Int → ByteArray → Option Int
  | 0, _, _, _ => none
  | n + 1, a0, a1, a2 =>
  (bif decide (a1 < (a0.length : Int)) then
  ((zx1 k a0 a1 a2).bind fun r1 =>
  (bif r1 then
  (some (w64 (a1 + (a2.size : Int))))
  else ((zm9 k n) a0 (w64 (a1 + 1)) a2)))
  else (some (a0.length : Int)))
def zr5 (k : Nat) (n : Nat) (a0 : (List Int)) (a1 : Int) (a2 : ByteArray) : Option Int :=
  ((zm9 k n) a0 a1 a2)
def zq2 (k : Nat) (a0 : (List Int)) (a1 : Int) (a2 : ByteArray) : Option Int := zr5 k k a0 a1 a2
def znc (k : Nat) : Con := ⟨[.d (.sl (.int .i32)), .d (.int .i64), .d .str],[.d (.int .i64)], fun x => zq2 k x.1 x.2.1 x.2.2⟩
theorem zv2 (k : Nat) : ConOk Tryz.prog 60 (znc k) :=
  za7 (ps := [.d (.sl (.int .i32)), .d (.int .i64), .d .str]) (rs := [.d (.int .i64)]) (fn := Tryz.f60) (E := ⟨tOf tl, gOf [(59, zm5 k)]⟩) ⟨zaa zad, zab ⟨zs7 k, trivial⟩, mixedOk⟩ (body := bodyOf Tryz.f60) (pl := []) (M := 400) (cuts := [⟨1,[0,0,5,4,0,1],[0,1,2],[.d (.sl (.int .i32)), .d (.int .i64), .d .str], fun n x => zm9 k n x.1 x.2.1 x.2.2,[]⟩]) (entry := fun n x => zr5 k n x.1 x.2.1 x.2.2) rfl rfl (by decide) (by kernel_rfl) ⟨⟨fun _ => by kernel_rfl, fun _ _ => by kernel_rfl⟩, trivial⟩ (fun _ _ => by kernel_rfl) k
def zma (a0 : (List Int)) (a1 : Int) : Option Bool :=
  ((geti a0 a1).bind fun r1 =>
  bif decide (r1 ≠ 60) then
  (some false)
  else (bif decide ((a0.length : Int) ≤ (w64 (a1 + 1))) then
  (some false)
  else ((geti a0 (w64 (a1 + 1))).bind fun r2 =>
  ((zk0 r2).bind fun r3 =>
  bif r3 then
  some true
  else bif decide (r2 = 47) then
  some true
  else bif decide (r2 = 33) then
  some true
  else some (decide (r2 = 63))))))
def znd : Con := ⟨[.d (.sl (.int .i32)), .d (.int .i64)],[.d .bool], fun x => zma x.1 x.2⟩
theorem zv3 : ConOk Tryz.prog 54 (znd) :=
  za7 (ps := [.d (.sl (.int .i32)), .d (.int .i64)]) (rs := [.d .bool]) (fn := Tryz.f54) (E := ⟨tOf tl, gOf [(56, zjz)]⟩) ⟨zaa zad, zab ⟨zpa, trivial⟩, mixedOk⟩ (body := bodyOf Tryz.f54) (pl := []) (M := 400) (cuts := []) (entry := fun n x => zma x.1 x.2) rfl rfl (by decide) (by kernel_rfl) trivial (fun _ _ => by kernel_rfl) 0
def zs8 : Nat → (List AttT) → AttT → Int → Option (List AttT)
  | 0, _, _, _ => none
  | n + 1, a0, v3, v5 =>
  (bif decide (v5 < (a0.length : Int)) then
  ((geti a0 v5).bind fun r1 =>
  (geti a0 v5).bind fun r2 =>
  (bif decide (r2.1 = v3.1) then
  (some a0)
  else ((zs8 n) a0 v3 (w64 (v5 + 1)))))
  else (bif decide (64 ≤ (a0.length : Int)) then
  (some a0)
  else ((appM 32 a0 ([v3])).bind fun r3 =>
  some r3)))
def zw4 (n : Nat) (a0 : (List AttT)) (a1 : AttT) : Option (List AttT) :=
  ((zs8 n) a0 a1 0)
def yb7 (k : Nat) (a0 : (List AttT)) (a1 : AttT) : Option (List AttT) := zw4 k a0 a1
def zt1 (k : Nat) : Con := ⟨[.o 85 cAttT, .d cAttT],[.o 85 cAttT], fun x => yb7 k x.1 x.2⟩
theorem ya1 (k : Nat) : ConOk Tryz.prog 99 (zt1 k) :=
  za7 (ps := [.o 85 cAttT, .d cAttT]) (rs := [.o 85 cAttT]) (fn := Tryz.f99) (E := ⟨tOf tl, gOf []⟩) ⟨zaa zad, zab trivial, mixedOk⟩ (body := bodyOf Tryz.f99) (pl := [(4,[(0,0),(1,0),(2,0),(3,0),(4,0),(5,0),(6,0),(7,0)],[0,3])]) (M := 400) (cuts := [⟨2,[0,0,5,4,1,0,1],[0,3,5],[.o 85 cAttT, .p [.d cAttT], .d (.int .i64)], fun n x => zs8 n x.1 x.2.1 x.2.2,[]⟩]) (entry := fun n x => zw4 n x.1 x.2) rfl rfl (by decide) (by kernel_rfl) ⟨⟨fun _ => by kernel_rfl, fun _ _ => by kernel_rfl⟩, trivial⟩ (fun _ _ => by kernel_rfl) k
def zg0 (v9 : Int) (v11 : Int) (a0 : ByteArray) (v12 : Int) : Option (ByteArray × Int) :=
  bif decide (v9 = v11) then
  (some ((bs []),0))
  else bif decide (8 < (w64 (v9 - v11))) then
  (some ((bs []),0))
  else bif decide ((a0.size : Int) ≤ v9) then
  (some ((bs []),0))
  else (getS a0 v9).bind fun r16 =>
  (bif decide (r16 ≠ 59) then
  (some ((bs []),0))
  else (bif decide (v12 = 0) then
  ((some ((textOf ([(IntKind.i32.wrap 65533)])),(w64 (v9 + 1)))))
  else bif decide (1114111 < v12) then
  ((some ((textOf ([(IntKind.i32.wrap 65533)])),(w64 (v9 + 1)))))
  else bif decide (55296 ≤ v12) then
  (bif decide (v12 ≤ 57343) then
  ((some ((textOf ([(IntKind.i32.wrap 65533)])),(w64 (v9 + 1)))))
  else (some ((textOf ([(IntKind.i32.wrap v12)])),(w64 (v9 + 1)))))
  else (some ((textOf ([(IntKind.i32.wrap v12)])),(w64 (v9 + 1))))))
mutual
def zgh : Nat → ByteArray → Int → (List ByteArray) → (List ByteArray) → Int → Option (ByteArray × Int)
  | 0, _, _, _, _, _ => none
  | n + 1, a0, a1, v6, v7, v8 =>
  (bif decide (v8 < (v6.length : Int)) then
  ((geti v6 v8).bind fun r1 =>
  bif decide ((r1.size : Int) ≤ (w64 ((a0.size : Int) - a1))) then
  (geti v6 v8).bind fun r2 =>
  (cutS a0 a1 (w64 (a1 + (r2.size : Int)))).bind fun r3 =>
  (geti v6 v8).bind fun r4 =>
  (bif decide (r3 = r4) then
  ((geti v7 v8).bind fun r5 =>
  (geti v6 v8).bind fun r6 =>
  some (r5,(w64 (a1 + (r6.size : Int)))))
  else ((zgh n) a0 a1 v6 v7 (w64 (v8 + 1))))
  else ((zgh n) a0 a1 v6 v7 (w64 (v8 + 1))))
  else (bif decide ((a0.size : Int) ≤ (w64 (a1 + 1))) then
  (some ((bs []),0))
  else (getS a0 (w64 (a1 + 1))).bind fun r7 =>
  (bif decide (r7 ≠ 35) then
  (some ((bs []),0))
  else (bif decide ((w64 (a1 + 2)) < (a0.size : Int)) then
  (getS a0 (w64 (a1 + 2))).bind fun r8 =>
  bif decide (r8 = 120) then
  ((((zcm n) a0 (w64 ((w64 (a1 + 2)) + 1)) 16 (w64 ((w64 (a1 + 2)) + 1)) 0)))
  else (getS a0 (w64 (a1 + 2))).bind fun r9 =>
  (bif decide (r9 = 88) then
  ((((zcm n) a0 (w64 ((w64 (a1 + 2)) + 1)) 16 (w64 ((w64 (a1 + 2)) + 1)) 0)))
  else (((zcm n) a0 (w64 (a1 + 2)) 10 (w64 (a1 + 2)) 0)))
  else (((zcm n) a0 (w64 (a1 + 2)) 10 (w64 (a1 + 2)) 0))))))
def zcm : Nat → ByteArray → Int → Int → Int → Int → Option (ByteArray × Int)
  | 0, _, _, _, _, _ => none
  | n + 1, a0, v9, v10, v11, v12 =>
  bif decide (v9 < (a0.size : Int)) then
  (getS a0 v9).bind fun r12 =>
  (zom r12 v10).bind fun r13 =>
  bif decide (0 ≤ r13) then
  (bif decide ((w64 (v9 - v11)) < 9) then
  ((getS a0 v9).bind fun r14 =>
  (zom r14 v10).bind fun r15 =>
  ((zcm n) a0 (w64 (v9 + 1)) v10 v11 (w64 ((w64 (v12 * v10)) + r15))))
  else (zg0 v9 v11 a0 v12))
  else (zg0 v9 v11 a0 v12)
  else (zg0 v9 v11 a0 v12)
end
def zmr (n : Nat) (a0 : ByteArray) (a1 : Int) : Option (ByteArray × Int) :=
  ((zgh n) a0 a1 ([(bs [38,97,109,112,59]),(bs [38,108,116,59]),(bs [38,103,116,59]),(bs [38,113,117,111,116,59]),(bs [38,97,112,111,115,59]),(bs [38,110,98,115,112,59])]) ([(bs [38]),(bs [60]),(bs [62]),(bs [34]),(bs [39]),(bs [194,160])]) 0)
def zp9 (k : Nat) (a0 : ByteArray) (a1 : Int) : Option (ByteArray × Int) := zmr k a0 a1
def zku (k : Nat) : Con := ⟨[.d .str, .d (.int .i64)],[.d .str, .d (.int .i64)], fun x => zp9 k x.1 x.2⟩
theorem zs6 (k : Nat) : ConOk Tryz.prog 96 (zku k) :=
  za7 (ps := [.d .str, .d (.int .i64)]) (rs := [.d .str, .d (.int .i64)]) (fn := Tryz.f96) (E := ⟨tOf tl, gOf [(126, zpb)]⟩) ⟨zaa zad, zab ⟨zx2, trivial⟩, mixedOk⟩ (body := bodyOf Tryz.f96) (pl := [(6,[(0,0),(1,0),(2,0),(3,0),(4,0),(5,0),(6,0),(7,0),(8,0),(9,0),(10,0),(11,0),(12,0),(13,0),(14,0),(15,0),(16,0),(17,0),(18,0),(19,0),(20,0),(21,0),(22,0),(23,0),(24,0),(25,0),(26,0)],[]),(7,[(0,0),(1,0),(2,0),(3,0),(4,0),(5,0),(6,0),(7,0),(8,0),(9,0),(10,0),(11,0),(12,0)],[])]) (M := 400) (cuts := [⟨4,[0,0,5,4,1,0,1,1,1],[0,1,6,7,8],[.d .str, .d (.int .i64), .d (.sl .str), .d (.sl .str), .d (.int .i64)], fun n x => zgh n x.1 x.2.1 x.2.2.1 x.2.2.2.1 x.2.2.2.2,[]⟩, ⟨17,[0,0,5,4,0,1,1,1,1,1,1,1,1,1,1],[0,9,10,11,12],[.d .str, .d (.int .i64), .d (.int .i64), .d (.int .i64), .d (.int .i64)], fun n x => zcm n x.1 x.2.1 x.2.2.1 x.2.2.2.1 x.2.2.2.2,[]⟩]) (entry := fun n x => zmr n x.1 x.2) rfl rfl (by decide) (by kernel_rfl) ⟨⟨fun _ => by kernel_rfl, fun _ _ => by kernel_rfl⟩, ⟨fun _ => by kernel_rfl, fun _ _ => by kernel_rfl⟩, trivial⟩ (fun _ _ => by kernel_rfl) k
def zkv (k : Nat) (J3 : ByteArray → (List Int) → Int → Option ByteArray) (a0 : ByteArray) (v4 : Int) (v3 : (List Int)) : Option ByteArray :=
  (getS a0 v4).bind fun r4 =>
  (appM 1 v3 ([r4])).bind fun r5 =>
  (J3 a0 r5 (w64 (v4 + 1)))
def zf0 (k : Nat) : Nat → ByteArray → (List Int) → Int → Option ByteArray
  | 0, _, _, _ => none
  | n + 1, a0, v3, v4 =>
  (bif decide (v4 < (a0.size : Int)) then
  ((getS a0 v4).bind fun r1 =>
  (bif decide (r1 = 38) then
  ((zp9 k a0 v4).bind fun r2 =>
  (bif decide (0 < r2.2) then
  ((appM 1 v3 (bytesIn r2.1)).bind fun r3 =>
  ((zf0 k n) a0 r3 r2.2))
  else (zkv k (zf0 k n) a0 v4 v3)))
  else (zkv k (zf0 k n) a0 v4 v3)))
  else (some (bytesOf v3)))
def znf (k : Nat) (n : Nat) (a0 : ByteArray) : Option ByteArray :=
  ((zf0 k n) a0 ([]) 0)
def ziz (k : Nat) (a0 : ByteArray) : Option ByteArray := znf k k a0
def zhu (k : Nat) : Con := ⟨[.d .str],[.d .str], fun x => ziz k x⟩
theorem zms (k : Nat) : ConOk Tryz.prog 55 (zhu k) :=
  za7 (ps := [.d .str]) (rs := [.d .str]) (fn := Tryz.f55) (E := ⟨tOf tl, gOf [(96, zku k)]⟩) ⟨zaa zad, zab ⟨zs6 k, trivial⟩, mixedOk⟩ (body := bodyOf Tryz.f55) (pl := []) (M := 400) (cuts := [⟨3,[0,0,5,4,0,1,1,1],[0,3,4],[.d .str, .o 5 (.int .u8), .d (.int .i64)], fun n x => zf0 k n x.1 x.2.1 x.2.2,[]⟩]) (entry := fun n x => znf k n x) rfl rfl (by decide) (by kernel_rfl) ⟨⟨fun _ => by kernel_rfl, fun _ _ => by kernel_rfl⟩, trivial⟩ (fun _ _ => by kernel_rfl) k
def zg3 (k : Nat) (J12 : (List Int) → Int → AttT → AttT → Int → Option (AttT × Int)) (J19 : (List Int) → Int → AttT → Int → AttT → Option (AttT × Int)) (a0 : (List Int)) (v6 : Int) (a1 : Int) (v4 : AttT) : Option (AttT × Int) :=
  (cutM a0 v6 a1).bind fun r6 =>
  (zeh k r6).bind fun r7 =>
  ((zq1 k a0 a1).bind fun r8 =>
  (bif decide ((a0.length : Int) ≤ r8) then
  (some ((r7,(bs []),()), r8))
  else (geti a0 r8).bind fun r9 =>
  (bif decide (r9 ≠ 61) then
  (some ((r7,(bs []),()), r8))
  else ((zq1 k a0 (w64 (r8 + 1))).bind fun r10 =>
  (bif decide (r10 < (a0.length : Int)) then
  (geti a0 r10).bind fun r11 =>
  bif decide (r11 = 34) then
  (J12 a0 r10 v4 (r7,(bs []),()) (w64 (r10 + 1)))
  else (geti a0 r10).bind fun r12 =>
  (bif decide (r12 = 39) then
  (J12 a0 r10 v4 (r7,(bs []),()) (w64 (r10 + 1)))
  else (J19 a0 r10 v4 r10 (r7,(bs []),())))
  else (J19 a0 r10 v4 r10 (r7,(bs []),())))))))
def zne (k : Nat) (a0 : (List Int)) (a1 : Int) (v9 : Int) (v7 : AttT) : Option (AttT × Int) :=
  (cutM a0 (w64 (a1 + 1)) v9).bind fun r15 =>
  (ziz k (textOf r15)).bind fun r16 =>
  (bif decide (v9 < (a0.length : Int)) then
  (some ((v7.1, r16,()),(w64 (v9 + 1))))
  else (some ((v7.1, r16,()), v9)))
def zk1 (k : Nat) (a0 : (List Int)) (v6 : Int) (a1 : Int) (v7 : AttT) : Option (AttT × Int) :=
  (cutM a0 v6 a1).bind fun r21 =>
  (ziz k (textOf r21)).bind fun r22 =>
  (some ((v7.1, r22,()), a1))
mutual
def zq3 (k : Nat) : Nat → (List Int) → Int → AttT → Int → Option (AttT × Int)
  | 0, _, _, _, _ => none
  | n + 1, a0, a1, v4, v6 =>
  bif decide (a1 < (a0.length : Int)) then
  (geti a0 a1).bind fun r1 =>
  (zbt r1).bind fun r2 =>
  bif (!r2) then
  (geti a0 a1).bind fun r3 =>
  bif decide (r3 ≠ 61) then
  (geti a0 a1).bind fun r4 =>
  bif decide (r4 ≠ 47) then
  (geti a0 a1).bind fun r5 =>
  (bif decide (r5 ≠ 62) then
  ((zq3 k n) a0 (w64 (a1 + 1)) v4 v6)
  else (zg3 k (zez k n) (zey k n) a0 v6 a1 v4))
  else (zg3 k (zez k n) (zey k n) a0 v6 a1 v4)
  else (zg3 k (zez k n) (zey k n) a0 v6 a1 v4)
  else (zg3 k (zez k n) (zey k n) a0 v6 a1 v4)
  else (zg3 k (zez k n) (zey k n) a0 v6 a1 v4)
def zez (k : Nat) : Nat → (List Int) → Int → AttT → AttT → Int → Option (AttT × Int)
  | 0, _, _, _, _, _ => none
  | n + 1, a0, a1, v4, v7, v9 =>
  bif decide (v9 < (a0.length : Int)) then
  (geti a0 v9).bind fun r13 =>
  (geti a0 a1).bind fun r14 =>
  (bif decide (r13 ≠ r14) then
  ((zez k n) a0 a1 v4 v7 (w64 (v9 + 1)))
  else (zne k a0 a1 v9 v7))
  else (zne k a0 a1 v9 v7)
def zey (k : Nat) : Nat → (List Int) → Int → AttT → Int → AttT → Option (AttT × Int)
  | 0, _, _, _, _, _ => none
  | n + 1, a0, a1, v4, v6, v7 =>
  bif decide (a1 < (a0.length : Int)) then
  (geti a0 a1).bind fun r18 =>
  (zbt r18).bind fun r19 =>
  bif (!r19) then
  (geti a0 a1).bind fun r20 =>
  (bif decide (r20 ≠ 62) then
  ((zey k n) a0 (w64 (a1 + 1)) v4 v6 v7)
  else (zk1 k a0 v6 a1 v7))
  else (zk1 k a0 v6 a1 v7)
  else (zk1 k a0 v6 a1 v7)
end
def zu1 (k : Nat) (n : Nat) (a0 : (List Int)) (a1 : Int) : Option (AttT × Int) :=
  ((zq3 k n) a0 (w64 (a1 + 1)) ((bs []),(bs []),()) a1)
def zyj (k : Nat) (a0 : (List Int)) (a1 : Int) : Option (AttT × Int) := zu1 k k a0 a1
def zr6 (k : Nat) : Con := ⟨[.d (.sl (.int .i32)), .d (.int .i64)],[.d cAttT, .d (.int .i64)], fun x => zyj k x.1 x.2⟩
theorem zyi (k : Nat) : ConOk Tryz.prog 98 (zr6 k) :=
  za7 (ps := [.d (.sl (.int .i32)), .d (.int .i64)]) (rs := [.d cAttT, .d (.int .i64)]) (fn := Tryz.f98) (E := ⟨tOf tl, gOf [(45, zbw),(55, zhu k),(97, zdc k),(127, znb k)]⟩) ⟨zaa zad, zab ⟨zd5, zms k, zff k, zv1 k, trivial⟩, mixedOk⟩ (body := bodyOf Tryz.f98) (pl := [(12,[(0,0),(1,0),(2,0),(3,0),(4,0),(5,0),(6,0),(7,0),(8,0),(9,0),(10,0),(11,0),(12,0),(13,0),(14,0)],[])]) (M := 400) (cuts := [⟨3,[0,0,5,4,0,1,1,1],[0,1,4,6],[.d (.sl (.int .i32)), .d (.int .i64), .p [.d cAttT], .d (.int .i64)], fun n x => zq3 k n x.1 x.2.1 x.2.2.1 x.2.2.2,[]⟩, ⟨12,[0,0,5,4,0,1,2,1,0,1,1,1,1,1,1,1,1],[0,1,4,7,9],[.d (.sl (.int .i32)), .d (.int .i64), .p [.d cAttT], .p [.d cAttT], .d (.int .i64)], fun n x => zez k n x.1 x.2.1 x.2.2.1 x.2.2.2.1 x.2.2.2.2,[]⟩, ⟨19,[0,0,5,4,0,1,1,1,1,1,1,1,1,1,1],[0,1,4,6,7],[.d (.sl (.int .i32)), .d (.int .i64), .p [.d cAttT], .d (.int .i64), .p [.d cAttT]], fun n x => zey k n x.1 x.2.1 x.2.2.1 x.2.2.2.1 x.2.2.2.2,[]⟩]) (entry := fun n x => zu1 k n x.1 x.2) rfl rfl (by decide) (by kernel_rfl) ⟨⟨fun _ => by kernel_rfl, fun _ _ => by kernel_rfl⟩, ⟨fun _ => by kernel_rfl, fun _ _ => by kernel_rfl⟩, ⟨fun _ => by kernel_rfl, fun _ _ => by kernel_rfl⟩, trivial⟩ (fun _ _ => by kernel_rfl) k
def ziy (k : Nat) (J6 : (List Int) → Int → (Int × ByteArray × ByteArray × (List AttT) × Bool) → (Int × ByteArray × ByteArray × (List AttT) × Bool) → Bool → Option (TokT × Int × Bool)) (a0 : (List Int)) (v7 : Int) (a1 : Int) (v4 : (Int × ByteArray × ByteArray × (List AttT) × Bool)) : Option (TokT × Int × Bool) :=
  (cutM a0 v7 a1).bind fun r5 =>
  (zeh k r5).bind fun r6 =>
  (J6 a0 a1 (v4.1, v4.2.1, v4.2.2.1, v4.2.2.2.1, v4.2.2.2.2) (0, r6,(bs []),[], false) false)
def zr3 (k : Nat) (J6 : (List Int) → Int → (Int × ByteArray × ByteArray × (List AttT) × Bool) → (Int × ByteArray × ByteArray × (List AttT) × Bool) → Bool → Option (TokT × Int × Bool)) (a0 : (List Int)) (a1 : Int) (v4 : (Int × ByteArray × ByteArray × (List AttT) × Bool)) (v8 : (Int × ByteArray × ByteArray × (List AttT) × Bool)) : Option (TokT × Int × Bool) :=
  (geti a0 a1).bind fun r11 =>
  (J6 a0 (w64 (a1 + 1)) (v4.1, v4.2.1, v4.2.2.1, v4.2.2.2.1, v4.2.2.2.2) (v8.1, v8.2.1, v8.2.2.1, v8.2.2.2.1, v8.2.2.2.2) (decide (r11 = 47)))
mutual
def zs5 (k : Nat) : Nat → (List Int) → Int → (Int × ByteArray × ByteArray × (List AttT) × Bool) → Int → Option (TokT × Int × Bool)
  | 0, _, _, _, _ => none
  | n + 1, a0, a1, v4, v7 =>
  bif decide (a1 < (a0.length : Int)) then
  (geti a0 a1).bind fun r1 =>
  (zbt r1).bind fun r2 =>
  bif (!r2) then
  (geti a0 a1).bind fun r3 =>
  bif decide (r3 ≠ 47) then
  (geti a0 a1).bind fun r4 =>
  (bif decide (r4 ≠ 62) then
  ((zs5 k n) a0 (w64 (a1 + 1)) (v4.1, v4.2.1, v4.2.2.1, v4.2.2.2.1, v4.2.2.2.2) v7)
  else (ziy k (zgy k n) a0 v7 a1 v4))
  else (ziy k (zgy k n) a0 v7 a1 v4)
  else (ziy k (zgy k n) a0 v7 a1 v4)
  else (ziy k (zgy k n) a0 v7 a1 v4)
def zgy (k : Nat) : Nat → (List Int) → Int → (Int × ByteArray × ByteArray × (List AttT) × Bool) → (Int × ByteArray × ByteArray × (List AttT) × Bool) → Bool → Option (TokT × Int × Bool)
  | 0, _, _, _, _, _ => none
  | n + 1, a0, a1, v4, v8, v9 =>
  (bif decide (a1 < (a0.length : Int)) then
  ((geti a0 a1).bind fun r7 =>
  (bif decide (r7 = 62) then
  (some ((v8.1, v8.2.1, v8.2.2.1, v8.2.2.2.1, v9,()),(w64 (a1 + 1)), true))
  else ((geti a0 a1).bind fun r8 =>
  (zbt r8).bind fun r9 =>
  bif r9 then
  (zr3 k (zgy k n) a0 a1 v4 v8)
  else (geti a0 a1).bind fun r10 =>
  (bif decide (r10 = 47) then
  (zr3 k (zgy k n) a0 a1 v4 v8)
  else ((zyj k a0 a1).bind fun r12 =>
  ((yb7 k v8.2.2.2.1 r12.1).bind fun r13 =>
  (zgy k n) a0 r12.2 (v4.1, v4.2.1, v4.2.2.1, v4.2.2.2.1, v4.2.2.2.2) (v8.1, v8.2.1, v8.2.2.1, r13, v8.2.2.2.2) false))))))
  else (some ((0,(bs []),(bs []),[], false,()), a1, false)))
end
def zw2 (k : Nat) (n : Nat) (a0 : (List Int)) (a1 : Int) : Option (TokT × Int × Bool) :=
  ((zs5 k n) a0 a1 (0,(bs []),(bs []),[], false) a1)
def zx0 (k : Nat) (a0 : (List Int)) (a1 : Int) : Option (TokT × Int × Bool) := zw2 k k a0 a1
def zsz (k : Nat) : Con := ⟨[.d (.sl (.int .i32)), .d (.int .i64)],[.d cTokT, .d (.int .i64), .d .bool], fun x => zx0 k x.1 x.2⟩
theorem zzz (k : Nat) : ConOk Tryz.prog 57 (zsz k) :=
  za7 (ps := [.d (.sl (.int .i32)), .d (.int .i64)]) (rs := [.d cTokT, .d (.int .i64), .d .bool]) (fn := Tryz.f57) (E := ⟨tOf tl, gOf [(45, zbw),(97, zdc k),(98, zr6 k),(99, zt1 k)]⟩) ⟨zaa zad, zab ⟨zd5, zff k, zyi k, ya1 k, trivial⟩, mixedOk⟩ (body := bodyOf Tryz.f57) (pl := []) (M := 400) (cuts := [⟨2,[0,0,5,4,0,1,1],[0,1,4,7],[.d (.sl (.int .i32)), .d (.int .i64), .p [.d (.int .i64), .d .str, .d .str, .o 85 cAttT, .d .bool], .d (.int .i64)], fun n x => zs5 k n x.1 x.2.1 x.2.2.1 x.2.2.2,[]⟩, ⟨6,[0,0,5,4,0,1,1,1,1,1],[0,1,4,8,9],[.d (.sl (.int .i32)), .d (.int .i64), .p [.d (.int .i64), .d .str, .d .str, .o 85 cAttT, .d .bool], .p [.d (.int .i64), .d .str, .d .str, .o 85 cAttT, .d .bool], .d .bool], fun n x => zgy k n x.1 x.2.1 x.2.2.1 x.2.2.2.1 x.2.2.2.2,[]⟩]) (entry := fun n x => zw2 k n x.1 x.2) rfl rfl (by decide) (by kernel_rfl) ⟨⟨fun _ => by kernel_rfl, fun _ _ => by kernel_rfl⟩, ⟨fun _ => by kernel_rfl, fun _ _ => by kernel_rfl⟩, trivial⟩ (fun _ _ => by kernel_rfl) k
def zje (k : Nat) : Nat → (List Int) → Int → ByteArray → Option Int
  | 0, _, _, _ => none
  | n + 1, a0, a1, a2 =>
  (bif decide (a1 < (a0.length : Int)) then
  ((zx1 k a0 a1 (bs [60,47])).bind fun r1 =>
  bif r1 then
  bif decide ((w64 ((w64 (a1 + 2)) + (a2.size : Int))) ≤ (a0.length : Int)) then
  (cutM a0 (w64 (a1 + 2)) (w64 ((w64 (a1 + 2)) + (a2.size : Int)))).bind fun r2 =>
  (zeh k r2).bind fun r3 =>
  bif decide (r3 = a2) then
  bif decide ((w64 ((w64 (a1 + 2)) + (a2.size : Int))) = (a0.length : Int)) then
  (some a1)
  else (geti a0 (w64 ((w64 (a1 + 2)) + (a2.size : Int)))).bind fun r4 =>
  (zbt r4).bind fun r5 =>
  bif r5 then
  (some a1)
  else (geti a0 (w64 ((w64 (a1 + 2)) + (a2.size : Int)))).bind fun r6 =>
  bif decide (r6 = 47) then
  (some a1)
  else (geti a0 (w64 ((w64 (a1 + 2)) + (a2.size : Int)))).bind fun r7 =>
  (bif decide (r7 = 62) then
  (some a1)
  else ((zje k n) a0 (w64 (a1 + 1)) a2))
  else ((zje k n) a0 (w64 (a1 + 1)) a2)
  else ((zje k n) a0 (w64 (a1 + 1)) a2)
  else ((zje k n) a0 (w64 (a1 + 1)) a2))
  else (some a1))
def zw3 (k : Nat) (n : Nat) (a0 : (List Int)) (a1 : Int) (a2 : ByteArray) : Option Int :=
  ((zje k n) a0 a1 a2)
def yb6 (k : Nat) (a0 : (List Int)) (a1 : Int) (a2 : ByteArray) : Option Int := zw3 k k a0 a1 a2
def zt0 (k : Nat) : Con := ⟨[.d (.sl (.int .i32)), .d (.int .i64), .d .str],[.d (.int .i64)], fun x => yb6 k x.1 x.2.1 x.2.2⟩
theorem ya0 (k : Nat) : ConOk Tryz.prog 58 (zt0 k) :=
  za7 (ps := [.d (.sl (.int .i32)), .d (.int .i64), .d .str]) (rs := [.d (.int .i64)]) (fn := Tryz.f58) (E := ⟨tOf tl, gOf [(45, zbw),(59, zm5 k),(97, zdc k)]⟩) ⟨zaa zad, zab ⟨zd5, zs7 k, zff k, trivial⟩, mixedOk⟩ (body := bodyOf Tryz.f58) (pl := []) (M := 400) (cuts := [⟨1,[0,0,5,4,0,1],[0,1,2],[.d (.sl (.int .i32)), .d (.int .i64), .d .str], fun n x => zje k n x.1 x.2.1 x.2.2,[]⟩]) (entry := fun n x => zw3 k n x.1 x.2.1 x.2.2) rfl rfl (by decide) (by kernel_rfl) ⟨⟨fun _ => by kernel_rfl, fun _ _ => by kernel_rfl⟩, trivial⟩ (fun _ _ => by kernel_rfl) k
def zmu (k : Nat) (J3 : (List Int) → (List TokT) → Int → Option (List TokT)) (a0 : (List Int)) (r4 : (TokT × Int × Bool)) (r5 : (List TokT)) : Option (List TokT) :=
  (yb6 k a0 r4.2.1 r4.1.2.1).bind fun r6 =>
  (bif decide (r4.2.1 < r6) then
  ((cutM a0 r4.2.1 r6).bind fun r7 =>
  (appM 72 r5 ([(1,(bs []),(textOf r7),[], false,())])).bind fun r8 =>
  (J3 a0 r8 r6))
  else (J3 a0 r5 r6))
def zio (k : Nat) (J3 : (List Int) → (List TokT) → Int → Option (List TokT)) (a0 : (List Int)) (v4 : Int) (v3 : (List TokT)) : Option (List TokT) :=
  (zx1 k a0 v4 (bs [60,33,45,45])).bind fun r15 =>
  (bif r15 then
  ((zq2 k a0 (w64 (v4 + 4)) (bs [45,45,62])).bind fun r16 =>
  J3 a0 v3 r16)
  else ((zq2 k a0 v4 (bs [62])).bind fun r17 =>
  J3 a0 v3 r17))
def zmt (k : Nat) (J3 : (List Int) → (List TokT) → Int → Option (List TokT)) (a0 : (List Int)) (v5 : Int) (v4 : Int) (v3 : (List TokT)) : Option (List TokT) :=
  (cutM a0 v5 v4).bind fun r19 =>
  (ziz k (textOf r19)).bind fun r20 =>
  (appM 72 v3 ([(1,(bs []), r20,[], false,())])).bind fun r21 =>
  J3 a0 r21 v4
mutual
def zbc (k : Nat) : Nat → (List Int) → (List TokT) → Int → Option (List TokT)
  | 0, _, _, _ => none
  | n + 1, a0, v3, v4 =>
  (bif decide (v4 < (a0.length : Int)) then
  ((zma a0 v4).bind fun r1 =>
  (bif (!r1) then
  ((zmb k n) a0 v3 v4 v4)
  else ((geti a0 (w64 (v4 + 1))).bind fun r2 =>
  (zk0 r2).bind fun r3 =>
  (bif r3 then
  ((zx0 k a0 (w64 (v4 + 1))).bind fun r4 =>
  (bif (!r4.2.2) then
  (zbc k n) a0 v3 r4.2.1
  else ((appM 72 v3 ([(2, r4.1.2.1, r4.1.2.2.1, r4.1.2.2.2.1, r4.1.2.2.2.2.1,())])).bind fun r5 =>
  (bif decide (r4.1.2.1 = (bs [115,116,121,108,101])) then
  (zmu k (zbc k n) a0 r4 r5)
  else (bif decide (r4.1.2.1 = (bs [115,99,114,105,112,116])) then
  (zmu k (zbc k n) a0 r4 r5)
  else (zbc k n) a0 r5 r4.2.1)))))
  else ((geti a0 (w64 (v4 + 1))).bind fun r10 =>
  bif decide (r10 = 47) then
  bif decide ((w64 (v4 + 2)) < (a0.length : Int)) then
  (geti a0 (w64 (v4 + 2))).bind fun r11 =>
  (zk0 r11).bind fun r12 =>
  (bif r12 then
  ((zx0 k a0 (w64 (v4 + 2))).bind fun r13 =>
  (bif r13.2.2 then
  ((appM 72 v3 ([(3, r13.1.2.1,(bs []),[], false,())])).bind fun r14 =>
  (zbc k n) a0 r14 r13.2.1)
  else (zbc k n) a0 v3 r13.2.1))
  else (zio k (zbc k n) a0 v4 v3))
  else (zio k (zbc k n) a0 v4 v3)
  else (zio k (zbc k n) a0 v4 v3))))))
  else (some v3))
def zmb (k : Nat) : Nat → (List Int) → (List TokT) → Int → Int → Option (List TokT)
  | 0, _, _, _, _ => none
  | n + 1, a0, v3, v4, v5 =>
  bif decide (v4 < (a0.length : Int)) then
  (zma a0 v4).bind fun r18 =>
  (bif (!r18) then
  ((zmb k n) a0 v3 (w64 (v4 + 1)) v5)
  else (zmt k (zbc k n) a0 v5 v4 v3))
  else (zmt k (zbc k n) a0 v5 v4 v3)
end
def zr7 (k : Nat) (n : Nat) (a0 : (List Int)) : Option (List TokT) :=
  ((zbc k n) a0 ([]) 0)
def zu2 (k : Nat) (a0 : (List Int)) : Option (List TokT) := zr7 k k a0
def zng (k : Nat) : Con := ⟨[.d (.sl (.int .i32))],[.d (.sl cTokT)], fun x => zu2 k x⟩
theorem zv4 (k : Nat) : ConOk Tryz.prog 30 (zng k) :=
  za7 (ps := [.d (.sl (.int .i32))]) (rs := [.d (.sl cTokT)]) (fn := Tryz.f30) (E := ⟨tOf tl, gOf [(54, znd),(55, zhu k),(56, zjz),(57, zsz k),(58, zt0 k),(59, zm5 k),(60, znc k)]⟩) ⟨zaa zad, zab ⟨zv3, zms k, zpa, zzz k, ya0 k, zs7 k, zv2 k, trivial⟩, mixedOk⟩ (body := bodyOf Tryz.f30) (pl := []) (M := 400) (cuts := [⟨3,[0,0,5,4,0,1,1,1],[0,3,4],[.d (.sl (.int .i32)), .o 102 cTokT, .d (.int .i64)], fun n x => zbc k n x.1 x.2.1 x.2.2,[]⟩, ⟨6,[0,0,5,4,0,1,2,1,0,4,1,5,4,0,1,1,1],[0,3,4,5],[.d (.sl (.int .i32)), .o 102 cTokT, .d (.int .i64), .d (.int .i64)], fun n x => zmb k n x.1 x.2.1 x.2.2.1 x.2.2.2,[]⟩]) (entry := fun n x => zr7 k n x) rfl rfl (by decide) (by kernel_rfl) ⟨⟨fun _ => by kernel_rfl, fun _ _ => by kernel_rfl⟩, ⟨fun _ => by kernel_rfl, fun _ _ => by kernel_rfl⟩, trivial⟩ (fun _ _ => by kernel_rfl) k
def zs2 (k : Nat) (a0 : ByteArray) : Option Bool :=
  ((zth k a0 ([(bs [100,105,118]),(bs [112]),(bs [117,108]),(bs [108,105]),(bs [104,49]),(bs [116,97,98,108,101])])).bind fun r1 =>
  some r1)
def zp4 (k : Nat) : Con := ⟨[.d .str],[.d .bool], fun x => zs2 k x⟩
theorem zwv (k : Nat) : ConOk Tryz.prog 88 (zp4 k) :=
  za7 (ps := [.d .str]) (rs := [.d .bool]) (fn := Tryz.f88) (E := ⟨tOf tl, gOf [(125, zkn k)]⟩) ⟨zaa zad, zab ⟨zq0 k, trivial⟩, mixedOk⟩ (body := bodyOf Tryz.f88) (pl := []) (M := 400) (cuts := []) (entry := fun n x => zs2 k x) rfl rfl (by decide) (by kernel_rfl) trivial (fun _ _ => by kernel_rfl) k
def zqz (k : Nat) (a0 : ByteArray) : Option Bool :=
  ((zth k a0 ([(bs [98,114]),(bs [104,114]),(bs [105,109,103]),(bs [105,110,112,117,116]),(bs [108,105,110,107]),(bs [109,101,116,97])])).bind fun r1 =>
  some r1)
def zm2 (k : Nat) : Con := ⟨[.d .str],[.d .bool], fun x => zqz k x⟩
theorem zsw (k : Nat) : ConOk Tryz.prog 93 (zm2 k) :=
  za7 (ps := [.d .str]) (rs := [.d .bool]) (fn := Tryz.f93) (E := ⟨tOf tl, gOf [(125, zkn k)]⟩) ⟨zaa zad, zab ⟨zq0 k, trivial⟩, mixedOk⟩ (body := bodyOf Tryz.f93) (pl := []) (M := 400) (cuts := []) (entry := fun n x => zqz k x) rfl rfl (by decide) (by kernel_rfl) trivial (fun _ _ => by kernel_rfl) k
def zr1 (k : Nat) (a0 : ByteArray) : Option Bool :=
  ((zth k a0 ([(bs [97]),(bs [98]),(bs [101,109]),(bs [105]),(bs [117])])).bind fun r1 =>
  some r1)
def zr0 (k : Nat) : Con := ⟨[.d .str],[.d .bool], fun x => zr1 k x⟩
theorem zyg (k : Nat) : ConOk Tryz.prog 95 (zr0 k) :=
  za7 (ps := [.d .str]) (rs := [.d .bool]) (fn := Tryz.f95) (E := ⟨tOf tl, gOf [(125, zkn k)]⟩) ⟨zaa zad, zab ⟨zq0 k, trivial⟩, mixedOk⟩ (body := bodyOf Tryz.f95) (pl := []) (M := 400) (cuts := []) (entry := fun n x => zr1 k x) rfl rfl (by decide) (by kernel_rfl) trivial (fun _ _ => by kernel_rfl) k
def zhb : Nat → GroT → ByteArray → Int → Int → Option Int
  | 0, _, _, _, _ => none
  | n + 1, a0, a1, a2, v7 =>
  (bif decide (a2 < v7) then
  ((geti a0.2.1 v7).bind fun r1 =>
  (geti a0.1 r1).bind fun r2 =>
  (bif decide (r2.1 = a1) then
  (some v7)
  else ((zhb n) a0 a1 a2 (w64 (v7 - 1)))))
  else (some (-1)))
def zkq (n : Nat) (a0 : GroT) (a1 : ByteArray) (a2 : Int) : Option Int :=
  ((zhb n) a0 a1 a2 (w64 ((a0.2.1.length : Int) - 1)))
def zee (k : Nat) (a0 : GroT) (a1 : ByteArray) (a2 : Int) : Option Int := zkq k a0 a1 a2
def zcd (k : Nat) : Con := ⟨[.q cGroT, .d .str, .d (.int .i64)],[.d (.int .i64)], fun x => zee k x.1 x.2.1 x.2.2⟩
theorem zdy (k : Nat) : ConOk Tryz.prog 94 (zcd k) :=
  za7 (ps := [.q cGroT, .d .str, .d (.int .i64)]) (rs := [.d (.int .i64)]) (fn := Tryz.f94) (E := ⟨tOf tl, gOf []⟩) ⟨zaa zad, zab trivial, mixedOk⟩ (body := bodyOf Tryz.f94) (pl := [(4,[(0,0),(1,0),(2,0),(3,0),(4,0),(5,0),(6,0),(7,0),(8,0),(9,0),(10,0),(11,0),(12,0),(13,0),(14,0),(15,0)],[])]) (M := 400) (cuts := [⟨2,[0,0,5,4,1,0,1],[0,1,2,7],[.q cGroT, .d .str, .d (.int .i64), .d (.int .i64)], fun n x => zhb n x.1 x.2.1 x.2.2.1 x.2.2.2,[]⟩]) (entry := fun n x => zkq n x.1 x.2.1 x.2.2) rfl rfl (by decide) (by kernel_rfl) ⟨⟨fun _ => by kernel_rfl, fun _ _ => by kernel_rfl⟩, trivial⟩ (fun _ _ => by kernel_rfl) k
def ze1 (a0 : GroT) : Option ByteArray :=
  ((geti a0.2.1 (w64 ((a0.2.1.length : Int) - 1))).bind fun r1 =>
  (geti a0.1 r1).bind fun r2 =>
  some r2.1)
def ze0 : Con := ⟨[.q cGroT],[.d .str], fun x => ze1 x⟩
theorem zho : ConOk Tryz.prog 91 (ze0) :=
  za7 (ps := [.q cGroT]) (rs := [.d .str]) (fn := Tryz.f91) (E := ⟨tOf tl, gOf []⟩) ⟨zaa zad, zab trivial, mixedOk⟩ (body := bodyOf Tryz.f91) (pl := [(1,[(0,0),(1,0),(2,0),(3,0),(4,0),(5,0),(6,0),(7,0),(8,0),(9,0),(10,0),(11,0),(12,0),(13,0),(14,0),(15,0),(16,0),(17,0),(18,0),(19,0)],[])]) (M := 400) (cuts := []) (entry := fun n x => ze1 x) rfl rfl (by decide) (by kernel_rfl) trivial (fun _ _ => by kernel_rfl) 0
def zhd : Nat → GroT → ByteArray → ByteArray → Int → Option Int
  | 0, _, _, _, _ => none
  | n + 1, a0, a1, a2, v7 =>
  (bif decide (0 < v7) then
  ((geti a0.2.1 v7).bind fun r1 =>
  (geti a0.1 r1).bind fun r2 =>
  (bif decide (r2.1 = a1) then
  (some v7)
  else (bif decide (r2.1 = a2) then
  (some v7)
  else ((zhd n) a0 a1 a2 (w64 (v7 - 1))))))
  else (some 0))
def zkr (n : Nat) (a0 : GroT) (a1 : ByteArray) (a2 : ByteArray) : Option Int :=
  ((zhd n) a0 a1 a2 (w64 ((a0.2.1.length : Int) - 1)))
def zcy (k : Nat) (a0 : GroT) (a1 : ByteArray) (a2 : ByteArray) : Option Int := zkr k a0 a1 a2
def zfz (k : Nat) : Con := ⟨[.q cGroT, .d .str, .d .str],[.d (.int .i64)], fun x => zcy k x.1 x.2.1 x.2.2⟩
theorem zjs (k : Nat) : ConOk Tryz.prog 90 (zfz k) :=
  za7 (ps := [.q cGroT, .d .str, .d .str]) (rs := [.d (.int .i64)]) (fn := Tryz.f90) (E := ⟨tOf tl, gOf []⟩) ⟨zaa zad, zab trivial, mixedOk⟩ (body := bodyOf Tryz.f90) (pl := [(4,[(0,0),(1,0),(2,0),(3,0),(4,0),(5,0),(6,0),(7,0),(8,0),(9,0),(10,0),(11,0),(12,0),(13,0),(14,0)],[])]) (M := 400) (cuts := [⟨2,[0,0,5,4,1,0,1],[0,1,2,7],[.q cGroT, .d .str, .d .str, .d (.int .i64)], fun n x => zhd n x.1 x.2.1 x.2.2.1 x.2.2.2,[]⟩]) (entry := fun n x => zkr n x.1 x.2.1 x.2.2) rfl rfl (by decide) (by kernel_rfl) ⟨⟨fun _ => by kernel_rfl, fun _ _ => by kernel_rfl⟩, trivial⟩ (fun _ _ => by kernel_rfl) k
def zgo : Nat → GroT → Int → Int → Option Int
  | 0, _, _, _ => none
  | n + 1, a0, a1, v5 =>
  (bif decide (0 < a1) then
  ((geti a0.1 a1).bind fun r1 =>
  ((zgo n) a0 r1.2.2.2.1 (w64 (v5 + 1))))
  else (some v5))
def zjt (n : Nat) (a0 : GroT) (a1 : Int) : Option Int :=
  ((zgo n) a0 a1 1)
def zlh (k : Nat) (a0 : GroT) (a1 : Int) : Option Int := zjt k a0 a1
def zig (k : Nat) : Con := ⟨[.q cGroT, .d (.int .i64)],[.d (.int .i64)], fun x => zlh k x.1 x.2⟩
theorem zot (k : Nat) : ConOk Tryz.prog 51 (zig k) :=
  za7 (ps := [.q cGroT, .d (.int .i64)]) (rs := [.d (.int .i64)]) (fn := Tryz.f51) (E := ⟨tOf tl, gOf []⟩) ⟨zaa zad, zab trivial, mixedOk⟩ (body := bodyOf Tryz.f51) (pl := []) (M := 400) (cuts := [⟨2,[0,0,5,4,0,1,1],[0,1,5],[.q cGroT, .d (.int .i64), .d (.int .i64)], fun n x => zgo n x.1 x.2.1 x.2.2,[]⟩]) (entry := fun n x => zjt n x.1 x.2) rfl rfl (by decide) (by kernel_rfl) ⟨⟨fun _ => by kernel_rfl, fun _ _ => by kernel_rfl⟩, trivial⟩ (fun _ _ => by kernel_rfl) k
def zdh (k : Nat) (a0 : GroT) (a1 : ByteArray) : Option Bool :=
  ((ze1 a0).bind fun r1 =>
  ((zee k a0 (bs [116,97,98,108,101]) 0).bind fun r2 =>
  (bif decide (0 < r2) then
  bif decide (r1 = (bs [116,97,98,108,101])) then
  bif decide (a1 ≠ (bs [116,114])) then
  bif decide (a1 ≠ (bs [116,100])) then
  some true
  else bif decide (r1 = (bs [116,114])) then
  some (decide (a1 ≠ (bs [116,100])))
  else some false
  else bif decide (r1 = (bs [116,114])) then
  some (decide (a1 ≠ (bs [116,100])))
  else some false
  else bif decide (r1 = (bs [116,114])) then
  some (decide (a1 ≠ (bs [116,100])))
  else some false
  else some false)))
def zdm (k : Nat) : Con := ⟨[.q cGroT, .d .str],[.d .bool], fun x => zdh k x.1 x.2⟩
theorem zhc (k : Nat) : ConOk Tryz.prog 85 (zdm k) :=
  za7 (ps := [.q cGroT, .d .str]) (rs := [.d .bool]) (fn := Tryz.f85) (E := ⟨tOf tl, gOf [(91, ze0),(94, zcd k)]⟩) ⟨zaa zad, zab ⟨zho, zdy k, trivial⟩, mixedOk⟩ (body := bodyOf Tryz.f85) (pl := []) (M := 400) (cuts := []) (entry := fun n x => zdh k x.1 x.2) rfl rfl (by decide) (by kernel_rfl) trivial (fun _ _ => by kernel_rfl) k
def zgp (k : Nat) : Nat → GroT → Int → Int → Int → Option (Int × Int)
  | 0, _, _, _, _ => none
  | n + 1, a0, v4, v5, v6 =>
  (geti a0.1 v5).bind fun r4 =>
  (bif decide (v6 < (r4.2.2.2.2.1.length : Int)) then
  ((geti a0.1 v5).bind fun r5 =>
  (geti r5.2.2.2.2.1 v6).bind fun r6 =>
  (bif decide (r6 = v4) then
  (some (v5, v6))
  else ((zgp k n) a0 v4 v5 (w64 (v6 + 1)))))
  else (some (v5,0)))
def zjw (k : Nat) (n : Nat) (a0 : GroT) : Option (Int × Int) :=
  ((zee k a0 (bs [116,97,98,108,101]) 0).bind fun r1 =>
  (geti a0.2.1 r1).bind fun r2 =>
  ((geti a0.1 r2).bind fun r3 =>
  ((zgp k n) a0 r2 r3.2.2.2.1 0)))
def zhs (k : Nat) (a0 : GroT) : Option (Int × Int) := zjw k k a0
def zev (k : Nat) : Con := ⟨[.q cGroT],[.d (.int .i64), .d (.int .i64)], fun x => zhs k x⟩
theorem ziu (k : Nat) : ConOk Tryz.prog 86 (zev k) :=
  za7 (ps := [.q cGroT]) (rs := [.d (.int .i64), .d (.int .i64)]) (fn := Tryz.f86) (E := ⟨tOf tl, gOf [(94, zcd k)]⟩) ⟨zaa zad, zab ⟨zdy k, trivial⟩, mixedOk⟩ (body := bodyOf Tryz.f86) (pl := [(1,[(0,0),(1,0),(2,0),(3,0),(4,0),(5,0),(6,0),(7,0),(8,0)],[])]) (M := 400) (cuts := [⟨4,[0,0,5,4,1,0,1,1,1],[0,4,5,6],[.q cGroT, .d (.int .i64), .d (.int .i64), .d (.int .i64)], fun n x => zgp k n x.1 x.2.1 x.2.2.1 x.2.2.2,[]⟩]) (entry := fun n x => zjw k n x) rfl rfl (by decide) (by kernel_rfl) ⟨⟨fun _ => by kernel_rfl, fun _ _ => by kernel_rfl⟩, trivial⟩ (fun _ _ => by kernel_rfl) k
def zc9 (k : Nat) (a0 : ((List NodG) × (List Int))) (a1 : ByteArray) (a2 : Int) : Option ((List NodG) × (List Int)) :=
  ((zee k (a0.1, a0.2,()) a1 a2).bind fun r1 =>
  (bif decide (0 < r1) then
  ((cutM a0.2 0 r1).bind fun r2 =>
  some (a0.1, r2))
  else some (a0.1, a0.2)))
def zfw (k : Nat) : Con := ⟨[.p [.o 97 cNodG, .o 3 (.int .i64)], .d .str, .d (.int .i64)],[], fun x => zc9 k x.1 x.2.1 x.2.2⟩
theorem zjo (k : Nat) : ConOk Tryz.prog 89 (zfw k) :=
  za7 (ps := [.p [.o 97 cNodG, .o 3 (.int .i64)], .d .str, .d (.int .i64)]) (rs := []) (fn := Tryz.f89) (E := ⟨tOf tl, gOf [(94, zcd k)]⟩) ⟨zaa zad, zab ⟨zdy k, trivial⟩, mixedOk⟩ (body := bodyOf Tryz.f89) (pl := []) (M := 400) (cuts := []) (entry := fun n x => zc9 k x.1 x.2.1 x.2.2) rfl rfl (by decide) (by kernel_rfl) trivial (fun _ _ => by kernel_rfl) k
def zeu (a0 : ((List NodG) × (List Int))) (a1 : NodG) (a2 : Int) (a3 : Int) : Option (Int × ((List NodG) × (List Int))) :=
  ((appM 88 a0.1 ([(a1.1, a1.2.1, a1.2.2.1, a2, a1.2.2.2.2.1,())])).bind fun r1 =>
  ((geti r1 a2).bind fun r2 =>
  (geti r1 a2).bind fun r3 =>
  ((cutM r3.2.2.2.2.1 0 a3).bind fun r4 =>
  (cutM r3.2.2.2.2.1 a3 r3.2.2.2.2.1.length).bind fun r5 =>
  (appM 8 ([]) r4).bind fun r6 =>
  (appM 8 r6 ([(a0.1.length : Int)])).bind fun r7 =>
  (appM 8 r7 r5).bind fun r8 =>
  ((geti r1 a2).bind fun r9 =>
  (geti r1 a2).bind fun r10 =>
  (some ((a0.1.length : Int),((r1.set a2.toNat (r10.1, r10.2.1, r10.2.2.1, r10.2.2.2.1, r8,())), a0.2)))))))
def zgn : Con := ⟨[.p [.o 97 cNodG, .o 3 (.int .i64)], .d cNodG, .d (.int .i64), .d (.int .i64)],[.d (.int .i64)], fun x => zeu x.1 x.2.1 x.2.2.1 x.2.2.2⟩
theorem zko : ConOk Tryz.prog 87 (zgn) :=
  za7 (ps := [.p [.o 97 cNodG, .o 3 (.int .i64)], .d cNodG, .d (.int .i64), .d (.int .i64)]) (rs := [.d (.int .i64)]) (fn := Tryz.f87) (E := ⟨tOf tl, gOf []⟩) ⟨zaa zad, zab trivial, mixedOk⟩ (body := bodyOf Tryz.f87) (pl := [(3,[(0,0),(1,0),(2,0),(3,0),(4,0),(5,0),(6,1),(7,1),(8,0),(9,0),(10,2)],[0,5]),(5,[(1,0),(2,0),(3,0),(5,0),(8,0),(9,0),(10,0),(1000,0),(1006,0),(1000,1),(4,1),(1006,1),(7,1),(11,1),(12,1)],[])]) (M := 400) (cuts := []) (entry := fun n x => zeu x.1 x.2.1 x.2.2.1 x.2.2.2) rfl rfl (by decide) (by kernel_rfl) trivial (fun _ _ => by kernel_rfl) 0
def zhn (k : Nat) (y7 : Int) (y8 : Int) (a0 : ((List NodG) × (List Int))) (a1 : ByteArray) (a2 : (List AttT)) : Option ((List NodG) × (List Int)) :=
  (zeu (a0.1, a0.2) (a1,(bs []), a2,0,[],()) y7 y8).bind fun r9 =>
  ((zqz k a1).bind fun r10 =>
  (bif (!r10) then
  ((appM 8 r9.2.2 ([r9.1])).bind fun r11 =>
  some (r9.2.1, r11))
  else some (r9.2.1, r9.2.2)))
def zb0 (k : Nat) (a0 : ((List NodG) × (List Int))) (a1 : ByteArray) (a2 : (List AttT)) : Option ((List NodG) × (List Int)) :=
  ((geti a0.2 (w64 ((a0.2.length : Int) - 1))).bind fun r1 =>
  (geti a0.2 (w64 ((a0.2.length : Int) - 1))).bind fun r2 =>
  ((geti a0.1 r2).bind fun r3 =>
  (geti a0.1 r2).bind fun r4 =>
  ((zdh k (a0.1, a0.2,()) a1).bind fun r5 =>
  (bif r5 then
  ((zhs k (a0.1, a0.2,())).bind fun r6 =>
  (zhn k r6.1 r6.2 a0 a1 a2))
  else (zhn k r2 (r4.2.2.2.2.1.length : Int) a0 a1 a2)))))
def zdz (k : Nat) : Con := ⟨[.p [.o 97 cNodG, .o 3 (.int .i64)], .d .str, .d (.sl cAttT)],[], fun x => zb0 k x.1 x.2.1 x.2.2⟩
theorem zhm (k : Nat) : ConOk Tryz.prog 92 (zdz k) :=
  za7 (ps := [.p [.o 97 cNodG, .o 3 (.int .i64)], .d .str, .d (.sl cAttT)]) (rs := []) (fn := Tryz.f92) (E := ⟨tOf tl, gOf [(85, zdm k),(86, zev k),(87, zgn),(93, zm2 k)]⟩) ⟨zaa zad, zab ⟨zhc k, ziu k, zko, zsw k, trivial⟩, mixedOk⟩ (body := bodyOf Tryz.f92) (pl := [(0,[(0,0),(1,0),(2,0),(3,0),(4,0),(5,0),(6,0),(7,0),(8,0),(9,0),(10,0),(11,0),(12,0)],[1000000])]) (M := 400) (cuts := []) (entry := fun n x => zb0 k x.1 x.2.1 x.2.2) rfl rfl (by decide) (by kernel_rfl) trivial (fun _ _ => by kernel_rfl) k
def zjr (k : Nat) (y4 : (List NodG)) (y5 : (List Int)) (a1 : ByteArray) (a2 : (List AttT)) : Option ((List NodG) × (List Int)) :=
  (bif decide (a1 = (bs [108,105])) then
  ((zcy k (y4, y5,()) (bs [117,108]) (bs [116,100])).bind fun r6 =>
  (zc9 k (y4, y5) (bs [108,105]) r6).bind fun r7 =>
  ((zb0 k (r7.1, r7.2) a1 a2).bind fun r16 =>
  some (r16.1, r16.2)))
  else (bif decide (a1 = (bs [116,114])) then
  ((zcy k (y4, y5,()) (bs [116,97,98,108,101]) (bs [116,97,98,108,101])).bind fun r8 =>
  (zc9 k (y4, y5) (bs [116,114]) r8).bind fun r9 =>
  ((zb0 k (r9.1, r9.2) a1 a2).bind fun r16 =>
  some (r16.1, r16.2)))
  else (bif decide (a1 = (bs [116,100])) then
  ((zcy k (y4, y5,()) (bs [116,114]) (bs [116,114])).bind fun r10 =>
  (zc9 k (y4, y5) (bs [116,100]) r10).bind fun r11 =>
  ((ze1 (r11.1, r11.2,())).bind fun r12 =>
  (bif decide (r12 = (bs [116,97,98,108,101])) then
  ((zb0 k (r11.1, r11.2) (bs [116,114]) ([])).bind fun r13 =>
  ((zb0 k (r13.1, r13.2) a1 a2).bind fun r16 =>
  some (r16.1, r16.2)))
  else ((zb0 k (r11.1, r11.2) a1 a2).bind fun r16 =>
  some (r16.1, r16.2)))))
  else ((zb0 k (y4, y5) a1 a2).bind fun r16 =>
  some (r16.1, r16.2)))))
def zgd (k : Nat) (a0 : ((List NodG) × (List Int))) (a1 : ByteArray) (a2 : (List AttT)) : Option ((List NodG) × (List Int)) :=
  ((zs2 k a1).bind fun r1 =>
  (bif r1 then
  ((zcy k (a0.1, a0.2,()) (bs [116,100]) (bs [116,100])).bind fun r2 =>
  (zc9 k (a0.1, a0.2) (bs [112]) r2).bind fun r3 =>
  (zjr k r3.1 r3.2 a1 a2))
  else (zjr k a0.1 a0.2 a1 a2)))
def zfy (k : Nat) : Con := ⟨[.p [.o 97 cNodG, .o 3 (.int .i64)], .d .str, .d (.sl cAttT)],[], fun x => zgd k x.1 x.2.1 x.2.2⟩
theorem zjq (k : Nat) : ConOk Tryz.prog 49 (zfy k) :=
  za7 (ps := [.p [.o 97 cNodG, .o 3 (.int .i64)], .d .str, .d (.sl cAttT)]) (rs := []) (fn := Tryz.f49) (E := ⟨tOf tl, gOf [(88, zp4 k),(89, zfw k),(90, zfz k),(91, ze0),(92, zdz k)]⟩) ⟨zaa zad, zab ⟨zwv k, zjo k, zjs k, zho, zhm k, trivial⟩, mixedOk⟩ (body := bodyOf Tryz.f49) (pl := []) (M := 400) (cuts := []) (entry := fun n x => zgd k x.1 x.2.1 x.2.2) rfl rfl (by decide) (by kernel_rfl) trivial (fun _ _ => by kernel_rfl) k
def zit (k : Nat) (a1 : ByteArray) (a0 : ((List NodG) × (List Int))) (r2 : Int) (r4 : NodG) : Option ((List NodG) × (List Int)) :=
  (bif decide (a1 ≠ (bs [])) then
  ((zeu (a0.1, a0.2) ((bs []), a1,[],0,[],()) r2 (r4.2.2.2.2.1.length : Int)).bind fun r19 =>
  some (r19.2.1, r19.2.2))
  else some (a0.1, a0.2))
def zhp (k : Nat) (a1 : ByteArray) (a0 : ((List NodG) × (List Int))) (r21 : (Int × Int)) : Option ((List NodG) × (List Int)) :=
  (bif decide (a1 ≠ (bs [])) then
  ((zeu (a0.1, a0.2) ((bs []), a1,[],0,[],()) r21.1 r21.2).bind fun r35 =>
  some (r35.2.1, r35.2.2))
  else some (a0.1, a0.2))
def ze2 (k : Nat) : Nat → ((List NodG) × (List Int)) → ByteArray → Bool → (ByteArray × Nat) → Option ((List NodG) × (List Int))
  | 0, _, _, _, _ => none
  | n + 1, a0, a1, v6, v34 =>
  bif decide (v34.2 < v34.1.size) then
  (bif v6 then
  (zbt ((Utf8.decode v34.1 v34.2).1 : Int)).bind fun r20 =>
  (ze2 k n) (a0.1, a0.2) a1 r20 (v34.1,(v34.2 + (Utf8.decode v34.1 v34.2).2))
  else (ze2 k n) (a0.1, a0.2) a1 false (v34.1,(v34.2 + (Utf8.decode v34.1 v34.2).2)))
  else (bif v6 then
  some (a0.1, a0.2)
  else ((zhs k (a0.1, a0.2,())).bind fun r21 =>
  (bif decide (0 < r21.2) then
  (geti a0.1 r21.1).bind fun r22 =>
  (geti a0.1 r21.1).bind fun r23 =>
  (geti r23.2.2.2.2.1 (w64 (r21.2 - 1))).bind fun r24 =>
  (geti a0.1 r24).bind fun r25 =>
  (geti a0.1 r24).bind fun r26 =>
  (bif decide (r26.1 = (bs [])) then
  ((geti a0.1 r21.1).bind fun r27 =>
  (geti a0.1 r21.1).bind fun r28 =>
  (geti r28.2.2.2.2.1 (w64 (r21.2 - 1))).bind fun r29 =>
  ((geti a0.1 r29).bind fun r30 =>
  (geti a0.1 r29).bind fun r31 =>
  (addS r31.2.1 a1).bind fun r32 =>
  (geti a0.1 r29).bind fun r33 =>
  (geti a0.1 r29).bind fun r34 =>
  some ((a0.1.set r29.toNat (r34.1, r32, r34.2.2.1, r34.2.2.2.1, r34.2.2.2.2.1,())), a0.2)))
  else (zhp k a1 a0 r21))
  else (zhp k a1 a0 r21))))
def zjv (k : Nat) (n : Nat) (a0 : ((List NodG) × (List Int))) (a1 : ByteArray) : Option ((List NodG) × (List Int)) :=
  ((geti a0.2 (w64 ((a0.2.length : Int) - 1))).bind fun r1 =>
  (geti a0.2 (w64 ((a0.2.length : Int) - 1))).bind fun r2 =>
  ((geti a0.1 r2).bind fun r3 =>
  (geti a0.1 r2).bind fun r4 =>
  ((zdh k (a0.1, a0.2,()) (bs [])).bind fun r5 =>
  (bif r5 then
  ((ze2 k n) (a0.1, a0.2) a1 true (a1,0))
  else (bif decide (0 < (r4.2.2.2.2.1.length : Int)) then
  (geti a0.1 r2).bind fun r6 =>
  (geti a0.1 r2).bind fun r7 =>
  (geti r7.2.2.2.2.1 (w64 ((r4.2.2.2.2.1.length : Int) - 1))).bind fun r8 =>
  (geti a0.1 r8).bind fun r9 =>
  (geti a0.1 r8).bind fun r10 =>
  (bif decide (r10.1 = (bs [])) then
  ((geti a0.1 r2).bind fun r11 =>
  (geti a0.1 r2).bind fun r12 =>
  (geti r12.2.2.2.2.1 (w64 ((r4.2.2.2.2.1.length : Int) - 1))).bind fun r13 =>
  ((geti a0.1 r13).bind fun r14 =>
  (geti a0.1 r13).bind fun r15 =>
  (addS r15.2.1 a1).bind fun r16 =>
  (geti a0.1 r13).bind fun r17 =>
  (geti a0.1 r13).bind fun r18 =>
  some ((a0.1.set r13.toNat (r18.1, r16, r18.2.2.1, r18.2.2.2.1, r18.2.2.2.2.1,())), a0.2)))
  else (zit k a1 a0 r2 r4))
  else (zit k a1 a0 r2 r4))))))
def zlj (k : Nat) (a0 : ((List NodG) × (List Int))) (a1 : ByteArray) : Option ((List NodG) × (List Int)) := zjv k k a0 a1
def zii (k : Nat) : Con := ⟨[.p [.o 97 cNodG, .o 3 (.int .i64)], .d .str],[], fun x => zlj k x.1 x.2⟩
theorem zov (k : Nat) : ConOk Tryz.prog 48 (zii k) :=
  za7 (ps := [.p [.o 97 cNodG, .o 3 (.int .i64)], .d .str]) (rs := []) (fn := Tryz.f48) (E := ⟨tOf tl, gOf [(45, zbw),(85, zdm k),(86, zev k),(87, zgn)]⟩) ⟨zaa zad, zab ⟨zd5, zhc k, ziu k, zko, trivial⟩, mixedOk⟩ (body := bodyOf Tryz.f48) (pl := [(0,[(0,0),(1,0),(2,0),(3,0),(4,0),(5,0),(6,0),(7,0),(8,0),(9,0),(10,0),(11,0),(12,0)],[1000000]),(10,[(0,0),(1,0),(2,0),(3,0),(4,0),(5,0),(6,0),(7,0),(8,0),(9,0),(10,0),(11,0),(12,0),(13,0),(14,0),(15,0),(16,0),(17,0),(18,0),(19,0),(20,0),(21,0),(22,0),(23,0)],[1000000]),(12,[(0,0),(1,0),(2,0),(3,0),(4,0),(5,0),(6,0),(7,0),(8,0),(9,0),(10,0),(11,0),(12,0),(13,0),(14,0),(15,0),(16,0),(17,2)],[1000000])]) (M := 400) (cuts := [⟨5,[0,5,4,1,0,1,2,1,0,1,1],[0,1,6,34],[.p [.o 97 cNodG, .o 3 (.int .i64)], .d .str, .d .bool, .g], fun n x => ze2 k n x.1 x.2.1 x.2.2.1 x.2.2.2,[]⟩]) (entry := fun n x => zjv k n x.1 x.2) rfl rfl (by decide) (by kernel_rfl) ⟨⟨fun _ => by kernel_rfl, fun _ _ => by kernel_rfl⟩, trivial⟩ (fun _ _ => by kernel_rfl) k
def zdi (k : Nat) (J14 : ((List NodG) × (List Int)) → (List Int) → (List Int) → Int → Option ((List NodG) × (List Int))) (y3 : Int) (a0 : ((List NodG) × (List Int))) (a1 : ByteArray) : Option ((List NodG) × (List Int)) :=
  (zee k (a0.1, a0.2,()) a1 y3).bind fun r4 =>
  (bif decide (r4 < 0) then
  (bif decide (a1 = (bs [112])) then
  ((zgd k (a0.1, a0.2) (bs [112]) ([])).bind fun r5 =>
  ((zc9 k (r5.1, r5.2) (bs [112]) 0).bind fun r6 =>
  some (r6.1, r6.2)))
  else some (a0.1, a0.2))
  else ((cutM a0.2 (w64 (r4 + 1)) (a0.2.length : Int)).bind fun r7 =>
  (cutM a0.2 (w64 (r4 + 1)) (a0.2.length : Int)).bind fun r8 =>
  (appM 8 ([]) r8).bind fun r9 =>
  ((cutM a0.2 0 r4).bind fun r10 =>
  ((zr1 k a1).bind fun r11 =>
  (bif (!r11) then
  some (a0.1, r10)
  else (J14 (a0.1, r10) r9 ([]) 0))))))
mutual
def zbd (k : Nat) : Nat → ((List NodG) × (List Int)) → (List Int) → (List Int) → Int → Option ((List NodG) × (List Int))
  | 0, _, _, _, _ => none
  | n + 1, a0, v6, v7, v8 =>
  (bif decide (v8 < (v6.length : Int)) then
  ((geti v6 v8).bind fun r12 =>
  (geti a0.1 r12).bind fun r13 =>
  (geti a0.1 r12).bind fun r14 =>
  (zr1 k r14.1).bind fun r15 =>
  (bif r15 then
  ((geti v6 v8).bind fun r16 =>
  (appM 8 v7 ([r16])).bind fun r17 =>
  ((zbd k n) (a0.1, a0.2) v6 r17 (w64 (v8 + 1))))
  else ((zbd k n) (a0.1, a0.2) v6 v7 (w64 (v8 + 1)))))
  else (bif decide (8 < (v7.length : Int)) then
  ((cutM v7 (w64 ((v7.length : Int) - 8)) (v7.length : Int)).bind fun r19 =>
  ((cutM v7 (w64 ((v7.length : Int) - 8)) (v7.length : Int)).bind fun r20 =>
  (zdj k n) (a0.1, a0.2) r20 0))
  else ((zdj k n) (a0.1, a0.2) v7 0)))
def zdj (k : Nat) : Nat → ((List NodG) × (List Int)) → (List Int) → Int → Option ((List NodG) × (List Int))
  | 0, _, _, _ => none
  | n + 1, a0, v7, v9 =>
  (bif decide (v9 < (v7.length : Int)) then
  ((geti v7 v9).bind fun r21 =>
  (geti a0.1 r21).bind fun r22 =>
  (geti a0.1 r21).bind fun r23 =>
  ((zb0 k (a0.1, a0.2) r23.1 r23.2.2.1).bind fun r24 =>
  ((zdj k n) (r24.1, r24.2) v7 (w64 (v9 + 1)))))
  else some (a0.1, a0.2))
end
def zju (k : Nat) (n : Nat) (a0 : ((List NodG) × (List Int))) (a1 : ByteArray) : Option ((List NodG) × (List Int)) :=
  ((zqz k a1).bind fun r1 =>
  bif r1 then
  (some (a0.1, a0.2))
  else (bif decide (a1 = (bs [114,111,111,116])) then
  some (a0.1, a0.2)
  else (bif decide (a1 ≠ (bs [116,100])) then
  bif decide (a1 ≠ (bs [116,114])) then
  (bif decide (a1 ≠ (bs [116,97,98,108,101])) then
  ((zcy k (a0.1, a0.2,()) (bs [116,100]) (bs [116,100])).bind fun r2 =>
  (zdi k (zbd k n) r2 a0 a1))
  else (zdi k (zbd k n) 0 a0 a1))
  else (zdi k (zbd k n) 0 a0 a1)
  else (zdi k (zbd k n) 0 a0 a1))))
def zli (k : Nat) (a0 : ((List NodG) × (List Int))) (a1 : ByteArray) : Option ((List NodG) × (List Int)) := zju k k a0 a1
def zih (k : Nat) : Con := ⟨[.p [.o 97 cNodG, .o 3 (.int .i64)], .d .str],[], fun x => zli k x.1 x.2⟩
theorem zou (k : Nat) : ConOk Tryz.prog 50 (zih k) :=
  za7 (ps := [.p [.o 97 cNodG, .o 3 (.int .i64)], .d .str]) (rs := []) (fn := Tryz.f50) (E := ⟨tOf tl, gOf [(49, zfy k),(89, zfw k),(90, zfz k),(92, zdz k),(93, zm2 k),(94, zcd k),(95, zr0 k)]⟩) ⟨zaa zad, zab ⟨zjq k, zjo k, zjs k, zhm k, zsw k, zdy k, zyg k, trivial⟩, mixedOk⟩ (body := bodyOf Tryz.f50) (pl := [(16,[(0,0),(1,0),(2,0),(3,0),(4,0),(5,0),(6,0),(7,0),(8,0),(9,0),(10,0),(11,0)],[1000000]),(23,[(0,0),(1,0),(2,0),(3,0),(4,0),(5,0),(6,0),(7,0),(8,0),(9,0),(10,1),(11,1)],[1000000])]) (M := 400) (cuts := [⟨14,[0,0,5,4,1,0,1,1,1,1,1,1,1,1,1],[0,6,7,8],[.p [.o 97 cNodG, .o 3 (.int .i64)], .d (.sl (.int .i64)), .o 3 (.int .i64), .d (.int .i64)], fun n x => zbd k n x.1 x.2.1 x.2.2.1 x.2.2.2,[]⟩, ⟨21,[0,0,5,4,1,1,1,1,1,1,1,1,1,1,1,1],[0,7,9],[.p [.o 97 cNodG, .o 3 (.int .i64)], .d (.sl (.int .i64)), .d (.int .i64)], fun n x => zdj k n x.1 x.2.1 x.2.2,[]⟩]) (entry := fun n x => zju k n x.1 x.2) rfl rfl (by decide) (by kernel_rfl) ⟨⟨fun _ => by kernel_rfl, fun _ _ => by kernel_rfl⟩, ⟨fun _ => by kernel_rfl, fun _ _ => by kernel_rfl⟩, trivial⟩ (fun _ _ => by kernel_rfl) k
def zha (k : Nat) (S : GroT → Int → Int → Option ParT) : Nat → GroT → Int → (ByteArray × ByteArray × (List AttT) × (List ParT)) → NodG → (ByteArray × ByteArray × (List AttT) × (List ParT)) → Int → Option ParT
  | 0, _, _, _, _, _, _ => none
  | n + 1, a0, a2, v6, v7, v8, v9 =>
  bif decide (v9 < (v7.2.2.2.2.1.length : Int)) then
  (bif decide (0 < a2) then
  ((geti v7.2.2.2.2.1 v9).bind fun r2 =>
  (S a0 r2 (w64 (a2 - 1))).bind fun r3 =>
  (appM 80 v8.2.2.2 ([(Tr.mk r3.x r3.kids)])).bind fun r4 =>
  ((zha k S n) a0 a2 (v6.1, v6.2.1, v6.2.2.1, v6.2.2.2) v7 (v8.1, v8.2.1, v8.2.2.1, r4) (w64 (v9 + 1))))
  else (some (Tr.mk (v8.1, v8.2.1, v8.2.2.1,()) v8.2.2.2)))
  else (some (Tr.mk (v8.1, v8.2.1, v8.2.2.1,()) v8.2.2.2))
def zkp (k : Nat) (S : GroT → Int → Int → Option ParT) (n : Nat) (a0 : GroT) (a1 : Int) (a2 : Int) : Option ParT :=
  ((geti a0.1 a1).bind fun r1 =>
  ((zha k S n) a0 a2 ((bs []),(bs []),[],[]) r1 (r1.1, r1.2.1, r1.2.2.1,[]) 0))
def zed : Nat → GroT → Int → Int → Option ParT
  | 0, _, _, _ => none
  | k + 1, a0, a1, a2 => zkp k (fun a0 a1 a2 => zed k a0 a1 a2) k a0 a1 a2
def zfx (k : Nat) : Con := ⟨[.b cGroT, .d (.int .i64), .d (.int .i64)],[.d cParT], fun x => zed k x.1 x.2.1 x.2.2⟩
theorem zjp : (k : Nat) → ConOk Tryz.prog 53 (zfx k)
  | 0 => con0 ⟨Tryz.f53, rfl, rfl, by decide⟩
  | k + 1 => za7 (ps := [.b cGroT, .d (.int .i64), .d (.int .i64)]) (rs := [.d cParT]) (fn := Tryz.f53) (E := ⟨tOf tl, gOf [(53, zfx k)]⟩) ⟨zaa zad, zab ⟨zjp k, trivial⟩, mixedOk⟩ (body := bodyOf Tryz.f53) (pl := [(6,[(0,0),(1,0),(2,0),(3,0),(4,0),(5,0),(6,0),(7,0),(8,0),(9,0),(10,1),(11,1),(12,1),(13,0),(14,2)],[7,8])]) (M := 400) (cuts := [⟨4,[0,0,5,4,1,0,1,1,1],[0,2,6,7,8,9],[.b cGroT, .d (.int .i64), .p [.d .str, .d .str, .d (.sl cAttT), .o 109 cParT], .p [.d cNodG], .p [.d .str, .d .str, .d (.sl cAttT), .o 109 cParT], .d (.int .i64)], fun n x => zha k (zed k) n x.1 x.2.1 x.2.2.1 x.2.2.2.1 x.2.2.2.2.1 x.2.2.2.2.2,[]⟩]) (entry := fun n x => zkp k (zed k) n x.1 x.2.1 x.2.2) rfl rfl (by decide) (by kernel_rfl) ⟨⟨fun _ => by kernel_rfl, fun _ _ => by kernel_rfl⟩, trivial⟩ (fun _ _ => by kernel_rfl) k
def ztz (k : Nat) (S : (List NodT) → ParT → Int → Int → Option (List NodT)) (J10 : (List NodT) → ParT → Int → Int → Int → Option (List NodT)) (y4 : (List NodT)) (a1 : ParT) (a0 : (List NodT)) : Option (List NodT) :=
  (bif decide (a1.x.1 = (bs [])) then
  (some y4)
  else (J10 y4 (Tr.mk a1.x a1.kids) (a0.length : Int) (-1) 0))
def zjx (k : Nat) (S : (List NodT) → ParT → Int → Int → Option (List NodT)) : Nat → (List NodT) → ParT → Int → Int → Int → Option (List NodT)
  | 0, _, _, _, _, _ => none
  | n + 1, a0, v5, v9, v11, v12 =>
  (bif decide (v12 < (v5.kids.length : Int)) then
  ((geti v5.kids v12).bind fun r5 =>
  (S a0 (Tr.mk r5.x r5.kids) v9 v11).bind fun r6 =>
  (bif decide (0 ≤ v11) then
  ((geti r6 v11).bind fun r7 =>
  (geti r6 v11).bind fun r8 =>
  (((zjx k S n) (r6.set v11.toNat (zld r8 (a0.length : Int))) (Tr.mk v5.x v5.kids) v9 (a0.length : Int) (w64 (v12 + 1)))))
  else ((geti r6 v9).bind fun r9 =>
  (geti r6 v9).bind fun r10 =>
  (((zjx k S n) (r6.set v9.toNat (zmp r10 (a0.length : Int))) (Tr.mk v5.x v5.kids) v9 (a0.length : Int) (w64 (v12 + 1)))))))
  else ((geti a0 v9).bind fun r12 =>
  (geti a0 v9).bind fun r13 =>
  (some (a0.set v9.toNat (zir r13 v11)))))
def zw1 (k : Nat) (S : (List NodT) → ParT → Int → Int → Option (List NodT)) (n : Nat) (a0 : (List NodT)) (a1 : ParT) (a2 : Int) (a3 : Int) : Option (List NodT) :=
  (bif decide (a1.x.1 ≠ (bs [])) then
  ((appM 32 ([]) a1.x.2.2.1).bind fun r1 =>
  ((appM 104 a0 ([(1, a1.x.1,(bs []), r1, a2,(-1),(-1), a3,(-1),())])).bind fun r3 =>
  (ztz k S (zjx k S n) r3 a1 a0)))
  else ((appM 104 a0 ([(2,(bs []), a1.x.2.1,[], a2,(-1),(-1), a3,(-1),())])).bind fun r2 =>
  (ztz k S (zjx k S n) r2 a1 a0)))
def zr2 : Nat → (List NodT) → ParT → Int → Int → Option (List NodT)
  | 0, _, _, _, _ => none
  | k + 1, a0, a1, a2, a3 => zw1 k (fun a0 a1 a2 a3 => zr2 k a0 a1 a2 a3) k a0 a1 a2 a3
def zna (k : Nat) : Con := ⟨[.o 57 cNodT, .d cParT, .d (.int .i64), .d (.int .i64)],[.o 57 cNodT], fun x => zr2 k x.1 x.2.1 x.2.2.1 x.2.2.2⟩
theorem zty : (k : Nat) → ConOk Tryz.prog 52 (zna k)
  | 0 => con0 ⟨Tryz.f52, rfl, rfl, by decide⟩
  | k + 1 => za7 (ps := [.o 57 cNodT, .d cParT, .d (.int .i64), .d (.int .i64)]) (rs := [.o 57 cNodT]) (fn := Tryz.f52) (E := ⟨tOf tl, gOf [(52, zna k)]⟩) ⟨zaa zad, zab ⟨zty k, trivial⟩, mixedOk⟩ (body := bodyOf Tryz.f52) (pl := [(4,[(0,0),(1,0),(3,0),(4,0),(6,0),(7,0),(2,1),(5,1),(8,1),(9,1)],[5])]) (M := 400) (cuts := [⟨10,[0,0,5,4,1,0,1,1,1,1,1,1,1],[0,5,9,11,12],[.o 57 cNodT, .p [.d cParT], .d (.int .i64), .d (.int .i64), .d (.int .i64)], fun n x => zjx k (zr2 k) n x.1 x.2.1 x.2.2.1 x.2.2.2.1 x.2.2.2.2,[]⟩]) (entry := fun n x => zw1 k (zr2 k) n x.1 x.2.1 x.2.2.1 x.2.2.2) rfl rfl (by decide) (by kernel_rfl) ⟨⟨fun _ => by kernel_rfl, fun _ _ => by kernel_rfl⟩, trivial⟩ (fun _ _ => by kernel_rfl) k
mutual
def zgw (k : Nat) : Nat → (List TokT) → TreT → ((List NodG) × (List Int)) → Bool → Int → Option (TreT × Int)
  | 0, _, _, _, _, _ => none
  | n + 1, a0, v2, v4, v5, v6 =>
  (bif decide (v6 < (a0.length : Int)) then
  ((geti a0 v6).bind fun r1 =>
  (bif decide (r1.1 = 1) then
  ((geti a0 v6).bind fun r2 =>
  (zlj k (v4.1, v4.2) r2.2.2.1).bind fun r3 =>
  ((zgw k n) a0 v2 (r3.1, r3.2) v5 (w64 (v6 + 1))))
  else (bif decide (r1.1 = 2) then
  ((geti a0 v6).bind fun r4 =>
  (geti a0 v6).bind fun r5 =>
  (zgd k (v4.1, v4.2) r4.2.1 r5.2.2.2.1).bind fun r6 =>
  ((zgw k n) a0 v2 (r6.1, r6.2) v5 (w64 (v6 + 1))))
  else (bif decide (r1.1 = 3) then
  ((geti a0 v6).bind fun r7 =>
  (zli k (v4.1, v4.2) r7.2.1).bind fun r8 =>
  ((zgw k n) a0 v2 (r8.1, r8.2) v5 (w64 (v6 + 1))))
  else ((zgw k n) a0 v2 (v4.1, v4.2) v5 (w64 (v6 + 1)))))))
  else ((zix k n) v2 (v4.1, v4.2) v5 0))
def zix (k : Nat) : Nat → TreT → ((List NodG) × (List Int)) → Bool → Int → Option (TreT × Int)
  | 0, _, _, _, _ => none
  | n + 1, v2, v4, v5, v7 =>
  (bif decide (v7 < (v4.1.length : Int)) then
  (bif v5 then
  ((zix k n) v2 (v4.1, v4.2) true (w64 (v7 + 1)))
  else (zlh k (v4.1, v4.2,()) v7).bind fun r11 =>
  ((zix k n) v2 (v4.1, v4.2) (decide (256 < r11)) (w64 (v7 + 1))))
  else (bif decide (4096 < (v4.1.length : Int)) then
  (some (([],()),4))
  else (bif v5 then
  (some (([],()),5))
  else ((zed k (v4.1, v4.2,()) 0 256).bind fun r13 =>
  (zr2 k ([]) (Tr.mk r13.x r13.kids) (-1) (-1)).bind fun r14 =>
  some ((r14,()),0)))))
end
def zsx (k : Nat) (n : Nat) (a0 : (List TokT)) : Option (TreT × Int) :=
  ((zgw k n) a0 ([],()) ([((bs [114,111,111,116]),(bs []),[],(-1),[],())],[0]) false 0)
def zw0 (k : Nat) (a0 : (List TokT)) : Option (TreT × Int) := zsx k k a0
def zp3 (k : Nat) : Con := ⟨[.d (.sl cTokT)],[.d cTreT, .d (.int .i64)], fun x => zw0 k x⟩
theorem zwu (k : Nat) : ConOk Tryz.prog 29 (zp3 k) :=
  za7 (ps := [.d (.sl cTokT)]) (rs := [.d cTreT, .d (.int .i64)]) (fn := Tryz.f29) (E := ⟨tOf tl, gOf [(48, zii k),(49, zfy k),(50, zih k),(51, zig k),(52, zna k),(53, zfx k)]⟩) ⟨zaa zad, zab ⟨zov k, zjq k, zou k, zot k, zty k, zjp k, trivial⟩, mixedOk⟩ (body := bodyOf Tryz.f29) (pl := [(10,[(0,0),(1,0),(2,0),(3,0),(4,0),(5,0),(6,0),(7,0),(8,0),(9,0),(10,0),(11,1)],[])]) (M := 400) (cuts := [⟨4,[0,0,5,4,1,0,1,1,1],[0,2,4,5,6],[.d (.sl cTokT), .p [.d cTreT], .p [.o 97 cNodG, .o 3 (.int .i64)], .d .bool, .d (.int .i64)], fun n x => zgw k n x.1 x.2.1 x.2.2.1 x.2.2.2.1 x.2.2.2.2,[]⟩, ⟨14,[0,0,5,4,1,0,1,1,1,1],[2,4,5,7],[.p [.d cTreT], .p [.o 97 cNodG, .o 3 (.int .i64)], .d .bool, .d (.int .i64)], fun n x => zix k n x.1 x.2.1 x.2.2.1 x.2.2.2,[]⟩]) (entry := fun n x => zsx k n x) rfl rfl (by decide) (by kernel_rfl) ⟨⟨fun _ => by kernel_rfl, fun _ _ => by kernel_rfl⟩, ⟨fun _ => by kernel_rfl, fun _ _ => by kernel_rfl⟩, trivial⟩ (fun _ _ => by kernel_rfl) k
mutual
def zew : Nat → (List AttT) → Int → Option Bool
  | 0, _, _ => none
  | n + 1, a0, v3 =>
  (bif decide (v3 < (a0.length : Int)) then
  ((geti a0 v3).bind fun r1 =>
  (bif decide (r1.1 = (bs [])) then
  (some false)
  else ((zgx n) a0 v3 0)))
  else (some (decide ((a0.length : Int) ≤ 64))))
def zgx : Nat → (List AttT) → Int → Int → Option Bool
  | 0, _, _, _ => none
  | n + 1, a0, v3, v4 =>
  (bif decide (v4 < v3) then
  ((geti a0 v4).bind fun r2 =>
  (geti a0 v3).bind fun r3 =>
  (bif decide (r2.1 = r3.1) then
  (some false)
  else ((zgx n) a0 v3 (w64 (v4 + 1)))))
  else ((zew n) a0 (w64 (v3 + 1))))
end
def zn9 (n : Nat) (a0 : (List AttT)) : Option Bool :=
  ((zew n) a0 0)
def zs3 (k : Nat) (a0 : (List AttT)) : Option Bool := zn9 k a0
def zp6 (k : Nat) : Con := ⟨[.d (.sl cAttT)],[.d .bool], fun x => zs3 k x⟩
theorem zwx (k : Nat) : ConOk Tryz.prog 104 (zp6 k) :=
  za7 (ps := [.d (.sl cAttT)]) (rs := [.d .bool]) (fn := Tryz.f104) (E := ⟨tOf tl, gOf []⟩) ⟨zaa zad, zab trivial, mixedOk⟩ (body := bodyOf Tryz.f104) (pl := [(9,[(0,0),(1,0),(2,0),(3,0),(4,0),(5,0),(6,0),(7,0),(8,0),(9,0),(10,0)],[])]) (M := 400) (cuts := [⟨2,[0,0,5,4,1,0,1],[0,3],[.d (.sl cAttT), .d (.int .i64)], fun n x => zew n x.1 x.2,[]⟩, ⟨7,[0,0,5,4,1,1,4,0,1,5,4,1,0,1],[0,3,4],[.d (.sl cAttT), .d (.int .i64), .d (.int .i64)], fun n x => zgx n x.1 x.2.1 x.2.2,[]⟩]) (entry := fun n x => zn9 n x) rfl rfl (by decide) (by kernel_rfl) ⟨⟨fun _ => by kernel_rfl, fun _ _ => by kernel_rfl⟩, ⟨fun _ => by kernel_rfl, fun _ _ => by kernel_rfl⟩, trivial⟩ (fun _ _ => by kernel_rfl) k
def zlk (k : Nat) (a0 : NodT) : Option Bool :=
  (bif decide (a0.1 = 1) then
  (bif decide (a0.2.1 ≠ (bs [])) then
  bif decide (a0.2.2.1 = (bs [])) then
  (zs3 k a0.2.2.2.1).bind fun r1 =>
  some r1
  else some false
  else some false)
  else (bif decide (a0.1 = 2) then
  bif decide (a0.2.1 = (bs [])) then
  bif decide (a0.2.2.1 ≠ (bs [])) then
  bif decide ((a0.2.2.2.1.length : Int) = 0) then
  bif decide (a0.2.2.2.2.2.1 = (-1)) then
  some (decide (a0.2.2.2.2.2.2.1 = (-1)))
  else some false
  else some false
  else some false
  else some false
  else some false))
def zp5 (k : Nat) : Con := ⟨[.d cNodT],[.d .bool], fun x => zlk k x⟩
theorem zww (k : Nat) : ConOk Tryz.prog 68 (zp5 k) :=
  za7 (ps := [.d cNodT]) (rs := [.d .bool]) (fn := Tryz.f68) (E := ⟨tOf tl, gOf [(104, zp6 k)]⟩) ⟨zaa zad, zab ⟨zwx k, trivial⟩, mixedOk⟩ (body := bodyOf Tryz.f68) (pl := []) (M := 400) (cuts := []) (entry := fun n x => zlk k x) rfl rfl (by decide) (by kernel_rfl) trivial (fun _ _ => by kernel_rfl) k
def zge (k : Nat) (J13 : (List NodT) → (List NodT) → Int → (List Int) → Int → Option Int) (y29 : (List NodT)) (v8 : Int) (v3 : (List NodT)) (v7 : Int) (y16 : Int) (r15 : (List Int)) : Option Int :=
  (geti y29 v8).bind fun r30 =>
  (geti y29 v8).bind fun r31 =>
  (J13 v3 (y29.set v8.toNat (zir r31 v7)) y16 r15 (w64 (v7 + 1)))
def zgf (k : Nat) (J13 : (List NodT) → (List NodT) → Int → (List Int) → Int → Option Int) (y16 : Int) (v4 : (List NodT)) (v8 : Int) (v7 : Int) (v3 : (List NodT)) (r15 : (List Int)) : Option Int :=
  (geti v4 v8).bind fun r17 =>
  (geti v4 v8).bind fun r18 =>
  (geti v4 v7).bind fun r19 =>
  (geti v4 v7).bind fun r20 =>
  ((geti (v4.set v7.toNat (0,(bs []),(bs []),[], v8,(-1),(-1), r18.2.2.2.2.2.2.1,(-1),())) v8).bind fun r21 =>
  (geti (v4.set v7.toNat (0,(bs []),(bs []),[], v8,(-1),(-1), r18.2.2.2.2.2.2.1,(-1),())) v8).bind fun r22 =>
  (bif decide (0 ≤ r22.2.2.2.2.2.2.1) then
  ((geti (v4.set v7.toNat (0,(bs []),(bs []),[], v8,(-1),(-1), r18.2.2.2.2.2.2.1,(-1),())) v8).bind fun r23 =>
  (geti (v4.set v7.toNat (0,(bs []),(bs []),[], v8,(-1),(-1), r18.2.2.2.2.2.2.1,(-1),())) v8).bind fun r24 =>
  (geti (v4.set v7.toNat (0,(bs []),(bs []),[], v8,(-1),(-1), r18.2.2.2.2.2.2.1,(-1),())) r24.2.2.2.2.2.2.1).bind fun r25 =>
  (geti (v4.set v7.toNat (0,(bs []),(bs []),[], v8,(-1),(-1), r18.2.2.2.2.2.2.1,(-1),())) r24.2.2.2.2.2.2.1).bind fun r26 =>
  (zge k J13 ((v4.set v7.toNat (0,(bs []),(bs []),[], v8,(-1),(-1), r18.2.2.2.2.2.2.1,(-1),())).set r24.2.2.2.2.2.2.1.toNat (zld r26 v7)) v8 v3 v7 y16 r15))
  else ((geti (v4.set v7.toNat (0,(bs []),(bs []),[], v8,(-1),(-1), r18.2.2.2.2.2.2.1,(-1),())) v8).bind fun r27 =>
  (geti (v4.set v7.toNat (0,(bs []),(bs []),[], v8,(-1),(-1), r18.2.2.2.2.2.2.1,(-1),())) v8).bind fun r28 =>
  (zge k J13 ((v4.set v7.toNat (0,(bs []),(bs []),[], v8,(-1),(-1), r18.2.2.2.2.2.2.1,(-1),())).set v8.toNat (zmp r28 v7)) v8 v3 v7 y16 r15))))
def zgg (k : Nat) (J13 : (List NodT) → (List NodT) → Int → (List Int) → Int → Option Int) (v6 : (List Int)) (v3 : (List NodT)) (v8 : Int) (v7 : Int) (v5 : Int) (v4 : (List NodT)) : Option Int :=
  bif decide ((v6.length : Int) = 0) then
  (some 10)
  else (geti v3 v8).bind fun r14 =>
  (bif decide (r14.1 ≠ 1) then
  (some 10)
  else ((appM 8 v6 ([v7])).bind fun r15 =>
  (bif decide (v5 < (r15.length : Int)) then
  (zgf k J13 (r15.length : Int) v4 v8 v7 v3 r15)
  else (zgf k J13 v5 v4 v8 v7 v3 r15))))
mutual
def zb5 (k : Nat) : Nat → (List NodT) → (List NodT) → Int → (List Int) → Int → Option Int
  | 0, _, _, _, _, _ => none
  | n + 1, v3, v4, v5, v6, v7 =>
  (bif decide (v7 < (v3.length : Int)) then
  ((geti v3 v7).bind fun r8 =>
  (zlk k r8).bind fun r9 =>
  (bif (!r9) then
  (some 10)
  else (bif decide (v7 = 0) then
  ((zb5 k n) v3 v4 v5 v6 (w64 (v7 + 1)))
  else ((geti v3 v7).bind fun r10 =>
  (zfe k n) v3 v4 v5 v6 v7 r10.2.2.2.2.1))))
  else ((zfd k n) v3 v4 v5 0))
def zfe (k : Nat) : Nat → (List NodT) → (List NodT) → Int → (List Int) → Int → Int → Option Int
  | 0, _, _, _, _, _, _ => none
  | n + 1, v3, v4, v5, v6, v7, v8 =>
  bif decide (0 < (v6.length : Int)) then
  (geti v6 (w64 ((v6.length : Int) - 1))).bind fun r11 =>
  (geti v6 (w64 ((v6.length : Int) - 1))).bind fun r12 =>
  (bif decide (r12 ≠ v8) then
  ((cutM v6 0 (w64 ((v6.length : Int) - 1))).bind fun r13 =>
  (zfe k n) v3 v4 v5 r13 v7 v8)
  else (zgg k (zb5 k n) v6 v3 v8 v7 v5 v4))
  else (zgg k (zb5 k n) v6 v3 v8 v7 v5 v4)
def zfd (k : Nat) : Nat → (List NodT) → (List NodT) → Int → Int → Option Int
  | 0, _, _, _, _ => none
  | n + 1, v3, v4, v5, v9 =>
  (bif decide (v9 < (v3.length : Int)) then
  ((geti v3 v9).bind fun r32 =>
  (geti v4 v9).bind fun r33 =>
  bif decide (r32.2.2.2.2.2.1 ≠ r33.2.2.2.2.2.1) then
  (some 10)
  else (geti v3 v9).bind fun r34 =>
  (geti v4 v9).bind fun r35 =>
  bif decide (r34.2.2.2.2.2.2.1 ≠ r35.2.2.2.2.2.2.1) then
  (some 10)
  else (geti v3 v9).bind fun r36 =>
  (geti v4 v9).bind fun r37 =>
  bif decide (r36.2.2.2.2.2.2.2.1 ≠ r37.2.2.2.2.2.2.2.1) then
  (some 10)
  else (geti v3 v9).bind fun r38 =>
  (geti v4 v9).bind fun r39 =>
  (bif decide (r38.2.2.2.2.2.2.2.2.1 ≠ r39.2.2.2.2.2.2.2.2.1) then
  (some 10)
  else ((zfd k n) v3 v4 v5 (w64 (v9 + 1)))))
  else (bif decide (256 < v5) then
  (some 5)
  else (some 0)))
end
def zks (k : Nat) (n : Nat) (a0 : TreT) : Option Int :=
  (bif decide ((a0.1.length : Int) = 0) then
  (some 10)
  else (bif decide (4096 < (a0.1.length : Int)) then
  (some 4)
  else ((geti a0.1 0).bind fun r1 =>
  bif decide (r1.1 ≠ 1) then
  (some 10)
  else (geti a0.1 0).bind fun r2 =>
  bif decide (r2.2.2.2.2.1 ≠ (-1)) then
  (some 10)
  else (geti a0.1 0).bind fun r3 =>
  bif decide (r3.2.2.2.2.2.2.2.1 ≠ (-1)) then
  (some 10)
  else (geti a0.1 0).bind fun r4 =>
  (bif decide (r4.2.2.2.2.2.2.2.2.1 ≠ (-1)) then
  (some 10)
  else ((repM 104 (a0.1.length : Int) (0,(bs []),(bs []),[],0,0,0,0,0,())).bind fun r5 =>
  ((geti r5 0).bind fun r6 =>
  (geti r5 0).bind fun r7 =>
  ((zb5 k n) a0.1 (r5.set (Int.toNat 0) (0,(bs []),(bs []),[],(-1),(-1),(-1),(-1),(-1),())) 1 ([0]) 0)))))))
def zs4 (k : Nat) (a0 : TreT) : Option Int := zks k k a0
def zp7 (k : Nat) : Con := ⟨[.d cTreT],[.d (.int .i64)], fun x => zs4 k x⟩
theorem zwy (k : Nat) : ConOk Tryz.prog 38 (zp7 k) :=
  za7 (ps := [.d cTreT]) (rs := [.d (.int .i64)]) (fn := Tryz.f38) (E := ⟨tOf tl, gOf [(68, zp5 k)]⟩) ⟨zaa zad, zab ⟨zww k, trivial⟩, mixedOk⟩ (body := bodyOf Tryz.f38) (pl := [(34,[(0,0),(1,0),(2,0),(3,0),(4,0),(5,0),(6,0),(7,0),(8,0),(9,0),(10,0),(11,0),(12,0),(13,0),(14,0),(15,0),(16,0),(17,0),(18,0),(19,0),(20,0),(21,0),(22,0),(23,0),(24,0),(25,0),(26,0),(27,0),(28,0),(29,0),(30,0),(31,0),(32,0),(33,0),(34,0),(35,0),(36,0),(37,0),(38,0),(39,0),(40,0),(41,0),(42,0),(43,0),(44,0),(45,0),(46,0),(47,0),(48,0),(49,0)],[])]) (M := 400) (cuts := [⟨13,[0,0,5,4,1,0,1,1,1,1,1,1,1,1,1],[3,4,5,6,7],[.d (.sl cNodT), .o 57 cNodT, .d (.int .i64), .o 3 (.int .i64), .d (.int .i64)], fun n x => zb5 k n x.1 x.2.1 x.2.2.1 x.2.2.2.1 x.2.2.2.2,[]⟩, ⟨19,[0,0,5,4,0,1,1,1,4,0,1,5,4,1,0,1,1,1,1,1,1,1,1,1],[3,4,5,6,7,8],[.d (.sl cNodT), .o 57 cNodT, .d (.int .i64), .o 3 (.int .i64), .d (.int .i64), .d (.int .i64)], fun n x => zfe k n x.1 x.2.1 x.2.2.1 x.2.2.2.1 x.2.2.2.2.1 x.2.2.2.2.2,[]⟩, ⟨32,[0,0,5,4,1,0,1,1,1,1,1,1,1,1,1,1],[3,4,5,9],[.d (.sl cNodT), .d (.sl cNodT), .d (.int .i64), .d (.int .i64)], fun n x => zfd k n x.1 x.2.1 x.2.2.1 x.2.2.2,[]⟩]) (entry := fun n x => zks k n x) rfl rfl (by decide) (by kernel_rfl) ⟨⟨fun _ => by kernel_rfl, fun _ _ => by kernel_rfl⟩, ⟨fun _ => by kernel_rfl, fun _ _ => by kernel_rfl⟩, ⟨fun _ => by kernel_rfl, fun _ _ => by kernel_rfl⟩, trivial⟩ (fun _ _ => by kernel_rfl) k
mutual
def zf6 (k : Nat) : Nat → TreT → Int → Option Bool
  | 0, _, _ => none
  | n + 1, v1, v3 =>
  (bif decide (v3 < (v1.1.length : Int)) then
  ((geti v1.1 v3).bind fun r2 =>
  (addS r2.2.1 (bs [124])).bind fun r3 =>
  (geti v1.1 v3).bind fun r4 =>
  (addS r3 r4.2.2.1).bind fun r5 =>
  ((zh0 k n) v1 v3 r5 0))
  else (some true))
def zh0 (k : Nat) : Nat → TreT → Int → ByteArray → Int → Option Bool
  | 0, _, _, _, _ => none
  | n + 1, v1, v3, v4, v5 =>
  (geti v1.1 v3).bind fun r6 =>
  (bif decide (v5 < (r6.2.2.2.1.length : Int)) then
  ((addS v4 (bs [124])).bind fun r7 =>
  (geti v1.1 v3).bind fun r8 =>
  (geti r8.2.2.2.1 v5).bind fun r9 =>
  (addS r7 r9.1).bind fun r10 =>
  (addS r10 (bs [124])).bind fun r11 =>
  (geti v1.1 v3).bind fun r12 =>
  (geti r12.2.2.2.1 v5).bind fun r13 =>
  (addS r11 r13.2.1).bind fun r14 =>
  ((zh0 k n) v1 v3 r14 (w64 (v5 + 1))))
  else ((runesM v4).bind fun r15 =>
  (bif decide ((textOf r15) ≠ v4) then
  (some false)
  else ((zf6 k n) v1 (w64 (v3 + 1))))))
end
def zkz (k : Nat) (n : Nat) (a0 : TreT) : Option Bool :=
  ((zs4 k a0).bind fun r1 =>
  (bif decide (r1 ≠ 0) then
  (some false)
  else ((zf6 k n) a0 0)))
def zsf (k : Nat) (a0 : TreT) : Option Bool := zkz k k a0
def zpl (k : Nat) : Con := ⟨[.d cTreT],[.d .bool], fun x => zsf k x⟩
theorem zxj (k : Nat) : ConOk Tryz.prog 12 (zpl k) :=
  za7 (ps := [.d cTreT]) (rs := [.d .bool]) (fn := Tryz.f12) (E := ⟨tOf tl, gOf [(38, zp7 k)]⟩) ⟨zaa zad, zab ⟨zwy k, trivial⟩, mixedOk⟩ (body := bodyOf Tryz.f12) (pl := [(6,[(0,0),(1,0),(2,0),(3,0),(4,0),(5,0),(6,0),(7,0),(8,0),(9,0),(10,0),(11,0),(12,0),(13,0),(14,0)],[1]),(10,[(0,0),(1,0),(2,0),(3,0),(4,0),(5,0),(6,0),(7,0),(8,0),(9,0),(10,0),(11,0),(12,0),(13,0),(14,0),(15,0),(16,0),(17,0),(18,0),(19,0),(20,0),(21,0),(22,0),(23,0),(24,0),(25,0)],[1])]) (M := 400) (cuts := [⟨4,[0,0,5,4,1,0,1,1],[1,3],[.p [.d cTreT], .d (.int .i64)], fun n x => zf6 k n x.1 x.2,[]⟩, ⟨8,[0,0,5,4,1,0,1,4,0,1,5,4,1,0,1,1],[1,3,4,5],[.p [.d cTreT], .d (.int .i64), .d .str, .d (.int .i64)], fun n x => zh0 k n x.1 x.2.1 x.2.2.1 x.2.2.2,[]⟩]) (entry := fun n x => zkz k n x) rfl rfl (by decide) (by kernel_rfl) ⟨⟨fun _ => by kernel_rfl, fun _ _ => by kernel_rfl⟩, ⟨fun _ => by kernel_rfl, fun _ _ => by kernel_rfl⟩, trivial⟩ (fun _ _ => by kernel_rfl) k
end Go.V
