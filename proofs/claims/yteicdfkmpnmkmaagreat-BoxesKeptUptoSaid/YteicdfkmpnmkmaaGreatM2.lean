/-
  Walks and laws of this seat.
-/
import Derived.Test.YteicdfkmpnmkmaaGreatM1
namespace Go.V
set_option linter.unusedVariables false
set_option linter.unusedSimpArgs false
set_option linter.unusedSectionVars false
variable [F0]
set_option maxRecDepth 100000
open Go.RowKit Go.Sl Go.Proofs
def zti : Nat → ByteArray → (List ByteArray) → Int → Option Bool
  | 0, _, _, _ => none
  | n + 1, a0, a1, v5 =>
  (bif decide (v5 < (a1.length : Int)) then
  ((geti a1 v5).bind fun r1 =>
  (bif decide (r1 = a0) then
  (some true)
  else ((zti n) a0 a1 (w64 (v5 + 1)))))
  else (some false))
def zxh (n : Nat) (a0 : ByteArray) (a1 : (List ByteArray)) : Option Bool :=
  ((zti n) a0 a1 0)
def zuw (k : Nat) (a0 : ByteArray) (a1 : (List ByteArray)) : Option Bool := zxh k a0 a1
def zlm (k : Nat) : Con := ⟨[.d .str, .d (.sl .str)],[.d .bool], fun x => zuw k x.1 x.2⟩
theorem zr8 (k : Nat) : ConOk Tryz.prog 125 (zlm k) :=
  za7 (ps := [.d .str, .d (.sl .str)]) (rs := [.d .bool]) (fn := Tryz.f125) (E := ⟨tOf tl, gOf []⟩) ⟨za9 zae, zaa trivial, mixedOk⟩ (body := bodyOf Tryz.f125) (pl := []) (M := 400) (cuts := [⟨2,[0,0,5,4,1,0,1],[0,1,5],[.d .str, .d (.sl .str), .d (.int .i64)], fun n x => zti n x.1 x.2.1 x.2.2,[]⟩]) (entry := fun n x => zxh n x.1 x.2) rfl rfl (by decide) (by kernel_rfl) ⟨⟨fun _ => by kernel_rfl, fun _ _ => by kernel_rfl⟩, trivial⟩ (fun _ _ => by kernel_rfl) k
def zn9 (y2 : Int) (a0 : Int) (a1 : Int) : Option Int :=
  bif decide (65 ≤ a0) then
  (bif decide (a0 ≤ 70) then
  ((bif decide (a1 ≤ (w64 ((w64 (IntKind.u8.wrap (a0 - 65))) + 10))) then
  (some (-1))
  else (some (w64 ((w64 (IntKind.u8.wrap (a0 - 65))) + 10)))))
  else ((bif decide (a1 ≤ y2) then
  (some (-1))
  else (some y2))))
  else ((bif decide (a1 ≤ y2) then
  (some (-1))
  else (some y2)))
def zna (y1 : Int) (a0 : Int) (a1 : Int) : Option Int :=
  bif decide (97 ≤ a0) then
  (bif decide (a0 ≤ 102) then
  (zn9 (w64 ((w64 (IntKind.u8.wrap (a0 - 97))) + 10)) a0 a1)
  else (zn9 y1 a0 a1))
  else (zn9 y1 a0 a1)
def zpw (a0 : Int) (a1 : Int) : Option Int :=
  (bif decide (48 ≤ a0) then
  (bif decide (a0 ≤ 57) then
  (zna (w64 (IntKind.u8.wrap (a0 - 48))) a0 a1)
  else (zna (-1) a0 a1))
  else (zna (-1) a0 a1))
def zqi : Con := ⟨[.d (.int .u8), .d (.int .i64)],[.d (.int .i64)], fun x => zpw x.1 x.2⟩
theorem zyj : ConOk Tryz.prog 126 (zqi) :=
  za7 (ps := [.d (.int .u8), .d (.int .i64)]) (rs := [.d (.int .i64)]) (fn := Tryz.f126) (E := ⟨tOf tl, gOf []⟩) ⟨za9 zae, zaa trivial, mixedOk⟩ (body := bodyOf Tryz.f126) (pl := []) (M := 400) (cuts := []) (entry := fun n x => zpw x.1 x.2) rfl rfl (by decide) (by kernel_rfl) trivial (fun _ _ => by kernel_rfl) 0
def znb : Nat → (List Int) → Int → Option Int
  | 0, _, _ => none
  | n + 1, a0, a1 =>
  bif decide (a1 < (a0.length : Int)) then
  (geti a0 a1).bind fun r1 =>
  (zc5 r1).bind fun r2 =>
  (bif r2 then
  ((znb n) a0 (w64 (a1 + 1)))
  else (some a1))
  else (some a1)
def zsj (n : Nat) (a0 : (List Int)) (a1 : Int) : Option Int :=
  ((znb n) a0 a1)
def zr9 (k : Nat) (a0 : (List Int)) (a1 : Int) : Option Int := zsj k a0 a1
def zod (k : Nat) : Con := ⟨[.d (.sl (.int .i32)), .d (.int .i64)],[.d (.int .i64)], fun x => zr9 k x.1 x.2⟩
theorem zwg (k : Nat) : ConOk Tryz.prog 127 (zod k) :=
  za7 (ps := [.d (.sl (.int .i32)), .d (.int .i64)]) (rs := [.d (.int .i64)]) (fn := Tryz.f127) (E := ⟨tOf tl, gOf [(45, zcb)]⟩) ⟨za9 zae, zaa ⟨zdk, trivial⟩, mixedOk⟩ (body := bodyOf Tryz.f127) (pl := []) (M := 400) (cuts := [⟨1,[0,0,5,4,0,1],[0,1],[.d (.sl (.int .i32)), .d (.int .i64)], fun n x => znb n x.1 x.2,[]⟩]) (entry := fun n x => zsj n x.1 x.2) rfl rfl (by decide) (by kernel_rfl) ⟨⟨fun _ => by kernel_rfl, fun _ _ => by kernel_rfl⟩, trivial⟩ (fun _ _ => by kernel_rfl) k
def zkz (a0 : Int) : Option Bool :=
  (bif decide (97 ≤ a0) then
  bif decide (a0 ≤ 122) then
  some true
  else bif decide (65 ≤ a0) then
  some (decide (a0 ≤ 90))
  else some false
  else bif decide (65 ≤ a0) then
  some (decide (a0 ≤ 90))
  else some false)
def zky : Con := ⟨[.d (.int .i32)],[.d .bool], fun x => zkz x⟩
theorem zqh : ConOk Tryz.prog 56 (zky) :=
  za7 (ps := [.d (.int .i32)]) (rs := [.d .bool]) (fn := Tryz.f56) (E := ⟨tOf tl, gOf []⟩) ⟨za9 zae, zaa trivial, mixedOk⟩ (body := bodyOf Tryz.f56) (pl := []) (M := 400) (cuts := []) (entry := fun n x => zkz x) rfl rfl (by decide) (by kernel_rfl) trivial (fun _ _ => by kernel_rfl) 0
def zvi : Nat → (List Int) → Int → ByteArray → Int → Option Bool
  | 0, _, _, _, _ => none
  | n + 1, a0, a1, a2, v7 =>
  (bif decide (v7 < (a2.size : Int)) then
  (bif decide ((a0.length : Int) ≤ (w64 (a1 + v7))) then
  (some false)
  else (geti a0 (w64 (a1 + v7))).bind fun r1 =>
  (getS a2 v7).bind fun r2 =>
  (bif decide (r1 ≠ (IntKind.i32.wrap r2)) then
  (some false)
  else ((zvi n) a0 a1 a2 (w64 (v7 + 1)))))
  else (some true))
def yaa (n : Nat) (a0 : (List Int)) (a1 : Int) (a2 : ByteArray) : Option Bool :=
  ((zvi n) a0 a1 a2 0)
def zyi (k : Nat) (a0 : (List Int)) (a1 : Int) (a2 : ByteArray) : Option Bool := yaa k a0 a1 a2
def zn8 (k : Nat) : Con := ⟨[.d (.sl (.int .i32)), .d (.int .i64), .d .str],[.d .bool], fun x => zyi k x.1 x.2.1 x.2.2⟩
theorem zto (k : Nat) : ConOk Tryz.prog 59 (zn8 k) :=
  za7 (ps := [.d (.sl (.int .i32)), .d (.int .i64), .d .str]) (rs := [.d .bool]) (fn := Tryz.f59) (E := ⟨tOf tl, gOf []⟩) ⟨za9 zae, zaa trivial, mixedOk⟩ (body := bodyOf Tryz.f59) (pl := [(4,[(0,0),(1,0),(2,0),(3,0),(4,0),(5,0),(6,0),(7,0),(8,0),(9,0),(10,0),(11,0),(12,0),(13,0),(14,0),(15,0),(16,0),(17,0),(18,0)],[])]) (M := 400) (cuts := [⟨2,[0,0,5,4,1,0,1],[0,1,2,7],[.d (.sl (.int .i32)), .d (.int .i64), .d .str, .d (.int .i64)], fun n x => zvi n x.1 x.2.1 x.2.2.1 x.2.2.2,[]⟩]) (entry := fun n x => yaa n x.1 x.2.1 x.2.2) rfl rfl (by decide) (by kernel_rfl) ⟨⟨fun _ => by kernel_rfl, fun _ _ => by kernel_rfl⟩, trivial⟩ (fun _ _ => by kernel_rfl) k
def znc (k : Nat) : Nat → (List Int) → Int → ByteArray → Option Int
  | 0, _, _, _ => none
  | n + 1, a0, a1, a2 =>
  (bif decide (a1 < (a0.length : Int)) then
  ((zyi k a0 a1 a2).bind fun r1 =>
  (bif r1 then
  (some (w64 (a1 + (a2.size : Int))))
  else ((znc k n) a0 (w64 (a1 + 1)) a2)))
  else (some (a0.length : Int)))
def zsk (k : Nat) (n : Nat) (a0 : (List Int)) (a1 : Int) (a2 : ByteArray) : Option Int :=
  ((znc k n) a0 a1 a2)
def zra (k : Nat) (a0 : (List Int)) (a1 : Int) (a2 : ByteArray) : Option Int := zsk k k a0 a1 a2
def zoe (k : Nat) : Con := ⟨[.d (.sl (.int .i32)), .d (.int .i64), .d .str],[.d (.int .i64)], fun x => zra k x.1 x.2.1 x.2.2⟩
theorem zwh (k : Nat) : ConOk Tryz.prog 60 (zoe k) :=
  za7 (ps := [.d (.sl (.int .i32)), .d (.int .i64), .d .str]) (rs := [.d (.int .i64)]) (fn := Tryz.f60) (E := ⟨tOf tl, gOf [(59, zn8 k)]⟩) ⟨za9 zae, zaa ⟨zto k, trivial⟩, mixedOk⟩ (body := bodyOf Tryz.f60) (pl := []) (M := 400) (cuts := [⟨1,[0,0,5,4,0,1],[0,1,2],[.d (.sl (.int .i32)), .d (.int .i64), .d .str], fun n x => znc k n x.1 x.2.1 x.2.2,[]⟩]) (entry := fun n x => zsk k n x.1 x.2.1 x.2.2) rfl rfl (by decide) (by kernel_rfl) ⟨⟨fun _ => by kernel_rfl, fun _ _ => by kernel_rfl⟩, trivial⟩ (fun _ _ => by kernel_rfl) k
def znd (a0 : (List Int)) (a1 : Int) : Option Bool :=
  ((geti a0 a1).bind fun r1 =>
  bif decide (r1 ≠ 60) then
  (some false)
  else (bif decide ((a0.length : Int) ≤ (w64 (a1 + 1))) then
  (some false)
  else ((geti a0 (w64 (a1 + 1))).bind fun r2 =>
  ((zkz r2).bind fun r3 =>
  bif r3 then
  some true
  else bif decide (r2 = 47) then
  some true
  else bif decide (r2 = 33) then
  some true
  else some (decide (r2 = 63))))))
def zof : Con := ⟨[.d (.sl (.int .i32)), .d (.int .i64)],[.d .bool], fun x => znd x.1 x.2⟩
theorem zwi : ConOk Tryz.prog 54 (zof) :=
  za7 (ps := [.d (.sl (.int .i32)), .d (.int .i64)]) (rs := [.d .bool]) (fn := Tryz.f54) (E := ⟨tOf tl, gOf [(56, zky)]⟩) ⟨za9 zae, zaa ⟨zqh, trivial⟩, mixedOk⟩ (body := bodyOf Tryz.f54) (pl := []) (M := 400) (cuts := []) (entry := fun n x => znd x.1 x.2) rfl rfl (by decide) (by kernel_rfl) trivial (fun _ _ => by kernel_rfl) 0
def ztp : Nat → (List AttT) → AttT → Int → Option (List AttT)
  | 0, _, _, _ => none
  | n + 1, a0, v3, v5 =>
  (bif decide (v5 < (a0.length : Int)) then
  ((geti a0 v5).bind fun r1 =>
  (geti a0 v5).bind fun r2 =>
  (bif decide (r2.1 = v3.1) then
  (some a0)
  else ((ztp n) a0 v3 (w64 (v5 + 1)))))
  else (bif decide (64 ≤ (a0.length : Int)) then
  (some a0)
  else ((appM 32 a0 ([v3])).bind fun r3 =>
  some r3)))
def zxm (n : Nat) (a0 : (List AttT)) (a1 : AttT) : Option (List AttT) :=
  ((ztp n) a0 a1 0)
def ycw (k : Nat) (a0 : (List AttT)) (a1 : AttT) : Option (List AttT) := zxm k a0 a1
def zuh (k : Nat) : Con := ⟨[.o 85 cAttT, .d cAttT],[.o 85 cAttT], fun x => ycw k x.1 x.2⟩
theorem ybw (k : Nat) : ConOk Tryz.prog 99 (zuh k) :=
  za7 (ps := [.o 85 cAttT, .d cAttT]) (rs := [.o 85 cAttT]) (fn := Tryz.f99) (E := ⟨tOf tl, gOf []⟩) ⟨za9 zae, zaa trivial, mixedOk⟩ (body := bodyOf Tryz.f99) (pl := [(4,[(0,0),(1,0),(2,0),(3,0),(4,0),(5,0),(6,0),(7,0)],[0,3])]) (M := 400) (cuts := [⟨2,[0,0,5,4,1,0,1],[0,3,5],[.o 85 cAttT, .p [.d cAttT], .d (.int .i64)], fun n x => ztp n x.1 x.2.1 x.2.2,[]⟩]) (entry := fun n x => zxm n x.1 x.2) rfl rfl (by decide) (by kernel_rfl) ⟨⟨fun _ => by kernel_rfl, fun _ _ => by kernel_rfl⟩, trivial⟩ (fun _ _ => by kernel_rfl) k
def zgs (v9 : Int) (v11 : Int) (a0 : ByteArray) (v12 : Int) : Option (ByteArray × Int) :=
  bif decide (v9 = v11) then
  (some ((bs []),0))
  else bif decide (8 < (w64 (v9 - v11))) then
  (some ((bs []),0))
  else bif decide ((a0.size : Int) ≤ v9) then
  (some ((bs []),0))
  else (getS a0 v9).bind fun r16 =>
  (bif decide (r16 ≠ 59) then
  (some ((bs []),0))
  else (bif decide (v12 = 0) then
  ((some ((textOf ([(IntKind.i32.wrap 65533)])),(w64 (v9 + 1)))))
  else bif decide (1114111 < v12) then
  ((some ((textOf ([(IntKind.i32.wrap 65533)])),(w64 (v9 + 1)))))
  else bif decide (55296 ≤ v12) then
  (bif decide (v12 ≤ 57343) then
  ((some ((textOf ([(IntKind.i32.wrap 65533)])),(w64 (v9 + 1)))))
  else (some ((textOf ([(IntKind.i32.wrap v12)])),(w64 (v9 + 1)))))
  else (some ((textOf ([(IntKind.i32.wrap v12)])),(w64 (v9 + 1))))))
mutual
def zha : Nat → ByteArray → Int → (List ByteArray) → (List ByteArray) → Int → Option (ByteArray × Int)
  | 0, _, _, _, _, _ => none
  | n + 1, a0, a1, v6, v7, v8 =>
  (bif decide (v8 < (v6.length : Int)) then
  ((geti v6 v8).bind fun r1 =>
  bif decide ((r1.size : Int) ≤ (w64 ((a0.size : Int) - a1))) then
  (geti v6 v8).bind fun r2 =>
  (cutS a0 a1 (w64 (a1 + (r2.size : Int)))).bind fun r3 =>
  (geti v6 v8).bind fun r4 =>
  (bif decide (r3 = r4) then
  ((geti v7 v8).bind fun r5 =>
  (geti v6 v8).bind fun r6 =>
  some (r5,(w64 (a1 + (r6.size : Int)))))
  else ((zha n) a0 a1 v6 v7 (w64 (v8 + 1))))
  else ((zha n) a0 a1 v6 v7 (w64 (v8 + 1))))
  else (bif decide ((a0.size : Int) ≤ (w64 (a1 + 1))) then
  (some ((bs []),0))
  else (getS a0 (w64 (a1 + 1))).bind fun r7 =>
  (bif decide (r7 ≠ 35) then
  (some ((bs []),0))
  else (bif decide ((w64 (a1 + 2)) < (a0.size : Int)) then
  (getS a0 (w64 (a1 + 2))).bind fun r8 =>
  bif decide (r8 = 120) then
  ((((zd0 n) a0 (w64 ((w64 (a1 + 2)) + 1)) 16 (w64 ((w64 (a1 + 2)) + 1)) 0)))
  else (getS a0 (w64 (a1 + 2))).bind fun r9 =>
  (bif decide (r9 = 88) then
  ((((zd0 n) a0 (w64 ((w64 (a1 + 2)) + 1)) 16 (w64 ((w64 (a1 + 2)) + 1)) 0)))
  else (((zd0 n) a0 (w64 (a1 + 2)) 10 (w64 (a1 + 2)) 0)))
  else (((zd0 n) a0 (w64 (a1 + 2)) 10 (w64 (a1 + 2)) 0))))))
def zd0 : Nat → ByteArray → Int → Int → Int → Int → Option (ByteArray × Int)
  | 0, _, _, _, _, _ => none
  | n + 1, a0, v9, v10, v11, v12 =>
  bif decide (v9 < (a0.size : Int)) then
  (getS a0 v9).bind fun r12 =>
  (zpw r12 v10).bind fun r13 =>
  bif decide (0 ≤ r13) then
  (bif decide ((w64 (v9 - v11)) < 9) then
  ((getS a0 v9).bind fun r14 =>
  (zpw r14 v10).bind fun r15 =>
  ((zd0 n) a0 (w64 (v9 + 1)) v10 v11 (w64 ((w64 (v12 * v10)) + r15))))
  else (zgs v9 v11 a0 v12))
  else (zgs v9 v11 a0 v12)
  else (zgs v9 v11 a0 v12)
end
def zns (n : Nat) (a0 : ByteArray) (a1 : Int) : Option (ByteArray × Int) :=
  ((zha n) a0 a1 ([(bs [38,97,109,112,59]),(bs [38,108,116,59]),(bs [38,103,116,59]),(bs [38,113,117,111,116,59]),(bs [38,97,112,111,115,59]),(bs [38,110,98,115,112,59])]) ([(bs [38]),(bs [60]),(bs [62]),(bs [34]),(bs [39]),(bs [194,160])]) 0)
def zqg (k : Nat) (a0 : ByteArray) (a1 : Int) : Option (ByteArray × Int) := zns k a0 a1
def zlt (k : Nat) : Con := ⟨[.d .str, .d (.int .i64)],[.d .str, .d (.int .i64)], fun x => zqg k x.1 x.2⟩
theorem ztn (k : Nat) : ConOk Tryz.prog 96 (zlt k) :=
  za7 (ps := [.d .str, .d (.int .i64)]) (rs := [.d .str, .d (.int .i64)]) (fn := Tryz.f96) (E := ⟨tOf tl, gOf [(126, zqi)]⟩) ⟨za9 zae, zaa ⟨zyj, trivial⟩, mixedOk⟩ (body := bodyOf Tryz.f96) (pl := [(6,[(0,0),(1,0),(2,0),(3,0),(4,0),(5,0),(6,0),(7,0),(8,0),(9,0),(10,0),(11,0),(12,0),(13,0),(14,0),(15,0),(16,0),(17,0),(18,0),(19,0),(20,0),(21,0),(22,0),(23,0),(24,0),(25,0),(26,0)],[]),(7,[(0,0),(1,0),(2,0),(3,0),(4,0),(5,0),(6,0),(7,0),(8,0),(9,0),(10,0),(11,0),(12,0)],[])]) (M := 400) (cuts := [⟨4,[0,0,5,4,1,0,1,1,1],[0,1,6,7,8],[.d .str, .d (.int .i64), .d (.sl .str), .d (.sl .str), .d (.int .i64)], fun n x => zha n x.1 x.2.1 x.2.2.1 x.2.2.2.1 x.2.2.2.2,[]⟩, ⟨17,[0,0,5,4,0,1,1,1,1,1,1,1,1,1,1],[0,9,10,11,12],[.d .str, .d (.int .i64), .d (.int .i64), .d (.int .i64), .d (.int .i64)], fun n x => zd0 n x.1 x.2.1 x.2.2.1 x.2.2.2.1 x.2.2.2.2,[]⟩]) (entry := fun n x => zns n x.1 x.2) rfl rfl (by decide) (by kernel_rfl) ⟨⟨fun _ => by kernel_rfl, fun _ _ => by kernel_rfl⟩, ⟨fun _ => by kernel_rfl, fun _ _ => by kernel_rfl⟩, trivial⟩ (fun _ _ => by kernel_rfl) k
def zlu (k : Nat) (J3 : ByteArray → (List Int) → Int → Option ByteArray) (a0 : ByteArray) (v4 : Int) (v3 : (List Int)) : Option ByteArray :=
  (getS a0 v4).bind fun r4 =>
  (appM 1 v3 ([r4])).bind fun r5 =>
  (J3 a0 r5 (w64 (v4 + 1)))
def zfn (k : Nat) : Nat → ByteArray → (List Int) → Int → Option ByteArray
  | 0, _, _, _ => none
  | n + 1, a0, v3, v4 =>
  (bif decide (v4 < (a0.size : Int)) then
  ((getS a0 v4).bind fun r1 =>
  (bif decide (r1 = 38) then
  ((zqg k a0 v4).bind fun r2 =>
  (bif decide (0 < r2.2) then
  ((appM 1 v3 (bytesIn r2.1)).bind fun r3 =>
  ((zfn k n) a0 r3 r2.2))
  else (zlu k (zfn k n) a0 v4 v3)))
  else (zlu k (zfn k n) a0 v4 v3)))
  else (some (bytesOf v3)))
def zoh (k : Nat) (n : Nat) (a0 : ByteArray) : Option ByteArray :=
  ((zfn k n) a0 ([]) 0)
def zjw (k : Nat) (a0 : ByteArray) : Option ByteArray := zoh k k a0
def zio (k : Nat) : Con := ⟨[.d .str],[.d .str], fun x => zjw k x⟩
theorem znt (k : Nat) : ConOk Tryz.prog 55 (zio k) :=
  za7 (ps := [.d .str]) (rs := [.d .str]) (fn := Tryz.f55) (E := ⟨tOf tl, gOf [(96, zlt k)]⟩) ⟨za9 zae, zaa ⟨ztn k, trivial⟩, mixedOk⟩ (body := bodyOf Tryz.f55) (pl := []) (M := 400) (cuts := [⟨3,[0,0,5,4,0,1,1,1],[0,3,4],[.d .str, .o 5 (.int .u8), .d (.int .i64)], fun n x => zfn k n x.1 x.2.1 x.2.2,[]⟩]) (entry := fun n x => zoh k n x) rfl rfl (by decide) (by kernel_rfl) ⟨⟨fun _ => by kernel_rfl, fun _ _ => by kernel_rfl⟩, trivial⟩ (fun _ _ => by kernel_rfl) k
def zgw (k : Nat) (J12 : (List Int) → Int → AttT → AttT → Int → Option (AttT × Int)) (J19 : (List Int) → Int → AttT → Int → AttT → Option (AttT × Int)) (a0 : (List Int)) (v6 : Int) (a1 : Int) (v4 : AttT) : Option (AttT × Int) :=
  (cutM a0 v6 a1).bind fun r6 =>
  (zf2 k r6).bind fun r7 =>
  ((zr9 k a0 a1).bind fun r8 =>
  (bif decide ((a0.length : Int) ≤ r8) then
  (some ((r7,(bs []),()), r8))
  else (geti a0 r8).bind fun r9 =>
  (bif decide (r9 ≠ 61) then
  (some ((r7,(bs []),()), r8))
  else ((zr9 k a0 (w64 (r8 + 1))).bind fun r10 =>
  (bif decide (r10 < (a0.length : Int)) then
  (geti a0 r10).bind fun r11 =>
  bif decide (r11 = 34) then
  (J12 a0 r10 v4 (r7,(bs []),()) (w64 (r10 + 1)))
  else (geti a0 r10).bind fun r12 =>
  (bif decide (r12 = 39) then
  (J12 a0 r10 v4 (r7,(bs []),()) (w64 (r10 + 1)))
  else (J19 a0 r10 v4 r10 (r7,(bs []),())))
  else (J19 a0 r10 v4 r10 (r7,(bs []),())))))))
def zog (k : Nat) (a0 : (List Int)) (a1 : Int) (v9 : Int) (v7 : AttT) : Option (AttT × Int) :=
  (cutM a0 (w64 (a1 + 1)) v9).bind fun r15 =>
  (zjw k (textOf r15)).bind fun r16 =>
  (bif decide (v9 < (a0.length : Int)) then
  (some ((v7.1, r16,()),(w64 (v9 + 1))))
  else (some ((v7.1, r16,()), v9)))
def zl0 (k : Nat) (a0 : (List Int)) (v6 : Int) (a1 : Int) (v7 : AttT) : Option (AttT × Int) :=
  (cutM a0 v6 a1).bind fun r21 =>
  (zjw k (textOf r21)).bind fun r22 =>
  (some ((v7.1, r22,()), a1))
mutual
def zrb (k : Nat) : Nat → (List Int) → Int → AttT → Int → Option (AttT × Int)
  | 0, _, _, _, _ => none
  | n + 1, a0, a1, v4, v6 =>
  bif decide (a1 < (a0.length : Int)) then
  (geti a0 a1).bind fun r1 =>
  (zc5 r1).bind fun r2 =>
  bif (!r2) then
  (geti a0 a1).bind fun r3 =>
  bif decide (r3 ≠ 61) then
  (geti a0 a1).bind fun r4 =>
  bif decide (r4 ≠ 47) then
  (geti a0 a1).bind fun r5 =>
  (bif decide (r5 ≠ 62) then
  ((zrb k n) a0 (w64 (a1 + 1)) v4 v6)
  else (zgw k (zfm k n) (zfl k n) a0 v6 a1 v4))
  else (zgw k (zfm k n) (zfl k n) a0 v6 a1 v4)
  else (zgw k (zfm k n) (zfl k n) a0 v6 a1 v4)
  else (zgw k (zfm k n) (zfl k n) a0 v6 a1 v4)
  else (zgw k (zfm k n) (zfl k n) a0 v6 a1 v4)
def zfm (k : Nat) : Nat → (List Int) → Int → AttT → AttT → Int → Option (AttT × Int)
  | 0, _, _, _, _, _ => none
  | n + 1, a0, a1, v4, v7, v9 =>
  bif decide (v9 < (a0.length : Int)) then
  (geti a0 v9).bind fun r13 =>
  (geti a0 a1).bind fun r14 =>
  (bif decide (r13 ≠ r14) then
  ((zfm k n) a0 a1 v4 v7 (w64 (v9 + 1)))
  else (zog k a0 a1 v9 v7))
  else (zog k a0 a1 v9 v7)
def zfl (k : Nat) : Nat → (List Int) → Int → AttT → Int → AttT → Option (AttT × Int)
  | 0, _, _, _, _, _ => none
  | n + 1, a0, a1, v4, v6, v7 =>
  bif decide (a1 < (a0.length : Int)) then
  (geti a0 a1).bind fun r18 =>
  (zc5 r18).bind fun r19 =>
  bif (!r19) then
  (geti a0 a1).bind fun r20 =>
  (bif decide (r20 ≠ 62) then
  ((zfl k n) a0 (w64 (a1 + 1)) v4 v6 v7)
  else (zl0 k a0 v6 a1 v7))
  else (zl0 k a0 v6 a1 v7)
  else (zl0 k a0 v6 a1 v7)
end
def zvj (k : Nat) (n : Nat) (a0 : (List Int)) (a1 : Int) : Option (AttT × Int) :=
  ((zrb k n) a0 (w64 (a1 + 1)) ((bs []),(bs []),()) a1)
def yac (k : Nat) (a0 : (List Int)) (a1 : Int) : Option (AttT × Int) := zvj k k a0 a1
def zsl (k : Nat) : Con := ⟨[.d (.sl (.int .i32)), .d (.int .i64)],[.d cAttT, .d (.int .i64)], fun x => yac k x.1 x.2⟩
theorem yab (k : Nat) : ConOk Tryz.prog 98 (zsl k) :=
  za7 (ps := [.d (.sl (.int .i32)), .d (.int .i64)]) (rs := [.d cAttT, .d (.int .i64)]) (fn := Tryz.f98) (E := ⟨tOf tl, gOf [(45, zcb),(55, zio k),(97, zdt k),(127, zod k)]⟩) ⟨za9 zae, zaa ⟨zdk, znt k, zg3 k, zwg k, trivial⟩, mixedOk⟩ (body := bodyOf Tryz.f98) (pl := [(12,[(0,0),(1,0),(2,0),(3,0),(4,0),(5,0),(6,0),(7,0),(8,0),(9,0),(10,0),(11,0),(12,0),(13,0),(14,0)],[])]) (M := 400) (cuts := [⟨3,[0,0,5,4,0,1,1,1],[0,1,4,6],[.d (.sl (.int .i32)), .d (.int .i64), .p [.d cAttT], .d (.int .i64)], fun n x => zrb k n x.1 x.2.1 x.2.2.1 x.2.2.2,[]⟩, ⟨12,[0,0,5,4,0,1,2,1,0,1,1,1,1,1,1,1,1],[0,1,4,7,9],[.d (.sl (.int .i32)), .d (.int .i64), .p [.d cAttT], .p [.d cAttT], .d (.int .i64)], fun n x => zfm k n x.1 x.2.1 x.2.2.1 x.2.2.2.1 x.2.2.2.2,[]⟩, ⟨19,[0,0,5,4,0,1,1,1,1,1,1,1,1,1,1],[0,1,4,6,7],[.d (.sl (.int .i32)), .d (.int .i64), .p [.d cAttT], .d (.int .i64), .p [.d cAttT]], fun n x => zfl k n x.1 x.2.1 x.2.2.1 x.2.2.2.1 x.2.2.2.2,[]⟩]) (entry := fun n x => zvj k n x.1 x.2) rfl rfl (by decide) (by kernel_rfl) ⟨⟨fun _ => by kernel_rfl, fun _ _ => by kernel_rfl⟩, ⟨fun _ => by kernel_rfl, fun _ _ => by kernel_rfl⟩, ⟨fun _ => by kernel_rfl, fun _ _ => by kernel_rfl⟩, trivial⟩ (fun _ _ => by kernel_rfl) k
def zjv (k : Nat) (J6 : (List Int) → Int → (Int × ByteArray × ByteArray × (List AttT) × Bool) → (Int × ByteArray × ByteArray × (List AttT) × Bool) → Bool → Option (TokT × Int × Bool)) (a0 : (List Int)) (v7 : Int) (a1 : Int) (v4 : (Int × ByteArray × ByteArray × (List AttT) × Bool)) : Option (TokT × Int × Bool) :=
  (cutM a0 v7 a1).bind fun r5 =>
  (zf2 k r5).bind fun r6 =>
  (J6 a0 a1 (v4.1, v4.2.1, v4.2.2.1, v4.2.2.2.1, v4.2.2.2.2) (0, r6,(bs []),[], false) false)
def zsi (k : Nat) (J6 : (List Int) → Int → (Int × ByteArray × ByteArray × (List AttT) × Bool) → (Int × ByteArray × ByteArray × (List AttT) × Bool) → Bool → Option (TokT × Int × Bool)) (a0 : (List Int)) (a1 : Int) (v4 : (Int × ByteArray × ByteArray × (List AttT) × Bool)) (v8 : (Int × ByteArray × ByteArray × (List AttT) × Bool)) : Option (TokT × Int × Bool) :=
  (geti a0 a1).bind fun r11 =>
  (J6 a0 (w64 (a1 + 1)) (v4.1, v4.2.1, v4.2.2.1, v4.2.2.2.1, v4.2.2.2.2) (v8.1, v8.2.1, v8.2.2.1, v8.2.2.2.1, v8.2.2.2.2) (decide (r11 = 47)))
mutual
def ztm (k : Nat) : Nat → (List Int) → Int → (Int × ByteArray × ByteArray × (List AttT) × Bool) → Int → Option (TokT × Int × Bool)
  | 0, _, _, _, _ => none
  | n + 1, a0, a1, v4, v7 =>
  bif decide (a1 < (a0.length : Int)) then
  (geti a0 a1).bind fun r1 =>
  (zc5 r1).bind fun r2 =>
  bif (!r2) then
  (geti a0 a1).bind fun r3 =>
  bif decide (r3 ≠ 47) then
  (geti a0 a1).bind fun r4 =>
  (bif decide (r4 ≠ 62) then
  ((ztm k n) a0 (w64 (a1 + 1)) (v4.1, v4.2.1, v4.2.2.1, v4.2.2.2.1, v4.2.2.2.2) v7)
  else (zjv k (zhq k n) a0 v7 a1 v4))
  else (zjv k (zhq k n) a0 v7 a1 v4)
  else (zjv k (zhq k n) a0 v7 a1 v4)
  else (zjv k (zhq k n) a0 v7 a1 v4)
def zhq (k : Nat) : Nat → (List Int) → Int → (Int × ByteArray × ByteArray × (List AttT) × Bool) → (Int × ByteArray × ByteArray × (List AttT) × Bool) → Bool → Option (TokT × Int × Bool)
  | 0, _, _, _, _, _ => none
  | n + 1, a0, a1, v4, v8, v9 =>
  (bif decide (a1 < (a0.length : Int)) then
  ((geti a0 a1).bind fun r7 =>
  (bif decide (r7 = 62) then
  (some ((v8.1, v8.2.1, v8.2.2.1, v8.2.2.2.1, v9,()),(w64 (a1 + 1)), true))
  else ((geti a0 a1).bind fun r8 =>
  (zc5 r8).bind fun r9 =>
  bif r9 then
  (zsi k (zhq k n) a0 a1 v4 v8)
  else (geti a0 a1).bind fun r10 =>
  (bif decide (r10 = 47) then
  (zsi k (zhq k n) a0 a1 v4 v8)
  else ((yac k a0 a1).bind fun r12 =>
  ((ycw k v8.2.2.2.1 r12.1).bind fun r13 =>
  (zhq k n) a0 r12.2 (v4.1, v4.2.1, v4.2.2.1, v4.2.2.2.1, v4.2.2.2.2) (v8.1, v8.2.1, v8.2.2.1, r13, v8.2.2.2.2) false))))))
  else (some ((0,(bs []),(bs []),[], false,()), a1, false)))
end
def zxk (k : Nat) (n : Nat) (a0 : (List Int)) (a1 : Int) : Option (TokT × Int × Bool) :=
  ((ztm k n) a0 a1 (0,(bs []),(bs []),[], false) a1)
def zyh (k : Nat) (a0 : (List Int)) (a1 : Int) : Option (TokT × Int × Bool) := zxk k k a0 a1
def zuf (k : Nat) : Con := ⟨[.d (.sl (.int .i32)), .d (.int .i64)],[.d cTokT, .d (.int .i64), .d .bool], fun x => zyh k x.1 x.2⟩
theorem ybu (k : Nat) : ConOk Tryz.prog 57 (zuf k) :=
  za7 (ps := [.d (.sl (.int .i32)), .d (.int .i64)]) (rs := [.d cTokT, .d (.int .i64), .d .bool]) (fn := Tryz.f57) (E := ⟨tOf tl, gOf [(45, zcb),(97, zdt k),(98, zsl k),(99, zuh k)]⟩) ⟨za9 zae, zaa ⟨zdk, zg3 k, yab k, ybw k, trivial⟩, mixedOk⟩ (body := bodyOf Tryz.f57) (pl := []) (M := 400) (cuts := [⟨2,[0,0,5,4,0,1,1],[0,1,4,7],[.d (.sl (.int .i32)), .d (.int .i64), .p [.d (.int .i64), .d .str, .d .str, .o 85 cAttT, .d .bool], .d (.int .i64)], fun n x => ztm k n x.1 x.2.1 x.2.2.1 x.2.2.2,[]⟩, ⟨6,[0,0,5,4,0,1,1,1,1,1],[0,1,4,8,9],[.d (.sl (.int .i32)), .d (.int .i64), .p [.d (.int .i64), .d .str, .d .str, .o 85 cAttT, .d .bool], .p [.d (.int .i64), .d .str, .d .str, .o 85 cAttT, .d .bool], .d .bool], fun n x => zhq k n x.1 x.2.1 x.2.2.1 x.2.2.2.1 x.2.2.2.2,[]⟩]) (entry := fun n x => zxk k n x.1 x.2) rfl rfl (by decide) (by kernel_rfl) ⟨⟨fun _ => by kernel_rfl, fun _ _ => by kernel_rfl⟩, ⟨fun _ => by kernel_rfl, fun _ _ => by kernel_rfl⟩, trivial⟩ (fun _ _ => by kernel_rfl) k
def zkc (k : Nat) : Nat → (List Int) → Int → ByteArray → Option Int
  | 0, _, _, _ => none
  | n + 1, a0, a1, a2 =>
  (bif decide (a1 < (a0.length : Int)) then
  ((zyi k a0 a1 (bs [60,47])).bind fun r1 =>
  bif r1 then
  bif decide ((w64 ((w64 (a1 + 2)) + (a2.size : Int))) ≤ (a0.length : Int)) then
  (cutM a0 (w64 (a1 + 2)) (w64 ((w64 (a1 + 2)) + (a2.size : Int)))).bind fun r2 =>
  (zf2 k r2).bind fun r3 =>
  bif decide (r3 = a2) then
  bif decide ((w64 ((w64 (a1 + 2)) + (a2.size : Int))) = (a0.length : Int)) then
  (some a1)
  else (geti a0 (w64 ((w64 (a1 + 2)) + (a2.size : Int)))).bind fun r4 =>
  (zc5 r4).bind fun r5 =>
  bif r5 then
  (some a1)
  else (geti a0 (w64 ((w64 (a1 + 2)) + (a2.size : Int)))).bind fun r6 =>
  bif decide (r6 = 47) then
  (some a1)
  else (geti a0 (w64 ((w64 (a1 + 2)) + (a2.size : Int)))).bind fun r7 =>
  (bif decide (r7 = 62) then
  (some a1)
  else ((zkc k n) a0 (w64 (a1 + 1)) a2))
  else ((zkc k n) a0 (w64 (a1 + 1)) a2)
  else ((zkc k n) a0 (w64 (a1 + 1)) a2)
  else ((zkc k n) a0 (w64 (a1 + 1)) a2))
  else (some a1))
def zxl (k : Nat) (n : Nat) (a0 : (List Int)) (a1 : Int) (a2 : ByteArray) : Option Int :=
  ((zkc k n) a0 a1 a2)
def ycv (k : Nat) (a0 : (List Int)) (a1 : Int) (a2 : ByteArray) : Option Int := zxl k k a0 a1 a2
def zug (k : Nat) : Con := ⟨[.d (.sl (.int .i32)), .d (.int .i64), .d .str],[.d (.int .i64)], fun x => ycv k x.1 x.2.1 x.2.2⟩
theorem ybv (k : Nat) : ConOk Tryz.prog 58 (zug k) :=
  za7 (ps := [.d (.sl (.int .i32)), .d (.int .i64), .d .str]) (rs := [.d (.int .i64)]) (fn := Tryz.f58) (E := ⟨tOf tl, gOf [(45, zcb),(59, zn8 k),(97, zdt k)]⟩) ⟨za9 zae, zaa ⟨zdk, zto k, zg3 k, trivial⟩, mixedOk⟩ (body := bodyOf Tryz.f58) (pl := []) (M := 400) (cuts := [⟨1,[0,0,5,4,0,1],[0,1,2],[.d (.sl (.int .i32)), .d (.int .i64), .d .str], fun n x => zkc k n x.1 x.2.1 x.2.2,[]⟩]) (entry := fun n x => zxl k n x.1 x.2.1 x.2.2) rfl rfl (by decide) (by kernel_rfl) ⟨⟨fun _ => by kernel_rfl, fun _ _ => by kernel_rfl⟩, trivial⟩ (fun _ _ => by kernel_rfl) k
def znv (k : Nat) (J3 : (List Int) → (List TokT) → Int → Option (List TokT)) (a0 : (List Int)) (r4 : (TokT × Int × Bool)) (r5 : (List TokT)) : Option (List TokT) :=
  (ycv k a0 r4.2.1 r4.1.2.1).bind fun r6 =>
  (bif decide (r4.2.1 < r6) then
  ((cutM a0 r4.2.1 r6).bind fun r7 =>
  (appM 72 r5 ([(1,(bs []),(textOf r7),[], false,())])).bind fun r8 =>
  (J3 a0 r8 r6))
  else (J3 a0 r5 r6))
def zjj (k : Nat) (J3 : (List Int) → (List TokT) → Int → Option (List TokT)) (a0 : (List Int)) (v4 : Int) (v3 : (List TokT)) : Option (List TokT) :=
  (zyi k a0 v4 (bs [60,33,45,45])).bind fun r15 =>
  (bif r15 then
  ((zra k a0 (w64 (v4 + 4)) (bs [45,45,62])).bind fun r16 =>
  J3 a0 v3 r16)
  else ((zra k a0 v4 (bs [62])).bind fun r17 =>
  J3 a0 v3 r17))
def znu (k : Nat) (J3 : (List Int) → (List TokT) → Int → Option (List TokT)) (a0 : (List Int)) (v5 : Int) (v4 : Int) (v3 : (List TokT)) : Option (List TokT) :=
  (cutM a0 v5 v4).bind fun r19 =>
  (zjw k (textOf r19)).bind fun r20 =>
  (appM 72 v3 ([(1,(bs []), r20,[], false,())])).bind fun r21 =>
  J3 a0 r21 v4
mutual
def zbk (k : Nat) : Nat → (List Int) → (List TokT) → Int → Option (List TokT)
  | 0, _, _, _ => none
  | n + 1, a0, v3, v4 =>
  (bif decide (v4 < (a0.length : Int)) then
  ((znd a0 v4).bind fun r1 =>
  (bif (!r1) then
  ((zne k n) a0 v3 v4 v4)
  else ((geti a0 (w64 (v4 + 1))).bind fun r2 =>
  (zkz r2).bind fun r3 =>
  (bif r3 then
  ((zyh k a0 (w64 (v4 + 1))).bind fun r4 =>
  (bif (!r4.2.2) then
  (zbk k n) a0 v3 r4.2.1
  else ((appM 72 v3 ([(2, r4.1.2.1, r4.1.2.2.1, r4.1.2.2.2.1, r4.1.2.2.2.2.1,())])).bind fun r5 =>
  (bif decide (r4.1.2.1 = (bs [115,116,121,108,101])) then
  (znv k (zbk k n) a0 r4 r5)
  else (bif decide (r4.1.2.1 = (bs [115,99,114,105,112,116])) then
  (znv k (zbk k n) a0 r4 r5)
  else (zbk k n) a0 r5 r4.2.1)))))
  else ((geti a0 (w64 (v4 + 1))).bind fun r10 =>
  bif decide (r10 = 47) then
  bif decide ((w64 (v4 + 2)) < (a0.length : Int)) then
  (geti a0 (w64 (v4 + 2))).bind fun r11 =>
  (zkz r11).bind fun r12 =>
  (bif r12 then
  ((zyh k a0 (w64 (v4 + 2))).bind fun r13 =>
  (bif r13.2.2 then
  ((appM 72 v3 ([(3, r13.1.2.1,(bs []),[], false,())])).bind fun r14 =>
  (zbk k n) a0 r14 r13.2.1)
  else (zbk k n) a0 v3 r13.2.1))
  else (zjj k (zbk k n) a0 v4 v3))
  else (zjj k (zbk k n) a0 v4 v3)
  else (zjj k (zbk k n) a0 v4 v3))))))
  else (some v3))
def zne (k : Nat) : Nat → (List Int) → (List TokT) → Int → Int → Option (List TokT)
  | 0, _, _, _, _ => none
  | n + 1, a0, v3, v4, v5 =>
  bif decide (v4 < (a0.length : Int)) then
  (znd a0 v4).bind fun r18 =>
  (bif (!r18) then
  ((zne k n) a0 v3 (w64 (v4 + 1)) v5)
  else (znu k (zbk k n) a0 v5 v4 v3))
  else (znu k (zbk k n) a0 v5 v4 v3)
end
def zsm (k : Nat) (n : Nat) (a0 : (List Int)) : Option (List TokT) :=
  ((zbk k n) a0 ([]) 0)
def zvk (k : Nat) (a0 : (List Int)) : Option (List TokT) := zsm k k a0
def zoi (k : Nat) : Con := ⟨[.d (.sl (.int .i32))],[.d (.sl cTokT)], fun x => zvk k x⟩
theorem zwj (k : Nat) : ConOk Tryz.prog 30 (zoi k) :=
  za7 (ps := [.d (.sl (.int .i32))]) (rs := [.d (.sl cTokT)]) (fn := Tryz.f30) (E := ⟨tOf tl, gOf [(54, zof),(55, zio k),(56, zky),(57, zuf k),(58, zug k),(59, zn8 k),(60, zoe k)]⟩) ⟨za9 zae, zaa ⟨zwi, znt k, zqh, ybu k, ybv k, zto k, zwh k, trivial⟩, mixedOk⟩ (body := bodyOf Tryz.f30) (pl := []) (M := 400) (cuts := [⟨3,[0,0,5,4,0,1,1,1],[0,3,4],[.d (.sl (.int .i32)), .o 102 cTokT, .d (.int .i64)], fun n x => zbk k n x.1 x.2.1 x.2.2,[]⟩, ⟨6,[0,0,5,4,0,1,2,1,0,4,1,5,4,0,1,1,1],[0,3,4,5],[.d (.sl (.int .i32)), .o 102 cTokT, .d (.int .i64), .d (.int .i64)], fun n x => zne k n x.1 x.2.1 x.2.2.1 x.2.2.2,[]⟩]) (entry := fun n x => zsm k n x) rfl rfl (by decide) (by kernel_rfl) ⟨⟨fun _ => by kernel_rfl, fun _ _ => by kernel_rfl⟩, ⟨fun _ => by kernel_rfl, fun _ _ => by kernel_rfl⟩, trivial⟩ (fun _ _ => by kernel_rfl) k
def ztj (k : Nat) (a0 : ByteArray) : Option Bool :=
  ((zuw k a0 ([(bs [100,105,118]),(bs [112]),(bs [117,108]),(bs [108,105]),(bs [104,49]),(bs [116,97,98,108,101])])).bind fun r1 =>
  some r1)
def zqb (k : Nat) : Con := ⟨[.d .str],[.d .bool], fun x => ztj k x⟩
theorem zyc (k : Nat) : ConOk Tryz.prog 88 (zqb k) :=
  za7 (ps := [.d .str]) (rs := [.d .bool]) (fn := Tryz.f88) (E := ⟨tOf tl, gOf [(125, zlm k)]⟩) ⟨za9 zae, zaa ⟨zr8 k, trivial⟩, mixedOk⟩ (body := bodyOf Tryz.f88) (pl := []) (M := 400) (cuts := []) (entry := fun n x => ztj k x) rfl rfl (by decide) (by kernel_rfl) trivial (fun _ _ => by kernel_rfl) k
def zsc (k : Nat) (a0 : ByteArray) : Option Bool :=
  ((zuw k a0 ([(bs [98,114]),(bs [104,114]),(bs [105,109,103]),(bs [105,110,112,117,116]),(bs [108,105,110,107]),(bs [109,101,116,97])])).bind fun r1 =>
  some r1)
def zn4 (k : Nat) : Con := ⟨[.d .str],[.d .bool], fun x => zsc k x⟩
theorem zuc (k : Nat) : ConOk Tryz.prog 93 (zn4 k) :=
  za7 (ps := [.d .str]) (rs := [.d .bool]) (fn := Tryz.f93) (E := ⟨tOf tl, gOf [(125, zlm k)]⟩) ⟨za9 zae, zaa ⟨zr8 k, trivial⟩, mixedOk⟩ (body := bodyOf Tryz.f93) (pl := []) (M := 400) (cuts := []) (entry := fun n x => zsc k x) rfl rfl (by decide) (by kernel_rfl) trivial (fun _ _ => by kernel_rfl) k
def zse (k : Nat) (a0 : ByteArray) : Option Bool :=
  ((zuw k a0 ([(bs [97]),(bs [98]),(bs [101,109]),(bs [105]),(bs [117])])).bind fun r1 =>
  some r1)
def zsd (k : Nat) : Con := ⟨[.d .str],[.d .bool], fun x => zse k x⟩
theorem ya8 (k : Nat) : ConOk Tryz.prog 95 (zsd k) :=
  za7 (ps := [.d .str]) (rs := [.d .bool]) (fn := Tryz.f95) (E := ⟨tOf tl, gOf [(125, zlm k)]⟩) ⟨za9 zae, zaa ⟨zr8 k, trivial⟩, mixedOk⟩ (body := bodyOf Tryz.f95) (pl := []) (M := 400) (cuts := []) (entry := fun n x => zse k x) rfl rfl (by decide) (by kernel_rfl) trivial (fun _ _ => by kernel_rfl) k
def zi4 : Nat → GroT → ByteArray → Int → Int → Option Int
  | 0, _, _, _, _ => none
  | n + 1, a0, a1, a2, v7 =>
  (bif decide (a2 < v7) then
  ((geti a0.2.1 v7).bind fun r1 =>
  (geti a0.1 r1).bind fun r2 =>
  (bif decide (r2.1 = a1) then
  (some v7)
  else ((zi4 n) a0 a1 a2 (w64 (v7 - 1)))))
  else (some (-1)))
def zlp (n : Nat) (a0 : GroT) (a1 : ByteArray) (a2 : Int) : Option Int :=
  ((zi4 n) a0 a1 a2 (w64 ((a0.2.1.length : Int) - 1)))
def zez (k : Nat) (a0 : GroT) (a1 : ByteArray) (a2 : Int) : Option Int := zlp k a0 a1 a2
def zcs (k : Nat) : Con := ⟨[.q cGroT, .d .str, .d (.int .i64)],[.d (.int .i64)], fun x => zez k x.1 x.2.1 x.2.2⟩
theorem zeh (k : Nat) : ConOk Tryz.prog 94 (zcs k) :=
  za7 (ps := [.q cGroT, .d .str, .d (.int .i64)]) (rs := [.d (.int .i64)]) (fn := Tryz.f94) (E := ⟨tOf tl, gOf []⟩) ⟨za9 zae, zaa trivial, mixedOk⟩ (body := bodyOf Tryz.f94) (pl := [(4,[(0,0),(1,0),(2,0),(3,0),(4,0),(5,0),(6,0),(7,0),(8,0),(9,0),(10,0),(11,0),(12,0),(13,0),(14,0),(15,0)],[])]) (M := 400) (cuts := [⟨2,[0,0,5,4,1,0,1],[0,1,2,7],[.q cGroT, .d .str, .d (.int .i64), .d (.int .i64)], fun n x => zi4 n x.1 x.2.1 x.2.2.1 x.2.2.2,[]⟩]) (entry := fun n x => zlp n x.1 x.2.1 x.2.2) rfl rfl (by decide) (by kernel_rfl) ⟨⟨fun _ => by kernel_rfl, fun _ _ => by kernel_rfl⟩, trivial⟩ (fun _ _ => by kernel_rfl) k
def zek (a0 : GroT) : Option ByteArray :=
  ((geti a0.2.1 (w64 ((a0.2.1.length : Int) - 1))).bind fun r1 =>
  (geti a0.1 r1).bind fun r2 =>
  some r2.1)
def zej : Con := ⟨[.q cGroT],[.d .str], fun x => zek x⟩
theorem zih : ConOk Tryz.prog 91 (zej) :=
  za7 (ps := [.q cGroT]) (rs := [.d .str]) (fn := Tryz.f91) (E := ⟨tOf tl, gOf []⟩) ⟨za9 zae, zaa trivial, mixedOk⟩ (body := bodyOf Tryz.f91) (pl := [(1,[(0,0),(1,0),(2,0),(3,0),(4,0),(5,0),(6,0),(7,0),(8,0),(9,0),(10,0),(11,0),(12,0),(13,0),(14,0),(15,0),(16,0),(17,0),(18,0),(19,0)],[])]) (M := 400) (cuts := []) (entry := fun n x => zek x) rfl rfl (by decide) (by kernel_rfl) trivial (fun _ _ => by kernel_rfl) 0
def zi6 : Nat → GroT → ByteArray → ByteArray → Int → Option Int
  | 0, _, _, _, _ => none
  | n + 1, a0, a1, a2, v7 =>
  (bif decide (0 < v7) then
  ((geti a0.2.1 v7).bind fun r1 =>
  (geti a0.1 r1).bind fun r2 =>
  (bif decide (r2.1 = a1) then
  (some v7)
  else (bif decide (r2.1 = a2) then
  (some v7)
  else ((zi6 n) a0 a1 a2 (w64 (v7 - 1))))))
  else (some 0))
def zlq (n : Nat) (a0 : GroT) (a1 : ByteArray) (a2 : ByteArray) : Option Int :=
  ((zi6 n) a0 a1 a2 (w64 ((a0.2.1.length : Int) - 1)))
def zdc (k : Nat) (a0 : GroT) (a1 : ByteArray) (a2 : ByteArray) : Option Int := zlq k a0 a1 a2
def zgr (k : Nat) : Con := ⟨[.q cGroT, .d .str, .d .str],[.d (.int .i64)], fun x => zdc k x.1 x.2.1 x.2.2⟩
theorem zkr (k : Nat) : ConOk Tryz.prog 90 (zgr k) :=
  za7 (ps := [.q cGroT, .d .str, .d .str]) (rs := [.d (.int .i64)]) (fn := Tryz.f90) (E := ⟨tOf tl, gOf []⟩) ⟨za9 zae, zaa trivial, mixedOk⟩ (body := bodyOf Tryz.f90) (pl := [(4,[(0,0),(1,0),(2,0),(3,0),(4,0),(5,0),(6,0),(7,0),(8,0),(9,0),(10,0),(11,0),(12,0),(13,0),(14,0)],[])]) (M := 400) (cuts := [⟨2,[0,0,5,4,1,0,1],[0,1,2,7],[.q cGroT, .d .str, .d .str, .d (.int .i64)], fun n x => zi6 n x.1 x.2.1 x.2.2.1 x.2.2.2,[]⟩]) (entry := fun n x => zlq n x.1 x.2.1 x.2.2) rfl rfl (by decide) (by kernel_rfl) ⟨⟨fun _ => by kernel_rfl, fun _ _ => by kernel_rfl⟩, trivial⟩ (fun _ _ => by kernel_rfl) k
def zhh : Nat → GroT → Int → Int → Option Int
  | 0, _, _, _ => none
  | n + 1, a0, a1, v5 =>
  (bif decide (0 < a1) then
  ((geti a0.1 a1).bind fun r1 =>
  ((zhh n) a0 r1.2.2.2.1 (w64 (v5 + 1))))
  else (some v5))
def zks (n : Nat) (a0 : GroT) (a1 : Int) : Option Int :=
  ((zhh n) a0 a1 1)
def zmk (k : Nat) (a0 : GroT) (a1 : Int) : Option Int := zks k a0 a1
def zjb (k : Nat) : Con := ⟨[.q cGroT, .d (.int .i64)],[.d (.int .i64)], fun x => zmk k x.1 x.2⟩
theorem zq2 (k : Nat) : ConOk Tryz.prog 51 (zjb k) :=
  za7 (ps := [.q cGroT, .d (.int .i64)]) (rs := [.d (.int .i64)]) (fn := Tryz.f51) (E := ⟨tOf tl, gOf []⟩) ⟨za9 zae, zaa trivial, mixedOk⟩ (body := bodyOf Tryz.f51) (pl := []) (M := 400) (cuts := [⟨2,[0,0,5,4,0,1,1],[0,1,5],[.q cGroT, .d (.int .i64), .d (.int .i64)], fun n x => zhh n x.1 x.2.1 x.2.2,[]⟩]) (entry := fun n x => zks n x.1 x.2) rfl rfl (by decide) (by kernel_rfl) ⟨⟨fun _ => by kernel_rfl, fun _ _ => by kernel_rfl⟩, trivial⟩ (fun _ _ => by kernel_rfl) k
def zdy (k : Nat) (a0 : GroT) (a1 : ByteArray) : Option Bool :=
  ((zek a0).bind fun r1 =>
  ((zez k a0 (bs [116,97,98,108,101]) 0).bind fun r2 =>
  (bif decide (0 < r2) then
  bif decide (r1 = (bs [116,97,98,108,101])) then
  bif decide (a1 ≠ (bs [116,114])) then
  bif decide (a1 ≠ (bs [116,100])) then
  some true
  else bif decide (r1 = (bs [116,114])) then
  some (decide (a1 ≠ (bs [116,100])))
  else some false
  else bif decide (r1 = (bs [116,114])) then
  some (decide (a1 ≠ (bs [116,100])))
  else some false
  else bif decide (r1 = (bs [116,114])) then
  some (decide (a1 ≠ (bs [116,100])))
  else some false
  else some false)))
def ze3 (k : Nat) : Con := ⟨[.q cGroT, .d .str],[.d .bool], fun x => zdy k x.1 x.2⟩
theorem zi5 (k : Nat) : ConOk Tryz.prog 85 (ze3 k) :=
  za7 (ps := [.q cGroT, .d .str]) (rs := [.d .bool]) (fn := Tryz.f85) (E := ⟨tOf tl, gOf [(91, zej),(94, zcs k)]⟩) ⟨za9 zae, zaa ⟨zih, zeh k, trivial⟩, mixedOk⟩ (body := bodyOf Tryz.f85) (pl := []) (M := 400) (cuts := []) (entry := fun n x => zdy k x.1 x.2) rfl rfl (by decide) (by kernel_rfl) trivial (fun _ _ => by kernel_rfl) k
def zhi (k : Nat) : Nat → GroT → Int → Int → Int → Option (Int × Int)
  | 0, _, _, _, _ => none
  | n + 1, a0, v4, v5, v6 =>
  (geti a0.1 v5).bind fun r4 =>
  (bif decide (v6 < (r4.2.2.2.2.1.length : Int)) then
  ((geti a0.1 v5).bind fun r5 =>
  (geti r5.2.2.2.2.1 v6).bind fun r6 =>
  (bif decide (r6 = v4) then
  (some (v5, v6))
  else ((zhi k n) a0 v4 v5 (w64 (v6 + 1)))))
  else (some (v5,0)))
def zkv (k : Nat) (n : Nat) (a0 : GroT) : Option (Int × Int) :=
  ((zez k a0 (bs [116,97,98,108,101]) 0).bind fun r1 =>
  (geti a0.2.1 r1).bind fun r2 =>
  ((geti a0.1 r2).bind fun r3 =>
  ((zhi k n) a0 r2 r3.2.2.2.1 0)))
def zil (k : Nat) (a0 : GroT) : Option (Int × Int) := zkv k k a0
def zfi (k : Nat) : Con := ⟨[.q cGroT],[.d (.int .i64), .d (.int .i64)], fun x => zil k x⟩
theorem zjq (k : Nat) : ConOk Tryz.prog 86 (zfi k) :=
  za7 (ps := [.q cGroT]) (rs := [.d (.int .i64), .d (.int .i64)]) (fn := Tryz.f86) (E := ⟨tOf tl, gOf [(94, zcs k)]⟩) ⟨za9 zae, zaa ⟨zeh k, trivial⟩, mixedOk⟩ (body := bodyOf Tryz.f86) (pl := [(1,[(0,0),(1,0),(2,0),(3,0),(4,0),(5,0),(6,0),(7,0),(8,0)],[])]) (M := 400) (cuts := [⟨4,[0,0,5,4,1,0,1,1,1],[0,4,5,6],[.q cGroT, .d (.int .i64), .d (.int .i64), .d (.int .i64)], fun n x => zhi k n x.1 x.2.1 x.2.2.1 x.2.2.2,[]⟩]) (entry := fun n x => zkv k n x) rfl rfl (by decide) (by kernel_rfl) ⟨⟨fun _ => by kernel_rfl, fun _ _ => by kernel_rfl⟩, trivial⟩ (fun _ _ => by kernel_rfl) k
def zco (k : Nat) (a0 : ((List NodG) × (List Int))) (a1 : ByteArray) (a2 : Int) : Option ((List NodG) × (List Int)) :=
  ((zez k (a0.1, a0.2,()) a1 a2).bind fun r1 =>
  (bif decide (0 < r1) then
  ((cutM a0.2 0 r1).bind fun r2 =>
  some (a0.1, r2))
  else some (a0.1, a0.2)))
def zgo (k : Nat) : Con := ⟨[.p [.o 97 cNodG, .o 3 (.int .i64)], .d .str, .d (.int .i64)],[], fun x => zco k x.1 x.2.1 x.2.2⟩
theorem zkn (k : Nat) : ConOk Tryz.prog 89 (zgo k) :=
  za7 (ps := [.p [.o 97 cNodG, .o 3 (.int .i64)], .d .str, .d (.int .i64)]) (rs := []) (fn := Tryz.f89) (E := ⟨tOf tl, gOf [(94, zcs k)]⟩) ⟨za9 zae, zaa ⟨zeh k, trivial⟩, mixedOk⟩ (body := bodyOf Tryz.f89) (pl := []) (M := 400) (cuts := []) (entry := fun n x => zco k x.1 x.2.1 x.2.2) rfl rfl (by decide) (by kernel_rfl) trivial (fun _ _ => by kernel_rfl) k
def zfh (a0 : ((List NodG) × (List Int))) (a1 : NodG) (a2 : Int) (a3 : Int) : Option (Int × ((List NodG) × (List Int))) :=
  ((appM 88 a0.1 ([(a1.1, a1.2.1, a1.2.2.1, a2, a1.2.2.2.2.1,())])).bind fun r1 =>
  ((geti r1 a2).bind fun r2 =>
  (geti r1 a2).bind fun r3 =>
  ((cutM r3.2.2.2.2.1 0 a3).bind fun r4 =>
  (cutM r3.2.2.2.2.1 a3 r3.2.2.2.2.1.length).bind fun r5 =>
  (appM 8 ([]) r4).bind fun r6 =>
  (appM 8 r6 ([(a0.1.length : Int)])).bind fun r7 =>
  (appM 8 r7 r5).bind fun r8 =>
  ((geti r1 a2).bind fun r9 =>
  (geti r1 a2).bind fun r10 =>
  (some ((a0.1.length : Int),((r1.set a2.toNat (r10.1, r10.2.1, r10.2.2.1, r10.2.2.2.1, r8,())), a0.2)))))))
def zhg : Con := ⟨[.p [.o 97 cNodG, .o 3 (.int .i64)], .d cNodG, .d (.int .i64), .d (.int .i64)],[.d (.int .i64)], fun x => zfh x.1 x.2.1 x.2.2.1 x.2.2.2⟩
theorem zln : ConOk Tryz.prog 87 (zhg) :=
  za7 (ps := [.p [.o 97 cNodG, .o 3 (.int .i64)], .d cNodG, .d (.int .i64), .d (.int .i64)]) (rs := [.d (.int .i64)]) (fn := Tryz.f87) (E := ⟨tOf tl, gOf []⟩) ⟨za9 zae, zaa trivial, mixedOk⟩ (body := bodyOf Tryz.f87) (pl := [(3,[(0,0),(1,0),(2,0),(3,0),(4,0),(5,0),(6,1),(7,1),(8,0),(9,0),(10,2)],[0,5]),(5,[(1,0),(2,0),(3,0),(5,0),(8,0),(9,0),(10,0),(1000,0),(1006,0),(1000,1),(4,1),(1006,1),(7,1),(11,1),(12,1)],[])]) (M := 400) (cuts := []) (entry := fun n x => zfh x.1 x.2.1 x.2.2.1 x.2.2.2) rfl rfl (by decide) (by kernel_rfl) trivial (fun _ _ => by kernel_rfl) 0
def zig (k : Nat) (y7 : Int) (y8 : Int) (a0 : ((List NodG) × (List Int))) (a1 : ByteArray) (a2 : (List AttT)) : Option ((List NodG) × (List Int)) :=
  (zfh (a0.1, a0.2) (a1,(bs []), a2,0,[],()) y7 y8).bind fun r9 =>
  ((zsc k a1).bind fun r10 =>
  (bif (!r10) then
  ((appM 8 r9.2.2 ([r9.1])).bind fun r11 =>
  some (r9.2.1, r11))
  else some (r9.2.1, r9.2.2)))
def zb4 (k : Nat) (a0 : ((List NodG) × (List Int))) (a1 : ByteArray) (a2 : (List AttT)) : Option ((List NodG) × (List Int)) :=
  ((geti a0.2 (w64 ((a0.2.length : Int) - 1))).bind fun r1 =>
  (geti a0.2 (w64 ((a0.2.length : Int) - 1))).bind fun r2 =>
  ((geti a0.1 r2).bind fun r3 =>
  (geti a0.1 r2).bind fun r4 =>
  ((zdy k (a0.1, a0.2,()) a1).bind fun r5 =>
  (bif r5 then
  ((zil k (a0.1, a0.2,())).bind fun r6 =>
  (zig k r6.1 r6.2 a0 a1 a2))
  else (zig k r2 (r4.2.2.2.2.1.length : Int) a0 a1 a2)))))
def zei (k : Nat) : Con := ⟨[.p [.o 97 cNodG, .o 3 (.int .i64)], .d .str, .d (.sl cAttT)],[], fun x => zb4 k x.1 x.2.1 x.2.2⟩
theorem zif (k : Nat) : ConOk Tryz.prog 92 (zei k) :=
  za7 (ps := [.p [.o 97 cNodG, .o 3 (.int .i64)], .d .str, .d (.sl cAttT)]) (rs := []) (fn := Tryz.f92) (E := ⟨tOf tl, gOf [(85, ze3 k),(86, zfi k),(87, zhg),(93, zn4 k)]⟩) ⟨za9 zae, zaa ⟨zi5 k, zjq k, zln, zuc k, trivial⟩, mixedOk⟩ (body := bodyOf Tryz.f92) (pl := [(0,[(0,0),(1,0),(2,0),(3,0),(4,0),(5,0),(6,0),(7,0),(8,0),(9,0),(10,0),(11,0),(12,0)],[1000000])]) (M := 400) (cuts := []) (entry := fun n x => zb4 k x.1 x.2.1 x.2.2) rfl rfl (by decide) (by kernel_rfl) trivial (fun _ _ => by kernel_rfl) k
def zkq (k : Nat) (y4 : (List NodG)) (y5 : (List Int)) (a1 : ByteArray) (a2 : (List AttT)) : Option ((List NodG) × (List Int)) :=
  (bif decide (a1 = (bs [108,105])) then
  ((zdc k (y4, y5,()) (bs [117,108]) (bs [116,100])).bind fun r6 =>
  (zco k (y4, y5) (bs [108,105]) r6).bind fun r7 =>
  ((zb4 k (r7.1, r7.2) a1 a2).bind fun r16 =>
  some (r16.1, r16.2)))
  else (bif decide (a1 = (bs [116,114])) then
  ((zdc k (y4, y5,()) (bs [116,97,98,108,101]) (bs [116,97,98,108,101])).bind fun r8 =>
  (zco k (y4, y5) (bs [116,114]) r8).bind fun r9 =>
  ((zb4 k (r9.1, r9.2) a1 a2).bind fun r16 =>
  some (r16.1, r16.2)))
  else (bif decide (a1 = (bs [116,100])) then
  ((zdc k (y4, y5,()) (bs [116,114]) (bs [116,114])).bind fun r10 =>
  (zco k (y4, y5) (bs [116,100]) r10).bind fun r11 =>
  ((zek (r11.1, r11.2,())).bind fun r12 =>
  (bif decide (r12 = (bs [116,97,98,108,101])) then
  ((zb4 k (r11.1, r11.2) (bs [116,114]) ([])).bind fun r13 =>
  ((zb4 k (r13.1, r13.2) a1 a2).bind fun r16 =>
  some (r16.1, r16.2)))
  else ((zb4 k (r11.1, r11.2) a1 a2).bind fun r16 =>
  some (r16.1, r16.2)))))
  else ((zb4 k (y4, y5) a1 a2).bind fun r16 =>
  some (r16.1, r16.2)))))
def zh6 (k : Nat) (a0 : ((List NodG) × (List Int))) (a1 : ByteArray) (a2 : (List AttT)) : Option ((List NodG) × (List Int)) :=
  ((ztj k a1).bind fun r1 =>
  (bif r1 then
  ((zdc k (a0.1, a0.2,()) (bs [116,100]) (bs [116,100])).bind fun r2 =>
  (zco k (a0.1, a0.2) (bs [112]) r2).bind fun r3 =>
  (zkq k r3.1 r3.2 a1 a2))
  else (zkq k a0.1 a0.2 a1 a2)))
def zgq (k : Nat) : Con := ⟨[.p [.o 97 cNodG, .o 3 (.int .i64)], .d .str, .d (.sl cAttT)],[], fun x => zh6 k x.1 x.2.1 x.2.2⟩
theorem zkp (k : Nat) : ConOk Tryz.prog 49 (zgq k) :=
  za7 (ps := [.p [.o 97 cNodG, .o 3 (.int .i64)], .d .str, .d (.sl cAttT)]) (rs := []) (fn := Tryz.f49) (E := ⟨tOf tl, gOf [(88, zqb k),(89, zgo k),(90, zgr k),(91, zej),(92, zei k)]⟩) ⟨za9 zae, zaa ⟨zyc k, zkn k, zkr k, zih, zif k, trivial⟩, mixedOk⟩ (body := bodyOf Tryz.f49) (pl := []) (M := 400) (cuts := []) (entry := fun n x => zh6 k x.1 x.2.1 x.2.2) rfl rfl (by decide) (by kernel_rfl) trivial (fun _ _ => by kernel_rfl) k
def zjp (k : Nat) (a1 : ByteArray) (a0 : ((List NodG) × (List Int))) (r2 : Int) (r4 : NodG) : Option ((List NodG) × (List Int)) :=
  (bif decide (a1 ≠ (bs [])) then
  ((zfh (a0.1, a0.2) ((bs []), a1,[],0,[],()) r2 (r4.2.2.2.2.1.length : Int)).bind fun r19 =>
  some (r19.2.1, r19.2.2))
  else some (a0.1, a0.2))
def zii (k : Nat) (a1 : ByteArray) (a0 : ((List NodG) × (List Int))) (r21 : (Int × Int)) : Option ((List NodG) × (List Int)) :=
  (bif decide (a1 ≠ (bs [])) then
  ((zfh (a0.1, a0.2) ((bs []), a1,[],0,[],()) r21.1 r21.2).bind fun r35 =>
  some (r35.2.1, r35.2.2))
  else some (a0.1, a0.2))
def zel (k : Nat) : Nat → ((List NodG) × (List Int)) → ByteArray → Bool → (ByteArray × Nat) → Option ((List NodG) × (List Int))
  | 0, _, _, _, _ => none
  | n + 1, a0, a1, v6, v34 =>
  bif decide (v34.2 < v34.1.size) then
  (bif v6 then
  (zc5 ((Utf8.decode v34.1 v34.2).1 : Int)).bind fun r20 =>
  (zel k n) (a0.1, a0.2) a1 r20 (v34.1,(v34.2 + (Utf8.decode v34.1 v34.2).2))
  else (zel k n) (a0.1, a0.2) a1 false (v34.1,(v34.2 + (Utf8.decode v34.1 v34.2).2)))
  else (bif v6 then
  some (a0.1, a0.2)
  else ((zil k (a0.1, a0.2,())).bind fun r21 =>
  (bif decide (0 < r21.2) then
  (geti a0.1 r21.1).bind fun r22 =>
  (geti a0.1 r21.1).bind fun r23 =>
  (geti r23.2.2.2.2.1 (w64 (r21.2 - 1))).bind fun r24 =>
  (geti a0.1 r24).bind fun r25 =>
  (geti a0.1 r24).bind fun r26 =>
  (bif decide (r26.1 = (bs [])) then
  ((geti a0.1 r21.1).bind fun r27 =>
  (geti a0.1 r21.1).bind fun r28 =>
  (geti r28.2.2.2.2.1 (w64 (r21.2 - 1))).bind fun r29 =>
  ((geti a0.1 r29).bind fun r30 =>
  (geti a0.1 r29).bind fun r31 =>
  (addS r31.2.1 a1).bind fun r32 =>
  (geti a0.1 r29).bind fun r33 =>
  (geti a0.1 r29).bind fun r34 =>
  some ((a0.1.set r29.toNat (r34.1, r32, r34.2.2.1, r34.2.2.2.1, r34.2.2.2.2.1,())), a0.2)))
  else (zii k a1 a0 r21))
  else (zii k a1 a0 r21))))
def zku (k : Nat) (n : Nat) (a0 : ((List NodG) × (List Int))) (a1 : ByteArray) : Option ((List NodG) × (List Int)) :=
  ((geti a0.2 (w64 ((a0.2.length : Int) - 1))).bind fun r1 =>
  (geti a0.2 (w64 ((a0.2.length : Int) - 1))).bind fun r2 =>
  ((geti a0.1 r2).bind fun r3 =>
  (geti a0.1 r2).bind fun r4 =>
  ((zdy k (a0.1, a0.2,()) (bs [])).bind fun r5 =>
  (bif r5 then
  ((zel k n) (a0.1, a0.2) a1 true (a1,0))
  else (bif decide (0 < (r4.2.2.2.2.1.length : Int)) then
  (geti a0.1 r2).bind fun r6 =>
  (geti a0.1 r2).bind fun r7 =>
  (geti r7.2.2.2.2.1 (w64 ((r4.2.2.2.2.1.length : Int) - 1))).bind fun r8 =>
  (geti a0.1 r8).bind fun r9 =>
  (geti a0.1 r8).bind fun r10 =>
  (bif decide (r10.1 = (bs [])) then
  ((geti a0.1 r2).bind fun r11 =>
  (geti a0.1 r2).bind fun r12 =>
  (geti r12.2.2.2.2.1 (w64 ((r4.2.2.2.2.1.length : Int) - 1))).bind fun r13 =>
  ((geti a0.1 r13).bind fun r14 =>
  (geti a0.1 r13).bind fun r15 =>
  (addS r15.2.1 a1).bind fun r16 =>
  (geti a0.1 r13).bind fun r17 =>
  (geti a0.1 r13).bind fun r18 =>
  some ((a0.1.set r13.toNat (r18.1, r16, r18.2.2.1, r18.2.2.2.1, r18.2.2.2.2.1,())), a0.2)))
  else (zjp k a1 a0 r2 r4))
  else (zjp k a1 a0 r2 r4))))))
def zmm (k : Nat) (a0 : ((List NodG) × (List Int))) (a1 : ByteArray) : Option ((List NodG) × (List Int)) := zku k k a0 a1
def zjd (k : Nat) : Con := ⟨[.p [.o 97 cNodG, .o 3 (.int .i64)], .d .str],[], fun x => zmm k x.1 x.2⟩
theorem zq4 (k : Nat) : ConOk Tryz.prog 48 (zjd k) :=
  za7 (ps := [.p [.o 97 cNodG, .o 3 (.int .i64)], .d .str]) (rs := []) (fn := Tryz.f48) (E := ⟨tOf tl, gOf [(45, zcb),(85, ze3 k),(86, zfi k),(87, zhg)]⟩) ⟨za9 zae, zaa ⟨zdk, zi5 k, zjq k, zln, trivial⟩, mixedOk⟩ (body := bodyOf Tryz.f48) (pl := [(0,[(0,0),(1,0),(2,0),(3,0),(4,0),(5,0),(6,0),(7,0),(8,0),(9,0),(10,0),(11,0),(12,0)],[1000000]),(10,[(0,0),(1,0),(2,0),(3,0),(4,0),(5,0),(6,0),(7,0),(8,0),(9,0),(10,0),(11,0),(12,0),(13,0),(14,0),(15,0),(16,0),(17,0),(18,0),(19,0),(20,0),(21,0),(22,0),(23,0)],[1000000]),(12,[(0,0),(1,0),(2,0),(3,0),(4,0),(5,0),(6,0),(7,0),(8,0),(9,0),(10,0),(11,0),(12,0),(13,0),(14,0),(15,0),(16,0),(17,2)],[1000000])]) (M := 400) (cuts := [⟨5,[0,5,4,1,0,1,2,1,0,1,1],[0,1,6,34],[.p [.o 97 cNodG, .o 3 (.int .i64)], .d .str, .d .bool, .g], fun n x => zel k n x.1 x.2.1 x.2.2.1 x.2.2.2,[]⟩]) (entry := fun n x => zku k n x.1 x.2) rfl rfl (by decide) (by kernel_rfl) ⟨⟨fun _ => by kernel_rfl, fun _ _ => by kernel_rfl⟩, trivial⟩ (fun _ _ => by kernel_rfl) k
def zdz (k : Nat) (J14 : ((List NodG) × (List Int)) → (List Int) → (List Int) → Int → Option ((List NodG) × (List Int))) (y3 : Int) (a0 : ((List NodG) × (List Int))) (a1 : ByteArray) : Option ((List NodG) × (List Int)) :=
  (zez k (a0.1, a0.2,()) a1 y3).bind fun r4 =>
  (bif decide (r4 < 0) then
  (bif decide (a1 = (bs [112])) then
  ((zh6 k (a0.1, a0.2) (bs [112]) ([])).bind fun r5 =>
  ((zco k (r5.1, r5.2) (bs [112]) 0).bind fun r6 =>
  some (r6.1, r6.2)))
  else some (a0.1, a0.2))
  else ((cutM a0.2 (w64 (r4 + 1)) (a0.2.length : Int)).bind fun r7 =>
  (cutM a0.2 (w64 (r4 + 1)) (a0.2.length : Int)).bind fun r8 =>
  (appM 8 ([]) r8).bind fun r9 =>
  ((cutM a0.2 0 r4).bind fun r10 =>
  ((zse k a1).bind fun r11 =>
  (bif (!r11) then
  some (a0.1, r10)
  else (J14 (a0.1, r10) r9 ([]) 0))))))
mutual
def zbl (k : Nat) : Nat → ((List NodG) × (List Int)) → (List Int) → (List Int) → Int → Option ((List NodG) × (List Int))
  | 0, _, _, _, _ => none
  | n + 1, a0, v6, v7, v8 =>
  (bif decide (v8 < (v6.length : Int)) then
  ((geti v6 v8).bind fun r12 =>
  (geti a0.1 r12).bind fun r13 =>
  (geti a0.1 r12).bind fun r14 =>
  (zse k r14.1).bind fun r15 =>
  (bif r15 then
  ((geti v6 v8).bind fun r16 =>
  (appM 8 v7 ([r16])).bind fun r17 =>
  ((zbl k n) (a0.1, a0.2) v6 r17 (w64 (v8 + 1))))
  else ((zbl k n) (a0.1, a0.2) v6 v7 (w64 (v8 + 1)))))
  else (bif decide (8 < (v7.length : Int)) then
  ((cutM v7 (w64 ((v7.length : Int) - 8)) (v7.length : Int)).bind fun r19 =>
  ((cutM v7 (w64 ((v7.length : Int) - 8)) (v7.length : Int)).bind fun r20 =>
  (ze0 k n) (a0.1, a0.2) r20 0))
  else ((ze0 k n) (a0.1, a0.2) v7 0)))
def ze0 (k : Nat) : Nat → ((List NodG) × (List Int)) → (List Int) → Int → Option ((List NodG) × (List Int))
  | 0, _, _, _ => none
  | n + 1, a0, v7, v9 =>
  (bif decide (v9 < (v7.length : Int)) then
  ((geti v7 v9).bind fun r21 =>
  (geti a0.1 r21).bind fun r22 =>
  (geti a0.1 r21).bind fun r23 =>
  ((zb4 k (a0.1, a0.2) r23.1 r23.2.2.1).bind fun r24 =>
  ((ze0 k n) (r24.1, r24.2) v7 (w64 (v9 + 1)))))
  else some (a0.1, a0.2))
end
def zkt (k : Nat) (n : Nat) (a0 : ((List NodG) × (List Int))) (a1 : ByteArray) : Option ((List NodG) × (List Int)) :=
  ((zsc k a1).bind fun r1 =>
  bif r1 then
  (some (a0.1, a0.2))
  else (bif decide (a1 = (bs [114,111,111,116])) then
  some (a0.1, a0.2)
  else (bif decide (a1 ≠ (bs [116,100])) then
  bif decide (a1 ≠ (bs [116,114])) then
  (bif decide (a1 ≠ (bs [116,97,98,108,101])) then
  ((zdc k (a0.1, a0.2,()) (bs [116,100]) (bs [116,100])).bind fun r2 =>
  (zdz k (zbl k n) r2 a0 a1))
  else (zdz k (zbl k n) 0 a0 a1))
  else (zdz k (zbl k n) 0 a0 a1)
  else (zdz k (zbl k n) 0 a0 a1))))
def zml (k : Nat) (a0 : ((List NodG) × (List Int))) (a1 : ByteArray) : Option ((List NodG) × (List Int)) := zkt k k a0 a1
def zjc (k : Nat) : Con := ⟨[.p [.o 97 cNodG, .o 3 (.int .i64)], .d .str],[], fun x => zml k x.1 x.2⟩
theorem zq3 (k : Nat) : ConOk Tryz.prog 50 (zjc k) :=
  za7 (ps := [.p [.o 97 cNodG, .o 3 (.int .i64)], .d .str]) (rs := []) (fn := Tryz.f50) (E := ⟨tOf tl, gOf [(49, zgq k),(89, zgo k),(90, zgr k),(92, zei k),(93, zn4 k),(94, zcs k),(95, zsd k)]⟩) ⟨za9 zae, zaa ⟨zkp k, zkn k, zkr k, zif k, zuc k, zeh k, ya8 k, trivial⟩, mixedOk⟩ (body := bodyOf Tryz.f50) (pl := [(16,[(0,0),(1,0),(2,0),(3,0),(4,0),(5,0),(6,0),(7,0),(8,0),(9,0),(10,0),(11,0)],[1000000]),(23,[(0,0),(1,0),(2,0),(3,0),(4,0),(5,0),(6,0),(7,0),(8,0),(9,0),(10,1),(11,1)],[1000000])]) (M := 400) (cuts := [⟨14,[0,0,5,4,1,0,1,1,1,1,1,1,1,1,1],[0,6,7,8],[.p [.o 97 cNodG, .o 3 (.int .i64)], .d (.sl (.int .i64)), .o 3 (.int .i64), .d (.int .i64)], fun n x => zbl k n x.1 x.2.1 x.2.2.1 x.2.2.2,[]⟩, ⟨21,[0,0,5,4,1,1,1,1,1,1,1,1,1,1,1,1],[0,7,9],[.p [.o 97 cNodG, .o 3 (.int .i64)], .d (.sl (.int .i64)), .d (.int .i64)], fun n x => ze0 k n x.1 x.2.1 x.2.2,[]⟩]) (entry := fun n x => zkt k n x.1 x.2) rfl rfl (by decide) (by kernel_rfl) ⟨⟨fun _ => by kernel_rfl, fun _ _ => by kernel_rfl⟩, ⟨fun _ => by kernel_rfl, fun _ _ => by kernel_rfl⟩, trivial⟩ (fun _ _ => by kernel_rfl) k
def zi3 (k : Nat) (S : GroT → Int → Int → Option ParT) : Nat → GroT → Int → (ByteArray × ByteArray × (List AttT) × (List ParT)) → NodG → (ByteArray × ByteArray × (List AttT) × (List ParT)) → Int → Option ParT
  | 0, _, _, _, _, _, _ => none
  | n + 1, a0, a2, v6, v7, v8, v9 =>
  bif decide (v9 < (v7.2.2.2.2.1.length : Int)) then
  (bif decide (0 < a2) then
  ((geti v7.2.2.2.2.1 v9).bind fun r2 =>
  (S a0 r2 (w64 (a2 - 1))).bind fun r3 =>
  (appM 80 v8.2.2.2 ([(Tr.mk r3.x r3.kids)])).bind fun r4 =>
  ((zi3 k S n) a0 a2 (v6.1, v6.2.1, v6.2.2.1, v6.2.2.2) v7 (v8.1, v8.2.1, v8.2.2.1, r4) (w64 (v9 + 1))))
  else (some (Tr.mk (v8.1, v8.2.1, v8.2.2.1,()) v8.2.2.2)))
  else (some (Tr.mk (v8.1, v8.2.1, v8.2.2.1,()) v8.2.2.2))
def zlo (k : Nat) (S : GroT → Int → Int → Option ParT) (n : Nat) (a0 : GroT) (a1 : Int) (a2 : Int) : Option ParT :=
  ((geti a0.1 a1).bind fun r1 =>
  ((zi3 k S n) a0 a2 ((bs []),(bs []),[],[]) r1 (r1.1, r1.2.1, r1.2.2.1,[]) 0))
def zey : Nat → GroT → Int → Int → Option ParT
  | 0, _, _, _ => none
  | k + 1, a0, a1, a2 => zlo k (fun a0 a1 a2 => zey k a0 a1 a2) k a0 a1 a2
def zgp (k : Nat) : Con := ⟨[.b cGroT, .d (.int .i64), .d (.int .i64)],[.d cParT], fun x => zey k x.1 x.2.1 x.2.2⟩
theorem zko : (k : Nat) → ConOk Tryz.prog 53 (zgp k)
  | 0 => con0 ⟨Tryz.f53, rfl, rfl, by decide⟩
  | k + 1 => za7 (ps := [.b cGroT, .d (.int .i64), .d (.int .i64)]) (rs := [.d cParT]) (fn := Tryz.f53) (E := ⟨tOf tl, gOf [(53, zgp k)]⟩) ⟨za9 zae, zaa ⟨zko k, trivial⟩, mixedOk⟩ (body := bodyOf Tryz.f53) (pl := [(6,[(0,0),(1,0),(2,0),(3,0),(4,0),(5,0),(6,0),(7,0),(8,0),(9,0),(10,1),(11,1),(12,1),(13,0),(14,2)],[7,8])]) (M := 400) (cuts := [⟨4,[0,0,5,4,1,0,1,1,1],[0,2,6,7,8,9],[.b cGroT, .d (.int .i64), .p [.d .str, .d .str, .d (.sl cAttT), .o 109 cParT], .p [.d cNodG], .p [.d .str, .d .str, .d (.sl cAttT), .o 109 cParT], .d (.int .i64)], fun n x => zi3 k (zey k) n x.1 x.2.1 x.2.2.1 x.2.2.2.1 x.2.2.2.2.1 x.2.2.2.2.2,[]⟩]) (entry := fun n x => zlo k (zey k) n x.1 x.2.1 x.2.2) rfl rfl (by decide) (by kernel_rfl) ⟨⟨fun _ => by kernel_rfl, fun _ _ => by kernel_rfl⟩, trivial⟩ (fun _ _ => by kernel_rfl) k
def zvh (k : Nat) (S : (List NodT) → ParT → Int → Int → Option (List NodT)) (J10 : (List NodT) → ParT → Int → Int → Int → Option (List NodT)) (y4 : (List NodT)) (a1 : ParT) (a0 : (List NodT)) : Option (List NodT) :=
  (bif decide (a1.x.1 = (bs [])) then
  (some y4)
  else (J10 y4 (Tr.mk a1.x a1.kids) (a0.length : Int) (-1) 0))
def zkw (k : Nat) (S : (List NodT) → ParT → Int → Int → Option (List NodT)) : Nat → (List NodT) → ParT → Int → Int → Int → Option (List NodT)
  | 0, _, _, _, _, _ => none
  | n + 1, a0, v5, v9, v11, v12 =>
  (bif decide (v12 < (v5.kids.length : Int)) then
  ((geti v5.kids v12).bind fun r5 =>
  (S a0 (Tr.mk r5.x r5.kids) v9 v11).bind fun r6 =>
  (bif decide (0 ≤ v11) then
  ((geti r6 v11).bind fun r7 =>
  (geti r6 v11).bind fun r8 =>
  (((zkw k S n) (r6.set v11.toNat (zmg r8 (a0.length : Int))) (Tr.mk v5.x v5.kids) v9 (a0.length : Int) (w64 (v12 + 1)))))
  else ((geti r6 v9).bind fun r9 =>
  (geti r6 v9).bind fun r10 =>
  (((zkw k S n) (r6.set v9.toNat (znq r10 (a0.length : Int))) (Tr.mk v5.x v5.kids) v9 (a0.length : Int) (w64 (v12 + 1)))))))
  else ((geti a0 v9).bind fun r12 =>
  (geti a0 v9).bind fun r13 =>
  (some (a0.set v9.toNat (zjn r13 v11)))))
def zxj (k : Nat) (S : (List NodT) → ParT → Int → Int → Option (List NodT)) (n : Nat) (a0 : (List NodT)) (a1 : ParT) (a2 : Int) (a3 : Int) : Option (List NodT) :=
  (bif decide (a1.x.1 ≠ (bs [])) then
  ((appM 32 ([]) a1.x.2.2.1).bind fun r1 =>
  ((appM 104 a0 ([(1, a1.x.1,(bs []), r1, a2,(-1),(-1), a3,(-1),())])).bind fun r3 =>
  (zvh k S (zkw k S n) r3 a1 a0)))
  else ((appM 104 a0 ([(2,(bs []), a1.x.2.1,[], a2,(-1),(-1), a3,(-1),())])).bind fun r2 =>
  (zvh k S (zkw k S n) r2 a1 a0)))
def zsf : Nat → (List NodT) → ParT → Int → Int → Option (List NodT)
  | 0, _, _, _, _ => none
  | k + 1, a0, a1, a2, a3 => zxj k (fun a0 a1 a2 a3 => zsf k a0 a1 a2 a3) k a0 a1 a2 a3
def zoc (k : Nat) : Con := ⟨[.o 57 cNodT, .d cParT, .d (.int .i64), .d (.int .i64)],[.o 57 cNodT], fun x => zsf k x.1 x.2.1 x.2.2.1 x.2.2.2⟩
theorem zvg : (k : Nat) → ConOk Tryz.prog 52 (zoc k)
  | 0 => con0 ⟨Tryz.f52, rfl, rfl, by decide⟩
  | k + 1 => za7 (ps := [.o 57 cNodT, .d cParT, .d (.int .i64), .d (.int .i64)]) (rs := [.o 57 cNodT]) (fn := Tryz.f52) (E := ⟨tOf tl, gOf [(52, zoc k)]⟩) ⟨za9 zae, zaa ⟨zvg k, trivial⟩, mixedOk⟩ (body := bodyOf Tryz.f52) (pl := [(4,[(0,0),(1,0),(3,0),(4,0),(6,0),(7,0),(2,1),(5,1),(8,1),(9,1)],[5])]) (M := 400) (cuts := [⟨10,[0,0,5,4,1,0,1,1,1,1,1,1,1],[0,5,9,11,12],[.o 57 cNodT, .p [.d cParT], .d (.int .i64), .d (.int .i64), .d (.int .i64)], fun n x => zkw k (zsf k) n x.1 x.2.1 x.2.2.1 x.2.2.2.1 x.2.2.2.2,[]⟩]) (entry := fun n x => zxj k (zsf k) n x.1 x.2.1 x.2.2.1 x.2.2.2) rfl rfl (by decide) (by kernel_rfl) ⟨⟨fun _ => by kernel_rfl, fun _ _ => by kernel_rfl⟩, trivial⟩ (fun _ _ => by kernel_rfl) k
mutual
def zho (k : Nat) : Nat → (List TokT) → TreT → ((List NodG) × (List Int)) → Bool → Int → Option (TreT × Int)
  | 0, _, _, _, _, _ => none
  | n + 1, a0, v2, v4, v5, v6 =>
  (bif decide (v6 < (a0.length : Int)) then
  ((geti a0 v6).bind fun r1 =>
  (bif decide (r1.1 = 1) then
  ((geti a0 v6).bind fun r2 =>
  (zmm k (v4.1, v4.2) r2.2.2.1).bind fun r3 =>
  ((zho k n) a0 v2 (r3.1, r3.2) v5 (w64 (v6 + 1))))
  else (bif decide (r1.1 = 2) then
  ((geti a0 v6).bind fun r4 =>
  (geti a0 v6).bind fun r5 =>
  (zh6 k (v4.1, v4.2) r4.2.1 r5.2.2.2.1).bind fun r6 =>
  ((zho k n) a0 v2 (r6.1, r6.2) v5 (w64 (v6 + 1))))
  else (bif decide (r1.1 = 3) then
  ((geti a0 v6).bind fun r7 =>
  (zml k (v4.1, v4.2) r7.2.1).bind fun r8 =>
  ((zho k n) a0 v2 (r8.1, r8.2) v5 (w64 (v6 + 1))))
  else ((zho k n) a0 v2 (v4.1, v4.2) v5 (w64 (v6 + 1)))))))
  else ((zju k n) v2 (v4.1, v4.2) v5 0))
def zju (k : Nat) : Nat → TreT → ((List NodG) × (List Int)) → Bool → Int → Option (TreT × Int)
  | 0, _, _, _, _ => none
  | n + 1, v2, v4, v5, v7 =>
  (bif decide (v7 < (v4.1.length : Int)) then
  (bif v5 then
  ((zju k n) v2 (v4.1, v4.2) true (w64 (v7 + 1)))
  else (zmk k (v4.1, v4.2,()) v7).bind fun r11 =>
  ((zju k n) v2 (v4.1, v4.2) (decide (256 < r11)) (w64 (v7 + 1))))
  else (bif decide (4096 < (v4.1.length : Int)) then
  (some (([],()),4))
  else (bif v5 then
  (some (([],()),5))
  else ((zey k (v4.1, v4.2,()) 0 256).bind fun r13 =>
  (zsf k ([]) (Tr.mk r13.x r13.kids) (-1) (-1)).bind fun r14 =>
  some ((r14,()),0)))))
end
def zud (k : Nat) (n : Nat) (a0 : (List TokT)) : Option (TreT × Int) :=
  ((zho k n) a0 ([],()) ([((bs [114,111,111,116]),(bs []),[],(-1),[],())],[0]) false 0)
def zxi (k : Nat) (a0 : (List TokT)) : Option (TreT × Int) := zud k k a0
def zqa (k : Nat) : Con := ⟨[.d (.sl cTokT)],[.d cTreT, .d (.int .i64)], fun x => zxi k x⟩
theorem zyb (k : Nat) : ConOk Tryz.prog 29 (zqa k) :=
  za7 (ps := [.d (.sl cTokT)]) (rs := [.d cTreT, .d (.int .i64)]) (fn := Tryz.f29) (E := ⟨tOf tl, gOf [(48, zjd k),(49, zgq k),(50, zjc k),(51, zjb k),(52, zoc k),(53, zgp k)]⟩) ⟨za9 zae, zaa ⟨zq4 k, zkp k, zq3 k, zq2 k, zvg k, zko k, trivial⟩, mixedOk⟩ (body := bodyOf Tryz.f29) (pl := [(10,[(0,0),(1,0),(2,0),(3,0),(4,0),(5,0),(6,0),(7,0),(8,0),(9,0),(10,0),(11,1)],[])]) (M := 400) (cuts := [⟨4,[0,0,5,4,1,0,1,1,1],[0,2,4,5,6],[.d (.sl cTokT), .p [.d cTreT], .p [.o 97 cNodG, .o 3 (.int .i64)], .d .bool, .d (.int .i64)], fun n x => zho k n x.1 x.2.1 x.2.2.1 x.2.2.2.1 x.2.2.2.2,[]⟩, ⟨14,[0,0,5,4,1,0,1,1,1,1],[2,4,5,7],[.p [.d cTreT], .p [.o 97 cNodG, .o 3 (.int .i64)], .d .bool, .d (.int .i64)], fun n x => zju k n x.1 x.2.1 x.2.2.1 x.2.2.2,[]⟩]) (entry := fun n x => zud k n x) rfl rfl (by decide) (by kernel_rfl) ⟨⟨fun _ => by kernel_rfl, fun _ _ => by kernel_rfl⟩, ⟨fun _ => by kernel_rfl, fun _ _ => by kernel_rfl⟩, trivial⟩ (fun _ _ => by kernel_rfl) k
mutual
def zfj : Nat → (List AttT) → Int → Option Bool
  | 0, _, _ => none
  | n + 1, a0, v3 =>
  (bif decide (v3 < (a0.length : Int)) then
  ((geti a0 v3).bind fun r1 =>
  (bif decide (r1.1 = (bs [])) then
  (some false)
  else ((zhp n) a0 v3 0)))
  else (some (decide ((a0.length : Int) ≤ 64))))
def zhp : Nat → (List AttT) → Int → Int → Option Bool
  | 0, _, _, _ => none
  | n + 1, a0, v3, v4 =>
  (bif decide (v4 < v3) then
  ((geti a0 v4).bind fun r2 =>
  (geti a0 v3).bind fun r3 =>
  (bif decide (r2.1 = r3.1) then
  (some false)
  else ((zhp n) a0 v3 (w64 (v4 + 1)))))
  else ((zfj n) a0 (w64 (v3 + 1))))
end
def zob (n : Nat) (a0 : (List AttT)) : Option Bool :=
  ((zfj n) a0 0)
def ztk (k : Nat) (a0 : (List AttT)) : Option Bool := zob k a0
def zqd (k : Nat) : Con := ⟨[.d (.sl cAttT)],[.d .bool], fun x => ztk k x⟩
theorem zye (k : Nat) : ConOk Tryz.prog 104 (zqd k) :=
  za7 (ps := [.d (.sl cAttT)]) (rs := [.d .bool]) (fn := Tryz.f104) (E := ⟨tOf tl, gOf []⟩) ⟨za9 zae, zaa trivial, mixedOk⟩ (body := bodyOf Tryz.f104) (pl := [(9,[(0,0),(1,0),(2,0),(3,0),(4,0),(5,0),(6,0),(7,0),(8,0),(9,0),(10,0)],[])]) (M := 400) (cuts := [⟨2,[0,0,5,4,1,0,1],[0,3],[.d (.sl cAttT), .d (.int .i64)], fun n x => zfj n x.1 x.2,[]⟩, ⟨7,[0,0,5,4,1,1,4,0,1,5,4,1,0,1],[0,3,4],[.d (.sl cAttT), .d (.int .i64), .d (.int .i64)], fun n x => zhp n x.1 x.2.1 x.2.2,[]⟩]) (entry := fun n x => zob n x) rfl rfl (by decide) (by kernel_rfl) ⟨⟨fun _ => by kernel_rfl, fun _ _ => by kernel_rfl⟩, ⟨fun _ => by kernel_rfl, fun _ _ => by kernel_rfl⟩, trivial⟩ (fun _ _ => by kernel_rfl) k
def zmn (k : Nat) (a0 : NodT) : Option Bool :=
  (bif decide (a0.1 = 1) then
  (bif decide (a0.2.1 ≠ (bs [])) then
  bif decide (a0.2.2.1 = (bs [])) then
  (ztk k a0.2.2.2.1).bind fun r1 =>
  some r1
  else some false
  else some false)
  else (bif decide (a0.1 = 2) then
  bif decide (a0.2.1 = (bs [])) then
  bif decide (a0.2.2.1 ≠ (bs [])) then
  bif decide ((a0.2.2.2.1.length : Int) = 0) then
  bif decide (a0.2.2.2.2.2.1 = (-1)) then
  some (decide (a0.2.2.2.2.2.2.1 = (-1)))
  else some false
  else some false
  else some false
  else some false
  else some false))
def zqc (k : Nat) : Con := ⟨[.d cNodT],[.d .bool], fun x => zmn k x⟩
theorem zyd (k : Nat) : ConOk Tryz.prog 68 (zqc k) :=
  za7 (ps := [.d cNodT]) (rs := [.d .bool]) (fn := Tryz.f68) (E := ⟨tOf tl, gOf [(104, zqd k)]⟩) ⟨za9 zae, zaa ⟨zye k, trivial⟩, mixedOk⟩ (body := bodyOf Tryz.f68) (pl := []) (M := 400) (cuts := []) (entry := fun n x => zmn k x) rfl rfl (by decide) (by kernel_rfl) trivial (fun _ _ => by kernel_rfl) k
def zim : Nat → TreT → (List Int) → Int → Option (List Int)
  | 0, _, _, _ => none
  | n + 1, v2, v5, v6 =>
  (bif decide (0 ≤ v6) then
  ((appM 8 v5 ([v6])).bind fun r2 =>
  ((geti v2.1 v6).bind fun r3 =>
  (zim n) v2 r2 r3.2.2.2.2.2.2.2.2.1))
  else (some v5))
def zn5 (n : Nat) (a0 : TreT) (a1 : Int) : Option (List Int) :=
  (bif decide (a1 < 0) then
  (some ([]))
  else (bif decide ((a0.1.length : Int) ≤ a1) then
  (some ([]))
  else ((geti a0.1 a1).bind fun r1 =>
  (zim n) a0 ([]) r1.2.2.2.2.2.1)))
def zsh (k : Nat) (a0 : TreT) (a1 : Int) : Option (List Int) := zn5 k a0 a1
def zsg (k : Nat) : Con := ⟨[.d cTreT, .d (.int .i64)],[.d (.sl (.int .i64))], fun x => zsh k x.1 x.2⟩
theorem ya9 (k : Nat) : ConOk Tryz.prog 70 (zsg k) :=
  za7 (ps := [.d cTreT, .d (.int .i64)]) (rs := [.d (.sl (.int .i64))]) (fn := Tryz.f70) (E := ⟨tOf tl, gOf []⟩) ⟨za9 zae, zaa trivial, mixedOk⟩ (body := bodyOf Tryz.f70) (pl := []) (M := 400) (cuts := [⟨5,[0,0,5,4,1,0,1,1,1],[2,5,6],[.p [.d cTreT], .o 3 (.int .i64), .d (.int .i64)], fun n x => zim n x.1 x.2.1 x.2.2,[]⟩]) (entry := fun n x => zn5 n x.1 x.2) rfl rfl (by decide) (by kernel_rfl) ⟨⟨fun _ => by kernel_rfl, fun _ _ => by kernel_rfl⟩, trivial⟩ (fun _ _ => by kernel_rfl) k
def zh7 (k : Nat) (J13 : (List NodT) → (List NodT) → Int → (List Int) → Int → Option Int) (y29 : (List NodT)) (v8 : Int) (v3 : (List NodT)) (v7 : Int) (y16 : Int) (r15 : (List Int)) : Option Int :=
  (geti y29 v8).bind fun r30 =>
  (geti y29 v8).bind fun r31 =>
  (J13 v3 (y29.set v8.toNat (zjn r31 v7)) y16 r15 (w64 (v7 + 1)))
def zh8 (k : Nat) (J13 : (List NodT) → (List NodT) → Int → (List Int) → Int → Option Int) (y16 : Int) (v4 : (List NodT)) (v8 : Int) (v7 : Int) (v3 : (List NodT)) (r15 : (List Int)) : Option Int :=
  (geti v4 v8).bind fun r17 =>
  (geti v4 v8).bind fun r18 =>
  (geti v4 v7).bind fun r19 =>
  (geti v4 v7).bind fun r20 =>
  ((geti (v4.set v7.toNat (0,(bs []),(bs []),[], v8,(-1),(-1), r18.2.2.2.2.2.2.1,(-1),())) v8).bind fun r21 =>
  (geti (v4.set v7.toNat (0,(bs []),(bs []),[], v8,(-1),(-1), r18.2.2.2.2.2.2.1,(-1),())) v8).bind fun r22 =>
  (bif decide (0 ≤ r22.2.2.2.2.2.2.1) then
  ((geti (v4.set v7.toNat (0,(bs []),(bs []),[], v8,(-1),(-1), r18.2.2.2.2.2.2.1,(-1),())) v8).bind fun r23 =>
  (geti (v4.set v7.toNat (0,(bs []),(bs []),[], v8,(-1),(-1), r18.2.2.2.2.2.2.1,(-1),())) v8).bind fun r24 =>
  (geti (v4.set v7.toNat (0,(bs []),(bs []),[], v8,(-1),(-1), r18.2.2.2.2.2.2.1,(-1),())) r24.2.2.2.2.2.2.1).bind fun r25 =>
  (geti (v4.set v7.toNat (0,(bs []),(bs []),[], v8,(-1),(-1), r18.2.2.2.2.2.2.1,(-1),())) r24.2.2.2.2.2.2.1).bind fun r26 =>
  (zh7 k J13 ((v4.set v7.toNat (0,(bs []),(bs []),[], v8,(-1),(-1), r18.2.2.2.2.2.2.1,(-1),())).set r24.2.2.2.2.2.2.1.toNat (zmg r26 v7)) v8 v3 v7 y16 r15))
  else ((geti (v4.set v7.toNat (0,(bs []),(bs []),[], v8,(-1),(-1), r18.2.2.2.2.2.2.1,(-1),())) v8).bind fun r27 =>
  (geti (v4.set v7.toNat (0,(bs []),(bs []),[], v8,(-1),(-1), r18.2.2.2.2.2.2.1,(-1),())) v8).bind fun r28 =>
  (zh7 k J13 ((v4.set v7.toNat (0,(bs []),(bs []),[], v8,(-1),(-1), r18.2.2.2.2.2.2.1,(-1),())).set v8.toNat (znq r28 v7)) v8 v3 v7 y16 r15))))
def zh9 (k : Nat) (J13 : (List NodT) → (List NodT) → Int → (List Int) → Int → Option Int) (v6 : (List Int)) (v3 : (List NodT)) (v8 : Int) (v7 : Int) (v5 : Int) (v4 : (List NodT)) : Option Int :=
  bif decide ((v6.length : Int) = 0) then
  (some 10)
  else (geti v3 v8).bind fun r14 =>
  (bif decide (r14.1 ≠ 1) then
  (some 10)
  else ((appM 8 v6 ([v7])).bind fun r15 =>
  (bif decide (v5 < (r15.length : Int)) then
  (zh8 k J13 (r15.length : Int) v4 v8 v7 v3 r15)
  else (zh8 k J13 v5 v4 v8 v7 v3 r15))))
mutual
def zba (k : Nat) : Nat → (List NodT) → (List NodT) → Int → (List Int) → Int → Option Int
  | 0, _, _, _, _, _ => none
  | n + 1, v3, v4, v5, v6, v7 =>
  (bif decide (v7 < (v3.length : Int)) then
  ((geti v3 v7).bind fun r8 =>
  (zmn k r8).bind fun r9 =>
  (bif (!r9) then
  (some 10)
  else (bif decide (v7 = 0) then
  ((zba k n) v3 v4 v5 v6 (w64 (v7 + 1)))
  else ((geti v3 v7).bind fun r10 =>
  (zg2 k n) v3 v4 v5 v6 v7 r10.2.2.2.2.1))))
  else ((zg1 k n) v3 v4 v5 0))
def zg2 (k : Nat) : Nat → (List NodT) → (List NodT) → Int → (List Int) → Int → Int → Option Int
  | 0, _, _, _, _, _, _ => none
  | n + 1, v3, v4, v5, v6, v7, v8 =>
  bif decide (0 < (v6.length : Int)) then
  (geti v6 (w64 ((v6.length : Int) - 1))).bind fun r11 =>
  (geti v6 (w64 ((v6.length : Int) - 1))).bind fun r12 =>
  (bif decide (r12 ≠ v8) then
  ((cutM v6 0 (w64 ((v6.length : Int) - 1))).bind fun r13 =>
  (zg2 k n) v3 v4 v5 r13 v7 v8)
  else (zh9 k (zba k n) v6 v3 v8 v7 v5 v4))
  else (zh9 k (zba k n) v6 v3 v8 v7 v5 v4)
def zg1 (k : Nat) : Nat → (List NodT) → (List NodT) → Int → Int → Option Int
  | 0, _, _, _, _ => none
  | n + 1, v3, v4, v5, v9 =>
  (bif decide (v9 < (v3.length : Int)) then
  ((geti v3 v9).bind fun r32 =>
  (geti v4 v9).bind fun r33 =>
  bif decide (r32.2.2.2.2.2.1 ≠ r33.2.2.2.2.2.1) then
  (some 10)
  else (geti v3 v9).bind fun r34 =>
  (geti v4 v9).bind fun r35 =>
  bif decide (r34.2.2.2.2.2.2.1 ≠ r35.2.2.2.2.2.2.1) then
  (some 10)
  else (geti v3 v9).bind fun r36 =>
  (geti v4 v9).bind fun r37 =>
  bif decide (r36.2.2.2.2.2.2.2.1 ≠ r37.2.2.2.2.2.2.2.1) then
  (some 10)
  else (geti v3 v9).bind fun r38 =>
  (geti v4 v9).bind fun r39 =>
  (bif decide (r38.2.2.2.2.2.2.2.2.1 ≠ r39.2.2.2.2.2.2.2.2.1) then
  (some 10)
  else ((zg1 k n) v3 v4 v5 (w64 (v9 + 1)))))
  else (bif decide (256 < v5) then
  (some 5)
  else (some 0)))
end
def zlr (k : Nat) (n : Nat) (a0 : TreT) : Option Int :=
  (bif decide ((a0.1.length : Int) = 0) then
  (some 10)
  else (bif decide (4096 < (a0.1.length : Int)) then
  (some 4)
  else ((geti a0.1 0).bind fun r1 =>
  bif decide (r1.1 ≠ 1) then
  (some 10)
  else (geti a0.1 0).bind fun r2 =>
  bif decide (r2.2.2.2.2.1 ≠ (-1)) then
  (some 10)
  else (geti a0.1 0).bind fun r3 =>
  bif decide (r3.2.2.2.2.2.2.2.1 ≠ (-1)) then
  (some 10)
  else (geti a0.1 0).bind fun r4 =>
  (bif decide (r4.2.2.2.2.2.2.2.2.1 ≠ (-1)) then
  (some 10)
  else ((repM 104 (a0.1.length : Int) (0,(bs []),(bs []),[],0,0,0,0,0,())).bind fun r5 =>
  ((geti r5 0).bind fun r6 =>
  (geti r5 0).bind fun r7 =>
  ((zba k n) a0.1 (r5.set (Int.toNat 0) (0,(bs []),(bs []),[],(-1),(-1),(-1),(-1),(-1),())) 1 ([0]) 0)))))))
def ztl (k : Nat) (a0 : TreT) : Option Int := zlr k k a0
def zqe (k : Nat) : Con := ⟨[.d cTreT],[.d (.int .i64)], fun x => ztl k x⟩
theorem zyf (k : Nat) : ConOk Tryz.prog 38 (zqe k) :=
  za7 (ps := [.d cTreT]) (rs := [.d (.int .i64)]) (fn := Tryz.f38) (E := ⟨tOf tl, gOf [(68, zqc k)]⟩) ⟨za9 zae, zaa ⟨zyd k, trivial⟩, mixedOk⟩ (body := bodyOf Tryz.f38) (pl := [(34,[(0,0),(1,0),(2,0),(3,0),(4,0),(5,0),(6,0),(7,0),(8,0),(9,0),(10,0),(11,0),(12,0),(13,0),(14,0),(15,0),(16,0),(17,0),(18,0),(19,0),(20,0),(21,0),(22,0),(23,0),(24,0),(25,0),(26,0),(27,0),(28,0),(29,0),(30,0),(31,0),(32,0),(33,0),(34,0),(35,0),(36,0),(37,0),(38,0),(39,0),(40,0),(41,0),(42,0),(43,0),(44,0),(45,0),(46,0),(47,0),(48,0),(49,0)],[])]) (M := 400) (cuts := [⟨13,[0,0,5,4,1,0,1,1,1,1,1,1,1,1,1],[3,4,5,6,7],[.d (.sl cNodT), .o 57 cNodT, .d (.int .i64), .o 3 (.int .i64), .d (.int .i64)], fun n x => zba k n x.1 x.2.1 x.2.2.1 x.2.2.2.1 x.2.2.2.2,[]⟩, ⟨19,[0,0,5,4,0,1,1,1,4,0,1,5,4,1,0,1,1,1,1,1,1,1,1,1],[3,4,5,6,7,8],[.d (.sl cNodT), .o 57 cNodT, .d (.int .i64), .o 3 (.int .i64), .d (.int .i64), .d (.int .i64)], fun n x => zg2 k n x.1 x.2.1 x.2.2.1 x.2.2.2.1 x.2.2.2.2.1 x.2.2.2.2.2,[]⟩, ⟨32,[0,0,5,4,1,0,1,1,1,1,1,1,1,1,1,1],[3,4,5,9],[.d (.sl cNodT), .d (.sl cNodT), .d (.int .i64), .d (.int .i64)], fun n x => zg1 k n x.1 x.2.1 x.2.2.1 x.2.2.2,[]⟩]) (entry := fun n x => zlr k n x) rfl rfl (by decide) (by kernel_rfl) ⟨⟨fun _ => by kernel_rfl, fun _ _ => by kernel_rfl⟩, ⟨fun _ => by kernel_rfl, fun _ _ => by kernel_rfl⟩, ⟨fun _ => by kernel_rfl, fun _ _ => by kernel_rfl⟩, trivial⟩ (fun _ _ => by kernel_rfl) k
mutual
def zfu (k : Nat) : Nat → TreT → Int → Option Bool
  | 0, _, _ => none
  | n + 1, v1, v3 =>
  (bif decide (v3 < (v1.1.length : Int)) then
  ((geti v1.1 v3).bind fun r2 =>
  (addS r2.2.1 (bs [124])).bind fun r3 =>
  (geti v1.1 v3).bind fun r4 =>
  (addS r3 r4.2.2.1).bind fun r5 =>
  ((zht k n) v1 v3 r5 0))
  else (some true))
def zht (k : Nat) : Nat → TreT → Int → ByteArray → Int → Option Bool
  | 0, _, _, _, _ => none
  | n + 1, v1, v3, v4, v5 =>
  (geti v1.1 v3).bind fun r6 =>
  (bif decide (v5 < (r6.2.2.2.1.length : Int)) then
  ((addS v4 (bs [124])).bind fun r7 =>
  (geti v1.1 v3).bind fun r8 =>
  (geti r8.2.2.2.1 v5).bind fun r9 =>
  (addS r7 r9.1).bind fun r10 =>
  (addS r10 (bs [124])).bind fun r11 =>
  (geti v1.1 v3).bind fun r12 =>
  (geti r12.2.2.2.1 v5).bind fun r13 =>
  (addS r11 r13.2.1).bind fun r14 =>
  ((zht k n) v1 v3 r14 (w64 (v5 + 1))))
  else ((runesM v4).bind fun r15 =>
  (bif decide ((textOf r15) ≠ v4) then
  (some false)
  else ((zfu k n) v1 (w64 (v3 + 1))))))
end
def zm0 (k : Nat) (n : Nat) (a0 : TreT) : Option Bool :=
  ((ztl k a0).bind fun r1 =>
  (bif decide (r1 ≠ 0) then
  (some false)
  else ((zfu k n) a0 0)))
def ztv (k : Nat) (a0 : TreT) : Option Bool := zm0 k k a0
def zqv (k : Nat) : Con := ⟨[.d cTreT],[.d .bool], fun x => ztv k x⟩
theorem zz4 (k : Nat) : ConOk Tryz.prog 12 (zqv k) :=
  za7 (ps := [.d cTreT]) (rs := [.d .bool]) (fn := Tryz.f12) (E := ⟨tOf tl, gOf [(38, zqe k)]⟩) ⟨za9 zae, zaa ⟨zyf k, trivial⟩, mixedOk⟩ (body := bodyOf Tryz.f12) (pl := [(6,[(0,0),(1,0),(2,0),(3,0),(4,0),(5,0),(6,0),(7,0),(8,0),(9,0),(10,0),(11,0),(12,0),(13,0),(14,0)],[1]),(10,[(0,0),(1,0),(2,0),(3,0),(4,0),(5,0),(6,0),(7,0),(8,0),(9,0),(10,0),(11,0),(12,0),(13,0),(14,0),(15,0),(16,0),(17,0),(18,0),(19,0),(20,0),(21,0),(22,0),(23,0),(24,0),(25,0)],[1])]) (M := 400) (cuts := [⟨4,[0,0,5,4,1,0,1,1],[1,3],[.p [.d cTreT], .d (.int .i64)], fun n x => zfu k n x.1 x.2,[]⟩, ⟨8,[0,0,5,4,1,0,1,4,0,1,5,4,1,0,1,1],[1,3,4,5],[.p [.d cTreT], .d (.int .i64), .d .str, .d (.int .i64)], fun n x => zht k n x.1 x.2.1 x.2.2.1 x.2.2.2,[]⟩]) (entry := fun n x => zm0 k n x) rfl rfl (by decide) (by kernel_rfl) ⟨⟨fun _ => by kernel_rfl, fun _ _ => by kernel_rfl⟩, ⟨fun _ => by kernel_rfl, fun _ _ => by kernel_rfl⟩, trivial⟩ (fun _ _ => by kernel_rfl) k
end Go.V
