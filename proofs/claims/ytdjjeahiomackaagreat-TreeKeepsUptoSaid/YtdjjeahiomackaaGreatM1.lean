/-
  Walks and laws of this seat.
-/
import Derived.Test.YtdjjeahiomackaaGreatVN
import Derived.Test.YtdjjeahiomackaaGreatProg
namespace Go.V
set_option linter.unusedVariables false
set_option linter.unusedSimpArgs false
set_option linter.unusedSectionVars false
variable [F0]
set_option maxRecDepth 100000
open Go.RowKit Go.Sl Go.Proofs
abbrev cTokT : TC := (.st (.cons (.int .i64) (.cons .str (.cons .str (.cons (.sl (.st (.cons .str (.cons .str .nil)))) (.cons .bool .nil))))))
abbrev TokT : Type := (Int × ByteArray × ByteArray × (List (ByteArray × ByteArray × Unit)) × Bool × Unit)
abbrev cAttT : TC := (.st (.cons .str (.cons .str .nil)))
abbrev AttT : Type := (ByteArray × ByteArray × Unit)
abbrev cNodT : TC := (.st (.cons (.int .i64) (.cons .str (.cons .str (.cons (.sl cAttT) (.cons (.int .i64) (.cons (.int .i64) (.cons (.int .i64) (.cons (.int .i64) (.cons (.int .i64) .nil))))))))))
abbrev NodT : Type := (Int × ByteArray × ByteArray × (List AttT) × Int × Int × Int × Int × Int × Unit)
abbrev cTreT : TC := (.st (.cons (.sl cNodT) .nil))
abbrev TreT : Type := ((List NodT) × Unit)
def NodT_u5 (s : NodT) (x : Int) : NodT := (s.1, s.2.1, s.2.2.1, s.2.2.2.1, s.2.2.2.2.1, x, s.2.2.2.2.2.2.1, s.2.2.2.2.2.2.2.1, s.2.2.2.2.2.2.2.2.1,())
def NodT_u6 (s : NodT) (x : Int) : NodT := (s.1, s.2.1, s.2.2.1, s.2.2.2.1, s.2.2.2.2.1, s.2.2.2.2.2.1, x, s.2.2.2.2.2.2.2.1, s.2.2.2.2.2.2.2.2.1,())
def NodT_u8 (s : NodT) (x : Int) : NodT := (s.1, s.2.1, s.2.2.1, s.2.2.2.1, s.2.2.2.2.1, s.2.2.2.2.2.1, s.2.2.2.2.2.2.1, s.2.2.2.2.2.2.2.1, x,())
def tl : List (Nat × TD) := [(3, ⟨.int .i64, false,1,8,[.i .i64 0],(.int .i64),0⟩),
  (4, ⟨.bool, false,1,1,[.b false], .bool,0⟩),
  (5, ⟨.int .u8, false,1,1,[.i .u8 0],(.int .u8),0⟩),
  (9, ⟨.str, false,1,16,[.s ⟨#[]⟩], .str,0⟩),
  (21, ⟨.int .i32, false,1,4,[.i .i32 0],(.int .i32),0⟩),
  (22, ⟨.slice 27, false,1,24,[.nl],(.sl cTokT),0⟩),
  (25, ⟨.slice 38, false,1,24,[.nl],(.sl cAttT),0⟩),
  (27, ⟨.struct [(0,3),(1,9),(2,9),(3,25),(4,4)], true,5,72,[.i .i64 0, .s ⟨#[]⟩, .s ⟨#[]⟩, .nl, .b false], cTokT,0⟩),
  (28, ⟨.slice 42, false,1,24,[.nl],(.sl cNodT),0⟩),
  (30, ⟨.struct [(0,28)], true,1,24,[.nl], cTreT,0⟩),
  (38, ⟨.struct [(0,9),(1,9)], true,2,32,[.s ⟨#[]⟩, .s ⟨#[]⟩], cAttT,60⟩),
  (42, ⟨.struct [(0,3),(1,9),(2,9),(3,25),(4,3),(5,3),(6,3),(7,3),(8,3)], true,9,104,[.i .i64 0, .s ⟨#[]⟩, .s ⟨#[]⟩, .nl, .i .i64 0, .i .i64 0, .i .i64 0, .i .i64 0, .i .i64 0], cNodT,0⟩),
  (43, ⟨.slice 47, false,1,24,[.nl],(.sl cTokT),0⟩),
  (45, ⟨.slice 21, false,1,24,[.nl],(.sl (.int .i32)),0⟩),
  (47, ⟨.struct [(0,3),(1,9),(2,9),(3,25),(4,4)], true,5,72,[.i .i64 0, .s ⟨#[]⟩, .s ⟨#[]⟩, .nl, .b false], cTokT,0⟩),
  (91, ⟨.slice 5, false,1,24,[.nl],(.sl (.int .u8)),0⟩),
  (99, ⟨.slice 3, false,1,24,[.nl],(.sl (.int .i64)),0⟩),
  (102, ⟨.slice 9, false,1,24,[.nl],(.sl .str),0⟩)]
theorem zfz : tl.all (tdB Tryz.prog) = true := by kernel_rfl
theorem mixedOk : Tryz.prog.follows .mixedOrders = true := by kernel_rfl
def bodyOf (f : Func) : Code := f.body.getD .skip
def zdq (a0 : Int) : Option Bool :=
  (bif decide (a0 = 9) then
  some true
  else bif decide (a0 = 10) then
  some true
  else bif decide (a0 = 12) then
  some true
  else some (decide (a0 = 32)))
def zfh : Con := ⟨[.d (.int .i32)],[.d .bool], fun x => zdq x⟩
theorem zha : ConOk Tryz.prog 54 (zfh) :=
  zcf (ps := [.d (.int .i32)]) (rs := [.d .bool]) (fn := Tryz.f54) (E := ⟨tOf tl, gOf []⟩) ⟨zdl zfz, zdm trivial, mixedOk⟩ (body := bodyOf Tryz.f54) (pl := []) (M := 400) (cuts := []) (entry := fun n x => zdq x) rfl rfl (by decide) (by kernel_rfl) trivial (fun _ _ => by kernel_rfl) 0
def zc7 : Nat → (List Int) → (List Int) → Int → Option ByteArray
  | 0, _, _, _ => none
  | n + 1, a0, v3, v4 =>
  (bif decide (v4 < (a0.length : Int)) then
  ((geti a0 v4).bind fun r1 =>
  (bif decide (65 ≤ r1) then
  (bif decide (r1 ≤ 90) then
  ((appM 4 v3 ([(IntKind.i32.wrap (r1 + 32))])).bind fun r3 =>
  ((zc7 n) a0 r3 (w64 (v4 + 1))))
  else ((appM 4 v3 ([r1])).bind fun r3 =>
  ((zc7 n) a0 r3 (w64 (v4 + 1)))))
  else ((appM 4 v3 ([r1])).bind fun r3 =>
  ((zc7 n) a0 r3 (w64 (v4 + 1))))))
  else (some (textOf v3)))
def zjq (n : Nat) (a0 : (List Int)) : Option ByteArray :=
  ((zc7 n) a0 ([]) 0)
def zgl (k : Nat) (a0 : (List Int)) : Option ByteArray := zjq k a0
def zgs (k : Nat) : Con := ⟨[.d (.sl (.int .i32))],[.d .str], fun x => zgl k x⟩
theorem zj2 (k : Nat) : ConOk Tryz.prog 55 (zgs k) :=
  zcf (ps := [.d (.sl (.int .i32))]) (rs := [.d .str]) (fn := Tryz.f55) (E := ⟨tOf tl, gOf []⟩) ⟨zdl zfz, zdm trivial, mixedOk⟩ (body := bodyOf Tryz.f55) (pl := []) (M := 400) (cuts := [⟨3,[0,0,5,4,1,0,1,1],[0,3,4],[.d (.sl (.int .i32)), .o 21 (.int .i32), .d (.int .i64)], fun n x => zc7 n x.1 x.2.1 x.2.2,[]⟩]) (entry := fun n x => zjq n x) rfl rfl (by decide) (by kernel_rfl) ⟨⟨fun _ => by kernel_rfl, fun _ _ => by kernel_rfl⟩, trivial⟩ (fun _ _ => by kernel_rfl) k
def zg4 (y2 : Int) (a0 : Int) (a1 : Int) : Option Int :=
  bif decide (65 ≤ a0) then
  (bif decide (a0 ≤ 70) then
  ((bif decide (a1 ≤ (w64 ((w64 (IntKind.u8.wrap (a0 - 65))) + 10))) then
  (some (-1))
  else (some (w64 ((w64 (IntKind.u8.wrap (a0 - 65))) + 10)))))
  else ((bif decide (a1 ≤ y2) then
  (some (-1))
  else (some y2))))
  else ((bif decide (a1 ≤ y2) then
  (some (-1))
  else (some y2)))
def zg5 (y1 : Int) (a0 : Int) (a1 : Int) : Option Int :=
  bif decide (97 ≤ a0) then
  (bif decide (a0 ≤ 102) then
  (zg4 (w64 ((w64 (IntKind.u8.wrap (a0 - 97))) + 10)) a0 a1)
  else (zg4 y1 a0 a1))
  else (zg4 y1 a0 a1)
def zhh (a0 : Int) (a1 : Int) : Option Int :=
  (bif decide (48 ≤ a0) then
  (bif decide (a0 ≤ 57) then
  (zg5 (w64 (IntKind.u8.wrap (a0 - 48))) a0 a1)
  else (zg5 (-1) a0 a1))
  else (zg5 (-1) a0 a1))
def zkr : Con := ⟨[.d (.int .u8), .d (.int .i64)],[.d (.int .i64)], fun x => zhh x.1 x.2⟩
theorem zpj : ConOk Tryz.prog 65 (zkr) :=
  zcf (ps := [.d (.int .u8), .d (.int .i64)]) (rs := [.d (.int .i64)]) (fn := Tryz.f65) (E := ⟨tOf tl, gOf []⟩) ⟨zdl zfz, zdm trivial, mixedOk⟩ (body := bodyOf Tryz.f65) (pl := []) (M := 400) (cuts := []) (entry := fun n x => zhh x.1 x.2) rfl rfl (by decide) (by kernel_rfl) trivial (fun _ _ => by kernel_rfl) 0
def zf6 : Nat → (List Int) → Int → Option Int
  | 0, _, _ => none
  | n + 1, a0, a1 =>
  bif decide (a1 < (a0.length : Int)) then
  (geti a0 a1).bind fun r1 =>
  (zdq r1).bind fun r2 =>
  (bif r2 then
  ((zf6 n) a0 (w64 (a1 + 1)))
  else (some a1))
  else (some a1)
def ziw (n : Nat) (a0 : (List Int)) (a1 : Int) : Option Int :=
  ((zf6 n) a0 a1)
def zix (k : Nat) (a0 : (List Int)) (a1 : Int) : Option Int := ziw k a0 a1
def zjm (k : Nat) : Con := ⟨[.d (.sl (.int .i32)), .d (.int .i64)],[.d (.int .i64)], fun x => zix k x.1 x.2⟩
theorem zof (k : Nat) : ConOk Tryz.prog 66 (zjm k) :=
  zcf (ps := [.d (.sl (.int .i32)), .d (.int .i64)]) (rs := [.d (.int .i64)]) (fn := Tryz.f66) (E := ⟨tOf tl, gOf [(54, zfh)]⟩) ⟨zdl zfz, zdm ⟨zha, trivial⟩, mixedOk⟩ (body := bodyOf Tryz.f66) (pl := []) (M := 400) (cuts := [⟨1,[0,0,5,4,0,1],[0,1],[.d (.sl (.int .i32)), .d (.int .i64)], fun n x => zf6 n x.1 x.2,[]⟩]) (entry := fun n x => ziw n x.1 x.2) rfl rfl (by decide) (by kernel_rfl) ⟨⟨fun _ => by kernel_rfl, fun _ _ => by kernel_rfl⟩, trivial⟩ (fun _ _ => by kernel_rfl) k
def zdw (a0 : Int) : Option Bool :=
  (bif decide (97 ≤ a0) then
  bif decide (a0 ≤ 122) then
  some true
  else bif decide (65 ≤ a0) then
  some (decide (a0 ≤ 90))
  else some false
  else bif decide (65 ≤ a0) then
  some (decide (a0 ≤ 90))
  else some false)
def zhr : Con := ⟨[.d (.int .i32)],[.d .bool], fun x => zdw x⟩
theorem zkq : ConOk Tryz.prog 23 (zhr) :=
  zcf (ps := [.d (.int .i32)]) (rs := [.d .bool]) (fn := Tryz.f23) (E := ⟨tOf tl, gOf []⟩) ⟨zdl zfz, zdm trivial, mixedOk⟩ (body := bodyOf Tryz.f23) (pl := []) (M := 400) (cuts := []) (entry := fun n x => zdw x) rfl rfl (by decide) (by kernel_rfl) trivial (fun _ _ => by kernel_rfl) 0
def zik : Nat → (List Int) → Int → ByteArray → Int → Option Bool
  | 0, _, _, _, _ => none
  | n + 1, a0, a1, a2, v7 =>
  (bif decide (v7 < (a2.size : Int)) then
  (bif decide ((a0.length : Int) ≤ (w64 (a1 + v7))) then
  (some false)
  else (geti a0 (w64 (a1 + v7))).bind fun r1 =>
  (getS a2 v7).bind fun r2 =>
  (bif decide (r1 ≠ (IntKind.i32.wrap r2)) then
  (some false)
  else ((zik n) a0 a1 a2 (w64 (v7 + 1)))))
  else (some true))
def zni (n : Nat) (a0 : (List Int)) (a1 : Int) (a2 : ByteArray) : Option Bool :=
  ((zik n) a0 a1 a2 0)
def znj (k : Nat) (a0 : (List Int)) (a1 : Int) (a2 : ByteArray) : Option Bool := zni k a0 a1 a2
def ziv (k : Nat) : Con := ⟨[.d (.sl (.int .i32)), .d (.int .i64), .d .str],[.d .bool], fun x => znj k x.1 x.2.1 x.2.2⟩
theorem zm8 (k : Nat) : ConOk Tryz.prog 26 (ziv k) :=
  zcf (ps := [.d (.sl (.int .i32)), .d (.int .i64), .d .str]) (rs := [.d .bool]) (fn := Tryz.f26) (E := ⟨tOf tl, gOf []⟩) ⟨zdl zfz, zdm trivial, mixedOk⟩ (body := bodyOf Tryz.f26) (pl := [(4,[(0,0),(1,0),(2,0),(3,0),(4,0),(5,0),(6,0),(7,0),(8,0),(9,0),(10,0),(11,0),(12,0),(13,0),(14,0),(15,0),(16,0),(17,0),(18,0)],[])]) (M := 400) (cuts := [⟨2,[0,0,5,4,1,0,1],[0,1,2,7],[.d (.sl (.int .i32)), .d (.int .i64), .d .str, .d (.int .i64)], fun n x => zik n x.1 x.2.1 x.2.2.1 x.2.2.2,[]⟩]) (entry := fun n x => zni n x.1 x.2.1 x.2.2) rfl rfl (by decide) (by kernel_rfl) ⟨⟨fun _ => by kernel_rfl, fun _ _ => by kernel_rfl⟩, trivial⟩ (fun _ _ => by kernel_rfl) k
def zf7 (k : Nat) : Nat → (List Int) → Int → ByteArray → Option Int
  | 0, _, _, _ => none
  | n + 1, a0, a1, a2 =>
  (bif decide (a1 < (a0.length : Int)) then
  ((znj k a0 a1 a2).bind fun r1 =>
  (bif r1 then
  (some (w64 (a1 + (a2.size : Int))))
  else ((zf7 k n) a0 (w64 (a1 + 1)) a2)))
  else (some (a0.length : Int)))
def ziy (k : Nat) (n : Nat) (a0 : (List Int)) (a1 : Int) (a2 : ByteArray) : Option Int :=
  ((zf7 k n) a0 a1 a2)
def ziz (k : Nat) (a0 : (List Int)) (a1 : Int) (a2 : ByteArray) : Option Int := ziy k k a0 a1 a2
def zjn (k : Nat) : Con := ⟨[.d (.sl (.int .i32)), .d (.int .i64), .d .str],[.d (.int .i64)], fun x => ziz k x.1 x.2.1 x.2.2⟩
theorem zog (k : Nat) : ConOk Tryz.prog 27 (zjn k) :=
  zcf (ps := [.d (.sl (.int .i32)), .d (.int .i64), .d .str]) (rs := [.d (.int .i64)]) (fn := Tryz.f27) (E := ⟨tOf tl, gOf [(26, ziv k)]⟩) ⟨zdl zfz, zdm ⟨zm8 k, trivial⟩, mixedOk⟩ (body := bodyOf Tryz.f27) (pl := []) (M := 400) (cuts := [⟨1,[0,0,5,4,0,1],[0,1,2],[.d (.sl (.int .i32)), .d (.int .i64), .d .str], fun n x => zf7 k n x.1 x.2.1 x.2.2,[]⟩]) (entry := fun n x => ziy k n x.1 x.2.1 x.2.2) rfl rfl (by decide) (by kernel_rfl) ⟨⟨fun _ => by kernel_rfl, fun _ _ => by kernel_rfl⟩, trivial⟩ (fun _ _ => by kernel_rfl) k
def zfq (a0 : (List Int)) (a1 : Int) : Option Bool :=
  ((geti a0 a1).bind fun r1 =>
  bif decide (r1 ≠ 60) then
  (some false)
  else (bif decide ((a0.length : Int) ≤ (w64 (a1 + 1))) then
  (some false)
  else ((geti a0 (w64 (a1 + 1))).bind fun r2 =>
  ((zdw r2).bind fun r3 =>
  bif r3 then
  some true
  else bif decide (r2 = 47) then
  some true
  else bif decide (r2 = 33) then
  some true
  else some (decide (r2 = 63))))))
def zjo : Con := ⟨[.d (.sl (.int .i32)), .d (.int .i64)],[.d .bool], fun x => zfq x.1 x.2⟩
theorem zoh : ConOk Tryz.prog 21 (zjo) :=
  zcf (ps := [.d (.sl (.int .i32)), .d (.int .i64)]) (rs := [.d .bool]) (fn := Tryz.f21) (E := ⟨tOf tl, gOf [(23, zhr)]⟩) ⟨zdl zfz, zdm ⟨zkq, trivial⟩, mixedOk⟩ (body := bodyOf Tryz.f21) (pl := []) (M := 400) (cuts := []) (entry := fun n x => zfq x.1 x.2) rfl rfl (by decide) (by kernel_rfl) trivial (fun _ _ => by kernel_rfl) 0
def zhi : Nat → (List AttT) → AttT → Int → Option (List AttT)
  | 0, _, _, _ => none
  | n + 1, a0, v3, v5 =>
  (bif decide (v5 < (a0.length : Int)) then
  ((geti a0 v5).bind fun r1 =>
  (geti a0 v5).bind fun r2 =>
  (bif decide (r2.1 = v3.1) then
  (some a0)
  else ((zhi n) a0 v3 (w64 (v5 + 1)))))
  else (bif decide (64 ≤ (a0.length : Int)) then
  (some a0)
  else ((appM 32 a0 ([v3])).bind fun r3 =>
  some r3)))
def zm9 (n : Nat) (a0 : (List AttT)) (a1 : AttT) : Option (List AttT) :=
  ((zhi n) a0 a1 0)
def zpk (k : Nat) (a0 : (List AttT)) (a1 : AttT) : Option (List AttT) := zm9 k a0 a1
def zmt (k : Nat) : Con := ⟨[.o 38 cAttT, .d cAttT],[.o 38 cAttT], fun x => zpk k x.1 x.2⟩
theorem zs9 (k : Nat) : ConOk Tryz.prog 57 (zmt k) :=
  zcf (ps := [.o 38 cAttT, .d cAttT]) (rs := [.o 38 cAttT]) (fn := Tryz.f57) (E := ⟨tOf tl, gOf []⟩) ⟨zdl zfz, zdm trivial, mixedOk⟩ (body := bodyOf Tryz.f57) (pl := [(4,[(0,0),(1,0),(2,0),(3,0),(4,0),(5,0),(6,0),(7,0)],[0,3])]) (M := 400) (cuts := [⟨2,[0,0,5,4,1,0,1],[0,3,5],[.o 38 cAttT, .p [.d cAttT], .d (.int .i64)], fun n x => zhi n x.1 x.2.1 x.2.2,[]⟩]) (entry := fun n x => zm9 n x.1 x.2) rfl rfl (by decide) (by kernel_rfl) ⟨⟨fun _ => by kernel_rfl, fun _ _ => by kernel_rfl⟩, trivial⟩ (fun _ _ => by kernel_rfl) k
def zd9 (v9 : Int) (v11 : Int) (a0 : ByteArray) (v12 : Int) : Option (ByteArray × Int) :=
  bif decide (v9 = v11) then
  (some ((bs []),0))
  else bif decide (8 < (w64 (v9 - v11))) then
  (some ((bs []),0))
  else bif decide ((a0.size : Int) ≤ v9) then
  (some ((bs []),0))
  else (getS a0 v9).bind fun r16 =>
  (bif decide (r16 ≠ 59) then
  (some ((bs []),0))
  else (bif decide (v12 = 0) then
  ((some ((textOf ([(IntKind.i32.wrap 65533)])),(w64 (v9 + 1)))))
  else bif decide (1114111 < v12) then
  ((some ((textOf ([(IntKind.i32.wrap 65533)])),(w64 (v9 + 1)))))
  else bif decide (55296 ≤ v12) then
  (bif decide (v12 ≤ 57343) then
  ((some ((textOf ([(IntKind.i32.wrap 65533)])),(w64 (v9 + 1)))))
  else (some ((textOf ([(IntKind.i32.wrap v12)])),(w64 (v9 + 1)))))
  else (some ((textOf ([(IntKind.i32.wrap v12)])),(w64 (v9 + 1))))))
mutual
def zd5 : Nat → ByteArray → Int → (List ByteArray) → (List ByteArray) → Int → Option (ByteArray × Int)
  | 0, _, _, _, _, _ => none
  | n + 1, a0, a1, v6, v7, v8 =>
  (bif decide (v8 < (v6.length : Int)) then
  ((geti v6 v8).bind fun r1 =>
  bif decide ((r1.size : Int) ≤ (w64 ((a0.size : Int) - a1))) then
  (geti v6 v8).bind fun r2 =>
  (cutS a0 a1 (w64 (a1 + (r2.size : Int)))).bind fun r3 =>
  (geti v6 v8).bind fun r4 =>
  (bif decide (r3 = r4) then
  ((geti v7 v8).bind fun r5 =>
  (geti v6 v8).bind fun r6 =>
  some (r5,(w64 (a1 + (r6.size : Int)))))
  else ((zd5 n) a0 a1 v6 v7 (w64 (v8 + 1))))
  else ((zd5 n) a0 a1 v6 v7 (w64 (v8 + 1))))
  else (bif decide ((a0.size : Int) ≤ (w64 (a1 + 1))) then
  (some ((bs []),0))
  else (getS a0 (w64 (a1 + 1))).bind fun r7 =>
  (bif decide (r7 ≠ 35) then
  (some ((bs []),0))
  else (bif decide ((w64 (a1 + 2)) < (a0.size : Int)) then
  (getS a0 (w64 (a1 + 2))).bind fun r8 =>
  bif decide (r8 = 120) then
  ((((zaz n) a0 (w64 ((w64 (a1 + 2)) + 1)) 16 (w64 ((w64 (a1 + 2)) + 1)) 0)))
  else (getS a0 (w64 (a1 + 2))).bind fun r9 =>
  (bif decide (r9 = 88) then
  ((((zaz n) a0 (w64 ((w64 (a1 + 2)) + 1)) 16 (w64 ((w64 (a1 + 2)) + 1)) 0)))
  else (((zaz n) a0 (w64 (a1 + 2)) 10 (w64 (a1 + 2)) 0)))
  else (((zaz n) a0 (w64 (a1 + 2)) 10 (w64 (a1 + 2)) 0))))))
def zaz : Nat → ByteArray → Int → Int → Int → Int → Option (ByteArray × Int)
  | 0, _, _, _, _, _ => none
  | n + 1, a0, v9, v10, v11, v12 =>
  bif decide (v9 < (a0.size : Int)) then
  (getS a0 v9).bind fun r12 =>
  (zhh r12 v10).bind fun r13 =>
  bif decide (0 ≤ r13) then
  (bif decide ((w64 (v9 - v11)) < 9) then
  ((getS a0 v9).bind fun r14 =>
  (zhh r14 v10).bind fun r15 =>
  ((zaz n) a0 (w64 (v9 + 1)) v10 v11 (w64 ((w64 (v12 * v10)) + r15))))
  else (zd9 v9 v11 a0 v12))
  else (zd9 v9 v11 a0 v12)
  else (zd9 v9 v11 a0 v12)
end
def zfj (n : Nat) (a0 : ByteArray) (a1 : Int) : Option (ByteArray × Int) :=
  ((zd5 n) a0 a1 ([(bs [38,97,109,112,59]),(bs [38,108,116,59]),(bs [38,103,116,59]),(bs [38,113,117,111,116,59]),(bs [38,97,112,111,115,59]),(bs [38,110,98,115,112,59])]) ([(bs [38]),(bs [60]),(bs [62]),(bs [34]),(bs [39]),(bs [194,160])]) 0)
def zi7 (k : Nat) (a0 : ByteArray) (a1 : Int) : Option (ByteArray × Int) := zfj k a0 a1
def zhz (k : Nat) : Con := ⟨[.d .str, .d (.int .i64)],[.d .str, .d (.int .i64)], fun x => zi7 k x.1 x.2⟩
theorem zm6 (k : Nat) : ConOk Tryz.prog 53 (zhz k) :=
  zcf (ps := [.d .str, .d (.int .i64)]) (rs := [.d .str, .d (.int .i64)]) (fn := Tryz.f53) (E := ⟨tOf tl, gOf [(65, zkr)]⟩) ⟨zdl zfz, zdm ⟨zpj, trivial⟩, mixedOk⟩ (body := bodyOf Tryz.f53) (pl := [(6,[(0,0),(1,0),(2,0),(3,0),(4,0),(5,0),(6,0),(7,0),(8,0),(9,0),(10,0),(11,0),(12,0),(13,0),(14,0),(15,0),(16,0),(17,0),(18,0),(19,0),(20,0),(21,0),(22,0),(23,0),(24,0),(25,0),(26,0)],[]),(7,[(0,0),(1,0),(2,0),(3,0),(4,0),(5,0),(6,0),(7,0),(8,0),(9,0),(10,0),(11,0),(12,0)],[])]) (M := 400) (cuts := [⟨4,[0,0,5,4,1,0,1,1,1],[0,1,6,7,8],[.d .str, .d (.int .i64), .d (.sl .str), .d (.sl .str), .d (.int .i64)], fun n x => zd5 n x.1 x.2.1 x.2.2.1 x.2.2.2.1 x.2.2.2.2,[]⟩, ⟨17,[0,0,5,4,0,1,1,1,1,1,1,1,1,1,1],[0,9,10,11,12],[.d .str, .d (.int .i64), .d (.int .i64), .d (.int .i64), .d (.int .i64)], fun n x => zaz n x.1 x.2.1 x.2.2.1 x.2.2.2.1 x.2.2.2.2,[]⟩]) (entry := fun n x => zfj n x.1 x.2) rfl rfl (by decide) (by kernel_rfl) ⟨⟨fun _ => by kernel_rfl, fun _ _ => by kernel_rfl⟩, ⟨fun _ => by kernel_rfl, fun _ _ => by kernel_rfl⟩, trivial⟩ (fun _ _ => by kernel_rfl) k
def zep (k : Nat) (J3 : ByteArray → (List Int) → Int → Option ByteArray) (a0 : ByteArray) (v4 : Int) (v3 : (List Int)) : Option ByteArray :=
  (getS a0 v4).bind fun r4 =>
  (appM 1 v3 ([r4])).bind fun r5 =>
  (J3 a0 r5 (w64 (v4 + 1)))
def zce (k : Nat) : Nat → ByteArray → (List Int) → Int → Option ByteArray
  | 0, _, _, _ => none
  | n + 1, a0, v3, v4 =>
  (bif decide (v4 < (a0.size : Int)) then
  ((getS a0 v4).bind fun r1 =>
  (bif decide (r1 = 38) then
  ((zi7 k a0 v4).bind fun r2 =>
  (bif decide (0 < r2.2) then
  ((appM 1 v3 (bytesIn r2.1)).bind fun r3 =>
  ((zce k n) a0 r3 r2.2))
  else (zep k (zce k n) a0 v4 v3)))
  else (zep k (zce k n) a0 v4 v3)))
  else (some (bytesOf v3)))
def zhs (k : Nat) (n : Nat) (a0 : ByteArray) : Option ByteArray :=
  ((zce k n) a0 ([]) 0)
def zed (k : Nat) (a0 : ByteArray) : Option ByteArray := zhs k k a0
def zgk (k : Nat) : Con := ⟨[.d .str],[.d .str], fun x => zed k x⟩
theorem zjc (k : Nat) : ConOk Tryz.prog 22 (zgk k) :=
  zcf (ps := [.d .str]) (rs := [.d .str]) (fn := Tryz.f22) (E := ⟨tOf tl, gOf [(53, zhz k)]⟩) ⟨zdl zfz, zdm ⟨zm6 k, trivial⟩, mixedOk⟩ (body := bodyOf Tryz.f22) (pl := []) (M := 400) (cuts := [⟨3,[0,0,5,4,0,1,1,1],[0,3,4],[.d .str, .o 5 (.int .u8), .d (.int .i64)], fun n x => zce k n x.1 x.2.1 x.2.2,[]⟩]) (entry := fun n x => zhs k n x) rfl rfl (by decide) (by kernel_rfl) ⟨⟨fun _ => by kernel_rfl, fun _ _ => by kernel_rfl⟩, trivial⟩ (fun _ _ => by kernel_rfl) k
def zdx (k : Nat) (J12 : (List Int) → Int → AttT → AttT → Int → Option (AttT × Int)) (J19 : (List Int) → Int → AttT → Int → AttT → Option (AttT × Int)) (a0 : (List Int)) (v6 : Int) (a1 : Int) (v4 : AttT) : Option (AttT × Int) :=
  (cutM a0 v6 a1).bind fun r6 =>
  (zgl k r6).bind fun r7 =>
  ((zix k a0 a1).bind fun r8 =>
  (bif decide ((a0.length : Int) ≤ r8) then
  (some ((r7,(bs []),()), r8))
  else (geti a0 r8).bind fun r9 =>
  (bif decide (r9 ≠ 61) then
  (some ((r7,(bs []),()), r8))
  else ((zix k a0 (w64 (r8 + 1))).bind fun r10 =>
  (bif decide (r10 < (a0.length : Int)) then
  (geti a0 r10).bind fun r11 =>
  bif decide (r11 = 34) then
  (J12 a0 r10 v4 (r7,(bs []),()) (w64 (r10 + 1)))
  else (geti a0 r10).bind fun r12 =>
  (bif decide (r12 = 39) then
  (J12 a0 r10 v4 (r7,(bs []),()) (w64 (r10 + 1)))
  else (J19 a0 r10 v4 r10 (r7,(bs []),())))
  else (J19 a0 r10 v4 r10 (r7,(bs []),())))))))
def zg6 (k : Nat) (a0 : (List Int)) (a1 : Int) (v9 : Int) (v7 : AttT) : Option (AttT × Int) :=
  (cutM a0 (w64 (a1 + 1)) v9).bind fun r15 =>
  (zed k (textOf r15)).bind fun r16 =>
  (bif decide (v9 < (a0.length : Int)) then
  (some ((v7.1, r16,()),(w64 (v9 + 1))))
  else (some ((v7.1, r16,()), v9)))
def zf0 (k : Nat) (a0 : (List Int)) (v6 : Int) (a1 : Int) (v7 : AttT) : Option (AttT × Int) :=
  (cutM a0 v6 a1).bind fun r21 =>
  (zed k (textOf r21)).bind fun r22 =>
  (some ((v7.1, r22,()), a1))
mutual
def zgj (k : Nat) : Nat → (List Int) → Int → AttT → Int → Option (AttT × Int)
  | 0, _, _, _, _ => none
  | n + 1, a0, a1, v4, v6 =>
  bif decide (a1 < (a0.length : Int)) then
  (geti a0 a1).bind fun r1 =>
  (zdq r1).bind fun r2 =>
  bif (!r2) then
  (geti a0 a1).bind fun r3 =>
  bif decide (r3 ≠ 61) then
  (geti a0 a1).bind fun r4 =>
  bif decide (r4 ≠ 47) then
  (geti a0 a1).bind fun r5 =>
  (bif decide (r5 ≠ 62) then
  ((zgj k n) a0 (w64 (a1 + 1)) v4 v6)
  else (zdx k (zd0 k n) (zcz k n) a0 v6 a1 v4))
  else (zdx k (zd0 k n) (zcz k n) a0 v6 a1 v4)
  else (zdx k (zd0 k n) (zcz k n) a0 v6 a1 v4)
  else (zdx k (zd0 k n) (zcz k n) a0 v6 a1 v4)
  else (zdx k (zd0 k n) (zcz k n) a0 v6 a1 v4)
def zd0 (k : Nat) : Nat → (List Int) → Int → AttT → AttT → Int → Option (AttT × Int)
  | 0, _, _, _, _, _ => none
  | n + 1, a0, a1, v4, v7, v9 =>
  bif decide (v9 < (a0.length : Int)) then
  (geti a0 v9).bind fun r13 =>
  (geti a0 a1).bind fun r14 =>
  (bif decide (r13 ≠ r14) then
  ((zd0 k n) a0 a1 v4 v7 (w64 (v9 + 1)))
  else (zg6 k a0 a1 v9 v7))
  else (zg6 k a0 a1 v9 v7)
def zcz (k : Nat) : Nat → (List Int) → Int → AttT → Int → AttT → Option (AttT × Int)
  | 0, _, _, _, _, _ => none
  | n + 1, a0, a1, v4, v6, v7 =>
  bif decide (a1 < (a0.length : Int)) then
  (geti a0 a1).bind fun r18 =>
  (zdq r18).bind fun r19 =>
  bif (!r19) then
  (geti a0 a1).bind fun r20 =>
  (bif decide (r20 ≠ 62) then
  ((zcz k n) a0 (w64 (a1 + 1)) v4 v6 v7)
  else (zf0 k a0 v6 a1 v7))
  else (zf0 k a0 v6 a1 v7)
  else (zf0 k a0 v6 a1 v7)
end
def zj0 (k : Nat) (n : Nat) (a0 : (List Int)) (a1 : Int) : Option (AttT × Int) :=
  ((zgj k n) a0 (w64 (a1 + 1)) ((bs []),(bs []),()) a1)
def znk (k : Nat) (a0 : (List Int)) (a1 : Int) : Option (AttT × Int) := zj0 k k a0 a1
def zli (k : Nat) : Con := ⟨[.d (.sl (.int .i32)), .d (.int .i64)],[.d cAttT, .d (.int .i64)], fun x => znk k x.1 x.2⟩
theorem zqw (k : Nat) : ConOk Tryz.prog 56 (zli k) :=
  zcf (ps := [.d (.sl (.int .i32)), .d (.int .i64)]) (rs := [.d cAttT, .d (.int .i64)]) (fn := Tryz.f56) (E := ⟨tOf tl, gOf [(22, zgk k),(54, zfh),(55, zgs k),(66, zjm k)]⟩) ⟨zdl zfz, zdm ⟨zjc k, zha, zj2 k, zof k, trivial⟩, mixedOk⟩ (body := bodyOf Tryz.f56) (pl := [(12,[(0,0),(1,0),(2,0),(3,0),(4,0),(5,0),(6,0),(7,0),(8,0),(9,0),(10,0),(11,0),(12,0),(13,0),(14,0)],[])]) (M := 400) (cuts := [⟨3,[0,0,5,4,0,1,1,1],[0,1,4,6],[.d (.sl (.int .i32)), .d (.int .i64), .p [.d cAttT], .d (.int .i64)], fun n x => zgj k n x.1 x.2.1 x.2.2.1 x.2.2.2,[]⟩, ⟨12,[0,0,5,4,0,1,2,1,0,1,1,1,1,1,1,1,1],[0,1,4,7,9],[.d (.sl (.int .i32)), .d (.int .i64), .p [.d cAttT], .p [.d cAttT], .d (.int .i64)], fun n x => zd0 k n x.1 x.2.1 x.2.2.1 x.2.2.2.1 x.2.2.2.2,[]⟩, ⟨19,[0,0,5,4,0,1,1,1,1,1,1,1,1,1,1],[0,1,4,6,7],[.d (.sl (.int .i32)), .d (.int .i64), .p [.d cAttT], .d (.int .i64), .p [.d cAttT]], fun n x => zcz k n x.1 x.2.1 x.2.2.1 x.2.2.2.1 x.2.2.2.2,[]⟩]) (entry := fun n x => zj0 k n x.1 x.2) rfl rfl (by decide) (by kernel_rfl) ⟨⟨fun _ => by kernel_rfl, fun _ _ => by kernel_rfl⟩, ⟨fun _ => by kernel_rfl, fun _ _ => by kernel_rfl⟩, ⟨fun _ => by kernel_rfl, fun _ _ => by kernel_rfl⟩, trivial⟩ (fun _ _ => by kernel_rfl) k
def zf4 (k : Nat) (J6 : (List Int) → Int → (Int × ByteArray × ByteArray × (List AttT) × Bool) → (Int × ByteArray × ByteArray × (List AttT) × Bool) → Bool → Option (TokT × Int × Bool)) (a0 : (List Int)) (v7 : Int) (a1 : Int) (v4 : (Int × ByteArray × ByteArray × (List AttT) × Bool)) : Option (TokT × Int × Bool) :=
  (cutM a0 v7 a1).bind fun r5 =>
  (zgl k r5).bind fun r6 =>
  (J6 a0 a1 (v4.1, v4.2.1, v4.2.2.1, v4.2.2.2.1, v4.2.2.2.2) (0, r6,(bs []),[], false) false)
def zh9 (k : Nat) (J6 : (List Int) → Int → (Int × ByteArray × ByteArray × (List AttT) × Bool) → (Int × ByteArray × ByteArray × (List AttT) × Bool) → Bool → Option (TokT × Int × Bool)) (a0 : (List Int)) (a1 : Int) (v4 : (Int × ByteArray × ByteArray × (List AttT) × Bool)) (v8 : (Int × ByteArray × ByteArray × (List AttT) × Bool)) : Option (TokT × Int × Bool) :=
  (geti a0 a1).bind fun r11 =>
  (J6 a0 (w64 (a1 + 1)) (v4.1, v4.2.1, v4.2.2.1, v4.2.2.2.1, v4.2.2.2.2) (v8.1, v8.2.1, v8.2.2.1, v8.2.2.2.1, v8.2.2.2.2) (decide (r11 = 47)))
mutual
def zgi (k : Nat) : Nat → (List Int) → Int → (Int × ByteArray × ByteArray × (List AttT) × Bool) → Int → Option (TokT × Int × Bool)
  | 0, _, _, _, _ => none
  | n + 1, a0, a1, v4, v7 =>
  bif decide (a1 < (a0.length : Int)) then
  (geti a0 a1).bind fun r1 =>
  (zdq r1).bind fun r2 =>
  bif (!r2) then
  (geti a0 a1).bind fun r3 =>
  bif decide (r3 ≠ 47) then
  (geti a0 a1).bind fun r4 =>
  (bif decide (r4 ≠ 62) then
  ((zgi k n) a0 (w64 (a1 + 1)) (v4.1, v4.2.1, v4.2.2.1, v4.2.2.2.1, v4.2.2.2.2) v7)
  else (zf4 k (zde k n) a0 v7 a1 v4))
  else (zf4 k (zde k n) a0 v7 a1 v4)
  else (zf4 k (zde k n) a0 v7 a1 v4)
  else (zf4 k (zde k n) a0 v7 a1 v4)
def zde (k : Nat) : Nat → (List Int) → Int → (Int × ByteArray × ByteArray × (List AttT) × Bool) → (Int × ByteArray × ByteArray × (List AttT) × Bool) → Bool → Option (TokT × Int × Bool)
  | 0, _, _, _, _, _ => none
  | n + 1, a0, a1, v4, v8, v9 =>
  (bif decide (a1 < (a0.length : Int)) then
  ((geti a0 a1).bind fun r7 =>
  (bif decide (r7 = 62) then
  (some ((v8.1, v8.2.1, v8.2.2.1, v8.2.2.2.1, v9,()),(w64 (a1 + 1)), true))
  else ((geti a0 a1).bind fun r8 =>
  (zdq r8).bind fun r9 =>
  bif r9 then
  (zh9 k (zde k n) a0 a1 v4 v8)
  else (geti a0 a1).bind fun r10 =>
  (bif decide (r10 = 47) then
  (zh9 k (zde k n) a0 a1 v4 v8)
  else ((znk k a0 a1).bind fun r12 =>
  ((zpk k v8.2.2.2.1 r12.1).bind fun r13 =>
  (zde k n) a0 r12.2 (v4.1, v4.2.1, v4.2.2.1, v4.2.2.2.1, v4.2.2.2.2) (v8.1, v8.2.1, v8.2.2.1, r13, v8.2.2.2.2) false))))))
  else (some ((0,(bs []),(bs []),[], false,()), a1, false)))
end
def zk8 (k : Nat) (n : Nat) (a0 : (List Int)) (a1 : Int) : Option (TokT × Int × Bool) :=
  ((zgi k n) a0 a1 (0,(bs []),(bs []),[], false) a1)
def zn3 (k : Nat) (a0 : (List Int)) (a1 : Int) : Option (TokT × Int × Bool) := zk8 k k a0 a1
def zmr (k : Nat) : Con := ⟨[.d (.sl (.int .i32)), .d (.int .i64)],[.d cTokT, .d (.int .i64), .d .bool], fun x => zn3 k x.1 x.2⟩
theorem zs7 (k : Nat) : ConOk Tryz.prog 24 (zmr k) :=
  zcf (ps := [.d (.sl (.int .i32)), .d (.int .i64)]) (rs := [.d cTokT, .d (.int .i64), .d .bool]) (fn := Tryz.f24) (E := ⟨tOf tl, gOf [(54, zfh),(55, zgs k),(56, zli k),(57, zmt k)]⟩) ⟨zdl zfz, zdm ⟨zha, zj2 k, zqw k, zs9 k, trivial⟩, mixedOk⟩ (body := bodyOf Tryz.f24) (pl := []) (M := 400) (cuts := [⟨2,[0,0,5,4,0,1,1],[0,1,4,7],[.d (.sl (.int .i32)), .d (.int .i64), .p [.d (.int .i64), .d .str, .d .str, .o 38 cAttT, .d .bool], .d (.int .i64)], fun n x => zgi k n x.1 x.2.1 x.2.2.1 x.2.2.2,[]⟩, ⟨6,[0,0,5,4,0,1,1,1,1,1],[0,1,4,8,9],[.d (.sl (.int .i32)), .d (.int .i64), .p [.d (.int .i64), .d .str, .d .str, .o 38 cAttT, .d .bool], .p [.d (.int .i64), .d .str, .d .str, .o 38 cAttT, .d .bool], .d .bool], fun n x => zde k n x.1 x.2.1 x.2.2.1 x.2.2.2.1 x.2.2.2.2,[]⟩]) (entry := fun n x => zk8 k n x.1 x.2) rfl rfl (by decide) (by kernel_rfl) ⟨⟨fun _ => by kernel_rfl, fun _ _ => by kernel_rfl⟩, ⟨fun _ => by kernel_rfl, fun _ _ => by kernel_rfl⟩, trivial⟩ (fun _ _ => by kernel_rfl) k
def zf5 (k : Nat) : Nat → (List Int) → Int → ByteArray → Option Int
  | 0, _, _, _ => none
  | n + 1, a0, a1, a2 =>
  (bif decide (a1 < (a0.length : Int)) then
  ((znj k a0 a1 (bs [60,47])).bind fun r1 =>
  bif r1 then
  bif decide ((w64 ((w64 (a1 + 2)) + (a2.size : Int))) ≤ (a0.length : Int)) then
  (cutM a0 (w64 (a1 + 2)) (w64 ((w64 (a1 + 2)) + (a2.size : Int)))).bind fun r2 =>
  (zgl k r2).bind fun r3 =>
  bif decide (r3 = a2) then
  bif decide ((w64 ((w64 (a1 + 2)) + (a2.size : Int))) = (a0.length : Int)) then
  (some a1)
  else (geti a0 (w64 ((w64 (a1 + 2)) + (a2.size : Int)))).bind fun r4 =>
  (zdq r4).bind fun r5 =>
  bif r5 then
  (some a1)
  else (geti a0 (w64 ((w64 (a1 + 2)) + (a2.size : Int)))).bind fun r6 =>
  bif decide (r6 = 47) then
  (some a1)
  else (geti a0 (w64 ((w64 (a1 + 2)) + (a2.size : Int)))).bind fun r7 =>
  (bif decide (r7 = 62) then
  (some a1)
  else ((zf5 k n) a0 (w64 (a1 + 1)) a2))
  else ((zf5 k n) a0 (w64 (a1 + 1)) a2)
  else ((zf5 k n) a0 (w64 (a1 + 1)) a2)
  else ((zf5 k n) a0 (w64 (a1 + 1)) a2))
  else (some a1))
def zm7 (k : Nat) (n : Nat) (a0 : (List Int)) (a1 : Int) (a2 : ByteArray) : Option Int :=
  ((zf5 k n) a0 a1 a2)
def zpi (k : Nat) (a0 : (List Int)) (a1 : Int) (a2 : ByteArray) : Option Int := zm7 k k a0 a1 a2
def zms (k : Nat) : Con := ⟨[.d (.sl (.int .i32)), .d (.int .i64), .d .str],[.d (.int .i64)], fun x => zpi k x.1 x.2.1 x.2.2⟩
theorem zs8 (k : Nat) : ConOk Tryz.prog 25 (zms k) :=
  zcf (ps := [.d (.sl (.int .i32)), .d (.int .i64), .d .str]) (rs := [.d (.int .i64)]) (fn := Tryz.f25) (E := ⟨tOf tl, gOf [(26, ziv k),(54, zfh),(55, zgs k)]⟩) ⟨zdl zfz, zdm ⟨zm8 k, zha, zj2 k, trivial⟩, mixedOk⟩ (body := bodyOf Tryz.f25) (pl := []) (M := 400) (cuts := [⟨1,[0,0,5,4,0,1],[0,1,2],[.d (.sl (.int .i32)), .d (.int .i64), .d .str], fun n x => zf5 k n x.1 x.2.1 x.2.2,[]⟩]) (entry := fun n x => zm7 k n x.1 x.2.1 x.2.2) rfl rfl (by decide) (by kernel_rfl) ⟨⟨fun _ => by kernel_rfl, fun _ _ => by kernel_rfl⟩, trivial⟩ (fun _ _ => by kernel_rfl) k
def zfl (k : Nat) (J3 : (List Int) → (List TokT) → Int → Option (List TokT)) (a0 : (List Int)) (r4 : (TokT × Int × Bool)) (r5 : (List TokT)) : Option (List TokT) :=
  (zpi k a0 r4.2.1 r4.1.2.1).bind fun r6 =>
  (bif decide (r4.2.1 < r6) then
  ((cutM a0 r4.2.1 r6).bind fun r7 =>
  (appM 72 r5 ([(1,(bs []),(textOf r7),[], false,())])).bind fun r8 =>
  (J3 a0 r8 r6))
  else (J3 a0 r5 r6))
def zei (k : Nat) (J3 : (List Int) → (List TokT) → Int → Option (List TokT)) (a0 : (List Int)) (v4 : Int) (v3 : (List TokT)) : Option (List TokT) :=
  (znj k a0 v4 (bs [60,33,45,45])).bind fun r15 =>
  (bif r15 then
  ((ziz k a0 (w64 (v4 + 4)) (bs [45,45,62])).bind fun r16 =>
  J3 a0 v3 r16)
  else ((ziz k a0 v4 (bs [62])).bind fun r17 =>
  J3 a0 v3 r17))
def zfk (k : Nat) (J3 : (List Int) → (List TokT) → Int → Option (List TokT)) (a0 : (List Int)) (v5 : Int) (v4 : Int) (v3 : (List TokT)) : Option (List TokT) :=
  (cutM a0 v5 v4).bind fun r19 =>
  (zed k (textOf r19)).bind fun r20 =>
  (appM 72 v3 ([(1,(bs []), r20,[], false,())])).bind fun r21 =>
  J3 a0 r21 v4
mutual
def zau (k : Nat) : Nat → (List Int) → (List TokT) → Int → Option (List TokT)
  | 0, _, _, _ => none
  | n + 1, a0, v3, v4 =>
  (bif decide (v4 < (a0.length : Int)) then
  ((zfq a0 v4).bind fun r1 =>
  (bif (!r1) then
  ((zee k n) a0 v3 v4 v4)
  else ((geti a0 (w64 (v4 + 1))).bind fun r2 =>
  (zdw r2).bind fun r3 =>
  (bif r3 then
  ((zn3 k a0 (w64 (v4 + 1))).bind fun r4 =>
  (bif (!r4.2.2) then
  (zau k n) a0 v3 r4.2.1
  else ((appM 72 v3 ([(2, r4.1.2.1, r4.1.2.2.1, r4.1.2.2.2.1, r4.1.2.2.2.2.1,())])).bind fun r5 =>
  (bif decide (r4.1.2.1 = (bs [115,116,121,108,101])) then
  (zfl k (zau k n) a0 r4 r5)
  else (bif decide (r4.1.2.1 = (bs [115,99,114,105,112,116])) then
  (zfl k (zau k n) a0 r4 r5)
  else (zau k n) a0 r5 r4.2.1)))))
  else ((geti a0 (w64 (v4 + 1))).bind fun r10 =>
  bif decide (r10 = 47) then
  bif decide ((w64 (v4 + 2)) < (a0.length : Int)) then
  (geti a0 (w64 (v4 + 2))).bind fun r11 =>
  (zdw r11).bind fun r12 =>
  (bif r12 then
  ((zn3 k a0 (w64 (v4 + 2))).bind fun r13 =>
  (bif r13.2.2 then
  ((appM 72 v3 ([(3, r13.1.2.1,(bs []),[], false,())])).bind fun r14 =>
  (zau k n) a0 r14 r13.2.1)
  else (zau k n) a0 v3 r13.2.1))
  else (zei k (zau k n) a0 v4 v3))
  else (zei k (zau k n) a0 v4 v3)
  else (zei k (zau k n) a0 v4 v3))))))
  else (some v3))
def zee (k : Nat) : Nat → (List Int) → (List TokT) → Int → Int → Option (List TokT)
  | 0, _, _, _, _ => none
  | n + 1, a0, v3, v4, v5 =>
  bif decide (v4 < (a0.length : Int)) then
  (zfq a0 v4).bind fun r18 =>
  (bif (!r18) then
  ((zee k n) a0 v3 (w64 (v4 + 1)) v5)
  else (zfk k (zau k n) a0 v5 v4 v3))
  else (zfk k (zau k n) a0 v5 v4 v3)
end
def zj1 (k : Nat) (n : Nat) (a0 : (List Int)) : Option (List TokT) :=
  ((zau k n) a0 ([]) 0)
def zkx (k : Nat) (a0 : (List Int)) : Option (List TokT) := zj1 k k a0
def zjp (k : Nat) : Con := ⟨[.d (.sl (.int .i32))],[.d (.sl cTokT)], fun x => zkx k x⟩
theorem zoi (k : Nat) : ConOk Tryz.prog 12 (zjp k) :=
  zcf (ps := [.d (.sl (.int .i32))]) (rs := [.d (.sl cTokT)]) (fn := Tryz.f12) (E := ⟨tOf tl, gOf [(21, zjo),(22, zgk k),(23, zhr),(24, zmr k),(25, zms k),(26, ziv k),(27, zjn k)]⟩) ⟨zdl zfz, zdm ⟨zoh, zjc k, zkq, zs7 k, zs8 k, zm8 k, zog k, trivial⟩, mixedOk⟩ (body := bodyOf Tryz.f12) (pl := []) (M := 400) (cuts := [⟨3,[0,0,5,4,0,1,1,1],[0,3,4],[.d (.sl (.int .i32)), .o 47 cTokT, .d (.int .i64)], fun n x => zau k n x.1 x.2.1 x.2.2,[]⟩, ⟨6,[0,0,5,4,0,1,2,1,0,4,1,5,4,0,1,1,1],[0,3,4,5],[.d (.sl (.int .i32)), .o 47 cTokT, .d (.int .i64), .d (.int .i64)], fun n x => zee k n x.1 x.2.1 x.2.2.1 x.2.2.2,[]⟩]) (entry := fun n x => zj1 k n x) rfl rfl (by decide) (by kernel_rfl) ⟨⟨fun _ => by kernel_rfl, fun _ _ => by kernel_rfl⟩, ⟨fun _ => by kernel_rfl, fun _ _ => by kernel_rfl⟩, trivial⟩ (fun _ _ => by kernel_rfl) k
def zn5 (a0 : TokT) : Option Bool :=
  (bif decide (a0.1 = 2) then
  bif decide (a0.2.1 = (bs [115,116,121,108,101])) then
  some true
  else some (decide (a0.2.1 = (bs [115,99,114,105,112,116])))
  else some false)
def zmv : Con := ⟨[.d cTokT],[.d .bool], fun x => zn5 x⟩
theorem zse : ConOk Tryz.prog 28 (zmv) :=
  zcf (ps := [.d cTokT]) (rs := [.d .bool]) (fn := Tryz.f28) (E := ⟨tOf tl, gOf []⟩) ⟨zdl zfz, zdm trivial, mixedOk⟩ (body := bodyOf Tryz.f28) (pl := []) (M := 400) (cuts := []) (entry := fun n x => zn5 x) rfl rfl (by decide) (by kernel_rfl) trivial (fun _ _ => by kernel_rfl) 0
def zgw (J3 : Bool → ByteArray → (ByteArray × Nat) → Option ByteArray) (v5 : ByteArray) (v9 : (ByteArray × Nat)) (a1 : Bool) : Option ByteArray :=
  (addS v5 (Utf8.encode ((Utf8.decode v9.1 v9.2).1 : Int))).bind fun r4 =>
  J3 a1 r4 (v9.1,(v9.2 + (Utf8.decode v9.1 v9.2).2))
def zgx (J3 : Bool → ByteArray → (ByteArray × Nat) → Option ByteArray) (v9 : (ByteArray × Nat)) (a1 : Bool) (v5 : ByteArray) : Option ByteArray :=
  bif decide (((Utf8.decode v9.1 v9.2).1 : Int) = 34) then
  (bif a1 then
  ((addS v5 (bs [38,113,117,111,116,59])).bind fun r3 =>
  J3 a1 r3 (v9.1,(v9.2 + (Utf8.decode v9.1 v9.2).2)))
  else (zgw J3 v5 v9 a1))
  else (zgw J3 v5 v9 a1)
def zcw : Nat → Bool → ByteArray → (ByteArray × Nat) → Option ByteArray
  | 0, _, _, _ => none
  | n + 1, a1, v5, v9 =>
  bif decide (v9.2 < v9.1.size) then
  (bif decide (((Utf8.decode v9.1 v9.2).1 : Int) = 38) then
  ((addS v5 (bs [38,97,109,112,59])).bind fun r1 =>
  (zcw n) a1 r1 (v9.1,(v9.2 + (Utf8.decode v9.1 v9.2).2)))
  else (bif decide (((Utf8.decode v9.1 v9.2).1 : Int) = 60) then
  (bif (!a1) then
  ((addS v5 (bs [38,108,116,59])).bind fun r2 =>
  (zcw n) a1 r2 (v9.1,(v9.2 + (Utf8.decode v9.1 v9.2).2)))
  else (zgx (zcw n) v9 a1 v5))
  else (zgx (zcw n) v9 a1 v5)))
  else (some v5)
def znu (n : Nat) (a0 : ByteArray) (a1 : Bool) : Option ByteArray :=
  ((zcw n) a1 (bs []) (a0,0))
def zjv (k : Nat) (a0 : ByteArray) (a1 : Bool) : Option ByteArray := znu k a0 a1
def zll (k : Nat) : Con := ⟨[.d .str, .d .bool],[.d .str], fun x => zjv k x.1 x.2⟩
theorem zr6 (k : Nat) : ConOk Tryz.prog 29 (zll k) :=
  zcf (ps := [.d .str, .d .bool]) (rs := [.d .str]) (fn := Tryz.f29) (E := ⟨tOf tl, gOf []⟩) ⟨zdl zfz, zdm trivial, mixedOk⟩ (body := bodyOf Tryz.f29) (pl := []) (M := 400) (cuts := [⟨3,[0,5,4,1,0,1,1],[1,5,9],[.d .bool, .d .str, .g], fun n x => zcw n x.1 x.2.1 x.2.2,[]⟩]) (entry := fun n x => znu n x.1 x.2) rfl rfl (by decide) (by kernel_rfl) ⟨⟨fun _ => by kernel_rfl, fun _ _ => by kernel_rfl⟩, trivial⟩ (fun _ _ => by kernel_rfl) k
def zek (k : Nat) (J3 : (List TokT) → ByteArray → Int → Option ByteArray) (J16 : (List TokT) → ByteArray → Int → TokT → Int → Option ByteArray) (r1 : TokT) (v3 : ByteArray) (a0 : (List TokT)) (v4 : Int) : Option ByteArray :=
  (bif decide (r1.1 = 1) then
  ((zjv k r1.2.2.1 false).bind fun r9 =>
  (addS v3 r9).bind fun r10 =>
  (J3 a0 r10 (w64 (v4 + 1))))
  else (bif decide (r1.1 = 2) then
  ((addS v3 (bs [60])).bind fun r11 =>
  (addS r11 r1.2.1).bind fun r12 =>
  (J16 a0 r12 v4 r1 0))
  else ((addS v3 (bs [60,47])).bind fun r13 =>
  (addS r13 r1.2.1).bind fun r14 =>
  (addS r14 (bs [62])).bind fun r15 =>
  (J3 a0 r15 (w64 (v4 + 1))))))
def zel (k : Nat) (J3 : (List TokT) → ByteArray → Int → Option ByteArray) (J16 : (List TokT) → ByteArray → Int → TokT → Int → Option ByteArray) (r1 : TokT) (v4 : Int) (a0 : (List TokT)) (v3 : ByteArray) : Option ByteArray :=
  bif decide (r1.1 = 1) then
  bif decide (0 < v4) then
  (geti a0 (w64 (v4 - 1))).bind fun r5 =>
  (bif decide (r5.1 = 1) then
  ((addS v3 (bs [60,33,45,45,45,45,62])).bind fun r6 =>
  (zjv k r1.2.2.1 false).bind fun r7 =>
  (addS r6 r7).bind fun r8 =>
  (J3 a0 r8 (w64 (v4 + 1))))
  else (zek k J3 J16 r1 v3 a0 v4))
  else (zek k J3 J16 r1 v3 a0 v4)
  else (zek k J3 J16 r1 v3 a0 v4)
mutual
def zb4 (k : Nat) : Nat → (List TokT) → ByteArray → Int → Option ByteArray
  | 0, _, _, _ => none
  | n + 1, a0, v3, v4 =>
  (bif decide (v4 < (a0.length : Int)) then
  ((geti a0 v4).bind fun r1 =>
  (bif decide (r1.1 = 1) then
  bif decide (0 < v4) then
  (geti a0 (w64 (v4 - 1))).bind fun r2 =>
  (zn5 r2).bind fun r3 =>
  (bif r3 then
  ((addS v3 r1.2.2.1).bind fun r4 =>
  ((zb4 k n) a0 r4 (w64 (v4 + 1))))
  else (zel k (zb4 k n) (zc9 k n) r1 v4 a0 v3))
  else (zel k (zb4 k n) (zc9 k n) r1 v4 a0 v3)
  else (zel k (zb4 k n) (zc9 k n) r1 v4 a0 v3)))
  else (some v3))
def zc9 (k : Nat) : Nat → (List TokT) → ByteArray → Int → TokT → Int → Option ByteArray
  | 0, _, _, _, _, _ => none
  | n + 1, a0, v3, v4, v5, v6 =>
  (bif decide (v6 < (v5.2.2.2.1.length : Int)) then
  ((addS v3 (bs [32])).bind fun r17 =>
  (geti v5.2.2.2.1 v6).bind fun r18 =>
  (addS r17 r18.1).bind fun r19 =>
  (addS r19 (bs [61,34])).bind fun r20 =>
  (geti v5.2.2.2.1 v6).bind fun r21 =>
  (zjv k r21.2.1 true).bind fun r22 =>
  (addS r20 r22).bind fun r23 =>
  (addS r23 (bs [34])).bind fun r24 =>
  ((zc9 k n) a0 r24 v4 v5 (w64 (v6 + 1))))
  else (bif v5.2.2.2.2.1 then
  ((addS v3 (bs [47])).bind fun r25 =>
  ((addS r25 (bs [62])).bind fun r27 =>
  ((zb4 k n) a0 r27 (w64 (v4 + 1)))))
  else ((addS v3 (bs [62])).bind fun r27 =>
  ((zb4 k n) a0 r27 (w64 (v4 + 1))))))
end
def zlm (k : Nat) (n : Nat) (a0 : (List TokT)) : Option ByteArray :=
  ((zb4 k n) a0 (bs []) 0)
def zl1 (k : Nat) (a0 : (List TokT)) : Option ByteArray := zlm k k a0
def zjw (k : Nat) : Con := ⟨[.d (.sl cTokT)],[.d .str], fun x => zl1 k x⟩
theorem zom (k : Nat) : ConOk Tryz.prog 13 (zjw k) :=
  zcf (ps := [.d (.sl cTokT)]) (rs := [.d .str]) (fn := Tryz.f13) (E := ⟨tOf tl, gOf [(28, zmv),(29, zll k)]⟩) ⟨zdl zfz, zdm ⟨zse, zr6 k, trivial⟩, mixedOk⟩ (body := bodyOf Tryz.f13) (pl := [(18,[(0,0),(1,0),(2,0),(3,0),(4,0),(5,0),(6,0),(7,0),(8,0),(9,0),(10,0),(11,0),(12,0),(13,0),(14,0),(15,0),(16,0),(17,0),(18,0),(19,0)],[5])]) (M := 400) (cuts := [⟨3,[0,0,5,4,1,0,1,1],[0,3,4],[.d (.sl cTokT), .d .str, .d (.int .i64)], fun n x => zb4 k n x.1 x.2.1 x.2.2,[]⟩, ⟨16,[0,0,5,4,1,0,1,2,1,3,1,3,1,3,1,4,1,4,0,1,5,4,1,0,1,1],[0,3,4,5,6],[.d (.sl cTokT), .d .str, .d (.int .i64), .p [.d cTokT], .d (.int .i64)], fun n x => zc9 k n x.1 x.2.1 x.2.2.1 x.2.2.2.1 x.2.2.2.2,[]⟩]) (entry := fun n x => zlm k n x) rfl rfl (by decide) (by kernel_rfl) ⟨⟨fun _ => by kernel_rfl, fun _ _ => by kernel_rfl⟩, ⟨fun _ => by kernel_rfl, fun _ _ => by kernel_rfl⟩, trivial⟩ (fun _ _ => by kernel_rfl) k
def zbu : Nat → (List AttT) → (List AttT) → Int → Option Bool
  | 0, _, _, _ => none
  | n + 1, a0, a1, v5 =>
  (bif decide (v5 < (a0.length : Int)) then
  ((geti a0 v5).bind fun r1 =>
  (geti a1 v5).bind fun r2 =>
  (bif (!(cAttT.beq r1 r2)) then
  (some false)
  else ((zbu n) a0 a1 (w64 (v5 + 1)))))
  else (some true))
def zfg (n : Nat) (a0 : (List AttT)) (a1 : (List AttT)) : Option Bool :=
  (bif decide ((a0.length : Int) ≠ (a1.length : Int)) then
  (some false)
  else ((zbu n) a0 a1 0))
def zet (k : Nat) (a0 : (List AttT)) (a1 : (List AttT)) : Option Bool := zfg k a0 a1
def zgd (k : Nat) : Con := ⟨[.d (.sl cAttT), .d (.sl cAttT)],[.d .bool], fun x => zet k x.1 x.2⟩
theorem zk3 (k : Nat) : ConOk Tryz.prog 10 (zgd k) :=
  zcf (ps := [.d (.sl cAttT), .d (.sl cAttT)]) (rs := [.d .bool]) (fn := Tryz.f10) (E := ⟨tOf tl, gOf []⟩) ⟨zdl zfz, zdm trivial, mixedOk⟩ (body := bodyOf Tryz.f10) (pl := [(6,[(0,0),(1,0),(2,0),(3,0),(4,0),(5,0),(6,0),(7,0),(8,0)],[])]) (M := 400) (cuts := [⟨4,[0,0,5,4,1,0,1,1],[0,1,5],[.d (.sl cAttT), .d (.sl cAttT), .d (.int .i64)], fun n x => zbu n x.1 x.2.1 x.2.2,[]⟩]) (entry := fun n x => zfg n x.1 x.2) rfl rfl (by decide) (by kernel_rfl) ⟨⟨fun _ => by kernel_rfl, fun _ _ => by kernel_rfl⟩, trivial⟩ (fun _ _ => by kernel_rfl) k
def zf1 (k : Nat) : Nat → (List TokT) → (List TokT) → Int → Option Bool
  | 0, _, _, _ => none
  | n + 1, a0, v3, v4 =>
  (bif decide (v4 < (a0.length : Int)) then
  ((geti v3 v4).bind fun r4 =>
  (geti a0 v4).bind fun r5 =>
  bif decide (r4.1 ≠ r5.1) then
  (some false)
  else (geti v3 v4).bind fun r6 =>
  (geti a0 v4).bind fun r7 =>
  bif decide (r6.2.1 ≠ r7.2.1) then
  (some false)
  else (geti v3 v4).bind fun r8 =>
  (geti a0 v4).bind fun r9 =>
  bif decide (r8.2.2.1 ≠ r9.2.2.1) then
  (some false)
  else (geti v3 v4).bind fun r10 =>
  (geti a0 v4).bind fun r11 =>
  bif (!(decide (r10.2.2.2.2.1 = r11.2.2.2.2.1))) then
  (some false)
  else (geti v3 v4).bind fun r12 =>
  (geti a0 v4).bind fun r13 =>
  (zet k r12.2.2.2.1 r13.2.2.2.1).bind fun r14 =>
  (bif (!r14) then
  (some false)
  else ((zf1 k n) a0 v3 (w64 (v4 + 1)))))
  else (some true))
def zju (k : Nat) (n : Nat) (a0 : (List TokT)) : Option Bool :=
  ((zl1 k a0).bind fun r1 =>
  (runesM r1).bind fun r2 =>
  (zkx k r2).bind fun r3 =>
  (bif decide ((r3.length : Int) ≠ (a0.length : Int)) then
  (some false)
  else ((zf1 k n) a0 r3 0)))
def zhk (k : Nat) (a0 : (List TokT)) : Option Bool := zju k k a0
def zol (k : Nat) : Con := ⟨[.d (.sl cTokT)],[.d .bool], fun x => zhk k x⟩
theorem zps (k : Nat) : ConOk Tryz.prog 5 (zol k) :=
  zcf (ps := [.d (.sl cTokT)]) (rs := [.d .bool]) (fn := Tryz.f5) (E := ⟨tOf tl, gOf [(10, zgd k),(12, zjp k),(13, zjw k)]⟩) ⟨zdl zfz, zdm ⟨zk3 k, zoi k, zom k, trivial⟩, mixedOk⟩ (body := bodyOf Tryz.f5) (pl := [(7,[(0,0),(1,0),(2,0),(3,0),(4,0),(5,0),(6,0),(7,0),(8,0),(9,0),(10,0),(11,0),(12,0),(13,0),(14,0),(15,0),(16,0),(17,0),(18,0),(19,0),(20,0),(21,0),(22,0),(23,0),(24,0),(25,0),(26,0),(27,0),(28,0),(29,0),(30,0),(31,0),(32,0),(33,0),(34,0),(35,0),(36,0),(37,0),(38,0),(39,0),(40,0),(41,0),(42,0),(43,0),(44,0),(45,0),(46,0),(47,0),(48,0),(49,0),(50,0),(51,0),(52,0),(53,0),(54,0),(55,0),(56,0),(57,0),(58,0),(59,0),(60,0),(61,0),(62,0),(63,0)],[])]) (M := 400) (cuts := [⟨5,[0,0,5,4,1,0,1,1,1],[0,3,4],[.d (.sl cTokT), .d (.sl cTokT), .d (.int .i64)], fun n x => zf1 k n x.1 x.2.1 x.2.2,[]⟩]) (entry := fun n x => zju k n x) rfl rfl (by decide) (by kernel_rfl) ⟨⟨fun _ => by kernel_rfl, fun _ _ => by kernel_rfl⟩, trivial⟩ (fun _ _ => by kernel_rfl) k
mutual
def zjl : Nat → (List AttT) → Int → Option Bool
  | 0, _, _ => none
  | n + 1, a0, v3 =>
  (bif decide (v3 < (a0.length : Int)) then
  ((geti a0 v3).bind fun r1 =>
  (bif decide (r1.1 = (bs [])) then
  (some false)
  else ((zjk n) a0 v3 0)))
  else (some (decide ((a0.length : Int) ≤ 64))))
def zjk : Nat → (List AttT) → Int → Int → Option Bool
  | 0, _, _, _ => none
  | n + 1, a0, v3, v4 =>
  (bif decide (v4 < v3) then
  ((geti a0 v4).bind fun r2 =>
  (geti a0 v3).bind fun r3 =>
  (bif decide (r2.1 = r3.1) then
  (some false)
  else ((zjk n) a0 v3 (w64 (v4 + 1)))))
  else ((zjl n) a0 (w64 (v3 + 1))))
end
def zmp (n : Nat) (a0 : (List AttT)) : Option Bool :=
  ((zjl n) a0 0)
def zox (k : Nat) (a0 : (List AttT)) : Option Bool := zmp k a0
def zko (k : Nat) : Con := ⟨[.d (.sl cAttT)],[.d .bool], fun x => zox k x⟩
theorem zpg (k : Nat) : ConOk Tryz.prog 79 (zko k) :=
  zcf (ps := [.d (.sl cAttT)]) (rs := [.d .bool]) (fn := Tryz.f79) (E := ⟨tOf tl, gOf []⟩) ⟨zdl zfz, zdm trivial, mixedOk⟩ (body := bodyOf Tryz.f79) (pl := [(9,[(0,0),(1,0),(2,0),(3,0),(4,0),(5,0),(6,0),(7,0),(8,0),(9,0),(10,0)],[])]) (M := 400) (cuts := [⟨2,[0,0,5,4,1,0,1],[0,3],[.d (.sl cAttT), .d (.int .i64)], fun n x => zjl n x.1 x.2,[]⟩, ⟨7,[0,0,5,4,1,1,4,0,1,5,4,1,0,1],[0,3,4],[.d (.sl cAttT), .d (.int .i64), .d (.int .i64)], fun n x => zjk n x.1 x.2.1 x.2.2,[]⟩]) (entry := fun n x => zmp n x) rfl rfl (by decide) (by kernel_rfl) ⟨⟨fun _ => by kernel_rfl, fun _ _ => by kernel_rfl⟩, ⟨fun _ => by kernel_rfl, fun _ _ => by kernel_rfl⟩, trivial⟩ (fun _ _ => by kernel_rfl) k
def zm5 (k : Nat) (a0 : NodT) : Option Bool :=
  (bif decide (a0.1 = 1) then
  (bif decide (a0.2.1 ≠ (bs [])) then
  bif decide (a0.2.2.1 = (bs [])) then
  (zox k a0.2.2.2.1).bind fun r1 =>
  some r1
  else some false
  else some false)
  else (bif decide (a0.1 = 2) then
  bif decide (a0.2.1 = (bs [])) then
  bif decide (a0.2.2.1 ≠ (bs [])) then
  bif decide ((a0.2.2.2.1.length : Int) = 0) then
  bif decide (a0.2.2.2.2.2.1 = (-1)) then
  some (decide (a0.2.2.2.2.2.2.1 = (-1)))
  else some false
  else some false
  else some false
  else some false
  else some false))
def zkn (k : Nat) : Con := ⟨[.d cNodT],[.d .bool], fun x => zm5 k x⟩
theorem zpf (k : Nat) : ConOk Tryz.prog 59 (zkn k) :=
  zcf (ps := [.d cNodT]) (rs := [.d .bool]) (fn := Tryz.f59) (E := ⟨tOf tl, gOf [(79, zko k)]⟩) ⟨zdl zfz, zdm ⟨zpg k, trivial⟩, mixedOk⟩ (body := bodyOf Tryz.f59) (pl := []) (M := 400) (cuts := []) (entry := fun n x => zm5 k x) rfl rfl (by decide) (by kernel_rfl) trivial (fun _ _ => by kernel_rfl) k
def zkw : Nat → TreT → (List Int) → Int → Option (List Int)
  | 0, _, _, _ => none
  | n + 1, v2, v5, v6 =>
  (bif decide (0 ≤ v6) then
  ((appM 8 v5 ([v6])).bind fun r2 =>
  ((geti v2.1 v6).bind fun r3 =>
  (zkw n) v2 r2 r3.2.2.2.2.2.2.2.2.1))
  else (some v5))
def znh (n : Nat) (a0 : TreT) (a1 : Int) : Option (List Int) :=
  (bif decide (a1 < 0) then
  (some ([]))
  else (bif decide ((a0.1.length : Int) ≤ a1) then
  (some ([]))
  else ((geti a0.1 a1).bind fun r1 =>
  (zkw n) a0 ([]) r1.2.2.2.2.2.1)))
def zqv (k : Nat) (a0 : TreT) (a1 : Int) : Option (List Int) := znh k a0 a1
def zlh (k : Nat) : Con := ⟨[.d cTreT, .d (.int .i64)],[.d (.sl (.int .i64))], fun x => zqv k x.1 x.2⟩
theorem zqu (k : Nat) : ConOk Tryz.prog 60 (zlh k) :=
  zcf (ps := [.d cTreT, .d (.int .i64)]) (rs := [.d (.sl (.int .i64))]) (fn := Tryz.f60) (E := ⟨tOf tl, gOf []⟩) ⟨zdl zfz, zdm trivial, mixedOk⟩ (body := bodyOf Tryz.f60) (pl := []) (M := 400) (cuts := [⟨5,[0,0,5,4,1,0,1,1,1],[2,5,6],[.p [.d cTreT], .o 3 (.int .i64), .d (.int .i64)], fun n x => zkw n x.1 x.2.1 x.2.2,[]⟩]) (entry := fun n x => znh n x.1 x.2) rfl rfl (by decide) (by kernel_rfl) ⟨⟨fun _ => by kernel_rfl, fun _ _ => by kernel_rfl⟩, trivial⟩ (fun _ _ => by kernel_rfl) k
def zj9 (k : Nat) (J13 : (List NodT) → (List NodT) → Int → (List Int) → Int → Option Int) (y29 : (List NodT)) (v8 : Int) (v3 : (List NodT)) (v7 : Int) (y16 : Int) (r15 : (List Int)) : Option Int :=
  (geti y29 v8).bind fun r30 =>
  (geti y29 v8).bind fun r31 =>
  (J13 v3 (y29.set v8.toNat (NodT_u6 r31 v7)) y16 r15 (w64 (v7 + 1)))
def zja (k : Nat) (J13 : (List NodT) → (List NodT) → Int → (List Int) → Int → Option Int) (y16 : Int) (v4 : (List NodT)) (v8 : Int) (v7 : Int) (v3 : (List NodT)) (r15 : (List Int)) : Option Int :=
  (geti v4 v8).bind fun r17 =>
  (geti v4 v8).bind fun r18 =>
  (geti v4 v7).bind fun r19 =>
  (geti v4 v7).bind fun r20 =>
  ((geti (v4.set v7.toNat (0,(bs []),(bs []),[], v8,(-1),(-1), r18.2.2.2.2.2.2.1,(-1),())) v8).bind fun r21 =>
  (geti (v4.set v7.toNat (0,(bs []),(bs []),[], v8,(-1),(-1), r18.2.2.2.2.2.2.1,(-1),())) v8).bind fun r22 =>
  (bif decide (0 ≤ r22.2.2.2.2.2.2.1) then
  ((geti (v4.set v7.toNat (0,(bs []),(bs []),[], v8,(-1),(-1), r18.2.2.2.2.2.2.1,(-1),())) v8).bind fun r23 =>
  (geti (v4.set v7.toNat (0,(bs []),(bs []),[], v8,(-1),(-1), r18.2.2.2.2.2.2.1,(-1),())) v8).bind fun r24 =>
  (geti (v4.set v7.toNat (0,(bs []),(bs []),[], v8,(-1),(-1), r18.2.2.2.2.2.2.1,(-1),())) r24.2.2.2.2.2.2.1).bind fun r25 =>
  (geti (v4.set v7.toNat (0,(bs []),(bs []),[], v8,(-1),(-1), r18.2.2.2.2.2.2.1,(-1),())) r24.2.2.2.2.2.2.1).bind fun r26 =>
  (zj9 k J13 ((v4.set v7.toNat (0,(bs []),(bs []),[], v8,(-1),(-1), r18.2.2.2.2.2.2.1,(-1),())).set r24.2.2.2.2.2.2.1.toNat (NodT_u8 r26 v7)) v8 v3 v7 y16 r15))
  else ((geti (v4.set v7.toNat (0,(bs []),(bs []),[], v8,(-1),(-1), r18.2.2.2.2.2.2.1,(-1),())) v8).bind fun r27 =>
  (geti (v4.set v7.toNat (0,(bs []),(bs []),[], v8,(-1),(-1), r18.2.2.2.2.2.2.1,(-1),())) v8).bind fun r28 =>
  (zj9 k J13 ((v4.set v7.toNat (0,(bs []),(bs []),[], v8,(-1),(-1), r18.2.2.2.2.2.2.1,(-1),())).set v8.toNat (NodT_u5 r28 v7)) v8 v3 v7 y16 r15))))
def zjb (k : Nat) (J13 : (List NodT) → (List NodT) → Int → (List Int) → Int → Option Int) (v6 : (List Int)) (v3 : (List NodT)) (v8 : Int) (v7 : Int) (v5 : Int) (v4 : (List NodT)) : Option Int :=
  bif decide ((v6.length : Int) = 0) then
  (some 10)
  else (geti v3 v8).bind fun r14 =>
  (bif decide (r14.1 ≠ 1) then
  (some 10)
  else ((appM 8 v6 ([v7])).bind fun r15 =>
  (bif decide (v5 < (r15.length : Int)) then
  (zja k J13 (r15.length : Int) v4 v8 v7 v3 r15)
  else (zja k J13 v5 v4 v8 v7 v3 r15))))
mutual
def zg3 (k : Nat) : Nat → (List NodT) → (List NodT) → Int → (List Int) → Int → Option Int
  | 0, _, _, _, _, _ => none
  | n + 1, v3, v4, v5, v6, v7 =>
  (bif decide (v7 < (v3.length : Int)) then
  ((geti v3 v7).bind fun r8 =>
  (zm5 k r8).bind fun r9 =>
  (bif (!r9) then
  (some 10)
  else (bif decide (v7 = 0) then
  ((zg3 k n) v3 v4 v5 v6 (w64 (v7 + 1)))
  else ((geti v3 v7).bind fun r10 =>
  (ziu k n) v3 v4 v5 v6 v7 r10.2.2.2.2.1))))
  else ((zit k n) v3 v4 v5 0))
def ziu (k : Nat) : Nat → (List NodT) → (List NodT) → Int → (List Int) → Int → Int → Option Int
  | 0, _, _, _, _, _, _ => none
  | n + 1, v3, v4, v5, v6, v7, v8 =>
  bif decide (0 < (v6.length : Int)) then
  (geti v6 (w64 ((v6.length : Int) - 1))).bind fun r11 =>
  (geti v6 (w64 ((v6.length : Int) - 1))).bind fun r12 =>
  (bif decide (r12 ≠ v8) then
  ((cutM v6 0 (w64 ((v6.length : Int) - 1))).bind fun r13 =>
  (ziu k n) v3 v4 v5 r13 v7 v8)
  else (zjb k (zg3 k n) v6 v3 v8 v7 v5 v4))
  else (zjb k (zg3 k n) v6 v3 v8 v7 v5 v4)
def zit (k : Nat) : Nat → (List NodT) → (List NodT) → Int → Int → Option Int
  | 0, _, _, _, _ => none
  | n + 1, v3, v4, v5, v9 =>
  (bif decide (v9 < (v3.length : Int)) then
  ((geti v3 v9).bind fun r32 =>
  (geti v4 v9).bind fun r33 =>
  bif decide (r32.2.2.2.2.2.1 ≠ r33.2.2.2.2.2.1) then
  (some 10)
  else (geti v3 v9).bind fun r34 =>
  (geti v4 v9).bind fun r35 =>
  bif decide (r34.2.2.2.2.2.2.1 ≠ r35.2.2.2.2.2.2.1) then
  (some 10)
  else (geti v3 v9).bind fun r36 =>
  (geti v4 v9).bind fun r37 =>
  bif decide (r36.2.2.2.2.2.2.2.1 ≠ r37.2.2.2.2.2.2.2.1) then
  (some 10)
  else (geti v3 v9).bind fun r38 =>
  (geti v4 v9).bind fun r39 =>
  (bif decide (r38.2.2.2.2.2.2.2.2.1 ≠ r39.2.2.2.2.2.2.2.2.1) then
  (some 10)
  else ((zit k n) v3 v4 v5 (w64 (v9 + 1)))))
  else (bif decide (256 < v5) then
  (some 5)
  else (some 0)))
end
def zmq (k : Nat) (n : Nat) (a0 : TreT) : Option Int :=
  (bif decide ((a0.1.length : Int) = 0) then
  (some 10)
  else (bif decide (4096 < (a0.1.length : Int)) then
  (some 4)
  else ((geti a0.1 0).bind fun r1 =>
  bif decide (r1.1 ≠ 1) then
  (some 10)
  else (geti a0.1 0).bind fun r2 =>
  bif decide (r2.2.2.2.2.1 ≠ (-1)) then
  (some 10)
  else (geti a0.1 0).bind fun r3 =>
  bif decide (r3.2.2.2.2.2.2.2.1 ≠ (-1)) then
  (some 10)
  else (geti a0.1 0).bind fun r4 =>
  (bif decide (r4.2.2.2.2.2.2.2.2.1 ≠ (-1)) then
  (some 10)
  else ((repM 104 (a0.1.length : Int) (0,(bs []),(bs []),[],0,0,0,0,0,())).bind fun r5 =>
  ((geti r5 0).bind fun r6 =>
  (geti r5 0).bind fun r7 =>
  ((zg3 k n) a0.1 (r5.set (Int.toNat 0) (0,(bs []),(bs []),[],(-1),(-1),(-1),(-1),(-1),())) 1 ([0]) 0)))))))
def zoy (k : Nat) (a0 : TreT) : Option Int := zmq k k a0
def zkp (k : Nat) : Con := ⟨[.d cTreT],[.d (.int .i64)], fun x => zoy k x⟩
theorem zph (k : Nat) : ConOk Tryz.prog 31 (zkp k) :=
  zcf (ps := [.d cTreT]) (rs := [.d (.int .i64)]) (fn := Tryz.f31) (E := ⟨tOf tl, gOf [(59, zkn k)]⟩) ⟨zdl zfz, zdm ⟨zpf k, trivial⟩, mixedOk⟩ (body := bodyOf Tryz.f31) (pl := [(34,[(0,0),(1,0),(2,0),(3,0),(4,0),(5,0),(6,0),(7,0),(8,0),(9,0),(10,0),(11,0),(12,0),(13,0),(14,0),(15,0),(16,0),(17,0),(18,0),(19,0),(20,0),(21,0),(22,0),(23,0),(24,0),(25,0),(26,0),(27,0),(28,0),(29,0),(30,0),(31,0),(32,0),(33,0),(34,0),(35,0),(36,0),(37,0),(38,0),(39,0),(40,0),(41,0),(42,0),(43,0),(44,0),(45,0),(46,0),(47,0),(48,0),(49,0)],[])]) (M := 400) (cuts := [⟨13,[0,0,5,4,1,0,1,1,1,1,1,1,1,1,1],[3,4,5,6,7],[.d (.sl cNodT), .o 42 cNodT, .d (.int .i64), .o 3 (.int .i64), .d (.int .i64)], fun n x => zg3 k n x.1 x.2.1 x.2.2.1 x.2.2.2.1 x.2.2.2.2,[]⟩, ⟨19,[0,0,5,4,0,1,1,1,4,0,1,5,4,1,0,1,1,1,1,1,1,1,1,1],[3,4,5,6,7,8],[.d (.sl cNodT), .o 42 cNodT, .d (.int .i64), .o 3 (.int .i64), .d (.int .i64), .d (.int .i64)], fun n x => ziu k n x.1 x.2.1 x.2.2.1 x.2.2.2.1 x.2.2.2.2.1 x.2.2.2.2.2,[]⟩, ⟨32,[0,0,5,4,1,0,1,1,1,1,1,1,1,1,1,1],[3,4,5,9],[.d (.sl cNodT), .d (.sl cNodT), .d (.int .i64), .d (.int .i64)], fun n x => zit k n x.1 x.2.1 x.2.2.1 x.2.2.2,[]⟩]) (entry := fun n x => zmq k n x) rfl rfl (by decide) (by kernel_rfl) ⟨⟨fun _ => by kernel_rfl, fun _ _ => by kernel_rfl⟩, ⟨fun _ => by kernel_rfl, fun _ _ => by kernel_rfl⟩, ⟨fun _ => by kernel_rfl, fun _ _ => by kernel_rfl⟩, trivial⟩ (fun _ _ => by kernel_rfl) k
end Go.V
