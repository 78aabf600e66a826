/-
  Walks and laws of this seat.
-/
import Derived.Test.YteicdfkmpnmkmaaGreatM2
namespace Go.V
set_option linter.unusedVariables false
set_option linter.unusedSimpArgs false
set_option linter.unusedSectionVars false
variable [F0]
set_option maxRecDepth 100000
open Go.RowKit Go.Sl Go.Proofs
def zi3 (a0 : BoxT) : Option Bool :=
  (bif decide (a0.x.1 = 1) then
  some true
  else bif decide (a0.x.1 = 2) then
  some true
  else some (decide (a0.x.1 = 3)))
def zkh : Con := ⟨[.d cBoxT],[.d .bool], fun x => zi3 x⟩
theorem zpr : ConOk Tryz.prog 25 (zkh) :=
  za7 (ps := [.d cBoxT]) (rs := [.d .bool]) (fn := Tryz.f25) (E := ⟨tOf tl, gOf []⟩) ⟨zaa zad, zab trivial, mixedOk⟩ (body := bodyOf Tryz.f25) (pl := []) (M := 400) (cuts := []) (entry := fun n x => zi3 x) rfl rfl (by decide) (by kernel_rfl) trivial (fun _ _ => by kernel_rfl) 0
def zbz : Nat → (ByteArray × Nat) → Option Bool
  | 0, _ => none
  | n + 1, v20 =>
  bif decide (v20.2 < v20.1.size) then
  (bif decide (((Utf8.decode v20.1 v20.2).1 : Int) ≠ 9) then
  bif decide (((Utf8.decode v20.1 v20.2).1 : Int) ≠ 10) then
  bif decide (((Utf8.decode v20.1 v20.2).1 : Int) ≠ 12) then
  (bif decide (((Utf8.decode v20.1 v20.2).1 : Int) ≠ 32) then
  (some false)
  else (zbz n) (v20.1,(v20.2 + (Utf8.decode v20.1 v20.2).2)))
  else ((zbz n) (v20.1,(v20.2 + (Utf8.decode v20.1 v20.2).2)))
  else ((zbz n) (v20.1,(v20.2 + (Utf8.decode v20.1 v20.2).2)))
  else ((zbz n) (v20.1,(v20.2 + (Utf8.decode v20.1 v20.2).2))))
  else (some true)
def zjc (n : Nat) (a0 : BoxT) (a1 : Bool) : Option Bool :=
  (bif decide (a0.x.1 ≠ 7) then
  (some false)
  else bif a1 then
  (bif a0.x.2.2.2.1.2.2.2.2.2.2.2.2.2.2.2.2.2.2.2.1 then
  (some false)
  else ((zbz n) (a0.x.2.2.2.2.1,0)))
  else ((zbz n) (a0.x.2.2.2.2.1,0)))
def zqj (k : Nat) (a0 : BoxT) (a1 : Bool) : Option Bool := zjc k a0 a1
def zoc (k : Nat) : Con := ⟨[.d cBoxT, .d .bool],[.d .bool], fun x => zqj k x.1 x.2⟩
theorem zvp (k : Nat) : ConOk Tryz.prog 102 (zoc k) :=
  za7 (ps := [.d cBoxT, .d .bool]) (rs := [.d .bool]) (fn := Tryz.f102) (E := ⟨tOf tl, gOf []⟩) ⟨zaa zad, zab trivial, mixedOk⟩ (body := bodyOf Tryz.f102) (pl := []) (M := 400) (cuts := [⟨4,[0,5,4,1,0,1,1],[20],[.g], fun n x => zbz n x,[]⟩]) (entry := fun n x => zjc n x.1 x.2) rfl rfl (by decide) (by kernel_rfl) ⟨⟨fun _ => by kernel_rfl, fun _ _ => by kernel_rfl⟩, trivial⟩ (fun _ _ => by kernel_rfl) k
def zkg (a0 : BoxT) : Option Bool :=
  ((zi3 (Tr.mk a0.x a0.kids)).bind fun r1 =>
  bif (!r1) then
  bif decide (a0.x.1 ≠ 4) then
  some (decide (a0.x.1 ≠ 5))
  else some false
  else some false)
def zob : Con := ⟨[.d cBoxT],[.d .bool], fun x => zkg x⟩
theorem zvo : ConOk Tryz.prog 66 (zob) :=
  za7 (ps := [.d cBoxT]) (rs := [.d .bool]) (fn := Tryz.f66) (E := ⟨tOf tl, gOf [(25, zkh)]⟩) ⟨zaa zad, zab ⟨zpr, trivial⟩, mixedOk⟩ (body := bodyOf Tryz.f66) (pl := []) (M := 400) (cuts := []) (entry := fun n x => zkg x) rfl rfl (by decide) (by kernel_rfl) trivial (fun _ _ => by kernel_rfl) 0
def zqi (a0 : BoxT) : Option Bool :=
  (some (decide (a0.x.1 ≠ 4)))
def zoa : Con := ⟨[.d cBoxT],[.d .bool], fun x => zqi x⟩
theorem zvn : ConOk Tryz.prog 64 (zoa) :=
  za7 (ps := [.d cBoxT]) (rs := [.d .bool]) (fn := Tryz.f64) (E := ⟨tOf tl, gOf []⟩) ⟨zaa zad, zab trivial, mixedOk⟩ (body := bodyOf Tryz.f64) (pl := []) (M := 400) (cuts := []) (entry := fun n x => zqi x) rfl rfl (by decide) (by kernel_rfl) trivial (fun _ _ => by kernel_rfl) 0
def zqh (a0 : BoxT) : Option Bool :=
  (some (decide (a0.x.1 ≠ 5)))
def zo9 : Con := ⟨[.d cBoxT],[.d .bool], fun x => zqh x⟩
theorem zvm : ConOk Tryz.prog 65 (zo9) :=
  za7 (ps := [.d cBoxT]) (rs := [.d .bool]) (fn := Tryz.f65) (E := ⟨tOf tl, gOf []⟩) ⟨zaa zad, zab trivial, mixedOk⟩ (body := bodyOf Tryz.f65) (pl := []) (M := 400) (cuts := []) (entry := fun n x => zqh x) rfl rfl (by decide) (by kernel_rfl) trivial (fun _ _ => by kernel_rfl) 0
def zkf (a0 : BoxT) : Option Bool :=
  (bif decide (a0.x.1 = 7) then
  some true
  else some (decide (a0.x.1 = 8)))
def zo8 : Con := ⟨[.d cBoxT],[.d .bool], fun x => zkf x⟩
theorem zvl : ConOk Tryz.prog 67 (zo8) :=
  za7 (ps := [.d cBoxT]) (rs := [.d .bool]) (fn := Tryz.f67) (E := ⟨tOf tl, gOf []⟩) ⟨zaa zad, zab trivial, mixedOk⟩ (body := bodyOf Tryz.f67) (pl := []) (M := 400) (cuts := []) (entry := fun n x => zkf x) rfl rfl (by decide) (by kernel_rfl) trivial (fun _ _ => by kernel_rfl) 0
def zke : Option StyT :=
  (some (0,0,0,0,(0,0,()),(0,0,()),((1,0,()),(1,0,()),(1,0,()),(1,0,()),()),((1,0,()),(1,0,()),(1,0,()),(1,0,()),()),((0,0,()),(0,0,()),(0,0,()),(0,0,()),()),(0,0,0,0,()),255,0,1024,(-1),0, false, false, false, false,0,1,0,0,4,0, false,()))
def zkd : Con := ⟨[],[.d cStyT], fun _ => zke⟩
theorem zro : ConOk Tryz.prog 143 (zkd) :=
  za7 (ps := []) (rs := [.d cStyT]) (fn := Tryz.f143) (E := ⟨tOf tl, gOf []⟩) ⟨zaa zad, zab trivial, mixedOk⟩ (body := bodyOf Tryz.f143) (pl := []) (M := 400) (cuts := []) (entry := fun n _ => zke) rfl rfl (by decide) (by kernel_rfl) trivial (fun _ _ => by kernel_rfl) 0
def zn0 (y2 : Int) (y3 : Int) (y4 : Int) (y5 : Int) (y6 : Bool) (y7 : Bool) (r1 : StyT) : Option StyT :=
  some (r1.1, r1.2.1, r1.2.2.1, r1.2.2.2.1, r1.2.2.2.2.1, r1.2.2.2.2.2.1, r1.2.2.2.2.2.2.1, r1.2.2.2.2.2.2.2.1, r1.2.2.2.2.2.2.2.2.1, r1.2.2.2.2.2.2.2.2.2.1, y2, r1.2.2.2.2.2.2.2.2.2.2.2.1, y3, y4, y5, y6, y7, r1.2.2.2.2.2.2.2.2.2.2.2.2.2.2.2.2.2.1, r1.2.2.2.2.2.2.2.2.2.2.2.2.2.2.2.2.2.2.1, r1.2.2.2.2.2.2.2.2.2.2.2.2.2.2.2.2.2.2.2.1, r1.2.2.2.2.2.2.2.2.2.2.2.2.2.2.2.2.2.2.2.2.1, r1.2.2.2.2.2.2.2.2.2.2.2.2.2.2.2.2.2.2.2.2.2.1, r1.2.2.2.2.2.2.2.2.2.2.2.2.2.2.2.2.2.2.2.2.2.2.1, r1.2.2.2.2.2.2.2.2.2.2.2.2.2.2.2.2.2.2.2.2.2.2.2.1, r1.2.2.2.2.2.2.2.2.2.2.2.2.2.2.2.2.2.2.2.2.2.2.2.2.1, r1.2.2.2.2.2.2.2.2.2.2.2.2.2.2.2.2.2.2.2.2.2.2.2.2.2.1,())
def zja (a0 : StyT) (a1 : Bool) : Option StyT :=
  ((zke).bind fun r1 =>
  (bif (!a1) then
  (zn0 a0.2.2.2.2.2.2.2.2.2.2.1 a0.2.2.2.2.2.2.2.2.2.2.2.2.1 a0.2.2.2.2.2.2.2.2.2.2.2.2.2.1 a0.2.2.2.2.2.2.2.2.2.2.2.2.2.2.1 a0.2.2.2.2.2.2.2.2.2.2.2.2.2.2.2.1 a0.2.2.2.2.2.2.2.2.2.2.2.2.2.2.2.2.1 r1)
  else (zn0 r1.2.2.2.2.2.2.2.2.2.2.1 r1.2.2.2.2.2.2.2.2.2.2.2.2.1 r1.2.2.2.2.2.2.2.2.2.2.2.2.2.1 r1.2.2.2.2.2.2.2.2.2.2.2.2.2.2.1 r1.2.2.2.2.2.2.2.2.2.2.2.2.2.2.2.1 r1.2.2.2.2.2.2.2.2.2.2.2.2.2.2.2.2.1 r1)))
def zlq : Con := ⟨[.d cStyT, .d .bool],[.d cStyT], fun x => zja x.1 x.2⟩
theorem ztb : ConOk Tryz.prog 128 (zlq) :=
  za7 (ps := [.d cStyT, .d .bool]) (rs := [.d cStyT]) (fn := Tryz.f128) (E := ⟨tOf tl, gOf [(143, zkd)]⟩) ⟨zaa zad, zab ⟨zro, trivial⟩, mixedOk⟩ (body := bodyOf Tryz.f128) (pl := [(3,[(0,0),(1,0),(2,0),(3,0),(4,0),(5,0),(6,0),(7,0),(8,0),(9,0),(10,0),(11,0),(12,0),(13,1),(14,0),(15,1),(16,0),(17,1),(18,0),(19,1),(20,0),(21,1),(22,0),(23,1)],[2])]) (M := 400) (cuts := []) (entry := fun n x => zja x.1 x.2) rfl rfl (by decide) (by kernel_rfl) trivial (fun _ _ => by kernel_rfl) 0
def zjb (y2 : Bool) (a0 : StyT) (a1 : Int) : Option Int :=
  (bif decide (a0.1 = 1) then
  (some 1)
  else (bif decide (a0.1 = 3) then
  (some 2)
  else (bif decide (a0.1 = 4) then
  (some 3)
  else (bif decide (a0.1 = 5) then
  (bif decide (a1 = 3) then
  (bif (!y2) then
  (some 4)
  else (some 1))
  else (some 1))
  else (bif decide (a0.1 = 6) then
  (bif decide (a1 = 4) then
  (bif (!y2) then
  (some 5)
  else (some 1))
  else (some 1))
  else (bif y2 then
  (some 1)
  else (bif decide (a1 = 2) then
  (some 1)
  else (some 6))))))))
def zmj (y1 : Bool) (a1 : Int) (a0 : StyT) : Option Int :=
  bif decide (a1 = 0) then
  (zjb true a0 a1)
  else bif y1 then
  (zjb true a0 a1)
  else (zjb (decide (a0.2.2.1 ≠ 0)) a0 a1)
def zi1 (a0 : StyT) (a1 : Int) : Option Int :=
  (bif decide (a0.2.1 = 2) then
  (zmj true a1 a0)
  else (zmj (decide (a0.2.1 = 3)) a1 a0))
def zpq : Con := ⟨[.d cStyT, .d (.int .i64)],[.d (.int .i64)], fun x => zi1 x.1 x.2⟩
theorem zxv : ConOk Tryz.prog 33 (zpq) :=
  za7 (ps := [.d cStyT, .d (.int .i64)]) (rs := [.d (.int .i64)]) (fn := Tryz.f33) (E := ⟨tOf tl, gOf []⟩) ⟨zaa zad, zab trivial, mixedOk⟩ (body := bodyOf Tryz.f33) (pl := []) (M := 400) (cuts := []) (entry := fun n x => zi1 x.1 x.2) rfl rfl (by decide) (by kernel_rfl) trivial (fun _ _ => by kernel_rfl) 0
def zsi (a0 : TreT) (a1 : Int) : Option Bool :=
  (bif decide (0 ≤ a1) then
  some (decide (a1 < (a0.1.length : Int)))
  else some false)
def zun : Con := ⟨[.d cTreT, .d (.int .i64)],[.d .bool], fun x => zsi x.1 x.2⟩
theorem ycs : ConOk Tryz.prog 62 (zun) :=
  za7 (ps := [.d cTreT, .d (.int .i64)]) (rs := [.d .bool]) (fn := Tryz.f62) (E := ⟨tOf tl, gOf []⟩) ⟨zaa zad, zab trivial, mixedOk⟩ (body := bodyOf Tryz.f62) (pl := []) (M := 400) (cuts := []) (entry := fun n x => zsi x.1 x.2) rfl rfl (by decide) (by kernel_rfl) trivial (fun _ _ => by kernel_rfl) 0
def zi0 : Nat → TreT → (List Int) → Int → Option (List Int)
  | 0, _, _, _ => none
  | n + 1, v2, v5, v6 =>
  (zsi v2 v6).bind fun r3 =>
  bif r3 then
  (bif decide ((v5.length : Int) < (v2.1.length : Int)) then
  ((appM 8 v5 ([v6])).bind fun r4 =>
  ((geti v2.1 v6).bind fun r5 =>
  (zi0 n) v2 r4 r5.2.2.2.2.2.2.2.2.1))
  else (some v5))
  else (some v5)
def zoq (n : Nat) (a0 : TreT) (a1 : Int) : Option (List Int) :=
  ((zsi a0 a1).bind fun r1 =>
  (bif (!r1) then
  (some ([]))
  else ((geti a0.1 a1).bind fun r2 =>
  (zi0 n) a0 ([]) r2.2.2.2.2.2.1)))
def ztn (k : Nat) (a0 : TreT) (a1 : Int) : Option (List Int) := zoq k a0 a1
def zt7 (k : Nat) : Con := ⟨[.d cTreT, .d (.int .i64)],[.d (.sl (.int .i64))], fun x => ztn k x.1 x.2⟩
theorem yak (k : Nat) : ConOk Tryz.prog 34 (zt7 k) :=
  za7 (ps := [.d cTreT, .d (.int .i64)]) (rs := [.d (.sl (.int .i64))]) (fn := Tryz.f34) (E := ⟨tOf tl, gOf [(62, zun)]⟩) ⟨zaa zad, zab ⟨ycs, trivial⟩, mixedOk⟩ (body := bodyOf Tryz.f34) (pl := []) (M := 400) (cuts := [⟨5,[0,0,5,4,1,0,1,1,1],[2,5,6],[.p [.d cTreT], .o 3 (.int .i64), .d (.int .i64)], fun n x => zi0 n x.1 x.2.1 x.2.2,[]⟩]) (entry := fun n x => zoq n x.1 x.2) rfl rfl (by decide) (by kernel_rfl) ⟨⟨fun _ => by kernel_rfl, fun _ _ => by kernel_rfl⟩, trivial⟩ (fun _ _ => by kernel_rfl) k
def zfs (k : Nat) (S0 : BoxT → Option BoxT) (S1 : BoxT → Int → Bool → Unit → Option (List BoxT)) (S2 : BoxT → Int → Bool → Unit → Option (List BoxT)) (S3 : BoxT → Int → Bool → Unit → Option (List BoxT)) (S4 : BoxT → Int → Bool → Unit → Option (List BoxT)) (S5 : (List BoxT) → Bool → (List BoxT) → Int → BoxT → Option ((List BoxT) × (List BoxT))) (S6 : Int → StyT → (List BoxT) → Option BoxT) (y4 : Int) (v1 : BoxT) : Option BoxT :=
  (S3 (Tr.mk (y4, v1.x.2.1, v1.x.2.2.1, v1.x.2.2.2.1, v1.x.2.2.2.2.1,()) v1.kids) 1 true ()).bind fun r7 =>
  (some (Tr.mk (y4, v1.x.2.1, v1.x.2.2.1, v1.x.2.2.2.1, v1.x.2.2.2.2.1,()) r7))
def zdp (k : Nat) (S0 : BoxT → Option BoxT) (S1 : BoxT → Int → Bool → Unit → Option (List BoxT)) (S2 : BoxT → Int → Bool → Unit → Option (List BoxT)) (S3 : BoxT → Int → Bool → Unit → Option (List BoxT)) (S4 : BoxT → Int → Bool → Unit → Option (List BoxT)) (S5 : (List BoxT) → Bool → (List BoxT) → Int → BoxT → Option ((List BoxT) × (List BoxT))) (S6 : Int → StyT → (List BoxT) → Option BoxT) (y4 : Int) (v1 : BoxT) : Option BoxT :=
  (bif decide (y4 = 2) then
  ((S4 (Tr.mk (y4, v1.x.2.1, v1.x.2.2.1, v1.x.2.2.2.1, v1.x.2.2.2.2.1,()) v1.kids) 1 true ()).bind fun r8 =>
  (some (Tr.mk (y4, v1.x.2.1, v1.x.2.2.1, v1.x.2.2.2.1, v1.x.2.2.2.2.1,()) r8)))
  else (some (Tr.mk (y4, v1.x.2.1, v1.x.2.2.1, v1.x.2.2.2.1, v1.x.2.2.2.2.1,()) v1.kids)))
def zbl (k : Nat) (S0 : BoxT → Option BoxT) (S1 : BoxT → Int → Bool → Unit → Option (List BoxT)) (S2 : BoxT → Int → Bool → Unit → Option (List BoxT)) (S3 : BoxT → Int → Bool → Unit → Option (List BoxT)) (S4 : BoxT → Int → Bool → Unit → Option (List BoxT)) (S5 : (List BoxT) → Bool → (List BoxT) → Int → BoxT → Option ((List BoxT) × (List BoxT))) (S6 : Int → StyT → (List BoxT) → Option BoxT) (y4 : Int) (v1 : BoxT) (v3 : Bool) : Option BoxT :=
  (bif decide (y4 = 3) then
  ((S1 (Tr.mk (y4, v1.x.2.1, v1.x.2.2.1, v1.x.2.2.2.1, v1.x.2.2.2.2.1,()) v1.kids) 4 false ()).bind fun r5 =>
  (some (Tr.mk (y4, v1.x.2.1, v1.x.2.2.1, v1.x.2.2.2.1, v1.x.2.2.2.2.1,()) r5)))
  else (bif decide (y4 = 4) then
  ((S2 (Tr.mk (y4, v1.x.2.1, v1.x.2.2.1, v1.x.2.2.2.1, v1.x.2.2.2.2.1,()) v1.kids) 5 false ()).bind fun r6 =>
  (some (Tr.mk (y4, v1.x.2.1, v1.x.2.2.1, v1.x.2.2.2.1, v1.x.2.2.2.2.1,()) r6)))
  else (bif decide (y4 = 1) then
  (bif v3 then
  (zfs k S0 S1 S2 S3 S4 S5 S6 y4 v1)
  else (zdp k S0 S1 S2 S3 S4 S5 S6 y4 v1))
  else bif decide (y4 = 5) then
  (bif v3 then
  (zfs k S0 S1 S2 S3 S4 S5 S6 y4 v1)
  else (zdp k S0 S1 S2 S3 S4 S5 S6 y4 v1))
  else (zdp k S0 S1 S2 S3 S4 S5 S6 y4 v1))))
def zdf (k : Nat) (S0 : BoxT → Option BoxT) (S1 : BoxT → Int → Bool → Unit → Option (List BoxT)) (S2 : BoxT → Int → Bool → Unit → Option (List BoxT)) (S3 : BoxT → Int → Bool → Unit → Option (List BoxT)) (S4 : BoxT → Int → Bool → Unit → Option (List BoxT)) (S5 : (List BoxT) → Bool → (List BoxT) → Int → BoxT → Option ((List BoxT) × (List BoxT))) (S6 : Int → StyT → (List BoxT) → Option BoxT) : Nat → BoxT → BoxT → Bool → (List BoxT) → Int → Int → Option BoxT
  | 0, _, _, _, _, _, _ => none
  | n + 1, v1, v2, v3, v7, v8, v9 =>
  (bif decide (v9 < v8) then
  ((geti v7 v9).bind fun r1 =>
  (bif v3 then
  ((zdf k S0 S1 S2 S3 S4 S5 S6 n) (Tr.mk v1.x v1.kids) (Tr.mk v2.x v2.kids) true v7 v8 (w64 (v9 + 1)))
  else (zi3 (Tr.mk r1.x r1.kids)).bind fun r2 =>
  ((zdf k S0 S1 S2 S3 S4 S5 S6 n) (Tr.mk v1.x v1.kids) (Tr.mk v2.x v2.kids) r2 v7 v8 (w64 (v9 + 1)))))
  else (bif decide (v1.x.1 = 6) then
  (bif v3 then
  (zbl k S0 S1 S2 S3 S4 S5 S6 1 v1 v3)
  else (zbl k S0 S1 S2 S3 S4 S5 S6 v1.x.1 v1 v3))
  else (zbl k S0 S1 S2 S3 S4 S5 S6 v1.x.1 v1 v3)))
def zif (k : Nat) (S0 : BoxT → Option BoxT) (S1 : BoxT → Int → Bool → Unit → Option (List BoxT)) (S2 : BoxT → Int → Bool → Unit → Option (List BoxT)) (S3 : BoxT → Int → Bool → Unit → Option (List BoxT)) (S4 : BoxT → Int → Bool → Unit → Option (List BoxT)) (S5 : (List BoxT) → Bool → (List BoxT) → Int → BoxT → Option ((List BoxT) × (List BoxT))) (S6 : Int → StyT → (List BoxT) → Option BoxT) (n : Nat) (a0 : BoxT) : Option BoxT :=
  ((zdf k S0 S1 S2 S3 S4 S5 S6 n) (Tr.mk a0.x a0.kids) (Tr.mk (0,0,0,(0,0,0,0,(0,0,()),(0,0,()),((0,0,()),(0,0,()),(0,0,()),(0,0,()),()),((0,0,()),(0,0,()),(0,0,()),(0,0,()),()),((0,0,()),(0,0,()),(0,0,()),(0,0,()),()),(0,0,0,0,()),0,0,0,0,0, false, false, false, false,0,0,0,0,0,0, false,()),(bs []),()) ([])) false a0.kids (a0.kids.length : Int) 0)
def zav (k : Nat) (S0 : BoxT → Option BoxT) (S1 : BoxT → Int → Bool → Unit → Option (List BoxT)) (S2 : BoxT → Int → Bool → Unit → Option (List BoxT)) (S3 : BoxT → Int → Bool → Unit → Option (List BoxT)) (S4 : BoxT → Int → Bool → Unit → Option (List BoxT)) (S5 : (List BoxT) → Bool → (List BoxT) → Int → BoxT → Option ((List BoxT) × (List BoxT))) (S6 : Int → StyT → (List BoxT) → Option BoxT) : Nat → Unit → BoxT → Int → Bool → (List BoxT) → (List BoxT) → (List BoxT) → Int → Int → Option (List BoxT)
  | 0, _, _, _, _, _, _, _, _, _ => none
  | n + 1, a3, v4, v5, v6, v9, v10, v16, v17, v18 =>
  (bif decide (v18 < v17) then
  ((geti v16 v18).bind fun r1 =>
  ((zqi (Tr.mk r1.x r1.kids)).bind fun r2 =>
  (bif r2 then
  ((appM 448 v10 ([(Tr.mk (0,0,0,(0,0,0,0,(0,0,()),(0,0,()),((0,0,()),(0,0,()),(0,0,()),(0,0,()),()),((0,0,()),(0,0,()),(0,0,()),(0,0,()),()),((0,0,()),(0,0,()),(0,0,()),(0,0,()),()),(0,0,0,0,()),0,0,0,0,0, false, false, false, false,0,0,0,0,0,0, false,()),(bs []),()) ([]))])).bind fun r3 =>
  (geti r3 (v10.length : Int)).bind fun r4 =>
  (geti r3 (v10.length : Int)).bind fun r5 =>
  ((zav k S0 S1 S2 S3 S4 S5 S6 n) () (Tr.mk v4.x v4.kids) v5 v6 v9 (r3.set (v10.length : Int).toNat (Tr.mk r1.x r1.kids)) v16 v17 (w64 (v18 + 1))))
  else ((S5 v10 v6 v9 v5 (Tr.mk v4.x v4.kids)).bind fun r6 =>
  ((appM 448 r6.2 ([(Tr.mk (0,0,0,(0,0,0,0,(0,0,()),(0,0,()),((0,0,()),(0,0,()),(0,0,()),(0,0,()),()),((0,0,()),(0,0,()),(0,0,()),(0,0,()),()),((0,0,()),(0,0,()),(0,0,()),(0,0,()),()),(0,0,0,0,()),0,0,0,0,0, false, false, false, false,0,0,0,0,0,0, false,()),(bs []),()) ([]))])).bind fun r7 =>
  (geti r7 (r6.2.length : Int)).bind fun r8 =>
  (geti r7 (r6.2.length : Int)).bind fun r9 =>
  ((zav k S0 S1 S2 S3 S4 S5 S6 n) () (Tr.mk v4.x v4.kids) v5 v6 (r7.set (r6.2.length : Int).toNat (Tr.mk r1.x r1.kids)) r6.1 v16 v17 (w64 (v18 + 1))))))))
  else ((S5 v10 v6 v9 v5 (Tr.mk v4.x v4.kids)).bind fun r12 =>
  (some r12.2)))
def zc6 (k : Nat) (S0 : BoxT → Option BoxT) (S1 : BoxT → Int → Bool → Unit → Option (List BoxT)) (S2 : BoxT → Int → Bool → Unit → Option (List BoxT)) (S3 : BoxT → Int → Bool → Unit → Option (List BoxT)) (S4 : BoxT → Int → Bool → Unit → Option (List BoxT)) (S5 : (List BoxT) → Bool → (List BoxT) → Int → BoxT → Option ((List BoxT) × (List BoxT))) (S6 : Int → StyT → (List BoxT) → Option BoxT) (n : Nat) (a0 : BoxT) (a1 : Int) (a2 : Bool) (a3 : Unit) : Option (List BoxT) :=
  ((zav k S0 S1 S2 S3 S4 S5 S6 n) () (Tr.mk a0.x a0.kids) a1 a2 ([]) ([]) a0.kids (a0.kids.length : Int) 0)
def zau (k : Nat) (S0 : BoxT → Option BoxT) (S1 : BoxT → Int → Bool → Unit → Option (List BoxT)) (S2 : BoxT → Int → Bool → Unit → Option (List BoxT)) (S3 : BoxT → Int → Bool → Unit → Option (List BoxT)) (S4 : BoxT → Int → Bool → Unit → Option (List BoxT)) (S5 : (List BoxT) → Bool → (List BoxT) → Int → BoxT → Option ((List BoxT) × (List BoxT))) (S6 : Int → StyT → (List BoxT) → Option BoxT) : Nat → Unit → BoxT → Int → Bool → (List BoxT) → (List BoxT) → (List BoxT) → Int → Int → Option (List BoxT)
  | 0, _, _, _, _, _, _, _, _, _ => none
  | n + 1, a3, v4, v5, v6, v9, v10, v16, v17, v18 =>
  (bif decide (v18 < v17) then
  ((geti v16 v18).bind fun r1 =>
  ((zqh (Tr.mk r1.x r1.kids)).bind fun r2 =>
  (bif r2 then
  ((appM 448 v10 ([(Tr.mk (0,0,0,(0,0,0,0,(0,0,()),(0,0,()),((0,0,()),(0,0,()),(0,0,()),(0,0,()),()),((0,0,()),(0,0,()),(0,0,()),(0,0,()),()),((0,0,()),(0,0,()),(0,0,()),(0,0,()),()),(0,0,0,0,()),0,0,0,0,0, false, false, false, false,0,0,0,0,0,0, false,()),(bs []),()) ([]))])).bind fun r3 =>
  (geti r3 (v10.length : Int)).bind fun r4 =>
  (geti r3 (v10.length : Int)).bind fun r5 =>
  ((zau k S0 S1 S2 S3 S4 S5 S6 n) () (Tr.mk v4.x v4.kids) v5 v6 v9 (r3.set (v10.length : Int).toNat (Tr.mk r1.x r1.kids)) v16 v17 (w64 (v18 + 1))))
  else ((S5 v10 v6 v9 v5 (Tr.mk v4.x v4.kids)).bind fun r6 =>
  ((appM 448 r6.2 ([(Tr.mk (0,0,0,(0,0,0,0,(0,0,()),(0,0,()),((0,0,()),(0,0,()),(0,0,()),(0,0,()),()),((0,0,()),(0,0,()),(0,0,()),(0,0,()),()),((0,0,()),(0,0,()),(0,0,()),(0,0,()),()),(0,0,0,0,()),0,0,0,0,0, false, false, false, false,0,0,0,0,0,0, false,()),(bs []),()) ([]))])).bind fun r7 =>
  (geti r7 (r6.2.length : Int)).bind fun r8 =>
  (geti r7 (r6.2.length : Int)).bind fun r9 =>
  ((zau k S0 S1 S2 S3 S4 S5 S6 n) () (Tr.mk v4.x v4.kids) v5 v6 (r7.set (r6.2.length : Int).toNat (Tr.mk r1.x r1.kids)) r6.1 v16 v17 (w64 (v18 + 1))))))))
  else ((S5 v10 v6 v9 v5 (Tr.mk v4.x v4.kids)).bind fun r12 =>
  (some r12.2)))
def zc5 (k : Nat) (S0 : BoxT → Option BoxT) (S1 : BoxT → Int → Bool → Unit → Option (List BoxT)) (S2 : BoxT → Int → Bool → Unit → Option (List BoxT)) (S3 : BoxT → Int → Bool → Unit → Option (List BoxT)) (S4 : BoxT → Int → Bool → Unit → Option (List BoxT)) (S5 : (List BoxT) → Bool → (List BoxT) → Int → BoxT → Option ((List BoxT) × (List BoxT))) (S6 : Int → StyT → (List BoxT) → Option BoxT) (n : Nat) (a0 : BoxT) (a1 : Int) (a2 : Bool) (a3 : Unit) : Option (List BoxT) :=
  ((zau k S0 S1 S2 S3 S4 S5 S6 n) () (Tr.mk a0.x a0.kids) a1 a2 ([]) ([]) a0.kids (a0.kids.length : Int) 0)
def zb7 (k : Nat) (S0 : BoxT → Option BoxT) (S1 : BoxT → Int → Bool → Unit → Option (List BoxT)) (S2 : BoxT → Int → Bool → Unit → Option (List BoxT)) (S3 : BoxT → Int → Bool → Unit → Option (List BoxT)) (S4 : BoxT → Int → Bool → Unit → Option (List BoxT)) (S5 : (List BoxT) → Bool → (List BoxT) → Int → BoxT → Option ((List BoxT) × (List BoxT))) (S6 : Int → StyT → (List BoxT) → Option BoxT) : Nat → Unit → BoxT → Int → Bool → (List BoxT) → (List BoxT) → (List BoxT) → Int → Int → Option (List BoxT)
  | 0, _, _, _, _, _, _, _, _, _ => none
  | n + 1, a3, v4, v5, v6, v9, v10, v16, v17, v18 =>
  (bif decide (v18 < v17) then
  ((geti v16 v18).bind fun r1 =>
  ((zkg (Tr.mk r1.x r1.kids)).bind fun r2 =>
  (bif r2 then
  ((appM 448 v10 ([(Tr.mk (0,0,0,(0,0,0,0,(0,0,()),(0,0,()),((0,0,()),(0,0,()),(0,0,()),(0,0,()),()),((0,0,()),(0,0,()),(0,0,()),(0,0,()),()),((0,0,()),(0,0,()),(0,0,()),(0,0,()),()),(0,0,0,0,()),0,0,0,0,0, false, false, false, false,0,0,0,0,0,0, false,()),(bs []),()) ([]))])).bind fun r3 =>
  (geti r3 (v10.length : Int)).bind fun r4 =>
  (geti r3 (v10.length : Int)).bind fun r5 =>
  ((zb7 k S0 S1 S2 S3 S4 S5 S6 n) () (Tr.mk v4.x v4.kids) v5 v6 v9 (r3.set (v10.length : Int).toNat (Tr.mk r1.x r1.kids)) v16 v17 (w64 (v18 + 1))))
  else ((S5 v10 v6 v9 v5 (Tr.mk v4.x v4.kids)).bind fun r6 =>
  ((appM 448 r6.2 ([(Tr.mk (0,0,0,(0,0,0,0,(0,0,()),(0,0,()),((0,0,()),(0,0,()),(0,0,()),(0,0,()),()),((0,0,()),(0,0,()),(0,0,()),(0,0,()),()),((0,0,()),(0,0,()),(0,0,()),(0,0,()),()),(0,0,0,0,()),0,0,0,0,0, false, false, false, false,0,0,0,0,0,0, false,()),(bs []),()) ([]))])).bind fun r7 =>
  (geti r7 (r6.2.length : Int)).bind fun r8 =>
  (geti r7 (r6.2.length : Int)).bind fun r9 =>
  ((zb7 k S0 S1 S2 S3 S4 S5 S6 n) () (Tr.mk v4.x v4.kids) v5 v6 (r7.set (r6.2.length : Int).toNat (Tr.mk r1.x r1.kids)) r6.1 v16 v17 (w64 (v18 + 1))))))))
  else ((S5 v10 v6 v9 v5 (Tr.mk v4.x v4.kids)).bind fun r12 =>
  (some r12.2)))
def zdb (k : Nat) (S0 : BoxT → Option BoxT) (S1 : BoxT → Int → Bool → Unit → Option (List BoxT)) (S2 : BoxT → Int → Bool → Unit → Option (List BoxT)) (S3 : BoxT → Int → Bool → Unit → Option (List BoxT)) (S4 : BoxT → Int → Bool → Unit → Option (List BoxT)) (S5 : (List BoxT) → Bool → (List BoxT) → Int → BoxT → Option ((List BoxT) × (List BoxT))) (S6 : Int → StyT → (List BoxT) → Option BoxT) (n : Nat) (a0 : BoxT) (a1 : Int) (a2 : Bool) (a3 : Unit) : Option (List BoxT) :=
  ((zb7 k S0 S1 S2 S3 S4 S5 S6 n) () (Tr.mk a0.x a0.kids) a1 a2 ([]) ([]) a0.kids (a0.kids.length : Int) 0)
def zat (k : Nat) (S0 : BoxT → Option BoxT) (S1 : BoxT → Int → Bool → Unit → Option (List BoxT)) (S2 : BoxT → Int → Bool → Unit → Option (List BoxT)) (S3 : BoxT → Int → Bool → Unit → Option (List BoxT)) (S4 : BoxT → Int → Bool → Unit → Option (List BoxT)) (S5 : (List BoxT) → Bool → (List BoxT) → Int → BoxT → Option ((List BoxT) × (List BoxT))) (S6 : Int → StyT → (List BoxT) → Option BoxT) : Nat → Unit → BoxT → Int → Bool → (List BoxT) → (List BoxT) → (List BoxT) → Int → Int → Option (List BoxT)
  | 0, _, _, _, _, _, _, _, _, _ => none
  | n + 1, a3, v4, v5, v6, v9, v10, v16, v17, v18 =>
  (bif decide (v18 < v17) then
  ((geti v16 v18).bind fun r1 =>
  ((zkf (Tr.mk r1.x r1.kids)).bind fun r2 =>
  (bif r2 then
  ((appM 448 v10 ([(Tr.mk (0,0,0,(0,0,0,0,(0,0,()),(0,0,()),((0,0,()),(0,0,()),(0,0,()),(0,0,()),()),((0,0,()),(0,0,()),(0,0,()),(0,0,()),()),((0,0,()),(0,0,()),(0,0,()),(0,0,()),()),(0,0,0,0,()),0,0,0,0,0, false, false, false, false,0,0,0,0,0,0, false,()),(bs []),()) ([]))])).bind fun r3 =>
  (geti r3 (v10.length : Int)).bind fun r4 =>
  (geti r3 (v10.length : Int)).bind fun r5 =>
  ((zat k S0 S1 S2 S3 S4 S5 S6 n) () (Tr.mk v4.x v4.kids) v5 v6 v9 (r3.set (v10.length : Int).toNat (Tr.mk r1.x r1.kids)) v16 v17 (w64 (v18 + 1))))
  else ((S5 v10 v6 v9 v5 (Tr.mk v4.x v4.kids)).bind fun r6 =>
  ((appM 448 r6.2 ([(Tr.mk (0,0,0,(0,0,0,0,(0,0,()),(0,0,()),((0,0,()),(0,0,()),(0,0,()),(0,0,()),()),((0,0,()),(0,0,()),(0,0,()),(0,0,()),()),((0,0,()),(0,0,()),(0,0,()),(0,0,()),()),(0,0,0,0,()),0,0,0,0,0, false, false, false, false,0,0,0,0,0,0, false,()),(bs []),()) ([]))])).bind fun r7 =>
  (geti r7 (r6.2.length : Int)).bind fun r8 =>
  (geti r7 (r6.2.length : Int)).bind fun r9 =>
  ((zat k S0 S1 S2 S3 S4 S5 S6 n) () (Tr.mk v4.x v4.kids) v5 v6 (r7.set (r6.2.length : Int).toNat (Tr.mk r1.x r1.kids)) r6.1 v16 v17 (w64 (v18 + 1))))))))
  else ((S5 v10 v6 v9 v5 (Tr.mk v4.x v4.kids)).bind fun r12 =>
  (some r12.2)))
def zc4 (k : Nat) (S0 : BoxT → Option BoxT) (S1 : BoxT → Int → Bool → Unit → Option (List BoxT)) (S2 : BoxT → Int → Bool → Unit → Option (List BoxT)) (S3 : BoxT → Int → Bool → Unit → Option (List BoxT)) (S4 : BoxT → Int → Bool → Unit → Option (List BoxT)) (S5 : (List BoxT) → Bool → (List BoxT) → Int → BoxT → Option ((List BoxT) × (List BoxT))) (S6 : Int → StyT → (List BoxT) → Option BoxT) (n : Nat) (a0 : BoxT) (a1 : Int) (a2 : Bool) (a3 : Unit) : Option (List BoxT) :=
  ((zat k S0 S1 S2 S3 S4 S5 S6 n) () (Tr.mk a0.x a0.kids) a1 a2 ([]) ([]) a0.kids (a0.kids.length : Int) 0)
def zbv (k : Nat) (S0 : BoxT → Option BoxT) (S1 : BoxT → Int → Bool → Unit → Option (List BoxT)) (S2 : BoxT → Int → Bool → Unit → Option (List BoxT)) (S3 : BoxT → Int → Bool → Unit → Option (List BoxT)) (S4 : BoxT → Int → Bool → Unit → Option (List BoxT)) (S5 : (List BoxT) → Bool → (List BoxT) → Int → BoxT → Option ((List BoxT) × (List BoxT))) (S6 : Int → StyT → (List BoxT) → Option BoxT) : Nat → (List BoxT) → Bool → (List BoxT) → Int → BoxT → Bool → (List BoxT) → Int → Int → Option ((List BoxT) × (List BoxT))
  | 0, _, _, _, _, _, _, _, _, _ => none
  | n + 1, a0, a1, a2, a3, a4, v5, v8, v9, v10 =>
  (bif decide (v10 < v9) then
  ((geti v8 v10).bind fun r1 =>
  (bif v5 then
  (zqj k (Tr.mk r1.x r1.kids) a1).bind fun r2 =>
  ((zbv k S0 S1 S2 S3 S4 S5 S6 n) a0 a1 a2 a3 (Tr.mk a4.x a4.kids) r2 v8 v9 (w64 (v10 + 1)))
  else ((zbv k S0 S1 S2 S3 S4 S5 S6 n) a0 a1 a2 a3 (Tr.mk a4.x a4.kids) false v8 v9 (w64 (v10 + 1)))))
  else (bif (!v5) then
  ((S6 a3 a4.x.2.2.2.1 a0).bind fun r4 =>
  (appM 448 a2 ([(Tr.mk (0,0,0,(0,0,0,0,(0,0,()),(0,0,()),((0,0,()),(0,0,()),(0,0,()),(0,0,()),()),((0,0,()),(0,0,()),(0,0,()),(0,0,()),()),((0,0,()),(0,0,()),(0,0,()),(0,0,()),()),(0,0,0,0,()),0,0,0,0,0, false, false, false, false,0,0,0,0,0,0, false,()),(bs []),()) ([]))])).bind fun r5 =>
  (geti r5 (a2.length : Int)).bind fun r6 =>
  (geti r5 (a2.length : Int)).bind fun r7 =>
  (some ([],(r5.set (a2.length : Int).toNat (Tr.mk r4.x r4.kids)))))
  else (some ([], a2))))
def zfr (k : Nat) (S0 : BoxT → Option BoxT) (S1 : BoxT → Int → Bool → Unit → Option (List BoxT)) (S2 : BoxT → Int → Bool → Unit → Option (List BoxT)) (S3 : BoxT → Int → Bool → Unit → Option (List BoxT)) (S4 : BoxT → Int → Bool → Unit → Option (List BoxT)) (S5 : (List BoxT) → Bool → (List BoxT) → Int → BoxT → Option ((List BoxT) × (List BoxT))) (S6 : Int → StyT → (List BoxT) → Option BoxT) (n : Nat) (a0 : (List BoxT)) (a1 : Bool) (a2 : (List BoxT)) (a3 : Int) (a4 : BoxT) : Option ((List BoxT) × (List BoxT)) :=
  ((zbv k S0 S1 S2 S3 S4 S5 S6 n) a0 a1 a2 a3 (Tr.mk a4.x a4.kids) true a0 (a0.length : Int) 0)
def zc7 (k : Nat) (S0 : BoxT → Option BoxT) (S1 : BoxT → Int → Bool → Unit → Option (List BoxT)) (S2 : BoxT → Int → Bool → Unit → Option (List BoxT)) (S3 : BoxT → Int → Bool → Unit → Option (List BoxT)) (S4 : BoxT → Int → Bool → Unit → Option (List BoxT)) (S5 : (List BoxT) → Bool → (List BoxT) → Int → BoxT → Option ((List BoxT) × (List BoxT))) (S6 : Int → StyT → (List BoxT) → Option BoxT) (y2 : Int) (a0 : Int) (r1 : StyT) (a2 : (List BoxT)) : Option BoxT :=
  (S0 (Tr.mk (a0,(-1),0,(zel r1 y2),(bs []),()) a2)).bind fun r3 =>
  some (Tr.mk r3.x r3.kids)
def zi2 (k : Nat) (S0 : BoxT → Option BoxT) (S1 : BoxT → Int → Bool → Unit → Option (List BoxT)) (S2 : BoxT → Int → Bool → Unit → Option (List BoxT)) (S3 : BoxT → Int → Bool → Unit → Option (List BoxT)) (S4 : BoxT → Int → Bool → Unit → Option (List BoxT)) (S5 : (List BoxT) → Bool → (List BoxT) → Int → BoxT → Option ((List BoxT) × (List BoxT))) (S6 : Int → StyT → (List BoxT) → Option BoxT) (a0 : Int) (a1 : StyT) (a2 : (List BoxT)) : Option BoxT :=
  ((zja a1 false).bind fun r1 =>
  (bif decide (a0 = 1) then
  (zc7 k S0 S1 S2 S3 S4 S5 S6 1 a0 r1 a2)
  else (bif decide (a0 = 4) then
  (zc7 k S0 S1 S2 S3 S4 S5 S6 5 a0 r1 a2)
  else (bif decide (a0 = 5) then
  (zc7 k S0 S1 S2 S3 S4 S5 S6 6 a0 r1 a2)
  else (zc7 k S0 S1 S2 S3 S4 S5 S6 r1.1 a0 r1 a2)))))
mutual
def za8 : Nat → BoxT → Option BoxT
  | 0, _ => none
  | k + 1, a0 => zif k (za8 k) (za2 k) (za1 k) (za3 k) (za0 k) (za6 k) (za5 k) k a0
def za2 : Nat → BoxT → Int → Bool → Unit → Option (List BoxT)
  | 0, _, _, _, _ => none
  | k + 1, a0, a1, a2, a3 => zc6 k (za8 k) (za2 k) (za1 k) (za3 k) (za0 k) (za6 k) (za5 k) k a0 a1 a2 a3
def za1 : Nat → BoxT → Int → Bool → Unit → Option (List BoxT)
  | 0, _, _, _, _ => none
  | k + 1, a0, a1, a2, a3 => zc5 k (za8 k) (za2 k) (za1 k) (za3 k) (za0 k) (za6 k) (za5 k) k a0 a1 a2 a3
def za3 : Nat → BoxT → Int → Bool → Unit → Option (List BoxT)
  | 0, _, _, _, _ => none
  | k + 1, a0, a1, a2, a3 => zdb k (za8 k) (za2 k) (za1 k) (za3 k) (za0 k) (za6 k) (za5 k) k a0 a1 a2 a3
def za0 : Nat → BoxT → Int → Bool → Unit → Option (List BoxT)
  | 0, _, _, _, _ => none
  | k + 1, a0, a1, a2, a3 => zc4 k (za8 k) (za2 k) (za1 k) (za3 k) (za0 k) (za6 k) (za5 k) k a0 a1 a2 a3
def za6 : Nat → (List BoxT) → Bool → (List BoxT) → Int → BoxT → Option ((List BoxT) × (List BoxT))
  | 0, _, _, _, _, _ => none
  | k + 1, a0, a1, a2, a3, a4 => zfr k (za8 k) (za2 k) (za1 k) (za3 k) (za0 k) (za6 k) (za5 k) k a0 a1 a2 a3 a4
def za5 : Nat → Int → StyT → (List BoxT) → Option BoxT
  | 0, _, _, _ => none
  | k + 1, a0, a1, a2 => zi2 k (za8 k) (za2 k) (za1 k) (za3 k) (za0 k) (za6 k) (za5 k) a0 a1 a2
end
def zbb (k : Nat) : Con := ⟨[.d cBoxT],[.d cBoxT], fun x => za8 k x⟩
def zam (k : Nat) : Con := ⟨[.d cBoxT, .d (.int .i64), .d .bool, .f 64],[.d (.sl cBoxT)], fun x => za2 k x.1 x.2.1 x.2.2.1 x.2.2.2⟩
def zal (k : Nat) : Con := ⟨[.d cBoxT, .d (.int .i64), .d .bool, .f 65],[.d (.sl cBoxT)], fun x => za1 k x.1 x.2.1 x.2.2.1 x.2.2.2⟩
def zap (k : Nat) : Con := ⟨[.d cBoxT, .d (.int .i64), .d .bool, .f 66],[.d (.sl cBoxT)], fun x => za3 k x.1 x.2.1 x.2.2.1 x.2.2.2⟩
def zak (k : Nat) : Con := ⟨[.d cBoxT, .d (.int .i64), .d .bool, .f 67],[.d (.sl cBoxT)], fun x => za0 k x.1 x.2.1 x.2.2.1 x.2.2.2⟩
def zb8 (k : Nat) : Con := ⟨[.p [.o 31 cBoxT], .b .bool, .p [.o 31 cBoxT], .b (.int .i64), .b cBoxT],[], fun x => za6 k x.1 x.2.1 x.2.2.1 x.2.2.2.1 x.2.2.2.2⟩
def zb9 (k : Nat) : Con := ⟨[.d (.int .i64), .d cStyT, .d (.sl cBoxT)],[.d cBoxT], fun x => za5 k x.1 x.2.1 x.2.2⟩
theorem za4 : (k : Nat) → ConOk Tryz.prog 35 (zbb k) ∧ ConOk Tryz.prog 63 (zam k) ∧ ConOk Tryz.prog 63 (zal k) ∧ ConOk Tryz.prog 63 (zap k) ∧ ConOk Tryz.prog 63 (zak k) ∧ ConOk Tryz.prog 101 (zb8 k) ∧ ConOk Tryz.prog 103 (zb9 k)
  | 0 => ⟨con0 ⟨Tryz.f35, rfl, rfl, by decide⟩, con0 ⟨Tryz.f63, rfl, rfl, by decide⟩, con0 ⟨Tryz.f63, rfl, rfl, by decide⟩, con0 ⟨Tryz.f63, rfl, rfl, by decide⟩, con0 ⟨Tryz.f63, rfl, rfl, by decide⟩, con0 ⟨Tryz.f101, rfl, rfl, by decide⟩, con0 ⟨Tryz.f103, rfl, rfl, by decide⟩⟩
  | k + 1 => ⟨za7 (ps := [.d cBoxT]) (rs := [.d cBoxT]) (fn := Tryz.f35) (E := ⟨tOf tl, gOf [(35, zbb k),(650063, zam k),(660063, zal k),(670063, zap k),(680063, zak k),(101, zb8 k),(103, zb9 k),(25, zkh)]⟩) ⟨zaa zad, zab ⟨(za4 k).1,(za4 k).2.1,(za4 k).2.2.1,(za4 k).2.2.2.1,(za4 k).2.2.2.2.1,(za4 k).2.2.2.2.2.1,(za4 k).2.2.2.2.2.2, zpr, trivial⟩, mixedOk⟩ (body := bodyOf Tryz.f35) (pl := []) (M := 400) (cuts := [⟨3,[0,5,4,1,0,1,1],[1,2,3,7,8,9],[.p [.d cBoxT], .p [.d cBoxT], .d .bool, .d (.sl cBoxT), .d (.int .i64), .d (.int .i64)], fun n x => zdf k (za8 k) (za2 k) (za1 k) (za3 k) (za0 k) (za6 k) (za5 k) n x.1 x.2.1 x.2.2.1 x.2.2.2.1 x.2.2.2.2.1 x.2.2.2.2.2,[]⟩]) (entry := fun n x => zif k (za8 k) (za2 k) (za1 k) (za3 k) (za0 k) (za6 k) (za5 k) n x) rfl rfl (by decide) (by kernel_rfl) ⟨⟨fun _ => by kernel_rfl, fun _ _ => by kernel_rfl⟩, trivial⟩ (fun _ _ => by kernel_rfl) k,
    za7 (ps := [.d cBoxT, .d (.int .i64), .d .bool, .f 64]) (rs := [.d (.sl cBoxT)]) (fn := Tryz.f63) (E := ⟨tOf tl, gOf [(35, zbb k),(650063, zam k),(660063, zal k),(670063, zap k),(680063, zak k),(101, zb8 k),(103, zb9 k),(64, zoa)]⟩) ⟨zaa zad, zab ⟨(za4 k).1,(za4 k).2.1,(za4 k).2.2.1,(za4 k).2.2.2.1,(za4 k).2.2.2.2.1,(za4 k).2.2.2.2.2.1,(za4 k).2.2.2.2.2.2, zvn, trivial⟩, mixedOk⟩ (body := bodyOf Tryz.f63) (pl := [(7,[(0,0),(1,0),(2,0),(3,1),(4,2),(1007,0),(5,2),(6,2),(1007,1)],[13,1000010]),(9,[(0,0),(1,0),(2,0),(3,1),(4,2),(1007,0),(5,2),(6,2),(1007,1)],[13,1000009])]) (M := 400) (cuts := [⟨4,[0,5,4,1,0,1,1,1],[3,4,5,6,9,10,16,17,18],[.f 64, .b cBoxT, .b (.int .i64), .b .bool, .p [.o 31 cBoxT], .p [.o 31 cBoxT], .d (.sl cBoxT), .d (.int .i64), .d (.int .i64)], fun n x => zav k (za8 k) (za2 k) (za1 k) (za3 k) (za0 k) (za6 k) (za5 k) n x.1 x.2.1 x.2.2.1 x.2.2.2.1 x.2.2.2.2.1 x.2.2.2.2.2.1 x.2.2.2.2.2.2.1 x.2.2.2.2.2.2.2.1 x.2.2.2.2.2.2.2.2,[(11,101,[10,6,9,5,4])]⟩]) (entry := fun n x => zc6 k (za8 k) (za2 k) (za1 k) (za3 k) (za0 k) (za6 k) (za5 k) n x.1 x.2.1 x.2.2.1 x.2.2.2) rfl rfl (by decide) (by kernel_rfl) ⟨⟨fun _ => by kernel_rfl, fun _ _ => by kernel_rfl⟩, trivial⟩ (fun _ _ => by kernel_rfl) k,
    za7 (ps := [.d cBoxT, .d (.int .i64), .d .bool, .f 65]) (rs := [.d (.sl cBoxT)]) (fn := Tryz.f63) (E := ⟨tOf tl, gOf [(35, zbb k),(650063, zam k),(660063, zal k),(670063, zap k),(680063, zak k),(101, zb8 k),(103, zb9 k),(65, zo9)]⟩) ⟨zaa zad, zab ⟨(za4 k).1,(za4 k).2.1,(za4 k).2.2.1,(za4 k).2.2.2.1,(za4 k).2.2.2.2.1,(za4 k).2.2.2.2.2.1,(za4 k).2.2.2.2.2.2, zvm, trivial⟩, mixedOk⟩ (body := bodyOf Tryz.f63) (pl := [(7,[(0,0),(1,0),(2,0),(3,1),(4,2),(1007,0),(5,2),(6,2),(1007,1)],[13,1000010]),(9,[(0,0),(1,0),(2,0),(3,1),(4,2),(1007,0),(5,2),(6,2),(1007,1)],[13,1000009])]) (M := 400) (cuts := [⟨4,[0,5,4,1,0,1,1,1],[3,4,5,6,9,10,16,17,18],[.f 65, .b cBoxT, .b (.int .i64), .b .bool, .p [.o 31 cBoxT], .p [.o 31 cBoxT], .d (.sl cBoxT), .d (.int .i64), .d (.int .i64)], fun n x => zau k (za8 k) (za2 k) (za1 k) (za3 k) (za0 k) (za6 k) (za5 k) n x.1 x.2.1 x.2.2.1 x.2.2.2.1 x.2.2.2.2.1 x.2.2.2.2.2.1 x.2.2.2.2.2.2.1 x.2.2.2.2.2.2.2.1 x.2.2.2.2.2.2.2.2,[(11,101,[10,6,9,5,4])]⟩]) (entry := fun n x => zc5 k (za8 k) (za2 k) (za1 k) (za3 k) (za0 k) (za6 k) (za5 k) n x.1 x.2.1 x.2.2.1 x.2.2.2) rfl rfl (by decide) (by kernel_rfl) ⟨⟨fun _ => by kernel_rfl, fun _ _ => by kernel_rfl⟩, trivial⟩ (fun _ _ => by kernel_rfl) k,
    za7 (ps := [.d cBoxT, .d (.int .i64), .d .bool, .f 66]) (rs := [.d (.sl cBoxT)]) (fn := Tryz.f63) (E := ⟨tOf tl, gOf [(35, zbb k),(650063, zam k),(660063, zal k),(670063, zap k),(680063, zak k),(101, zb8 k),(103, zb9 k),(66, zob)]⟩) ⟨zaa zad, zab ⟨(za4 k).1,(za4 k).2.1,(za4 k).2.2.1,(za4 k).2.2.2.1,(za4 k).2.2.2.2.1,(za4 k).2.2.2.2.2.1,(za4 k).2.2.2.2.2.2, zvo, trivial⟩, mixedOk⟩ (body := bodyOf Tryz.f63) (pl := [(7,[(0,0),(1,0),(2,0),(3,1),(4,2),(1007,0),(5,2),(6,2),(1007,1)],[13,1000010]),(9,[(0,0),(1,0),(2,0),(3,1),(4,2),(1007,0),(5,2),(6,2),(1007,1)],[13,1000009])]) (M := 400) (cuts := [⟨4,[0,5,4,1,0,1,1,1],[3,4,5,6,9,10,16,17,18],[.f 66, .b cBoxT, .b (.int .i64), .b .bool, .p [.o 31 cBoxT], .p [.o 31 cBoxT], .d (.sl cBoxT), .d (.int .i64), .d (.int .i64)], fun n x => zb7 k (za8 k) (za2 k) (za1 k) (za3 k) (za0 k) (za6 k) (za5 k) n x.1 x.2.1 x.2.2.1 x.2.2.2.1 x.2.2.2.2.1 x.2.2.2.2.2.1 x.2.2.2.2.2.2.1 x.2.2.2.2.2.2.2.1 x.2.2.2.2.2.2.2.2,[(11,101,[10,6,9,5,4])]⟩]) (entry := fun n x => zdb k (za8 k) (za2 k) (za1 k) (za3 k) (za0 k) (za6 k) (za5 k) n x.1 x.2.1 x.2.2.1 x.2.2.2) rfl rfl (by decide) (by kernel_rfl) ⟨⟨fun _ => by kernel_rfl, fun _ _ => by kernel_rfl⟩, trivial⟩ (fun _ _ => by kernel_rfl) k,
    za7 (ps := [.d cBoxT, .d (.int .i64), .d .bool, .f 67]) (rs := [.d (.sl cBoxT)]) (fn := Tryz.f63) (E := ⟨tOf tl, gOf [(35, zbb k),(650063, zam k),(660063, zal k),(670063, zap k),(680063, zak k),(101, zb8 k),(103, zb9 k),(67, zo8)]⟩) ⟨zaa zad, zab ⟨(za4 k).1,(za4 k).2.1,(za4 k).2.2.1,(za4 k).2.2.2.1,(za4 k).2.2.2.2.1,(za4 k).2.2.2.2.2.1,(za4 k).2.2.2.2.2.2, zvl, trivial⟩, mixedOk⟩ (body := bodyOf Tryz.f63) (pl := [(7,[(0,0),(1,0),(2,0),(3,1),(4,2),(1007,0),(5,2),(6,2),(1007,1)],[13,1000010]),(9,[(0,0),(1,0),(2,0),(3,1),(4,2),(1007,0),(5,2),(6,2),(1007,1)],[13,1000009])]) (M := 400) (cuts := [⟨4,[0,5,4,1,0,1,1,1],[3,4,5,6,9,10,16,17,18],[.f 67, .b cBoxT, .b (.int .i64), .b .bool, .p [.o 31 cBoxT], .p [.o 31 cBoxT], .d (.sl cBoxT), .d (.int .i64), .d (.int .i64)], fun n x => zat k (za8 k) (za2 k) (za1 k) (za3 k) (za0 k) (za6 k) (za5 k) n x.1 x.2.1 x.2.2.1 x.2.2.2.1 x.2.2.2.2.1 x.2.2.2.2.2.1 x.2.2.2.2.2.2.1 x.2.2.2.2.2.2.2.1 x.2.2.2.2.2.2.2.2,[(11,101,[10,6,9,5,4])]⟩]) (entry := fun n x => zc4 k (za8 k) (za2 k) (za1 k) (za3 k) (za0 k) (za6 k) (za5 k) n x.1 x.2.1 x.2.2.1 x.2.2.2) rfl rfl (by decide) (by kernel_rfl) ⟨⟨fun _ => by kernel_rfl, fun _ _ => by kernel_rfl⟩, trivial⟩ (fun _ _ => by kernel_rfl) k,
    za7 (ps := [.p [.o 31 cBoxT], .b .bool, .p [.o 31 cBoxT], .b (.int .i64), .b cBoxT]) (rs := []) (fn := Tryz.f101) (E := ⟨tOf tl, gOf [(35, zbb k),(650063, zam k),(660063, zal k),(670063, zap k),(680063, zak k),(101, zb8 k),(103, zb9 k),(102, zoc k)]⟩) ⟨zaa zad, zab ⟨(za4 k).1,(za4 k).2.1,(za4 k).2.2.1,(za4 k).2.2.2.1,(za4 k).2.2.2.2.1,(za4 k).2.2.2.2.2.1,(za4 k).2.2.2.2.2.2, zvp k, trivial⟩, mixedOk⟩ (body := bodyOf Tryz.f101) (pl := [(7,[(0,0),(1,0),(2,0),(3,0),(4,0),(6,0),(1007,0),(5,1),(1007,1),(8,2),(1011,0),(9,2),(10,2),(1011,1)],[0,3,4,1000002])]) (M := 400) (cuts := [⟨2,[0,5,4,1,0,1],[0,1,2,3,4,5,8,9,10],[.p [.d (.sl cBoxT)], .b .bool, .p [.o 31 cBoxT], .b (.int .i64), .b cBoxT, .d .bool, .d (.sl cBoxT), .d (.int .i64), .d (.int .i64)], fun n x => zbv k (za8 k) (za2 k) (za1 k) (za3 k) (za0 k) (za6 k) (za5 k) n x.1 x.2.1 x.2.2.1 x.2.2.2.1 x.2.2.2.2.1 x.2.2.2.2.2.1 x.2.2.2.2.2.2.1 x.2.2.2.2.2.2.2.1 x.2.2.2.2.2.2.2.2,[]⟩]) (entry := fun n x => zfr k (za8 k) (za2 k) (za1 k) (za3 k) (za0 k) (za6 k) (za5 k) n x.1 x.2.1 x.2.2.1 x.2.2.2.1 x.2.2.2.2) rfl rfl (by decide) (by kernel_rfl) ⟨⟨fun _ => by kernel_rfl, fun _ _ => by kernel_rfl⟩, trivial⟩ (fun _ _ => by kernel_rfl) k,
    za7 (ps := [.d (.int .i64), .d cStyT, .d (.sl cBoxT)]) (rs := [.d cBoxT]) (fn := Tryz.f103) (E := ⟨tOf tl, gOf [(35, zbb k),(650063, zam k),(660063, zal k),(670063, zap k),(680063, zak k),(101, zb8 k),(103, zb9 k),(128, zlq)]⟩) ⟨zaa zad, zab ⟨(za4 k).1,(za4 k).2.1,(za4 k).2.2.1,(za4 k).2.2.2.1,(za4 k).2.2.2.2.1,(za4 k).2.2.2.2.2.1,(za4 k).2.2.2.2.2.2, ztb, trivial⟩, mixedOk⟩ (body := bodyOf Tryz.f103) (pl := []) (M := 400) (cuts := []) (entry := fun n x => zi2 k (za8 k) (za2 k) (za1 k) (za3 k) (za0 k) (za6 k) (za5 k) x.1 x.2.1 x.2.2) rfl rfl (by decide) (by kernel_rfl) trivial (fun _ _ => by kernel_rfl) k⟩
theorem zur (k : Nat) : ConOk Tryz.prog 35 (zbb k) := (za4 k).1
def zbj (k : Nat) (S : Int → Int → Int → TreT → (List StyT) → (TreT × (List StyT)) → Option (BoxT × Bool)) (J22 : Int → (TreT × (List StyT)) → (Int × Int × Int × StyT × ByteArray × (List BoxT)) → (Int × Int × Int × StyT × ByteArray × (List BoxT)) → (List Int) → Int → Int → Option (BoxT × Bool)) (y7 : Int) (a3 : TreT) (a0 : Int) (a5 : (TreT × (List StyT))) (y6 : Int) (r2 : StyT) (y3 : Int) (y4 : Int) : Option (BoxT × Bool) :=
  (ztn k a3 a0).bind fun r8 =>
  J22 y7 (a5.1, a5.2) (0,0,0,(0,0,0,0,(0,0,()),(0,0,()),((0,0,()),(0,0,()),(0,0,()),(0,0,()),()),((0,0,()),(0,0,()),(0,0,()),(0,0,()),()),((0,0,()),(0,0,()),(0,0,()),(0,0,()),()),(0,0,0,0,()),0,0,0,0,0, false, false, false, false,0,0,0,0,0,0, false,()),(bs []),[]) (y6, a0,0,(zmn (zmo r2 y3) y4),(bs []),[]) r8 (r8.length : Int) 0
def zd0 (k : Nat) (S : Int → Int → Int → TreT → (List StyT) → (TreT × (List StyT)) → Option (BoxT × Bool)) (J22 : Int → (TreT × (List StyT)) → (Int × Int × Int × StyT × ByteArray × (List BoxT)) → (Int × Int × Int × StyT × ByteArray × (List BoxT)) → (List Int) → Int → Int → Option (BoxT × Bool)) (y6 : Int) (a2 : Int) (a3 : TreT) (a0 : Int) (a5 : (TreT × (List StyT))) (r2 : StyT) (y3 : Int) (y4 : Int) : Option (BoxT × Bool) :=
  bif decide (y6 = 2) then
  ((zbj k S J22 (w64 (a2 + 1)) a3 a0 a5 y6 r2 y3 y4))
  else bif decide (y6 = 3) then
  ((zbj k S J22 (w64 (a2 + 1)) a3 a0 a5 y6 r2 y3 y4))
  else bif decide (y3 = 2) then
  ((zbj k S J22 (w64 (a2 + 1)) a3 a0 a5 y6 r2 y3 y4))
  else (bif decide (y3 = 3) then
  ((zbj k S J22 (w64 (a2 + 1)) a3 a0 a5 y6 r2 y3 y4))
  else (zbj k S J22 a2 a3 a0 a5 y6 r2 y3 y4))
def zca (k : Nat) (S : Int → Int → Int → TreT → (List StyT) → (TreT × (List StyT)) → Option (BoxT × Bool)) (J22 : Int → (TreT × (List StyT)) → (Int × Int × Int × StyT × ByteArray × (List BoxT)) → (Int × Int × Int × StyT × ByteArray × (List BoxT)) → (List Int) → Int → Int → Option (BoxT × Bool)) (y4 : Int) (r2 : StyT) (y3 : Int) (a1 : Int) (a2 : Int) (a3 : TreT) (a0 : Int) (a5 : (TreT × (List StyT))) : Option (BoxT × Bool) :=
  (zi1 (zmn (zmo r2 y3) y4) a1).bind fun r5 =>
  (bif decide (4 ≤ a2) then
  bif decide (r5 = 2) then
  ((zd0 k S J22 1 a2 a3 a0 a5 r2 y3 y4))
  else (bif decide (r5 = 3) then
  ((zd0 k S J22 1 a2 a3 a0 a5 r2 y3 y4))
  else (zd0 k S J22 r5 a2 a3 a0 a5 r2 y3 y4))
  else (zd0 k S J22 r5 a2 a3 a0 a5 r2 y3 y4))
def zaj (k : Nat) (S : Int → Int → Int → TreT → (List StyT) → (TreT × (List StyT)) → Option (BoxT × Bool)) (J22 : Int → (TreT × (List StyT)) → (Int × Int × Int × StyT × ByteArray × (List BoxT)) → (Int × Int × Int × StyT × ByteArray × (List BoxT)) → (List Int) → Int → Int → Option (BoxT × Bool)) (y3 : Int) (r2 : StyT) (a1 : Int) (a2 : Int) (a3 : TreT) (a0 : Int) (a5 : (TreT × (List StyT))) : Option (BoxT × Bool) :=
  (bif decide (y3 = 2) then
  ((zca k S J22 0 r2 y3 a1 a2 a3 a0 a5))
  else bif decide (y3 = 3) then
  ((zca k S J22 0 r2 y3 a1 a2 a3 a0 a5))
  else (bif decide (a1 = 2) then
  ((zca k S J22 0 r2 y3 a1 a2 a3 a0 a5))
  else (zca k S J22 r2.2.2.1 r2 y3 a1 a2 a3 a0 a5)))
def ze7 (k : Nat) (S : Int → Int → Int → TreT → (List StyT) → (TreT × (List StyT)) → Option (BoxT × Bool)) (J22 : Int → (TreT × (List StyT)) → (Int × Int × Int × StyT × ByteArray × (List BoxT)) → (Int × Int × Int × StyT × ByteArray × (List BoxT)) → (List Int) → Int → Int → Option (BoxT × Bool)) (y12 : (List BoxT)) (a2 : Int) (a5 : (TreT × (List StyT))) (v9 : (Int × Int × Int × StyT × ByteArray × (List BoxT))) (v12 : (Int × Int × Int × StyT × ByteArray × (List BoxT))) (v123 : (List Int)) (v124 : Int) (v125 : Int) : Option (BoxT × Bool) :=
  J22 a2 (a5.1, a5.2) (v9.1, v9.2.1, v9.2.2.1, v9.2.2.2.1, v9.2.2.2.2.1, v9.2.2.2.2.2) (v12.1, v12.2.1, v12.2.2.1, v12.2.2.2.1, v12.2.2.2.2.1, y12) v123 v124 (w64 (v125 + 1))
def zb3 (k : Nat) (S : Int → Int → Int → TreT → (List StyT) → (TreT × (List StyT)) → Option (BoxT × Bool)) : Nat → Int → (TreT × (List StyT)) → (Int × Int × Int × StyT × ByteArray × (List BoxT)) → (Int × Int × Int × StyT × ByteArray × (List BoxT)) → (List Int) → Int → Int → Option (BoxT × Bool)
  | 0, _, _, _, _, _, _, _ => none
  | n + 1, a2, a5, v9, v12, v123, v124, v125 =>
  (bif decide (v125 < v124) then
  ((geti v123 v125).bind fun r9 =>
  ((S r9 v12.1 a2 a5.1 a5.2 (a5.1, a5.2)).bind fun r10 =>
  (bif r10.2 then
  ((appM 448 v12.2.2.2.2.2 ([(Tr.mk r10.1.x r10.1.kids)])).bind fun r11 =>
  (ze7 k S (zb3 k S n) r11 a2 a5 v9 v12 v123 v124 v125))
  else (ze7 k S (zb3 k S n) v12.2.2.2.2.2 a2 a5 v9 v12 v123 v124 v125))))
  else ((za8 k (Tr.mk (v12.1, v12.2.1, v12.2.2.1, v12.2.2.2.1, v12.2.2.2.2.1,()) v12.2.2.2.2.2)).bind fun r13 =>
  some ((Tr.mk r13.x r13.kids), true)))
def zhk (k : Nat) (S : Int → Int → Int → TreT → (List StyT) → (TreT × (List StyT)) → Option (BoxT × Bool)) (n : Nat) (a0 : Int) (a1 : Int) (a2 : Int) (a3 : TreT) (a4 : (List StyT)) (a5 : (TreT × (List StyT))) : Option (BoxT × Bool) :=
  ((geti a3.1 a0).bind fun r1 =>
  ((geti a4 a0).bind fun r2 =>
  (bif decide (r1.1 = 2) then
  (some ((Tr.mk (7, a0,0, r2, r1.2.2.1,()) ([])), true))
  else (bif decide (r2.1 = 2) then
  (some ((Tr.mk (0,0,0,(0,0,0,0,(0,0,()),(0,0,()),((0,0,()),(0,0,()),(0,0,()),(0,0,()),()),((0,0,()),(0,0,()),(0,0,()),(0,0,()),()),((0,0,()),(0,0,()),(0,0,()),(0,0,()),()),(0,0,0,0,()),0,0,0,0,0, false, false, false, false,0,0,0,0,0,0, false,()),(bs []),()) ([])), false))
  else (bif decide (r1.2.1 = (bs [98,114])) then
  (some ((Tr.mk (8, a0,0, r2,(bs []),()) ([])), true))
  else (bif decide (4 ≤ a2) then
  bif decide (r2.2.1 = 2) then
  ((zaj k S (zb3 k S n) 0 r2 a1 a2 a3 a0 a5))
  else (bif decide (r2.2.1 = 3) then
  ((zaj k S (zb3 k S n) 0 r2 a1 a2 a3 a0 a5))
  else (zaj k S (zb3 k S n) r2.2.1 r2 a1 a2 a3 a0 a5))
  else (zaj k S (zb3 k S n) r2.2.1 r2 a1 a2 a3 a0 a5)))))))
def zbq : Nat → Int → Int → Int → TreT → (List StyT) → (TreT × (List StyT)) → Option (BoxT × Bool)
  | 0, _, _, _, _, _, _ => none
  | k + 1, a0, a1, a2, a3, a4, a5 => zhk k (fun a0 a1 a2 a3 a4 a5 => zbq k a0 a1 a2 a3 a4 a5) k a0 a1 a2 a3 a4 a5
def zls (k : Nat) : Con := ⟨[.d (.int .i64), .d (.int .i64), .d (.int .i64), .b cTreT, .b (.sl cStyT), .m 32 [cTreT,(.sl cStyT)]],[.d cBoxT, .d .bool], fun x => zbq k x.1 x.2.1 x.2.2.1 x.2.2.2.1 x.2.2.2.2.1 x.2.2.2.2.2⟩
theorem zn1 : (k : Nat) → ConOk Tryz.prog 32 (zls k)
  | 0 => con0 ⟨Tryz.f32, rfl, rfl, by decide⟩
  | k + 1 => za7 (ps := [.d (.int .i64), .d (.int .i64), .d (.int .i64), .b cTreT, .b (.sl cStyT), .m 32 [cTreT,(.sl cStyT)]]) (rs := [.d cBoxT, .d .bool]) (fn := Tryz.f32) (E := ⟨tOf tl, gOf [(32, zls k),(33, zpq),(34, zt7 k),(35, zbb k)]⟩) ⟨zaa zad, zab ⟨zn1 k, zxv, yak k, zur k, trivial⟩, mixedOk⟩ (body := bodyOf Tryz.f32) (pl := [(4,[(0,0),(1,0),(2,0),(3,1),(4,0),(5,1)],[11])]) (M := 400) (cuts := [⟨22,[0,5,4,1,0,1,1,1,1,1,1,1,1,1],[2,5,9,12,123,124,125],[.d (.int .i64), .m 32 [cTreT,(.sl cStyT)], .p [.d (.int .i64), .d (.int .i64), .d (.int .i64), .d cStyT, .d .str, .o 31 cBoxT], .p [.d (.int .i64), .d (.int .i64), .d (.int .i64), .d cStyT, .d .str, .o 31 cBoxT], .d (.sl (.int .i64)), .d (.int .i64), .d (.int .i64)], fun n x => zb3 k (zbq k) n x.1 x.2.1 x.2.2.1 x.2.2.2.1 x.2.2.2.2.1 x.2.2.2.2.2.1 x.2.2.2.2.2.2,[]⟩]) (entry := fun n x => zhk k (zbq k) n x.1 x.2.1 x.2.2.1 x.2.2.2.1 x.2.2.2.2.1 x.2.2.2.2.2) rfl rfl (by decide) (by kernel_rfl) ⟨⟨fun _ => by kernel_rfl, fun _ _ => by kernel_rfl⟩, trivial⟩ (fun _ _ => by kernel_rfl) k
def zfq (k : Nat) (S : BoxT → Option ByteArray) : Nat → BoxT → ByteArray → Int → Option ByteArray
  | 0, _, _, _ => none
  | n + 1, v1, v3, v4 =>
  (bif decide (v4 < (v1.kids.length : Int)) then
  ((geti v1.kids v4).bind fun r1 =>
  (S (Tr.mk r1.x r1.kids)).bind fun r2 =>
  (addS v3 r2).bind fun r3 =>
  ((zfq k S n) (Tr.mk v1.x v1.kids) r3 (w64 (v4 + 1))))
  else (some v3))
def zj8 (k : Nat) (S : BoxT → Option ByteArray) (n : Nat) (a0 : BoxT) : Option ByteArray :=
  ((zfq k S n) (Tr.mk a0.x a0.kids) a0.x.2.2.2.2.1 0)
def zde : Nat → BoxT → Option ByteArray
  | 0, _ => none
  | k + 1, a0 => zj8 k (fun a0 => zde k a0) k a0
def zk8 (k : Nat) : Con := ⟨[.d cBoxT],[.d .str], fun x => zde k x⟩
theorem zpi : (k : Nat) → ConOk Tryz.prog 20 (zk8 k)
  | 0 => con0 ⟨Tryz.f20, rfl, rfl, by decide⟩
  | k + 1 => za7 (ps := [.d cBoxT]) (rs := [.d .str]) (fn := Tryz.f20) (E := ⟨tOf tl, gOf [(20, zk8 k)]⟩) ⟨zaa zad, zab ⟨zpi k, trivial⟩, mixedOk⟩ (body := bodyOf Tryz.f20) (pl := []) (M := 400) (cuts := [⟨3,[0,0,5,4,1,0,1,1],[1,3,4],[.p [.d cBoxT], .d .str, .d (.int .i64)], fun n x => zfq k (zde k) n x.1 x.2.1 x.2.2,[]⟩]) (entry := fun n x => zj8 k (zde k) n x) rfl rfl (by decide) (by kernel_rfl) ⟨⟨fun _ => by kernel_rfl, fun _ _ => by kernel_rfl⟩, trivial⟩ (fun _ _ => by kernel_rfl) k
def zlc (k : Nat) (S : BoxT → Option ByteArray) (J10 : BoxT → ByteArray → Int → Option ByteArray) (y4 : ByteArray) (a0 : BoxT) : Option ByteArray :=
  (bif decide ((a0.kids.length : Int) = 0) then
  (some y4)
  else ((addS y4 (bs [40])).bind fun r5 =>
  (J10 (Tr.mk a0.x a0.kids) r5 0)))
def zpk (k : Nat) (S : BoxT → Option ByteArray) (J10 : BoxT → ByteArray → Int → Option ByteArray) (y1 : ByteArray) (a0 : BoxT) : Option ByteArray :=
  bif decide (1 ≤ a0.x.1) then
  (bif decide (a0.x.1 ≤ 8) then
  ((cutS (bs [66,70,84,82,67,105,99,98]) (w64 (a0.x.1 - 1)) a0.x.1).bind fun r2 =>
  (addS y1 r2).bind fun r3 =>
  (zlc k S J10 r3 a0))
  else (zlc k S J10 y1 a0))
  else (zlc k S J10 y1 a0)
def zid (k : Nat) (S : BoxT → Option ByteArray) : Nat → BoxT → ByteArray → Int → Option ByteArray
  | 0, _, _, _ => none
  | n + 1, v1, v3, v4 =>
  (bif decide (v4 < (v1.kids.length : Int)) then
  ((geti v1.kids v4).bind fun r6 =>
  (S (Tr.mk r6.x r6.kids)).bind fun r7 =>
  (addS v3 r7).bind fun r8 =>
  ((zid k S n) (Tr.mk v1.x v1.kids) r8 (w64 (v4 + 1))))
  else ((addS v3 (bs [41])).bind fun r9 =>
  some r9))
def zrf (k : Nat) (S : BoxT → Option ByteArray) (n : Nat) (a0 : BoxT) : Option ByteArray :=
  (bif decide (a0.x.2.1 < 0) then
  (zpk k S (zid k S n) (bs [63]) a0)
  else (zpk k S (zid k S n) (bs []) a0))
def zka : Nat → BoxT → Option ByteArray
  | 0, _ => none
  | k + 1, a0 => zrf k (fun a0 => zka k a0) k a0
def zk9 (k : Nat) : Con := ⟨[.d cBoxT],[.d .str], fun x => zka k x⟩
theorem zpj : (k : Nat) → ConOk Tryz.prog 37 (zk9 k)
  | 0 => con0 ⟨Tryz.f37, rfl, rfl, by decide⟩
  | k + 1 => za7 (ps := [.d cBoxT]) (rs := [.d .str]) (fn := Tryz.f37) (E := ⟨tOf tl, gOf [(37, zk9 k)]⟩) ⟨zaa zad, zab ⟨zpj k, trivial⟩, mixedOk⟩ (body := bodyOf Tryz.f37) (pl := []) (M := 400) (cuts := [⟨10,[0,0,5,4,1,0,1,1,1,1,1,1],[1,3,4],[.p [.d cBoxT], .d .str, .d (.int .i64)], fun n x => zid k (zka k) n x.1 x.2.1 x.2.2,[]⟩]) (entry := fun n x => zrf k (zka k) n x) rfl rfl (by decide) (by kernel_rfl) ⟨⟨fun _ => by kernel_rfl, fun _ _ => by kernel_rfl⟩, trivial⟩ (fun _ _ => by kernel_rfl) k
def ze6 : Nat → ByteArray → (ByteArray × Nat) → Option ByteArray
  | 0, _, _ => none
  | n + 1, v3, v7 =>
  bif decide (v7.2 < v7.1.size) then
  ((zbt ((Utf8.decode v7.1 v7.2).1 : Int)).bind fun r1 =>
  (bif (!r1) then
  ((addS v3 (Utf8.encode ((Utf8.decode v7.1 v7.2).1 : Int))).bind fun r2 =>
  (ze6 n) r2 (v7.1,(v7.2 + (Utf8.decode v7.1 v7.2).2)))
  else (ze6 n) v3 (v7.1,(v7.2 + (Utf8.decode v7.1 v7.2).2))))
  else (some v3)
def zj9 (n : Nat) (a0 : ByteArray) : Option ByteArray :=
  ((ze6 n) (bs []) (a0,0))
def zhx (k : Nat) (a0 : ByteArray) : Option ByteArray := zj9 k a0
def zo2 (k : Nat) : Con := ⟨[.d .str],[.d .str], fun x => zhx k x⟩
theorem zvi (k : Nat) : ConOk Tryz.prog 19 (zo2 k) :=
  za7 (ps := [.d .str]) (rs := [.d .str]) (fn := Tryz.f19) (E := ⟨tOf tl, gOf [(45, zbw)]⟩) ⟨zaa zad, zab ⟨zd5, trivial⟩, mixedOk⟩ (body := bodyOf Tryz.f19) (pl := []) (M := 400) (cuts := [⟨3,[0,5,4,1,0,1,1],[3,7],[.d .str, .g], fun n x => ze6 n x.1 x.2,[]⟩]) (entry := fun n x => zj9 n x) rfl rfl (by decide) (by kernel_rfl) ⟨⟨fun _ => by kernel_rfl, fun _ _ => by kernel_rfl⟩, trivial⟩ (fun _ _ => by kernel_rfl) k
end Go.V
