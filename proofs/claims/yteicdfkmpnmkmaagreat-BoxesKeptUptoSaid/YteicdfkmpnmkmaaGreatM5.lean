/-
  Walks and laws of this seat.
-/
import Derived.Test.YteicdfkmpnmkmaaGreatNE
import Derived.Test.YteicdfkmpnmkmaaGreatM4
namespace Go.V
set_option linter.unusedVariables false
set_option linter.unusedSimpArgs false
set_option linter.unusedSectionVars false
variable [F0]
set_option maxRecDepth 100000
open Go.RowKit Go.Sl Go.Proofs
def zvx (k : Nat) : Option (BoxT × Bool) :=
  some ((Tr.mk (0,0,0,(0,0,0,0,(0,0,()),(0,0,()),((0,0,()),(0,0,()),(0,0,()),(0,0,()),()),((0,0,()),(0,0,()),(0,0,()),(0,0,()),()),((0,0,()),(0,0,()),(0,0,()),(0,0,()),()),(0,0,0,0,()),0,0,0,0,0, false, false, false, false,0,0,0,0,0,0, false,()),(bs []),()) ([])), false)
def zz2 (k : Nat) (a0 : ByteArray) (a1 : ByteArray) : Option (BoxT × Bool) :=
  ((runesM a0).bind fun r1 =>
  (zvk k r1).bind fun r2 =>
  (zxi k r2).bind fun r3 =>
  ((zdw k r3.1 a1).bind fun r4 =>
  (bif decide (r3.2 ≠ 0) then
  (zvx k)
  else (bif (!r4.2) then
  (zvx k)
  else ((boxes_Build k r3.1 r4.1).bind fun r5 =>
  some ((Tr.mk r5.1.x r5.1.kids), r5.2))))))
def zuk (k : Nat) : Con := ⟨[.d .str, .d .str],[.d cBoxT, .d .bool], fun x => zz2 k x.1 x.2⟩
theorem yc2 (k : Nat) : ConOk Tryz.prog 8 (zuk k) :=
  za7 (ps := [.d .str, .d .str]) (rs := [.d cBoxT, .d .bool]) (fn := Tryz.f8) (E := ⟨tOf tl, gOf [(9, zpn k),(16, zlb k),(29, zqa k),(30, zoi k)]⟩) ⟨za9 zae, zaa ⟨zr3 k, zme k, zyb k, zwj k, trivial⟩, mixedOk⟩ (body := bodyOf Tryz.f8) (pl := []) (M := 400) (cuts := []) (entry := fun n x => zz2 k x.1 x.2) rfl rfl (by decide) (by kernel_rfl) trivial (fun _ _ => by kernel_rfl) k
def zuy (k : Nat) (a0 : ByteArray) (a1 : ByteArray) (a2 : ByteArray) : Option Bool :=
  ((zz2 k a0 a1).bind fun r1 =>
  (bif r1.2 then
  (zl9 k (Tr.mk r1.1.x r1.1.kids)).bind fun r2 =>
  some (decide (r2 = a2))
  else some false))
def zul (k : Nat) : Con := ⟨[.d .str, .d .str, .d .str],[.d .bool], fun x => zuy k x.1 x.2.1 x.2.2⟩
theorem yc3 (k : Nat) : ConOk Tryz.prog 10 (zul k) :=
  za7 (ps := [.d .str, .d .str, .d .str]) (rs := [.d .bool]) (fn := Tryz.f10) (E := ⟨tOf tl, gOf [(8, zuk k),(37, zl8 k)]⟩) ⟨za9 zae, zaa ⟨yc2 k, zqt k, trivial⟩, mixedOk⟩ (body := bodyOf Tryz.f10) (pl := []) (M := 400) (cuts := []) (entry := fun n x => zuy k x.1 x.2.1 x.2.2) rfl rfl (by decide) (by kernel_rfl) trivial (fun _ _ => by kernel_rfl) k
def zit (k : Nat) : Option Bool :=
  ((zuy k (bs [97,60,100,105,118,62,98,60,47,100,105,118,62,99]) (bs []) (bs [66,40,63,66,40,99,41,66,40,99,41,63,66,40,99,41,41])).bind fun r1 =>
  bif r1 then
  (zuy k (bs [60,116,97,98,108,101,62,32,60,116,100,62,49,60,47,116,97,98,108,101,62]) (bs []) (bs [66,40,84,40,82,40,67,40,99,41,41,41,41])).bind fun r2 =>
  some r2
  else some false)
def zvy (k : Nat) : Con := ⟨[],[.d .bool], fun _ => zit k⟩
theorem zx0 (k : Nat) : ConOk Tryz.prog 11 (zvy k) :=
  za7 (ps := []) (rs := [.d .bool]) (fn := Tryz.f11) (E := ⟨tOf tl, gOf [(10, zul k)]⟩) ⟨za9 zae, zaa ⟨yc3 k, trivial⟩, mixedOk⟩ (body := bodyOf Tryz.f11) (pl := []) (M := 400) (cuts := []) (entry := fun n _ => zit k) rfl rfl (by decide) (by kernel_rfl) trivial (fun _ _ => by kernel_rfl) k
def zk7 (k : Nat) : Option (BoxT × Bool) :=
  some ((Tr.mk (0,0,0,(0,0,0,0,(0,0,()),(0,0,()),((0,0,()),(0,0,()),(0,0,()),(0,0,()),()),((0,0,()),(0,0,()),(0,0,()),(0,0,()),()),((0,0,()),(0,0,()),(0,0,()),(0,0,()),()),(0,0,0,0,()),0,0,0,0,0, false, false, false, false,0,0,0,0,0,0, false,()),(bs []),()) ([])), false)
def znk (k : Nat) : Option (BoxT × Bool) :=
  some ((Tr.mk (0,0,0,(0,0,0,0,(0,0,()),(0,0,()),((0,0,()),(0,0,()),(0,0,()),(0,0,()),()),((0,0,()),(0,0,()),(0,0,()),(0,0,()),()),((0,0,()),(0,0,()),(0,0,()),(0,0,()),()),(0,0,0,0,()),0,0,0,0,0, false, false, false, false,0,0,0,0,0,0, false,()),(bs []),()) ([])), false)
def zkg (k : Nat) (a0 : TreT) (a1 : ByteArray) : Option (BoxT × Bool) :=
  (bif decide (60 < (a0.1.length : Int)) then
  (zk7 k)
  else (ztv k a0).bind fun r1 =>
  bif (!r1) then
  (zk7 k)
  else (ztx k a0).bind fun r2 =>
  (bif (!r2) then
  (zk7 k)
  else ((zk6 a1 1500).bind fun r3 =>
  (zdw k a0 r3).bind fun r4 =>
  (bif (!r4.2) then
  (znk k)
  else (ztw k r4.1).bind fun r5 =>
  (bif (!r5) then
  (znk k)
  else ((ref13_Build k a0 r4.1).bind fun r6 =>
  some ((Tr.mk r6.1.x r6.1.kids), r6.2)))))))
def zx1 (k : Nat) : Con := ⟨[.d cTreT, .d .str],[.d cBoxT, .d .bool], fun x => zkg k x.1 x.2⟩
theorem zz7 (k : Nat) : ConOk Tryz.prog 15 (zx1 k) :=
  za7 (ps := [.d cTreT, .d .str]) (rs := [.d cBoxT, .d .bool]) (fn := Tryz.f15) (E := ⟨tOf tl, gOf [(12, zqv k),(13, zop k),(16, zlb k),(17, zun),(41, zqx k),(42, zqw k)]⟩) ⟨za9 zae, zaa ⟨zz4 k, zwo k, zme k, zvz, zz6 k, zz5 k, trivial⟩, mixedOk⟩ (body := bodyOf Tryz.f15) (pl := [(3,[(0,0),(1,0),(2,0),(3,1),(4,1),(5,0),(6,0),(7,1),(8,0)],[2])]) (M := 400) (cuts := []) (entry := fun n x => zkg k x.1 x.2) rfl rfl (by decide) (by kernel_rfl) trivial (fun _ _ => by kernel_rfl) k
def zf8 (k : Nat) (S : BoxT → BoxT → Option Bool) : Nat → BoxT → BoxT → Int → Option Bool
  | 0, _, _, _ => none
  | n + 1, v2, v3, v5 =>
  (bif decide (v5 < (v2.kids.length : Int)) then
  ((geti v2.kids v5).bind fun r1 =>
  (geti v3.kids v5).bind fun r2 =>
  (S (Tr.mk r1.x r1.kids) (Tr.mk r2.x r2.kids)).bind fun r3 =>
  (bif (!r3) then
  (some false)
  else ((zf8 k S n) (Tr.mk v2.x v2.kids) (Tr.mk v3.x v3.kids) (w64 (v5 + 1)))))
  else (some true))
def zj8 (k : Nat) (S : BoxT → BoxT → Option Bool) (n : Nat) (a0 : BoxT) (a1 : BoxT) : Option Bool :=
  (bif decide (a0.x.1 ≠ a1.x.1) then
  (some false)
  else bif decide (a0.x.2.1 ≠ a1.x.2.1) then
  (some false)
  else bif decide (a0.x.2.2.1 ≠ a1.x.2.2.1) then
  (some false)
  else bif (!(cStyT.beq a0.x.2.2.2.1 a1.x.2.2.2.1)) then
  (some false)
  else bif decide (a0.x.2.2.2.2.1 ≠ a1.x.2.2.2.2.1) then
  (some false)
  else (bif decide ((a0.kids.length : Int) ≠ (a1.kids.length : Int)) then
  (some false)
  else ((zf8 k S n) (Tr.mk a0.x a0.kids) (Tr.mk a1.x a1.kids) 0)))
def zc7 : Nat → BoxT → BoxT → Option Bool
  | 0, _, _ => none
  | k + 1, a0, a1 => zj8 k (fun a0 a1 => zc7 k a0 a1) k a0 a1
def zo0 (k : Nat) : Con := ⟨[.d cBoxT, .d cBoxT],[.d .bool], fun x => zc7 k x.1 x.2⟩
theorem zpb : (k : Nat) → ConOk Tryz.prog 14 (zo0 k)
  | 0 => con0 ⟨Tryz.f14, rfl, rfl, by decide⟩
  | k + 1 => za7 (ps := [.d cBoxT, .d cBoxT]) (rs := [.d .bool]) (fn := Tryz.f14) (E := ⟨tOf tl, gOf [(14, zo0 k)]⟩) ⟨za9 zae, zaa ⟨zpb k, trivial⟩, mixedOk⟩ (body := bodyOf Tryz.f14) (pl := [(6,[(0,0),(1,0),(2,0),(3,0),(4,0),(5,0),(6,0),(7,0),(8,0),(9,0),(10,0),(11,0)],[2,3])]) (M := 400) (cuts := [⟨4,[0,0,5,4,1,0,1,1],[2,3,5],[.p [.d cBoxT], .p [.d cBoxT], .d (.int .i64)], fun n x => zf8 k (zc7 k) n x.1 x.2.1 x.2.2,[]⟩]) (entry := fun n x => zj8 k (zc7 k) n x.1 x.2) rfl rfl (by decide) (by kernel_rfl) ⟨⟨fun _ => by kernel_rfl, fun _ _ => by kernel_rfl⟩, trivial⟩ (fun _ _ => by kernel_rfl) k
end Go.V
