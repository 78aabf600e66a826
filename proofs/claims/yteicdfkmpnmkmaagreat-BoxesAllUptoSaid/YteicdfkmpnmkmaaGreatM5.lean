/-
  Walks and laws of this seat.
-/
import Derived.Test.YteicdfkmpnmkmaaGreatNE
import Derived.Test.YteicdfkmpnmkmaaGreatM4
namespace Go.V
set_option linter.unusedVariables false
set_option linter.unusedSimpArgs false
set_option linter.unusedSectionVars false
variable [F0]
set_option maxRecDepth 100000
open Go.RowKit Go.Sl Go.Proofs
def zw4 (k : Nat) : Option (BoxT × Bool) :=
  some ((Tr.mk (0,0,0,(0,0,0,0,(0,0,()),(0,0,()),((0,0,()),(0,0,()),(0,0,()),(0,0,()),()),((0,0,()),(0,0,()),(0,0,()),(0,0,()),()),((0,0,()),(0,0,()),(0,0,()),(0,0,()),()),(0,0,0,0,()),0,0,0,0,0, false, false, false, false,0,0,0,0,0,0, false,()),(bs []),()) ([])), false)
def zzj (k : Nat) (a0 : ByteArray) (a1 : ByteArray) : Option (BoxT × Bool) :=
  ((runesM a0).bind fun r1 =>
  (zvp k r1).bind fun r2 =>
  (zxz k r2).bind fun r3 =>
  ((zif k r3.1 a1).bind fun r4 =>
  (bif decide (r3.2 ≠ 0) then
  (zw4 k)
  else (bif (!r4.2) then
  (zw4 k)
  else ((boxes_Build k r3.1 r4.1).bind fun r5 =>
  some ((Tr.mk r5.1.x r5.1.kids), r5.2))))))
def zuq (k : Nat) : Con := ⟨[.d .str, .d .str],[.d cBoxT, .d .bool], fun x => zzj k x.1 x.2⟩
theorem yco (k : Nat) : ConOk Tryz.prog 8 (zuq k) :=
  za1 (ps := [.d .str, .d .str]) (rs := [.d cBoxT, .d .bool]) (fn := Tryz.f8) (E := ⟨tOf tl, gOf [(9, zpk k),(16, zkx k),(29, zqa k),(30, zoh k)]⟩) ⟨za3 zac, za4 ⟨zxn k, zqu k, zys k, zww k, trivial⟩, mixedOk⟩ (body := bodyOf Tryz.f8) (pl := []) (M := 400) (cuts := []) (entry := fun n x => zzj k x.1 x.2) rfl rfl (by decide) (by kernel_rfl) trivial (fun _ _ => by kernel_rfl) k
def zv6 (k : Nat) (a0 : ByteArray) (a1 : ByteArray) (a2 : ByteArray) : Option Bool :=
  ((zzj k a0 a1).bind fun r1 =>
  (bif r1.2 then
  (zkw k (Tr.mk r1.1.x r1.1.kids)).bind fun r2 =>
  some (decide (r2 = a2))
  else some false))
def zur (k : Nat) : Con := ⟨[.d .str, .d .str, .d .str],[.d .bool], fun x => zv6 k x.1 x.2.1 x.2.2⟩
theorem ycp (k : Nat) : ConOk Tryz.prog 10 (zur k) :=
  za1 (ps := [.d .str, .d .str, .d .str]) (rs := [.d .bool]) (fn := Tryz.f10) (E := ⟨tOf tl, gOf [(8, zuq k),(37, zkv k)]⟩) ⟨za3 zac, za4 ⟨yco k, zqr k, trivial⟩, mixedOk⟩ (body := bodyOf Tryz.f10) (pl := []) (M := 400) (cuts := []) (entry := fun n x => zv6 k x.1 x.2.1 x.2.2) rfl rfl (by decide) (by kernel_rfl) trivial (fun _ _ => by kernel_rfl) k
def zie (k : Nat) : Option Bool :=
  ((zv6 k (bs [97,60,100,105,118,62,98,60,47,100,105,118,62,99]) (bs []) (bs [66,40,63,66,40,99,41,66,40,99,41,63,66,40,99,41,41])).bind fun r1 =>
  bif r1 then
  (zv6 k (bs [60,116,97,98,108,101,62,32,60,116,100,62,49,60,47,116,97,98,108,101,62]) (bs []) (bs [66,40,84,40,82,40,67,40,99,41,41,41,41])).bind fun r2 =>
  some r2
  else some false)
def zw5 (k : Nat) : Con := ⟨[],[.d .bool], fun _ => zie k⟩
theorem zxe (k : Nat) : ConOk Tryz.prog 11 (zw5 k) :=
  za1 (ps := []) (rs := [.d .bool]) (fn := Tryz.f11) (E := ⟨tOf tl, gOf [(10, zur k)]⟩) ⟨za3 zac, za4 ⟨ycp k, trivial⟩, mixedOk⟩ (body := bodyOf Tryz.f11) (pl := []) (M := 400) (cuts := []) (entry := fun n _ => zie k) rfl rfl (by decide) (by kernel_rfl) trivial (fun _ _ => by kernel_rfl) k
def zju (k : Nat) : Option (BoxT × Bool) :=
  some ((Tr.mk (0,0,0,(0,0,0,0,(0,0,()),(0,0,()),((0,0,()),(0,0,()),(0,0,()),(0,0,()),()),((0,0,()),(0,0,()),(0,0,()),(0,0,()),()),((0,0,()),(0,0,()),(0,0,()),(0,0,()),()),(0,0,0,0,()),0,0,0,0,0, false, false, false, false,0,0,0,0,0,0, false,()),(bs []),()) ([])), false)
def zne (k : Nat) : Option (BoxT × Bool) :=
  some ((Tr.mk (0,0,0,(0,0,0,0,(0,0,()),(0,0,()),((0,0,()),(0,0,()),(0,0,()),(0,0,()),()),((0,0,()),(0,0,()),(0,0,()),(0,0,()),()),((0,0,()),(0,0,()),(0,0,()),(0,0,()),()),(0,0,0,0,()),0,0,0,0,0, false, false, false, false,0,0,0,0,0,0, false,()),(bs []),()) ([])), false)
def zk1 (k : Nat) (a0 : TreT) (a1 : ByteArray) : Option (BoxT × Bool) :=
  (bif decide (60 < (a0.1.length : Int)) then
  (zju k)
  else (ztx k a0).bind fun r1 =>
  bif (!r1) then
  (zju k)
  else (ztz k a0).bind fun r2 =>
  (bif (!r2) then
  (zju k)
  else ((zsw a1 1500).bind fun r3 =>
  (zif k a0 r3).bind fun r4 =>
  (bif (!r4.2) then
  (zne k)
  else (zty k r4.1).bind fun r5 =>
  (bif (!r5) then
  (zne k)
  else ((ref13_Build k a0 r4.1).bind fun r6 =>
  some ((Tr.mk r6.1.x r6.1.kids), r6.2)))))))
def zxf (k : Nat) : Con := ⟨[.d cTreT, .d .str],[.d cBoxT, .d .bool], fun x => zk1 k x.1 x.2⟩
theorem zzn (k : Nat) : ConOk Tryz.prog 15 (zxf k) :=
  za1 (ps := [.d cTreT, .d .str]) (rs := [.d cBoxT, .d .bool]) (fn := Tryz.f15) (E := ⟨tOf tl, gOf [(12, zqt k),(13, zoo k),(16, zkx k),(17, zus),(41, zqw k),(42, zqv k)]⟩) ⟨za3 zac, za4 ⟨zzk k, zx2 k, zqu k, ycq, zzm k, zzl k, trivial⟩, mixedOk⟩ (body := bodyOf Tryz.f15) (pl := [(3,[(0,0),(1,0),(2,0),(3,1),(4,1),(5,0),(6,0),(7,1),(8,0)],[2])]) (M := 400) (cuts := []) (entry := fun n x => zk1 k x.1 x.2) rfl rfl (by decide) (by kernel_rfl) trivial (fun _ _ => by kernel_rfl) k
def znl (a0 : BoxT) : Option Bool :=
  (bif decide (a0.x.2.2.2.1.2.1 = 0) then
  some (decide (a0.x.2.2.2.1.2.2.1 = 0))
  else bif decide (a0.x.2.2.2.1.2.1 = 1) then
  some (decide (a0.x.2.2.2.1.2.2.1 = 0))
  else some false)
def zwk : Con := ⟨[.d cBoxT],[.d .bool], fun x => znl x⟩
theorem zxm : ConOk Tryz.prog 27 (zwk) :=
  za1 (ps := [.d cBoxT]) (rs := [.d .bool]) (fn := Tryz.f27) (E := ⟨tOf tl, gOf []⟩) ⟨za3 zac, za4 trivial, mixedOk⟩ (body := bodyOf Tryz.f27) (pl := []) (M := 400) (cuts := []) (entry := fun n x => znl x) rfl rfl (by decide) (by kernel_rfl) trivial (fun _ _ => by kernel_rfl) 0
def zn9 (a0 : BoxT) : Option Bool :=
  (bif decide (a0.x.2.2.2.1.2.1 = 0) then
  some (decide (a0.x.2.2.2.1.2.2.1 = 0))
  else bif decide (a0.x.2.2.2.1.2.1 = 1) then
  some (decide (a0.x.2.2.2.1.2.2.1 = 0))
  else some false)
def zvq : Con := ⟨[.d cBoxT],[.d .bool], fun x => zn9 x⟩
theorem zx1 : ConOk Tryz.prog 28 (zvq) :=
  za1 (ps := [.d cBoxT]) (rs := [.d .bool]) (fn := Tryz.f28) (E := ⟨tOf tl, gOf []⟩) ⟨za3 zac, za4 trivial, mixedOk⟩ (body := bodyOf Tryz.f28) (pl := []) (M := 400) (cuts := []) (entry := fun n x => zn9 x) rfl rfl (by decide) (by kernel_rfl) trivial (fun _ _ => by kernel_rfl) 0
end Go.V
