/-
  Walks and laws of this seat.
-/
import Derived.Test.YteicdfkmpnmkmaaGreatNE
import Derived.Test.YteicdfkmpnmkmaaGreatM4
namespace Go.V
set_option linter.unusedVariables false
set_option linter.unusedSimpArgs false
set_option linter.unusedSectionVars false
variable [F0]
set_option maxRecDepth 100000
open Go.RowKit Go.Sl Go.Proofs
def zug (k : Nat) : Option (BoxT × Bool) :=
  some ((Tr.mk (0,0,0,(0,0,0,0,(0,0,()),(0,0,()),((0,0,()),(0,0,()),(0,0,()),(0,0,()),()),((0,0,()),(0,0,()),(0,0,()),(0,0,()),()),((0,0,()),(0,0,()),(0,0,()),(0,0,()),()),(0,0,0,0,()),0,0,0,0,0, false, false, false, false,0,0,0,0,0,0, false,()),(bs []),()) ([])), false)
def zxi (k : Nat) (a0 : ByteArray) (a1 : ByteArray) : Option (BoxT × Bool) :=
  ((runesM a0).bind fun r1 =>
  (zu2 k r1).bind fun r2 =>
  (zw0 k r2).bind fun r3 =>
  ((zhy k r3.1 a1).bind fun r4 =>
  (bif decide (r3.2 ≠ 0) then
  (zug k)
  else (bif (!r4.2) then
  (zug k)
  else ((boxes_Build k r3.1 r4.1).bind fun r5 =>
  some ((Tr.mk r5.1.x r5.1.kids), r5.2))))))
def zt4 (k : Nat) : Con := ⟨[.d .str, .d .str],[.d cBoxT, .d .bool], fun x => zxi k x.1 x.2⟩
theorem ya8 (k : Nat) : ConOk Tryz.prog 8 (zt4 k) :=
  za7 (ps := [.d .str, .d .str]) (rs := [.d cBoxT, .d .bool]) (fn := Tryz.f8) (E := ⟨tOf tl, gOf [(9, zki k),(16, zkb k),(29, zp3 k),(30, zng k)]⟩) ⟨zaa zad, zab ⟨zps k, zpm k, zwu k, zv4 k, trivial⟩, mixedOk⟩ (body := bodyOf Tryz.f8) (pl := []) (M := 400) (cuts := []) (entry := fun n x => zxi k x.1 x.2) rfl rfl (by decide) (by kernel_rfl) trivial (fun _ _ => by kernel_rfl) k
def ztj (k : Nat) (a0 : ByteArray) (a1 : ByteArray) (a2 : ByteArray) : Option Bool :=
  ((zxi k a0 a1).bind fun r1 =>
  (bif r1.2 then
  (zka k (Tr.mk r1.1.x r1.1.kids)).bind fun r2 =>
  some (decide (r2 = a2))
  else some false))
def zt5 (k : Nat) : Con := ⟨[.d .str, .d .str, .d .str],[.d .bool], fun x => ztj k x.1 x.2.1 x.2.2⟩
theorem ya9 (k : Nat) : ConOk Tryz.prog 10 (zt5 k) :=
  za7 (ps := [.d .str, .d .str, .d .str]) (rs := [.d .bool]) (fn := Tryz.f10) (E := ⟨tOf tl, gOf [(8, zt4 k),(37, zk9 k)]⟩) ⟨zaa zad, zab ⟨ya8 k, zpj k, trivial⟩, mixedOk⟩ (body := bodyOf Tryz.f10) (pl := []) (M := 400) (cuts := []) (entry := fun n x => ztj k x.1 x.2.1 x.2.2) rfl rfl (by decide) (by kernel_rfl) trivial (fun _ _ => by kernel_rfl) k
def zcr (k : Nat) : Option Bool :=
  ((ztj k (bs [97,60,100,105,118,62,98,60,47,100,105,118,62,99]) (bs []) (bs [66,40,63,66,40,99,41,66,40,99,41,63,66,40,99,41,41])).bind fun r1 =>
  bif r1 then
  (ztj k (bs [60,116,97,98,108,101,62,32,60,116,100,62,49,60,47,116,97,98,108,101,62]) (bs []) (bs [66,40,84,40,82,40,67,40,99,41,41,41,41])).bind fun r2 =>
  some r2
  else some false)
def zo3 (k : Nat) : Con := ⟨[],[.d .bool], fun _ => zcr k⟩
theorem zvj (k : Nat) : ConOk Tryz.prog 11 (zo3 k) :=
  za7 (ps := []) (rs := [.d .bool]) (fn := Tryz.f11) (E := ⟨tOf tl, gOf [(10, zt5 k)]⟩) ⟨zaa zad, zab ⟨ya9 k, trivial⟩, mixedOk⟩ (body := bodyOf Tryz.f11) (pl := []) (M := 400) (cuts := []) (entry := fun n _ => zcr k) rfl rfl (by decide) (by kernel_rfl) trivial (fun _ _ => by kernel_rfl) k
def zar (k : Nat) (J15 : TreT → (List StyT) → BoxT → ByteArray → Int → Bool → Int → Option Bool) (y14 : Bool) (v2 : TreT) (v12 : Int) (v5 : (List StyT)) (v7 : BoxT) (v9 : ByteArray) (v10 : Int) : Option Bool :=
  (geti v2.1 v12).bind fun r15 =>
  J15 v2 v5 (Tr.mk v7.x v7.kids) v9 v10 y14 r15.2.2.2.2.1
mutual
def zaq (k : Nat) : Nat → TreT → (List StyT) → BoxT → ByteArray → Int → Option Bool
  | 0, _, _, _, _, _ => none
  | n + 1, v2, v5, v7, v9, v10 =>
  (bif decide (v10 < (v2.1.length : Int)) then
  ((zaf k n) v2 v5 (Tr.mk v7.x v7.kids) v9 v10 true v10)
  else ((zde k (Tr.mk v7.x v7.kids)).bind fun r8 =>
  (zhx k r8).bind fun r9 =>
  (zhx k v9).bind fun r10 =>
  bif decide (r9 = r10) then
  (zcr k).bind fun r11 =>
  some r11
  else some false))
def zaf (k : Nat) : Nat → TreT → (List StyT) → BoxT → ByteArray → Int → Bool → Int → Option Bool
  | 0, _, _, _, _, _, _, _ => none
  | n + 1, v2, v5, v7, v9, v10, v11, v12 =>
  (bif decide (0 ≤ v12) then
  (bif v11 then
  (geti v5 v12).bind fun r12 =>
  bif decide (r12.1 ≠ 2) then
  bif decide (v12 = v10) then
  (zar k (zaf k n) true v2 v12 v5 v7 v9 v10)
  else (geti v2.1 v12).bind fun r13 =>
  (zar k (zaf k n) (decide (r13.2.1 ≠ (bs [98,114]))) v2 v12 v5 v7 v9 v10)
  else (zar k (zaf k n) false v2 v12 v5 v7 v9 v10)
  else (zar k (zaf k n) false v2 v12 v5 v7 v9 v10))
  else (bif v11 then
  ((geti v2.1 v10).bind fun r16 =>
  (addS v9 r16.2.2.1).bind fun r17 =>
  ((zaq k n) v2 v5 (Tr.mk v7.x v7.kids) r17 (w64 (v10 + 1))))
  else ((zaq k n) v2 v5 (Tr.mk v7.x v7.kids) v9 (w64 (v10 + 1)))))
end
def zeo (k : Nat) (n : Nat) (a0 : TreT) (a1 : ByteArray) : Option Bool :=
  (bif decide (200 < (a0.1.length : Int)) then
  ((zcr k).bind fun r2 =>
  some r2)
  else (zsf k a0).bind fun r1 =>
  (bif (!r1) then
  ((zcr k).bind fun r2 =>
  some r2)
  else ((zrh a1 1500).bind fun r3 =>
  (zhy k a0 r3).bind fun r4 =>
  (bif (!r4.2) then
  ((zcr k).bind fun r5 =>
  some r5)
  else ((boxes_Build k a0 r4.1).bind fun r6 =>
  (bif (!r6.2) then
  ((zcr k).bind fun r7 =>
  some r7)
  else ((zaq k n) a0 r4.1 (Tr.mk r6.1.x r6.1.kids) (bs []) 0)))))))
def zmz (k : Nat) (a0 : TreT) (a1 : ByteArray) : Option Bool := zeo k k a0 a1
def zow (k : Nat) : Con := ⟨[.d cTreT, .d .str],[.d .bool], fun x => zmz k x.1 x.2⟩
theorem zqe (k : Nat) : ConOk Tryz.prog 6 (zow k) :=
  za7 (ps := [.d cTreT, .d .str]) (rs := [.d .bool]) (fn := Tryz.f6) (E := ⟨tOf tl, gOf [(9, zki k),(11, zo3 k),(12, zpl k),(16, zkb k),(17, zt6),(19, zo2 k),(20, zk8 k)]⟩) ⟨zaa zad, zab ⟨zps k, zvj k, zxj k, zpm k, yaa, zvi k, zpi k, trivial⟩, mixedOk⟩ (body := bodyOf Tryz.f6) (pl := [(3,[(0,0),(1,0),(2,0),(3,1),(4,1),(5,0),(6,0),(7,1),(8,0)],[2])]) (M := 400) (cuts := [⟨11,[0,0,5,4,1,0,1,1,1,1,1,1,1],[2,5,7,9,10],[.p [.d cTreT], .d (.sl cStyT), .p [.d cBoxT], .d .str, .d (.int .i64)], fun n x => zaq k n x.1 x.2.1 x.2.2.1 x.2.2.2.1 x.2.2.2.2,[]⟩, ⟨15,[0,0,5,4,1,0,1,4,0,1,5,4,1,0,1,1,1,1,1,1,1],[2,5,7,9,10,11,12],[.p [.d cTreT], .d (.sl cStyT), .p [.d cBoxT], .d .str, .d (.int .i64), .d .bool, .d (.int .i64)], fun n x => zaf k n x.1 x.2.1 x.2.2.1 x.2.2.2.1 x.2.2.2.2.1 x.2.2.2.2.2.1 x.2.2.2.2.2.2,[]⟩]) (entry := fun n x => zeo k n x.1 x.2) rfl rfl (by decide) (by kernel_rfl) ⟨⟨fun _ => by kernel_rfl, fun _ _ => by kernel_rfl⟩, ⟨fun _ => by kernel_rfl, fun _ _ => by kernel_rfl⟩, trivial⟩ (fun _ _ => by kernel_rfl) k
end Go.V
