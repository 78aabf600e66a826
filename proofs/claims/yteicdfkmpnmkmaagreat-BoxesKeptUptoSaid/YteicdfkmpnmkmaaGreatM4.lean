/-
  Walks and laws of this seat.
-/
import Derived.Test.YteicdfkmpnmkmaaGreatNA
import Derived.Test.YteicdfkmpnmkmaaGreatM3
namespace Go.V
set_option linter.unusedVariables false
set_option linter.unusedSimpArgs false
set_option linter.unusedSectionVars false
variable [F0]
set_option maxRecDepth 100000
open Go.RowKit Go.Sl Go.Proofs
def zdd (k : Nat) (J7 : TreT → (List Int) → (List Int) → (List NodT) → Int → Int → Option Bool) (v5 : (List Int)) (v7 : NodT) (v4 : (List Int)) (v6 : Int) (v1 : TreT) (v38 : (List NodT)) (v39 : Int) (v40 : Int) : Option Bool :=
  (geti v5 v7.2.2.2.2.1).bind fun r16 =>
  (geti v5 v7.2.2.2.2.1).bind fun r17 =>
  (bif decide (v7.1 = 1) then
  ((appM 8 v4 ([v6])).bind fun r18 =>
  (J7 v1 r18 (v5.set v7.2.2.2.2.1.toNat v6) v38 v39 (w64 (v40 + 1))))
  else (J7 v1 v4 (v5.set v7.2.2.2.2.1.toNat v6) v38 v39 (w64 (v40 + 1))))
def zhc (k : Nat) (J7 : TreT → (List Int) → (List Int) → (List NodT) → Int → Int → Option Bool) (v4 : (List Int)) (v5 : (List Int)) (v7 : NodT) (v1 : TreT) (v6 : Int) (v38 : (List NodT)) (v39 : Int) (v40 : Int) : Option Bool :=
  bif decide ((v4.length : Int) = 0) then
  (some false)
  else (geti v5 v7.2.2.2.2.1).bind fun r11 =>
  (geti v5 v7.2.2.2.2.1).bind fun r12 =>
  (bif decide (v7.2.2.2.2.2.2.2.1 ≠ r12) then
  (some false)
  else (bif decide (v7.2.2.2.2.2.2.2.1 = (-1)) then
  (geti v1.1 v7.2.2.2.2.1).bind fun r13 =>
  bif decide (r13.2.2.2.2.2.1 ≠ v6) then
  (some false)
  else bif decide (v7.2.2.2.2.2.2.2.1 ≠ (-1)) then
  (geti v1.1 v7.2.2.2.2.2.2.2.1).bind fun r14 =>
  (bif decide (r14.2.2.2.2.2.2.2.2.1 ≠ v6) then
  (some false)
  else (zdd k J7 v5 v7 v4 v6 v1 v38 v39 v40))
  else (zdd k J7 v5 v7 v4 v6 v1 v38 v39 v40)
  else bif decide (v7.2.2.2.2.2.2.2.1 ≠ (-1)) then
  (geti v1.1 v7.2.2.2.2.2.2.2.1).bind fun r15 =>
  (bif decide (r15.2.2.2.2.2.2.2.2.1 ≠ v6) then
  (some false)
  else (zdd k J7 v5 v7 v4 v6 v1 v38 v39 v40))
  else (zdd k J7 v5 v7 v4 v6 v1 v38 v39 v40)))
mutual
def zci (k : Nat) : Nat → TreT → (List Int) → (List Int) → (List NodT) → Int → Int → Option Bool
  | 0, _, _, _, _, _, _ => none
  | n + 1, v1, v4, v5, v38, v39, v40 =>
  (bif decide (v40 < v39) then
  ((geti v38 v40).bind fun r3 =>
  ((geti v5 v40).bind fun r4 =>
  (geti v5 v40).bind fun r5 =>
  ((dom_alone k r3).bind fun r6 =>
  (bif (!r6) then
  (some false)
  else (bif decide (v40 = 0) then
  ((appM 8 v4 ([0])).bind fun r7 =>
  ((zci k n) v1 r7 (v5.set v40.toNat (-1)) v38 v39 (w64 (v40 + 1))))
  else (zic k n) v1 v4 (v5.set v40.toNat (-1)) v40 r3 v38 v39 v40)))))
  else ((zce k n) v1 v5 v1.1 (v1.1.length : Int) 0))
def zic (k : Nat) : Nat → TreT → (List Int) → (List Int) → Int → NodT → (List NodT) → Int → Int → Option Bool
  | 0, _, _, _, _, _, _, _, _ => none
  | n + 1, v1, v4, v5, v6, v7, v38, v39, v40 =>
  bif decide (0 < (v4.length : Int)) then
  (geti v4 (w64 ((v4.length : Int) - 1))).bind fun r8 =>
  (geti v4 (w64 ((v4.length : Int) - 1))).bind fun r9 =>
  (bif decide (r9 ≠ v7.2.2.2.2.1) then
  ((cutM v4 0 (w64 ((v4.length : Int) - 1))).bind fun r10 =>
  (zic k n) v1 r10 v5 v6 v7 v38 v39 v40)
  else (zhc k (zci k n) v4 v5 v7 v1 v6 v38 v39 v40))
  else (zhc k (zci k n) v4 v5 v7 v1 v6 v38 v39 v40)
def zce (k : Nat) : Nat → TreT → (List Int) → (List NodT) → Int → Int → Option Bool
  | 0, _, _, _, _, _ => none
  | n + 1, v1, v5, v132, v133, v134 =>
  (bif decide (v134 < v133) then
  ((geti v132 v134).bind fun r20 =>
  ((geti v5 v134).bind fun r21 =>
  bif decide (r20.2.2.2.2.2.2.1 ≠ r21) then
  (some false)
  else (geti v5 v134).bind fun r22 =>
  bif decide (r22 = (-1)) then
  bif decide (r20.2.2.2.2.2.1 ≠ (-1)) then
  (some false)
  else (geti v5 v134).bind fun r23 =>
  bif decide (r23 ≠ (-1)) then
  (geti v5 v134).bind fun r24 =>
  (geti v1.1 r24).bind fun r25 =>
  (bif decide (r25.2.2.2.2.2.2.2.2.1 ≠ (-1)) then
  (some false)
  else ((zce k n) v1 v5 v132 v133 (w64 (v134 + 1))))
  else ((zce k n) v1 v5 v132 v133 (w64 (v134 + 1)))
  else (geti v5 v134).bind fun r26 =>
  bif decide (r26 ≠ (-1)) then
  (geti v5 v134).bind fun r27 =>
  (geti v1.1 r27).bind fun r28 =>
  (bif decide (r28.2.2.2.2.2.2.2.2.1 ≠ (-1)) then
  (some false)
  else ((zce k n) v1 v5 v132 v133 (w64 (v134 + 1))))
  else ((zce k n) v1 v5 v132 v133 (w64 (v134 + 1)))))
  else (some true))
end
def zm1 (k : Nat) (n : Nat) (a0 : TreT) : Option Bool :=
  ((geti a0.1 0).bind fun r1 =>
  (bif decide (r1.1 ≠ 1) then
  (some false)
  else bif decide (r1.2.2.2.2.1 ≠ (-1)) then
  (some false)
  else bif decide (r1.2.2.2.2.2.2.2.1 ≠ (-1)) then
  (some false)
  else (bif decide (r1.2.2.2.2.2.2.2.2.1 ≠ (-1)) then
  (some false)
  else ((repM 8 (a0.1.length : Int) 0).bind fun r2 =>
  ((zci k n) a0 ([]) r2 a0.1 (a0.1.length : Int) 0)))))
def ztz (k : Nat) (a0 : TreT) : Option Bool := zm1 k k a0
def zr0 (k : Nat) : Con := ⟨[.d cTreT],[.d .bool], fun x => ztz k x⟩
theorem zz9 (k : Nat) : ConOk Tryz.prog 61 (zr0 k) :=
  za7 (ps := [.d cTreT]) (rs := [.d .bool]) (fn := Tryz.f61) (E := ⟨tOf tl, gOf [(100, zt1 k)]⟩) ⟨za9 zae, zaa ⟨dom_alone_ok k, trivial⟩, mixedOk⟩ (body := bodyOf Tryz.f61) (pl := [(14,[(0,0),(1,0),(2,0),(3,0),(4,0),(5,0),(6,0),(7,0),(8,0),(9,0),(10,0),(11,0),(12,0),(13,0)],[4,7]),(16,[(0,0),(1,0),(2,0),(3,0),(4,0),(5,0),(6,0),(7,0),(8,0),(9,0),(10,0),(11,0),(12,0)],[4,5,7]),(27,[(0,0),(1,0),(2,0),(3,0),(4,0),(5,0),(6,0),(7,0),(8,0),(9,0),(10,0),(11,0),(12,0),(13,0),(14,0),(15,0),(16,0),(17,0),(18,0),(19,0),(20,0),(21,0),(22,0),(23,0),(24,0),(25,0),(26,0),(27,0),(28,0),(29,0),(30,0),(31,0),(32,0),(33,0),(34,0),(35,0),(36,0),(37,0)],[1,9])]) (M := 400) (cuts := [⟨7,[0,5,4,1,0,1,1,1,1,1],[1,4,5,38,39,40],[.p [.d cTreT], .o 3 (.int .i64), .o 3 (.int .i64), .d (.sl cNodT), .d (.int .i64), .d (.int .i64)], fun n x => zci k n x.1 x.2.1 x.2.2.1 x.2.2.2.1 x.2.2.2.2.1 x.2.2.2.2.2,[]⟩, ⟨14,[0,0,5,4,0,1,1,1,1,4,0,1,1,5,4,1,0,1,1,1,1,1],[1,4,5,6,7,38,39,40],[.p [.d cTreT], .o 3 (.int .i64), .o 3 (.int .i64), .d (.int .i64), .p [.d cNodT], .d (.sl cNodT), .d (.int .i64), .d (.int .i64)], fun n x => zic k n x.1 x.2.1 x.2.2.1 x.2.2.2.1 x.2.2.2.2.1 x.2.2.2.2.2.1 x.2.2.2.2.2.2.1 x.2.2.2.2.2.2.2,[]⟩, ⟨25,[0,5,4,1,0,1,1,1,1,1,1],[1,5,132,133,134],[.p [.d cTreT], .d (.sl (.int .i64)), .d (.sl cNodT), .d (.int .i64), .d (.int .i64)], fun n x => zce k n x.1 x.2.1 x.2.2.1 x.2.2.2.1 x.2.2.2.2,[]⟩]) (entry := fun n x => zm1 k n x) rfl rfl (by decide) (by kernel_rfl) ⟨⟨fun _ => by kernel_rfl, fun _ _ => by kernel_rfl⟩, ⟨fun _ => by kernel_rfl, fun _ _ => by kernel_rfl⟩, ⟨fun _ => by kernel_rfl, fun _ _ => by kernel_rfl⟩, trivial⟩ (fun _ _ => by kernel_rfl) k
def zj9 (k : Nat) (J9 : (List Int) → (List NodT) → Int → Int → Option Int) (y10 : (List Int)) (v27 : Int) (v25 : (List NodT)) (v26 : Int) : Option Int :=
  (geti y10 v27).bind fun r11 =>
  (geti y10 v27).bind fun r12 =>
  (bif decide (256 < r12) then
  (some 5)
  else (J9 y10 v25 v26 (w64 (v27 + 1))))
def zfv (k : Nat) : Nat → (List Int) → (List NodT) → Int → Int → Option Int
  | 0, _, _, _, _ => none
  | n + 1, v3, v25, v26, v27 =>
  (bif decide (v27 < v26) then
  ((geti v25 v27).bind fun r3 =>
  ((geti v3 v27).bind fun r4 =>
  (geti v3 v27).bind fun r5 =>
  (bif decide (0 < v27) then
  ((geti (v3.set v27.toNat 1) r3.2.2.2.2.1).bind fun r6 =>
  (geti (v3.set v27.toNat 1) r3.2.2.2.2.1).bind fun r7 =>
  (geti (v3.set v27.toNat 1) v27).bind fun r8 =>
  (geti (v3.set v27.toNat 1) v27).bind fun r9 =>
  (zj9 k (zfv k n) ((v3.set v27.toNat 1).set v27.toNat (w64 (r7 + 1))) v27 v25 v26))
  else (zj9 k (zfv k n) (v3.set v27.toNat 1) v27 v25 v26))))
  else (some 0))
def znm (k : Nat) (n : Nat) (a0 : TreT) : Option Int :=
  (bif decide ((a0.1.length : Int) = 0) then
  (some 10)
  else (bif decide (4096 < (a0.1.length : Int)) then
  (some 4)
  else ((ztz k a0).bind fun r1 =>
  (bif (!r1) then
  (some 10)
  else ((repM 8 (a0.1.length : Int) 0).bind fun r2 =>
  ((zfv k n) r2 a0.1 (a0.1.length : Int) 0))))))
def zw7 (k : Nat) (a0 : TreT) : Option Int := znm k k a0
def zza (k : Nat) : Con := ⟨[.d cTreT],[.d (.int .i64)], fun x => zw7 k x⟩
theorem yb3 (k : Nat) : ConOk Tryz.prog 31 (zza k) :=
  za7 (ps := [.d cTreT]) (rs := [.d (.int .i64)]) (fn := Tryz.f31) (E := ⟨tOf tl, gOf [(61, zr0 k)]⟩) ⟨za9 zae, zaa ⟨zz9 k, trivial⟩, mixedOk⟩ (body := bodyOf Tryz.f31) (pl := []) (M := 400) (cuts := [⟨9,[0,5,4,1,0,1,1,1],[3,25,26,27],[.o 3 (.int .i64), .d (.sl cNodT), .d (.int .i64), .d (.int .i64)], fun n x => zfv k n x.1 x.2.1 x.2.2.1 x.2.2.2,[]⟩]) (entry := fun n x => znm k n x) rfl rfl (by decide) (by kernel_rfl) ⟨⟨fun _ => by kernel_rfl, fun _ _ => by kernel_rfl⟩, trivial⟩ (fun _ _ => by kernel_rfl) k
end Go.V
