/-
  Walks and laws of this seat.
-/
import Derived.Test.YteicdfkmpnmkmaaGreatM2
namespace Go.V
set_option linter.unusedVariables false
set_option linter.unusedSimpArgs false
set_option linter.unusedSectionVars false
variable [F0]
set_option maxRecDepth 100000
open Go.RowKit Go.Sl Go.Proofs
def zix (a0 : BoxT) : Option Bool :=
  (bif decide (a0.x.1 = 1) then
  some true
  else bif decide (a0.x.1 = 2) then
  some true
  else some (decide (a0.x.1 = 3)))
def zlh : Con := ⟨[.d cBoxT],[.d .bool], fun x => zix x⟩
theorem zr2 : ConOk Tryz.prog 25 (zlh) :=
  za7 (ps := [.d cBoxT]) (rs := [.d .bool]) (fn := Tryz.f25) (E := ⟨tOf tl, gOf []⟩) ⟨za9 zae, zaa trivial, mixedOk⟩ (body := bodyOf Tryz.f25) (pl := []) (M := 400) (cuts := []) (entry := fun n x => zix x) rfl rfl (by decide) (by kernel_rfl) trivial (fun _ _ => by kernel_rfl) 0
def ziq (a0 : BoxT) : Option Bool :=
  (bif decide (a0.x.1 = 1) then
  some true
  else bif decide (a0.x.1 = 2) then
  some true
  else some (decide (a0.x.1 = 3)))
def zl2 : Con := ⟨[.d cBoxT],[.d .bool], fun x => ziq x⟩
theorem zql : ConOk Tryz.prog 26 (zl2) :=
  za7 (ps := [.d cBoxT]) (rs := [.d .bool]) (fn := Tryz.f26) (E := ⟨tOf tl, gOf []⟩) ⟨za9 zae, zaa trivial, mixedOk⟩ (body := bodyOf Tryz.f26) (pl := []) (M := 400) (cuts := []) (entry := fun n x => ziq x) rfl rfl (by decide) (by kernel_rfl) trivial (fun _ _ => by kernel_rfl) 0
def zcf : Nat → (ByteArray × Nat) → Option Bool
  | 0, _ => none
  | n + 1, v20 =>
  bif decide (v20.2 < v20.1.size) then
  (bif decide (((Utf8.decode v20.1 v20.2).1 : Int) ≠ 9) then
  bif decide (((Utf8.decode v20.1 v20.2).1 : Int) ≠ 10) then
  bif decide (((Utf8.decode v20.1 v20.2).1 : Int) ≠ 12) then
  (bif decide (((Utf8.decode v20.1 v20.2).1 : Int) ≠ 32) then
  (some false)
  else (zcf n) (v20.1,(v20.2 + (Utf8.decode v20.1 v20.2).2)))
  else ((zcf n) (v20.1,(v20.2 + (Utf8.decode v20.1 v20.2).2)))
  else ((zcf n) (v20.1,(v20.2 + (Utf8.decode v20.1 v20.2).2)))
  else ((zcf n) (v20.1,(v20.2 + (Utf8.decode v20.1 v20.2).2))))
  else (some true)
def zka (n : Nat) (a0 : BoxT) (a1 : Bool) : Option Bool :=
  (bif decide (a0.x.1 ≠ 7) then
  (some false)
  else bif a1 then
  (bif a0.x.2.2.2.1.2.2.2.2.2.2.2.2.2.2.2.2.2.2.2.1 then
  (some false)
  else ((zcf n) (a0.x.2.2.2.2.1,0)))
  else ((zcf n) (a0.x.2.2.2.2.1,0)))
def zrs (k : Nat) (a0 : BoxT) (a1 : Bool) : Option Bool := zka k a0 a1
def zpm (k : Nat) : Con := ⟨[.d cBoxT, .d .bool],[.d .bool], fun x => zrs k x.1 x.2⟩
theorem zx7 (k : Nat) : ConOk Tryz.prog 102 (zpm k) :=
  za7 (ps := [.d cBoxT, .d .bool]) (rs := [.d .bool]) (fn := Tryz.f102) (E := ⟨tOf tl, gOf []⟩) ⟨za9 zae, zaa trivial, mixedOk⟩ (body := bodyOf Tryz.f102) (pl := []) (M := 400) (cuts := [⟨4,[0,5,4,1,0,1,1],[20],[.g], fun n x => zcf n x,[]⟩]) (entry := fun n x => zka n x.1 x.2) rfl rfl (by decide) (by kernel_rfl) ⟨⟨fun _ => by kernel_rfl, fun _ _ => by kernel_rfl⟩, trivial⟩ (fun _ _ => by kernel_rfl) k
def zl1 (a0 : BoxT) : Option Bool :=
  (bif decide (a0.x.1 = 6) then
  some true
  else bif decide (a0.x.1 = 7) then
  some true
  else some (decide (a0.x.1 = 8)))
def zom : Con := ⟨[.d cBoxT],[.d .bool], fun x => zl1 x⟩
theorem zwm : ConOk Tryz.prog 129 (zom) :=
  za7 (ps := [.d cBoxT]) (rs := [.d .bool]) (fn := Tryz.f129) (E := ⟨tOf tl, gOf []⟩) ⟨za9 zae, zaa trivial, mixedOk⟩ (body := bodyOf Tryz.f129) (pl := []) (M := 400) (cuts := []) (entry := fun n x => zl1 x) rfl rfl (by decide) (by kernel_rfl) trivial (fun _ _ => by kernel_rfl) 0
def zd4 (a0 : BoxT) (a1 : Int) (a2 : Bool) : Option Bool :=
  (bif decide (a1 = 1) then
  ((zl1 (Tr.mk a0.x a0.kids)).bind fun r1 =>
  bif r1 then
  bif (!a2) then
  some true
  else some (decide (a0.x.1 ≠ 6))
  else some false)
  else (some (decide (a0.x.1 ≠ a1))))
def zok : Con := ⟨[.d cBoxT, .d (.int .i64), .d .bool],[.d .bool], fun x => zd4 x.1 x.2.1 x.2.2⟩
theorem zwl : ConOk Tryz.prog 105 (zok) :=
  za7 (ps := [.d cBoxT, .d (.int .i64), .d .bool]) (rs := [.d .bool]) (fn := Tryz.f105) (E := ⟨tOf tl, gOf [(129, zom)]⟩) ⟨za9 zae, zaa ⟨zwm, trivial⟩, mixedOk⟩ (body := bodyOf Tryz.f105) (pl := []) (M := 400) (cuts := []) (entry := fun n x => zd4 x.1 x.2.1 x.2.2) rfl rfl (by decide) (by kernel_rfl) trivial (fun _ _ => by kernel_rfl) 0
mutual
def zeo : Nat → (List BoxT) → Bool → Int → Option Bool
  | 0, _, _, _ => none
  | n + 1, a0, a1, v5 =>
  (bif decide (v5 < (a0.length : Int)) then
  ((geti a0 v5).bind fun r1 =>
  bif decide (r1.x.1 ≠ 7) then
  (some false)
  else bif a1 then
  (geti a0 v5).bind fun r2 =>
  (bif r2.x.2.2.2.1.2.2.2.2.2.2.2.2.2.2.2.2.2.2.2.1 then
  (some false)
  else ((geti a0 v5).bind fun r3 =>
  (zen n) a0 a1 v5 (r3.x.2.2.2.2.1,0)))
  else ((geti a0 v5).bind fun r3 =>
  (zen n) a0 a1 v5 (r3.x.2.2.2.2.1,0)))
  else (some true))
def zen : Nat → (List BoxT) → Bool → Int → (ByteArray × Nat) → Option Bool
  | 0, _, _, _, _ => none
  | n + 1, a0, a1, v5, v36 =>
  bif decide (v36.2 < v36.1.size) then
  ((zc5 ((Utf8.decode v36.1 v36.2).1 : Int)).bind fun r4 =>
  (bif (!r4) then
  (some false)
  else (zen n) a0 a1 v5 (v36.1,(v36.2 + (Utf8.decode v36.1 v36.2).2))))
  else ((zeo n) a0 a1 (w64 (v5 + 1)))
end
def zng (n : Nat) (a0 : (List BoxT)) (a1 : Bool) : Option Bool :=
  ((zeo n) a0 a1 0)
def zrd (k : Nat) (a0 : (List BoxT)) (a1 : Bool) : Option Bool := zng k a0 a1
def zoo (k : Nat) : Con := ⟨[.d (.sl cBoxT), .d .bool],[.d .bool], fun x => zrd k x.1 x.2⟩
theorem zwn (k : Nat) : ConOk Tryz.prog 106 (zoo k) :=
  za7 (ps := [.d (.sl cBoxT), .d .bool]) (rs := [.d .bool]) (fn := Tryz.f106) (E := ⟨tOf tl, gOf [(45, zcb)]⟩) ⟨za9 zae, zaa ⟨zdk, trivial⟩, mixedOk⟩ (body := bodyOf Tryz.f106) (pl := []) (M := 400) (cuts := [⟨2,[0,0,5,4,1,0,1],[0,1,5],[.d (.sl cBoxT), .d .bool, .d (.int .i64)], fun n x => zeo n x.1 x.2.1 x.2.2,[]⟩, ⟨7,[0,5,4,1,1,4,0,1,5,4,1,0,1],[0,1,5,36],[.d (.sl cBoxT), .d .bool, .d (.int .i64), .g], fun n x => zen n x.1 x.2.1 x.2.2.1 x.2.2.2,[]⟩]) (entry := fun n x => zng n x.1 x.2) rfl rfl (by decide) (by kernel_rfl) ⟨⟨fun _ => by kernel_rfl, fun _ _ => by kernel_rfl⟩, ⟨fun _ => by kernel_rfl, fun _ _ => by kernel_rfl⟩, trivial⟩ (fun _ _ => by kernel_rfl) k
def zlg (a0 : BoxT) : Option Bool :=
  ((zix (Tr.mk a0.x a0.kids)).bind fun r1 =>
  bif (!r1) then
  bif decide (a0.x.1 ≠ 4) then
  some (decide (a0.x.1 ≠ 5))
  else some false
  else some false)
def zpl : Con := ⟨[.d cBoxT],[.d .bool], fun x => zlg x⟩
theorem zx6 : ConOk Tryz.prog 66 (zpl) :=
  za7 (ps := [.d cBoxT]) (rs := [.d .bool]) (fn := Tryz.f66) (E := ⟨tOf tl, gOf [(25, zlh)]⟩) ⟨za9 zae, zaa ⟨zr2, trivial⟩, mixedOk⟩ (body := bodyOf Tryz.f66) (pl := []) (M := 400) (cuts := []) (entry := fun n x => zlg x) rfl rfl (by decide) (by kernel_rfl) trivial (fun _ _ => by kernel_rfl) 0
def zrr (a0 : BoxT) : Option Bool :=
  (some (decide (a0.x.1 ≠ 4)))
def zpk : Con := ⟨[.d cBoxT],[.d .bool], fun x => zrr x⟩
theorem zx5 : ConOk Tryz.prog 64 (zpk) :=
  za7 (ps := [.d cBoxT]) (rs := [.d .bool]) (fn := Tryz.f64) (E := ⟨tOf tl, gOf []⟩) ⟨za9 zae, zaa trivial, mixedOk⟩ (body := bodyOf Tryz.f64) (pl := []) (M := 400) (cuts := []) (entry := fun n x => zrr x) rfl rfl (by decide) (by kernel_rfl) trivial (fun _ _ => by kernel_rfl) 0
def zrq (a0 : BoxT) : Option Bool :=
  (some (decide (a0.x.1 ≠ 5)))
def zpj : Con := ⟨[.d cBoxT],[.d .bool], fun x => zrq x⟩
theorem zx4 : ConOk Tryz.prog 65 (zpj) :=
  za7 (ps := [.d cBoxT]) (rs := [.d .bool]) (fn := Tryz.f65) (E := ⟨tOf tl, gOf []⟩) ⟨za9 zae, zaa trivial, mixedOk⟩ (body := bodyOf Tryz.f65) (pl := []) (M := 400) (cuts := []) (entry := fun n x => zrq x) rfl rfl (by decide) (by kernel_rfl) trivial (fun _ _ => by kernel_rfl) 0
def zlf (a0 : BoxT) : Option Bool :=
  (bif decide (a0.x.1 = 7) then
  some true
  else some (decide (a0.x.1 = 8)))
def zpi : Con := ⟨[.d cBoxT],[.d .bool], fun x => zlf x⟩
theorem zx3 : ConOk Tryz.prog 67 (zpi) :=
  za7 (ps := [.d cBoxT]) (rs := [.d .bool]) (fn := Tryz.f67) (E := ⟨tOf tl, gOf []⟩) ⟨za9 zae, zaa trivial, mixedOk⟩ (body := bodyOf Tryz.f67) (pl := []) (M := 400) (cuts := []) (entry := fun n x => zlf x) rfl rfl (by decide) (by kernel_rfl) trivial (fun _ _ => by kernel_rfl) 0
def zle : Option StyT :=
  (some (0,0,0,0,(0,0,()),(0,0,()),((1,0,()),(1,0,()),(1,0,()),(1,0,()),()),((1,0,()),(1,0,()),(1,0,()),(1,0,()),()),((0,0,()),(0,0,()),(0,0,()),(0,0,()),()),(0,0,0,0,()),255,0,1024,(-1),0, false, false, false, false,0,1,0,0,4,0, false,()))
def zld : Con := ⟨[],[.d cStyT], fun _ => zle⟩
theorem zt4 : ConOk Tryz.prog 143 (zld) :=
  za7 (ps := []) (rs := [.d cStyT]) (fn := Tryz.f143) (E := ⟨tOf tl, gOf []⟩) ⟨za9 zae, zaa trivial, mixedOk⟩ (body := bodyOf Tryz.f143) (pl := []) (M := 400) (cuts := []) (entry := fun n _ => zle) rfl rfl (by decide) (by kernel_rfl) trivial (fun _ _ => by kernel_rfl) 0
def zo1 (y2 : Int) (y3 : Int) (y4 : Int) (y5 : Int) (y6 : Bool) (y7 : Bool) (r1 : StyT) : Option StyT :=
  some (r1.1, r1.2.1, r1.2.2.1, r1.2.2.2.1, r1.2.2.2.2.1, r1.2.2.2.2.2.1, r1.2.2.2.2.2.2.1, r1.2.2.2.2.2.2.2.1, r1.2.2.2.2.2.2.2.2.1, r1.2.2.2.2.2.2.2.2.2.1, y2, r1.2.2.2.2.2.2.2.2.2.2.2.1, y3, y4, y5, y6, y7, r1.2.2.2.2.2.2.2.2.2.2.2.2.2.2.2.2.2.1, r1.2.2.2.2.2.2.2.2.2.2.2.2.2.2.2.2.2.2.1, r1.2.2.2.2.2.2.2.2.2.2.2.2.2.2.2.2.2.2.2.1, r1.2.2.2.2.2.2.2.2.2.2.2.2.2.2.2.2.2.2.2.2.1, r1.2.2.2.2.2.2.2.2.2.2.2.2.2.2.2.2.2.2.2.2.2.1, r1.2.2.2.2.2.2.2.2.2.2.2.2.2.2.2.2.2.2.2.2.2.2.1, r1.2.2.2.2.2.2.2.2.2.2.2.2.2.2.2.2.2.2.2.2.2.2.2.1, r1.2.2.2.2.2.2.2.2.2.2.2.2.2.2.2.2.2.2.2.2.2.2.2.2.1, r1.2.2.2.2.2.2.2.2.2.2.2.2.2.2.2.2.2.2.2.2.2.2.2.2.2.1,())
def zk8 (a0 : StyT) (a1 : Bool) : Option StyT :=
  ((zle).bind fun r1 =>
  (bif (!a1) then
  (zo1 a0.2.2.2.2.2.2.2.2.2.2.1 a0.2.2.2.2.2.2.2.2.2.2.2.2.1 a0.2.2.2.2.2.2.2.2.2.2.2.2.2.1 a0.2.2.2.2.2.2.2.2.2.2.2.2.2.2.1 a0.2.2.2.2.2.2.2.2.2.2.2.2.2.2.2.1 a0.2.2.2.2.2.2.2.2.2.2.2.2.2.2.2.2.1 r1)
  else (zo1 r1.2.2.2.2.2.2.2.2.2.2.1 r1.2.2.2.2.2.2.2.2.2.2.2.2.1 r1.2.2.2.2.2.2.2.2.2.2.2.2.2.1 r1.2.2.2.2.2.2.2.2.2.2.2.2.2.2.1 r1.2.2.2.2.2.2.2.2.2.2.2.2.2.2.2.1 r1.2.2.2.2.2.2.2.2.2.2.2.2.2.2.2.2.1 r1)))
def zmu : Con := ⟨[.d cStyT, .d .bool],[.d cStyT], fun x => zk8 x.1 x.2⟩
theorem zus : ConOk Tryz.prog 128 (zmu) :=
  za7 (ps := [.d cStyT, .d .bool]) (rs := [.d cStyT]) (fn := Tryz.f128) (E := ⟨tOf tl, gOf [(143, zld)]⟩) ⟨za9 zae, zaa ⟨zt4, trivial⟩, mixedOk⟩ (body := bodyOf Tryz.f128) (pl := [(3,[(0,0),(1,0),(2,0),(3,0),(4,0),(5,0),(6,0),(7,0),(8,0),(9,0),(10,0),(11,0),(12,0),(13,1),(14,0),(15,1),(16,0),(17,1),(18,0),(19,1),(20,0),(21,1),(22,0),(23,1)],[2])]) (M := 400) (cuts := []) (entry := fun n x => zk8 x.1 x.2) rfl rfl (by decide) (by kernel_rfl) trivial (fun _ _ => by kernel_rfl) 0
def zem (y1 : Bool) (a0 : StyT) (a1 : Int) : Option Int :=
  (bif decide (a0.1 = 3) then
  (some 2)
  else (bif decide (a0.1 = 4) then
  (some 3)
  else (bif decide (a0.1 = 5) then
  (bif decide (a1 = 3) then
  (bif (!y1) then
  (some 4)
  else (some 1))
  else (some 1))
  else (bif decide (a0.1 = 6) then
  (bif decide (a1 = 4) then
  (bif (!y1) then
  (some 5)
  else (some 1))
  else (some 1))
  else (bif decide (a0.1 = 0) then
  (bif (!y1) then
  (bif decide (a1 ≠ 2) then
  (some 6)
  else (some 1))
  else (some 1))
  else (some 1))))))
def zhr (a0 : StyT) (a1 : Int) : Option Int :=
  (bif decide (a1 = 0) then
  (zem true a0 a1)
  else bif decide (a0.2.1 = 2) then
  (zem true a0 a1)
  else bif decide (a0.2.1 = 3) then
  (zem true a0 a1)
  else (zem (decide (a0.2.2.1 ≠ 0)) a0 a1))
def zqj : Con := ⟨[.d cStyT, .d (.int .i64)],[.d (.int .i64)], fun x => zhr x.1 x.2⟩
theorem zym : ConOk Tryz.prog 69 (zqj) :=
  za7 (ps := [.d cStyT, .d (.int .i64)]) (rs := [.d (.int .i64)]) (fn := Tryz.f69) (E := ⟨tOf tl, gOf []⟩) ⟨za9 zae, zaa trivial, mixedOk⟩ (body := bodyOf Tryz.f69) (pl := []) (M := 400) (cuts := []) (entry := fun n x => zhr x.1 x.2) rfl rfl (by decide) (by kernel_rfl) trivial (fun _ _ => by kernel_rfl) 0
def zgi (y2 : Bool) (a0 : StyT) (a1 : Int) : Option Int :=
  (bif decide (a0.1 = 1) then
  (some 1)
  else (bif decide (a0.1 = 3) then
  (some 2)
  else (bif decide (a0.1 = 4) then
  (some 3)
  else (bif decide (a0.1 = 5) then
  (bif decide (a1 = 3) then
  (bif (!y2) then
  (some 4)
  else (some 1))
  else (some 1))
  else (bif decide (a0.1 = 6) then
  (bif decide (a1 = 4) then
  (bif (!y2) then
  (some 5)
  else (some 1))
  else (some 1))
  else (bif y2 then
  (some 1)
  else (bif decide (a1 = 2) then
  (some 1)
  else (some 6))))))))
def zk9 (y1 : Bool) (a1 : Int) (a0 : StyT) : Option Int :=
  bif decide (a1 = 0) then
  (zgi true a0 a1)
  else bif y1 then
  (zgi true a0 a1)
  else (zgi (decide (a0.2.2.1 ≠ 0)) a0 a1)
def zhw (a0 : StyT) (a1 : Int) : Option Int :=
  (bif decide (a0.2.1 = 2) then
  (zk9 true a1 a0)
  else (zk9 (decide (a0.2.1 = 3)) a1 a0))
def zr1 : Con := ⟨[.d cStyT, .d (.int .i64)],[.d (.int .i64)], fun x => zhw x.1 x.2⟩
theorem zzi : ConOk Tryz.prog 33 (zr1) :=
  za7 (ps := [.d cStyT, .d (.int .i64)]) (rs := [.d (.int .i64)]) (fn := Tryz.f33) (E := ⟨tOf tl, gOf []⟩) ⟨za9 zae, zaa trivial, mixedOk⟩ (body := bodyOf Tryz.f33) (pl := []) (M := 400) (cuts := []) (entry := fun n x => zhw x.1 x.2) rfl rfl (by decide) (by kernel_rfl) trivial (fun _ _ => by kernel_rfl) 0
def zu0 (a0 : TreT) (a1 : Int) : Option Bool :=
  (bif decide (0 ≤ a1) then
  some (decide (a1 < (a0.1.length : Int)))
  else some false)
def zw6 : Con := ⟨[.d cTreT, .d (.int .i64)],[.d .bool], fun x => zu0 x.1 x.2⟩
theorem yeh : ConOk Tryz.prog 62 (zw6) :=
  za7 (ps := [.d cTreT, .d (.int .i64)]) (rs := [.d .bool]) (fn := Tryz.f62) (E := ⟨tOf tl, gOf []⟩) ⟨za9 zae, zaa trivial, mixedOk⟩ (body := bodyOf Tryz.f62) (pl := []) (M := 400) (cuts := []) (entry := fun n x => zu0 x.1 x.2) rfl rfl (by decide) (by kernel_rfl) trivial (fun _ _ => by kernel_rfl) 0
def ziv : Nat → TreT → (List Int) → Int → Option (List Int)
  | 0, _, _, _ => none
  | n + 1, v2, v5, v6 =>
  (zu0 v2 v6).bind fun r3 =>
  bif r3 then
  (bif decide ((v5.length : Int) < (v2.1.length : Int)) then
  ((appM 8 v5 ([v6])).bind fun r4 =>
  ((geti v2.1 v6).bind fun r5 =>
  (ziv n) v2 r4 r5.2.2.2.2.2.2.2.2.1))
  else (some v5))
  else (some v5)
def zq1 (n : Nat) (a0 : TreT) (a1 : Int) : Option (List Int) :=
  ((zu0 a0 a1).bind fun r1 =>
  (bif (!r1) then
  (some ([]))
  else ((geti a0.1 a1).bind fun r2 =>
  (ziv n) a0 ([]) r2.2.2.2.2.2.1)))
def zv1 (k : Nat) (a0 : TreT) (a1 : Int) : Option (List Int) := zq1 k a0 a1
def zuo (k : Nat) : Con := ⟨[.d cTreT, .d (.int .i64)],[.d (.sl (.int .i64))], fun x => zv1 k x.1 x.2⟩
theorem ycb (k : Nat) : ConOk Tryz.prog 34 (zuo k) :=
  za7 (ps := [.d cTreT, .d (.int .i64)]) (rs := [.d (.sl (.int .i64))]) (fn := Tryz.f34) (E := ⟨tOf tl, gOf [(62, zw6)]⟩) ⟨za9 zae, zaa ⟨yeh, trivial⟩, mixedOk⟩ (body := bodyOf Tryz.f34) (pl := []) (M := 400) (cuts := [⟨5,[0,0,5,4,1,0,1,1,1],[2,5,6],[.p [.d cTreT], .o 3 (.int .i64), .d (.int .i64)], fun n x => ziv n x.1 x.2.1 x.2.2,[]⟩]) (entry := fun n x => zq1 n x.1 x.2) rfl rfl (by decide) (by kernel_rfl) ⟨⟨fun _ => by kernel_rfl, fun _ _ => by kernel_rfl⟩, trivial⟩ (fun _ _ => by kernel_rfl) k
def zgj (k : Nat) (S0 : BoxT → Option BoxT) (S1 : BoxT → Int → Bool → Unit → Option (List BoxT)) (S2 : BoxT → Int → Bool → Unit → Option (List BoxT)) (S3 : BoxT → Int → Bool → Unit → Option (List BoxT)) (S4 : BoxT → Int → Bool → Unit → Option (List BoxT)) (S5 : (List BoxT) → Bool → (List BoxT) → Int → BoxT → Option ((List BoxT) × (List BoxT))) (S6 : Int → StyT → (List BoxT) → Option BoxT) (y4 : Int) (v1 : BoxT) : Option BoxT :=
  (S3 (Tr.mk (y4, v1.x.2.1, v1.x.2.2.1, v1.x.2.2.2.1, v1.x.2.2.2.2.1,()) v1.kids) 1 true ()).bind fun r7 =>
  (some (Tr.mk (y4, v1.x.2.1, v1.x.2.2.1, v1.x.2.2.2.1, v1.x.2.2.2.2.1,()) r7))
def ze7 (k : Nat) (S0 : BoxT → Option BoxT) (S1 : BoxT → Int → Bool → Unit → Option (List BoxT)) (S2 : BoxT → Int → Bool → Unit → Option (List BoxT)) (S3 : BoxT → Int → Bool → Unit → Option (List BoxT)) (S4 : BoxT → Int → Bool → Unit → Option (List BoxT)) (S5 : (List BoxT) → Bool → (List BoxT) → Int → BoxT → Option ((List BoxT) × (List BoxT))) (S6 : Int → StyT → (List BoxT) → Option BoxT) (y4 : Int) (v1 : BoxT) : Option BoxT :=
  (bif decide (y4 = 2) then
  ((S4 (Tr.mk (y4, v1.x.2.1, v1.x.2.2.1, v1.x.2.2.2.1, v1.x.2.2.2.2.1,()) v1.kids) 1 true ()).bind fun r8 =>
  (some (Tr.mk (y4, v1.x.2.1, v1.x.2.2.1, v1.x.2.2.2.1, v1.x.2.2.2.2.1,()) r8)))
  else (some (Tr.mk (y4, v1.x.2.1, v1.x.2.2.1, v1.x.2.2.2.1, v1.x.2.2.2.2.1,()) v1.kids)))
def zbw (k : Nat) (S0 : BoxT → Option BoxT) (S1 : BoxT → Int → Bool → Unit → Option (List BoxT)) (S2 : BoxT → Int → Bool → Unit → Option (List BoxT)) (S3 : BoxT → Int → Bool → Unit → Option (List BoxT)) (S4 : BoxT → Int → Bool → Unit → Option (List BoxT)) (S5 : (List BoxT) → Bool → (List BoxT) → Int → BoxT → Option ((List BoxT) × (List BoxT))) (S6 : Int → StyT → (List BoxT) → Option BoxT) (y4 : Int) (v1 : BoxT) (v3 : Bool) : Option BoxT :=
  (bif decide (y4 = 3) then
  ((S1 (Tr.mk (y4, v1.x.2.1, v1.x.2.2.1, v1.x.2.2.2.1, v1.x.2.2.2.2.1,()) v1.kids) 4 false ()).bind fun r5 =>
  (some (Tr.mk (y4, v1.x.2.1, v1.x.2.2.1, v1.x.2.2.2.1, v1.x.2.2.2.2.1,()) r5)))
  else (bif decide (y4 = 4) then
  ((S2 (Tr.mk (y4, v1.x.2.1, v1.x.2.2.1, v1.x.2.2.2.1, v1.x.2.2.2.2.1,()) v1.kids) 5 false ()).bind fun r6 =>
  (some (Tr.mk (y4, v1.x.2.1, v1.x.2.2.1, v1.x.2.2.2.1, v1.x.2.2.2.2.1,()) r6)))
  else (bif decide (y4 = 1) then
  (bif v3 then
  (zgj k S0 S1 S2 S3 S4 S5 S6 y4 v1)
  else (ze7 k S0 S1 S2 S3 S4 S5 S6 y4 v1))
  else bif decide (y4 = 5) then
  (bif v3 then
  (zgj k S0 S1 S2 S3 S4 S5 S6 y4 v1)
  else (ze7 k S0 S1 S2 S3 S4 S5 S6 y4 v1))
  else (ze7 k S0 S1 S2 S3 S4 S5 S6 y4 v1))))
def zdx (k : Nat) (S0 : BoxT → Option BoxT) (S1 : BoxT → Int → Bool → Unit → Option (List BoxT)) (S2 : BoxT → Int → Bool → Unit → Option (List BoxT)) (S3 : BoxT → Int → Bool → Unit → Option (List BoxT)) (S4 : BoxT → Int → Bool → Unit → Option (List BoxT)) (S5 : (List BoxT) → Bool → (List BoxT) → Int → BoxT → Option ((List BoxT) × (List BoxT))) (S6 : Int → StyT → (List BoxT) → Option BoxT) : Nat → BoxT → BoxT → Bool → (List BoxT) → Int → Int → Option BoxT
  | 0, _, _, _, _, _, _ => none
  | n + 1, v1, v2, v3, v7, v8, v9 =>
  (bif decide (v9 < v8) then
  ((geti v7 v9).bind fun r1 =>
  (bif v3 then
  ((zdx k S0 S1 S2 S3 S4 S5 S6 n) (Tr.mk v1.x v1.kids) (Tr.mk v2.x v2.kids) true v7 v8 (w64 (v9 + 1)))
  else (zix (Tr.mk r1.x r1.kids)).bind fun r2 =>
  ((zdx k S0 S1 S2 S3 S4 S5 S6 n) (Tr.mk v1.x v1.kids) (Tr.mk v2.x v2.kids) r2 v7 v8 (w64 (v9 + 1)))))
  else (bif decide (v1.x.1 = 6) then
  (bif v3 then
  (zbw k S0 S1 S2 S3 S4 S5 S6 1 v1 v3)
  else (zbw k S0 S1 S2 S3 S4 S5 S6 v1.x.1 v1 v3))
  else (zbw k S0 S1 S2 S3 S4 S5 S6 v1.x.1 v1 v3)))
def zja (k : Nat) (S0 : BoxT → Option BoxT) (S1 : BoxT → Int → Bool → Unit → Option (List BoxT)) (S2 : BoxT → Int → Bool → Unit → Option (List BoxT)) (S3 : BoxT → Int → Bool → Unit → Option (List BoxT)) (S4 : BoxT → Int → Bool → Unit → Option (List BoxT)) (S5 : (List BoxT) → Bool → (List BoxT) → Int → BoxT → Option ((List BoxT) × (List BoxT))) (S6 : Int → StyT → (List BoxT) → Option BoxT) (n : Nat) (a0 : BoxT) : Option BoxT :=
  ((zdx k S0 S1 S2 S3 S4 S5 S6 n) (Tr.mk a0.x a0.kids) (Tr.mk (0,0,0,(0,0,0,0,(0,0,()),(0,0,()),((0,0,()),(0,0,()),(0,0,()),(0,0,()),()),((0,0,()),(0,0,()),(0,0,()),(0,0,()),()),((0,0,()),(0,0,()),(0,0,()),(0,0,()),()),(0,0,0,0,()),0,0,0,0,0, false, false, false, false,0,0,0,0,0,0, false,()),(bs []),()) ([])) false a0.kids (a0.kids.length : Int) 0)
def zb1 (k : Nat) (S0 : BoxT → Option BoxT) (S1 : BoxT → Int → Bool → Unit → Option (List BoxT)) (S2 : BoxT → Int → Bool → Unit → Option (List BoxT)) (S3 : BoxT → Int → Bool → Unit → Option (List BoxT)) (S4 : BoxT → Int → Bool → Unit → Option (List BoxT)) (S5 : (List BoxT) → Bool → (List BoxT) → Int → BoxT → Option ((List BoxT) × (List BoxT))) (S6 : Int → StyT → (List BoxT) → Option BoxT) : Nat → Unit → BoxT → Int → Bool → (List BoxT) → (List BoxT) → (List BoxT) → Int → Int → Option (List BoxT)
  | 0, _, _, _, _, _, _, _, _, _ => none
  | n + 1, a3, v4, v5, v6, v9, v10, v16, v17, v18 =>
  (bif decide (v18 < v17) then
  ((geti v16 v18).bind fun r1 =>
  ((zrr (Tr.mk r1.x r1.kids)).bind fun r2 =>
  (bif r2 then
  ((appM 448 v10 ([(Tr.mk (0,0,0,(0,0,0,0,(0,0,()),(0,0,()),((0,0,()),(0,0,()),(0,0,()),(0,0,()),()),((0,0,()),(0,0,()),(0,0,()),(0,0,()),()),((0,0,()),(0,0,()),(0,0,()),(0,0,()),()),(0,0,0,0,()),0,0,0,0,0, false, false, false, false,0,0,0,0,0,0, false,()),(bs []),()) ([]))])).bind fun r3 =>
  (geti r3 (v10.length : Int)).bind fun r4 =>
  (geti r3 (v10.length : Int)).bind fun r5 =>
  ((zb1 k S0 S1 S2 S3 S4 S5 S6 n) () (Tr.mk v4.x v4.kids) v5 v6 v9 (r3.set (v10.length : Int).toNat (Tr.mk r1.x r1.kids)) v16 v17 (w64 (v18 + 1))))
  else ((S5 v10 v6 v9 v5 (Tr.mk v4.x v4.kids)).bind fun r6 =>
  ((appM 448 r6.2 ([(Tr.mk (0,0,0,(0,0,0,0,(0,0,()),(0,0,()),((0,0,()),(0,0,()),(0,0,()),(0,0,()),()),((0,0,()),(0,0,()),(0,0,()),(0,0,()),()),((0,0,()),(0,0,()),(0,0,()),(0,0,()),()),(0,0,0,0,()),0,0,0,0,0, false, false, false, false,0,0,0,0,0,0, false,()),(bs []),()) ([]))])).bind fun r7 =>
  (geti r7 (r6.2.length : Int)).bind fun r8 =>
  (geti r7 (r6.2.length : Int)).bind fun r9 =>
  ((zb1 k S0 S1 S2 S3 S4 S5 S6 n) () (Tr.mk v4.x v4.kids) v5 v6 (r7.set (r6.2.length : Int).toNat (Tr.mk r1.x r1.kids)) r6.1 v16 v17 (w64 (v18 + 1))))))))
  else ((S5 v10 v6 v9 v5 (Tr.mk v4.x v4.kids)).bind fun r12 =>
  (some r12.2)))
def zcl (k : Nat) (S0 : BoxT → Option BoxT) (S1 : BoxT → Int → Bool → Unit → Option (List BoxT)) (S2 : BoxT → Int → Bool → Unit → Option (List BoxT)) (S3 : BoxT → Int → Bool → Unit → Option (List BoxT)) (S4 : BoxT → Int → Bool → Unit → Option (List BoxT)) (S5 : (List BoxT) → Bool → (List BoxT) → Int → BoxT → Option ((List BoxT) × (List BoxT))) (S6 : Int → StyT → (List BoxT) → Option BoxT) (n : Nat) (a0 : BoxT) (a1 : Int) (a2 : Bool) (a3 : Unit) : Option (List BoxT) :=
  ((zb1 k S0 S1 S2 S3 S4 S5 S6 n) () (Tr.mk a0.x a0.kids) a1 a2 ([]) ([]) a0.kids (a0.kids.length : Int) 0)
def zb0 (k : Nat) (S0 : BoxT → Option BoxT) (S1 : BoxT → Int → Bool → Unit → Option (List BoxT)) (S2 : BoxT → Int → Bool → Unit → Option (List BoxT)) (S3 : BoxT → Int → Bool → Unit → Option (List BoxT)) (S4 : BoxT → Int → Bool → Unit → Option (List BoxT)) (S5 : (List BoxT) → Bool → (List BoxT) → Int → BoxT → Option ((List BoxT) × (List BoxT))) (S6 : Int → StyT → (List BoxT) → Option BoxT) : Nat → Unit → BoxT → Int → Bool → (List BoxT) → (List BoxT) → (List BoxT) → Int → Int → Option (List BoxT)
  | 0, _, _, _, _, _, _, _, _, _ => none
  | n + 1, a3, v4, v5, v6, v9, v10, v16, v17, v18 =>
  (bif decide (v18 < v17) then
  ((geti v16 v18).bind fun r1 =>
  ((zrq (Tr.mk r1.x r1.kids)).bind fun r2 =>
  (bif r2 then
  ((appM 448 v10 ([(Tr.mk (0,0,0,(0,0,0,0,(0,0,()),(0,0,()),((0,0,()),(0,0,()),(0,0,()),(0,0,()),()),((0,0,()),(0,0,()),(0,0,()),(0,0,()),()),((0,0,()),(0,0,()),(0,0,()),(0,0,()),()),(0,0,0,0,()),0,0,0,0,0, false, false, false, false,0,0,0,0,0,0, false,()),(bs []),()) ([]))])).bind fun r3 =>
  (geti r3 (v10.length : Int)).bind fun r4 =>
  (geti r3 (v10.length : Int)).bind fun r5 =>
  ((zb0 k S0 S1 S2 S3 S4 S5 S6 n) () (Tr.mk v4.x v4.kids) v5 v6 v9 (r3.set (v10.length : Int).toNat (Tr.mk r1.x r1.kids)) v16 v17 (w64 (v18 + 1))))
  else ((S5 v10 v6 v9 v5 (Tr.mk v4.x v4.kids)).bind fun r6 =>
  ((appM 448 r6.2 ([(Tr.mk (0,0,0,(0,0,0,0,(0,0,()),(0,0,()),((0,0,()),(0,0,()),(0,0,()),(0,0,()),()),((0,0,()),(0,0,()),(0,0,()),(0,0,()),()),((0,0,()),(0,0,()),(0,0,()),(0,0,()),()),(0,0,0,0,()),0,0,0,0,0, false, false, false, false,0,0,0,0,0,0, false,()),(bs []),()) ([]))])).bind fun r7 =>
  (geti r7 (r6.2.length : Int)).bind fun r8 =>
  (geti r7 (r6.2.length : Int)).bind fun r9 =>
  ((zb0 k S0 S1 S2 S3 S4 S5 S6 n) () (Tr.mk v4.x v4.kids) v5 v6 (r7.set (r6.2.length : Int).toNat (Tr.mk r1.x r1.kids)) r6.1 v16 v17 (w64 (v18 + 1))))))))
  else ((S5 v10 v6 v9 v5 (Tr.mk v4.x v4.kids)).bind fun r12 =>
  (some r12.2)))
def zck (k : Nat) (S0 : BoxT → Option BoxT) (S1 : BoxT → Int → Bool → Unit → Option (List BoxT)) (S2 : BoxT → Int → Bool → Unit → Option (List BoxT)) (S3 : BoxT → Int → Bool → Unit → Option (List BoxT)) (S4 : BoxT → Int → Bool → Unit → Option (List BoxT)) (S5 : (List BoxT) → Bool → (List BoxT) → Int → BoxT → Option ((List BoxT) × (List BoxT))) (S6 : Int → StyT → (List BoxT) → Option BoxT) (n : Nat) (a0 : BoxT) (a1 : Int) (a2 : Bool) (a3 : Unit) : Option (List BoxT) :=
  ((zb0 k S0 S1 S2 S3 S4 S5 S6 n) () (Tr.mk a0.x a0.kids) a1 a2 ([]) ([]) a0.kids (a0.kids.length : Int) 0)
def zbe (k : Nat) (S0 : BoxT → Option BoxT) (S1 : BoxT → Int → Bool → Unit → Option (List BoxT)) (S2 : BoxT → Int → Bool → Unit → Option (List BoxT)) (S3 : BoxT → Int → Bool → Unit → Option (List BoxT)) (S4 : BoxT → Int → Bool → Unit → Option (List BoxT)) (S5 : (List BoxT) → Bool → (List BoxT) → Int → BoxT → Option ((List BoxT) × (List BoxT))) (S6 : Int → StyT → (List BoxT) → Option BoxT) : Nat → Unit → BoxT → Int → Bool → (List BoxT) → (List BoxT) → (List BoxT) → Int → Int → Option (List BoxT)
  | 0, _, _, _, _, _, _, _, _, _ => none
  | n + 1, a3, v4, v5, v6, v9, v10, v16, v17, v18 =>
  (bif decide (v18 < v17) then
  ((geti v16 v18).bind fun r1 =>
  ((zlg (Tr.mk r1.x r1.kids)).bind fun r2 =>
  (bif r2 then
  ((appM 448 v10 ([(Tr.mk (0,0,0,(0,0,0,0,(0,0,()),(0,0,()),((0,0,()),(0,0,()),(0,0,()),(0,0,()),()),((0,0,()),(0,0,()),(0,0,()),(0,0,()),()),((0,0,()),(0,0,()),(0,0,()),(0,0,()),()),(0,0,0,0,()),0,0,0,0,0, false, false, false, false,0,0,0,0,0,0, false,()),(bs []),()) ([]))])).bind fun r3 =>
  (geti r3 (v10.length : Int)).bind fun r4 =>
  (geti r3 (v10.length : Int)).bind fun r5 =>
  ((zbe k S0 S1 S2 S3 S4 S5 S6 n) () (Tr.mk v4.x v4.kids) v5 v6 v9 (r3.set (v10.length : Int).toNat (Tr.mk r1.x r1.kids)) v16 v17 (w64 (v18 + 1))))
  else ((S5 v10 v6 v9 v5 (Tr.mk v4.x v4.kids)).bind fun r6 =>
  ((appM 448 r6.2 ([(Tr.mk (0,0,0,(0,0,0,0,(0,0,()),(0,0,()),((0,0,()),(0,0,()),(0,0,()),(0,0,()),()),((0,0,()),(0,0,()),(0,0,()),(0,0,()),()),((0,0,()),(0,0,()),(0,0,()),(0,0,()),()),(0,0,0,0,()),0,0,0,0,0, false, false, false, false,0,0,0,0,0,0, false,()),(bs []),()) ([]))])).bind fun r7 =>
  (geti r7 (r6.2.length : Int)).bind fun r8 =>
  (geti r7 (r6.2.length : Int)).bind fun r9 =>
  ((zbe k S0 S1 S2 S3 S4 S5 S6 n) () (Tr.mk v4.x v4.kids) v5 v6 (r7.set (r6.2.length : Int).toNat (Tr.mk r1.x r1.kids)) r6.1 v16 v17 (w64 (v18 + 1))))))))
  else ((S5 v10 v6 v9 v5 (Tr.mk v4.x v4.kids)).bind fun r12 =>
  (some r12.2)))
def zdr (k : Nat) (S0 : BoxT → Option BoxT) (S1 : BoxT → Int → Bool → Unit → Option (List BoxT)) (S2 : BoxT → Int → Bool → Unit → Option (List BoxT)) (S3 : BoxT → Int → Bool → Unit → Option (List BoxT)) (S4 : BoxT → Int → Bool → Unit → Option (List BoxT)) (S5 : (List BoxT) → Bool → (List BoxT) → Int → BoxT → Option ((List BoxT) × (List BoxT))) (S6 : Int → StyT → (List BoxT) → Option BoxT) (n : Nat) (a0 : BoxT) (a1 : Int) (a2 : Bool) (a3 : Unit) : Option (List BoxT) :=
  ((zbe k S0 S1 S2 S3 S4 S5 S6 n) () (Tr.mk a0.x a0.kids) a1 a2 ([]) ([]) a0.kids (a0.kids.length : Int) 0)
def zaz (k : Nat) (S0 : BoxT → Option BoxT) (S1 : BoxT → Int → Bool → Unit → Option (List BoxT)) (S2 : BoxT → Int → Bool → Unit → Option (List BoxT)) (S3 : BoxT → Int → Bool → Unit → Option (List BoxT)) (S4 : BoxT → Int → Bool → Unit → Option (List BoxT)) (S5 : (List BoxT) → Bool → (List BoxT) → Int → BoxT → Option ((List BoxT) × (List BoxT))) (S6 : Int → StyT → (List BoxT) → Option BoxT) : Nat → Unit → BoxT → Int → Bool → (List BoxT) → (List BoxT) → (List BoxT) → Int → Int → Option (List BoxT)
  | 0, _, _, _, _, _, _, _, _, _ => none
  | n + 1, a3, v4, v5, v6, v9, v10, v16, v17, v18 =>
  (bif decide (v18 < v17) then
  ((geti v16 v18).bind fun r1 =>
  ((zlf (Tr.mk r1.x r1.kids)).bind fun r2 =>
  (bif r2 then
  ((appM 448 v10 ([(Tr.mk (0,0,0,(0,0,0,0,(0,0,()),(0,0,()),((0,0,()),(0,0,()),(0,0,()),(0,0,()),()),((0,0,()),(0,0,()),(0,0,()),(0,0,()),()),((0,0,()),(0,0,()),(0,0,()),(0,0,()),()),(0,0,0,0,()),0,0,0,0,0, false, false, false, false,0,0,0,0,0,0, false,()),(bs []),()) ([]))])).bind fun r3 =>
  (geti r3 (v10.length : Int)).bind fun r4 =>
  (geti r3 (v10.length : Int)).bind fun r5 =>
  ((zaz k S0 S1 S2 S3 S4 S5 S6 n) () (Tr.mk v4.x v4.kids) v5 v6 v9 (r3.set (v10.length : Int).toNat (Tr.mk r1.x r1.kids)) v16 v17 (w64 (v18 + 1))))
  else ((S5 v10 v6 v9 v5 (Tr.mk v4.x v4.kids)).bind fun r6 =>
  ((appM 448 r6.2 ([(Tr.mk (0,0,0,(0,0,0,0,(0,0,()),(0,0,()),((0,0,()),(0,0,()),(0,0,()),(0,0,()),()),((0,0,()),(0,0,()),(0,0,()),(0,0,()),()),((0,0,()),(0,0,()),(0,0,()),(0,0,()),()),(0,0,0,0,()),0,0,0,0,0, false, false, false, false,0,0,0,0,0,0, false,()),(bs []),()) ([]))])).bind fun r7 =>
  (geti r7 (r6.2.length : Int)).bind fun r8 =>
  (geti r7 (r6.2.length : Int)).bind fun r9 =>
  ((zaz k S0 S1 S2 S3 S4 S5 S6 n) () (Tr.mk v4.x v4.kids) v5 v6 (r7.set (r6.2.length : Int).toNat (Tr.mk r1.x r1.kids)) r6.1 v16 v17 (w64 (v18 + 1))))))))
  else ((S5 v10 v6 v9 v5 (Tr.mk v4.x v4.kids)).bind fun r12 =>
  (some r12.2)))
def zcj (k : Nat) (S0 : BoxT → Option BoxT) (S1 : BoxT → Int → Bool → Unit → Option (List BoxT)) (S2 : BoxT → Int → Bool → Unit → Option (List BoxT)) (S3 : BoxT → Int → Bool → Unit → Option (List BoxT)) (S4 : BoxT → Int → Bool → Unit → Option (List BoxT)) (S5 : (List BoxT) → Bool → (List BoxT) → Int → BoxT → Option ((List BoxT) × (List BoxT))) (S6 : Int → StyT → (List BoxT) → Option BoxT) (n : Nat) (a0 : BoxT) (a1 : Int) (a2 : Bool) (a3 : Unit) : Option (List BoxT) :=
  ((zaz k S0 S1 S2 S3 S4 S5 S6 n) () (Tr.mk a0.x a0.kids) a1 a2 ([]) ([]) a0.kids (a0.kids.length : Int) 0)
def zc8 (k : Nat) (S0 : BoxT → Option BoxT) (S1 : BoxT → Int → Bool → Unit → Option (List BoxT)) (S2 : BoxT → Int → Bool → Unit → Option (List BoxT)) (S3 : BoxT → Int → Bool → Unit → Option (List BoxT)) (S4 : BoxT → Int → Bool → Unit → Option (List BoxT)) (S5 : (List BoxT) → Bool → (List BoxT) → Int → BoxT → Option ((List BoxT) × (List BoxT))) (S6 : Int → StyT → (List BoxT) → Option BoxT) : Nat → (List BoxT) → Bool → (List BoxT) → Int → BoxT → Bool → (List BoxT) → Int → Int → Option ((List BoxT) × (List BoxT))
  | 0, _, _, _, _, _, _, _, _, _ => none
  | n + 1, a0, a1, a2, a3, a4, v5, v8, v9, v10 =>
  (bif decide (v10 < v9) then
  ((geti v8 v10).bind fun r1 =>
  (bif v5 then
  (zrs k (Tr.mk r1.x r1.kids) a1).bind fun r2 =>
  ((zc8 k S0 S1 S2 S3 S4 S5 S6 n) a0 a1 a2 a3 (Tr.mk a4.x a4.kids) r2 v8 v9 (w64 (v10 + 1)))
  else ((zc8 k S0 S1 S2 S3 S4 S5 S6 n) a0 a1 a2 a3 (Tr.mk a4.x a4.kids) false v8 v9 (w64 (v10 + 1)))))
  else (bif (!v5) then
  ((S6 a3 a4.x.2.2.2.1 a0).bind fun r4 =>
  (appM 448 a2 ([(Tr.mk (0,0,0,(0,0,0,0,(0,0,()),(0,0,()),((0,0,()),(0,0,()),(0,0,()),(0,0,()),()),((0,0,()),(0,0,()),(0,0,()),(0,0,()),()),((0,0,()),(0,0,()),(0,0,()),(0,0,()),()),(0,0,0,0,()),0,0,0,0,0, false, false, false, false,0,0,0,0,0,0, false,()),(bs []),()) ([]))])).bind fun r5 =>
  (geti r5 (a2.length : Int)).bind fun r6 =>
  (geti r5 (a2.length : Int)).bind fun r7 =>
  (some ([],(r5.set (a2.length : Int).toNat (Tr.mk r4.x r4.kids)))))
  else (some ([], a2))))
def zgh (k : Nat) (S0 : BoxT → Option BoxT) (S1 : BoxT → Int → Bool → Unit → Option (List BoxT)) (S2 : BoxT → Int → Bool → Unit → Option (List BoxT)) (S3 : BoxT → Int → Bool → Unit → Option (List BoxT)) (S4 : BoxT → Int → Bool → Unit → Option (List BoxT)) (S5 : (List BoxT) → Bool → (List BoxT) → Int → BoxT → Option ((List BoxT) × (List BoxT))) (S6 : Int → StyT → (List BoxT) → Option BoxT) (n : Nat) (a0 : (List BoxT)) (a1 : Bool) (a2 : (List BoxT)) (a3 : Int) (a4 : BoxT) : Option ((List BoxT) × (List BoxT)) :=
  ((zc8 k S0 S1 S2 S3 S4 S5 S6 n) a0 a1 a2 a3 (Tr.mk a4.x a4.kids) true a0 (a0.length : Int) 0)
def zcm (k : Nat) (S0 : BoxT → Option BoxT) (S1 : BoxT → Int → Bool → Unit → Option (List BoxT)) (S2 : BoxT → Int → Bool → Unit → Option (List BoxT)) (S3 : BoxT → Int → Bool → Unit → Option (List BoxT)) (S4 : BoxT → Int → Bool → Unit → Option (List BoxT)) (S5 : (List BoxT) → Bool → (List BoxT) → Int → BoxT → Option ((List BoxT) × (List BoxT))) (S6 : Int → StyT → (List BoxT) → Option BoxT) (y2 : Int) (a0 : Int) (r1 : StyT) (a2 : (List BoxT)) : Option BoxT :=
  (S0 (Tr.mk (a0,(-1),0,(zc2 r1 y2),(bs []),()) a2)).bind fun r3 =>
  some (Tr.mk r3.x r3.kids)
def ziw (k : Nat) (S0 : BoxT → Option BoxT) (S1 : BoxT → Int → Bool → Unit → Option (List BoxT)) (S2 : BoxT → Int → Bool → Unit → Option (List BoxT)) (S3 : BoxT → Int → Bool → Unit → Option (List BoxT)) (S4 : BoxT → Int → Bool → Unit → Option (List BoxT)) (S5 : (List BoxT) → Bool → (List BoxT) → Int → BoxT → Option ((List BoxT) × (List BoxT))) (S6 : Int → StyT → (List BoxT) → Option BoxT) (a0 : Int) (a1 : StyT) (a2 : (List BoxT)) : Option BoxT :=
  ((zk8 a1 false).bind fun r1 =>
  (bif decide (a0 = 1) then
  (zcm k S0 S1 S2 S3 S4 S5 S6 1 a0 r1 a2)
  else (bif decide (a0 = 4) then
  (zcm k S0 S1 S2 S3 S4 S5 S6 5 a0 r1 a2)
  else (bif decide (a0 = 5) then
  (zcm k S0 S1 S2 S3 S4 S5 S6 6 a0 r1 a2)
  else (zcm k S0 S1 S2 S3 S4 S5 S6 r1.1 a0 r1 a2)))))
mutual
def za8 : Nat → BoxT → Option BoxT
  | 0, _ => none
  | k + 1, a0 => zja k (za8 k) (za2 k) (za1 k) (za3 k) (za0 k) (za6 k) (za5 k) k a0
def za2 : Nat → BoxT → Int → Bool → Unit → Option (List BoxT)
  | 0, _, _, _, _ => none
  | k + 1, a0, a1, a2, a3 => zcl k (za8 k) (za2 k) (za1 k) (za3 k) (za0 k) (za6 k) (za5 k) k a0 a1 a2 a3
def za1 : Nat → BoxT → Int → Bool → Unit → Option (List BoxT)
  | 0, _, _, _, _ => none
  | k + 1, a0, a1, a2, a3 => zck k (za8 k) (za2 k) (za1 k) (za3 k) (za0 k) (za6 k) (za5 k) k a0 a1 a2 a3
def za3 : Nat → BoxT → Int → Bool → Unit → Option (List BoxT)
  | 0, _, _, _, _ => none
  | k + 1, a0, a1, a2, a3 => zdr k (za8 k) (za2 k) (za1 k) (za3 k) (za0 k) (za6 k) (za5 k) k a0 a1 a2 a3
def za0 : Nat → BoxT → Int → Bool → Unit → Option (List BoxT)
  | 0, _, _, _, _ => none
  | k + 1, a0, a1, a2, a3 => zcj k (za8 k) (za2 k) (za1 k) (za3 k) (za0 k) (za6 k) (za5 k) k a0 a1 a2 a3
def za6 : Nat → (List BoxT) → Bool → (List BoxT) → Int → BoxT → Option ((List BoxT) × (List BoxT))
  | 0, _, _, _, _, _ => none
  | k + 1, a0, a1, a2, a3, a4 => zgh k (za8 k) (za2 k) (za1 k) (za3 k) (za0 k) (za6 k) (za5 k) k a0 a1 a2 a3 a4
def za5 : Nat → Int → StyT → (List BoxT) → Option BoxT
  | 0, _, _, _ => none
  | k + 1, a0, a1, a2 => ziw k (za8 k) (za2 k) (za1 k) (za3 k) (za0 k) (za6 k) (za5 k) a0 a1 a2
end
def zbj (k : Nat) : Con := ⟨[.d cBoxT],[.d cBoxT], fun x => za8 k x⟩
def zaq (k : Nat) : Con := ⟨[.d cBoxT, .d (.int .i64), .d .bool, .f 64],[.d (.sl cBoxT)], fun x => za2 k x.1 x.2.1 x.2.2.1 x.2.2.2⟩
def zap (k : Nat) : Con := ⟨[.d cBoxT, .d (.int .i64), .d .bool, .f 65],[.d (.sl cBoxT)], fun x => za1 k x.1 x.2.1 x.2.2.1 x.2.2.2⟩
def zav (k : Nat) : Con := ⟨[.d cBoxT, .d (.int .i64), .d .bool, .f 66],[.d (.sl cBoxT)], fun x => za3 k x.1 x.2.1 x.2.2.1 x.2.2.2⟩
def zao (k : Nat) : Con := ⟨[.d cBoxT, .d (.int .i64), .d .bool, .f 67],[.d (.sl cBoxT)], fun x => za0 k x.1 x.2.1 x.2.2.1 x.2.2.2⟩
def zbf (k : Nat) : Con := ⟨[.p [.o 31 cBoxT], .b .bool, .p [.o 31 cBoxT], .b (.int .i64), .b cBoxT],[], fun x => za6 k x.1 x.2.1 x.2.2.1 x.2.2.2.1 x.2.2.2.2⟩
def zbg (k : Nat) : Con := ⟨[.d (.int .i64), .d cStyT, .d (.sl cBoxT)],[.d cBoxT], fun x => za5 k x.1 x.2.1 x.2.2⟩
theorem za4 : (k : Nat) → ConOk Tryz.prog 35 (zbj k) ∧ ConOk Tryz.prog 63 (zaq k) ∧ ConOk Tryz.prog 63 (zap k) ∧ ConOk Tryz.prog 63 (zav k) ∧ ConOk Tryz.prog 63 (zao k) ∧ ConOk Tryz.prog 101 (zbf k) ∧ ConOk Tryz.prog 103 (zbg k)
  | 0 => ⟨con0 ⟨Tryz.f35, rfl, rfl, by decide⟩, con0 ⟨Tryz.f63, rfl, rfl, by decide⟩, con0 ⟨Tryz.f63, rfl, rfl, by decide⟩, con0 ⟨Tryz.f63, rfl, rfl, by decide⟩, con0 ⟨Tryz.f63, rfl, rfl, by decide⟩, con0 ⟨Tryz.f101, rfl, rfl, by decide⟩, con0 ⟨Tryz.f103, rfl, rfl, by decide⟩⟩
  | k + 1 => ⟨za7 (ps := [.d cBoxT]) (rs := [.d cBoxT]) (fn := Tryz.f35) (E := ⟨tOf tl, gOf [(35, zbj k),(650063, zaq k),(660063, zap k),(670063, zav k),(680063, zao k),(101, zbf k),(103, zbg k),(25, zlh)]⟩) ⟨za9 zae, zaa ⟨(za4 k).1,(za4 k).2.1,(za4 k).2.2.1,(za4 k).2.2.2.1,(za4 k).2.2.2.2.1,(za4 k).2.2.2.2.2.1,(za4 k).2.2.2.2.2.2, zr2, trivial⟩, mixedOk⟩ (body := bodyOf Tryz.f35) (pl := []) (M := 400) (cuts := [⟨3,[0,5,4,1,0,1,1],[1,2,3,7,8,9],[.p [.d cBoxT], .p [.d cBoxT], .d .bool, .d (.sl cBoxT), .d (.int .i64), .d (.int .i64)], fun n x => zdx k (za8 k) (za2 k) (za1 k) (za3 k) (za0 k) (za6 k) (za5 k) n x.1 x.2.1 x.2.2.1 x.2.2.2.1 x.2.2.2.2.1 x.2.2.2.2.2,[]⟩]) (entry := fun n x => zja k (za8 k) (za2 k) (za1 k) (za3 k) (za0 k) (za6 k) (za5 k) n x) rfl rfl (by decide) (by kernel_rfl) ⟨⟨fun _ => by kernel_rfl, fun _ _ => by kernel_rfl⟩, trivial⟩ (fun _ _ => by kernel_rfl) k,
    za7 (ps := [.d cBoxT, .d (.int .i64), .d .bool, .f 64]) (rs := [.d (.sl cBoxT)]) (fn := Tryz.f63) (E := ⟨tOf tl, gOf [(35, zbj k),(650063, zaq k),(660063, zap k),(670063, zav k),(680063, zao k),(101, zbf k),(103, zbg k),(64, zpk)]⟩) ⟨za9 zae, zaa ⟨(za4 k).1,(za4 k).2.1,(za4 k).2.2.1,(za4 k).2.2.2.1,(za4 k).2.2.2.2.1,(za4 k).2.2.2.2.2.1,(za4 k).2.2.2.2.2.2, zx5, trivial⟩, mixedOk⟩ (body := bodyOf Tryz.f63) (pl := [(7,[(0,0),(1,0),(2,0),(3,1),(4,2),(1007,0),(5,2),(6,2),(1007,1)],[13,1000010]),(9,[(0,0),(1,0),(2,0),(3,1),(4,2),(1007,0),(5,2),(6,2),(1007,1)],[13,1000009])]) (M := 400) (cuts := [⟨4,[0,5,4,1,0,1,1,1],[3,4,5,6,9,10,16,17,18],[.f 64, .b cBoxT, .b (.int .i64), .b .bool, .p [.o 31 cBoxT], .p [.o 31 cBoxT], .d (.sl cBoxT), .d (.int .i64), .d (.int .i64)], fun n x => zb1 k (za8 k) (za2 k) (za1 k) (za3 k) (za0 k) (za6 k) (za5 k) n x.1 x.2.1 x.2.2.1 x.2.2.2.1 x.2.2.2.2.1 x.2.2.2.2.2.1 x.2.2.2.2.2.2.1 x.2.2.2.2.2.2.2.1 x.2.2.2.2.2.2.2.2,[(11,101,[10,6,9,5,4])]⟩]) (entry := fun n x => zcl k (za8 k) (za2 k) (za1 k) (za3 k) (za0 k) (za6 k) (za5 k) n x.1 x.2.1 x.2.2.1 x.2.2.2) rfl rfl (by decide) (by kernel_rfl) ⟨⟨fun _ => by kernel_rfl, fun _ _ => by kernel_rfl⟩, trivial⟩ (fun _ _ => by kernel_rfl) k,
    za7 (ps := [.d cBoxT, .d (.int .i64), .d .bool, .f 65]) (rs := [.d (.sl cBoxT)]) (fn := Tryz.f63) (E := ⟨tOf tl, gOf [(35, zbj k),(650063, zaq k),(660063, zap k),(670063, zav k),(680063, zao k),(101, zbf k),(103, zbg k),(65, zpj)]⟩) ⟨za9 zae, zaa ⟨(za4 k).1,(za4 k).2.1,(za4 k).2.2.1,(za4 k).2.2.2.1,(za4 k).2.2.2.2.1,(za4 k).2.2.2.2.2.1,(za4 k).2.2.2.2.2.2, zx4, trivial⟩, mixedOk⟩ (body := bodyOf Tryz.f63) (pl := [(7,[(0,0),(1,0),(2,0),(3,1),(4,2),(1007,0),(5,2),(6,2),(1007,1)],[13,1000010]),(9,[(0,0),(1,0),(2,0),(3,1),(4,2),(1007,0),(5,2),(6,2),(1007,1)],[13,1000009])]) (M := 400) (cuts := [⟨4,[0,5,4,1,0,1,1,1],[3,4,5,6,9,10,16,17,18],[.f 65, .b cBoxT, .b (.int .i64), .b .bool, .p [.o 31 cBoxT], .p [.o 31 cBoxT], .d (.sl cBoxT), .d (.int .i64), .d (.int .i64)], fun n x => zb0 k (za8 k) (za2 k) (za1 k) (za3 k) (za0 k) (za6 k) (za5 k) n x.1 x.2.1 x.2.2.1 x.2.2.2.1 x.2.2.2.2.1 x.2.2.2.2.2.1 x.2.2.2.2.2.2.1 x.2.2.2.2.2.2.2.1 x.2.2.2.2.2.2.2.2,[(11,101,[10,6,9,5,4])]⟩]) (entry := fun n x => zck k (za8 k) (za2 k) (za1 k) (za3 k) (za0 k) (za6 k) (za5 k) n x.1 x.2.1 x.2.2.1 x.2.2.2) rfl rfl (by decide) (by kernel_rfl) ⟨⟨fun _ => by kernel_rfl, fun _ _ => by kernel_rfl⟩, trivial⟩ (fun _ _ => by kernel_rfl) k,
    za7 (ps := [.d cBoxT, .d (.int .i64), .d .bool, .f 66]) (rs := [.d (.sl cBoxT)]) (fn := Tryz.f63) (E := ⟨tOf tl, gOf [(35, zbj k),(650063, zaq k),(660063, zap k),(670063, zav k),(680063, zao k),(101, zbf k),(103, zbg k),(66, zpl)]⟩) ⟨za9 zae, zaa ⟨(za4 k).1,(za4 k).2.1,(za4 k).2.2.1,(za4 k).2.2.2.1,(za4 k).2.2.2.2.1,(za4 k).2.2.2.2.2.1,(za4 k).2.2.2.2.2.2, zx6, trivial⟩, mixedOk⟩ (body := bodyOf Tryz.f63) (pl := [(7,[(0,0),(1,0),(2,0),(3,1),(4,2),(1007,0),(5,2),(6,2),(1007,1)],[13,1000010]),(9,[(0,0),(1,0),(2,0),(3,1),(4,2),(1007,0),(5,2),(6,2),(1007,1)],[13,1000009])]) (M := 400) (cuts := [⟨4,[0,5,4,1,0,1,1,1],[3,4,5,6,9,10,16,17,18],[.f 66, .b cBoxT, .b (.int .i64), .b .bool, .p [.o 31 cBoxT], .p [.o 31 cBoxT], .d (.sl cBoxT), .d (.int .i64), .d (.int .i64)], fun n x => zbe k (za8 k) (za2 k) (za1 k) (za3 k) (za0 k) (za6 k) (za5 k) n x.1 x.2.1 x.2.2.1 x.2.2.2.1 x.2.2.2.2.1 x.2.2.2.2.2.1 x.2.2.2.2.2.2.1 x.2.2.2.2.2.2.2.1 x.2.2.2.2.2.2.2.2,[(11,101,[10,6,9,5,4])]⟩]) (entry := fun n x => zdr k (za8 k) (za2 k) (za1 k) (za3 k) (za0 k) (za6 k) (za5 k) n x.1 x.2.1 x.2.2.1 x.2.2.2) rfl rfl (by decide) (by kernel_rfl) ⟨⟨fun _ => by kernel_rfl, fun _ _ => by kernel_rfl⟩, trivial⟩ (fun _ _ => by kernel_rfl) k,
    za7 (ps := [.d cBoxT, .d (.int .i64), .d .bool, .f 67]) (rs := [.d (.sl cBoxT)]) (fn := Tryz.f63) (E := ⟨tOf tl, gOf [(35, zbj k),(650063, zaq k),(660063, zap k),(670063, zav k),(680063, zao k),(101, zbf k),(103, zbg k),(67, zpi)]⟩) ⟨za9 zae, zaa ⟨(za4 k).1,(za4 k).2.1,(za4 k).2.2.1,(za4 k).2.2.2.1,(za4 k).2.2.2.2.1,(za4 k).2.2.2.2.2.1,(za4 k).2.2.2.2.2.2, zx3, trivial⟩, mixedOk⟩ (body := bodyOf Tryz.f63) (pl := [(7,[(0,0),(1,0),(2,0),(3,1),(4,2),(1007,0),(5,2),(6,2),(1007,1)],[13,1000010]),(9,[(0,0),(1,0),(2,0),(3,1),(4,2),(1007,0),(5,2),(6,2),(1007,1)],[13,1000009])]) (M := 400) (cuts := [⟨4,[0,5,4,1,0,1,1,1],[3,4,5,6,9,10,16,17,18],[.f 67, .b cBoxT, .b (.int .i64), .b .bool, .p [.o 31 cBoxT], .p [.o 31 cBoxT], .d (.sl cBoxT), .d (.int .i64), .d (.int .i64)], fun n x => zaz k (za8 k) (za2 k) (za1 k) (za3 k) (za0 k) (za6 k) (za5 k) n x.1 x.2.1 x.2.2.1 x.2.2.2.1 x.2.2.2.2.1 x.2.2.2.2.2.1 x.2.2.2.2.2.2.1 x.2.2.2.2.2.2.2.1 x.2.2.2.2.2.2.2.2,[(11,101,[10,6,9,5,4])]⟩]) (entry := fun n x => zcj k (za8 k) (za2 k) (za1 k) (za3 k) (za0 k) (za6 k) (za5 k) n x.1 x.2.1 x.2.2.1 x.2.2.2) rfl rfl (by decide) (by kernel_rfl) ⟨⟨fun _ => by kernel_rfl, fun _ _ => by kernel_rfl⟩, trivial⟩ (fun _ _ => by kernel_rfl) k,
    za7 (ps := [.p [.o 31 cBoxT], .b .bool, .p [.o 31 cBoxT], .b (.int .i64), .b cBoxT]) (rs := []) (fn := Tryz.f101) (E := ⟨tOf tl, gOf [(35, zbj k),(650063, zaq k),(660063, zap k),(670063, zav k),(680063, zao k),(101, zbf k),(103, zbg k),(102, zpm k)]⟩) ⟨za9 zae, zaa ⟨(za4 k).1,(za4 k).2.1,(za4 k).2.2.1,(za4 k).2.2.2.1,(za4 k).2.2.2.2.1,(za4 k).2.2.2.2.2.1,(za4 k).2.2.2.2.2.2, zx7 k, trivial⟩, mixedOk⟩ (body := bodyOf Tryz.f101) (pl := [(7,[(0,0),(1,0),(2,0),(3,0),(4,0),(6,0),(1007,0),(5,1),(1007,1),(8,2),(1011,0),(9,2),(10,2),(1011,1)],[0,3,4,1000002])]) (M := 400) (cuts := [⟨2,[0,5,4,1,0,1],[0,1,2,3,4,5,8,9,10],[.p [.d (.sl cBoxT)], .b .bool, .p [.o 31 cBoxT], .b (.int .i64), .b cBoxT, .d .bool, .d (.sl cBoxT), .d (.int .i64), .d (.int .i64)], fun n x => zc8 k (za8 k) (za2 k) (za1 k) (za3 k) (za0 k) (za6 k) (za5 k) n x.1 x.2.1 x.2.2.1 x.2.2.2.1 x.2.2.2.2.1 x.2.2.2.2.2.1 x.2.2.2.2.2.2.1 x.2.2.2.2.2.2.2.1 x.2.2.2.2.2.2.2.2,[]⟩]) (entry := fun n x => zgh k (za8 k) (za2 k) (za1 k) (za3 k) (za0 k) (za6 k) (za5 k) n x.1 x.2.1 x.2.2.1 x.2.2.2.1 x.2.2.2.2) rfl rfl (by decide) (by kernel_rfl) ⟨⟨fun _ => by kernel_rfl, fun _ _ => by kernel_rfl⟩, trivial⟩ (fun _ _ => by kernel_rfl) k,
    za7 (ps := [.d (.int .i64), .d cStyT, .d (.sl cBoxT)]) (rs := [.d cBoxT]) (fn := Tryz.f103) (E := ⟨tOf tl, gOf [(35, zbj k),(650063, zaq k),(660063, zap k),(670063, zav k),(680063, zao k),(101, zbf k),(103, zbg k),(128, zmu)]⟩) ⟨za9 zae, zaa ⟨(za4 k).1,(za4 k).2.1,(za4 k).2.2.1,(za4 k).2.2.2.1,(za4 k).2.2.2.2.1,(za4 k).2.2.2.2.2.1,(za4 k).2.2.2.2.2.2, zus, trivial⟩, mixedOk⟩ (body := bodyOf Tryz.f103) (pl := []) (M := 400) (cuts := []) (entry := fun n x => ziw k (za8 k) (za2 k) (za1 k) (za3 k) (za0 k) (za6 k) (za5 k) x.1 x.2.1 x.2.2) rfl rfl (by decide) (by kernel_rfl) trivial (fun _ _ => by kernel_rfl) k⟩
theorem zw9 (k : Nat) : ConOk Tryz.prog 35 (zbj k) := (za4 k).1
def zbt (k : Nat) (S : Int → Int → Int → TreT → (List StyT) → (TreT × (List StyT)) → Option (BoxT × Bool)) (J22 : Int → (TreT × (List StyT)) → (Int × Int × Int × StyT × ByteArray × (List BoxT)) → (Int × Int × Int × StyT × ByteArray × (List BoxT)) → (List Int) → Int → Int → Option (BoxT × Bool)) (y7 : Int) (a3 : TreT) (a0 : Int) (a5 : (TreT × (List StyT))) (y6 : Int) (r2 : StyT) (y3 : Int) (y4 : Int) : Option (BoxT × Bool) :=
  (zv1 k a3 a0).bind fun r8 =>
  J22 y7 (a5.1, a5.2) (0,0,0,(0,0,0,0,(0,0,()),(0,0,()),((0,0,()),(0,0,()),(0,0,()),(0,0,()),()),((0,0,()),(0,0,()),(0,0,()),(0,0,()),()),((0,0,()),(0,0,()),(0,0,()),(0,0,()),()),(0,0,0,0,()),0,0,0,0,0, false, false, false, false,0,0,0,0,0,0, false,()),(bs []),[]) (y6, a0,0,(zgu (zgv r2 y3) y4),(bs []),[]) r8 (r8.length : Int) 0
def zde (k : Nat) (S : Int → Int → Int → TreT → (List StyT) → (TreT × (List StyT)) → Option (BoxT × Bool)) (J22 : Int → (TreT × (List StyT)) → (Int × Int × Int × StyT × ByteArray × (List BoxT)) → (Int × Int × Int × StyT × ByteArray × (List BoxT)) → (List Int) → Int → Int → Option (BoxT × Bool)) (y6 : Int) (a2 : Int) (a3 : TreT) (a0 : Int) (a5 : (TreT × (List StyT))) (r2 : StyT) (y3 : Int) (y4 : Int) : Option (BoxT × Bool) :=
  bif decide (y6 = 2) then
  ((zbt k S J22 (w64 (a2 + 1)) a3 a0 a5 y6 r2 y3 y4))
  else bif decide (y6 = 3) then
  ((zbt k S J22 (w64 (a2 + 1)) a3 a0 a5 y6 r2 y3 y4))
  else bif decide (y3 = 2) then
  ((zbt k S J22 (w64 (a2 + 1)) a3 a0 a5 y6 r2 y3 y4))
  else (bif decide (y3 = 3) then
  ((zbt k S J22 (w64 (a2 + 1)) a3 a0 a5 y6 r2 y3 y4))
  else (zbt k S J22 a2 a3 a0 a5 y6 r2 y3 y4))
def zcp (k : Nat) (S : Int → Int → Int → TreT → (List StyT) → (TreT × (List StyT)) → Option (BoxT × Bool)) (J22 : Int → (TreT × (List StyT)) → (Int × Int × Int × StyT × ByteArray × (List BoxT)) → (Int × Int × Int × StyT × ByteArray × (List BoxT)) → (List Int) → Int → Int → Option (BoxT × Bool)) (y4 : Int) (r2 : StyT) (y3 : Int) (a1 : Int) (a2 : Int) (a3 : TreT) (a0 : Int) (a5 : (TreT × (List StyT))) : Option (BoxT × Bool) :=
  (zhw (zgu (zgv r2 y3) y4) a1).bind fun r5 =>
  (bif decide (4 ≤ a2) then
  bif decide (r5 = 2) then
  ((zde k S J22 1 a2 a3 a0 a5 r2 y3 y4))
  else (bif decide (r5 = 3) then
  ((zde k S J22 1 a2 a3 a0 a5 r2 y3 y4))
  else (zde k S J22 r5 a2 a3 a0 a5 r2 y3 y4))
  else (zde k S J22 r5 a2 a3 a0 a5 r2 y3 y4))
def zan (k : Nat) (S : Int → Int → Int → TreT → (List StyT) → (TreT × (List StyT)) → Option (BoxT × Bool)) (J22 : Int → (TreT × (List StyT)) → (Int × Int × Int × StyT × ByteArray × (List BoxT)) → (Int × Int × Int × StyT × ByteArray × (List BoxT)) → (List Int) → Int → Int → Option (BoxT × Bool)) (y3 : Int) (r2 : StyT) (a1 : Int) (a2 : Int) (a3 : TreT) (a0 : Int) (a5 : (TreT × (List StyT))) : Option (BoxT × Bool) :=
  (bif decide (y3 = 2) then
  ((zcp k S J22 0 r2 y3 a1 a2 a3 a0 a5))
  else bif decide (y3 = 3) then
  ((zcp k S J22 0 r2 y3 a1 a2 a3 a0 a5))
  else (bif decide (a1 = 2) then
  ((zcp k S J22 0 r2 y3 a1 a2 a3 a0 a5))
  else (zcp k S J22 r2.2.2.1 r2 y3 a1 a2 a3 a0 a5)))
def zes (k : Nat) (S : Int → Int → Int → TreT → (List StyT) → (TreT × (List StyT)) → Option (BoxT × Bool)) (J22 : Int → (TreT × (List StyT)) → (Int × Int × Int × StyT × ByteArray × (List BoxT)) → (Int × Int × Int × StyT × ByteArray × (List BoxT)) → (List Int) → Int → Int → Option (BoxT × Bool)) (y12 : (List BoxT)) (a2 : Int) (a5 : (TreT × (List StyT))) (v9 : (Int × Int × Int × StyT × ByteArray × (List BoxT))) (v12 : (Int × Int × Int × StyT × ByteArray × (List BoxT))) (v123 : (List Int)) (v124 : Int) (v125 : Int) : Option (BoxT × Bool) :=
  J22 a2 (a5.1, a5.2) (v9.1, v9.2.1, v9.2.2.1, v9.2.2.2.1, v9.2.2.2.2.1, v9.2.2.2.2.2) (v12.1, v12.2.1, v12.2.2.1, v12.2.2.2.1, v12.2.2.2.2.1, y12) v123 v124 (w64 (v125 + 1))
def zb8 (k : Nat) (S : Int → Int → Int → TreT → (List StyT) → (TreT × (List StyT)) → Option (BoxT × Bool)) : Nat → Int → (TreT × (List StyT)) → (Int × Int × Int × StyT × ByteArray × (List BoxT)) → (Int × Int × Int × StyT × ByteArray × (List BoxT)) → (List Int) → Int → Int → Option (BoxT × Bool)
  | 0, _, _, _, _, _, _, _ => none
  | n + 1, a2, a5, v9, v12, v123, v124, v125 =>
  (bif decide (v125 < v124) then
  ((geti v123 v125).bind fun r9 =>
  ((S r9 v12.1 a2 a5.1 a5.2 (a5.1, a5.2)).bind fun r10 =>
  (bif r10.2 then
  ((appM 448 v12.2.2.2.2.2 ([(Tr.mk r10.1.x r10.1.kids)])).bind fun r11 =>
  (zes k S (zb8 k S n) r11 a2 a5 v9 v12 v123 v124 v125))
  else (zes k S (zb8 k S n) v12.2.2.2.2.2 a2 a5 v9 v12 v123 v124 v125))))
  else ((za8 k (Tr.mk (v12.1, v12.2.1, v12.2.2.1, v12.2.2.2.1, v12.2.2.2.2.1,()) v12.2.2.2.2.2)).bind fun r13 =>
  some ((Tr.mk r13.x r13.kids), true)))
def zid (k : Nat) (S : Int → Int → Int → TreT → (List StyT) → (TreT × (List StyT)) → Option (BoxT × Bool)) (n : Nat) (a0 : Int) (a1 : Int) (a2 : Int) (a3 : TreT) (a4 : (List StyT)) (a5 : (TreT × (List StyT))) : Option (BoxT × Bool) :=
  ((geti a3.1 a0).bind fun r1 =>
  ((geti a4 a0).bind fun r2 =>
  (bif decide (r1.1 = 2) then
  (some ((Tr.mk (7, a0,0, r2, r1.2.2.1,()) ([])), true))
  else (bif decide (r2.1 = 2) then
  (some ((Tr.mk (0,0,0,(0,0,0,0,(0,0,()),(0,0,()),((0,0,()),(0,0,()),(0,0,()),(0,0,()),()),((0,0,()),(0,0,()),(0,0,()),(0,0,()),()),((0,0,()),(0,0,()),(0,0,()),(0,0,()),()),(0,0,0,0,()),0,0,0,0,0, false, false, false, false,0,0,0,0,0,0, false,()),(bs []),()) ([])), false))
  else (bif decide (r1.2.1 = (bs [98,114])) then
  (some ((Tr.mk (8, a0,0, r2,(bs []),()) ([])), true))
  else (bif decide (4 ≤ a2) then
  bif decide (r2.2.1 = 2) then
  ((zan k S (zb8 k S n) 0 r2 a1 a2 a3 a0 a5))
  else (bif decide (r2.2.1 = 3) then
  ((zan k S (zb8 k S n) 0 r2 a1 a2 a3 a0 a5))
  else (zan k S (zb8 k S n) r2.2.1 r2 a1 a2 a3 a0 a5))
  else (zan k S (zb8 k S n) r2.2.1 r2 a1 a2 a3 a0 a5)))))))
def zc1 : Nat → Int → Int → Int → TreT → (List StyT) → (TreT × (List StyT)) → Option (BoxT × Bool)
  | 0, _, _, _, _, _, _ => none
  | k + 1, a0, a1, a2, a3, a4, a5 => zid k (fun a0 a1 a2 a3 a4 a5 => zc1 k a0 a1 a2 a3 a4 a5) k a0 a1 a2 a3 a4 a5
def zmv (k : Nat) : Con := ⟨[.d (.int .i64), .d (.int .i64), .d (.int .i64), .b cTreT, .b (.sl cStyT), .m 32 [cTreT,(.sl cStyT)]],[.d cBoxT, .d .bool], fun x => zc1 k x.1 x.2.1 x.2.2.1 x.2.2.2.1 x.2.2.2.2.1 x.2.2.2.2.2⟩
theorem zo2 : (k : Nat) → ConOk Tryz.prog 32 (zmv k)
  | 0 => con0 ⟨Tryz.f32, rfl, rfl, by decide⟩
  | k + 1 => za7 (ps := [.d (.int .i64), .d (.int .i64), .d (.int .i64), .b cTreT, .b (.sl cStyT), .m 32 [cTreT,(.sl cStyT)]]) (rs := [.d cBoxT, .d .bool]) (fn := Tryz.f32) (E := ⟨tOf tl, gOf [(32, zmv k),(33, zr1),(34, zuo k),(35, zbj k)]⟩) ⟨za9 zae, zaa ⟨zo2 k, zzi, ycb k, zw9 k, trivial⟩, mixedOk⟩ (body := bodyOf Tryz.f32) (pl := [(4,[(0,0),(1,0),(2,0),(3,1),(4,0),(5,1)],[11])]) (M := 400) (cuts := [⟨22,[0,5,4,1,0,1,1,1,1,1,1,1,1,1],[2,5,9,12,123,124,125],[.d (.int .i64), .m 32 [cTreT,(.sl cStyT)], .p [.d (.int .i64), .d (.int .i64), .d (.int .i64), .d cStyT, .d .str, .o 31 cBoxT], .p [.d (.int .i64), .d (.int .i64), .d (.int .i64), .d cStyT, .d .str, .o 31 cBoxT], .d (.sl (.int .i64)), .d (.int .i64), .d (.int .i64)], fun n x => zb8 k (zc1 k) n x.1 x.2.1 x.2.2.1 x.2.2.2.1 x.2.2.2.2.1 x.2.2.2.2.2.1 x.2.2.2.2.2.2,[]⟩]) (entry := fun n x => zid k (zc1 k) n x.1 x.2.1 x.2.2.1 x.2.2.2.1 x.2.2.2.2.1 x.2.2.2.2.2) rfl rfl (by decide) (by kernel_rfl) ⟨⟨fun _ => by kernel_rfl, fun _ _ => by kernel_rfl⟩, trivial⟩ (fun _ _ => by kernel_rfl) k
def zi8 (k : Nat) (S0 : Int → StyT → (List BoxT) → Option BoxT) (S1 : (List BoxT) → StyT → Int → Option (List BoxT)) (S2 : (List BoxT) → StyT → Int → Bool → Option (List BoxT)) (J7 : Int → (List BoxT) → BoxT → StyT → BoxT → Int → Option BoxT) (y5 : (List BoxT)) (a0 : Int) (a2 : (List BoxT)) (r1 : StyT) (r3 : Int) : Option BoxT :=
  J7 a0 a2 (Tr.mk (0,0,0,(0,0,0,0,(0,0,()),(0,0,()),((0,0,()),(0,0,()),(0,0,()),(0,0,()),()),((0,0,()),(0,0,()),(0,0,()),(0,0,()),()),((0,0,()),(0,0,()),(0,0,()),(0,0,()),()),(0,0,0,0,()),0,0,0,0,0, false, false, false, false,0,0,0,0,0,0, false,()),(bs []),()) ([])) (zc2 r1 r3) (Tr.mk (a0,(-1),0,(zc2 r1 r3),(bs []),()) y5) 0
def zbo (k : Nat) (S0 : Int → StyT → (List BoxT) → Option BoxT) (S1 : (List BoxT) → StyT → Int → Option (List BoxT)) (S2 : (List BoxT) → StyT → Int → Bool → Option (List BoxT)) : Nat → Int → (List BoxT) → BoxT → StyT → BoxT → Int → Option BoxT
  | 0, _, _, _, _, _, _ => none
  | n + 1, a0, a2, v6, v7, v8, v9 =>
  bif decide (v9 < (a2.length : Int)) then
  (bif decide (a0 = 5) then
  ((geti a2 v9).bind fun r6 =>
  (ziq (Tr.mk r6.x r6.kids)).bind fun r7 =>
  (bif r7 then
  ((S1 a2 v7 1).bind fun r8 =>
  (some (Tr.mk v8.x r8)))
  else ((zbo k S0 S1 S2 n) a0 a2 (Tr.mk v6.x v6.kids) v7 (Tr.mk v8.x v8.kids) (w64 (v9 + 1)))))
  else (some (Tr.mk v8.x v8.kids)))
  else (some (Tr.mk v8.x v8.kids))
def zj0 (k : Nat) (S0 : Int → StyT → (List BoxT) → Option BoxT) (S1 : (List BoxT) → StyT → Int → Option (List BoxT)) (S2 : (List BoxT) → StyT → Int → Bool → Option (List BoxT)) (n : Nat) (a0 : Int) (a1 : StyT) (a2 : (List BoxT)) : Option BoxT :=
  ((zhk a1 false).bind fun r1 =>
  ((geti ([0,1,0,0,5,6] : List Int) a0).bind fun r2 =>
  (geti ([0,1,0,0,5,6]) a0).bind fun r3 =>
  (bif decide (a0 = 4) then
  ((S1 a2 (zc2 r1 r3) 5).bind fun r4 =>
  (zi8 k S0 S1 S2 (zbo k S0 S1 S2 n) r4 a0 a2 r1 r3))
  else (zi8 k S0 S1 S2 (zbo k S0 S1 S2 n) a2 a0 a2 r1 r3))))
def zol (k : Nat) (S0 : Int → StyT → (List BoxT) → Option BoxT) (S1 : (List BoxT) → StyT → Int → Option (List BoxT)) (S2 : (List BoxT) → StyT → Int → Bool → Option (List BoxT)) (a0 : (List BoxT)) (a1 : StyT) (a2 : Int) : Option (List BoxT) :=
  ((S2 a0 a1 a2 false).bind fun r1 =>
  some r1)
def zfo (k : Nat) (S0 : Int → StyT → (List BoxT) → Option BoxT) (S1 : (List BoxT) → StyT → Int → Option (List BoxT)) (S2 : (List BoxT) → StyT → Int → Bool → Option (List BoxT)) (J3 : (List BoxT) → Int → Bool → StyT → (List BoxT) → (List BoxT) → Int → Option (List BoxT)) (y8 : (List BoxT)) (v11 : Int) (a0 : (List BoxT)) (a2 : Int) (a3 : Bool) (v5 : StyT) : Option (List BoxT) :=
  (bif decide (v11 < (a0.length : Int)) then
  ((geti a0 v11).bind fun r9 =>
  (appM 448 y8 ([(Tr.mk r9.x r9.kids)])).bind fun r10 =>
  (J3 a0 a2 a3 v5 r10 ([]) (w64 (v11 + 1))))
  else (J3 a0 a2 a3 v5 y8 ([]) (w64 (v11 + 1))))
def zi7 (k : Nat) (S0 : Int → StyT → (List BoxT) → Option BoxT) (S1 : (List BoxT) → StyT → Int → Option (List BoxT)) (S2 : (List BoxT) → StyT → Int → Bool → Option (List BoxT)) (J3 : (List BoxT) → Int → Bool → StyT → (List BoxT) → (List BoxT) → Int → Option (List BoxT)) (v10 : (List BoxT)) (a2 : Int) (v5 : StyT) (v9 : (List BoxT)) (v11 : Int) (a0 : (List BoxT)) (a3 : Bool) : Option (List BoxT) :=
  bif decide (0 < (v10.length : Int)) then
  (zrd k v10 (decide (a2 = 1))).bind fun r5 =>
  (bif (!r5) then
  ((S0 a2 v5 v10).bind fun r6 =>
  (appM 448 v9 ([(Tr.mk r6.x r6.kids)])).bind fun r7 =>
  (zfo k S0 S1 S2 J3 r7 v11 a0 a2 a3 v5))
  else (zfo k S0 S1 S2 J3 v9 v11 a0 a2 a3 v5))
  else (zfo k S0 S1 S2 J3 v9 v11 a0 a2 a3 v5)
def zcw (k : Nat) (S0 : Int → StyT → (List BoxT) → Option BoxT) (S1 : (List BoxT) → StyT → Int → Option (List BoxT)) (S2 : (List BoxT) → StyT → Int → Bool → Option (List BoxT)) : Nat → (List BoxT) → Int → Bool → StyT → (List BoxT) → (List BoxT) → Int → Option (List BoxT)
  | 0, _, _, _, _, _, _, _ => none
  | n + 1, a0, a2, a3, v5, v9, v10, v11 =>
  (bif decide (v11 ≤ (a0.length : Int)) then
  (bif decide (v11 < (a0.length : Int)) then
  (geti a0 v11).bind fun r1 =>
  (zd4 (Tr.mk r1.x r1.kids) a2 a3).bind fun r2 =>
  (bif r2 then
  ((geti a0 v11).bind fun r3 =>
  (appM 448 v10 ([(Tr.mk r3.x r3.kids)])).bind fun r4 =>
  ((zcw k S0 S1 S2 n) a0 a2 a3 v5 v9 r4 (w64 (v11 + 1))))
  else (zi7 k S0 S1 S2 (zcw k S0 S1 S2 n) v10 a2 v5 v9 v11 a0 a3))
  else (zi7 k S0 S1 S2 (zcw k S0 S1 S2 n) v10 a2 v5 v9 v11 a0 a3))
  else (some v9))
def zlv (k : Nat) (S0 : Int → StyT → (List BoxT) → Option BoxT) (S1 : (List BoxT) → StyT → Int → Option (List BoxT)) (S2 : (List BoxT) → StyT → Int → Bool → Option (List BoxT)) (n : Nat) (a0 : (List BoxT)) (a1 : StyT) (a2 : Int) (a3 : Bool) : Option (List BoxT) :=
  ((zcw k S0 S1 S2 n) a0 a2 a3 a1 ([]) ([]) 0)
mutual
def zag : Nat → Int → StyT → (List BoxT) → Option BoxT
  | 0, _, _, _ => none
  | k + 1, a0, a1, a2 => zj0 k (zag k) (zaj k) (zax k) k a0 a1 a2
def zaj : Nat → (List BoxT) → StyT → Int → Option (List BoxT)
  | 0, _, _, _ => none
  | k + 1, a0, a1, a2 => zol k (zag k) (zaj k) (zax k) a0 a1 a2
def zax : Nat → (List BoxT) → StyT → Int → Bool → Option (List BoxT)
  | 0, _, _, _, _ => none
  | k + 1, a0, a1, a2, a3 => zlv k (zag k) (zaj k) (zax k) k a0 a1 a2 a3
end
def zhb (k : Nat) : Con := ⟨[.d (.int .i64), .d cStyT, .d (.sl cBoxT)],[.d cBoxT], fun x => zag k x.1 x.2.1 x.2.2⟩
def zf4 (k : Nat) : Con := ⟨[.d (.sl cBoxT), .d cStyT, .d (.int .i64)],[.d (.sl cBoxT)], fun x => zaj k x.1 x.2.1 x.2.2⟩
def zf3 (k : Nat) : Con := ⟨[.d (.sl cBoxT), .d cStyT, .d (.int .i64), .d .bool],[.d (.sl cBoxT)], fun x => zax k x.1 x.2.1 x.2.2.1 x.2.2.2⟩
theorem zb7 : (k : Nat) → ConOk Tryz.prog 107 (zhb k) ∧ ConOk Tryz.prog 71 (zf4 k) ∧ ConOk Tryz.prog 72 (zf3 k)
  | 0 => ⟨con0 ⟨Tryz.f107, rfl, rfl, by decide⟩, con0 ⟨Tryz.f71, rfl, rfl, by decide⟩, con0 ⟨Tryz.f72, rfl, rfl, by decide⟩⟩
  | k + 1 => ⟨za7 (ps := [.d (.int .i64), .d cStyT, .d (.sl cBoxT)]) (rs := [.d cBoxT]) (fn := Tryz.f107) (E := ⟨tOf tl, gOf [(107, zhb k),(71, zf4 k),(72, zf3 k),(26, zl2),(77, zl5)]⟩) ⟨za9 zae, zaa ⟨(zb7 k).1,(zb7 k).2.1,(zb7 k).2.2, zql, zqo, trivial⟩, mixedOk⟩ (body := bodyOf Tryz.f107) (pl := []) (M := 400) (cuts := [⟨7,[0,0,5,4,1,0,1,1,1,1,1],[0,2,6,7,8,9],[.d (.int .i64), .d (.sl cBoxT), .p [.d cBoxT], .p [.d cStyT], .p [.d cBoxT], .d (.int .i64)], fun n x => zbo k (zag k) (zaj k) (zax k) n x.1 x.2.1 x.2.2.1 x.2.2.2.1 x.2.2.2.2.1 x.2.2.2.2.2,[]⟩]) (entry := fun n x => zj0 k (zag k) (zaj k) (zax k) n x.1 x.2.1 x.2.2) rfl rfl (by decide) (by kernel_rfl) ⟨⟨fun _ => by kernel_rfl, fun _ _ => by kernel_rfl⟩, trivial⟩ (fun _ _ => by kernel_rfl) k,
    za7 (ps := [.d (.sl cBoxT), .d cStyT, .d (.int .i64)]) (rs := [.d (.sl cBoxT)]) (fn := Tryz.f71) (E := ⟨tOf tl, gOf [(107, zhb k),(71, zf4 k),(72, zf3 k)]⟩) ⟨za9 zae, zaa ⟨(zb7 k).1,(zb7 k).2.1,(zb7 k).2.2, trivial⟩, mixedOk⟩ (body := bodyOf Tryz.f71) (pl := []) (M := 400) (cuts := []) (entry := fun n x => zol k (zag k) (zaj k) (zax k) x.1 x.2.1 x.2.2) rfl rfl (by decide) (by kernel_rfl) trivial (fun _ _ => by kernel_rfl) k,
    za7 (ps := [.d (.sl cBoxT), .d cStyT, .d (.int .i64), .d .bool]) (rs := [.d (.sl cBoxT)]) (fn := Tryz.f72) (E := ⟨tOf tl, gOf [(107, zhb k),(71, zf4 k),(72, zf3 k),(105, zok),(106, zoo k)]⟩) ⟨za9 zae, zaa ⟨(zb7 k).1,(zb7 k).2.1,(zb7 k).2.2, zwl, zwn k, trivial⟩, mixedOk⟩ (body := bodyOf Tryz.f72) (pl := []) (M := 400) (cuts := [⟨3,[0,0,5,4,1,0,1,1],[0,2,3,5,9,10,11],[.d (.sl cBoxT), .d (.int .i64), .d .bool, .p [.d cStyT], .o 44 cBoxT, .o 44 cBoxT, .d (.int .i64)], fun n x => zcw k (zag k) (zaj k) (zax k) n x.1 x.2.1 x.2.2.1 x.2.2.2.1 x.2.2.2.2.1 x.2.2.2.2.2.1 x.2.2.2.2.2.2,[]⟩]) (entry := fun n x => zlv k (zag k) (zaj k) (zax k) n x.1 x.2.1 x.2.2.1 x.2.2.2) rfl rfl (by decide) (by kernel_rfl) ⟨⟨fun _ => by kernel_rfl, fun _ _ => by kernel_rfl⟩, trivial⟩ (fun _ _ => by kernel_rfl) k⟩
theorem zyl (k : Nat) : ConOk Tryz.prog 71 (zf4 k) := (zb7 k).2.1
theorem zyk (k : Nat) : ConOk Tryz.prog 72 (zf3 k) := (zb7 k).2.2
def zcc (k : Nat) (S : TreT → (List StyT) → Int → Int → Int → Option (BoxT × Bool)) (J21 : (List StyT) → Int → TreT → (Int × Int × Int × StyT × ByteArray × (List BoxT)) → StyT → (Int × Int × Int × StyT × ByteArray × (List BoxT)) → (List Int) → Bool → Int → Option (BoxT × Bool)) (y7 : Int) (a0 : TreT) (a2 : Int) (a1 : (List StyT)) (r2 : StyT) (y3 : Int) (y4 : Int) (y6 : Int) : Option (BoxT × Bool) :=
  (zsh k a0 a2).bind fun r8 =>
  (J21 a1 y7 a0 (0,0,0,(0,0,0,0,(0,0,()),(0,0,()),((0,0,()),(0,0,()),(0,0,()),(0,0,()),()),((0,0,()),(0,0,()),(0,0,()),(0,0,()),()),((0,0,()),(0,0,()),(0,0,()),(0,0,()),()),(0,0,0,0,()),0,0,0,0,0, false, false, false, false,0,0,0,0,0,0, false,()),(bs []),[]) (zgu (zgv r2 y3) y4) (y6, a2,0,(zgu (zgv r2 y3) y4),(bs []),[]) r8 false 0)
def zf5 (k : Nat) (S : TreT → (List StyT) → Int → Int → Int → Option (BoxT × Bool)) (J21 : (List StyT) → Int → TreT → (Int × Int × Int × StyT × ByteArray × (List BoxT)) → StyT → (Int × Int × Int × StyT × ByteArray × (List BoxT)) → (List Int) → Bool → Int → Option (BoxT × Bool)) (y6 : Int) (a4 : Int) (a0 : TreT) (a2 : Int) (a1 : (List StyT)) (r2 : StyT) (y3 : Int) (y4 : Int) : Option (BoxT × Bool) :=
  bif decide (y6 = 2) then
  ((zcc k S J21 (w64 (a4 + 1)) a0 a2 a1 r2 y3 y4 y6))
  else bif decide (y6 = 3) then
  ((zcc k S J21 (w64 (a4 + 1)) a0 a2 a1 r2 y3 y4 y6))
  else bif decide (y3 = 2) then
  ((zcc k S J21 (w64 (a4 + 1)) a0 a2 a1 r2 y3 y4 y6))
  else (bif decide (y3 = 3) then
  ((zcc k S J21 (w64 (a4 + 1)) a0 a2 a1 r2 y3 y4 y6))
  else (zcc k S J21 a4 a0 a2 a1 r2 y3 y4 y6))
def zdu (k : Nat) (S : TreT → (List StyT) → Int → Int → Int → Option (BoxT × Bool)) (J21 : (List StyT) → Int → TreT → (Int × Int × Int × StyT × ByteArray × (List BoxT)) → StyT → (Int × Int × Int × StyT × ByteArray × (List BoxT)) → (List Int) → Bool → Int → Option (BoxT × Bool)) (y4 : Int) (r2 : StyT) (y3 : Int) (a3 : Int) (a4 : Int) (a0 : TreT) (a2 : Int) (a1 : (List StyT)) : Option (BoxT × Bool) :=
  (zhr (zgu (zgv r2 y3) y4) a3).bind fun r5 =>
  (bif decide (4 ≤ a4) then
  bif decide (r5 = 2) then
  ((zf5 k S J21 1 a4 a0 a2 a1 r2 y3 y4))
  else (bif decide (r5 = 3) then
  ((zf5 k S J21 1 a4 a0 a2 a1 r2 y3 y4))
  else (zf5 k S J21 r5 a4 a0 a2 a1 r2 y3 y4))
  else (zf5 k S J21 r5 a4 a0 a2 a1 r2 y3 y4))
def zaw (k : Nat) (S : TreT → (List StyT) → Int → Int → Int → Option (BoxT × Bool)) (J21 : (List StyT) → Int → TreT → (Int × Int × Int × StyT × ByteArray × (List BoxT)) → StyT → (Int × Int × Int × StyT × ByteArray × (List BoxT)) → (List Int) → Bool → Int → Option (BoxT × Bool)) (y3 : Int) (r2 : StyT) (a3 : Int) (a4 : Int) (a0 : TreT) (a2 : Int) (a1 : (List StyT)) : Option (BoxT × Bool) :=
  bif decide (y3 = 2) then
  ((zdu k S J21 0 r2 y3 a3 a4 a0 a2 a1))
  else bif decide (y3 = 3) then
  ((zdu k S J21 0 r2 y3 a3 a4 a0 a2 a1))
  else (bif decide (a3 = 2) then
  ((zdu k S J21 0 r2 y3 a3 a4 a0 a2 a1))
  else (zdu k S J21 r2.2.2.1 r2 y3 a3 a4 a0 a2 a1))
def ze4 (k : Nat) (S : TreT → (List StyT) → Int → Int → Int → Option (BoxT × Bool)) (J21 : (List StyT) → Int → TreT → (Int × Int × Int × StyT × ByteArray × (List BoxT)) → StyT → (Int × Int × Int × StyT × ByteArray × (List BoxT)) → (List Int) → Bool → Int → Option (BoxT × Bool)) (y13 : Bool) (y14 : (List BoxT)) (a1 : (List StyT)) (a4 : Int) (v5 : TreT) (v10 : (Int × Int × Int × StyT × ByteArray × (List BoxT))) (v13 : StyT) (v14 : (Int × Int × Int × StyT × ByteArray × (List BoxT))) (v15 : (List Int)) (v17 : Int) : Option (BoxT × Bool) :=
  J21 a1 a4 v5 (v10.1, v10.2.1, v10.2.2.1, v10.2.2.2.1, v10.2.2.2.2.1, v10.2.2.2.2.2) v13 (v14.1, v14.2.1, v14.2.2.1, v14.2.2.2.1, v14.2.2.2.2.1, y14) v15 y13 (w64 (v17 + 1))
def zg5 (k : Nat) (S : TreT → (List StyT) → Int → Int → Int → Option (BoxT × Bool)) (y15 : Int) (v14 : (Int × Int × Int × StyT × ByteArray × (List BoxT))) : Option (BoxT × Bool) :=
  some ((Tr.mk (y15, v14.2.1, v14.2.2.1, v14.2.2.2.1, v14.2.2.2.2.1,()) v14.2.2.2.2.2), true)
def zg7 (k : Nat) (S : TreT → (List StyT) → Int → Int → Int → Option (BoxT × Bool)) (v16 : Bool) (v14 : (Int × Int × Int × StyT × ByteArray × (List BoxT))) (v13 : StyT) (y15 : Int) : Option (BoxT × Bool) :=
  (bif v16 then
  ((zaj k v14.2.2.2.2.2 v13 1).bind fun r18 =>
  (some ((Tr.mk (y15, v14.2.1, v14.2.2.1, v14.2.2.2.1, v14.2.2.2.2.1,()) r18), true)))
  else (zg5 k S y15 v14))
def zg6 (k : Nat) (S : TreT → (List StyT) → Int → Int → Int → Option (BoxT × Bool)) (y15 : Int) (v14 : (Int × Int × Int × StyT × ByteArray × (List BoxT))) (v13 : StyT) : Option (BoxT × Bool) :=
  (bif decide (y15 = 2) then
  ((zax k v14.2.2.2.2.2 v13 1 true).bind fun r19 =>
  (some ((Tr.mk (y15, v14.2.1, v14.2.2.1, v14.2.2.2.1, v14.2.2.2.2.1,()) r19), true)))
  else (zg5 k S y15 v14))
def zbv (k : Nat) (S : TreT → (List StyT) → Int → Int → Int → Option (BoxT × Bool)) (y15 : Int) (v14 : (Int × Int × Int × StyT × ByteArray × (List BoxT))) (v13 : StyT) (v16 : Bool) : Option (BoxT × Bool) :=
  (bif decide (y15 = 3) then
  ((zaj k v14.2.2.2.2.2 v13 4).bind fun r16 =>
  (some ((Tr.mk (y15, v14.2.1, v14.2.2.1, v14.2.2.2.1, v14.2.2.2.2.1,()) r16), true)))
  else (bif decide (y15 = 4) then
  ((zaj k v14.2.2.2.2.2 v13 5).bind fun r17 =>
  (some ((Tr.mk (y15, v14.2.1, v14.2.2.1, v14.2.2.2.1, v14.2.2.2.2.1,()) r17), true)))
  else (bif decide (y15 = 1) then
  (bif decide (y15 = 1) then
  (zg7 k S v16 v14 v13 y15)
  else (zg6 k S y15 v14 v13))
  else (bif decide (y15 = 5) then
  (zg7 k S v16 v14 v13 y15)
  else (zg6 k S y15 v14 v13)))))
def zbh (k : Nat) (S : TreT → (List StyT) → Int → Int → Int → Option (BoxT × Bool)) : Nat → (List StyT) → Int → TreT → (Int × Int × Int × StyT × ByteArray × (List BoxT)) → StyT → (Int × Int × Int × StyT × ByteArray × (List BoxT)) → (List Int) → Bool → Int → Option (BoxT × Bool)
  | 0, _, _, _, _, _, _, _, _, _ => none
  | n + 1, a1, a4, v5, v10, v13, v14, v15, v16, v17 =>
  (bif decide (v17 < (v15.length : Int)) then
  ((geti v15 v17).bind fun r9 =>
  (S v5 a1 r9 v14.1 a4).bind fun r10 =>
  (bif r10.2 then
  ((appM 448 v14.2.2.2.2.2 ([(Tr.mk r10.1.x r10.1.kids)])).bind fun r11 =>
  (bif v16 then
  (ze4 k S (zbh k S n) true r11 a1 a4 v5 v10 v13 v14 v15 v17)
  else (ziq (Tr.mk r10.1.x r10.1.kids)).bind fun r12 =>
  (ze4 k S (zbh k S n) r12 r11 a1 a4 v5 v10 v13 v14 v15 v17)))
  else (ze4 k S (zbh k S n) v16 v14.2.2.2.2.2 a1 a4 v5 v10 v13 v14 v15 v17)))
  else (bif decide (v14.1 = 6) then
  (bif v16 then
  (zbv k S 1 v14 v13 v16)
  else (zbv k S v14.1 v14 v13 v16))
  else (zbv k S v14.1 v14 v13 v16)))
def zjx (k : Nat) (S : TreT → (List StyT) → Int → Int → Int → Option (BoxT × Bool)) (n : Nat) (a0 : TreT) (a1 : (List StyT)) (a2 : Int) (a3 : Int) (a4 : Int) : Option (BoxT × Bool) :=
  ((geti a0.1 a2).bind fun r1 =>
  ((geti a1 a2).bind fun r2 =>
  (bif decide (r1.1 = 2) then
  (some ((Tr.mk (7, a2,0, r2, r1.2.2.1,()) ([])), true))
  else (bif decide (r2.1 = 2) then
  (some ((Tr.mk (0,0,0,(0,0,0,0,(0,0,()),(0,0,()),((0,0,()),(0,0,()),(0,0,()),(0,0,()),()),((0,0,()),(0,0,()),(0,0,()),(0,0,()),()),((0,0,()),(0,0,()),(0,0,()),(0,0,()),()),(0,0,0,0,()),0,0,0,0,0, false, false, false, false,0,0,0,0,0,0, false,()),(bs []),()) ([])), false))
  else (bif decide (r1.2.1 = (bs [98,114])) then
  (some ((Tr.mk (8, a2,0, r2,(bs []),()) ([])), true))
  else (bif decide (4 ≤ a4) then
  bif decide (r2.2.1 = 2) then
  ((zaw k S (zbh k S n) 0 r2 a3 a4 a0 a2 a1))
  else (bif decide (r2.2.1 = 3) then
  ((zaw k S (zbh k S n) 0 r2 a3 a4 a0 a2 a1))
  else (zaw k S (zbh k S n) r2.2.1 r2 a3 a4 a0 a2 a1))
  else (zaw k S (zbh k S n) r2.2.1 r2 a3 a4 a0 a2 a1)))))))
def zbd : Nat → TreT → (List StyT) → Int → Int → Int → Option (BoxT × Bool)
  | 0, _, _, _, _, _ => none
  | k + 1, a0, a1, a2, a3, a4 => zjx k (fun a0 a1 a2 a3 a4 => zbd k a0 a1 a2 a3 a4) k a0 a1 a2 a3 a4
def zon (k : Nat) : Con := ⟨[.d cTreT, .d (.sl cStyT), .d (.int .i64), .d (.int .i64), .d (.int .i64)],[.d cBoxT, .d .bool], fun x => zbd k x.1 x.2.1 x.2.2.1 x.2.2.2.1 x.2.2.2.2⟩
theorem zqk : (k : Nat) → ConOk Tryz.prog 39 (zon k)
  | 0 => con0 ⟨Tryz.f39, rfl, rfl, by decide⟩
  | k + 1 => za7 (ps := [.d cTreT, .d (.sl cStyT), .d (.int .i64), .d (.int .i64), .d (.int .i64)]) (rs := [.d cBoxT, .d .bool]) (fn := Tryz.f39) (E := ⟨tOf tl, gOf [(39, zon k),(26, zl2),(69, zqj),(70, zsg k),(71, zf4 k),(72, zf3 k)]⟩) ⟨za9 zae, zaa ⟨zqk k, zql, zym, ya9 k, zyl k, zyk k, trivial⟩, mixedOk⟩ (body := bodyOf Tryz.f39) (pl := [(13,[(0,0),(1,0),(2,0),(3,0),(4,0),(5,0),(6,1),(7,1)],[13]),(23,[(0,0),(1,0),(2,0),(3,0),(4,0),(5,0),(6,0),(7,0),(8,0),(1013,0),(9,1),(10,1),(11,0),(12,0),(1013,1),(14,1),(15,0)],[5,14])]) (M := 400) (cuts := [⟨21,[0,0,5,4,1,0,1,1,1,1,1,1,1,1,1,1,1,1,1],[1,4,5,10,13,14,15,16,17],[.d (.sl cStyT), .d (.int .i64), .p [.d cTreT], .p [.d (.int .i64), .d (.int .i64), .d (.int .i64), .d cStyT, .d .str, .o 44 cBoxT], .p [.d cStyT], .p [.d (.int .i64), .d (.int .i64), .d (.int .i64), .d cStyT, .d .str, .o 44 cBoxT], .d (.sl (.int .i64)), .d .bool, .d (.int .i64)], fun n x => zbh k (zbd k) n x.1 x.2.1 x.2.2.1 x.2.2.2.1 x.2.2.2.2.1 x.2.2.2.2.2.1 x.2.2.2.2.2.2.1 x.2.2.2.2.2.2.2.1 x.2.2.2.2.2.2.2.2,[]⟩]) (entry := fun n x => zjx k (zbd k) n x.1 x.2.1 x.2.2.1 x.2.2.2.1 x.2.2.2.2) rfl rfl (by decide) (by kernel_rfl) ⟨⟨fun _ => by kernel_rfl, fun _ _ => by kernel_rfl⟩, trivial⟩ (fun _ _ => by kernel_rfl) k
def zz1 (k : Nat) (S : BoxT → Option ByteArray) : Nat → BoxT → ByteArray → Int → Option ByteArray
  | 0, _, _, _ => none
  | n + 1, v1, v3, v4 =>
  (bif decide (v4 < (v1.kids.length : Int)) then
  ((geti v1.kids v4).bind fun r1 =>
  (S (Tr.mk r1.x r1.kids)).bind fun r2 =>
  (addS v3 r2).bind fun r3 =>
  ((zz1 k S n) (Tr.mk v1.x v1.kids) r3 (w64 (v4 + 1))))
  else (some v3))
def zmd (k : Nat) (S : BoxT → Option ByteArray) (J10 : BoxT → ByteArray → Int → Option ByteArray) (y4 : ByteArray) (a0 : BoxT) : Option ByteArray :=
  (bif decide ((a0.kids.length : Int) = 0) then
  (some y4)
  else ((addS y4 (bs [40])).bind fun r5 =>
  (J10 (Tr.mk a0.x a0.kids) r5 0)))
def zqu (k : Nat) (S : BoxT → Option ByteArray) (J10 : BoxT → ByteArray → Int → Option ByteArray) (y1 : ByteArray) (a0 : BoxT) : Option ByteArray :=
  bif decide (1 ≤ a0.x.1) then
  (bif decide (a0.x.1 ≤ 8) then
  ((cutS (bs [66,70,84,82,67,105,99,98]) (w64 (a0.x.1 - 1)) a0.x.1).bind fun r2 =>
  (addS y1 r2).bind fun r3 =>
  (zmd k S J10 r3 a0))
  else (zmd k S J10 y1 a0))
  else (zmd k S J10 y1 a0)
def zj7 (k : Nat) (S : BoxT → Option ByteArray) : Nat → BoxT → ByteArray → Int → Option ByteArray
  | 0, _, _, _ => none
  | n + 1, v1, v3, v4 =>
  (bif decide (v4 < (v1.kids.length : Int)) then
  ((geti v1.kids v4).bind fun r6 =>
  (S (Tr.mk r6.x r6.kids)).bind fun r7 =>
  (addS v3 r7).bind fun r8 =>
  ((zj7 k S n) (Tr.mk v1.x v1.kids) r8 (w64 (v4 + 1))))
  else ((addS v3 (bs [41])).bind fun r9 =>
  some r9))
def zsv (k : Nat) (S : BoxT → Option ByteArray) (n : Nat) (a0 : BoxT) : Option ByteArray :=
  (bif decide (a0.x.2.1 < 0) then
  (zqu k S (zj7 k S n) (bs [63]) a0)
  else (zqu k S (zj7 k S n) (bs []) a0))
def zl9 : Nat → BoxT → Option ByteArray
  | 0, _ => none
  | k + 1, a0 => zsv k (fun a0 => zl9 k a0) k a0
def zl8 (k : Nat) : Con := ⟨[.d cBoxT],[.d .str], fun x => zl9 k x⟩
theorem zqt : (k : Nat) → ConOk Tryz.prog 37 (zl8 k)
  | 0 => con0 ⟨Tryz.f37, rfl, rfl, by decide⟩
  | k + 1 => za7 (ps := [.d cBoxT]) (rs := [.d .str]) (fn := Tryz.f37) (E := ⟨tOf tl, gOf [(37, zl8 k)]⟩) ⟨za9 zae, zaa ⟨zqt k, trivial⟩, mixedOk⟩ (body := bodyOf Tryz.f37) (pl := []) (M := 400) (cuts := [⟨10,[0,0,5,4,1,0,1,1,1,1,1,1],[1,3,4],[.p [.d cBoxT], .d .str, .d (.int .i64)], fun n x => zj7 k (zl9 k) n x.1 x.2.1 x.2.2,[]⟩]) (entry := fun n x => zsv k (zl9 k) n x) rfl rfl (by decide) (by kernel_rfl) ⟨⟨fun _ => by kernel_rfl, fun _ _ => by kernel_rfl⟩, trivial⟩ (fun _ _ => by kernel_rfl) k
end Go.V
