/-
  Walks and laws of this seat.
-/
import Derived.Test.YtdjjeahiomackaaGreatM1
import Derived.Test.YtdjjeahiomackaaGreatT6
import Derived.Test.YtdjjeahiomackaaGreatL6da
import Derived.Test.YtdjjeahiomackaaGreatBash
namespace Go.Proofs.YtdjjeahiomackaaGreat
set_option linter.unusedVariables false
set_option linter.unusedSimpArgs false
set_option linter.unusedSectionVars false
open Go.RowKit Go.Sl Go.V
variable [F0]
theorem RWg {α β : Type} {t : Ty α} {u : Ty β} {g : α → β} {f : Fz} (h : ∀ r x, t.R f r x ↔ u.R f r (g x)) : ∀ {_rows : List (List Value)} {_xs : List α}, RW t f _rows _xs ↔ RW u f _rows (_xs.map g)
  | [],[] => Iff.rfl
  | r :: rows, x :: xs => ⟨fun ⟨h1, h2⟩ => ⟨(h r x).1 h1,(RWg h).1 h2⟩, fun ⟨h1, h2⟩ => ⟨(h r x).2 h1,(RWg h).2 h2⟩⟩
  | [], _ :: _ => Iff.rfl
  | _ :: _,[] => Iff.rfl
theorem TSg {c : TC} {β : Type} {u : Ty β} {g : c.T → β} {f : Fz} {v : Value} {xs : List c.T} (hz : c.fz f = f) (hw : ∀ v, c.wh f v) (hk : u.k = c.k) (h : ∀ r x, c.R f r x ↔ u.R f r (g x)) : TS c f v xs ↔ RS u f v (xs.map g) :=
  ⟨fun ⟨rows, h1, h2⟩ => ⟨rows, hk ▸ (hz ▸ h1.1),(RWg (t := c.ty) h).1 h2⟩, fun ⟨rows, h1, h2⟩ => ⟨rows, ⟨hz.symm ▸ (hk ▸ h1), hw v⟩, (RWg (t := c.ty) h).2 h2⟩⟩
def toA (x : AttT) : zam := ⟨x.1, x.2.1⟩
def ofA (x : zam) : AttT := (x.Name, x.Value,())
def toN (x : NodT) : zal := ⟨x.1, x.2.1, x.2.2.1, x.2.2.2.1.map toA, x.2.2.2.2.1, x.2.2.2.2.2.1, x.2.2.2.2.2.2.1, x.2.2.2.2.2.2.2.1, x.2.2.2.2.2.2.2.2.1⟩
def ofN (x : zal) : NodT := (x.Kind, x.Name, x.Text, x.Attrs.map ofA, x.Parent, x.First, x.Last, x.Prev, x.Next,())
def toT (x : TreT) : zad := ⟨x.1.map toN⟩
def ofT (x : zad) : TreT := (x.Nodes.map ofN,())
def toK (x : TokT) : za4 := ⟨x.1, x.2.1, x.2.2.1, x.2.2.2.1.map toA, x.2.2.2.2.1⟩
def ofK (x : za4) : TokT := (x.Kind, x.Name, x.Text, x.Attrs.map ofA, x.Closed,())
theorem mapA (l : List zam) : (l.map ofA).map toA = l := by rw [List.map_map]; exact List.map_id l
theorem toN_of (x : zal) : toN (ofN x) = x := by show (⟨_, _, _,(x.Attrs.map ofA).map toA, _, _, _, _, _⟩ : zal) = x; rw [mapA]; rfl
theorem mapN (l : List zal) : (l.map ofN).map toN = l := by
  rw [List.map_map]
  exact (List.map_congr_left fun x _ => toN_of x).trans (List.map_id l)
theorem toT_of (x : zad) : toT (ofT x) = x := by show (⟨(x.Nodes.map ofN).map toN⟩ : zad) = x; rw [mapN]
theorem att_R {f : Fz} {r : List Value} {x : AttT} : cAttT.R f r x ↔ zch.R f r (toA x) := ⟨fun h => by
  obtain ⟨_, _, rfl, rfl, _, _, rfl, rfl, rfl⟩ := h
  rfl, fun h => by
  obtain rfl := (h : r = _)
  exact ⟨[_], _, rfl, rfl,[_], _, rfl, rfl, rfl⟩⟩
theorem att_S {f : Fz} {v : Value} {xs : List AttT} : TS cAttT f v xs ↔ RS zch f v (xs.map toA) := TSg rfl (fun _ => trivial) rfl fun _ _ => att_R
theorem att_L {f : Fz} {r : List Value} {xs : List AttT} : (TC.sl cAttT).R f r xs ↔ ∃ v, r = [v] ∧ RS zch f v (xs.map toA) := ⟨fun ⟨v, h1, rows, h2, h3⟩ => ⟨v, h1, att_S.1 ⟨rows, h2, zdc.1 h3⟩⟩, fun ⟨v, h1, h2⟩ => by
  obtain ⟨rows, h3, h4⟩ := att_S.2 h2
  exact ⟨v, h1, rows, h3, zdc.2 h4⟩⟩
theorem nod_R {f : Fz} {r : List Value} {x : NodT} : cNodT.R f r x ↔ zcg.R f r (toN x) := ⟨fun h => by
  obtain ⟨_, _, rfl, rfl, _, _, rfl, rfl, _, _, rfl, rfl, _, _, rfl, h4, _, _, rfl, rfl, _, _, rfl, rfl, _, _, rfl, rfl, _, _, rfl, rfl, _, _, rfl, rfl, rfl⟩ := h
  obtain ⟨v, rfl, hv⟩ := att_L.1 h4
  exact ⟨v, rfl, hv⟩, fun h => by
  obtain ⟨v, rfl, hv⟩ := h
  exact ⟨[_], _, rfl, rfl,[_], _, rfl, rfl,[_], _, rfl, rfl,[_], _, rfl, att_L.2 ⟨v, rfl, hv⟩, [_], _, rfl, rfl,[_], _, rfl, rfl,[_], _, rfl, rfl,[_], _, rfl, rfl,[_], _, rfl, rfl, rfl⟩⟩
theorem nod_S {f : Fz} {v : Value} {xs : List NodT} : TS cNodT f v xs ↔ RS zcg f v (xs.map toN) := TSg rfl (fun _ => trivial) rfl fun _ _ => nod_R
theorem tre_R {f : Fz} {r : List Value} {x : TreT} : cTreT.R f r x ↔ zih.R f r (toT x) := ⟨fun h => by
  obtain ⟨_, _, rfl, ⟨v, rfl, rows, h1, h2⟩, rfl⟩ := h
  exact ⟨v, rfl, nod_S.1 ⟨rows, h1, zdc.1 h2⟩⟩, fun h => by
  obtain ⟨v, rfl, hv⟩ := h
  obtain ⟨rows, h1, h2⟩ := nod_S.2 hv
  exact ⟨[v],[], rfl, ⟨v, rfl, rows, h1, zdc.2 h2⟩, rfl⟩⟩
theorem tok_R {f : Fz} {r : List Value} {x : TokT} : cTokT.R f r x ↔ zaf.R f r (toK x) := ⟨fun h => by
  obtain ⟨_, _, rfl, rfl, _, _, rfl, rfl, _, _, rfl, rfl, _, _, rfl, h4, _, _, rfl, rfl, rfl⟩ := h
  obtain ⟨v, rfl, hv⟩ := att_L.1 h4
  exact ⟨v, rfl, hv⟩, fun h => by
  obtain ⟨v, rfl, hv⟩ := h
  exact ⟨[_], _, rfl, rfl,[_], _, rfl, rfl,[_], _, rfl, rfl,[_], _, rfl, att_L.2 ⟨v, rfl, hv⟩, [_], _, rfl, rfl, rfl⟩⟩
theorem tok_S {f : Fz} {v : Value} {xs : List TokT} : TS cTokT f v xs ↔ RS zaf f v (xs.map toK) := TSg rfl (fun _ => trivial) rfl fun _ _ => tok_R
theorem run_S {f : Fz} {v : Value} {xs : List Int} : TS (.int .i32) f v xs ↔ RS (tInt .i32) f v xs :=
  ⟨fun ⟨rows, h1, h2⟩ => ⟨rows, h1.1, by simpa using (RWg (t := (TC.int .i32).ty) (u := tInt .i32) (g := id) fun _ _ => Iff.rfl).1 h2⟩, fun ⟨rows, h1, h2⟩ => ⟨rows, ⟨h1, trivial⟩, (RWg (t := (TC.int .i32).ty) (u := tInt .i32) (g := id) fun _ _ => Iff.rfl).2 (by simpa using h2)⟩⟩
end Go.Proofs.YtdjjeahiomackaaGreat
namespace Go.V
set_option linter.unusedVariables false
set_option linter.unusedSimpArgs false
set_option linter.unusedSectionVars false
section
open Go.RowKit Go.Sl Go.Proofs Go.Proofs.YtdjjeahiomackaaGreat
variable [F0]
theorem con_d1 {P : Go.Program} {g : Nat} {c c' : TC} {m : c.T → Option c'.T} (hh : Has P g) (val : c'.T → Go.Value) (hv : ∀ f y, VR f (fun _ => none) (c'.v y) (val y)) (h : ∀ (x : c.T) (y : c'.T), m x = some y → ∀ (f : Fz) (v : Go.Value), VR f (fun _ => none) (c.v x) v → Gives P g [v] f (val y)) : ConOk P g ⟨[.d c],[.d c'], m⟩ := by
  refine ⟨hh, fun x y hm f vs es hf0 hM => ?_⟩
  obtain ⟨v, rfl, hx, rfl⟩ := hM
  exact (h x y hm f v hx).does.mono fun u f' L' ⟨h1, h2, h3⟩ => ⟨[val y],[val y], rfl, h1, rfl, val y, rfl, hv f' y, h3⟩
def dom_alone (k : Nat) (x : NodT) : Option Bool := YtdjjeahiomackaaGreat.dom_alone k (toN x)
def zlq (k : Nat) : Con := ⟨[.d cNodT],[.d .bool], fun x => dom_alone k x⟩
set_option maxRecDepth 100000 in
theorem dom_alone_ok (k : Nat) : ConOk Tryz.prog 83 (zlq k) :=
  con_d1 ⟨Tryz.f83, rfl, rfl, by decide⟩ (fun b => .bool b) (fun f y => rfl) fun x y hm f v hv => by
    obtain ⟨r, h1, rfl⟩ := TC.vR.1 hv
    exact YtdjjeahiomackaaGreat.dom_alone_ok k (nod_R.1 h1) hm
end
section
variable [F0]
set_option maxRecDepth 100000
open Go.RowKit Go.Sl Go.Proofs
def zd8 (k : Nat) (J7 : TreT → (List Int) → (List Int) → (List NodT) → Int → Int → Option Bool) (v5 : (List Int)) (v7 : NodT) (v4 : (List Int)) (v6 : Int) (v1 : TreT) (v38 : (List NodT)) (v39 : Int) (v40 : Int) : Option Bool :=
  (geti v5 v7.2.2.2.2.1).bind fun r16 =>
  (geti v5 v7.2.2.2.2.1).bind fun r17 =>
  (bif decide (v7.1 = 1) then
  ((appM 8 v4 ([v6])).bind fun r18 =>
  (J7 v1 r18 (v5.set v7.2.2.2.2.1.toNat v6) v38 v39 (w64 (v40 + 1))))
  else (J7 v1 v4 (v5.set v7.2.2.2.2.1.toNat v6) v38 v39 (w64 (v40 + 1))))
def zem (k : Nat) (J7 : TreT → (List Int) → (List Int) → (List NodT) → Int → Int → Option Bool) (v4 : (List Int)) (v5 : (List Int)) (v7 : NodT) (v1 : TreT) (v6 : Int) (v38 : (List NodT)) (v39 : Int) (v40 : Int) : Option Bool :=
  bif decide ((v4.length : Int) = 0) then
  (some false)
  else (geti v5 v7.2.2.2.2.1).bind fun r11 =>
  (geti v5 v7.2.2.2.2.1).bind fun r12 =>
  (bif decide (v7.2.2.2.2.2.2.2.1 ≠ r12) then
  (some false)
  else (bif decide (v7.2.2.2.2.2.2.2.1 = (-1)) then
  (geti v1.1 v7.2.2.2.2.1).bind fun r13 =>
  bif decide (r13.2.2.2.2.2.1 ≠ v6) then
  (some false)
  else bif decide (v7.2.2.2.2.2.2.2.1 ≠ (-1)) then
  (geti v1.1 v7.2.2.2.2.2.2.2.1).bind fun r14 =>
  (bif decide (r14.2.2.2.2.2.2.2.2.1 ≠ v6) then
  (some false)
  else (zd8 k J7 v5 v7 v4 v6 v1 v38 v39 v40))
  else (zd8 k J7 v5 v7 v4 v6 v1 v38 v39 v40)
  else bif decide (v7.2.2.2.2.2.2.2.1 ≠ (-1)) then
  (geti v1.1 v7.2.2.2.2.2.2.2.1).bind fun r15 =>
  (bif decide (r15.2.2.2.2.2.2.2.2.1 ≠ v6) then
  (some false)
  else (zd8 k J7 v5 v7 v4 v6 v1 v38 v39 v40))
  else (zd8 k J7 v5 v7 v4 v6 v1 v38 v39 v40)))
mutual
def zbk (k : Nat) : Nat → TreT → (List Int) → (List Int) → (List NodT) → Int → Int → Option Bool
  | 0, _, _, _, _, _, _ => none
  | n + 1, v1, v4, v5, v38, v39, v40 =>
  (bif decide (v40 < v39) then
  ((geti v38 v40).bind fun r3 =>
  ((geti v5 v40).bind fun r4 =>
  (geti v5 v40).bind fun r5 =>
  ((dom_alone k r3).bind fun r6 =>
  (bif (!r6) then
  (some false)
  else (bif decide (v40 = 0) then
  ((appM 8 v4 ([0])).bind fun r7 =>
  ((zbk k n) v1 r7 (v5.set v40.toNat (-1)) v38 v39 (w64 (v40 + 1))))
  else (zeg k n) v1 v4 (v5.set v40.toNat (-1)) v40 r3 v38 v39 v40)))))
  else ((zbh k n) v1 v5 v1.1 (v1.1.length : Int) 0))
def zeg (k : Nat) : Nat → TreT → (List Int) → (List Int) → Int → NodT → (List NodT) → Int → Int → Option Bool
  | 0, _, _, _, _, _, _, _, _ => none
  | n + 1, v1, v4, v5, v6, v7, v38, v39, v40 =>
  bif decide (0 < (v4.length : Int)) then
  (geti v4 (w64 ((v4.length : Int) - 1))).bind fun r8 =>
  (geti v4 (w64 ((v4.length : Int) - 1))).bind fun r9 =>
  (bif decide (r9 ≠ v7.2.2.2.2.1) then
  ((cutM v4 0 (w64 ((v4.length : Int) - 1))).bind fun r10 =>
  (zeg k n) v1 r10 v5 v6 v7 v38 v39 v40)
  else (zem k (zbk k n) v4 v5 v7 v1 v6 v38 v39 v40))
  else (zem k (zbk k n) v4 v5 v7 v1 v6 v38 v39 v40)
def zbh (k : Nat) : Nat → TreT → (List Int) → (List NodT) → Int → Int → Option Bool
  | 0, _, _, _, _, _ => none
  | n + 1, v1, v5, v132, v133, v134 =>
  (bif decide (v134 < v133) then
  ((geti v132 v134).bind fun r20 =>
  ((geti v5 v134).bind fun r21 =>
  bif decide (r20.2.2.2.2.2.2.1 ≠ r21) then
  (some false)
  else (geti v5 v134).bind fun r22 =>
  bif decide (r22 = (-1)) then
  bif decide (r20.2.2.2.2.2.1 ≠ (-1)) then
  (some false)
  else (geti v5 v134).bind fun r23 =>
  bif decide (r23 ≠ (-1)) then
  (geti v5 v134).bind fun r24 =>
  (geti v1.1 r24).bind fun r25 =>
  (bif decide (r25.2.2.2.2.2.2.2.2.1 ≠ (-1)) then
  (some false)
  else ((zbh k n) v1 v5 v132 v133 (w64 (v134 + 1))))
  else ((zbh k n) v1 v5 v132 v133 (w64 (v134 + 1)))
  else (geti v5 v134).bind fun r26 =>
  bif decide (r26 ≠ (-1)) then
  (geti v5 v134).bind fun r27 =>
  (geti v1.1 r27).bind fun r28 =>
  (bif decide (r28.2.2.2.2.2.2.2.2.1 ≠ (-1)) then
  (some false)
  else ((zbh k n) v1 v5 v132 v133 (w64 (v134 + 1))))
  else ((zbh k n) v1 v5 v132 v133 (w64 (v134 + 1)))))
  else (some true))
end
def dom_linked_h (k : Nat) (n : Nat) (a0 : TreT) : Option Bool :=
  ((geti a0.1 0).bind fun r1 =>
  (bif decide (r1.1 ≠ 1) then
  (some false)
  else bif decide (r1.2.2.2.2.1 ≠ (-1)) then
  (some false)
  else bif decide (r1.2.2.2.2.2.2.2.1 ≠ (-1)) then
  (some false)
  else (bif decide (r1.2.2.2.2.2.2.2.2.1 ≠ (-1)) then
  (some false)
  else ((repM 8 (a0.1.length : Int) 0).bind fun r2 =>
  ((zbk k n) a0 ([]) r2 a0.1 (a0.1.length : Int) 0)))))
def dom_linked (k : Nat) (a0 : TreT) : Option Bool := dom_linked_h k k a0
def zkt (k : Nat) : Con := ⟨[.d cTreT],[.d .bool], fun x => dom_linked k x⟩
theorem zq0 (k : Nat) : ConOk Tryz.prog 64 (zkt k) :=
  zcf (ps := [.d cTreT]) (rs := [.d .bool]) (fn := Tryz.f64) (E := ⟨tOf tl, gOf [(83, zlq k)]⟩) ⟨zdl zfz, zdm ⟨dom_alone_ok k, trivial⟩, mixedOk⟩ (body := bodyOf Tryz.f64) (pl := [(14,[(0,0),(1,0),(2,0),(3,0),(4,0),(5,0),(6,0),(7,0),(8,0),(9,0),(10,0),(11,0),(12,0),(13,0)],[4,7]),(16,[(0,0),(1,0),(2,0),(3,0),(4,0),(5,0),(6,0),(7,0),(8,0),(9,0),(10,0),(11,0),(12,0)],[4,5,7]),(27,[(0,0),(1,0),(2,0),(3,0),(4,0),(5,0),(6,0),(7,0),(8,0),(9,0),(10,0),(11,0),(12,0),(13,0),(14,0),(15,0),(16,0),(17,0),(18,0),(19,0),(20,0),(21,0),(22,0),(23,0),(24,0),(25,0),(26,0),(27,0),(28,0),(29,0),(30,0),(31,0),(32,0),(33,0),(34,0),(35,0),(36,0),(37,0)],[1,9])]) (M := 400) (cuts := [⟨7,[0,5,4,1,0,1,1,1,1,1],[1,4,5,38,39,40],[.p [.d cTreT], .o 3 (.int .i64), .o 3 (.int .i64), .d (.sl cNodT), .d (.int .i64), .d (.int .i64)], fun n x => zbk k n x.1 x.2.1 x.2.2.1 x.2.2.2.1 x.2.2.2.2.1 x.2.2.2.2.2,[]⟩, ⟨14,[0,0,5,4,0,1,1,1,1,4,0,1,1,5,4,1,0,1,1,1,1,1],[1,4,5,6,7,38,39,40],[.p [.d cTreT], .o 3 (.int .i64), .o 3 (.int .i64), .d (.int .i64), .p [.d cNodT], .d (.sl cNodT), .d (.int .i64), .d (.int .i64)], fun n x => zeg k n x.1 x.2.1 x.2.2.1 x.2.2.2.1 x.2.2.2.2.1 x.2.2.2.2.2.1 x.2.2.2.2.2.2.1 x.2.2.2.2.2.2.2,[]⟩, ⟨25,[0,5,4,1,0,1,1,1,1,1,1],[1,5,132,133,134],[.p [.d cTreT], .d (.sl (.int .i64)), .d (.sl cNodT), .d (.int .i64), .d (.int .i64)], fun n x => zbh k n x.1 x.2.1 x.2.2.1 x.2.2.2.1 x.2.2.2.2,[]⟩]) (entry := fun n x => dom_linked_h k n x) rfl rfl (by decide) (by kernel_rfl) ⟨⟨fun _ => by kernel_rfl, fun _ _ => by kernel_rfl⟩, ⟨fun _ => by kernel_rfl, fun _ _ => by kernel_rfl⟩, ⟨fun _ => by kernel_rfl, fun _ _ => by kernel_rfl⟩, trivial⟩ (fun _ _ => by kernel_rfl) k
def zfi (k : Nat) (J9 : (List Int) → (List NodT) → Int → Int → Option Int) (y10 : (List Int)) (v27 : Int) (v25 : (List NodT)) (v26 : Int) : Option Int :=
  (geti y10 v27).bind fun r11 =>
  (geti y10 v27).bind fun r12 =>
  (bif decide (256 < r12) then
  (some 5)
  else (J9 y10 v25 v26 (w64 (v27 + 1))))
def ze0 (k : Nat) : Nat → (List Int) → (List NodT) → Int → Int → Option Int
  | 0, _, _, _, _ => none
  | n + 1, v3, v25, v26, v27 =>
  (bif decide (v27 < v26) then
  ((geti v25 v27).bind fun r3 =>
  ((geti v3 v27).bind fun r4 =>
  (geti v3 v27).bind fun r5 =>
  (bif decide (0 < v27) then
  ((geti (v3.set v27.toNat 1) r3.2.2.2.2.1).bind fun r6 =>
  (geti (v3.set v27.toNat 1) r3.2.2.2.2.1).bind fun r7 =>
  (geti (v3.set v27.toNat 1) v27).bind fun r8 =>
  (geti (v3.set v27.toNat 1) v27).bind fun r9 =>
  (zfi k (ze0 k n) ((v3.set v27.toNat 1).set v27.toNat (w64 (r7 + 1))) v27 v25 v26))
  else (zfi k (ze0 k n) (v3.set v27.toNat 1) v27 v25 v26))))
  else (some 0))
def dom_Right_h (k : Nat) (n : Nat) (a0 : TreT) : Option Int :=
  (bif decide ((a0.1.length : Int) = 0) then
  (some 10)
  else (bif decide (4096 < (a0.1.length : Int)) then
  (some 4)
  else ((dom_linked k a0).bind fun r1 =>
  (bif (!r1) then
  (some 10)
  else ((repM 8 (a0.1.length : Int) 0).bind fun r2 =>
  ((ze0 k n) r2 a0.1 (a0.1.length : Int) 0))))))
def dom_Right (k : Nat) (a0 : TreT) : Option Int := dom_Right_h k k a0
def zq1 (k : Nat) : Con := ⟨[.d cTreT],[.d (.int .i64)], fun x => dom_Right k x⟩
theorem dom_Right_ok (k : Nat) : ConOk Tryz.prog 52 (zq1 k) :=
  zcf (ps := [.d cTreT]) (rs := [.d (.int .i64)]) (fn := Tryz.f52) (E := ⟨tOf tl, gOf [(64, zkt k)]⟩) ⟨zdl zfz, zdm ⟨zq0 k, trivial⟩, mixedOk⟩ (body := bodyOf Tryz.f52) (pl := []) (M := 400) (cuts := [⟨9,[0,5,4,1,0,1,1,1],[3,25,26,27],[.o 3 (.int .i64), .d (.sl cNodT), .d (.int .i64), .d (.int .i64)], fun n x => ze0 k n x.1 x.2.1 x.2.2.1 x.2.2.2,[]⟩]) (entry := fun n x => dom_Right_h k n x) rfl rfl (by decide) (by kernel_rfl) ⟨⟨fun _ => by kernel_rfl, fun _ _ => by kernel_rfl⟩, trivial⟩ (fun _ _ => by kernel_rfl) k
end
section
open Go.RowKit Go.Sl Go.Proofs
theorem gives1 [F0] {P : Go.Program} {g : Nat} {c c' : TC} {m : c.T → Option c'.T} (h : ConOk P g ⟨[.d c],[.d c'], m⟩) (val : c'.T → Go.Value) (hv : ∀ f y v, VR f (fun _ => none) (c'.v y) v → v = val y) {x : c.T} {y : c'.T} (hm : m x = some y) {f : Fz} (hf : Fz.le f00 f) {v : Go.Value} (hx : VR f (fun _ => none) (c.v x) v) : Gives P g [v] f (val y) := fun w0 L w hC =>
  (h.does x y hm f [v] [] hf ⟨v, rfl, hx, rfl⟩ w0 L w hC).mono fun e w' ⟨u, f', L', h1, h2, h3, us, rvs, h4, h5, h6, v', h7, h8, h9⟩ => by
    subst h1 h9
    match rvs, h6 with
    | [r], _ =>
      have h7 : [v'] = [r] := by rw [← h7, h4]; rfl
      obtain rfl := (List.cons.inj h7).1
      exact ⟨by rw [h5]; exact congrArg _ (hv f' y _ h8), h3.weak h2⟩
end
end Go.V
namespace Go.Proofs.YtdjjeahiomackaaGreat
set_option linter.unusedVariables false
set_option linter.unusedSimpArgs false
set_option linter.unusedSectionVars false
open Go.RowKit Go.Sl Go.V
def dom_Right (n : Nat) (t : zad) : Option Int := Go.V.dom_Right n (ofT t)
theorem dom_Right_ok (n : Nat) {f : Fz} {p0 : zad} {a0 : List Value} {res : Int} (h0 : zih.R f a0 p0) (hm : dom_Right n p0 = some res) : Gives Tryz.prog 52 [.agg a0.toArray] f (.int .i64 res) := by
  letI : F0 := ⟨fun _ => none⟩
  refine gives1 (c := cTreT) (c' := .int .i64) (Go.V.dom_Right_ok n) (fun y => .int .i64 y) (fun f y v h => h) hm (fun b o h => by cases h) (TC.vR.2 ⟨a0, tre_R.2 (by rw [toT_of]; exact h0), rfl⟩)
end Go.Proofs.YtdjjeahiomackaaGreat
