/-
  Walks and laws of this seat.
-/
import Derived.Test.YtklcdfnhdljkjaaBasg
import Derived.Test.YtklcdfnhdljkjaaL6t
import Derived.Test.YtklcdfnhdljkjaaRows
namespace Go.Proofs.Ytklcdfnhdljkjaa
set_option linter.unusedVariables false
set_option linter.unusedSimpArgs false
set_option maxHeartbeats 4000000
set_option maxRecDepth 100000
open Go.RowKit Go.Sl
def zcn : Option Int :=
  some (-1)
def zaq (p0 : (List Int)) (p1 : (Int → Option Bool)) : Nat → Int → Option Int
  | 0, _ => none
  | k6 + 1, y5 =>
  (bif (decide (y5 < (p0.length : Int))) then (geti p0 y5).bind fun x8 =>
  (p1 x8).bind fun x17 =>
  (bif x17 then some y5 else
  (zaq p0 p1 k6) (w64 (y5 + 1))) else
  zcn)
def zbz (n : Nat) (p0 : (List Int)) (p1 : (Int → Option Bool)) (A : (List za2)) : Option Int :=
  zaq p0 p1 n 0
theorem zh4 (n : Nat) {f : Fz} {ab : List Nat} {A : List za2} {p0 : (List Int)} {a0 : Value} {p1 : (Int → Option Bool)} {g1 : FuncId} {cap1 : List Value} {res : Int} (h0 : RS (tP ab) f a0 p0) (hg1 : Has Try.prog g1) (hf1 : ∀ f', Fz.le f f' → ∀ (z0 : Int) (c0 : Value) (r : Bool), RP ab c0 z0 → p1 z0 = some r → GivesR nsh Try.prog g1 ([c0] ++ cap1) f' [] ab A (.bool r)) (hm : zbz n p0 p1 A = some res) : GivesR nsh Try.prog 76 [a0, .func (.func g1) #[] cap1.toArray] f [] ab A (.int .i64 res) := by
 unfold zbz at hm
 intro w0 L0 L w hA hC
 obtain ⟨rw1, hR2, hW3⟩ := h0
 refine enter Try.func76 rfl Try.ntmps76 (by simp) hC fun a hs => ?_
 have hle := Fz.le.refl f
 refine Wq fun hK1 => sA (v := .int .i64 (0)) hs rfl fun hs => za0 <| hK1 <| Ws fun hK2 => Wq fun hK3 => sM (v := a0) hs rfl fun hs => s1 hs (zb7 hR2 hW3 rfl Try.underlying49) fun hs => ?_
 refine sM (v := .int .i64 (0)) hs rfl fun hs => za0 <| hK3 ?_
 refine zai (fun a w => zcn = some res ∧ St 19 w0 f (L) [] a w) ?_ ?_
 ·clear hs hm
  rintro a w ⟨hm, hs⟩
  unfold zcn at hm
  refine hK2 <| Wq fun hK4 => sA (v := .int .i64 ((-1))) hs rfl fun hs => za0 <| hK4 <| zau ?_
  obtain rfl := Option.some.inj hm
  refine RtV1 hs rfl (rv_t hs rfl) ?_
  exact ⟨rfl, (hs.weak hle).cw⟩
 refine zam fun Qe5 hB5 hO5 => zcw (fun (k : Nat) a w => ∃ (y5 : Int), zaq p0 p1 k y5 = some res ∧ St 19 w0 f (L) [(0, a0), (1, .func (.func g1) #[] cap1.toArray), (7, .int .i64 ((p0.length : Int))), (8, .int .i64 (y5))] a w) (fun k => k) n ⟨0, hm, hs.sub ⟨rfl, rfl, rfl, rfl, trivial⟩⟩ ?_
 clear hs hm
 intro k
 rintro a w ⟨y5, hm, hs⟩
 intro K6 hK6
 cases k with
 | zero => simp [zaq] at hm
 | succ k6 =>
  rw [zaq] at hm
  refine Wq fun hK7 => s1 hs (zg7 rfl rfl) fun hs => za0 <| hK7 <| Ws fun hK8 => ?_
  refine zaf hs rfl (fun hg7 => ?_) (fun hg7 => ?_)
  ·replace hm := oc_t hg7 hm
   refine zah <| hK8 <| Ws fun hK9 => zam fun Qe10 hB10 hO10 => Wq fun hK11 => sM (v := .int .i64 (y5)) hs rfl fun hs => sA (v := .int .i64 (y5)) hs rfl fun hs => za0 <| hK11 ?_
   refine Wq fun hK12 => sM (v := .func (.func g1) #[] cap1.toArray) hs rfl fun hs => sM (v := a0) hs rfl fun hs => sM (v := .int .i64 (y5)) hs rfl fun hs => ?_
   obtain ⟨x8, hx9, hm⟩ := ob hm
   obtain ⟨r10, hr11, hq12, hi13, hb14⟩ := hW3.geti hx9
   obtain ⟨v15, rfl, hp16⟩ := hq12
   refine s1 hs (za8 hR2 rfl rfl hi13 hb14 Try.underlying49 ti48) fun hs => s1 (v := v15) hs (zaw (i := y5.toNat) (j := 0) hR2.up rfl hr11 rfl Try.underlying48 rfl) fun hs => ?_
   obtain ⟨x17, hx18, hm⟩ := ob hm
   refine s1 hs (zn7 (cap := cap1) (X := []) hA rfl hg1 rfl (.refl _) (hf1 _ (Fz.le.refl _) x8 v15 x17 hp16 hx18)) fun hs => za0 <| hK12 ?_
   refine zaf hs rfl (fun hg19 => ?_) (fun hg19 => ?_)
   ·replace hm := oc_t hg19 hm
    refine Wq fun hK13 => sM (v := .int .i64 (y5)) hs rfl fun hs => sA (v := .int .i64 (y5)) hs rfl fun hs => za0 <| hK13 <| zau ?_
    obtain rfl := Option.some.inj hm
    refine RtV1 hs rfl (rv_t hs rfl) ?_
    exact ⟨rfl, (hs.weak hle).cw⟩
   replace hm := oc_f hg19 hm
   refine zah <| hK9 <| za7 <| s1 hs (zeq rfl rfl rfl) fun hs => sM (v := .int .i64 ((w64 (y5 + 1)))) hs rfl fun hs => za0 ?_
   exact hK6 k6 _ _ (Nat.lt_succ_self _) ⟨(w64 (y5 + 1)), hm, hs.sub ⟨rfl, rfl, rfl, rfl, trivial⟩⟩
  replace hm := oc_f hg7 hm
  refine zc9 <| hB5 _ _ ?_
  exact ⟨hm, hs.sub trivial⟩
def zbi (y7 : (List Int)) (y12 : Int) : Option (List Int) :=
  (cutM y7 (y12 : Int) (y7.length : Int)).bind fun x13 =>
  (cutM (clrM y7 (y12 : Int)) (0 : Int) y12).bind fun x22 =>
  some x22
def zb0 (y35 : Int) (lp36 : (List Int) → Int → Int → Option (List Int)) (y49 : (List Int)) (y54 : Int) : Option (List Int) :=
  lp36 y49 y54 (w64 (y35 + 1))
def zak (p1 : (Int → Option Bool)) : Nat → (List Int) → Int → Int → Option (List Int)
  | 0, _, _, _ => none
  | k36 + 1, y29, y34, y35 =>
  (bif (decide (y35 < (y29.length : Int))) then (geti y29 y35).bind fun x38 =>
  (p1 x38).bind fun x47 =>
  (bif (!x47) then (geti y29 y34).bind fun x56 =>
  (seti y29 y34 x38).bind fun x65 =>
  zb0 y35 (zak p1 k36) x65 (w64 (y34 + 1)) else
  zb0 y35 (zak p1 k36) y29 y34) else
  zbi y29 y34)
def zbb (n : Nat) (p0 : (List Int)) (p1 : (Int → Option Bool)) (A : (List za2)) : Option (List Int) :=
  (zbz n p0 p1 A).bind fun x4 =>
  (bif (decide (x4 = (-1))) then some p0 else
  zak p1 n p0 x4 (w64 (x4 + 1)))
theorem zgz (n : Nat) {f : Fz} {ab : List Nat} {A : List za2} {p0 : (List Int)} {a0 : Value} {a0r : List (List Value)} {p1 : (Int → Option Bool)} {g1 : FuncId} {cap1 : List Value} {res : (List Int)} (h0 : RW (tP ab) f a0r p0) (hg1 : Has Try.prog g1) (hf1 : ∀ f', Fz.le f f' → ∀ (z0 : Int) (c0 : Value) (r : Bool), RP ab c0 z0 → p1 z0 = some r → GivesR nsh Try.prog g1 ([c0] ++ cap1) f' [] ab A (.bool r)) (hm : zbb n p0 p1 A = some res) : DoesR nsh Try.prog 56 [a0, .func (.func g1) #[] cap1.toArray] f [.row a0 48 1 a0r] ab A (fun r f' L' => ∃ (u0 : Value) (u0r : List (List Value)), L' = [.row u0 48 1 u0r] ∧ r = u0 ∧ RW (tP ab) f' u0r res) := by
 unfold zbb at hm
 intro w0 L0 L w hA hC
 replace hC : Cw w0 f (.row a0 48 1 a0r :: L) w := hC
 refine enter Try.func56 rfl Try.ntmps56 (by simp) hC fun a hs => ?_
 have hle := Fz.le.refl f
 refine Wq fun hK1 => sA (v := (.slice none 0 0)) hs rfl fun hs => za0 <| hK1 <| Wq fun hK2 => sM (v := a0) hs rfl fun hs => sM (v := .func (.func g1) #[] cap1.toArray) hs rfl fun hs => ?_
 obtain ⟨x4, hx5, hm⟩ := ob hm
 refine sy hs (zeh (cap := []) rfl has76 rfl (fun w9 hw9 => callsF (Lr := [.row a0 48 1 a0r]) (Lf := L) (zag _ 0 rfl) hw9 (fun w9 hw9 => lent0 hw9 (fun f9_0 w9 hle9_0 hRl0 hw9 => GivesR.at (X := []) (zh4 n (f := f9_0) (a0 := a0) (g1 := g1) (cap1 := cap1) (A := A) ⟨a0r, hRl0, h0.le hle9_0⟩ hg1 (fun f'' h'' => hf1 f'' (hle9_0.trans h'')) hx5) (hA.le hle9_0) (.refl _) hw9)))) fun _ _ hs => sA (v := .int .i64 (x4)) hs rfl fun hs => za0 <| hK2 <| Ws fun hK3 => Wq fun hK4 => sM (v := .int .i64 (x4)) hs rfl fun hs => s1 hs (zd3 rfl rfl) fun hs => za0 ?_
 refine hK4 ?_
 refine zaf hs rfl (fun hg6 => ?_) (fun hg6 => ?_)
 ·replace hm := oc_t hg6 hm
  refine Wq fun hK5 => sM (v := a0) hs rfl fun hs => sA (v := a0) hs rfl fun hs => za0 <| hK5 <| zau ?_
  obtain rfl := Option.some.inj hm
  refine RtV1 hs rfl (rv_t hs rfl) ?_
  exact ⟨_, f, [.row a0 48 1 a0r], rfl, hle, hs.cw, a0, a0r, rfl, rfl, h0⟩
 replace hm := oc_f hg6 hm
 refine zah <| hK3 <| Ws fun hK6 => Wq fun hK7 => sM (v := .int .i64 (x4)) hs rfl fun hs => s1 hs (zeq rfl rfl rfl) fun hs => sA (v := .int .i64 ((w64 (x4 + 1)))) hs rfl fun hs => za0 <| hK7 ?_
 refine zai (fun a w => ∃ (y7 : (List Int)) (y12 : Int) (v8 : Value) (rw9 : List (List Value)), zbi y7 y12 = some res ∧ RW (tP ab) f rw9 y7 ∧ St 42 w0 f (.row v8 48 1 rw9 :: L) [(0, v8), (5, .int .i64 (y12))] a w) ?_ ?_
 ·clear hs hm
  rintro a w ⟨y7, y12, v8, rw9, hm, hW10, hs⟩
  unfold zbi at hm
  refine hK6 <| Wq fun hK8 => sM (v := v8) hs rfl fun hs => sM (v := .int .i64 (y12)) hs rfl fun hs => ?_
  obtain ⟨x13, hx14, hm⟩ := ob hm
  obtain ⟨⟨hlx13, hhx13, h1x13, h2x13⟩, hex13⟩ := zj7 hx14
  have h3x13 : (y7.length : Int).toNat ≤ rw9.length := by rw [RW.len hW10]; exact h2x13
  refine s1 hs (zln (lo := y12.toNat) (hi := (y7.length : Int).toNat) rfl Try.underlying49 ti48 (.inr ⟨_, rfl, by rw [← hlx13]; rfl⟩) (.inl ⟨rfl, by rw [RW.len hW10]; simp⟩) h1x13 h3x13 (Rd.st hs (.head _))) fun hs => ?_
  have hW20 := RW.clear (lo := (y12 : Int)) hW10
  refine RL_clear (lo := (y12 : Int).toNat) 0 hs rfl rfl h1x13 (by rw [RW.len hW10]; simp) Try.underlying49 ti48 rfl rfl fun _ _ hs => ?_
  replace hs : St _ _ _ (.row v8 48 1 (List.take (y12 : Int).toNat rw9 ++ List.replicate (rw9.length - (y12 : Int).toNat) [.pointer none]) :: L) _ _ _ := hs
  generalize hgrw19 : List.take (y12 : Int).toNat rw9 ++ List.replicate (rw9.length - (y12 : Int).toNat) [Value.pointer none] = rw19 at hs hW20; clear hgrw19
  refine za0 <| hK8 <| Wq fun hK9 => sM (v := v8) hs rfl fun hs => sM (v := .int .i64 (y12)) hs rfl fun hs => ?_
  obtain ⟨x22, hx23, hm⟩ := ob hm
  obtain ⟨⟨hlx22, hhx22, h1x22, h2x22⟩, hex22⟩ := zj7 hx23
  have hW24 := (hW20.take y12.toNat).drop (Int.toNat 0); rw [hex22] at hW24
  simp only [Int.toNat_zero, List.drop_zero] at hW24
  refine s1 hs (zln (lo := (0 : Nat)) (hi := y12.toNat) rfl Try.underlying49 ti48 (.inl ⟨rfl, rfl⟩) (.inr ⟨_, rfl, by rw [← hhx22]; rfl⟩) h1x22 (by rw [RW.len hW20]; exact h2x22) (Rd.st hs (.head _))) fun hs => ?_
  replace hs := hs.shrink (i := 0) rfl (m := y12.toNat) (by rw [RW.len hW20]; exact h2x22)
  generalize hgrw26 : List.take _ rw19 = rw26 at hs hW24; clear hgrw26
  generalize hgv27 : cutv v8 1 0 _ = v27 at hs; clear hgv27
  refine sA (v := v27) hs rfl fun hs => za0 <| hK9 <| zau ?_
  obtain rfl := Option.some.inj hm
  refine RtV1 hs rfl (rv_t hs rfl) ?_
  exact ⟨_, f, [.row v27 48 1 rw26], rfl, hle, hs.cw, v27, rw26, rfl, rfl, hW24⟩
 refine zam fun Qe10 hB10 hO10 => zcw (fun (k : Nat) a w => ∃ (y29 : (List Int)) (y34 : Int) (y35 : Int) (v30 : Value) (rw31 : List (List Value)), zak p1 k y29 y34 y35 = some res ∧ RW (tP ab) f rw31 y29 ∧ St 42 w0 f (.row v30 48 1 rw31 :: L) [(0, v30), (1, .func (.func g1) #[] cap1.toArray), (5, .int .i64 (y34)), (6, .int .i64 (y35))] a w) (fun k => k) n ⟨p0, x4, (w64 (x4 + 1)), a0, a0r, hm, h0, hs.sub ⟨rfl, rfl, rfl, rfl, trivial⟩⟩ ?_
 clear hs hm
 intro k
 rintro a w ⟨y29, y34, y35, v30, rw31, hm, hW32, hs⟩
 intro K11 hK11
 cases k with
 | zero => simp [zak] at hm
 | succ k36 =>
  rw [zak] at hm
  refine Ws fun hK12 => Wq fun hK13 => sM (v := .int .i64 (y35)) hs rfl fun hs => sM (v := v30) hs rfl fun hs => s1 hs (zb7 (Rd.st hs (.head _)) hW32 rfl Try.underlying49) fun hs => s1 hs (zg7 rfl rfl) fun hs => za0 <| hK13 ?_
  refine zaf hs rfl (fun hg37 => ?_) (fun hg37 => ?_)
  ·replace hm := oc_t hg37 hm
   refine zah <| hK12 <| Ws fun hK14 => zam fun Qe15 hB15 hO15 => Wq fun hK16 => sM (v := v30) hs rfl fun hs => sM (v := .int .i64 (y35)) hs rfl fun hs => ?_
   obtain ⟨x38, hx39, hm⟩ := ob hm
   obtain ⟨r40, hr41, hq42, hi43, hb44⟩ := hW32.geti hx39
   obtain ⟨v45, rfl, hp46⟩ := hq42
   refine s1 hs (za8 (Rd.st hs (.head _)) rfl rfl hi43 hb44 Try.underlying49 ti48) fun hs => s1 (v := v45) hs (zaw (i := y35.toNat) (j := 0) (Rd.st hs (.head _)) rfl hr41 rfl Try.underlying48 rfl) fun hs => sA (v := v45) hs rfl fun hs => za0 <| hK16 <| Wq fun hK17 => sM (v := .func (.func g1) #[] cap1.toArray) hs rfl fun hs => sM (v := v45) hs rfl fun hs => ?_
   obtain ⟨x47, hx48, hm⟩ := ob hm
   refine s1 hs (zn7 (cap := cap1) (X := [.row v30 48 1 rw31]) hA rfl hg1 rfl (.refl _) (hf1 _ (Fz.le.refl _) x38 v45 x47 hp46 hx48)) fun hs => s1 (v := .bool ((!x47))) hs (zj8 rfl) fun hs => za0 <| hK17 ?_
   refine zai (fun a w => ∃ (y49 : (List Int)) (y54 : Int) (v50 : Value) (rw51 : List (List Value)), zb0 y35 (zak p1 k36) y49 y54 = some res ∧ RW (tP ab) f rw51 y49 ∧ St 42 w0 f (.row v50 48 1 rw51 :: L) [(0, v50), (1, .func (.func g1) #[] cap1.toArray), (5, .int .i64 (y54)), (6, .int .i64 (y35))] a w) ?_ ?_
   ·clear hs hm
    rintro a w ⟨y49, y54, v50, rw51, hm, hW52, hs⟩
    unfold zb0 at hm
    refine hK14 <| za7 <| sM (v := .int .i64 (y35)) hs rfl fun hs => s1 hs (zeq rfl rfl rfl) fun hs => sA (v := .int .i64 ((w64 (y35 + 1)))) hs rfl fun hs => za0 ?_
    exact hK11 k36 _ _ (Nat.lt_succ_self _) ⟨y49, y54, (w64 (y35 + 1)), v50, rw51, hm, hW52, hs.sub ⟨rfl, rfl, rfl, rfl, trivial⟩⟩
   refine zaf hs rfl (fun hg55 => ?_) (fun hg55 => ?_)
   ·replace hm := oc_t hg55 hm
    refine Wq fun hK18 => sM (v := v30) hs rfl fun hs => sM (v := .int .i64 (y34)) hs rfl fun hs => sM (v := v45) hs rfl fun hs => ?_
    obtain ⟨x56, hx57, hm⟩ := ob hm
    obtain ⟨r58, hr59, hq60, hi61, hb62⟩ := hW32.geti hx57
    obtain ⟨v63, rfl, hp64⟩ := hq60
    refine s1 hs (za8 (Rd.st hs (.head _)) rfl rfl hi61 hb62 Try.underlying49 ti48) fun hs => ?_
    obtain ⟨x65, hx66, hm⟩ := ob hm
    have hex65 := zfo hx66
    have hW68 := RW.set (i := y34.toNat) (r := [v45]) (x := (x38 : Int)) hW32 (⟨_, rfl, hp46⟩); rw [hex65] at hW68
    refine zep (i := 0) (j := 0) (m := y34.toNat) hs rfl rfl rfl hr59 (by decide) ti48 hp46.one (.free rfl) fun _ _ hs => ?_
    replace hs : St _ _ _ (.row v30 48 1 (rw31.set y34.toNat [v45]) :: L) _ _ _ := hs
    generalize hgrw67 : rw31.set y34.toNat [v45] = rw67 at hs hW68; clear hgrw67
    refine za0 <| hK18 <| za7 <| sM (v := .int .i64 (y34)) hs rfl fun hs => s1 hs (zeq rfl rfl rfl) fun hs => sA (v := .int .i64 ((w64 (y34 + 1)))) hs rfl fun hs => za0 ?_
    exact ⟨x65, (w64 (y34 + 1)), v30, rw67, hm, hW68, hs.sub ⟨rfl, rfl, rfl, rfl, trivial⟩⟩
   replace hm := oc_f hg55 hm
   refine zah ?_
   exact ⟨y29, y34, v30, rw31, hm, hW32, hs.sub ⟨rfl, rfl, rfl, rfl, trivial⟩⟩
  replace hm := oc_f hg37 hm
  refine zc9 <| hB10 _ _ ?_
  exact ⟨y29, y34, v30, rw31, hm, hW32, hs.sub ⟨rfl, rfl, trivial⟩⟩
end Go.Proofs.Ytklcdfnhdljkjaa
