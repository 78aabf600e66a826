/-
  Walks and laws of this seat.
-/
import Derived.Test.YtdjjeahiomackaaGreatBash
import Derived.Test.YtdjjeahiomackaaGreatL6t
import Derived.Test.YtdjjeahiomackaaGreatRows
namespace Go.Proofs.YtdjjeahiomackaaGreat
set_option linter.unusedVariables false
set_option linter.unusedSimpArgs false
set_option linter.unusedSectionVars false
set_option maxHeartbeats 4000000
set_option maxRecDepth 100000
open Go.RowKit Go.Sl
def zar : Option Int :=
  some (-1)
def zab (p0 : (List Int)) (p1 : (Int → Option Bool)) : Nat → Int → Option Int
  | 0, _ => none
  | k6 + 1, y5 =>
  (bif (decide (y5 < (p0.length : Int))) then (geti p0 y5).bind fun x8 =>
  (p1 x8).bind fun x17 =>
  (bif x17 then some y5 else
  (zab p0 p1 k6) (w64 (y5 + 1))) else
  zar)
def zb8 (n : Nat) (p0 : (List Int)) (p1 : (Int → Option Bool)) (A : (List za0)) : Option Int :=
  zab p0 p1 n 0
theorem zez (n : Nat) {f : Fz} {ab : List Nat} {A : List za0} {p0 : (List Int)} {a0 : Value} {p1 : (Int → Option Bool)} {g1 : FuncId} {cap1 : List Value} {res : Int} (h0 : RS (tP ab) f a0 p0) (hg1 : Has Tryz.prog g1) (hf1 : ∀ f', Fz.le f f' → ∀ (z0 : Int) (c0 : Value) (r : Bool), RP ab c0 z0 → p1 z0 = some r → GivesR nsh Tryz.prog g1 ([c0] ++ cap1) f' [] ab A (.bool r)) (hm : zb8 n p0 p1 A = some res) : GivesR nsh Tryz.prog 63 [a0, .func (.func g1) #[] cap1.toArray] f [] ab A (.int .i64 res) := by
 unfold zb8 at hm
 intro w0 L0 L w hA hC
 obtain ⟨rw1, hR2, hW3⟩ := h0
 refine enter Tryz.func63 rfl Tryz.ntmps63 (by simp) hC fun a hs => ?_
 have hle := Fz.le.refl f
 refine Wq fun hK1 => sA hs rfl fun hs => za1 <| hK1 <| Ws fun hK2 => Wq fun hK3 => sM hs rfl fun hs => s1 hs (ze4 hR2 hW3 rfl Tryz.underlying50) fun hs => ?_
 refine sM hs rfl fun hs => za1 <| hK3 ?_
 refine zay (fun a w => zar = some res ∧ St 19 w0 f (L) [] a w) ?_ ?_
 ·clear hs hm
  rintro a w ⟨hm, hs⟩
  unfold zar at hm
  refine hK2 <| Wq fun hK4 => sA hs rfl fun hs => za1 <| hK4 <| zbl ?_
  obtain rfl := Option.some.inj hm
  refine RtV1 hs rfl (rv_t hs rfl) ?_
  exact ⟨rfl,(hs.weak hle).cw⟩
 refine zas fun Qe5 hB5 hO5 => zeu (fun (k : Nat) a w => ∃ (y5 : Int), zab p0 p1 k y5 = some res ∧ St 19 w0 f (L) [(0, a0),(1, .func (.func g1) #[] cap1.toArray),(7, .int .i64 ((p0.length : Int))),(8, .int .i64 (y5))] a w) (fun k => k) n ⟨0, hm, hs.sub ⟨rfl, rfl, rfl, rfl, trivial⟩⟩ ?_
 clear hs hm
 intro k
 rintro a w ⟨y5, hm, hs⟩
 intro K6 hK6
 cases k with
 | zero => simp [zab] at hm
 | succ k6 =>
  rw [zab] at hm
  refine Wq fun hK7 => s1 hs (zhw rfl rfl) fun hs => za1 <| hK7 <| Ws fun hK8 => ?_
  refine zag hs rfl (fun hg7 => ?_) (fun hg7 => ?_)
  ·replace hm := oc_t hg7 hm
   refine zak <| hK8 <| Ws fun hK9 => zas fun Qe10 hB10 hO10 => Wq fun hK11 => sM hs rfl fun hs => sA hs rfl fun hs => za1 <| hK11 ?_
   refine Wq fun hK12 => sM hs rfl fun hs => sM hs rfl fun hs => sM hs rfl fun hs => ?_
   obtain ⟨x8, hx9, hm⟩ := ob hm
   obtain ⟨r10, hr11, hq12, hi13, hb14⟩ := hW3.geti hx9
   obtain ⟨v15, rfl, hp16⟩ := hq12
   refine s1 hs (zai hR2 rfl rfl hi13 hb14 Tryz.underlying50 ti49) fun hs => s1 (v := v15) hs (ze3 (i := y5.toNat) (j := 0) hR2.up rfl hr11 rfl Tryz.underlying49 rfl) fun hs => ?_
   obtain ⟨x17, hx18, hm⟩ := ob hm
   refine s1 hs (zl6 (cap := cap1) (X := []) hA rfl hg1 rfl (.refl _) (hf1 _ (Fz.le.refl _) x8 v15 x17 hp16 hx18)) fun hs => za1 <| hK12 ?_
   refine zag hs rfl (fun hg19 => ?_) (fun hg19 => ?_)
   ·replace hm := oc_t hg19 hm
    refine Wq fun hK13 => sM hs rfl fun hs => sA hs rfl fun hs => za1 <| hK13 <| zbl ?_
    obtain rfl := Option.some.inj hm
    refine RtV1 hs rfl (rv_t hs rfl) ?_
    exact ⟨rfl,(hs.weak hle).cw⟩
   replace hm := oc_f hg19 hm
   refine zak <| hK9 <| za5 <| s1 hs (zga rfl rfl rfl) fun hs => sM hs rfl fun hs => za1 ?_
   exact hK6 k6 _ _ (Nat.lt_succ_self _) ⟨(w64 (y5 + 1)), hm, hs.sub ⟨rfl, rfl, rfl, rfl, trivial⟩⟩
  replace hm := oc_f hg7 hm
  refine ze8 <| hB5 _ _ ?_
  exact ⟨hm, hs.sub trivial⟩
def zaq (y7 : (List Int)) (y12 : Int) : Option (List Int) :=
  (cutM y7 (y12 : Int) (y7.length : Int)).bind fun x13 =>
  (cutM (clrM y7 (y12 : Int)) (0 : Int) y12).bind fun x22 =>
  some x22
def zap (y35 : Int) (lp36 : (List Int) → Int → Int → Option (List Int)) (y49 : (List Int)) (y54 : Int) : Option (List Int) :=
  lp36 y49 y54 (w64 (y35 + 1))
def za8 (p1 : (Int → Option Bool)) : Nat → (List Int) → Int → Int → Option (List Int)
  | 0, _, _, _ => none
  | k36 + 1, y29, y34, y35 =>
  (bif (decide (y35 < (y29.length : Int))) then (geti y29 y35).bind fun x38 =>
  (p1 x38).bind fun x47 =>
  (bif (!x47) then (geti y29 y34).bind fun x56 =>
  (seti y29 y34 x38).bind fun x65 =>
  zap y35 (za8 p1 k36) x65 (w64 (y34 + 1)) else
  zap y35 (za8 p1 k36) y29 y34) else
  zaq y29 y34)
def zaw (n : Nat) (p0 : (List Int)) (p1 : (Int → Option Bool)) (A : (List za0)) : Option (List Int) :=
  (zb8 n p0 p1 A).bind fun x4 =>
  (bif (decide (x4 = (-1))) then some p0 else
  za8 p1 n p0 x4 (w64 (x4 + 1)))
theorem zew (n : Nat) {f : Fz} {ab : List Nat} {A : List za0} {p0 : (List Int)} {a0 : Value} {a0r : List (List Value)} {p1 : (Int → Option Bool)} {g1 : FuncId} {cap1 : List Value} {res : (List Int)} (h0 : RW (tP ab) f a0r p0) (hg1 : Has Tryz.prog g1) (hf1 : ∀ f', Fz.le f f' → ∀ (z0 : Int) (c0 : Value) (r : Bool), RP ab c0 z0 → p1 z0 = some r → GivesR nsh Tryz.prog g1 ([c0] ++ cap1) f' [] ab A (.bool r)) (hm : zaw n p0 p1 A = some res) : DoesR nsh Tryz.prog 48 [a0, .func (.func g1) #[] cap1.toArray] f [.row a0 49 1 a0r] ab A (fun r f' L' => ∃ (u0 : Value) (u0r : List (List Value)), L' = [.row u0 49 1 u0r] ∧ r = u0 ∧ RW (tP ab) f' u0r res) := by
 unfold zaw at hm
 intro w0 L0 L w hA hC
 replace hC : Cw w0 f (.row a0 49 1 a0r :: L) w := hC
 refine enter Tryz.func48 rfl Tryz.ntmps48 (by simp) hC fun a hs => ?_
 have hle := Fz.le.refl f
 refine Wq fun hK1 => sA hs rfl fun hs => za1 <| hK1 <| Wq fun hK2 => sM hs rfl fun hs => sM hs rfl fun hs => ?_
 obtain ⟨x4, hx5, hm⟩ := ob hm
 refine sy hs (zds (cap := []) rfl has63 rfl (fun w9 hw9 => callsF (Lr := [.row a0 49 1 a0r]) (Lf := L) (zae _ 0 rfl) hw9 (fun w9 hw9 => lent0 hw9 (fun f9_0 w9 hle9_0 hRl0 hw9 => GivesR.at (X := []) (zez n ⟨a0r, hRl0, h0.le hle9_0⟩ hg1 (fun f'' h'' => hf1 f'' (hle9_0.trans h'')) hx5) (hA.le hle9_0) (.refl _) hw9)))) fun _ _ hs => sA hs rfl fun hs => za1 <| hK2 <| Ws fun hK3 => Wq fun hK4 => sM hs rfl fun hs => s1 hs (zh5 rfl rfl) fun hs => za1 ?_
 refine hK4 ?_
 refine zag hs rfl (fun hg6 => ?_) (fun hg6 => ?_)
 ·replace hm := oc_t hg6 hm
  refine Wq fun hK5 => sM hs rfl fun hs => sA hs rfl fun hs => za1 <| hK5 <| zbl ?_
  obtain rfl := Option.some.inj hm
  refine RtV1 hs rfl (rv_t hs rfl) ?_
  exact ⟨_, f,[.row a0 49 1 a0r], rfl, hle, hs.cw, a0, a0r, rfl, rfl, h0⟩
 replace hm := oc_f hg6 hm
 refine zak <| hK3 <| Ws fun hK6 => Wq fun hK7 => sM hs rfl fun hs => s1 hs (zga rfl rfl rfl) fun hs => sA hs rfl fun hs => za1 <| hK7 ?_
 refine zay (fun a w => ∃ (y7 : (List Int)) (y12 : Int) (v8 : Value) (rw9 : List (List Value)), zaq y7 y12 = some res ∧ RW (tP ab) f rw9 y7 ∧ St 42 w0 f (.row v8 49 1 rw9 :: L) [(0, v8),(5, .int .i64 (y12))] a w) ?_ ?_
 ·clear hs hm
  rintro a w ⟨y7, y12, v8, rw9, hm, hW10, hs⟩
  unfold zaq at hm
  refine hK6 <| Wq fun hK8 => sM hs rfl fun hs => sM hs rfl fun hs => ?_
  obtain ⟨x13, hx14, hm⟩ := ob hm
  obtain ⟨⟨hlx13, hhx13, h1x13, h2x13⟩, hex13⟩ := zen hx14
  have h3x13 : (y7.length : Int).toNat ≤ rw9.length := by rw [RW.len hW10]; exact h2x13
  refine s1 hs (zi3 (lo := y12.toNat) (hi := (y7.length : Int).toNat) rfl Tryz.underlying50 ti49 (.inr ⟨_, rfl, by rw [← hlx13]; rfl⟩) (.inl ⟨rfl, by rw [RW.len hW10]; simp⟩) h1x13 h3x13 (Rd.st hs (.head _))) fun hs => ?_
  have hW20 := RW.clear (lo := (y12 : Int)) hW10
  refine RL_clear (lo := (y12 : Int).toNat) 0 hs rfl rfl h1x13 (by rw [RW.len hW10]; simp) Tryz.underlying50 ti49 rfl rfl fun _ _ hs => ?_
  replace hs : St _ _ _ (.row v8 49 1 (List.take (y12 : Int).toNat rw9 ++ List.replicate (rw9.length - (y12 : Int).toNat) [.pointer none]) :: L) _ _ _ := hs
  generalize hgrw19 : List.take (y12 : Int).toNat rw9 ++ List.replicate (rw9.length - (y12 : Int).toNat) [Value.pointer none] = rw19 at hs hW20; clear hgrw19
  refine za1 <| hK8 <| Wq fun hK9 => sM hs rfl fun hs => sM hs rfl fun hs => ?_
  obtain ⟨x22, hx23, hm⟩ := ob hm
  obtain ⟨⟨hlx22, hhx22, h1x22, h2x22⟩, hex22⟩ := zen hx23
  have hW24 := (hW20.take y12.toNat).drop (Int.toNat 0); rw [hex22] at hW24
  simp only [Int.toNat_zero, List.drop_zero] at hW24
  refine s1 hs (zi3 (lo := (0 : Nat)) (hi := y12.toNat) rfl Tryz.underlying50 ti49 (.inl ⟨rfl, rfl⟩) (.inr ⟨_, rfl, by rw [← hhx22]; rfl⟩) h1x22 (by rw [RW.len hW20]; exact h2x22) (Rd.st hs (.head _))) fun hs => ?_
  replace hs := hs.shrink (i := 0) rfl (m := y12.toNat) (by rw [RW.len hW20]; exact h2x22)
  generalize hgrw26 : List.take _ rw19 = rw26 at hs hW24; clear hgrw26
  generalize hgv27 : cutv v8 1 0 _ = v27 at hs; clear hgv27
  refine sA hs rfl fun hs => za1 <| hK9 <| zbl ?_
  obtain rfl := Option.some.inj hm
  refine RtV1 hs rfl (rv_t hs rfl) ?_
  exact ⟨_, f,[.row v27 49 1 rw26], rfl, hle, hs.cw, v27, rw26, rfl, rfl, hW24⟩
 refine zas fun Qe10 hB10 hO10 => zeu (fun (k : Nat) a w => ∃ (y29 : (List Int)) (y34 : Int) (y35 : Int) (v30 : Value) (rw31 : List (List Value)), za8 p1 k y29 y34 y35 = some res ∧ RW (tP ab) f rw31 y29 ∧ St 42 w0 f (.row v30 49 1 rw31 :: L) [(0, v30),(1, .func (.func g1) #[] cap1.toArray),(5, .int .i64 (y34)),(6, .int .i64 (y35))] a w) (fun k => k) n ⟨p0, x4,(w64 (x4 + 1)), a0, a0r, hm, h0, hs.sub ⟨rfl, rfl, rfl, rfl, trivial⟩⟩ ?_
 clear hs hm
 intro k
 rintro a w ⟨y29, y34, y35, v30, rw31, hm, hW32, hs⟩
 intro K11 hK11
 cases k with
 | zero => simp [za8] at hm
 | succ k36 =>
  rw [za8] at hm
  refine Ws fun hK12 => Wq fun hK13 => sM hs rfl fun hs => sM hs rfl fun hs => s1 hs (ze4 (Rd.st hs (.head _)) hW32 rfl Tryz.underlying50) fun hs => s1 hs (zhw rfl rfl) fun hs => za1 <| hK13 ?_
  refine zag hs rfl (fun hg37 => ?_) (fun hg37 => ?_)
  ·replace hm := oc_t hg37 hm
   refine zak <| hK12 <| Ws fun hK14 => zas fun Qe15 hB15 hO15 => Wq fun hK16 => sM hs rfl fun hs => sM hs rfl fun hs => ?_
   obtain ⟨x38, hx39, hm⟩ := ob hm
   obtain ⟨r40, hr41, hq42, hi43, hb44⟩ := hW32.geti hx39
   obtain ⟨v45, rfl, hp46⟩ := hq42
   refine s1 hs (zai (Rd.st hs (.head _)) rfl rfl hi43 hb44 Tryz.underlying50 ti49) fun hs => s1 (v := v45) hs (ze3 (i := y35.toNat) (j := 0) (Rd.st hs (.head _)) rfl hr41 rfl Tryz.underlying49 rfl) fun hs => sA hs rfl fun hs => za1 <| hK16 <| Wq fun hK17 => sM hs rfl fun hs => sM hs rfl fun hs => ?_
   obtain ⟨x47, hx48, hm⟩ := ob hm
   refine s1 hs (zl6 (cap := cap1) (X := [.row v30 49 1 rw31]) hA rfl hg1 rfl (.refl _) (hf1 _ (Fz.le.refl _) x38 v45 x47 hp46 hx48)) fun hs => s1 (v := .bool ((!x47))) hs (zku rfl) fun hs => za1 <| hK17 ?_
   refine zay (fun a w => ∃ (y49 : (List Int)) (y54 : Int) (v50 : Value) (rw51 : List (List Value)), zap y35 (za8 p1 k36) y49 y54 = some res ∧ RW (tP ab) f rw51 y49 ∧ St 42 w0 f (.row v50 49 1 rw51 :: L) [(0, v50),(1, .func (.func g1) #[] cap1.toArray),(5, .int .i64 (y54)),(6, .int .i64 (y35))] a w) ?_ ?_
   ·clear hs hm
    rintro a w ⟨y49, y54, v50, rw51, hm, hW52, hs⟩
    unfold zap at hm
    refine hK14 <| za5 <| sM hs rfl fun hs => s1 hs (zga rfl rfl rfl) fun hs => sA hs rfl fun hs => za1 ?_
    exact hK11 k36 _ _ (Nat.lt_succ_self _) ⟨y49, y54,(w64 (y35 + 1)), v50, rw51, hm, hW52, hs.sub ⟨rfl, rfl, rfl, rfl, trivial⟩⟩
   refine zag hs rfl (fun hg55 => ?_) (fun hg55 => ?_)
   ·replace hm := oc_t hg55 hm
    refine Wq fun hK18 => sM hs rfl fun hs => sM hs rfl fun hs => sM hs rfl fun hs => ?_
    obtain ⟨x56, hx57, hm⟩ := ob hm
    obtain ⟨r58, hr59, hq60, hi61, hb62⟩ := hW32.geti hx57
    obtain ⟨v63, rfl, hp64⟩ := hq60
    refine s1 hs (zai (Rd.st hs (.head _)) rfl rfl hi61 hb62 Tryz.underlying50 ti49) fun hs => ?_
    obtain ⟨x65, hx66, hm⟩ := ob hm
    have hex65 := zjh hx66
    have hW68 := RW.set (i := y34.toNat) (r := [v45]) (x := (x38 : Int)) hW32 (⟨_, rfl, hp46⟩); rw [hex65] at hW68
    refine zgr (i := 0) (j := 0) (m := y34.toNat) hs rfl rfl rfl hr59 (by decide) ti49 hp46.one (.free rfl) fun _ _ hs => ?_
    replace hs : St _ _ _ (.row v30 49 1 (rw31.set y34.toNat [v45]) :: L) _ _ _ := hs
    generalize hgrw67 : rw31.set y34.toNat [v45] = rw67 at hs hW68; clear hgrw67
    refine za1 <| hK18 <| za5 <| sM hs rfl fun hs => s1 hs (zga rfl rfl rfl) fun hs => sA hs rfl fun hs => za1 ?_
    exact ⟨x65,(w64 (y34 + 1)), v30, rw67, hm, hW68, hs.sub ⟨rfl, rfl, rfl, rfl, trivial⟩⟩
   replace hm := oc_f hg55 hm
   refine zak ?_
   exact ⟨y29, y34, v30, rw31, hm, hW32, hs.sub ⟨rfl, rfl, rfl, rfl, trivial⟩⟩
  replace hm := oc_f hg37 hm
  refine ze8 <| hB10 _ _ ?_
  exact ⟨y29, y34, v30, rw31, hm, hW32, hs.sub ⟨rfl, rfl, trivial⟩⟩
end Go.Proofs.YtdjjeahiomackaaGreat
