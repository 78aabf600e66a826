/-
  Walks and laws of this seat.
-/
import Derived.Test.YtdjjeahiomackaaGreatT6
import Derived.Test.YtdjjeahiomackaaGreatL6s
import Derived.Test.YtdjjeahiomackaaGreatG6p
namespace Go.Sl
set_option linter.unusedVariables false
set_option linter.unusedSimpArgs false
set_option linter.unusedSectionVars false
open Go.RowKit
section
variable {P : Program} {w : World} {n : Nat} {E : List (Nat × Value)} {C : World → Prop}
variable {d : Option Tmp} {ty : TypeId} {pos : String} {af : Array Edge} {g : Option (Nat × Bool)}
theorem zsh {t e : TypeId} {ao : Option Addr} {l c : Nat} (ht : P.underlying t = some (.slice e)) : (Op.equal t (.slice ao l c) (.slice none 0 0)).run P w = .ok ao.isNone w := by
  cases ao with
  | none => exact ze7 (fun d => by simp [Op.equalIn, run_underlying ht]) rfl
  | some a => exact ze7 (fun d => by simp [Op.equalIn, run_underlying ht]) rfl
theorem zuc {x y : Operand} {t t' e : TypeId} {ao : Option Addr} {l c : Nat} (hx : opv E x = some (.slice ao l c)) (hy : opv E y = some (.slice none 0 0)) (ht : P.underlying t = some (.slice e)) :
    Y P C n E ⟨d, .binOp .eql t x y t', ty, pos, af, g⟩ (.bool ao.isNone) :=
  .of fun a ha w _ => by
    simp only [execOp, ha.eval hx, ha.eval hy, eqGuard, binOp, Sem.run_bind, Sem.run_pure, zsh ht, Result.andThen_ok]
    rfl
end
end Go.Sl
namespace Go.Proofs.YtdjjeahiomackaaGreat
set_option linter.unusedVariables false
set_option linter.unusedSimpArgs false
set_option linter.unusedSectionVars false
section
open Go.RowKit Go.Sl
def zgz (_ : Nat) (p0 : List zam) : Option (List zam) := appM 32 [] p0
theorem zhq (n : Nat) {f : Fz} {p0 : List zam} {a0 : Value} {res : List zam} (h0 : RS zch f a0 p0) (hm : zgz n p0 = some res) :
    Does Tryz.prog 51 [a0] f [] (fun r f' L' => ∃ (u0 : Value), L' = [] ∧ r = u0 ∧ RS zch f' u0 res) := by
  intro w0 L w hC
  obtain ⟨rw1, hR1, hW1⟩ := h0
  obtain ⟨hb, he⟩ := zcs hm
  have hR' := hR1
  obtain ⟨_, ao, cap, rfl, _, hnil, _⟩ := hR'
  refine enter Tryz.func51 rfl Tryz.ntmps51 (by simp) hC fun a hs => ?_
  refine zc0 fun K1 hK1 => ?_
  refine za5 ?_
  refine sy hs (zb2 rfl) fun _ _ hs => ?_
  refine za1 ?_
  refine hK1 _ _ ?_; clear hK1
  refine zc0 fun K1 hK1 => ?_
  refine zc0 fun K2 hK2 => ?_
  refine za5 ?_
  refine sy hs (za9 rfl) fun _ _ hs => ?_
  refine sy hs (zuc rfl rfl Tryz.underlying25) fun _ _ hs => ?_
  refine za1 ?_
  refine hK2 _ _ ?_; clear hK2
  refine zag hs rfl (fun hg => ?_) (fun hg => ?_)
  · refine zc0 fun K2 hK2 => ?_
    refine za5 ?_
    refine sy hs (zb2 rfl) fun _ _ hs => ?_
    refine za1 ?_
    refine hK2 _ _ ?_; clear hK2
    refine zbl ?_
    have hao : ao = none := by simpa using hg
    have hp : p0 = [] := by
      have h1 := hnil hao
      rw [h1] at hW1
      cases p0 with
      | nil => rfl
      | cons x p => exact hW1.elim
    subst hp
    subst he
    refine RtV1 hs rfl (rv_t hs rfl) ?_
    exact ⟨_, f,[], rfl, .refl f, hs.cw, _, rfl, rfl, RS.nil⟩
  · refine zak ?_
    refine hK1 _ _ ?_; clear hK1
    refine zc0 fun K2 hK2 => ?_
    refine za5 ?_
    refine ztp hs Tryz.underlying25 ti38 fun v1 _ _ hs => ?_
    refine sy hs (za9 rfl) fun _ _ hs => ?_
    refine zdb (i := 0) hs rfl rfl rfl hR1.up Tryz.underlying25 ti38 (by decide) (by rw [hW1.len]; exact hb) (.free rfl) (by decide) fun v2 _ _ hs => ?_
    refine sy hs (zb2 rfl) fun _ _ hs => ?_
    refine za1 ?_
    refine hK2 _ _ ?_; clear hK2
    refine zbl ?_
    obtain ⟨f2, hf2, hs, hR2⟩ := hs.frz
    refine RtV1 hs rfl (rv_t hs rfl) ?_
    refine ⟨_, f2,[], rfl, hf2, hs.cw, _, rfl, rfl,([] ++ rw1), hR2, ?_⟩
    rw [← he]
    exact hW1.le hf2
end
section
open Go.RowKit Go.Sl
def zfd : Option Int :=
  some (-1)
def zbr (p0 : (List Int)) (p1 : Int) : Nat → Int → Option Int
  | 0, _ => none
  | k6 + 1, y5 =>
  (bif (decide (y5 < (p0.length : Int))) then (geti p0 y5).bind fun x8 =>
  (bif (decide (p1 = x8)) then some y5 else
  (zbr p0 p1 k6) (w64 (y5 + 1))) else
  zfd)
def zgh (n : Nat) (p0 : (List Int)) (p1 : Int) : Option Int :=
  zbr p0 p1 n 0
def idxP (xs : List Int) (i : Int) : Option Int := zgh (xs.length + 1) xs i
set_option maxRecDepth 20000 in
set_option maxHeartbeats 4000000 in
theorem zi5 (n : Nat) {f : Fz} {ab : List Nat} {L : List Ent} {w0 w : World} {p0 : List Int} {a0 : Value} {rw1 : List (List Value)} {p1 : Int} {a1 : Value} {res : Int} (hR2 : Rd f L a0 1 rw1) (hW3 : RW (tP ab) f rw1 p0) (hp1 : RP ab a1 p1) (hn : ab.Nodup) (hpb : PBH L ab []) (hm : zgh n p0 p1 = some res) (hC : Cw w0 f L w) :
    Calls Tryz.prog 37 [a0, a1].toArray w fun e w' => e = .returned (.int .i64 res) ∧ Cw w0 f L w' := by
 unfold zgh at hm
 refine enter Tryz.func37 rfl Tryz.ntmps37 (by simp) hC fun a hs => ?_
 have hle := Fz.le.refl f
 refine zc0 fun K1 hK1 => ?_
 refine za5 ?_
 refine sy hs (zb2 rfl) fun _ _ hs => ?_
 refine za1 ?_
 refine hK1 _ _ ?_; clear hK1
 refine zc0 fun K2 hK2 => ?_
 refine zc0 fun K3 hK3 => ?_
 refine za5 ?_
 refine sy hs (za9 rfl) fun _ _ hs => ?_
 refine sy hs (ze4 hR2 hW3 rfl Tryz.underlying50) fun _ _ hs => ?_
 refine sy hs (za9 rfl) fun _ _ hs => ?_
 refine za1 ?_
 refine hK3 _ _ ?_; clear hK3
 refine zay (fun a w => zfd = some res ∧ St 19 w0 f (L) [] a w) ?_ ?_
 ·clear hs hm
  rintro a w ⟨hm, hs⟩
  unfold zfd at hm
  refine hK2 _ _ ?_; clear hK2
  refine zc0 fun K4 hK4 => ?_
  refine za5 ?_
  refine sy hs (zb2 rfl) fun _ _ hs => ?_
  refine za1 ?_
  refine hK4 _ _ ?_; clear hK4
  refine zbl ?_
  obtain rfl := Option.some.inj hm
  refine RtV1 hs rfl (rv_t hs rfl) ?_
  exact ⟨rfl,(hs.weak hle).cw⟩
 ·refine zas fun Qe5 hB5 hO5 => ?_
  refine zeu (fun (k : Nat) a w => ∃ (y5 : Int), zbr p0 p1 k y5 = some res ∧ St 19 w0 f (L) [(0, a0),(1, a1),(7, .int .i64 ((p0.length : Int))),(8, .int .i64 (y5))] a w) (fun k => k) n ⟨0, hm, hs.sub ⟨rfl, rfl, rfl, rfl, trivial⟩⟩ ?_
  clear hs hm
  intro k
  rintro a w ⟨y5, hm, hs⟩
  intro K6 hK6
  cases k with
  | zero => simp [zbr] at hm
  | succ k6 =>
   rw [zbr] at hm
   refine zc0 fun K7 hK7 => ?_
   refine za5 ?_
   refine sy hs (zhw rfl rfl) fun _ _ hs => ?_
   refine za1 ?_
   refine hK7 _ _ ?_; clear hK7
   refine zc0 fun K8 hK8 => ?_
   refine zag hs rfl (fun hg7 => ?_) (fun hg7 => ?_)
   ·replace hm := oc_t hg7 hm
    refine zak ?_
    refine hK8 _ _ ?_; clear hK8
    refine zc0 fun K9 hK9 => ?_
    refine zas fun Qe10 hB10 hO10 => ?_
    refine zc0 fun K11 hK11 => ?_
    refine za5 ?_
    refine sy hs (za9 rfl) fun _ _ hs => ?_
    refine sy hs (zb2 rfl) fun _ _ hs => ?_
    refine za1 ?_
    refine hK11 _ _ ?_; clear hK11
    refine zc0 fun K12 hK12 => ?_
    refine za5 ?_
    refine sy hs (za9 rfl) fun _ _ hs => ?_
    refine sy hs (za9 rfl) fun _ _ hs => ?_
    refine sy hs (za9 rfl) fun _ _ hs => ?_
    obtain ⟨x8, hx9, hm⟩ := ob hm
    obtain ⟨r10, hr11, hq12, hi13, hb14⟩ := hW3.geti hx9
    obtain ⟨v8, rfl, hp8⟩ := hq12
    refine sy hs (zai hR2 rfl rfl hi13 hb14 Tryz.underlying50 ti49) fun _ _ hs => ?_
    refine sy (v := v8) hs (ze3 (i := y5.toNat) (j := 0) hR2 rfl hr11 rfl Tryz.underlying49 rfl) fun _ _ hs => ?_
    refine sy hs (y_apeq hn hpb rfl rfl hp1 hp8 Tryz.underlying49 ti52 (by decide)) fun _ _ hs => ?_
    refine za1 ?_
    refine hK12 _ _ ?_; clear hK12
    refine zag hs rfl (fun hg15 => ?_) (fun hg15 => ?_)
    ·replace hm := oc_t hg15 hm
     refine zc0 fun K13 hK13 => ?_
     refine za5 ?_
     refine sy hs (za9 rfl) fun _ _ hs => ?_
     refine sy hs (zb2 rfl) fun _ _ hs => ?_
     refine za1 ?_
     refine hK13 _ _ ?_; clear hK13
     refine zbl ?_
     obtain rfl := Option.some.inj hm
     refine RtV1 hs rfl (rv_t hs rfl) ?_
     exact ⟨rfl,(hs.weak hle).cw⟩
    ·replace hm := oc_f hg15 hm
     refine zak ?_
     refine hK9 _ _ ?_; clear hK9
     refine za5 ?_
     refine sy hs (zga rfl rfl rfl) fun _ _ hs => ?_
     refine sy hs (za9 rfl) fun _ _ hs => ?_
     refine za1 ?_
     exact hK6 k6 _ _ (Nat.lt_succ_self _) ⟨(w64 (y5 + 1)), hm, hs.sub ⟨rfl, rfl, rfl, rfl, trivial⟩⟩
   ·replace hm := oc_f hg7 hm
    refine ze8 ?_
    refine hB5 _ _ ?_
    exact ⟨hm, hs.sub trivial⟩
theorem zmz (n : Nat) {f : Fz} {ab : List Nat} {v : Value} {rows : List (List Value)} {xs ys : List Int} {lo hi : Nat} {res : List Int} (hW : RW (tP ab) f rows xs) (h1 : lo ≤ hi) (h3 : hi ≤ rows.length) (h2 : (xs.take hi).drop lo = ys) (hm : appM 8 [] ys = some res) :
    Does Tryz.prog 46 [cutv v 1 lo hi] f [.row v 49 1 rows] (fun r f' L' => ∃ (u0 : Value) (ur : List (List Value)), L' = [.row u0 49 1 ur, .row v 49 1 rows] ∧ r = u0 ∧ RW (tP ab) f' ur res) := by
  intro w0 L w hC
  have hRv : Rd f (.row v 49 1 rows :: L) (cutv v 1 lo hi) 1 ((rows.take hi).drop lo) := (Rd.ofOwn (.head _) hC).cut h1 h3
  have hW1 : RW (tP ab) f ((rows.take hi).drop lo) ys := by rw [← h2]; exact (hW.take hi).drop lo
  generalize (rows.take hi).drop lo = rw1 at hRv hW1
  generalize cutv v 1 lo hi = a0 at hRv ⊢
  obtain ⟨hb, he⟩ := zcs hm
  have hR' := hRv
  obtain ⟨_, ao, cap, rfl, _, hnil, _⟩ := hR'
  refine enter Tryz.func46 rfl Tryz.ntmps46 (by simp) hC fun a hs => ?_
  refine zc0 fun K1 hK1 => ?_
  refine za5 ?_
  refine sy hs (zb2 rfl) fun _ _ hs => ?_
  refine za1 ?_
  refine hK1 _ _ ?_; clear hK1
  refine zc0 fun K1 hK1 => ?_
  refine zc0 fun K2 hK2 => ?_
  refine za5 ?_
  refine sy hs (za9 rfl) fun _ _ hs => ?_
  refine sy hs (zuc rfl rfl Tryz.underlying50) fun _ _ hs => ?_
  refine za1 ?_
  refine hK2 _ _ ?_; clear hK2
  refine zag hs rfl (fun hg => ?_) (fun hg => ?_)
  · refine zc0 fun K2 hK2 => ?_
    refine za5 ?_
    refine sy hs (zb2 rfl) fun _ _ hs => ?_
    refine za1 ?_
    refine hK2 _ _ ?_; clear hK2
    refine zbl ?_
    have hao : ao = none := by simpa using hg
    have hp : ys = [] := by
      have h1 := hnil hao
      rw [h1] at hW1
      cases ys with
      | nil => rfl
      | cons x p => exact hW1.elim
    subst hp
    subst he
    refine RtV1 hs rfl (rv_t hs rfl) ?_
    replace hs := hs.nilRow 49 1
    exact ⟨_, f,[.row (.slice none 0 0) 49 1 [], .row v 49 1 rows], rfl, .refl f, hs.cw, _, _, rfl, rfl, trivial⟩
  · refine zak ?_
    refine hK1 _ _ ?_; clear hK1
    refine zc0 fun K2 hK2 => ?_
    refine za5 ?_
    refine ztp hs Tryz.underlying50 ti49 fun v1 _ _ hs => ?_
    refine sy hs (za9 rfl) fun _ _ hs => ?_
    refine zdb (i := 0) hs rfl rfl rfl (hRv.mono (Fz.le.refl f) (fun e he => List.mem_cons_of_mem _ he)) Tryz.underlying50 ti49 (by decide) (by rw [hW1.len]; exact hb) (.free rfl) (by decide) fun v2 _ _ hs => ?_
    refine sy hs (zb2 rfl) fun _ _ hs => ?_
    refine za1 ?_
    refine hK2 _ _ ?_; clear hK2
    refine zbl ?_
    refine RtV1 hs rfl (rv_t hs rfl) ?_
    refine ⟨_, f,[.row v2 49 1 ([] ++ rw1), .row v 49 1 rows], rfl, .refl f, hs.cw, _, _, rfl, rfl, ?_⟩
    rw [← he]
    exact hW1
end
end Go.Proofs.YtdjjeahiomackaaGreat
