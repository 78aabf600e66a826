/-
  Walks and laws of this seat.
-/
import Derived.Test.YtklcdfnhdljkjaaL6s
import Derived.Test.YtklcdfnhdljkjaaG6c
import Derived.Test.YtklcdfnhdljkjaaG6p
namespace Go.Proofs.Ytklcdfnhdljkjaa
set_option linter.unusedVariables false
set_option linter.unusedSimpArgs false
open Go.RowKit Go.Sl
def zhr : Option Int :=
  some (-1)
def zcx (p0 : (List Int)) (p1 : Int) : Nat → Int → Option Int
  | 0, _ => none
  | k6 + 1, y5 =>
  (bif (decide (y5 < (p0.length : Int))) then (geti p0 y5).bind fun x8 =>
  (bif (decide (p1 = x8)) then some y5 else
  (zcx p0 p1 k6) (w64 (y5 + 1))) else
  zhr)
def zhd (n : Nat) (p0 : (List Int)) (p1 : Int) : Option Int :=
  zcx p0 p1 n 0
def idxP (xs : List Int) (i : Int) : Option Int := zhd (xs.length + 1) xs i
set_option maxRecDepth 20000 in
set_option maxHeartbeats 4000000 in
theorem zka (n : Nat) {f : Fz} {ab : List Nat} {L : List Ent} {w0 w : World} {p0 : List Int} {a0 : Value} {rw1 : List (List Value)} {p1 : Int} {a1 : Value} {res : Int} (hR2 : Rd f L a0 1 rw1) (hW3 : RW (tP ab) f rw1 p0) (hp1 : RP ab a1 p1) (hn : ab.Nodup) (hpb : PBH L ab []) (hm : zhd n p0 p1 = some res) (hC : Cw w0 f L w) :
    Calls Try.prog 46 [a0, a1].toArray w fun e w' => e = .returned (.int .i64 res) ∧ Cw w0 f L w' := by
 unfold zhd at hm
 refine enter Try.func46 rfl Try.ntmps46 (by simp) hC fun a hs => ?_
 have hle := Fz.le.refl f
 refine zk1 fun K1 hK1 => ?_
 refine za7 ?_
 refine sy (v := .int .i64 (0)) hs (zca rfl) ?_; clear hs; (try clear a w); intro a w hs
 refine za0 ?_
 refine hK1 _ _ ?_; clear hK1
 refine zk1 fun K2 hK2 => ?_
 refine zk1 fun K3 hK3 => ?_
 refine za7 ?_
 refine sy (v := a0) hs (zaa rfl) ?_; clear hs; (try clear a w); intro a w hs
 refine sy hs (zb7 hR2 hW3 rfl Try.underlying49) ?_; clear hs; (try clear a w); intro a w hs
 refine sy (v := .int .i64 (0)) hs (zaa rfl) ?_; clear hs; (try clear a w); intro a w hs
 refine za0 ?_
 refine hK3 _ _ ?_; clear hK3
 refine zai (fun a w => zhr = some res ∧ St 19 w0 f (L) [] a w) ?_ ?_
 ·clear hs hm
  rintro a w ⟨hm, hs⟩
  replace hs : St _ _ _ (L) _ _ _ := hs
  unfold zhr at hm
  refine hK2 _ _ ?_; clear hK2
  refine zk1 fun K4 hK4 => ?_
  refine za7 ?_
  refine sy (v := .int .i64 ((-1))) hs (zca rfl) ?_; clear hs; (try clear a w); intro a w hs
  refine za0 ?_
  refine hK4 _ _ ?_; clear hK4
  refine zau ?_
  obtain rfl := Option.some.inj hm
  refine RtV1 hs rfl (rv_t hs rfl) ?_
  exact ⟨rfl, (hs.weak hle).cw⟩
 ·refine zam fun Qe5 hB5 hO5 => ?_
  refine zcw (fun (k : Nat) a w => ∃ (y5 : Int), zcx p0 p1 k y5 = some res ∧ St 19 w0 f (L) [(0, a0), (1, a1), (7, .int .i64 ((p0.length : Int))), (8, .int .i64 (y5))] a w) (fun k => k) n ⟨0, hm, hs.sub ⟨rfl, rfl, rfl, rfl, trivial⟩⟩ ?_
  clear hs hm
  intro k
  rintro a w ⟨y5, hm, hs⟩
  replace hs : St _ _ _ (L) _ _ _ := hs
  intro K6 hK6
  cases k with
  | zero => simp [zcx] at hm
  | succ k6 =>
   rw [zcx] at hm
   refine zk1 fun K7 hK7 => ?_
   refine za7 ?_
   refine sy hs (zg7 rfl rfl) ?_; clear hs; (try clear a w); intro a w hs
   refine za0 ?_
   refine hK7 _ _ ?_; clear hK7
   refine zk1 fun K8 hK8 => ?_
   refine zaf hs rfl (fun hg7 => ?_) (fun hg7 => ?_)
   ·replace hm := oc_t hg7 hm
    refine zah ?_
    refine hK8 _ _ ?_; clear hK8
    refine zk1 fun K9 hK9 => ?_
    refine zam fun Qe10 hB10 hO10 => ?_
    refine zk1 fun K11 hK11 => ?_
    refine za7 ?_
    refine sy (v := .int .i64 (y5)) hs (zaa rfl) ?_; clear hs; (try clear a w); intro a w hs
    refine sy (v := .int .i64 (y5)) hs (zca rfl) ?_; clear hs; (try clear a w); intro a w hs
    refine za0 ?_
    refine hK11 _ _ ?_; clear hK11
    refine zk1 fun K12 hK12 => ?_
    refine za7 ?_
    refine sy (v := a1) hs (zaa rfl) ?_; clear hs; (try clear a w); intro a w hs
    refine sy (v := a0) hs (zaa rfl) ?_; clear hs; (try clear a w); intro a w hs
    refine sy (v := .int .i64 (y5)) hs (zaa rfl) ?_; clear hs; (try clear a w); intro a w hs
    obtain ⟨x8, hx9, hm⟩ := ob hm
    obtain ⟨r10, hr11, hq12, hi13, hb14⟩ := hW3.geti hx9
    obtain ⟨v8, rfl, hp8⟩ := hq12
    refine sy hs (za8 hR2 rfl rfl hi13 hb14 Try.underlying49 ti48) ?_; clear hs; (try clear a w); intro a w hs
    refine sy (v := v8) hs (zaw (i := y5.toNat) (j := 0) hR2 rfl hr11 rfl Try.underlying48 rfl) ?_; clear hs; (try clear a w); intro a w hs
    refine sy hs (y_apeq hn hpb rfl rfl hp1 hp8 Try.underlying48 ti51 (by decide)) ?_; clear hs; (try clear a w); intro a w hs
    refine za0 ?_
    refine hK12 _ _ ?_; clear hK12
    refine zaf hs rfl (fun hg15 => ?_) (fun hg15 => ?_)
    ·replace hm := oc_t hg15 hm
     refine zk1 fun K13 hK13 => ?_
     refine za7 ?_
     refine sy (v := .int .i64 (y5)) hs (zaa rfl) ?_; clear hs; (try clear a w); intro a w hs
     refine sy (v := .int .i64 (y5)) hs (zca rfl) ?_; clear hs; (try clear a w); intro a w hs
     refine za0 ?_
     refine hK13 _ _ ?_; clear hK13
     refine zau ?_
     obtain rfl := Option.some.inj hm
     refine RtV1 hs rfl (rv_t hs rfl) ?_
     exact ⟨rfl, (hs.weak hle).cw⟩
    ·replace hm := oc_f hg15 hm
     refine zah ?_
     refine hK9 _ _ ?_; clear hK9
     refine za7 ?_
     refine sy hs (zeq rfl rfl rfl) ?_; clear hs; (try clear a w); intro a w hs
     refine sy (v := .int .i64 ((w64 (y5 + 1)))) hs (zaa rfl) ?_; clear hs; (try clear a w); intro a w hs
     refine za0 ?_
     exact hK6 k6 _ _ (Nat.lt_succ_self _) ⟨(w64 (y5 + 1)), hm, hs.sub ⟨rfl, rfl, rfl, rfl, trivial⟩⟩
   ·replace hm := oc_f hg7 hm
    refine zc9 ?_
    refine hB5 _ _ ?_
    exact ⟨hm, hs.sub trivial⟩
theorem zop (n : Nat) {f : Fz} {ab : List Nat} {v : Value} {rows : List (List Value)} {xs ys : List Int} {lo hi : Nat} {res : List Int} (hW : RW (tP ab) f rows xs) (h1 : lo ≤ hi) (h3 : hi ≤ rows.length) (h2 : (xs.take hi).drop lo = ys) (hm : appM 8 [] ys = some res) :
    Does Try.prog 54 [cutv v 1 lo hi] f [.row v 48 1 rows] (fun r f' L' => ∃ (u0 : Value) (ur : List (List Value)), L' = [.row u0 48 1 ur, .row v 48 1 rows] ∧ r = u0 ∧ RW (tP ab) f' ur res) := by
  intro w0 L w hC
  have hRv : Rd f (.row v 48 1 rows :: L) (cutv v 1 lo hi) 1 ((rows.take hi).drop lo) := (Rd.ofOwn (.head _) hC).cut h1 h3
  have hW1 : RW (tP ab) f ((rows.take hi).drop lo) ys := by rw [← h2]; exact (hW.take hi).drop lo
  generalize (rows.take hi).drop lo = rw1 at hRv hW1
  generalize cutv v 1 lo hi = a0 at hRv ⊢
  obtain ⟨hb, he⟩ := zcj hm
  have hR' := hRv
  obtain ⟨_, ao, cap, rfl, _, hnil, _⟩ := hR'
  refine enter Try.func54 rfl Try.ntmps54 (by simp) hC fun a hs => ?_
  replace hs : St _ _ _ (.row v 48 1 rows :: L) _ _ _ := hs
  refine zk1 fun K1 hK1 => ?_
  refine za7 ?_
  refine sy hs (zca rfl) ?_; clear hs; (try clear a w); intro a w hs
  refine za0 ?_
  refine hK1 _ _ ?_; clear hK1
  refine zk1 fun K1 hK1 => ?_
  refine zk1 fun K2 hK2 => ?_
  refine za7 ?_
  refine sy hs (zaa rfl) ?_; clear hs; (try clear a w); intro a w hs
  refine sy hs (y_slnil rfl rfl Try.underlying49) ?_; clear hs; (try clear a w); intro a w hs
  refine za0 ?_
  refine hK2 _ _ ?_; clear hK2
  refine zaf hs rfl (fun hg => ?_) (fun hg => ?_)
  · refine zk1 fun K2 hK2 => ?_
    refine za7 ?_
    refine sy hs (zca rfl) ?_; clear hs; (try clear a w); intro a w hs
    refine za0 ?_
    refine hK2 _ _ ?_; clear hK2
    refine zau ?_
    have hao : ao = none := by simpa using hg
    have hp : ys = [] := by
      have h1 := hnil hao
      rw [h1] at hW1
      cases ys with
      | nil => rfl
      | cons x p => exact hW1.elim
    subst hp
    subst he
    refine RtV1 hs rfl (rv_t hs rfl) ?_
    replace hs := hs.nilRow 48 1
    exact ⟨_, f, [.row (.slice none 0 0) 48 1 [], .row v 48 1 rows], rfl, .refl f, hs.cw, _, _, rfl, rfl, trivial⟩
  · refine zah ?_
    refine hK1 _ _ ?_; clear hK1
    refine zk1 fun K2 hK2 => ?_
    refine za7 ?_
    refine RL_bs0 hs Try.underlying49 ti48 ?_; clear hs; (try clear a w); intro v1 a w hs
    refine sy hs (zaa rfl) ?_; clear hs; (try clear a w); intro a w hs
    refine zcs (i := 0) hs rfl rfl rfl (hRv.mono (Fz.le.refl f) (fun e he => List.mem_cons_of_mem _ he)) Try.underlying49 ti48 (by decide) (by rw [hW1.len]; exact hb) (.free rfl) (by decide) ?_; clear hs; (try clear a w); intro v2 a w hs
    replace hs : St _ _ _ (.row v2 48 1 ([] ++ rw1) :: .row v 48 1 rows :: L) _ _ _ := hs
    refine sy hs (zca rfl) ?_; clear hs; (try clear a w); intro a w hs
    refine za0 ?_
    refine hK2 _ _ ?_; clear hK2
    refine zau ?_
    refine RtV1 hs rfl (rv_t hs rfl) ?_
    refine ⟨_, f, [.row v2 48 1 ([] ++ rw1), .row v 48 1 rows], rfl, .refl f, hs.cw, _, _, rfl, rfl, ?_⟩
    rw [← he]
    exact hW1
end Go.Proofs.Ytklcdfnhdljkjaa
