/-
  Walks and laws of this seat.
-/
import Derived.Test.YtdjjeahiomackaaGreatBash
import Derived.Test.YtdjjeahiomackaaGreatL6f
import Derived.Test.YtdjjeahiomackaaGreatL6w
import Derived.Test.YtdjjeahiomackaaGreatRows
import Derived.Test.YtdjjeahiomackaaGreatMa
namespace Go.Proofs.YtdjjeahiomackaaGreat
set_option linter.unusedVariables false
set_option linter.unusedSimpArgs false
set_option linter.unusedSectionVars false
set_option maxHeartbeats 4000000
set_option maxRecDepth 100000
open Go.RowKit Go.Sl
def tree_Parse (n : Nat) (p0 : (List Int)) : Option (zad × Int) :=
  (zkz n p0).bind fun x8 =>
  (zhg n x8).bind fun x17 =>
  some (x17.1, x17.2)
theorem tree_Parse_ok (n : Nat) {f : Fz} {p0 : (List Int)} {a0 : Value} {res : (zad × Int)} (h0 : RS (tInt .i32) f a0 p0) (hm : tree_Parse n p0 = some res) : Does Tryz.prog 30 [a0] f [] (fun r f' L' => ∃ (u0 : List Value), L' = [] ∧ r = .tuple #[.agg u0.toArray, .int .i64 res.2] ∧ zih.R f' u0 res.1) := by
 unfold tree_Parse at hm
 intro w0 L w hC
 obtain ⟨rw1, hR2, hW3⟩ := h0
 refine enter Tryz.func30 rfl Tryz.ntmps30 (by simp) hC fun a hs => ?_
 have hle := Fz.le.refl f
 refine Wq fun hK1 => zd3 hs ti30 (.free rfl) (by decide) fun b5 _ _ hs => sA hs rfl fun hs => za1 <| hK1 <| Wq fun hK2 => sM hs rfl fun hs => ?_
 obtain ⟨x8, hx9, hm⟩ := ob hm
 refine zi2 hs rfl has58 rfl (zoj n ⟨rw1, hR2, hW3⟩ hx9) ?_; clear hs; (try clear a w)
 rintro v12 f10 _ a w hf11 ⟨_, rfl, rfl, ⟨rw13, hR14, hW15⟩⟩ hs
 replace hle := hle.trans hf11
 obtain ⟨x17, hx18, hm⟩ := ob hm
 refine zi2 hs rfl has7 rfl (zl9 n ⟨rw13, hR14, hW15⟩ hx18) ?_; clear hs; (try clear a w)
 rintro _ f19 _ a w hf20 ⟨r21, rfl, rfl, hq22⟩ hs
 replace hle := hle.trans hf20
 obtain ⟨v23, rfl, ⟨rw24, hR25, hW26⟩⟩ := hq22
 refine s1 (v := .agg #[v23]) hs (zan rfl rfl) fun hs => s1 (v := .int .i64 (x17.2)) hs (zan rfl rfl) fun hs => zbe (i := 0) hs rfl rfl rfl ti30 ⟨rfl, rfl⟩ (AllC.arr (r := [v23]) ⟨hR25.one, trivial⟩) (.free rfl) fun _ _ hs => sA hs rfl fun hs => za1 <| hK2 <| zbl ?_
 obtain rfl := Option.some.inj hm
 refine RtV2 hs rfl (rv_a hs rfl Tryz.underlying30 rfl ti30 (fun j u hj => Cell.blk (.head _) hj) rfl) (rv_t hs rfl) ?_
 exact ⟨_, f19,[], rfl, hle,(hs.subL (.cons _ (.refl _))).cw,[v23], rfl, rfl, ⟨_, rfl, ⟨rw24, hR25, hW26⟩⟩⟩
end Go.Proofs.YtdjjeahiomackaaGreat
namespace Go.V
set_option linter.unusedVariables false
set_option linter.unusedSimpArgs false
set_option linter.unusedSectionVars false
section
open Go.RowKit Go.Sl Go.Proofs Go.Proofs.YtdjjeahiomackaaGreat
variable [F0]
def tree_Parse (k : Nat) (l : List Int) : Option (TreT × Int) := (YtdjjeahiomackaaGreat.tree_Parse k l).bind fun r => some (ofT r.1, r.2)
def zkk (k : Nat) : Con := ⟨[.d (.sl (.int .i32))],[.d cTreT, .d (.int .i64)], fun x => tree_Parse k x⟩
set_option maxRecDepth 100000 in
theorem tree_Parse_ok (k : Nat) : ConOk Tryz.prog 30 (zkk k) := by
  refine ⟨⟨Tryz.f30, rfl, rfl, by decide⟩, fun x y hm f vs es hf0 hM => ?_⟩
  obtain ⟨v, rfl, hx, rfl⟩ := hM
  obtain ⟨z, h1, h2⟩ := Option.bind_eq_some_iff.1 hm
  obtain rfl := Option.some.inj h2
  refine (YtdjjeahiomackaaGreat.tree_Parse_ok k (run_S.1 hx) h1).mono ?_
  rintro u f' L' ⟨u0, rfl, rfl, h3⟩
  exact ⟨[.agg u0.toArray, .int .i64 z.2],[.agg u0.toArray, .int .i64 z.2], rfl, rfl, rfl, _, _,[],[], rfl, rfl, ⟨TC.vR.2 ⟨u0, tre_R.2 (by rw [toT_of]; exact h3), rfl⟩, rfl⟩, _, rfl, rfl, rfl⟩
end
section
variable [F0]
set_option maxRecDepth 100000
open Go.RowKit Go.Sl Go.Proofs
def zi1 (k : Nat) (S : TreT → Int → Option ByteArray) : Nat → TreT → ByteArray → (List Int) → Int → Option ByteArray
  | 0, _, _, _, _ => none
  | n + 1, v2, v5, v6, v7 =>
  (bif decide (v7 < (v6.length : Int)) then
  ((geti v6 v7).bind fun r2 =>
  (geti v2.1 r2).bind fun r3 =>
  (bif decide (r3.1 = 2) then
  ((geti v6 v7).bind fun r4 =>
  (geti v2.1 r4).bind fun r5 =>
  (addS v5 r5.2.2.1).bind fun r6 =>
  (addS r6 (bs [59])).bind fun r7 =>
  ((zi1 k S n) v2 r7 v6 (w64 (v7 + 1))))
  else ((geti v6 v7).bind fun r8 =>
  (geti v2.1 r8).bind fun r9 =>
  (addS v5 r9.2.1).bind fun r10 =>
  (addS r10 (bs [40])).bind fun r11 =>
  (geti v6 v7).bind fun r12 =>
  (S v2 r12).bind fun r13 =>
  (addS r11 r13).bind fun r14 =>
  (addS r14 (bs [41])).bind fun r15 =>
  ((zi1 k S n) v2 r15 v6 (w64 (v7 + 1))))))
  else (some v5))
def zmu (k : Nat) (S : TreT → Int → Option ByteArray) (n : Nat) (a0 : TreT) (a1 : Int) : Option ByteArray :=
  ((zqv k a0 a1).bind fun r1 =>
  ((zi1 k S n) a0 (bs []) r1 0))
def zin : Nat → TreT → Int → Option ByteArray
  | 0, _, _ => none
  | k + 1, a0, a1 => zmu k (fun a0 a1 => zin k a0 a1) k a0 a1
def zib (k : Nat) : Con := ⟨[.d cTreT, .d (.int .i64)],[.d .str], fun x => zin k x.1 x.2⟩
theorem zlk : (k : Nat) → ConOk Tryz.prog 32 (zib k)
  | 0 => con0 ⟨Tryz.f32, rfl, rfl, by decide⟩
  | k + 1 => zcf (ps := [.d cTreT, .d (.int .i64)]) (rs := [.d .str]) (fn := Tryz.f32) (E := ⟨tOf tl, gOf [(32, zib k),(60, zlh k)]⟩) ⟨zdl zfz, zdm ⟨zlk k, zqu k, trivial⟩, mixedOk⟩ (body := bodyOf Tryz.f32) (pl := [(6,[(0,0),(1,0),(2,0),(3,0),(4,0),(5,0),(6,0),(7,0),(8,0),(9,0)],[2]),(7,[(0,0),(1,0),(2,0),(3,0),(4,0),(5,0),(6,0),(7,0),(8,0),(9,0),(10,0),(11,0),(12,0)],[2]),(8,[(0,0),(1,0),(2,0),(3,0),(4,0),(5,0),(6,0),(7,0),(8,0),(9,0),(10,0),(11,0),(12,0),(13,0),(14,0),(15,0),(16,0),(17,0),(18,0),(19,0),(20,0)],[2])]) (M := 400) (cuts := [⟨4,[0,0,5,4,1,0,1,1,1],[2,5,6,7],[.p [.d cTreT], .d .str, .d (.sl (.int .i64)), .d (.int .i64)], fun n x => zi1 k (zin k) n x.1 x.2.1 x.2.2.1 x.2.2.2,[]⟩]) (entry := fun n x => zmu k (zin k) n x.1 x.2) rfl rfl (by decide) (by kernel_rfl) ⟨⟨fun _ => by kernel_rfl, fun _ _ => by kernel_rfl⟩, trivial⟩ (fun _ _ => by kernel_rfl) k
def zpu (k : Nat) (a0 : ByteArray) (a1 : ByteArray) : Option Bool :=
  ((runesM a0).bind fun r1 =>
  (tree_Parse k r1).bind fun r2 =>
  (bif decide (r2.2 = 0) then
  bif decide (0 < (r2.1.1.length : Int)) then
  (geti r2.1.1 0).bind fun r3 =>
  bif decide (r3.2.1 = (bs [114,111,111,116])) then
  (zoy k r2.1).bind fun r4 =>
  bif decide (r4 = 0) then
  (zin k r2.1 0).bind fun r5 =>
  some (decide (r5 = a1))
  else some false
  else some false
  else some false
  else some false))
def znv (k : Nat) : Con := ⟨[.d .str, .d .str],[.d .bool], fun x => zpu k x.1 x.2⟩
theorem zu1 (k : Nat) : ConOk Tryz.prog 14 (znv k) :=
  zcf (ps := [.d .str, .d .str]) (rs := [.d .bool]) (fn := Tryz.f14) (E := ⟨tOf tl, gOf [(30, zkk k),(31, zkp k),(32, zib k)]⟩) ⟨zdl zfz, zdm ⟨tree_Parse_ok k, zph k, zlk k, trivial⟩, mixedOk⟩ (body := bodyOf Tryz.f14) (pl := []) (M := 400) (cuts := []) (entry := fun n x => zpu k x.1 x.2) rfl rfl (by decide) (by kernel_rfl) trivial (fun _ _ => by kernel_rfl) k
def zhl (k : Nat) : Option Bool :=
  ((zpu k (bs [97,60,112,62,98,60,100,105,118,62,99]) (bs [97,59,112,40,98,59,41,100,105,118,40,99,59,41])).bind fun r1 =>
  bif r1 then
  (zpu k (bs [60,116,97,98,108,101,62,120,60,116,100,62,49,60,116,100,62,50,60,116,114,62,60,116,100,62,51,60,47,116,97,98,108,101,62]) (bs [120,59,116,97,98,108,101,40,116,114,40,116,100,40,49,59,41,116,100,40,50,59,41,41,116,114,40,116,100,40,51,59,41,41,41])).bind fun r2 =>
  some r2
  else some false)
def zon (k : Nat) : Con := ⟨[],[.d .bool], fun _ => zhl k⟩
theorem zpt (k : Nat) : ConOk Tryz.prog 6 (zon k) :=
  zcf (ps := []) (rs := [.d .bool]) (fn := Tryz.f6) (E := ⟨tOf tl, gOf [(14, znv k)]⟩) ⟨zdl zfz, zdm ⟨zu1 k, trivial⟩, mixedOk⟩ (body := bodyOf Tryz.f6) (pl := []) (M := 400) (cuts := []) (entry := fun n _ => zhl k) rfl rfl (by decide) (by kernel_rfl) trivial (fun _ _ => by kernel_rfl) k
end
section
open Go.RowKit Go.Sl Go.Proofs
set_option maxRecDepth 100000 in
theorem known_eq (k : Nat) : zhl (k + 300) = some true := by kernel_rfl
end
end Go.V
