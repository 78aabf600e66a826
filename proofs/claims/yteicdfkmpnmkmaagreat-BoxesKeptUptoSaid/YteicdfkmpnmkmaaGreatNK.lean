/-
  Walks and laws of this seat.
-/
import Derived.Test.YteicdfkmpnmkmaaGreatNE
import Derived.Test.YteicdfkmpnmkmaaGreatPR
import Derived.Test.YteicdfkmpnmkmaaGreatPK
import Derived.Test.YteicdfkmpnmkmaaGreatRows
namespace Go.Proofs.YteicdfkmpnmkmaaGreat
set_option linter.unusedVariables false
set_option linter.unusedSimpArgs false
set_option linter.unusedSectionVars false
open Go.RowKit Go.Sl Go.V
section
variable [F0]
theorem rowSl {n : Nat} {w0 w : World} {f : Fz} {L : List Ent} {v : Value} {e k} {rows : List (List Value)} (hC : Cw w0 f L w) (hm : .row v e k rows ∈ L) : v.oneCell' = true := by
  obtain ⟨⟨_, h⟩, _⟩ := hC.live _ hm
  rcases h with ⟨rfl, _⟩ | ⟨_, _, _, rfl, _⟩ <;> rfl
def zS : List Value := .int .i64 (-9) :: zB.tail
theorem zS_one : OneRow 57 zS := ⟨rfl, by simp [zS, zB, Value.oneCell']⟩
def SpoilOK (b : BoxT) : Prop := ∀ (f : Fz) (r : List Value) (X : List Ent), OT cBx f b r X → Does Tryz.prog 18 [.agg r.toArray] f X (fun _ f' L' => f' = f ∧ L' = [])
theorem pmS {x y : Ent} {A B C : List Ent} : (x :: y :: ((A ++ B) ++ C)).Perm (A ++ (x :: y :: (B ++ C))) :=
  zdp fun a => by simp only [List.count_append, List.count_cons]; omega
theorem pm4 {x1 x2 x3 x4 : Ent} {A C : List Ent} : (x1 :: x2 :: x3 :: x4 :: (A ++ C)).Perm (A ++ (x1 :: x2 :: x3 :: x4 :: C)) :=
  zdp fun a => by simp only [List.count_append, List.count_cons]; omega
theorem cwDrop {w0 w : World} {f : Fz} : ∀ {A L : List Ent}, Cw w0 f (A ++ L) w → Cw w0 f L w
  | [], _, h => h
  | _ :: _, _, h => cwDrop h.tail
set_option maxRecDepth 20000 in
set_option maxHeartbeats 8000000 in
theorem ye6 {x : cBx.T} {ks : List BoxT} (ih : ∀ b ∈ ks, SpoilOK b) : SpoilOK (.mk x ks) := by
  intro f r X hB w0 L w hC
  unfold OT at hB
  obtain ⟨r1, kv, kv', e', krows, X, rfl, hx1, hkv, rfl, hO⟩ := hB
  have hkl := OTL.len hO
  rw [List.cons_append] at hC
  have hkv1 : kv.oneCell' = true := by
    rcases hkv with rfl | ⟨_, _, ao, cap, rfl⟩
    · exact rowSl (n := 0) hC (.head _)
    · rfl
  have hr : OneRow 57 (r1 ++ [kv]) := oneApp (k := 56) (m := 1) (TC.oneR cBx hx1) ⟨rfl, by simp [hkv1]⟩
  have hck : (r1 ++ [kv])[56]? = some kv := by rw [List.getElem?_append_right (by have := (TC.oneR cBx hx1).1; exact Nat.le_of_eq this),(TC.oneR cBx hx1).1]; rfl
  refine enter Tryz.func18 rfl Tryz.ntmps18 (by simp) hC fun a hs => ?_
  refine zbc fun K1 hK1 => ?_
  refine zad ?_
  refine sbox (cs := (r1 ++ [kv]).toArray) hs rfl fun b1 a w hs => ?_
  replace hs : St 21 w0 f (.blk b1 (.cells (r1 ++ [kv]).toArray 31 (0,0)) :: .row kv' e' 57 krows :: (X ++ L)) _ a w := hs
  refine zah ?_
  refine hK1 _ _ ?_; clear hK1
  refine zbc fun K2 hK2 => ?_
  refine zad ?_
  refine sy hs (zas rfl) fun a w hs => ?_
  refine zah ?_
  refine hK2 _ _ ?_; clear hK2
  refine znp fun Qe3 hB3 hO3 => ?_
  refine ydm (fun (j : Nat) a w => ∃ krj XB, j ≤ ks.length ∧ krj.length = ks.length ∧ OTL cBx f (ks.drop j) (krj.drop j) XB ∧ St 21 w0 f (.blk b1 (.cells (r1 ++ [kv]).toArray 31 (0,0)) :: .row kv' e' 57 krj :: (XB ++ L)) [(1, .pointer (some ⟨b1,0, none⟩)),(2, .int .i64 (j : Int))] a w) (fun j => ks.length - j) 0 ⟨krows, X, Nat.zero_le _, hkl, hO, hs.sub ⟨rfl, rfl, trivial⟩⟩ ?_
  clear hs; rintro j a w ⟨krj, XB, hj, hjl, hz, hs⟩ K hK
  have hmx := rowMax hs (.tail _ (.head _))
  have hkj : kv' = kv ∨ krj = [] ∧ kv' = .slice none 0 0 ∧ ∃ ao cap, kv = .slice ao 0 cap := hkv.imp_right fun h => ⟨List.eq_nil_of_length_eq_zero (by rw [hjl, ← hkl, h.1]; rfl), h.2⟩
  refine zbc fun K4 hK4 => ?_
  refine zbc fun K5 hK5 => ?_
  refine zad ?_
  refine sy hs (zat rfl) fun a w hs => ?_
  refine sy hs (zau rfl (FO.of (off := 56) Tryz.underlying31 rfl rfl ti29 (by decide))) fun a w hs => ?_
  refine sy hs (y_ld (u := kv) rfl Tryz.underlying29 rfl (Cell.blk (.head _) (by simpa using hck))) fun a w hs => ?_
  refine sy hs (zmw (rdK hkj (Rd.st hs (.tail _ (.head _)))) rfl Tryz.underlying29) fun a w hs => ?_
  refine sy hs (yex rfl rfl) fun a w hs => ?_
  refine zah ?_
  refine hK5 _ _ ?_; clear hK5
  first | refine zrw hs rfl (fun hlt => ?_) (fun hlt => ?_) | refine zm3 hs rfl (fun hlt => ?_) (fun hlt => ?_)
  · have hjk : j < ks.length := by omega
    obtain rfl : kv' = kv := hkj.elim id fun h => by
      have h0 : krj.length = 0 := by rw [h.1]; rfl
      omega
    have hRk : Rd f _ kv' 57 krj := Rd.st hs (.tail _ (.head _))
    rw [List.drop_eq_getElem_cons hjk] at hz
    unfold OTL at hz
    obtain ⟨r, rs, X1, X2, hrs, rfl, hz1, hz2⟩ := hz
    rw [List.drop_eq_getElem_cons (by omega)] at hrs
    obtain ⟨rfl, rfl⟩ := List.cons.inj hrs
    have hyr : krj[j]? = some krj[j] := List.getElem?_eq_getElem (by omega)
    refine zo3 ?_
    refine hK4 _ _ ?_; clear hK4
    refine zbc fun K6 hK6 => ?_
    refine znp fun Qe7 hB7 hO7 => ?_
    refine zbc fun K8 hK8 => ?_
    refine zad ?_
    refine sy hs (zau rfl (FO.of (off := 56) Tryz.underlying31 rfl rfl ti29 (by decide))) fun a w hs => ?_
    refine sy hs (y_ld (u := kv') rfl Tryz.underlying29 rfl (Cell.blk (.head _) (by simpa using hck))) fun a w hs => ?_
    refine sy hs (zat rfl) fun a w hs => ?_
    refine sy hs (zds hRk rfl rfl rfl (by omega) Tryz.underlying29 ti31) fun a w hs => ?_
    refine sy hs (y_ldRow rfl Tryz.underlying31 rfl ti31 hRk hyr) fun a w hs => ?_
    refine zmf (stPm hs pmS) rfl has18 rfl rfl (ih ks[j] (List.getElem_mem _) f krj[j] X1 hz1) (.free rfl) (by decide) ?_; clear hs; (try clear a w)
    rintro _ _ _ a w _ ⟨rfl, rfl⟩ hs
    replace hs : St 21 w0 _ (.blk b1 (.cells (r1 ++ [kv']).toArray 31 (0,0)) :: .row kv' e' 57 krj :: (X2 ++ L)) _ a w := hs
    refine zah ?_
    refine hK8 _ _ ?_; clear hK8
    refine zad ?_
    refine sy hs (zau rfl (FO.of (off := 56) Tryz.underlying31 rfl rfl ti29 (by decide))) fun a w hs => ?_
    refine sy hs (y_ld (u := kv') rfl Tryz.underlying29 rfl (Cell.blk (.head _) (by simpa using hck))) fun a w hs => ?_
    refine sy hs (zat rfl) fun a w hs => ?_
    refine sy hs (zps (places := boxP) (zl := zB) (ls := [(0,[.int .i64 (-9)])]) (cs := zS) rfl Tryz.underlying31 ti31 (by kernel_rfl) ⟨rfl, rfl, trivial⟩ rfl) fun a w hs => ?_
    refine sy hs (zds (Rd.st hs (.tail _ (.head _))) rfl rfl rfl (by omega) Tryz.underlying29 ti31) fun a w hs => ?_
    refine zuq (i := 1) (r' := zS) hs rfl rfl rfl hyr ti31 zS_one (.free rfl) fun a w hs => ?_
    refine zah ?_
    refine hK6 _ _ ?_; clear hK6
    refine zad ?_
    refine sy hs (zat rfl) fun a w hs => ?_
    refine sy hs (zzx rfl rfl (yco (by omega))) fun a w hs => ?_
    refine sy hs (zas rfl) fun a w hs => ?_
    refine zah ?_
    exact hK (j + 1) _ _ (by omega) ⟨krj.set j zS, X2, by omega, by simpa using hjl, by rw [List.drop_set_of_lt (by omega)]; exact hz2, hs.sub ⟨rfl, rfl, trivial⟩⟩
  · refine ybb ?_
    refine hB3 _ _ ?_
    refine Rt_0 hs rfl ?_
    exact ⟨_, _,[], rfl, .refl _, cwDrop hs.cw.tail.tail, rfl, rfl⟩
mutual
theorem ycr : ∀ b, SpoilOK b
  | .mk _ ks => ye6 (ya4 ks)
theorem ya4 : ∀ (ks : List BoxT), ∀ b ∈ ks, SpoilOK b
  | [], _, h => by simp at h
  | b :: bs, x, h => by
    rcases List.mem_cons.1 h with h | h
    · rw [h]; exact ycr b
    · exact ya4 bs x h
end
theorem kb_does (k : Nat) {t : TreT} {s : ByteArray} {y : BoxT × Bool} (hm : zkg k t s = some y) {f : Fz} (hf0 : Fz.le f00 f) {v0 : Value} (hT : cTreT.R f [v0] t) : Does Tryz.prog 15 [.agg #[v0], .string s] f [] (fun u f' L' => ∃ r, u = .tuple #[.agg r.toArray, .bool y.2] ∧ cBoxT.R f' r y.1 ∧ L' = []) := by
  refine ((zz7 k).does (t, s) y hm f _ _ hf0 ⟨_, _,[], _, rfl, rfl, ⟨TC.vR.2 ⟨[v0], hT, rfl⟩, rfl⟩, _, rfl, rfl, rfl⟩).mono ?_
  rintro u f' L' ⟨us, rvs, h1, rfl, h3, v1, vs', e1, e2, rfl, rfl, ⟨h4, rfl⟩, v2, rfl, h5, rfl⟩
  have h1 : [v1, v2] = rvs ++ [] := h1
  obtain rfl : rvs = [v1, v2] := by simpa using h1.symm
  obtain ⟨r, h6, rfl⟩ := TC.vR.1 h4
  exact ⟨r, by rw [show v2 = _ from h5]; rfl, h6, rfl⟩
theorem st_does (k : Nat) {t : TreT} {s : ByteArray} {y : List StyT × Bool} (hm : zdw k t s = some y) {f : Fz} (hf0 : Fz.le f00 f) {v0 : Value} (hT : cTreT.R f [v0] t) : Does Tryz.prog 16 [.agg #[v0], .string s] f [] (fun u f' L' => ∃ lv, u = .tuple #[lv, .bool y.2] ∧ (TC.sl cStyT).R f' [lv] y.1 ∧ L' = []) := by
  refine ((zme k).does (t, s) y hm f _ _ hf0 ⟨_, _,[], _, rfl, rfl, ⟨TC.vR.2 ⟨[v0], hT, rfl⟩, rfl⟩, _, rfl, rfl, rfl⟩).mono ?_
  rintro u f' L' ⟨us, rvs, h1, rfl, h3, v1, vs', e1, e2, rfl, rfl, ⟨h4, rfl⟩, v2, rfl, h5, rfl⟩
  have h1 : [v1, v2] = rvs ++ [] := h1
  obtain rfl : rvs = [v1, v2] := by simpa using h1.symm
  obtain ⟨r, h6, rfl⟩ := TC.vR.1 h4
  obtain ⟨lv, rfl, hlv⟩ := h6
  exact ⟨lv, by rw [show v2 = _ from h5]; rfl, ⟨lv, rfl, hlv⟩, rfl⟩
theorem yhi (A : F0) (k : Nat) {t : TreT} {l : List StyT} {y : BoxT × Bool} (hm : boxes_Build k t l = some y) {f : Fz} (hf0 : Fz.le (@f00 A) f) {v0 lv : Value} (hT : @TC.R A cTreT f [v0] t) (hL : @TC.R A (.sl cStyT) f [lv] l) : Does Tryz.prog 9 [.agg #[v0], lv] f [] (fun u f' L' => ∃ r, u = .tuple #[.agg r.toArray, .bool y.2] ∧ @TC.R A cBoxT f' r y.1 ∧ L' = []) := by
  refine (@ConOk.does A _ _ _ (@zr3 A k) (t, l) y hm f _ _ hf0 ⟨_, _,[], _, rfl, rfl, ⟨(@TC.vR A _ _ cTreT _ _).2 ⟨[v0], hT, rfl⟩, rfl⟩, _, rfl,(@TC.vR A _ _ (.sl cStyT) _ _).2 ⟨[lv], hL, rfl⟩, rfl⟩).mono ?_
  rintro u f' L' ⟨us, rvs, h1, rfl, h3, v1, vs', e1, e2, rfl, rfl, ⟨h4, rfl⟩, v2, rfl, h5, rfl⟩
  have h1 : [v1, v2] = rvs ++ [] := h1
  obtain rfl : rvs = [v1, v2] := by simpa using h1.symm
  obtain ⟨r, h6, rfl⟩ := (@TC.vR A _ _ _ _ _).1 h4
  exact ⟨r, by rw [show v2 = _ from h5]; rfl, h6, rfl⟩
theorem giveK {g : Nat} {ps : List Md} {c : TC} {m : Pr Md.T ps → Option (Pr Md.T ([Md.d c] ++ ps.filter isP))} (h : ConOk Tryz.prog g ⟨ps,[.d c], m⟩) {x : Pr Md.T ps} {y : Pr Md.T ([Md.d c] ++ ps.filter isP)} {u : Value} (hm : m x = some y) (hz : ∀ f us L', MLR f ([Md.d c] ++ ps.filter isP) y us L' → us = [u] ∧ L' = []) (hv : ∀ vs, pvals ps vs = []) {f : Fz} {vs : List Value} (hf : Fz.le f00 f) (hx : MLR f ps x vs []) : Gives Tryz.prog g vs f u := fun w0 L w hC => by
  refine (h.does x y hm f vs [] hf hx w0 L w hC).mono fun e w' ⟨v, f', L', h1, h2, h3, us, rvs, h4, h5, h6, h7⟩ => ?_
  obtain ⟨rfl, rfl⟩ := hz f' us L' h7
  rw [hv, List.append_nil] at h4
  subst h4
  exact ⟨by rw [h1, h5]; rfl, Cw.weak h3 h2⟩
theorem yf4 {c d : TC} : ∀ vs, pvals [.d c, .d d] vs = [] := fun vs => by
  cases vs with
  | nil => rfl
  | cons a l => cases l with
    | nil => rfl
    | cons b l => cases l <;> rfl
theorem ygo {s s2 : ByteArray} (hm : zk6 s 1500 = some s2) {f : Fz} (hf : Fz.le f00 f) : Gives Tryz.prog 17 [.string s, .int .i64 1500] f (.string s2) :=
  giveK zvz (x := (s,1500)) hm (fun f us L' ⟨v, h1, h2, h3⟩ => ⟨by rw [h1, show v = _ from h2], h3⟩) yf4 hf ⟨_, _,[], _, rfl, rfl, ⟨rfl, rfl⟩, _, rfl, rfl, rfl⟩
theorem ye7 (k : Nat) {a b : BoxT} {z : Bool} (hm : zc7 k a b = some z) {f : Fz} (hf : Fz.le f00 f) {ra rb : List Value} (ha : cBoxT.R f ra a) (hb : cBoxT.R f rb b) : Gives Tryz.prog 14 [.agg ra.toArray, .agg rb.toArray] f (.bool z) :=
  giveK (zpb k) (x := (a, b)) hm (fun f us L' ⟨v, h1, h2, h3⟩ => ⟨by rw [h1, show v = _ from h2], h3⟩) yf4 hf ⟨_, _,[], _, rfl, rfl, ⟨TC.vR.2 ⟨ra, ha, rfl⟩, rfl⟩, _, rfl, TC.vR.2 ⟨rb, hb, rfl⟩, rfl⟩
theorem zum (k : Nat) {b : Bool} (hm : zit k = some b) {f : Fz} (hf : Fz.le f00 f) : Gives Tryz.prog 11 [] f (.bool b) :=
  giveK (zx0 k) (x := ()) hm (fun f us L' ⟨v, h1, h2, h3⟩ => ⟨by rw [h1, show v = _ from h2], h3⟩) (fun _ => rfl) hf ⟨rfl, rfl⟩
set_option maxRecDepth 20000 in
set_option maxHeartbeats 16000000 in
theorem zxr (k : Nat) {f : Fz} (hf : Fz.le f00 f) {t : TreT} {s : ByteArray} {y : BoxT × Bool} (h1 : zkg k t s = some y) (h2 : y.2 = true → ∃ s2 l z, zk6 s 1500 = some s2 ∧ zdw k t s2 = some l ∧ boxes_Build k t l.1 = some z ∧ apartB z.1 = true ∧ zc7 k z.1 y.1 = some true) (h4 : zit k = some true) {v0 : Value} (hT : cTreT.R f [v0] t) (hv0 : v0.oneCell' = true) :
    Gives Tryz.prog 5 [.agg #[v0], .string s] f (.bool true) := by
  intro w0 L w hC
  refine enter Tryz.func5 rfl Tryz.ntmps5 (by simp) hC fun a hs => ?_
  refine zbc fun K1 hK1 => ?_
  refine zad ?_
  refine sbox (cs := #[v0]) hs rfl fun b2 a w hs => ?_
  replace hs : St _ _ _ (.blk b2 (.cells #[v0] 37 (0,0)) :: L) _ _ _ := hs
  refine sy hs (zas rfl) fun a w hs => ?_
  refine zah ?_
  refine hK1 _ _ ?_; clear hK1
  refine zbc fun K2 hK2 => ?_
  refine zad ?_
  refine sy hs (zv6 (cs := #[v0]) rfl Tryz.underlying37 rfl ti37 (.head _) rfl) fun a w hs => ?_
  refine sy hs (zat rfl) fun a w hs => ?_
  refine zv3 hs rfl has15 rfl (kb_does k h1 hf hT) ?_; clear hs; (try clear a w)
  rintro _ f1 _ a w hf1 ⟨rb, rfl, hrb, rfl⟩ hs
  have hr1 := boxOne hrb
  refine sy hs (zat rfl) fun a w hs => ?_
  refine sy hs (zdf (vs := [.agg rb.toArray, .bool y.2]) rfl rfl) fun a w hs => ?_
  refine sy hs (zdf (vs := [.agg rb.toArray, .bool y.2]) rfl rfl) fun a w hs => ?_
  refine zgk hs ti44 (.free rfl) (by decide) fun b5 a w hs => ?_
  refine zca (i := 0) hs rfl rfl rfl ti44 ⟨rfl, by simp [hr1.1]⟩ (zjl hr1) (.free rfl) fun a w hs => ?_
  replace hs : St _ _ _ (.blk b5 (.cells rb.toArray 44 (0,0)) :: .blk b2 (.cells #[v0] 37 (0,0)) :: L) _ _ _ := hs
  refine sy hs (zas rfl) fun a w hs => ?_
  refine zah ?_
  refine hK2 _ _ ?_; clear hK2
  refine zbc fun K3 hK3 => ?_
  refine zbc fun K4 hK4 => ?_
  refine zad ?_
  refine sy hs (zat rfl) fun a w hs => ?_
  refine sy hs (y_not rfl) fun a w hs => ?_
  refine zah ?_
  refine hK4 _ _ ?_; clear hK4
  first | refine zrw hs rfl (fun hno => ?_) (fun hno => ?_) | refine zm3 hs rfl (fun hno => ?_) (fun hno => ?_)
  · refine zbc fun K5 hK5 => ?_
    refine zad ?_
    refine sy hs (zzw rfl has11 rfl (zum k h4 (hf.trans hf1))) fun a w hs => ?_
    refine sy hs (zas rfl) fun a w hs => ?_
    refine zah ?_
    refine hK5 _ _ ?_; clear hK5
    refine zrv ?_
    refine Rt_1 hs rfl rfl ?_
    exact ⟨rfl, Cw.weak hs.cw.tail.tail hf1⟩
  · have hyes : y.2 = true := by simpa using hno
    obtain ⟨s2, l, z, g1, g2, g3, g4, g5⟩ := h2 hyes
    have hT1 := TC.mono cTreT hT hf1
    refine zo3 ?_
    refine hK3 _ _ ?_; clear hK3
    refine zbc fun K6 hK6 => ?_
    refine T_start hs (.blk b2 (.cells #[v0] 37 (0,0)) :: []) [] (.look 0 (.look 1 (.any [2] (fun _ => .any [3] (fun _ => .look 4 (.look 5 (.look 6 (.look 7 (.look 8 (.done)))))))))) mixed (by kernel_rfl) fun a he => ?_
    refine uy 0 he rfl (zv6 (cs := #[v0]) rfl Tryz.underlying37 rfl ti37 (.head _) rfl) ?_; clear he; (try clear a); intro a he
    refine uy 1 he rfl (zat rfl) ?_; clear he; (try clear a); intro a he
    refine T_any1 he rfl ?_; clear he; (try clear a); intro a w hs
    refine sy hs (zzw rfl has17 rfl (ygo g1 (hf.trans hf1))) fun a w hs => ?_
    refine uon hs fun a he => ?_
    refine T_any1 he rfl ?_; clear he; (try clear a); intro a w hs
    refine zv3 hs rfl has16 rfl (st_does k g2 (hf.trans hf1) hT1) ?_; clear hs; (try clear a w)
    rintro _ f2 _ a w hf2 ⟨lv, rfl, hl, rfl⟩ hs
    have hf02 : Fz.le f00 f2 := hf.trans (hf1.trans hf2)
    have hT2 := TC.mono cTreT hT1 hf2
    replace hs : St _ _ _ (.blk b5 (.cells rb.toArray 44 (0,0)) :: .blk b2 (.cells #[v0] 37 (0,0)) :: L) _ _ _ := hs
    refine uon hs fun a he => ?_
    refine uy 4 he rfl (zat rfl) ?_; clear he; (try clear a); intro a he
    refine uy 5 he rfl (zdf (vs := [lv, .bool l.2]) rfl rfl) ?_; clear he; (try clear a); intro a he
    refine uy 6 he rfl (zdf (vs := [lv, .bool l.2]) rfl rfl) ?_; clear he; (try clear a); intro a he
    refine uy 7 he rfl (zas rfl) ?_; clear he; (try clear a); intro a he
    refine uy 8 he rfl (zas rfl) ?_; clear he; (try clear a); intro a he
    refine T_nil he ?_; clear he; (try clear a); intro w hs
    refine hK6 _ _ ?_; clear hK6
    refine zbc fun K7 hK7 => ?_
    refine zad ?_
    refine sy hs (zv6 (cs := #[v0]) rfl Tryz.underlying37 rfl ti37 (.tail _ (.head _)) rfl) fun a w hs => ?_
    refine sy hs (zat rfl) fun a w hs => ?_
    refine zv3 hs rfl has9 rfl (yhi ⟨f2⟩ k g3 (.refl f2) (treA _ _ hT2) (stsA _ _ hl)) ?_; clear hs; (try clear a w)
    rintro _ f3 _ a w hf3 ⟨ra, rfl, hra, rfl⟩ hs
    have hra1 := @boxOne ⟨f2⟩ _ _ _ hra
    refine sy hs (zat rfl) fun a w hs => ?_
    refine sy hs (zdf (vs := [.agg ra.toArray, .bool z.2]) rfl rfl) fun a w hs => ?_
    refine sy hs (zdf (vs := [.agg ra.toArray, .bool z.2]) rfl rfl) fun a w hs => ?_
    refine zgk hs ti31 (.free rfl) (by decide) fun b9 a w hs => ?_
    refine zca (i := 0) hs rfl rfl rfl ti31 ⟨rfl, by simp [hra1.1]⟩ (zjl hra1) (.free rfl) fun a w hs => ?_
    replace hs : St 49 w0 f3 (.blk b9 (.cells ra.toArray 31 (0,0)) :: .blk b5 (.cells rb.toArray 44 (0,0)) :: .blk b2 (.cells #[v0] 37 (0,0)) :: L) _ a w := hs
    obtain ⟨X, hB, hs⟩ := letgo hra g4 hs hf3
    replace hs := stPm hs pmL3
    refine sy hs (zas rfl) fun a w hs => ?_
    refine zah ?_
    refine hK7 _ _ ?_; clear hK7
    refine zbc fun K8 hK8 => ?_
    refine zad ?_
    refine sy hs (zv6 (cs := #[v0]) rfl Tryz.underlying37 rfl ti37 (.tail _ (.tail _ (.head _))) rfl) fun a w hs => ?_
    refine sy hs (zat rfl) fun a w hs => ?_
    refine zv3 hs rfl has9 rfl (yhi _ k g3 hf02 hT2 hl) ?_; clear hs; (try clear a w)
    rintro _ f4 _ a w hf4 ⟨rc, rfl, hrc, rfl⟩ hs
    have hrc1 := boxOne hrc
    refine sy hs (zat rfl) fun a w hs => ?_
    refine sy hs (zdf (vs := [.agg rc.toArray, .bool z.2]) rfl rfl) fun a w hs => ?_
    refine sy hs (zdf (vs := [.agg rc.toArray, .bool z.2]) rfl rfl) fun a w hs => ?_
    refine zgk hs ti31 (.free rfl) (by decide) fun b11 a w hs => ?_
    refine zca (i := 0) hs rfl rfl rfl ti31 ⟨rfl, by simp [hrc1.1]⟩ (zjl hrc1) (.free rfl) fun a w hs => ?_
    replace hs : St 49 w0 f4 (.blk b11 (.cells rc.toArray 31 (0,0)) :: .blk b9 (.cells ra.toArray 31 (0,0)) :: .blk b5 (.cells rb.toArray 44 (0,0)) :: .blk b2 (.cells #[v0] 37 (0,0)) :: (X ++ L)) _ a w := hs
    refine sy hs (zas rfl) fun a w hs => ?_
    refine zah ?_
    refine hK8 _ _ ?_; clear hK8
    refine zbc fun K9 hK9 => ?_
    refine zad ?_
    refine sy hs (zv6 rfl Tryz.underlying31 rfl ti31 (.tail _ (.head _)) (by simp [hra1.1])) fun a w hs => ?_
    refine zmf (stPm hs pm4) rfl has18 rfl rfl (ycr z.1 f4 ra X (OT.mono hf4 hB)) (.free rfl) (by decide) ?_; clear hs; (try clear a w)
    rintro _ _ _ a w _ ⟨rfl, rfl⟩ hs
    rename_i f4
    replace hs : St 49 w0 _ (.blk b11 (.cells rc.toArray 31 (0,0)) :: .blk b9 (.cells ra.toArray 31 (0,0)) :: .blk b5 (.cells rb.toArray 44 (0,0)) :: .blk b2 (.cells #[v0] 37 (0,0)) :: L) _ a w := hs
    refine zah ?_
    refine hK9 _ _ ?_; clear hK9
    refine zbc fun K10 hK10 => ?_
    refine zad ?_
    refine sy hs (zv6 rfl Tryz.underlying31 rfl ti31 (.head _) (by simp [hrc1.1])) fun a w hs => ?_
    refine sy hs (zv6 rfl Tryz.underlying44 rfl ti44 (.tail _ (.tail _ (.head _))) (by simp [hr1.1])) fun a w hs => ?_
    refine sy hs (zzw rfl has14 rfl (ye7 k g5 (hf02.trans hf4) hrc (TC.mono cBoxT hrb (hf2.trans hf4)))) fun a w hs => ?_
    refine sy hs (zat rfl) fun a w hs => ?_
    refine syg hs (zzw rfl has11 rfl (zum k h4 (hf02.trans hf4))) fun a w hs => ?_
    refine sy hs (zcq rfl rfl) fun a w hs => ?_
    refine sy hs (zas rfl) fun a w hs => ?_
    refine zah ?_
    refine hK10 _ _ ?_; clear hK10
    refine zrv ?_
    refine Rt_1 hs rfl rfl ?_
    exact ⟨rfl, Cw.weak hs.cw.tail.tail.tail.tail (hf1.trans (hf2.trans hf4))⟩
end
end Go.Proofs.YteicdfkmpnmkmaaGreat
