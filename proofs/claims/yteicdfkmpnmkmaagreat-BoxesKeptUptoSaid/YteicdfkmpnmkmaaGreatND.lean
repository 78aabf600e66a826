/-
  Walks and laws of this seat.
-/
import Derived.Test.YteicdfkmpnmkmaaGreatNB
import Derived.Test.YteicdfkmpnmkmaaGreatM4
import Derived.Test.YteicdfkmpnmkmaaGreatRows
namespace Go.Proofs.YteicdfkmpnmkmaaGreat
set_option linter.unusedVariables false
set_option linter.unusedSimpArgs false
set_option linter.unusedSectionVars false
open Go.RowKit Go.Sl Go.V
def zB : List Value := [.int .i64 0, .int .i64 0, .int .i64 0, .int .i64 0, .int .i64 0, .int .i64 0, .int .i64 0, .int .i64 0, .int .i64 0, .int .i64 0, .int .i64 0, .int .i64 0, .int .i64 0, .int .i64 0, .int .i64 0, .int .i64 0, .int .i64 0, .int .i64 0, .int .i64 0, .int .i64 0, .int .i64 0, .int .i64 0, .int .i64 0, .int .i64 0, .int .i64 0, .int .i64 0, .int .i64 0, .int .i64 0, .int .i64 0, .int .i64 0, .int .i64 0, .int .i64 0, .int .i64 0, .int .i64 0, .int .i64 0, .int .i64 0, .int .i64 0, .int .i64 0, .int .i64 0, .int .u32 0, .int .u32 0, .int .i64 0, .int .i64 0, .int .i64 0, .bool false, .bool false, .bool false, .bool false, .int .i64 0, .int .i64 0, .int .i64 0, .int .i64 0, .int .i64 0, .int .i64 0, .bool false, .string ByteArray.empty, .slice none 0 0]
theorem zzr : OneRow 57 zB := ⟨rfl, by simp [zB, Value.oneCell']⟩
def boxP : List (Nat × Nat) := [(0,1),(1,1),(2,1),(3,52),(55,1),(56,1)]
abbrev zT : BoxT := zBox
theorem yh1 {w0 w : World} {f : Fz} {L : List Ent} {x y : Ent} (h : Cw w0 f (x :: L) w) (hk : x.key = y.key) (hy : y.holds w) : Cw w0 f (y :: L) w where
  os := h.os
  tape := h.tape
  output := h.output
  size := h.size
  frz := h.frz
  live := fun e he => by
    rcases List.mem_cons.1 he with rfl | he
    · exact hy
    · exact h.live e (.tail _ he)
  apart := fun e he b hb => by
    rcases List.mem_cons.1 he with rfl | he
    · exact h.apart x (.head _) b (hk.trans hb)
    · exact h.apart e (.tail _ he) b hb
  sep := sep_of (by
    have := Cw.keysN h
    unfold keys at this ⊢
    rw [List.filterMap_cons] at this ⊢
    rwa [← hk])
section
variable {n : Nat} {w0 w : World} {f : Fz} {L : List Ent} {E : List (Nat × Value)} {a : Act} {b k : Nat} {e : TypeId} {r : List Value}
theorem blkRow (hs : St n w0 f (.blk b (.cells r.toArray e (0,0)) :: L) E a w) (hr : OneRow k r) : St n w0 f (.row (.slice (some ⟨b,0, none⟩) 1 1) e k [r] :: L) E a w :=
  ⟨hs.ev, yh1 hs.cw rfl ⟨⟨by simp [hr.1], .inr ⟨b,1, r.toArray, rfl, Nat.zero_le _, hs.cw.live _ (.head _), Nat.le_refl _, by decide, by simp [hr.1], by simp [List.take_of_length_le (Nat.le_of_eq hr.1)]⟩⟩, fun x hx => by
    rw [List.mem_singleton.1 hx]; exact hr⟩⟩
theorem rowBlk (hs : St n w0 f (.row (.slice (some ⟨b,0, none⟩) 1 1) e k [r] :: L) E a w) : OneRow k r ∧ St n w0 f (.blk b (.cells r.toArray e (0,0)) :: L) E a w := by
  obtain ⟨⟨h0, h⟩, h1⟩ := hs.cw.live _ (.head _)
  have hr := h1 r (by simp)
  refine ⟨hr, hs.ev, yh1 hs.cw rfl ?_⟩
  rcases h with ⟨h, _⟩ | ⟨g, cap, cur, h2, _, h3, _, _, h4, h5⟩
  · cases h
  · injection h2 with h2 _ h6
    injection h2 with h2
    injection h2 with h2
    subst h2; subst h6
    have h7 : cur = r.toArray := by
      have h8 : cur.toList.length = 1 * k := by simpa using h4
      have h9 : cur.toList.take (1 * k) = r := by simpa using h5
      rw [List.take_of_length_le (Nat.le_of_eq h8)] at h9
      rw [← h9]
    rw [h7] at h3
    exact h3
end
theorem pmN {x y z : Ent} {A C : List Ent} : (x :: y :: z :: (A ++ C)).Perm ((y :: x :: A) ++ (z :: C)) :=
  zdp fun a => by simp only [List.count_append, List.count_cons, List.cons_append]; omega
theorem pmL {x1 x2 : Ent} {A C : List Ent} : (A ++ (x1 :: x2 :: C)).Perm (x1 :: x2 :: (A ++ C)) :=
  zdp fun a => by simp only [List.count_append, List.count_cons]; omega
theorem pmV {x y z : Ent} {A C : List Ent} : (y :: x :: z :: (A ++ C)).Perm ((y :: A) ++ (x :: z :: C)) :=
  zdp fun a => by simp only [List.count_append, List.count_cons, List.cons_append]; omega
section
variable [F0]
theorem zT_R {f : Fz} : cBoxT.R f zB zT := (TC.lvR (N := fun _ => none) cBoxT).2 ⟨rfl, rfl, rfl, rfl, rfl, rfl, rfl, rfl, rfl, rfl, rfl, rfl, rfl, rfl, rfl, rfl, rfl, rfl, rfl, rfl, rfl, rfl, rfl, rfl, rfl, rfl, rfl, rfl, rfl, rfl, rfl, rfl, rfl, rfl, rfl, rfl, rfl, rfl, rfl, rfl, rfl, rfl, rfl, rfl, rfl, rfl, rfl, rfl, rfl, rfl, rfl, rfl, rfl, rfl, rfl, rfl, TS.nil, trivial⟩
theorem treR {f : Fz} {r : List Value} {t : TreT} (h : cTreT.R f r t) : ∃ v rows, r = [v] ∧ Rd f [] v 9 rows ∧ RW cNodT.ty f rows t.1 := by
  obtain ⟨_, _, rfl, ⟨v, rfl, rows, h1, h2⟩, rfl⟩ := h
  exact ⟨v, rows, rfl, h1.1, zc9.1 h2⟩
theorem styR0 {f : Fz} {r : List Value} {s : StyT} (h : cStyT.R f r s) : r[0]? = some (.int .i64 s.1) := by
  obtain ⟨_, _, rfl, rfl, _⟩ := h
  rfl
theorem boxOne {f : Fz} {r : List Value} {b : BoxT} (h : cBoxT.R f r b) : OneRow 57 r := TC.oneR cBoxT h
end
def boxes_Build (k : Nat) (t : TreT) (l : List StyT) : Option (BoxT × Bool) :=
  (zw7 k t).bind fun e => bif decide (e ≠ 0) then some (zT, false) else bif decide ((l.length : Int) ≠ t.1.length) then some (zT, false) else
  (geti l 0).bind fun s => bif decide (s.1 = 2) then some (zT, false) else (zc1 k 0 0 0 t l (t, l)).bind fun r => bif r.2 then bif apartB r.1 then some ((numB r.1 0).1, true) else none else some (zT, false)
def ref13_Build (k : Nat) (t : TreT) (l : List StyT) : Option (BoxT × Bool) :=
  (zbd k t l 0 0 0).bind fun r => bif r.2 then bif apartB r.1 then some ((numB r.1 0).1, true) else none else some (zT, false)
section
variable [F0]
theorem pmO {x y z : Ent} {A C : List Ent} : ((y :: x :: A) ++ (z :: C)).Perm (x :: y :: z :: (A ++ C)) := pmN.symm
theorem pmL3 {x1 x2 x3 : Ent} {A C : List Ent} : (A ++ (x1 :: x2 :: x3 :: C)).Perm (x1 :: x2 :: x3 :: (A ++ C)) :=
  zdp fun a => by simp only [List.count_append, List.count_cons]; omega
theorem treA (A B : F0) {f : Fz} {r : List Value} {t : TreT} (h : @TC.R A cTreT f r t) : @TC.R B cTreT f r t := h
theorem stsA (A B : F0) {f : Fz} {r : List Value} {t : List StyT} (h : @TC.R A (.sl cStyT) f r t) : @TC.R B (.sl cStyT) f r t := h
theorem yfw (k : Nat) {t : TreT} {l : List StyT} {p : BoxT × Bool} (hp : zc1 k 0 0 0 t l (t, l) = some p) {f f2 f3 : Fz} (_ : Fz.le f2 f3) (hf : Fz.le f f3) {v0 lv : Value} {srows : List (List Value)} {b2 b3 b6 : Nat} (hT : cTreT.R f [v0] t) (hL : Rd f [] lv 52 srows) (hLW : RW cStyT.ty f srows l)
    (h2 : f3 b2 = some (.cells #[v0] 37 (0,0))) (h3 : f3 b3 = some (.cells #[lv] 40 (0,0))) (h6 : f3 b6 = some (.cells #[.func (.func 32) #[] #[.pointer (some ⟨b2,0, none⟩), .pointer (some ⟨b3,0, none⟩), .pointer (some ⟨b6,0, none⟩)]] 76 (0,0))) :
    Does Tryz.prog 32 ([.int .i64 0, .int .i64 0, .int .i64 0] ++ (#[.pointer (some ⟨b2,0, none⟩), .pointer (some ⟨b3,0, none⟩), .pointer (some ⟨b6,0, none⟩)] : Array Value).toList) f3 [ph, ph, ph, ph, ph] (fun u f' L' => ∃ r, u = .tuple #[.agg r.toArray, .bool p.2] ∧ @TC.R ⟨f3⟩ cBoxT f' r p.1 ∧ L' = []) := by
  have hT3 : @TC.R ⟨f3⟩ cTreT f3 [v0] t := treA _ _ (TC.mono cTreT hT hf)
  have hL3 : @TC.R ⟨f3⟩ (.sl cStyT) f3 [lv] l := stsA _ _ (TC.mono (.sl cStyT) (show TC.R (.sl cStyT) f [lv] l from ⟨lv, rfl, srows, ⟨hL, trivial⟩, zc9.2 hLW⟩) hf)
  have hb2 : @BxR ⟨f3⟩ f3 cTreT t (.pointer (some ⟨b2,0, none⟩)) := ⟨b2,[v0],37, rfl, h2, hT3⟩
  have hb3 : @BxR ⟨f3⟩ f3 (.sl cStyT) l (.pointer (some ⟨b3,0, none⟩)) := ⟨b3,[lv],40, rfl, h3, hL3⟩
  refine (@ConOk.does ⟨f3⟩ _ _ _ (@zo2 ⟨f3⟩ k) (0,0,0, t, l,(t, l)) p hp f3 _ _ (.refl f3) ⟨_, _,[], _, rfl, rfl, ⟨rfl, rfl⟩, _, _,[], _, rfl, rfl, ⟨rfl, rfl⟩, _, _,[], _, rfl, rfl, ⟨rfl, rfl⟩, _, _,[ph], _, rfl, rfl, ⟨hb2, rfl⟩, _, _,[ph], _, rfl, rfl, ⟨hb3, rfl⟩, _, rfl, ⟨b6,[.pointer (some ⟨b2,0, none⟩), .pointer (some ⟨b3,0, none⟩)],76, _, rfl, h6, rfl, _, _, rfl, hb2, _, rfl, hb3⟩, rfl⟩).mono ?_
  rintro u f' L' ⟨us, rvs, h1, rfl, h3, v1, vs', e1, e2, rfl, rfl, ⟨h4, rfl⟩, v2, rfl, h5, rfl⟩
  have h1 : [v1, v2] = rvs ++ [] := h1
  obtain rfl : rvs = [v1, v2] := by simpa using h1.symm
  obtain ⟨r, h6, rfl⟩ := (@TC.vR ⟨f3⟩ _ _ _ _ _).1 h4
  exact ⟨r, by rw [show v2 = _ from h5]; rfl, h6, rfl⟩
theorem yef (k : Nat) {t : TreT} {l : List StyT} {p : BoxT × Bool} (hp : zbd k t l 0 0 0 = some p) {f : Fz} {v0 lv : Value} {srows : List (List Value)} (hT : cTreT.R f [v0] t) (hL : Rd f [] lv 52 srows) (hLW : RW cStyT.ty f srows l) :
    Does Tryz.prog 39 ([.agg #[v0], lv, .int .i64 0, .int .i64 0, .int .i64 0] ++ (#[] : Array Value).toList) f [] (fun u f' L' => ∃ r, u = .tuple #[.agg r.toArray, .bool p.2] ∧ @TC.R ⟨f⟩ cBoxT f' r p.1 ∧ L' = []) := by
  have hT3 : @TC.R ⟨f⟩ cTreT f [v0] t := treA _ _ hT
  have hL3 : @TC.R ⟨f⟩ (.sl cStyT) f [lv] l := stsA _ _ (show TC.R (.sl cStyT) f [lv] l from ⟨lv, rfl, srows, ⟨hL, trivial⟩, zc9.2 hLW⟩)
  refine (@ConOk.does ⟨f⟩ _ _ _ (@zqk ⟨f⟩ k) (t, l,0,0,0) p hp f _ _ (.refl f) ⟨_, _,[], _, rfl, rfl, ⟨(@TC.vR ⟨f⟩ _ _ cTreT _ _).2 ⟨[v0], hT3, rfl⟩, rfl⟩, _, _,[], _, rfl, rfl, ⟨(@TC.vR ⟨f⟩ _ _ (.sl cStyT) _ _).2 ⟨[lv], hL3, rfl⟩, rfl⟩, _, _,[], _, rfl, rfl, ⟨rfl, rfl⟩, _, _,[], _, rfl, rfl, ⟨rfl, rfl⟩, _, rfl, rfl, rfl⟩).mono ?_
  rintro u f' L' ⟨us, rvs, h1, rfl, h3, v1, vs', e1, e2, rfl, rfl, ⟨h4, rfl⟩, v2, rfl, h5, rfl⟩
  have h1 : [v1, v2] = rvs ++ [] := h1
  obtain rfl : rvs = [v1, v2] := by simpa using h1.symm
  obtain ⟨r, h6, rfl⟩ := (@TC.vR ⟨f⟩ _ _ _ _ _).1 h4
  exact ⟨r, by rw [show v2 = _ from h5]; rfl, h6, rfl⟩
theorem ph5 {n : Nat} {w0 w : World} {f : Fz} {L : List Ent} {E : List (Nat × Value)} {a : Act} (hs : St n w0 f L E a w) : St n w0 f ([ph, ph, ph, ph, ph] ++ L) E a w := ((((hs.nilRow 0 0).nilRow 0 0).nilRow 0 0).nilRow 0 0).nilRow 0 0
theorem letgo {n : Nat} {w0 w : World} {f f' : Fz} {L : List Ent} {E : List (Nat × Value)} {a : Act} {b : BoxT} {r : List Value} (h : @TC.R ⟨f⟩ cBoxT f' r b) (hn : apartB b = true) (hs : St n w0 f' L E a w) (hle : Fz.le f f') : ∃ X, OT cBx f b r X ∧ St n w0 f (X ++ L) E a w := by
  obtain ⟨X, h1, h2⟩ := letTree _ (c := cBx) rfl h (yhm hn) hs.cw hle
  exact ⟨X, h1, hs.ev, h2⟩
theorem buildEnd {f1 : Fz} {w0 w : World} {L : List Ent} {b : BoxT} {r : List Value} {X : List Ent} (h0 : Fz.le f00 f1) (h : OT cBx f1 b r X) (hC : Cw w0 f1 (X ++ L) w) : ∃ f2, Fz.le f1 f2 ∧ Cw w0 f2 L w ∧ cBoxT.R f2 r b := OT.frz h0 h hC
set_option maxRecDepth 100000 in
set_option maxHeartbeats 16000000 in
theorem Build_ok (k : Nat) {f : Fz} (hf0 : Fz.le f00 f) {t : TreT} {l : List StyT} {y : BoxT × Bool} (hm : boxes_Build k t l = some y) {v0 lv : Value} {nrows srows : List (List Value)} (hT : cTreT.R f [v0] t) (hN : Rd f [] v0 9 nrows) (hNW : RW cNodT.ty f nrows t.1) (hL : Rd f [] lv 52 srows) (hLW : RW cStyT.ty f srows l) :
    Does Tryz.prog 9 [.agg #[v0], lv] f [] (fun u f' L' => ∃ r, u = .tuple #[.agg r.toArray, .bool y.2] ∧ cBoxT.R f' r y.1 ∧ L' = []) := by
  intro w0 L w hC
  have hv1 := hN.one
  have hl1 := hL.one
  have hnl := hNW.len
  have hll := hLW.len
  unfold boxes_Build at hm
  obtain ⟨e, he, hm⟩ := Option.bind_eq_some_iff.1 hm
  have hR : Gives Tryz.prog 31 [.agg #[v0]] f (.int .i64 e) := fun w0 L w hC => by
    have := (yb3 k).does t e he f [.agg #[v0]] [] hf0 ⟨_, rfl, TC.vR.2 ⟨[v0], hT, rfl⟩, rfl⟩ w0 L w hC
    refine this.mono fun u w' ⟨v, f', L', h1, h2, h3, us, rvs, h4, h5, h6, h7⟩ => ?_
    obtain ⟨v1, rfl, h8, rfl⟩ := h7
    have h4 : [v1] = rvs ++ [] := h4
    obtain rfl : rvs = [v1] := by simpa using h4.symm
    exact ⟨by rw [h1, h5]; exact congrArg _ (h8 : v1 = _), Cw.weak h3 h2⟩
  refine enter Tryz.func9 rfl Tryz.ntmps9 (by simp) hC fun a hs => ?_
  refine zbc fun K1 hK1 => ?_
  refine zad ?_
  refine sbox (cs := #[v0]) hs rfl fun b2 a w hs => ?_
  refine sbox1 hs rfl hl1 fun b3 a w hs => ?_
  refine zgk hs ti31 (.free rfl) (by decide) fun b4 a w hs => ?_
  replace hs : St _ _ _ (.blk b4 (.cells zB.toArray 31 (0,0)) :: .blk b3 (.cells #[lv] 40 (0,0)) :: .blk b2 (.cells #[v0] 37 (0,0)) :: ([] ++ L)) _ _ _ := hs
  refine sy hs (zas rfl) fun a w hs => ?_
  refine zah ?_
  refine hK1 _ _ ?_; clear hK1
  refine zbc fun K2 hK2 => ?_
  refine zbc fun K3 hK3 => ?_
  refine zad ?_
  refine sy hs (zv6 (cs := #[v0]) rfl Tryz.underlying37 rfl ti37 (.tail _ (.tail _ (.head _))) rfl) fun a w hs => ?_
  refine sy hs (zzw rfl has31 rfl hR) fun a w hs => ?_
  refine sy hs (y_neq rfl rfl) fun a w hs => ?_
  refine sy hs (zat rfl) fun a w hs => ?_
  first | refine St.splitP hs (t := 14) rfl (fun he0 hq => ?_) (fun he0 hq => ?_) | refine St.split hs (t := 14) rfl (fun he0 hq => ?_) (fun he0 hq => ?_)
  · clear hs; have hs := hq; clear hq
    refine sno hs fun a w hs => ?_
    refine sno hs fun a w hs => ?_
    refine sno hs fun a w hs => ?_
    refine sno hs fun a w hs => ?_
    refine sno hs fun a w hs => ?_
    refine sno hs fun a w hs => ?_
    refine sy hs (zcq rfl rfl) fun a w hs => ?_
    refine sy hs (zat rfl) fun a w hs => ?_
    refine sno hs fun a w hs => ?_
    refine sno hs fun a w hs => ?_
    refine sno hs fun a w hs => ?_
    refine sno hs fun a w hs => ?_
    refine sno hs fun a w hs => ?_
    refine sy hs (zcq rfl rfl) fun a w hs => ?_
    refine zah ?_
    refine hK3 _ _ ?_; clear hK3
    refine yhq hs rfl ?_
    refine zbc fun K4 hK4 => ?_
    refine zad ?_
    refine sy hs (zps (places := boxP) (zl := zB) (ls := []) (cs := zB) rfl Tryz.underlying31 ti31 (by kernel_rfl) trivial rfl) fun a w hs => ?_
    refine zca (i := 0) hs rfl rfl rfl ti31 ⟨rfl, rfl⟩ (zjl zzr) (.free rfl) fun a w hs => ?_
    refine sy hs (zas rfl) fun a w hs => ?_
    refine zah ?_
    refine hK4 _ _ ?_; clear hK4
    refine zrv ?_
    refine RtV2 hs rfl (rv_a hs rfl Tryz.underlying31 rfl ti31 (fun j u hj => Cell.blk (.head _) hj) rfl) (rv_t hs rfl) ?_
    rw [decide_eq_true he0] at hm
    obtain rfl := Option.some.inj hm
    exact ⟨_, _,[], rfl, .refl _, hs.cw.tail.tail.tail, zB, rfl, zT_R, rfl⟩
  · clear hs; have hs := hq; clear hq
    rw [decide_eq_false he0] at hm
    refine syg hs (y_ld (u := lv) rfl Tryz.underlying40 rfl (Cell.blk (.tail _ (.head _)) rfl)) fun a w hs => ?_
    refine syg hs (zmw hL rfl Tryz.underlying40) fun a w hs => ?_
    first | (refine syg hs (zau rfl (FO.of (off := 0) Tryz.underlying37 rfl rfl ti35 (by decide))) ?_; clear hs; (try clear a w); intro a w hs) | (refine syg hs (zzv rfl (FO.of (off := 0) Tryz.underlying37 rfl rfl ti35 (by decide))) ?_; clear hs; (try clear a w); intro a w hs)
    refine syg hs (y_ld (u := v0) rfl Tryz.underlying35 rfl (Cell.blk (.tail _ (.tail _ (.head _))) rfl)) fun a w hs => ?_
    refine syg hs (zmw hN rfl Tryz.underlying35) fun a w hs => ?_
    refine syg hs (y_neq rfl rfl) fun a w hs => ?_
    refine sy hs (zcq rfl rfl) fun a w hs => ?_
    refine sy hs (zat rfl) fun a w hs => ?_
    first | refine St.splitP hs (t := 22) rfl (fun hl hq => ?_) (fun hl hq => ?_) | refine St.split hs (t := 22) rfl (fun hl hq => ?_) (fun hl hq => ?_)
    · clear hs; have hs := hq; clear hq
      refine sno hs fun a w hs => ?_
      refine sno hs fun a w hs => ?_
      refine sno hs fun a w hs => ?_
      refine sno hs fun a w hs => ?_
      refine sno hs fun a w hs => ?_
      refine sy hs (zcq rfl rfl) fun a w hs => ?_
      refine zah ?_
      refine hK3 _ _ ?_; clear hK3
      refine yhq hs rfl ?_
      refine zbc fun K5 hK5 => ?_
      refine zad ?_
      refine sy hs (zps (places := boxP) (zl := zB) (ls := []) (cs := zB) rfl Tryz.underlying31 ti31 (by kernel_rfl) trivial rfl) fun a w hs => ?_
      refine zca (i := 0) hs rfl rfl rfl ti31 ⟨rfl, rfl⟩ (zjl zzr) (.free rfl) fun a w hs => ?_
      refine sy hs (zas rfl) fun a w hs => ?_
      refine zah ?_
      refine hK5 _ _ ?_; clear hK5
      refine zrv ?_
      refine RtV2 hs rfl (rv_a hs rfl Tryz.underlying31 rfl ti31 (fun j u hj => Cell.blk (.head _) hj) rfl) (rv_t hs rfl) ?_
      rw [decide_eq_true (show (l.length : Int) ≠ t.1.length by omega)] at hm
      obtain rfl := Option.some.inj hm
      exact ⟨_, _,[], rfl, .refl _, hs.cw.tail.tail.tail, zB, rfl, zT_R, rfl⟩
    · clear hs; have hs := hq; clear hq
      rw [decide_eq_false (show ¬ (l.length : Int) ≠ t.1.length by omega)] at hm
      obtain ⟨s, hgs, hm⟩ := Option.bind_eq_some_iff.1 hm
      obtain ⟨rs, hrs, hsR, _, hlt0⟩ := hLW.geti hgs
      refine syg hs (y_ld (u := lv) rfl Tryz.underlying40 rfl (Cell.blk (.tail _ (.head _)) rfl)) fun a w hs => ?_
      refine syg hs (zds (m := 0) hL rfl rfl rfl (by simpa using hlt0) Tryz.underlying40 ti28) fun a w hs => ?_
      refine syg hs (zzv rfl (FO.of (off := 0) Tryz.underlying28 rfl rfl ti3 (by decide)) hL (by simpa using hlt0)) fun a w hs => ?_
      refine syg hs (zv4 (u := .int .i64 s.1) hL.up rfl hrs (styR0 hsR) Tryz.underlying3 rfl) fun a w hs => ?_
      refine syg hs (ye4 rfl rfl) fun a w hs => ?_
      refine sy hs (zcq rfl rfl) fun a w hs => ?_
      refine zah ?_
      refine hK3 _ _ ?_; clear hK3
      first | refine zrw hs rfl (fun hd => ?_) (fun hd => ?_) | refine zm3 hs rfl (fun hd => ?_) (fun hd => ?_)
      · refine zbc fun K6 hK6 => ?_
        refine zad ?_
        refine sy hs (zps (places := boxP) (zl := zB) (ls := []) (cs := zB) rfl Tryz.underlying31 ti31 (by kernel_rfl) trivial rfl) fun a w hs => ?_
        refine zca (i := 0) hs rfl rfl rfl ti31 ⟨rfl, rfl⟩ (zjl zzr) (.free rfl) fun a w hs => ?_
        refine sy hs (zas rfl) fun a w hs => ?_
        refine zah ?_
        refine hK6 _ _ ?_; clear hK6
        refine zrv ?_
        refine RtV2 hs rfl (rv_a hs rfl Tryz.underlying31 rfl ti31 (fun j u hj => Cell.blk (.head _) hj) rfl) (rv_t hs rfl) ?_
        rw [decide_eq_true hd] at hm
        obtain rfl := Option.some.inj hm
        exact ⟨_, _,[], rfl, .refl _, hs.cw.tail.tail.tail, zB, rfl, zT_R, rfl⟩
      · rw [decide_eq_false hd] at hm
        obtain ⟨p, hp, hm⟩ := Option.bind_eq_some_iff.1 hm
        refine zo3 ?_
        refine hK2 _ _ ?_; clear hK2
        refine zbc fun K7 hK7 => ?_
        refine zad ?_
        refine zgk hs ti76 (.free rfl) (by decide) fun b6 a w hs => ?_
        refine zah ?_
        refine hK7 _ _ ?_; clear hK7
        refine zbc fun K8 hK8 => ?_
        refine zad ?_
        refine sy hs (zta rfl) fun a w hs => ?_
        refine sstore 0 hs rfl rfl rfl ti76 rfl ?_ (by decide); clear hs; (try clear a w); intro a w hs
        replace hs : St _ _ _ (.blk b6 (.cells #[(.func (.func 32) #[] #[.pointer (some ⟨b2,0, none⟩), .pointer (some ⟨b3,0, none⟩), .pointer (some ⟨b6,0, none⟩)])] 76 (0,0)) :: .blk b4 (.cells zB.toArray 31 (0,0)) :: .blk b3 (.cells #[lv] 40 (0,0)) :: .blk b2 (.cells #[v0] 37 (0,0)) :: ([] ++ L)) _ _ _ := hs
        obtain ⟨f1, hf1, hs, h6⟩ := hs.frzB 0 rfl
        obtain ⟨f2, hf2, hs, h3⟩ := St.frzB 1 hs rfl
        obtain ⟨f3, hf3, hs, h2⟩ := St.frzB 1 hs rfl
        have hf : Fz.le f f3 := hf1.trans (hf2.trans hf3)
        replace hs : St 43 w0 f3 (.blk b4 (.cells zB.toArray 31 (0,0)) :: ([] ++ L)) _ a w := hs
        have h3 := hf3 _ _ h3
        have h6 := hf3 _ _ (hf2 _ _ h6)
        refine zah ?_
        refine hK8 _ _ ?_; clear hK8
        refine zbc fun K9 hK9 => ?_
        refine zad ?_
        refine sy hs (y_ld (u := (.func (.func 32) #[] #[.pointer (some ⟨b2,0, none⟩), .pointer (some ⟨b3,0, none⟩), .pointer (some ⟨b6,0, none⟩)])) rfl Tryz.underlying76 rfl (Cell.fz h6 rfl)) fun a w hs => ?_
        refine zmf (Lr := [ph, ph, ph, ph, ph]) (ph5 hs) rfl has32 rfl rfl (yfw k hp hf3 hf hT hL hLW h2 h3 h6) (.free rfl) (by decide) ?_; clear hs; (try clear a w)
        rintro _ f4 _ a w hf4 ⟨r, rfl, hr, rfl⟩ hs
        have hr1 := @boxOne ⟨f3⟩ _ _ _ hr
        replace hs : St 43 w0 f4 (.blk b4 (.cells zB.toArray 31 (0,0)) :: L) _ a w := hs
        refine sy hs (zat rfl) fun a w hs => ?_
        refine sy hs (zdf (vs := [.agg r.toArray, .bool p.2]) rfl rfl) fun a w hs => ?_
        refine sy hs (zdf (vs := [.agg r.toArray, .bool p.2]) rfl rfl) fun a w hs => ?_
        refine zgk hs ti31 (.free rfl) (by decide) fun b7 a w hs => ?_
        refine zca (i := 0) hs rfl rfl rfl ti31 ⟨rfl, by simp [hr1.1]⟩ (zjl hr1) (.free rfl) fun a w hs => ?_
        refine sy hs (zas rfl) fun a w hs => ?_
        refine zah ?_
        refine hK9 _ _ ?_; clear hK9
        refine zbc fun K10 hK10 => ?_
        refine zbc fun K11 hK11 => ?_
        refine zad ?_
        refine sy hs (zat rfl) fun a w hs => ?_
        refine sy hs (y_not rfl) fun a w hs => ?_
        refine zah ?_
        refine hK11 _ _ ?_; clear hK11
        first | refine zrw hs rfl (fun hno => ?_) (fun hno => ?_) | refine zm3 hs rfl (fun hno => ?_) (fun hno => ?_)
        · refine zbc fun K12 hK12 => ?_
          refine zad ?_
          refine sy hs (zps (places := boxP) (zl := zB) (ls := []) (cs := zB) rfl Tryz.underlying31 ti31 (by kernel_rfl) trivial rfl) fun a w hs => ?_
          refine zca (i := 1) hs rfl rfl rfl ti31 ⟨rfl, rfl⟩ (zjl zzr) (.free rfl) fun a w hs => ?_
          refine sy hs (zas rfl) fun a w hs => ?_
          refine zah ?_
          refine hK12 _ _ ?_; clear hK12
          refine zrv ?_
          refine RtV2 hs rfl (rv_a hs rfl Tryz.underlying31 rfl ti31 (fun j u hj => Cell.blk (.tail _ (.head _)) hj) rfl) (rv_t hs rfl) ?_
          rw [show p.2 = false by simpa using hno] at hm
          obtain rfl := Option.some.inj hm
          exact ⟨_, _,[], rfl, hf.trans hf4, hs.cw.tail.tail, zB, rfl, zT_R, rfl⟩
        · have hyes : p.2 = true := by simpa using hno
          rw [hyes] at hm
          obtain ⟨hap, hm⟩ := zar hm
          obtain rfl := Option.some.inj hm
          obtain ⟨X, hB, hs⟩ := letgo hr hap hs hf4
          replace hs := stPm hs pmL
          refine zo3 ?_
          refine hK10 _ _ ?_; clear hK10
          refine zbc fun K13 hK13 => ?_
          refine zad ?_
          refine zgk hs ti3 (.free rfl) (by decide) fun b9 a w hs => ?_
          refine sstore 0 hs rfl rfl rfl ti3 rfl ?_ (by decide); clear hs; (try clear a w); intro a w hs
          refine zah ?_
          refine hK13 _ _ ?_; clear hK13
          refine zbc fun K14 hK14 => ?_
          refine zad ?_
          refine zgk hs ti81 (.free rfl) (by decide) fun b10 a w hs => ?_
          refine zah ?_
          refine hK14 _ _ ?_; clear hK14
          refine zbc fun K15 hK15 => ?_
          refine zad ?_
          refine sy hs (zta rfl) fun a w hs => ?_
          refine sstore 0 hs rfl rfl rfl ti81 rfl ?_ (by decide); clear hs; (try clear a w); intro a w hs
          replace hs : St _ _ _ (.blk b10 (.cells #[(.func (.func 36) #[] #[.pointer (some ⟨b9,0, none⟩), .pointer (some ⟨b10,0, none⟩)])] 81 (0,0)) :: .blk b9 (.cells #[.int .i64 0] 3 (0,0)) :: .blk b7 (.cells r.toArray 31 (0,0)) :: .blk b4 (.cells zB.toArray 31 (0,0)) :: (X ++ L)) _ _ _ := hs
          obtain ⟨f5, hf5, hs, h10⟩ := hs.frzB 0 rfl
          replace hs : St 43 w0 f5 (.blk b9 (.cells #[.int .i64 0] 3 (0,0)) :: .blk b7 (.cells r.toArray 31 (0,0)) :: .blk b4 (.cells zB.toArray 31 (0,0)) :: (X ++ L)) _ a w := hs
          replace hs := stPm (blkRow (stPm hs (.swap _ _ _)) hr1) pmN
          refine zah ?_
          refine hK15 _ _ ?_; clear hK15
          refine zbc fun K16 hK16 => ?_
          refine zad ?_
          refine sy hs (y_ld (u := (.func (.func 36) #[] #[.pointer (some ⟨b9,0, none⟩), .pointer (some ⟨b10,0, none⟩)])) rfl Tryz.underlying81 rfl (Cell.fz h10 rfl)) fun a w hs => ?_
          refine zmf hs rfl has36 rfl rfl (yal p.1 f5 0 (.slice (some ⟨b7,0, none⟩) 1 1) 31 [r] 0 r X h10 rfl (OT.mono hf5 hB)) (.free rfl) (by decide) ?_; clear hs; (try clear a w)
          rintro _ _ _ a w _ ⟨rfl, r', X', hB', rfl⟩ hs
          obtain ⟨hr2, hs⟩ := rowBlk (r := r') (stPm hs pmO)
          refine zah ?_
          refine hK16 _ _ ?_; clear hK16
          refine zbc fun K17 hK17 => ?_
          refine zad ?_
          refine sy hs (zv6 rfl Tryz.underlying31 rfl ti31 (.head _) (by simp [hr2.1])) fun a w hs => ?_
          refine zca (i := 2) hs rfl rfl rfl ti31 ⟨rfl, by simp [hr2.1]⟩ (zjl hr2) (.free rfl) fun a w hs => ?_
          refine sy hs (zas rfl) fun a w hs => ?_
          refine zah ?_
          refine hK17 _ _ ?_; clear hK17
          refine zrv ?_
          refine RtV2 hs rfl (rv_a hs rfl Tryz.underlying31 rfl ti31 (fun j u hj => Cell.blk (.tail _ (.tail _ (.head _))) hj) (by simp [hr2.1])) (rv_t hs rfl) ?_
          obtain ⟨f6, hf6, hC6, hR6⟩ := buildEnd (hf0.trans (hf.trans hf5)) hB' hs.cw.tail.tail.tail
          exact ⟨_, f6,[], rfl,(hf.trans hf5).trans hf6, hC6, r', rfl, hR6, rfl⟩
set_option maxRecDepth 100000 in
set_option maxHeartbeats 16000000 in
theorem Build2_ok (k : Nat) {f : Fz} (hf0 : Fz.le f00 f) {t : TreT} {l : List StyT} {y : BoxT × Bool} (hm : ref13_Build k t l = some y) {v0 lv : Value} {srows : List (List Value)} (hT : cTreT.R f [v0] t) (hv1 : v0.oneCell' = true) (hL : Rd f [] lv 52 srows) (hLW : RW cStyT.ty f srows l) :
    Does Tryz.prog 13 [.agg #[v0], lv] f [] (fun u f' L' => ∃ r, u = .tuple #[.agg r.toArray, .bool y.2] ∧ cBoxT.R f' r y.1 ∧ L' = []) := by
  intro w0 L w hC
  unfold ref13_Build at hm
  obtain ⟨p, hp, hm⟩ := Option.bind_eq_some_iff.1 hm
  refine enter Tryz.func13 rfl Tryz.ntmps13 (by simp) hC fun a hs => ?_
  refine zbc fun K1 hK1 => ?_
  refine zad ?_
  refine sbox (cs := #[v0]) hs rfl fun b2 a w hs => ?_
  refine zgk hs ti44 (.free rfl) (by decide) fun b4 a w hs => ?_
  replace hs : St _ _ _ (.blk b4 (.cells zB.toArray 44 (0,0)) :: .blk b2 (.cells #[v0] 37 (0,0)) :: ([] ++ L)) _ _ _ := hs
  refine sy hs (zas rfl) fun a w hs => ?_
  refine zah ?_
  refine hK1 _ _ ?_; clear hK1
  refine zbc fun K2 hK2 => ?_
  refine zad ?_
  refine sy hs (zv6 (cs := #[v0]) rfl Tryz.underlying37 rfl ti37 (.tail _ (.head _)) rfl) fun a w hs => ?_
  refine sy hs (zat rfl) fun a w hs => ?_
  refine zmf (Lr := []) hs rfl has39 rfl rfl (yef k hp hT hL hLW) (.free rfl) (by decide) ?_; clear hs; (try clear a w)
  rintro _ f4 _ a w hf4 ⟨r, rfl, hr, rfl⟩ hs
  have hr1 := @boxOne ⟨f⟩ _ _ _ hr
  replace hs : St 19 w0 f4 (.blk b4 (.cells zB.toArray 44 (0,0)) :: .blk b2 (.cells #[v0] 37 (0,0)) :: L) _ a w := hs
  refine sy hs (zat rfl) fun a w hs => ?_
  refine sy hs (zdf (vs := [.agg r.toArray, .bool p.2]) rfl rfl) fun a w hs => ?_
  refine sy hs (zdf (vs := [.agg r.toArray, .bool p.2]) rfl rfl) fun a w hs => ?_
  refine zgk hs ti44 (.free rfl) (by decide) fun b7 a w hs => ?_
  refine zca (i := 0) hs rfl rfl rfl ti44 ⟨rfl, by simp [hr1.1]⟩ (zjl hr1) (.free rfl) fun a w hs => ?_
  refine sy hs (zas rfl) fun a w hs => ?_
  refine zah ?_
  refine hK2 _ _ ?_; clear hK2
  refine zbc fun K3 hK3 => ?_
  refine zbc fun K4 hK4 => ?_
  refine zad ?_
  refine sy hs (zat rfl) fun a w hs => ?_
  refine sy hs (y_not rfl) fun a w hs => ?_
  refine zah ?_
  refine hK4 _ _ ?_; clear hK4
  first | refine zrw hs rfl (fun hno => ?_) (fun hno => ?_) | refine zm3 hs rfl (fun hno => ?_) (fun hno => ?_)
  · refine zbc fun K5 hK5 => ?_
    refine zad ?_
    refine sy hs (zps (places := boxP) (zl := zB) (ls := []) (cs := zB) rfl Tryz.underlying44 ti44 (by kernel_rfl) trivial rfl) fun a w hs => ?_
    refine zca (i := 1) hs rfl rfl rfl ti44 ⟨rfl, rfl⟩ (zjl zzr) (.free rfl) fun a w hs => ?_
    refine sy hs (zas rfl) fun a w hs => ?_
    refine zah ?_
    refine hK5 _ _ ?_; clear hK5
    refine zrv ?_
    refine RtV2 hs rfl (rv_a hs rfl Tryz.underlying44 rfl ti44 (fun j u hj => Cell.blk (.tail _ (.head _)) hj) rfl) (rv_t hs rfl) ?_
    rw [show p.2 = false by simpa using hno] at hm
    obtain rfl := Option.some.inj hm
    exact ⟨_, _,[], rfl, hf4, hs.cw.tail.tail.tail, zB, rfl, zT_R, rfl⟩
  · have hyes : p.2 = true := by simpa using hno
    rw [hyes] at hm
    obtain ⟨hap, hm⟩ := zar hm
    obtain rfl := Option.some.inj hm
    obtain ⟨X, hB, hs⟩ := letgo hr hap hs hf4
    replace hs : St 19 w0 f (.blk b7 (.cells r.toArray 44 (0,0)) :: .blk b4 (.cells zB.toArray 44 (0,0)) :: .blk b2 (.cells #[v0] 37 (0,0)) :: (X ++ L)) _ a w := stPm hs pmL3
    replace hs := blkRow hs hr1
    refine zo3 ?_
    refine hK3 _ _ ?_; clear hK3
    refine zbc fun K6 hK6 => ?_
    refine zad ?_
    refine zmf (stPm hs pmV) rfl has40 rfl rfl (zxo p.1 f 0 (.slice (some ⟨b7,0, none⟩) 1 1) 44 [r] 0 r X rfl hB) (.free rfl) (by decide) ?_; clear hs; (try clear a w)
    rintro _ _ _ a w _ ⟨rfl, rfl, r', X', hB', rfl⟩ hs
    obtain ⟨hr2, hs⟩ := rowBlk (r := r') (stPm hs pmV.symm)
    refine zah ?_
    refine hK6 _ _ ?_; clear hK6
    refine zbc fun K7 hK7 => ?_
    refine zad ?_
    refine sy hs (zv6 rfl Tryz.underlying44 rfl ti44 (.head _) (by simp [hr2.1])) fun a w hs => ?_
    refine zca (i := 1) hs rfl rfl rfl ti44 ⟨rfl, by simp [hr2.1]⟩ (zjl hr2) (.free rfl) fun a w hs => ?_
    refine sy hs (zas rfl) fun a w hs => ?_
    refine zah ?_
    refine hK7 _ _ ?_; clear hK7
    refine zrv ?_
    refine RtV2 hs rfl (rv_a hs rfl Tryz.underlying44 rfl ti44 (fun j u hj => Cell.blk (.tail _ (.head _)) hj) (by simp [hr2.1])) (rv_t hs rfl) ?_
    obtain ⟨f6, hf6, hC6, hR6⟩ := buildEnd hf0 hB' hs.cw.tail.tail.tail
    exact ⟨_, f6,[], rfl, hf6, hC6, r', rfl, hR6, rfl⟩
end
end Go.Proofs.YteicdfkmpnmkmaaGreat
