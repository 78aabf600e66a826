/-
  Walks and laws of this seat.
-/
import Derived.Test.YteicdfkmpnmkmaaGreatNF
import Derived.Test.YteicdfkmpnmkmaaGreatPK
import Derived.Test.YteicdfkmpnmkmaaGreatNE
import Derived.Test.YteicdfkmpnmkmaaGreatRows
namespace Go.Proofs.YteicdfkmpnmkmaaGreat
set_option linter.unusedVariables false
set_option linter.unusedSimpArgs false
set_option linter.unusedSectionVars false
open Go.RowKit Go.Sl Go.V
section
variable [F0]
theorem rb_does (k : Nat) {t : TreT} {s : ByteArray} {y : BoxT × Bool} (hm : zk1 k t s = some y) {f : Fz} (hf0 : Fz.le f00 f) {v0 : Value} (hT : cTreT.R f [v0] t) : Does Tryz.prog 15 [.agg #[v0], .string s] f [] (fun u f' L' => ∃ r, u = .tuple #[.agg r.toArray, .bool y.2] ∧ cBoxT.R f' r y.1 ∧ L' = []) := by
  refine ((zzn k).does (t, s) y hm f _ _ hf0 ⟨_, _,[], _, rfl, rfl, ⟨TC.vR.2 ⟨[v0], hT, rfl⟩, rfl⟩, _, rfl, rfl, rfl⟩).mono ?_
  rintro u f' L' ⟨us, rvs, h1, rfl, h3, v1, vs', e1, e2, rfl, rfl, ⟨h4, rfl⟩, v2, rfl, h5, rfl⟩
  have h1 : [v1, v2] = rvs ++ [] := h1
  obtain rfl : rvs = [v1, v2] := by simpa using h1.symm
  obtain ⟨r, h6, rfl⟩ := TC.vR.1 h4
  exact ⟨r, by rw [show v2 = _ from h5]; rfl, h6, rfl⟩
theorem all_does (k : Nat) {b : BoxT} {l : List BoxT} (hm : zgb k b = some l) {f : Fz} (hf0 : Fz.le f00 f) {r : List Value} (hb : cBoxT.R f r b) : Does Tryz.prog 21 [.agg r.toArray] f [] (fun u f' L' => (∃ rows, Rd f' [] u 57 rows ∧ RW cBoxT.ty f' rows l) ∧ L' = []) := by
  refine ((zuo k).does b l hm f _ _ hf0 ⟨_, rfl, TC.vR.2 ⟨r, hb, rfl⟩, rfl⟩).mono ?_
  rintro u f' L' ⟨us, rvs, h1, rfl, h3, v1, rfl, h4, rfl⟩
  have h1 : [v1] = rvs ++ [] := h1
  obtain rfl : rvs = [v1] := by simpa using h1.symm
  obtain ⟨r, ⟨v, rfl, rows, h5, h6⟩, rfl⟩ := TC.vR.1 h4
  exact ⟨⟨rows, TC.rdU (.tn cBx) h5, zby.1 h6⟩, rfl⟩
theorem box_does (k : Nat) {b c : BoxT} (hm : ziu k b = some c) {f : Fz} (hf0 : Fz.le f00 f) {r : List Value} (hb : cBoxT.R f r b) : Does Tryz.prog 22 [.agg r.toArray] f [] (fun u f' L' => (∃ r, u = .agg r.toArray ∧ cBoxT.R f' r c) ∧ L' = []) := by
  refine ((zw7 k).does b c hm f _ _ hf0 ⟨_, rfl, TC.vR.2 ⟨r, hb, rfl⟩, rfl⟩).mono ?_
  rintro u f' L' ⟨us, rvs, h1, rfl, h3, v1, rfl, h4, rfl⟩
  have h1 : [v1] = rvs ++ [] := h1
  obtain rfl : rvs = [v1] := by simpa using h1.symm
  obtain ⟨r, h5, rfl⟩ := TC.vR.1 h4
  exact ⟨⟨r, rfl, h5⟩, rfl⟩
theorem giveB {g : Nat} {ps : List Md} {m : Pr Md.T ps → Option (Pr Md.T ([Md.d .bool] ++ ps.filter isP))} (h : ConOk Tryz.prog g ⟨ps,[.d .bool], m⟩) (hp : ps.filter isP = []) {x : Pr Md.T ps} {y : Pr Md.T ([Md.d .bool] ++ ps.filter isP)} {z : Bool} (hm : m x = some y) (hz : ∀ f us L', MLR f ([Md.d .bool] ++ ps.filter isP) y us L' → us = [.bool z] ∧ L' = []) (hv : ∀ vs, pvals ps vs = []) {f : Fz} {vs : List Value} (hf : Fz.le f00 f) (hx : MLR f ps x vs []) : Gives Tryz.prog g vs f (.bool z) := fun w0 L w hC => by
  refine (h.does x y hm f vs [] hf hx w0 L w hC).mono fun u w' ⟨v, f', L', h1, h2, h3, us, rvs, h4, h5, h6, h7⟩ => ?_
  obtain ⟨rfl, rfl⟩ := hz f' us L' h7
  rw [hv, List.append_nil] at h4
  subst h4
  exact ⟨by rw [h1, h5]; rfl, Cw.weak h3 h2⟩
theorem zw6 (k : Nat) {b : Bool} (hm : zie k = some b) {f : Fz} (hf : Fz.le f00 f) : Gives Tryz.prog 11 [] f (.bool b) :=
  giveB (zxe k) rfl (x := ()) hm (fun f us L' ⟨v, h1, h2, h3⟩ => ⟨by rw [h1, show v = _ from h2], h3⟩) (fun _ => rfl) hf ⟨rfl, rfl⟩
section
variable {f : Fz} (hf : Fz.le f00 f) {r : List Value} {b : BoxT} (hb : cBoxT.R f r b)
include hf hb
theorem yci : Gives Tryz.prog 25 [.agg r.toArray] f (.bool (isOut b)) :=
  giveB zm1 rfl (x := b) (zmf (b := b)) (fun f us L' ⟨v, h1, h2, h3⟩ => ⟨by rw [h1, show v = _ from h2], h3⟩) (fun vs => by cases vs with | nil => rfl | cons a l => cases l <;> rfl) hf ⟨_, rfl, TC.vR.2 ⟨r, hb, rfl⟩, rfl⟩
theorem yb2 : Gives Tryz.prog 26 [.agg r.toArray] f (.bool (isOut b)) :=
  giveB zlu rfl (x := b) (zmf (b := b)) (fun f us L' ⟨v, h1, h2, h3⟩ => ⟨by rw [h1, show v = _ from h2], h3⟩) (fun vs => by cases vs with | nil => rfl | cons a l => cases l <;> rfl) hf ⟨_, rfl, TC.vR.2 ⟨r, hb, rfl⟩, rfl⟩
omit hf hb in
theorem flows_eq : ∃ z, znl b = some z ∧ zn9 b = some z := by
  unfold znl zn9
  cases decide (b.x.2.2.2.1.2.1 = 0) <;> cases decide (b.x.2.2.2.1.2.1 = 1) <;> exact ⟨_, rfl, rfl⟩
theorem ycs : ∃ z, Gives Tryz.prog 27 [.agg r.toArray] f (.bool z) ∧ ∀ {f : Fz}, Fz.le f00 f → ∀ {r : List Value}, cBoxT.R f r b → Gives Tryz.prog 28 [.agg r.toArray] f (.bool z) := by
  obtain ⟨z, h1, h2⟩ := flows_eq (b := b)
  exact ⟨z, giveB zxm rfl (x := b) h1 (fun f us L' ⟨v, h1, h2, h3⟩ => ⟨by rw [h1, show v = _ from h2], h3⟩) (fun vs => by cases vs with | nil => rfl | cons a l => cases l <;> rfl) hf ⟨_, rfl, TC.vR.2 ⟨r, hb, rfl⟩, rfl⟩, fun {f} hf {r} hb => giveB zx1 rfl (x := b) h2 (fun f us L' ⟨v, h1, h2, h3⟩ => ⟨by rw [h1, show v = _ from h2], h3⟩) (fun vs => by cases vs with | nil => rfl | cons a l => cases l <;> rfl) hf ⟨_, rfl, TC.vR.2 ⟨r, hb, rfl⟩, rfl⟩⟩
end
theorem yaj {f : Fz} (hf : Fz.le f00 f) (st : Int) : ∃ z, Gives Tryz.prog 24 [.int .i64 st, .int .i64 0, .int .i64 9] f (.int .i64 z) := by
  have : ∃ z, znm st 0 9 = some z := by
    unfold znm remM
    rw [if_neg (by decide)]
    have e : ∀ (b : Bool) (x y : Int), ∃ z,(bif b then some x else some y) = some z := fun b x y => by cases b <;> exact ⟨_, rfl⟩
    exact e _ _ _
  obtain ⟨z, hz⟩ := this
  refine ⟨z, fun w0 L w hC => ?_⟩
  refine (zxo.does (st,0,9) z hz f _ [] hf ⟨_, _,[],[], rfl, rfl, ⟨rfl, rfl⟩, _, _,[],[], rfl, rfl, ⟨rfl, rfl⟩, _, rfl, rfl, rfl⟩ w0 L w hC).mono fun u w' ⟨v, f', L', h1, h2, h3, us, rvs, h4, h5, h6, v1, h7, h8, h9⟩ => ?_
  subst h9
  have h4 : us = rvs ++ [] := h4
  rw [List.append_nil] at h4
  subst h4
  subst h7
  exact ⟨by rw [h1, h5]; exact congrArg _ (show v1 = _ from h8), Cw.weak h3 h2⟩
theorem Y.val {P : Program} {C : World → Prop} {n : Nat} {E : List (Nat × Value)} {o : Oper} {v u : Value} (h : Y P C n E o v) (e : v = u) : Y P C n E o u := e ▸ h
theorem box3 {f : Fz} {r : List Value} {b : BoxT} (h : cBoxT.R f r b) : r[0]? = some (.int .i64 b.x.1) ∧ r[1]? = some (.int .i64 b.x.2.1) ∧ r[2]? = some (.int .i64 b.x.2.2.1) := by
  obtain ⟨r1, v, rows, rfl, h1, _⟩ := TrR.inv (h : TrR _ _ r b)
  obtain ⟨rest, rfl, _⟩ := bxR h1
  exact ⟨rfl, rfl, rfl⟩
set_option maxRecDepth 20000 in
set_option maxHeartbeats 16000000 in
theorem ybq (k : Nat) {f : Fz} (hf : Fz.le f00 f) {t : TreT} {s : ByteArray} {st : Int} {y : BoxT × Bool} (h1 : zk1 k t s = some y) (hok : BoxesOK y) (h2 : y.2 = true → zgb k y.1 = some (allT y.1)) (h3 : y.2 = true → ziu k y.1 = some y.1) (h4 : zie k = some true) {v0 : Value} (hT : cTreT.R f [v0] t) (hv0 : v0.oneCell' = true) :
    Gives Tryz.prog 7 [.agg #[v0], .string s, .int .i64 st] f (.bool true) := by
  intro w0 L w hC
  refine enter1 Tryz.func7 rfl Tryz.ntmps7 (by simp) hC fun a hs => ?_
  have hM : Marks f f [] := Marks.nil
  have hle := Fz.le.refl f
  refine zdt fun K1 hK1 => ?_
  refine zh6 <| za2 ?_
  refine sbox (cs := #[v0]) hs rfl fun b3 a w hs => ?_
  refine sbox1 hs rfl rfl fun b5 a w hs => ?_
  refine zbz hs ti4 (.free rfl) (by decide) fun b6 a w hs => ?_
  replace hs : St _ _ _ (.blk b6 (.cells #[.bool false] 4 (0,0)) :: .blk b5 (.cells #[.int .i64 st] 3 (0,0)) :: .blk b3 (.cells #[v0] 37 (0,0)) :: L) _ _ _ := hs
  refine zab ?_
  refine hK1 _ _ _ ?_
  refine zdt fun K2 hK2 => ?_
  refine zh6 <| za2 ?_
  refine sy hs (zwn (cs := #[v0]) rfl Tryz.underlying37 rfl ti37 (.tail _ (.tail _ (.head _))) rfl) fun a w hs => ?_
  refine sy hs (zat rfl) fun a w hs => ?_
  refine zva hs rfl has15 rfl (rb_does k h1 hf hT) ?_; clear hs; (try clear a w)
  rintro _ f1 _ a w hf1 ⟨rb, rfl, hrb, rfl⟩ hs
  have hr1 := boxOne hrb
  refine sy hs (zat rfl) fun a w hs => ?_
  refine sy hs (ziw (vs := [.agg rb.toArray, .bool y.2]) rfl rfl) fun a w hs => ?_
  refine sy hs (ziw (vs := [.agg rb.toArray, .bool y.2]) rfl rfl) fun a w hs => ?_
  refine zbz hs ti44 (.free rfl) (by decide) fun b7 a w hs => ?_
  refine zbt (i := 0) hs rfl rfl rfl ti44 ⟨rfl, by simp [hr1.1]⟩ (zic hr1) (.free rfl) fun a w hs => ?_
  replace hs : St _ _ _ (.blk b7 (.cells rb.toArray 44 (0,0)) :: .blk b6 (.cells #[.bool false] 4 (0,0)) :: .blk b5 (.cells #[.int .i64 st] 3 (0,0)) :: .blk b3 (.cells #[v0] 37 (0,0)) :: L) _ _ _ := hs
  refine sy hs (zas rfl) fun a w hs => ?_
  refine zab ?_
  refine hK2 _ _ _ ?_
  refine zdt fun K3 hK3 => ?_
  refine zdt fun K4 hK4 => ?_
  refine zh6 <| za2 ?_
  refine sy hs (zat rfl) fun a w hs => ?_
  refine sy hs (zyf rfl) fun a w hs => ?_
  refine zab ?_
  refine hK4 _ _ _ ?_
  refine yhs hs rfl (fun hno => ?_) (fun hno => ?_)
  · refine zdt fun K5 hK5 => ?_
    refine zh6 <| za2 ?_
    refine sy hs (zu9 rfl has11 rfl (zw6 k h4 (hf.trans hf1))) fun a w hs => ?_
    refine sstore 1 hs rfl rfl rfl ti4 rfl ?_ (by decide); clear hs; (try clear a w); intro a w hs
    refine zab ?_
    refine hK5 _ _ _ ?_
    replace hle := hf1
    replace hM := hM.le hf1
    refine zh6 ?_
    refine znp ?_
    refine RtM_of hs hle hM ?_; clear hs; (try clear w); intro w hs
    refine RtV1 hs rfl (rv_c hs rfl Tryz.underlying4 rfl (Cell.blk (.tail _ (.head _)) rfl)) ?_
    exact ⟨rfl, hs.cw.tail.tail.tail.tail⟩
  · have hyes : y.2 = true := by simpa using hno
    obtain ⟨hsz, hidx⟩ := hok hyes
    refine zh6 ?_
    refine zgf ?_
    refine hK3 _ _ _ ?_
    refine zdt fun K6 hK6 => ?_
    refine zh6 <| za2 ?_
    refine sy hs (zwn rfl Tryz.underlying44 rfl ti44 (.head _) (by simp [hr1.1])) fun a w hs => ?_
    refine zva hs rfl has21 rfl (all_does k (h2 hyes) (hf.trans hf1) hrb) ?_; clear hs; (try clear a w)
    rintro wv f2 _ a w hf2 ⟨⟨wrows, hwR, hwW⟩, rfl⟩ hs
    refine zbz hs ti42 (.free rfl) (by decide) fun b9 a w hs => ?_
    refine sstore 0 hs rfl rfl rfl ti42 hwR.one ?_ (by decide); clear hs; (try clear a w); intro a w hs
    replace hs : St _ _ _ (.blk b9 (.cells #[wv] 42 (0,0)) :: .blk b7 (.cells rb.toArray 44 (0,0)) :: .blk b6 (.cells #[.bool false] 4 (0,0)) :: .blk b5 (.cells #[.int .i64 st] 3 (0,0)) :: .blk b3 (.cells #[v0] 37 (0,0)) :: L) _ _ _ := hs
    refine zab ?_
    refine hK6 _ _ _ ?_
    refine zdt fun K7 hK7 => ?_
    refine zh6 <| za2 ?_
    refine sy hs (zwn rfl Tryz.underlying44 rfl ti44 (.tail _ (.head _)) (by simp [hr1.1])) fun a w hs => ?_
    refine zva hs rfl has22 rfl (box_does k (h3 hyes) (hf.trans (hf1.trans hf2)) (TC.mono cBoxT hrb hf2)) ?_; clear hs; (try clear a w)
    rintro _ f3 _ a w hf3 ⟨⟨rc, rfl, hrc⟩, rfl⟩ hs
    have hrc1 := boxOne hrc
    refine zbz hs ti31 (.free rfl) (by decide) fun b10 a w hs => ?_
    refine zbt (i := 0) hs rfl rfl rfl ti31 ⟨rfl, by simp [hrc1.1]⟩ (zic hrc1) (.free rfl) fun a w hs => ?_
    replace hs : St _ _ _ (.blk b10 (.cells rc.toArray 31 (0,0)) :: .blk b9 (.cells #[wv] 42 (0,0)) :: .blk b7 (.cells rb.toArray 44 (0,0)) :: .blk b6 (.cells #[.bool false] 4 (0,0)) :: .blk b5 (.cells #[.int .i64 st] 3 (0,0)) :: .blk b3 (.cells #[v0] 37 (0,0)) :: L) _ _ _ := hs
    refine zab ?_
    refine hK7 _ _ _ ?_
    refine zdt fun K8 hK8 => ?_
    refine zh6 <| za2 ?_
    refine sy hs (zwn rfl Tryz.underlying31 rfl ti31 (.head _) (by simp [hrc1.1])) fun a w hs => ?_
    refine zva hs rfl has23 rfl (All_ok hrc1) ?_; clear hs; (try clear a w)
    rintro _ f4 _ a w hf4 ⟨b1, rfl, hb1, rfl⟩ hs
    refine sy hs (zas rfl) fun a w hs => ?_
    refine zab ?_
    refine hK8 _ _ _ ?_
    refine zdt fun K9 hK9 => ?_
    refine zdt fun K10 hK10 => ?_
    refine zh6 <| za2 ?_
    refine sy hs (zat rfl) fun a w hs => ?_
    refine sy hs (y_fnil rfl rfl Tryz.underlying63) fun a w hs => ?_
    refine zab ?_
    refine hK10 _ _ _ ?_
    refine ya9 hs rfl ?_
    obtain ⟨st', hst'⟩ := yaj (hf.trans (hf1.trans (hf2.trans (hf3.trans hf4)))) st
    refine zh6 ?_
    refine zgf ?_
    refine hK9 _ _ _ ?_
    refine zdt fun K11 hK11 => ?_
    refine zh6 <| za2 ?_
    refine sy hs (y_ld (u := .int .i64 st) rfl Tryz.underlying3 rfl (Cell.blk (.tail _ (.tail _ (.tail _ (.tail _ (.head _))))) rfl)) fun a w hs => ?_
    refine sy hs (zu9 rfl has24 rfl hst') fun a w hs => ?_
    refine sstore 4 hs rfl rfl rfl ti3 rfl ?_ Nat.zero_lt_one; clear hs; (try clear a w); intro a w hs
    refine zab ?_
    refine hK11 _ _ _ ?_
    refine zdt fun K12 hK12 => ?_
    refine zdt fun K13 hK13 => ?_
    refine zh6 <| za2 ?_
    refine zbz hs ti3 (.free rfl) (by decide) fun b12 a w hs => ?_
    refine sstore 0 hs rfl rfl rfl ti3 rfl ?_ (by decide); clear hs; (try clear a w); intro a w hs
    replace hs : St _ _ _ (.blk b12 (.cells #[.int .i64 0] 3 (0,0)) :: .blk b10 (.cells rc.toArray 31 (0,0)) :: .blk b9 (.cells #[wv] 42 (0,0)) :: .blk b7 (.cells rb.toArray 44 (0,0)) :: .blk b6 (.cells #[.bool false] 4 (0,0)) :: .blk b5 (.cells #[.int .i64 st'] 3 (0,0)) :: .blk b3 (.cells #[v0] 37 (0,0)) :: L) _ _ _ := hs
    obtain ⟨f5, hf5, hs, h9⟩ := St.frzB 2 hs rfl
    obtain ⟨f6, hf6, hs, h5⟩ := St.frzB 4 hs rfl
    replace hs : St 110 w0 f6 (.blk b12 (.cells #[.int .i64 0] 3 (0,0)) :: (.blk b10 (.cells rc.toArray 31 (0,0)) :: .blk b7 (.cells rb.toArray 44 (0,0)) :: .blk b6 (.cells #[.bool false] 4 (0,0)) :: .blk b3 (.cells #[v0] 37 (0,0)) :: L)) _ a w := hs
    have h9 := hf6 _ _ h9
    have hwR := hwR.le (hf3.trans (hf4.trans (hf5.trans hf6)))
    have hwW := hwW.le (hf3.trans (hf4.trans (hf5.trans hf6)))
    have hrc := TC.mono cBoxT hrc (hf4.trans (hf5.trans hf6))
    have hb1 := (hf5.trans hf6) _ _ hb1
    have hf06 : Fz.le f f6 := hf1.trans (hf2.trans (hf3.trans (hf4.trans (hf5.trans hf6))))
    replace hM := hM.le hf06
    replace hle := hf06
    obtain ⟨xs, hAR, hxs, hxR⟩ := AR.of hrc
    have hxl : xs.length = (allT y.1).length := by rw [← hxs, List.length_map]
    have hwl := hwW.len
    have hal := zta y.1
    generalize hQ : (.blk b10 (.cells rc.toArray 31 (0,0)) :: .blk b7 (.cells rb.toArray 44 (0,0)) :: .blk b6 (.cells #[.bool false] 4 (0,0)) :: .blk b3 (.cells #[v0] 37 (0,0)) :: L) = Q at hs
    clear hf1 hf2 hf3 hf4 hf5 hf6 hrb hr1 hst'
    refine zab ?_
    refine hK13 _ _ _ ?_
    refine yaa fun Qe14 hB14 hO14 => ?_
    refine W1_loop (fun (q : Nat) M a w => q ≤ 2 ∧ ∃ fq bq, Fz.le f6 fq ∧ Marks f fq M ∧ St 110 w0 fq (.blk bq (.cells #[.int .i64 (q : Int)] 3 (0,0)) :: Q) [(5, .pointer (some ⟨b5,0, none⟩)),(6, .pointer (some ⟨b6,0, none⟩)),(9, .pointer (some ⟨b9,0, none⟩)),(11, .func (.func 46) #[] #[.pointer (some ⟨b1,0, none⟩)]),(12, .pointer (some ⟨bq,0, none⟩))] a w) (fun q => 2 - q) 0 ⟨by omega, f6, b12, .refl _, hM, hs.sub ⟨rfl, rfl, rfl, rfl, rfl, trivial⟩⟩ ?_
    clear hs hM; rintro q M a w ⟨hqq, fq, bq, hfq, hM, hs⟩ K hK
    have hle := hf06.trans hfq
    refine zdt fun K15 hK15 => ?_
    refine zdt fun K16 hK16 => ?_
    refine zh6 <| za2 ?_
    refine sy hs (y_ld (u := .int .i64 (q : Int)) rfl Tryz.underlying3 rfl (Cell.blk (.head _) rfl)) fun a w hs => ?_
    refine sy hs (yem rfl rfl) fun a w hs => ?_
    refine zab ?_
    refine hK16 _ _ _ ?_
    refine yhs hs rfl (fun hlt => ?_) (fun hlt => ?_)
    · have hq3 : q < 2 := by have := of_decide_eq_true hlt; omega
      refine zh6 ?_
      refine zgf ?_
      refine hK15 _ _ _ ?_
      refine zdt fun K17 hK17 => ?_
      refine yaa fun Qe18 hB18 hO18 => ?_
      refine zdt fun K19 hK19 => ?_
      refine zh6 <| za2 ?_
      refine zbz hs ti3 (.free rfl) (by decide) fun b13 a w hs => ?_
      refine sstore 0 hs rfl rfl rfl ti3 rfl ?_ (by decide); clear hs; (try clear a w); intro a w hs
      refine zab ?_
      refine hK19 _ _ _ ?_
      refine zdt fun K20 hK20 => ?_
      refine zh6 <| za2 ?_
      refine zbz hs ti4 (.free rfl) (by decide) fun b14 a w hs => ?_
      refine sstore 0 hs rfl rfl rfl ti4 rfl ?_ (by decide); clear hs; (try clear a w); intro a w hs
      replace hs : St 110 w0 fq ([.blk b14 (.cells #[.bool false] 4 (0,0)), .blk b13 (.cells #[.int .i64 ((0 : Nat) : Int)] 3 (0,0)), .blk bq (.cells #[.int .i64 (q : Int)] 3 (0,0))] ++ Q) _ a w := hs
      refine zab ?_
      refine hK20 _ _ _ ?_
      refine zdt fun K21 hK21 => ?_
      refine W1_post (fun M a w => ∃ (f7 : Fz) (n : Nat) (left : Bool), Fz.le fq f7 ∧ Marks f f7 M ∧ (left = true ∨ n = (allT y.1).length) ∧ St 110 w0 f7 (.blk b14 (.cells #[.bool left] 4 (0,0)) :: .blk b13 (.cells #[.int .i64 (n : Int)] 3 (0,0)) :: .blk bq (.cells #[.int .i64 (q : Int)] 3 (0,0)) :: Q) [(5, .pointer (some ⟨b5,0, none⟩)),(6, .pointer (some ⟨b6,0, none⟩)),(9, .pointer (some ⟨b9,0, none⟩)),(11, .func (.func 46) #[] #[.pointer (some ⟨b1,0, none⟩)]),(12, .pointer (some ⟨bq,0, none⟩)),(13, .pointer (some ⟨b13,0, none⟩)),(14, .pointer (some ⟨b14,0, none⟩))] a w) (fun M a w hI => ?_) ?_
      · refine hK21 _ _ _ ?_
        clear hs hM
        obtain ⟨f7, n, left, hf7, hM, hnl, hs⟩ := hI
        have hwR7 := hwR.le (hfq.trans hf7)
        have h97 := (hfq.trans hf7) _ _ h9
        have hle := hle.trans hf7
        refine zdt fun K22 hK22 => ?_
        refine zh6 <| za2 ?_
        refine sy hs (y_ld (u := .bool left) rfl Tryz.underlying4 rfl (Cell.blk (.head _) rfl)) fun a w hs => ?_
        refine sy hs (zyf rfl) fun a w hs => ?_
        refine sy hs (zat rfl) fun a w hs => ?_
        first | refine St.splitP hs (t := 102) rfl (fun hlf hq => ?_) (fun hlf hq => ?_) | refine St.split hs (t := 102) rfl (fun hlf hq => ?_) (fun hlf hq => ?_)
        · clear hs; have hs := hq; clear hq
          refine syg hs (y_ld (u := .int .i64 (n : Int)) rfl Tryz.underlying3 rfl (Cell.blk (.tail _ (.head _)) rfl)) fun a w hs => ?_
          refine syg hs (y_ld (u := wv) rfl Tryz.underlying42 rfl (Cell.fz h97 rfl)) fun a w hs => ?_
          refine syg hs (zk4 hwR7 rfl Tryz.underlying42) fun a w hs => ?_
          refine syg hs (Y.val (yae rfl rfl) (congrArg _ (decide_eq_false (fun h => h (by have := hnl.resolve_left (by simpa using hlf); omega))))) fun a w hs => ?_
          refine sy hs (zbm rfl rfl) fun a w hs => ?_
          refine zab ?_
          refine hK22 _ _ _ ?_
          refine ya9 hs rfl ?_
          refine zh6 ?_
          refine zgf ?_
          refine hK17 _ _ _ ?_
          refine zdt fun K23 hK23 => ?_
          refine zdt fun K24 hK24 => ?_
          refine zh6 <| za2 ?_
          refine sy hs (y_ld (u := .int .i64 (q : Int)) rfl Tryz.underlying3 rfl (Cell.blk (.tail _ (.tail _ (.head _))) rfl)) fun a w hs => ?_
          refine zab ?_
          refine hK24 _ _ _ ?_
          refine zh6 <| za2 ?_
          refine zbz hs ti3 (.free rfl) (by decide) fun b2 a w hs => ?_
          refine sstore 0 hs rfl rfl rfl ti3 rfl ?_ (by decide); clear hs; (try clear a w); intro a w hs
          refine zab ?_
          refine hK23 _ _ _ ?_
          refine zh6 <| za2 ?_
          refine sy hs (y_ld (u := .int .i64 (q : Int)) rfl Tryz.underlying3 rfl (Cell.blk (.head _) rfl)) fun a w hs => ?_
          refine sy hs (zvb (m := ((q + 1 : Nat) : Int)) rfl rfl (by rw [show ((q + 1 : Nat) : Int) = (q : Int) + 1 by omega]; exact w64i (by omega))) fun a w hs => ?_
          refine sstore 0 hs rfl rfl rfl ti3 rfl ?_ Nat.zero_lt_one; clear hs; (try clear a w); intro a w hs
          refine zab ?_
          exact hK (q + 1) _ _ _ (by omega) ⟨by omega, f7, b2, hfq.trans hf7, hM,(hs.subL (L' := .blk b2 (.cells #[.int .i64 ((q + 1 : Nat) : Int)] 3 (0,0)) :: Q) (.cons_cons _ (.cons _ (.cons _ (.cons _ (.refl _)))))).sub ⟨rfl, rfl, rfl, rfl, rfl, trivial⟩⟩
        · clear hs; have hs := hq; clear hq
          refine sno hs fun a w hs => ?_
          refine sno hs fun a w hs => ?_
          refine sno hs fun a w hs => ?_
          refine sno hs fun a w hs => ?_
          refine sy hs (zbm rfl rfl) fun a w hs => ?_
          refine zab ?_
          refine hK22 _ _ _ ?_
          refine ya9 hs rfl ?_
          refine zh6 ?_
          refine zgf ?_
          refine hK17 _ _ _ ?_
          refine zdt fun K25 hK25 => ?_
          refine zdt fun K26 hK26 => ?_
          refine zh6 <| za2 ?_
          refine sy hs (y_ld (u := .int .i64 (q : Int)) rfl Tryz.underlying3 rfl (Cell.blk (.tail _ (.tail _ (.head _))) rfl)) fun a w hs => ?_
          refine zab ?_
          refine hK26 _ _ _ ?_
          refine zh6 <| za2 ?_
          refine zbz hs ti3 (.free rfl) (by decide) fun b2 a w hs => ?_
          refine sstore 0 hs rfl rfl rfl ti3 rfl ?_ (by decide); clear hs; (try clear a w); intro a w hs
          refine zab ?_
          refine hK25 _ _ _ ?_
          refine zh6 <| za2 ?_
          refine sy hs (y_ld (u := .int .i64 (q : Int)) rfl Tryz.underlying3 rfl (Cell.blk (.head _) rfl)) fun a w hs => ?_
          refine sy hs (zvb (m := ((q + 1 : Nat) : Int)) rfl rfl (by rw [show ((q + 1 : Nat) : Int) = (q : Int) + 1 by omega]; exact w64i (by omega))) fun a w hs => ?_
          refine sstore 0 hs rfl rfl rfl ti3 rfl ?_ Nat.zero_lt_one; clear hs; (try clear a w); intro a w hs
          refine zab ?_
          exact hK (q + 1) _ _ _ (by omega) ⟨by omega, f7, b2, hfq.trans hf7, hM,(hs.subL (L' := .blk b2 (.cells #[.int .i64 ((q + 1 : Nat) : Int)] 3 (0,0)) :: Q) (.cons_cons _ (.cons _ (.cons _ (.cons _ (.refl _)))))).sub ⟨rfl, rfl, rfl, rfl, rfl, trivial⟩⟩
      · refine zdt fun K27 hK27 => ?_
        refine zh6 <| za2 ?_
        refine sy hs (zat rfl) fun a w hs => ?_
        refine zab ?_
        refine hK27 _ _ _ ?_
        refine yaa fun Qe28 hB28 hO28 => ?_
        refine yhr (L := Q) (ents := [.blk b14 (.cells #[.bool false] 4 (0,0)), .blk b13 (.cells #[.int .i64 ((0 : Nat) : Int)] 3 (0,0)), .blk bq (.cells #[.int .i64 (q : Int)] 3 (0,0))]) (enc := encB) (lb := [.pointer (some ⟨b1,0, none⟩)]) (xs := xs) hs rfl has46 (fun l w0 f' J Jx L w h => iter_ok hAR (by omega) (boxOne hrc) hb1 l w0 f' J Jx L w (hfq.trans h)) (by decide) (fun x (b : Nat) => [(5, .pointer (some ⟨b5,0, none⟩)),(9, .pointer (some ⟨b9,0, none⟩)),(12, .pointer (some ⟨bq,0, none⟩)),(13, .pointer (some ⟨b13,0, none⟩)),(14, .pointer (some ⟨b14,0, none⟩)),(15, .pointer (some ⟨b,0, none⟩))]) (fun x b g => g b = some (.cells x.1.toArray 31 (0,0))) (fun rem ents => ∃ n : Nat, n + rem.length = xs.length ∧ xs.drop n = rem ∧ ents = [.blk b14 (.cells #[.bool false] 4 (0,0)), .blk b13 (.cells #[.int .i64 (n : Int)] 3 (0,0)), .blk bq (.cells #[.int .i64 (q : Int)] 3 (0,0))]) (fun c ents => c = .exit 2 ∧ ∃ n : Nat, ents = [.blk b14 (.cells #[.bool true] 4 (0,0)), .blk b13 (.cells #[.int .i64 (n : Int)] 3 (0,0)), .blk bq (.cells #[.int .i64 (q : Int)] 3 (0,0))]) ⟨0, by omega, rfl, rfl⟩ ?_ ?_ ?_ ?_
        · clear hs
          rintro x g L' a w hg ⟨rem, ents, n, hn1, hn2, rfl⟩ hs K2 hK2
          have hx1 : OneRow 57 x.1 := boxOne (hxR x (List.mem_of_mem_drop (i := n) (by rw [hn2]; exact .head _)))
          refine za2 ?_
          refine zbz hs ti31 (.free rfl) (by decide) fun b15 a w hs => ?_
          refine zbt (i := 0) hs rfl rfl rfl ti31 ⟨rfl, by simp [hx1.1]⟩ (zic hx1) (.free rfl) fun a w hs => ?_
          refine zab ?_
          obtain ⟨g2, hg2, hs, hb⟩ := hs.frzB 0 rfl
          exact hK2 b15 g2 _ _ hg2 hb (hs.sub ⟨rfl, rfl, rfl, rfl, rfl, rfl, trivial⟩)
        · clear hs
          rintro x b15 rem ents T g a w hg hb15 ⟨n, hn1, hn2, rfl⟩ hs
          have hfg : Fz.le f6 g := hfq.trans hg
          have hxm : x ∈ xs := List.mem_of_mem_drop (i := n) (by rw [hn2]; exact .head _)
          have hxn : xs[n]? = some x := by
            have : (xs.drop n)[0]? = some x := by rw [hn2]; rfl
            simpa using this
          have hxi : (allT y.1)[n]? = some x.2 := by rw [← hxs, List.getElem?_map, hxn]; rfl
          have hxx := TC.mono cBoxT (hxR x hxm) hfg
          have hx1 := boxOne hxx
          obtain ⟨hc0, hc1, hc2⟩ := box3 hxx
          have hin : x.2.x.2.2.1 = (n : Int) := hidx n x.2 hxi
          rw [hin] at hc2
          have hwRg := hwR.le hfg
          have h9g := hfg _ _ h9
          have h5g := hfg _ _ h5
          obtain ⟨wr, hwr, hwx⟩ := hwW.get hxi
          have hwx := TC.mono cBoxT hwx hfg
          have hwr1 := boxOne hwx
          obtain ⟨hd0, hd1, hd2⟩ := box3 hwx
          have hfg0 : Fz.le f00 g := hf.trans (hf06.trans hfg)
          have hnl : n < wrows.length := by have := (List.getElem?_eq_some_iff.1 hwr).1; exact this
          obtain ⟨zf, hz1, hz2⟩ := ycs hfg0 hxx
          have hn3 : n < 1000000 := by omega
          replace hs : St 110 w0 g (.blk b14 (.cells #[.bool false] 4 (0,0)) :: .blk b13 (.cells #[.int .i64 (n : Int)] 3 (0,0)) :: .blk bq (.cells #[.int .i64 (q : Int)] 3 (0,0)) :: T) _ a w := hs
          refine zm2 fun Qe29 hB29 hO29 => ?_
          refine zb0 fun K30 hK30 => ?_
          refine zb0 fun K31 hK31 => ?_
          refine W_draw hs mixed (by kernel_rfl) ?_; intro a he
          refine qy he (y_ld (u := .int .i64 (n : Int)) rfl Tryz.underlying3 rfl (Cell.blk (.tail _ (.head _)) rfl)) ?_; clear he; (try clear a); intro a he
          refine qy he (y_ld (u := wv) rfl Tryz.underlying42 rfl (Cell.fz h9g rfl)) ?_; clear he; (try clear a); intro a he
          refine qy he (zk4 hwRg rfl Tryz.underlying42) ?_; clear he; (try clear a); intro a he
          refine qy he (Y.val (y_geq rfl rfl) (congrArg _ (decide_eq_false (by omega)))) ?_; clear he; (try clear a); intro a he
          refine qy he (zat rfl) ?_; clear he; (try clear a); intro a he
          first | (refine qyg he (zar rfl (FO.of (off := 2) Tryz.underlying31 rfl rfl ti3 (by decide))) ?_; clear he; (try clear a); intro a he) | (refine qyg he (ztc rfl (FO.of (off := 2) Tryz.underlying31 rfl rfl ti3 (by decide))) ?_; clear he; (try clear a); intro a he)
          refine qyg he (y_ld (u := .int .i64 (n : Int)) rfl Tryz.underlying3 rfl (Cell.fz hb15 (by simpa using hc2))) ?_; clear he; (try clear a); intro a he
          refine qyg he (y_ld (u := .int .i64 (n : Int)) rfl Tryz.underlying3 rfl (Cell.blk (.tail _ (.head _)) rfl)) ?_; clear he; (try clear a); intro a he
          refine qyg he (Y.val (yae rfl rfl) (congrArg _ (decide_eq_false (fun h => h rfl)))) ?_; clear he; (try clear a); intro a he
          refine qy he (zbm rfl rfl) ?_; clear he; (try clear a); intro a he
          refine qy he (zat rfl) ?_; clear he; (try clear a); intro a he
          first | (refine qyg he (zar rfl (FO.of (off := 1) Tryz.underlying31 rfl rfl ti3 (by decide))) ?_; clear he; (try clear a); intro a he) | (refine qyg he (ztc rfl (FO.of (off := 1) Tryz.underlying31 rfl rfl ti3 (by decide))) ?_; clear he; (try clear a); intro a he)
          refine qyg he (y_ld (u := .int .i64 x.2.x.2.1) rfl Tryz.underlying3 rfl (Cell.fz hb15 (by simpa using hc1))) ?_; clear he; (try clear a); intro a he
          refine qyg he (y_ld (u := wv) rfl Tryz.underlying42 rfl (Cell.fz h9g rfl)) ?_; clear he; (try clear a); intro a he
          refine qyg he (y_ld (u := .int .i64 (n : Int)) rfl Tryz.underlying3 rfl (Cell.blk (.tail _ (.head _)) rfl)) ?_; clear he; (try clear a); intro a he
          refine qyg he (zc0 hwRg rfl rfl rfl hnl Tryz.underlying42 ti44) ?_; clear he; (try clear a); intro a he
          refine qyg he (ztc rfl (FO.of (off := 1) Tryz.underlying44 rfl rfl ti3 (by decide)) hwRg hnl) ?_; clear he; (try clear a); intro a he
          refine qyg he (zr3 (u := .int .i64 x.2.x.2.1) hwRg.up rfl hwr hd1 Tryz.underlying3 rfl) ?_; clear he; (try clear a); intro a he
          refine qyg he (Y.val (yae rfl rfl) (congrArg _ (decide_eq_false (fun h => h rfl)))) ?_; clear he; (try clear a); intro a he
          refine qy he (zbm rfl rfl) ?_; clear he; (try clear a); intro a he
          refine qy he (zat rfl) ?_; clear he; (try clear a); intro a he
          first | (refine qyg he (zar rfl (FO.of (off := 0) Tryz.underlying31 rfl rfl ti3 (by decide))) ?_; clear he; (try clear a); intro a he) | (refine qyg he (ztc rfl (FO.of (off := 0) Tryz.underlying31 rfl rfl ti3 (by decide))) ?_; clear he; (try clear a); intro a he)
          refine qyg he (y_ld (u := .int .i64 x.2.x.1) rfl Tryz.underlying3 rfl (Cell.fz hb15 (by simpa using hc0))) ?_; clear he; (try clear a); intro a he
          refine qyg he (y_ld (u := wv) rfl Tryz.underlying42 rfl (Cell.fz h9g rfl)) ?_; clear he; (try clear a); intro a he
          refine qyg he (y_ld (u := .int .i64 (n : Int)) rfl Tryz.underlying3 rfl (Cell.blk (.tail _ (.head _)) rfl)) ?_; clear he; (try clear a); intro a he
          refine qyg he (zc0 hwRg rfl rfl rfl hnl Tryz.underlying42 ti44) ?_; clear he; (try clear a); intro a he
          refine qyg he (ztc rfl (FO.of (off := 0) Tryz.underlying44 rfl rfl ti3 (by decide)) hwRg hnl) ?_; clear he; (try clear a); intro a he
          refine qyg he (zr3 (u := .int .i64 x.2.x.1) hwRg.up rfl hwr hd0 Tryz.underlying3 rfl) ?_; clear he; (try clear a); intro a he
          refine qyg he (Y.val (yae rfl rfl) (congrArg _ (decide_eq_false (fun h => h rfl)))) ?_; clear he; (try clear a); intro a he
          refine qy he (zbm rfl rfl) ?_; clear he; (try clear a); intro a he
          refine qy he (zat rfl) ?_; clear he; (try clear a); intro a he
          refine qyg he (y_ldF rfl Tryz.underlying31 rfl ti31 hb15 (by simpa using hx1.1)) ?_; clear he; (try clear a); intro a he
          refine qyg he (zu9 rfl has25 rfl (yci hfg0 hxx)) ?_; clear he; (try clear a); intro a he
          refine qyg he (y_ld (u := wv) rfl Tryz.underlying42 rfl (Cell.fz h9g rfl)) ?_; clear he; (try clear a); intro a he
          refine qyg he (y_ld (u := .int .i64 (n : Int)) rfl Tryz.underlying3 rfl (Cell.blk (.tail _ (.head _)) rfl)) ?_; clear he; (try clear a); intro a he
          refine qyg he (zc0 hwRg rfl rfl rfl hnl Tryz.underlying42 ti44) ?_; clear he; (try clear a); intro a he
          refine qyg he (ybx rfl Tryz.underlying44 rfl ti44 hwRg.up hwr) ?_; clear he; (try clear a); intro a he
          refine qyg he (zu9 rfl has26 rfl (yb2 hfg0 hwx)) ?_; clear he; (try clear a); intro a he
          refine qyg he (Y.val (yfg rfl rfl Tryz.underlying4) (by rw [beq_self_eq_true])) ?_; clear he; (try clear a); intro a he
          refine qy he (zbm rfl rfl) ?_; clear he; (try clear a); intro a he
          refine qy he (zat rfl) ?_; clear he; (try clear a); intro a he
          refine qyg he (y_ldF rfl Tryz.underlying31 rfl ti31 hb15 (by simpa using hx1.1)) ?_; clear he; (try clear a); intro a he
          refine qyg he (zu9 rfl has27 rfl hz1) ?_; clear he; (try clear a); intro a he
          refine qyg he (y_ld (u := wv) rfl Tryz.underlying42 rfl (Cell.fz h9g rfl)) ?_; clear he; (try clear a); intro a he
          refine qyg he (y_ld (u := .int .i64 (n : Int)) rfl Tryz.underlying3 rfl (Cell.blk (.tail _ (.head _)) rfl)) ?_; clear he; (try clear a); intro a he
          refine qyg he (zc0 hwRg rfl rfl rfl hnl Tryz.underlying42 ti44) ?_; clear he; (try clear a); intro a he
          refine qyg he (ybx rfl Tryz.underlying44 rfl ti44 hwRg.up hwr) ?_; clear he; (try clear a); intro a he
          refine qyg he (zu9 rfl has28 rfl (hz2 hfg0 hwx)) ?_; clear he; (try clear a); intro a he
          refine qyg he (Y.val (yfg rfl rfl Tryz.underlying4) (by rw [beq_self_eq_true])) ?_; clear he; (try clear a); intro a he
          refine qy he (zbm rfl rfl) ?_; clear he; (try clear a); intro a he
          refine QL_nil he ?_; clear he hs; intro a w hs
          refine hK31 _ _ ?_; clear hK31
          refine ya8 hs rfl ?_
          refine zgf ?_
          refine hK30 _ _ ?_; clear hK30
          refine zb0 fun K32 hK32 => ?_
          refine za2 ?_
          refine sy hs (y_ld (u := .int .i64 (n : Int)) rfl Tryz.underlying3 rfl (Cell.blk (.tail _ (.head _)) rfl)) fun a w hs => ?_
          refine sy hs (zvb (m := ((n + 1 : Nat) : Int)) rfl rfl (by rw [show ((n + 1 : Nat) : Int) = (n : Int) + 1 by omega]; exact w64i (by omega))) fun a w hs => ?_
          refine sstore 1 hs rfl rfl rfl ti3 rfl ?_ Nat.zero_lt_one; clear hs; (try clear a w); intro a w hs
          replace hs : St 110 w0 g (.blk b14 (.cells #[.bool false] 4 (0,0)) :: .blk b13 (.cells #[.int .i64 ((n + 1 : Nat) : Int)] 3 (0,0)) :: .blk bq (.cells #[.int .i64 (q : Int)] 3 (0,0)) :: T) _ a w := hs
          have hnx : xs.drop (n + 1) = rem := by
            have : (xs.drop n).drop 1 = rem := by rw [hn2]; rfl
            rwa [List.drop_drop] at this
          refine zab ?_
          refine hK32 _ _ ?_; clear hK32
          refine zb0 fun K33 hK33 => ?_
          refine za2 ?_
          refine sy hs (y_ld (u := .int .i64 (q : Int)) rfl Tryz.underlying3 rfl (Cell.blk (.tail _ (.tail _ (.head _))) rfl)) fun a w hs => ?_
          refine sy hs (ybz rfl rfl) fun a w hs => ?_
          refine sy hs (zat rfl) fun a w hs => ?_
          first | refine St.splitP hs (t := 95) rfl (fun hq1 hq => ?_) (fun hq1 hq => ?_) | refine St.split hs (t := 95) rfl (fun hq1 hq => ?_) (fun hq1 hq => ?_)
          · clear hs; have hs := hq; clear hq
            refine syg hs (y_ld (u := .int .i64 ((n + 1 : Nat) : Int)) rfl Tryz.underlying3 rfl (Cell.blk (.tail _ (.head _)) rfl)) fun a w hs => ?_
            refine syg hs (y_ld (u := .int .i64 st') rfl Tryz.underlying3 rfl (Cell.fz h5g rfl)) fun a w hs => ?_
            refine syg hs (y_gtr rfl rfl) fun a w hs => ?_
            refine sy hs (zbm rfl rfl) fun a w hs => ?_
            refine zab ?_
            refine hK33 _ _ ?_; clear hK33
            first | refine zrv hs rfl (fun hgo => ?_) (fun hgo => ?_) | refine zl3 hs rfl (fun hgo => ?_) (fun hgo => ?_)
            · refine zb0 fun K34 hK34 => ?_
              refine za2 ?_
              refine sstore 0 hs rfl rfl rfl ti4 rfl ?_ (by decide); clear hs; (try clear a w); intro a w hs
              refine zab ?_
              refine hK34 _ _ ?_; clear hK34
              refine zuw ?_
              refine hO29 _ rfl _ _ ?_
              exact ⟨g,[.blk b14 (.cells #[.bool true] 4 (0,0)), .blk b13 (.cells #[.int .i64 ((n + 1 : Nat) : Int)] 3 (0,0)), .blk bq (.cells #[.int .i64 (q : Int)] 3 (0,0))], .refl _, ⟨rfl, n + 1, rfl⟩, hs.cw⟩
            · refine zgf ?_
              exact ⟨g,[.blk b14 (.cells #[.bool false] 4 (0,0)), .blk b13 (.cells #[.int .i64 ((n + 1 : Nat) : Int)] 3 (0,0)), .blk bq (.cells #[.int .i64 (q : Int)] 3 (0,0))], .refl _, ⟨n + 1, by simp at hn1; omega, hnx, rfl⟩, hs.cw⟩
          · clear hs; have hs := hq; clear hq
            refine sno hs fun a w hs => ?_
            refine sno hs fun a w hs => ?_
            refine sno hs fun a w hs => ?_
            refine sy hs (zbm rfl rfl) fun a w hs => ?_
            refine zab ?_
            refine hK33 _ _ ?_; clear hK33
            refine ya8 hs rfl ?_
            refine zgf ?_
            exact ⟨g,[.blk b14 (.cells #[.bool false] 4 (0,0)), .blk b13 (.cells #[.int .i64 ((n + 1 : Nat) : Int)] 3 (0,0)), .blk bq (.cells #[.int .i64 (q : Int)] 3 (0,0))], .refl _, ⟨n + 1, by simp at hn1; omega, hnx, rfl⟩, hs.cw⟩
        · clear hs
          rintro f7 D ents w hf7 hD0 hD ⟨n, hn1, hn2, rfl⟩ hs
          replace hM := Marks.cons hM hle hf7 hD0 hD
          exact ⟨f7, n, false, hf7, hM, .inr (by simp at hn1; omega), hs.sub ⟨rfl, rfl, rfl, rfl, rfl, rfl, rfl, trivial⟩⟩
        · clear hs
          rintro c f7 D ents w hf7 hD0 hD ⟨rfl, n, rfl⟩ hs
          replace hM := Marks.cons hM hle hf7 hD0 hD
          refine zh6 ?_
          refine zuw ?_
          refine hB28 _ _ _ ?_
          exact ⟨f7, n, true, hf7, hM, .inl rfl, hs.sub ⟨rfl, rfl, rfl, rfl, rfl, rfl, rfl, trivial⟩⟩
    · subst hQ
      refine zh6 ?_
      refine zuw ?_
      refine hB14 _ _ _ ?_
      refine hK12 _ _ _ ?_
      refine zdt fun K35 hK35 => ?_
      refine zh6 <| za2 ?_
      refine sy hs (zu9 rfl has11 rfl (zw6 k h4 (hf.trans hle))) fun a w hs => ?_
      refine sstore 3 hs rfl rfl rfl ti4 rfl ?_ (by decide); clear hs; (try clear a w); intro a w hs
      refine zab ?_
      refine hK35 _ _ _ ?_
      refine zh6 ?_
      refine znp ?_
      refine RtM_of hs hle hM ?_; clear hs; (try clear w); intro w hs
      refine RtV1 hs rfl (rv_c hs rfl Tryz.underlying4 rfl (Cell.blk (.tail _ (.tail _ (.tail _ (.head _)))) rfl)) ?_
      exact ⟨rfl, hs.cw.tail.tail.tail.tail.tail⟩
end
end Go.Proofs.YteicdfkmpnmkmaaGreat
