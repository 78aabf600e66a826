/-
  Walks and laws of this seat.
-/
import Derived.Test.YtdjjeahiomackaaGreatKE
import Derived.Test.YtdjjeahiomackaaGreatRows
namespace Go.Proofs.YtdjjeahiomackaaGreat
set_option linter.unusedVariables false
set_option linter.unusedSimpArgs false
set_option linter.unusedSectionVars false
open Go.RowKit Go.Sl Go.V
abbrev MCut (f3 : Fz) (w0 : World) (L : List Ent) (b3 b5 : Nat) (va v : Value) (es : Array MapEntry) (c : Nat) (E : List (Nat × Value)) (a : Act) (w : World) : Prop :=
  St 133 w0 f3 (.blk b5 (.map es c) :: .blk b3 (.cells #[va] 30 (0,0)) :: L) ((0, v) :: (2, .bool false) :: (3, .pointer (some ⟨b3,0, none⟩)) :: (5, .map (some b5)) :: E) a w
set_option maxRecDepth 20000 in
set_option maxHeartbeats 16000000 in
theorem zmx {n k : Nat} {f : Fz} {v00 : Value} {p0 l : List za4} (h0 : RS zaf f v00 p0) (hl : l = p0.take 100) {b : Bool} (hwh : zhk k (l.map ofK) = some b) (hkn : zhl k = some true) (hbd : ∀ r, tokC r l ≤ 1000000000)
    (hb : b = true → ∃ t e, zhg n l = some (t, e) ∧ t.Nodes.length ≤ 1000000 ∧ (e = 0 → Fine l (t.Nodes.map kt))) : Gives Tryz.prog 4 [v00] f (.bool true) := by
  intro w0 L w hC
  obtain ⟨rows0, hR0, hW0⟩ := h0
  refine enter Tryz.func4 rfl Tryz.ntmps4 (by simp) hC fun a hs => ?_
  refine zc0 fun K1 hK1 => ?_
  refine za5 ?_
  refine sy hs (zb2 rfl) fun _ _ hs => ?_
  refine za1 ?_
  refine hK1 _ _ ?_; clear hK1
  refine zu8 (fun a w => ∃ v, RS zaf f v l ∧ St 133 w0 f L [(0, v),(2, .bool false)] a w) ?_ (fun a w hI => ?_)
  · refine zc0 fun K3 hK3 => ?_
    refine za5 ?_
    refine sy hs (za9 rfl) fun _ _ hs => ?_
    refine sy hs (ze4 hR0 hW0 rfl Tryz.underlying22) fun _ _ hs => ?_
    refine sy hs (zm0 rfl rfl) fun _ _ hs => ?_
    refine za1 ?_
    refine hK3 _ _ ?_; clear hK3
    first | refine zk4 hs rfl (fun hgt => ?_) (fun hgt => ?_) | refine zag hs rfl (fun hgt => ?_) (fun hgt => ?_)
    · refine za5 ?_
      refine sy hs (za9 rfl) fun _ _ hs => ?_
      refine sy hs (zi3 (lo := 0) (hi := 100) rfl Tryz.underlying22 ti27 (.inl ⟨rfl, rfl⟩) (.inr ⟨_, rfl, rfl⟩) (by omega) (by have := hW0.len; omega) hR0) fun _ _ hs => ?_
      refine sy hs (zb2 rfl) fun _ _ hs => ?_
      refine za1 ?_
      refine ⟨_, ⟨rows0.take 100, ?_, ?_⟩, hs.sub ⟨rfl, rfl, trivial⟩⟩
      · have := Rd.cut (lo := 0) (hi := 100) hR0 (by omega) (by have := hW0.len; omega)
        rw [List.drop_zero] at this; exact this
      · rw [hl]; exact hW0.take 100
    · refine zak ?_
      exact ⟨_, ⟨rows0, hR0, by rw [hl, List.take_of_length_le (by omega)]; exact hW0⟩, hs.sub ⟨rfl, rfl, trivial⟩⟩
  · clear hR0 hW0 rows0 hC
    obtain ⟨v, ⟨rows0, hR0, hW0⟩, hs⟩ := hI
    have hl100 : l.length ≤ 100 := by rw [hl, List.length_take]; omega
    have hr0 := hW0.len
    refine zc0 fun K4 hK4 => ?_
    refine zc0 fun K5 hK5 => ?_
    refine za5 ?_
    refine sy hs (za9 rfl) fun _ _ hs => ?_
    refine sy hs (zfu rfl has5 rfl (zry k hwh ⟨rows0, hR0, hW0⟩)) fun _ _ hs => ?_
    refine sy hs (zku rfl) fun _ _ hs => ?_
    refine za1 ?_
    refine hK5 _ _ ?_; clear hK5
    first | refine zk4 hs rfl (fun hwq => ?_) (fun hwq => ?_) | refine zag hs rfl (fun hwq => ?_) (fun hwq => ?_)
    · refine zc0 fun K6 hK6 => ?_
      refine za5 ?_
      refine sy hs (zfu rfl has6 rfl (zl2 k hkn f)) fun _ _ hs => ?_
      refine sy hs (zb2 rfl) fun _ _ hs => ?_
      refine za1 ?_
      refine hK6 _ _ ?_; clear hK6
      refine zbl ?_
      refine Rt_1 hs rfl rfl ?_
      exact ⟨rfl, hs.cw⟩
    · obtain rfl : b = true := by simpa using hwq
      obtain ⟨t, e, hbu, htl, hfi⟩ := hb rfl
      have hT : RS zaf f v l := ⟨rows0, hR0, hW0⟩
      refine zak ?_
      refine hK4 _ _ ?_; clear hK4
      refine zc0 fun K7 hK7 => ?_
      refine za5 ?_
      refine sy hs (za9 rfl) fun _ _ hs => ?_
      refine zi2 hs rfl has7 rfl (zl9 n hT hbu) ?_; clear hs; (try clear a w)
      rintro _ f3 _ a w hf3 ⟨u0, rfl, rfl, hu0⟩ hs
      obtain ⟨va, rfl, ra, hRa, hWa⟩ := hu0
      refine sy hs (za9 rfl) fun _ _ hs => ?_
      refine sy hs (zan (vs := [.agg #[va], .int .i64 e]) rfl rfl) fun _ _ hs => ?_
      refine sy hs (zan (vs := [.agg #[va], .int .i64 e]) rfl rfl) fun _ _ hs => ?_
      refine zd3 hs ti30 (.free rfl) (by decide) fun b3 _ _ hs => ?_
      refine zbe (i := 0) hs rfl rfl rfl ti30 ⟨rfl, rfl⟩ (AllC.arr (r := [va]) ⟨hRa.one, trivial⟩) (.free rfl) fun _ _ hs => ?_
      replace hs : St _ _ f3 (.blk b3 (.cells #[va] 30 (0,0)) :: L) _ _ _ := hs
      refine sy hs (zb2 rfl) fun _ _ hs => ?_
      refine za1 ?_
      refine hK7 _ _ ?_; clear hK7
      refine zc0 fun K8 hK8 => ?_
      refine zc0 fun K9 hK9 => ?_
      refine za5 ?_
      refine sy hs (za9 rfl) fun _ _ hs => ?_
      refine sy hs (zje rfl rfl) fun _ _ hs => ?_
      refine za1 ?_
      refine hK9 _ _ ?_; clear hK9
      first | refine zk4 hs rfl (fun hne => ?_) (fun hne => ?_) | refine zag hs rfl (fun hne => ?_) (fun hne => ?_)
      · refine zc0 fun K10 hK10 => ?_
        refine za5 ?_
        refine sy hs (zfu rfl has6 rfl (zl2 k hkn f3)) fun _ _ hs => ?_
        refine sy hs (zb2 rfl) fun _ _ hs => ?_
        refine za1 ?_
        refine hK10 _ _ ?_; clear hK10
        refine zbl ?_
        refine Rt_1 hs rfl rfl ?_
        exact ⟨rfl,((hs.subL (.cons _ (.refl _))).weak hf3).cw⟩
      · obtain rfl : e = 0 := by simpa using hne
        have hF := hfi rfl
        have hR1 := hR0.le hf3
        have hral := hWa.len
        refine zak ?_
        refine hK8 _ _ ?_; clear hK8
        refine zc0 fun K11 hK11 => ?_
        refine za5 ?_
        refine zp4 hs fun b5 _ _ hs => ?_
        refine sy hs (zb2 rfl) fun _ _ hs => ?_
        refine za1 ?_
        refine hK11 _ _ ?_; clear hK11
        refine zc0 fun K12 hK12 => ?_
        refine za5 ?_
        refine sy hs (zb2 rfl) fun _ _ hs => ?_
        refine za1 ?_
        refine hK12 _ _ ?_; clear hK12
        refine zc0 fun K13 hK13 => ?_
        refine zc0 fun K14 hK14 => ?_
        refine za5 ?_
        refine sy hs (zb2 rfl) fun _ _ hs => ?_
        refine za1 ?_
        refine hK14 _ _ ?_; clear hK14
        refine zas fun Qe15 hB15 hO15 => ?_
        refine zeu (fun (j : Nat) a w => j ≤ l.length ∧ ∃ es c m, IM .i32 .i64 es c m ∧ GoodM m ∧ (∀ r,(igetM m r).getD 0 = (tokC r (l.take j) : Int)) ∧ MCut f3 w0 L b3 b5 va v es c [(6, .int .i64 (tokO (l.take j) : Int)),(7, .int .i64 (j : Int))] a w) (fun j => l.length - j) 0
          ⟨Nat.zero_le _, #[],0,[], IM.nil, List.nodup_nil, fun r => rfl, hs.sub ⟨rfl, rfl, rfl, rfl, rfl, rfl, trivial⟩⟩ ?_
        clear hs; rintro j a w ⟨hj, es, c, m, hM, hG, hg, hs⟩ K hK
        have hto := zrz (l.take j)
        rw [List.length_take] at hto
        refine zc0 fun K16 hK16 => ?_
        refine zc0 fun K17 hK17 => ?_
        refine za5 ?_
        refine sy hs (za9 rfl) fun _ _ hs => ?_
        refine sy hs (za9 rfl) fun _ _ hs => ?_
        refine sy hs (ze4 hR0 hW0 rfl Tryz.underlying22) fun _ _ hs => ?_
        refine sy hs (zhw rfl rfl) fun _ _ hs => ?_
        refine za1 ?_
        refine hK17 _ _ ?_; clear hK17
        first | refine zk4 hs rfl (fun hlt => ?_) (fun hlt => ?_) | refine zag hs rfl (fun hlt => ?_) (fun hlt => ?_)
        · have hjl : j < l.length := by simpa using hlt
          have hj0 : j < rows0.length := by omega
          have hx : l[j]? = some l[j] := List.getElem?_eq_getElem hjl
          have hr : rows0[j]? = some rows0[j] := List.getElem?_eq_getElem hj0
          obtain ⟨vx, hre, rx, hRx, hWx⟩ := hW0.at hr hx
          rw [hre] at hr
          refine zak ?_
          refine hK16 _ _ ?_; clear hK16
          refine zu8 (fun a w => ∃ es c m, IM .i32 .i64 es c m ∧ GoodM m ∧ (∀ r,(igetM m r).getD 0 = (tokC r (l.take (j + 1)) : Int)) ∧ MCut f3 w0 L b3 b5 va v es c [(6, .int .i64 (tokO (l.take (j + 1)) : Int)),(7, .int .i64 (j : Int))] a w) ?_ (fun a w hI => ?_)
          · refine zas fun Qe19 hB19 hO19 => ?_
            refine zu8 (fun a w => MCut f3 w0 L b3 b5 va v es c [(6, .int .i64 (tokO (l.take (j + 1)) : Int)),(7, .int .i64 (j : Int))] a w) ?_ (fun a w hI => ?_)
            · refine zc0 fun K21 hK21 => ?_
              refine za5 ?_
              refine sy hs (za9 rfl) fun _ _ hs => ?_
              refine sy hs (za9 rfl) fun _ _ hs => ?_
              refine sy hs (zai hR1 rfl rfl rfl hj0 Tryz.underlying22 ti27) fun _ _ hs => ?_
              refine sy hs (ze9 (i := j) (j := 0) hR1 rfl hj0 (FO.of (off := 0) Tryz.underlying27 rfl rfl ti3 (by decide))) fun _ _ hs => ?_
              refine sy hs (ze3 (i := j) (j := 0) (Rd.up hR1) rfl hr rfl Tryz.underlying3 rfl) fun _ _ hs => ?_
              refine sy hs (zh5 rfl rfl) fun _ _ hs => ?_
              refine za1 ?_
              refine hK21 _ _ ?_; clear hK21
              first | refine zk4 hs rfl (fun hk2 => ?_) (fun hk2 => ?_) | refine zag hs rfl (fun hk2 => ?_) (fun hk2 => ?_)
              · refine za5 ?_
                refine sy hs (za9 rfl) fun _ _ hs => ?_
                refine sy hs (zga (m := (tokO (l.take (j + 1)) : Int)) rfl rfl (by rw [zla hjl, if_pos hk2]; exact (zki (by omega)).trans (by omega))) fun _ _ hs => ?_
                refine sy hs (zb2 rfl) fun _ _ hs => ?_
                refine za1 ?_
                exact hs.sub ⟨rfl, rfl, rfl, rfl, rfl, rfl, trivial⟩
              · refine zak ?_
                rw [show tokO (l.take (j + 1)) = tokO (l.take j) by rw [zla hjl, if_neg hk2]; rfl]
                exact hs.sub ⟨rfl, rfl, rfl, rfl, rfl, rfl, trivial⟩
            · clear hs; have hs := hI; clear hI
              refine zc0 fun K22 hK22 => ?_
              refine zc0 fun K23 hK23 => ?_
              refine za5 ?_
              refine sy hs (za9 rfl) fun _ _ hs => ?_
              refine sy hs (za9 rfl) fun _ _ hs => ?_
              refine sy hs (zai hR1 rfl rfl rfl hj0 Tryz.underlying22 ti27) fun _ _ hs => ?_
              refine sy hs (ze9 (i := j) (j := 0) hR1 rfl hj0 (FO.of (off := 0) Tryz.underlying27 rfl rfl ti3 (by decide))) fun _ _ hs => ?_
              refine sy hs (ze3 (i := j) (j := 0) (Rd.up hR1) rfl hr rfl Tryz.underlying3 rfl) fun _ _ hs => ?_
              refine sy hs (zje rfl rfl) fun _ _ hs => ?_
              refine za1 ?_
              refine hK23 _ _ ?_; clear hK23
              first | refine zk4 hs rfl (fun hk1 => ?_) (fun hk1 => ?_) | refine zag hs rfl (fun hk1 => ?_) (fun hk1 => ?_)
              · refine ze8 ?_
                refine hB19 _ _ ?_
                exact ⟨es, c, m, hM, hG, fun r => by rw [zjg hjl, if_neg hk1, hg r]; rfl, hs.sub ⟨rfl, rfl, rfl, rfl, rfl, rfl, trivial⟩⟩
              · have hk : l[j].Kind = 1 := by simpa using hk1
                refine zak ?_
                refine hK22 _ _ ?_; clear hK22
                refine zc0 fun K24 hK24 => ?_
                refine za5 ?_
                refine sy hs (za9 rfl) fun _ _ hs => ?_
                refine sy hs (za9 rfl) fun _ _ hs => ?_
                refine sy hs (zai hR1 rfl rfl rfl hj0 Tryz.underlying22 ti27) fun _ _ hs => ?_
                refine sy hs (ze9 (i := j) (j := 0) hR1 rfl hj0 (FO.of (off := 2) Tryz.underlying27 rfl rfl ti9 (by decide))) fun _ _ hs => ?_
                refine sy hs (ze3 (i := j) (j := 2) (Rd.up hR1) rfl hr rfl Tryz.underlying9 rfl) fun _ _ hs => ?_
                refine zn7 hs rfl Tryz.underlying9 fun bi _ _ hs => ?_
                refine za1 ?_
                refine hK24 _ _ ?_; clear hK24
                refine zas fun Qe25 hB25 hO25 => ?_
                refine zeu (fun (p : Nat) a w => ∃ es c m, IM .i32 .i64 es c m ∧ GoodM m ∧ (∀ r,(igetM m r).getD 0 + ((restS l[j].Text p).count r : Int) = (tokC r (l.take (j + 1)) : Int) ∧ (restS l[j].Text p).count r ≤ cntS r l[j].Text) ∧ St 133 w0 f3 (.blk bi (.stringIter l[j].Text p) :: .blk b5 (.map es c) :: .blk b3 (.cells #[va] 30 (0,0)) :: L) [(0, v),(2, .bool false),(3, .pointer (some ⟨b3,0, none⟩)),(5, .map (some b5)),(6, .int .i64 (tokO (l.take (j + 1)) : Int)),(7, .int .i64 (j : Int)),(59, .pointer (some ⟨bi,0, none⟩))] a w) (fun p => l[j].Text.size - p) 0
                  ⟨es, c, m, hM, hG, fun r => ⟨by rw [hg r, zjg hjl, if_pos hk]; rfl, Nat.le_refl _⟩, hs.sub ⟨rfl, rfl, rfl, rfl, rfl, rfl, rfl, trivial⟩⟩ ?_
                clear hs hM hG hg; rintro p a w ⟨es, c, m, hM, hG, hg, hs⟩ K' hK'
                have hg1 := hg ((Utf8.decode l[j].Text p).1 : Int)
                have hb1 : tokC ((Utf8.decode l[j].Text p).1 : Int) (l.take (j + 1)) ≤ tokC ((Utf8.decode l[j].Text p).1 : Int) l := sum_le _
                have hb2 := hbd ((Utf8.decode l[j].Text p).1 : Int)
                have hb4 := zjg hjl ((Utf8.decode l[j].Text p).1 : Int)
                rw [if_pos hk] at hb4
                refine zc0 fun K26 hK26 => ?_
                refine za5 ?_
                refine zo7 (i := 0) hs rfl rfl (fun hp => ?_) (fun hp => ?_)
                · clear hs; (try clear a w); intro a w hs; simp only [List.set] at hs
                  refine sy hs (zan rfl rfl) fun _ _ hs => ?_
                  refine za1 ?_
                  refine hK26 _ _ ?_; clear hK26
                  refine zc0 fun K27 hK27 => ?_
                  refine zqc hs rfl ?_
                  refine zak ?_
                  refine hK27 _ _ ?_; clear hK27
                  refine zas fun Qe28 hB28 hO28 => ?_
                  refine zc0 fun K29 hK29 => ?_
                  refine za5 ?_
                  refine sy hs (zan rfl rfl) fun _ _ hs => ?_
                  refine sy hs (zb2 rfl) fun _ _ hs => ?_
                  refine za1 ?_
                  refine hK29 _ _ ?_; clear hK29
                  refine za5 ?_
                  refine sy hs (za9 rfl) fun _ _ hs => ?_
                  refine sy hs (za9 rfl) fun _ _ hs => ?_
                  refine sy hs (zqh rfl rfl Tryz.underlying40 Tryz.underlying21 ti3 (.tail _ (.head _)) hM) fun _ _ hs => ?_
                  rw [zm4 hp, List.count_cons_self] at hg1
                  refine sy hs (zga rfl rfl (zki (by omega))) fun _ _ hs => ?_
                  refine zly 1 hs rfl rfl rfl rfl Tryz.underlying40 Tryz.underlying21 hM fun es2 c2 _ _ hM2 hs => ?_
                  refine za1 ?_
                  refine hK' _ _ _ (by have := zft l[j].Text p; omega) ⟨es2, c2, _, hM2, hG.put, fun r => ?_, hs.sub ⟨rfl, rfl, rfl, rfl, rfl, rfl, rfl, trivial⟩⟩
                  have h1 := hg r
                  rw [zm4 hp] at h1
                  rw [zpw]
                  by_cases hr2 : ((Utf8.decode l[j].Text p).1 : Int) = r
                  · subst hr2; rw [if_pos rfl]; rw [List.count_cons_self] at h1; show (igetM m _).getD 0 + 1 + _ = _ ∧ _; omega
                  · rw [if_neg hr2]; rw [List.count_cons_of_ne hr2] at h1; exact h1
                · clear hs; (try clear a w); intro a w hs
                  refine sy hs (zan rfl rfl) fun _ _ hs => ?_
                  refine za1 ?_
                  refine hK26 _ _ ?_; clear hK26
                  refine zc0 fun K30 hK30 => ?_
                  refine zo6 hs rfl ?_
                  refine ze8 ?_
                  refine hB25 _ _ ?_
                  refine ⟨es, c, m, hM, hG, fun r => ?_, hs.subs ⟨rfl, rfl, rfl, rfl, rfl, rfl, trivial⟩ (.cons _ (.refl _))⟩
                  have h1 := (hg r).1
                  rw [zqs (by omega)] at h1
                  simpa using h1
          · clear hs hM hG hg; obtain ⟨es, c, m, hM, hG, hg, hs⟩ := hI
            refine za5 ?_
            refine sy hs (za9 rfl) fun _ _ hs => ?_
            refine sy hs (zga (m := ((j + 1 : Nat) : Int)) rfl rfl (zki (by omega))) fun _ _ hs => ?_
            refine sy hs (zb2 rfl) fun _ _ hs => ?_
            refine za1 ?_
            exact hK (j + 1) _ _ (by omega) ⟨hjl, es, c, m, hM, hG, hg, hs.sub ⟨rfl, rfl, rfl, rfl, rfl, rfl, trivial⟩⟩
        · have hjl : ¬ j < l.length := by simpa using hlt
          obtain rfl : j = l.length := by omega
          simp only [List.take_length] at hs hg
          refine ze8 ?_
          refine hB15 _ _ ?_
          refine hK13 _ _ ?_; clear hK13
          refine zc0 fun K31 hK31 => ?_
          refine za5 ?_
          refine sy hs (zb2 rfl) fun _ _ hs => ?_
          refine za1 ?_
          refine hK31 _ _ ?_; clear hK31
          refine zc0 fun K32 hK32 => ?_
          refine zc0 fun K33 hK33 => ?_
          refine za5 ?_
          refine sy hs (zb2 rfl) fun _ _ hs => ?_
          refine za1 ?_
          refine hK33 _ _ ?_; clear hK33
          refine zas fun Qe34 hB34 hO34 => ?_
          refine zeu (fun (q : Nat) a w => q ≤ t.Nodes.length ∧ ∃ es c m, IM .i32 .i64 es c m ∧ GoodM m ∧ (∀ r,(igetM m r).getD 0 + (sumK r ((t.Nodes.map kt).take q) : Int) = (tokC r l : Int)) ∧ MCut f3 w0 L b3 b5 va v es c [(6, .int .i64 (tokO l : Int)),(10, .int .i64 (elK ((t.Nodes.map kt).take q) : Int)),(11, .int .i64 (q : Int))] a w) (fun q => t.Nodes.length - q) 0
            ⟨Nat.zero_le _, es, c, m, hM, hG, fun r => by rw [hg r]; exact Int.add_zero _, hs.sub ⟨rfl, rfl, rfl, rfl, rfl, rfl, rfl, trivial⟩⟩ ?_
          clear hs hM hG hg; rintro q a w ⟨hq, es, c, m, hM, hG, hg, hs⟩ K hK
          have hel := elK_le ((t.Nodes.map kt).take q)
          rw [List.length_take] at hel
          refine zc0 fun K35 hK35 => ?_
          refine zc0 fun K36 hK36 => ?_
          refine za5 ?_
          refine sy hs (za9 rfl) fun _ _ hs => ?_
          first | (refine sy hs (za3 rfl (FO.of (off := 0) Tryz.underlying30 rfl rfl ti28 (by decide))) ?_; clear hs; (try clear a w); intro a w hs) | (refine sy hs (y_faE rfl (FO.of (off := 0) Tryz.underlying30 rfl rfl ti28 (by decide))) ?_; clear hs; (try clear a w); intro a w hs)
          first | (refine sy hs (y_ld rfl Tryz.underlying28 rfl) ?_; clear hs; (try clear a w); intro a w hs) | (refine sy hs (y_ldE rfl Tryz.underlying28 rfl) ?_; clear hs; (try clear a w); intro a w hs)
          refine sy hs (ze4 hRa hWa rfl Tryz.underlying28) fun _ _ hs => ?_
          refine sy hs (zhw rfl rfl) fun _ _ hs => ?_
          refine za1 ?_
          refine hK36 _ _ ?_; clear hK36
          first | refine zk4 hs rfl (fun hlt2 => ?_) (fun hlt2 => ?_) | refine zag hs rfl (fun hlt2 => ?_) (fun hlt2 => ?_)
          · have hql : q < t.Nodes.length := by simpa using hlt2
            have hq0 : q < ra.length := by omega
            have hx : t.Nodes[q]? = some t.Nodes[q] := List.getElem?_eq_getElem hql
            have hr : ra[q]? = some ra[q] := List.getElem?_eq_getElem hq0
            obtain ⟨vx, hre, rx, hRx, hWx⟩ := hWa.at hr hx
            rw [hre] at hr
            refine zak ?_
            refine hK35 _ _ ?_; clear hK35
            refine zu8 (fun a w => ∃ es c m, IM .i32 .i64 es c m ∧ GoodM m ∧ (∀ r,(igetM m r).getD 0 + (sumK r ((t.Nodes.map kt).take (q + 1)) : Int) = (tokC r l : Int)) ∧ MCut f3 w0 L b3 b5 va v es c [(6, .int .i64 (tokO l : Int)),(10, .int .i64 (elK ((t.Nodes.map kt).take (q + 1)) : Int)),(11, .int .i64 (q : Int))] a w) ?_ (fun a w hI => ?_)
            · refine zas fun Qe38 hB38 hO38 => ?_
              refine zu8 (fun a w => MCut f3 w0 L b3 b5 va v es c [(6, .int .i64 (tokO l : Int)),(10, .int .i64 (elK ((t.Nodes.map kt).take (q + 1)) : Int)),(11, .int .i64 (q : Int))] a w) ?_ (fun a w hI => ?_)
              · refine zc0 fun K40 hK40 => ?_
                refine za5 ?_
                first | (refine sy hs (za3 rfl (FO.of (off := 0) Tryz.underlying30 rfl rfl ti28 (by decide))) ?_; clear hs; (try clear a w); intro a w hs) | (refine sy hs (y_faE rfl (FO.of (off := 0) Tryz.underlying30 rfl rfl ti28 (by decide))) ?_; clear hs; (try clear a w); intro a w hs)
                first | (refine sy hs (y_ld rfl Tryz.underlying28 rfl) ?_; clear hs; (try clear a w); intro a w hs) | (refine sy hs (y_ldE rfl Tryz.underlying28 rfl) ?_; clear hs; (try clear a w); intro a w hs)
                refine sy hs (za9 rfl) fun _ _ hs => ?_
                refine sy hs (zai hRa rfl rfl rfl hq0 Tryz.underlying28 ti42) fun _ _ hs => ?_
                refine sy hs (ze9 (i := q) (j := 0) hRa rfl hq0 (FO.of (off := 0) Tryz.underlying42 rfl rfl ti3 (by decide))) fun _ _ hs => ?_
                refine sy hs (ze3 (i := q) (j := 0) (Rd.up hRa) rfl hr rfl Tryz.underlying3 rfl) fun _ _ hs => ?_
                refine sy hs (zh5 rfl rfl) fun _ _ hs => ?_
                refine za1 ?_
                refine hK40 _ _ ?_; clear hK40
                first | refine zk4 hs rfl (fun hk2 => ?_) (fun hk2 => ?_) | refine zag hs rfl (fun hk2 => ?_) (fun hk2 => ?_)
                · refine za5 ?_
                  refine sy hs (za9 rfl) fun _ _ hs => ?_
                  refine sy hs (zga (m := (elK ((t.Nodes.map kt).take (q + 1)) : Int)) rfl rfl (by rw [ztd hql, if_pos hk2]; exact (zki (by omega)).trans (by omega))) fun _ _ hs => ?_
                  refine sy hs (zb2 rfl) fun _ _ hs => ?_
                  refine za1 ?_
                  exact hs.sub ⟨rfl, rfl, rfl, rfl, rfl, rfl, rfl, trivial⟩
                · refine zak ?_
                  rw [show elK ((t.Nodes.map kt).take (q + 1)) = elK ((t.Nodes.map kt).take q) by rw [ztd hql, if_neg hk2]; rfl]
                  exact hs.sub ⟨rfl, rfl, rfl, rfl, rfl, rfl, rfl, trivial⟩
              · clear hs; have hs := hI; clear hI
                refine zc0 fun K41 hK41 => ?_
                refine za5 ?_
                first | (refine sy hs (za3 rfl (FO.of (off := 0) Tryz.underlying30 rfl rfl ti28 (by decide))) ?_; clear hs; (try clear a w); intro a w hs) | (refine sy hs (y_faE rfl (FO.of (off := 0) Tryz.underlying30 rfl rfl ti28 (by decide))) ?_; clear hs; (try clear a w); intro a w hs)
                first | (refine sy hs (y_ld rfl Tryz.underlying28 rfl) ?_; clear hs; (try clear a w); intro a w hs) | (refine sy hs (y_ldE rfl Tryz.underlying28 rfl) ?_; clear hs; (try clear a w); intro a w hs)
                refine sy hs (za9 rfl) fun _ _ hs => ?_
                refine sy hs (zai hRa rfl rfl rfl hq0 Tryz.underlying28 ti42) fun _ _ hs => ?_
                refine sy hs (ze9 (i := q) (j := 0) hRa rfl hq0 (FO.of (off := 2) Tryz.underlying42 rfl rfl ti9 (by decide))) fun _ _ hs => ?_
                refine sy hs (ze3 (i := q) (j := 2) (Rd.up hRa) rfl hr rfl Tryz.underlying9 rfl) fun _ _ hs => ?_
                refine zn7 hs rfl Tryz.underlying9 fun bi _ _ hs => ?_
                refine za1 ?_
                refine hK41 _ _ ?_; clear hK41
                refine zas fun Qe42 hB42 hO42 => ?_
                refine zeu (fun (p : Nat) a w => ∃ es c m, IM .i32 .i64 es c m ∧ GoodM m ∧ (∀ r,(igetM m r).getD 0 + (sumK r ((t.Nodes.map kt).take (q + 1)) : Int) = (tokC r l : Int) + ((restS t.Nodes[q].Text p).count r : Int) ∧ (restS t.Nodes[q].Text p).count r ≤ cntS r t.Nodes[q].Text) ∧ St 133 w0 f3 (.blk bi (.stringIter t.Nodes[q].Text p) :: .blk b5 (.map es c) :: .blk b3 (.cells #[va] 30 (0,0)) :: L) [(0, v),(2, .bool false),(3, .pointer (some ⟨b3,0, none⟩)),(5, .map (some b5)),(6, .int .i64 (tokO l : Int)),(10, .int .i64 (elK ((t.Nodes.map kt).take (q + 1)) : Int)),(11, .int .i64 (q : Int)),(89, .pointer (some ⟨bi,0, none⟩))] a w) (fun p => t.Nodes[q].Text.size - p) 0
                  ⟨es, c, m, hM, hG, fun r => ⟨by have h1 := hg r; have h2 := zqo hql r; rw [ztu]; unfold cntS at h2; omega, Nat.le_refl _⟩, hs.sub ⟨rfl, rfl, rfl, rfl, rfl, rfl, rfl, rfl, trivial⟩⟩ ?_
                clear hs hM hG hg; rintro p a w ⟨es, c, m, hM, hG, hg, hs⟩ K' hK'
                have hg1 := hg ((Utf8.decode t.Nodes[q].Text p).1 : Int)
                have hb1 : sumK ((Utf8.decode t.Nodes[q].Text p).1 : Int) ((t.Nodes.map kt).take (q + 1)) ≤ sumK ((Utf8.decode t.Nodes[q].Text p).1 : Int) (t.Nodes.map kt) := sum_le _
                have hb2 := hbd ((Utf8.decode t.Nodes[q].Text p).1 : Int)
                have hb3 := (hF.1 ((Utf8.decode t.Nodes[q].Text p).1 : Int)).1
                have hb4 := zqo hql ((Utf8.decode t.Nodes[q].Text p).1 : Int)
                refine zc0 fun K43 hK43 => ?_
                refine za5 ?_
                refine zo7 (i := 0) hs rfl rfl (fun hp => ?_) (fun hp => ?_)
                · clear hs; (try clear a w); intro a w hs; simp only [List.set] at hs
                  refine sy hs (zan rfl rfl) fun _ _ hs => ?_
                  refine za1 ?_
                  refine hK43 _ _ ?_; clear hK43
                  refine zc0 fun K44 hK44 => ?_
                  refine zqc hs rfl ?_
                  refine zak ?_
                  refine hK44 _ _ ?_; clear hK44
                  refine zas fun Qe45 hB45 hO45 => ?_
                  refine zc0 fun K46 hK46 => ?_
                  refine za5 ?_
                  refine sy hs (zan rfl rfl) fun _ _ hs => ?_
                  refine sy hs (zb2 rfl) fun _ _ hs => ?_
                  refine za1 ?_
                  refine hK46 _ _ ?_; clear hK46
                  refine za5 ?_
                  refine sy hs (za9 rfl) fun _ _ hs => ?_
                  refine sy hs (za9 rfl) fun _ _ hs => ?_
                  refine sy hs (zqh rfl rfl Tryz.underlying40 Tryz.underlying21 ti3 (.tail _ (.head _)) hM) fun _ _ hs => ?_
                  refine sy hs (zlz rfl rfl (zki (by omega))) fun _ _ hs => ?_
                  refine zly 1 hs rfl rfl rfl rfl Tryz.underlying40 Tryz.underlying21 hM fun es2 c2 _ _ hM2 hs => ?_
                  refine za1 ?_
                  refine hK' _ _ _ (by have := zft t.Nodes[q].Text p; omega) ⟨es2, c2, _, hM2, hG.put, fun r => ?_, hs.sub ⟨rfl, rfl, rfl, rfl, rfl, rfl, rfl, rfl, trivial⟩⟩
                  have h1 := hg r
                  rw [zm4 hp] at h1
                  rw [zpw]
                  by_cases hr2 : ((Utf8.decode t.Nodes[q].Text p).1 : Int) = r
                  · subst hr2; rw [if_pos rfl]; rw [List.count_cons_self] at h1; show (igetM m _).getD 0 - 1 + _ = _ ∧ _; omega
                  · rw [if_neg hr2]; rw [List.count_cons_of_ne hr2] at h1; exact h1
                · clear hs; (try clear a w); intro a w hs
                  refine sy hs (zan rfl rfl) fun _ _ hs => ?_
                  refine za1 ?_
                  refine hK43 _ _ ?_; clear hK43
                  refine zc0 fun K47 hK47 => ?_
                  refine zo6 hs rfl ?_
                  refine ze8 ?_
                  refine hB42 _ _ ?_
                  refine ⟨es, c, m, hM, hG, fun r => ?_, hs.subs ⟨rfl, rfl, rfl, rfl, rfl, rfl, rfl, trivial⟩ (.cons _ (.refl _))⟩
                  have h1 := (hg r).1
                  rw [zqs (by omega)] at h1
                  simpa using h1
            · clear hs hM hG hg; obtain ⟨es, c, m, hM, hG, hg, hs⟩ := hI
              refine za5 ?_
              refine sy hs (za9 rfl) fun _ _ hs => ?_
              refine sy hs (zga (m := ((q + 1 : Nat) : Int)) rfl rfl (zki (by omega))) fun _ _ hs => ?_
              refine sy hs (zb2 rfl) fun _ _ hs => ?_
              refine za1 ?_
              exact hK (q + 1) _ _ (by omega) ⟨hql, es, c, m, hM, hG, hg, hs.sub ⟨rfl, rfl, rfl, rfl, rfl, rfl, rfl, trivial⟩⟩
          · have hql : ¬ q < t.Nodes.length := by simpa using hlt2
            obtain rfl : q = t.Nodes.length := by omega
            rw [List.take_of_length_le (by simp)] at hs
            have hz : ∀ r,(igetM m r).getD 0 + (sumK r (t.Nodes.map kt) : Int) = (tokC r l : Int) := fun r => by have := hg r; rw [List.take_of_length_le (by simp)] at this; exact this
            refine ze8 ?_
            refine hB34 _ _ ?_
            refine hK32 _ _ ?_; clear hK32
            refine zc0 fun K48 hK48 => ?_
            refine zc0 fun K49 hK49 => ?_
            refine za5 ?_
            refine sy hs (za9 rfl) fun _ _ hs => ?_
            refine zss hs rfl Tryz.underlying40 (.head _) fun b8 _ _ hs => ?_
            refine za1 ?_
            refine hK49 _ _ ?_; clear hK49
            refine zas fun Qe50 hB50 hO50 => ?_
            refine zeu (fun (seen : Array Nat) a w => St 133 w0 f3 (.blk b8 (.mapIter (some b5) c seen c) :: .blk b5 (.map es c) :: .blk b3 (.cells #[va] 30 (0,0)) :: L) [(2, .bool false),(6, .int .i64 (tokO l : Int)),(10, .int .i64 (elK (t.Nodes.map kt) : Int)),(98, .pointer (some ⟨b8,0, none⟩))] a w) (fun seen => (leftOf es seen).size) #[] (hs.sub ⟨rfl, rfl, rfl, rfl, trivial⟩) ?_
            clear hs; rintro seen a w hs K hK
            have hto2 := zrz l
            refine zc0 fun K51 hK51 => ?_
            refine za5 ?_
            refine zua 0 hs rfl rfl (.tail _ (.head _)) hM ?_ ?_
            · clear hs; (try clear a w); intro a w hs
              refine sy hs (zan rfl rfl) fun _ _ hs => ?_
              refine za1 ?_
              refine hK51 _ _ ?_; clear hK51
              refine zc0 fun K52 hK52 => ?_
              refine zo6 hs rfl ?_
              refine ze8 ?_
              refine hB50 _ _ ?_
              refine hK48 _ _ ?_; clear hK48
              refine zc0 fun K53 hK53 => ?_
              refine za5 ?_
              refine sy hs (za9 rfl) fun _ _ hs => ?_
              refine sy hs (za9 rfl) fun _ _ hs => ?_
              refine sy hs (zga (m := ((tokO l + 1 : Nat) : Int)) rfl rfl (zki (by omega))) fun _ _ hs => ?_
              refine sy (v := .bool true) hs (Eq.mp (congrArg (fun z => Y _ _ _ _ _ (Value.bool z)) (decide_eq_true (show ((tokO l + 1 : Nat) : Int) ≤ (elK (t.Nodes.map kt) : Int) from by have := hF.2; omega))) (zqi rfl rfl)) fun _ _ hs => ?_
              refine sy hs (za9 rfl) fun _ _ hs => ?_
              refine syg hs (zfu rfl has6 rfl (zl2 k hkn f3)) fun _ _ hs => ?_
              refine sy hs (zdf rfl rfl) fun _ _ hs => ?_
              refine sy hs (zb2 rfl) fun _ _ hs => ?_
              refine za1 ?_
              refine hK53 _ _ ?_; clear hK53
              refine zbl ?_
              refine Rt_1 hs rfl rfl ?_
              exact ⟨rfl,((hs.subL (.cons _ (.cons _ (.cons _ (.refl _))))).weak hf3).cw⟩
            · clear hs; (try clear a w); intro p hp seen2 a w hlt hcu hs; simp only [List.set] at hs
              have hgp := hz p.1
              rw [hG.get hp] at hgp
              replace hgp : p.2 + (sumK p.1 (t.Nodes.map kt) : Int) = (tokC p.1 l : Int) := hgp
              have hf1 := hF.1 p.1
              have hp0 : 0 ≤ p.2 := by omega
              have hpz : p.2 ≠ 0 → Blank p.1 := fun h => Classical.byContradiction fun hb => h (by have := hf1.2 hb; omega)
              refine sy hs (zan rfl rfl) fun _ _ hs => ?_
              refine za1 ?_
              refine hK51 _ _ ?_; clear hK51
              refine zc0 fun K54 hK54 => ?_
              refine zqc hs rfl ?_
              refine zak ?_
              refine hK54 _ _ ?_; clear hK54
              refine zas fun Qe55 hB55 hO55 => ?_
              refine zc0 fun K56 hK56 => ?_
              refine za5 ?_
              refine sy hs (y_entryI rfl (.head _) (.tail _ (.head _)) hM hcu) fun _ _ hs => ?_
              refine sy hs (zan rfl rfl) fun _ _ hs => ?_
              refine sy hs (zan rfl rfl) fun _ _ hs => ?_
              refine sy hs (zb2 rfl) fun _ _ hs => ?_
              refine sy hs (zb2 rfl) fun _ _ hs => ?_
              refine za1 ?_
              refine hK56 _ _ ?_; clear hK56
              refine zu8 (fun a w => St 133 w0 f3 (.blk b8 (.mapIter (some b5) c seen2 c) :: .blk b5 (.map es c) :: .blk b3 (.cells #[va] 30 (0,0)) :: L) [(2, .bool false),(6, .int .i64 (tokO l : Int)),(10, .int .i64 (elK (t.Nodes.map kt) : Int)),(98, .pointer (some ⟨b8,0, none⟩)),(125, .bool false)] a w) ?_ (fun a w hI => ?_)
              · refine za5 ?_
                refine sy hs (za9 rfl) fun _ _ hs => ?_
                refine sy hs (zje rfl rfl) fun _ _ hs => ?_
                refine sy hs (za9 rfl) fun _ _ hs => ?_
                first | refine St.splitP hs (t := 106) rfl (fun h1 hq => ?_) (fun h1 hq => ?_) | refine St.split hs (t := 106) rfl (fun h1 hq => ?_) (fun h1 hq => ?_)
                · clear hs; have hs := hq; clear hq
                  refine syg hs (za9 rfl) fun _ _ hs => ?_
                  refine syg hs (zje rfl rfl) fun _ _ hs => ?_
                  refine sy hs (zdf rfl rfl) fun _ _ hs => ?_
                  refine sy hs (za9 rfl) fun _ _ hs => ?_
                  first | refine St.splitP hs (t := 110) rfl (fun h2 hq => ?_) (fun h2 hq => ?_) | refine St.split hs (t := 110) rfl (fun h2 hq => ?_) (fun h2 hq => ?_)
                  · clear hs; have hs := hq; clear hq
                    refine syg hs (za9 rfl) fun _ _ hs => ?_
                    refine syg hs (zje rfl rfl) fun _ _ hs => ?_
                    refine sy hs (zdf rfl rfl) fun _ _ hs => ?_
                    refine sy hs (za9 rfl) fun _ _ hs => ?_
                    first | refine St.splitP hs (t := 114) rfl (fun h3 hq => ?_) (fun h3 hq => ?_) | refine St.split hs (t := 114) rfl (fun h3 hq => ?_) (fun h3 hq => ?_)
                    · clear hs; have hs := hq; clear hq
                      refine syg hs (za9 rfl) fun _ _ hs => ?_
                      refine syg hs (zje rfl rfl) fun _ _ hs => ?_
                      refine sy hs (zdf rfl rfl) fun _ _ hs => ?_
                      refine sy hs (za9 rfl) fun _ _ hs => ?_
                      first | refine St.splitP hs (t := 118) rfl (fun h4 hq => ?_) (fun h4 hq => ?_) | refine St.split hs (t := 118) rfl (fun h4 hq => ?_) (fun h4 hq => ?_)
                      · clear hs; have hs := hq; clear hq
                        refine syg hs (za9 rfl) fun _ _ hs => ?_
                        refine syg hs (zje rfl rfl) fun _ _ hs => ?_
                        refine sy hs (zdf rfl rfl) fun _ _ hs => ?_
                        refine sy hs (za9 rfl) fun _ _ hs => ?_
                        first | refine St.splitP hs (t := 122) rfl (fun h5 hq => ?_) (fun h5 hq => ?_) | refine St.split hs (t := 122) rfl (fun h5 hq => ?_) (fun h5 hq => ?_)
                        · clear hs; have hs := hq; clear hq
                          exact absurd (hpz h1) (by unfold Blank; simp [h2, h3, h4, h5])
                        · clear hs; have hs := hq; clear hq
                          refine syg hs (za9 rfl) fun _ _ hs => ?_
                          refine syg hs (zhw rfl rfl) fun _ _ hs => ?_
                          refine sy hs (zdf rfl rfl) fun _ _ hs => ?_
                          refine za1 ?_
                          rw [decide_eq_false (show ¬ p.2 < 0 by omega)] at hs
                          exact hs.sub ⟨rfl, rfl, rfl, rfl, rfl, trivial⟩
                      · clear hs; have hs := hq; clear hq
                        refine sno hs fun _ _ hs => ?_
                        refine sno hs fun _ _ hs => ?_
                        refine sy hs (zdf rfl rfl) fun _ _ hs => ?_
                        refine sy hs (za9 rfl) fun _ _ hs => ?_
                        refine syg hs (za9 rfl) fun _ _ hs => ?_
                        refine syg hs (zhw rfl rfl) fun _ _ hs => ?_
                        refine sy hs (zdf rfl rfl) fun _ _ hs => ?_
                        refine za1 ?_
                        rw [decide_eq_false (show ¬ p.2 < 0 by omega)] at hs
                        exact hs.sub ⟨rfl, rfl, rfl, rfl, rfl, trivial⟩
                    · clear hs; have hs := hq; clear hq
                      refine sno hs fun _ _ hs => ?_
                      refine sno hs fun _ _ hs => ?_
                      refine sy hs (zdf rfl rfl) fun _ _ hs => ?_
                      refine sy hs (za9 rfl) fun _ _ hs => ?_
                      refine sno hs fun _ _ hs => ?_
                      refine sno hs fun _ _ hs => ?_
                      refine sy hs (zdf rfl rfl) fun _ _ hs => ?_
                      refine sy hs (za9 rfl) fun _ _ hs => ?_
                      refine syg hs (za9 rfl) fun _ _ hs => ?_
                      refine syg hs (zhw rfl rfl) fun _ _ hs => ?_
                      refine sy hs (zdf rfl rfl) fun _ _ hs => ?_
                      refine za1 ?_
                      rw [decide_eq_false (show ¬ p.2 < 0 by omega)] at hs
                      exact hs.sub ⟨rfl, rfl, rfl, rfl, rfl, trivial⟩
                  · clear hs; have hs := hq; clear hq
                    refine sno hs fun _ _ hs => ?_
                    refine sno hs fun _ _ hs => ?_
                    refine sy hs (zdf rfl rfl) fun _ _ hs => ?_
                    refine sy hs (za9 rfl) fun _ _ hs => ?_
                    refine sno hs fun _ _ hs => ?_
                    refine sno hs fun _ _ hs => ?_
                    refine sy hs (zdf rfl rfl) fun _ _ hs => ?_
                    refine sy hs (za9 rfl) fun _ _ hs => ?_
                    refine sno hs fun _ _ hs => ?_
                    refine sno hs fun _ _ hs => ?_
                    refine sy hs (zdf rfl rfl) fun _ _ hs => ?_
                    refine sy hs (za9 rfl) fun _ _ hs => ?_
                    refine syg hs (za9 rfl) fun _ _ hs => ?_
                    refine syg hs (zhw rfl rfl) fun _ _ hs => ?_
                    refine sy hs (zdf rfl rfl) fun _ _ hs => ?_
                    refine za1 ?_
                    rw [decide_eq_false (show ¬ p.2 < 0 by omega)] at hs
                    exact hs.sub ⟨rfl, rfl, rfl, rfl, rfl, trivial⟩
                · clear hs; have hs := hq; clear hq
                  refine sno hs fun _ _ hs => ?_
                  refine sno hs fun _ _ hs => ?_
                  refine sy hs (zdf rfl rfl) fun _ _ hs => ?_
                  refine sy hs (za9 rfl) fun _ _ hs => ?_
                  refine sno hs fun _ _ hs => ?_
                  refine sno hs fun _ _ hs => ?_
                  refine sy hs (zdf rfl rfl) fun _ _ hs => ?_
                  refine sy hs (za9 rfl) fun _ _ hs => ?_
                  refine sno hs fun _ _ hs => ?_
                  refine sno hs fun _ _ hs => ?_
                  refine sy hs (zdf rfl rfl) fun _ _ hs => ?_
                  refine sy hs (za9 rfl) fun _ _ hs => ?_
                  refine sno hs fun _ _ hs => ?_
                  refine sno hs fun _ _ hs => ?_
                  refine sy hs (zdf rfl rfl) fun _ _ hs => ?_
                  refine sy hs (za9 rfl) fun _ _ hs => ?_
                  refine syg hs (za9 rfl) fun _ _ hs => ?_
                  refine syg hs (zhw rfl rfl) fun _ _ hs => ?_
                  refine sy hs (zdf rfl rfl) fun _ _ hs => ?_
                  refine za1 ?_
                  rw [decide_eq_false (show ¬ p.2 < 0 by omega)] at hs
                  exact hs.sub ⟨rfl, rfl, rfl, rfl, rfl, trivial⟩
              · clear hs; have hs := hI; clear hI
                refine zo6 hs rfl ?_
                refine zak ?_
                exact hK seen2 _ _ hlt (hs.sub ⟨rfl, rfl, rfl, rfl, trivial⟩)
end Go.Proofs.YtdjjeahiomackaaGreat
