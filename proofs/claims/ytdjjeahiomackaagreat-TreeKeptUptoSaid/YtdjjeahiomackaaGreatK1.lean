/-
  Walks and laws of this seat.
-/
import Derived.Test.YtdjjeahiomackaaGreatKa
import Derived.Test.YtdjjeahiomackaaGreatRows
namespace Go.Proofs.YtdjjeahiomackaaGreat
set_option linter.unusedVariables false
set_option linter.unusedSimpArgs false
set_option linter.unusedSectionVars false
open Go.RowKit Go.Sl Go.V
structure Made (f0 f : Fz) (l : List za4) (rows : List (List Value)) (ps : List (Value × List (List Value))) : Prop where
  own : ∀ p ∈ ps, OwnR f0 f p.1 2 38 p.2
  apart : ps.Pairwise fun p q => ∀ b, p.1.ownBlock = some b → q.1.ownBlock ≠ some b
  len : rows.length = l.length
  at_ : ∀ (j : Nat) x p, l[j]? = some x → ps[j]? = some p → rows[j]? = some (tokRow x p.1) ∧ RW zb4 f p.2 x.Attrs
theorem Made.le {f0 f f' : Fz} {l : List za4} {rows : List (List Value)} {ps : List (Value × List (List Value))} (h : Made f0 f l rows ps) (hf : Fz.le f f') : Made f0 f' l rows ps :=
  ⟨fun p hp => (h.own p hp).le hf, h.apart, h.len, fun j x p h1 h2 => ⟨(h.at_ j x p h1 h2).1,(h.at_ j x p h1 h2).2.le hf⟩⟩
theorem Made.data {f0 f : Fz} {l : List za4} {rows : List (List Value)} {ps : List (Value × List (List Value))} (h : Made f0 f l rows ps) (hl : ps.length = l.length) : RW zag f rows l := by
  refine RW.ofGet h.len fun j r x hr hx => ?_
  have hj := (List.getElem?_eq_some_iff.1 hx).1
  have hp : ps[j]? = some ps[j] := List.getElem?_eq_getElem (by omega)
  obtain ⟨h1, h2⟩ := h.at_ j x _ hx hp
  rw [hr] at h1
  cases h1
  exact ⟨_, rfl, _,(h.own _ (List.getElem_mem _)).rd, h2⟩
theorem Made.add {f0 f f' : Fz} {l : List za4} {rows : List (List Value)} {ps : List (Value × List (List Value))} {x : za4} {v : Value} {rs : List (List Value)} (h : Made f0 f l rows ps) (h0 : Fz.le f0 f) (hf : Fz.le f f') (hx : l[ps.length]? = some x) (hO : OwnR f f' v 2 38 rs) (hW : RW zb4 f' rs x.Attrs) {rows' : List (List Value)} (hl : rows'.length = rows.length) (hr : rows'[ps.length]? = some (tokRow x v)) (hs : ∀ j, j < ps.length → rows'[j]? = rows[j]?) : Made f0 f' l rows' (ps ++ [(v, rs)]) := by
  refine ⟨fun p hp => ?_, List.pairwise_append.2 ⟨h.apart, List.pairwise_singleton _ _, fun p hp q hq b hb hb' => ?_⟩, hl.trans h.len, fun j y p hy hp => ?_⟩
  · rcases List.mem_append.1 hp with hp | hp
    · exact (h.own p hp).le hf
    · rw [List.mem_singleton.1 hp]; exact hO.base h0
  · rw [List.mem_singleton.1 hq] at hb'
    obtain ⟨_, o, ho⟩ := (h.own p hp).blk hb
    have := (hO.blk hb').1
    rw [this] at ho; cases ho
  · by_cases hj : j < ps.length
    · rw [List.getElem?_append_left hj] at hp
      obtain ⟨g1, g2⟩ := h.at_ j y p hy hp
      exact ⟨(hs j hj).trans g1, g2.le hf⟩
    · have hlt := (List.getElem?_eq_some_iff.1 hp).1
      rw [List.length_append, List.length_singleton] at hlt
      obtain rfl : j = ps.length := by omega
      rw [List.getElem?_append_right (Nat.le_refl _), Nat.sub_self] at hp
      cases hp
      rw [hx] at hy
      cases hy
      exact ⟨hr, hW⟩
abbrev psL (ps : List (Value × List (List Value))) : List Ent := ps.map fun p => .row p.1 38 2 p.2
set_option maxRecDepth 20000 in
set_option maxHeartbeats 16000000 in
theorem zs4 {n k : Nat} {f : Fz} {v00 : Value} {p0 l : List za4} (h0 : RS zag f v00 p0) (hl : l = p0.take 100) (hat : ∀ x ∈ l, x.Attrs.length ≤ 1000000) {b : Bool} (hwh : zhr k (l.map ofK) = some b) (hkn : zhs k = some true)
    (hb : b = true → (∀ x ∈ l, zbk k (x.Attrs.map ofA) (x.Attrs.map ofA) = some true) ∧ ∃ t e c, zgm n l = some (t, e) ∧ t.Nodes.length ≤ 1000000 ∧ (∀ x ∈ t.Nodes, x.Attrs.length ≤ 1000000) ∧ ziw n t = some c ∧ (e = 0 → zfc k (ofT t) (ofT c) = some true)) : Gives Tryz.prog 3 [v00] f (.bool true) := by
  intro w0 L w hC
  obtain ⟨rows0, hR0, hW0⟩ := h0
  refine enter Tryz.func3 rfl Tryz.ntmps3 (by simp) hC fun a hs => ?_
  refine zbt fun K1 hK1 => ?_
  refine za5 ?_
  refine sy hs (zb2 rfl) fun _ _ hs => ?_
  refine za1 ?_
  refine hK1 _ _ ?_; clear hK1
  refine W_cut (fun a w => ∃ v, RS zag f v l ∧ St 108 w0 f L [(0, v),(2, .bool false)] a w) ?_ (fun a w hI => ?_)
  · refine zbt fun K3 hK3 => ?_
    refine za5 ?_
    refine sy hs (za9 rfl) fun _ _ hs => ?_
    refine sy hs (zdx hR0 hW0 rfl Tryz.underlying22) fun _ _ hs => ?_
    refine sy hs (zlx rfl rfl) fun _ _ hs => ?_
    refine za1 ?_
    refine hK3 _ _ ?_; clear hK3
    first | refine znx hs rfl (fun hgt => ?_) (fun hgt => ?_) | refine zai hs rfl (fun hgt => ?_) (fun hgt => ?_)
    · refine za5 ?_
      refine sy hs (za9 rfl) fun _ _ hs => ?_
      refine sy hs (zia (lo := 0) (hi := 100) rfl Tryz.underlying22 ti27 (.inl ⟨rfl, rfl⟩) (.inr ⟨_, rfl, rfl⟩) (by omega) (by have := hW0.len; omega) hR0) fun _ _ hs => ?_
      refine sy hs (zb2 rfl) fun _ _ hs => ?_
      refine za1 ?_
      refine ⟨_, ⟨rows0.take 100, ?_, ?_⟩, hs.sub ⟨rfl, rfl, trivial⟩⟩
      · have := Rd.cut (lo := 0) (hi := 100) hR0 (by omega) (by have := hW0.len; omega)
        rw [List.drop_zero] at this; exact this
      · rw [hl]; exact hW0.take 100
    · refine zal ?_
      exact ⟨_, ⟨rows0, hR0, by rw [hl, List.take_of_length_le (by omega)]; exact hW0⟩, hs.sub ⟨rfl, rfl, trivial⟩⟩
  · clear hR0 hW0 rows0 hC
    obtain ⟨v, ⟨rows0, hR0, hW0⟩, hs⟩ := hI
    have hl100 : l.length ≤ 100 := by rw [hl, List.length_take]; omega
    have hr0 := hW0.len
    refine zbt fun K4 hK4 => ?_
    refine zbt fun K5 hK5 => ?_
    refine za5 ?_
    refine sy hs (za9 rfl) fun _ _ hs => ?_
    refine sy hs (zfz rfl has5 rfl (zri k hwh ⟨rows0, hR0, hW0⟩)) fun _ _ hs => ?_
    refine sy hs (zke rfl) fun _ _ hs => ?_
    refine za1 ?_
    refine hK5 _ _ ?_; clear hK5
    first | refine znx hs rfl (fun hwq => ?_) (fun hwq => ?_) | refine zai hs rfl (fun hwq => ?_) (fun hwq => ?_)
    · refine zbt fun K6 hK6 => ?_
      refine za5 ?_
      refine sy hs (zfz rfl has6 rfl (zl3 k hkn f)) fun _ _ hs => ?_
      refine sy hs (zb2 rfl) fun _ _ hs => ?_
      refine za1 ?_
      refine hK6 _ _ ?_; clear hK6
      refine zbl ?_
      refine Rt_1 hs rfl rfl ?_
      exact ⟨rfl, hs.cw⟩
    · obtain rfl : b = true := by simpa using hwq
      obtain ⟨hsm, t, e, c, hbu, htl, hta, hco, hst⟩ := hb rfl
      refine zal ?_
      refine hK4 _ _ ?_; clear hK4
      refine zbt fun K7 hK7 => ?_
      refine za5 ?_
      refine sy hs (za9 rfl) fun _ _ hs => ?_
      refine sy hs (zdx hR0 hW0 rfl Tryz.underlying22) fun _ _ hs => ?_
      refine zq5 hs rfl rfl (by simp) Tryz.underlying22 ti27 ⟨by decide, rfl⟩ (AllC.row (r := [.int .i64 0, .string ByteArray.empty, .string ByteArray.empty, .slice none 0 0, .bool false]) ⟨rfl, rfl, rfl, rfl, rfl, trivial⟩ rfl) ⟨by simp; omega, by simp; omega⟩ fun v3 _ _ hs => ?_
      refine sy hs (zb2 rfl) fun _ _ hs => ?_
      refine za1 ?_
      refine hK7 _ _ ?_; clear hK7
      refine zbt fun K8 hK8 => ?_
      refine zbt fun K9 hK9 => ?_
      refine za5 ?_
      refine sy hs (zb2 rfl) fun _ _ hs => ?_
      refine za1 ?_
      refine hK9 _ _ ?_; clear hK9
      refine zaq fun Qe10 hB10 hO10 => ?_
      refine zeq (fun (j : Nat) a w => j ≤ l.length ∧ ∃ f1 rows ps, ps.length = j ∧ Fz.le f f1 ∧ Made f f1 l rows ps ∧ St 108 w0 f1 (.row v3 27 5 rows :: L) [(0, v),(2, .bool false),(3, v3),(4, .int .i64 (j : Int))] a w) (fun j => l.length - j) 0
        ⟨Nat.zero_le _, f, _,[], rfl, .refl f, ⟨fun p hp => (by cases hp), List.Pairwise.nil, by simp, fun j x p _ h => (by simp at h)⟩, hs.sub ⟨rfl, rfl, rfl, rfl, trivial⟩⟩ ?_
      clear hs; rintro j a w ⟨hj, f1, rows, ps, hpj, hf1, hM, hs⟩ K hK
      have hR1 := hR0.le hf1
      have hrl := hM.len
      refine zbt fun K11 hK11 => ?_
      refine zbt fun K12 hK12 => ?_
      refine za5 ?_
      refine sy hs (za9 rfl) fun _ _ hs => ?_
      refine sy hs (za9 rfl) fun _ _ hs => ?_
      refine sy hs (zdx hR0 hW0 rfl Tryz.underlying22) fun _ _ hs => ?_
      refine sy hs (zib rfl rfl) fun _ _ hs => ?_
      refine za1 ?_
      refine hK12 _ _ ?_; clear hK12
      first | refine znx hs rfl (fun hlt => ?_) (fun hlt => ?_) | refine zai hs rfl (fun hlt => ?_) (fun hlt => ?_)
      · have hjl : j < l.length := by simpa using hlt
        have hj0 : j < rows0.length := by omega
        have hj3 : j < rows.length := by omega
        have hx : l[j]? = some l[j] := List.getElem?_eq_getElem hjl
        have hr : rows0[j]? = some rows0[j] := List.getElem?_eq_getElem hj0
        obtain ⟨vx, hre, rx, hRx, hWx⟩ := hW0.at hr hx
        have hax := hat _ (List.getElem_mem hjl)
        rw [hre] at hr
        have hr3 : rows[j]? = some rows[j] := List.getElem?_eq_getElem hj3
        refine zal ?_
        refine hK11 _ _ ?_; clear hK11
        refine zbt fun K13 hK13 => ?_
        refine zaq fun Qe14 hB14 hO14 => ?_
        refine zbt fun K15 hK15 => ?_
        refine za5 ?_
        refine sy hs (za9 rfl) fun _ _ hs => ?_
        refine sy hs (za9 rfl) fun _ _ hs => ?_
        refine sy hs (za9 rfl) fun _ _ hs => ?_
        refine sy hs (za9 rfl) fun _ _ hs => ?_
        refine sy hs (zac hR1 rfl rfl rfl hj0 Tryz.underlying22 ti27) fun _ _ hs => ?_
        refine sy hs (y_ldRow rfl Tryz.underlying27 rfl ti27 (Rd.up hR1) hr) fun _ _ hs => ?_
        refine sy hs (zac (Rd.st hs (.head _)) rfl rfl rfl hj3 Tryz.underlying22 ti27) fun _ _ hs => ?_
        refine zhb (i := 0) (m := j) (r' := tokRow l[j] vx) hs rfl rfl rfl hr3 ti27 (AllC.row (r := tokRow l[j] vx) ⟨rfl, rfl, rfl, hRx.one, rfl, trivial⟩ rfl) (.free rfl) fun _ _ hs => ?_
        refine za1 ?_
        refine hK15 _ _ ?_; clear hK15
        have hr4 : (rows.set j (tokRow l[j] vx))[j]? = some (tokRow l[j] vx) := List.getElem?_set_self hj3
        have hj4 : j < (rows.set j (tokRow l[j] vx)).length := by rw [List.length_set]; exact hj3
        refine za5 ?_
        refine sy hs (za9 rfl) fun _ _ hs => ?_
        refine sy hs (za9 rfl) fun _ _ hs => ?_
        refine zo1 hs Tryz.underlying25 ti38 fun tv _ _ hs => ?_
        refine sy hs (za9 rfl) fun _ _ hs => ?_
        refine sy hs (za9 rfl) fun _ _ hs => ?_
        refine sy hs (zac hR1 rfl rfl rfl hj0 Tryz.underlying22 ti27) fun _ _ hs => ?_
        refine sy hs (zc9 (i := j) (j := 0) hR1 rfl hj0 (FO.of (off := 3) Tryz.underlying27 rfl rfl ti25 (by decide))) fun _ _ hs => ?_
        refine sy hs (zdm (i := j) (j := 3) (Rd.up hR1) rfl hr rfl Tryz.underlying25 rfl) fun _ _ hs => ?_
        refine zcn (i := 0) hs rfl rfl rfl (Rd.up (hRx.le hf1)) Tryz.underlying25 ti38 ⟨by decide, rfl⟩ ⟨by have := hWx.len; unfold maxLen; simp; omega, by have := hWx.len; simp; omega⟩ (.free rfl) (by decide) fun v4 _ _ hs => ?_
        refine sy hs (zac (Rd.st hs (.tail _ (.head _))) rfl rfl rfl hj4 Tryz.underlying22 ti27) fun _ _ hs => ?_
        refine sy hs (zc9 (i := j) (j := 0) (Rd.st hs (.tail _ (.head _))) rfl hj4 (FO.of (off := 3) Tryz.underlying27 rfl rfl ti25 (by decide))) fun _ _ hs => ?_
        refine zf6 (i := 1) (m := j) (j := 3) hs rfl rfl rfl hr4 (by decide) ti25 (hs.one (i := 0) rfl) (.free rfl) fun _ _ hs => ?_
        refine za1 ?_
        refine hK13 _ _ ?_; clear hK13
        refine za5 ?_
        refine sy hs (za9 rfl) fun _ _ hs => ?_
        refine sy hs (zgh rfl rfl (zom (by omega))) fun _ _ hs => ?_
        refine sy hs (zb2 rfl) fun _ _ hs => ?_
        refine za1 ?_
        obtain ⟨f2, hf2, hs2, hO⟩ := St.frzR 0 hs rfl
        refine hK (j + 1) _ _ (by omega) ⟨hjl, f2, _, ps ++ [(v4, rx)], by rw [List.length_append, hpj]; rfl, hf1.trans hf2, hM.add hf1 hf2 (by rw [hpj]; exact hx) hO (hWx.le (hf1.trans hf2)) (by simp) (by rw [hpj]; exact List.getElem?_set_self (by simpa using hj3)) (fun m hm => by rw [List.getElem?_set_ne (by omega), List.getElem?_set_ne (by omega)]), hs2.sub ⟨rfl, rfl, rfl, rfl, trivial⟩⟩
      · have hjl : ¬ j < l.length := by simpa using hlt
        have hps : ps.length = l.length := by omega
        obtain ⟨f2, hf2, hs2, hO3⟩ := St.frzR 0 hs rfl
        clear hs; have hs := hs2; clear hs2
        replace hs : St _ _ f2 L _ _ _ := hs
        have hM2 := hM.le hf2
        have hT : RS zag f2 v3 l := ⟨rows, hO3.rd, hM2.data hps⟩
        refine ze7 ?_
        refine hB10 _ _ ?_
        refine hK8 _ _ ?_; clear hK8
        refine zbt fun K16 hK16 => ?_
        refine za5 ?_
        refine sy hs (za9 rfl) fun _ _ hs => ?_
        refine zh3 hs rfl has7 rfl (zjo n (f0 := f2) (.refl f2) hT hbu) ?_; clear hs; (try clear a w)
        rintro _ f3 _ a w hf3 ⟨va, ra, rfl, rfl, hWa⟩ hs
        refine sy hs (za9 rfl) fun _ _ hs => ?_
        refine sy hs (zb0 (vs := [.agg #[va], .int .i64 e]) rfl rfl) fun _ _ hs => ?_
        refine sy hs (zb0 (vs := [.agg #[va], .int .i64 e]) rfl rfl) fun _ _ hs => ?_
        refine zcf hs ti30 (.free rfl) (by decide) fun b5 _ _ hs => ?_
        refine zb1 (i := 0) hs rfl rfl rfl ti30 ⟨rfl, rfl⟩ (AllC.arr (r := [va]) ⟨hs.one (i := 1) rfl, trivial⟩) (.free rfl) fun _ _ hs => ?_
        obtain ⟨f4, hf4, hs2, hRa⟩ := hs.frzY 1 rfl hf3
        clear hs; have hs := hs2; clear hs2
        replace hs : St _ _ f4 (.blk b5 (.cells #[va] 30 (0,0)) :: L) _ _ _ := hs
        have hA : zdk.R (fy f2 f4) [va] t := ⟨va, rfl, ra, hRa, hWa.le (fyl hf4)⟩
        have hf24 := hf3.trans hf4
        refine sy hs (zb2 rfl) fun _ _ hs => ?_
        refine za1 ?_
        refine hK16 _ _ ?_; clear hK16
        refine zbt fun K17 hK17 => ?_
        refine za5 ?_
        refine sy hs (za9 rfl) fun _ _ hs => ?_
        refine zh3 hs rfl has7 rfl (zjo n (f0 := f4) (.refl f4) (hT.le hf24) hbu) ?_; clear hs; (try clear a w)
        rintro _ f5 _ a w hf5 ⟨vb, rb, rfl, rfl, hWb⟩ hs
        refine sy hs (za9 rfl) fun _ _ hs => ?_
        refine sy hs (zb0 (vs := [.agg #[vb], .int .i64 e]) rfl rfl) fun _ _ hs => ?_
        refine sy hs (zb0 (vs := [.agg #[vb], .int .i64 e]) rfl rfl) fun _ _ hs => ?_
        refine zcf hs ti30 (.free rfl) (by decide) fun b7 _ _ hs => ?_
        refine zb1 (i := 0) hs rfl rfl rfl ti30 ⟨rfl, rfl⟩ (AllC.arr (r := [vb]) ⟨hs.one (i := 1) rfl, trivial⟩) (.free rfl) fun _ _ hs => ?_
        replace hs : St _ _ _ ([.blk b7 (.cells #[vb] 30 (0,0)), .row vb 42 9 rb, .blk b5 (.cells #[va] 30 (0,0))] ++ L) _ _ _ := hs
        obtain ⟨D, hD1, hD2, hD3⟩ := letall hs.cw hf5
        have hown : ∀ p ∈ ps, OwnR f f4 p.1 2 38 p.2 := fun p hp => (hM2.own p hp).le hf24
        obtain ⟨g, hg1, hg2, hg3⟩ := letgoK (hD2.perm (perm3' _ _ _)) hown hM.apart
        have hfg : Fz.le f g := fun x o hx => hg2 x o ((hf1.trans (hf2.trans hf24)) x o hx) fun p hp hb => by
          rw [((hown p hp).blk hb).1] at hx; cases hx
        have hag : Fz.le (fy f2 f4) g := fun x o hx => hg2 x o (zhe.1 hx).2.1 fun p hp hb => by
          obtain ⟨_, o', ho⟩ := (hM2.own p hp).blk hb
          rw [(zhe.1 hx).1] at ho; cases ho
        have hR3 : Rd g [] v3 5 rows := by
          have h3 : OwnR f1 g v3 5 27 rows := by
            obtain ⟨h0, h | ⟨x, c, cur, h1, h2, h3, h4, h5, h6, h7⟩⟩ := hO3
            · exact ⟨h0, .inl h⟩
            · exact ⟨h0, .inr ⟨x, c, cur, h1, h2, h3, h4, hg2 x _ (hf24 _ _ h5) (fun p hp hb => by
                obtain ⟨_, o', ho⟩ := (hM.own p hp).blk hb
                rw [h6] at ho; cases ho), h6, h7⟩⟩
          exact h3.rd
        have hpm : (psL ps ++ (([.blk b7 (.cells #[vb] 30 (0,0)), .row vb 42 9 rb, .blk b5 (.cells #[va] 30 (0,0))] : List Ent) ++ (D ++ L))).Perm (.blk b7 (.cells #[vb] 30 (0,0)) :: .row vb 42 9 rb :: .blk b5 (.cells #[va] 30 (0,0)) :: (D ++ (psL ps ++ L))) := by
          have := perm3' (psL ps) (([.blk b7 (.cells #[vb] 30 (0,0)), .row vb 42 9 rb, .blk b5 (.cells #[va] 30 (0,0))] : List Ent) ++ D) L
          simpa [List.append_assoc] using this
        replace hs : St _ _ g (.blk b7 (.cells #[vb] 30 (0,0)) :: .row vb 42 9 rb :: .blk b5 (.cells #[va] 30 (0,0)) :: (D ++ (psL ps ++ L))) _ _ _ := ⟨hs.ev, hg3.perm hpm⟩
        clear hg3 hD2 hpm
        refine sy hs (zb2 rfl) fun _ _ hs => ?_
        refine za1 ?_
        refine hK17 _ _ ?_; clear hK17
        refine zbt fun K18 hK18 => ?_
        refine za5 ?_
        refine sy hs (zl8 rfl Tryz.underlying30 rfl ti30 (.tail _ (.tail _ (.head _))) rfl) fun _ _ hs => ?_
        refine zh3 hs rfl has8 rfl (zqu n (zdk.mono hA hag) hco) ?_; clear hs; (try clear a w)
        rintro _ f6 _ a w hf6 ⟨u6, rfl, rfl, hu6⟩ hs
        obtain ⟨vc, rfl, rc, hRc, hWc⟩ := hu6
        refine zcf hs ti30 (.free rfl) (by decide) fun b9 _ _ hs => ?_
        refine zb1 (i := 0) hs rfl rfl rfl ti30 ⟨rfl, rfl⟩ (AllC.arr (r := [vc]) ⟨hRc.one, trivial⟩) (.free rfl) fun _ _ hs => ?_
        refine za1 ?_
        refine hK18 _ _ ?_; clear hK18
        replace hs : St _ _ f6 (.blk b9 (.cells #[vc] 30 (0,0)) :: .blk b7 (.cells #[vb] 30 (0,0)) :: .row vb 42 9 rb :: .blk b5 (.cells #[va] 30 (0,0)) :: (D ++ (psL ps ++ L))) _ _ _ := hs
        refine zbt fun K19 hK19 => ?_
        refine za5 ?_
        refine sy hs (zl8 rfl Tryz.underlying30 rfl ti30 (.tail _ (.head _)) rfl) fun _ _ hs => ?_
        have hp2 : (Ent.blk b9 (.cells #[vc] 30 (0,0)) :: .blk b7 (.cells #[vb] 30 (0,0)) :: .row vb 42 9 rb :: .blk b5 (.cells #[va] 30 (0,0)) :: (D ++ (psL ps ++ L))).Perm ((.row vb 42 9 rb :: D) ++ (.blk b9 (.cells #[vc] 30 (0,0)) :: .blk b7 (.cells #[vb] 30 (0,0)) :: .blk b5 (.cells #[va] 30 (0,0)) :: (psL ps ++ L))) := by
          refine (List.perm_middle (l₁ := [.blk b9 (.cells #[vc] 30 (0,0)), .blk b7 (.cells #[vb] 30 (0,0))]) (a := Ent.row vb 42 9 rb)).trans (.cons _ ?_)
          exact perm3' [.blk b9 (.cells #[vc] 30 (0,0)), .blk b7 (.cells #[vb] 30 (0,0)), .blk b5 (.cells #[va] 30 (0,0))] D _
        replace hs : St _ _ _ _ _ _ _ := ⟨hs.ev, hs.cw.perm hp2⟩
        refine zdt (Lr := .row vb 42 9 rb :: D) (Lf := .blk b9 (.cells #[vc] 30 (0,0)) :: .blk b7 (.cells #[vb] 30 (0,0)) :: .blk b5 (.cells #[va] 30 (0,0)) :: (psL ps ++ L)) hs rfl has9 rfl rfl (ztk hD1 (zug hD3 hWb hta) (by rw [hWb.len]; exact htl)) (.free rfl) (by decide) ?_; clear hs; (try clear a w)
        rintro _ f7 _ a w _ ⟨rfl, rfl, rfl⟩ hs
        clear hp2
        replace hs : St _ _ f7 (.blk b9 (.cells #[vc] 30 (0,0)) :: .blk b7 (.cells #[vb] 30 (0,0)) :: .blk b5 (.cells #[va] 30 (0,0)) :: (psL ps ++ L)) _ _ _ := hs
        have hf7 := hfg.trans hf6
        have hR3 := hR3.le hf6
        have hR1 := hR0.le hf7
        have hrl := hM.len
        refine za1 ?_
        refine hK19 _ _ ?_; clear hK19
        refine zbt fun K20 hK20 => ?_
        refine zbt fun K21 hK21 => ?_
        refine za5 ?_
        refine sy hs (zb2 rfl) fun _ _ hs => ?_
        refine za1 ?_
        refine hK21 _ _ ?_; clear hK21
        refine zaq fun Qe22 hB22 hO22 => ?_
        refine zeq (fun (j : Nat) a w => j ≤ l.length ∧ St 108 w0 f7 (.blk b9 (.cells #[vc] 30 (0,0)) :: .blk b7 (.cells #[vb] 30 (0,0)) :: .blk b5 (.cells #[va] 30 (0,0)) :: (psL (ps.drop j) ++ L)) [(0, v),(2, .bool false),(3, v3),(5, .pointer (some ⟨b5,0, none⟩)),(6, .int .i64 e),(9, .pointer (some ⟨b9,0, none⟩)),(10, .int .i64 (j : Int))] a w) (fun j => l.length - j) 0
          ⟨Nat.zero_le _, hs.sub ⟨rfl, rfl, rfl, rfl, rfl, rfl, rfl, trivial⟩⟩ ?_
        clear hs; rintro j a w ⟨hj, hs⟩ K hK
        refine zbt fun K23 hK23 => ?_
        refine zbt fun K24 hK24 => ?_
        refine za5 ?_
        refine sy hs (za9 rfl) fun _ _ hs => ?_
        refine sy hs (za9 rfl) fun _ _ hs => ?_
        refine sy hs (zjm hR3 rfl Tryz.underlying22) fun _ _ hs => ?_
        refine sy hs (zib rfl rfl) fun _ _ hs => ?_
        refine za1 ?_
        refine hK24 _ _ ?_; clear hK24
        first | refine znx hs rfl (fun hlt => ?_) (fun hlt => ?_) | refine zai hs rfl (fun hlt => ?_) (fun hlt => ?_)
        · have hj3 : j < rows.length := by simpa using hlt
          have hjl : j < l.length := by omega
          have hj0 : j < rows0.length := by omega
          have hjp : j < ps.length := by omega
          have hx : l[j]? = some l[j] := List.getElem?_eq_getElem hjl
          have hr : rows0[j]? = some rows0[j] := List.getElem?_eq_getElem hj0
          obtain ⟨vx, hre, rx, hRx, hWx⟩ := hW0.at hr hx
          rw [hre] at hr
          obtain ⟨hr3, hWp⟩ := hM.at_ j l[j] ps[j] hx (List.getElem?_eq_getElem hjp)
          have hdr : ps.drop j = ps[j] :: ps.drop (j + 1) := List.drop_eq_getElem_cons hjp
          rw [hdr] at hs
          obtain ⟨⟨pv, prs⟩, hpq⟩ : ∃ p, p = ps[j] := ⟨_, rfl⟩
          rw [← hpq] at hs hr3 hWp
          replace hs : St _ _ f7 (.blk b9 (.cells #[vc] 30 (0,0)) :: .blk b7 (.cells #[vb] 30 (0,0)) :: .blk b5 (.cells #[va] 30 (0,0)) :: .row pv 38 2 prs :: (psL (ps.drop (j + 1)) ++ L)) _ _ _ := hs
          have hpl : prs.length ≤ 1000000 := by rw [hWp.len]; exact hat _ (List.getElem_mem hjl)
          refine zal ?_
          refine hK23 _ _ ?_; clear hK23
          refine zbt fun K25 hK25 => ?_
          refine zaq fun Qe26 hB26 hO26 => ?_
          refine zbt fun K27 hK27 => ?_
          refine zbt fun K28 hK28 => ?_
          refine zt2 hs mixed (by kernel_rfl) ?_; intro a he
          refine qy he (za9 rfl) fun _ he => ?_
          refine qy he (za9 rfl) fun _ he => ?_
          refine qy he (zac hR3 rfl rfl rfl hj3 Tryz.underlying22 ti27) fun _ he => ?_
          refine qy he (zc9 (i := j) (j := 0) hR3 rfl hj3 (FO.of (off := 3) Tryz.underlying27 rfl rfl ti25 (by decide))) fun _ he => ?_
          refine qy he (zdm (i := j) (j := 3) (Rd.up hR3) rfl hr3 rfl Tryz.underlying25 rfl) fun _ he => ?_
          refine qy he (za9 rfl) fun _ he => ?_
          refine qy he (za9 rfl) fun _ he => ?_
          refine qy he (zac hR1 rfl rfl rfl hj0 Tryz.underlying22 ti27) fun _ he => ?_
          refine qy he (zc9 (i := j) (j := 0) hR1 rfl hj0 (FO.of (off := 3) Tryz.underlying27 rfl rfl ti25 (by decide))) fun _ he => ?_
          refine qy he (zdm (i := j) (j := 3) (Rd.up hR1) rfl hr rfl Tryz.underlying25 rfl) fun _ he => ?_
          refine qy he (y_callL 3 rfl has10 rfl rfl (fun f' hf' hR' => zt8 k (hsm _ (List.getElem_mem hjl)) ⟨prs, hR', RW.attr hWp⟩ ⟨rx, hRx.le (hf7.trans hf'), hWx.le (hf7.trans hf')⟩)) fun _ he => ?_
          refine qy he (zke rfl) fun _ he => ?_
          refine zt4 he ?_; clear he hs; intro a w hs
          refine hK28 _ _ ?_; clear hK28
          refine zvn hs rfl ?_
          refine zal ?_
          refine hK27 _ _ ?_; clear hK27
          refine zbt fun K29 hK29 => ?_
          refine za5 ?_
          refine sy hs (zb2 rfl) fun _ _ hs => ?_
          refine za1 ?_
          refine hK29 _ _ ?_; clear hK29
          refine zaq fun Qe30 hB30 hO30 => ?_
          refine zeq (fun (q : Nat) a w => q ≤ prs.length ∧ ∃ rs, rs.length = prs.length ∧ St 108 w0 f7 (.blk b9 (.cells #[vc] 30 (0,0)) :: .blk b7 (.cells #[vb] 30 (0,0)) :: .blk b5 (.cells #[va] 30 (0,0)) :: .row pv 38 2 rs :: (psL (ps.drop (j + 1)) ++ L)) [(0, v),(2, .bool false),(3, v3),(5, .pointer (some ⟨b5,0, none⟩)),(6, .int .i64 e),(9, .pointer (some ⟨b9,0, none⟩)),(10, .int .i64 (j : Int)),(11, .int .i64 (q : Int))] a w) (fun q => prs.length - q) 0
            ⟨Nat.zero_le _, prs, rfl, hs.sub ⟨rfl, rfl, rfl, rfl, rfl, rfl, rfl, rfl, trivial⟩⟩ ?_
          clear hs; rintro q a w ⟨hq, rs, hrs, hs⟩ K' hK'
          refine zbt fun K31 hK31 => ?_
          refine zbt fun K32 hK32 => ?_
          refine za5 ?_
          refine sy hs (za9 rfl) fun _ _ hs => ?_
          refine sy hs (za9 rfl) fun _ _ hs => ?_
          refine sy hs (za9 rfl) fun _ _ hs => ?_
          refine sy hs (zac hR3 rfl rfl rfl hj3 Tryz.underlying22 ti27) fun _ _ hs => ?_
          refine sy hs (zc9 (i := j) (j := 0) hR3 rfl hj3 (FO.of (off := 3) Tryz.underlying27 rfl rfl ti25 (by decide))) fun _ _ hs => ?_
          refine sy hs (zdm (i := j) (j := 3) (Rd.up hR3) rfl hr3 rfl Tryz.underlying25 rfl) fun _ _ hs => ?_
          refine sy hs (zjm (Rd.st hs (.tail _ (.tail _ (.tail _ (.head _))))) rfl Tryz.underlying25) fun _ _ hs => ?_
          refine sy hs (zib rfl rfl) fun _ _ hs => ?_
          refine za1 ?_
          refine hK32 _ _ ?_; clear hK32
          first | refine znx hs rfl (fun hlt2 => ?_) (fun hlt2 => ?_) | refine zai hs rfl (fun hlt2 => ?_) (fun hlt2 => ?_)
          · have hq3 : q < rs.length := by simpa using hlt2
            have hrq : rs[q]? = some rs[q] := List.getElem?_eq_getElem hq3
            refine zal ?_
            refine hK31 _ _ ?_; clear hK31
            refine zbt fun K33 hK33 => ?_
            refine zaq fun Qe34 hB34 hO34 => ?_
            refine za5 ?_
            refine sy hs (za9 rfl) fun _ _ hs => ?_
            refine sy hs (za9 rfl) fun _ _ hs => ?_
            refine sy hs (zac hR3 rfl rfl rfl hj3 Tryz.underlying22 ti27) fun _ _ hs => ?_
            refine sy hs (zc9 (i := j) (j := 0) hR3 rfl hj3 (FO.of (off := 3) Tryz.underlying27 rfl rfl ti25 (by decide))) fun _ _ hs => ?_
            refine sy hs (zdm (i := j) (j := 3) (Rd.up hR3) rfl hr3 rfl Tryz.underlying25 rfl) fun _ _ hs => ?_
            refine sy hs (za9 rfl) fun _ _ hs => ?_
            refine sy hs (zde (places := [(0,1),(1,1)]) (cs := spoilt) rfl Tryz.underlying38 ti38 (by kernel_rfl) (by decide) rfl ⟨rfl, trivial⟩) fun _ _ hs => ?_
            refine sy hs (zac (Rd.st hs (.tail _ (.tail _ (.tail _ (.head _))))) rfl rfl rfl hq3 Tryz.underlying25 ti38) fun _ _ hs => ?_
            refine zhb (i := 3) (m := q) (r' := spoilt) hs rfl rfl rfl hrq ti38 (AllC.row (r := spoilt) ⟨rfl, rfl, trivial⟩ rfl) (.free rfl) fun _ _ hs => ?_
            refine za1 ?_
            refine hK33 _ _ ?_; clear hK33
            refine za5 ?_
            refine sy hs (za9 rfl) fun _ _ hs => ?_
            refine sy hs (zgh rfl rfl (zom (by omega))) fun _ _ hs => ?_
            refine sy hs (zb2 rfl) fun _ _ hs => ?_
            refine za1 ?_
            exact hK' (q + 1) _ _ (by omega) ⟨by omega, rs.set q spoilt, by simpa using hrs, hs.sub ⟨rfl, rfl, rfl, rfl, rfl, rfl, rfl, rfl, trivial⟩⟩
          · refine ze7 ?_
            refine hB30 _ _ ?_
            refine hK25 _ _ ?_; clear hK25
            refine za5 ?_
            refine sy hs (za9 rfl) fun _ _ hs => ?_
            refine sy hs (zgh rfl rfl (zom (by omega))) fun _ _ hs => ?_
            refine sy hs (zb2 rfl) fun _ _ hs => ?_
            refine za1 ?_
            exact hK (j + 1) _ _ (by omega) ⟨by omega, hs.subs ⟨rfl, rfl, rfl, rfl, rfl, rfl, rfl, trivial⟩ (.cons_cons _ (.cons_cons _ (.cons_cons _ (.cons _ (.refl _)))))⟩
        · by_cases he : e = 0
          · subst he
            refine ze7 ?_
            refine hB22 _ _ ?_
            refine hK20 _ _ ?_; clear hK20
            refine zbt fun K35 hK35 => ?_
            refine za5 ?_
            refine sy hs (za9 rfl) fun _ _ hs => ?_
            refine sy hs (zmw rfl rfl) fun _ _ hs => ?_
            refine sy hs (za9 rfl) fun _ _ hs => ?_
            refine syg hs (zl8 rfl Tryz.underlying30 rfl ti30 (.tail _ (.tail _ (.head _))) rfl) fun _ _ hs => ?_
            refine syg hs (zl8 rfl Tryz.underlying30 rfl ti30 (.head _) rfl) fun _ _ hs => ?_
            refine syg hs (zfz rfl has11 rfl (zo6 k (hst rfl) (ra := [va]) (rb := [vc]) (zdk.mono hA (fun x o hx => hf6 x o (hag x o hx))) ⟨vc, rfl, rc, hRc, hWc⟩)) fun _ _ hs => ?_
            refine sy hs (zht rfl rfl) fun _ _ hs => ?_
            refine sy hs (za9 rfl) fun _ _ hs => ?_
            refine syg hs (zfz rfl has6 rfl (zl3 k hkn f7)) fun _ _ hs => ?_
            refine sy hs (zht rfl rfl) fun _ _ hs => ?_
            refine sy hs (zb2 rfl) fun _ _ hs => ?_
            refine za1 ?_
            refine hK35 _ _ ?_; clear hK35
            refine zbl ?_
            refine Rt_1 hs rfl rfl ?_
            exact ⟨rfl,((hs.subL (.cons _ (.cons _ (.cons _ (List.sublist_append_right _ _))))).weak hf7).cw⟩
          · refine ze7 ?_
            refine hB22 _ _ ?_
            refine hK20 _ _ ?_; clear hK20
            refine zbt fun K36 hK36 => ?_
            refine za5 ?_
            refine sy hs (za9 rfl) fun _ _ hs => ?_
            refine sy (v := .bool true) hs (Eq.mp (congrArg (fun z => Y _ _ _ _ _ (Value.bool z)) (decide_eq_true (show e ≠ 0 from he))) (zmw rfl rfl)) fun _ _ hs => ?_
            refine sy hs (za9 rfl) fun _ _ hs => ?_
            refine sno hs fun _ _ hs => ?_
            refine sno hs fun _ _ hs => ?_
            refine sno hs fun _ _ hs => ?_
            refine sy hs (zht rfl rfl) fun _ _ hs => ?_
            refine sy hs (za9 rfl) fun _ _ hs => ?_
            refine syg hs (zfz rfl has6 rfl (zl3 k hkn f7)) fun _ _ hs => ?_
            refine sy hs (zht rfl rfl) fun _ _ hs => ?_
            refine sy hs (zb2 rfl) fun _ _ hs => ?_
            refine za1 ?_
            refine hK36 _ _ ?_; clear hK36
            refine zbl ?_
            refine Rt_1 hs rfl rfl ?_
            exact ⟨rfl,((hs.subL (.cons _ (.cons _ (.cons _ (List.sublist_append_right _ _))))).weak hf7).cw⟩
end Go.Proofs.YtdjjeahiomackaaGreat
