/-
  Walks and laws of this seat; the base is the text Base.
-/
import Derived.Test.YtekcbgnkikmhpaaL5s
import Derived.Test.YtekcbgnkikmhpaaL5z
import Derived.Test.YtekcbgnkikmhpaaL5g
namespace Go.Proofs.Ytekcbgnkikmhpaa
open Go.RowKit Go.Sl
/-- All that was frozen since is let go. -/
theorem letall {f0 f' : Fz} {L : List Ent} {w0 w : World} (hC : Cw w0 f' L w) (hle : Fz.le f0 f') : ∃ D : List Ent, FreeB D ∧ Cw w0 f0 (D ++ L) w ∧ ∀ v k rows, Rd (fy f0 f') [] v k rows → Rd fz0 D v k rows := by
  have hD : ∀ b, b ∈ (List.range w.heap.size).filter (fun b => (fy f0 f' b).isSome) ↔ ∃ o, fy f0 f' b = some o := fun b => by
    rw [List.mem_filter, List.mem_range, Option.isSome_iff_exists]
    constructor
    · exact fun h => h.2
    · rintro ⟨o, h⟩
      exact ⟨(Array.getElem?_eq_some_iff.1 (hC.frz b o (fy_le b o h))).1, o, h⟩
  refine ⟨blks ((List.range w.heap.size).filter (fun b => (fy f0 f' b).isSome)) f', fun e he => ?_, hC.letgo hle (List.nodup_range.filter _) fun b hb => ?_, fun v k rows h => h.letgo fun b o hb _ => (hD b).2 ⟨o, hb⟩⟩
  · obtain ⟨b, o, h1, h2, rfl⟩ := mem_blks.1 he
    obtain ⟨o', ho'⟩ := (hD b).1 h1
    obtain ⟨_, h4, h5⟩ := fy_some.1 ho'
    rw [h2] at h4
    cases h4
    unfold Obj.free at h5
    split at h5
    · exact ⟨b, _, _, rfl⟩
    · cases h5
  · obtain ⟨o, ho⟩ := (hD b).1 hb
    exact (fy_some.1 ho).1
theorem perm3' {α : Type} (X G R : List α) : (X ++ (G ++ R)).Perm (G ++ (X ++ R)) := by
  rw [← List.append_assoc, ← List.append_assoc]
  exact List.perm_append_comm.append_right _
theorem nodes_R {g : Fz} {D : List Ent} (hg : ∀ v k rows, Rd g [] v k rows → Rd fz0 D v k rows) : ∀ {rows : List (List Value)} {xs : List api_Node}, RW t_api_Node g rows xs → (∀ x ∈ xs, x.Attrs.length ≤ 1000000) → ∀ r ∈ rows, NodeR D r
  | [], [], _, _, r, hr => by cases hr
  | r0 :: rows, x :: xs, ⟨h1, h2⟩, hb, r, hr => by
    rcases List.mem_cons.1 hr with rfl | hr
    · obtain ⟨v0, rfl, rw0, hR, hW⟩ := h1
      have hR' := hg _ _ _ hR
      obtain ⟨ao, cap, hv, _⟩ := hR.val
      exact ⟨x, v0, rfl, AOK.of hR', ao, _, cap, hv, by rw [hW.len]; exact hb x (by simp)⟩
    · exact nodes_R hg h2 (fun y hy => hb y (by simp [hy])) r hr
  | [], _ :: _, h, _, _, _ => h.elim
  | _ :: _, [], h, _, _, _ => h.elim
theorem Spoil_does {f : Fz} {v0 : Value} {rows : List (List Value)} {D : List Ent} (hD : FreeB D) (hr : ∀ r ∈ rows, NodeR D r) (hlen : rows.length ≤ 1000000) :
    Does Try.prog 23 [.agg #[v0]] f (.row v0 59 9 rows :: D) (fun v f' L' => v = .tuple #[] ∧ f' = f ∧ L' = []) := fun w0 L w hC =>
  (keep_Spoil_ok hD hr hlen w0 L w hC).mono fun _ _ ⟨h1, h2⟩ => ⟨_, f, [], h1, .refl f, h2, rfl, rfl, rfl⟩
set_option maxHeartbeats 8000000 in
set_option maxRecDepth 20000 in
theorem law5_DomKept_ok {n : Nat} {f : Fz} {p0 : dom_Part} {a0 : List Value} {d : Int} (h0 : t_dom_Part.R f a0 p0) (hd : law5_deep n p0 0 = some d) (hkn : law5_known n = some true)
    (hq : d < 500 → ∃ pl q t e, law5_plain n p0 = some pl ∧ law5_part n pl = some q ∧ dom_Make n q = some (t, e) ∧ t.Nodes.length ≤ 1000000 ∧ (∀ x ∈ t.Nodes, x.Attrs.length ≤ 1000000) ∧
      (e = 0 → ∃ c x cl, keep_Copy n t = some c ∧ dom_Parts n t = some x ∧ x.Attrs.length ≤ 1000000 ∧ keep_SameTree n t c = some true ∧ law5_clean n p0 = some cl ∧ law5_same n x cl = some true)) :
    Gives Try.prog 6 [.agg a0.toArray] f (.bool true) := by
  intro w0 L w hC
  obtain ⟨v1, v6, rfl, ⟨rw2, hR3, hW4⟩, ⟨rw7, hR8, hW9⟩⟩ := R_dom_Part.ex h0
  refine enter Try.func6 rfl Try.ntmps6 (by simp) hC fun a hs => ?_
  refine W_seq fun K1 hK1 => ?_
  refine W_region ?_
  refine sbox hs rfl ?_; clear hs; intro b1 a w hs
  refine sy (v := .bool (false)) hs (y_assign rfl) ?_; clear hs; intro a w hs
  refine RL_nil ?_
  refine hK1 _ _ ?_; clear hK1
  refine W_seq fun K2 hK2 => ?_
  refine W_seq fun K3 hK3 => ?_
  refine W_region ?_
  refine sy hs (y_ldB rfl Try.underlying35 rfl ti35 (.head _) rfl) ?_; clear hs; intro a w hs
  refine sy hs (y_call rfl has15 rfl (law5_deep_ok n (f := f) (a0 := [.string (p0.Name), .string (p0.Text), v1, v6]) (R_dom_Part.of (x := p0) ⟨rw2, hR3, hW4⟩ ⟨rw7, hR8, hW9⟩) hd)) ?_; clear hs; intro a w hs
  refine sy hs (y_geq rfl rfl) ?_; clear hs; intro a w hs
  refine RL_nil ?_
  refine hK3 _ _ ?_; clear hK3
  refine W_cond hs rfl (fun hg1 => ?_) (fun hg1 => ?_)
  · refine W_seq fun K4 hK4 => ?_
    refine W_region ?_
    refine sy hs (y_call rfl has10 rfl (law5_known_ok n (f := f) hkn)) ?_; clear hs; intro a w hs
    refine sy (v := .bool true) hs (y_assign rfl) ?_; clear hs; intro a w hs
    refine RL_nil ?_
    refine hK4 _ _ ?_; clear hK4
    refine W_ret ?_
    refine RtV1 hs rfl (rv_t hs rfl) ?_
    exact ⟨rfl, (hs.subL (.cons _ (.refl _))).cw⟩
  · have hd5 : d < 500 := by simpa using hg1
    obtain ⟨pl, q, t, e, q1, q2, q3, q4, q5, q6⟩ := hq hd5
    refine W_skip ?_
    refine hK2 _ _ ?_; clear hK2
    refine W_seq fun K5 hK5 => ?_
    refine W_region ?_
    refine sy hs (y_ldB rfl Try.underlying35 rfl ti35 (.head _) rfl) ?_; clear hs; intro a w hs
    refine RL_callV hs rfl has18 rfl (law5_plain_ok n (f := f) (a0 := [.string (p0.Name), .string (p0.Text), v1, v6]) (R_dom_Part.of (x := p0) ⟨rw2, hR3, hW4⟩ ⟨rw7, hR8, hW9⟩) q1) ?_; clear hs
    rintro _ f1 _ a w hf1 ⟨u1, rfl, rfl, hu1⟩ hs
    refine RL_callV hs rfl has22 rfl (law5_part_ok n (f := f1) (a0 := u1) hu1 q2) ?_; clear hs
    rintro _ f2 _ a w hf2 ⟨u2, rfl, rfl, hu2⟩ hs
    obtain ⟨va, vb, rfl, ⟨rwa, hRa, hWa⟩, ⟨rwb, hRb, hWb⟩⟩ := R_dom_Part.ex hu2
    have hle2 := hf1.trans hf2
    refine RL_alloc hs ti35 (.free rfl) (by decide) ?_; clear hs; intro b3 a w hs
    refine RL_storeAll (i := 0) hs rfl rfl rfl ti35 ⟨rfl, rfl⟩ (AllC.arr (r := [.string q.Name, .string q.Text, va, vb]) ⟨rfl, rfl, hRa.one, hRb.one, trivial⟩) (.free rfl) ?_; clear hs; intro a w hs
    replace hs : St _ _ _ (.blk b3 (.cells #[.string q.Name, .string q.Text, va, vb] 35 (0, 0)) :: .blk b1 (.cells #[.string p0.Name, .string p0.Text, v1, v6] 35 (0, 0)) :: L) _ _ _ := hs
    refine RL_nil ?_
    refine hK5 _ _ ?_; clear hK5
    -- the first tree
    refine W_seq fun K6 hK6 => ?_
    refine W_region ?_
    refine sy hs (y_ldB rfl Try.underlying35 rfl ti35 (.head _) rfl) ?_; clear hs; intro a w hs
    refine RL_callV hs rfl has16 rfl (dom_Make_ok n (f := f2) (a0 := [.string q.Name, .string q.Text, va, vb]) (R_dom_Part.of (x := q) ⟨rwa, hRa, hWa⟩ ⟨rwb, hRb, hWb⟩) q3) ?_; clear hs
    rintro _ f3 _ a w hf3 ⟨u3, rfl, rfl, hu3⟩ hs
    obtain ⟨vt, rfl, ⟨rwt, hRt, hWt⟩⟩ := hu3
    have hle3 := hle2.trans hf3
    refine sy (v := .tuple #[.agg #[vt], .int .i64 e]) hs (y_move rfl) ?_; clear hs; intro a w hs
    refine sy (v := .agg #[vt]) hs (y_extract rfl rfl) ?_; clear hs; intro a w hs
    refine sy (v := .int .i64 e) hs (y_extract rfl rfl) ?_; clear hs; intro a w hs
    refine RL_alloc hs ti24 (.free rfl) (by decide) ?_; clear hs; intro b4 a w hs
    refine RL_storeAll (i := 0) hs rfl rfl rfl ti24 ⟨rfl, rfl⟩ (AllC.arr (r := [vt]) ⟨hRt.one, trivial⟩) (.free rfl) ?_; clear hs; intro a w hs
    replace hs : St _ _ _ (.blk b4 (.cells #[vt] 24 (0, 0)) :: .blk b3 (.cells #[.string q.Name, .string q.Text, va, vb] 35 (0, 0)) :: .blk b1 (.cells #[.string p0.Name, .string p0.Text, v1, v6] 35 (0, 0)) :: L) _ _ _ := hs
    refine sy (v := .int .i64 e) hs (y_assign rfl) ?_; clear hs; intro a w hs
    refine RL_nil ?_
    refine hK6 _ _ ?_; clear hK6
    -- the second one, which is new memory
    refine W_seq fun K7 hK7 => ?_
    refine W_region ?_
    refine sy hs (y_ldB rfl Try.underlying35 rfl ti35 (.tail _ (.head _)) rfl) ?_; clear hs; intro a w hs
    refine RL_callV hs rfl has16 rfl (dom_Make_o n (f0 := f3) (f := f3) (.refl _) (a0 := [.string q.Name, .string q.Text, va, vb]) (R_dom_Part.of (x := q) ⟨rwa, hRa.le hf3, hWa.le hf3⟩ ⟨rwb, hRb.le hf3, hWb.le hf3⟩) q3) ?_; clear hs
    rintro _ f4 _ a w hf4 ⟨vs, rws, rfl, rfl, hWs⟩ hs
    refine sy (v := .tuple #[.agg #[vs], .int .i64 e]) hs (y_move rfl) ?_; clear hs; intro a w hs
    refine sy (v := .agg #[vs]) hs (y_extract rfl rfl) ?_; clear hs; intro a w hs
    refine sy (v := .int .i64 e) hs (y_extract rfl rfl) ?_; clear hs; intro a w hs
    refine RL_alloc hs ti24 (.free rfl) (by decide) ?_; clear hs; intro b6 a w hs
    refine RL_storeAll (i := 0) hs rfl rfl rfl ti24 ⟨rfl, rfl⟩ (AllC.arr (r := [vs]) ⟨hs.one (i := 1) rfl, trivial⟩) (.free rfl) ?_; clear hs; intro a w hs
    replace hs : St _ _ _ ([.blk b6 (.cells #[vs] 24 (0, 0)), .row vs 59 9 rws, .blk b4 (.cells #[vt] 24 (0, 0)), .blk b3 (.cells #[.string q.Name, .string q.Text, va, vb] 35 (0, 0)), .blk b1 (.cells #[.string p0.Name, .string p0.Text, v1, v6] 35 (0, 0))] ++ L) _ _ _ := hs
    refine sy (v := .int .i64 e) hs (y_assign rfl) ?_; clear hs; intro a w hs
    refine RL_nil ?_
    refine hK7 _ _ ?_; clear hK7
    obtain ⟨D, hD1, hD2, hD3⟩ := letall hs.cw hf4
    replace hs : St _ _ _ _ _ _ _ := ⟨hs.ev, hD2.perm (perm3' _ _ _)⟩
    clear hD2
    replace hs : St _ _ f3 (.blk b6 (.cells #[vs] 24 (0, 0)) :: .row vs 59 9 rws :: .blk b4 (.cells #[vt] 24 (0, 0)) :: .blk b3 (.cells #[.string q.Name, .string q.Text, va, vb] 35 (0, 0)) :: .blk b1 (.cells #[.string p0.Name, .string p0.Text, v1, v6] 35 (0, 0)) :: (D ++ L)) _ _ _ := hs
    -- refused?
    refine W_seq fun K8 hK8 => ?_
    refine W_seq fun K9 hK9 => ?_
    refine W_region ?_
    refine sy (v := .int .i64 e) hs (y_move rfl) ?_; clear hs; intro a w hs
    refine sy hs (y_neq rfl rfl) ?_; clear hs; intro a w hs
    refine RL_nil ?_
    refine hK9 _ _ ?_; clear hK9
    refine W_cond hs rfl (fun hg2 => ?_) (fun hg2 => ?_)
    · refine W_seq fun K10 hK10 => ?_
      refine W_region ?_
      refine sy hs (y_call rfl has10 rfl (law5_known_ok n (f := f3) hkn)) ?_; clear hs; intro a w hs
      refine sy (v := .bool true) hs (y_assign rfl) ?_; clear hs; intro a w hs
      refine RL_nil ?_
      refine hK10 _ _ ?_; clear hK10
      refine W_ret ?_
      refine RtV1 hs rfl (rv_t hs rfl) ?_
      exact ⟨rfl, (((hs.subL (.cons _ (.cons _ (.cons _ (.cons _ (.cons _ (List.sublist_append_right D L))))))).weak hle3).cw)⟩
    · have he : e = 0 := by simpa using hg2
      obtain ⟨c, x, cl, k1, k2, k3, k4, k5, k6⟩ := q6 he
      refine W_skip ?_
      refine hK8 _ _ ?_; clear hK8
      -- a copy
      refine W_seq fun K11 hK11 => ?_
      refine W_region ?_
      refine sy hs (y_ldB rfl Try.underlying24 rfl ti24 (.tail _ (.tail _ (.head _))) rfl) ?_; clear hs; intro a w hs
      refine RL_callV hs rfl has11 rfl (keep_Copy_ok n (f := f3) (a0 := [vt]) ⟨_, rfl, ⟨rwt, hRt, hWt⟩⟩ k1) ?_; clear hs
      rintro _ f5 _ a w hf5 ⟨u5, rfl, rfl, hu5⟩ hs
      obtain ⟨vc, rfl, ⟨rwc, hRc, hWc⟩⟩ := hu5
      have hle5 := hle3.trans hf5
      refine RL_alloc hs ti24 (.free rfl) (by decide) ?_; clear hs; intro b8 a w hs
      refine RL_storeAll (i := 0) hs rfl rfl rfl ti24 ⟨rfl, rfl⟩ (AllC.arr (r := [vc]) ⟨hRc.one, trivial⟩) (.free rfl) ?_; clear hs; intro a w hs
      replace hs : St _ _ f5 (.blk b8 (.cells #[vc] 24 (0, 0)) :: .blk b6 (.cells #[vs] 24 (0, 0)) :: .row vs 59 9 rws :: .blk b4 (.cells #[vt] 24 (0, 0)) :: .blk b3 (.cells #[.string q.Name, .string q.Text, va, vb] 35 (0, 0)) :: .blk b1 (.cells #[.string p0.Name, .string p0.Text, v1, v6] 35 (0, 0)) :: (D ++ L)) _ _ _ := hs
      refine RL_nil ?_
      refine hK11 _ _ ?_; clear hK11
      -- the second tree is written over
      refine W_seq fun K12 hK12 => ?_
      refine W_region ?_
      refine sy hs (y_ldB rfl Try.underlying24 rfl ti24 (.tail _ (.head _)) rfl) ?_; clear hs; intro a w hs
      have hp : (.blk b8 (.cells #[vc] 24 (0, 0)) :: .blk b6 (.cells #[vs] 24 (0, 0)) :: .row vs 59 9 rws :: .blk b4 (.cells #[vt] 24 (0, 0)) :: .blk b3 (.cells #[.string q.Name, .string q.Text, va, vb] 35 (0, 0)) :: .blk b1 (.cells #[.string p0.Name, .string p0.Text, v1, v6] 35 (0, 0)) :: (D ++ L) : List Ent).Perm ((.row vs 59 9 rws :: D) ++ (.blk b8 (.cells #[vc] 24 (0, 0)) :: .blk b6 (.cells #[vs] 24 (0, 0)) :: .blk b4 (.cells #[vt] 24 (0, 0)) :: .blk b3 (.cells #[.string q.Name, .string q.Text, va, vb] 35 (0, 0)) :: .blk b1 (.cells #[.string p0.Name, .string p0.Text, v1, v6] 35 (0, 0)) :: L)) := by
        refine (List.perm_middle (l₁ := [_, _]) (a := Ent.row vs 59 9 rws)).trans ?_
        refine .cons _ ?_
        exact perm3' [_, _, _, _, _] D L
      replace hs : St _ _ _ _ _ _ _ := ⟨hs.ev, hs.cw.perm hp⟩
      refine RL_call (Lr := .row vs 59 9 rws :: D) (Lf := .blk b8 (.cells #[vc] 24 (0, 0)) :: .blk b6 (.cells #[vs] 24 (0, 0)) :: .blk b4 (.cells #[vt] 24 (0, 0)) :: .blk b3 (.cells #[.string q.Name, .string q.Text, va, vb] 35 (0, 0)) :: .blk b1 (.cells #[.string p0.Name, .string p0.Text, v1, v6] 35 (0, 0)) :: L) hs rfl has23 rfl rfl (Spoil_does hD1 (nodes_R hD3 hWs q5) (by rw [hWs.len]; exact q4)) (.free rfl) (by decide) ?_; clear hs hp
      rintro _ f6 _ a w _ ⟨rfl, rfl, rfl⟩ hs
      replace hs : St _ _ f6 (.blk b8 (.cells #[vc] 24 (0, 0)) :: .blk b6 (.cells #[vs] 24 (0, 0)) :: .blk b4 (.cells #[vt] 24 (0, 0)) :: .blk b3 (.cells #[.string q.Name, .string q.Text, va, vb] 35 (0, 0)) :: .blk b1 (.cells #[.string p0.Name, .string p0.Text, v1, v6] 35 (0, 0)) :: L) _ _ _ := hs
      refine RL_nil ?_
      refine hK12 _ _ ?_; clear hK12
      -- its Parts, their attributes written over
      refine W_seq fun K13 hK13 => ?_
      refine W_region ?_
      refine sy hs (y_ldB rfl Try.underlying24 rfl ti24 (.tail _ (.tail _ (.head _))) rfl) ?_; clear hs; intro a w hs
      refine RL_callV hs rfl has19 rfl (dom_Parts_y n (f0 := f6) (f := f6) (.refl _) (a0 := [vt]) ⟨_, rfl, ⟨rwt, hRt.le hf5, hWt.le hf5⟩⟩ k2) ?_; clear hs
      rintro _ f7 _ a w hf7 ⟨u7, rfl, rfl, hu7⟩ hs
      obtain ⟨vx, vy, rfl, ⟨rwx, hRx, hWx⟩, ⟨rwy, hRy, hWy⟩⟩ := R_dom_Part.ex hu7
      refine RL_alloc hs ti35 (.free rfl) (by decide) ?_; clear hs; intro b9 a w hs
      refine RL_storeAll (i := 0) hs rfl rfl rfl ti35 ⟨rfl, rfl⟩ (AllC.arr (r := [.string x.Name, .string x.Text, vx, vy]) ⟨rfl, rfl, hRx.one, hRy.one, trivial⟩) (.free rfl) ?_; clear hs; intro a w hs
      replace hs : St _ _ f7 ([.blk b9 (.cells #[.string x.Name, .string x.Text, vx, vy] 35 (0, 0)), .blk b8 (.cells #[vc] 24 (0, 0)), .blk b6 (.cells #[vs] 24 (0, 0)), .blk b4 (.cells #[vt] 24 (0, 0)), .blk b3 (.cells #[.string q.Name, .string q.Text, va, vb] 35 (0, 0)), .blk b1 (.cells #[.string p0.Name, .string p0.Text, v1, v6] 35 (0, 0))] ++ L) _ _ _ := hs
      refine RL_nil ?_
      refine hK13 _ _ ?_; clear hK13
      obtain ⟨G, hG1, hG2, hG3⟩ := letall hs.cw hf7
      replace hs : St _ _ _ _ _ _ _ := ⟨hs.ev, hG2.perm (perm3' _ _ _)⟩
      clear hG2
      have hAx : AOK G vx := AOK.of (hG3 _ _ _ hRx)
      obtain ⟨aox, capx, hvx, _⟩ := hRx.val
      have hlx : rwx.length ≤ 1000000 := by rw [hWx.len]; exact k3
      replace hs : St _ _ f6 (.blk b9 (.cells #[.string x.Name, .string x.Text, vx, vy] 35 (0, 0)) :: .blk b8 (.cells #[vc] 24 (0, 0)) :: .blk b6 (.cells #[vs] 24 (0, 0)) :: .blk b4 (.cells #[vt] 24 (0, 0)) :: .blk b3 (.cells #[.string q.Name, .string q.Text, va, vb] 35 (0, 0)) :: .blk b1 (.cells #[.string p0.Name, .string p0.Text, v1, v6] 35 (0, 0)) :: (G ++ L)) _ _ _ := hs
      refine W_seq fun K14 hK14 => ?_
      refine W_seq fun K15 hK15 => ?_
      refine W_region ?_
      refine sy (v := .int .i64 0) hs (y_assign rfl) ?_; clear hs; intro a w hs
      refine RL_nil ?_
      refine hK15 _ _ ?_; clear hK15
      refine W_block fun Qe1 hB1 hO1 => ?_
      refine W_loop (fun (z : Nat) a w => ∃ (j : Nat) (G' : List Ent), j + z = rwx.length ∧ FreeB G' ∧ AOK G' vx ∧
        St 62 w0 f6 (.blk b9 (.cells #[.string x.Name, .string x.Text, vx, vy] 35 (0, 0)) :: .blk b8 (.cells #[vc] 24 (0, 0)) :: .blk b6 (.cells #[vs] 24 (0, 0)) :: .blk b4 (.cells #[vt] 24 (0, 0)) :: .blk b3 (.cells #[.string q.Name, .string q.Text, va, vb] 35 (0, 0)) :: .blk b1 (.cells #[.string p0.Name, .string p0.Text, v1, v6] 35 (0, 0)) :: (G' ++ L)) [(1, .pointer (some ⟨b1, 0, none⟩)), (4, .pointer (some ⟨b4, 0, none⟩)), (8, .pointer (some ⟨b8, 0, none⟩)), (9, .pointer (some ⟨b9, 0, none⟩)), (10, .int .i64 (j : Int))] a w) (fun z => z) rwx.length ⟨0, G, by omega, hG1, hAx, hs.sub ⟨rfl, rfl, rfl, rfl, rfl, trivial⟩⟩ ?_
      clear hs hG1 hAx hG3
      rintro z a w ⟨j, G', hjz, hF, hA, hs⟩ K16 hK16
      obtain ⟨ra, hra⟩ := hA.rd
      have hral : ra.length = rwx.length := by
        obtain ⟨ao', cap', hva', _⟩ := hra.val
        rw [hvx] at hva'
        have := (Value.slice.inj hva').2.1
        omega
      have hraL : Rd f6 (.blk b9 (.cells #[.string x.Name, .string x.Text, vx, vy] 35 (0, 0)) :: .blk b8 (.cells #[vc] 24 (0, 0)) :: .blk b6 (.cells #[vs] 24 (0, 0)) :: .blk b4 (.cells #[vt] 24 (0, 0)) :: .blk b3 (.cells #[.string q.Name, .string q.Text, va, vb] 35 (0, 0)) :: .blk b1 (.cells #[.string p0.Name, .string p0.Text, v1, v6] 35 (0, 0)) :: (G' ++ L)) vx 2 ra := hra.mono (fun _ _ h => by cases h) fun e he => List.mem_cons_of_mem _ (List.mem_cons_of_mem _ (List.mem_cons_of_mem _ (List.mem_cons_of_mem _ (List.mem_cons_of_mem _ (List.mem_cons_of_mem _ (List.mem_append_left _ he))))))
      refine W_seq fun K17 hK17 => ?_
      refine W_seq fun K18 hK18 => ?_
      refine W_region ?_
      refine sy (v := .int .i64 (j : Int)) hs (y_move rfl) ?_; clear hs; intro a w hs
      refine sy (v := .pointer (some ⟨b9, 2, none⟩)) hs (y_fieldAddr rfl (FO.of (off := 2) Try.underlying35 rfl rfl ti32 (by decide))) ?_; clear hs; intro a w hs
      refine sy (v := vx) hs (y_ld rfl Try.underlying32 rfl (Cell.blk (.head _) rfl)) ?_; clear hs; intro a w hs
      refine sy hs (y_lenR0 hraL rfl Try.underlying32) ?_; clear hs; intro a w hs
      refine sy hs (y_lss rfl rfl) ?_; clear hs; intro a w hs
      refine RL_nil ?_
      refine hK18 _ _ ?_; clear hK18
      refine W_cond hs rfl (fun hg3 => ?_) (fun hg3 => ?_)
      · have hjr : j < ra.length := by simpa using hg3
        obtain ⟨z, rfl⟩ : ∃ z', z = z' + 1 := ⟨z - 1, by omega⟩
        refine W_skip ?_
        refine hK17 _ _ ?_; clear hK17
        refine W_seq fun K19 hK19 => ?_
        refine W_block fun Qe2 hB2 hO2 => ?_
        refine W_region ?_
        refine sy (v := .pointer (some ⟨b9, 2, none⟩)) hs (y_fieldAddr rfl (FO.of (off := 2) Try.underlying35 rfl rfl ti32 (by decide))) ?_; clear hs; intro a w hs
        refine sy (v := vx) hs (y_ld rfl Try.underlying32 rfl (Cell.blk (.head _) rfl)) ?_; clear hs; intro a w hs
        refine sy (v := .int .i64 (j : Int)) hs (y_move rfl) ?_; clear hs; intro a w hs
        refine sy hs (y_buildS (places := [(0, 1), (1, 1)]) (cs := spoilt) rfl Try.underlying53 ti53 (by kernel_rfl) (by decide) rfl ⟨rfl, trivial⟩) ?_; clear hs; intro a w hs
        refine sy hs (y_indexAddr hraL rfl rfl rfl hjr Try.underlying32 ti53) ?_; clear hs; intro a w hs
        obtain ⟨idx, b, o, cs, ty, e1, e2, e3⟩ := elem_at hF hra hjr
        have hidx : (.blk b9 (.cells #[.string x.Name, .string x.Text, vx, vy] 35 (0, 0)) :: .blk b8 (.cells #[vc] 24 (0, 0)) :: .blk b6 (.cells #[vs] 24 (0, 0)) :: .blk b4 (.cells #[vt] 24 (0, 0)) :: .blk b3 (.cells #[.string q.Name, .string q.Text, va, vb] 35 (0, 0)) :: .blk b1 (.cells #[.string p0.Name, .string p0.Text, v1, v6] 35 (0, 0)) :: (G' ++ L) : List Ent)[idx + 6]? = some (.blk b (.cells cs ty (0, 0))) := by
          show (G' ++ L)[idx]? = _
          rw [List.getElem?_append_left (List.getElem?_eq_some_iff.1 e2).1]; exact e2
        have hone : ∀ x ∈ spoilt, x.oneCell' = true := by
          intro x hx
          simp only [spoilt, List.mem_cons, List.not_mem_nil, or_false] at hx
          rcases hx with rfl | rfl <;> rfl
        refine RL_storeOff (i := idx + 6) (b := b) (o := o) (k := 2) (cs := cs) (e := ty) (r' := spoilt) hs hidx (by rw [← e1]; rfl) rfl ti53 ⟨rfl, hone⟩ e3 (.free rfl) ?_; clear hs; intro a w hs
        have hset : (.blk b9 (.cells #[.string x.Name, .string x.Text, vx, vy] 35 (0, 0)) :: .blk b8 (.cells #[vc] 24 (0, 0)) :: .blk b6 (.cells #[vs] 24 (0, 0)) :: .blk b4 (.cells #[vt] 24 (0, 0)) :: .blk b3 (.cells #[.string q.Name, .string q.Text, va, vb] 35 (0, 0)) :: .blk b1 (.cells #[.string p0.Name, .string p0.Text, v1, v6] 35 (0, 0)) :: (G' ++ L) : List Ent).set (idx + 6) (.blk b (.cells (over cs o spoilt) ty (0, 0))) = .blk b9 (.cells #[.string x.Name, .string x.Text, vx, vy] 35 (0, 0)) :: .blk b8 (.cells #[vc] 24 (0, 0)) :: .blk b6 (.cells #[vs] 24 (0, 0)) :: .blk b4 (.cells #[vt] 24 (0, 0)) :: .blk b3 (.cells #[.string q.Name, .string q.Text, va, vb] 35 (0, 0)) :: .blk b1 (.cells #[.string p0.Name, .string p0.Text, v1, v6] 35 (0, 0)) :: (G'.set idx (.blk b (.cells (over cs o spoilt) ty (0, 0))) ++ L) := by
          rw [List.set_cons_succ, List.set_cons_succ, List.set_cons_succ, List.set_cons_succ, List.set_cons_succ, List.set_cons_succ, List.set_append_left _ _ (List.getElem?_eq_some_iff.1 e2).1]
        replace hs : St 62 w0 f6 (.blk b9 (.cells #[.string x.Name, .string x.Text, vx, vy] 35 (0, 0)) :: .blk b8 (.cells #[vc] 24 (0, 0)) :: .blk b6 (.cells #[vs] 24 (0, 0)) :: .blk b4 (.cells #[vt] 24 (0, 0)) :: .blk b3 (.cells #[.string q.Name, .string q.Text, va, vb] 35 (0, 0)) :: .blk b1 (.cells #[.string p0.Name, .string p0.Text, v1, v6] 35 (0, 0)) :: (G'.set idx (.blk b (.cells (over cs o spoilt) ty (0, 0))) ++ L)) _ a w := hset ▸ hs
        refine RL_nil ?_
        refine hK19 _ _ ?_; clear hK19
        refine W_region ?_
        refine sy (v := .int .i64 (j : Int)) hs (y_move rfl) ?_; clear hs; intro a w hs
        refine sy hs (y_add rfl rfl rfl) ?_; clear hs; intro a w hs
        refine sy (v := .int .i64 (w64 ((j : Int) + 1))) hs (y_assign rfl) ?_; clear hs; intro a w hs
        refine RL_nil ?_
        refine hK16 z _ _ (Nat.lt_succ_self _) ⟨j + 1, G'.set idx (.blk b (.cells (over cs o spoilt) ty (0, 0))), by omega, hF.over, hA.over e2 e3 hone, ?_⟩
        rw [← w64_succ (show j ≤ 9223372036854775806 by omega)]
        exact hs.sub ⟨rfl, rfl, rfl, rfl, rfl, trivial⟩
      · refine W_exit ?_
        refine hB1 _ _ ?_
        refine hK14 _ _ ?_; clear hK14
        refine W_seq fun K20 hK20 => ?_
        have hsub : (.blk b8 (.cells #[vc] 24 (0, 0)) :: .blk b4 (.cells #[vt] 24 (0, 0)) :: .blk b1 (.cells #[.string p0.Name, .string p0.Text, v1, v6] 35 (0, 0)) :: [] : List Ent).Sublist (.blk b9 (.cells #[.string x.Name, .string x.Text, vx, vy] 35 (0, 0)) :: .blk b8 (.cells #[vc] 24 (0, 0)) :: .blk b6 (.cells #[vs] 24 (0, 0)) :: .blk b4 (.cells #[vt] 24 (0, 0)) :: .blk b3 (.cells #[.string q.Name, .string q.Text, va, vb] 35 (0, 0)) :: .blk b1 (.cells #[.string p0.Name, .string p0.Text, v1, v6] 35 (0, 0)) :: (G' ++ L)) := .cons _ (.cons_cons _ (.cons _ (.cons_cons _ (.cons _ (.cons_cons _ (List.nil_sublist _))))))
        have hsD := hs.subL (L' := .blk b8 (.cells #[vc] 24 (0, 0)) :: .blk b4 (.cells #[vt] 24 (0, 0)) :: .blk b1 (.cells #[.string p0.Name, .string p0.Text, v1, v6] 35 (0, 0)) :: []) hsub
        refine T_start hs (.blk b8 (.cells #[vc] 24 (0, 0)) :: .blk b4 (.cells #[vt] 24 (0, 0)) :: .blk b1 (.cells #[.string p0.Name, .string p0.Text, v1, v6] 35 (0, 0)) :: []) [] (.look 0 (.look 1 (.look 2 (.look 3 (.look 4 (.look 6 (.any [5] (fun _ => .any [7] (fun _ => .any [8] (fun _ => .look 9 (.look 10 (.any [11] (fun _ => .look 12 (.look 13 (.done))))))))))))))) mixed (by kernel_rfl) ?_; clear hs; intro a he
        refine uy 0 he rfl (y_ldB rfl Try.underlying24 rfl ti24 (.tail _ (.head _)) rfl) ?_; clear he; intro a he
        refine uy 1 he rfl (y_ldB rfl Try.underlying24 rfl ti24 (.head _) rfl) ?_; clear he; intro a he
        refine ucall 2 he rfl rfl has14 rfl (fun f9 L9 w9 hfc _ hw9 => (keep_SameTree_ok n (f := f9) (a0 := [vt]) (a1 := [vc]) ⟨_, rfl, ⟨rwt, (hRt.le hf5).le hfc, (hWt.le hf5).le hfc⟩⟩ ⟨_, rfl, ⟨rwc, hRc.le hfc, hWc.le hfc⟩⟩ k4) w0 L9 w9 hw9) ?_; clear he; intro a he
        refine uy (v := .bool true) 3 he rfl (y_move rfl) ?_; clear he; intro a he
        refine uyg 4 he rfl (y_ldB rfl Try.underlying24 rfl ti24 (.tail _ (.head _)) rfl) ?_; clear he; intro a he
        refine uyg 6 he rfl (y_ldB rfl Try.underlying35 rfl ti35 (.tail _ (.tail _ (.head _))) rfl) ?_; clear he; intro a he
        refine T_any1 he rfl ?_; clear he; intro a w hs
        refine RL_callVg hs rfl has19 rfl (dom_Parts_ok n (f := f6) (a0 := [vt]) ⟨_, rfl, ⟨rwt, hRt.le hf5, hWt.le hf5⟩⟩ k2) ?_; clear hs
        rintro _ f10 _ a w hf10 ⟨u10, rfl, rfl, hu10⟩ hs
        refine uon hs ?_; clear hs; intro a he
        refine T_any1 he rfl ?_; clear he; intro a w hs
        have hle10 := hle5.trans hf10
        refine RL_callVg hs rfl has21 rfl (law5_clean_ok n (f := f10) (a0 := [.string p0.Name, .string p0.Text, v1, v6]) (R_dom_Part.of (x := p0) ⟨rw2, hR3.le hle10, hW4.le hle10⟩ ⟨rw7, hR8.le hle10, hW9.le hle10⟩) k5) ?_; clear hs
        rintro _ f11 _ a w hf11 ⟨u11, rfl, rfl, hu11⟩ hs
        refine uon hs ?_; clear hs; intro a he
        refine T_any1 he rfl ?_; clear he; intro a w hs
        refine syg hs (y_call rfl has20 rfl (law5_same_ok n (f := f11) (a0 := u10) (a1 := u11) (t_dom_Part.mono hu10 hf11) hu11 k6)) ?_; clear hs; intro a w hs
        refine uon hs ?_; clear hs; intro a he
        refine uy (v := .bool true) 9 he rfl (y_pick rfl rfl) ?_; clear he; intro a he
        refine uy (v := .bool true) 10 he rfl (y_move rfl) ?_; clear he; intro a he
        refine T_any1 he rfl ?_; clear he; intro a w hs
        refine syg hs (y_call rfl has10 rfl (law5_known_ok n (f := f11) hkn)) ?_; clear hs; intro a w hs
        refine uon hs ?_; clear hs; intro a he
        refine uy (v := .bool true) 12 he rfl (y_pick rfl rfl) ?_; clear he; intro a he
        refine uy (v := .bool true) 13 he rfl (y_assign rfl) ?_; clear he; intro a he
        refine T_nil he ?_; clear he; intro w hs
        refine hK20 _ _ ?_
        refine W_ret ?_
        refine RtV1 hs rfl (rv_t hs rfl) ?_
        exact ⟨rfl, ((hs.subL (.cons _ (.cons _ (.cons _ (.cons _ (.cons _ (.cons _ (List.sublist_append_right G' L)))))))).weak (hle10.trans hf11)).cw⟩
end Go.Proofs.Ytekcbgnkikmhpaa
