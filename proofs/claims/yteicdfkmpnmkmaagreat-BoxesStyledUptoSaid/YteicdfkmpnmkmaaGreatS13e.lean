/-
  Walks and laws of this seat.
-/
import Derived.Test.YteicdfkmpnmkmaaGreatS13d
import Derived.Test.YteicdfkmpnmkmaaGreatRows
namespace Go.Proofs.YteicdfkmpnmkmaaGreat
set_option linter.unusedVariables false
set_option linter.unusedSimpArgs false
open Go.RowKit Go.Sl
set_option maxRecDepth 20000 in
set_option maxHeartbeats 4000000 in
theorem kind2_ok {f : Fz} {s : Sty} {above : Int} (hS : StyOK s) (hd : 0 ≤ dispS s ∧ dispS s ≤ 6 ∧ dispS s ≠ 2) : Gives Tryz.prog 69 [.agg s.toArray, .int .i64 above] f (.int .i64 (kindS s above)) := by
  intro w0 L w hC
  refine enter Tryz.func69 rfl Tryz.ntmps69 (by simp) hC fun a hs => ?_
  refine W_seq fun K1 hK1 => ?_
  refine W_region ?_
  refine sbox hs rfl fun b2 _ _ hs => ?_
  refine sy hs (y_assign rfl) fun _ _ hs => ?_
  refine RL_nil ?_
  refine hK1 _ _ ?_; clear hK1
  refine W_cut (fun a w => St 53 w0 f (.blk b2 (.cells s.toArray 28 (0, 0)) :: L) [(1, .int .i64 above), (2, .pointer (some ⟨b2, 0, none⟩)), (4, .int .i64 0), (5, .bool (outS s above))] a w) ?_ (fun a w hI => ?_)
  · refine W_region ?_
    refine sy hs (y_move rfl) fun _ _ hs => ?_
    refine sy hs (y_eql rfl rfl) fun _ _ hs => ?_
    refine sy hs (y_move rfl) fun _ _ hs => ?_
    first | refine St.splitP hs (t := 8) rfl (fun h1 hq => ?_) (fun h1 hq => ?_) | refine St.split hs (t := 8) rfl (fun h1 hq => ?_) (fun h1 hq => ?_)
    · clear hs; have hs := hq; clear hq
      refine sno hs fun _ _ hs => ?_
      refine sno hs fun _ _ hs => ?_
      refine sno hs fun _ _ hs => ?_
      refine sy hs (y_pick rfl rfl) fun _ _ hs => ?_
      refine sy hs (y_move rfl) fun _ _ hs => ?_
      refine sno hs fun _ _ hs => ?_
      refine sno hs fun _ _ hs => ?_
      refine sno hs fun _ _ hs => ?_
      refine sy hs (y_pick rfl rfl) fun _ _ hs => ?_
      refine sy hs (y_move rfl) fun _ _ hs => ?_
      refine sno hs fun _ _ hs => ?_
      refine sno hs fun _ _ hs => ?_
      refine sno hs fun _ _ hs => ?_
      refine sy hs (y_pick rfl rfl) fun _ _ hs => ?_
      refine sy hs (y_assign rfl) fun _ _ hs => ?_
      refine RL_nil ?_
      rw [show outS s above = true by simp [outS, h1]]
      exact hs.sub ⟨rfl, rfl, rfl, rfl, trivial⟩
    · clear hs; have hs := hq; clear hq
      first | (refine syg hs (y_fieldAddr rfl (FO.of (off := 1) Tryz.underlying28 rfl rfl ti3 (by decide))) ?_; clear hs; (try clear a w); intro a w hs) | (refine syg hs (y_faE rfl (FO.of (off := 1) Tryz.underlying28 rfl rfl ti3 (by decide))) ?_; clear hs; (try clear a w); intro a w hs)
      refine syg hs (y_ld (u := .int .i64 (posS s)) rfl Tryz.underlying3 rfl (Cell.blk (.head _) (hS.ld hS.p))) fun _ _ hs => ?_
      refine syg hs (y_eql rfl rfl) fun _ _ hs => ?_
      refine sy hs (y_pick rfl rfl) fun _ _ hs => ?_
      refine sy hs (y_move rfl) fun _ _ hs => ?_
      first | refine St.splitP hs (t := 13) rfl (fun h2 hq => ?_) (fun h2 hq => ?_) | refine St.split hs (t := 13) rfl (fun h2 hq => ?_) (fun h2 hq => ?_)
      · clear hs; have hs := hq; clear hq
        refine sno hs fun _ _ hs => ?_
        refine sno hs fun _ _ hs => ?_
        refine sno hs fun _ _ hs => ?_
        refine sy hs (y_pick rfl rfl) fun _ _ hs => ?_
        refine sy hs (y_move rfl) fun _ _ hs => ?_
        refine sno hs fun _ _ hs => ?_
        refine sno hs fun _ _ hs => ?_
        refine sno hs fun _ _ hs => ?_
        refine sy hs (y_pick rfl rfl) fun _ _ hs => ?_
        refine sy hs (y_assign rfl) fun _ _ hs => ?_
        refine RL_nil ?_
        rw [show outS s above = true by simp [outS, liftS, h2]]
        exact hs.sub ⟨rfl, rfl, rfl, rfl, trivial⟩
      · clear hs; have hs := hq; clear hq
        first | (refine syg hs (y_fieldAddr rfl (FO.of (off := 1) Tryz.underlying28 rfl rfl ti3 (by decide))) ?_; clear hs; (try clear a w); intro a w hs) | (refine syg hs (y_faE rfl (FO.of (off := 1) Tryz.underlying28 rfl rfl ti3 (by decide))) ?_; clear hs; (try clear a w); intro a w hs)
        refine syg hs (y_ld (u := .int .i64 (posS s)) rfl Tryz.underlying3 rfl (Cell.blk (.head _) (hS.ld hS.p))) fun _ _ hs => ?_
        refine syg hs (y_eql rfl rfl) fun _ _ hs => ?_
        refine sy hs (y_pick rfl rfl) fun _ _ hs => ?_
        refine sy hs (y_move rfl) fun _ _ hs => ?_
        first | refine St.splitP hs (t := 18) rfl (fun h3 hq => ?_) (fun h3 hq => ?_) | refine St.split hs (t := 18) rfl (fun h3 hq => ?_) (fun h3 hq => ?_)
        · clear hs; have hs := hq; clear hq
          refine sno hs fun _ _ hs => ?_
          refine sno hs fun _ _ hs => ?_
          refine sno hs fun _ _ hs => ?_
          refine sy hs (y_pick rfl rfl) fun _ _ hs => ?_
          refine sy hs (y_assign rfl) fun _ _ hs => ?_
          refine RL_nil ?_
          rw [show outS s above = true by simp [outS, liftS, h3]]
          exact hs.sub ⟨rfl, rfl, rfl, rfl, trivial⟩
        · clear hs; have hs := hq; clear hq
          first | (refine syg hs (y_fieldAddr rfl (FO.of (off := 2) Tryz.underlying28 rfl rfl ti3 (by decide))) ?_; clear hs; (try clear a w); intro a w hs) | (refine syg hs (y_faE rfl (FO.of (off := 2) Tryz.underlying28 rfl rfl ti3 (by decide))) ?_; clear hs; (try clear a w); intro a w hs)
          refine syg hs (y_ld (u := .int .i64 (floS s)) rfl Tryz.underlying3 rfl (Cell.blk (.head _) (hS.ld hS.f))) fun _ _ hs => ?_
          refine syg hs (y_neq rfl rfl) fun _ _ hs => ?_
          refine sy hs (y_pick rfl rfl) fun _ _ hs => ?_
          refine sy hs (y_assign rfl) fun _ _ hs => ?_
          refine RL_nil ?_
          rw [show outS s above = decide (floS s ≠ 0) by simp [outS, liftS, h1, h2, h3]]
          exact hs.sub ⟨rfl, rfl, rfl, rfl, trivial⟩
  · have hs := hI; clear hI
    refine W_seq fun K3 hK3 => ?_
    refine W_seq fun K4 hK4 => ?_
    refine W_region ?_
    first | (refine sy hs (y_fieldAddr rfl (FO.of (off := 0) Tryz.underlying28 rfl rfl ti3 (by decide))) ?_; clear hs; (try clear a w); intro a w hs) | (refine sy hs (y_faE rfl (FO.of (off := 0) Tryz.underlying28 rfl rfl ti3 (by decide))) ?_; clear hs; (try clear a w); intro a w hs)
    refine sy hs (y_ld (u := .int .i64 (dispS s)) rfl Tryz.underlying3 rfl (Cell.blk (.head _) (hS.ld hS.d))) fun _ _ hs => ?_
    refine RL_nil ?_
    refine hK4 _ _ ?_; clear hK4
    refine W_block fun Qe5 hB5 hO5 => ?_
    refine W_seq fun K6 hK6 => ?_
    refine W_region ?_
    refine sy hs (y_eql rfl rfl) fun _ _ hs => ?_
    refine sy hs (y_assign rfl) fun _ _ hs => ?_
    refine RL_nil ?_
    refine hK6 _ _ ?_; clear hK6
    first | refine W_condP hs rfl (fun d3 => ?_) (fun d3 => ?_) | refine W_cond hs rfl (fun d3 => ?_) (fun d3 => ?_)
    · refine W_seq fun K7 hK7 => ?_
      refine W_region ?_
      refine sy hs (y_assign rfl) fun _ _ hs => ?_
      refine RL_nil ?_
      refine hK7 _ _ ?_; clear hK7
      refine W_ret ?_
      refine Rt_1 hs rfl rfl ?_
      exact ⟨by rw [kindS, if_neg (by omega), if_pos d3], hs.cw.tail⟩
    · refine W_seq fun K8 hK8 => ?_
      refine W_region ?_
      refine sy hs (y_eql rfl rfl) fun _ _ hs => ?_
      refine sy hs (y_assign rfl) fun _ _ hs => ?_
      refine RL_nil ?_
      refine hK8 _ _ ?_; clear hK8
      first | refine W_condP hs rfl (fun d4 => ?_) (fun d4 => ?_) | refine W_cond hs rfl (fun d4 => ?_) (fun d4 => ?_)
      · refine W_seq fun K9 hK9 => ?_
        refine W_region ?_
        refine sy hs (y_assign rfl) fun _ _ hs => ?_
        refine RL_nil ?_
        refine hK9 _ _ ?_; clear hK9
        refine W_ret ?_
        refine Rt_1 hs rfl rfl ?_
        exact ⟨by rw [kindS, if_neg (by omega), if_neg d3, if_pos d4], hs.cw.tail⟩
      · refine W_seq fun K10 hK10 => ?_
        refine W_region ?_
        refine sy hs (y_eql rfl rfl) fun _ _ hs => ?_
        refine sy hs (y_assign rfl) fun _ _ hs => ?_
        refine RL_nil ?_
        refine hK10 _ _ ?_; clear hK10
        first | refine W_condP hs rfl (fun d5 => ?_) (fun d5 => ?_) | refine W_cond hs rfl (fun d5 => ?_) (fun d5 => ?_)
        · refine W_seq fun K11 hK11 => ?_
          refine W_seq fun K12 hK12 => ?_
          refine W_region ?_
          refine sy hs (y_move rfl) fun _ _ hs => ?_
          refine sy hs (y_eql rfl rfl) fun _ _ hs => ?_
          refine sy hs (y_move rfl) fun _ _ hs => ?_
          first | refine St.splitP hs (t := 33) rfl (fun h1 hq => ?_) (fun h1 hq => ?_) | refine St.split hs (t := 33) rfl (fun h1 hq => ?_) (fun h1 hq => ?_)
          · clear hs; have hs := hq; clear hq
            refine syg hs (y_move rfl) fun _ _ hs => ?_
            refine syg hs (y_not rfl) fun _ _ hs => ?_
            refine sy hs (y_pick rfl rfl) fun _ _ hs => ?_
            refine RL_nil ?_
            refine hK12 _ _ ?_; clear hK12
            first | refine W_condP hs rfl (fun h2 => ?_) (fun h2 => ?_) | refine W_cond hs rfl (fun h2 => ?_) (fun h2 => ?_)
            · refine W_seq fun K13 hK13 => ?_
              refine W_region ?_
              refine sy hs (y_assign rfl) fun _ _ hs => ?_
              refine RL_nil ?_
              refine hK13 _ _ ?_; clear hK13
              refine W_ret ?_
              refine Rt_1 hs rfl rfl ?_
              exact ⟨by rw [kindS, if_neg (by omega), if_neg d3, if_neg d4, if_pos d5, if_pos ⟨h1, by simpa using h2⟩], hs.cw.tail⟩
            · refine W_skip ?_
              refine hK11 _ _ ?_; clear hK11
              refine W_seq fun K14 hK14 => ?_
              refine W_region ?_
              refine sy hs (y_assign rfl) fun _ _ hs => ?_
              refine RL_nil ?_
              refine hK14 _ _ ?_; clear hK14
              refine W_ret ?_
              refine Rt_1 hs rfl rfl ?_
              exact ⟨by rw [kindS, if_neg (by omega), if_neg d3, if_neg d4, if_pos d5, if_neg (fun e => by rw [e.2] at h2; simp at h2)], hs.cw.tail⟩
          · clear hs; have hs := hq; clear hq
            refine sno hs fun _ _ hs => ?_
            refine sno hs fun _ _ hs => ?_
            refine sy hs (y_pick rfl rfl) fun _ _ hs => ?_
            refine RL_nil ?_
            refine hK12 _ _ ?_; clear hK12
            refine W_condF hs rfl ?_
            refine W_skip ?_
            refine hK11 _ _ ?_; clear hK11
            refine W_seq fun K15 hK15 => ?_
            refine W_region ?_
            refine sy hs (y_assign rfl) fun _ _ hs => ?_
            refine RL_nil ?_
            refine hK15 _ _ ?_; clear hK15
            refine W_ret ?_
            refine Rt_1 hs rfl rfl ?_
            exact ⟨by rw [kindS, if_neg (by omega), if_neg d3, if_neg d4, if_pos d5, if_neg (fun e => h1 e.1)], hs.cw.tail⟩
        · refine W_seq fun K16 hK16 => ?_
          refine W_region ?_
          refine sy hs (y_eql rfl rfl) fun _ _ hs => ?_
          refine sy hs (y_assign rfl) fun _ _ hs => ?_
          refine RL_nil ?_
          refine hK16 _ _ ?_; clear hK16
          first | refine W_condP hs rfl (fun d6 => ?_) (fun d6 => ?_) | refine W_cond hs rfl (fun d6 => ?_) (fun d6 => ?_)
          · refine W_seq fun K17 hK17 => ?_
            refine W_seq fun K18 hK18 => ?_
            refine W_region ?_
            refine sy hs (y_move rfl) fun _ _ hs => ?_
            refine sy hs (y_eql rfl rfl) fun _ _ hs => ?_
            refine sy hs (y_move rfl) fun _ _ hs => ?_
            first | refine St.splitP hs (t := 41) rfl (fun h1 hq => ?_) (fun h1 hq => ?_) | refine St.split hs (t := 41) rfl (fun h1 hq => ?_) (fun h1 hq => ?_)
            · clear hs; have hs := hq; clear hq
              refine syg hs (y_move rfl) fun _ _ hs => ?_
              refine syg hs (y_not rfl) fun _ _ hs => ?_
              refine sy hs (y_pick rfl rfl) fun _ _ hs => ?_
              refine RL_nil ?_
              refine hK18 _ _ ?_; clear hK18
              first | refine W_condP hs rfl (fun h2 => ?_) (fun h2 => ?_) | refine W_cond hs rfl (fun h2 => ?_) (fun h2 => ?_)
              · refine W_seq fun K19 hK19 => ?_
                refine W_region ?_
                refine sy hs (y_assign rfl) fun _ _ hs => ?_
                refine RL_nil ?_
                refine hK19 _ _ ?_; clear hK19
                refine W_ret ?_
                refine Rt_1 hs rfl rfl ?_
                exact ⟨by rw [kindS, if_neg (by omega), if_neg d3, if_neg d4, if_neg d5, if_pos d6, if_pos ⟨h1, by simpa using h2⟩], hs.cw.tail⟩
              · refine W_skip ?_
                refine hK17 _ _ ?_; clear hK17
                refine W_seq fun K20 hK20 => ?_
                refine W_region ?_
                refine sy hs (y_assign rfl) fun _ _ hs => ?_
                refine RL_nil ?_
                refine hK20 _ _ ?_; clear hK20
                refine W_ret ?_
                refine Rt_1 hs rfl rfl ?_
                exact ⟨by rw [kindS, if_neg (by omega), if_neg d3, if_neg d4, if_neg d5, if_pos d6, if_neg (fun e => by rw [e.2] at h2; simp at h2)], hs.cw.tail⟩
            · clear hs; have hs := hq; clear hq
              refine sno hs fun _ _ hs => ?_
              refine sno hs fun _ _ hs => ?_
              refine sy hs (y_pick rfl rfl) fun _ _ hs => ?_
              refine RL_nil ?_
              refine hK18 _ _ ?_; clear hK18
              refine W_condF hs rfl ?_
              refine W_skip ?_
              refine hK17 _ _ ?_; clear hK17
              refine W_seq fun K21 hK21 => ?_
              refine W_region ?_
              refine sy hs (y_assign rfl) fun _ _ hs => ?_
              refine RL_nil ?_
              refine hK21 _ _ ?_; clear hK21
              refine W_ret ?_
              refine Rt_1 hs rfl rfl ?_
              exact ⟨by rw [kindS, if_neg (by omega), if_neg d3, if_neg d4, if_neg d5, if_pos d6, if_neg (fun e => h1 e.1)], hs.cw.tail⟩
          · refine W_seq fun K22 hK22 => ?_
            refine W_region ?_
            refine sy hs (y_eql rfl rfl) fun _ _ hs => ?_
            refine sy hs (y_assign rfl) fun _ _ hs => ?_
            refine RL_nil ?_
            refine hK22 _ _ ?_; clear hK22
            first | refine W_condP hs rfl (fun d0 => ?_) (fun d0 => ?_) | refine W_cond hs rfl (fun d0 => ?_) (fun d0 => ?_)
            · refine W_seq fun K23 hK23 => ?_
              refine W_region ?_
              refine sy hs (y_move rfl) fun _ _ hs => ?_
              refine sy hs (y_not rfl) fun _ _ hs => ?_
              refine sy hs (y_move rfl) fun _ _ hs => ?_
              first | refine St.splitP hs (t := 49) rfl (fun h1 hq => ?_) (fun h1 hq => ?_) | refine St.split hs (t := 49) rfl (fun h1 hq => ?_) (fun h1 hq => ?_)
              · clear hs; have hs := hq; clear hq
                refine syg hs (y_move rfl) fun _ _ hs => ?_
                refine syg hs (y_neq rfl rfl) fun _ _ hs => ?_
                refine sy hs (y_pick rfl rfl) fun _ _ hs => ?_
                refine RL_nil ?_
                refine hK23 _ _ ?_; clear hK23
                first | refine W_condP hs rfl (fun h2 => ?_) (fun h2 => ?_) | refine W_cond hs rfl (fun h2 => ?_) (fun h2 => ?_)
                · refine W_seq fun K24 hK24 => ?_
                  refine W_region ?_
                  refine sy hs (y_assign rfl) fun _ _ hs => ?_
                  refine RL_nil ?_
                  refine hK24 _ _ ?_; clear hK24
                  refine W_ret ?_
                  refine Rt_1 hs rfl rfl ?_
                  exact ⟨by rw [kindS, if_neg (by omega), if_neg d3, if_neg d4, if_neg d5, if_neg d6, if_neg (fun e => e.elim (fun e => by rw [e] at h1; simp at h1) h2)], hs.cw.tail⟩
                · refine W_skip ?_
                  refine hK3 _ _ ?_; clear hK3
                  refine W_seq fun K25 hK25 => ?_
                  refine W_region ?_
                  refine sy hs (y_assign rfl) fun _ _ hs => ?_
                  refine RL_nil ?_
                  refine hK25 _ _ ?_; clear hK25
                  refine W_ret ?_
                  refine Rt_1 hs rfl rfl ?_
                  exact ⟨by rw [kindS, if_neg (by omega), if_neg d3, if_neg d4, if_neg d5, if_neg d6, if_pos (.inr (by omega))], hs.cw.tail⟩
              · clear hs; have hs := hq; clear hq
                refine sno hs fun _ _ hs => ?_
                refine sno hs fun _ _ hs => ?_
                refine sy hs (y_pick rfl rfl) fun _ _ hs => ?_
                refine RL_nil ?_
                refine hK23 _ _ ?_; clear hK23
                refine W_condF hs rfl ?_
                refine W_skip ?_
                refine hK3 _ _ ?_; clear hK3
                refine W_seq fun K26 hK26 => ?_
                refine W_region ?_
                refine sy hs (y_assign rfl) fun _ _ hs => ?_
                refine RL_nil ?_
                refine hK26 _ _ ?_; clear hK26
                refine W_ret ?_
                refine Rt_1 hs rfl rfl ?_
                exact ⟨by rw [kindS, if_neg (by omega), if_neg d3, if_neg d4, if_neg d5, if_neg d6, if_pos (.inl (by simpa using h1))], hs.cw.tail⟩
            · refine W_skip ?_
              refine hK3 _ _ ?_; clear hK3
              refine W_seq fun K27 hK27 => ?_
              refine W_region ?_
              refine sy hs (y_assign rfl) fun _ _ hs => ?_
              refine RL_nil ?_
              refine hK27 _ _ ?_; clear hK27
              refine W_ret ?_
              refine Rt_1 hs rfl rfl ?_
              exact ⟨by rw [kindS, if_pos (by omega)], hs.cw.tail⟩
set_option maxRecDepth 20000 in
theorem blankR_ok {f : Fz} {r : Int} : Gives Tryz.prog 45 [.int .i32 r] f (.bool (decide (r = 9) || (decide (r = 10) || (decide (r = 12) || decide (r = 32))))) := by
  intro w0 L w hC
  refine enter Tryz.func45 rfl Tryz.ntmps45 (by simp) hC fun a hs => ?_
  refine W_seq fun K1 hK1 => ?_
  refine W_region ?_
  refine sy hs (y_assign rfl) fun _ _ hs => ?_
  refine RL_nil ?_
  refine hK1 _ _ ?_; clear hK1
  refine W_seq fun K2 hK2 => ?_
  refine W_region ?_
  refine sy hs (y_move rfl) fun _ _ hs => ?_
  refine sy hs (y_eql rfl rfl) fun _ _ hs => ?_
  refine sy hs (y_move rfl) fun _ _ hs => ?_
  first | refine St.splitP hs (t := 5) rfl (fun h1 hq => ?_) (fun h1 hq => ?_) | refine St.split hs (t := 5) rfl (fun h1 hq => ?_) (fun h1 hq => ?_)
  · clear hs; have hs := hq; clear hq
    refine sno hs fun _ _ hs => ?_
    refine sno hs fun _ _ hs => ?_
    refine sy hs (y_pick rfl rfl) fun _ _ hs => ?_
    refine sy hs (y_move rfl) fun _ _ hs => ?_
    refine sno hs fun _ _ hs => ?_
    refine sno hs fun _ _ hs => ?_
    refine sy hs (y_pick rfl rfl) fun _ _ hs => ?_
    refine sy hs (y_move rfl) fun _ _ hs => ?_
    refine sno hs fun _ _ hs => ?_
    refine sno hs fun _ _ hs => ?_
    refine sy hs (y_pick rfl rfl) fun _ _ hs => ?_
    refine sy hs (y_assign rfl) fun _ _ hs => ?_
    refine RL_nil ?_
    refine hK2 _ _ ?_; clear hK2
    refine W_ret ?_
    refine Rt_1 hs rfl rfl ?_
    exact ⟨by simp [h1], hs.cw⟩
  · clear hs; have hs := hq; clear hq
    refine syg hs (y_move rfl) fun _ _ hs => ?_
    refine syg hs (y_eql rfl rfl) fun _ _ hs => ?_
    refine sy hs (y_pick rfl rfl) fun _ _ hs => ?_
    refine sy hs (y_move rfl) fun _ _ hs => ?_
    first | refine St.splitP hs (t := 9) rfl (fun h2 hq => ?_) (fun h2 hq => ?_) | refine St.split hs (t := 9) rfl (fun h2 hq => ?_) (fun h2 hq => ?_)
    · clear hs; have hs := hq; clear hq
      refine sno hs fun _ _ hs => ?_
      refine sno hs fun _ _ hs => ?_
      refine sy hs (y_pick rfl rfl) fun _ _ hs => ?_
      refine sy hs (y_move rfl) fun _ _ hs => ?_
      refine sno hs fun _ _ hs => ?_
      refine sno hs fun _ _ hs => ?_
      refine sy hs (y_pick rfl rfl) fun _ _ hs => ?_
      refine sy hs (y_assign rfl) fun _ _ hs => ?_
      refine RL_nil ?_
      refine hK2 _ _ ?_; clear hK2
      refine W_ret ?_
      refine Rt_1 hs rfl rfl ?_
      exact ⟨by simp [h2], hs.cw⟩
    · clear hs; have hs := hq; clear hq
      refine syg hs (y_move rfl) fun _ _ hs => ?_
      refine syg hs (y_eql rfl rfl) fun _ _ hs => ?_
      refine sy hs (y_pick rfl rfl) fun _ _ hs => ?_
      refine sy hs (y_move rfl) fun _ _ hs => ?_
      first | refine St.splitP hs (t := 13) rfl (fun h3 hq => ?_) (fun h3 hq => ?_) | refine St.split hs (t := 13) rfl (fun h3 hq => ?_) (fun h3 hq => ?_)
      · clear hs; have hs := hq; clear hq
        refine sno hs fun _ _ hs => ?_
        refine sno hs fun _ _ hs => ?_
        refine sy hs (y_pick rfl rfl) fun _ _ hs => ?_
        refine sy hs (y_assign rfl) fun _ _ hs => ?_
        refine RL_nil ?_
        refine hK2 _ _ ?_; clear hK2
        refine W_ret ?_
        refine Rt_1 hs rfl rfl ?_
        exact ⟨by simp [h3], hs.cw⟩
      · clear hs; have hs := hq; clear hq
        refine syg hs (y_move rfl) fun _ _ hs => ?_
        refine syg hs (y_eql rfl rfl) fun _ _ hs => ?_
        refine sy hs (y_pick rfl rfl) fun _ _ hs => ?_
        refine sy hs (y_assign rfl) fun _ _ hs => ?_
        refine RL_nil ?_
        refine hK2 _ _ ?_; clear hK2
        refine W_ret ?_
        refine Rt_1 hs rfl rfl ?_
        exact ⟨by simp [h1, h2, h3], hs.cw⟩
set_option maxRecDepth 20000 in
theorem taken_ok {f : Fz} {k n i : Int} {s : Sty} {t : ByteArray} {kv : Value} {g : Int} {fl : Bool} (hS : s.length = 52) : Gives Tryz.prog 105 [.agg (cB k n i s t kv).toArray, .int .i64 g, .bool fl] f (.bool (if g = 1 then levelK k && (!fl || decide (k ≠ 6)) else decide (k ≠ g))) := by
  intro w0 L w hC
  refine enter Tryz.func105 rfl Tryz.ntmps105 (by simp) hC fun a hs => ?_
  refine W_seq fun K1 hK1 => ?_
  refine W_region ?_
  refine sbox hs rfl fun b3 _ _ hs => ?_
  refine sy hs (y_assign rfl) fun _ _ hs => ?_
  refine RL_nil ?_
  refine hK1 _ _ ?_; clear hK1
  refine W_seq fun K2 hK2 => ?_
  refine W_seq fun K3 hK3 => ?_
  refine W_region ?_
  refine sy hs (y_move rfl) fun _ _ hs => ?_
  refine sy hs (y_eql rfl rfl) fun _ _ hs => ?_
  refine RL_nil ?_
  refine hK3 _ _ ?_; clear hK3
  first | refine W_condP hs rfl (fun hg => ?_) (fun hg => ?_) | refine W_cond hs rfl (fun hg => ?_) (fun hg => ?_)
  · refine W_seq fun K4 hK4 => ?_
    refine W_region ?_
    refine sy hs (y_ldB rfl Tryz.underlying44 rfl ti44 (.head _) (by simp [cB, hS])) fun _ _ hs => ?_
    refine sy hs (y_call rfl has129 rfl level_ok) fun _ _ hs => ?_
    refine sy hs (y_move rfl) fun _ _ hs => ?_
    first | refine St.splitP hs (t := 11) rfl (fun h1 hq => ?_) (fun h1 hq => ?_) | refine St.split hs (t := 11) rfl (fun h1 hq => ?_) (fun h1 hq => ?_)
    · clear hs; have hs := hq; clear hq
      refine syg hs (y_move rfl) fun _ _ hs => ?_
      refine syg hs (y_not rfl) fun _ _ hs => ?_
      refine syg hs (y_move rfl) fun _ _ hs => ?_
      first | refine St.splitP hs (t := 14) rfl (fun h2 hq => ?_) (fun h2 hq => ?_) | refine St.split hs (t := 14) rfl (fun h2 hq => ?_) (fun h2 hq => ?_)
      · clear hs; have hs := hq; clear hq
        refine sno hs fun _ _ hs => ?_
        refine sno hs fun _ _ hs => ?_
        refine sno hs fun _ _ hs => ?_
        refine syg hs (y_pick rfl rfl) fun _ _ hs => ?_
        refine sy hs (y_pick rfl rfl) fun _ _ hs => ?_
        refine sy hs (y_assign rfl) fun _ _ hs => ?_
        refine RL_nil ?_
        refine hK4 _ _ ?_; clear hK4
        refine W_ret ?_
        refine Rt_1 hs rfl rfl ?_
        exact ⟨by rw [if_pos hg, h1]; simp only [Bool.not_eq_true'] at h2; simp [h2], hs.cw.tail⟩
      · clear hs; have hs := hq; clear hq
        first | (refine syg hs (y_fieldAddr rfl (FO.of (off := 0) Tryz.underlying44 rfl rfl ti3 (by decide))) ?_; clear hs; (try clear a w); intro a w hs) | (refine syg hs (y_faE rfl (FO.of (off := 0) Tryz.underlying44 rfl rfl ti3 (by decide))) ?_; clear hs; (try clear a w); intro a w hs)
        first | (refine syg hs (y_ld rfl Tryz.underlying3 rfl) ?_; clear hs; (try clear a w); intro a w hs) | (refine syg hs (y_ldE rfl Tryz.underlying3 rfl) ?_; clear hs; (try clear a w); intro a w hs)
        refine syg hs (y_neq rfl rfl) fun _ _ hs => ?_
        refine syg hs (y_pick rfl rfl) fun _ _ hs => ?_
        refine sy hs (y_pick rfl rfl) fun _ _ hs => ?_
        refine sy hs (y_assign rfl) fun _ _ hs => ?_
        refine RL_nil ?_
        refine hK4 _ _ ?_; clear hK4
        refine W_ret ?_
        refine Rt_1 hs rfl rfl ?_
        exact ⟨by rw [if_pos hg, h1]; simp only [Bool.not_eq_false'] at h2; simp [h2], hs.cw.tail⟩
    · clear hs; have hs := hq; clear hq
      refine sno hs fun _ _ hs => ?_
      refine sno hs fun _ _ hs => ?_
      refine sno hs fun _ _ hs => ?_
      refine sun hs fun _ _ hs => ?_
      refine sun hs fun _ _ hs => ?_
      refine sun hs fun _ _ hs => ?_
      refine sno hs fun _ _ hs => ?_
      refine sy hs (y_pick rfl rfl) fun _ _ hs => ?_
      refine sy hs (y_assign rfl) fun _ _ hs => ?_
      refine RL_nil ?_
      refine hK4 _ _ ?_; clear hK4
      refine W_ret ?_
      refine Rt_1 hs rfl rfl ?_
      exact ⟨by rw [if_pos hg, h1]; rfl, hs.cw.tail⟩
  · refine W_skip ?_
    refine hK2 _ _ ?_; clear hK2
    refine W_seq fun K5 hK5 => ?_
    refine W_region ?_
    first | (refine sy hs (y_fieldAddr rfl (FO.of (off := 0) Tryz.underlying44 rfl rfl ti3 (by decide))) ?_; clear hs; (try clear a w); intro a w hs) | (refine sy hs (y_faE rfl (FO.of (off := 0) Tryz.underlying44 rfl rfl ti3 (by decide))) ?_; clear hs; (try clear a w); intro a w hs)
    first | (refine sy hs (y_ld rfl Tryz.underlying3 rfl) ?_; clear hs; (try clear a w); intro a w hs) | (refine sy hs (y_ldE rfl Tryz.underlying3 rfl) ?_; clear hs; (try clear a w); intro a w hs)
    refine sy hs (y_move rfl) fun _ _ hs => ?_
    refine sy hs (y_neq rfl rfl) fun _ _ hs => ?_
    refine sy hs (y_assign rfl) fun _ _ hs => ?_
    refine RL_nil ?_
    refine hK5 _ _ ?_; clear hK5
    refine W_ret ?_
    refine Rt_1 hs rfl rfl ?_
    exact ⟨by rw [if_neg hg], hs.cw.tail⟩
end Go.Proofs.YteicdfkmpnmkmaaGreat
