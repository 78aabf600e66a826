/-
  Walks and laws of this seat.
-/
import Derived.Test.YteicdfkmpnmkmaaGreatS13q
import Derived.Test.YteicdfkmpnmkmaaGreatS13n
import Derived.Test.YteicdfkmpnmkmaaGreatRows
namespace Go.Proofs.YteicdfkmpnmkmaaGreat
set_option linter.unusedVariables false
set_option linter.unusedSimpArgs false
open Go.RowKit Go.Sl
def Made2OK (ns : List api_Node) (ss : List Sty) (v0 lv : Value) (d : Nat) : Prop := ∀ (f : Fz) (m : Nat) (above heavy : Int), RS t_api_Node f v0 ns → Rd f [] lv 52 ss → m < ns.length → ns.length - m ≤ d → 0 ≤ heavy → heavy ≤ m →
  Does Tryz.prog 39 [.agg #[v0], lv, .int .i64 m, .int .i64 above, .int .i64 heavy] f [] (madeR 44 (buildM ns ss d m above heavy))
theorem set_disp {s : Sty} {v : Value} {j : Nat} (hj : j ≠ 0) : dispS (s.set j v) = dispS s := by
  rw [dispS, dispS, intAt, intAt, List.getElem?_set_ne hj]
theorem styM_disp {s : Sty} {above heavy : Int} : dispS (styM s above heavy) = dispS s := by
  have h1 : dispS (sty1 s heavy) = dispS s := by
    unfold sty1
    split
    · exact set_disp (by decide)
    · rfl
  unfold styM
  split
  · rw [set_disp (by decide), h1]
  · exact h1
theorem pmQ {x1 x2 x3 x4 y : Ent} {A C B : List Ent} : (B ++ (x1 :: x2 :: x3 :: x4 :: y :: (A ++ C))).Perm (x1 :: x2 :: x3 :: x4 :: y :: (A ++ (B ++ C))) :=
  perm_of_count fun a => by simp only [List.count_append, List.count_cons]; omega
theorem pmQ5 {x0 x1 x2 x3 x4 y : Ent} {A C B : List Ent} : (B ++ (x0 :: x1 :: x2 :: x3 :: x4 :: y :: (A ++ C))).Perm (x0 :: x1 :: x2 :: x3 :: x4 :: y :: (A ++ (B ++ C))) :=
  perm_of_count fun a => by simp only [List.count_append, List.count_cons]; omega
theorem pmR {x1 x2 x3 x4 y : Ent} {A C : List Ent} : (x1 :: x2 :: x3 :: x4 :: y :: (A ++ C)).Perm ((y :: A) ++ (x1 :: x2 :: x3 :: x4 :: C)) :=
  perm_of_count fun a => by simp only [List.count_append, List.count_cons, List.cons_append]; omega
theorem pmS {x1 x2 x3 x4 y : Ent} {C : List Ent} : (y :: x1 :: x2 :: x3 :: x4 :: C).Perm (x1 :: x2 :: x3 :: x4 :: y :: C) :=
  perm_of_count fun a => by simp only [List.count_cons]; omega
set_option maxRecDepth 20000 in
set_option maxHeartbeats 16000000 in
theorem made2_step {ns : List api_Node} {ss : List Sty} {v0 lv : Value} {d : Nat} (hT : RT ns) (hSS : ∀ s ∈ ss, StyOK s ∧ 0 ≤ dispS s ∧ dispS s ≤ 6) (hsl : ss.length = ns.length) (ih : Made2OK ns ss v0 lv d) : Made2OK ns ss v0 lv (d + 1) := by
  intro f m above heavy hN hL hm hd hh0 hhm w0 L w hC
  have hv1 := hN.one
  have hN0 := hN
  obtain ⟨nrows, hNR, hNW⟩ := hN
  obtain ⟨nr, hn1, va, rfl, hva⟩ := hNW.get (nd_get ns hm)
  have hnl : m < nrows.length := (List.getElem?_eq_some_iff.1 hn1).1
  obtain ⟨s0, hs0⟩ : ∃ s0, ss.getD m [] = s0 := ⟨_, rfl⟩
  have hsm : ss[m]? = some s0 := by rw [← hs0, List.getD_eq_getElem?_getD, List.getElem?_eq_getElem (by omega)]; rfl
  obtain ⟨hS, hds⟩ := hSS _ (List.mem_of_getElem? hsm)
  have hsml := hT.small
  obtain ⟨kd1, kd2, kd3, kd4⟩ := kd_eq hT hm
  have hva1 := hva.one
  refine enter Tryz.func39 rfl Tryz.ntmps39 (by simp) hC fun a hs => ?_
  refine W_seq fun K1 hK1 => ?_
  refine W_region ?_
  refine sbox (cs := #[v0]) hs rfl fun b5 _ _ hs => ?_
  refine RL_alloc hs ti44 (.free rfl) (by decide) fun b10 _ _ hs => ?_
  refine sy hs (y_assign rfl) fun _ _ hs => ?_
  refine RL_nil ?_
  refine hK1 _ _ ?_; clear hK1
  refine W_seq fun K2 hK2 => ?_
  refine W_region ?_
  first | (refine sy hs (y_fieldAddr rfl (FO.of (off := 0) Tryz.underlying37 rfl rfl ti35 (by decide))) ?_; clear hs; (try clear a w); intro a w hs) | (refine sy hs (y_faE rfl (FO.of (off := 0) Tryz.underlying37 rfl rfl ti35 (by decide))) ?_; clear hs; (try clear a w); intro a w hs)
  refine sy hs (y_ld (u := v0) rfl Tryz.underlying35 rfl (Cell.blk (.tail _ (.head _)) rfl)) fun _ _ hs => ?_
  refine sy hs (y_move rfl) fun _ _ hs => ?_
  refine sy hs (y_indexAddr hNR rfl rfl rfl hnl Tryz.underlying35 ti57) fun _ _ hs => ?_
  refine sy hs (y_ldRow rfl Tryz.underlying57 rfl ti57 hNR.up hn1) fun _ _ hs => ?_
  refine RL_alloc hs ti57 (.free rfl) (by decide) fun b12 _ _ hs => ?_
  refine RL_storeAll (i := 0) hs rfl rfl rfl ti57 ⟨rfl, rfl⟩ (AllC.arr ⟨rfl, rfl, rfl, hva1, rfl, rfl, rfl, rfl, rfl, trivial⟩) (.free rfl) fun _ _ hs => ?_
  refine RL_nil ?_
  refine hK2 _ _ ?_; clear hK2
  refine W_seq fun K3 hK3 => ?_
  refine W_region ?_
  refine sy hs (y_move rfl) fun _ _ hs => ?_
  refine sy hs (y_move rfl) fun _ _ hs => ?_
  refine sy hs (y_indexAddr hL rfl rfl rfl (by omega) Tryz.underlying40 ti28) fun _ _ hs => ?_
  refine sy hs (y_ldRow rfl Tryz.underlying28 rfl ti28 hL.up hsm) fun _ _ hs => ?_
  refine RL_alloc hs ti28 (.free rfl) (by decide) fun b13 _ _ hs => ?_
  refine RL_storeAll (i := 0) hs rfl rfl rfl ti28 ⟨rfl, by simp [hS.len]⟩ (one_arr ⟨rfl, hS.one⟩) (.free rfl) fun _ _ hs => ?_
  refine RL_nil ?_
  refine hK3 _ _ ?_; clear hK3
  refine W_seq fun K4 hK4 => ?_
  refine W_seq fun K5 hK5 => ?_
  refine W_region ?_
  first | (refine sy hs (y_fieldAddr rfl (FO.of (off := 0) Tryz.underlying57 rfl rfl ti3 (by decide))) ?_; clear hs; (try clear a w); intro a w hs) | (refine sy hs (y_faE rfl (FO.of (off := 0) Tryz.underlying57 rfl rfl ti3 (by decide))) ?_; clear hs; (try clear a w); intro a w hs)
  refine sy hs (y_ld (u := .int .i64 (nd ns m).Kind) rfl Tryz.underlying3 rfl (Cell.blk (.tail _ (.head _)) rfl)) fun _ _ hs => ?_
  refine sy hs (y_eql rfl rfl) fun _ _ hs => ?_
  refine RL_nil ?_
  refine hK5 _ _ ?_; clear hK5
  first | refine W_condP hs rfl (fun hk2 => ?_) (fun hk2 => ?_) | refine W_cond hs rfl (fun hk2 => ?_) (fun hk2 => ?_)
  · refine W_seq fun K6 hK6 => ?_
    refine W_region ?_
    refine sy hs (y_move rfl) fun _ _ hs => ?_
    refine sy hs (y_ldB rfl Tryz.underlying28 rfl ti28 (.head _) (by simp [hS.len])) fun _ _ hs => ?_
    first | (refine sy hs (y_fieldAddr rfl (FO.of (off := 2) Tryz.underlying57 rfl rfl ti9 (by decide))) ?_; clear hs; (try clear a w); intro a w hs) | (refine sy hs (y_faE rfl (FO.of (off := 2) Tryz.underlying57 rfl rfl ti9 (by decide))) ?_; clear hs; (try clear a w); intro a w hs)
    refine sy hs (y_ld (u := .string (nd ns m).Text) rfl Tryz.underlying9 rfl (Cell.blk (.tail _ (.head _)) rfl)) fun _ _ hs => ?_
    refine sy hs (y_buildN (places := boxP) (zl := zB) (ls := [(0, [.int .i64 7]), (1, [.int .i64 m]), (3, s0), (4, [.string (nd ns m).Text])]) (cs := cB 7 m 0 s0 (nd ns m).Text (.slice none 0 0)) rfl Tryz.underlying44 ti44 (by kernel_rfl) ⟨rfl, rfl, rfl, rfl, rfl, rfl, rfl, rfl, trivial⟩ (by rw [zB_eq, put0 rfl, put1 rfl, put3 rfl hS.len, put4 hS.len]; rfl)) fun _ _ hs => ?_
    refine RL_storeAll (i := 2) hs rfl rfl rfl ti44 ⟨rfl, by simp [cB_len hS.len]⟩ (one_arr (cB_one hS rfl)) (.free rfl) fun _ _ hs => ?_
    refine sy hs (y_assign rfl) fun _ _ hs => ?_
    refine RL_nil ?_
    refine hK6 _ _ ?_; clear hK6
    refine W_ret ?_
    refine RtV2 hs rfl (rv_a hs rfl Tryz.underlying44 rfl ti44 (fun j u hj => Cell.blk (.tail _ (.tail _ (.head _))) hj) (by simp [cB_len hS.len])) (rv_t hs rfl) ?_
    refine ⟨_, _, [.row (.slice none 0 0) 44 57 []], rfl, .refl _, (hs.cw.tail.tail.tail.tail.nilRow 44 57), _, by rw [buildM, hs0, if_pos hk2]; rfl, cB_one hS rfl, ?_⟩
    rw [buildM, hs0, if_pos hk2]
    exact ⟨hS, _, [], [], rfl, rfl, rfl, rfl⟩
  · refine W_skip ?_
    refine hK4 _ _ ?_; clear hK4
    refine W_seq fun K7 hK7 => ?_
    refine W_seq fun K8 hK8 => ?_
    refine W_region ?_
    first | (refine sy hs (y_fieldAddr rfl (FO.of (off := 0) Tryz.underlying28 rfl rfl ti3 (by decide))) ?_; clear hs; (try clear a w); intro a w hs) | (refine sy hs (y_faE rfl (FO.of (off := 0) Tryz.underlying28 rfl rfl ti3 (by decide))) ?_; clear hs; (try clear a w); intro a w hs)
    refine sy hs (y_ld (u := .int .i64 (dispS s0)) rfl Tryz.underlying3 rfl (Cell.blk (.head _) (hS.ld hS.d))) fun _ _ hs => ?_
    refine sy hs (y_eql rfl rfl) fun _ _ hs => ?_
    refine RL_nil ?_
    refine hK8 _ _ ?_; clear hK8
    first | refine W_condP hs rfl (fun hd2 => ?_) (fun hd2 => ?_) | refine W_cond hs rfl (fun hd2 => ?_) (fun hd2 => ?_)
    · refine W_seq fun K9 hK9 => ?_
      refine W_region ?_
      refine sy hs (y_buildN (places := boxP) (zl := zB) (ls := []) (cs := zB) rfl Tryz.underlying44 ti44 (by kernel_rfl) trivial rfl) fun _ _ hs => ?_
      refine RL_storeAll (i := 2) hs rfl rfl rfl ti44 ⟨rfl, rfl⟩ (one_arr zB_one) (.free rfl) fun _ _ hs => ?_
      refine sy hs (y_assign rfl) fun _ _ hs => ?_
      refine RL_nil ?_
      refine hK9 _ _ ?_; clear hK9
      refine W_ret ?_
      refine RtV2 hs rfl (rv_a hs rfl Tryz.underlying44 rfl ti44 (fun j u hj => Cell.blk (.tail _ (.tail _ (.head _))) hj) rfl) (rv_t hs rfl) ?_
      refine ⟨_, _, [], rfl, .refl _, hs.cw.tail.tail.tail.tail, zB, by rw [buildM, hs0, if_neg hk2, if_pos hd2]; rfl, zB_one, ?_⟩
      rw [buildM, hs0, if_neg hk2, if_pos hd2]
    · refine W_skip ?_
      refine hK7 _ _ ?_; clear hK7
      refine W_seq fun K10 hK10 => ?_
      refine W_seq fun K11 hK11 => ?_
      refine W_region ?_
      first | (refine sy hs (y_fieldAddr rfl (FO.of (off := 1) Tryz.underlying57 rfl rfl ti9 (by decide))) ?_; clear hs; (try clear a w); intro a w hs) | (refine sy hs (y_faE rfl (FO.of (off := 1) Tryz.underlying57 rfl rfl ti9 (by decide))) ?_; clear hs; (try clear a w); intro a w hs)
      refine sy hs (y_ld (u := .string (nd ns m).Name) rfl Tryz.underlying9 rfl (Cell.blk (.tail _ (.head _)) rfl)) fun _ _ hs => ?_
      refine sy hs (y_seql rfl rfl) fun _ _ hs => ?_
      refine RL_nil ?_
      refine hK11 _ _ ?_; clear hK11
      first | refine W_condP hs rfl (fun hbr => ?_) (fun hbr => ?_) | refine W_cond hs rfl (fun hbr => ?_) (fun hbr => ?_)
      · have hbr : (nd ns m).Name = bs [98, 114] := hbr
        refine W_seq fun K12 hK12 => ?_
        refine W_region ?_
        refine sy hs (y_move rfl) fun _ _ hs => ?_
        refine sy hs (y_ldB rfl Tryz.underlying28 rfl ti28 (.head _) (by simp [hS.len])) fun _ _ hs => ?_
        refine sy hs (y_buildN (places := boxP) (zl := zB) (ls := [(0, [.int .i64 8]), (1, [.int .i64 m]), (3, s0)]) (cs := cB 8 m 0 s0 ByteArray.empty (.slice none 0 0)) rfl Tryz.underlying44 ti44 (by kernel_rfl) ⟨rfl, rfl, rfl, rfl, rfl, rfl, trivial⟩ (by rw [zB_eq, put0 rfl, put1 rfl, put3 rfl hS.len]; rfl)) fun _ _ hs => ?_
        refine RL_storeAll (i := 2) hs rfl rfl rfl ti44 ⟨rfl, by simp [cB_len hS.len]⟩ (one_arr (cB_one hS rfl)) (.free rfl) fun _ _ hs => ?_
        refine sy hs (y_assign rfl) fun _ _ hs => ?_
        refine RL_nil ?_
        refine hK12 _ _ ?_; clear hK12
        refine W_ret ?_
        refine RtV2 hs rfl (rv_a hs rfl Tryz.underlying44 rfl ti44 (fun j u hj => Cell.blk (.tail _ (.tail _ (.head _))) hj) (by simp [cB_len hS.len])) (rv_t hs rfl) ?_
        refine ⟨_, _, [.row (.slice none 0 0) 44 57 []], rfl, .refl _, (hs.cw.tail.tail.tail.tail.nilRow 44 57), _, by rw [buildM, hs0, if_neg hk2, if_neg hd2, if_pos hbr]; rfl, cB_one hS rfl, ?_⟩
        rw [buildM, hs0, if_neg hk2, if_neg hd2, if_pos hbr]
        exact ⟨hS, _, [], [], rfl, rfl, rfl, rfl⟩
      · have hbr : ¬ (nd ns m).Name = bs [98, 114] := hbr
        have hbM : buildM ns ss (d + 1) m above heavy = some (fitM (kindM (styM s0 above heavy) above heavy) m 0 (styM s0 above heavy) ByteArray.empty ((kd ns m).filterMap fun c => buildM ns ss d c.toNat (kindM (styM s0 above heavy) above heavy) (heavyM (kindM (styM s0 above heavy) above heavy) (styM s0 above heavy) heavy))) := by
          rw [buildM, hs0, if_neg hk2, if_neg hd2, if_neg hbr]
        replace hs := (hs.subL (L' := .blk b13 (.cells s0.toArray 28 (0, 0)) :: .blk b10 (.cells zB.toArray 44 (0, 0)) :: .blk b5 (.cells #[v0] 37 (0, 0)) :: ([] ++ L)) (.cons_cons _ (.cons _ (.refl _)))).sub (E' := [(1, lv), (2, .int .i64 (m : Int)), (3, .int .i64 above), (4, .int .i64 heavy), (5, .pointer (some ⟨b5, 0, none⟩)), (10, .pointer (some ⟨b10, 0, none⟩)), (13, .pointer (some ⟨b13, 0, none⟩))]) ⟨rfl, rfl, rfl, rfl, rfl, rfl, rfl, trivial⟩
        refine W_skip ?_
        refine hK10 _ _ ?_; clear hK10
        refine W_cut (fun a w => St 186 w0 f (.blk b13 (.cells (sty1 s0 heavy).toArray 28 (0, 0)) :: .blk b10 (.cells zB.toArray 44 (0, 0)) :: .blk b5 (.cells #[v0] 37 (0, 0)) :: ([] ++ L)) [(1, lv), (2, .int .i64 (m : Int)), (3, .int .i64 above), (4, .int .i64 heavy), (5, .pointer (some ⟨b5, 0, none⟩)), (10, .pointer (some ⟨b10, 0, none⟩)), (13, .pointer (some ⟨b13, 0, none⟩))] a w) ?_ (fun a w hI => ?_)
        · refine W_cut (fun a w => St 186 w0 f (.blk b13 (.cells s0.toArray 28 (0, 0)) :: .blk b10 (.cells zB.toArray 44 (0, 0)) :: .blk b5 (.cells #[v0] 37 (0, 0)) :: ([] ++ L)) ((58, .bool (decide (4 ≤ heavy) && liftS s0)) :: [(1, lv), (2, .int .i64 (m : Int)), (3, .int .i64 above), (4, .int .i64 heavy), (5, .pointer (some ⟨b5, 0, none⟩)), (10, .pointer (some ⟨b10, 0, none⟩)), (13, .pointer (some ⟨b13, 0, none⟩))]) a w) ?_ (fun a w hI => ?_)
          · refine W_region ?_
            refine sy hs (y_move rfl) fun _ _ hs => ?_
            refine sy hs (y_geq rfl rfl) fun _ _ hs => ?_
            refine sy hs (y_move rfl) fun _ _ hs => ?_
            first | refine St.splitP hs (t := 49) rfl (fun g1 hq => ?_) (fun g1 hq => ?_) | refine St.split hs (t := 49) rfl (fun g1 hq => ?_) (fun g1 hq => ?_)
            · clear hs; have hs := hq; clear hq
              have g1 : (4 : Int) ≤ heavy := g1
              first | (refine syg hs (y_fieldAddr rfl (FO.of (off := 1) Tryz.underlying28 rfl rfl ti3 (by decide))) ?_; clear hs; (try clear a w); intro a w hs) | (refine syg hs (y_faE rfl (FO.of (off := 1) Tryz.underlying28 rfl rfl ti3 (by decide))) ?_; clear hs; (try clear a w); intro a w hs)
              refine syg hs (y_ld (u := .int .i64 (posS s0)) rfl Tryz.underlying3 rfl (Cell.blk (.head _) (hS.ld hS.p))) fun _ _ hs => ?_
              refine syg hs (y_eql rfl rfl) fun _ _ hs => ?_
              refine syg hs (y_move rfl) fun _ _ hs => ?_
              first | refine St.splitP hs (t := 53) rfl (fun g2 hq => ?_) (fun g2 hq => ?_) | refine St.split hs (t := 53) rfl (fun g2 hq => ?_) (fun g2 hq => ?_)
              · clear hs; have hs := hq; clear hq
                refine sno hs fun _ _ hs => ?_
                refine sno hs fun _ _ hs => ?_
                refine sno hs fun _ _ hs => ?_
                refine syg hs (y_pick rfl rfl) fun _ _ hs => ?_
                refine sy hs (y_pick rfl rfl) fun _ _ hs => ?_
                refine RL_nil ?_
                rw [show (decide (4 ≤ heavy) && liftS s0) = true by simp [liftS, g1, g2]]
                exact hs.sub ⟨rfl, rfl, rfl, rfl, rfl, rfl, rfl, rfl, trivial⟩
              · clear hs; have hs := hq; clear hq
                first | (refine syg hs (y_fieldAddr rfl (FO.of (off := 1) Tryz.underlying28 rfl rfl ti3 (by decide))) ?_; clear hs; (try clear a w); intro a w hs) | (refine syg hs (y_faE rfl (FO.of (off := 1) Tryz.underlying28 rfl rfl ti3 (by decide))) ?_; clear hs; (try clear a w); intro a w hs)
                refine syg hs (y_ld (u := .int .i64 (posS s0)) rfl Tryz.underlying3 rfl (Cell.blk (.head _) (hS.ld hS.p))) fun _ _ hs => ?_
                refine syg hs (y_eql rfl rfl) fun _ _ hs => ?_
                refine syg hs (y_pick rfl rfl) fun _ _ hs => ?_
                refine sy hs (y_pick rfl rfl) fun _ _ hs => ?_
                refine RL_nil ?_
                rw [show (decide (4 ≤ heavy) && liftS s0) = decide (posS s0 = 3) by simp [liftS, g1, g2]]
                exact hs.sub ⟨rfl, rfl, rfl, rfl, rfl, rfl, rfl, rfl, trivial⟩
            · clear hs; have hs := hq; clear hq
              refine sno hs fun _ _ hs => ?_
              refine sno hs fun _ _ hs => ?_
              refine sno hs fun _ _ hs => ?_
              refine sno hs fun _ _ hs => ?_
              refine sun hs fun _ _ hs => ?_
              refine sun hs fun _ _ hs => ?_
              refine sun hs fun _ _ hs => ?_
              refine sno hs fun _ _ hs => ?_
              refine sy hs (y_pick rfl rfl) fun _ _ hs => ?_
              refine RL_nil ?_
              have g1 : ¬ (4 : Int) ≤ heavy := g1
              rw [show (decide (4 ≤ heavy) && liftS s0) = false by simp [g1]]
              exact hs.sub ⟨rfl, rfl, rfl, rfl, rfl, rfl, rfl, rfl, trivial⟩
          · have hs := hI; clear hI
            first | refine W_condP hs rfl (fun hc => ?_) (fun hc => ?_) | refine W_cond hs rfl (fun hc => ?_) (fun hc => ?_)
            · refine W_region ?_
              first | (refine sy hs (y_fieldAddr rfl (FO.of (off := 1) Tryz.underlying28 rfl rfl ti3 (by decide))) ?_; clear hs; (try clear a w); intro a w hs) | (refine sy hs (y_faE rfl (FO.of (off := 1) Tryz.underlying28 rfl rfl ti3 (by decide))) ?_; clear hs; (try clear a w); intro a w hs)
              refine RL_storeBlk (i := 0) (o := 1) (u := .int .i64 0) hs rfl rfl rfl ti3 rfl (by simp [hS.len]) (by rw [List.setIfInBounds_toArray]) (.free rfl) fun _ _ hs => ?_
              refine RL_nil ?_
              rw [sty1, if_pos (by simpa using hc)]
              exact hs.sub ⟨rfl, rfl, rfl, rfl, rfl, rfl, rfl, trivial⟩
            · refine W_skip ?_
              rw [sty1, if_neg (by simpa using hc)]
              exact hs.sub ⟨rfl, rfl, rfl, rfl, rfl, rfl, rfl, trivial⟩
        · have hs := hI; clear hI
          have hS1 : StyOK (sty1 s0 heavy) := sty1_OK hS
          refine W_cut (fun a w => St 186 w0 f (.blk b13 (.cells (styM s0 above heavy).toArray 28 (0, 0)) :: .blk b10 (.cells zB.toArray 44 (0, 0)) :: .blk b5 (.cells #[v0] 37 (0, 0)) :: ([] ++ L)) [(1, lv), (2, .int .i64 (m : Int)), (3, .int .i64 above), (4, .int .i64 heavy), (5, .pointer (some ⟨b5, 0, none⟩)), (10, .pointer (some ⟨b10, 0, none⟩)), (13, .pointer (some ⟨b13, 0, none⟩))] a w) ?_ (fun a w hI => ?_)
          · refine W_cut (fun a w => St 186 w0 f (.blk b13 (.cells (sty1 s0 heavy).toArray 28 (0, 0)) :: .blk b10 (.cells zB.toArray 44 (0, 0)) :: .blk b5 (.cells #[v0] 37 (0, 0)) :: ([] ++ L)) ((71, .bool (liftS (sty1 s0 heavy) || decide (above = 2))) :: [(1, lv), (2, .int .i64 (m : Int)), (3, .int .i64 above), (4, .int .i64 heavy), (5, .pointer (some ⟨b5, 0, none⟩)), (10, .pointer (some ⟨b10, 0, none⟩)), (13, .pointer (some ⟨b13, 0, none⟩))]) a w) ?_ (fun a w hI => ?_)
            · refine W_region ?_
              first | (refine sy hs (y_fieldAddr rfl (FO.of (off := 1) Tryz.underlying28 rfl rfl ti3 (by decide))) ?_; clear hs; (try clear a w); intro a w hs) | (refine sy hs (y_faE rfl (FO.of (off := 1) Tryz.underlying28 rfl rfl ti3 (by decide))) ?_; clear hs; (try clear a w); intro a w hs)
              refine sy hs (y_ld (u := .int .i64 (posS (sty1 s0 heavy))) rfl Tryz.underlying3 rfl (Cell.blk (.head _) (hS1.ld hS1.p))) fun _ _ hs => ?_
              refine sy hs (y_eql rfl rfl) fun _ _ hs => ?_
              refine sy hs (y_move rfl) fun _ _ hs => ?_
              first | refine St.splitP hs (t := 63) rfl (fun g1 hq => ?_) (fun g1 hq => ?_) | refine St.split hs (t := 63) rfl (fun g1 hq => ?_) (fun g1 hq => ?_)
              · clear hs; have hs := hq; clear hq
                refine sno hs fun _ _ hs => ?_
                refine sno hs fun _ _ hs => ?_
                refine sno hs fun _ _ hs => ?_
                refine sy hs (y_pick rfl rfl) fun _ _ hs => ?_
                refine sy hs (y_move rfl) fun _ _ hs => ?_
                refine sno hs fun _ _ hs => ?_
                refine sno hs fun _ _ hs => ?_
                refine sy hs (y_pick rfl rfl) fun _ _ hs => ?_
                refine RL_nil ?_
                rw [show (liftS (sty1 s0 heavy) || decide (above = 2)) = true by simp [liftS, g1]]
                exact hs.sub ⟨rfl, rfl, rfl, rfl, rfl, rfl, rfl, rfl, trivial⟩
              · clear hs; have hs := hq; clear hq
                first | (refine syg hs (y_fieldAddr rfl (FO.of (off := 1) Tryz.underlying28 rfl rfl ti3 (by decide))) ?_; clear hs; (try clear a w); intro a w hs) | (refine syg hs (y_faE rfl (FO.of (off := 1) Tryz.underlying28 rfl rfl ti3 (by decide))) ?_; clear hs; (try clear a w); intro a w hs)
                refine syg hs (y_ld (u := .int .i64 (posS (sty1 s0 heavy))) rfl Tryz.underlying3 rfl (Cell.blk (.head _) (hS1.ld hS1.p))) fun _ _ hs => ?_
                refine syg hs (y_eql rfl rfl) fun _ _ hs => ?_
                refine sy hs (y_pick rfl rfl) fun _ _ hs => ?_
                refine sy hs (y_move rfl) fun _ _ hs => ?_
                first | refine St.splitP hs (t := 68) rfl (fun g2 hq => ?_) (fun g2 hq => ?_) | refine St.split hs (t := 68) rfl (fun g2 hq => ?_) (fun g2 hq => ?_)
                · clear hs; have hs := hq; clear hq
                  refine sno hs fun _ _ hs => ?_
                  refine sno hs fun _ _ hs => ?_
                  refine sy hs (y_pick rfl rfl) fun _ _ hs => ?_
                  refine RL_nil ?_
                  rw [show (liftS (sty1 s0 heavy) || decide (above = 2)) = true by simp [liftS, g2]]
                  exact hs.sub ⟨rfl, rfl, rfl, rfl, rfl, rfl, rfl, rfl, trivial⟩
                · clear hs; have hs := hq; clear hq
                  refine syg hs (y_move rfl) fun _ _ hs => ?_
                  refine syg hs (y_eql rfl rfl) fun _ _ hs => ?_
                  refine sy hs (y_pick rfl rfl) fun _ _ hs => ?_
                  refine RL_nil ?_
                  rw [show (liftS (sty1 s0 heavy) || decide (above = 2)) = decide (above = 2) by simp [liftS, g1, g2]]
                  exact hs.sub ⟨rfl, rfl, rfl, rfl, rfl, rfl, rfl, rfl, trivial⟩
            · have hs := hI; clear hI
              first | refine W_condP hs rfl (fun hc => ?_) (fun hc => ?_) | refine W_cond hs rfl (fun hc => ?_) (fun hc => ?_)
              · refine W_region ?_
                first | (refine sy hs (y_fieldAddr rfl (FO.of (off := 2) Tryz.underlying28 rfl rfl ti3 (by decide))) ?_; clear hs; (try clear a w); intro a w hs) | (refine sy hs (y_faE rfl (FO.of (off := 2) Tryz.underlying28 rfl rfl ti3 (by decide))) ?_; clear hs; (try clear a w); intro a w hs)
                refine RL_storeBlk (i := 0) (o := 2) (u := .int .i64 0) hs rfl rfl rfl ti3 rfl (by simp [hS1.len]) (by rw [List.setIfInBounds_toArray]) (.free rfl) fun _ _ hs => ?_
                refine RL_nil ?_
                rw [styM, if_pos (by simpa using hc)]
                exact hs.sub ⟨rfl, rfl, rfl, rfl, rfl, rfl, rfl, trivial⟩
              · refine W_skip ?_
                rw [styM, if_neg (by simpa using hc)]
                exact hs.sub ⟨rfl, rfl, rfl, rfl, rfl, rfl, rfl, trivial⟩
          · have hs := hI; clear hI
            have hS2 : StyOK (styM s0 above heavy) := styM_OK hS
            have hD2 : 0 ≤ dispS (styM s0 above heavy) ∧ dispS (styM s0 above heavy) ≤ 6 ∧ dispS (styM s0 above heavy) ≠ 2 := by rw [styM_disp]; exact ⟨hds.1, hds.2, hd2⟩
            clear hk2 hd2 hbr
            refine W_seq fun K17 hK17 => ?_
            refine T_start hs (.blk b13 (.cells (styM s0 above heavy).toArray 28 (0, 0)) :: []) [] (.look 0 (.look 1 (.look 2 (.look 3 (.look 4 (.look 5 (.any [6] (fun _ => .any [7] (fun _ => .done))))))))) mixed (by kernel_rfl) fun _ he => ?_
            refine uy 0 he rfl (y_ldB rfl Tryz.underlying28 rfl ti28 (.head _) (by simp [hS2.len])) fun _ he => ?_
            refine uy 1 he rfl (y_move rfl) fun _ he => ?_
            refine ucall 2 he rfl rfl has69 rfl (fun f' L' w _ _ hw => kind2_ok (f := f') hS2 hD2 w0 L' w hw) fun _ he => ?_
            refine uy 3 he rfl (y_move rfl) fun _ he => ?_
            refine uy 4 he rfl (y_ldB rfl Tryz.underlying28 rfl ti28 (.head _) (by simp [hS2.len])) fun _ he => ?_
            refine uy 5 he rfl (y_buildN (places := boxP) (zl := zB) (ls := [(0, [.int .i64 (kindS (styM s0 above heavy) above)]), (1, [.int .i64 m]), (3, styM s0 above heavy)]) (cs := cB (kindS (styM s0 above heavy) above) m 0 (styM s0 above heavy) ByteArray.empty (.slice none 0 0)) rfl Tryz.underlying44 ti44 (by kernel_rfl) ⟨rfl, rfl, rfl, rfl, rfl, rfl, trivial⟩ (by rw [zB_eq, put0 rfl, put1 rfl, put3 rfl hS2.len]; rfl)) fun _ he => ?_
            refine T_any1 he rfl ?_; clear he; (try clear a); intro a w hs
            refine RL_alloc hs ti44 (.free rfl) (by decide) fun b14 _ _ hs => ?_
            refine uon hs fun _ he => ?_
            refine T_any1 he rfl ?_; clear he; (try clear a); intro a w hs
            refine RL_storeAll (i := 0) hs rfl rfl rfl ti44 ⟨rfl, by simp [cB_len hS2.len]⟩ (one_arr (cB_one hS2 rfl)) (.free rfl) fun _ _ hs => ?_
            refine uon hs fun _ he => ?_
            refine T_nil he ?_; clear he; (try clear a); intro w hs
            refine hK17 _ _ ?_; clear hK17
            refine W_cut (fun a w => St 186 w0 f (.blk b14 (.cells (cB (kindM (styM s0 above heavy) above heavy) m 0 (styM s0 above heavy) ByteArray.empty (.slice none 0 0)).toArray 44 (0, 0)) :: .blk b13 (.cells (styM s0 above heavy).toArray 28 (0, 0)) :: .blk b10 (.cells zB.toArray 44 (0, 0)) :: .blk b5 (.cells #[v0] 37 (0, 0)) :: ([] ++ L)) [(1, lv), (2, .int .i64 (m : Int)), (3, .int .i64 above), (4, .int .i64 heavy), (5, .pointer (some ⟨b5, 0, none⟩)), (10, .pointer (some ⟨b10, 0, none⟩)), (13, .pointer (some ⟨b13, 0, none⟩)), (14, .pointer (some ⟨b14, 0, none⟩))] a w) ?_ (fun a w hI => ?_)
            · refine W_cut (fun a w => St 186 w0 f (.blk b14 (.cells (cB (kindS (styM s0 above heavy) above) m 0 (styM s0 above heavy) ByteArray.empty (.slice none 0 0)).toArray 44 (0, 0)) :: .blk b13 (.cells (styM s0 above heavy).toArray 28 (0, 0)) :: .blk b10 (.cells zB.toArray 44 (0, 0)) :: .blk b5 (.cells #[v0] 37 (0, 0)) :: ([] ++ L)) ((90, .bool (decide (4 ≤ heavy) && (decide ((kindS (styM s0 above heavy) above) = 2) || decide ((kindS (styM s0 above heavy) above) = 3)))) :: [(1, lv), (2, .int .i64 (m : Int)), (3, .int .i64 above), (4, .int .i64 heavy), (5, .pointer (some ⟨b5, 0, none⟩)), (10, .pointer (some ⟨b10, 0, none⟩)), (13, .pointer (some ⟨b13, 0, none⟩)), (14, .pointer (some ⟨b14, 0, none⟩))]) a w) ?_ (fun a w hI => ?_)
              · refine W_region ?_
                refine sy hs (y_move rfl) fun _ _ hs => ?_
                refine sy hs (y_geq rfl rfl) fun _ _ hs => ?_
                refine sy hs (y_move rfl) fun _ _ hs => ?_
                first | refine St.splitP hs (t := 81) rfl (fun g1 hq => ?_) (fun g1 hq => ?_) | refine St.split hs (t := 81) rfl (fun g1 hq => ?_) (fun g1 hq => ?_)
                · clear hs; have hs := hq; clear hq
                  have g1 : (4 : Int) ≤ heavy := g1
                  first | (refine syg hs (y_fieldAddr rfl (FO.of (off := 0) Tryz.underlying44 rfl rfl ti3 (by decide))) ?_; clear hs; (try clear a w); intro a w hs) | (refine syg hs (y_faE rfl (FO.of (off := 0) Tryz.underlying44 rfl rfl ti3 (by decide))) ?_; clear hs; (try clear a w); intro a w hs)
                  refine syg hs (y_ld (u := .int .i64 (kindS (styM s0 above heavy) above)) rfl Tryz.underlying3 rfl (Cell.blk (.head _) rfl)) fun _ _ hs => ?_
                  refine syg hs (y_eql rfl rfl) fun _ _ hs => ?_
                  refine syg hs (y_move rfl) fun _ _ hs => ?_
                  first | refine St.splitP hs (t := 85) rfl (fun g2 hq => ?_) (fun g2 hq => ?_) | refine St.split hs (t := 85) rfl (fun g2 hq => ?_) (fun g2 hq => ?_)
                  · clear hs; have hs := hq; clear hq
                    refine sno hs fun _ _ hs => ?_
                    refine sno hs fun _ _ hs => ?_
                    refine sno hs fun _ _ hs => ?_
                    refine syg hs (y_pick rfl rfl) fun _ _ hs => ?_
                    refine sy hs (y_pick rfl rfl) fun _ _ hs => ?_
                    refine RL_nil ?_
                    rw [show (decide (4 ≤ heavy) && (decide ((kindS (styM s0 above heavy) above) = 2) || decide ((kindS (styM s0 above heavy) above) = 3))) = true by simp [g1, g2]]
                    exact hs.sub ⟨rfl, rfl, rfl, rfl, rfl, rfl, rfl, rfl, rfl, trivial⟩
                  · clear hs; have hs := hq; clear hq
                    first | (refine syg hs (y_fieldAddr rfl (FO.of (off := 0) Tryz.underlying44 rfl rfl ti3 (by decide))) ?_; clear hs; (try clear a w); intro a w hs) | (refine syg hs (y_faE rfl (FO.of (off := 0) Tryz.underlying44 rfl rfl ti3 (by decide))) ?_; clear hs; (try clear a w); intro a w hs)
                    refine syg hs (y_ld (u := .int .i64 (kindS (styM s0 above heavy) above)) rfl Tryz.underlying3 rfl (Cell.blk (.head _) rfl)) fun _ _ hs => ?_
                    refine syg hs (y_eql rfl rfl) fun _ _ hs => ?_
                    refine syg hs (y_pick rfl rfl) fun _ _ hs => ?_
                    refine sy hs (y_pick rfl rfl) fun _ _ hs => ?_
                    refine RL_nil ?_
                    rw [show (decide (4 ≤ heavy) && (decide ((kindS (styM s0 above heavy) above) = 2) || decide ((kindS (styM s0 above heavy) above) = 3))) = decide ((kindS (styM s0 above heavy) above) = 3) by simp [g1, g2]]
                    exact hs.sub ⟨rfl, rfl, rfl, rfl, rfl, rfl, rfl, rfl, rfl, trivial⟩
                · clear hs; have hs := hq; clear hq
                  refine sno hs fun _ _ hs => ?_
                  refine sno hs fun _ _ hs => ?_
                  refine sno hs fun _ _ hs => ?_
                  refine sno hs fun _ _ hs => ?_
                  refine sun hs fun _ _ hs => ?_
                  refine sun hs fun _ _ hs => ?_
                  refine sun hs fun _ _ hs => ?_
                  refine sno hs fun _ _ hs => ?_
                  refine sy hs (y_pick rfl rfl) fun _ _ hs => ?_
                  refine RL_nil ?_
                  have g1 : ¬ (4 : Int) ≤ heavy := g1
                  rw [show (decide (4 ≤ heavy) && (decide ((kindS (styM s0 above heavy) above) = 2) || decide ((kindS (styM s0 above heavy) above) = 3))) = false by simp [g1]]
                  exact hs.sub ⟨rfl, rfl, rfl, rfl, rfl, rfl, rfl, rfl, rfl, trivial⟩
              · have hs := hI; clear hI
                first | refine W_condP hs rfl (fun hc => ?_) (fun hc => ?_) | refine W_cond hs rfl (fun hc => ?_) (fun hc => ?_)
                · refine W_region ?_
                  first | (refine sy hs (y_fieldAddr rfl (FO.of (off := 0) Tryz.underlying44 rfl rfl ti3 (by decide))) ?_; clear hs; (try clear a w); intro a w hs) | (refine sy hs (y_faE rfl (FO.of (off := 0) Tryz.underlying44 rfl rfl ti3 (by decide))) ?_; clear hs; (try clear a w); intro a w hs)
                  refine RL_storeBlk (i := 0) (o := 0) (u := .int .i64 1) hs rfl rfl rfl ti3 rfl (by simp [cB]) (by rw [List.setIfInBounds_toArray, cB_set0]) (.free rfl) fun _ _ hs => ?_
                  refine RL_nil ?_
                  rw [kindM, if_pos (by simpa using hc)]
                  exact hs.sub ⟨rfl, rfl, rfl, rfl, rfl, rfl, rfl, rfl, trivial⟩
                · refine W_skip ?_
                  rw [kindM, if_neg (by simpa using hc)]
                  exact hs.sub ⟨rfl, rfl, rfl, rfl, rfl, rfl, rfl, rfl, trivial⟩
            · have hs := hI; clear hI
              refine W_cut (fun a w => St 186 w0 f (.blk b14 (.cells (cB (kindM (styM s0 above heavy) above heavy) m 0 (styM s0 above heavy) ByteArray.empty (.slice none 0 0)).toArray 44 (0, 0)) :: .blk b13 (.cells (styM s0 above heavy).toArray 28 (0, 0)) :: .blk b10 (.cells zB.toArray 44 (0, 0)) :: .blk b5 (.cells #[v0] 37 (0, 0)) :: ([] ++ L)) [(1, lv), (2, .int .i64 (m : Int)), (3, .int .i64 above), (4, .int .i64 (heavyM (kindM (styM s0 above heavy) above heavy) (styM s0 above heavy) heavy)), (5, .pointer (some ⟨b5, 0, none⟩)), (10, .pointer (some ⟨b10, 0, none⟩)), (13, .pointer (some ⟨b13, 0, none⟩)), (14, .pointer (some ⟨b14, 0, none⟩))] a w) ?_ (fun a w hI => ?_)
              · refine W_cut (fun a w => St 186 w0 f (.blk b14 (.cells (cB (kindM (styM s0 above heavy) above heavy) m 0 (styM s0 above heavy) ByteArray.empty (.slice none 0 0)).toArray 44 (0, 0)) :: .blk b13 (.cells (styM s0 above heavy).toArray 28 (0, 0)) :: .blk b10 (.cells zB.toArray 44 (0, 0)) :: .blk b5 (.cells #[v0] 37 (0, 0)) :: ([] ++ L)) ((109, .bool (decide ((kindM (styM s0 above heavy) above heavy) = 2) || (decide ((kindM (styM s0 above heavy) above heavy) = 3) || liftS (styM s0 above heavy)))) :: [(1, lv), (2, .int .i64 (m : Int)), (3, .int .i64 above), (4, .int .i64 heavy), (5, .pointer (some ⟨b5, 0, none⟩)), (10, .pointer (some ⟨b10, 0, none⟩)), (13, .pointer (some ⟨b13, 0, none⟩)), (14, .pointer (some ⟨b14, 0, none⟩))]) a w) ?_ (fun a w hI => ?_)
                · refine W_region ?_
                  first | (refine sy hs (y_fieldAddr rfl (FO.of (off := 0) Tryz.underlying44 rfl rfl ti3 (by decide))) ?_; clear hs; (try clear a w); intro a w hs) | (refine sy hs (y_faE rfl (FO.of (off := 0) Tryz.underlying44 rfl rfl ti3 (by decide))) ?_; clear hs; (try clear a w); intro a w hs)
                  refine sy hs (y_ld (u := .int .i64 (kindM (styM s0 above heavy) above heavy)) rfl Tryz.underlying3 rfl (Cell.blk (.head _) rfl)) fun _ _ hs => ?_
                  refine sy hs (y_eql rfl rfl) fun _ _ hs => ?_
                  refine sy hs (y_move rfl) fun _ _ hs => ?_
                  first | refine St.splitP hs (t := 95) rfl (fun g1 hq => ?_) (fun g1 hq => ?_) | refine St.split hs (t := 95) rfl (fun g1 hq => ?_) (fun g1 hq => ?_)
                  · clear hs; have hs := hq; clear hq
                    refine sno hs fun _ _ hs => ?_
                    refine sno hs fun _ _ hs => ?_
                    refine sno hs fun _ _ hs => ?_
                    refine sy hs (y_pick rfl rfl) fun _ _ hs => ?_
                    refine sy hs (y_move rfl) fun _ _ hs => ?_
                    refine sno hs fun _ _ hs => ?_
                    refine sno hs fun _ _ hs => ?_
                    refine sno hs fun _ _ hs => ?_
                    refine sy hs (y_pick rfl rfl) fun _ _ hs => ?_
                    refine sy hs (y_move rfl) fun _ _ hs => ?_
                    refine sno hs fun _ _ hs => ?_
                    refine sno hs fun _ _ hs => ?_
                    refine sno hs fun _ _ hs => ?_
                    refine sy hs (y_pick rfl rfl) fun _ _ hs => ?_
                    refine RL_nil ?_
                    rw [show (decide ((kindM (styM s0 above heavy) above heavy) = 2) || (decide ((kindM (styM s0 above heavy) above heavy) = 3) || liftS (styM s0 above heavy))) = true by rw [decide_eq_true g1]; rfl]
                    exact hs.sub ⟨rfl, rfl, rfl, rfl, rfl, rfl, rfl, rfl, rfl, trivial⟩
                  · clear hs; have hs := hq; clear hq
                    first | (refine syg hs (y_fieldAddr rfl (FO.of (off := 0) Tryz.underlying44 rfl rfl ti3 (by decide))) ?_; clear hs; (try clear a w); intro a w hs) | (refine syg hs (y_faE rfl (FO.of (off := 0) Tryz.underlying44 rfl rfl ti3 (by decide))) ?_; clear hs; (try clear a w); intro a w hs)
                    refine syg hs (y_ld (u := .int .i64 (kindM (styM s0 above heavy) above heavy)) rfl Tryz.underlying3 rfl (Cell.blk (.head _) rfl)) fun _ _ hs => ?_
                    refine syg hs (y_eql rfl rfl) fun _ _ hs => ?_
                    refine sy hs (y_pick rfl rfl) fun _ _ hs => ?_
                    refine sy hs (y_move rfl) fun _ _ hs => ?_
                    first | refine St.splitP hs (t := 100) rfl (fun g2 hq => ?_) (fun g2 hq => ?_) | refine St.split hs (t := 100) rfl (fun g2 hq => ?_) (fun g2 hq => ?_)
                    · clear hs; have hs := hq; clear hq
                      refine sno hs fun _ _ hs => ?_
                      refine sno hs fun _ _ hs => ?_
                      refine sno hs fun _ _ hs => ?_
                      refine sy hs (y_pick rfl rfl) fun _ _ hs => ?_
                      refine sy hs (y_move rfl) fun _ _ hs => ?_
                      refine sno hs fun _ _ hs => ?_
                      refine sno hs fun _ _ hs => ?_
                      refine sno hs fun _ _ hs => ?_
                      refine sy hs (y_pick rfl rfl) fun _ _ hs => ?_
                      refine RL_nil ?_
                      rw [show (decide ((kindM (styM s0 above heavy) above heavy) = 2) || (decide ((kindM (styM s0 above heavy) above heavy) = 3) || liftS (styM s0 above heavy))) = true by rw [decide_eq_true g2, Bool.true_or, Bool.or_true]]
                      exact hs.sub ⟨rfl, rfl, rfl, rfl, rfl, rfl, rfl, rfl, rfl, trivial⟩
                    · clear hs; have hs := hq; clear hq
                      first | (refine syg hs (y_fieldAddr rfl (FO.of (off := 1) Tryz.underlying28 rfl rfl ti3 (by decide))) ?_; clear hs; (try clear a w); intro a w hs) | (refine syg hs (y_faE rfl (FO.of (off := 1) Tryz.underlying28 rfl rfl ti3 (by decide))) ?_; clear hs; (try clear a w); intro a w hs)
                      refine syg hs (y_ld (u := .int .i64 (posS (styM s0 above heavy))) rfl Tryz.underlying3 rfl (Cell.blk (.tail _ (.head _)) (hS2.ld hS2.p))) fun _ _ hs => ?_
                      refine syg hs (y_eql rfl rfl) fun _ _ hs => ?_
                      refine sy hs (y_pick rfl rfl) fun _ _ hs => ?_
                      refine sy hs (y_move rfl) fun _ _ hs => ?_
                      first | refine St.splitP hs (t := 105) rfl (fun g3 hq => ?_) (fun g3 hq => ?_) | refine St.split hs (t := 105) rfl (fun g3 hq => ?_) (fun g3 hq => ?_)
                      · clear hs; have hs := hq; clear hq
                        refine sno hs fun _ _ hs => ?_
                        refine sno hs fun _ _ hs => ?_
                        refine sno hs fun _ _ hs => ?_
                        refine sy hs (y_pick rfl rfl) fun _ _ hs => ?_
                        refine RL_nil ?_
                        rw [show (decide ((kindM (styM s0 above heavy) above heavy) = 2) || (decide ((kindM (styM s0 above heavy) above heavy) = 3) || liftS (styM s0 above heavy))) = true by rw [liftS, decide_eq_true g3, Bool.true_or, Bool.or_true, Bool.or_true]]
                        exact hs.sub ⟨rfl, rfl, rfl, rfl, rfl, rfl, rfl, rfl, rfl, trivial⟩
                      · clear hs; have hs := hq; clear hq
                        first | (refine syg hs (y_fieldAddr rfl (FO.of (off := 1) Tryz.underlying28 rfl rfl ti3 (by decide))) ?_; clear hs; (try clear a w); intro a w hs) | (refine syg hs (y_faE rfl (FO.of (off := 1) Tryz.underlying28 rfl rfl ti3 (by decide))) ?_; clear hs; (try clear a w); intro a w hs)
                        refine syg hs (y_ld (u := .int .i64 (posS (styM s0 above heavy))) rfl Tryz.underlying3 rfl (Cell.blk (.tail _ (.head _)) (hS2.ld hS2.p))) fun _ _ hs => ?_
                        refine syg hs (y_eql rfl rfl) fun _ _ hs => ?_
                        refine sy hs (y_pick rfl rfl) fun _ _ hs => ?_
                        refine RL_nil ?_
                        rw [show (decide ((kindM (styM s0 above heavy) above heavy) = 2) || (decide ((kindM (styM s0 above heavy) above heavy) = 3) || liftS (styM s0 above heavy))) = decide (posS (styM s0 above heavy) = 3) by rw [liftS, decide_eq_false g1, decide_eq_false g2, decide_eq_false g3]; rfl]
                        exact hs.sub ⟨rfl, rfl, rfl, rfl, rfl, rfl, rfl, rfl, rfl, trivial⟩
                · have hs := hI; clear hI
                  first | refine W_condP hs rfl (fun hc => ?_) (fun hc => ?_) | refine W_cond hs rfl (fun hc => ?_) (fun hc => ?_)
                  · refine W_region ?_
                    refine sy hs (y_move rfl) fun _ _ hs => ?_
                    refine sy hs (y_add rfl rfl (wr_i64 (by omega))) fun _ _ hs => ?_
                    refine sy hs (y_assign rfl) fun _ _ hs => ?_
                    refine RL_nil ?_
                    rw [heavyM, if_pos (by simpa using hc)]
                    exact hs.sub ⟨rfl, rfl, rfl, rfl, rfl, rfl, rfl, rfl, trivial⟩
                  · refine W_skip ?_
                    rw [heavyM, if_neg (by simpa using hc)]
                    exact hs.sub ⟨rfl, rfl, rfl, rfl, rfl, rfl, rfl, rfl, trivial⟩
              · have hs := hI; clear hI
                have hh1 : heavyM (kindM (styM s0 above heavy) above heavy) (styM s0 above heavy) heavy ≤ heavy + 1 ∧ 0 ≤ heavyM (kindM (styM s0 above heavy) above heavy) (styM s0 above heavy) heavy := by unfold heavyM; split <;> omega
                generalize hkm : (kindM (styM s0 above heavy) above heavy) = km at *
                generalize hst : (styM s0 above heavy) = s2 at *
                generalize hhm : heavyM km s2 heavy = hv at *
                refine W_seq fun K22 hK22 => ?_
                refine W_region ?_
                refine sy hs (y_ldB (cs := #[v0]) rfl Tryz.underlying37 rfl ti37 (.tail _ (.tail _ (.tail _ (.head _)))) rfl) fun _ _ hs => ?_
                refine sy hs (y_move rfl) fun _ _ hs => ?_
                refine RL_callV hs rfl has70 rfl (ref5_Kids_ok 5000 (p0 := ⟨ns⟩) (a0 := [v0]) (p1 := (m : Int)) ⟨v0, rfl, hN0⟩ kd2) ?_; clear hs; (try clear a w)
                rintro kvv f2 _ a w hf2 ⟨_, rfl, rfl, krows, hKR, hKW⟩ hs
                have hkl := hKW.len
                refine sy hs (y_assign rfl) fun _ _ hs => ?_
                refine RL_nil ?_
                refine hK22 _ _ ?_; clear hK22
                refine W_seq fun K23 hK23 => ?_
                refine W_region ?_
                refine sy hs (y_assign rfl) fun _ _ hs => ?_
                refine RL_nil ?_
                refine hK23 _ _ ?_; clear hK23
                refine W_seq fun K24 hK24 => ?_
                refine W_seq fun K25 hK25 => ?_
                refine W_region ?_
                refine sy hs (y_assign rfl) fun _ _ hs => ?_
                refine RL_nil ?_
                refine hK25 _ _ ?_; clear hK25
                refine W_block fun Qe26 hB26 hO26 => ?_
                refine W_loop (fun (j : Nat) a w => ∃ f3 kv rows X, j ≤ (kd ns m).length ∧ Fz.le f2 f3 ∧ OwnL 44 (((kd ns m).take j).filterMap (fun c => buildM ns ss d c.toNat km hv)) rows X ∧ St 186 w0 f3 (.blk b14 (.cells (cB km m 0 s2 ByteArray.empty kv).toArray 44 (0, 0)) :: .blk b13 (.cells s2.toArray 28 (0, 0)) :: .blk b10 (.cells zB.toArray 44 (0, 0)) :: .blk b5 (.cells #[v0] 37 (0, 0)) :: .row kv 44 57 rows :: (X ++ L)) [(1, lv), (2, .int .i64 (m : Int)), (3, .int .i64 above), (4, .int .i64 hv), (5, .pointer (some ⟨b5, 0, none⟩)), (10, .pointer (some ⟨b10, 0, none⟩)), (13, .pointer (some ⟨b13, 0, none⟩)), (14, .pointer (some ⟨b14, 0, none⟩)), (15, kvv), (16, .bool (outers (((kd ns m).take j).filterMap (fun c => buildM ns ss d c.toNat km hv)))), (17, .int .i64 (j : Int))] a w) (fun j => (kd ns m).length - j) 0 ⟨f2, .slice none 0 0, [], [], by omega, .refl _, ⟨rfl, rfl⟩, (stPm (hs.nilRow 44 57) pmS).sub ⟨rfl, rfl, rfl, rfl, rfl, rfl, rfl, rfl, rfl, rfl, rfl, trivial⟩⟩ ?_
                clear hs; rintro j a w ⟨f3, kv, rows, X, hj, hf3, hO, hs⟩ K hK
                have hf13 := hf2.trans hf3
                have hN3 := hN0.le hf13
                have hL3 := hL.le hf13
                have hK3 := hKR.le hf3
                have hrl := hO.len
                have hfl := List.length_filterMap_le (fun c => buildM ns ss d c.toNat km hv) ((kd ns m).take j)
                have htl := List.length_take_le j (kd ns m)
                have hkv1 := (Rd.st hs (.tail _ (.tail _ (.tail _ (.tail _ (.head _)))))).one
                refine W_seq fun K27 hK27 => ?_
                refine W_seq fun K28 hK28 => ?_
                refine W_region ?_
                refine sy hs (y_move rfl) fun _ _ hs => ?_
                refine sy hs (y_move rfl) fun _ _ hs => ?_
                refine sy hs (y_lenR0 hK3 rfl Tryz.underlying78) fun _ _ hs => ?_
                refine sy hs (y_lss rfl rfl) fun _ _ hs => ?_
                refine RL_nil ?_
                refine hK28 _ _ ?_; clear hK28
                first | refine W_condP hs rfl (fun hlt => ?_) (fun hlt => ?_) | refine W_cond hs rfl (fun hlt => ?_) (fun hlt => ?_)
                · obtain ⟨c, hc⟩ : ∃ c, (kd ns m)[j]? = some c := ⟨_, List.getElem?_eq_getElem (by omega)⟩
                  obtain ⟨q, rfl, hq1, hq2⟩ := kd4 c (List.mem_of_getElem? hc)
                  generalize ho : buildM ns ss d q km hv = o at *
                  have ho' : buildM ns ss d (q : Int).toNat km hv = o := by rw [Int.toNat_natCast]; exact ho
                  refine W_skip ?_
                  refine hK27 _ _ ?_; clear hK27
                  refine W_seq fun K29 hK29 => ?_
                  refine W_block fun Qe30 hB30 hO30 => ?_
                  refine W_cut (fun a w => ∃ f4 L2 r b18, Fz.le f3 f4 ∧ OneRow 57 r ∧ (match o with | none => L2 = [] | some b => BoxO 44 b r L2) ∧ St 186 w0 f4 (.blk b18 (.cells r.toArray 44 (0, 0)) :: .blk b14 (.cells (cB km m 0 s2 ByteArray.empty kv).toArray 44 (0, 0)) :: .blk b13 (.cells s2.toArray 28 (0, 0)) :: .blk b10 (.cells zB.toArray 44 (0, 0)) :: .blk b5 (.cells #[v0] 37 (0, 0)) :: .row kv 44 57 rows :: (X ++ (L2 ++ L))) ((18, .pointer (some ⟨b18, 0, none⟩)) :: (19, .bool o.isSome) :: [(1, lv), (2, .int .i64 (m : Int)), (3, .int .i64 above), (4, .int .i64 hv), (5, .pointer (some ⟨b5, 0, none⟩)), (10, .pointer (some ⟨b10, 0, none⟩)), (13, .pointer (some ⟨b13, 0, none⟩)), (14, .pointer (some ⟨b14, 0, none⟩)), (15, kvv), (16, .bool (outers (((kd ns m).take j).filterMap (fun c => buildM ns ss d c.toNat km hv)))), (17, .int .i64 (j : Int))]) a w) ?_ (fun a w hI => ?_)
                  · refine T_start hs (.blk b14 (.cells (cB km m 0 s2 ByteArray.empty kv).toArray 44 (0, 0)) :: .blk b13 (.cells s2.toArray 28 (0, 0)) :: .blk b10 (.cells zB.toArray 44 (0, 0)) :: .blk b5 (.cells #[v0] 37 (0, 0)) :: []) [] (.look 0 (.look 1 (.look 2 (.look 3 (.look 4 (.look 5 (.look 6 (.look 7 (.look 8 (.any [9, 13] (fun i => bif Nat.beq i 9 then .look 10 (.look 11 (.look 12 (.any [13] (fun _ => .any [14] (fun _ => .look 15 (.done)))))) else .any [9] (fun _ => .look 10 (.look 11 (.look 12 (.any [14] (fun _ => .look 15 (.done))))))))))))))))) mixed (by kernel_rfl) ?_; clear hs; (try clear a w); intro a he
                    refine uy 0 he rfl (y_ldB (cs := #[v0]) rfl Tryz.underlying37 rfl ti37 (.tail _ (.tail _ (.tail _ (.head _)))) rfl) fun _ he => ?_
                    refine uy 1 he rfl (y_move rfl) fun _ he => ?_
                    refine uy 2 he rfl (y_move rfl) fun _ he => ?_
                    refine uy 3 he rfl (y_move rfl) fun _ he => ?_
                    refine uy 4 he rfl (y_indexAddr hK3 rfl rfl rfl (by omega) Tryz.underlying78 ti3) fun _ he => ?_
                    refine uy 5 he rfl (y_loadE (u := .int .i64 q) hK3.up rfl (rs_int hKW hc) rfl Tryz.underlying3 rfl) fun _ he => ?_
                    first | (refine uy 6 he rfl (y_fieldAddr rfl (FO.of (off := 0) Tryz.underlying44 rfl rfl ti3 (by decide))) ?_; clear he; (try clear a); intro a he) | (refine uy 6 he rfl (y_faE rfl (FO.of (off := 0) Tryz.underlying44 rfl rfl ti3 (by decide))) ?_; clear he; (try clear a); intro a he)
                    refine uy 7 he rfl (y_ld (u := .int .i64 km) rfl Tryz.underlying3 rfl (Cell.blk (.head _) rfl)) fun _ he => ?_
                    refine uy 8 he rfl (y_move rfl) fun _ he => ?_
                    refine T_any2 he rfl rfl ?_ ?_ <;> (clear he; (try clear a); intro a w hs)
                    · refine RL_call (Lr := []) hs rfl has39 rfl rfl (ih f3 q km hv hN3 hL3 hq2 (by omega) hh1.2 (by omega)) (.free rfl) (by decide) ?_; clear hs; (try clear a w)
                      rintro _ f4 L2 a w hf4 ⟨r, hu, hr1, hB⟩ hs
                      rw [ho] at hu hB
                      subst hu
                      replace hs := stPm hs pmQ
                      refine uon hs fun _ he => ?_
                      refine uy 10 he rfl (y_move rfl) fun _ he => ?_
                      refine uy 11 he rfl (y_extract (vs := [.agg r.toArray, .bool o.isSome]) rfl rfl) fun _ he => ?_
                      refine uy 12 he rfl (y_extract (vs := [.agg r.toArray, .bool o.isSome]) rfl rfl) fun _ he => ?_
                      refine T_any1 he rfl ?_; clear he; (try clear a); intro a w hs
                      refine RL_alloc hs ti44 (.free rfl) (by decide) fun b18 _ _ hs => ?_
                      refine uon hs fun _ he => ?_
                      refine T_any1 he rfl ?_; clear he; (try clear a); intro a w hs
                      refine RL_storeAll (i := 0) hs rfl rfl rfl ti44 ⟨rfl, by simp [hr1.1]⟩ (one_arr hr1) (.free rfl) fun _ _ hs => ?_
                      refine uon hs fun _ he => ?_
                      refine uy 15 he rfl (y_assign rfl) fun _ he => ?_
                      refine T_nil he ?_; clear he; (try clear a); intro w hs
                      exact ⟨f4, L2, r, b18, hf4, hr1, hB, hs.sub ⟨rfl, rfl, rfl, rfl, rfl, rfl, rfl, rfl, rfl, rfl, rfl, rfl, rfl, trivial⟩⟩
                    · refine RL_alloc hs ti44 (.free rfl) (by decide) ?_; clear hs; (try clear a w); intro b18 a w hs
                      refine uon hs fun _ he => ?_
                      refine T_any1 he rfl ?_; clear he; (try clear a); intro a w hs
                      refine RL_call (Lr := []) hs rfl has39 rfl rfl (ih f3 q km hv hN3 hL3 hq2 (by omega) hh1.2 (by omega)) (.free rfl) (by decide) ?_; clear hs; (try clear a w)
                      rintro _ f4 L2 a w hf4 ⟨r, hu, hr1, hB⟩ hs
                      rw [ho] at hu hB
                      subst hu
                      replace hs := stPm hs pmQ5
                      refine uon hs fun _ he => ?_
                      refine uy 10 he rfl (y_move rfl) fun _ he => ?_
                      refine uy 11 he rfl (y_extract (vs := [.agg r.toArray, .bool o.isSome]) rfl rfl) fun _ he => ?_
                      refine uy 12 he rfl (y_extract (vs := [.agg r.toArray, .bool o.isSome]) rfl rfl) fun _ he => ?_
                      refine T_any1 he rfl ?_; clear he; (try clear a); intro a w hs
                      refine RL_storeAll (i := 0) hs rfl rfl rfl ti44 ⟨rfl, by simp [hr1.1]⟩ (one_arr hr1) (.free rfl) fun _ _ hs => ?_
                      refine uon hs fun _ he => ?_
                      refine uy 15 he rfl (y_assign rfl) fun _ he => ?_
                      refine T_nil he ?_; clear he; (try clear a); intro w hs
                      exact ⟨f4, L2, r, b18, hf4, hr1, hB, hs.sub ⟨rfl, rfl, rfl, rfl, rfl, rfl, rfl, rfl, rfl, rfl, rfl, rfl, rfl, trivial⟩⟩
                  · clear hs
                    obtain ⟨f4, L2, r, b18, hf4, hr1, hB, hs⟩ := hI
                    refine W_seq fun K32 hK32 => ?_
                    refine W_region ?_
                    refine sy hs (y_move rfl) fun _ _ hs => ?_
                    refine RL_nil ?_
                    refine hK32 _ _ ?_; clear hK32
                    first | refine W_condP hs rfl (fun hsome => ?_) (fun hsome => ?_) | refine W_cond hs rfl (fun hsome => ?_) (fun hsome => ?_)
                    · obtain ⟨b, rfl⟩ : ∃ b, o = some b := Option.isSome_iff_exists.1 hsome
                      obtain ⟨xk, hrb⟩ : ∃ xk, r = cB b.kind b.node b.idx b.sty b.text xk := by
                        cases b
                        obtain ⟨_, xk, _, _, h, _⟩ := hB
                        exact ⟨xk, h⟩
                      have hout : outers (((kd ns m).take (j + 1)).filterMap (fun c => buildM ns ss d c.toNat km hv)) = (outers (((kd ns m).take j).filterMap (fun c => buildM ns ss d c.toNat km hv)) || outerK b.kind) := by
                        rw [fm_take hc, ho']; simp [outers]
                      refine W_seq fun K33 hK33 => ?_
                      refine W_region ?_
                      first | (refine sy hs (y_fieldAddr rfl (FO.of (off := 56) Tryz.underlying44 rfl rfl ti42 (by decide))) ?_; clear hs; (try clear a w); intro a w hs) | (refine sy hs (y_faE rfl (FO.of (off := 56) Tryz.underlying44 rfl rfl ti42 (by decide))) ?_; clear hs; (try clear a w); intro a w hs)
                      refine sy hs (y_ld (u := kv) rfl Tryz.underlying42 rfl (Cell.blk (.tail _ (.head _)) (cB_kids' hS2))) fun _ _ hs => ?_
                      refine sy hs (y_ldB rfl Tryz.underlying44 rfl ti44 (.head _) (by simp [hr1.1])) fun _ _ hs => ?_
                      refine RL_bs1a (r := r) hs rfl Tryz.underlying42 ti44 (by decide) hr1 fun tv _ _ hs => ?_
                      refine RL_app1 5 hs rfl rfl rfl Tryz.underlying42 ti44 (by decide) (by omega) fun nv _ _ hs => ?_; simp only [List.set] at hs
                      first | (refine sy hs (y_fieldAddr rfl (FO.of (off := 56) Tryz.underlying44 rfl rfl ti42 (by decide))) ?_; clear hs; (try clear a w); intro a w hs) | (refine sy hs (y_faE rfl (FO.of (off := 56) Tryz.underlying44 rfl rfl ti42 (by decide))) ?_; clear hs; (try clear a w); intro a w hs)
                      refine RL_storeBlk (i := 1) (o := 56) (u := nv) hs rfl rfl rfl ti42 (Rd.st hs (.tail _ (.tail _ (.tail _ (.tail _ (.tail _ (.head _))))))).one (by simp [cB_len hS2.len]) (by rw [List.setIfInBounds_toArray, cB_setK hS2.len]) (.free rfl) fun _ _ hs => ?_
                      refine RL_nil ?_
                      refine hK33 _ _ ?_; clear hK33
                      refine W_region ?_
                      refine sy hs (y_move rfl) fun _ _ hs => ?_
                      refine sy hs (y_move rfl) fun _ _ hs => ?_
                      first | refine St.splitP hs (t := 142) rfl (fun go hq => ?_) (fun go hq => ?_) | refine St.split hs (t := 142) rfl (fun go hq => ?_) (fun go hq => ?_)
                      · clear hs; have hs := hq; clear hq
                        refine sno hs fun _ _ hs => ?_
                        refine sno hs fun _ _ hs => ?_
                        refine sy hs (y_pick rfl rfl) fun _ _ hs => ?_
                        refine sy hs (y_assign rfl) fun _ _ hs => ?_
                        refine RL_nil ?_
                        refine hK29 _ _ ?_; clear hK29
                        refine W_region ?_
                        refine sy hs (y_move rfl) fun _ _ hs => ?_
                        refine sy hs (y_add rfl rfl (wr_i64 (by omega))) fun _ _ hs => ?_
                        refine sy hs (y_assign rfl) fun _ _ hs => ?_
                        refine RL_nil ?_
                        refine hK (j + 1) _ _ (by omega) ⟨f4, nv, rows ++ [r], X ++ L2, by omega, hf3.trans hf4, ?_, ?_⟩
                        · rw [fm_take hc, ho']; exact hO.append (.one hB)
                        · rw [List.append_assoc, hout, go]; exact hs.tail.sub ⟨rfl, rfl, rfl, rfl, rfl, rfl, rfl, rfl, rfl, rfl, rfl, trivial⟩
                      · clear hs; have hs := hq; clear hq
                        refine syg hs (y_ldB rfl Tryz.underlying44 rfl ti44 (.head _) (by simp [hr1.1])) fun _ _ hs => ?_
                        refine syg hs (y_call (v := .bool (outerK b.kind)) rfl has26 rfl (by rw [hrb]; exact outer2_ok)) fun _ _ hs => ?_
                        refine sy hs (y_pick rfl rfl) fun _ _ hs => ?_
                        refine sy hs (y_assign rfl) fun _ _ hs => ?_
                        refine RL_nil ?_
                        refine hK29 _ _ ?_; clear hK29
                        refine W_region ?_
                        refine sy hs (y_move rfl) fun _ _ hs => ?_
                        refine sy hs (y_add rfl rfl (wr_i64 (by omega))) fun _ _ hs => ?_
                        refine sy hs (y_assign rfl) fun _ _ hs => ?_
                        refine RL_nil ?_
                        refine hK (j + 1) _ _ (by omega) ⟨f4, nv, rows ++ [r], X ++ L2, by omega, hf3.trans hf4, ?_, ?_⟩
                        · rw [fm_take hc, ho']; exact hO.append (.one hB)
                        · rw [List.append_assoc, hout, go]; exact hs.tail.sub ⟨rfl, rfl, rfl, rfl, rfl, rfl, rfl, rfl, rfl, rfl, rfl, trivial⟩
                    · refine W_skip ?_
                      refine hK29 _ _ ?_; clear hK29
                      refine W_region ?_
                      refine sy hs (y_move rfl) fun _ _ hs => ?_
                      refine sy hs (y_add rfl rfl (wr_i64 (by omega))) fun _ _ hs => ?_
                      refine sy hs (y_assign rfl) fun _ _ hs => ?_
                      refine RL_nil ?_
                      obtain rfl : o = none := by simpa using hsome
                      obtain rfl : L2 = [] := hB
                      refine hK (j + 1) _ _ (by omega) ⟨f4, kv, rows, X, by omega, hf3.trans hf4, ?_, ?_⟩
                      · rw [fm_take hc, ho']; simpa using hO
                      · rw [show ((kd ns m).take (j + 1)).filterMap (fun c => buildM ns ss d c.toNat km hv) = ((kd ns m).take j).filterMap (fun c => buildM ns ss d c.toNat km hv) by rw [fm_take hc, ho']; simp]; exact hs.tail.sub ⟨rfl, rfl, rfl, rfl, rfl, rfl, rfl, rfl, rfl, rfl, rfl, trivial⟩
                · rw [List.take_of_length_le (by omega)] at hO hfl hs
                  have hkok : KOK ((kd ns m).filterMap (fun c => buildM ns ss d c.toNat km hv)) := filterM_in (kd ns m)
                  generalize hl : (kd ns m).filterMap (fun c => buildM ns ss d c.toNat km hv) = l at *
                  have hsz : l.length ≤ 50000 := by omega
                  replace hs := hs.sub (E' := [(10, .pointer (some ⟨b10, 0, none⟩)), (13, .pointer (some ⟨b13, 0, none⟩)), (14, .pointer (some ⟨b14, 0, none⟩)), (16, .bool (outers l))]) ⟨rfl, rfl, rfl, rfl, trivial⟩
                  refine W_exit ?_
                  refine hB26 _ _ ?_
                  refine hK24 _ _ ?_; clear hK24
                  refine W_cut (fun a w => St 186 w0 f3 (.blk b14 (.cells (cB (fitK km l) m 0 s2 ByteArray.empty kv).toArray 44 (0, 0)) :: .blk b13 (.cells s2.toArray 28 (0, 0)) :: .blk b10 (.cells zB.toArray 44 (0, 0)) :: .blk b5 (.cells #[v0] 37 (0, 0)) :: .row kv 44 57 rows :: (X ++ L)) [(10, .pointer (some ⟨b10, 0, none⟩)), (13, .pointer (some ⟨b13, 0, none⟩)), (14, .pointer (some ⟨b14, 0, none⟩)), (16, .bool (outers l))] a w) ?_ (fun a w hI => ?_)
                  · refine W_cut (fun a w => St 186 w0 f3 (.blk b14 (.cells (cB km m 0 s2 ByteArray.empty kv).toArray 44 (0, 0)) :: .blk b13 (.cells s2.toArray 28 (0, 0)) :: .blk b10 (.cells zB.toArray 44 (0, 0)) :: .blk b5 (.cells #[v0] 37 (0, 0)) :: .row kv 44 57 rows :: (X ++ L)) [(10, .pointer (some ⟨b10, 0, none⟩)), (13, .pointer (some ⟨b13, 0, none⟩)), (14, .pointer (some ⟨b14, 0, none⟩)), (16, .bool (outers l)), (151, .bool (decide (km = 6) && outers l))] a w) ?_ (fun a w hI => ?_)
                    · refine W_region ?_
                      first | (refine sy hs (y_fieldAddr rfl (FO.of (off := 0) Tryz.underlying44 rfl rfl ti3 (by decide))) ?_; clear hs; (try clear a w); intro a w hs) | (refine sy hs (y_faE rfl (FO.of (off := 0) Tryz.underlying44 rfl rfl ti3 (by decide))) ?_; clear hs; (try clear a w); intro a w hs)
                      refine sy hs (y_ld (u := .int .i64 km) rfl Tryz.underlying3 rfl (Cell.blk (.head _) rfl)) fun _ _ hs => ?_
                      refine sy hs (y_eql rfl rfl) fun _ _ hs => ?_
                      refine sy hs (y_move rfl) fun _ _ hs => ?_
                      first | refine St.splitP hs (t := 149) rfl (fun h6 hq => ?_) (fun h6 hq => ?_) | refine St.split hs (t := 149) rfl (fun h6 hq => ?_) (fun h6 hq => ?_)
                      · clear hs; have hs := hq; clear hq
                        refine syg hs (y_move rfl) fun _ _ hs => ?_
                        refine sy hs (y_pick rfl rfl) fun _ _ hs => ?_
                        refine RL_nil ?_
                        rw [decide_eq_true h6, Bool.true_and]
                        exact hs.sub ⟨rfl, rfl, rfl, rfl, rfl, trivial⟩
                      · clear hs; have hs := hq; clear hq
                        refine sno hs fun _ _ hs => ?_
                        refine sy hs (y_pick rfl rfl) fun _ _ hs => ?_
                        refine RL_nil ?_
                        rw [decide_eq_false h6, Bool.false_and]
                        exact hs.sub ⟨rfl, rfl, rfl, rfl, rfl, trivial⟩
                    · have hs := hI; clear hI
                      first | refine W_condP hs rfl (fun hc => ?_) (fun hc => ?_) | refine W_cond hs rfl (fun hc => ?_) (fun hc => ?_)
                      · refine W_region ?_
                        first | (refine sy hs (y_fieldAddr rfl (FO.of (off := 0) Tryz.underlying44 rfl rfl ti3 (by decide))) ?_; clear hs; (try clear a w); intro a w hs) | (refine sy hs (y_faE rfl (FO.of (off := 0) Tryz.underlying44 rfl rfl ti3 (by decide))) ?_; clear hs; (try clear a w); intro a w hs)
                        refine RL_storeBlk (i := 0) (o := 0) (u := .int .i64 1) hs rfl rfl rfl ti3 rfl (by simp [cB]) (by rw [List.setIfInBounds_toArray, cB_set0]) (.free rfl) fun _ _ hs => ?_
                        refine RL_nil ?_
                        rw [fitK, if_pos (by simpa using hc)]
                        exact hs.sub ⟨rfl, rfl, rfl, rfl, trivial⟩
                      · refine W_skip ?_
                        rw [fitK, if_neg (by simpa using hc)]
                        exact hs.sub ⟨rfl, rfl, rfl, rfl, trivial⟩
                  · have hs := hI; clear hI
                    generalize hKq : fitK km l = q at *
                    refine W_cut (fun a w => ∃ kv' rows' X', OwnL 44 (fitL q s2 l) rows' X' ∧ St 186 w0 f3 (.blk b14 (.cells (cB q m 0 s2 ByteArray.empty kv').toArray 44 (0, 0)) :: .blk b13 (.cells s2.toArray 28 (0, 0)) :: .blk b10 (.cells zB.toArray 44 (0, 0)) :: .blk b5 (.cells #[v0] 37 (0, 0)) :: .row kv' 44 57 rows' :: (X' ++ L)) [(10, .pointer (some ⟨b10, 0, none⟩)), (14, .pointer (some ⟨b14, 0, none⟩))] a w) ?_ (fun a w hI => ?_)
                    · refine W_seq fun K37 hK37 => ?_
                      refine W_region ?_
                      first | (refine sy hs (y_fieldAddr rfl (FO.of (off := 0) Tryz.underlying44 rfl rfl ti3 (by decide))) ?_; clear hs; (try clear a w); intro a w hs) | (refine sy hs (y_faE rfl (FO.of (off := 0) Tryz.underlying44 rfl rfl ti3 (by decide))) ?_; clear hs; (try clear a w); intro a w hs)
                      refine sy hs (y_ld (u := .int .i64 q) rfl Tryz.underlying3 rfl (Cell.blk (.head _) rfl)) fun _ _ hs => ?_
                      refine RL_nil ?_
                      refine hK37 _ _ ?_; clear hK37
                      refine W_block fun Qe38 hB38 hO38 => ?_
                      refine W_seq fun K39 hK39 => ?_
                      refine W_region ?_
                      refine sy hs (y_eql rfl rfl) fun _ _ hs => ?_
                      refine sy hs (y_assign rfl) fun _ _ hs => ?_
                      refine RL_nil ?_
                      refine hK39 _ _ ?_; clear hK39
                      first | refine W_condP hs rfl (fun c3 => ?_) (fun c3 => ?_) | refine W_cond hs rfl (fun c3 => ?_) (fun c3 => ?_)
                      · refine W_region ?_
                        first | (refine sy hs (y_fieldAddr rfl (FO.of (off := 56) Tryz.underlying44 rfl rfl ti42 (by decide))) ?_; clear hs; (try clear a w); intro a w hs) | (refine sy hs (y_faE rfl (FO.of (off := 56) Tryz.underlying44 rfl rfl ti42 (by decide))) ?_; clear hs; (try clear a w); intro a w hs)
                        refine sy hs (y_ld (u := kv) rfl Tryz.underlying42 rfl (Cell.blk (.head _) (cB_kids' hS2))) fun _ _ hs => ?_
                        refine sy hs (y_ldB rfl Tryz.underlying28 rfl ti28 (.tail _ (.head _)) (by simp [hS2.len])) fun _ _ hs => ?_
                        refine RL_call (stPm hs pmR) rfl has71 rfl rfl (runs4 hS2 hsz hkok _ _ _ _ hO) (.free rfl) (by decide) ?_; clear hs; (try clear a w)
                        rintro kv' _ _ a w _ ⟨rfl, rows', X', rfl, hE⟩ hs
                        replace hs := stPm hs pmR.symm
                        first | (refine sy hs (y_fieldAddr rfl (FO.of (off := 56) Tryz.underlying44 rfl rfl ti42 (by decide))) ?_; clear hs; (try clear a w); intro a w hs) | (refine sy hs (y_faE rfl (FO.of (off := 56) Tryz.underlying44 rfl rfl ti42 (by decide))) ?_; clear hs; (try clear a w); intro a w hs)
                        refine RL_storeBlk (i := 0) (o := 56) (u := kv') hs rfl rfl rfl ti42 (Rd.st hs (.tail _ (.tail _ (.tail _ (.tail _ (.head _)))))).one (by simp [cB_len hS2.len]) (by rw [List.setIfInBounds_toArray, cB_setK hS2.len]) (.free rfl) fun _ _ hs => ?_
                        refine RL_nil ?_
                        exact ⟨kv', rows', X', by rw [fitL, if_pos c3]; exact hE, hs.sub ⟨rfl, rfl, trivial⟩⟩
                      · refine W_seq fun K40 hK40 => ?_
                        refine W_region ?_
                        refine sy hs (y_eql rfl rfl) fun _ _ hs => ?_
                        refine sy hs (y_assign rfl) fun _ _ hs => ?_
                        refine RL_nil ?_
                        refine hK40 _ _ ?_; clear hK40
                        first | refine W_condP hs rfl (fun c4 => ?_) (fun c4 => ?_) | refine W_cond hs rfl (fun c4 => ?_) (fun c4 => ?_)
                        · refine W_region ?_
                          first | (refine sy hs (y_fieldAddr rfl (FO.of (off := 56) Tryz.underlying44 rfl rfl ti42 (by decide))) ?_; clear hs; (try clear a w); intro a w hs) | (refine sy hs (y_faE rfl (FO.of (off := 56) Tryz.underlying44 rfl rfl ti42 (by decide))) ?_; clear hs; (try clear a w); intro a w hs)
                          refine sy hs (y_ld (u := kv) rfl Tryz.underlying42 rfl (Cell.blk (.head _) (cB_kids' hS2))) fun _ _ hs => ?_
                          refine sy hs (y_ldB rfl Tryz.underlying28 rfl ti28 (.tail _ (.head _)) (by simp [hS2.len])) fun _ _ hs => ?_
                          refine RL_call (stPm hs pmR) rfl has71 rfl rfl (runs5 hS2 hsz hkok _ _ _ _ hO) (.free rfl) (by decide) ?_; clear hs; (try clear a w)
                          rintro kv' _ _ a w _ ⟨rfl, rows', X', rfl, hE⟩ hs
                          replace hs := stPm hs pmR.symm
                          first | (refine sy hs (y_fieldAddr rfl (FO.of (off := 56) Tryz.underlying44 rfl rfl ti42 (by decide))) ?_; clear hs; (try clear a w); intro a w hs) | (refine sy hs (y_faE rfl (FO.of (off := 56) Tryz.underlying44 rfl rfl ti42 (by decide))) ?_; clear hs; (try clear a w); intro a w hs)
                          refine RL_storeBlk (i := 0) (o := 56) (u := kv') hs rfl rfl rfl ti42 (Rd.st hs (.tail _ (.tail _ (.tail _ (.tail _ (.head _)))))).one (by simp [cB_len hS2.len]) (by rw [List.setIfInBounds_toArray, cB_setK hS2.len]) (.free rfl) fun _ _ hs => ?_
                          refine RL_nil ?_
                          exact ⟨kv', rows', X', by rw [fitL, if_neg c3, if_pos c4]; exact hE, hs.sub ⟨rfl, rfl, trivial⟩⟩
                        · refine W_seq fun K41 hK41 => ?_
                          refine W_seq fun K42 hK42 => ?_
                          refine W_region ?_
                          refine sy hs (y_eql rfl rfl) fun _ _ hs => ?_
                          refine sy hs (y_assign rfl) fun _ _ hs => ?_
                          refine RL_nil ?_
                          refine hK42 _ _ ?_; clear hK42
                          first | refine W_condP hs rfl (fun c1 => ?_) (fun c1 => ?_) | refine W_cond hs rfl (fun c1 => ?_) (fun c1 => ?_)
                          · refine W_skip ?_
                            refine hK41 _ _ ?_; clear hK41
                            first | refine W_condP hs rfl (fun c1b => ?_) (fun c1b => ?_) | refine W_cond hs rfl (fun c1b => ?_) (fun c1b => ?_)
                            · refine W_seq fun K43 hK43 => ?_
                              refine W_region ?_
                              refine sy hs (y_move rfl) fun _ _ hs => ?_
                              refine RL_nil ?_
                              refine hK43 _ _ ?_; clear hK43
                              first | refine W_condP hs rfl (fun hol => ?_) (fun hol => ?_) | refine W_cond hs rfl (fun hol => ?_) (fun hol => ?_)
                              · have c1 : (q = 1 ∨ q = 5) ∧ outers l = true := ⟨.inl c1, hol⟩
                                refine W_region ?_
                                first | (refine sy hs (y_fieldAddr rfl (FO.of (off := 56) Tryz.underlying44 rfl rfl ti42 (by decide))) ?_; clear hs; (try clear a w); intro a w hs) | (refine sy hs (y_faE rfl (FO.of (off := 56) Tryz.underlying44 rfl rfl ti42 (by decide))) ?_; clear hs; (try clear a w); intro a w hs)
                                refine sy hs (y_ld (u := kv) rfl Tryz.underlying42 rfl (Cell.blk (.head _) (cB_kids' hS2))) fun _ _ hs => ?_
                                refine sy hs (y_ldB rfl Tryz.underlying28 rfl ti28 (.tail _ (.head _)) (by simp [hS2.len])) fun _ _ hs => ?_
                                refine RL_call (stPm hs pmR) rfl has71 rfl rfl (runs1 hS2 hsz hkok _ _ _ _ hO) (.free rfl) (by decide) ?_; clear hs; (try clear a w)
                                rintro kv' _ _ a w _ ⟨rfl, rows', X', rfl, hE⟩ hs
                                replace hs := stPm hs pmR.symm
                                first | (refine sy hs (y_fieldAddr rfl (FO.of (off := 56) Tryz.underlying44 rfl rfl ti42 (by decide))) ?_; clear hs; (try clear a w); intro a w hs) | (refine sy hs (y_faE rfl (FO.of (off := 56) Tryz.underlying44 rfl rfl ti42 (by decide))) ?_; clear hs; (try clear a w); intro a w hs)
                                refine RL_storeBlk (i := 0) (o := 56) (u := kv') hs rfl rfl rfl ti42 (Rd.st hs (.tail _ (.tail _ (.tail _ (.tail _ (.head _)))))).one (by simp [cB_len hS2.len]) (by rw [List.setIfInBounds_toArray, cB_setK hS2.len]) (.free rfl) fun _ _ hs => ?_
                                refine RL_nil ?_
                                exact ⟨kv', rows', X', by rw [fitL, if_neg c3, if_neg c4, if_pos c1]; exact hE, hs.sub ⟨rfl, rfl, trivial⟩⟩
                              · refine W_skip ?_
                                exact ⟨kv, rows, X, by rw [fitL, if_neg c3, if_neg c4, if_neg (fun h => by rw [hol] at h; simp at h), if_neg (by omega)]; exact hO, hs.sub ⟨rfl, rfl, trivial⟩⟩
                            · exact absurd c1 c1b
                          · refine W_region ?_
                            refine sy hs (y_eql rfl rfl) fun _ _ hs => ?_
                            refine sy hs (y_assign rfl) fun _ _ hs => ?_
                            refine RL_nil ?_
                            refine hK41 _ _ ?_; clear hK41
                            first | refine W_condP hs rfl (fun c5 => ?_) (fun c5 => ?_) | refine W_cond hs rfl (fun c5 => ?_) (fun c5 => ?_)
                            · refine W_seq fun K44 hK44 => ?_
                              refine W_region ?_
                              refine sy hs (y_move rfl) fun _ _ hs => ?_
                              refine RL_nil ?_
                              refine hK44 _ _ ?_; clear hK44
                              first | refine W_condP hs rfl (fun hol => ?_) (fun hol => ?_) | refine W_cond hs rfl (fun hol => ?_) (fun hol => ?_)
                              · have c1 : (q = 1 ∨ q = 5) ∧ outers l = true := ⟨.inr c5, hol⟩
                                refine W_region ?_
                                first | (refine sy hs (y_fieldAddr rfl (FO.of (off := 56) Tryz.underlying44 rfl rfl ti42 (by decide))) ?_; clear hs; (try clear a w); intro a w hs) | (refine sy hs (y_faE rfl (FO.of (off := 56) Tryz.underlying44 rfl rfl ti42 (by decide))) ?_; clear hs; (try clear a w); intro a w hs)
                                refine sy hs (y_ld (u := kv) rfl Tryz.underlying42 rfl (Cell.blk (.head _) (cB_kids' hS2))) fun _ _ hs => ?_
                                refine sy hs (y_ldB rfl Tryz.underlying28 rfl ti28 (.tail _ (.head _)) (by simp [hS2.len])) fun _ _ hs => ?_
                                refine RL_call (stPm hs pmR) rfl has71 rfl rfl (runs1 hS2 hsz hkok _ _ _ _ hO) (.free rfl) (by decide) ?_; clear hs; (try clear a w)
                                rintro kv' _ _ a w _ ⟨rfl, rows', X', rfl, hE⟩ hs
                                replace hs := stPm hs pmR.symm
                                first | (refine sy hs (y_fieldAddr rfl (FO.of (off := 56) Tryz.underlying44 rfl rfl ti42 (by decide))) ?_; clear hs; (try clear a w); intro a w hs) | (refine sy hs (y_faE rfl (FO.of (off := 56) Tryz.underlying44 rfl rfl ti42 (by decide))) ?_; clear hs; (try clear a w); intro a w hs)
                                refine RL_storeBlk (i := 0) (o := 56) (u := kv') hs rfl rfl rfl ti42 (Rd.st hs (.tail _ (.tail _ (.tail _ (.tail _ (.head _)))))).one (by simp [cB_len hS2.len]) (by rw [List.setIfInBounds_toArray, cB_setK hS2.len]) (.free rfl) fun _ _ hs => ?_
                                refine RL_nil ?_
                                exact ⟨kv', rows', X', by rw [fitL, if_neg c3, if_neg c4, if_pos c1]; exact hE, hs.sub ⟨rfl, rfl, trivial⟩⟩
                              · refine W_skip ?_
                                exact ⟨kv, rows, X, by rw [fitL, if_neg c3, if_neg c4, if_neg (fun h => by rw [hol] at h; simp at h), if_neg (by omega)]; exact hO, hs.sub ⟨rfl, rfl, trivial⟩⟩
                            · refine W_seq fun K45 hK45 => ?_
                              refine W_region ?_
                              refine sy hs (y_eql rfl rfl) fun _ _ hs => ?_
                              refine sy hs (y_assign rfl) fun _ _ hs => ?_
                              refine RL_nil ?_
                              refine hK45 _ _ ?_; clear hK45
                              first | refine W_condP hs rfl (fun c2 => ?_) (fun c2 => ?_) | refine W_cond hs rfl (fun c2 => ?_) (fun c2 => ?_)
                              · refine W_region ?_
                                first | (refine sy hs (y_fieldAddr rfl (FO.of (off := 56) Tryz.underlying44 rfl rfl ti42 (by decide))) ?_; clear hs; (try clear a w); intro a w hs) | (refine sy hs (y_faE rfl (FO.of (off := 56) Tryz.underlying44 rfl rfl ti42 (by decide))) ?_; clear hs; (try clear a w); intro a w hs)
                                refine sy hs (y_ld (u := kv) rfl Tryz.underlying42 rfl (Cell.blk (.head _) (cB_kids' hS2))) fun _ _ hs => ?_
                                refine sy hs (y_ldB rfl Tryz.underlying28 rfl ti28 (.tail _ (.head _)) (by simp [hS2.len])) fun _ _ hs => ?_
                                refine RL_call (stPm hs pmR) rfl has72 rfl rfl (wrap_ok (p := flexK) (an := anonB s2) hS2 hsz (fun b hb => tk2 (hkok b hb)) (fun _ _ _ h => around1 hS2 (by omega)) hO) (.free rfl) (by decide) ?_; clear hs; (try clear a w)
                                rintro kv' _ _ a w _ ⟨rfl, rows', X', rfl, hE⟩ hs
                                replace hs := stPm hs pmR.symm
                                first | (refine sy hs (y_fieldAddr rfl (FO.of (off := 56) Tryz.underlying44 rfl rfl ti42 (by decide))) ?_; clear hs; (try clear a w); intro a w hs) | (refine sy hs (y_faE rfl (FO.of (off := 56) Tryz.underlying44 rfl rfl ti42 (by decide))) ?_; clear hs; (try clear a w); intro a w hs)
                                refine RL_storeBlk (i := 0) (o := 56) (u := kv') hs rfl rfl rfl ti42 (Rd.st hs (.tail _ (.tail _ (.tail _ (.tail _ (.head _)))))).one (by simp [cB_len hS2.len]) (by rw [List.setIfInBounds_toArray, cB_setK hS2.len]) (.free rfl) fun _ _ hs => ?_
                                refine RL_nil ?_
                                exact ⟨kv', rows', X', by rw [fitL, if_neg c3, if_neg c4, if_neg (by omega), if_pos c2]; exact hE, hs.sub ⟨rfl, rfl, trivial⟩⟩
                              · refine W_skip ?_
                                exact ⟨kv, rows, X, by rw [fitL, if_neg c3, if_neg c4, if_neg (by omega), if_neg c2]; exact hO, hs.sub ⟨rfl, rfl, trivial⟩⟩
                    · clear hs
                      obtain ⟨kv', rows', X', hE, hs⟩ := hI
                      have hk1 := (Rd.st hs (.tail _ (.tail _ (.tail _ (.tail _ (.head _)))))).one
                      refine W_seq fun K46 hK46 => ?_
                      refine W_region ?_
                      refine sy hs (y_ldB rfl Tryz.underlying44 rfl ti44 (.head _) (by simp [cB_len hS2.len])) fun _ _ hs => ?_
                      refine RL_storeAll (i := 2) hs rfl rfl rfl ti44 ⟨rfl, by simp [cB_len hS2.len]⟩ (one_arr (cB_one hS2 hk1)) (.free rfl) fun _ _ hs => ?_
                      refine sy hs (y_assign rfl) fun _ _ hs => ?_
                      refine RL_nil ?_
                      refine hK46 _ _ ?_; clear hK46
                      refine W_ret ?_
                      refine RtV2 hs rfl (rv_a hs rfl Tryz.underlying44 rfl ti44 (fun j u hj => Cell.blk (.tail _ (.tail _ (.head _))) hj) (by simp [cB_len hS2.len])) (rv_t hs rfl) ?_
                      refine ⟨_, _, .row kv' 44 57 rows' :: X', rfl, hf2.trans hf3, hs.cw.tail.tail.tail.tail, _, by rw [hbM]; rfl, cB_one hS2 hk1, ?_⟩
                      rw [hbM, fitM, hKq]
                      exact ⟨hS2, kv', rows', X', rfl, rfl, hE⟩
theorem made2_ok {ns : List api_Node} {ss : List Sty} {v0 lv : Value} (hT : RT ns) (hSS : ∀ s ∈ ss, StyOK s ∧ 0 ≤ dispS s ∧ dispS s ≤ 6) (hsl : ss.length = ns.length) : ∀ d, Made2OK ns ss v0 lv d
  | 0 => fun f m above heavy _ _ hm hd => by omega
  | d + 1 => made2_step hT hSS hsl (made2_ok hT hSS hsl d)
end Go.Proofs.YteicdfkmpnmkmaaGreat
