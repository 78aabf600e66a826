/-
  Walks and laws of this seat.
-/
import Derived.Test.YteicdfkmpnmkmaaGreatS13v
import Derived.Test.YteicdfkmpnmkmaaGreatQ13C
import Derived.Test.YteicdfkmpnmkmaaGreatDXc
import Derived.Test.YteicdfkmpnmkmaaGreatRows
namespace Go.Proofs.YteicdfkmpnmkmaaGreat
set_option linter.unusedVariables false
set_option linter.unusedSimpArgs false
open Go.RowKit Go.Sl
theorem known_gives (f : Fz) : Gives Tryz.prog 11 [] f (.bool true) := Go.D.known_still.gives (u := .bool true) (fun _ _ h => h) f
def badS (s : Sty) : Bool := decide (dispS s < 0) || (decide (dispS s > 6) || (decide (posS s < 0) || (decide (posS s > 3) || (decide (floS s < 0) || decide (floS s > 2)))))
theorem buildM_some {ns : List api_Node} {ss : List Sty} {d n : Nat} {above heavy : Int} (h : dispS (ss.getD n []) ≠ 2) : ∃ b, buildM ns ss (d + 1) n above heavy = some b := by
  rw [buildM, if_neg h]
  split
  · exact ⟨_, rfl⟩
  · split
    · exact ⟨_, rfl⟩
    · exact ⟨_, rfl⟩
theorem y_eqlS {P : Program} {C : World → Prop} {n : Nat} {E : List (Nat × Value)} {d : Option Nat} {ty : TypeId} {pos : String} {af : Array Edge} {g : Option (Nat × Bool)} {x y : Operand} {t t' : TypeId} {k : IntKind} {i : Int} (hx : opv E x = some (.int k i)) (hy : opv E y = some (.int k i)) : Y P C n E ⟨d, .binOp .eql t x y t', ty, pos, af, g⟩ (.bool true) := by
  have := y_eql (P := P) (C := C) (n := n) (d := d) (t := t) (t' := t') (ty := ty) (pos := pos) (af := af) (g := g) hx hy
  rwa [decide_eq_true rfl] at this
set_option maxRecDepth 20000 in
set_option maxHeartbeats 16000000 in
theorem styled_ok {f : Fz} {ns : List api_Node} {ss : List Sty} {v0 lv : Value} (hSB : SB_api_Tree ⟨ns⟩) (hN : RS t_api_Node f v0 ns) (hL : Rd f [] lv 52 ss) (hSS : ∀ s ∈ ss, StyTy s) : Gives Tryz.prog 4 [.agg #[v0], lv] f (.bool true) := by
  intro w0 L w hC
  have hTR : t_api_Tree.R f [v0] ⟨ns⟩ := ⟨v0, rfl, hN⟩
  obtain ⟨b, hb, hbR⟩ := whole_eq hSB (n := 1048600) (Nat.le_refl _)
  have hN0 := hN
  obtain ⟨nrows, hNR, hNW⟩ := hN
  have hnl := hNW.len
  refine enter Tryz.func4 rfl Tryz.ntmps4 (by simp) hC fun a hs => ?_
  refine W_seq fun K1 hK1 => ?_
  refine W_region ?_
  refine sbox (cs := #[v0]) hs rfl fun b2 _ _ hs => ?_
  refine sy hs (y_assign rfl) fun _ _ hs => ?_
  refine RL_nil ?_
  refine hK1 _ _ ?_; clear hK1
  refine W_seq fun K2 hK2 => ?_
  refine W_seq fun K3 hK3 => ?_
  refine W_region ?_
  first | (refine sy hs (y_fieldAddr rfl (FO.of (off := 0) Tryz.underlying37 rfl rfl ti35 (by decide))) ?_; clear hs; (try clear a w); intro a w hs) | (refine sy hs (y_faE rfl (FO.of (off := 0) Tryz.underlying37 rfl rfl ti35 (by decide))) ?_; clear hs; (try clear a w); intro a w hs)
  refine sy hs (y_ld (u := v0) rfl Tryz.underlying35 rfl (Cell.blk (.head _) rfl)) fun _ _ hs => ?_
  refine sy hs (y_lenR0 hNR rfl Tryz.underlying35) fun _ _ hs => ?_
  refine sy hs (y_gtr rfl rfl) fun _ _ hs => ?_
  refine sy hs (y_move rfl) fun _ _ hs => ?_
  first | refine St.splitP hs (t := 14) rfl (fun h1 hq => ?_) (fun h1 hq => ?_) | refine St.split hs (t := 14) rfl (fun h1 hq => ?_) (fun h1 hq => ?_)
  · clear hs; have hs := hq; clear hq
    refine sno hs fun _ _ hs => ?_
    refine sno hs fun _ _ hs => ?_
    refine sno hs fun _ _ hs => ?_
    refine sy hs (y_pick rfl rfl) fun _ _ hs => ?_
    refine RL_nil ?_
    refine hK3 _ _ ?_; clear hK3
    refine W_condT hs rfl ?_
    refine W_seq fun K4 hK4 => ?_
    refine W_region ?_
    refine sy hs (y_call rfl has11 rfl (known_gives f)) fun _ _ hs => ?_
    refine sy hs (y_assign rfl) fun _ _ hs => ?_
    refine RL_nil ?_
    refine hK4 _ _ ?_; clear hK4
    refine W_ret ?_
    refine Rt_1 hs rfl rfl ?_
    exact ⟨rfl, hs.cw.tail⟩
  · clear hs; have hs := hq; clear hq
    refine syg hs (y_ldB (cs := #[v0]) rfl Tryz.underlying37 rfl ti37 (.head _) rfl) fun _ _ hs => ?_
    refine syg hs (y_call rfl has12 rfl (keep_Whole_ok 1048600 (a0 := [v0]) hTR hb)) fun _ _ hs => ?_
    refine syg hs (y_not rfl) fun _ _ hs => ?_
    refine sy hs (y_pick rfl rfl) fun _ _ hs => ?_
    refine RL_nil ?_
    refine hK3 _ _ ?_; clear hK3
    first | refine W_condP hs rfl (fun h2 => ?_) (fun h2 => ?_) | refine W_cond hs rfl (fun h2 => ?_) (fun h2 => ?_)
    · refine W_seq fun K5 hK5 => ?_
      refine W_region ?_
      refine sy hs (y_call rfl has11 rfl (known_gives f)) fun _ _ hs => ?_
      refine sy hs (y_assign rfl) fun _ _ hs => ?_
      refine RL_nil ?_
      refine hK5 _ _ ?_; clear hK5
      refine W_ret ?_
      refine Rt_1 hs rfl rfl ?_
      exact ⟨rfl, hs.cw.tail⟩
    · obtain rfl : b = true := by simpa using h2
      have hr0 := hbR rfl
      have hT := RT.of hr0 rfl
      have hpos := hT.pos
      refine W_skip ?_
      refine hK2 _ _ ?_; clear hK2
      refine W_seq fun K6 hK6 => ?_
      refine W_region ?_
      refine sy hs (y_ldB (cs := #[v0]) rfl Tryz.underlying37 rfl ti37 (.head _) rfl) fun _ _ hs => ?_
      refine sy hs (y_move rfl) fun _ _ hs => ?_
      refine RL_callV hs rfl has9 rfl (Build_ok hT hr0 hN0 hL fun s h => (hSS s h).ok) ?_; clear hs; (try clear a w)
      rintro _ f1 X1 a w hf1 ⟨r1, rfl, hr1, hB1⟩ hs
      generalize ho : buildT ns ss = o at hB1 hs
      have hL1 := hL.le hf1
      have hNR1 := hNR.le hf1
      refine sy hs (y_move rfl) fun _ _ hs => ?_
      refine sy hs (y_extract (vs := [.agg r1.toArray, .bool o.isSome]) rfl rfl) fun _ _ hs => ?_
      refine sy hs (y_extract (vs := [.agg r1.toArray, .bool o.isSome]) rfl rfl) fun _ _ hs => ?_
      refine RL_alloc hs ti31 (.free rfl) (by decide) fun b5 _ _ hs => ?_
      refine RL_storeAll (i := 0) hs rfl rfl rfl ti31 ⟨rfl, by simp [hr1.1]⟩ (one_arr hr1) (.free rfl) fun _ _ hs => ?_
      refine sy hs (y_assign rfl) fun _ _ hs => ?_
      refine RL_nil ?_
      refine hK6 _ _ ?_; clear hK6
      refine W_seq fun K7 hK7 => ?_
      refine W_cut (fun a w => St 120 w0 f1 (.blk b5 (.cells r1.toArray 31 (0, 0)) :: (X1 ++ (.blk b2 (.cells #[v0] 37 (0, 0)) :: L))) [(1, lv), (2, .pointer (some ⟨b2, 0, none⟩)), (5, .pointer (some ⟨b5, 0, none⟩)), (6, .bool o.isSome), (38, .bool (decide (ss.length ≠ ns.length) || decide (dispS (ss.getD 0 []) = 2)))] a w) ?_ (fun a w hI => ?_)
      · refine W_region ?_
        refine sy hs (y_move rfl) fun _ _ hs => ?_
        refine sy hs (y_lenR0 hL1 rfl Tryz.underlying40) fun _ _ hs => ?_
        first | (refine sy hs (y_fieldAddr rfl (FO.of (off := 0) Tryz.underlying37 rfl rfl ti35 (by decide))) ?_; clear hs; (try clear a w); intro a w hs) | (refine sy hs (y_faE rfl (FO.of (off := 0) Tryz.underlying37 rfl rfl ti35 (by decide))) ?_; clear hs; (try clear a w); intro a w hs)
        refine sy hs (y_ld (u := v0) rfl Tryz.underlying35 rfl (Cell.blk (.tail _ (List.mem_append_right _ (.head _))) rfl)) fun _ _ hs => ?_
        refine sy hs (y_lenR0 hNR1 rfl Tryz.underlying35) fun _ _ hs => ?_
        refine sy hs (y_neq rfl rfl) fun _ _ hs => ?_
        refine sy hs (y_move rfl) fun _ _ hs => ?_
        first | refine St.splitP hs (t := 32) rfl (fun g1 hq => ?_) (fun g1 hq => ?_) | refine St.split hs (t := 32) rfl (fun g1 hq => ?_) (fun g1 hq => ?_)
        · clear hs; have hs := hq; clear hq
          refine sno hs fun _ _ hs => ?_
          refine sno hs fun _ _ hs => ?_
          refine sno hs fun _ _ hs => ?_
          refine sno hs fun _ _ hs => ?_
          refine sno hs fun _ _ hs => ?_
          refine sy hs (y_pick rfl rfl) fun _ _ hs => ?_
          refine RL_nil ?_
          rw [show (decide (ss.length ≠ ns.length) || decide (dispS (ss.getD 0 []) = 2)) = true by rw [decide_eq_true (show ss.length ≠ ns.length by omega)]; rfl]
          exact hs.sub ⟨rfl, rfl, rfl, rfl, rfl, trivial⟩
        · clear hs; have hs := hq; clear hq
          obtain ⟨s0, hs0⟩ : ∃ s0, ss.getD 0 [] = s0 := ⟨_, rfl⟩
          have hsm : ss[0]? = some s0 := by rw [← hs0, List.getD_eq_getElem?_getD, List.getElem?_eq_getElem (by omega)]; rfl
          have hS : StyOK s0 := (hSS _ (List.mem_of_getElem? hsm)).ok
          refine syg hs (y_move rfl) fun _ _ hs => ?_
          refine syg hs (y_indexAddr (m := 0) hL1 rfl rfl rfl (by omega) Tryz.underlying40 ti28) fun _ _ hs => ?_
          refine syg hs (y_faE rfl (FO.of (off := 0) Tryz.underlying28 rfl rfl ti3 (by decide)) hL1 (by omega)) fun _ _ hs => ?_
          refine syg hs (y_loadE (u := .int .i64 (dispS s0)) hL1.up rfl hsm hS.d Tryz.underlying3 rfl) fun _ _ hs => ?_
          refine syg hs (y_eql rfl rfl) fun _ _ hs => ?_
          refine sy hs (y_pick rfl rfl) fun _ _ hs => ?_
          refine RL_nil ?_
          rw [hs0, show (decide (ss.length ≠ ns.length) || decide (dispS s0 = 2)) = decide (dispS s0 = 2) by rw [decide_eq_false (show ¬ ss.length ≠ ns.length by omega)]; rfl]
          exact hs.sub ⟨rfl, rfl, rfl, rfl, rfl, trivial⟩
      · have hs := hI; clear hI
        first | refine W_condP hs rfl (fun hc => ?_) (fun hc => ?_) | refine W_cond hs rfl (fun hc => ?_) (fun hc => ?_)
        · rw [Bool.or_eq_true, decide_eq_true_eq, decide_eq_true_eq] at hc
          obtain rfl : o = none := by rw [← ho]; exact if_pos hc
          obtain ⟨rfl, rfl⟩ := hB1
          refine W_seq fun K9 hK9 => ?_
          refine W_region ?_
          refine sy hs (y_move rfl) fun _ _ hs => ?_
          refine sy hs (y_not rfl) fun _ _ hs => ?_
          refine sy hs (y_move rfl) fun _ _ hs => ?_
          first | (refine syg hs (y_fieldAddr rfl (FO.of (off := 56) Tryz.underlying31 rfl rfl ti29 (by decide))) ?_; clear hs; (try clear a w); intro a w hs) | (refine syg hs (y_faE rfl (FO.of (off := 56) Tryz.underlying31 rfl rfl ti29 (by decide))) ?_; clear hs; (try clear a w); intro a w hs)
          refine syg hs (y_ld (u := .slice none 0 0) rfl Tryz.underlying29 rfl (Cell.blk (.head _) rfl)) fun _ _ hs => ?_
          refine syg hs (y_lenR0 (Rd.nil f1 [] 57) rfl Tryz.underlying29) fun _ _ hs => ?_
          refine syg hs (y_eqlS rfl rfl) fun _ _ hs => ?_
          refine sy hs (y_pick rfl rfl) fun _ _ hs => ?_
          refine sy hs (y_move rfl) fun _ _ hs => ?_
          refine syg hs (y_call rfl has11 rfl (known_gives f1)) fun _ _ hs => ?_
          refine sy hs (y_pick rfl rfl) fun _ _ hs => ?_
          refine sy hs (y_assign rfl) fun _ _ hs => ?_
          refine RL_nil ?_
          refine hK9 _ _ ?_; clear hK9
          refine W_ret ?_
          refine Rt_1 hs rfl rfl ?_
          exact ⟨rfl, ((hs.subL (.cons _ (.cons _ (.refl _)))).weak hf1).cw⟩
        · rw [Bool.or_eq_false_iff, decide_eq_false_iff_not, decide_eq_false_iff_not, Decidable.not_not] at hc
          obtain ⟨hl, hd⟩ := hc
          obtain ⟨b0, hb0⟩ : ∃ b0, buildM ns ss ns.length 0 0 0 = some b0 := by
            obtain ⟨d, hd'⟩ : ∃ d, ns.length = d + 1 := ⟨ns.length - 1, by omega⟩
            rw [hd']
            exact buildM_some hd
          have hM : ((buildM ns ss ns.length 0 0 0).map fun b => (numB b 0).1) = some (numB b0 0).1 := by rw [hb0]; rfl
          obtain rfl : o = some (numB b0 0).1 := by rw [← ho, ← hM]; exact if_neg fun h => h.elim (fun h => h hl) (fun h => hd h)
          have hTy : TyB (numB b0 0).1 := numB_ty b0 0 (buildM_ty hSS hl hb0 hpos fun i hi c hc => by
            obtain ⟨m, h1, _, h2⟩ := (kd_eq hT hi).2.2.2 c hc
            exact ⟨m, h1, h2⟩)
          generalize (numB b0 0).1 = b at *
          refine W_skip ?_
          refine hK7 _ _ ?_; clear hK7
          refine W_seq fun K10 hK10 => ?_
          refine W_seq fun K11 hK11 => ?_
          refine W_region ?_
          refine sy hs (y_assign rfl) fun _ _ hs => ?_
          refine RL_nil ?_
          refine hK11 _ _ ?_; clear hK11
          refine W_block fun Qe12 hB12 hO12 => ?_
          refine W_loop (fun (j : Nat) a w => j ≤ ss.length ∧ (∀ s ∈ ss.take j, badS s = false) ∧ St 120 w0 f1 (.blk b5 (.cells r1.toArray 31 (0, 0)) :: (X1 ++ (.blk b2 (.cells #[v0] 37 (0, 0)) :: L))) [(1, lv), (2, .pointer (some ⟨b2, 0, none⟩)), (5, .pointer (some ⟨b5, 0, none⟩)), (6, .bool true), (7, .int .i64 (j : Int))] a w) (fun j => ss.length - j) 0 ⟨by omega, by simp, hs.sub ⟨rfl, rfl, rfl, rfl, rfl, trivial⟩⟩ ?_
          clear hs; rintro j a w ⟨hj, hall, hs⟩ K hK
          refine W_seq fun K13 hK13 => ?_
          refine W_seq fun K14 hK14 => ?_
          refine W_region ?_
          refine sy hs (y_move rfl) fun _ _ hs => ?_
          refine sy hs (y_move rfl) fun _ _ hs => ?_
          refine sy hs (y_lenR0 hL1 rfl Tryz.underlying40) fun _ _ hs => ?_
          refine sy hs (y_lss rfl rfl) fun _ _ hs => ?_
          refine RL_nil ?_
          refine hK14 _ _ ?_; clear hK14
          first | refine W_condP hs rfl (fun hlt => ?_) (fun hlt => ?_) | refine W_cond hs rfl (fun hlt => ?_) (fun hlt => ?_)
          · obtain ⟨s, hsj⟩ : ∃ s, ss[j]? = some s := ⟨_, List.getElem?_eq_getElem (by omega)⟩
            have hS : StyOK s := (hSS s (List.mem_of_getElem? hsj)).ok
            refine W_skip ?_
            refine hK13 _ _ ?_; clear hK13
            refine W_seq fun K15 hK15 => ?_
            refine W_block fun Qe16 hB16 hO16 => ?_
            refine W_cut (fun a w => St 120 w0 f1 (.blk b5 (.cells r1.toArray 31 (0, 0)) :: (X1 ++ (.blk b2 (.cells #[v0] 37 (0, 0)) :: L))) [(1, lv), (2, .pointer (some ⟨b2, 0, none⟩)), (5, .pointer (some ⟨b5, 0, none⟩)), (6, .bool true), (7, .int .i64 (j : Int)), (101, .bool (badS s))] a w) ?_ (fun a w hI => ?_)
            · refine W_region ?_
              refine sy hs (y_move rfl) fun _ _ hs => ?_
              refine sy hs (y_move rfl) fun _ _ hs => ?_
              refine sy hs (y_indexAddr hL1 rfl rfl rfl (by omega) Tryz.underlying40 ti28) fun _ _ hs => ?_
              refine sy hs (y_faE rfl (FO.of (off := 0) Tryz.underlying28 rfl rfl ti3 (by decide)) hL1 (by omega)) fun _ _ hs => ?_
              refine sy hs (y_loadE (u := .int .i64 (dispS s)) hL1.up rfl hsj hS.d Tryz.underlying3 rfl) fun _ _ hs => ?_
              refine sy hs (y_lss rfl rfl) fun _ _ hs => ?_
              refine sy hs (y_move rfl) fun _ _ hs => ?_
              first | refine St.splitP hs (t := 62) rfl (fun k0 hq => ?_) (fun k0 hq => ?_) | refine St.split hs (t := 62) rfl (fun k0 hq => ?_) (fun k0 hq => ?_)
              · clear hs; have hs := hq; clear hq
                refine sno hs fun _ _ hs => ?_
                refine sno hs fun _ _ hs => ?_
                refine sno hs fun _ _ hs => ?_
                refine sno hs fun _ _ hs => ?_
                refine sno hs fun _ _ hs => ?_
                refine sno hs fun _ _ hs => ?_
                refine sy hs (y_pick rfl rfl) fun _ _ hs => ?_
                refine sy hs (y_move rfl) fun _ _ hs => ?_
                refine sno hs fun _ _ hs => ?_
                refine sno hs fun _ _ hs => ?_
                refine sno hs fun _ _ hs => ?_
                refine sno hs fun _ _ hs => ?_
                refine sno hs fun _ _ hs => ?_
                refine sno hs fun _ _ hs => ?_
                refine sy hs (y_pick rfl rfl) fun _ _ hs => ?_
                refine sy hs (y_move rfl) fun _ _ hs => ?_
                refine sno hs fun _ _ hs => ?_
                refine sno hs fun _ _ hs => ?_
                refine sno hs fun _ _ hs => ?_
                refine sno hs fun _ _ hs => ?_
                refine sno hs fun _ _ hs => ?_
                refine sno hs fun _ _ hs => ?_
                refine sy hs (y_pick rfl rfl) fun _ _ hs => ?_
                refine sy hs (y_move rfl) fun _ _ hs => ?_
                refine sno hs fun _ _ hs => ?_
                refine sno hs fun _ _ hs => ?_
                refine sno hs fun _ _ hs => ?_
                refine sno hs fun _ _ hs => ?_
                refine sno hs fun _ _ hs => ?_
                refine sno hs fun _ _ hs => ?_
                refine sy hs (y_pick rfl rfl) fun _ _ hs => ?_
                refine sy hs (y_move rfl) fun _ _ hs => ?_
                refine sno hs fun _ _ hs => ?_
                refine sno hs fun _ _ hs => ?_
                refine sno hs fun _ _ hs => ?_
                refine sno hs fun _ _ hs => ?_
                refine sno hs fun _ _ hs => ?_
                refine sno hs fun _ _ hs => ?_
                refine sy hs (y_pick rfl rfl) fun _ _ hs => ?_
                refine RL_nil ?_
                have hbad : badS s = true := by simp only [badS, Bool.or_eq_true, decide_eq_true_eq]; omega
                rw [hbad]
                exact hs.sub ⟨rfl, rfl, rfl, rfl, rfl, rfl, trivial⟩
              · clear hs; have hs := hq; clear hq
                refine syg hs (y_move rfl) fun _ _ hs => ?_
                refine syg hs (y_move rfl) fun _ _ hs => ?_
                refine syg hs (y_indexAddr hL1 rfl rfl rfl (by omega) Tryz.underlying40 ti28) fun _ _ hs => ?_
                refine syg hs (y_faE rfl (FO.of (off := 0) Tryz.underlying28 rfl rfl ti3 (by decide)) hL1 (by omega)) fun _ _ hs => ?_
                refine syg hs (y_loadE (u := .int .i64 (dispS s)) hL1.up rfl hsj hS.d Tryz.underlying3 rfl) fun _ _ hs => ?_
                refine syg hs (y_gtr rfl rfl) fun _ _ hs => ?_
                refine sy hs (y_pick rfl rfl) fun _ _ hs => ?_
                refine sy hs (y_move rfl) fun _ _ hs => ?_
                first | refine St.splitP hs (t := 70) rfl (fun k1 hq => ?_) (fun k1 hq => ?_) | refine St.split hs (t := 70) rfl (fun k1 hq => ?_) (fun k1 hq => ?_)
                · clear hs; have hs := hq; clear hq
                  refine sno hs fun _ _ hs => ?_
                  refine sno hs fun _ _ hs => ?_
                  refine sno hs fun _ _ hs => ?_
                  refine sno hs fun _ _ hs => ?_
                  refine sno hs fun _ _ hs => ?_
                  refine sno hs fun _ _ hs => ?_
                  refine sy hs (y_pick rfl rfl) fun _ _ hs => ?_
                  refine sy hs (y_move rfl) fun _ _ hs => ?_
                  refine sno hs fun _ _ hs => ?_
                  refine sno hs fun _ _ hs => ?_
                  refine sno hs fun _ _ hs => ?_
                  refine sno hs fun _ _ hs => ?_
                  refine sno hs fun _ _ hs => ?_
                  refine sno hs fun _ _ hs => ?_
                  refine sy hs (y_pick rfl rfl) fun _ _ hs => ?_
                  refine sy hs (y_move rfl) fun _ _ hs => ?_
                  refine sno hs fun _ _ hs => ?_
                  refine sno hs fun _ _ hs => ?_
                  refine sno hs fun _ _ hs => ?_
                  refine sno hs fun _ _ hs => ?_
                  refine sno hs fun _ _ hs => ?_
                  refine sno hs fun _ _ hs => ?_
                  refine sy hs (y_pick rfl rfl) fun _ _ hs => ?_
                  refine sy hs (y_move rfl) fun _ _ hs => ?_
                  refine sno hs fun _ _ hs => ?_
                  refine sno hs fun _ _ hs => ?_
                  refine sno hs fun _ _ hs => ?_
                  refine sno hs fun _ _ hs => ?_
                  refine sno hs fun _ _ hs => ?_
                  refine sno hs fun _ _ hs => ?_
                  refine sy hs (y_pick rfl rfl) fun _ _ hs => ?_
                  refine RL_nil ?_
                  have hbad : badS s = true := by simp only [badS, Bool.or_eq_true, decide_eq_true_eq]; omega
                  rw [hbad]
                  exact hs.sub ⟨rfl, rfl, rfl, rfl, rfl, rfl, trivial⟩
                · clear hs; have hs := hq; clear hq
                  refine syg hs (y_move rfl) fun _ _ hs => ?_
                  refine syg hs (y_move rfl) fun _ _ hs => ?_
                  refine syg hs (y_indexAddr hL1 rfl rfl rfl (by omega) Tryz.underlying40 ti28) fun _ _ hs => ?_
                  refine syg hs (y_faE rfl (FO.of (off := 1) Tryz.underlying28 rfl rfl ti3 (by decide)) hL1 (by omega)) fun _ _ hs => ?_
                  refine syg hs (y_loadE (u := .int .i64 (posS s)) hL1.up rfl hsj hS.p Tryz.underlying3 rfl) fun _ _ hs => ?_
                  refine syg hs (y_lss rfl rfl) fun _ _ hs => ?_
                  refine sy hs (y_pick rfl rfl) fun _ _ hs => ?_
                  refine sy hs (y_move rfl) fun _ _ hs => ?_
                  first | refine St.splitP hs (t := 78) rfl (fun k2 hq => ?_) (fun k2 hq => ?_) | refine St.split hs (t := 78) rfl (fun k2 hq => ?_) (fun k2 hq => ?_)
                  · clear hs; have hs := hq; clear hq
                    refine sno hs fun _ _ hs => ?_
                    refine sno hs fun _ _ hs => ?_
                    refine sno hs fun _ _ hs => ?_
                    refine sno hs fun _ _ hs => ?_
                    refine sno hs fun _ _ hs => ?_
                    refine sno hs fun _ _ hs => ?_
                    refine sy hs (y_pick rfl rfl) fun _ _ hs => ?_
                    refine sy hs (y_move rfl) fun _ _ hs => ?_
                    refine sno hs fun _ _ hs => ?_
                    refine sno hs fun _ _ hs => ?_
                    refine sno hs fun _ _ hs => ?_
                    refine sno hs fun _ _ hs => ?_
                    refine sno hs fun _ _ hs => ?_
                    refine sno hs fun _ _ hs => ?_
                    refine sy hs (y_pick rfl rfl) fun _ _ hs => ?_
                    refine sy hs (y_move rfl) fun _ _ hs => ?_
                    refine sno hs fun _ _ hs => ?_
                    refine sno hs fun _ _ hs => ?_
                    refine sno hs fun _ _ hs => ?_
                    refine sno hs fun _ _ hs => ?_
                    refine sno hs fun _ _ hs => ?_
                    refine sno hs fun _ _ hs => ?_
                    refine sy hs (y_pick rfl rfl) fun _ _ hs => ?_
                    refine RL_nil ?_
                    have hbad : badS s = true := by simp only [badS, Bool.or_eq_true, decide_eq_true_eq]; omega
                    rw [hbad]
                    exact hs.sub ⟨rfl, rfl, rfl, rfl, rfl, rfl, trivial⟩
                  · clear hs; have hs := hq; clear hq
                    refine syg hs (y_move rfl) fun _ _ hs => ?_
                    refine syg hs (y_move rfl) fun _ _ hs => ?_
                    refine syg hs (y_indexAddr hL1 rfl rfl rfl (by omega) Tryz.underlying40 ti28) fun _ _ hs => ?_
                    refine syg hs (y_faE rfl (FO.of (off := 1) Tryz.underlying28 rfl rfl ti3 (by decide)) hL1 (by omega)) fun _ _ hs => ?_
                    refine syg hs (y_loadE (u := .int .i64 (posS s)) hL1.up rfl hsj hS.p Tryz.underlying3 rfl) fun _ _ hs => ?_
                    refine syg hs (y_gtr rfl rfl) fun _ _ hs => ?_
                    refine sy hs (y_pick rfl rfl) fun _ _ hs => ?_
                    refine sy hs (y_move rfl) fun _ _ hs => ?_
                    first | refine St.splitP hs (t := 86) rfl (fun k3 hq => ?_) (fun k3 hq => ?_) | refine St.split hs (t := 86) rfl (fun k3 hq => ?_) (fun k3 hq => ?_)
                    · clear hs; have hs := hq; clear hq
                      refine sno hs fun _ _ hs => ?_
                      refine sno hs fun _ _ hs => ?_
                      refine sno hs fun _ _ hs => ?_
                      refine sno hs fun _ _ hs => ?_
                      refine sno hs fun _ _ hs => ?_
                      refine sno hs fun _ _ hs => ?_
                      refine sy hs (y_pick rfl rfl) fun _ _ hs => ?_
                      refine sy hs (y_move rfl) fun _ _ hs => ?_
                      refine sno hs fun _ _ hs => ?_
                      refine sno hs fun _ _ hs => ?_
                      refine sno hs fun _ _ hs => ?_
                      refine sno hs fun _ _ hs => ?_
                      refine sno hs fun _ _ hs => ?_
                      refine sno hs fun _ _ hs => ?_
                      refine sy hs (y_pick rfl rfl) fun _ _ hs => ?_
                      refine RL_nil ?_
                      have hbad : badS s = true := by simp only [badS, Bool.or_eq_true, decide_eq_true_eq]; omega
                      rw [hbad]
                      exact hs.sub ⟨rfl, rfl, rfl, rfl, rfl, rfl, trivial⟩
                    · clear hs; have hs := hq; clear hq
                      refine syg hs (y_move rfl) fun _ _ hs => ?_
                      refine syg hs (y_move rfl) fun _ _ hs => ?_
                      refine syg hs (y_indexAddr hL1 rfl rfl rfl (by omega) Tryz.underlying40 ti28) fun _ _ hs => ?_
                      refine syg hs (y_faE rfl (FO.of (off := 2) Tryz.underlying28 rfl rfl ti3 (by decide)) hL1 (by omega)) fun _ _ hs => ?_
                      refine syg hs (y_loadE (u := .int .i64 (floS s)) hL1.up rfl hsj hS.f Tryz.underlying3 rfl) fun _ _ hs => ?_
                      refine syg hs (y_lss rfl rfl) fun _ _ hs => ?_
                      refine sy hs (y_pick rfl rfl) fun _ _ hs => ?_
                      refine sy hs (y_move rfl) fun _ _ hs => ?_
                      first | refine St.splitP hs (t := 94) rfl (fun k4 hq => ?_) (fun k4 hq => ?_) | refine St.split hs (t := 94) rfl (fun k4 hq => ?_) (fun k4 hq => ?_)
                      · clear hs; have hs := hq; clear hq
                        refine sno hs fun _ _ hs => ?_
                        refine sno hs fun _ _ hs => ?_
                        refine sno hs fun _ _ hs => ?_
                        refine sno hs fun _ _ hs => ?_
                        refine sno hs fun _ _ hs => ?_
                        refine sno hs fun _ _ hs => ?_
                        refine sy hs (y_pick rfl rfl) fun _ _ hs => ?_
                        refine RL_nil ?_
                        have hbad : badS s = true := by simp only [badS, Bool.or_eq_true, decide_eq_true_eq]; omega
                        rw [hbad]
                        exact hs.sub ⟨rfl, rfl, rfl, rfl, rfl, rfl, trivial⟩
                      · clear hs; have hs := hq; clear hq
                        refine syg hs (y_move rfl) fun _ _ hs => ?_
                        refine syg hs (y_move rfl) fun _ _ hs => ?_
                        refine syg hs (y_indexAddr hL1 rfl rfl rfl (by omega) Tryz.underlying40 ti28) fun _ _ hs => ?_
                        refine syg hs (y_faE rfl (FO.of (off := 2) Tryz.underlying28 rfl rfl ti3 (by decide)) hL1 (by omega)) fun _ _ hs => ?_
                        refine syg hs (y_loadE (u := .int .i64 (floS s)) hL1.up rfl hsj hS.f Tryz.underlying3 rfl) fun _ _ hs => ?_
                        refine syg hs (y_gtr rfl rfl) fun _ _ hs => ?_
                        refine sy hs (y_pick rfl rfl) fun _ _ hs => ?_
                        refine RL_nil ?_
                        have hbad : badS s = decide (floS s > 2) := by simp only [badS, decide_eq_false k0, decide_eq_false k1, decide_eq_false k2, decide_eq_false k3, decide_eq_false k4, Bool.false_or]
                        rw [hbad]
                        exact hs.sub ⟨rfl, rfl, rfl, rfl, rfl, rfl, trivial⟩
            · have hs := hI; clear hI
              first | refine W_condP hs rfl (fun hbs => ?_) (fun hbs => ?_) | refine W_cond hs rfl (fun hbs => ?_) (fun hbs => ?_)
              · refine W_seq fun K18 hK18 => ?_
                refine W_region ?_
                refine sy hs (y_call rfl has11 rfl (known_gives f1)) fun _ _ hs => ?_
                refine sy hs (y_assign rfl) fun _ _ hs => ?_
                refine RL_nil ?_
                refine hK18 _ _ ?_; clear hK18
                refine W_ret ?_
                refine Rt_1 hs rfl rfl ?_
                exact ⟨rfl, ((hs.subL (.cons _ ((List.Sublist.cons _ (.refl _)).trans (List.sublist_append_right X1 _)))).weak hf1).cw⟩
              · refine W_skip ?_
                refine hK15 _ _ ?_; clear hK15
                refine W_region ?_
                refine sy hs (y_move rfl) fun _ _ hs => ?_
                refine sy hs (y_add rfl rfl (wr_i64 (by omega))) fun _ _ hs => ?_
                refine sy hs (y_assign rfl) fun _ _ hs => ?_
                refine RL_nil ?_
                refine hK (j + 1) _ _ (by omega) ⟨by omega, fun x hx => ?_, hs.sub ⟨rfl, rfl, rfl, rfl, rfl, trivial⟩⟩
                rw [List.take_add_one, hsj] at hx
                rcases List.mem_append.1 hx with hx | hx
                · exact hall x hx
                · obtain rfl : x = s := by simpa using hx
                  exact hbs
          · rw [List.take_of_length_le (by omega)] at hall
            refine W_exit ?_
            refine hB12 _ _ ?_
            refine hK10 _ _ ?_; clear hK10
            refine W_seq fun K19 hK19 => ?_
            refine W_region ?_
            refine sy hs (y_ldB (cs := #[v0]) rfl Tryz.underlying37 rfl ti37 (.tail _ (List.mem_append_right _ (.head _))) rfl) fun _ _ hs => ?_
            refine sy hs (y_move rfl) fun _ _ hs => ?_
            refine RL_callV hs rfl has13 rfl (Build2_ok hT (fun s h => ⟨(hSS s h).ok, by have := hall s h; simp only [badS, Bool.or_eq_false_iff, decide_eq_false_iff_not] at this; omega, by have := hall s h; simp only [badS, Bool.or_eq_false_iff, decide_eq_false_iff_not] at this; omega⟩) hl (hN0.le hf1) hL1) ?_; clear hs; (try clear a w)
            rintro _ f2 X2 a w hf2 ⟨r2, rfl, hr2, hB2⟩ hs
            rw [hM] at hB2 hs
            refine sy hs (y_move rfl) fun _ _ hs => ?_
            refine sy hs (y_extract (vs := [.agg r2.toArray, .bool true]) rfl rfl) fun _ _ hs => ?_
            refine sy hs (y_extract (vs := [.agg r2.toArray, .bool true]) rfl rfl) fun _ _ hs => ?_
            refine RL_alloc hs ti44 (.free rfl) (by decide) fun b8 _ _ hs => ?_
            refine RL_storeAll (i := 0) hs rfl rfl rfl ti44 ⟨rfl, by simp [hr2.1]⟩ (one_arr hr2) (.free rfl) fun _ _ hs => ?_
            refine sy hs (y_assign rfl) fun _ _ hs => ?_
            refine RL_nil ?_
            refine hK19 _ _ ?_; clear hK19
            refine W_seq fun K20 hK20 => ?_
            refine W_region ?_
            refine sy hs (y_move rfl) fun _ _ hs => ?_
            refine sy hs (y_move rfl) fun _ _ hs => ?_
            refine sy hs (y_beql (b := true) (c := true) rfl rfl Tryz.underlying4) fun _ _ hs => ?_
            refine sy hs (y_move rfl) fun _ _ hs => ?_
            refine syg hs (y_ldB (cs := r1.toArray) rfl Tryz.underlying31 rfl ti31 (.tail _ (List.mem_append_right _ (.head _))) (by simp [hr1.1])) fun _ _ hs => ?_
            refine syg hs (y_ldB (cs := r2.toArray) rfl Tryz.underlying44 rfl ti44 (.head _) (by simp [hr2.1])) fun _ _ hs => ?_
            refine syg hs (y_callC (v := .bool true) rfl has14 rfl (fun w hw => same_ok b hTy r1 r2 X1 X2 hB1 hB2 w0 f2 _ w (fun e he => .tail _ (List.mem_append_right _ (.tail _ (List.mem_append_left _ he)))) (fun e he => .tail _ (List.mem_append_left _ he)) hw)) fun _ _ hs => ?_
            refine sy hs (y_pick rfl rfl) fun _ _ hs => ?_
            refine sy hs (y_move rfl) fun _ _ hs => ?_
            refine syg hs (y_call rfl has11 rfl (known_gives f2)) fun _ _ hs => ?_
            refine sy hs (y_pick rfl rfl) fun _ _ hs => ?_
            refine sy hs (y_assign rfl) fun _ _ hs => ?_
            refine RL_nil ?_
            refine hK20 _ _ ?_; clear hK20
            refine W_ret ?_
            refine Rt_1 hs rfl rfl ?_
            exact ⟨rfl, ((hs.subL (.cons _ ((List.Sublist.trans (.cons _ ((List.Sublist.cons _ (.refl _)).trans (List.sublist_append_right X1 _))) (.refl _)).trans (List.sublist_append_right X2 _)))).weak (hf1.trans hf2)).cw⟩
end Go.Proofs.YteicdfkmpnmkmaaGreat
