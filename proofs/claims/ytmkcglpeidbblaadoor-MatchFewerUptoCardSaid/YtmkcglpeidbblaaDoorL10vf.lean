/-
  Walks and laws of this seat; the base is the text Base.
-/
import Derived.Test.YtmkcglpeidbblaaDoorL10k
import Derived.Test.YtmkcglpeidbblaaDoorRows
/-
  Models of functions, and that the functions compute them. Printed by lift.py.
-/
namespace Go.Proofs.YtmkcglpeidbblaaDoor
open Go.RowKit Go.Sl
/-! casement/casementlaw10.MatchFewer -/
def law10_MatchFewer_k4 (y88 : Bool) : Option Bool :=
  some y88
def law10_MatchFewer_k3 (n : Nat) (p0 : api_Tree) (p1 : sheet_Selector) (p3 : Int) (x26 : (List sheet_Step)) (y44 : Bool) : Option Bool :=
  (bif y44 then some false else
  (bif (decide ((w64 ((x26.length : Int) - 1)) = 0)) then (law10_known n).bind fun x47 =>
  some x47 else
  (cutM p1.Steps (1 : Int) (p1.Steps.length : Int)).bind fun x54 =>
  (appM 48 ([] : List sheet_Step) x54).bind fun x61 =>
  (geti x61 0).bind fun x71 =>
  (seti x61 0 ({x71 with Comb := 0} : sheet_Step)).bind fun x83 =>
  (match_Match n p0 p3 p1).bind fun x89 =>
  (bif (!x89) then (law10_known n).bind fun x92 =>
  law10_MatchFewer_k4 x92 else
  (match_Match n p0 p3 ({Steps := x83} : sheet_Selector)).bind fun x94 =>
  (bif x94 then (law10_known n).bind fun x97 =>
  law10_MatchFewer_k4 x97 else
  law10_MatchFewer_k4 false))))
def law10_MatchFewer_k2 (n : Nat) (p0 : api_Tree) (p1 : sheet_Selector) (p3 : Int) (x26 : (List sheet_Step)) (y38 : (List sheet_Step)) : Option Bool :=
  (match_Match n p0 p3 ({Steps := y38} : sheet_Selector)).bind fun x99 =>
  (bif x99 then (match_Match n p0 p3 p1).bind fun x102 =>
  law10_MatchFewer_k3 n p0 p1 p3 x26 (!x102) else
  law10_MatchFewer_k3 n p0 p1 p3 x26 false)
def law10_MatchFewer_k1 (n : Nat) (p0 : api_Tree) (p1 : sheet_Selector) (p2 : sheet_Test) (p3 : Int) (y17 : Bool) : Option Bool :=
  (bif y17 then (law10_known n).bind fun x19 =>
  some x19 else
  (appM 48 ([] : List sheet_Step) p1.Steps).bind fun x26 =>
  (geti x26 (w64 ((x26.length : Int) - 1))).bind fun x105 =>
  (appM 48 ([] : List sheet_Test) x105.Tests).bind fun x123 =>
  (appM 48 x123 [p2]).bind fun x136 =>
  (geti x26 (w64 ((x26.length : Int) - 1))).bind fun x143 =>
  (seti x26 (w64 ((x26.length : Int) - 1)) ({x143 with Tests := x136} : sheet_Step)).bind fun x174 =>
  law10_MatchFewer_k2 n p0 p1 p3 x26 x174)
def law10_MatchFewer (n : Nat) (p0 : api_Tree) (p1 : sheet_Selector) (p2 : sheet_Test) (p3 : Int) : Option Bool :=
  (law10_small n p0 [p1]).bind fun x302 =>
  (bif (!x302) then law10_MatchFewer_k1 n p0 p1 p2 p3 true else
  law10_MatchFewer_k1 n p0 p1 p2 p3 (decide ((p1.Steps.length : Int) = 0)))
set_option maxRecDepth 20000 in
set_option maxHeartbeats 4000000 in
theorem law10_MatchFewer_ok (n : Nat) {f : Fz} {o0 : Obj} {o1 : Obj} {p0 : api_Tree} {a0 : List Value} {p1 : sheet_Selector} {a1 : List Value} {p2 : sheet_Test} {a2 : List Value} {p3 : Int} {res : Bool} (hT0 : f 0 = some o0) (hT1 : f 1 = some o1) (hTT : Tabs o0 o1) (h0 : t_api_Tree.R f a0 p0) (h1 : t_sheet_Selector.R f a1 p1) (h2 : t_sheet_Test.R f a2 p2) (hm : law10_MatchFewer n p0 p1 p2 p3 = some res) : Gives Tryd.prog 3 [.agg a0.toArray, .agg a1.toArray, .agg a2.toArray, .int .i64 p3] f (.bool res) := by
 unfold law10_MatchFewer at hm
 intro w0 L w hC
 obtain ⟨v1, rfl, ⟨rw2, hR3, hW4⟩⟩ := h0
 obtain ⟨v6, rfl, ⟨rw7, hR8, hW9⟩⟩ := h1
 obtain rfl : _ = ([.int .i64 (p2.Kind), .string (p2.Name), .string (p2.Value), .int .i64 (p2.N)] : List Value) := h2
 refine enter Tryd.func3 rfl Tryd.ntmps3 (by simp) hC fun a hs => ?_
 have hle := Fz.le.refl f
 refine W_seq fun K1 hK1 => ?_
 refine W_region ?_
 refine sbox hs rfl ?_; clear hs; (try clear a w); intro b11 a w hs
 replace hs : St _ _ _ (.blk b11 (.cells #[v1] 24 (0, 0)) :: L) _ _ _ := hs
 refine sbox hs rfl ?_; clear hs; (try clear a w); intro b13 a w hs
 replace hs : St _ _ _ (.blk b13 (.cells #[v6] 27 (0, 0)) :: .blk b11 (.cells #[v1] 24 (0, 0)) :: L) _ _ _ := hs
 refine sbox hs rfl ?_; clear hs; (try clear a w); intro b15 a w hs
 replace hs : St _ _ _ (.blk b15 (.cells #[.int .i64 (p2.Kind), .string (p2.Name), .string (p2.Value), .int .i64 (p2.N)] 29 (0, 0)) :: .blk b13 (.cells #[v6] 27 (0, 0)) :: .blk b11 (.cells #[v1] 24 (0, 0)) :: L) _ _ _ := hs
 refine sy (v := .bool (false)) hs (y_assign rfl) ?_; clear hs; (try clear a w); intro a w hs
 refine RL_nil ?_
 refine hK1 _ _ ?_; clear hK1
 refine W_seq fun K2 hK2 => ?_
 refine W_seq fun K3 hK3 => ?_
 refine W_post (fun a w => ∃ (y17 : Bool), law10_MatchFewer_k1 n p0 p1 p2 p3 y17 = some res ∧ St 87 w0 f (.blk b15 (.cells #[.int .i64 (p2.Kind), .string (p2.Name), .string (p2.Value), .int .i64 (p2.N)] 29 (0, 0)) :: .blk b13 (.cells #[v6] 27 (0, 0)) :: .blk b11 (.cells #[v1] 24 (0, 0)) :: L) [(3, .int .i64 (p3)), (4, .pointer (some ⟨b11, 0, none⟩)), (5, .pointer (some ⟨b13, 0, none⟩)), (6, .pointer (some ⟨b15, 0, none⟩)), (22, .bool (y17))] a w) ?_ ?_
 ·clear hs hm
  rintro a w ⟨y17, hm, hs⟩
  replace hs : St _ _ _ (.blk b15 (.cells #[.int .i64 (p2.Kind), .string (p2.Name), .string (p2.Value), .int .i64 (p2.N)] 29 (0, 0)) :: .blk b13 (.cells #[v6] 27 (0, 0)) :: .blk b11 (.cells #[v1] 24 (0, 0)) :: L) _ _ _ := hs
  unfold law10_MatchFewer_k1 at hm
  refine hK3 _ _ ?_; clear hK3
  refine W_cond hs rfl (fun hg18 => ?_) (fun hg18 => ?_)
  ·replace hm := oc_t hg18 hm
   refine W_seq fun K4 hK4 => ?_
   refine W_region ?_
   obtain ⟨x19, hx20, hm⟩ := ob hm
   refine sy hs (y_call rfl has11 rfl (law10_known_ok n (f := f)  hT0 hT1 hTT hx20)) ?_; clear hs; (try clear a w); intro a w hs
   refine sy (v := .bool (x19)) hs (y_assign rfl) ?_; clear hs; (try clear a w); intro a w hs
   refine RL_nil ?_
   refine hK4 _ _ ?_; clear hK4
   refine W_ret ?_
   obtain rfl := Option.some.inj hm
   refine RtV1 hs rfl (rv_t hs rfl) ?_
   exact ⟨rfl, ((hs.subL (.cons _ (.cons _ (.cons _ (.refl _))))).weak hle).cw⟩
  ·replace hm := oc_f hg18 hm
   refine W_skip ?_
   refine hK2 _ _ ?_; clear hK2
   refine W_seq fun K5 hK5 => ?_
   refine W_region ?_
   refine RL_bs0 hs Tryd.underlying25 ti35 ?_; clear hs; (try clear a w); intro v21 a w hs
   have hW22 : RW t_sheet_Step f [] ([] : List sheet_Step) := trivial
   generalize hgrw23 : ([] : List (List Value)) = rw23 at hs hW22; clear hgrw23
   replace hs : St _ _ _ (.row v21 35 3 rw23 :: .blk b15 (.cells #[.int .i64 (p2.Kind), .string (p2.Name), .string (p2.Value), .int .i64 (p2.N)] 29 (0, 0)) :: .blk b13 (.cells #[v6] 27 (0, 0)) :: .blk b11 (.cells #[v1] 24 (0, 0)) :: L) _ _ _ := hs
   refine sy (v := .pointer (some ⟨b13, 0, none⟩)) hs (y_fieldAddr rfl (FO.of (off := 0) Tryd.underlying27 rfl rfl ti25 (by decide))) ?_; clear hs; (try clear a w); intro a w hs
   refine sy (v := v6) hs (y_ld rfl Tryd.underlying25 rfl (Cell.blk (.tail _ (.tail _ (.head _))) rfl)) ?_; clear hs; (try clear a w); intro a w hs
   obtain ⟨x26, hx27, hm⟩ := ob hm
   obtain ⟨hbx26, hex26⟩ := appM_some hx27
   have hW30 := hW22.append hW9; rw [hex26] at hW30
   refine RL_append (i := 0) hs rfl rfl rfl hR8.up Tryd.underlying25 ti35 (by decide) (by rw [RW.len hW22, RW.len hW9]; exact hbx26) (.free rfl) (by decide) ?_; clear hs; (try clear a w); intro v28 a w hs
   generalize hgx26 : rw23 ++ rw7 = rw29 at hs hW30; clear hgx26
   replace hs : St _ _ _ (.row v28 35 3 rw29 :: .blk b15 (.cells #[.int .i64 (p2.Kind), .string (p2.Name), .string (p2.Value), .int .i64 (p2.N)] 29 (0, 0)) :: .blk b13 (.cells #[v6] 27 (0, 0)) :: .blk b11 (.cells #[v1] 24 (0, 0)) :: L) _ _ _ := hs
   refine sy hs (y_buildS (places := [(0, 1)]) (cs := [v28]) rfl Tryd.underlying27 ti27 (by kernel_rfl) (by decide) rfl ⟨(hs.one (i := 0) rfl), trivial⟩) ?_; clear hs; (try clear a w); intro a w hs
   refine RL_alloc hs ti27 (.free rfl) (by decide) ?_; clear hs; (try clear a w); intro b33 a w hs
   replace hs : St _ _ _ (.blk b33 (.cells #[(.slice none 0 0)] 27 (0, 0)) :: .row v28 35 3 rw29 :: .blk b15 (.cells #[.int .i64 (p2.Kind), .string (p2.Name), .string (p2.Value), .int .i64 (p2.N)] 29 (0, 0)) :: .blk b13 (.cells #[v6] 27 (0, 0)) :: .blk b11 (.cells #[v1] 24 (0, 0)) :: L) _ _ _ := hs
   refine RL_storeAll (i := 0) hs rfl rfl rfl ti27 ⟨rfl, rfl⟩ (AllC.arr (r := [v28]) ⟨(hs.one (i := 1) rfl), trivial⟩) (.free rfl) ?_; clear hs; (try clear a w); intro a w hs
   replace hs : St _ _ _ (.blk b33 (.cells #[v28] 27 (0, 0)) :: .row v28 35 3 rw29 :: .blk b15 (.cells #[.int .i64 (p2.Kind), .string (p2.Name), .string (p2.Value), .int .i64 (p2.N)] 29 (0, 0)) :: .blk b13 (.cells #[v6] 27 (0, 0)) :: .blk b11 (.cells #[v1] 24 (0, 0)) :: L) _ _ _ := hs
   refine RL_nil ?_
   refine hK5 _ _ ?_; clear hK5
   refine W_seq fun K6 hK6 => ?_
   refine W_region ?_
   refine sy (v := .pointer (some ⟨b33, 0, none⟩)) hs (y_fieldAddr rfl (FO.of (off := 0) Tryd.underlying27 rfl rfl ti25 (by decide))) ?_; clear hs; (try clear a w); intro a w hs
   refine sy (v := v28) hs (y_ld rfl Tryd.underlying25 rfl (Cell.blk (.head _) rfl)) ?_; clear hs; (try clear a w); intro a w hs
   refine sy hs (y_lenW (Rd.st hs (.tail _ (.head _))) hW30 rfl Tryd.underlying25) ?_; clear hs; (try clear a w); intro a w hs
   refine sy hs (y_sub rfl rfl rfl) ?_; clear hs; (try clear a w); intro a w hs
   refine sy (v := .int .i64 ((w64 ((x26.length : Int) - 1)))) hs (y_assign rfl) ?_; clear hs; (try clear a w); intro a w hs
   refine RL_nil ?_
   refine hK6 _ _ ?_; clear hK6
   refine W_seq fun K7 hK7 => ?_
   have hbase43 := Fz.le.refl f
   refine W_post (fun a w => ∃ (f36 : Fz) (y38 : (List sheet_Step)) (v39 : Value) (rw40 : List (List Value)), Fz.le f f36 ∧ law10_MatchFewer_k2 n p0 p1 p3 x26 y38 = some res ∧ RW t_sheet_Step f36 rw40 y38 ∧ St 87 w0 f36 (.blk b33 (.cells #[v39] 27 (0, 0)) :: .row v39 35 3 rw40 :: .blk b13 (.cells #[v6] 27 (0, 0)) :: .blk b11 (.cells #[v1] 24 (0, 0)) :: L) [(3, .int .i64 (p3)), (4, .pointer (some ⟨b11, 0, none⟩)), (5, .pointer (some ⟨b13, 0, none⟩)), (9, .pointer (some ⟨b33, 0, none⟩)), (10, .int .i64 ((w64 ((x26.length : Int) - 1))))] a w) ?_ ?_
   ·clear hs hm
    clear hbase43
    rintro a w ⟨f36, y38, v39, rw40, hl37, hm, hW41, hs⟩
    replace hR3 := hR3.le hl37
    replace hW4 := hW4.le hl37
    replace hR8 := hR8.le hl37
    replace hW9 := hW9.le hl37
    replace hT0 := hl37 _ _ hT0
    replace hT1 := hl37 _ _ hT1
    replace hW22 := hW22.le hl37
    replace hW30 := hW30.le hl37
    replace hle := hle.trans hl37
    replace hs : St _ _ _ (.blk b33 (.cells #[v39] 27 (0, 0)) :: .row v39 35 3 rw40 :: .blk b13 (.cells #[v6] 27 (0, 0)) :: .blk b11 (.cells #[v1] 24 (0, 0)) :: L) _ _ _ := hs
    unfold law10_MatchFewer_k2 at hm
    refine hK7 _ _ ?_; clear hK7
    refine W_seq fun K8 hK8 => ?_
    refine W_seq fun K9 hK9 => ?_
    refine W_post (fun a w => ∃ (y44 : Bool), law10_MatchFewer_k3 n p0 p1 p3 x26 y44 = some res ∧ St 87 w0 f36 (.blk b13 (.cells #[v6] 27 (0, 0)) :: .blk b11 (.cells #[v1] 24 (0, 0)) :: L) [(3, .int .i64 (p3)), (4, .pointer (some ⟨b11, 0, none⟩)), (5, .pointer (some ⟨b13, 0, none⟩)), (10, .int .i64 ((w64 ((x26.length : Int) - 1)))), (59, .bool (y44))] a w) ?_ ?_
    ·clear hs hm
     rintro a w ⟨y44, hm, hs⟩
     replace hs : St _ _ _ (.blk b13 (.cells #[v6] 27 (0, 0)) :: .blk b11 (.cells #[v1] 24 (0, 0)) :: L) _ _ _ := hs
     unfold law10_MatchFewer_k3 at hm
     refine hK9 _ _ ?_; clear hK9
     refine W_cond hs rfl (fun hg45 => ?_) (fun hg45 => ?_)
     ·replace hm := oc_t hg45 hm
      refine W_seq fun K10 hK10 => ?_
      refine W_region ?_
      refine sy (v := .bool (false)) hs (y_assign rfl) ?_; clear hs; (try clear a w); intro a w hs
      refine RL_nil ?_
      refine hK10 _ _ ?_; clear hK10
      refine W_ret ?_
      obtain rfl := Option.some.inj hm
      refine RtV1 hs rfl (rv_t hs rfl) ?_
      exact ⟨rfl, ((hs.subL (.cons _ (.cons _ (.refl _)))).weak hle).cw⟩
     ·replace hm := oc_f hg45 hm
      refine W_skip ?_
      refine hK8 _ _ ?_; clear hK8
      refine W_seq fun K11 hK11 => ?_
      refine W_seq fun K12 hK12 => ?_
      refine W_region ?_
      refine sy (v := .int .i64 ((w64 ((x26.length : Int) - 1)))) hs (y_move rfl) ?_; clear hs; (try clear a w); intro a w hs
      refine sy hs (y_eql rfl rfl) ?_; clear hs; (try clear a w); intro a w hs
      refine RL_nil ?_
      refine hK12 _ _ ?_; clear hK12
      refine W_cond hs rfl (fun hg46 => ?_) (fun hg46 => ?_)
      ·replace hm := oc_t hg46 hm
       refine W_seq fun K13 hK13 => ?_
       refine W_region ?_
       obtain ⟨x47, hx48, hm⟩ := ob hm
       refine sy hs (y_call rfl has11 rfl (law10_known_ok n (f := f36)  hT0 hT1 hTT hx48)) ?_; clear hs; (try clear a w); intro a w hs
       refine sy (v := .bool (x47)) hs (y_assign rfl) ?_; clear hs; (try clear a w); intro a w hs
       refine RL_nil ?_
       refine hK13 _ _ ?_; clear hK13
       refine W_ret ?_
       obtain rfl := Option.some.inj hm
       refine RtV1 hs rfl (rv_t hs rfl) ?_
       exact ⟨rfl, ((hs.subL (.cons _ (.cons _ (.refl _)))).weak hle).cw⟩
      ·replace hm := oc_f hg46 hm
       refine W_skip ?_
       refine hK11 _ _ ?_; clear hK11
       refine W_seq fun K14 hK14 => ?_
       refine W_region ?_
       refine RL_bs0 hs Tryd.underlying25 ti35 ?_; clear hs; (try clear a w); intro v49 a w hs
       have hW50 : RW t_sheet_Step f36 [] ([] : List sheet_Step) := trivial
       generalize hgrw51 : ([] : List (List Value)) = rw51 at hs hW50; clear hgrw51
       replace hs : St _ _ _ (.row v49 35 3 rw51 :: .blk b13 (.cells #[v6] 27 (0, 0)) :: .blk b11 (.cells #[v1] 24 (0, 0)) :: L) _ _ _ := hs
       refine sy (v := .pointer (some ⟨b13, 0, none⟩)) hs (y_fieldAddr rfl (FO.of (off := 0) Tryd.underlying27 rfl rfl ti25 (by decide))) ?_; clear hs; (try clear a w); intro a w hs
       refine sy (v := v6) hs (y_ld rfl Tryd.underlying25 rfl (Cell.blk (.tail _ (.head _)) rfl)) ?_; clear hs; (try clear a w); intro a w hs
       obtain ⟨x54, hx55, hm⟩ := ob hm
       obtain ⟨⟨hlx54, hhx54, h1x54, h2x54⟩, hex54⟩ := cutM_some hx55
       have hW56 := (hW9.take (p1.Steps.length : Int).toNat).drop (1 : Int).toNat; rw [hex54] at hW56
       refine sy hs (y_slice (lo := (1 : Int).toNat) (hi := (p1.Steps.length : Int).toNat) rfl Tryd.underlying25 ti35 (.inr ⟨_, rfl, by rw [← hlx54]; rfl⟩) (.inl ⟨rfl, by rw [RW.len hW9]; simp⟩) h1x54 (by rw [RW.len hW9]; exact h2x54) hR8) ?_; clear hs; (try clear a w); intro a w hs
       have hR57 : Rd _ [] (cutv v6 3 _ _) 3 _ := (hR8 : Rd _ [] _ _ _).cut h1x54 (by rw [RW.len hW9]; exact h2x54)
       generalize hgrw58 : List.drop _ (List.take _ rw7) = rw58 at hR57 hW56; clear hgrw58
       generalize hgv59 : cutv v6 3 _ _ = v59 at hs hR57; clear hgv59
       replace hs : St _ _ _ (.row v49 35 3 rw51 :: .blk b13 (.cells #[v6] 27 (0, 0)) :: .blk b11 (.cells #[v1] 24 (0, 0)) :: L) _ _ _ := hs
       obtain ⟨x61, hx62, hm⟩ := ob hm
       obtain ⟨hbx61, hex61⟩ := appM_some hx62
       have hW65 := hW50.append hW56; rw [hex61] at hW65
       refine RL_append (i := 0) hs rfl rfl rfl hR57.up Tryd.underlying25 ti35 (by decide) (by rw [RW.len hW50, RW.len hW56]; exact hbx61) (.free rfl) (by decide) ?_; clear hs; (try clear a w); intro v63 a w hs
       generalize hgx61 : rw51 ++ rw58 = rw64 at hs hW65; clear hgx61
       replace hs : St _ _ _ (.row v63 35 3 rw64 :: .blk b13 (.cells #[v6] 27 (0, 0)) :: .blk b11 (.cells #[v1] 24 (0, 0)) :: L) _ _ _ := hs
       refine sy hs (y_buildS (places := [(0, 1)]) (cs := [v63]) rfl Tryd.underlying27 ti27 (by kernel_rfl) (by decide) rfl ⟨(hs.one (i := 0) rfl), trivial⟩) ?_; clear hs; (try clear a w); intro a w hs
       refine RL_alloc hs ti27 (.free rfl) (by decide) ?_; clear hs; (try clear a w); intro b68 a w hs
       replace hs : St _ _ _ (.blk b68 (.cells #[(.slice none 0 0)] 27 (0, 0)) :: .row v63 35 3 rw64 :: .blk b13 (.cells #[v6] 27 (0, 0)) :: .blk b11 (.cells #[v1] 24 (0, 0)) :: L) _ _ _ := hs
       refine RL_storeAll (i := 0) hs rfl rfl rfl ti27 ⟨rfl, rfl⟩ (AllC.arr (r := [v63]) ⟨(hs.one (i := 1) rfl), trivial⟩) (.free rfl) ?_; clear hs; (try clear a w); intro a w hs
       replace hs : St _ _ _ (.blk b68 (.cells #[v63] 27 (0, 0)) :: .row v63 35 3 rw64 :: .blk b13 (.cells #[v6] 27 (0, 0)) :: .blk b11 (.cells #[v1] 24 (0, 0)) :: L) _ _ _ := hs
       refine RL_nil ?_
       refine hK14 _ _ ?_; clear hK14
       refine W_seq fun K15 hK15 => ?_
       refine W_region ?_
       refine sy (v := .pointer (some ⟨b68, 0, none⟩)) hs (y_fieldAddr rfl (FO.of (off := 0) Tryd.underlying27 rfl rfl ti25 (by decide))) ?_; clear hs; (try clear a w); intro a w hs
       refine sy (v := v63) hs (y_ld rfl Tryd.underlying25 rfl (Cell.blk (.head _) rfl)) ?_; clear hs; (try clear a w); intro a w hs
       obtain ⟨x71, hx72, hm⟩ := ob hm
       obtain ⟨r73, hr74, hq75, hi76, hb77⟩ := hW65.geti hx72
       obtain ⟨v78, rfl, ⟨rw79, hR80, hW81⟩⟩ := hq75
       refine sy hs (y_indexAddr (Rd.st hs (.tail _ (.head _))) rfl rfl hi76 hb77 Tryd.underlying25 ti35) ?_; clear hs; (try clear a w); intro a w hs
       refine sy (v := eaddr v63 3 ((0 : Int).toNat) 0) hs (y_fieldAddrE (i := (0 : Int).toNat) (j := 0) (Rd.st hs (.tail _ (.head _))) rfl hb77 (FO.of (off := 0) Tryd.underlying35 rfl rfl ti3 (by decide))) ?_; clear hs; (try clear a w); intro a w hs
       obtain ⟨x83, hx84, hm⟩ := ob hm
       have hex83 := seti_some hx84
       have hW86 := RW.set (i := (0 : Int).toNat) (r := [.int .i64 (0), .string (x71.Name), v78]) (x := (({x71 with Comb := 0} : sheet_Step) : sheet_Step)) hW65 (⟨_, rfl, ⟨rw79, hR80, hW81⟩⟩); rw [hex83] at hW86
       refine RL_storeRow (i := 1) (j := 0) (m := (0 : Int).toNat) hs rfl rfl rfl hr74 (by decide) ti3 rfl (.free rfl) ?_; clear hs; (try clear a w); intro a w hs
       replace hs : St _ _ _ (.blk b68 (.cells #[v63] 27 (0, 0)) :: .row v63 35 3 (rw64.set ((0 : Int).toNat) [.int .i64 (0), .string (x71.Name), v78]) :: .blk b13 (.cells #[v6] 27 (0, 0)) :: .blk b11 (.cells #[v1] 24 (0, 0)) :: L) _ _ _ := hs
       generalize hgrw85 : rw64.set ((0 : Int).toNat) [.int .i64 (0), .string (x71.Name), v78] = rw85 at hs hW86; clear hgrw85
       replace hs : St _ _ _ (.blk b68 (.cells #[v63] 27 (0, 0)) :: .row v63 35 3 rw85 :: .blk b13 (.cells #[v6] 27 (0, 0)) :: .blk b11 (.cells #[v1] 24 (0, 0)) :: L) _ _ _ := hs
       refine RL_nil ?_
       refine hK15 _ _ ?_; clear hK15
       refine W_seq fun K16 hK16 => ?_
       refine W_post (fun a w => ∃ (y88 : Bool), law10_MatchFewer_k4 y88 = some res ∧ St 87 w0 f36 (L) [(8, .bool (y88))] a w) ?_ ?_
       ·clear hs hm
        rintro a w ⟨y88, hm, hs⟩
        replace hs : St _ _ _ (L) _ _ _ := hs
        unfold law10_MatchFewer_k4 at hm
        refine hK16 _ _ ?_; clear hK16
        refine W_ret ?_
        obtain rfl := Option.some.inj hm
        refine RtV1 hs rfl (rv_t hs rfl) ?_
        exact ⟨rfl, (hs.weak hle).cw⟩
       ·refine W_region ?_
        refine sy hs (y_ldB rfl Tryd.underlying24 rfl ti24 (.tail _ (.tail _ (.tail _ (.head _)))) rfl) ?_; clear hs; (try clear a w); intro a w hs
        refine sy (v := .int .i64 (p3)) hs (y_move rfl) ?_; clear hs; (try clear a w); intro a w hs
        refine sy hs (y_ldB rfl Tryd.underlying27 rfl ti27 (.tail _ (.tail _ (.head _))) rfl) ?_; clear hs; (try clear a w); intro a w hs
        obtain ⟨x89, hx90, hm⟩ := ob hm
        refine sy hs (y_call rfl has12 rfl (match_Match_ok n (f := f36) (a0 := [v1]) (a2 := [v6]) hT0 hT1 hTT ⟨_, rfl, ⟨rw2, hR3, hW4⟩⟩ ⟨_, rfl, ⟨rw7, hR8, hW9⟩⟩ hx90)) ?_; clear hs; (try clear a w); intro a w hs
        refine sy (v := .bool ((!x89))) hs (y_not rfl) ?_; clear hs; (try clear a w); intro a w hs
        refine sy (v := .bool ((!x89))) hs (y_move rfl) ?_; clear hs; (try clear a w); intro a w hs
        refine St.split hs (t := 78) rfl (fun hg91 hq => ?_) (fun hg91 hq => ?_)
        ·clear hs; have hs := hq; clear hq
         replace hm := oc_t hg91 hm
         refine sno hs ?_; clear hs; (try clear a w); intro a w hs
         refine sno hs ?_; clear hs; (try clear a w); intro a w hs
         refine sno hs ?_; clear hs; (try clear a w); intro a w hs
         refine sno hs ?_; clear hs; (try clear a w); intro a w hs
         refine sy (v := .bool (true)) hs (y_pick rfl rfl) ?_; clear hs; (try clear a w); intro a w hs
         refine sy (v := .bool (true)) hs (y_move rfl) ?_; clear hs; (try clear a w); intro a w hs
         obtain ⟨x92, hx93, hm⟩ := ob hm
         refine syg hs (y_call rfl has11 rfl (law10_known_ok n (f := f36)  hT0 hT1 hTT hx93)) ?_; clear hs; (try clear a w); intro a w hs
         refine sy (v := .bool (x92)) hs (y_pick rfl rfl) ?_; clear hs; (try clear a w); intro a w hs
         refine sy (v := .bool (x92)) hs (y_assign rfl) ?_; clear hs; (try clear a w); intro a w hs
         refine RL_nil ?_
         exact ⟨x92, hm, hs.subs ⟨rfl, trivial⟩ (.cons _ (.cons _ (.cons _ (.cons _ (.refl _)))))⟩
        ·clear hs; have hs := hq; clear hq
         replace hm := oc_f hg91 hm
         refine syg hs (y_ldB rfl Tryd.underlying24 rfl ti24 (.tail _ (.tail _ (.tail _ (.head _)))) rfl) ?_; clear hs; (try clear a w); intro a w hs
         refine syg (v := .int .i64 (p3)) hs (y_move rfl) ?_; clear hs; (try clear a w); intro a w hs
         refine syg hs (y_ldB rfl Tryd.underlying27 rfl ti27 (.head _) rfl) ?_; clear hs; (try clear a w); intro a w hs
         obtain ⟨x94, hx95, hm⟩ := ob hm
         refine syg hs (y_callCK (cap := []) rfl has12 rfl (fun w9 hw9 => callsP (Lr := [.row v63 35 3 rw85]) (Lf := .blk b68 (.cells #[v63] 27 (0, 0)) :: .blk b13 (.cells #[v6] 27 (0, 0)) :: .blk b11 (.cells #[v1] 24 (0, 0)) :: L) (perm_at _ 1 rfl) hw9 (fun Lz w9 hw9 => lent0 hw9 (fun f9_0 w9 hle9_0 hRl0 hw9 => (match_Match_ok n (f := f9_0) (a0 := [v1]) (a2 := [v63]) (hle9_0 _ _ hT0) (hle9_0 _ _ hT1) hTT ⟨_, rfl, ⟨rw2, hR3.le hle9_0, hW4.le hle9_0⟩⟩ ⟨_, rfl, ⟨rw85, hRl0, hW86.le hle9_0⟩⟩ hx95) w0 _ w9 hw9)))) ?_; clear hs; (try clear a w); intro a w hs
         refine sy (v := .bool (x94)) hs (y_pick rfl rfl) ?_; clear hs; (try clear a w); intro a w hs
         refine sy (v := .bool (x94)) hs (y_move rfl) ?_; clear hs; (try clear a w); intro a w hs
         refine St.split hs (t := 84) rfl (fun hg96 hq => ?_) (fun hg96 hq => ?_)
         ·clear hs; have hs := hq; clear hq
          replace hm := oc_t hg96 hm
          obtain ⟨x97, hx98, hm⟩ := ob hm
          refine syg hs (y_call rfl has11 rfl (law10_known_ok n (f := f36)  hT0 hT1 hTT hx98)) ?_; clear hs; (try clear a w); intro a w hs
          refine sy (v := .bool (x97)) hs (y_pick rfl rfl) ?_; clear hs; (try clear a w); intro a w hs
          refine sy (v := .bool (x97)) hs (y_assign rfl) ?_; clear hs; (try clear a w); intro a w hs
          refine RL_nil ?_
          exact ⟨x97, hm, hs.subs ⟨rfl, trivial⟩ (.cons _ (.cons _ (.cons _ (.cons _ (.refl _)))))⟩
         ·clear hs; have hs := hq; clear hq
          replace hm := oc_f hg96 hm
          refine sno hs ?_; clear hs; (try clear a w); intro a w hs
          refine sy (v := .bool (false)) hs (y_pick rfl rfl) ?_; clear hs; (try clear a w); intro a w hs
          refine sy (v := .bool (false)) hs (y_assign rfl) ?_; clear hs; (try clear a w); intro a w hs
          refine RL_nil ?_
          exact ⟨false, hm, hs.subs ⟨rfl, trivial⟩ (.cons _ (.cons _ (.cons _ (.cons _ (.refl _)))))⟩
    ·refine W_region ?_
     refine sy hs (y_ldB rfl Tryd.underlying24 rfl ti24 (.tail _ (.tail _ (.tail _ (.head _)))) rfl) ?_; clear hs; (try clear a w); intro a w hs
     refine sy (v := .int .i64 (p3)) hs (y_move rfl) ?_; clear hs; (try clear a w); intro a w hs
     refine sy hs (y_ldB rfl Tryd.underlying27 rfl ti27 (.head _) rfl) ?_; clear hs; (try clear a w); intro a w hs
     obtain ⟨x99, hx100, hm⟩ := ob hm
     refine sy hs (y_callCK (cap := []) rfl has12 rfl (fun w9 hw9 => callsP (Lr := [.row v39 35 3 rw40]) (Lf := .blk b33 (.cells #[v39] 27 (0, 0)) :: .blk b13 (.cells #[v6] 27 (0, 0)) :: .blk b11 (.cells #[v1] 24 (0, 0)) :: L) (perm_at _ 1 rfl) hw9 (fun Lz w9 hw9 => lent0 hw9 (fun f9_0 w9 hle9_0 hRl0 hw9 => (match_Match_ok n (f := f9_0) (a0 := [v1]) (a2 := [v39]) (hle9_0 _ _ hT0) (hle9_0 _ _ hT1) hTT ⟨_, rfl, ⟨rw2, hR3.le hle9_0, hW4.le hle9_0⟩⟩ ⟨_, rfl, ⟨rw40, hRl0, hW41.le hle9_0⟩⟩ hx100) w0 _ w9 hw9)))) ?_; clear hs; (try clear a w); intro a w hs
     refine sy (v := .bool (x99)) hs (y_move rfl) ?_; clear hs; (try clear a w); intro a w hs
     refine St.split hs (t := 53) rfl (fun hg101 hq => ?_) (fun hg101 hq => ?_)
     ·clear hs; have hs := hq; clear hq
      replace hm := oc_t hg101 hm
      refine syg hs (y_ldB rfl Tryd.underlying24 rfl ti24 (.tail _ (.tail _ (.tail _ (.head _)))) rfl) ?_; clear hs; (try clear a w); intro a w hs
      refine syg (v := .int .i64 (p3)) hs (y_move rfl) ?_; clear hs; (try clear a w); intro a w hs
      refine syg hs (y_ldB rfl Tryd.underlying27 rfl ti27 (.tail _ (.tail _ (.head _))) rfl) ?_; clear hs; (try clear a w); intro a w hs
      obtain ⟨x102, hx103, hm⟩ := ob hm
      refine syg hs (y_call rfl has12 rfl (match_Match_ok n (f := f36) (a0 := [v1]) (a2 := [v6]) hT0 hT1 hTT ⟨_, rfl, ⟨rw2, hR3, hW4⟩⟩ ⟨_, rfl, ⟨rw7, hR8, hW9⟩⟩ hx103)) ?_; clear hs; (try clear a w); intro a w hs
      refine syg (v := .bool ((!x102))) hs (y_not rfl) ?_; clear hs; (try clear a w); intro a w hs
      refine sy (v := .bool ((!x102))) hs (y_pick rfl rfl) ?_; clear hs; (try clear a w); intro a w hs
      refine RL_nil ?_
      exact ⟨(!x102), hm, hs.subs ⟨rfl, rfl, rfl, rfl, rfl, trivial⟩ (.cons _ (.cons _ (.cons_cons _ (.cons_cons _ (.refl _)))))⟩
     ·clear hs; have hs := hq; clear hq
      replace hm := oc_f hg101 hm
      refine sno hs ?_; clear hs; (try clear a w); intro a w hs
      refine sno hs ?_; clear hs; (try clear a w); intro a w hs
      refine sno hs ?_; clear hs; (try clear a w); intro a w hs
      refine sno hs ?_; clear hs; (try clear a w); intro a w hs
      refine sno hs ?_; clear hs; (try clear a w); intro a w hs
      refine sy (v := .bool (false)) hs (y_pick rfl rfl) ?_; clear hs; (try clear a w); intro a w hs
      refine RL_nil ?_
      exact ⟨false, hm, hs.subs ⟨rfl, rfl, rfl, rfl, rfl, trivial⟩ (.cons _ (.cons _ (.cons_cons _ (.cons_cons _ (.refl _)))))⟩
   ·have hsD := hs.subL (L' := .blk b33 (.cells #[v28] 27 (0, 0)) :: .row v28 35 3 rw29 :: .blk b15 (.cells #[.int .i64 (p2.Kind), .string (p2.Name), .string (p2.Value), .int .i64 (p2.N)] 29 (0, 0)) :: []) (.cons_cons _ (.cons_cons _ (.cons_cons _ (.cons _ (.cons _ (List.nil_sublist _))))))
    have hbd104 := Fz.le.refl f
    refine T_start hs (.blk b33 (.cells #[v28] 27 (0, 0)) :: .row v28 35 3 rw29 :: .blk b15 (.cells #[.int .i64 (p2.Kind), .string (p2.Name), .string (p2.Value), .int .i64 (p2.N)] 29 (0, 0)) :: []) [16] (.look 0 (.look 1 (.look 2 (.look 4 (.look 5 (.look 6 (.look 7 (.look 8 (.look 9 (.look 11 (.any [3, 12] (fun i => bif Nat.beq i 3 then .any [10, 12] (fun i => bif Nat.beq i 10 then .any [12] (fun _ => .any [13] (fun _ => .any [14] (fun _ => .look 15 (.any [16] (fun _ => .done))))) else .any [10] (fun _ => .any [13] (fun _ => .any [14] (fun _ => .look 15 (.any [16] (fun _ => .done)))))) else .any [3] (fun _ => .any [10] (fun _ => .any [13] (fun _ => .any [14] (fun _ => .look 15 (.any [16] (fun _ => .done)))))))))))))))))) mixed (by kernel_rfl) ?_; clear hs; (try clear a w); intro a he
    refine uy (v := .pointer (some ⟨b33, 0, none⟩)) 0 he rfl (y_fieldAddr rfl (FO.of (off := 0) Tryd.underlying27 rfl rfl ti25 (by decide))) ?_; clear he; (try clear a); intro a he
    refine uy (v := v28) 1 he rfl (y_ld rfl Tryd.underlying25 rfl (Cell.blk (.head _) rfl)) ?_; clear he; (try clear a); intro a he
    refine uy (v := .int .i64 ((w64 ((x26.length : Int) - 1)))) 2 he rfl (y_move rfl) ?_; clear he; (try clear a); intro a he
    refine uy (v := .pointer (some ⟨b33, 0, none⟩)) 4 he rfl (y_fieldAddr rfl (FO.of (off := 0) Tryd.underlying27 rfl rfl ti25 (by decide))) ?_; clear he; (try clear a); intro a he
    refine uy (v := v28) 5 he rfl (y_ld rfl Tryd.underlying25 rfl (Cell.blk (.head _) rfl)) ?_; clear he; (try clear a); intro a he
    refine uy (v := .int .i64 ((w64 ((x26.length : Int) - 1)))) 6 he rfl (y_move rfl) ?_; clear he; (try clear a); intro a he
    obtain ⟨x105, hx106, hm⟩ := ob hm
    obtain ⟨r107, hr108, hq109, hi110, hb111⟩ := hW30.geti hx106
    obtain ⟨v112, rfl, ⟨rw113, hR114, hW115⟩⟩ := hq109
    refine uy 7 he rfl (y_indexAddr (Rd.st hsD (.tail _ (.head _))) rfl rfl hi110 hb111 Tryd.underlying25 ti35) ?_; clear he; (try clear a); intro a he
    refine uy (v := eaddr v28 3 ((w64 ((x26.length : Int) - 1)).toNat) 2) 8 he rfl (y_fieldAddrE (i := (w64 ((x26.length : Int) - 1)).toNat) (j := 0) (Rd.st hsD (.tail _ (.head _))) rfl hb111 (FO.of (off := 2) Tryd.underlying35 rfl rfl ti33 (by decide))) ?_; clear he; (try clear a); intro a he
    refine uy (v := v112) 9 he rfl (y_loadE (i := (w64 ((x26.length : Int) - 1)).toNat) (j := 2) (Rd.st hsD (.tail _ (.head _))) rfl hr108 rfl Tryd.underlying33 rfl) ?_; clear he; (try clear a); intro a he
    refine uy 11 he rfl (y_ldB rfl Tryd.underlying29 rfl ti29 (.tail _ (.tail _ (.head _))) rfl) ?_; clear he; (try clear a); intro a he
    refine T_any2 he rfl rfl ?_ ?_ <;> (clear he; (try clear a); intro a w hs)
    ·refine RL_bs0 hs Tryd.underlying33 ti29 ?_; clear hs; (try clear a w); intro v117 a w hs
     have hW118 : RW t_sheet_Test f [] ([] : List sheet_Test) := trivial
     generalize hgrw119 : ([] : List (List Value)) = rw119 at hs hW118; clear hgrw119
     replace hs : St _ _ _ (.row v117 29 4 rw119 :: .blk b33 (.cells #[v28] 27 (0, 0)) :: .row v28 35 3 rw29 :: .blk b15 (.cells #[.int .i64 (p2.Kind), .string (p2.Name), .string (p2.Value), .int .i64 (p2.N)] 29 (0, 0)) :: .blk b13 (.cells #[v6] 27 (0, 0)) :: .blk b11 (.cells #[v1] 24 (0, 0)) :: L) _ _ _ := hs
     have ho122 : v117.oneCell' = true := hs.one (i := 0) rfl
     refine uon hs ?_; clear hs; (try clear a w); intro a he
     refine T_any2 he rfl rfl ?_ ?_ <;> (clear he; (try clear a); intro a w hs)
     ·obtain ⟨x123, hx124, hm⟩ := ob hm
      obtain ⟨hbx123, hex123⟩ := appM_some hx124
      have hW127 := hW118.append hW115; rw [hex123] at hW127
      refine RL_append (i := 0) hs rfl rfl rfl hR114.up Tryd.underlying33 ti29 (by decide) (by rw [RW.len hW118, RW.len hW115]; exact hbx123) (.free rfl) (by decide) ?_; clear hs; (try clear a w); intro v125 a w hs
      generalize hgx123 : rw119 ++ rw113 = rw126 at hs hW127; clear hgx123
      replace hs : St _ _ _ (.row v125 29 4 rw126 :: .blk b33 (.cells #[v28] 27 (0, 0)) :: .row v28 35 3 rw29 :: .blk b15 (.cells #[.int .i64 (p2.Kind), .string (p2.Name), .string (p2.Value), .int .i64 (p2.N)] 29 (0, 0)) :: .blk b13 (.cells #[v6] 27 (0, 0)) :: .blk b11 (.cells #[v1] 24 (0, 0)) :: L) _ _ _ := hs
      have ho129 : v125.oneCell' = true := hs.one (i := 0) rfl
      refine uon hs ?_; clear hs; (try clear a w); intro a he
      refine T_any1 he rfl ?_; clear he; (try clear a); intro a w hs
      refine RL_bs1a hs rfl Tryd.underlying33 ti29 (by decide) (AllC.row ⟨rfl, rfl, rfl, rfl, trivial⟩ rfl) ?_; clear hs; (try clear a w); intro v130 a w hs
      have hW131 : RW t_sheet_Test f [[.int .i64 (p2.Kind), .string (p2.Name), .string (p2.Value), .int .i64 (p2.N)]] [p2] := RW.single (rfl)
      generalize hgrw132 : ([[.int .i64 (p2.Kind), .string (p2.Name), .string (p2.Value), .int .i64 (p2.N)]] : List (List Value)) = rw132 at hs hW131; clear hgrw132
      replace hs : St _ _ _ (.row v130 29 4 rw132 :: .row v125 29 4 rw126 :: .blk b33 (.cells #[v28] 27 (0, 0)) :: .row v28 35 3 rw29 :: .blk b15 (.cells #[.int .i64 (p2.Kind), .string (p2.Name), .string (p2.Value), .int .i64 (p2.N)] 29 (0, 0)) :: .blk b13 (.cells #[v6] 27 (0, 0)) :: .blk b11 (.cells #[v1] 24 (0, 0)) :: L) _ _ _ := hs
      have ho135 : v130.oneCell' = true := hs.one (i := 0) rfl
      refine uon hs ?_; clear hs; (try clear a w); intro a he
      refine T_any1 he rfl ?_; clear he; (try clear a); intro a w hs
      obtain ⟨x136, hx137, hm⟩ := ob hm
      obtain ⟨hbx136, hex136⟩ := appM_some hx137
      have hW140 := hW127.append hW131; rw [hex136] at hW140
      refine RL_append (i := 1) hs rfl rfl rfl (Rd.st hs (.head _)) Tryd.underlying33 ti29 (by decide) (by rw [RW.len hW127, RW.len hW131]; exact hbx136) (.free rfl) (by decide) ?_; clear hs; (try clear a w); intro v138 a w hs
      generalize hgx136 : rw126 ++ rw132 = rw139 at hs hW140; clear hgx136
      replace hs := hs.erase 0
      replace hs : St _ _ _ (.row v138 29 4 rw139 :: .blk b33 (.cells #[v28] 27 (0, 0)) :: .row v28 35 3 rw29 :: .blk b15 (.cells #[.int .i64 (p2.Kind), .string (p2.Name), .string (p2.Value), .int .i64 (p2.N)] 29 (0, 0)) :: .blk b13 (.cells #[v6] 27 (0, 0)) :: .blk b11 (.cells #[v1] 24 (0, 0)) :: L) _ _ _ := hs
      have ho142 : v138.oneCell' = true := hs.one (i := 0) rfl
      refine uon hs ?_; clear hs; (try clear a w); intro a he
      refine T_any1 he rfl ?_; clear he; (try clear a); intro a w hs
      obtain ⟨x143, hx144, hm⟩ := ob hm
      obtain ⟨r145, hr146, hq147, hi148, hb149⟩ := hW30.geti hx144
      obtain ⟨v150, rfl, ⟨rw151, hR152, hW153⟩⟩ := hq147
      refine sy hs (y_indexAddr (Rd.st hs (.tail _ (.tail _ (.head _)))) rfl rfl hi148 hb149 Tryd.underlying25 ti35) ?_; clear hs; (try clear a w); intro a w hs
      refine uon hs ?_; clear hs; (try clear a w); intro a he
      refine uy (v := eaddr v28 3 ((w64 ((x26.length : Int) - 1)).toNat) 2) 15 he rfl (y_fieldAddrE (i := (w64 ((x26.length : Int) - 1)).toNat) (j := 0) (Rd.st hsD (.tail _ (.head _))) rfl hb149 (FO.of (off := 2) Tryd.underlying35 rfl rfl ti33 (by decide))) ?_; clear he; (try clear a); intro a he
      refine T_any1 he rfl ?_; clear he; (try clear a); intro a w hs
      obtain ⟨f155, hf156, hs2, hR157⟩ := hs.frzAt 0 rfl
      clear hs; have hs := hs2; clear hs2
      have hR158 := hR3.le hf156
      have hW159 := hW4.le hf156
      have hR160 := hR8.le hf156
      have hW161 := hW9.le hf156
      have hT162 := hf156 _ _ hT0
      have hT163 := hf156 _ _ hT1
      have hW164 := hW22.le hf156
      have hW165 := hW30.le hf156
      have hR166 := hR114.le hf156
      have hW167 := hW115.le hf156
      have hW168 := hW118.le hf156
      have hW169 := hW127.le hf156
      have hW170 := hW131.le hf156
      have hW171 := hW140.le hf156
      have hR172 := hR152.le hf156
      have hW173 := hW153.le hf156
      replace hle := hle.trans hf156
      replace hbase43 := hbase43.trans hf156
      replace hbd104 := hbd104.trans hf156
      replace hs : St _ _ _ (.blk b33 (.cells #[v28] 27 (0, 0)) :: .row v28 35 3 rw29 :: .blk b15 (.cells #[.int .i64 (p2.Kind), .string (p2.Name), .string (p2.Value), .int .i64 (p2.N)] 29 (0, 0)) :: .blk b13 (.cells #[v6] 27 (0, 0)) :: .blk b11 (.cells #[v1] 24 (0, 0)) :: L) _ _ _ := hs
      obtain ⟨x174, hx175, hm⟩ := ob hm
      have hex174 := seti_some hx175
      have hW177 := RW.set (i := (w64 ((x26.length : Int) - 1)).toNat) (r := [.int .i64 (x143.Comb), .string (x143.Name), v138]) (x := (({x143 with Tests := x136} : sheet_Step) : sheet_Step)) hW165 (⟨_, rfl, ⟨rw139, hR157, hW171⟩⟩); rw [hex174] at hW177
      refine RL_storeRow (i := 1) (j := 2) (m := (w64 ((x26.length : Int) - 1)).toNat) hs rfl rfl rfl hr146 (by decide) ti33 ho142 (.free rfl) ?_; clear hs; (try clear a w); intro a w hs
      replace hs : St _ _ _ (.blk b33 (.cells #[v28] 27 (0, 0)) :: .row v28 35 3 (rw29.set ((w64 ((x26.length : Int) - 1)).toNat) [.int .i64 (x143.Comb), .string (x143.Name), v138]) :: .blk b15 (.cells #[.int .i64 (p2.Kind), .string (p2.Name), .string (p2.Value), .int .i64 (p2.N)] 29 (0, 0)) :: .blk b13 (.cells #[v6] 27 (0, 0)) :: .blk b11 (.cells #[v1] 24 (0, 0)) :: L) _ _ _ := hs
      generalize hgrw176 : rw29.set ((w64 ((x26.length : Int) - 1)).toNat) [.int .i64 (x143.Comb), .string (x143.Name), v138] = rw176 at hs hW177; clear hgrw176
      replace hs : St _ _ _ (.blk b33 (.cells #[v28] 27 (0, 0)) :: .row v28 35 3 rw176 :: .blk b15 (.cells #[.int .i64 (p2.Kind), .string (p2.Name), .string (p2.Value), .int .i64 (p2.N)] 29 (0, 0)) :: .blk b13 (.cells #[v6] 27 (0, 0)) :: .blk b11 (.cells #[v1] 24 (0, 0)) :: L) _ _ _ := hs
      refine uend hs ?_; clear hs; (try clear a w); intro a he
      refine T_nil he ?_; clear he; (try clear a); intro w hs; try clear hsD
      replace hs : St _ _ _ (.blk b33 (.cells #[v28] 27 (0, 0)) :: .row v28 35 3 rw176 :: .blk b15 (.cells #[.int .i64 (p2.Kind), .string (p2.Name), .string (p2.Value), .int .i64 (p2.N)] 29 (0, 0)) :: .blk b13 (.cells #[v6] 27 (0, 0)) :: .blk b11 (.cells #[v1] 24 (0, 0)) :: L) _ _ _ := hs
      exact ⟨_, x174, v28, rw176, hbase43, hm, hW177, hs.subs ⟨rfl, rfl, rfl, rfl, rfl, trivial⟩ (.cons_cons _ (.cons_cons _ (.cons _ (.cons_cons _ (.cons_cons _ (.refl _))))))⟩
     ·refine RL_bs1a hs rfl Tryd.underlying33 ti29 (by decide) (AllC.row ⟨rfl, rfl, rfl, rfl, trivial⟩ rfl) ?_; clear hs; (try clear a w); intro v179 a w hs
      have hW180 : RW t_sheet_Test f [[.int .i64 (p2.Kind), .string (p2.Name), .string (p2.Value), .int .i64 (p2.N)]] [p2] := RW.single (rfl)
      generalize hgrw181 : ([[.int .i64 (p2.Kind), .string (p2.Name), .string (p2.Value), .int .i64 (p2.N)]] : List (List Value)) = rw181 at hs hW180; clear hgrw181
      replace hs : St _ _ _ (.row v179 29 4 rw181 :: .row v117 29 4 rw119 :: .blk b33 (.cells #[v28] 27 (0, 0)) :: .row v28 35 3 rw29 :: .blk b15 (.cells #[.int .i64 (p2.Kind), .string (p2.Name), .string (p2.Value), .int .i64 (p2.N)] 29 (0, 0)) :: .blk b13 (.cells #[v6] 27 (0, 0)) :: .blk b11 (.cells #[v1] 24 (0, 0)) :: L) _ _ _ := hs
      have ho184 : v179.oneCell' = true := hs.one (i := 0) rfl
      refine uon hs ?_; clear hs; (try clear a w); intro a he
      refine T_any1 he rfl ?_; clear he; (try clear a); intro a w hs
      obtain ⟨x185, hx186, hm⟩ := ob hm
      obtain ⟨hbx185, hex185⟩ := appM_some hx186
      have hW189 := hW118.append hW115; rw [hex185] at hW189
      refine RL_append (i := 1) hs rfl rfl rfl hR114.up Tryd.underlying33 ti29 (by decide) (by rw [RW.len hW118, RW.len hW115]; exact hbx185) (.free rfl) (by decide) ?_; clear hs; (try clear a w); intro v187 a w hs
      generalize hgx185 : rw119 ++ rw113 = rw188 at hs hW189; clear hgx185
      replace hs : St _ _ _ (.row v179 29 4 rw181 :: .row v187 29 4 rw188 :: .blk b33 (.cells #[v28] 27 (0, 0)) :: .row v28 35 3 rw29 :: .blk b15 (.cells #[.int .i64 (p2.Kind), .string (p2.Name), .string (p2.Value), .int .i64 (p2.N)] 29 (0, 0)) :: .blk b13 (.cells #[v6] 27 (0, 0)) :: .blk b11 (.cells #[v1] 24 (0, 0)) :: L) _ _ _ := hs
      have ho191 : v187.oneCell' = true := hs.one (i := 1) rfl
      refine uon hs ?_; clear hs; (try clear a w); intro a he
      refine T_any1 he rfl ?_; clear he; (try clear a); intro a w hs
      obtain ⟨x192, hx193, hm⟩ := ob hm
      obtain ⟨hbx192, hex192⟩ := appM_some hx193
      have hW196 := hW189.append hW180; rw [hex192] at hW196
      refine RL_append (i := 1) hs rfl rfl rfl (Rd.st hs (.head _)) Tryd.underlying33 ti29 (by decide) (by rw [RW.len hW189, RW.len hW180]; exact hbx192) (.free rfl) (by decide) ?_; clear hs; (try clear a w); intro v194 a w hs
      generalize hgx192 : rw188 ++ rw181 = rw195 at hs hW196; clear hgx192
      replace hs := hs.erase 0
      replace hs : St _ _ _ (.row v194 29 4 rw195 :: .blk b33 (.cells #[v28] 27 (0, 0)) :: .row v28 35 3 rw29 :: .blk b15 (.cells #[.int .i64 (p2.Kind), .string (p2.Name), .string (p2.Value), .int .i64 (p2.N)] 29 (0, 0)) :: .blk b13 (.cells #[v6] 27 (0, 0)) :: .blk b11 (.cells #[v1] 24 (0, 0)) :: L) _ _ _ := hs
      have ho198 : v194.oneCell' = true := hs.one (i := 0) rfl
      refine uon hs ?_; clear hs; (try clear a w); intro a he
      refine T_any1 he rfl ?_; clear he; (try clear a); intro a w hs
      obtain ⟨x199, hx200, hm⟩ := ob hm
      obtain ⟨r201, hr202, hq203, hi204, hb205⟩ := hW30.geti hx200
      obtain ⟨v206, rfl, ⟨rw207, hR208, hW209⟩⟩ := hq203
      refine sy hs (y_indexAddr (Rd.st hs (.tail _ (.tail _ (.head _)))) rfl rfl hi204 hb205 Tryd.underlying25 ti35) ?_; clear hs; (try clear a w); intro a w hs
      refine uon hs ?_; clear hs; (try clear a w); intro a he
      refine uy (v := eaddr v28 3 ((w64 ((x26.length : Int) - 1)).toNat) 2) 15 he rfl (y_fieldAddrE (i := (w64 ((x26.length : Int) - 1)).toNat) (j := 0) (Rd.st hsD (.tail _ (.head _))) rfl hb205 (FO.of (off := 2) Tryd.underlying35 rfl rfl ti33 (by decide))) ?_; clear he; (try clear a); intro a he
      refine T_any1 he rfl ?_; clear he; (try clear a); intro a w hs
      obtain ⟨f211, hf212, hs2, hR213⟩ := hs.frzAt 0 rfl
      clear hs; have hs := hs2; clear hs2
      have hR214 := hR3.le hf212
      have hW215 := hW4.le hf212
      have hR216 := hR8.le hf212
      have hW217 := hW9.le hf212
      have hT218 := hf212 _ _ hT0
      have hT219 := hf212 _ _ hT1
      have hW220 := hW22.le hf212
      have hW221 := hW30.le hf212
      have hR222 := hR114.le hf212
      have hW223 := hW115.le hf212
      have hW224 := hW118.le hf212
      have hW225 := hW180.le hf212
      have hW226 := hW189.le hf212
      have hW227 := hW196.le hf212
      have hR228 := hR208.le hf212
      have hW229 := hW209.le hf212
      replace hle := hle.trans hf212
      replace hbase43 := hbase43.trans hf212
      replace hbd104 := hbd104.trans hf212
      replace hs : St _ _ _ (.blk b33 (.cells #[v28] 27 (0, 0)) :: .row v28 35 3 rw29 :: .blk b15 (.cells #[.int .i64 (p2.Kind), .string (p2.Name), .string (p2.Value), .int .i64 (p2.N)] 29 (0, 0)) :: .blk b13 (.cells #[v6] 27 (0, 0)) :: .blk b11 (.cells #[v1] 24 (0, 0)) :: L) _ _ _ := hs
      obtain ⟨x230, hx231, hm⟩ := ob hm
      have hex230 := seti_some hx231
      have hW233 := RW.set (i := (w64 ((x26.length : Int) - 1)).toNat) (r := [.int .i64 (x199.Comb), .string (x199.Name), v194]) (x := (({x199 with Tests := x192} : sheet_Step) : sheet_Step)) hW221 (⟨_, rfl, ⟨rw195, hR213, hW227⟩⟩); rw [hex230] at hW233
      refine RL_storeRow (i := 1) (j := 2) (m := (w64 ((x26.length : Int) - 1)).toNat) hs rfl rfl rfl hr202 (by decide) ti33 ho198 (.free rfl) ?_; clear hs; (try clear a w); intro a w hs
      replace hs : St _ _ _ (.blk b33 (.cells #[v28] 27 (0, 0)) :: .row v28 35 3 (rw29.set ((w64 ((x26.length : Int) - 1)).toNat) [.int .i64 (x199.Comb), .string (x199.Name), v194]) :: .blk b15 (.cells #[.int .i64 (p2.Kind), .string (p2.Name), .string (p2.Value), .int .i64 (p2.N)] 29 (0, 0)) :: .blk b13 (.cells #[v6] 27 (0, 0)) :: .blk b11 (.cells #[v1] 24 (0, 0)) :: L) _ _ _ := hs
      generalize hgrw232 : rw29.set ((w64 ((x26.length : Int) - 1)).toNat) [.int .i64 (x199.Comb), .string (x199.Name), v194] = rw232 at hs hW233; clear hgrw232
      replace hs : St _ _ _ (.blk b33 (.cells #[v28] 27 (0, 0)) :: .row v28 35 3 rw232 :: .blk b15 (.cells #[.int .i64 (p2.Kind), .string (p2.Name), .string (p2.Value), .int .i64 (p2.N)] 29 (0, 0)) :: .blk b13 (.cells #[v6] 27 (0, 0)) :: .blk b11 (.cells #[v1] 24 (0, 0)) :: L) _ _ _ := hs
      refine uend hs ?_; clear hs; (try clear a w); intro a he
      refine T_nil he ?_; clear he; (try clear a); intro w hs; try clear hsD
      replace hs : St _ _ _ (.blk b33 (.cells #[v28] 27 (0, 0)) :: .row v28 35 3 rw232 :: .blk b15 (.cells #[.int .i64 (p2.Kind), .string (p2.Name), .string (p2.Value), .int .i64 (p2.N)] 29 (0, 0)) :: .blk b13 (.cells #[v6] 27 (0, 0)) :: .blk b11 (.cells #[v1] 24 (0, 0)) :: L) _ _ _ := hs
      exact ⟨_, x230, v28, rw232, hbase43, hm, hW233, hs.subs ⟨rfl, rfl, rfl, rfl, rfl, trivial⟩ (.cons_cons _ (.cons_cons _ (.cons _ (.cons_cons _ (.cons_cons _ (.refl _))))))⟩
    ·refine RL_bs1a hs rfl Tryd.underlying33 ti29 (by decide) (AllC.row ⟨rfl, rfl, rfl, rfl, trivial⟩ rfl) ?_; clear hs; (try clear a w); intro v235 a w hs
     have hW236 : RW t_sheet_Test f [[.int .i64 (p2.Kind), .string (p2.Name), .string (p2.Value), .int .i64 (p2.N)]] [p2] := RW.single (rfl)
     generalize hgrw237 : ([[.int .i64 (p2.Kind), .string (p2.Name), .string (p2.Value), .int .i64 (p2.N)]] : List (List Value)) = rw237 at hs hW236; clear hgrw237
     replace hs : St _ _ _ (.row v235 29 4 rw237 :: .blk b33 (.cells #[v28] 27 (0, 0)) :: .row v28 35 3 rw29 :: .blk b15 (.cells #[.int .i64 (p2.Kind), .string (p2.Name), .string (p2.Value), .int .i64 (p2.N)] 29 (0, 0)) :: .blk b13 (.cells #[v6] 27 (0, 0)) :: .blk b11 (.cells #[v1] 24 (0, 0)) :: L) _ _ _ := hs
     have ho240 : v235.oneCell' = true := hs.one (i := 0) rfl
     refine uon hs ?_; clear hs; (try clear a w); intro a he
     refine T_any1 he rfl ?_; clear he; (try clear a); intro a w hs
     refine RL_bs0 hs Tryd.underlying33 ti29 ?_; clear hs; (try clear a w); intro v241 a w hs
     have hW242 : RW t_sheet_Test f [] ([] : List sheet_Test) := trivial
     generalize hgrw243 : ([] : List (List Value)) = rw243 at hs hW242; clear hgrw243
     replace hs : St _ _ _ (.row v241 29 4 rw243 :: .row v235 29 4 rw237 :: .blk b33 (.cells #[v28] 27 (0, 0)) :: .row v28 35 3 rw29 :: .blk b15 (.cells #[.int .i64 (p2.Kind), .string (p2.Name), .string (p2.Value), .int .i64 (p2.N)] 29 (0, 0)) :: .blk b13 (.cells #[v6] 27 (0, 0)) :: .blk b11 (.cells #[v1] 24 (0, 0)) :: L) _ _ _ := hs
     have ho246 : v241.oneCell' = true := hs.one (i := 0) rfl
     refine uon hs ?_; clear hs; (try clear a w); intro a he
     refine T_any1 he rfl ?_; clear he; (try clear a); intro a w hs
     obtain ⟨x247, hx248, hm⟩ := ob hm
     obtain ⟨hbx247, hex247⟩ := appM_some hx248
     have hW251 := hW242.append hW115; rw [hex247] at hW251
     refine RL_append (i := 0) hs rfl rfl rfl hR114.up Tryd.underlying33 ti29 (by decide) (by rw [RW.len hW242, RW.len hW115]; exact hbx247) (.free rfl) (by decide) ?_; clear hs; (try clear a w); intro v249 a w hs
     generalize hgx247 : rw243 ++ rw113 = rw250 at hs hW251; clear hgx247
     replace hs : St _ _ _ (.row v249 29 4 rw250 :: .row v235 29 4 rw237 :: .blk b33 (.cells #[v28] 27 (0, 0)) :: .row v28 35 3 rw29 :: .blk b15 (.cells #[.int .i64 (p2.Kind), .string (p2.Name), .string (p2.Value), .int .i64 (p2.N)] 29 (0, 0)) :: .blk b13 (.cells #[v6] 27 (0, 0)) :: .blk b11 (.cells #[v1] 24 (0, 0)) :: L) _ _ _ := hs
     have ho253 : v249.oneCell' = true := hs.one (i := 0) rfl
     refine uon hs ?_; clear hs; (try clear a w); intro a he
     refine T_any1 he rfl ?_; clear he; (try clear a); intro a w hs
     obtain ⟨x254, hx255, hm⟩ := ob hm
     obtain ⟨hbx254, hex254⟩ := appM_some hx255
     have hW258 := hW251.append hW236; rw [hex254] at hW258
     refine RL_append (i := 0) hs rfl rfl rfl (Rd.st hs (.tail _ (.head _))) Tryd.underlying33 ti29 (by decide) (by rw [RW.len hW251, RW.len hW236]; exact hbx254) (.free rfl) (by decide) ?_; clear hs; (try clear a w); intro v256 a w hs
     generalize hgx254 : rw250 ++ rw237 = rw257 at hs hW258; clear hgx254
     replace hs := hs.erase 1
     replace hs : St _ _ _ (.row v256 29 4 rw257 :: .blk b33 (.cells #[v28] 27 (0, 0)) :: .row v28 35 3 rw29 :: .blk b15 (.cells #[.int .i64 (p2.Kind), .string (p2.Name), .string (p2.Value), .int .i64 (p2.N)] 29 (0, 0)) :: .blk b13 (.cells #[v6] 27 (0, 0)) :: .blk b11 (.cells #[v1] 24 (0, 0)) :: L) _ _ _ := hs
     have ho260 : v256.oneCell' = true := hs.one (i := 0) rfl
     refine uon hs ?_; clear hs; (try clear a w); intro a he
     refine T_any1 he rfl ?_; clear he; (try clear a); intro a w hs
     obtain ⟨x261, hx262, hm⟩ := ob hm
     obtain ⟨r263, hr264, hq265, hi266, hb267⟩ := hW30.geti hx262
     obtain ⟨v268, rfl, ⟨rw269, hR270, hW271⟩⟩ := hq265
     refine sy hs (y_indexAddr (Rd.st hs (.tail _ (.tail _ (.head _)))) rfl rfl hi266 hb267 Tryd.underlying25 ti35) ?_; clear hs; (try clear a w); intro a w hs
     refine uon hs ?_; clear hs; (try clear a w); intro a he
     refine uy (v := eaddr v28 3 ((w64 ((x26.length : Int) - 1)).toNat) 2) 15 he rfl (y_fieldAddrE (i := (w64 ((x26.length : Int) - 1)).toNat) (j := 0) (Rd.st hsD (.tail _ (.head _))) rfl hb267 (FO.of (off := 2) Tryd.underlying35 rfl rfl ti33 (by decide))) ?_; clear he; (try clear a); intro a he
     refine T_any1 he rfl ?_; clear he; (try clear a); intro a w hs
     obtain ⟨f273, hf274, hs2, hR275⟩ := hs.frzAt 0 rfl
     clear hs; have hs := hs2; clear hs2
     have hR276 := hR3.le hf274
     have hW277 := hW4.le hf274
     have hR278 := hR8.le hf274
     have hW279 := hW9.le hf274
     have hT280 := hf274 _ _ hT0
     have hT281 := hf274 _ _ hT1
     have hW282 := hW22.le hf274
     have hW283 := hW30.le hf274
     have hR284 := hR114.le hf274
     have hW285 := hW115.le hf274
     have hW286 := hW236.le hf274
     have hW287 := hW242.le hf274
     have hW288 := hW251.le hf274
     have hW289 := hW258.le hf274
     have hR290 := hR270.le hf274
     have hW291 := hW271.le hf274
     replace hle := hle.trans hf274
     replace hbase43 := hbase43.trans hf274
     replace hbd104 := hbd104.trans hf274
     replace hs : St _ _ _ (.blk b33 (.cells #[v28] 27 (0, 0)) :: .row v28 35 3 rw29 :: .blk b15 (.cells #[.int .i64 (p2.Kind), .string (p2.Name), .string (p2.Value), .int .i64 (p2.N)] 29 (0, 0)) :: .blk b13 (.cells #[v6] 27 (0, 0)) :: .blk b11 (.cells #[v1] 24 (0, 0)) :: L) _ _ _ := hs
     obtain ⟨x292, hx293, hm⟩ := ob hm
     have hex292 := seti_some hx293
     have hW295 := RW.set (i := (w64 ((x26.length : Int) - 1)).toNat) (r := [.int .i64 (x261.Comb), .string (x261.Name), v256]) (x := (({x261 with Tests := x254} : sheet_Step) : sheet_Step)) hW283 (⟨_, rfl, ⟨rw257, hR275, hW289⟩⟩); rw [hex292] at hW295
     refine RL_storeRow (i := 1) (j := 2) (m := (w64 ((x26.length : Int) - 1)).toNat) hs rfl rfl rfl hr264 (by decide) ti33 ho260 (.free rfl) ?_; clear hs; (try clear a w); intro a w hs
     replace hs : St _ _ _ (.blk b33 (.cells #[v28] 27 (0, 0)) :: .row v28 35 3 (rw29.set ((w64 ((x26.length : Int) - 1)).toNat) [.int .i64 (x261.Comb), .string (x261.Name), v256]) :: .blk b15 (.cells #[.int .i64 (p2.Kind), .string (p2.Name), .string (p2.Value), .int .i64 (p2.N)] 29 (0, 0)) :: .blk b13 (.cells #[v6] 27 (0, 0)) :: .blk b11 (.cells #[v1] 24 (0, 0)) :: L) _ _ _ := hs
     generalize hgrw294 : rw29.set ((w64 ((x26.length : Int) - 1)).toNat) [.int .i64 (x261.Comb), .string (x261.Name), v256] = rw294 at hs hW295; clear hgrw294
     replace hs : St _ _ _ (.blk b33 (.cells #[v28] 27 (0, 0)) :: .row v28 35 3 rw294 :: .blk b15 (.cells #[.int .i64 (p2.Kind), .string (p2.Name), .string (p2.Value), .int .i64 (p2.N)] 29 (0, 0)) :: .blk b13 (.cells #[v6] 27 (0, 0)) :: .blk b11 (.cells #[v1] 24 (0, 0)) :: L) _ _ _ := hs
     refine uend hs ?_; clear hs; (try clear a w); intro a he
     refine T_nil he ?_; clear he; (try clear a); intro w hs; try clear hsD
     replace hs : St _ _ _ (.blk b33 (.cells #[v28] 27 (0, 0)) :: .row v28 35 3 rw294 :: .blk b15 (.cells #[.int .i64 (p2.Kind), .string (p2.Name), .string (p2.Value), .int .i64 (p2.N)] 29 (0, 0)) :: .blk b13 (.cells #[v6] 27 (0, 0)) :: .blk b11 (.cells #[v1] 24 (0, 0)) :: L) _ _ _ := hs
     exact ⟨_, x292, v28, rw294, hbase43, hm, hW295, hs.subs ⟨rfl, rfl, rfl, rfl, rfl, trivial⟩ (.cons_cons _ (.cons_cons _ (.cons _ (.cons_cons _ (.cons_cons _ (.refl _))))))⟩
 ·refine W_region ?_
  refine sy hs (y_ldB rfl Tryd.underlying24 rfl ti24 (.tail _ (.tail _ (.head _))) rfl) ?_; clear hs; (try clear a w); intro a w hs
  refine sy hs (y_ldB rfl Tryd.underlying27 rfl ti27 (.tail _ (.head _)) rfl) ?_; clear hs; (try clear a w); intro a w hs
  refine RL_bs1a hs rfl Tryd.underlying31 ti27 (by decide) (AllC.row ⟨hR8.one, trivial⟩ rfl) ?_; clear hs; (try clear a w); intro v297 a w hs
  have hW298 : RW t_sheet_Selector f [[v6]] [p1] := RW.single (⟨_, rfl, ⟨rw7, hR8, hW9⟩⟩)
  generalize hgrw299 : ([[v6]] : List (List Value)) = rw299 at hs hW298; clear hgrw299
  replace hs : St _ _ _ (.row v297 27 1 rw299 :: .blk b15 (.cells #[.int .i64 (p2.Kind), .string (p2.Name), .string (p2.Value), .int .i64 (p2.N)] 29 (0, 0)) :: .blk b13 (.cells #[v6] 27 (0, 0)) :: .blk b11 (.cells #[v1] 24 (0, 0)) :: L) _ _ _ := hs
  obtain ⟨x302, hx303, hm⟩ := ob hm
  refine sy hs (y_callCK (cap := []) rfl has10 rfl (fun w9 hw9 => callsP (Lr := [.row v297 27 1 rw299]) (Lf := .blk b15 (.cells #[.int .i64 (p2.Kind), .string (p2.Name), .string (p2.Value), .int .i64 (p2.N)] 29 (0, 0)) :: .blk b13 (.cells #[v6] 27 (0, 0)) :: .blk b11 (.cells #[v1] 24 (0, 0)) :: L) (perm_at _ 0 rfl) hw9 (fun Lz w9 hw9 => lent0 hw9 (fun f9_0 w9 hle9_0 hRl0 hw9 => (law10_small_ok n (f := f9_0) (a0 := [v1]) (a1 := v297) ⟨_, rfl, ⟨rw2, hR3.le hle9_0, hW4.le hle9_0⟩⟩ ⟨rw299, hRl0, hW298.le hle9_0⟩ hx303) w0 _ w9 hw9)))) ?_; clear hs; (try clear a w); intro a w hs
  refine sy (v := .bool ((!x302))) hs (y_not rfl) ?_; clear hs; (try clear a w); intro a w hs
  refine sy (v := .bool ((!x302))) hs (y_move rfl) ?_; clear hs; (try clear a w); intro a w hs
  refine St.split hs (t := 17) rfl (fun hg304 hq => ?_) (fun hg304 hq => ?_)
  ·clear hs; have hs := hq; clear hq
   replace hm := oc_t hg304 hm
   refine sno hs ?_; clear hs; (try clear a w); intro a w hs
   refine sno hs ?_; clear hs; (try clear a w); intro a w hs
   refine sno hs ?_; clear hs; (try clear a w); intro a w hs
   refine sno hs ?_; clear hs; (try clear a w); intro a w hs
   refine sy (v := .bool (true)) hs (y_pick rfl rfl) ?_; clear hs; (try clear a w); intro a w hs
   refine RL_nil ?_
   exact ⟨true, hm, hs.subs ⟨rfl, rfl, rfl, rfl, rfl, trivial⟩ (.cons _ (.cons_cons _ (.cons_cons _ (.cons_cons _ (.refl _)))))⟩
  ·clear hs; have hs := hq; clear hq
   replace hm := oc_f hg304 hm
   refine syg (v := .pointer (some ⟨b13, 0, none⟩)) hs (y_fieldAddr rfl (FO.of (off := 0) Tryd.underlying27 rfl rfl ti25 (by decide))) ?_; clear hs; (try clear a w); intro a w hs
   refine syg (v := v6) hs (y_ld rfl Tryd.underlying25 rfl (Cell.blk (.tail _ (.tail _ (.head _))) rfl)) ?_; clear hs; (try clear a w); intro a w hs
   refine syg hs (y_lenW hR8 hW9 rfl Tryd.underlying25) ?_; clear hs; (try clear a w); intro a w hs
   refine syg hs (y_eql rfl rfl) ?_; clear hs; (try clear a w); intro a w hs
   refine sy (v := .bool (decide ((p1.Steps.length : Int) = 0))) hs (y_pick rfl rfl) ?_; clear hs; (try clear a w); intro a w hs
   refine RL_nil ?_
   exact ⟨decide ((p1.Steps.length : Int) = 0), hm, hs.subs ⟨rfl, rfl, rfl, rfl, rfl, trivial⟩ (.cons _ (.cons_cons _ (.cons_cons _ (.cons_cons _ (.refl _)))))⟩
end Go.Proofs.YtmkcglpeidbblaaDoor
