/-
  Walks and laws of this seat; the base is the text Base.
-/
import Derived.Test.YtmkcglpeidbblaaDoorL10k
import Derived.Test.YtmkcglpeidbblaaDoorRows
/-
  Models of functions, and that the functions compute them. Printed by lift.py.
-/
namespace Go.Proofs.YtmkcglpeidbblaaDoor
open Go.RowKit Go.Sl
/-! casement/casementlaw10.MatchNames -/
def law10_MatchNames_k1 (n : Nat) : Option Bool :=
  (law10_known n).bind fun x22 =>
  some x22
def law10_MatchNames_k5 (y30 : Int) (lp31 : (List (Int × Int)) → Int → Option Bool) (y124 : (List (Int × Int))) (y130 : Bool) : Option Bool :=
  (bif y130 then some false else
  lp31 y124 (w64 (y30 + 1)))
def law10_MatchNames_k4 (n : Nat) (p0 : api_Tree) (y30 : Int) (lp31 : (List (Int × Int)) → Int → Option Bool) (x34 : api_Node) (y124 : (List (Int × Int))) : Option Bool :=
  (bif (decide (0 < y30)) then (bif (decide (x34.Kind = 1)) then (geti p0.Nodes y30).bind fun x136 =>
  (geti p0.Nodes x136.Parent).bind fun x148 =>
  (geti p0.Nodes y30).bind fun x160 =>
  (law10_name n 0 x148.Name ([] : List sheet_Test)).bind fun x173 =>
  (law10_name n 2 x160.Name ([] : List sheet_Test)).bind fun x203 =>
  (law10_sel n [x173, x203]).bind fun x258 =>
  (match_Match n p0 y30 x258).bind fun x285 =>
  law10_MatchNames_k5 y30 lp31 y124 (!x285) else
  law10_MatchNames_k5 y30 lp31 y124 false) else
  law10_MatchNames_k5 y30 lp31 y124 false)
def law10_MatchNames_k3 (n : Nat) (p0 : api_Tree) (x17 : Int) (y26 : (List (Int × Int))) (y30 : Int) (lp31 : (List (Int × Int)) → Int → Option Bool) (x34 : api_Node) (y48 : Bool) : Option Bool :=
  (bif y48 then some false else
  (law10_name n 0 (bs []) [({Kind := 7, Name := (bs []), Value := (bs []), N := x17} : sheet_Test)]).bind fun x66 =>
  (law10_sel n [x66]).bind fun x101 =>
  (match_Match n p0 y30 x101).bind fun x122 =>
  (bif x122 then (geti p0.Nodes y30).bind fun x288 =>
  (geti p0.Nodes y30).bind fun x303 =>
  (bif (decide (1 < ((kget (kput y26 x288.Parent (w64 (((kget y26 x288.Parent).getD 0) + 1))) x303.Parent).getD 0))) then some false else
  law10_MatchNames_k4 n p0 y30 lp31 x34 (kput y26 x288.Parent (w64 (((kget y26 x288.Parent).getD 0) + 1)))) else
  law10_MatchNames_k4 n p0 y30 lp31 x34 y26))
def law10_MatchNames_l2 (n : Nat) (p0 : api_Tree) (x17 : Int) : Nat → (List (Int × Int)) → Int → Option Bool
  | 0, _, _ => none
  | k31 + 1, y26, y30 =>
  (bif (decide (y30 < (p0.Nodes.length : Int))) then (geti p0.Nodes y30).bind fun x34 =>
  (law10_name n 0 (bs []) ([] : List sheet_Test)).bind fun x318 =>
  (law10_sel n [x318]).bind fun x353 =>
  (match_Match n p0 y30 x353).bind fun x374 =>
  (bif (!(x374 == (decide (x34.Kind = 1)))) then law10_MatchNames_k3 n p0 x17 y26 y30 (law10_MatchNames_l2 n p0 x17 k31) x34 true else
  (geti p0.Nodes y30).bind fun x377 =>
  (law10_name n 0 x377.Name ([] : List sheet_Test)).bind fun x390 =>
  (law10_sel n [x390]).bind fun x441 =>
  (match_Match n p0 y30 x441).bind fun x470 =>
  law10_MatchNames_k3 n p0 x17 y26 y30 (law10_MatchNames_l2 n p0 x17 k31) x34 (!(x470 == (decide (x34.Kind = 1))))) else
  law10_MatchNames_k1 n)
def law10_MatchNames (n : Nat) (p0 : api_Tree) (p1 : Int) : Option Bool :=
  (law10_small n p0 ([] : List sheet_Selector)).bind fun x9 =>
  (bif (!x9) then (law10_known n).bind fun x12 =>
  some x12 else
  (book_Within n p1 1 9).bind fun x17 =>
  law10_MatchNames_l2 n p0 x17 n ([] : List (Int × Int)) 0)
set_option maxRecDepth 20000 in
set_option maxHeartbeats 4000000 in
theorem law10_MatchNames_ok (n : Nat) {f : Fz} {o0 : Obj} {o1 : Obj} {p0 : api_Tree} {a0 : List Value} {p1 : Int} {res : Bool} (hT0 : f 0 = some o0) (hT1 : f 1 = some o1) (hTT : Tabs o0 o1) (h0 : t_api_Tree.R f a0 p0) (hm : law10_MatchNames n p0 p1 = some res) : Gives Tryd.prog 4 [.agg a0.toArray, .int .i64 p1] f (.bool res) := by
 unfold law10_MatchNames at hm
 intro w0 L w hC
 obtain ⟨v1, rfl, ⟨rw2, hR3, hW4⟩⟩ := h0
 refine enter Tryd.func4 rfl Tryd.ntmps4 (by simp) hC fun a hs => ?_
 have hle := Fz.le.refl f
 refine W_seq fun K1 hK1 => ?_
 refine W_region ?_
 refine sbox hs rfl ?_; clear hs; (try clear a w); intro b6 a w hs
 replace hs : St _ _ _ (.blk b6 (.cells #[v1] 24 (0, 0)) :: L) _ _ _ := hs
 refine sy (v := .bool (false)) hs (y_assign rfl) ?_; clear hs; (try clear a w); intro a w hs
 refine RL_nil ?_
 refine hK1 _ _ ?_; clear hK1
 refine W_seq fun K2 hK2 => ?_
 refine W_seq fun K3 hK3 => ?_
 refine W_region ?_
 refine sy hs (y_ldB rfl Tryd.underlying24 rfl ti24 (.head _) rfl) ?_; clear hs; (try clear a w); intro a w hs
 obtain ⟨x9, hx10, hm⟩ := ob hm
 refine sy hs (y_call rfl has10 rfl (law10_small_ok n (f := f) (a0 := [v1]) (a1 := (.slice none 0 0)) ⟨_, rfl, ⟨rw2, hR3, hW4⟩⟩ RS.nil hx10)) ?_; clear hs; (try clear a w); intro a w hs
 refine sy (v := .bool ((!x9))) hs (y_not rfl) ?_; clear hs; (try clear a w); intro a w hs
 refine RL_nil ?_
 refine hK3 _ _ ?_; clear hK3
 refine W_cond hs rfl (fun hg11 => ?_) (fun hg11 => ?_)
 ·replace hm := oc_t hg11 hm
  refine W_seq fun K4 hK4 => ?_
  refine W_region ?_
  obtain ⟨x12, hx13, hm⟩ := ob hm
  refine sy hs (y_call rfl has11 rfl (law10_known_ok n (f := f)  hT0 hT1 hTT hx13)) ?_; clear hs; (try clear a w); intro a w hs
  refine sy (v := .bool (x12)) hs (y_assign rfl) ?_; clear hs; (try clear a w); intro a w hs
  refine RL_nil ?_
  refine hK4 _ _ ?_; clear hK4
  refine W_ret ?_
  obtain rfl := Option.some.inj hm
  refine RtV1 hs rfl (rv_t hs rfl) ?_
  exact ⟨rfl, ((hs.subL (.cons _ (.refl _))).weak hle).cw⟩
 ·replace hm := oc_f hg11 hm
  refine W_skip ?_
  refine hK2 _ _ ?_; clear hK2
  refine W_seq fun K5 hK5 => ?_
  refine W_region ?_
  refine RL_makeMap hs ?_; clear hs; (try clear a w); intro b14 a w hs
  have hS15 : SK (fun x : Int => .int .i64 x) (fun x => .int .i64 x) #[] [] := SK.nil
  replace hs : St _ _ _ (.blk b14 (.map #[] 0) :: .blk b6 (.cells #[v1] 24 (0, 0)) :: L) _ _ _ := hs
  refine sy (v := .map (some b14)) hs (y_assign rfl) ?_; clear hs; (try clear a w); intro a w hs
  refine RL_nil ?_
  refine hK5 _ _ ?_; clear hK5
  refine W_seq fun K6 hK6 => ?_
  refine W_region ?_
  refine sy (v := .int .i64 (p1)) hs (y_move rfl) ?_; clear hs; (try clear a w); intro a w hs
  obtain ⟨x17, hx18, hm⟩ := ob hm
  refine sy hs (y_call rfl has13 rfl (book_Within_ok n (f := f)  hx18)) ?_; clear hs; (try clear a w); intro a w hs
  refine sy (v := .int .i64 (x17)) hs (y_assign rfl) ?_; clear hs; (try clear a w); intro a w hs
  refine RL_nil ?_
  refine hK6 _ _ ?_; clear hK6
  refine W_seq fun K7 hK7 => ?_
  refine W_seq fun K8 hK8 => ?_
  refine W_region ?_
  refine sy (v := .int .i64 (0)) hs (y_assign rfl) ?_; clear hs; (try clear a w); intro a w hs
  refine RL_nil ?_
  refine hK8 _ _ ?_; clear hK8
  have hbase21 := Fz.le.refl f
  refine W_post (fun a w => ∃ (f19 : Fz), Fz.le f f19 ∧ law10_MatchNames_k1 n = some res ∧ St 113 w0 f19 (L) [] a w) ?_ ?_
  ·clear hs hm
   clear hbase21
   rintro a w ⟨f19, hl20, hm, hs⟩
   replace hR3 := hR3.le hl20
   replace hW4 := hW4.le hl20
   replace hT0 := hl20 _ _ hT0
   replace hT1 := hl20 _ _ hT1
   replace hle := hle.trans hl20
   replace hs : St _ _ _ (L) _ _ _ := hs
   unfold law10_MatchNames_k1 at hm
   refine hK7 _ _ ?_; clear hK7
   refine W_seq fun K9 hK9 => ?_
   refine W_region ?_
   obtain ⟨x22, hx23, hm⟩ := ob hm
   refine sy hs (y_call rfl has11 rfl (law10_known_ok n (f := f19)  hT0 hT1 hTT hx23)) ?_; clear hs; (try clear a w); intro a w hs
   refine sy (v := .bool (x22)) hs (y_assign rfl) ?_; clear hs; (try clear a w); intro a w hs
   refine RL_nil ?_
   refine hK9 _ _ ?_; clear hK9
   refine W_ret ?_
   obtain rfl := Option.some.inj hm
   refine RtV1 hs rfl (rv_t hs rfl) ?_
   exact ⟨rfl, (hs.weak hle).cw⟩
  ·refine W_block fun Qe10 hB10 hO10 => ?_
   have hbase := Fz.le.refl f
   refine W_loop (fun (k : Nat) a w => ∃ (f24 : Fz) (y26 : (List (Int × Int))) (y30 : Int) (es27 : Array MapEntry) (c28 : Nat), Fz.le f f24 ∧ law10_MatchNames_l2 n p0 x17 k y26 y30 = some res ∧ SK (fun x : Int => .int .i64 x) (fun x => .int .i64 x) es27 y26 ∧ St 113 w0 f24 (.blk b14 (.map es27 c28) :: .blk b6 (.cells #[v1] 24 (0, 0)) :: L) [(1, .int .i64 (x17)), (2, .pointer (some ⟨b6, 0, none⟩)), (5, .map (some b14)), (6, .int .i64 (y30))] a w) (fun k => k) n ⟨_, ([] : List (Int × Int)), 0, #[], 0, (Fz.le.refl _), hm, hS15, hs.sub ⟨rfl, rfl, rfl, rfl, trivial⟩⟩ ?_
   clear hs hm
   intro k
   rintro a w ⟨f24, y26, y30, es27, c28, hl25, hm, hS29, hs⟩
   replace hR3 := hR3.le hl25
   replace hW4 := hW4.le hl25
   replace hT0 := hl25 _ _ hT0
   replace hT1 := hl25 _ _ hT1
   replace hle := hle.trans hl25
   replace hbase21 := hbase21.trans hl25
   replace hs : St _ _ _ (.blk b14 (.map es27 c28) :: .blk b6 (.cells #[v1] 24 (0, 0)) :: L) _ _ _ := hs
   intro K11 hK11
   cases k with
   | zero => simp [law10_MatchNames_l2] at hm
   | succ k31 =>
    rw [law10_MatchNames_l2] at hm
    have hbase32 := hl25
    refine W_seq fun K12 hK12 => ?_
    refine W_seq fun K13 hK13 => ?_
    refine W_region ?_
    refine sy (v := .int .i64 (y30)) hs (y_move rfl) ?_; clear hs; (try clear a w); intro a w hs
    refine sy (v := .pointer (some ⟨b6, 0, none⟩)) hs (y_fieldAddr rfl (FO.of (off := 0) Tryd.underlying24 rfl rfl ti22 (by decide))) ?_; clear hs; (try clear a w); intro a w hs
    refine sy (v := v1) hs (y_ld rfl Tryd.underlying22 rfl (Cell.blk (.tail _ (.head _)) rfl)) ?_; clear hs; (try clear a w); intro a w hs
    refine sy hs (y_lenW hR3 hW4 rfl Tryd.underlying22) ?_; clear hs; (try clear a w); intro a w hs
    refine sy hs (y_lss rfl rfl) ?_; clear hs; (try clear a w); intro a w hs
    refine RL_nil ?_
    refine hK13 _ _ ?_; clear hK13
    refine W_cond hs rfl (fun hg33 => ?_) (fun hg33 => ?_)
    ·replace hm := oc_t hg33 hm
     refine W_skip ?_
     refine hK12 _ _ ?_; clear hK12
     refine W_seq fun K14 hK14 => ?_
     refine W_block fun Qe15 hB15 hO15 => ?_
     refine W_seq fun K16 hK16 => ?_
     refine W_region ?_
     refine sy (v := .pointer (some ⟨b6, 0, none⟩)) hs (y_fieldAddr rfl (FO.of (off := 0) Tryd.underlying24 rfl rfl ti22 (by decide))) ?_; clear hs; (try clear a w); intro a w hs
     refine sy (v := v1) hs (y_ld rfl Tryd.underlying22 rfl (Cell.blk (.tail _ (.head _)) rfl)) ?_; clear hs; (try clear a w); intro a w hs
     refine sy (v := .int .i64 (y30)) hs (y_move rfl) ?_; clear hs; (try clear a w); intro a w hs
     obtain ⟨x34, hx35, hm⟩ := ob hm
     obtain ⟨r36, hr37, hq38, hi39, hb40⟩ := hW4.geti hx35
     obtain ⟨v41, rfl, ⟨rw42, hR43, hW44⟩⟩ := hq38
     refine sy hs (y_indexAddr hR3 rfl rfl hi39 hb40 Tryd.underlying22 ti42) ?_; clear hs; (try clear a w); intro a w hs
     refine sy (v := eaddr v1 9 y30.toNat 0) hs (y_fieldAddrE (i := y30.toNat) (j := 0) hR3 rfl hb40 (FO.of (off := 0) Tryd.underlying42 rfl rfl ti3 (by decide))) ?_; clear hs; (try clear a w); intro a w hs
     refine sy (v := .int .i64 (x34.Kind)) hs (y_loadE (i := y30.toNat) (j := 0) hR3.up rfl hr37 rfl Tryd.underlying3 rfl) ?_; clear hs; (try clear a w); intro a w hs
     refine sy hs (y_eql rfl rfl) ?_; clear hs; (try clear a w); intro a w hs
     refine sy (v := .bool (decide (x34.Kind = 1))) hs (y_assign rfl) ?_; clear hs; (try clear a w); intro a w hs
     refine RL_nil ?_
     refine hK16 _ _ ?_; clear hK16
     refine W_seq fun K17 hK17 => ?_
     refine W_seq fun K18 hK18 => ?_
     have hbase49 := Fz.le.refl f24
     refine W_post (fun a w => ∃ (f46 : Fz) (y48 : Bool), Fz.le f24 f46 ∧ law10_MatchNames_k3 n p0 x17 y26 y30 (law10_MatchNames_l2 n p0 x17 k31) x34 y48 = some res ∧ St 113 w0 f46 (.blk b14 (.map es27 c28) :: .blk b6 (.cells #[v1] 24 (0, 0)) :: L) [(1, .int .i64 (x17)), (2, .pointer (some ⟨b6, 0, none⟩)), (5, .map (some b14)), (6, .int .i64 (y30)), (7, .bool (decide (x34.Kind = 1))), (52, .bool (y48))] a w) ?_ ?_
     ·clear hs hm
      clear hbase49
      rintro a w ⟨f46, y48, hl47, hm, hs⟩
      replace hR3 := hR3.le hl47
      replace hW4 := hW4.le hl47
      replace hT0 := hl47 _ _ hT0
      replace hT1 := hl47 _ _ hT1
      replace hR43 := hR43.le hl47
      replace hW44 := hW44.le hl47
      replace hle := hle.trans hl47
      replace hbase21 := hbase21.trans hl47
      replace hbase32 := hbase32.trans hl47
      replace hs : St _ _ _ (.blk b14 (.map es27 c28) :: .blk b6 (.cells #[v1] 24 (0, 0)) :: L) _ _ _ := hs
      unfold law10_MatchNames_k3 at hm
      refine hK18 _ _ ?_; clear hK18
      refine W_cond hs rfl (fun hg50 => ?_) (fun hg50 => ?_)
      ·replace hm := oc_t hg50 hm
       refine W_seq fun K19 hK19 => ?_
       refine W_region ?_
       refine sy (v := .bool (false)) hs (y_assign rfl) ?_; clear hs; (try clear a w); intro a w hs
       refine RL_nil ?_
       refine hK19 _ _ ?_; clear hK19
       refine W_ret ?_
       obtain rfl := Option.some.inj hm
       refine RtV1 hs rfl (rv_t hs rfl) ?_
       exact ⟨rfl, ((hs.subL (.cons _ (.cons _ (.refl _)))).weak hle).cw⟩
      ·replace hm := oc_f hg50 hm
       refine W_skip ?_
       refine hK17 _ _ ?_; clear hK17
       refine W_seq fun K20 hK20 => ?_
       refine W_seq fun K21 hK21 => ?_
       have hsD := hs.subL (L' := .blk b6 (.cells #[v1] 24 (0, 0)) :: []) (.cons _ (.cons_cons _ (List.nil_sublist _)))
       have hbd51 := Fz.le.refl f46
       refine T_start hs (.blk b6 (.cells #[v1] 24 (0, 0)) :: []) [8] (.look 0 (.look 1 (.look 2 (.look 3 (.any [4] (fun _ => .any [5] (fun _ => .any [6] (fun _ => .any [7] (fun _ => .any [8] (fun _ => .done)))))))))) mixed (by kernel_rfl) ?_; clear hs; (try clear a w); intro a he
       refine uy 0 he rfl (y_ldB rfl Tryd.underlying24 rfl ti24 (.head _) rfl) ?_; clear he; (try clear a); intro a he
       refine uy (v := .int .i64 (y30)) 1 he rfl (y_move rfl) ?_; clear he; (try clear a); intro a he
       refine uy (v := .int .i64 (x17)) 2 he rfl (y_move rfl) ?_; clear he; (try clear a); intro a he
       refine uy 3 he rfl (y_buildS (places := [(0, 1), (1, 1), (2, 1), (3, 1)]) (cs := [.int .i64 (7), .string ((bs [])), .string ((bs [])), .int .i64 (x17)]) rfl Tryd.underlying29 ti29 (by kernel_rfl) (by decide) rfl ⟨rfl, rfl, trivial⟩) ?_; clear he; (try clear a); intro a he
       refine T_any1 he rfl ?_; clear he; (try clear a); intro a w hs
       refine RL_bs1a hs rfl Tryd.underlying33 ti29 (by decide) (AllC.row ⟨rfl, rfl, rfl, rfl, trivial⟩ rfl) ?_; clear hs; (try clear a w); intro v52 a w hs
       have hW53 : RW t_sheet_Test f46 [[.int .i64 (7), .string ((bs [])), .string ((bs [])), .int .i64 (x17)]] [({Kind := 7, Name := (bs []), Value := (bs []), N := x17} : sheet_Test)] := RW.single (rfl)
       generalize hgrw54 : ([[.int .i64 (7), .string ((bs [])), .string ((bs [])), .int .i64 (x17)]] : List (List Value)) = rw54 at hs hW53; clear hgrw54
       replace hs : St _ _ _ (.row v52 29 4 rw54 :: .blk b14 (.map es27 c28) :: .blk b6 (.cells #[v1] 24 (0, 0)) :: L) _ _ _ := hs
       have ho57 : v52.oneCell' = true := hs.one (i := 0) rfl
       refine uon hs ?_; clear hs; (try clear a w); intro a he
       refine T_any1 he rfl ?_; clear he; (try clear a); intro a w hs
       obtain ⟨f58, hf59, hs2, hR60⟩ := hs.frzAt 0 rfl
       clear hs; have hs := hs2; clear hs2
       have hR61 := hR3.le hf59
       have hW62 := hW4.le hf59
       have hT63 := hf59 _ _ hT0
       have hT64 := hf59 _ _ hT1
       have hW65 := hW53.le hf59
       replace hle := hle.trans hf59
       replace hbase21 := hbase21.trans hf59
       replace hbase32 := hbase32.trans hf59
       replace hbd51 := hbd51.trans hf59
       replace hs : St _ _ _ (.blk b14 (.map es27 c28) :: .blk b6 (.cells #[v1] 24 (0, 0)) :: L) _ _ _ := hs
       obtain ⟨x66, hx67, hm⟩ := ob hm
       refine RL_callV hs rfl has15 rfl (law10_name_ok n (f := f58) (a2 := v52) ⟨rw54, hR60, hW65⟩ hx67) ?_; clear hs; (try clear a w)
       rintro _ f68 _ a w hf69 ⟨r70, rfl, rfl, hq71⟩ hs
       have hR72 := hR61.le hf69
       have hW73 := hW62.le hf69
       have hT74 := hf69 _ _ hT63
       have hT75 := hf69 _ _ hT64
       have hW76 := hW65.le hf69
       have hR77 := hR60.le hf69
       replace hle := hle.trans hf69
       replace hbase21 := hbase21.trans hf69
       replace hbase32 := hbase32.trans hf69
       replace hbd51 := hbd51.trans hf69
       obtain ⟨v78, rfl, ⟨rw79, hR80, hW81⟩⟩ := hq71
       replace hs : St _ _ _ (.blk b14 (.map es27 c28) :: .blk b6 (.cells #[v1] 24 (0, 0)) :: L) _ _ _ := hs
       refine uon hs ?_; clear hs; (try clear a w); intro a he
       refine T_any1 he rfl ?_; clear he; (try clear a); intro a w hs
       refine RL_bs1a hs rfl Tryd.underlying25 ti35 (by decide) (AllC.row ⟨rfl, rfl, hR80.one, trivial⟩ rfl) ?_; clear hs; (try clear a w); intro v83 a w hs
       have hW84 : RW t_sheet_Step f68 [[.int .i64 (x66.Comb), .string (x66.Name), v78]] [x66] := RW.single (⟨_, rfl, ⟨rw79, hR80, hW81⟩⟩)
       generalize hgrw85 : ([[.int .i64 (x66.Comb), .string (x66.Name), v78]] : List (List Value)) = rw85 at hs hW84; clear hgrw85
       replace hs : St _ _ _ (.row v83 35 3 rw85 :: .blk b14 (.map es27 c28) :: .blk b6 (.cells #[v1] 24 (0, 0)) :: L) _ _ _ := hs
       have ho88 : v83.oneCell' = true := hs.one (i := 0) rfl
       refine uon hs ?_; clear hs; (try clear a w); intro a he
       refine T_any1 he rfl ?_; clear he; (try clear a); intro a w hs
       obtain ⟨f89, hf90, hs2, hR91⟩ := hs.frzAt 0 rfl
       clear hs; have hs := hs2; clear hs2
       have hR92 := hR72.le hf90
       have hW93 := hW73.le hf90
       have hT94 := hf90 _ _ hT74
       have hT95 := hf90 _ _ hT75
       have hW96 := hW76.le hf90
       have hR97 := hR77.le hf90
       have hR98 := hR80.le hf90
       have hW99 := hW81.le hf90
       have hW100 := hW84.le hf90
       replace hle := hle.trans hf90
       replace hbase21 := hbase21.trans hf90
       replace hbase32 := hbase32.trans hf90
       replace hbd51 := hbd51.trans hf90
       replace hs : St _ _ _ (.blk b14 (.map es27 c28) :: .blk b6 (.cells #[v1] 24 (0, 0)) :: L) _ _ _ := hs
       obtain ⟨x101, hx102, hm⟩ := ob hm
       refine RL_callV hs rfl has14 rfl (law10_sel_ok n (f := f89) (a0 := v83) ⟨rw85, hR91, hW100⟩ hx102) ?_; clear hs; (try clear a w)
       rintro _ f103 _ a w hf104 ⟨r105, rfl, rfl, hq106⟩ hs
       have hR107 := hR92.le hf104
       have hW108 := hW93.le hf104
       have hT109 := hf104 _ _ hT94
       have hT110 := hf104 _ _ hT95
       have hW111 := hW96.le hf104
       have hR112 := hR97.le hf104
       have hR113 := hR98.le hf104
       have hW114 := hW99.le hf104
       have hW115 := hW100.le hf104
       have hR116 := hR91.le hf104
       replace hle := hle.trans hf104
       replace hbase21 := hbase21.trans hf104
       replace hbase32 := hbase32.trans hf104
       replace hbd51 := hbd51.trans hf104
       obtain ⟨v117, rfl, ⟨rw118, hR119, hW120⟩⟩ := hq106
       replace hs : St _ _ _ (.blk b14 (.map es27 c28) :: .blk b6 (.cells #[v1] 24 (0, 0)) :: L) _ _ _ := hs
       refine uon hs ?_; clear hs; (try clear a w); intro a he
       refine T_any1 he rfl ?_; clear he; (try clear a); intro a w hs
       obtain ⟨x122, hx123, hm⟩ := ob hm
       refine sy hs (y_call rfl has12 rfl (match_Match_ok n (f := f103) (a0 := [v1]) (a2 := [v117]) hT109 hT110 hTT ⟨_, rfl, ⟨rw2, hR107, hW108⟩⟩ ⟨_, rfl, ⟨rw118, hR119, hW120⟩⟩ hx123)) ?_; clear hs; (try clear a w); intro a w hs
       refine uend hs ?_; clear hs; (try clear a w); intro a he
       refine T_nil he ?_; clear he; (try clear a); intro w hs; try clear hsD
       refine hK21 _ _ ?_; clear hK21
       refine W_post (fun a w => ∃ (y124 : (List (Int × Int))) (es125 : Array MapEntry) (c126 : Nat), law10_MatchNames_k4 n p0 y30 (law10_MatchNames_l2 n p0 x17 k31) x34 y124 = some res ∧ SK (fun x : Int => .int .i64 x) (fun x => .int .i64 x) es125 y124 ∧ St 113 w0 f103 (.blk b14 (.map es125 c126) :: .blk b6 (.cells #[v1] 24 (0, 0)) :: L) [(1, .int .i64 (x17)), (2, .pointer (some ⟨b6, 0, none⟩)), (5, .map (some b14)), (6, .int .i64 (y30)), (7, .bool (decide (x34.Kind = 1)))] a w) ?_ ?_
       ·clear hs hm
        rintro a w ⟨y124, es125, c126, hm, hS127, hs⟩
        replace hs : St _ _ _ (.blk b14 (.map es125 c126) :: .blk b6 (.cells #[v1] 24 (0, 0)) :: L) _ _ _ := hs
        unfold law10_MatchNames_k4 at hm
        refine hK20 _ _ ?_; clear hK20
        refine W_seq fun K22 hK22 => ?_
        have hbase131 := Fz.le.refl f103
        refine W_post (fun a w => ∃ (f128 : Fz) (y130 : Bool), Fz.le f103 f128 ∧ law10_MatchNames_k5 y30 (law10_MatchNames_l2 n p0 x17 k31) y124 y130 = some res ∧ St 113 w0 f128 (.blk b14 (.map es125 c126) :: .blk b6 (.cells #[v1] 24 (0, 0)) :: L) [(1, .int .i64 (x17)), (2, .pointer (some ⟨b6, 0, none⟩)), (5, .map (some b14)), (6, .int .i64 (y30)), (111, .bool (y130))] a w) ?_ ?_
        ·clear hs hm
         clear hbase131
         rintro a w ⟨f128, y130, hl129, hm, hs⟩
         replace hR107 := hR107.le hl129
         replace hW108 := hW108.le hl129
         replace hT109 := hl129 _ _ hT109
         replace hT110 := hl129 _ _ hT110
         replace hW111 := hW111.le hl129
         replace hR112 := hR112.le hl129
         replace hR113 := hR113.le hl129
         replace hW114 := hW114.le hl129
         replace hW115 := hW115.le hl129
         replace hR116 := hR116.le hl129
         replace hR119 := hR119.le hl129
         replace hW120 := hW120.le hl129
         replace hle := hle.trans hl129
         replace hbase21 := hbase21.trans hl129
         replace hbase32 := hbase32.trans hl129
         replace hs : St _ _ _ (.blk b14 (.map es125 c126) :: .blk b6 (.cells #[v1] 24 (0, 0)) :: L) _ _ _ := hs
         unfold law10_MatchNames_k5 at hm
         refine hK22 _ _ ?_; clear hK22
         refine W_cond hs rfl (fun hg132 => ?_) (fun hg132 => ?_)
         ·replace hm := oc_t hg132 hm
          refine W_seq fun K23 hK23 => ?_
          refine W_region ?_
          refine sy (v := .bool (false)) hs (y_assign rfl) ?_; clear hs; (try clear a w); intro a w hs
          refine RL_nil ?_
          refine hK23 _ _ ?_; clear hK23
          refine W_ret ?_
          obtain rfl := Option.some.inj hm
          refine RtV1 hs rfl (rv_t hs rfl) ?_
          exact ⟨rfl, ((hs.subL (.cons _ (.cons _ (.refl _)))).weak hle).cw⟩
         ·replace hm := oc_f hg132 hm
          refine W_skip ?_
          refine hK14 _ _ ?_; clear hK14
          refine W_region ?_
          refine sy (v := .int .i64 (y30)) hs (y_move rfl) ?_; clear hs; (try clear a w); intro a w hs
          refine sy hs (y_add rfl rfl rfl) ?_; clear hs; (try clear a w); intro a w hs
          refine sy (v := .int .i64 ((w64 (y30 + 1)))) hs (y_assign rfl) ?_; clear hs; (try clear a w); intro a w hs
          refine RL_nil ?_
          exact hK11 k31 _ _ (Nat.lt_succ_self _) ⟨_, y124, (w64 (y30 + 1)), es125, c126, hbase32, hm, hS127, hs.sub ⟨rfl, rfl, rfl, rfl, trivial⟩⟩
        ·have hsD := hs.subL (L' := .blk b6 (.cells #[v1] 24 (0, 0)) :: []) (.cons _ (.cons_cons _ (List.nil_sublist _)))
         have hbd133 := Fz.le.refl f103
         refine T_start hs (.blk b6 (.cells #[v1] 24 (0, 0)) :: []) [] (.look 0 (.look 1 (.look 2 (.look 3 (.look 4 (.look 5 (.look 6 (.look 7 (.look 8 (.look 9 (.look 10 (.look 11 (.look 12 (.look 13 (.look 14 (.look 15 (.look 16 (.look 17 (.look 18 (.look 20 (.look 21 (.look 22 (.look 23 (.look 24 (.look 25 (.any [19] (fun _ => .any [26] (fun _ => .any [27] (fun _ => .any [28] (fun _ => .any [29] (fun _ => .look 30 (.look 31 (.done))))))))))))))))))))))))))))))))) mixed (by kernel_rfl) ?_; clear hs; (try clear a w); intro a he
         refine uy (v := .int .i64 (y30)) 0 he rfl (y_move rfl) ?_; clear he; (try clear a); intro a he
         refine uy 1 he rfl (y_gtr rfl rfl) ?_; clear he; (try clear a); intro a he
         refine uy (v := .bool (decide (0 < y30))) 2 he rfl (y_move rfl) ?_; clear he; (try clear a); intro a he
         refine Ev.split he (t := 82) rfl (fun hg134 hq => ?_) (fun hg134 hq => ?_)
         ·clear he; have he := hq; clear hq
          replace hm := oc_t hg134 hm
          refine uyg (v := .bool (decide (x34.Kind = 1))) 3 he rfl (y_move rfl) ?_; clear he; (try clear a); intro a he
          refine uy (v := .bool (decide (x34.Kind = 1))) 4 he rfl (y_pick rfl rfl) ?_; clear he; (try clear a); intro a he
          refine uy (v := .bool (decide (x34.Kind = 1))) 5 he rfl (y_move rfl) ?_; clear he; (try clear a); intro a he
          refine Ev.split he (t := 85) rfl (fun hg135 hq => ?_) (fun hg135 hq => ?_)
          ·clear he; have he := hq; clear hq
           replace hm := oc_t hg135 hm
           refine uyg 6 he rfl (y_ldB rfl Tryd.underlying24 rfl ti24 (.head _) rfl) ?_; clear he; (try clear a); intro a he
           refine uyg (v := .int .i64 (y30)) 7 he rfl (y_move rfl) ?_; clear he; (try clear a); intro a he
           refine uyg (v := .pointer (some ⟨b6, 0, none⟩)) 8 he rfl (y_fieldAddr rfl (FO.of (off := 0) Tryd.underlying24 rfl rfl ti22 (by decide))) ?_; clear he; (try clear a); intro a he
           refine uyg (v := v1) 9 he rfl (y_ld rfl Tryd.underlying22 rfl (Cell.blk (.head _) rfl)) ?_; clear he; (try clear a); intro a he
           refine uyg (v := .pointer (some ⟨b6, 0, none⟩)) 10 he rfl (y_fieldAddr rfl (FO.of (off := 0) Tryd.underlying24 rfl rfl ti22 (by decide))) ?_; clear he; (try clear a); intro a he
           refine uyg (v := v1) 11 he rfl (y_ld rfl Tryd.underlying22 rfl (Cell.blk (.head _) rfl)) ?_; clear he; (try clear a); intro a he
           refine uyg (v := .int .i64 (y30)) 12 he rfl (y_move rfl) ?_; clear he; (try clear a); intro a he
           obtain ⟨x136, hx137, hm⟩ := ob hm
           obtain ⟨r138, hr139, hq140, hi141, hb142⟩ := hW108.geti hx137
           obtain ⟨v143, rfl, ⟨rw144, hR145, hW146⟩⟩ := hq140
           refine uyg 13 he rfl (y_indexAddr hR107 rfl rfl hi141 hb142 Tryd.underlying22 ti42) ?_; clear he; (try clear a); intro a he
           refine uyg (v := eaddr v1 9 y30.toNat 4) 14 he rfl (y_fieldAddrE (i := y30.toNat) (j := 0) hR107 rfl hb142 (FO.of (off := 4) Tryd.underlying42 rfl rfl ti3 (by decide))) ?_; clear he; (try clear a); intro a he
           refine uyg (v := .int .i64 (x136.Parent)) 15 he rfl (y_loadE (i := y30.toNat) (j := 4) hR107.up rfl hr139 rfl Tryd.underlying3 rfl) ?_; clear he; (try clear a); intro a he
           obtain ⟨x148, hx149, hm⟩ := ob hm
           obtain ⟨r150, hr151, hq152, hi153, hb154⟩ := hW108.geti hx149
           obtain ⟨v155, rfl, ⟨rw156, hR157, hW158⟩⟩ := hq152
           refine uyg 16 he rfl (y_indexAddr hR107 rfl rfl hi153 hb154 Tryd.underlying22 ti42) ?_; clear he; (try clear a); intro a he
           refine uyg (v := eaddr v1 9 x136.Parent.toNat 1) 17 he rfl (y_fieldAddrE (i := x136.Parent.toNat) (j := 0) hR107 rfl hb154 (FO.of (off := 1) Tryd.underlying42 rfl rfl ti9 (by decide))) ?_; clear he; (try clear a); intro a he
           refine uyg (v := .string (x148.Name)) 18 he rfl (y_loadE (i := x136.Parent.toNat) (j := 1) hR107.up rfl hr151 rfl Tryd.underlying9 rfl) ?_; clear he; (try clear a); intro a he
           refine uyg (v := .pointer (some ⟨b6, 0, none⟩)) 20 he rfl (y_fieldAddr rfl (FO.of (off := 0) Tryd.underlying24 rfl rfl ti22 (by decide))) ?_; clear he; (try clear a); intro a he
           refine uyg (v := v1) 21 he rfl (y_ld rfl Tryd.underlying22 rfl (Cell.blk (.head _) rfl)) ?_; clear he; (try clear a); intro a he
           refine uyg (v := .int .i64 (y30)) 22 he rfl (y_move rfl) ?_; clear he; (try clear a); intro a he
           obtain ⟨x160, hx161, hm⟩ := ob hm
           obtain ⟨r162, hr163, hq164, hi165, hb166⟩ := hW108.geti hx161
           obtain ⟨v167, rfl, ⟨rw168, hR169, hW170⟩⟩ := hq164
           refine uyg 23 he rfl (y_indexAddr hR107 rfl rfl hi165 hb166 Tryd.underlying22 ti42) ?_; clear he; (try clear a); intro a he
           refine uyg (v := eaddr v1 9 y30.toNat 1) 24 he rfl (y_fieldAddrE (i := y30.toNat) (j := 0) hR107 rfl hb166 (FO.of (off := 1) Tryd.underlying42 rfl rfl ti9 (by decide))) ?_; clear he; (try clear a); intro a he
           refine uyg (v := .string (x160.Name)) 25 he rfl (y_loadE (i := y30.toNat) (j := 1) hR107.up rfl hr163 rfl Tryd.underlying9 rfl) ?_; clear he; (try clear a); intro a he
           refine T_any1 he rfl ?_; clear he; (try clear a); intro a w hs
           obtain ⟨x173, hx174, hm⟩ := ob hm
           refine RL_callVg hs rfl has15 rfl (law10_name_ok n (f := f103) (a2 := (.slice none 0 0)) RS.nil hx174) ?_; clear hs; (try clear a w)
           rintro _ f175 _ a w hf176 ⟨r177, rfl, rfl, hq178⟩ hs
           have hR179 := hR107.le hf176
           have hW180 := hW108.le hf176
           have hT181 := hf176 _ _ hT109
           have hT182 := hf176 _ _ hT110
           have hW183 := hW111.le hf176
           have hR184 := hR112.le hf176
           have hR185 := hR113.le hf176
           have hW186 := hW114.le hf176
           have hW187 := hW115.le hf176
           have hR188 := hR116.le hf176
           have hR189 := hR119.le hf176
           have hW190 := hW120.le hf176
           have hR191 := hR145.le hf176
           have hW192 := hW146.le hf176
           have hR193 := hR157.le hf176
           have hW194 := hW158.le hf176
           have hR195 := hR169.le hf176
           have hW196 := hW170.le hf176
           replace hle := hle.trans hf176
           replace hbase21 := hbase21.trans hf176
           replace hbase32 := hbase32.trans hf176
           replace hbase131 := hbase131.trans hf176
           replace hbd133 := hbd133.trans hf176
           obtain ⟨v197, rfl, ⟨rw198, hR199, hW200⟩⟩ := hq178
           replace hs : St _ _ _ (.blk b14 (.map es125 c126) :: .blk b6 (.cells #[v1] 24 (0, 0)) :: L) _ _ _ := hs
           refine uon hs ?_; clear hs; (try clear a w); intro a he
           refine T_any1 he rfl ?_; clear he; (try clear a); intro a w hs
           obtain ⟨x203, hx204, hm⟩ := ob hm
           refine RL_callVg hs rfl has15 rfl (law10_name_ok n (f := f175) (a2 := (.slice none 0 0)) RS.nil hx204) ?_; clear hs; (try clear a w)
           rintro _ f205 _ a w hf206 ⟨r207, rfl, rfl, hq208⟩ hs
           have hR209 := hR179.le hf206
           have hW210 := hW180.le hf206
           have hT211 := hf206 _ _ hT181
           have hT212 := hf206 _ _ hT182
           have hW213 := hW183.le hf206
           have hR214 := hR184.le hf206
           have hR215 := hR185.le hf206
           have hW216 := hW186.le hf206
           have hW217 := hW187.le hf206
           have hR218 := hR188.le hf206
           have hR219 := hR189.le hf206
           have hW220 := hW190.le hf206
           have hR221 := hR191.le hf206
           have hW222 := hW192.le hf206
           have hR223 := hR193.le hf206
           have hW224 := hW194.le hf206
           have hR225 := hR195.le hf206
           have hW226 := hW196.le hf206
           have hR227 := hR199.le hf206
           have hW228 := hW200.le hf206
           replace hle := hle.trans hf206
           replace hbase21 := hbase21.trans hf206
           replace hbase32 := hbase32.trans hf206
           replace hbase131 := hbase131.trans hf206
           replace hbd133 := hbd133.trans hf206
           obtain ⟨v229, rfl, ⟨rw230, hR231, hW232⟩⟩ := hq208
           replace hs : St _ _ _ (.blk b14 (.map es125 c126) :: .blk b6 (.cells #[v1] 24 (0, 0)) :: L) _ _ _ := hs
           refine uon hs ?_; clear hs; (try clear a w); intro a he
           refine T_any1 he rfl ?_; clear he; (try clear a); intro a w hs
           refine RL_guard hs rfl rfl ?_
           refine RL_bsN (parts := [(0, .tmp 99), (1, .tmp 106)]) (us := [.agg #[.int .i64 (x173.Comb), .string (x173.Name), v197], .agg #[.int .i64 (x203.Comb), .string (x203.Name), v229]]) (rows := [[.int .i64 (x173.Comb), .string (x173.Name), v197], [.int .i64 (x203.Comb), .string (x203.Name), v229]]) hs rfl Tryd.underlying25 ti35 (by decide) rfl rfl (by intro r hr; simp only [List.mem_cons, List.mem_nil_iff, or_false] at hr; rcases hr with rfl | rfl; exact AllC.row ⟨rfl, rfl, hR227.one, trivial⟩ rfl; exact AllC.row ⟨rfl, rfl, hR231.one, trivial⟩ rfl) ?_; clear hs; (try clear a w); intro v234 a w hs
           have hW235 : RW t_sheet_Step f205 [[.int .i64 (x173.Comb), .string (x173.Name), v197], [.int .i64 (x203.Comb), .string (x203.Name), v229]] [x173, x203] := ⟨⟨_, rfl, ⟨rw198, hR227, hW228⟩⟩, ⟨⟨_, rfl, ⟨rw230, hR231, hW232⟩⟩, trivial⟩⟩
           generalize hgrw236 : ([[.int .i64 (x173.Comb), .string (x173.Name), v197], [.int .i64 (x203.Comb), .string (x203.Name), v229]] : List (List Value)) = rw236 at hs hW235; clear hgrw236
           replace hs : St _ _ _ (.row v234 35 3 rw236 :: .blk b14 (.map es125 c126) :: .blk b6 (.cells #[v1] 24 (0, 0)) :: L) _ _ _ := hs
           have ho239 : v234.oneCell' = true := hs.one (i := 0) rfl
           refine uon hs ?_; clear hs; (try clear a w); intro a he
           refine T_any1 he rfl ?_; clear he; (try clear a); intro a w hs
           obtain ⟨f240, hf241, hs2, hR242⟩ := hs.frzAt 0 rfl
           clear hs; have hs := hs2; clear hs2
           have hR243 := hR209.le hf241
           have hW244 := hW210.le hf241
           have hT245 := hf241 _ _ hT211
           have hT246 := hf241 _ _ hT212
           have hR247 := hR221.le hf241
           have hW248 := hW222.le hf241
           have hR249 := hR223.le hf241
           have hW250 := hW224.le hf241
           have hR251 := hR225.le hf241
           have hW252 := hW226.le hf241
           have hR253 := hR227.le hf241
           have hW254 := hW228.le hf241
           have hR255 := hR231.le hf241
           have hW256 := hW232.le hf241
           have hW257 := hW235.le hf241
           replace hle := hle.trans hf241
           replace hbase21 := hbase21.trans hf241
           replace hbase32 := hbase32.trans hf241
           replace hbase131 := hbase131.trans hf241
           replace hbd133 := hbd133.trans hf241
           replace hs : St _ _ _ (.blk b14 (.map es125 c126) :: .blk b6 (.cells #[v1] 24 (0, 0)) :: L) _ _ _ := hs
           obtain ⟨x258, hx259, hm⟩ := ob hm
           refine RL_callVg hs rfl has14 rfl (law10_sel_ok n (f := f240) (a0 := v234) ⟨rw236, hR242, hW257⟩ hx259) ?_; clear hs; (try clear a w)
           rintro _ f260 _ a w hf261 ⟨r262, rfl, rfl, hq263⟩ hs
           have hR264 := hR243.le hf261
           have hW265 := hW244.le hf261
           have hT266 := hf261 _ _ hT245
           have hT267 := hf261 _ _ hT246
           have hR268 := hR247.le hf261
           have hW269 := hW248.le hf261
           have hR270 := hR249.le hf261
           have hW271 := hW250.le hf261
           have hR272 := hR251.le hf261
           have hW273 := hW252.le hf261
           have hR274 := hR253.le hf261
           have hW275 := hW254.le hf261
           have hR276 := hR255.le hf261
           have hW277 := hW256.le hf261
           have hW278 := hW257.le hf261
           have hR279 := hR242.le hf261
           replace hle := hle.trans hf261
           replace hbase21 := hbase21.trans hf261
           replace hbase32 := hbase32.trans hf261
           replace hbase131 := hbase131.trans hf261
           replace hbd133 := hbd133.trans hf261
           obtain ⟨v280, rfl, ⟨rw281, hR282, hW283⟩⟩ := hq263
           replace hs : St _ _ _ (.blk b14 (.map es125 c126) :: .blk b6 (.cells #[v1] 24 (0, 0)) :: L) _ _ _ := hs
           refine uon hs ?_; clear hs; (try clear a w); intro a he
           refine T_any1 he rfl ?_; clear he; (try clear a); intro a w hs
           obtain ⟨x285, hx286, hm⟩ := ob hm
           refine syg hs (y_call rfl has12 rfl (match_Match_ok n (f := f260) (a0 := [v1]) (a2 := [v280]) hT266 hT267 hTT ⟨_, rfl, ⟨rw2, hR264, hW265⟩⟩ ⟨_, rfl, ⟨rw281, hR282, hW283⟩⟩ hx286)) ?_; clear hs; (try clear a w); intro a w hs
           refine uon hs ?_; clear hs; (try clear a w); intro a he
           refine uyg (v := .bool ((!x285))) 30 he rfl (y_not rfl) ?_; clear he; (try clear a); intro a he
           refine uy (v := .bool ((!x285))) 31 he rfl (y_pick rfl rfl) ?_; clear he; (try clear a); intro a he
           refine T_nil he ?_; clear he; (try clear a); intro w hs; try clear hsD
           exact ⟨_, (!x285), hbase131, hm, hs.sub ⟨rfl, rfl, rfl, rfl, rfl, trivial⟩⟩
          ·clear he; have he := hq; clear hq
           replace hm := oc_f hg135 hm
           refine uno 6 he rfl ?_; clear he; (try clear a); intro a he
           refine uno 7 he rfl ?_; clear he; (try clear a); intro a he
           refine uno 8 he rfl ?_; clear he; (try clear a); intro a he
           refine uno 9 he rfl ?_; clear he; (try clear a); intro a he
           refine uno 10 he rfl ?_; clear he; (try clear a); intro a he
           refine uno 11 he rfl ?_; clear he; (try clear a); intro a he
           refine uno 12 he rfl ?_; clear he; (try clear a); intro a he
           refine uno 13 he rfl ?_; clear he; (try clear a); intro a he
           refine uno 14 he rfl ?_; clear he; (try clear a); intro a he
           refine uno 15 he rfl ?_; clear he; (try clear a); intro a he
           refine uno 16 he rfl ?_; clear he; (try clear a); intro a he
           refine uno 17 he rfl ?_; clear he; (try clear a); intro a he
           refine uno 18 he rfl ?_; clear he; (try clear a); intro a he
           refine uno 20 he rfl ?_; clear he; (try clear a); intro a he
           refine uno 21 he rfl ?_; clear he; (try clear a); intro a he
           refine uno 22 he rfl ?_; clear he; (try clear a); intro a he
           refine uno 23 he rfl ?_; clear he; (try clear a); intro a he
           refine uno 24 he rfl ?_; clear he; (try clear a); intro a he
           refine uno 25 he rfl ?_; clear he; (try clear a); intro a he
           refine T_any1 he rfl ?_; clear he; (try clear a); intro a w hs
           refine sno hs ?_; clear hs; (try clear a w); intro a w hs
           refine uon hs ?_; clear hs; (try clear a w); intro a he
           refine T_any1 he rfl ?_; clear he; (try clear a); intro a w hs
           refine sno hs ?_; clear hs; (try clear a w); intro a w hs
           refine uon hs ?_; clear hs; (try clear a w); intro a he
           refine T_any1 he rfl ?_; clear he; (try clear a); intro a w hs
           refine sno hs ?_; clear hs; (try clear a w); intro a w hs
           refine uon hs ?_; clear hs; (try clear a w); intro a he
           refine T_any1 he rfl ?_; clear he; (try clear a); intro a w hs
           refine sno hs ?_; clear hs; (try clear a w); intro a w hs
           refine uon hs ?_; clear hs; (try clear a w); intro a he
           refine T_any1 he rfl ?_; clear he; (try clear a); intro a w hs
           refine sno hs ?_; clear hs; (try clear a w); intro a w hs
           refine uon hs ?_; clear hs; (try clear a w); intro a he
           refine uno 30 he rfl ?_; clear he; (try clear a); intro a he
           refine uy (v := .bool (false)) 31 he rfl (y_pick rfl rfl) ?_; clear he; (try clear a); intro a he
           refine T_nil he ?_; clear he; (try clear a); intro w hs; try clear hsD
           exact ⟨_, false, (Fz.le.refl _), hm, hs.sub ⟨rfl, rfl, rfl, rfl, rfl, trivial⟩⟩
         ·clear he; have he := hq; clear hq
          replace hm := oc_f hg134 hm
          refine uno 3 he rfl ?_; clear he; (try clear a); intro a he
          refine uy (v := .bool (false)) 4 he rfl (y_pick rfl rfl) ?_; clear he; (try clear a); intro a he
          refine uy (v := .bool (false)) 5 he rfl (y_move rfl) ?_; clear he; (try clear a); intro a he
          refine uno 6 he rfl ?_; clear he; (try clear a); intro a he
          refine uno 7 he rfl ?_; clear he; (try clear a); intro a he
          refine uno 8 he rfl ?_; clear he; (try clear a); intro a he
          refine uno 9 he rfl ?_; clear he; (try clear a); intro a he
          refine uno 10 he rfl ?_; clear he; (try clear a); intro a he
          refine uno 11 he rfl ?_; clear he; (try clear a); intro a he
          refine uno 12 he rfl ?_; clear he; (try clear a); intro a he
          refine uno 13 he rfl ?_; clear he; (try clear a); intro a he
          refine uno 14 he rfl ?_; clear he; (try clear a); intro a he
          refine uno 15 he rfl ?_; clear he; (try clear a); intro a he
          refine uno 16 he rfl ?_; clear he; (try clear a); intro a he
          refine uno 17 he rfl ?_; clear he; (try clear a); intro a he
          refine uno 18 he rfl ?_; clear he; (try clear a); intro a he
          refine uno 20 he rfl ?_; clear he; (try clear a); intro a he
          refine uno 21 he rfl ?_; clear he; (try clear a); intro a he
          refine uno 22 he rfl ?_; clear he; (try clear a); intro a he
          refine uno 23 he rfl ?_; clear he; (try clear a); intro a he
          refine uno 24 he rfl ?_; clear he; (try clear a); intro a he
          refine uno 25 he rfl ?_; clear he; (try clear a); intro a he
          refine T_any1 he rfl ?_; clear he; (try clear a); intro a w hs
          refine sno hs ?_; clear hs; (try clear a w); intro a w hs
          refine uon hs ?_; clear hs; (try clear a w); intro a he
          refine T_any1 he rfl ?_; clear he; (try clear a); intro a w hs
          refine sno hs ?_; clear hs; (try clear a w); intro a w hs
          refine uon hs ?_; clear hs; (try clear a w); intro a he
          refine T_any1 he rfl ?_; clear he; (try clear a); intro a w hs
          refine sno hs ?_; clear hs; (try clear a w); intro a w hs
          refine uon hs ?_; clear hs; (try clear a w); intro a he
          refine T_any1 he rfl ?_; clear he; (try clear a); intro a w hs
          refine sno hs ?_; clear hs; (try clear a w); intro a w hs
          refine uon hs ?_; clear hs; (try clear a w); intro a he
          refine T_any1 he rfl ?_; clear he; (try clear a); intro a w hs
          refine sno hs ?_; clear hs; (try clear a w); intro a w hs
          refine uon hs ?_; clear hs; (try clear a w); intro a he
          refine uno 30 he rfl ?_; clear he; (try clear a); intro a he
          refine uy (v := .bool (false)) 31 he rfl (y_pick rfl rfl) ?_; clear he; (try clear a); intro a he
          refine T_nil he ?_; clear he; (try clear a); intro w hs; try clear hsD
          exact ⟨_, false, (Fz.le.refl _), hm, hs.sub ⟨rfl, rfl, rfl, rfl, rfl, trivial⟩⟩
       ·refine W_cond hs rfl (fun hg287 => ?_) (fun hg287 => ?_)
        ·replace hm := oc_t hg287 hm
         refine W_seq fun K24 hK24 => ?_
         refine W_region ?_
         refine sy (v := .map (some b14)) hs (y_move rfl) ?_; clear hs; (try clear a w); intro a w hs
         refine sy (v := .pointer (some ⟨b6, 0, none⟩)) hs (y_fieldAddr rfl (FO.of (off := 0) Tryd.underlying24 rfl rfl ti22 (by decide))) ?_; clear hs; (try clear a w); intro a w hs
         refine sy (v := v1) hs (y_ld rfl Tryd.underlying22 rfl (Cell.blk (.tail _ (.head _)) rfl)) ?_; clear hs; (try clear a w); intro a w hs
         refine sy (v := .int .i64 (y30)) hs (y_move rfl) ?_; clear hs; (try clear a w); intro a w hs
         obtain ⟨x288, hx289, hm⟩ := ob hm
         obtain ⟨r290, hr291, hq292, hi293, hb294⟩ := hW108.geti hx289
         obtain ⟨v295, rfl, ⟨rw296, hR297, hW298⟩⟩ := hq292
         refine sy hs (y_indexAddr hR107 rfl rfl hi293 hb294 Tryd.underlying22 ti42) ?_; clear hs; (try clear a w); intro a w hs
         refine sy (v := eaddr v1 9 y30.toNat 4) hs (y_fieldAddrE (i := y30.toNat) (j := 0) hR107 rfl hb294 (FO.of (off := 4) Tryd.underlying42 rfl rfl ti3 (by decide))) ?_; clear hs; (try clear a w); intro a w hs
         refine sy (v := .int .i64 (x288.Parent)) hs (y_loadE (i := y30.toNat) (j := 4) hR107.up rfl hr291 rfl Tryd.underlying3 rfl) ?_; clear hs; (try clear a w); intro a w hs
         refine sy hs (y_lookupK (ke := (fun x : Int => .int .i64 x)) (enc := (fun x => .int .i64 x)) (k := x288.Parent) (z := 0) rfl rfl Tryd.underlying38 (KeyOK.int Tryd.underlying3) ti3 (.head _) hS29) ?_; clear hs; (try clear a w); intro a w hs
         refine sy hs (y_add rfl rfl rfl) ?_; clear hs; (try clear a w); intro a w hs
         refine RL_mapUpdateK (ke := (fun x : Int => .int .i64 x)) (enc := (fun x => .int .i64 x)) (k := x288.Parent) (u := (w64 (((kget y26 x288.Parent).getD 0) + 1))) 0 hs rfl rfl rfl rfl Tryd.underlying38 (KeyOK.int Tryd.underlying3) hS29 ?_; clear hs; (try clear a w); intro es300 c301 a w hS302 hs
         replace hs : St _ _ _ (.blk b14 (.map es300 c301) :: .blk b6 (.cells #[v1] 24 (0, 0)) :: L) _ _ _ := hs
         refine RL_nil ?_
         refine hK24 _ _ ?_; clear hK24
         refine W_seq fun K25 hK25 => ?_
         refine W_region ?_
         refine sy (v := .map (some b14)) hs (y_move rfl) ?_; clear hs; (try clear a w); intro a w hs
         refine sy (v := .pointer (some ⟨b6, 0, none⟩)) hs (y_fieldAddr rfl (FO.of (off := 0) Tryd.underlying24 rfl rfl ti22 (by decide))) ?_; clear hs; (try clear a w); intro a w hs
         refine sy (v := v1) hs (y_ld rfl Tryd.underlying22 rfl (Cell.blk (.tail _ (.head _)) rfl)) ?_; clear hs; (try clear a w); intro a w hs
         refine sy (v := .int .i64 (y30)) hs (y_move rfl) ?_; clear hs; (try clear a w); intro a w hs
         obtain ⟨x303, hx304, hm⟩ := ob hm
         obtain ⟨r305, hr306, hq307, hi308, hb309⟩ := hW108.geti hx304
         obtain ⟨v310, rfl, ⟨rw311, hR312, hW313⟩⟩ := hq307
         refine sy hs (y_indexAddr hR107 rfl rfl hi308 hb309 Tryd.underlying22 ti42) ?_; clear hs; (try clear a w); intro a w hs
         refine sy (v := eaddr v1 9 y30.toNat 4) hs (y_fieldAddrE (i := y30.toNat) (j := 0) hR107 rfl hb309 (FO.of (off := 4) Tryd.underlying42 rfl rfl ti3 (by decide))) ?_; clear hs; (try clear a w); intro a w hs
         refine sy (v := .int .i64 (x303.Parent)) hs (y_loadE (i := y30.toNat) (j := 4) hR107.up rfl hr306 rfl Tryd.underlying3 rfl) ?_; clear hs; (try clear a w); intro a w hs
         refine sy hs (y_lookupK (ke := (fun x : Int => .int .i64 x)) (enc := (fun x => .int .i64 x)) (k := x303.Parent) (z := 0) rfl rfl Tryd.underlying38 (KeyOK.int Tryd.underlying3) ti3 (.head _) hS302) ?_; clear hs; (try clear a w); intro a w hs
         refine sy hs (y_gtr rfl rfl) ?_; clear hs; (try clear a w); intro a w hs
         refine RL_nil ?_
         refine hK25 _ _ ?_; clear hK25
         refine W_cond hs rfl (fun hg315 => ?_) (fun hg315 => ?_)
         ·replace hm := oc_t hg315 hm
          refine W_seq fun K26 hK26 => ?_
          refine W_region ?_
          refine sy (v := .bool (false)) hs (y_assign rfl) ?_; clear hs; (try clear a w); intro a w hs
          refine RL_nil ?_
          refine hK26 _ _ ?_; clear hK26
          refine W_ret ?_
          obtain rfl := Option.some.inj hm
          refine RtV1 hs rfl (rv_t hs rfl) ?_
          exact ⟨rfl, ((hs.subL (.cons _ (.cons _ (.refl _)))).weak hle).cw⟩
         ·replace hm := oc_f hg315 hm
          refine W_skip ?_
          exact ⟨(kput y26 x288.Parent (w64 (((kget y26 x288.Parent).getD 0) + 1))), es300, c301, hm, hS302, hs.sub ⟨rfl, rfl, rfl, rfl, rfl, trivial⟩⟩
        ·replace hm := oc_f hg287 hm
         refine W_skip ?_
         exact ⟨y26, es27, c28, hm, hS29, hs.sub ⟨rfl, rfl, rfl, rfl, rfl, trivial⟩⟩
     ·have hsD := hs.subL (L' := .blk b6 (.cells #[v1] 24 (0, 0)) :: []) (.cons _ (.cons_cons _ (List.nil_sublist _)))
      have hbd316 := Fz.le.refl f24
      refine T_start hs (.blk b6 (.cells #[v1] 24 (0, 0)) :: []) [] (.look 0 (.look 1 (.look 6 (.any [2] (fun _ => .any [3] (fun _ => .any [4] (fun _ => .any [5] (fun _ => .look 7 (.look 8 (.look 10 (.look 11 (.look 13 (.look 21 (.any [9, 12] (fun i => bif Nat.beq i 9 then .any [12] (fun _ => .any [14] (fun _ => .look 15 (.any [16] (fun _ => .any [17] (fun _ => .any [18] (fun _ => .any [19] (fun _ => .any [20] (fun _ => .look 22 (.look 23 (.done)))))))))) else .any [9, 14] (fun i => bif Nat.beq i 9 then .any [14] (fun _ => .look 15 (.any [16] (fun _ => .any [17] (fun _ => .any [18] (fun _ => .any [19] (fun _ => .any [20] (fun _ => .look 22 (.look 23 (.done))))))))) else .look 15 (.any [9, 16] (fun i => bif Nat.beq i 9 then .any [16] (fun _ => .any [17] (fun _ => .any [18] (fun _ => .any [19] (fun _ => .any [20] (fun _ => .look 22 (.look 23 (.done))))))) else .any [9, 17] (fun i => bif Nat.beq i 9 then .any [17] (fun _ => .any [18] (fun _ => .any [19] (fun _ => .any [20] (fun _ => .look 22 (.look 23 (.done)))))) else .any [9, 18] (fun i => bif Nat.beq i 9 then .any [18] (fun _ => .any [19] (fun _ => .any [20] (fun _ => .look 22 (.look 23 (.done))))) else .any [9, 19] (fun i => bif Nat.beq i 9 then .any [19] (fun _ => .any [20] (fun _ => .look 22 (.look 23 (.done)))) else .any [9] (fun _ => .any [20] (fun _ => .look 22 (.look 23 (.done))))))))))))))))))))))))) mixed (by kernel_rfl) ?_; clear hs; (try clear a w); intro a he
      refine uy 0 he rfl (y_ldB rfl Tryd.underlying24 rfl ti24 (.head _) rfl) ?_; clear he; (try clear a); intro a he
      refine uy (v := .int .i64 (y30)) 1 he rfl (y_move rfl) ?_; clear he; (try clear a); intro a he
      refine uy (v := .bool (decide (x34.Kind = 1))) 6 he rfl (y_move rfl) ?_; clear he; (try clear a); intro a he
      refine T_any1 he rfl ?_; clear he; (try clear a); intro a w hs
      obtain ⟨x318, hx319, hm⟩ := ob hm
      refine RL_callV hs rfl has15 rfl (law10_name_ok n (f := f24) (a2 := (.slice none 0 0)) RS.nil hx319) ?_; clear hs; (try clear a w)
      rintro _ f320 _ a w hf321 ⟨r322, rfl, rfl, hq323⟩ hs
      have hR324 := hR3.le hf321
      have hW325 := hW4.le hf321
      have hT326 := hf321 _ _ hT0
      have hT327 := hf321 _ _ hT1
      have hR328 := hR43.le hf321
      have hW329 := hW44.le hf321
      replace hle := hle.trans hf321
      replace hbase21 := hbase21.trans hf321
      replace hbase32 := hbase32.trans hf321
      replace hbase49 := hbase49.trans hf321
      replace hbd316 := hbd316.trans hf321
      obtain ⟨v330, rfl, ⟨rw331, hR332, hW333⟩⟩ := hq323
      replace hs : St _ _ _ (.blk b14 (.map es27 c28) :: .blk b6 (.cells #[v1] 24 (0, 0)) :: L) _ _ _ := hs
      refine uon hs ?_; clear hs; (try clear a w); intro a he
      refine T_any1 he rfl ?_; clear he; (try clear a); intro a w hs
      refine RL_bs1a hs rfl Tryd.underlying25 ti35 (by decide) (AllC.row ⟨rfl, rfl, hR332.one, trivial⟩ rfl) ?_; clear hs; (try clear a w); intro v335 a w hs
      have hW336 : RW t_sheet_Step f320 [[.int .i64 (x318.Comb), .string (x318.Name), v330]] [x318] := RW.single (⟨_, rfl, ⟨rw331, hR332, hW333⟩⟩)
      generalize hgrw337 : ([[.int .i64 (x318.Comb), .string (x318.Name), v330]] : List (List Value)) = rw337 at hs hW336; clear hgrw337
      replace hs : St _ _ _ (.row v335 35 3 rw337 :: .blk b14 (.map es27 c28) :: .blk b6 (.cells #[v1] 24 (0, 0)) :: L) _ _ _ := hs
      have ho340 : v335.oneCell' = true := hs.one (i := 0) rfl
      refine uon hs ?_; clear hs; (try clear a w); intro a he
      refine T_any1 he rfl ?_; clear he; (try clear a); intro a w hs
      obtain ⟨f341, hf342, hs2, hR343⟩ := hs.frzAt 0 rfl
      clear hs; have hs := hs2; clear hs2
      have hR344 := hR324.le hf342
      have hW345 := hW325.le hf342
      have hT346 := hf342 _ _ hT326
      have hT347 := hf342 _ _ hT327
      have hR348 := hR328.le hf342
      have hW349 := hW329.le hf342
      have hR350 := hR332.le hf342
      have hW351 := hW333.le hf342
      have hW352 := hW336.le hf342
      replace hle := hle.trans hf342
      replace hbase21 := hbase21.trans hf342
      replace hbase32 := hbase32.trans hf342
      replace hbase49 := hbase49.trans hf342
      replace hbd316 := hbd316.trans hf342
      replace hs : St _ _ _ (.blk b14 (.map es27 c28) :: .blk b6 (.cells #[v1] 24 (0, 0)) :: L) _ _ _ := hs
      obtain ⟨x353, hx354, hm⟩ := ob hm
      refine RL_callV hs rfl has14 rfl (law10_sel_ok n (f := f341) (a0 := v335) ⟨rw337, hR343, hW352⟩ hx354) ?_; clear hs; (try clear a w)
      rintro _ f355 _ a w hf356 ⟨r357, rfl, rfl, hq358⟩ hs
      have hR359 := hR344.le hf356
      have hW360 := hW345.le hf356
      have hT361 := hf356 _ _ hT346
      have hT362 := hf356 _ _ hT347
      have hR363 := hR348.le hf356
      have hW364 := hW349.le hf356
      have hR365 := hR350.le hf356
      have hW366 := hW351.le hf356
      have hW367 := hW352.le hf356
      have hR368 := hR343.le hf356
      replace hle := hle.trans hf356
      replace hbase21 := hbase21.trans hf356
      replace hbase32 := hbase32.trans hf356
      replace hbase49 := hbase49.trans hf356
      replace hbd316 := hbd316.trans hf356
      obtain ⟨v369, rfl, ⟨rw370, hR371, hW372⟩⟩ := hq358
      replace hs : St _ _ _ (.blk b14 (.map es27 c28) :: .blk b6 (.cells #[v1] 24 (0, 0)) :: L) _ _ _ := hs
      refine uon hs ?_; clear hs; (try clear a w); intro a he
      refine T_any1 he rfl ?_; clear he; (try clear a); intro a w hs
      obtain ⟨x374, hx375, hm⟩ := ob hm
      refine sy hs (y_call rfl has12 rfl (match_Match_ok n (f := f355) (a0 := [v1]) (a2 := [v369]) hT361 hT362 hTT ⟨_, rfl, ⟨rw2, hR359, hW360⟩⟩ ⟨_, rfl, ⟨rw370, hR371, hW372⟩⟩ hx375)) ?_; clear hs; (try clear a w); intro a w hs
      refine uon hs ?_; clear hs; (try clear a w); intro a he
      refine uy 7 he rfl (y_bneq rfl rfl Tryd.underlying4) ?_; clear he; (try clear a); intro a he
      refine uy (v := .bool ((!(x374 == (decide (x34.Kind = 1)))))) 8 he rfl (y_move rfl) ?_; clear he; (try clear a); intro a he
      refine Ev.split he (t := 37) rfl (fun hg376 hq => ?_) (fun hg376 hq => ?_)
      ·clear he; have he := hq; clear hq
       replace hm := oc_t hg376 hm
       refine uno 10 he rfl ?_; clear he; (try clear a); intro a he
       refine uno 11 he rfl ?_; clear he; (try clear a); intro a he
       refine uno 13 he rfl ?_; clear he; (try clear a); intro a he
       refine uno 21 he rfl ?_; clear he; (try clear a); intro a he
       refine T_any2 he rfl rfl ?_ ?_ <;> (clear he; (try clear a); intro a w hs)
       ·refine sno hs ?_; clear hs; (try clear a w); intro a w hs
        refine uon hs ?_; clear hs; (try clear a w); intro a he
        refine T_any1 he rfl ?_; clear he; (try clear a); intro a w hs
        refine sno hs ?_; clear hs; (try clear a w); intro a w hs
        refine uon hs ?_; clear hs; (try clear a w); intro a he
        refine T_any1 he rfl ?_; clear he; (try clear a); intro a w hs
        refine sno hs ?_; clear hs; (try clear a w); intro a w hs
        refine uon hs ?_; clear hs; (try clear a w); intro a he
        refine uno 15 he rfl ?_; clear he; (try clear a); intro a he
        refine T_any1 he rfl ?_; clear he; (try clear a); intro a w hs
        refine sno hs ?_; clear hs; (try clear a w); intro a w hs
        refine uon hs ?_; clear hs; (try clear a w); intro a he
        refine T_any1 he rfl ?_; clear he; (try clear a); intro a w hs
        refine sno hs ?_; clear hs; (try clear a w); intro a w hs
        refine uon hs ?_; clear hs; (try clear a w); intro a he
        refine T_any1 he rfl ?_; clear he; (try clear a); intro a w hs
        refine sno hs ?_; clear hs; (try clear a w); intro a w hs
        refine uon hs ?_; clear hs; (try clear a w); intro a he
        refine T_any1 he rfl ?_; clear he; (try clear a); intro a w hs
        refine sno hs ?_; clear hs; (try clear a w); intro a w hs
        refine uon hs ?_; clear hs; (try clear a w); intro a he
        refine T_any1 he rfl ?_; clear he; (try clear a); intro a w hs
        refine sno hs ?_; clear hs; (try clear a w); intro a w hs
        refine uon hs ?_; clear hs; (try clear a w); intro a he
        refine uno 22 he rfl ?_; clear he; (try clear a); intro a he
        refine uy (v := .bool (true)) 23 he rfl (y_pick rfl rfl) ?_; clear he; (try clear a); intro a he
        refine T_nil he ?_; clear he; (try clear a); intro w hs; try clear hsD
        exact ⟨_, true, hbase49, hm, hs.sub ⟨rfl, rfl, rfl, rfl, rfl, rfl, trivial⟩⟩
       ·refine sno hs ?_; clear hs; (try clear a w); intro a w hs
        refine uon hs ?_; clear hs; (try clear a w); intro a he
        refine T_any2 he rfl rfl ?_ ?_ <;> (clear he; (try clear a); intro a w hs)
        ·refine sno hs ?_; clear hs; (try clear a w); intro a w hs
         refine uon hs ?_; clear hs; (try clear a w); intro a he
         refine T_any1 he rfl ?_; clear he; (try clear a); intro a w hs
         refine sno hs ?_; clear hs; (try clear a w); intro a w hs
         refine uon hs ?_; clear hs; (try clear a w); intro a he
         refine uno 15 he rfl ?_; clear he; (try clear a); intro a he
         refine T_any1 he rfl ?_; clear he; (try clear a); intro a w hs
         refine sno hs ?_; clear hs; (try clear a w); intro a w hs
         refine uon hs ?_; clear hs; (try clear a w); intro a he
         refine T_any1 he rfl ?_; clear he; (try clear a); intro a w hs
         refine sno hs ?_; clear hs; (try clear a w); intro a w hs
         refine uon hs ?_; clear hs; (try clear a w); intro a he
         refine T_any1 he rfl ?_; clear he; (try clear a); intro a w hs
         refine sno hs ?_; clear hs; (try clear a w); intro a w hs
         refine uon hs ?_; clear hs; (try clear a w); intro a he
         refine T_any1 he rfl ?_; clear he; (try clear a); intro a w hs
         refine sno hs ?_; clear hs; (try clear a w); intro a w hs
         refine uon hs ?_; clear hs; (try clear a w); intro a he
         refine T_any1 he rfl ?_; clear he; (try clear a); intro a w hs
         refine sno hs ?_; clear hs; (try clear a w); intro a w hs
         refine uon hs ?_; clear hs; (try clear a w); intro a he
         refine uno 22 he rfl ?_; clear he; (try clear a); intro a he
         refine uy (v := .bool (true)) 23 he rfl (y_pick rfl rfl) ?_; clear he; (try clear a); intro a he
         refine T_nil he ?_; clear he; (try clear a); intro w hs; try clear hsD
         exact ⟨_, true, hbase49, hm, hs.sub ⟨rfl, rfl, rfl, rfl, rfl, rfl, trivial⟩⟩
        ·refine sno hs ?_; clear hs; (try clear a w); intro a w hs
         refine uon hs ?_; clear hs; (try clear a w); intro a he
         refine uno 15 he rfl ?_; clear he; (try clear a); intro a he
         refine T_any2 he rfl rfl ?_ ?_ <;> (clear he; (try clear a); intro a w hs)
         ·refine sno hs ?_; clear hs; (try clear a w); intro a w hs
          refine uon hs ?_; clear hs; (try clear a w); intro a he
          refine T_any1 he rfl ?_; clear he; (try clear a); intro a w hs
          refine sno hs ?_; clear hs; (try clear a w); intro a w hs
          refine uon hs ?_; clear hs; (try clear a w); intro a he
          refine T_any1 he rfl ?_; clear he; (try clear a); intro a w hs
          refine sno hs ?_; clear hs; (try clear a w); intro a w hs
          refine uon hs ?_; clear hs; (try clear a w); intro a he
          refine T_any1 he rfl ?_; clear he; (try clear a); intro a w hs
          refine sno hs ?_; clear hs; (try clear a w); intro a w hs
          refine uon hs ?_; clear hs; (try clear a w); intro a he
          refine T_any1 he rfl ?_; clear he; (try clear a); intro a w hs
          refine sno hs ?_; clear hs; (try clear a w); intro a w hs
          refine uon hs ?_; clear hs; (try clear a w); intro a he
          refine T_any1 he rfl ?_; clear he; (try clear a); intro a w hs
          refine sno hs ?_; clear hs; (try clear a w); intro a w hs
          refine uon hs ?_; clear hs; (try clear a w); intro a he
          refine uno 22 he rfl ?_; clear he; (try clear a); intro a he
          refine uy (v := .bool (true)) 23 he rfl (y_pick rfl rfl) ?_; clear he; (try clear a); intro a he
          refine T_nil he ?_; clear he; (try clear a); intro w hs; try clear hsD
          exact ⟨_, true, hbase49, hm, hs.sub ⟨rfl, rfl, rfl, rfl, rfl, rfl, trivial⟩⟩
         ·refine sno hs ?_; clear hs; (try clear a w); intro a w hs
          refine uon hs ?_; clear hs; (try clear a w); intro a he
          refine T_any2 he rfl rfl ?_ ?_ <;> (clear he; (try clear a); intro a w hs)
          ·refine sno hs ?_; clear hs; (try clear a w); intro a w hs
           refine uon hs ?_; clear hs; (try clear a w); intro a he
           refine T_any1 he rfl ?_; clear he; (try clear a); intro a w hs
           refine sno hs ?_; clear hs; (try clear a w); intro a w hs
           refine uon hs ?_; clear hs; (try clear a w); intro a he
           refine T_any1 he rfl ?_; clear he; (try clear a); intro a w hs
           refine sno hs ?_; clear hs; (try clear a w); intro a w hs
           refine uon hs ?_; clear hs; (try clear a w); intro a he
           refine T_any1 he rfl ?_; clear he; (try clear a); intro a w hs
           refine sno hs ?_; clear hs; (try clear a w); intro a w hs
           refine uon hs ?_; clear hs; (try clear a w); intro a he
           refine T_any1 he rfl ?_; clear he; (try clear a); intro a w hs
           refine sno hs ?_; clear hs; (try clear a w); intro a w hs
           refine uon hs ?_; clear hs; (try clear a w); intro a he
           refine uno 22 he rfl ?_; clear he; (try clear a); intro a he
           refine uy (v := .bool (true)) 23 he rfl (y_pick rfl rfl) ?_; clear he; (try clear a); intro a he
           refine T_nil he ?_; clear he; (try clear a); intro w hs; try clear hsD
           exact ⟨_, true, hbase49, hm, hs.sub ⟨rfl, rfl, rfl, rfl, rfl, rfl, trivial⟩⟩
          ·refine sno hs ?_; clear hs; (try clear a w); intro a w hs
           refine uon hs ?_; clear hs; (try clear a w); intro a he
           refine T_any2 he rfl rfl ?_ ?_ <;> (clear he; (try clear a); intro a w hs)
           ·refine sno hs ?_; clear hs; (try clear a w); intro a w hs
            refine uon hs ?_; clear hs; (try clear a w); intro a he
            refine T_any1 he rfl ?_; clear he; (try clear a); intro a w hs
            refine sno hs ?_; clear hs; (try clear a w); intro a w hs
            refine uon hs ?_; clear hs; (try clear a w); intro a he
            refine T_any1 he rfl ?_; clear he; (try clear a); intro a w hs
            refine sno hs ?_; clear hs; (try clear a w); intro a w hs
            refine uon hs ?_; clear hs; (try clear a w); intro a he
            refine T_any1 he rfl ?_; clear he; (try clear a); intro a w hs
            refine sno hs ?_; clear hs; (try clear a w); intro a w hs
            refine uon hs ?_; clear hs; (try clear a w); intro a he
            refine uno 22 he rfl ?_; clear he; (try clear a); intro a he
            refine uy (v := .bool (true)) 23 he rfl (y_pick rfl rfl) ?_; clear he; (try clear a); intro a he
            refine T_nil he ?_; clear he; (try clear a); intro w hs; try clear hsD
            exact ⟨_, true, hbase49, hm, hs.sub ⟨rfl, rfl, rfl, rfl, rfl, rfl, trivial⟩⟩
           ·refine sno hs ?_; clear hs; (try clear a w); intro a w hs
            refine uon hs ?_; clear hs; (try clear a w); intro a he
            refine T_any2 he rfl rfl ?_ ?_ <;> (clear he; (try clear a); intro a w hs)
            ·refine sno hs ?_; clear hs; (try clear a w); intro a w hs
             refine uon hs ?_; clear hs; (try clear a w); intro a he
             refine T_any1 he rfl ?_; clear he; (try clear a); intro a w hs
             refine sno hs ?_; clear hs; (try clear a w); intro a w hs
             refine uon hs ?_; clear hs; (try clear a w); intro a he
             refine T_any1 he rfl ?_; clear he; (try clear a); intro a w hs
             refine sno hs ?_; clear hs; (try clear a w); intro a w hs
             refine uon hs ?_; clear hs; (try clear a w); intro a he
             refine uno 22 he rfl ?_; clear he; (try clear a); intro a he
             refine uy (v := .bool (true)) 23 he rfl (y_pick rfl rfl) ?_; clear he; (try clear a); intro a he
             refine T_nil he ?_; clear he; (try clear a); intro w hs; try clear hsD
             exact ⟨_, true, hbase49, hm, hs.sub ⟨rfl, rfl, rfl, rfl, rfl, rfl, trivial⟩⟩
            ·refine sno hs ?_; clear hs; (try clear a w); intro a w hs
             refine uon hs ?_; clear hs; (try clear a w); intro a he
             refine T_any1 he rfl ?_; clear he; (try clear a); intro a w hs
             refine sno hs ?_; clear hs; (try clear a w); intro a w hs
             refine uon hs ?_; clear hs; (try clear a w); intro a he
             refine T_any1 he rfl ?_; clear he; (try clear a); intro a w hs
             refine sno hs ?_; clear hs; (try clear a w); intro a w hs
             refine uon hs ?_; clear hs; (try clear a w); intro a he
             refine uno 22 he rfl ?_; clear he; (try clear a); intro a he
             refine uy (v := .bool (true)) 23 he rfl (y_pick rfl rfl) ?_; clear he; (try clear a); intro a he
             refine T_nil he ?_; clear he; (try clear a); intro w hs; try clear hsD
             exact ⟨_, true, hbase49, hm, hs.sub ⟨rfl, rfl, rfl, rfl, rfl, rfl, trivial⟩⟩
      ·clear he; have he := hq; clear hq
       replace hm := oc_f hg376 hm
       refine uyg (v := .int .i64 (y30)) 10 he rfl (y_move rfl) ?_; clear he; (try clear a); intro a he
       refine uyg (v := .pointer (some ⟨b6, 0, none⟩)) 11 he rfl (y_fieldAddr rfl (FO.of (off := 0) Tryd.underlying24 rfl rfl ti22 (by decide))) ?_; clear he; (try clear a); intro a he
       refine uyg (v := .int .i64 (y30)) 13 he rfl (y_move rfl) ?_; clear he; (try clear a); intro a he
       refine uyg (v := .bool (decide (x34.Kind = 1))) 21 he rfl (y_move rfl) ?_; clear he; (try clear a); intro a he
       refine T_any2 he rfl rfl ?_ ?_ <;> (clear he; (try clear a); intro a w hs)
       ·refine syg hs (y_ldB rfl Tryd.underlying24 rfl ti24 (.tail _ (.head _)) rfl) ?_; clear hs; (try clear a w); intro a w hs
        refine uon hs ?_; clear hs; (try clear a w); intro a he
        refine T_any1 he rfl ?_; clear he; (try clear a); intro a w hs
        refine syg (v := v1) hs (y_ld rfl Tryd.underlying22 rfl (Cell.blk (.tail _ (.head _)) rfl)) ?_; clear hs; (try clear a w); intro a w hs
        refine uon hs ?_; clear hs; (try clear a w); intro a he
        refine T_any1 he rfl ?_; clear he; (try clear a); intro a w hs
        obtain ⟨x377, hx378, hm⟩ := ob hm
        obtain ⟨r379, hr380, hq381, hi382, hb383⟩ := hW360.geti hx378
        obtain ⟨v384, rfl, ⟨rw385, hR386, hW387⟩⟩ := hq381
        refine syg hs (y_indexAddr hR359 rfl rfl hi382 hb383 Tryd.underlying22 ti42) ?_; clear hs; (try clear a w); intro a w hs
        refine uon hs ?_; clear hs; (try clear a w); intro a he
        refine uyg (v := eaddr v1 9 y30.toNat 1) 15 he rfl (y_fieldAddrE (i := y30.toNat) (j := 0) hR3 rfl hb383 (FO.of (off := 1) Tryd.underlying42 rfl rfl ti9 (by decide))) ?_; clear he; (try clear a); intro a he
        refine T_any1 he rfl ?_; clear he; (try clear a); intro a w hs
        refine syg (v := .string (x377.Name)) hs (y_loadE (i := y30.toNat) (j := 1) hR359.up rfl hr380 rfl Tryd.underlying9 rfl) ?_; clear hs; (try clear a w); intro a w hs
        refine uon hs ?_; clear hs; (try clear a w); intro a he
        refine T_any1 he rfl ?_; clear he; (try clear a); intro a w hs
        obtain ⟨x390, hx391, hm⟩ := ob hm
        refine RL_callVg hs rfl has15 rfl (law10_name_ok n (f := f355) (a2 := (.slice none 0 0)) RS.nil hx391) ?_; clear hs; (try clear a w)
        rintro _ f392 _ a w hf393 ⟨r394, rfl, rfl, hq395⟩ hs
        have hR396 := hR359.le hf393
        have hW397 := hW360.le hf393
        have hT398 := hf393 _ _ hT361
        have hT399 := hf393 _ _ hT362
        have hR400 := hR363.le hf393
        have hW401 := hW364.le hf393
        have hR402 := hR365.le hf393
        have hW403 := hW366.le hf393
        have hW404 := hW367.le hf393
        have hR405 := hR368.le hf393
        have hR406 := hR371.le hf393
        have hW407 := hW372.le hf393
        have hR408 := hR386.le hf393
        have hW409 := hW387.le hf393
        replace hle := hle.trans hf393
        replace hbase21 := hbase21.trans hf393
        replace hbase32 := hbase32.trans hf393
        replace hbase49 := hbase49.trans hf393
        replace hbd316 := hbd316.trans hf393
        obtain ⟨v410, rfl, ⟨rw411, hR412, hW413⟩⟩ := hq395
        replace hs : St _ _ _ (.blk b14 (.map es27 c28) :: .blk b6 (.cells #[v1] 24 (0, 0)) :: L) _ _ _ := hs
        refine uon hs ?_; clear hs; (try clear a w); intro a he
        refine T_any1 he rfl ?_; clear he; (try clear a); intro a w hs
        refine RL_guard hs rfl rfl ?_
        refine RL_bs1a hs rfl Tryd.underlying25 ti35 (by decide) (AllC.row ⟨rfl, rfl, hR412.one, trivial⟩ rfl) ?_; clear hs; (try clear a w); intro v415 a w hs
        have hW416 : RW t_sheet_Step f392 [[.int .i64 (x390.Comb), .string (x390.Name), v410]] [x390] := RW.single (⟨_, rfl, ⟨rw411, hR412, hW413⟩⟩)
        generalize hgrw417 : ([[.int .i64 (x390.Comb), .string (x390.Name), v410]] : List (List Value)) = rw417 at hs hW416; clear hgrw417
        replace hs : St _ _ _ (.row v415 35 3 rw417 :: .blk b14 (.map es27 c28) :: .blk b6 (.cells #[v1] 24 (0, 0)) :: L) _ _ _ := hs
        have ho420 : v415.oneCell' = true := hs.one (i := 0) rfl
        refine uon hs ?_; clear hs; (try clear a w); intro a he
        refine T_any1 he rfl ?_; clear he; (try clear a); intro a w hs
        obtain ⟨f421, hf422, hs2, hR423⟩ := hs.frzAt 0 rfl
        clear hs; have hs := hs2; clear hs2
        have hR424 := hR396.le hf422
        have hW425 := hW397.le hf422
        have hT426 := hf422 _ _ hT398
        have hT427 := hf422 _ _ hT399
        have hR428 := hR400.le hf422
        have hW429 := hW401.le hf422
        have hR430 := hR402.le hf422
        have hW431 := hW403.le hf422
        have hW432 := hW404.le hf422
        have hR433 := hR405.le hf422
        have hR434 := hR406.le hf422
        have hW435 := hW407.le hf422
        have hR436 := hR408.le hf422
        have hW437 := hW409.le hf422
        have hR438 := hR412.le hf422
        have hW439 := hW413.le hf422
        have hW440 := hW416.le hf422
        replace hle := hle.trans hf422
        replace hbase21 := hbase21.trans hf422
        replace hbase32 := hbase32.trans hf422
        replace hbase49 := hbase49.trans hf422
        replace hbd316 := hbd316.trans hf422
        replace hs : St _ _ _ (.blk b14 (.map es27 c28) :: .blk b6 (.cells #[v1] 24 (0, 0)) :: L) _ _ _ := hs
        obtain ⟨x441, hx442, hm⟩ := ob hm
        refine RL_callVg hs rfl has14 rfl (law10_sel_ok n (f := f421) (a0 := v415) ⟨rw417, hR423, hW440⟩ hx442) ?_; clear hs; (try clear a w)
        rintro _ f443 _ a w hf444 ⟨r445, rfl, rfl, hq446⟩ hs
        have hR447 := hR424.le hf444
        have hW448 := hW425.le hf444
        have hT449 := hf444 _ _ hT426
        have hT450 := hf444 _ _ hT427
        have hR451 := hR428.le hf444
        have hW452 := hW429.le hf444
        have hR453 := hR430.le hf444
        have hW454 := hW431.le hf444
        have hW455 := hW432.le hf444
        have hR456 := hR433.le hf444
        have hR457 := hR434.le hf444
        have hW458 := hW435.le hf444
        have hR459 := hR436.le hf444
        have hW460 := hW437.le hf444
        have hR461 := hR438.le hf444
        have hW462 := hW439.le hf444
        have hW463 := hW440.le hf444
        have hR464 := hR423.le hf444
        replace hle := hle.trans hf444
        replace hbase21 := hbase21.trans hf444
        replace hbase32 := hbase32.trans hf444
        replace hbase49 := hbase49.trans hf444
        replace hbd316 := hbd316.trans hf444
        obtain ⟨v465, rfl, ⟨rw466, hR467, hW468⟩⟩ := hq446
        replace hs : St _ _ _ (.blk b14 (.map es27 c28) :: .blk b6 (.cells #[v1] 24 (0, 0)) :: L) _ _ _ := hs
        refine uon hs ?_; clear hs; (try clear a w); intro a he
        refine T_any1 he rfl ?_; clear he; (try clear a); intro a w hs
        obtain ⟨x470, hx471, hm⟩ := ob hm
        refine syg hs (y_call rfl has12 rfl (match_Match_ok n (f := f443) (a0 := [v1]) (a2 := [v465]) hT449 hT450 hTT ⟨_, rfl, ⟨rw2, hR447, hW448⟩⟩ ⟨_, rfl, ⟨rw466, hR467, hW468⟩⟩ hx471)) ?_; clear hs; (try clear a w); intro a w hs
        refine uon hs ?_; clear hs; (try clear a w); intro a he
        refine uyg 22 he rfl (y_bneq rfl rfl Tryd.underlying4) ?_; clear he; (try clear a); intro a he
        refine uy (v := .bool ((!(x470 == (decide (x34.Kind = 1)))))) 23 he rfl (y_pick rfl rfl) ?_; clear he; (try clear a); intro a he
        refine T_nil he ?_; clear he; (try clear a); intro w hs; try clear hsD
        exact ⟨_, (!(x470 == (decide (x34.Kind = 1)))), hbase49, hm, hs.sub ⟨rfl, rfl, rfl, rfl, rfl, rfl, trivial⟩⟩
       ·refine syg (v := v1) hs (y_ld rfl Tryd.underlying22 rfl (Cell.blk (.tail _ (.head _)) rfl)) ?_; clear hs; (try clear a w); intro a w hs
        refine uon hs ?_; clear hs; (try clear a w); intro a he
        refine T_any2 he rfl rfl ?_ ?_ <;> (clear he; (try clear a); intro a w hs)
        ·refine syg hs (y_ldB rfl Tryd.underlying24 rfl ti24 (.tail _ (.head _)) rfl) ?_; clear hs; (try clear a w); intro a w hs
         refine uon hs ?_; clear hs; (try clear a w); intro a he
         refine T_any1 he rfl ?_; clear he; (try clear a); intro a w hs
         obtain ⟨x472, hx473, hm⟩ := ob hm
         obtain ⟨r474, hr475, hq476, hi477, hb478⟩ := hW360.geti hx473
         obtain ⟨v479, rfl, ⟨rw480, hR481, hW482⟩⟩ := hq476
         refine syg hs (y_indexAddr hR359 rfl rfl hi477 hb478 Tryd.underlying22 ti42) ?_; clear hs; (try clear a w); intro a w hs
         refine uon hs ?_; clear hs; (try clear a w); intro a he
         refine uyg (v := eaddr v1 9 y30.toNat 1) 15 he rfl (y_fieldAddrE (i := y30.toNat) (j := 0) hR3 rfl hb478 (FO.of (off := 1) Tryd.underlying42 rfl rfl ti9 (by decide))) ?_; clear he; (try clear a); intro a he
         refine T_any1 he rfl ?_; clear he; (try clear a); intro a w hs
         refine syg (v := .string (x472.Name)) hs (y_loadE (i := y30.toNat) (j := 1) hR359.up rfl hr475 rfl Tryd.underlying9 rfl) ?_; clear hs; (try clear a w); intro a w hs
         refine uon hs ?_; clear hs; (try clear a w); intro a he
         refine T_any1 he rfl ?_; clear he; (try clear a); intro a w hs
         obtain ⟨x485, hx486, hm⟩ := ob hm
         refine RL_callVg hs rfl has15 rfl (law10_name_ok n (f := f355) (a2 := (.slice none 0 0)) RS.nil hx486) ?_; clear hs; (try clear a w)
         rintro _ f487 _ a w hf488 ⟨r489, rfl, rfl, hq490⟩ hs
         have hR491 := hR359.le hf488
         have hW492 := hW360.le hf488
         have hT493 := hf488 _ _ hT361
         have hT494 := hf488 _ _ hT362
         have hR495 := hR363.le hf488
         have hW496 := hW364.le hf488
         have hR497 := hR365.le hf488
         have hW498 := hW366.le hf488
         have hW499 := hW367.le hf488
         have hR500 := hR368.le hf488
         have hR501 := hR371.le hf488
         have hW502 := hW372.le hf488
         have hR503 := hR481.le hf488
         have hW504 := hW482.le hf488
         replace hle := hle.trans hf488
         replace hbase21 := hbase21.trans hf488
         replace hbase32 := hbase32.trans hf488
         replace hbase49 := hbase49.trans hf488
         replace hbd316 := hbd316.trans hf488
         obtain ⟨v505, rfl, ⟨rw506, hR507, hW508⟩⟩ := hq490
         replace hs : St _ _ _ (.blk b14 (.map es27 c28) :: .blk b6 (.cells #[v1] 24 (0, 0)) :: L) _ _ _ := hs
         refine uon hs ?_; clear hs; (try clear a w); intro a he
         refine T_any1 he rfl ?_; clear he; (try clear a); intro a w hs
         refine RL_guard hs rfl rfl ?_
         refine RL_bs1a hs rfl Tryd.underlying25 ti35 (by decide) (AllC.row ⟨rfl, rfl, hR507.one, trivial⟩ rfl) ?_; clear hs; (try clear a w); intro v510 a w hs
         have hW511 : RW t_sheet_Step f487 [[.int .i64 (x485.Comb), .string (x485.Name), v505]] [x485] := RW.single (⟨_, rfl, ⟨rw506, hR507, hW508⟩⟩)
         generalize hgrw512 : ([[.int .i64 (x485.Comb), .string (x485.Name), v505]] : List (List Value)) = rw512 at hs hW511; clear hgrw512
         replace hs : St _ _ _ (.row v510 35 3 rw512 :: .blk b14 (.map es27 c28) :: .blk b6 (.cells #[v1] 24 (0, 0)) :: L) _ _ _ := hs
         have ho515 : v510.oneCell' = true := hs.one (i := 0) rfl
         refine uon hs ?_; clear hs; (try clear a w); intro a he
         refine T_any1 he rfl ?_; clear he; (try clear a); intro a w hs
         obtain ⟨f516, hf517, hs2, hR518⟩ := hs.frzAt 0 rfl
         clear hs; have hs := hs2; clear hs2
         have hR519 := hR491.le hf517
         have hW520 := hW492.le hf517
         have hT521 := hf517 _ _ hT493
         have hT522 := hf517 _ _ hT494
         have hR523 := hR495.le hf517
         have hW524 := hW496.le hf517
         have hR525 := hR497.le hf517
         have hW526 := hW498.le hf517
         have hW527 := hW499.le hf517
         have hR528 := hR500.le hf517
         have hR529 := hR501.le hf517
         have hW530 := hW502.le hf517
         have hR531 := hR503.le hf517
         have hW532 := hW504.le hf517
         have hR533 := hR507.le hf517
         have hW534 := hW508.le hf517
         have hW535 := hW511.le hf517
         replace hle := hle.trans hf517
         replace hbase21 := hbase21.trans hf517
         replace hbase32 := hbase32.trans hf517
         replace hbase49 := hbase49.trans hf517
         replace hbd316 := hbd316.trans hf517
         replace hs : St _ _ _ (.blk b14 (.map es27 c28) :: .blk b6 (.cells #[v1] 24 (0, 0)) :: L) _ _ _ := hs
         obtain ⟨x536, hx537, hm⟩ := ob hm
         refine RL_callVg hs rfl has14 rfl (law10_sel_ok n (f := f516) (a0 := v510) ⟨rw512, hR518, hW535⟩ hx537) ?_; clear hs; (try clear a w)
         rintro _ f538 _ a w hf539 ⟨r540, rfl, rfl, hq541⟩ hs
         have hR542 := hR519.le hf539
         have hW543 := hW520.le hf539
         have hT544 := hf539 _ _ hT521
         have hT545 := hf539 _ _ hT522
         have hR546 := hR523.le hf539
         have hW547 := hW524.le hf539
         have hR548 := hR525.le hf539
         have hW549 := hW526.le hf539
         have hW550 := hW527.le hf539
         have hR551 := hR528.le hf539
         have hR552 := hR529.le hf539
         have hW553 := hW530.le hf539
         have hR554 := hR531.le hf539
         have hW555 := hW532.le hf539
         have hR556 := hR533.le hf539
         have hW557 := hW534.le hf539
         have hW558 := hW535.le hf539
         have hR559 := hR518.le hf539
         replace hle := hle.trans hf539
         replace hbase21 := hbase21.trans hf539
         replace hbase32 := hbase32.trans hf539
         replace hbase49 := hbase49.trans hf539
         replace hbd316 := hbd316.trans hf539
         obtain ⟨v560, rfl, ⟨rw561, hR562, hW563⟩⟩ := hq541
         replace hs : St _ _ _ (.blk b14 (.map es27 c28) :: .blk b6 (.cells #[v1] 24 (0, 0)) :: L) _ _ _ := hs
         refine uon hs ?_; clear hs; (try clear a w); intro a he
         refine T_any1 he rfl ?_; clear he; (try clear a); intro a w hs
         obtain ⟨x565, hx566, hm⟩ := ob hm
         refine syg hs (y_call rfl has12 rfl (match_Match_ok n (f := f538) (a0 := [v1]) (a2 := [v560]) hT544 hT545 hTT ⟨_, rfl, ⟨rw2, hR542, hW543⟩⟩ ⟨_, rfl, ⟨rw561, hR562, hW563⟩⟩ hx566)) ?_; clear hs; (try clear a w); intro a w hs
         refine uon hs ?_; clear hs; (try clear a w); intro a he
         refine uyg 22 he rfl (y_bneq rfl rfl Tryd.underlying4) ?_; clear he; (try clear a); intro a he
         refine uy (v := .bool ((!(x565 == (decide (x34.Kind = 1)))))) 23 he rfl (y_pick rfl rfl) ?_; clear he; (try clear a); intro a he
         refine T_nil he ?_; clear he; (try clear a); intro w hs; try clear hsD
         exact ⟨_, (!(x565 == (decide (x34.Kind = 1)))), hbase49, hm, hs.sub ⟨rfl, rfl, rfl, rfl, rfl, rfl, trivial⟩⟩
        ·obtain ⟨x567, hx568, hm⟩ := ob hm
         obtain ⟨r569, hr570, hq571, hi572, hb573⟩ := hW360.geti hx568
         obtain ⟨v574, rfl, ⟨rw575, hR576, hW577⟩⟩ := hq571
         refine syg hs (y_indexAddr hR359 rfl rfl hi572 hb573 Tryd.underlying22 ti42) ?_; clear hs; (try clear a w); intro a w hs
         refine uon hs ?_; clear hs; (try clear a w); intro a he
         refine uyg (v := eaddr v1 9 y30.toNat 1) 15 he rfl (y_fieldAddrE (i := y30.toNat) (j := 0) hR3 rfl hb573 (FO.of (off := 1) Tryd.underlying42 rfl rfl ti9 (by decide))) ?_; clear he; (try clear a); intro a he
         refine T_any2 he rfl rfl ?_ ?_ <;> (clear he; (try clear a); intro a w hs)
         ·refine syg hs (y_ldB rfl Tryd.underlying24 rfl ti24 (.tail _ (.head _)) rfl) ?_; clear hs; (try clear a w); intro a w hs
          refine uon hs ?_; clear hs; (try clear a w); intro a he
          refine T_any1 he rfl ?_; clear he; (try clear a); intro a w hs
          refine syg (v := .string (x567.Name)) hs (y_loadE (i := y30.toNat) (j := 1) hR359.up rfl hr570 rfl Tryd.underlying9 rfl) ?_; clear hs; (try clear a w); intro a w hs
          refine uon hs ?_; clear hs; (try clear a w); intro a he
          refine T_any1 he rfl ?_; clear he; (try clear a); intro a w hs
          obtain ⟨x580, hx581, hm⟩ := ob hm
          refine RL_callVg hs rfl has15 rfl (law10_name_ok n (f := f355) (a2 := (.slice none 0 0)) RS.nil hx581) ?_; clear hs; (try clear a w)
          rintro _ f582 _ a w hf583 ⟨r584, rfl, rfl, hq585⟩ hs
          have hR586 := hR359.le hf583
          have hW587 := hW360.le hf583
          have hT588 := hf583 _ _ hT361
          have hT589 := hf583 _ _ hT362
          have hR590 := hR363.le hf583
          have hW591 := hW364.le hf583
          have hR592 := hR365.le hf583
          have hW593 := hW366.le hf583
          have hW594 := hW367.le hf583
          have hR595 := hR368.le hf583
          have hR596 := hR371.le hf583
          have hW597 := hW372.le hf583
          have hR598 := hR576.le hf583
          have hW599 := hW577.le hf583
          replace hle := hle.trans hf583
          replace hbase21 := hbase21.trans hf583
          replace hbase32 := hbase32.trans hf583
          replace hbase49 := hbase49.trans hf583
          replace hbd316 := hbd316.trans hf583
          obtain ⟨v600, rfl, ⟨rw601, hR602, hW603⟩⟩ := hq585
          replace hs : St _ _ _ (.blk b14 (.map es27 c28) :: .blk b6 (.cells #[v1] 24 (0, 0)) :: L) _ _ _ := hs
          refine uon hs ?_; clear hs; (try clear a w); intro a he
          refine T_any1 he rfl ?_; clear he; (try clear a); intro a w hs
          refine RL_guard hs rfl rfl ?_
          refine RL_bs1a hs rfl Tryd.underlying25 ti35 (by decide) (AllC.row ⟨rfl, rfl, hR602.one, trivial⟩ rfl) ?_; clear hs; (try clear a w); intro v605 a w hs
          have hW606 : RW t_sheet_Step f582 [[.int .i64 (x580.Comb), .string (x580.Name), v600]] [x580] := RW.single (⟨_, rfl, ⟨rw601, hR602, hW603⟩⟩)
          generalize hgrw607 : ([[.int .i64 (x580.Comb), .string (x580.Name), v600]] : List (List Value)) = rw607 at hs hW606; clear hgrw607
          replace hs : St _ _ _ (.row v605 35 3 rw607 :: .blk b14 (.map es27 c28) :: .blk b6 (.cells #[v1] 24 (0, 0)) :: L) _ _ _ := hs
          have ho610 : v605.oneCell' = true := hs.one (i := 0) rfl
          refine uon hs ?_; clear hs; (try clear a w); intro a he
          refine T_any1 he rfl ?_; clear he; (try clear a); intro a w hs
          obtain ⟨f611, hf612, hs2, hR613⟩ := hs.frzAt 0 rfl
          clear hs; have hs := hs2; clear hs2
          have hR614 := hR586.le hf612
          have hW615 := hW587.le hf612
          have hT616 := hf612 _ _ hT588
          have hT617 := hf612 _ _ hT589
          have hR618 := hR590.le hf612
          have hW619 := hW591.le hf612
          have hR620 := hR592.le hf612
          have hW621 := hW593.le hf612
          have hW622 := hW594.le hf612
          have hR623 := hR595.le hf612
          have hR624 := hR596.le hf612
          have hW625 := hW597.le hf612
          have hR626 := hR598.le hf612
          have hW627 := hW599.le hf612
          have hR628 := hR602.le hf612
          have hW629 := hW603.le hf612
          have hW630 := hW606.le hf612
          replace hle := hle.trans hf612
          replace hbase21 := hbase21.trans hf612
          replace hbase32 := hbase32.trans hf612
          replace hbase49 := hbase49.trans hf612
          replace hbd316 := hbd316.trans hf612
          replace hs : St _ _ _ (.blk b14 (.map es27 c28) :: .blk b6 (.cells #[v1] 24 (0, 0)) :: L) _ _ _ := hs
          obtain ⟨x631, hx632, hm⟩ := ob hm
          refine RL_callVg hs rfl has14 rfl (law10_sel_ok n (f := f611) (a0 := v605) ⟨rw607, hR613, hW630⟩ hx632) ?_; clear hs; (try clear a w)
          rintro _ f633 _ a w hf634 ⟨r635, rfl, rfl, hq636⟩ hs
          have hR637 := hR614.le hf634
          have hW638 := hW615.le hf634
          have hT639 := hf634 _ _ hT616
          have hT640 := hf634 _ _ hT617
          have hR641 := hR618.le hf634
          have hW642 := hW619.le hf634
          have hR643 := hR620.le hf634
          have hW644 := hW621.le hf634
          have hW645 := hW622.le hf634
          have hR646 := hR623.le hf634
          have hR647 := hR624.le hf634
          have hW648 := hW625.le hf634
          have hR649 := hR626.le hf634
          have hW650 := hW627.le hf634
          have hR651 := hR628.le hf634
          have hW652 := hW629.le hf634
          have hW653 := hW630.le hf634
          have hR654 := hR613.le hf634
          replace hle := hle.trans hf634
          replace hbase21 := hbase21.trans hf634
          replace hbase32 := hbase32.trans hf634
          replace hbase49 := hbase49.trans hf634
          replace hbd316 := hbd316.trans hf634
          obtain ⟨v655, rfl, ⟨rw656, hR657, hW658⟩⟩ := hq636
          replace hs : St _ _ _ (.blk b14 (.map es27 c28) :: .blk b6 (.cells #[v1] 24 (0, 0)) :: L) _ _ _ := hs
          refine uon hs ?_; clear hs; (try clear a w); intro a he
          refine T_any1 he rfl ?_; clear he; (try clear a); intro a w hs
          obtain ⟨x660, hx661, hm⟩ := ob hm
          refine syg hs (y_call rfl has12 rfl (match_Match_ok n (f := f633) (a0 := [v1]) (a2 := [v655]) hT639 hT640 hTT ⟨_, rfl, ⟨rw2, hR637, hW638⟩⟩ ⟨_, rfl, ⟨rw656, hR657, hW658⟩⟩ hx661)) ?_; clear hs; (try clear a w); intro a w hs
          refine uon hs ?_; clear hs; (try clear a w); intro a he
          refine uyg 22 he rfl (y_bneq rfl rfl Tryd.underlying4) ?_; clear he; (try clear a); intro a he
          refine uy (v := .bool ((!(x660 == (decide (x34.Kind = 1)))))) 23 he rfl (y_pick rfl rfl) ?_; clear he; (try clear a); intro a he
          refine T_nil he ?_; clear he; (try clear a); intro w hs; try clear hsD
          exact ⟨_, (!(x660 == (decide (x34.Kind = 1)))), hbase49, hm, hs.sub ⟨rfl, rfl, rfl, rfl, rfl, rfl, trivial⟩⟩
         ·refine syg (v := .string (x567.Name)) hs (y_loadE (i := y30.toNat) (j := 1) hR359.up rfl hr570 rfl Tryd.underlying9 rfl) ?_; clear hs; (try clear a w); intro a w hs
          refine uon hs ?_; clear hs; (try clear a w); intro a he
          refine T_any2 he rfl rfl ?_ ?_ <;> (clear he; (try clear a); intro a w hs)
          ·refine syg hs (y_ldB rfl Tryd.underlying24 rfl ti24 (.tail _ (.head _)) rfl) ?_; clear hs; (try clear a w); intro a w hs
           refine uon hs ?_; clear hs; (try clear a w); intro a he
           refine T_any1 he rfl ?_; clear he; (try clear a); intro a w hs
           obtain ⟨x663, hx664, hm⟩ := ob hm
           refine RL_callVg hs rfl has15 rfl (law10_name_ok n (f := f355) (a2 := (.slice none 0 0)) RS.nil hx664) ?_; clear hs; (try clear a w)
           rintro _ f665 _ a w hf666 ⟨r667, rfl, rfl, hq668⟩ hs
           have hR669 := hR359.le hf666
           have hW670 := hW360.le hf666
           have hT671 := hf666 _ _ hT361
           have hT672 := hf666 _ _ hT362
           have hR673 := hR363.le hf666
           have hW674 := hW364.le hf666
           have hR675 := hR365.le hf666
           have hW676 := hW366.le hf666
           have hW677 := hW367.le hf666
           have hR678 := hR368.le hf666
           have hR679 := hR371.le hf666
           have hW680 := hW372.le hf666
           have hR681 := hR576.le hf666
           have hW682 := hW577.le hf666
           replace hle := hle.trans hf666
           replace hbase21 := hbase21.trans hf666
           replace hbase32 := hbase32.trans hf666
           replace hbase49 := hbase49.trans hf666
           replace hbd316 := hbd316.trans hf666
           obtain ⟨v683, rfl, ⟨rw684, hR685, hW686⟩⟩ := hq668
           replace hs : St _ _ _ (.blk b14 (.map es27 c28) :: .blk b6 (.cells #[v1] 24 (0, 0)) :: L) _ _ _ := hs
           refine uon hs ?_; clear hs; (try clear a w); intro a he
           refine T_any1 he rfl ?_; clear he; (try clear a); intro a w hs
           refine RL_guard hs rfl rfl ?_
           refine RL_bs1a hs rfl Tryd.underlying25 ti35 (by decide) (AllC.row ⟨rfl, rfl, hR685.one, trivial⟩ rfl) ?_; clear hs; (try clear a w); intro v688 a w hs
           have hW689 : RW t_sheet_Step f665 [[.int .i64 (x663.Comb), .string (x663.Name), v683]] [x663] := RW.single (⟨_, rfl, ⟨rw684, hR685, hW686⟩⟩)
           generalize hgrw690 : ([[.int .i64 (x663.Comb), .string (x663.Name), v683]] : List (List Value)) = rw690 at hs hW689; clear hgrw690
           replace hs : St _ _ _ (.row v688 35 3 rw690 :: .blk b14 (.map es27 c28) :: .blk b6 (.cells #[v1] 24 (0, 0)) :: L) _ _ _ := hs
           have ho693 : v688.oneCell' = true := hs.one (i := 0) rfl
           refine uon hs ?_; clear hs; (try clear a w); intro a he
           refine T_any1 he rfl ?_; clear he; (try clear a); intro a w hs
           obtain ⟨f694, hf695, hs2, hR696⟩ := hs.frzAt 0 rfl
           clear hs; have hs := hs2; clear hs2
           have hR697 := hR669.le hf695
           have hW698 := hW670.le hf695
           have hT699 := hf695 _ _ hT671
           have hT700 := hf695 _ _ hT672
           have hR701 := hR673.le hf695
           have hW702 := hW674.le hf695
           have hR703 := hR675.le hf695
           have hW704 := hW676.le hf695
           have hW705 := hW677.le hf695
           have hR706 := hR678.le hf695
           have hR707 := hR679.le hf695
           have hW708 := hW680.le hf695
           have hR709 := hR681.le hf695
           have hW710 := hW682.le hf695
           have hR711 := hR685.le hf695
           have hW712 := hW686.le hf695
           have hW713 := hW689.le hf695
           replace hle := hle.trans hf695
           replace hbase21 := hbase21.trans hf695
           replace hbase32 := hbase32.trans hf695
           replace hbase49 := hbase49.trans hf695
           replace hbd316 := hbd316.trans hf695
           replace hs : St _ _ _ (.blk b14 (.map es27 c28) :: .blk b6 (.cells #[v1] 24 (0, 0)) :: L) _ _ _ := hs
           obtain ⟨x714, hx715, hm⟩ := ob hm
           refine RL_callVg hs rfl has14 rfl (law10_sel_ok n (f := f694) (a0 := v688) ⟨rw690, hR696, hW713⟩ hx715) ?_; clear hs; (try clear a w)
           rintro _ f716 _ a w hf717 ⟨r718, rfl, rfl, hq719⟩ hs
           have hR720 := hR697.le hf717
           have hW721 := hW698.le hf717
           have hT722 := hf717 _ _ hT699
           have hT723 := hf717 _ _ hT700
           have hR724 := hR701.le hf717
           have hW725 := hW702.le hf717
           have hR726 := hR703.le hf717
           have hW727 := hW704.le hf717
           have hW728 := hW705.le hf717
           have hR729 := hR706.le hf717
           have hR730 := hR707.le hf717
           have hW731 := hW708.le hf717
           have hR732 := hR709.le hf717
           have hW733 := hW710.le hf717
           have hR734 := hR711.le hf717
           have hW735 := hW712.le hf717
           have hW736 := hW713.le hf717
           have hR737 := hR696.le hf717
           replace hle := hle.trans hf717
           replace hbase21 := hbase21.trans hf717
           replace hbase32 := hbase32.trans hf717
           replace hbase49 := hbase49.trans hf717
           replace hbd316 := hbd316.trans hf717
           obtain ⟨v738, rfl, ⟨rw739, hR740, hW741⟩⟩ := hq719
           replace hs : St _ _ _ (.blk b14 (.map es27 c28) :: .blk b6 (.cells #[v1] 24 (0, 0)) :: L) _ _ _ := hs
           refine uon hs ?_; clear hs; (try clear a w); intro a he
           refine T_any1 he rfl ?_; clear he; (try clear a); intro a w hs
           obtain ⟨x743, hx744, hm⟩ := ob hm
           refine syg hs (y_call rfl has12 rfl (match_Match_ok n (f := f716) (a0 := [v1]) (a2 := [v738]) hT722 hT723 hTT ⟨_, rfl, ⟨rw2, hR720, hW721⟩⟩ ⟨_, rfl, ⟨rw739, hR740, hW741⟩⟩ hx744)) ?_; clear hs; (try clear a w); intro a w hs
           refine uon hs ?_; clear hs; (try clear a w); intro a he
           refine uyg 22 he rfl (y_bneq rfl rfl Tryd.underlying4) ?_; clear he; (try clear a); intro a he
           refine uy (v := .bool ((!(x743 == (decide (x34.Kind = 1)))))) 23 he rfl (y_pick rfl rfl) ?_; clear he; (try clear a); intro a he
           refine T_nil he ?_; clear he; (try clear a); intro w hs; try clear hsD
           exact ⟨_, (!(x743 == (decide (x34.Kind = 1)))), hbase49, hm, hs.sub ⟨rfl, rfl, rfl, rfl, rfl, rfl, trivial⟩⟩
          ·obtain ⟨x746, hx747, hm⟩ := ob hm
           refine RL_callVg hs rfl has15 rfl (law10_name_ok n (f := f355) (a2 := (.slice none 0 0)) RS.nil hx747) ?_; clear hs; (try clear a w)
           rintro _ f748 _ a w hf749 ⟨r750, rfl, rfl, hq751⟩ hs
           have hR752 := hR359.le hf749
           have hW753 := hW360.le hf749
           have hT754 := hf749 _ _ hT361
           have hT755 := hf749 _ _ hT362
           have hR756 := hR363.le hf749
           have hW757 := hW364.le hf749
           have hR758 := hR365.le hf749
           have hW759 := hW366.le hf749
           have hW760 := hW367.le hf749
           have hR761 := hR368.le hf749
           have hR762 := hR371.le hf749
           have hW763 := hW372.le hf749
           have hR764 := hR576.le hf749
           have hW765 := hW577.le hf749
           replace hle := hle.trans hf749
           replace hbase21 := hbase21.trans hf749
           replace hbase32 := hbase32.trans hf749
           replace hbase49 := hbase49.trans hf749
           replace hbd316 := hbd316.trans hf749
           obtain ⟨v766, rfl, ⟨rw767, hR768, hW769⟩⟩ := hq751
           replace hs : St _ _ _ (.blk b14 (.map es27 c28) :: .blk b6 (.cells #[v1] 24 (0, 0)) :: L) _ _ _ := hs
           refine uon hs ?_; clear hs; (try clear a w); intro a he
           refine T_any2 he rfl rfl ?_ ?_ <;> (clear he; (try clear a); intro a w hs)
           ·refine syg hs (y_ldB rfl Tryd.underlying24 rfl ti24 (.tail _ (.head _)) rfl) ?_; clear hs; (try clear a w); intro a w hs
            refine uon hs ?_; clear hs; (try clear a w); intro a he
            refine T_any1 he rfl ?_; clear he; (try clear a); intro a w hs
            refine RL_guard hs rfl rfl ?_
            refine RL_bs1a hs rfl Tryd.underlying25 ti35 (by decide) (AllC.row ⟨rfl, rfl, hR768.one, trivial⟩ rfl) ?_; clear hs; (try clear a w); intro v771 a w hs
            have hW772 : RW t_sheet_Step f748 [[.int .i64 (x746.Comb), .string (x746.Name), v766]] [x746] := RW.single (⟨_, rfl, ⟨rw767, hR768, hW769⟩⟩)
            generalize hgrw773 : ([[.int .i64 (x746.Comb), .string (x746.Name), v766]] : List (List Value)) = rw773 at hs hW772; clear hgrw773
            replace hs : St _ _ _ (.row v771 35 3 rw773 :: .blk b14 (.map es27 c28) :: .blk b6 (.cells #[v1] 24 (0, 0)) :: L) _ _ _ := hs
            have ho776 : v771.oneCell' = true := hs.one (i := 0) rfl
            refine uon hs ?_; clear hs; (try clear a w); intro a he
            refine T_any1 he rfl ?_; clear he; (try clear a); intro a w hs
            obtain ⟨f777, hf778, hs2, hR779⟩ := hs.frzAt 0 rfl
            clear hs; have hs := hs2; clear hs2
            have hR780 := hR752.le hf778
            have hW781 := hW753.le hf778
            have hT782 := hf778 _ _ hT754
            have hT783 := hf778 _ _ hT755
            have hR784 := hR756.le hf778
            have hW785 := hW757.le hf778
            have hR786 := hR758.le hf778
            have hW787 := hW759.le hf778
            have hW788 := hW760.le hf778
            have hR789 := hR761.le hf778
            have hR790 := hR762.le hf778
            have hW791 := hW763.le hf778
            have hR792 := hR764.le hf778
            have hW793 := hW765.le hf778
            have hR794 := hR768.le hf778
            have hW795 := hW769.le hf778
            have hW796 := hW772.le hf778
            replace hle := hle.trans hf778
            replace hbase21 := hbase21.trans hf778
            replace hbase32 := hbase32.trans hf778
            replace hbase49 := hbase49.trans hf778
            replace hbd316 := hbd316.trans hf778
            replace hs : St _ _ _ (.blk b14 (.map es27 c28) :: .blk b6 (.cells #[v1] 24 (0, 0)) :: L) _ _ _ := hs
            obtain ⟨x797, hx798, hm⟩ := ob hm
            refine RL_callVg hs rfl has14 rfl (law10_sel_ok n (f := f777) (a0 := v771) ⟨rw773, hR779, hW796⟩ hx798) ?_; clear hs; (try clear a w)
            rintro _ f799 _ a w hf800 ⟨r801, rfl, rfl, hq802⟩ hs
            have hR803 := hR780.le hf800
            have hW804 := hW781.le hf800
            have hT805 := hf800 _ _ hT782
            have hT806 := hf800 _ _ hT783
            have hR807 := hR784.le hf800
            have hW808 := hW785.le hf800
            have hR809 := hR786.le hf800
            have hW810 := hW787.le hf800
            have hW811 := hW788.le hf800
            have hR812 := hR789.le hf800
            have hR813 := hR790.le hf800
            have hW814 := hW791.le hf800
            have hR815 := hR792.le hf800
            have hW816 := hW793.le hf800
            have hR817 := hR794.le hf800
            have hW818 := hW795.le hf800
            have hW819 := hW796.le hf800
            have hR820 := hR779.le hf800
            replace hle := hle.trans hf800
            replace hbase21 := hbase21.trans hf800
            replace hbase32 := hbase32.trans hf800
            replace hbase49 := hbase49.trans hf800
            replace hbd316 := hbd316.trans hf800
            obtain ⟨v821, rfl, ⟨rw822, hR823, hW824⟩⟩ := hq802
            replace hs : St _ _ _ (.blk b14 (.map es27 c28) :: .blk b6 (.cells #[v1] 24 (0, 0)) :: L) _ _ _ := hs
            refine uon hs ?_; clear hs; (try clear a w); intro a he
            refine T_any1 he rfl ?_; clear he; (try clear a); intro a w hs
            obtain ⟨x826, hx827, hm⟩ := ob hm
            refine syg hs (y_call rfl has12 rfl (match_Match_ok n (f := f799) (a0 := [v1]) (a2 := [v821]) hT805 hT806 hTT ⟨_, rfl, ⟨rw2, hR803, hW804⟩⟩ ⟨_, rfl, ⟨rw822, hR823, hW824⟩⟩ hx827)) ?_; clear hs; (try clear a w); intro a w hs
            refine uon hs ?_; clear hs; (try clear a w); intro a he
            refine uyg 22 he rfl (y_bneq rfl rfl Tryd.underlying4) ?_; clear he; (try clear a); intro a he
            refine uy (v := .bool ((!(x826 == (decide (x34.Kind = 1)))))) 23 he rfl (y_pick rfl rfl) ?_; clear he; (try clear a); intro a he
            refine T_nil he ?_; clear he; (try clear a); intro w hs; try clear hsD
            exact ⟨_, (!(x826 == (decide (x34.Kind = 1)))), hbase49, hm, hs.sub ⟨rfl, rfl, rfl, rfl, rfl, rfl, trivial⟩⟩
           ·refine RL_guard hs rfl rfl ?_
            refine RL_bs1a hs rfl Tryd.underlying25 ti35 (by decide) (AllC.row ⟨rfl, rfl, hR768.one, trivial⟩ rfl) ?_; clear hs; (try clear a w); intro v828 a w hs
            have hW829 : RW t_sheet_Step f748 [[.int .i64 (x746.Comb), .string (x746.Name), v766]] [x746] := RW.single (⟨_, rfl, ⟨rw767, hR768, hW769⟩⟩)
            generalize hgrw830 : ([[.int .i64 (x746.Comb), .string (x746.Name), v766]] : List (List Value)) = rw830 at hs hW829; clear hgrw830
            replace hs : St _ _ _ (.row v828 35 3 rw830 :: .blk b14 (.map es27 c28) :: .blk b6 (.cells #[v1] 24 (0, 0)) :: L) _ _ _ := hs
            have ho833 : v828.oneCell' = true := hs.one (i := 0) rfl
            refine uon hs ?_; clear hs; (try clear a w); intro a he
            refine T_any2 he rfl rfl ?_ ?_ <;> (clear he; (try clear a); intro a w hs)
            ·refine syg hs (y_ldB rfl Tryd.underlying24 rfl ti24 (.tail _ (.tail _ (.head _))) rfl) ?_; clear hs; (try clear a w); intro a w hs
             refine uon hs ?_; clear hs; (try clear a w); intro a he
             refine T_any1 he rfl ?_; clear he; (try clear a); intro a w hs
             obtain ⟨f834, hf835, hs2, hR836⟩ := hs.frzAt 0 rfl
             clear hs; have hs := hs2; clear hs2
             have hR837 := hR752.le hf835
             have hW838 := hW753.le hf835
             have hT839 := hf835 _ _ hT754
             have hT840 := hf835 _ _ hT755
             have hR841 := hR756.le hf835
             have hW842 := hW757.le hf835
             have hR843 := hR758.le hf835
             have hW844 := hW759.le hf835
             have hW845 := hW760.le hf835
             have hR846 := hR761.le hf835
             have hR847 := hR762.le hf835
             have hW848 := hW763.le hf835
             have hR849 := hR764.le hf835
             have hW850 := hW765.le hf835
             have hR851 := hR768.le hf835
             have hW852 := hW769.le hf835
             have hW853 := hW829.le hf835
             replace hle := hle.trans hf835
             replace hbase21 := hbase21.trans hf835
             replace hbase32 := hbase32.trans hf835
             replace hbase49 := hbase49.trans hf835
             replace hbd316 := hbd316.trans hf835
             replace hs : St _ _ _ (.blk b14 (.map es27 c28) :: .blk b6 (.cells #[v1] 24 (0, 0)) :: L) _ _ _ := hs
             obtain ⟨x854, hx855, hm⟩ := ob hm
             refine RL_callVg hs rfl has14 rfl (law10_sel_ok n (f := f834) (a0 := v828) ⟨rw830, hR836, hW853⟩ hx855) ?_; clear hs; (try clear a w)
             rintro _ f856 _ a w hf857 ⟨r858, rfl, rfl, hq859⟩ hs
             have hR860 := hR837.le hf857
             have hW861 := hW838.le hf857
             have hT862 := hf857 _ _ hT839
             have hT863 := hf857 _ _ hT840
             have hR864 := hR841.le hf857
             have hW865 := hW842.le hf857
             have hR866 := hR843.le hf857
             have hW867 := hW844.le hf857
             have hW868 := hW845.le hf857
             have hR869 := hR846.le hf857
             have hR870 := hR847.le hf857
             have hW871 := hW848.le hf857
             have hR872 := hR849.le hf857
             have hW873 := hW850.le hf857
             have hR874 := hR851.le hf857
             have hW875 := hW852.le hf857
             have hW876 := hW853.le hf857
             have hR877 := hR836.le hf857
             replace hle := hle.trans hf857
             replace hbase21 := hbase21.trans hf857
             replace hbase32 := hbase32.trans hf857
             replace hbase49 := hbase49.trans hf857
             replace hbd316 := hbd316.trans hf857
             obtain ⟨v878, rfl, ⟨rw879, hR880, hW881⟩⟩ := hq859
             replace hs : St _ _ _ (.blk b14 (.map es27 c28) :: .blk b6 (.cells #[v1] 24 (0, 0)) :: L) _ _ _ := hs
             refine uon hs ?_; clear hs; (try clear a w); intro a he
             refine T_any1 he rfl ?_; clear he; (try clear a); intro a w hs
             obtain ⟨x883, hx884, hm⟩ := ob hm
             refine syg hs (y_call rfl has12 rfl (match_Match_ok n (f := f856) (a0 := [v1]) (a2 := [v878]) hT862 hT863 hTT ⟨_, rfl, ⟨rw2, hR860, hW861⟩⟩ ⟨_, rfl, ⟨rw879, hR880, hW881⟩⟩ hx884)) ?_; clear hs; (try clear a w); intro a w hs
             refine uon hs ?_; clear hs; (try clear a w); intro a he
             refine uyg 22 he rfl (y_bneq rfl rfl Tryd.underlying4) ?_; clear he; (try clear a); intro a he
             refine uy (v := .bool ((!(x883 == (decide (x34.Kind = 1)))))) 23 he rfl (y_pick rfl rfl) ?_; clear he; (try clear a); intro a he
             refine T_nil he ?_; clear he; (try clear a); intro w hs; try clear hsD
             exact ⟨_, (!(x883 == (decide (x34.Kind = 1)))), hbase49, hm, hs.sub ⟨rfl, rfl, rfl, rfl, rfl, rfl, trivial⟩⟩
            ·obtain ⟨f885, hf886, hs2, hR887⟩ := hs.frzAt 0 rfl
             clear hs; have hs := hs2; clear hs2
             have hR888 := hR752.le hf886
             have hW889 := hW753.le hf886
             have hT890 := hf886 _ _ hT754
             have hT891 := hf886 _ _ hT755
             have hR892 := hR756.le hf886
             have hW893 := hW757.le hf886
             have hR894 := hR758.le hf886
             have hW895 := hW759.le hf886
             have hW896 := hW760.le hf886
             have hR897 := hR761.le hf886
             have hR898 := hR762.le hf886
             have hW899 := hW763.le hf886
             have hR900 := hR764.le hf886
             have hW901 := hW765.le hf886
             have hR902 := hR768.le hf886
             have hW903 := hW769.le hf886
             have hW904 := hW829.le hf886
             replace hle := hle.trans hf886
             replace hbase21 := hbase21.trans hf886
             replace hbase32 := hbase32.trans hf886
             replace hbase49 := hbase49.trans hf886
             replace hbd316 := hbd316.trans hf886
             replace hs : St _ _ _ (.blk b14 (.map es27 c28) :: .blk b6 (.cells #[v1] 24 (0, 0)) :: L) _ _ _ := hs
             obtain ⟨x905, hx906, hm⟩ := ob hm
             refine RL_callVg hs rfl has14 rfl (law10_sel_ok n (f := f885) (a0 := v828) ⟨rw830, hR887, hW904⟩ hx906) ?_; clear hs; (try clear a w)
             rintro _ f907 _ a w hf908 ⟨r909, rfl, rfl, hq910⟩ hs
             have hR911 := hR888.le hf908
             have hW912 := hW889.le hf908
             have hT913 := hf908 _ _ hT890
             have hT914 := hf908 _ _ hT891
             have hR915 := hR892.le hf908
             have hW916 := hW893.le hf908
             have hR917 := hR894.le hf908
             have hW918 := hW895.le hf908
             have hW919 := hW896.le hf908
             have hR920 := hR897.le hf908
             have hR921 := hR898.le hf908
             have hW922 := hW899.le hf908
             have hR923 := hR900.le hf908
             have hW924 := hW901.le hf908
             have hR925 := hR902.le hf908
             have hW926 := hW903.le hf908
             have hW927 := hW904.le hf908
             have hR928 := hR887.le hf908
             replace hle := hle.trans hf908
             replace hbase21 := hbase21.trans hf908
             replace hbase32 := hbase32.trans hf908
             replace hbase49 := hbase49.trans hf908
             replace hbd316 := hbd316.trans hf908
             obtain ⟨v929, rfl, ⟨rw930, hR931, hW932⟩⟩ := hq910
             replace hs : St _ _ _ (.blk b14 (.map es27 c28) :: .blk b6 (.cells #[v1] 24 (0, 0)) :: L) _ _ _ := hs
             refine uon hs ?_; clear hs; (try clear a w); intro a he
             refine T_any1 he rfl ?_; clear he; (try clear a); intro a w hs
             refine syg hs (y_ldB rfl Tryd.underlying24 rfl ti24 (.tail _ (.head _)) rfl) ?_; clear hs; (try clear a w); intro a w hs
             refine uon hs ?_; clear hs; (try clear a w); intro a he
             refine T_any1 he rfl ?_; clear he; (try clear a); intro a w hs
             obtain ⟨x934, hx935, hm⟩ := ob hm
             refine syg hs (y_call rfl has12 rfl (match_Match_ok n (f := f907) (a0 := [v1]) (a2 := [v929]) hT913 hT914 hTT ⟨_, rfl, ⟨rw2, hR911, hW912⟩⟩ ⟨_, rfl, ⟨rw930, hR931, hW932⟩⟩ hx935)) ?_; clear hs; (try clear a w); intro a w hs
             refine uon hs ?_; clear hs; (try clear a w); intro a he
             refine uyg 22 he rfl (y_bneq rfl rfl Tryd.underlying4) ?_; clear he; (try clear a); intro a he
             refine uy (v := .bool ((!(x934 == (decide (x34.Kind = 1)))))) 23 he rfl (y_pick rfl rfl) ?_; clear he; (try clear a); intro a he
             refine T_nil he ?_; clear he; (try clear a); intro w hs; try clear hsD
             exact ⟨_, (!(x934 == (decide (x34.Kind = 1)))), hbase49, hm, hs.sub ⟨rfl, rfl, rfl, rfl, rfl, rfl, trivial⟩⟩
    ·replace hm := oc_f hg33 hm
     refine W_exit ?_
     refine hB10 _ _ ?_
     exact ⟨_, hbase21, hm, hs.subs trivial (.cons _ (.cons _ (.refl _)))⟩
end Go.Proofs.YtmkcglpeidbblaaDoor
