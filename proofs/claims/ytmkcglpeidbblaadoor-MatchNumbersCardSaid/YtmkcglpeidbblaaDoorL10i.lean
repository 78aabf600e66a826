/-
  Walks and laws of this seat; the base is the text Base.
-/
import Derived.Test.YtmkcglpeidbblaaDoorL10n
import Derived.Test.YtmkcglpeidbblaaDoorRows
/-
  Models of functions, and that the functions compute them. Printed by lift.py.
-/
namespace Go.Proofs.YtmkcglpeidbblaaDoor
open Go.RowKit Go.Sl
/-! casement/match.All$1 -/
def match_All_1_k1 : Option (List Int) :=
  some []
def match_All_1_k3 (y13 : Int) (lp14 : Int → Option (List Int)) : Option (List Int) :=
  lp14 (w64 (y13 + 1))
def match_All_1_l2 (n : Nat) (q0 : api_Tree) (q1 : sheet_Selector) : Nat → Int → Option (List Int)
  | 0, _ => none
  | k14 + 1, y13 =>
  (bif (decide (y13 < (q0.Nodes.length : Int))) then (match_Match n q0 y13 q1).bind fun x16 =>
  (bif x16 then (match_All_1_k3 y13 (match_All_1_l2 n q0 q1 k14)).map (y13 :: ·) else
  match_All_1_k3 y13 (match_All_1_l2 n q0 q1 k14)) else
  match_All_1_k1)
def match_All_1 (n : Nat) (q0 : api_Tree) (q1 : sheet_Selector) : Option (List Int) :=
  match_All_1_l2 n q0 q1 n 0
set_option maxRecDepth 20000 in
set_option maxHeartbeats 4000000 in
theorem match_All_1_it (n : Nat) {f : Fz} {o0 : Obj} {o1 : Obj} {cb0 : Nat} {q0 : api_Tree} {ca0 : List Value} {cb1 : Nat} {q1 : sheet_Selector} {ca1 : List Value} {res : (List Int)} (hT0 : f 0 = some o0) (hT1 : f 1 = some o1) (hTT : Tabs o0 o1) (hq0 : t_api_Tree.R f ca0 q0) (hc0 : f cb0 = some (.cells ca0.toArray 24 (0, 0))) (hq1 : t_sheet_Selector.R f ca1 q1) (hc1 : f cb1 = some (.cells ca1.toArray 27 (0, 0))) (hm : match_All_1 n q0 q1 = some res) : Iter Tryd.prog 34 [.pointer (some ⟨cb0, 0, none⟩), .pointer (some ⟨cb1, 0, none⟩)] f res (fun x => .int .i64 x) := by
 unfold match_All_1 at hm
 intro l w0 f2 J Jx L w hle0 hC hJ hY
 replace hT0 := hle0 _ _ hT0
 replace hT1 := hle0 _ _ hT1
 have hle := Fz.le.refl f2
 replace hq0 := t_api_Tree.mono hq0 hle0
 replace hc0 := hle0 _ _ hc0
 obtain ⟨v1, rfl, ⟨rw2, hR3, hW4⟩⟩ := hq0
 replace hq1 := t_sheet_Selector.mono hq1 hle0
 replace hc1 := hle0 _ _ hc1
 obtain ⟨v7, rfl, ⟨rw8, hR9, hW10⟩⟩ := hq1
 clear hle0
 show Calls _ _ (List.toArray (.func (.yield l) #[] #[] :: [.pointer (some ⟨cb0, 0, none⟩), .pointer (some ⟨cb1, 0, none⟩)])) _ _
 refine enter Tryd.func34 rfl Tryd.ntmps34 (by simp) hC fun a hs => ?_
 refine W_seq fun K1 hK1 => ?_
 refine W_region ?_
 refine sy (v := .pointer (some ⟨cb0, 0, none⟩)) hs (y_fieldAddr rfl (FO.of (off := 0) Tryd.underlying24 rfl rfl ti22 (by decide))) ?_; clear hs; (try clear a w); intro a w hs
 refine sy (v := v1) hs (y_ld rfl Tryd.underlying22 rfl (Cell.fz hc0 rfl)) ?_; clear hs; (try clear a w); intro a w hs
 refine sy hs (y_lenW hR3 hW4 rfl Tryd.underlying22) ?_; clear hs; (try clear a w); intro a w hs
 refine sy (v := .int .i64 (0)) hs (y_move rfl) ?_; clear hs; (try clear a w); intro a w hs
 refine RL_nil ?_
 refine hK1 _ _ ?_; clear hK1
 refine W_post (fun a w => ∃ (L : List Ent) (res : (List Int)), match_All_1_k1 = some res ∧ J res L ∧ St 22 w0 f2 (L) [] a w) ?_ ?_
 ·clear hs hm
  rintro a w ⟨L, res, hm, hJ, hs⟩
  replace hs : St _ _ _ (L) _ _ _ := hs
  unfold match_All_1_k1 at hm
  obtain rfl := Option.some.inj hm
  refine RtV0 hs rfl ?_
  exact ⟨_, L, rfl, (hs.weak hle).cw, .inl hJ⟩
 ·refine W_block fun Qe2 hB2 hO2 => ?_
  refine W_loop (fun (k : Nat) a w => ∃ (L : List Ent) (res : (List Int)) (y13 : Int), match_All_1_l2 n q0 q1 k y13 = some res ∧ J res L ∧ St 22 w0 f2 (L) [(0, .func (.yield l) #[] #[]), (1, .pointer (some ⟨cb0, 0, none⟩)), (2, .pointer (some ⟨cb1, 0, none⟩)), (7, .int .i64 ((q0.Nodes.length : Int))), (8, .int .i64 (y13))] a w) (fun k => k) n ⟨_, _, 0, hm, hJ, hs.sub ⟨rfl, rfl, rfl, rfl, rfl, trivial⟩⟩ ?_
  clear hs hm
  intro k
  rintro a w ⟨L, res, y13, hm, hJ, hs⟩
  replace hs : St _ _ _ (L) _ _ _ := hs
  intro K3 hK3
  cases k with
  | zero => simp [match_All_1_l2] at hm
  | succ k14 =>
   rw [match_All_1_l2] at hm
   refine W_seq fun K4 hK4 => ?_
   refine W_region ?_
   refine sy hs (y_lss rfl rfl) ?_; clear hs; (try clear a w); intro a w hs
   refine RL_nil ?_
   refine hK4 _ _ ?_; clear hK4
   refine W_seq fun K5 hK5 => ?_
   refine W_cond hs rfl (fun hg15 => ?_) (fun hg15 => ?_)
   ·replace hm := oc_t hg15 hm
    refine W_skip ?_
    refine hK5 _ _ ?_; clear hK5
    refine W_seq fun K6 hK6 => ?_
    refine W_post (fun a w => ∃ (L : List Ent) (res : (List Int)), match_All_1_k3 y13 (match_All_1_l2 n q0 q1 k14) = some res ∧ J res L ∧ St 22 w0 f2 (L) [(0, .func (.yield l) #[] #[]), (1, .pointer (some ⟨cb0, 0, none⟩)), (2, .pointer (some ⟨cb1, 0, none⟩)), (7, .int .i64 ((q0.Nodes.length : Int))), (8, .int .i64 (y13))] a w) ?_ ?_
    ·clear hs hm
     rintro a w ⟨L, res, hm, hJ, hs⟩
     replace hs : St _ _ _ (L) _ _ _ := hs
     unfold match_All_1_k3 at hm
     refine hK6 _ _ ?_; clear hK6
     refine W_region ?_
     refine sy hs (y_add rfl rfl rfl) ?_; clear hs; (try clear a w); intro a w hs
     refine sy (v := .int .i64 ((w64 (y13 + 1)))) hs (y_move rfl) ?_; clear hs; (try clear a w); intro a w hs
     refine RL_nil ?_
     exact hK3 k14 _ _ (Nat.lt_succ_self _) ⟨_, _, (w64 (y13 + 1)), hm, hJ, hs.sub ⟨rfl, rfl, rfl, rfl, rfl, trivial⟩⟩
    ·refine W_block fun Qe7 hB7 hO7 => ?_
     refine W_seq fun K8 hK8 => ?_
     refine W_region ?_
     refine sy (v := .int .i64 (y13)) hs (y_move rfl) ?_; clear hs; (try clear a w); intro a w hs
     refine sy (v := .int .i64 (y13)) hs (y_assign rfl) ?_; clear hs; (try clear a w); intro a w hs
     refine RL_nil ?_
     refine hK8 _ _ ?_; clear hK8
     refine W_seq fun K9 hK9 => ?_
     refine W_region ?_
     refine sy hs (y_ldF rfl Tryd.underlying24 rfl ti24 hc0 rfl) ?_; clear hs; (try clear a w); intro a w hs
     refine sy (v := .int .i64 (y13)) hs (y_move rfl) ?_; clear hs; (try clear a w); intro a w hs
     refine sy hs (y_ldF rfl Tryd.underlying27 rfl ti27 hc1 rfl) ?_; clear hs; (try clear a w); intro a w hs
     obtain ⟨x16, hx17, hm⟩ := ob hm
     refine sy hs (y_call rfl has12 rfl (match_Match_ok n (f := f2) (a0 := [v1]) (a2 := [v7]) hT0 hT1 hTT ⟨_, rfl, ⟨rw2, hR3, hW4⟩⟩ ⟨_, rfl, ⟨rw8, hR9, hW10⟩⟩ hx17)) ?_; clear hs; (try clear a w); intro a w hs
     refine sy (v := .bool (x16)) hs (y_move rfl) ?_; clear hs; (try clear a w); intro a w hs
     refine St.split hs (t := 15) rfl (fun hg18 hq => ?_) (fun hg18 hq => ?_)
     ·clear hs; have hs := hq; clear hq
      replace hm := oc_t hg18 hm
      refine syg (v := .func (.yield l) #[] #[]) hs (y_move rfl) ?_; clear hs; (try clear a w); intro a w hs
      refine syg (v := .int .i64 (y13)) hs (y_move rfl) ?_; clear hs; (try clear a w); intro a w hs
      obtain ⟨res, hm', rfl⟩ := omap hm; clear hm; have hm := hm'; clear hm'
      refine RL_yieldJg (ents := []) hY hle hs rfl rfl hJ ?_ ?_ <;> clear hs hJ
      ·intro L a w hJ hs
       replace hs : St _ _ _ (L) _ _ _ := hs
       refine syg (v := .bool (false)) hs (y_not (b := true) rfl) ?_; clear hs; (try clear a w); intro a w hs
       refine sy (v := .bool (false)) hs (y_pick rfl rfl) ?_; clear hs; (try clear a w); intro a w hs
       refine RL_nil ?_
       refine hK9 _ _ ?_; clear hK9
       refine W_condF hs rfl ?_
       refine W_skip ?_
       exact ⟨_, _, hm, hJ, hs.sub ⟨rfl, rfl, rfl, rfl, rfl, trivial⟩⟩
      ·intro L a w hX hs
       replace hs : St _ _ _ (L) _ _ _ := hs
       refine syg (v := .bool (true)) hs (y_not (b := false) rfl) ?_; clear hs; (try clear a w); intro a w hs
       refine sy (v := .bool (true)) hs (y_pick rfl rfl) ?_; clear hs; (try clear a w); intro a w hs
       refine RL_nil ?_
       refine hK9 _ _ ?_; clear hK9
       refine W_condT hs rfl ?_
       refine W_ret ?_
       refine RtV0 hs rfl ?_
       exact ⟨_, L, rfl, (hs.weak hle).cw, .inr hX⟩
     ·clear hs; have hs := hq; clear hq
      replace hm := oc_f hg18 hm
      refine sno hs ?_; clear hs; (try clear a w); intro a w hs
      refine sno hs ?_; clear hs; (try clear a w); intro a w hs
      refine sno hs ?_; clear hs; (try clear a w); intro a w hs
      refine sno hs ?_; clear hs; (try clear a w); intro a w hs
      refine sy (v := .bool (false)) hs (y_pick rfl rfl) ?_; clear hs; (try clear a w); intro a w hs
      refine RL_nil ?_
      refine hK9 _ _ ?_; clear hK9
      refine W_condF hs rfl ?_
      refine W_skip ?_
      exact ⟨_, _, hm, hJ, hs.sub ⟨rfl, rfl, rfl, rfl, rfl, trivial⟩⟩
   ·replace hm := oc_f hg15 hm
    refine W_exit ?_
    refine hB2 _ _ ?_
    exact ⟨_, _, hm, hJ, hs.sub trivial⟩
end Go.Proofs.YtmkcglpeidbblaaDoor
