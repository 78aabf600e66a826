/-
  Walks and laws of this seat; the base is the text Base.
-/
import Derived.Test.YtekcbgnkikmhpaaBasg
import Derived.Test.YtekcbgnkikmhpaaL5g
/-
  Models of functions, and that the functions compute them. Printed by lift.py.
-/
namespace Go.Proofs.Ytekcbgnkikmhpaa
open Go.RowKit Go.Sl

/-! casement/dom.All$1 -/
def dom_All_1_k1 : Option (List Int) :=
  some []
def dom_All_1_l2 (q0 : api_Tree) (x11 : Int) : Nat → Int → Option (List Int)
  | 0, _ => none
  | k14 + 1, y13 =>
  (bif ((decide (y13 < x11)) && (decide (y13 < (q0.Nodes.length : Int)))) then ((dom_All_1_l2 q0 x11 k14) (w64 (y13 + 1))).map (y13 :: ·) else
  dom_All_1_k1)
def dom_All_1 (n : Nat) (q0 : api_Tree) (q1 : Int) : Option (List Int) :=
  (dom_has n q0 q1).bind fun x8 =>
  (bif (!x8) then some [] else
  (dom_end n q0 q1).bind fun x11 =>
  dom_All_1_l2 q0 x11 n q1)
theorem dom_All_1_it (n : Nat) {f : Fz} {cb0 : Nat} {q0 : api_Tree} {ca0 : List Value} {cb1 : Nat} {q1 : Int} {ca1 : List Value} {res : (List Int)} (hq0 : t_api_Tree.R f ca0 q0) (hc0 : f cb0 = some (.cells ca0.toArray 24 (0, 0))) (hq1 : (tInt .i64).R f ca1 q1) (hc1 : f cb1 = some (.cells ca1.toArray 3 (0, 0))) (hm : dom_All_1 n q0 q1 = some res) : Iter Try.prog 45 [.pointer (some ⟨cb0, 0, none⟩), .pointer (some ⟨cb1, 0, none⟩)] f res (fun x => .int .i64 x) := by
 unfold dom_All_1 at hm
 intro l w0 f2 J Jx L w hle0 hC hJ hY
 have hle := Fz.le.refl f2
 replace hq0 := t_api_Tree.mono hq0 hle0
 replace hc0 := hle0 _ _ hc0
 obtain ⟨v1, rfl, ⟨rw2, hR3, hW4⟩⟩ := hq0
 replace hq1 := (tInt .i64).mono hq1 hle0
 replace hc1 := hle0 _ _ hc1
 obtain rfl : _ = ([.int .i64 (q1)] : List Value) := hq1
 clear hle0
 show Calls _ _ (List.toArray (.func (.yield l) #[] #[] :: [.pointer (some ⟨cb0, 0, none⟩), .pointer (some ⟨cb1, 0, none⟩)])) _ _
 refine enter Try.func45 rfl Try.ntmps45 (by simp) hC fun a hs => ?_
 refine W_seq fun K1 hK1 => ?_
 refine W_seq fun K2 hK2 => ?_
 refine W_region ?_
 refine sy hs (y_ldF rfl Try.underlying24 rfl ti24 hc0 rfl) ?_; clear hs; (try clear a w); intro a w hs
 refine sy (v := .int .i64 (q1)) hs (y_ld rfl Try.underlying3 rfl (Cell.fz hc1 rfl)) ?_; clear hs; (try clear a w); intro a w hs
 obtain ⟨x8, hx9, hm⟩ := ob hm
 refine sy hs (y_call rfl has46 rfl (dom_has_ok n (f := f2) (a0 := [v1]) ⟨_, rfl, ⟨rw2, hR3, hW4⟩⟩ hx9)) ?_; clear hs; (try clear a w); intro a w hs
 refine sy (v := .bool ((!x8))) hs (y_not rfl) ?_; clear hs; (try clear a w); intro a w hs
 refine RL_nil ?_
 refine hK2 _ _ ?_; clear hK2
 refine W_cond hs rfl (fun hg10 => ?_) (fun hg10 => ?_)
 ·replace hm := oc_t hg10 hm
  refine W_ret ?_
  obtain rfl := Option.some.inj hm
  refine RtV0 hs rfl ?_
  exact ⟨_, L, rfl, (hs.weak hle).cw, .inl hJ⟩
 ·replace hm := oc_f hg10 hm
  refine W_skip ?_
  refine hK1 _ _ ?_; clear hK1
  refine W_seq fun K3 hK3 => ?_
  refine W_draw hs mixed (by kernel_rfl) ?_; intro a he
  refine qy (v := .int .i64 (q1)) he (y_ld rfl Try.underlying3 rfl (Cell.fz hc1 rfl)) ?_; clear he; (try clear a); intro a he
  refine qy he (y_ldF rfl Try.underlying24 rfl ti24 hc0 rfl) ?_; clear he; (try clear a); intro a he
  refine qy (v := .int .i64 (q1)) he (y_ld rfl Try.underlying3 rfl (Cell.fz hc1 rfl)) ?_; clear he; (try clear a); intro a he
  obtain ⟨x11, hx12, hm⟩ := ob hm
  refine qy he (y_call rfl has47 rfl (dom_end_ok n (f := f2) (a0 := [v1]) ⟨_, rfl, ⟨rw2, hR3, hW4⟩⟩ hx12)) ?_; clear he; (try clear a); intro a he
  refine qy (v := .int .i64 (q1)) he (y_assign rfl) ?_; clear he; (try clear a); intro a he
  refine qy (v := .int .i64 (x11)) he (y_assign rfl) ?_; clear he; (try clear a); intro a he
  refine QL_nil he ?_; clear he; (try clear hs); (try clear a); intro a w hs
  refine hK3 _ _ ?_; clear hK3
  refine W_post (fun a w => ∃ (L : List Ent) (res : (List Int)), dom_All_1_k1 = some res ∧ J res L ∧ St 30 w0 f2 (L) [] a w) ?_ ?_
  ·clear hs hm
   rintro a w ⟨L, res, hm, hJ, hs⟩
   replace hs : St _ _ _ (L) _ _ _ := hs
   unfold dom_All_1_k1 at hm
   obtain rfl := Option.some.inj hm
   refine RtV0 hs rfl ?_
   exact ⟨_, L, rfl, (hs.weak hle).cw, .inl hJ⟩
  ·refine W_block fun Qe4 hB4 hO4 => ?_
   refine W_loop (fun (k : Nat) a w => ∃ (L : List Ent) (res : (List Int)) (y13 : Int), dom_All_1_l2 q0 x11 k y13 = some res ∧ J res L ∧ St 30 w0 f2 (L) [(0, .func (.yield l) #[] #[]), (1, .pointer (some ⟨cb0, 0, none⟩)), (4, .int .i64 (y13)), (5, .int .i64 (x11))] a w) (fun k => k) n ⟨_, _, q1, hm, hJ, hs.sub ⟨rfl, rfl, rfl, rfl, trivial⟩⟩ ?_
   clear hs hm
   intro k
   rintro a w ⟨L, res, y13, hm, hJ, hs⟩
   replace hs : St _ _ _ (L) _ _ _ := hs
   intro K5 hK5
   cases k with
   | zero => simp [dom_All_1_l2] at hm
   | succ k14 =>
    rw [dom_All_1_l2] at hm
    refine W_seq fun K6 hK6 => ?_
    refine W_seq fun K7 hK7 => ?_
    refine W_post (fun a w => St 30 w0 f2 (L) [(0, .func (.yield l) #[] #[]), (1, .pointer (some ⟨cb0, 0, none⟩)), (4, .int .i64 (y13)), (5, .int .i64 (x11)), (23, .bool (((decide (y13 < x11)) && (decide (y13 < (q0.Nodes.length : Int))))))] a w) ?_ ?_
    ·clear hs; intro a w hs
     refine hK7 _ _ ?_; clear hK7
     refine W_cond hs rfl (fun hg15 => ?_) (fun hg15 => ?_)
     ·replace hm := oc_t hg15 hm
      refine W_skip ?_
      refine hK6 _ _ ?_; clear hK6
      refine W_seq fun K8 hK8 => ?_
      refine W_block fun Qe9 hB9 hO9 => ?_
      refine W_seq fun K10 hK10 => ?_
      refine W_region ?_
      refine sy (v := .func (.yield l) #[] #[]) hs (y_move rfl) ?_; clear hs; (try clear a w); intro a w hs
      refine sy (v := .int .i64 (y13)) hs (y_move rfl) ?_; clear hs; (try clear a w); intro a w hs
      obtain ⟨res, hm', rfl⟩ := omap hm; clear hm; have hm := hm'; clear hm'
      refine RL_yieldJ (ents := []) hY hle hs rfl rfl hJ ?_ ?_ <;> clear hs hJ
      ·intro L a w hJ hs
       replace hs : St _ _ _ (L) _ _ _ := hs
       refine sy (v := .bool (false)) hs (y_not (b := true) rfl) ?_; clear hs; (try clear a w); intro a w hs
       refine RL_nil ?_
       refine hK10 _ _ ?_; clear hK10
       refine W_condF hs rfl ?_
       refine W_skip ?_
       refine hK8 _ _ ?_; clear hK8
       refine W_region ?_
       refine sy (v := .int .i64 (y13)) hs (y_move rfl) ?_; clear hs; (try clear a w); intro a w hs
       refine sy hs (y_add rfl rfl rfl) ?_; clear hs; (try clear a w); intro a w hs
       refine sy (v := .int .i64 ((w64 (y13 + 1)))) hs (y_assign rfl) ?_; clear hs; (try clear a w); intro a w hs
       refine RL_nil ?_
       exact hK5 k14 _ _ (Nat.lt_succ_self _) ⟨_, _, (w64 (y13 + 1)), hm, hJ, hs.sub ⟨rfl, rfl, rfl, rfl, trivial⟩⟩
      ·intro L a w hX hs
       replace hs : St _ _ _ (L) _ _ _ := hs
       refine sy (v := .bool (true)) hs (y_not (b := false) rfl) ?_; clear hs; (try clear a w); intro a w hs
       refine RL_nil ?_
       refine hK10 _ _ ?_; clear hK10
       refine W_condT hs rfl ?_
       refine W_ret ?_
       refine RtV0 hs rfl ?_
       exact ⟨_, L, rfl, (hs.weak hle).cw, .inr hX⟩
     ·replace hm := oc_f hg15 hm
      refine W_exit ?_
      refine hB4 _ _ ?_
      exact ⟨_, _, hm, hJ, hs.sub trivial⟩
    ·refine W_region ?_
     refine sy (v := .int .i64 (y13)) hs (y_move rfl) ?_; clear hs; (try clear a w); intro a w hs
     refine sy (v := .int .i64 (x11)) hs (y_move rfl) ?_; clear hs; (try clear a w); intro a w hs
     refine sy hs (y_lss rfl rfl) ?_; clear hs; (try clear a w); intro a w hs
     refine sy (v := .bool (decide (y13 < x11))) hs (y_move rfl) ?_; clear hs; (try clear a w); intro a w hs
     refine St.split hs (t := 17) rfl (fun hg16 hq => ?_) (fun hg16 hq => ?_)
     ·clear hs; have hs := hq; clear hq
      refine syg (v := .int .i64 (y13)) hs (y_move rfl) ?_; clear hs; (try clear a w); intro a w hs
      refine syg (v := .pointer (some ⟨cb0, 0, none⟩)) hs (y_fieldAddr rfl (FO.of (off := 0) Try.underlying24 rfl rfl ti22 (by decide))) ?_; clear hs; (try clear a w); intro a w hs
      refine syg (v := v1) hs (y_ld rfl Try.underlying22 rfl (Cell.fz hc0 rfl)) ?_; clear hs; (try clear a w); intro a w hs
      refine syg hs (y_lenW hR3 hW4 rfl Try.underlying22) ?_; clear hs; (try clear a w); intro a w hs
      refine syg hs (y_lss rfl rfl) ?_; clear hs; (try clear a w); intro a w hs
      refine sy (v := .bool (decide (y13 < (q0.Nodes.length : Int)))) hs (y_pick rfl rfl) ?_; clear hs; (try clear a w); intro a w hs
      refine RL_nil ?_
      exact hs.sub ⟨rfl, rfl, rfl, rfl, (lkB (((and_t hg16).trans rfl)) rfl), trivial⟩
     ·clear hs; have hs := hq; clear hq
      refine sno hs ?_; clear hs; (try clear a w); intro a w hs
      refine sno hs ?_; clear hs; (try clear a w); intro a w hs
      refine sno hs ?_; clear hs; (try clear a w); intro a w hs
      refine sno hs ?_; clear hs; (try clear a w); intro a w hs
      refine sno hs ?_; clear hs; (try clear a w); intro a w hs
      refine sy (v := .bool (false)) hs (y_pick rfl rfl) ?_; clear hs; (try clear a w); intro a w hs
      refine RL_nil ?_
      exact hs.sub ⟨rfl, rfl, rfl, rfl, (lkB (((and_f hg16).trans rfl)) rfl), trivial⟩

end Go.Proofs.Ytekcbgnkikmhpaa
