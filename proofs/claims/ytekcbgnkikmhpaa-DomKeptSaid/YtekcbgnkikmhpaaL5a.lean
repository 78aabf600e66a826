/-
  Walks and laws of this seat; the base is the text Base.
-/
import Derived.Test.YtekcbgnkikmhpaaG5
import Derived.Test.YtekcbgnkikmhpaaRows
/-
  Models of functions, and that the functions compute them. Printed by lift.py.
-/
namespace Go.Proofs.Ytekcbgnkikmhpaa
open Go.RowKit Go.Sl
/-! casement/dom.has -/
def dom_has (_n : Nat) (p0 : api_Tree) (p1 : Int) : Option Bool :=
  some ((decide (0 ≤ p1)) && (decide (p1 < (p0.Nodes.length : Int))))
theorem dom_has_ok (n : Nat) {f : Fz} {p0 : api_Tree} {a0 : List Value} {p1 : Int} {res : Bool} (h0 : t_api_Tree.R f a0 p0) (hm : dom_has n p0 p1 = some res) : Gives Try.prog 46 [.agg a0.toArray, .int .i64 p1] f (.bool res) := by
 unfold dom_has at hm
 intro w0 L w hC
 obtain ⟨v1, rfl, ⟨rw2, hR3, hW4⟩⟩ := h0
 refine enter Try.func46 rfl Try.ntmps46 (by simp) hC fun a hs => ?_
 have hle := Fz.le.refl f
 refine W_seq fun K1 hK1 => ?_
 refine W_region ?_
 refine sbox hs rfl ?_; clear hs; (try clear a w); intro b6 a w hs
 replace hs : St _ _ _ (.blk b6 (.cells #[v1] 24 (0, 0)) :: L) _ _ _ := hs
 refine sy (v := .bool (false)) hs (y_assign rfl) ?_; clear hs; (try clear a w); intro a w hs
 refine RL_nil ?_
 refine hK1 _ _ ?_; clear hK1
 refine W_seq fun K2 hK2 => ?_
 refine W_post (fun a w => St 14 w0 f (.blk b6 (.cells #[v1] 24 (0, 0)) :: L) [(4, .bool (((decide (0 ≤ p1)) && (decide (p1 < (p0.Nodes.length : Int))))))] a w) ?_ ?_
 ·clear hs; intro a w hs
  refine hK2 _ _ ?_; clear hK2
  refine W_ret ?_
  obtain rfl := Option.some.inj hm
  refine RtV1 hs rfl (rv_t hs rfl) ?_
  exact ⟨rfl, ((hs.subL (.cons _ (.refl _))).weak hle).cw⟩
 ·refine W_region ?_
  refine sy (v := .int .i64 (p1)) hs (y_move rfl) ?_; clear hs; (try clear a w); intro a w hs
  refine sy hs (y_geq rfl rfl) ?_; clear hs; (try clear a w); intro a w hs
  refine sy (v := .bool (decide (0 ≤ p1))) hs (y_move rfl) ?_; clear hs; (try clear a w); intro a w hs
  refine St.split hs (t := 7) rfl (fun hg8 hq => ?_) (fun hg8 hq => ?_)
  ·clear hs; have hs := hq; clear hq
   refine syg (v := .int .i64 (p1)) hs (y_move rfl) ?_; clear hs; (try clear a w); intro a w hs
   refine syg (v := .pointer (some ⟨b6, 0, none⟩)) hs (y_fieldAddr rfl (FO.of (off := 0) Try.underlying24 rfl rfl ti22 (by decide))) ?_; clear hs; (try clear a w); intro a w hs
   refine syg (v := v1) hs (y_ld rfl Try.underlying22 rfl (Cell.blk (.head _) rfl)) ?_; clear hs; (try clear a w); intro a w hs
   refine syg hs (y_lenW hR3 hW4 rfl Try.underlying22) ?_; clear hs; (try clear a w); intro a w hs
   refine syg hs (y_lss rfl rfl) ?_; clear hs; (try clear a w); intro a w hs
   refine sy (v := .bool (decide (p1 < (p0.Nodes.length : Int)))) hs (y_pick rfl rfl) ?_; clear hs; (try clear a w); intro a w hs
   refine sy (v := .bool (decide (p1 < (p0.Nodes.length : Int)))) hs (y_assign rfl) ?_; clear hs; (try clear a w); intro a w hs
   refine RL_nil ?_
   exact hs.sub ⟨(lkB (((and_t hg8).trans rfl)) rfl), trivial⟩
  ·clear hs; have hs := hq; clear hq
   refine sno hs ?_; clear hs; (try clear a w); intro a w hs
   refine sno hs ?_; clear hs; (try clear a w); intro a w hs
   refine sno hs ?_; clear hs; (try clear a w); intro a w hs
   refine sno hs ?_; clear hs; (try clear a w); intro a w hs
   refine sno hs ?_; clear hs; (try clear a w); intro a w hs
   refine sy (v := .bool (false)) hs (y_pick rfl rfl) ?_; clear hs; (try clear a w); intro a w hs
   refine sy (v := .bool (false)) hs (y_assign rfl) ?_; clear hs; (try clear a w); intro a w hs
   refine RL_nil ?_
   exact hs.sub ⟨(lkB (((and_f hg8).trans rfl)) rfl), trivial⟩
/-! casement/dom.end -/
/-! casement/dom.Depth -/
def dom_Depth_k1 (y8 : Int) : Option Int :=
  some y8
def dom_Depth_k3 (p0 : api_Tree) (y9 : Int) (y10 : Int) (lp11 : Int → Int → Option Int) (y12 : Bool) : Option Int :=
  (bif y12 then (geti p0.Nodes y9).bind fun x14 =>
  lp11 x14.Parent (w64 (y10 + 1)) else
  dom_Depth_k1 y10)
def dom_Depth_l2 (n : Nat) (p0 : api_Tree) : Nat → Int → Int → Option Int
  | 0, _, _ => none
  | k11 + 1, y9, y10 =>
  (dom_has n p0 y9).bind fun x26 =>
  (bif x26 then dom_Depth_k3 p0 y9 y10 (dom_Depth_l2 n p0 k11) (decide (y10 ≤ (p0.Nodes.length : Int))) else
  dom_Depth_k3 p0 y9 y10 (dom_Depth_l2 n p0 k11) false)
def dom_Depth (n : Nat) (p0 : api_Tree) (p1 : Int) : Option Int :=
  dom_Depth_l2 n p0 n p1 0
theorem dom_Depth_ok (n : Nat) {f : Fz} {p0 : api_Tree} {a0 : List Value} {p1 : Int} {res : Int} (h0 : t_api_Tree.R f a0 p0) (hm : dom_Depth n p0 p1 = some res) : Gives Try.prog 25 [.agg a0.toArray, .int .i64 p1] f (.int .i64 res) := by
 unfold dom_Depth at hm
 intro w0 L w hC
 obtain ⟨v1, rfl, ⟨rw2, hR3, hW4⟩⟩ := h0
 refine enter Try.func25 rfl Try.ntmps25 (by simp) hC fun a hs => ?_
 have hle := Fz.le.refl f
 refine W_seq fun K1 hK1 => ?_
 refine W_region ?_
 refine sbox hs rfl ?_; clear hs; (try clear a w); intro b6 a w hs
 replace hs : St _ _ _ (.blk b6 (.cells #[v1] 24 (0, 0)) :: L) _ _ _ := hs
 refine sy (v := .int .i64 (0)) hs (y_assign rfl) ?_; clear hs; (try clear a w); intro a w hs
 refine RL_nil ?_
 refine hK1 _ _ ?_; clear hK1
 refine W_seq fun K2 hK2 => ?_
 refine W_region ?_
 refine sy (v := .int .i64 (0)) hs (y_assign rfl) ?_; clear hs; (try clear a w); intro a w hs
 refine RL_nil ?_
 refine hK2 _ _ ?_; clear hK2
 refine W_seq fun K3 hK3 => ?_
 refine W_post (fun a w => ∃ (y8 : Int), dom_Depth_k1 y8 = some res ∧ St 25 w0 f (L) [(5, .int .i64 (y8))] a w) ?_ ?_
 ·clear hs hm
  rintro a w ⟨y8, hm, hs⟩
  replace hs : St _ _ _ (L) _ _ _ := hs
  unfold dom_Depth_k1 at hm
  refine hK3 _ _ ?_; clear hK3
  refine W_seq fun K4 hK4 => ?_
  refine W_region ?_
  refine sy (v := .int .i64 (y8)) hs (y_move rfl) ?_; clear hs; (try clear a w); intro a w hs
  refine sy (v := .int .i64 (y8)) hs (y_assign rfl) ?_; clear hs; (try clear a w); intro a w hs
  refine RL_nil ?_
  refine hK4 _ _ ?_; clear hK4
  refine W_ret ?_
  obtain rfl := Option.some.inj hm
  refine RtV1 hs rfl (rv_t hs rfl) ?_
  exact ⟨rfl, (hs.weak hle).cw⟩
 ·refine W_block fun Qe5 hB5 hO5 => ?_
  refine W_loop (fun (k : Nat) a w => ∃ (y9 : Int) (y10 : Int), dom_Depth_l2 n p0 k y9 y10 = some res ∧ St 25 w0 f (.blk b6 (.cells #[v1] 24 (0, 0)) :: L) [(1, .int .i64 (y9)), (2, .pointer (some ⟨b6, 0, none⟩)), (5, .int .i64 (y10))] a w) (fun k => k) n ⟨p1, 0, hm, hs.sub ⟨rfl, rfl, rfl, trivial⟩⟩ ?_
  clear hs hm
  intro k
  rintro a w ⟨y9, y10, hm, hs⟩
  replace hs : St _ _ _ (.blk b6 (.cells #[v1] 24 (0, 0)) :: L) _ _ _ := hs
  intro K6 hK6
  cases k with
  | zero => simp [dom_Depth_l2] at hm
  | succ k11 =>
   rw [dom_Depth_l2] at hm
   refine W_seq fun K7 hK7 => ?_
   refine W_seq fun K8 hK8 => ?_
   refine W_post (fun a w => ∃ (y12 : Bool), dom_Depth_k3 p0 y9 y10 (dom_Depth_l2 n p0 k11) y12 = some res ∧ St 25 w0 f (.blk b6 (.cells #[v1] 24 (0, 0)) :: L) [(1, .int .i64 (y9)), (2, .pointer (some ⟨b6, 0, none⟩)), (5, .int .i64 (y10)), (15, .bool (y12))] a w) ?_ ?_
   ·clear hs hm
    rintro a w ⟨y12, hm, hs⟩
    replace hs : St _ _ _ (.blk b6 (.cells #[v1] 24 (0, 0)) :: L) _ _ _ := hs
    unfold dom_Depth_k3 at hm
    refine hK8 _ _ ?_; clear hK8
    refine W_cond hs rfl (fun hg13 => ?_) (fun hg13 => ?_)
    ·replace hm := oc_t hg13 hm
     refine W_skip ?_
     refine hK7 _ _ ?_; clear hK7
     refine W_seq fun K9 hK9 => ?_
     refine W_block fun Qe10 hB10 hO10 => ?_
     refine W_region ?_
     refine sy (v := .int .i64 (y10)) hs (y_move rfl) ?_; clear hs; (try clear a w); intro a w hs
     refine sy hs (y_add rfl rfl rfl) ?_; clear hs; (try clear a w); intro a w hs
     refine sy (v := .int .i64 ((w64 (y10 + 1)))) hs (y_assign rfl) ?_; clear hs; (try clear a w); intro a w hs
     refine RL_nil ?_
     refine hK9 _ _ ?_; clear hK9
     refine W_region ?_
     refine sy (v := .pointer (some ⟨b6, 0, none⟩)) hs (y_fieldAddr rfl (FO.of (off := 0) Try.underlying24 rfl rfl ti22 (by decide))) ?_; clear hs; (try clear a w); intro a w hs
     refine sy (v := v1) hs (y_ld rfl Try.underlying22 rfl (Cell.blk (.head _) rfl)) ?_; clear hs; (try clear a w); intro a w hs
     refine sy (v := .int .i64 (y9)) hs (y_move rfl) ?_; clear hs; (try clear a w); intro a w hs
     obtain ⟨x14, hx15, hm⟩ := ob hm
     obtain ⟨r16, hr17, hq18, hi19, hb20⟩ := hW4.geti hx15
     obtain ⟨v21, rfl, ⟨rw22, hR23, hW24⟩⟩ := hq18
     refine sy hs (y_indexAddr hR3 rfl rfl hi19 hb20 Try.underlying22 ti59) ?_; clear hs; (try clear a w); intro a w hs
     refine sy (v := eaddr v1 9 y9.toNat 4) hs (y_fieldAddrE (i := y9.toNat) (j := 0) hR3 rfl hb20 (FO.of (off := 4) Try.underlying59 rfl rfl ti3 (by decide))) ?_; clear hs; (try clear a w); intro a w hs
     refine sy (v := .int .i64 (x14.Parent)) hs (y_loadE (i := y9.toNat) (j := 4) hR3.up rfl hr17 rfl Try.underlying3 rfl) ?_; clear hs; (try clear a w); intro a w hs
     refine sy (v := .int .i64 (x14.Parent)) hs (y_assign rfl) ?_; clear hs; (try clear a w); intro a w hs
     refine RL_nil ?_
     exact hK6 k11 _ _ (Nat.lt_succ_self _) ⟨x14.Parent, (w64 (y10 + 1)), hm, hs.sub ⟨rfl, rfl, rfl, trivial⟩⟩
    ·replace hm := oc_f hg13 hm
     refine W_exit ?_
     refine hB5 _ _ ?_
     exact ⟨y10, hm, hs.subs ⟨rfl, trivial⟩ (.cons _ (.refl _))⟩
   ·refine W_region ?_
    refine sy hs (y_ldB rfl Try.underlying24 rfl ti24 (.head _) rfl) ?_; clear hs; (try clear a w); intro a w hs
    refine sy (v := .int .i64 (y9)) hs (y_move rfl) ?_; clear hs; (try clear a w); intro a w hs
    obtain ⟨x26, hx27, hm⟩ := ob hm
    refine sy hs (y_call rfl has46 rfl (dom_has_ok n (f := f) (a0 := [v1]) ⟨_, rfl, ⟨rw2, hR3, hW4⟩⟩ hx27)) ?_; clear hs; (try clear a w); intro a w hs
    refine sy (v := .bool (x26)) hs (y_move rfl) ?_; clear hs; (try clear a w); intro a w hs
    refine St.split hs (t := 9) rfl (fun hg28 hq => ?_) (fun hg28 hq => ?_)
    ·clear hs; have hs := hq; clear hq
     replace hm := oc_t hg28 hm
     refine syg (v := .int .i64 (y10)) hs (y_move rfl) ?_; clear hs; (try clear a w); intro a w hs
     refine syg (v := .pointer (some ⟨b6, 0, none⟩)) hs (y_fieldAddr rfl (FO.of (off := 0) Try.underlying24 rfl rfl ti22 (by decide))) ?_; clear hs; (try clear a w); intro a w hs
     refine syg (v := v1) hs (y_ld rfl Try.underlying22 rfl (Cell.blk (.head _) rfl)) ?_; clear hs; (try clear a w); intro a w hs
     refine syg hs (y_lenW hR3 hW4 rfl Try.underlying22) ?_; clear hs; (try clear a w); intro a w hs
     refine syg hs (y_leq rfl rfl) ?_; clear hs; (try clear a w); intro a w hs
     refine sy (v := .bool (decide (y10 ≤ (p0.Nodes.length : Int)))) hs (y_pick rfl rfl) ?_; clear hs; (try clear a w); intro a w hs
     refine RL_nil ?_
     exact ⟨decide (y10 ≤ (p0.Nodes.length : Int)), hm, hs.sub ⟨rfl, rfl, rfl, rfl, trivial⟩⟩
    ·clear hs; have hs := hq; clear hq
     replace hm := oc_f hg28 hm
     refine sno hs ?_; clear hs; (try clear a w); intro a w hs
     refine sno hs ?_; clear hs; (try clear a w); intro a w hs
     refine sno hs ?_; clear hs; (try clear a w); intro a w hs
     refine sno hs ?_; clear hs; (try clear a w); intro a w hs
     refine sno hs ?_; clear hs; (try clear a w); intro a w hs
     refine sy (v := .bool (false)) hs (y_pick rfl rfl) ?_; clear hs; (try clear a w); intro a w hs
     refine RL_nil ?_
     exact ⟨false, hm, hs.sub ⟨rfl, rfl, rfl, rfl, trivial⟩⟩
/-! casement/dom.Index -/
def dom_Index_k2 (y22 : Int) : Option Int :=
  some y22
def dom_Index_k5 (p0 : api_Tree) (y24 : Int) (y25 : Int) (lp26 : Int → Int → Int → Option Int) (y41 : Int) : Option Int :=
  (geti p0.Nodes y24).bind fun x42 =>
  lp26 y41 x42.Prev (w64 (y25 + 1))
def dom_Index_k4 (p0 : api_Tree) (y23 : Int) (y24 : Int) (y25 : Int) (lp26 : Int → Int → Int → Option Int) (y27 : Bool) : Option Int :=
  (bif y27 then (geti p0.Nodes y24).bind fun x29 =>
  (bif (decide (x29.Kind = 1)) then dom_Index_k5 p0 y24 y25 lp26 (w64 (y23 + 1)) else
  dom_Index_k5 p0 y24 y25 lp26 y23) else
  dom_Index_k2 y23)
def dom_Index_l3 (n : Nat) (p0 : api_Tree) : Nat → Int → Int → Int → Option Int
  | 0, _, _, _ => none
  | k26 + 1, y23, y24, y25 =>
  (dom_has n p0 y24).bind fun x55 =>
  (bif x55 then dom_Index_k4 p0 y23 y24 y25 (dom_Index_l3 n p0 k26) (decide (y25 ≤ (p0.Nodes.length : Int))) else
  dom_Index_k4 p0 y23 y24 y25 (dom_Index_l3 n p0 k26) false)
def dom_Index_k1 (n : Nat) (p0 : api_Tree) (p1 : Int) (y8 : Bool) : Option Int :=
  (bif y8 then some 0 else
  (geti p0.Nodes p1).bind fun x10 =>
  dom_Index_l3 n p0 n 1 x10.Prev 0)
def dom_Index (n : Nat) (p0 : api_Tree) (p1 : Int) : Option Int :=
  (dom_has n p0 p1).bind fun x58 =>
  (bif (!x58) then dom_Index_k1 n p0 p1 true else
  (geti p0.Nodes p1).bind fun x61 =>
  dom_Index_k1 n p0 p1 (decide (x61.Kind ≠ 1)))
theorem dom_Index_ok (n : Nat) {f : Fz} {p0 : api_Tree} {a0 : List Value} {p1 : Int} {res : Int} (h0 : t_api_Tree.R f a0 p0) (hm : dom_Index n p0 p1 = some res) : Gives Try.prog 27 [.agg a0.toArray, .int .i64 p1] f (.int .i64 res) := by
 unfold dom_Index at hm
 intro w0 L w hC
 obtain ⟨v1, rfl, ⟨rw2, hR3, hW4⟩⟩ := h0
 refine enter Try.func27 rfl Try.ntmps27 (by simp) hC fun a hs => ?_
 have hle := Fz.le.refl f
 refine W_seq fun K1 hK1 => ?_
 refine W_region ?_
 refine sbox hs rfl ?_; clear hs; (try clear a w); intro b6 a w hs
 replace hs : St _ _ _ (.blk b6 (.cells #[v1] 24 (0, 0)) :: L) _ _ _ := hs
 refine sy (v := .int .i64 (0)) hs (y_assign rfl) ?_; clear hs; (try clear a w); intro a w hs
 refine RL_nil ?_
 refine hK1 _ _ ?_; clear hK1
 refine W_seq fun K2 hK2 => ?_
 refine W_seq fun K3 hK3 => ?_
 refine W_post (fun a w => ∃ (y8 : Bool), dom_Index_k1 n p0 p1 y8 = some res ∧ St 55 w0 f (.blk b6 (.cells #[v1] 24 (0, 0)) :: L) [(1, .int .i64 (p1)), (2, .pointer (some ⟨b6, 0, none⟩)), (20, .bool (y8))] a w) ?_ ?_
 ·clear hs hm
  rintro a w ⟨y8, hm, hs⟩
  replace hs : St _ _ _ (.blk b6 (.cells #[v1] 24 (0, 0)) :: L) _ _ _ := hs
  unfold dom_Index_k1 at hm
  refine hK3 _ _ ?_; clear hK3
  refine W_cond hs rfl (fun hg9 => ?_) (fun hg9 => ?_)
  ·replace hm := oc_t hg9 hm
   refine W_seq fun K4 hK4 => ?_
   refine W_region ?_
   refine sy (v := .int .i64 (0)) hs (y_assign rfl) ?_; clear hs; (try clear a w); intro a w hs
   refine RL_nil ?_
   refine hK4 _ _ ?_; clear hK4
   refine W_ret ?_
   obtain rfl := Option.some.inj hm
   refine RtV1 hs rfl (rv_t hs rfl) ?_
   exact ⟨rfl, ((hs.subL (.cons _ (.refl _))).weak hle).cw⟩
  ·replace hm := oc_f hg9 hm
   refine W_skip ?_
   refine hK2 _ _ ?_; clear hK2
   refine W_seq fun K5 hK5 => ?_
   refine W_region ?_
   refine sy (v := .int .i64 (1)) hs (y_assign rfl) ?_; clear hs; (try clear a w); intro a w hs
   refine RL_nil ?_
   refine hK5 _ _ ?_; clear hK5
   refine W_seq fun K6 hK6 => ?_
   refine W_seq fun K7 hK7 => ?_
   refine W_region ?_
   refine sy (v := .pointer (some ⟨b6, 0, none⟩)) hs (y_fieldAddr rfl (FO.of (off := 0) Try.underlying24 rfl rfl ti22 (by decide))) ?_; clear hs; (try clear a w); intro a w hs
   refine sy (v := v1) hs (y_ld rfl Try.underlying22 rfl (Cell.blk (.head _) rfl)) ?_; clear hs; (try clear a w); intro a w hs
   refine sy (v := .int .i64 (p1)) hs (y_move rfl) ?_; clear hs; (try clear a w); intro a w hs
   obtain ⟨x10, hx11, hm⟩ := ob hm
   obtain ⟨r12, hr13, hq14, hi15, hb16⟩ := hW4.geti hx11
   obtain ⟨v17, rfl, ⟨rw18, hR19, hW20⟩⟩ := hq14
   refine sy hs (y_indexAddr hR3 rfl rfl hi15 hb16 Try.underlying22 ti59) ?_; clear hs; (try clear a w); intro a w hs
   refine sy (v := eaddr v1 9 p1.toNat 7) hs (y_fieldAddrE (i := p1.toNat) (j := 0) hR3 rfl hb16 (FO.of (off := 7) Try.underlying59 rfl rfl ti3 (by decide))) ?_; clear hs; (try clear a w); intro a w hs
   refine sy (v := .int .i64 (x10.Prev)) hs (y_loadE (i := p1.toNat) (j := 7) hR3.up rfl hr13 rfl Try.underlying3 rfl) ?_; clear hs; (try clear a w); intro a w hs
   refine sy (v := .int .i64 (x10.Prev)) hs (y_assign rfl) ?_; clear hs; (try clear a w); intro a w hs
   refine sy (v := .int .i64 (0)) hs (y_assign rfl) ?_; clear hs; (try clear a w); intro a w hs
   refine RL_nil ?_
   refine hK7 _ _ ?_; clear hK7
   refine W_post (fun a w => ∃ (y22 : Int), dom_Index_k2 y22 = some res ∧ St 55 w0 f (L) [(5, .int .i64 (y22))] a w) ?_ ?_
   ·clear hs hm
    rintro a w ⟨y22, hm, hs⟩
    replace hs : St _ _ _ (L) _ _ _ := hs
    unfold dom_Index_k2 at hm
    refine hK6 _ _ ?_; clear hK6
    refine W_seq fun K8 hK8 => ?_
    refine W_region ?_
    refine sy (v := .int .i64 (y22)) hs (y_move rfl) ?_; clear hs; (try clear a w); intro a w hs
    refine sy (v := .int .i64 (y22)) hs (y_assign rfl) ?_; clear hs; (try clear a w); intro a w hs
    refine RL_nil ?_
    refine hK8 _ _ ?_; clear hK8
    refine W_ret ?_
    obtain rfl := Option.some.inj hm
    refine RtV1 hs rfl (rv_t hs rfl) ?_
    exact ⟨rfl, (hs.weak hle).cw⟩
   ·refine W_block fun Qe9 hB9 hO9 => ?_
    refine W_loop (fun (k : Nat) a w => ∃ (y23 : Int) (y24 : Int) (y25 : Int), dom_Index_l3 n p0 k y23 y24 y25 = some res ∧ St 55 w0 f (.blk b6 (.cells #[v1] 24 (0, 0)) :: L) [(2, .pointer (some ⟨b6, 0, none⟩)), (5, .int .i64 (y23)), (6, .int .i64 (y24)), (7, .int .i64 (y25))] a w) (fun k => k) n ⟨1, x10.Prev, 0, hm, hs.sub ⟨rfl, rfl, rfl, rfl, trivial⟩⟩ ?_
    clear hs hm
    intro k
    rintro a w ⟨y23, y24, y25, hm, hs⟩
    replace hs : St _ _ _ (.blk b6 (.cells #[v1] 24 (0, 0)) :: L) _ _ _ := hs
    intro K10 hK10
    cases k with
    | zero => simp [dom_Index_l3] at hm
    | succ k26 =>
     rw [dom_Index_l3] at hm
     refine W_seq fun K11 hK11 => ?_
     refine W_seq fun K12 hK12 => ?_
     refine W_post (fun a w => ∃ (y27 : Bool), dom_Index_k4 p0 y23 y24 y25 (dom_Index_l3 n p0 k26) y27 = some res ∧ St 55 w0 f (.blk b6 (.cells #[v1] 24 (0, 0)) :: L) [(2, .pointer (some ⟨b6, 0, none⟩)), (5, .int .i64 (y23)), (6, .int .i64 (y24)), (7, .int .i64 (y25)), (36, .bool (y27))] a w) ?_ ?_
     ·clear hs hm
      rintro a w ⟨y27, hm, hs⟩
      replace hs : St _ _ _ (.blk b6 (.cells #[v1] 24 (0, 0)) :: L) _ _ _ := hs
      unfold dom_Index_k4 at hm
      refine hK12 _ _ ?_; clear hK12
      refine W_cond hs rfl (fun hg28 => ?_) (fun hg28 => ?_)
      ·replace hm := oc_t hg28 hm
       refine W_skip ?_
       refine hK11 _ _ ?_; clear hK11
       refine W_seq fun K13 hK13 => ?_
       refine W_block fun Qe14 hB14 hO14 => ?_
       refine W_seq fun K15 hK15 => ?_
       refine W_region ?_
       refine sy (v := .pointer (some ⟨b6, 0, none⟩)) hs (y_fieldAddr rfl (FO.of (off := 0) Try.underlying24 rfl rfl ti22 (by decide))) ?_; clear hs; (try clear a w); intro a w hs
       refine sy (v := v1) hs (y_ld rfl Try.underlying22 rfl (Cell.blk (.head _) rfl)) ?_; clear hs; (try clear a w); intro a w hs
       refine sy (v := .int .i64 (y24)) hs (y_move rfl) ?_; clear hs; (try clear a w); intro a w hs
       obtain ⟨x29, hx30, hm⟩ := ob hm
       obtain ⟨r31, hr32, hq33, hi34, hb35⟩ := hW4.geti hx30
       obtain ⟨v36, rfl, ⟨rw37, hR38, hW39⟩⟩ := hq33
       refine sy hs (y_indexAddr hR3 rfl rfl hi34 hb35 Try.underlying22 ti59) ?_; clear hs; (try clear a w); intro a w hs
       refine sy (v := eaddr v1 9 y24.toNat 0) hs (y_fieldAddrE (i := y24.toNat) (j := 0) hR3 rfl hb35 (FO.of (off := 0) Try.underlying59 rfl rfl ti3 (by decide))) ?_; clear hs; (try clear a w); intro a w hs
       refine sy (v := .int .i64 (x29.Kind)) hs (y_loadE (i := y24.toNat) (j := 0) hR3.up rfl hr32 rfl Try.underlying3 rfl) ?_; clear hs; (try clear a w); intro a w hs
       refine sy hs (y_eql rfl rfl) ?_; clear hs; (try clear a w); intro a w hs
       refine RL_nil ?_
       refine hK15 _ _ ?_; clear hK15
       refine W_post (fun a w => ∃ (y41 : Int), dom_Index_k5 p0 y24 y25 (dom_Index_l3 n p0 k26) y41 = some res ∧ St 55 w0 f (.blk b6 (.cells #[v1] 24 (0, 0)) :: L) [(2, .pointer (some ⟨b6, 0, none⟩)), (5, .int .i64 (y41)), (6, .int .i64 (y24)), (7, .int .i64 (y25))] a w) ?_ ?_
       ·clear hs hm
        rintro a w ⟨y41, hm, hs⟩
        replace hs : St _ _ _ (.blk b6 (.cells #[v1] 24 (0, 0)) :: L) _ _ _ := hs
        unfold dom_Index_k5 at hm
        refine hK13 _ _ ?_; clear hK13
        refine W_region ?_
        refine sy (v := .pointer (some ⟨b6, 0, none⟩)) hs (y_fieldAddr rfl (FO.of (off := 0) Try.underlying24 rfl rfl ti22 (by decide))) ?_; clear hs; (try clear a w); intro a w hs
        refine sy (v := v1) hs (y_ld rfl Try.underlying22 rfl (Cell.blk (.head _) rfl)) ?_; clear hs; (try clear a w); intro a w hs
        refine sy (v := .int .i64 (y24)) hs (y_move rfl) ?_; clear hs; (try clear a w); intro a w hs
        obtain ⟨x42, hx43, hm⟩ := ob hm
        obtain ⟨r44, hr45, hq46, hi47, hb48⟩ := hW4.geti hx43
        obtain ⟨v49, rfl, ⟨rw50, hR51, hW52⟩⟩ := hq46
        refine sy hs (y_indexAddr hR3 rfl rfl hi47 hb48 Try.underlying22 ti59) ?_; clear hs; (try clear a w); intro a w hs
        refine sy (v := eaddr v1 9 y24.toNat 7) hs (y_fieldAddrE (i := y24.toNat) (j := 0) hR3 rfl hb48 (FO.of (off := 7) Try.underlying59 rfl rfl ti3 (by decide))) ?_; clear hs; (try clear a w); intro a w hs
        refine sy (v := .int .i64 (x42.Prev)) hs (y_loadE (i := y24.toNat) (j := 7) hR3.up rfl hr45 rfl Try.underlying3 rfl) ?_; clear hs; (try clear a w); intro a w hs
        refine sy (v := .int .i64 (y25)) hs (y_move rfl) ?_; clear hs; (try clear a w); intro a w hs
        refine sy hs (y_add rfl rfl rfl) ?_; clear hs; (try clear a w); intro a w hs
        refine sy (v := .int .i64 (x42.Prev)) hs (y_assign rfl) ?_; clear hs; (try clear a w); intro a w hs
        refine sy (v := .int .i64 ((w64 (y25 + 1)))) hs (y_assign rfl) ?_; clear hs; (try clear a w); intro a w hs
        refine RL_nil ?_
        exact hK10 k26 _ _ (Nat.lt_succ_self _) ⟨y41, x42.Prev, (w64 (y25 + 1)), hm, hs.sub ⟨rfl, rfl, rfl, rfl, trivial⟩⟩
       ·refine W_cond hs rfl (fun hg54 => ?_) (fun hg54 => ?_)
        ·replace hm := oc_t hg54 hm
         refine W_region ?_
         refine sy (v := .int .i64 (y23)) hs (y_move rfl) ?_; clear hs; (try clear a w); intro a w hs
         refine sy hs (y_add rfl rfl rfl) ?_; clear hs; (try clear a w); intro a w hs
         refine sy (v := .int .i64 ((w64 (y23 + 1)))) hs (y_assign rfl) ?_; clear hs; (try clear a w); intro a w hs
         refine RL_nil ?_
         exact ⟨(w64 (y23 + 1)), hm, hs.sub ⟨rfl, rfl, rfl, rfl, trivial⟩⟩
        ·replace hm := oc_f hg54 hm
         refine W_skip ?_
         exact ⟨y23, hm, hs.sub ⟨rfl, rfl, rfl, rfl, trivial⟩⟩
      ·replace hm := oc_f hg28 hm
       refine W_exit ?_
       refine hB9 _ _ ?_
       exact ⟨y23, hm, hs.subs ⟨rfl, trivial⟩ (.cons _ (.refl _))⟩
     ·refine W_region ?_
      refine sy hs (y_ldB rfl Try.underlying24 rfl ti24 (.head _) rfl) ?_; clear hs; (try clear a w); intro a w hs
      refine sy (v := .int .i64 (y24)) hs (y_move rfl) ?_; clear hs; (try clear a w); intro a w hs
      obtain ⟨x55, hx56, hm⟩ := ob hm
      refine sy hs (y_call rfl has46 rfl (dom_has_ok n (f := f) (a0 := [v1]) ⟨_, rfl, ⟨rw2, hR3, hW4⟩⟩ hx56)) ?_; clear hs; (try clear a w); intro a w hs
      refine sy (v := .bool (x55)) hs (y_move rfl) ?_; clear hs; (try clear a w); intro a w hs
      refine St.split hs (t := 30) rfl (fun hg57 hq => ?_) (fun hg57 hq => ?_)
      ·clear hs; have hs := hq; clear hq
       replace hm := oc_t hg57 hm
       refine syg (v := .int .i64 (y25)) hs (y_move rfl) ?_; clear hs; (try clear a w); intro a w hs
       refine syg (v := .pointer (some ⟨b6, 0, none⟩)) hs (y_fieldAddr rfl (FO.of (off := 0) Try.underlying24 rfl rfl ti22 (by decide))) ?_; clear hs; (try clear a w); intro a w hs
       refine syg (v := v1) hs (y_ld rfl Try.underlying22 rfl (Cell.blk (.head _) rfl)) ?_; clear hs; (try clear a w); intro a w hs
       refine syg hs (y_lenW hR3 hW4 rfl Try.underlying22) ?_; clear hs; (try clear a w); intro a w hs
       refine syg hs (y_leq rfl rfl) ?_; clear hs; (try clear a w); intro a w hs
       refine sy (v := .bool (decide (y25 ≤ (p0.Nodes.length : Int)))) hs (y_pick rfl rfl) ?_; clear hs; (try clear a w); intro a w hs
       refine RL_nil ?_
       exact ⟨decide (y25 ≤ (p0.Nodes.length : Int)), hm, hs.sub ⟨rfl, rfl, rfl, rfl, rfl, trivial⟩⟩
      ·clear hs; have hs := hq; clear hq
       replace hm := oc_f hg57 hm
       refine sno hs ?_; clear hs; (try clear a w); intro a w hs
       refine sno hs ?_; clear hs; (try clear a w); intro a w hs
       refine sno hs ?_; clear hs; (try clear a w); intro a w hs
       refine sno hs ?_; clear hs; (try clear a w); intro a w hs
       refine sno hs ?_; clear hs; (try clear a w); intro a w hs
       refine sy (v := .bool (false)) hs (y_pick rfl rfl) ?_; clear hs; (try clear a w); intro a w hs
       refine RL_nil ?_
       exact ⟨false, hm, hs.sub ⟨rfl, rfl, rfl, rfl, rfl, trivial⟩⟩
 ·refine W_region ?_
  refine sy hs (y_ldB rfl Try.underlying24 rfl ti24 (.head _) rfl) ?_; clear hs; (try clear a w); intro a w hs
  refine sy (v := .int .i64 (p1)) hs (y_move rfl) ?_; clear hs; (try clear a w); intro a w hs
  obtain ⟨x58, hx59, hm⟩ := ob hm
  refine sy hs (y_call rfl has46 rfl (dom_has_ok n (f := f) (a0 := [v1]) ⟨_, rfl, ⟨rw2, hR3, hW4⟩⟩ hx59)) ?_; clear hs; (try clear a w); intro a w hs
  refine sy (v := .bool ((!x58))) hs (y_not rfl) ?_; clear hs; (try clear a w); intro a w hs
  refine sy (v := .bool ((!x58))) hs (y_move rfl) ?_; clear hs; (try clear a w); intro a w hs
  refine St.split hs (t := 12) rfl (fun hg60 hq => ?_) (fun hg60 hq => ?_)
  ·clear hs; have hs := hq; clear hq
   replace hm := oc_t hg60 hm
   refine sno hs ?_; clear hs; (try clear a w); intro a w hs
   refine sno hs ?_; clear hs; (try clear a w); intro a w hs
   refine sno hs ?_; clear hs; (try clear a w); intro a w hs
   refine sno hs ?_; clear hs; (try clear a w); intro a w hs
   refine sno hs ?_; clear hs; (try clear a w); intro a w hs
   refine sno hs ?_; clear hs; (try clear a w); intro a w hs
   refine sno hs ?_; clear hs; (try clear a w); intro a w hs
   refine sy (v := .bool (true)) hs (y_pick rfl rfl) ?_; clear hs; (try clear a w); intro a w hs
   refine RL_nil ?_
   exact ⟨true, hm, hs.sub ⟨rfl, rfl, rfl, trivial⟩⟩
  ·clear hs; have hs := hq; clear hq
   replace hm := oc_f hg60 hm
   refine syg (v := .pointer (some ⟨b6, 0, none⟩)) hs (y_fieldAddr rfl (FO.of (off := 0) Try.underlying24 rfl rfl ti22 (by decide))) ?_; clear hs; (try clear a w); intro a w hs
   refine syg (v := v1) hs (y_ld rfl Try.underlying22 rfl (Cell.blk (.head _) rfl)) ?_; clear hs; (try clear a w); intro a w hs
   refine syg (v := .int .i64 (p1)) hs (y_move rfl) ?_; clear hs; (try clear a w); intro a w hs
   obtain ⟨x61, hx62, hm⟩ := ob hm
   obtain ⟨r63, hr64, hq65, hi66, hb67⟩ := hW4.geti hx62
   obtain ⟨v68, rfl, ⟨rw69, hR70, hW71⟩⟩ := hq65
   refine syg hs (y_indexAddr hR3 rfl rfl hi66 hb67 Try.underlying22 ti59) ?_; clear hs; (try clear a w); intro a w hs
   refine syg (v := eaddr v1 9 p1.toNat 0) hs (y_fieldAddrE (i := p1.toNat) (j := 0) hR3 rfl hb67 (FO.of (off := 0) Try.underlying59 rfl rfl ti3 (by decide))) ?_; clear hs; (try clear a w); intro a w hs
   refine syg (v := .int .i64 (x61.Kind)) hs (y_loadE (i := p1.toNat) (j := 0) hR3.up rfl hr64 rfl Try.underlying3 rfl) ?_; clear hs; (try clear a w); intro a w hs
   refine syg hs (y_neq rfl rfl) ?_; clear hs; (try clear a w); intro a w hs
   refine sy (v := .bool (decide (x61.Kind ≠ 1))) hs (y_pick rfl rfl) ?_; clear hs; (try clear a w); intro a w hs
   refine RL_nil ?_
   exact ⟨decide (x61.Kind ≠ 1), hm, hs.sub ⟨rfl, rfl, rfl, trivial⟩⟩
/-! casement/dom.Attr -/
/-! casement/dom.Kids -/
/-! casement/dom.All -/
/-! casement/casementref5.Kids -/
/-! casement/casementref5.Depth -/
/-! casement/casementref5.Below -/
/-! casement/casementref5.Attr -/
/-! casement/casementref5.Index -/
end Go.Proofs.Ytekcbgnkikmhpaa
