/-
  Walks and laws of this seat; the base is the text Base.
-/
import Derived.Test.YtekcbgnkikmhpaaG5
import Derived.Test.YtekcbgnkikmhpaaRows
/-
  Models of functions, and that the functions compute them. Printed by lift.py.
-/
namespace Go.Proofs.Ytekcbgnkikmhpaa
open Go.RowKit Go.Sl

/-! casement/dom.has -/
def dom_has (_n : Nat) (p0 : api_Tree) (p1 : Int) : Option Bool :=
  some ((decide (0 ≤ p1)) && (decide (p1 < (p0.Nodes.length : Int))))
theorem dom_has_ok (n : Nat) {f : Fz} {p0 : api_Tree} {a0 : List Value} {p1 : Int} {res : Bool} (h0 : t_api_Tree.R f a0 p0) (hm : dom_has n p0 p1 = some res) : Gives Try.prog 46 [.agg a0.toArray, .int .i64 p1] f (.bool res) := by
 unfold dom_has at hm
 intro w0 L w hC
 obtain ⟨v1, rfl, ⟨rw2, hR3, hW4⟩⟩ := h0
 refine enter Try.func46 rfl Try.ntmps46 (by simp) hC fun a hs => ?_
 have hle := Fz.le.refl f
 refine W_seq fun K1 hK1 => ?_
 refine W_region ?_
 refine sbox hs rfl ?_; clear hs; (try clear a w); intro b6 a w hs
 replace hs : St _ _ _ (.blk b6 (.cells #[v1] 24 (0, 0)) :: L) _ _ _ := hs
 refine sy (v := .bool (false)) hs (y_assign rfl) ?_; clear hs; (try clear a w); intro a w hs
 refine RL_nil ?_
 refine hK1 _ _ ?_; clear hK1
 refine W_seq fun K2 hK2 => ?_
 refine W_post (fun a w => St 14 w0 f (.blk b6 (.cells #[v1] 24 (0, 0)) :: L) [(4, .bool (((decide (0 ≤ p1)) && (decide (p1 < (p0.Nodes.length : Int))))))] a w) ?_ ?_
 ·clear hs; intro a w hs
  refine hK2 _ _ ?_; clear hK2
  refine W_ret ?_
  obtain rfl := Option.some.inj hm
  refine RtV1 hs rfl (rv_t hs rfl) ?_
  exact ⟨rfl, ((hs.subL (.cons _ (.refl _))).weak hle).cw⟩
 ·refine W_region ?_
  refine sy (v := .int .i64 (p1)) hs (y_move rfl) ?_; clear hs; (try clear a w); intro a w hs
  refine sy hs (y_geq rfl rfl) ?_; clear hs; (try clear a w); intro a w hs
  refine sy (v := .bool (decide (0 ≤ p1))) hs (y_move rfl) ?_; clear hs; (try clear a w); intro a w hs
  refine St.split hs (t := 7) rfl (fun hg8 hq => ?_) (fun hg8 hq => ?_)
  ·clear hs; have hs := hq; clear hq
   refine syg (v := .int .i64 (p1)) hs (y_move rfl) ?_; clear hs; (try clear a w); intro a w hs
   refine syg (v := .pointer (some ⟨b6, 0, none⟩)) hs (y_fieldAddr rfl (FO.of (off := 0) Try.underlying24 rfl rfl ti22 (by decide))) ?_; clear hs; (try clear a w); intro a w hs
   refine syg (v := v1) hs (y_ld rfl Try.underlying22 rfl (Cell.blk (.head _) rfl)) ?_; clear hs; (try clear a w); intro a w hs
   refine syg hs (y_lenW hR3 hW4 rfl Try.underlying22) ?_; clear hs; (try clear a w); intro a w hs
   refine syg hs (y_lss rfl rfl) ?_; clear hs; (try clear a w); intro a w hs
   refine sy (v := .bool (decide (p1 < (p0.Nodes.length : Int)))) hs (y_pick rfl rfl) ?_; clear hs; (try clear a w); intro a w hs
   refine sy (v := .bool (decide (p1 < (p0.Nodes.length : Int)))) hs (y_assign rfl) ?_; clear hs; (try clear a w); intro a w hs
   refine RL_nil ?_
   exact hs.sub ⟨(lkB (((and_t hg8).trans rfl)) rfl), trivial⟩
  ·clear hs; have hs := hq; clear hq
   refine sno hs ?_; clear hs; (try clear a w); intro a w hs
   refine sno hs ?_; clear hs; (try clear a w); intro a w hs
   refine sno hs ?_; clear hs; (try clear a w); intro a w hs
   refine sno hs ?_; clear hs; (try clear a w); intro a w hs
   refine sno hs ?_; clear hs; (try clear a w); intro a w hs
   refine sy (v := .bool (false)) hs (y_pick rfl rfl) ?_; clear hs; (try clear a w); intro a w hs
   refine sy (v := .bool (false)) hs (y_assign rfl) ?_; clear hs; (try clear a w); intro a w hs
   refine RL_nil ?_
   exact hs.sub ⟨(lkB (((and_f hg8).trans rfl)) rfl), trivial⟩

/-! casement/dom.end -/
def dom_end_k1 (p0 : api_Tree) : Option Int :=
  some (p0.Nodes.length : Int)
def dom_end_l2 (n : Nat) (p0 : api_Tree) (p1 : Int) : Nat → Int → Option Int
  | 0, _ => none
  | k9 + 1, y8 =>
  (dom_has n p0 y8).bind fun x10 =>
  (bif x10 then (geti p0.Nodes y8).bind fun x13 =>
  (bif (decide (p1 < x13.Next)) then some x13.Next else
  (geti p0.Nodes y8).bind fun x26 =>
  (bif (decide (y8 ≤ x26.Parent)) then dom_end_k1 p0 else
  (geti p0.Nodes y8).bind fun x39 =>
  (dom_end_l2 n p0 p1 k9) x39.Parent)) else
  dom_end_k1 p0)
def dom_end (n : Nat) (p0 : api_Tree) (p1 : Int) : Option Int :=
  dom_end_l2 n p0 p1 n p1
theorem dom_end_ok (n : Nat) {f : Fz} {p0 : api_Tree} {a0 : List Value} {p1 : Int} {res : Int} (h0 : t_api_Tree.R f a0 p0) (hm : dom_end n p0 p1 = some res) : Gives Try.prog 47 [.agg a0.toArray, .int .i64 p1] f (.int .i64 res) := by
 unfold dom_end at hm
 intro w0 L w hC
 obtain ⟨v1, rfl, ⟨rw2, hR3, hW4⟩⟩ := h0
 refine enter Try.func47 rfl Try.ntmps47 (by simp) hC fun a hs => ?_
 have hle := Fz.le.refl f
 refine W_seq fun K1 hK1 => ?_
 refine W_region ?_
 refine sbox hs rfl ?_; clear hs; (try clear a w); intro b6 a w hs
 replace hs : St _ _ _ (.blk b6 (.cells #[v1] 24 (0, 0)) :: L) _ _ _ := hs
 refine sy (v := .int .i64 (0)) hs (y_assign rfl) ?_; clear hs; (try clear a w); intro a w hs
 refine RL_nil ?_
 refine hK1 _ _ ?_; clear hK1
 refine W_seq fun K2 hK2 => ?_
 refine W_seq fun K3 hK3 => ?_
 refine W_region ?_
 refine sy (v := .int .i64 (p1)) hs (y_move rfl) ?_; clear hs; (try clear a w); intro a w hs
 refine sy (v := .int .i64 (p1)) hs (y_assign rfl) ?_; clear hs; (try clear a w); intro a w hs
 refine RL_nil ?_
 refine hK3 _ _ ?_; clear hK3
 refine W_post (fun a w => dom_end_k1 p0 = some res ∧ St 38 w0 f (.blk b6 (.cells #[v1] 24 (0, 0)) :: L) [(2, .pointer (some ⟨b6, 0, none⟩))] a w) ?_ ?_
 ·clear hs hm
  rintro a w ⟨hm, hs⟩
  replace hs : St _ _ _ (.blk b6 (.cells #[v1] 24 (0, 0)) :: L) _ _ _ := hs
  unfold dom_end_k1 at hm
  refine hK2 _ _ ?_; clear hK2
  refine W_seq fun K4 hK4 => ?_
  refine W_region ?_
  refine sy (v := .pointer (some ⟨b6, 0, none⟩)) hs (y_fieldAddr rfl (FO.of (off := 0) Try.underlying24 rfl rfl ti22 (by decide))) ?_; clear hs; (try clear a w); intro a w hs
  refine sy (v := v1) hs (y_ld rfl Try.underlying22 rfl (Cell.blk (.head _) rfl)) ?_; clear hs; (try clear a w); intro a w hs
  refine sy hs (y_lenW hR3 hW4 rfl Try.underlying22) ?_; clear hs; (try clear a w); intro a w hs
  refine sy (v := .int .i64 ((p0.Nodes.length : Int))) hs (y_assign rfl) ?_; clear hs; (try clear a w); intro a w hs
  refine RL_nil ?_
  refine hK4 _ _ ?_; clear hK4
  refine W_ret ?_
  obtain rfl := Option.some.inj hm
  refine RtV1 hs rfl (rv_t hs rfl) ?_
  exact ⟨rfl, ((hs.subL (.cons _ (.refl _))).weak hle).cw⟩
 ·refine W_block fun Qe5 hB5 hO5 => ?_
  refine W_loop (fun (k : Nat) a w => ∃ (y8 : Int), dom_end_l2 n p0 p1 k y8 = some res ∧ St 38 w0 f (.blk b6 (.cells #[v1] 24 (0, 0)) :: L) [(1, .int .i64 (p1)), (2, .pointer (some ⟨b6, 0, none⟩)), (5, .int .i64 (y8))] a w) (fun k => k) n ⟨p1, hm, hs.sub ⟨rfl, rfl, rfl, trivial⟩⟩ ?_
  clear hs hm
  intro k
  rintro a w ⟨y8, hm, hs⟩
  replace hs : St _ _ _ (.blk b6 (.cells #[v1] 24 (0, 0)) :: L) _ _ _ := hs
  intro K6 hK6
  cases k with
  | zero => simp [dom_end_l2] at hm
  | succ k9 =>
   rw [dom_end_l2] at hm
   refine W_seq fun K7 hK7 => ?_
   refine W_seq fun K8 hK8 => ?_
   refine W_region ?_
   refine sy hs (y_ldB rfl Try.underlying24 rfl ti24 (.head _) rfl) ?_; clear hs; (try clear a w); intro a w hs
   refine sy (v := .int .i64 (y8)) hs (y_move rfl) ?_; clear hs; (try clear a w); intro a w hs
   obtain ⟨x10, hx11, hm⟩ := ob hm
   refine sy hs (y_call rfl has46 rfl (dom_has_ok n (f := f) (a0 := [v1]) ⟨_, rfl, ⟨rw2, hR3, hW4⟩⟩ hx11)) ?_; clear hs; (try clear a w); intro a w hs
   refine RL_nil ?_
   refine hK8 _ _ ?_; clear hK8
   refine W_cond hs rfl (fun hg12 => ?_) (fun hg12 => ?_)
   ·replace hm := oc_t hg12 hm
    refine W_skip ?_
    refine hK7 _ _ ?_; clear hK7
    refine W_seq fun K9 hK9 => ?_
    refine W_block fun Qe10 hB10 hO10 => ?_
    refine W_seq fun K11 hK11 => ?_
    refine W_seq fun K12 hK12 => ?_
    refine W_region ?_
    refine sy (v := .pointer (some ⟨b6, 0, none⟩)) hs (y_fieldAddr rfl (FO.of (off := 0) Try.underlying24 rfl rfl ti22 (by decide))) ?_; clear hs; (try clear a w); intro a w hs
    refine sy (v := v1) hs (y_ld rfl Try.underlying22 rfl (Cell.blk (.head _) rfl)) ?_; clear hs; (try clear a w); intro a w hs
    refine sy (v := .int .i64 (y8)) hs (y_move rfl) ?_; clear hs; (try clear a w); intro a w hs
    obtain ⟨x13, hx14, hm⟩ := ob hm
    obtain ⟨r15, hr16, hq17, hi18, hb19⟩ := hW4.geti hx14
    obtain ⟨v20, rfl, ⟨rw21, hR22, hW23⟩⟩ := hq17
    refine sy hs (y_indexAddr hR3 rfl rfl hi18 hb19 Try.underlying22 ti59) ?_; clear hs; (try clear a w); intro a w hs
    refine sy (v := eaddr v1 9 y8.toNat 8) hs (y_fieldAddrE (i := y8.toNat) (j := 0) hR3 rfl hb19 (FO.of (off := 8) Try.underlying59 rfl rfl ti3 (by decide))) ?_; clear hs; (try clear a w); intro a w hs
    refine sy (v := .int .i64 (x13.Next)) hs (y_loadE (i := y8.toNat) (j := 8) hR3.up rfl hr16 rfl Try.underlying3 rfl) ?_; clear hs; (try clear a w); intro a w hs
    refine sy (v := .int .i64 (x13.Next)) hs (y_assign rfl) ?_; clear hs; (try clear a w); intro a w hs
    refine RL_nil ?_
    refine hK12 _ _ ?_; clear hK12
    refine W_seq fun K13 hK13 => ?_
    refine W_region ?_
    refine sy (v := .int .i64 (x13.Next)) hs (y_move rfl) ?_; clear hs; (try clear a w); intro a w hs
    refine sy (v := .int .i64 (p1)) hs (y_move rfl) ?_; clear hs; (try clear a w); intro a w hs
    refine sy hs (y_gtr rfl rfl) ?_; clear hs; (try clear a w); intro a w hs
    refine RL_nil ?_
    refine hK13 _ _ ?_; clear hK13
    refine W_cond hs rfl (fun hg25 => ?_) (fun hg25 => ?_)
    ·replace hm := oc_t hg25 hm
     refine W_seq fun K14 hK14 => ?_
     refine W_region ?_
     refine sy (v := .int .i64 (x13.Next)) hs (y_move rfl) ?_; clear hs; (try clear a w); intro a w hs
     refine sy (v := .int .i64 (x13.Next)) hs (y_assign rfl) ?_; clear hs; (try clear a w); intro a w hs
     refine RL_nil ?_
     refine hK14 _ _ ?_; clear hK14
     refine W_ret ?_
     obtain rfl := Option.some.inj hm
     refine RtV1 hs rfl (rv_t hs rfl) ?_
     exact ⟨rfl, ((hs.subL (.cons _ (.refl _))).weak hle).cw⟩
    ·replace hm := oc_f hg25 hm
     refine W_skip ?_
     refine hK11 _ _ ?_; clear hK11
     refine W_seq fun K15 hK15 => ?_
     refine W_region ?_
     refine sy (v := .pointer (some ⟨b6, 0, none⟩)) hs (y_fieldAddr rfl (FO.of (off := 0) Try.underlying24 rfl rfl ti22 (by decide))) ?_; clear hs; (try clear a w); intro a w hs
     refine sy (v := v1) hs (y_ld rfl Try.underlying22 rfl (Cell.blk (.head _) rfl)) ?_; clear hs; (try clear a w); intro a w hs
     refine sy (v := .int .i64 (y8)) hs (y_move rfl) ?_; clear hs; (try clear a w); intro a w hs
     obtain ⟨x26, hx27, hm⟩ := ob hm
     obtain ⟨r28, hr29, hq30, hi31, hb32⟩ := hW4.geti hx27
     obtain ⟨v33, rfl, ⟨rw34, hR35, hW36⟩⟩ := hq30
     refine sy hs (y_indexAddr hR3 rfl rfl hi31 hb32 Try.underlying22 ti59) ?_; clear hs; (try clear a w); intro a w hs
     refine sy (v := eaddr v1 9 y8.toNat 4) hs (y_fieldAddrE (i := y8.toNat) (j := 0) hR3 rfl hb32 (FO.of (off := 4) Try.underlying59 rfl rfl ti3 (by decide))) ?_; clear hs; (try clear a w); intro a w hs
     refine sy (v := .int .i64 (x26.Parent)) hs (y_loadE (i := y8.toNat) (j := 4) hR3.up rfl hr29 rfl Try.underlying3 rfl) ?_; clear hs; (try clear a w); intro a w hs
     refine sy (v := .int .i64 (y8)) hs (y_move rfl) ?_; clear hs; (try clear a w); intro a w hs
     refine sy hs (y_geq rfl rfl) ?_; clear hs; (try clear a w); intro a w hs
     refine RL_nil ?_
     refine hK15 _ _ ?_; clear hK15
     refine W_cond hs rfl (fun hg38 => ?_) (fun hg38 => ?_)
     ·replace hm := oc_t hg38 hm
      refine W_exit ?_
      refine hO10 _ rfl _ _ ?_
      refine hB5 _ _ ?_
      exact ⟨hm, hs.sub ⟨rfl, trivial⟩⟩
     ·replace hm := oc_f hg38 hm
      refine W_skip ?_
      refine hK9 _ _ ?_; clear hK9
      refine W_region ?_
      refine sy (v := .pointer (some ⟨b6, 0, none⟩)) hs (y_fieldAddr rfl (FO.of (off := 0) Try.underlying24 rfl rfl ti22 (by decide))) ?_; clear hs; (try clear a w); intro a w hs
      refine sy (v := v1) hs (y_ld rfl Try.underlying22 rfl (Cell.blk (.head _) rfl)) ?_; clear hs; (try clear a w); intro a w hs
      refine sy (v := .int .i64 (y8)) hs (y_move rfl) ?_; clear hs; (try clear a w); intro a w hs
      obtain ⟨x39, hx40, hm⟩ := ob hm
      obtain ⟨r41, hr42, hq43, hi44, hb45⟩ := hW4.geti hx40
      obtain ⟨v46, rfl, ⟨rw47, hR48, hW49⟩⟩ := hq43
      refine sy hs (y_indexAddr hR3 rfl rfl hi44 hb45 Try.underlying22 ti59) ?_; clear hs; (try clear a w); intro a w hs
      refine sy (v := eaddr v1 9 y8.toNat 4) hs (y_fieldAddrE (i := y8.toNat) (j := 0) hR3 rfl hb45 (FO.of (off := 4) Try.underlying59 rfl rfl ti3 (by decide))) ?_; clear hs; (try clear a w); intro a w hs
      refine sy (v := .int .i64 (x39.Parent)) hs (y_loadE (i := y8.toNat) (j := 4) hR3.up rfl hr42 rfl Try.underlying3 rfl) ?_; clear hs; (try clear a w); intro a w hs
      refine sy (v := .int .i64 (x39.Parent)) hs (y_assign rfl) ?_; clear hs; (try clear a w); intro a w hs
      refine RL_nil ?_
      exact hK6 k9 _ _ (Nat.lt_succ_self _) ⟨x39.Parent, hm, hs.sub ⟨rfl, rfl, rfl, trivial⟩⟩
   ·replace hm := oc_f hg12 hm
    refine W_exit ?_
    refine hB5 _ _ ?_
    exact ⟨hm, hs.sub ⟨rfl, trivial⟩⟩

/-! casement/dom.Depth -/
def dom_Depth_k1 (y8 : Int) : Option Int :=
  some y8
def dom_Depth_k3 (p0 : api_Tree) (y9 : Int) (y10 : Int) (lp11 : Int → Int → Option Int) (y12 : Bool) : Option Int :=
  (bif y12 then (geti p0.Nodes y9).bind fun x14 =>
  lp11 x14.Parent (w64 (y10 + 1)) else
  dom_Depth_k1 y10)
def dom_Depth_l2 (n : Nat) (p0 : api_Tree) : Nat → Int → Int → Option Int
  | 0, _, _ => none
  | k11 + 1, y9, y10 =>
  (dom_has n p0 y9).bind fun x26 =>
  (bif x26 then dom_Depth_k3 p0 y9 y10 (dom_Depth_l2 n p0 k11) (decide (y10 ≤ (p0.Nodes.length : Int))) else
  dom_Depth_k3 p0 y9 y10 (dom_Depth_l2 n p0 k11) false)
def dom_Depth (n : Nat) (p0 : api_Tree) (p1 : Int) : Option Int :=
  dom_Depth_l2 n p0 n p1 0
theorem dom_Depth_ok (n : Nat) {f : Fz} {p0 : api_Tree} {a0 : List Value} {p1 : Int} {res : Int} (h0 : t_api_Tree.R f a0 p0) (hm : dom_Depth n p0 p1 = some res) : Gives Try.prog 25 [.agg a0.toArray, .int .i64 p1] f (.int .i64 res) := by
 unfold dom_Depth at hm
 intro w0 L w hC
 obtain ⟨v1, rfl, ⟨rw2, hR3, hW4⟩⟩ := h0
 refine enter Try.func25 rfl Try.ntmps25 (by simp) hC fun a hs => ?_
 have hle := Fz.le.refl f
 refine W_seq fun K1 hK1 => ?_
 refine W_region ?_
 refine sbox hs rfl ?_; clear hs; (try clear a w); intro b6 a w hs
 replace hs : St _ _ _ (.blk b6 (.cells #[v1] 24 (0, 0)) :: L) _ _ _ := hs
 refine sy (v := .int .i64 (0)) hs (y_assign rfl) ?_; clear hs; (try clear a w); intro a w hs
 refine RL_nil ?_
 refine hK1 _ _ ?_; clear hK1
 refine W_seq fun K2 hK2 => ?_
 refine W_region ?_
 refine sy (v := .int .i64 (0)) hs (y_assign rfl) ?_; clear hs; (try clear a w); intro a w hs
 refine RL_nil ?_
 refine hK2 _ _ ?_; clear hK2
 refine W_seq fun K3 hK3 => ?_
 refine W_post (fun a w => ∃ (y8 : Int), dom_Depth_k1 y8 = some res ∧ St 25 w0 f (L) [(5, .int .i64 (y8))] a w) ?_ ?_
 ·clear hs hm
  rintro a w ⟨y8, hm, hs⟩
  replace hs : St _ _ _ (L) _ _ _ := hs
  unfold dom_Depth_k1 at hm
  refine hK3 _ _ ?_; clear hK3
  refine W_seq fun K4 hK4 => ?_
  refine W_region ?_
  refine sy (v := .int .i64 (y8)) hs (y_move rfl) ?_; clear hs; (try clear a w); intro a w hs
  refine sy (v := .int .i64 (y8)) hs (y_assign rfl) ?_; clear hs; (try clear a w); intro a w hs
  refine RL_nil ?_
  refine hK4 _ _ ?_; clear hK4
  refine W_ret ?_
  obtain rfl := Option.some.inj hm
  refine RtV1 hs rfl (rv_t hs rfl) ?_
  exact ⟨rfl, (hs.weak hle).cw⟩
 ·refine W_block fun Qe5 hB5 hO5 => ?_
  refine W_loop (fun (k : Nat) a w => ∃ (y9 : Int) (y10 : Int), dom_Depth_l2 n p0 k y9 y10 = some res ∧ St 25 w0 f (.blk b6 (.cells #[v1] 24 (0, 0)) :: L) [(1, .int .i64 (y9)), (2, .pointer (some ⟨b6, 0, none⟩)), (5, .int .i64 (y10))] a w) (fun k => k) n ⟨p1, 0, hm, hs.sub ⟨rfl, rfl, rfl, trivial⟩⟩ ?_
  clear hs hm
  intro k
  rintro a w ⟨y9, y10, hm, hs⟩
  replace hs : St _ _ _ (.blk b6 (.cells #[v1] 24 (0, 0)) :: L) _ _ _ := hs
  intro K6 hK6
  cases k with
  | zero => simp [dom_Depth_l2] at hm
  | succ k11 =>
   rw [dom_Depth_l2] at hm
   refine W_seq fun K7 hK7 => ?_
   refine W_seq fun K8 hK8 => ?_
   refine W_post (fun a w => ∃ (y12 : Bool), dom_Depth_k3 p0 y9 y10 (dom_Depth_l2 n p0 k11) y12 = some res ∧ St 25 w0 f (.blk b6 (.cells #[v1] 24 (0, 0)) :: L) [(1, .int .i64 (y9)), (2, .pointer (some ⟨b6, 0, none⟩)), (5, .int .i64 (y10)), (15, .bool (y12))] a w) ?_ ?_
   ·clear hs hm
    rintro a w ⟨y12, hm, hs⟩
    replace hs : St _ _ _ (.blk b6 (.cells #[v1] 24 (0, 0)) :: L) _ _ _ := hs
    unfold dom_Depth_k3 at hm
    refine hK8 _ _ ?_; clear hK8
    refine W_cond hs rfl (fun hg13 => ?_) (fun hg13 => ?_)
    ·replace hm := oc_t hg13 hm
     refine W_skip ?_
     refine hK7 _ _ ?_; clear hK7
     refine W_seq fun K9 hK9 => ?_
     refine W_block fun Qe10 hB10 hO10 => ?_
     refine W_region ?_
     refine sy (v := .int .i64 (y10)) hs (y_move rfl) ?_; clear hs; (try clear a w); intro a w hs
     refine sy hs (y_add rfl rfl rfl) ?_; clear hs; (try clear a w); intro a w hs
     refine sy (v := .int .i64 ((w64 (y10 + 1)))) hs (y_assign rfl) ?_; clear hs; (try clear a w); intro a w hs
     refine RL_nil ?_
     refine hK9 _ _ ?_; clear hK9
     refine W_region ?_
     refine sy (v := .pointer (some ⟨b6, 0, none⟩)) hs (y_fieldAddr rfl (FO.of (off := 0) Try.underlying24 rfl rfl ti22 (by decide))) ?_; clear hs; (try clear a w); intro a w hs
     refine sy (v := v1) hs (y_ld rfl Try.underlying22 rfl (Cell.blk (.head _) rfl)) ?_; clear hs; (try clear a w); intro a w hs
     refine sy (v := .int .i64 (y9)) hs (y_move rfl) ?_; clear hs; (try clear a w); intro a w hs
     obtain ⟨x14, hx15, hm⟩ := ob hm
     obtain ⟨r16, hr17, hq18, hi19, hb20⟩ := hW4.geti hx15
     obtain ⟨v21, rfl, ⟨rw22, hR23, hW24⟩⟩ := hq18
     refine sy hs (y_indexAddr hR3 rfl rfl hi19 hb20 Try.underlying22 ti59) ?_; clear hs; (try clear a w); intro a w hs
     refine sy (v := eaddr v1 9 y9.toNat 4) hs (y_fieldAddrE (i := y9.toNat) (j := 0) hR3 rfl hb20 (FO.of (off := 4) Try.underlying59 rfl rfl ti3 (by decide))) ?_; clear hs; (try clear a w); intro a w hs
     refine sy (v := .int .i64 (x14.Parent)) hs (y_loadE (i := y9.toNat) (j := 4) hR3.up rfl hr17 rfl Try.underlying3 rfl) ?_; clear hs; (try clear a w); intro a w hs
     refine sy (v := .int .i64 (x14.Parent)) hs (y_assign rfl) ?_; clear hs; (try clear a w); intro a w hs
     refine RL_nil ?_
     exact hK6 k11 _ _ (Nat.lt_succ_self _) ⟨x14.Parent, (w64 (y10 + 1)), hm, hs.sub ⟨rfl, rfl, rfl, trivial⟩⟩
    ·replace hm := oc_f hg13 hm
     refine W_exit ?_
     refine hB5 _ _ ?_
     exact ⟨y10, hm, hs.subs ⟨rfl, trivial⟩ (.cons _ (.refl _))⟩
   ·refine W_region ?_
    refine sy hs (y_ldB rfl Try.underlying24 rfl ti24 (.head _) rfl) ?_; clear hs; (try clear a w); intro a w hs
    refine sy (v := .int .i64 (y9)) hs (y_move rfl) ?_; clear hs; (try clear a w); intro a w hs
    obtain ⟨x26, hx27, hm⟩ := ob hm
    refine sy hs (y_call rfl has46 rfl (dom_has_ok n (f := f) (a0 := [v1]) ⟨_, rfl, ⟨rw2, hR3, hW4⟩⟩ hx27)) ?_; clear hs; (try clear a w); intro a w hs
    refine sy (v := .bool (x26)) hs (y_move rfl) ?_; clear hs; (try clear a w); intro a w hs
    refine St.split hs (t := 9) rfl (fun hg28 hq => ?_) (fun hg28 hq => ?_)
    ·clear hs; have hs := hq; clear hq
     replace hm := oc_t hg28 hm
     refine syg (v := .int .i64 (y10)) hs (y_move rfl) ?_; clear hs; (try clear a w); intro a w hs
     refine syg (v := .pointer (some ⟨b6, 0, none⟩)) hs (y_fieldAddr rfl (FO.of (off := 0) Try.underlying24 rfl rfl ti22 (by decide))) ?_; clear hs; (try clear a w); intro a w hs
     refine syg (v := v1) hs (y_ld rfl Try.underlying22 rfl (Cell.blk (.head _) rfl)) ?_; clear hs; (try clear a w); intro a w hs
     refine syg hs (y_lenW hR3 hW4 rfl Try.underlying22) ?_; clear hs; (try clear a w); intro a w hs
     refine syg hs (y_leq rfl rfl) ?_; clear hs; (try clear a w); intro a w hs
     refine sy (v := .bool (decide (y10 ≤ (p0.Nodes.length : Int)))) hs (y_pick rfl rfl) ?_; clear hs; (try clear a w); intro a w hs
     refine RL_nil ?_
     exact ⟨decide (y10 ≤ (p0.Nodes.length : Int)), hm, hs.sub ⟨rfl, rfl, rfl, rfl, trivial⟩⟩
    ·clear hs; have hs := hq; clear hq
     replace hm := oc_f hg28 hm
     refine sno hs ?_; clear hs; (try clear a w); intro a w hs
     refine sno hs ?_; clear hs; (try clear a w); intro a w hs
     refine sno hs ?_; clear hs; (try clear a w); intro a w hs
     refine sno hs ?_; clear hs; (try clear a w); intro a w hs
     refine sno hs ?_; clear hs; (try clear a w); intro a w hs
     refine sy (v := .bool (false)) hs (y_pick rfl rfl) ?_; clear hs; (try clear a w); intro a w hs
     refine RL_nil ?_
     exact ⟨false, hm, hs.sub ⟨rfl, rfl, rfl, rfl, trivial⟩⟩

/-! casement/dom.Index -/
def dom_Index_k2 (y22 : Int) : Option Int :=
  some y22
def dom_Index_k5 (p0 : api_Tree) (y24 : Int) (y25 : Int) (lp26 : Int → Int → Int → Option Int) (y41 : Int) : Option Int :=
  (geti p0.Nodes y24).bind fun x42 =>
  lp26 y41 x42.Prev (w64 (y25 + 1))
def dom_Index_k4 (p0 : api_Tree) (y23 : Int) (y24 : Int) (y25 : Int) (lp26 : Int → Int → Int → Option Int) (y27 : Bool) : Option Int :=
  (bif y27 then (geti p0.Nodes y24).bind fun x29 =>
  (bif (decide (x29.Kind = 1)) then dom_Index_k5 p0 y24 y25 lp26 (w64 (y23 + 1)) else
  dom_Index_k5 p0 y24 y25 lp26 y23) else
  dom_Index_k2 y23)
def dom_Index_l3 (n : Nat) (p0 : api_Tree) : Nat → Int → Int → Int → Option Int
  | 0, _, _, _ => none
  | k26 + 1, y23, y24, y25 =>
  (dom_has n p0 y24).bind fun x55 =>
  (bif x55 then dom_Index_k4 p0 y23 y24 y25 (dom_Index_l3 n p0 k26) (decide (y25 ≤ (p0.Nodes.length : Int))) else
  dom_Index_k4 p0 y23 y24 y25 (dom_Index_l3 n p0 k26) false)
def dom_Index_k1 (n : Nat) (p0 : api_Tree) (p1 : Int) (y8 : Bool) : Option Int :=
  (bif y8 then some 0 else
  (geti p0.Nodes p1).bind fun x10 =>
  dom_Index_l3 n p0 n 1 x10.Prev 0)
def dom_Index (n : Nat) (p0 : api_Tree) (p1 : Int) : Option Int :=
  (dom_has n p0 p1).bind fun x58 =>
  (bif (!x58) then dom_Index_k1 n p0 p1 true else
  (geti p0.Nodes p1).bind fun x61 =>
  dom_Index_k1 n p0 p1 (decide (x61.Kind ≠ 1)))
theorem dom_Index_ok (n : Nat) {f : Fz} {p0 : api_Tree} {a0 : List Value} {p1 : Int} {res : Int} (h0 : t_api_Tree.R f a0 p0) (hm : dom_Index n p0 p1 = some res) : Gives Try.prog 27 [.agg a0.toArray, .int .i64 p1] f (.int .i64 res) := by
 unfold dom_Index at hm
 intro w0 L w hC
 obtain ⟨v1, rfl, ⟨rw2, hR3, hW4⟩⟩ := h0
 refine enter Try.func27 rfl Try.ntmps27 (by simp) hC fun a hs => ?_
 have hle := Fz.le.refl f
 refine W_seq fun K1 hK1 => ?_
 refine W_region ?_
 refine sbox hs rfl ?_; clear hs; (try clear a w); intro b6 a w hs
 replace hs : St _ _ _ (.blk b6 (.cells #[v1] 24 (0, 0)) :: L) _ _ _ := hs
 refine sy (v := .int .i64 (0)) hs (y_assign rfl) ?_; clear hs; (try clear a w); intro a w hs
 refine RL_nil ?_
 refine hK1 _ _ ?_; clear hK1
 refine W_seq fun K2 hK2 => ?_
 refine W_seq fun K3 hK3 => ?_
 refine W_post (fun a w => ∃ (y8 : Bool), dom_Index_k1 n p0 p1 y8 = some res ∧ St 55 w0 f (.blk b6 (.cells #[v1] 24 (0, 0)) :: L) [(1, .int .i64 (p1)), (2, .pointer (some ⟨b6, 0, none⟩)), (20, .bool (y8))] a w) ?_ ?_
 ·clear hs hm
  rintro a w ⟨y8, hm, hs⟩
  replace hs : St _ _ _ (.blk b6 (.cells #[v1] 24 (0, 0)) :: L) _ _ _ := hs
  unfold dom_Index_k1 at hm
  refine hK3 _ _ ?_; clear hK3
  refine W_cond hs rfl (fun hg9 => ?_) (fun hg9 => ?_)
  ·replace hm := oc_t hg9 hm
   refine W_seq fun K4 hK4 => ?_
   refine W_region ?_
   refine sy (v := .int .i64 (0)) hs (y_assign rfl) ?_; clear hs; (try clear a w); intro a w hs
   refine RL_nil ?_
   refine hK4 _ _ ?_; clear hK4
   refine W_ret ?_
   obtain rfl := Option.some.inj hm
   refine RtV1 hs rfl (rv_t hs rfl) ?_
   exact ⟨rfl, ((hs.subL (.cons _ (.refl _))).weak hle).cw⟩
  ·replace hm := oc_f hg9 hm
   refine W_skip ?_
   refine hK2 _ _ ?_; clear hK2
   refine W_seq fun K5 hK5 => ?_
   refine W_region ?_
   refine sy (v := .int .i64 (1)) hs (y_assign rfl) ?_; clear hs; (try clear a w); intro a w hs
   refine RL_nil ?_
   refine hK5 _ _ ?_; clear hK5
   refine W_seq fun K6 hK6 => ?_
   refine W_seq fun K7 hK7 => ?_
   refine W_region ?_
   refine sy (v := .pointer (some ⟨b6, 0, none⟩)) hs (y_fieldAddr rfl (FO.of (off := 0) Try.underlying24 rfl rfl ti22 (by decide))) ?_; clear hs; (try clear a w); intro a w hs
   refine sy (v := v1) hs (y_ld rfl Try.underlying22 rfl (Cell.blk (.head _) rfl)) ?_; clear hs; (try clear a w); intro a w hs
   refine sy (v := .int .i64 (p1)) hs (y_move rfl) ?_; clear hs; (try clear a w); intro a w hs
   obtain ⟨x10, hx11, hm⟩ := ob hm
   obtain ⟨r12, hr13, hq14, hi15, hb16⟩ := hW4.geti hx11
   obtain ⟨v17, rfl, ⟨rw18, hR19, hW20⟩⟩ := hq14
   refine sy hs (y_indexAddr hR3 rfl rfl hi15 hb16 Try.underlying22 ti59) ?_; clear hs; (try clear a w); intro a w hs
   refine sy (v := eaddr v1 9 p1.toNat 7) hs (y_fieldAddrE (i := p1.toNat) (j := 0) hR3 rfl hb16 (FO.of (off := 7) Try.underlying59 rfl rfl ti3 (by decide))) ?_; clear hs; (try clear a w); intro a w hs
   refine sy (v := .int .i64 (x10.Prev)) hs (y_loadE (i := p1.toNat) (j := 7) hR3.up rfl hr13 rfl Try.underlying3 rfl) ?_; clear hs; (try clear a w); intro a w hs
   refine sy (v := .int .i64 (x10.Prev)) hs (y_assign rfl) ?_; clear hs; (try clear a w); intro a w hs
   refine sy (v := .int .i64 (0)) hs (y_assign rfl) ?_; clear hs; (try clear a w); intro a w hs
   refine RL_nil ?_
   refine hK7 _ _ ?_; clear hK7
   refine W_post (fun a w => ∃ (y22 : Int), dom_Index_k2 y22 = some res ∧ St 55 w0 f (L) [(5, .int .i64 (y22))] a w) ?_ ?_
   ·clear hs hm
    rintro a w ⟨y22, hm, hs⟩
    replace hs : St _ _ _ (L) _ _ _ := hs
    unfold dom_Index_k2 at hm
    refine hK6 _ _ ?_; clear hK6
    refine W_seq fun K8 hK8 => ?_
    refine W_region ?_
    refine sy (v := .int .i64 (y22)) hs (y_move rfl) ?_; clear hs; (try clear a w); intro a w hs
    refine sy (v := .int .i64 (y22)) hs (y_assign rfl) ?_; clear hs; (try clear a w); intro a w hs
    refine RL_nil ?_
    refine hK8 _ _ ?_; clear hK8
    refine W_ret ?_
    obtain rfl := Option.some.inj hm
    refine RtV1 hs rfl (rv_t hs rfl) ?_
    exact ⟨rfl, (hs.weak hle).cw⟩
   ·refine W_block fun Qe9 hB9 hO9 => ?_
    refine W_loop (fun (k : Nat) a w => ∃ (y23 : Int) (y24 : Int) (y25 : Int), dom_Index_l3 n p0 k y23 y24 y25 = some res ∧ St 55 w0 f (.blk b6 (.cells #[v1] 24 (0, 0)) :: L) [(2, .pointer (some ⟨b6, 0, none⟩)), (5, .int .i64 (y23)), (6, .int .i64 (y24)), (7, .int .i64 (y25))] a w) (fun k => k) n ⟨1, x10.Prev, 0, hm, hs.sub ⟨rfl, rfl, rfl, rfl, trivial⟩⟩ ?_
    clear hs hm
    intro k
    rintro a w ⟨y23, y24, y25, hm, hs⟩
    replace hs : St _ _ _ (.blk b6 (.cells #[v1] 24 (0, 0)) :: L) _ _ _ := hs
    intro K10 hK10
    cases k with
    | zero => simp [dom_Index_l3] at hm
    | succ k26 =>
     rw [dom_Index_l3] at hm
     refine W_seq fun K11 hK11 => ?_
     refine W_seq fun K12 hK12 => ?_
     refine W_post (fun a w => ∃ (y27 : Bool), dom_Index_k4 p0 y23 y24 y25 (dom_Index_l3 n p0 k26) y27 = some res ∧ St 55 w0 f (.blk b6 (.cells #[v1] 24 (0, 0)) :: L) [(2, .pointer (some ⟨b6, 0, none⟩)), (5, .int .i64 (y23)), (6, .int .i64 (y24)), (7, .int .i64 (y25)), (36, .bool (y27))] a w) ?_ ?_
     ·clear hs hm
      rintro a w ⟨y27, hm, hs⟩
      replace hs : St _ _ _ (.blk b6 (.cells #[v1] 24 (0, 0)) :: L) _ _ _ := hs
      unfold dom_Index_k4 at hm
      refine hK12 _ _ ?_; clear hK12
      refine W_cond hs rfl (fun hg28 => ?_) (fun hg28 => ?_)
      ·replace hm := oc_t hg28 hm
       refine W_skip ?_
       refine hK11 _ _ ?_; clear hK11
       refine W_seq fun K13 hK13 => ?_
       refine W_block fun Qe14 hB14 hO14 => ?_
       refine W_seq fun K15 hK15 => ?_
       refine W_region ?_
       refine sy (v := .pointer (some ⟨b6, 0, none⟩)) hs (y_fieldAddr rfl (FO.of (off := 0) Try.underlying24 rfl rfl ti22 (by decide))) ?_; clear hs; (try clear a w); intro a w hs
       refine sy (v := v1) hs (y_ld rfl Try.underlying22 rfl (Cell.blk (.head _) rfl)) ?_; clear hs; (try clear a w); intro a w hs
       refine sy (v := .int .i64 (y24)) hs (y_move rfl) ?_; clear hs; (try clear a w); intro a w hs
       obtain ⟨x29, hx30, hm⟩ := ob hm
       obtain ⟨r31, hr32, hq33, hi34, hb35⟩ := hW4.geti hx30
       obtain ⟨v36, rfl, ⟨rw37, hR38, hW39⟩⟩ := hq33
       refine sy hs (y_indexAddr hR3 rfl rfl hi34 hb35 Try.underlying22 ti59) ?_; clear hs; (try clear a w); intro a w hs
       refine sy (v := eaddr v1 9 y24.toNat 0) hs (y_fieldAddrE (i := y24.toNat) (j := 0) hR3 rfl hb35 (FO.of (off := 0) Try.underlying59 rfl rfl ti3 (by decide))) ?_; clear hs; (try clear a w); intro a w hs
       refine sy (v := .int .i64 (x29.Kind)) hs (y_loadE (i := y24.toNat) (j := 0) hR3.up rfl hr32 rfl Try.underlying3 rfl) ?_; clear hs; (try clear a w); intro a w hs
       refine sy hs (y_eql rfl rfl) ?_; clear hs; (try clear a w); intro a w hs
       refine RL_nil ?_
       refine hK15 _ _ ?_; clear hK15
       refine W_post (fun a w => ∃ (y41 : Int), dom_Index_k5 p0 y24 y25 (dom_Index_l3 n p0 k26) y41 = some res ∧ St 55 w0 f (.blk b6 (.cells #[v1] 24 (0, 0)) :: L) [(2, .pointer (some ⟨b6, 0, none⟩)), (5, .int .i64 (y41)), (6, .int .i64 (y24)), (7, .int .i64 (y25))] a w) ?_ ?_
       ·clear hs hm
        rintro a w ⟨y41, hm, hs⟩
        replace hs : St _ _ _ (.blk b6 (.cells #[v1] 24 (0, 0)) :: L) _ _ _ := hs
        unfold dom_Index_k5 at hm
        refine hK13 _ _ ?_; clear hK13
        refine W_region ?_
        refine sy (v := .pointer (some ⟨b6, 0, none⟩)) hs (y_fieldAddr rfl (FO.of (off := 0) Try.underlying24 rfl rfl ti22 (by decide))) ?_; clear hs; (try clear a w); intro a w hs
        refine sy (v := v1) hs (y_ld rfl Try.underlying22 rfl (Cell.blk (.head _) rfl)) ?_; clear hs; (try clear a w); intro a w hs
        refine sy (v := .int .i64 (y24)) hs (y_move rfl) ?_; clear hs; (try clear a w); intro a w hs
        obtain ⟨x42, hx43, hm⟩ := ob hm
        obtain ⟨r44, hr45, hq46, hi47, hb48⟩ := hW4.geti hx43
        obtain ⟨v49, rfl, ⟨rw50, hR51, hW52⟩⟩ := hq46
        refine sy hs (y_indexAddr hR3 rfl rfl hi47 hb48 Try.underlying22 ti59) ?_; clear hs; (try clear a w); intro a w hs
        refine sy (v := eaddr v1 9 y24.toNat 7) hs (y_fieldAddrE (i := y24.toNat) (j := 0) hR3 rfl hb48 (FO.of (off := 7) Try.underlying59 rfl rfl ti3 (by decide))) ?_; clear hs; (try clear a w); intro a w hs
        refine sy (v := .int .i64 (x42.Prev)) hs (y_loadE (i := y24.toNat) (j := 7) hR3.up rfl hr45 rfl Try.underlying3 rfl) ?_; clear hs; (try clear a w); intro a w hs
        refine sy (v := .int .i64 (y25)) hs (y_move rfl) ?_; clear hs; (try clear a w); intro a w hs
        refine sy hs (y_add rfl rfl rfl) ?_; clear hs; (try clear a w); intro a w hs
        refine sy (v := .int .i64 (x42.Prev)) hs (y_assign rfl) ?_; clear hs; (try clear a w); intro a w hs
        refine sy (v := .int .i64 ((w64 (y25 + 1)))) hs (y_assign rfl) ?_; clear hs; (try clear a w); intro a w hs
        refine RL_nil ?_
        exact hK10 k26 _ _ (Nat.lt_succ_self _) ⟨y41, x42.Prev, (w64 (y25 + 1)), hm, hs.sub ⟨rfl, rfl, rfl, rfl, trivial⟩⟩
       ·refine W_cond hs rfl (fun hg54 => ?_) (fun hg54 => ?_)
        ·replace hm := oc_t hg54 hm
         refine W_region ?_
         refine sy (v := .int .i64 (y23)) hs (y_move rfl) ?_; clear hs; (try clear a w); intro a w hs
         refine sy hs (y_add rfl rfl rfl) ?_; clear hs; (try clear a w); intro a w hs
         refine sy (v := .int .i64 ((w64 (y23 + 1)))) hs (y_assign rfl) ?_; clear hs; (try clear a w); intro a w hs
         refine RL_nil ?_
         exact ⟨(w64 (y23 + 1)), hm, hs.sub ⟨rfl, rfl, rfl, rfl, trivial⟩⟩
        ·replace hm := oc_f hg54 hm
         refine W_skip ?_
         exact ⟨y23, hm, hs.sub ⟨rfl, rfl, rfl, rfl, trivial⟩⟩
      ·replace hm := oc_f hg28 hm
       refine W_exit ?_
       refine hB9 _ _ ?_
       exact ⟨y23, hm, hs.subs ⟨rfl, trivial⟩ (.cons _ (.refl _))⟩
     ·refine W_region ?_
      refine sy hs (y_ldB rfl Try.underlying24 rfl ti24 (.head _) rfl) ?_; clear hs; (try clear a w); intro a w hs
      refine sy (v := .int .i64 (y24)) hs (y_move rfl) ?_; clear hs; (try clear a w); intro a w hs
      obtain ⟨x55, hx56, hm⟩ := ob hm
      refine sy hs (y_call rfl has46 rfl (dom_has_ok n (f := f) (a0 := [v1]) ⟨_, rfl, ⟨rw2, hR3, hW4⟩⟩ hx56)) ?_; clear hs; (try clear a w); intro a w hs
      refine sy (v := .bool (x55)) hs (y_move rfl) ?_; clear hs; (try clear a w); intro a w hs
      refine St.split hs (t := 30) rfl (fun hg57 hq => ?_) (fun hg57 hq => ?_)
      ·clear hs; have hs := hq; clear hq
       replace hm := oc_t hg57 hm
       refine syg (v := .int .i64 (y25)) hs (y_move rfl) ?_; clear hs; (try clear a w); intro a w hs
       refine syg (v := .pointer (some ⟨b6, 0, none⟩)) hs (y_fieldAddr rfl (FO.of (off := 0) Try.underlying24 rfl rfl ti22 (by decide))) ?_; clear hs; (try clear a w); intro a w hs
       refine syg (v := v1) hs (y_ld rfl Try.underlying22 rfl (Cell.blk (.head _) rfl)) ?_; clear hs; (try clear a w); intro a w hs
       refine syg hs (y_lenW hR3 hW4 rfl Try.underlying22) ?_; clear hs; (try clear a w); intro a w hs
       refine syg hs (y_leq rfl rfl) ?_; clear hs; (try clear a w); intro a w hs
       refine sy (v := .bool (decide (y25 ≤ (p0.Nodes.length : Int)))) hs (y_pick rfl rfl) ?_; clear hs; (try clear a w); intro a w hs
       refine RL_nil ?_
       exact ⟨decide (y25 ≤ (p0.Nodes.length : Int)), hm, hs.sub ⟨rfl, rfl, rfl, rfl, rfl, trivial⟩⟩
      ·clear hs; have hs := hq; clear hq
       replace hm := oc_f hg57 hm
       refine sno hs ?_; clear hs; (try clear a w); intro a w hs
       refine sno hs ?_; clear hs; (try clear a w); intro a w hs
       refine sno hs ?_; clear hs; (try clear a w); intro a w hs
       refine sno hs ?_; clear hs; (try clear a w); intro a w hs
       refine sno hs ?_; clear hs; (try clear a w); intro a w hs
       refine sy (v := .bool (false)) hs (y_pick rfl rfl) ?_; clear hs; (try clear a w); intro a w hs
       refine RL_nil ?_
       exact ⟨false, hm, hs.sub ⟨rfl, rfl, rfl, rfl, rfl, trivial⟩⟩
 ·refine W_region ?_
  refine sy hs (y_ldB rfl Try.underlying24 rfl ti24 (.head _) rfl) ?_; clear hs; (try clear a w); intro a w hs
  refine sy (v := .int .i64 (p1)) hs (y_move rfl) ?_; clear hs; (try clear a w); intro a w hs
  obtain ⟨x58, hx59, hm⟩ := ob hm
  refine sy hs (y_call rfl has46 rfl (dom_has_ok n (f := f) (a0 := [v1]) ⟨_, rfl, ⟨rw2, hR3, hW4⟩⟩ hx59)) ?_; clear hs; (try clear a w); intro a w hs
  refine sy (v := .bool ((!x58))) hs (y_not rfl) ?_; clear hs; (try clear a w); intro a w hs
  refine sy (v := .bool ((!x58))) hs (y_move rfl) ?_; clear hs; (try clear a w); intro a w hs
  refine St.split hs (t := 12) rfl (fun hg60 hq => ?_) (fun hg60 hq => ?_)
  ·clear hs; have hs := hq; clear hq
   replace hm := oc_t hg60 hm
   refine sno hs ?_; clear hs; (try clear a w); intro a w hs
   refine sno hs ?_; clear hs; (try clear a w); intro a w hs
   refine sno hs ?_; clear hs; (try clear a w); intro a w hs
   refine sno hs ?_; clear hs; (try clear a w); intro a w hs
   refine sno hs ?_; clear hs; (try clear a w); intro a w hs
   refine sno hs ?_; clear hs; (try clear a w); intro a w hs
   refine sno hs ?_; clear hs; (try clear a w); intro a w hs
   refine sy (v := .bool (true)) hs (y_pick rfl rfl) ?_; clear hs; (try clear a w); intro a w hs
   refine RL_nil ?_
   exact ⟨true, hm, hs.sub ⟨rfl, rfl, rfl, trivial⟩⟩
  ·clear hs; have hs := hq; clear hq
   replace hm := oc_f hg60 hm
   refine syg (v := .pointer (some ⟨b6, 0, none⟩)) hs (y_fieldAddr rfl (FO.of (off := 0) Try.underlying24 rfl rfl ti22 (by decide))) ?_; clear hs; (try clear a w); intro a w hs
   refine syg (v := v1) hs (y_ld rfl Try.underlying22 rfl (Cell.blk (.head _) rfl)) ?_; clear hs; (try clear a w); intro a w hs
   refine syg (v := .int .i64 (p1)) hs (y_move rfl) ?_; clear hs; (try clear a w); intro a w hs
   obtain ⟨x61, hx62, hm⟩ := ob hm
   obtain ⟨r63, hr64, hq65, hi66, hb67⟩ := hW4.geti hx62
   obtain ⟨v68, rfl, ⟨rw69, hR70, hW71⟩⟩ := hq65
   refine syg hs (y_indexAddr hR3 rfl rfl hi66 hb67 Try.underlying22 ti59) ?_; clear hs; (try clear a w); intro a w hs
   refine syg (v := eaddr v1 9 p1.toNat 0) hs (y_fieldAddrE (i := p1.toNat) (j := 0) hR3 rfl hb67 (FO.of (off := 0) Try.underlying59 rfl rfl ti3 (by decide))) ?_; clear hs; (try clear a w); intro a w hs
   refine syg (v := .int .i64 (x61.Kind)) hs (y_loadE (i := p1.toNat) (j := 0) hR3.up rfl hr64 rfl Try.underlying3 rfl) ?_; clear hs; (try clear a w); intro a w hs
   refine syg hs (y_neq rfl rfl) ?_; clear hs; (try clear a w); intro a w hs
   refine sy (v := .bool (decide (x61.Kind ≠ 1))) hs (y_pick rfl rfl) ?_; clear hs; (try clear a w); intro a w hs
   refine RL_nil ?_
   exact ⟨decide (x61.Kind ≠ 1), hm, hs.sub ⟨rfl, rfl, rfl, trivial⟩⟩

/-! casement/dom.Attr -/
def dom_Attr_k2 : Option (ByteArray × Bool) :=
  some ((bs []), false)
def dom_Attr_l3 (p2 : ByteArray) (x10 : api_Node) : Nat → Int → Option (ByteArray × Bool)
  | 0, _ => none
  | k23 + 1, y22 =>
  (bif (decide (y22 < (x10.Attrs.length : Int))) then (geti x10.Attrs y22).bind fun x25 =>
  (bif (decide (x25.Name = p2)) then some (x25.Value, true) else
  (dom_Attr_l3 p2 x10 k23) (w64 (y22 + 1))) else
  dom_Attr_k2)
def dom_Attr_k1 (n : Nat) (p0 : api_Tree) (p1 : Int) (p2 : ByteArray) (y8 : Bool) : Option (ByteArray × Bool) :=
  (bif y8 then some ((bs []), false) else
  (geti p0.Nodes p1).bind fun x10 =>
  dom_Attr_l3 p2 x10 n 0)
def dom_Attr (n : Nat) (p0 : api_Tree) (p1 : Int) (p2 : ByteArray) : Option (ByteArray × Bool) :=
  (dom_has n p0 p1).bind fun x35 =>
  (bif (!x35) then dom_Attr_k1 n p0 p1 p2 true else
  (geti p0.Nodes p1).bind fun x38 =>
  dom_Attr_k1 n p0 p1 p2 (decide (x38.Kind ≠ 1)))
theorem dom_Attr_ok (n : Nat) {f : Fz} {p0 : api_Tree} {a0 : List Value} {p1 : Int} {p2 : ByteArray} {res : (ByteArray × Bool)} (h0 : t_api_Tree.R f a0 p0) (hm : dom_Attr n p0 p1 p2 = some res) : Gives Try.prog 29 [.agg a0.toArray, .int .i64 p1, .string p2] f (.tuple #[.string res.1, .bool res.2]) := by
 unfold dom_Attr at hm
 intro w0 L w hC
 obtain ⟨v1, rfl, ⟨rw2, hR3, hW4⟩⟩ := h0
 refine enter Try.func29 rfl Try.ntmps29 (by simp) hC fun a hs => ?_
 have hle := Fz.le.refl f
 refine W_seq fun K1 hK1 => ?_
 refine W_region ?_
 refine sbox hs rfl ?_; clear hs; (try clear a w); intro b6 a w hs
 replace hs : St _ _ _ (.blk b6 (.cells #[v1] 24 (0, 0)) :: L) _ _ _ := hs
 refine sy (v := .string ((bs []))) hs (y_assign rfl) ?_; clear hs; (try clear a w); intro a w hs
 refine sy (v := .bool (false)) hs (y_assign rfl) ?_; clear hs; (try clear a w); intro a w hs
 refine RL_nil ?_
 refine hK1 _ _ ?_; clear hK1
 refine W_seq fun K2 hK2 => ?_
 refine W_seq fun K3 hK3 => ?_
 refine W_post (fun a w => ∃ (y8 : Bool), dom_Attr_k1 n p0 p1 p2 y8 = some res ∧ St 41 w0 f (.blk b6 (.cells #[v1] 24 (0, 0)) :: L) [(1, .int .i64 (p1)), (2, .string (p2)), (3, .pointer (some ⟨b6, 0, none⟩)), (22, .bool (y8))] a w) ?_ ?_
 ·clear hs hm
  rintro a w ⟨y8, hm, hs⟩
  replace hs : St _ _ _ (.blk b6 (.cells #[v1] 24 (0, 0)) :: L) _ _ _ := hs
  unfold dom_Attr_k1 at hm
  refine hK3 _ _ ?_; clear hK3
  refine W_cond hs rfl (fun hg9 => ?_) (fun hg9 => ?_)
  ·replace hm := oc_t hg9 hm
   refine W_seq fun K4 hK4 => ?_
   refine W_region ?_
   refine sy (v := .string ((bs []))) hs (y_assign rfl) ?_; clear hs; (try clear a w); intro a w hs
   refine sy (v := .bool (false)) hs (y_assign rfl) ?_; clear hs; (try clear a w); intro a w hs
   refine RL_nil ?_
   refine hK4 _ _ ?_; clear hK4
   refine W_ret ?_
   obtain rfl := Option.some.inj hm
   refine RtV2 hs rfl (rv_t hs rfl) (rv_t hs rfl) ?_
   exact ⟨rfl, ((hs.subL (.cons _ (.refl _))).weak hle).cw⟩
  ·replace hm := oc_f hg9 hm
   refine W_skip ?_
   refine hK2 _ _ ?_; clear hK2
   refine W_seq fun K5 hK5 => ?_
   refine W_seq fun K6 hK6 => ?_
   refine W_region ?_
   refine sy (v := .pointer (some ⟨b6, 0, none⟩)) hs (y_fieldAddr rfl (FO.of (off := 0) Try.underlying24 rfl rfl ti22 (by decide))) ?_; clear hs; (try clear a w); intro a w hs
   refine sy (v := v1) hs (y_ld rfl Try.underlying22 rfl (Cell.blk (.head _) rfl)) ?_; clear hs; (try clear a w); intro a w hs
   refine sy (v := .int .i64 (p1)) hs (y_move rfl) ?_; clear hs; (try clear a w); intro a w hs
   obtain ⟨x10, hx11, hm⟩ := ob hm
   obtain ⟨r12, hr13, hq14, hi15, hb16⟩ := hW4.geti hx11
   obtain ⟨v17, rfl, ⟨rw18, hR19, hW20⟩⟩ := hq14
   refine sy hs (y_indexAddr hR3 rfl rfl hi15 hb16 Try.underlying22 ti59) ?_; clear hs; (try clear a w); intro a w hs
   refine sy (v := eaddr v1 9 p1.toNat 3) hs (y_fieldAddrE (i := p1.toNat) (j := 0) hR3 rfl hb16 (FO.of (off := 3) Try.underlying59 rfl rfl ti32 (by decide))) ?_; clear hs; (try clear a w); intro a w hs
   refine sy (v := v17) hs (y_loadE (i := p1.toNat) (j := 3) hR3.up rfl hr13 rfl Try.underlying32 rfl) ?_; clear hs; (try clear a w); intro a w hs
   refine sy hs (y_lenW hR19 hW20 rfl Try.underlying32) ?_; clear hs; (try clear a w); intro a w hs
   refine sy (v := .int .i64 (0)) hs (y_move rfl) ?_; clear hs; (try clear a w); intro a w hs
   refine RL_nil ?_
   refine hK6 _ _ ?_; clear hK6
   refine W_post (fun a w => dom_Attr_k2 = some res ∧ St 41 w0 f (L) [] a w) ?_ ?_
   ·clear hs hm
    rintro a w ⟨hm, hs⟩
    replace hs : St _ _ _ (L) _ _ _ := hs
    unfold dom_Attr_k2 at hm
    refine hK5 _ _ ?_; clear hK5
    refine W_seq fun K7 hK7 => ?_
    refine W_region ?_
    refine sy (v := .string ((bs []))) hs (y_assign rfl) ?_; clear hs; (try clear a w); intro a w hs
    refine sy (v := .bool (false)) hs (y_assign rfl) ?_; clear hs; (try clear a w); intro a w hs
    refine RL_nil ?_
    refine hK7 _ _ ?_; clear hK7
    refine W_ret ?_
    obtain rfl := Option.some.inj hm
    refine RtV2 hs rfl (rv_t hs rfl) (rv_t hs rfl) ?_
    exact ⟨rfl, (hs.weak hle).cw⟩
   ·refine W_block fun Qe8 hB8 hO8 => ?_
    refine W_loop (fun (k : Nat) a w => ∃ (y22 : Int), dom_Attr_l3 p2 x10 k y22 = some res ∧ St 41 w0 f (L) [(2, .string (p2)), (28, v17), (29, .int .i64 ((x10.Attrs.length : Int))), (30, .int .i64 (y22))] a w) (fun k => k) n ⟨0, hm, hs.subs ⟨rfl, rfl, rfl, rfl, trivial⟩ (.cons _ (.refl _))⟩ ?_
    clear hs hm
    intro k
    rintro a w ⟨y22, hm, hs⟩
    replace hs : St _ _ _ (L) _ _ _ := hs
    intro K9 hK9
    cases k with
    | zero => simp [dom_Attr_l3] at hm
    | succ k23 =>
     rw [dom_Attr_l3] at hm
     refine W_seq fun K10 hK10 => ?_
     refine W_region ?_
     refine sy hs (y_lss rfl rfl) ?_; clear hs; (try clear a w); intro a w hs
     refine RL_nil ?_
     refine hK10 _ _ ?_; clear hK10
     refine W_seq fun K11 hK11 => ?_
     refine W_cond hs rfl (fun hg24 => ?_) (fun hg24 => ?_)
     ·replace hm := oc_t hg24 hm
      refine W_skip ?_
      refine hK11 _ _ ?_; clear hK11
      refine W_seq fun K12 hK12 => ?_
      refine W_block fun Qe13 hB13 hO13 => ?_
      refine W_seq fun K14 hK14 => ?_
      refine W_region ?_
      obtain ⟨x25, hx26, hm⟩ := ob hm
      obtain ⟨r27, hr28, hq29, hi30, hb31⟩ := hW20.geti hx26
      obtain rfl : _ = ([.string (x25.Name), .string (x25.Value)] : List Value) := hq29
      refine sy hs (y_indexAddr hR19 rfl rfl hi30 hb31 Try.underlying32 ti53) ?_; clear hs; (try clear a w); intro a w hs
      refine sy hs (y_loadRow hR19.up rfl hr28 Try.underlying53 rfl ti53) ?_; clear hs; (try clear a w); intro a w hs
      refine RL_alloc hs ti53 (.free rfl) (by decide) ?_; clear hs; (try clear a w); intro b32 a w hs
      replace hs : St _ _ _ (.blk b32 (.cells #[.string ((bs [])), .string ((bs []))] 53 (0, 0)) :: L) _ _ _ := hs
      refine RL_storeAll (i := 0) hs rfl rfl rfl ti53 ⟨rfl, rfl⟩ (AllC.arr (r := [.string (x25.Name), .string (x25.Value)]) ⟨rfl, rfl, trivial⟩) (.free rfl) ?_; clear hs; (try clear a w); intro a w hs
      replace hs : St _ _ _ (.blk b32 (.cells #[.string (x25.Name), .string (x25.Value)] 53 (0, 0)) :: L) _ _ _ := hs
      refine RL_nil ?_
      refine hK14 _ _ ?_; clear hK14
      refine W_seq fun K15 hK15 => ?_
      refine W_region ?_
      refine sy (v := .pointer (some ⟨b32, 0, none⟩)) hs (y_fieldAddr rfl (FO.of (off := 0) Try.underlying53 rfl rfl ti9 (by decide))) ?_; clear hs; (try clear a w); intro a w hs
      refine sy (v := .string (x25.Name)) hs (y_ld rfl Try.underlying9 rfl (Cell.blk (.head _) rfl)) ?_; clear hs; (try clear a w); intro a w hs
      refine sy (v := .string (p2)) hs (y_move rfl) ?_; clear hs; (try clear a w); intro a w hs
      refine sy hs (y_seql rfl rfl) ?_; clear hs; (try clear a w); intro a w hs
      refine RL_nil ?_
      refine hK15 _ _ ?_; clear hK15
      refine W_cond hs rfl (fun hg34 => ?_) (fun hg34 => ?_)
      ·replace hm := oc_t hg34 hm
       refine W_seq fun K16 hK16 => ?_
       refine W_region ?_
       refine sy (v := .pointer (some ⟨b32, 1, none⟩)) hs (y_fieldAddr rfl (FO.of (off := 1) Try.underlying53 rfl rfl ti9 (by decide))) ?_; clear hs; (try clear a w); intro a w hs
       refine sy (v := .string (x25.Value)) hs (y_ld rfl Try.underlying9 rfl (Cell.blk (.head _) rfl)) ?_; clear hs; (try clear a w); intro a w hs
       refine sy (v := .string (x25.Value)) hs (y_assign rfl) ?_; clear hs; (try clear a w); intro a w hs
       refine sy (v := .bool (true)) hs (y_assign rfl) ?_; clear hs; (try clear a w); intro a w hs
       refine RL_nil ?_
       refine hK16 _ _ ?_; clear hK16
       refine W_ret ?_
       obtain rfl := Option.some.inj hm
       refine RtV2 hs rfl (rv_t hs rfl) (rv_t hs rfl) ?_
       exact ⟨rfl, ((hs.subL (.cons _ (.refl _))).weak hle).cw⟩
      ·replace hm := oc_f hg34 hm
       refine W_skip ?_
       refine hK12 _ _ ?_; clear hK12
       refine W_region ?_
       refine sy hs (y_add rfl rfl rfl) ?_; clear hs; (try clear a w); intro a w hs
       refine sy (v := .int .i64 ((w64 (y22 + 1)))) hs (y_move rfl) ?_; clear hs; (try clear a w); intro a w hs
       refine RL_nil ?_
       exact hK9 k23 _ _ (Nat.lt_succ_self _) ⟨(w64 (y22 + 1)), hm, hs.subs ⟨rfl, rfl, rfl, rfl, trivial⟩ (.cons _ (.refl _))⟩
     ·replace hm := oc_f hg24 hm
      refine W_exit ?_
      refine hB8 _ _ ?_
      exact ⟨hm, hs.sub trivial⟩
 ·refine W_region ?_
  refine sy hs (y_ldB rfl Try.underlying24 rfl ti24 (.head _) rfl) ?_; clear hs; (try clear a w); intro a w hs
  refine sy (v := .int .i64 (p1)) hs (y_move rfl) ?_; clear hs; (try clear a w); intro a w hs
  obtain ⟨x35, hx36, hm⟩ := ob hm
  refine sy hs (y_call rfl has46 rfl (dom_has_ok n (f := f) (a0 := [v1]) ⟨_, rfl, ⟨rw2, hR3, hW4⟩⟩ hx36)) ?_; clear hs; (try clear a w); intro a w hs
  refine sy (v := .bool ((!x35))) hs (y_not rfl) ?_; clear hs; (try clear a w); intro a w hs
  refine sy (v := .bool ((!x35))) hs (y_move rfl) ?_; clear hs; (try clear a w); intro a w hs
  refine St.split hs (t := 14) rfl (fun hg37 hq => ?_) (fun hg37 hq => ?_)
  ·clear hs; have hs := hq; clear hq
   replace hm := oc_t hg37 hm
   refine sno hs ?_; clear hs; (try clear a w); intro a w hs
   refine sno hs ?_; clear hs; (try clear a w); intro a w hs
   refine sno hs ?_; clear hs; (try clear a w); intro a w hs
   refine sno hs ?_; clear hs; (try clear a w); intro a w hs
   refine sno hs ?_; clear hs; (try clear a w); intro a w hs
   refine sno hs ?_; clear hs; (try clear a w); intro a w hs
   refine sno hs ?_; clear hs; (try clear a w); intro a w hs
   refine sy (v := .bool (true)) hs (y_pick rfl rfl) ?_; clear hs; (try clear a w); intro a w hs
   refine RL_nil ?_
   exact ⟨true, hm, hs.sub ⟨rfl, rfl, rfl, rfl, trivial⟩⟩
  ·clear hs; have hs := hq; clear hq
   replace hm := oc_f hg37 hm
   refine syg (v := .pointer (some ⟨b6, 0, none⟩)) hs (y_fieldAddr rfl (FO.of (off := 0) Try.underlying24 rfl rfl ti22 (by decide))) ?_; clear hs; (try clear a w); intro a w hs
   refine syg (v := v1) hs (y_ld rfl Try.underlying22 rfl (Cell.blk (.head _) rfl)) ?_; clear hs; (try clear a w); intro a w hs
   refine syg (v := .int .i64 (p1)) hs (y_move rfl) ?_; clear hs; (try clear a w); intro a w hs
   obtain ⟨x38, hx39, hm⟩ := ob hm
   obtain ⟨r40, hr41, hq42, hi43, hb44⟩ := hW4.geti hx39
   obtain ⟨v45, rfl, ⟨rw46, hR47, hW48⟩⟩ := hq42
   refine syg hs (y_indexAddr hR3 rfl rfl hi43 hb44 Try.underlying22 ti59) ?_; clear hs; (try clear a w); intro a w hs
   refine syg (v := eaddr v1 9 p1.toNat 0) hs (y_fieldAddrE (i := p1.toNat) (j := 0) hR3 rfl hb44 (FO.of (off := 0) Try.underlying59 rfl rfl ti3 (by decide))) ?_; clear hs; (try clear a w); intro a w hs
   refine syg (v := .int .i64 (x38.Kind)) hs (y_loadE (i := p1.toNat) (j := 0) hR3.up rfl hr41 rfl Try.underlying3 rfl) ?_; clear hs; (try clear a w); intro a w hs
   refine syg hs (y_neq rfl rfl) ?_; clear hs; (try clear a w); intro a w hs
   refine sy (v := .bool (decide (x38.Kind ≠ 1))) hs (y_pick rfl rfl) ?_; clear hs; (try clear a w); intro a w hs
   refine RL_nil ?_
   exact ⟨decide (x38.Kind ≠ 1), hm, hs.sub ⟨rfl, rfl, rfl, rfl, trivial⟩⟩

/-! casement/dom.Kids -/
def dom_Kids_k1 (y27 : (List Int)) : Option (List Int) :=
  some y27
def dom_Kids_k3 (p0 : api_Tree) (y36 : (List Int)) (y41 : Int) (lp46 : (List Int) → Int → Option (List Int)) (y47 : Bool) : Option (List Int) :=
  (bif y47 then (appM 8 y36 [y41]).bind fun x54 =>
  (geti p0.Nodes y41).bind fun x60 =>
  lp46 x54 x60.Next else
  dom_Kids_k1 y36)
def dom_Kids_l2 (n : Nat) (p0 : api_Tree) : Nat → (List Int) → Int → Option (List Int)
  | 0, _, _ => none
  | k46 + 1, y36, y41 =>
  (dom_has n p0 y41).bind fun x72 =>
  (bif x72 then dom_Kids_k3 p0 y36 y41 (dom_Kids_l2 n p0 k46) (decide ((y36.length : Int) < (p0.Nodes.length : Int))) else
  dom_Kids_k3 p0 y36 y41 (dom_Kids_l2 n p0 k46) false)
def dom_Kids (n : Nat) (p0 : api_Tree) (p1 : Int) : Option (List Int) :=
  (dom_has n p0 p1).bind fun x9 =>
  (bif (!x9) then some ([] : List Int) else
  (geti p0.Nodes p1).bind fun x14 =>
  dom_Kids_l2 n p0 n ([] : List Int) x14.First)
theorem dom_Kids_ok (n : Nat) {f : Fz} {p0 : api_Tree} {a0 : List Value} {p1 : Int} {res : (List Int)} (h0 : t_api_Tree.R f a0 p0) (hm : dom_Kids n p0 p1 = some res) : Does Try.prog 26 [.agg a0.toArray, .int .i64 p1] f [] (fun r f' L' => ∃ (u0 : Value), L' = [] ∧ r = u0 ∧ RS (tInt .i64) f' u0 res) := by
 unfold dom_Kids at hm
 intro w0 L w hC
 obtain ⟨v1, rfl, ⟨rw2, hR3, hW4⟩⟩ := h0
 refine enter Try.func26 rfl Try.ntmps26 (by simp) hC fun a hs => ?_
 have hle := Fz.le.refl f
 refine W_seq fun K1 hK1 => ?_
 refine W_region ?_
 refine sbox hs rfl ?_; clear hs; (try clear a w); intro b6 a w hs
 replace hs : St _ _ _ (.blk b6 (.cells #[v1] 24 (0, 0)) :: L) _ _ _ := hs
 refine sy (v := (.slice none 0 0)) hs (y_assign rfl) ?_; clear hs; (try clear a w); intro a w hs
 refine RL_nil ?_
 refine hK1 _ _ ?_; clear hK1
 refine W_seq fun K2 hK2 => ?_
 refine W_seq fun K3 hK3 => ?_
 refine W_region ?_
 refine sy hs (y_ldB rfl Try.underlying24 rfl ti24 (.head _) rfl) ?_; clear hs; (try clear a w); intro a w hs
 refine sy (v := .int .i64 (p1)) hs (y_move rfl) ?_; clear hs; (try clear a w); intro a w hs
 obtain ⟨x9, hx10, hm⟩ := ob hm
 refine sy hs (y_call rfl has46 rfl (dom_has_ok n (f := f) (a0 := [v1]) ⟨_, rfl, ⟨rw2, hR3, hW4⟩⟩ hx10)) ?_; clear hs; (try clear a w); intro a w hs
 refine sy (v := .bool ((!x9))) hs (y_not rfl) ?_; clear hs; (try clear a w); intro a w hs
 refine RL_nil ?_
 refine hK3 _ _ ?_; clear hK3
 refine W_cond hs rfl (fun hg11 => ?_) (fun hg11 => ?_)
 ·replace hm := oc_t hg11 hm
  refine W_seq fun K4 hK4 => ?_
  refine W_region ?_
  refine sy (v := (.slice none 0 0)) hs (y_assign rfl) ?_; clear hs; (try clear a w); intro a w hs
  refine RL_nil ?_
  refine hK4 _ _ ?_; clear hK4
  refine W_ret ?_
  obtain rfl := Option.some.inj hm
  refine RtV1 hs rfl (rv_t hs rfl) ?_
  exact ⟨_, f, [], rfl, hle, (hs.subL (.cons _ (.refl _))).cw, (.slice none 0 0), rfl, rfl, RS.nil⟩
 ·replace hm := oc_f hg11 hm
  refine W_skip ?_
  refine hK2 _ _ ?_; clear hK2
  refine W_seq fun K5 hK5 => ?_
  refine W_region ?_
  refine sy (v := (.slice none 0 0)) hs (y_assign rfl) ?_; clear hs; (try clear a w); intro a w hs
  refine RL_nil ?_
  refine hK5 _ _ ?_; clear hK5
  refine W_seq fun K6 hK6 => ?_
  refine W_seq fun K7 hK7 => ?_
  refine W_region ?_
  refine sy (v := .pointer (some ⟨b6, 0, none⟩)) hs (y_fieldAddr rfl (FO.of (off := 0) Try.underlying24 rfl rfl ti22 (by decide))) ?_; clear hs; (try clear a w); intro a w hs
  refine sy (v := v1) hs (y_ld rfl Try.underlying22 rfl (Cell.blk (.head _) rfl)) ?_; clear hs; (try clear a w); intro a w hs
  refine sy (v := .int .i64 (p1)) hs (y_move rfl) ?_; clear hs; (try clear a w); intro a w hs
  obtain ⟨x14, hx15, hm⟩ := ob hm
  obtain ⟨r16, hr17, hq18, hi19, hb20⟩ := hW4.geti hx15
  obtain ⟨v21, rfl, ⟨rw22, hR23, hW24⟩⟩ := hq18
  refine sy hs (y_indexAddr hR3 rfl rfl hi19 hb20 Try.underlying22 ti59) ?_; clear hs; (try clear a w); intro a w hs
  refine sy (v := eaddr v1 9 p1.toNat 5) hs (y_fieldAddrE (i := p1.toNat) (j := 0) hR3 rfl hb20 (FO.of (off := 5) Try.underlying59 rfl rfl ti3 (by decide))) ?_; clear hs; (try clear a w); intro a w hs
  refine sy (v := .int .i64 (x14.First)) hs (y_loadE (i := p1.toNat) (j := 5) hR3.up rfl hr17 rfl Try.underlying3 rfl) ?_; clear hs; (try clear a w); intro a w hs
  refine sy (v := .int .i64 (x14.First)) hs (y_assign rfl) ?_; clear hs; (try clear a w); intro a w hs
  refine RL_nil ?_
  refine hK7 _ _ ?_; clear hK7
  refine W_post (fun a w => ∃ (y27 : (List Int)) (v28 : Value) (rw29 : List (List Value)), dom_Kids_k1 y27 = some res ∧ RW (tInt .i64) f rw29 y27 ∧ St 39 w0 f (.row v28 3 1 rw29 :: L) [(5, v28)] a w) ?_ ?_
  ·clear hs hm
   rintro a w ⟨y27, v28, rw29, hm, hW30, hs⟩
   replace hs : St _ _ _ (.row v28 3 1 rw29 :: L) _ _ _ := hs
   unfold dom_Kids_k1 at hm
   refine hK6 _ _ ?_; clear hK6
   refine W_seq fun K8 hK8 => ?_
   refine W_region ?_
   refine sy (v := v28) hs (y_move rfl) ?_; clear hs; (try clear a w); intro a w hs
   refine sy (v := v28) hs (y_assign rfl) ?_; clear hs; (try clear a w); intro a w hs
   refine RL_nil ?_
   refine hK8 _ _ ?_; clear hK8
   refine W_ret ?_
   obtain ⟨f32, hf33, hs2, hR34⟩ := hs.frzAt 0 rfl
   clear hs; have hs := hs2; clear hs2
   replace hW30 := hW30.le hf33
   replace hle := hle.trans hf33
   replace hs : St _ _ _ (L) _ _ _ := hs
   obtain rfl := Option.some.inj hm
   refine RtV1 hs rfl (rv_t hs rfl) ?_
   exact ⟨_, f32, [], rfl, hle, hs.cw, v28, rfl, rfl, ⟨rw29, hR34, hW30⟩⟩
  ·refine W_block fun Qe9 hB9 hO9 => ?_
   replace hs := hs.nilRow 3 1
   have hW42 : RW (tInt .i64) f [] ([] : List Int) := trivial
   generalize hgrw43 : ([] : List (List Value)) = rw43 at hs hW42; clear hgrw43
   replace hs : St _ _ _ (.row (.slice none 0 0) 3 1 rw43 :: .blk b6 (.cells #[v1] 24 (0, 0)) :: L) _ _ _ := hs
   refine W_loop (fun (k : Nat) a w => ∃ (y36 : (List Int)) (y41 : Int) (v37 : Value) (rw38 : List (List Value)), dom_Kids_l2 n p0 k y36 y41 = some res ∧ RW (tInt .i64) f rw38 y36 ∧ St 39 w0 f (.row v37 3 1 rw38 :: .blk b6 (.cells #[v1] 24 (0, 0)) :: L) [(2, .pointer (some ⟨b6, 0, none⟩)), (5, v37), (6, .int .i64 (y41))] a w) (fun k => k) n ⟨([] : List Int), x14.First, (.slice none 0 0), rw43, hm, hW42, hs.sub ⟨rfl, rfl, rfl, trivial⟩⟩ ?_
   clear hs hm
   intro k
   rintro a w ⟨y36, y41, v37, rw38, hm, hW39, hs⟩
   replace hs : St _ _ _ (.row v37 3 1 rw38 :: .blk b6 (.cells #[v1] 24 (0, 0)) :: L) _ _ _ := hs
   intro K10 hK10
   cases k with
   | zero => simp [dom_Kids_l2] at hm
   | succ k46 =>
    rw [dom_Kids_l2] at hm
    refine W_seq fun K11 hK11 => ?_
    refine W_seq fun K12 hK12 => ?_
    refine W_post (fun a w => ∃ (y47 : Bool), dom_Kids_k3 p0 y36 y41 (dom_Kids_l2 n p0 k46) y47 = some res ∧ St 39 w0 f (.row v37 3 1 rw38 :: .blk b6 (.cells #[v1] 24 (0, 0)) :: L) [(2, .pointer (some ⟨b6, 0, none⟩)), (5, v37), (6, .int .i64 (y41)), (27, .bool (y47))] a w) ?_ ?_
    ·clear hs hm
     rintro a w ⟨y47, hm, hs⟩
     replace hs : St _ _ _ (.row v37 3 1 rw38 :: .blk b6 (.cells #[v1] 24 (0, 0)) :: L) _ _ _ := hs
     unfold dom_Kids_k3 at hm
     refine hK12 _ _ ?_; clear hK12
     refine W_cond hs rfl (fun hg48 => ?_) (fun hg48 => ?_)
     ·replace hm := oc_t hg48 hm
      refine W_skip ?_
      refine hK11 _ _ ?_; clear hK11
      refine W_seq fun K13 hK13 => ?_
      refine W_block fun Qe14 hB14 hO14 => ?_
      refine W_region ?_
      refine sy (v := v37) hs (y_move rfl) ?_; clear hs; (try clear a w); intro a w hs
      refine sy (v := .int .i64 (y41)) hs (y_move rfl) ?_; clear hs; (try clear a w); intro a w hs
      refine RL_bs1s hs rfl Try.underlying60 ti3 rfl rfl ?_; clear hs; (try clear a w); intro v49 a w hs
      have hW50 : RW (tInt .i64) f [[.int .i64 (y41)]] [y41] := RW.single (rfl)
      generalize hgrw51 : ([[.int .i64 (y41)]] : List (List Value)) = rw51 at hs hW50; clear hgrw51
      replace hs : St _ _ _ (.row v49 3 1 rw51 :: .row v37 3 1 rw38 :: .blk b6 (.cells #[v1] 24 (0, 0)) :: L) _ _ _ := hs
      obtain ⟨x54, hx55, hm⟩ := ob hm
      obtain ⟨hbx54, hex54⟩ := appM_some hx55
      have hW58 := hW39.append hW50; rw [hex54] at hW58
      refine RL_append (i := 1) hs rfl rfl rfl (Rd.st hs (.head _)) Try.underlying60 ti3 (by decide) (by rw [RW.len hW39, RW.len hW50]; exact hbx54) (.free rfl) (by decide) ?_; clear hs; (try clear a w); intro v56 a w hs
      generalize hgx54 : rw38 ++ rw51 = rw57 at hs hW58; clear hgx54
      replace hs := hs.erase 0
      replace hs : St _ _ _ (.row v56 3 1 rw57 :: .blk b6 (.cells #[v1] 24 (0, 0)) :: L) _ _ _ := hs
      refine sy (v := v56) hs (y_assign rfl) ?_; clear hs; (try clear a w); intro a w hs
      refine RL_nil ?_
      refine hK13 _ _ ?_; clear hK13
      refine W_region ?_
      refine sy (v := .pointer (some ⟨b6, 0, none⟩)) hs (y_fieldAddr rfl (FO.of (off := 0) Try.underlying24 rfl rfl ti22 (by decide))) ?_; clear hs; (try clear a w); intro a w hs
      refine sy (v := v1) hs (y_ld rfl Try.underlying22 rfl (Cell.blk (.tail _ (.head _)) rfl)) ?_; clear hs; (try clear a w); intro a w hs
      refine sy (v := .int .i64 (y41)) hs (y_move rfl) ?_; clear hs; (try clear a w); intro a w hs
      obtain ⟨x60, hx61, hm⟩ := ob hm
      obtain ⟨r62, hr63, hq64, hi65, hb66⟩ := hW4.geti hx61
      obtain ⟨v67, rfl, ⟨rw68, hR69, hW70⟩⟩ := hq64
      refine sy hs (y_indexAddr hR3 rfl rfl hi65 hb66 Try.underlying22 ti59) ?_; clear hs; (try clear a w); intro a w hs
      refine sy (v := eaddr v1 9 y41.toNat 8) hs (y_fieldAddrE (i := y41.toNat) (j := 0) hR3 rfl hb66 (FO.of (off := 8) Try.underlying59 rfl rfl ti3 (by decide))) ?_; clear hs; (try clear a w); intro a w hs
      refine sy (v := .int .i64 (x60.Next)) hs (y_loadE (i := y41.toNat) (j := 8) hR3.up rfl hr63 rfl Try.underlying3 rfl) ?_; clear hs; (try clear a w); intro a w hs
      refine sy (v := .int .i64 (x60.Next)) hs (y_assign rfl) ?_; clear hs; (try clear a w); intro a w hs
      refine RL_nil ?_
      exact hK10 k46 _ _ (Nat.lt_succ_self _) ⟨x54, x60.Next, v56, rw57, hm, hW58, hs.sub ⟨rfl, rfl, rfl, trivial⟩⟩
     ·replace hm := oc_f hg48 hm
      refine W_exit ?_
      refine hB9 _ _ ?_
      exact ⟨y36, v37, rw38, hm, hW39, hs.subs ⟨rfl, trivial⟩ (.cons_cons _ (.cons _ (.refl _)))⟩
    ·refine W_region ?_
     refine sy hs (y_ldB rfl Try.underlying24 rfl ti24 (.tail _ (.head _)) rfl) ?_; clear hs; (try clear a w); intro a w hs
     refine sy (v := .int .i64 (y41)) hs (y_move rfl) ?_; clear hs; (try clear a w); intro a w hs
     obtain ⟨x72, hx73, hm⟩ := ob hm
     refine sy hs (y_call rfl has46 rfl (dom_has_ok n (f := f) (a0 := [v1]) ⟨_, rfl, ⟨rw2, hR3, hW4⟩⟩ hx73)) ?_; clear hs; (try clear a w); intro a w hs
     refine sy (v := .bool (x72)) hs (y_move rfl) ?_; clear hs; (try clear a w); intro a w hs
     refine St.split hs (t := 20) rfl (fun hg74 hq => ?_) (fun hg74 hq => ?_)
     ·clear hs; have hs := hq; clear hq
      replace hm := oc_t hg74 hm
      refine syg (v := v37) hs (y_move rfl) ?_; clear hs; (try clear a w); intro a w hs
      refine syg hs (y_lenW (Rd.st hs (.head _)) hW39 rfl Try.underlying60) ?_; clear hs; (try clear a w); intro a w hs
      refine syg (v := .pointer (some ⟨b6, 0, none⟩)) hs (y_fieldAddr rfl (FO.of (off := 0) Try.underlying24 rfl rfl ti22 (by decide))) ?_; clear hs; (try clear a w); intro a w hs
      refine syg (v := v1) hs (y_ld rfl Try.underlying22 rfl (Cell.blk (.tail _ (.head _)) rfl)) ?_; clear hs; (try clear a w); intro a w hs
      refine syg hs (y_lenW hR3 hW4 rfl Try.underlying22) ?_; clear hs; (try clear a w); intro a w hs
      refine syg hs (y_lss rfl rfl) ?_; clear hs; (try clear a w); intro a w hs
      refine sy (v := .bool (decide ((y36.length : Int) < (p0.Nodes.length : Int)))) hs (y_pick rfl rfl) ?_; clear hs; (try clear a w); intro a w hs
      refine RL_nil ?_
      exact ⟨decide ((y36.length : Int) < (p0.Nodes.length : Int)), hm, hs.sub ⟨rfl, rfl, rfl, rfl, trivial⟩⟩
     ·clear hs; have hs := hq; clear hq
      replace hm := oc_f hg74 hm
      refine sno hs ?_; clear hs; (try clear a w); intro a w hs
      refine sno hs ?_; clear hs; (try clear a w); intro a w hs
      refine sno hs ?_; clear hs; (try clear a w); intro a w hs
      refine sno hs ?_; clear hs; (try clear a w); intro a w hs
      refine sno hs ?_; clear hs; (try clear a w); intro a w hs
      refine sno hs ?_; clear hs; (try clear a w); intro a w hs
      refine sy (v := .bool (false)) hs (y_pick rfl rfl) ?_; clear hs; (try clear a w); intro a w hs
      refine RL_nil ?_
      exact ⟨false, hm, hs.sub ⟨rfl, rfl, rfl, rfl, trivial⟩⟩

/-! casement/dom.All -/
def dom_All (_n : Nat) (p0 : api_Tree) (p1 : Int) : Option (api_Tree × Int) :=
  some (p0, p1)
theorem dom_All_ok (n : Nat) {f : Fz} {p0 : api_Tree} {a0 : List Value} {p1 : Int} {res : (api_Tree × Int)} (h0 : t_api_Tree.R f a0 p0) (hm : dom_All n p0 p1 = some res) : Does Try.prog 24 [.agg a0.toArray, .int .i64 p1] f [] (fun r f' L' => ∃ (gb0_0 : Nat) (gr0_0 : List Value) (gb0_1 : Nat) (gr0_1 : List Value), L' = [] ∧ r = .func (.func 45) #[] #[.pointer (some ⟨gb0_0, 0, none⟩), .pointer (some ⟨gb0_1, 0, none⟩)] ∧ t_api_Tree.R f' gr0_0 res.1 ∧ f' gb0_0 = some (.cells gr0_0.toArray 24 (0, 0)) ∧ (tInt .i64).R f' gr0_1 res.2 ∧ f' gb0_1 = some (.cells gr0_1.toArray 3 (0, 0))) := by
 unfold dom_All at hm
 intro w0 L w hC
 obtain ⟨v1, rfl, ⟨rw2, hR3, hW4⟩⟩ := h0
 refine enter Try.func24 rfl Try.ntmps24 (by simp) hC fun a hs => ?_
 have hle := Fz.le.refl f
 refine W_seq fun K1 hK1 => ?_
 refine W_region ?_
 refine sbox hs rfl ?_; clear hs; (try clear a w); intro b6 a w hs
 replace hs : St _ _ _ (.blk b6 (.cells #[v1] 24 (0, 0)) :: L) _ _ _ := hs
 refine sbox1 hs rfl rfl ?_; clear hs; (try clear a w); intro b8 a w hs
 replace hs : St _ _ _ (.blk b8 (.cells #[.int .i64 (p1)] 3 (0, 0)) :: .blk b6 (.cells #[v1] 24 (0, 0)) :: L) _ _ _ := hs
 refine sy (v := .nilFunc) hs (y_assign rfl) ?_; clear hs; (try clear a w); intro a w hs
 refine RL_nil ?_
 refine hK1 _ _ ?_; clear hK1
 refine W_seq fun K2 hK2 => ?_
 refine W_region ?_
 obtain ⟨f10, hf11, hs2, hB12⟩ := hs.frzB 1 rfl
 clear hs; have hs := hs2; clear hs2
 replace hR3 := hR3.le hf11
 replace hW4 := hW4.le hf11
 replace hle := hle.trans hf11
 replace hs : St _ _ _ (.blk b8 (.cells #[.int .i64 (p1)] 3 (0, 0)) :: L) _ _ _ := hs
 obtain ⟨f13, hf14, hs2, hB15⟩ := hs.frzB 0 rfl
 clear hs; have hs := hs2; clear hs2
 replace hR3 := hR3.le hf14
 replace hW4 := hW4.le hf14
 replace hB12 := hf14 _ _ hB12
 replace hle := hle.trans hf14
 replace hs : St _ _ _ (L) _ _ _ := hs
 refine sy hs (y_makeFunc rfl) ?_; clear hs; (try clear a w); intro a w hs
 refine sy (v := .func (.func 45) #[] #[.pointer (some ⟨b6, 0, none⟩), .pointer (some ⟨b8, 0, none⟩)]) hs (y_assign rfl) ?_; clear hs; (try clear a w); intro a w hs
 refine RL_nil ?_
 refine hK2 _ _ ?_; clear hK2
 refine W_ret ?_
 obtain rfl := Option.some.inj hm
 refine RtV1 hs rfl (rv_t hs rfl) ?_
 exact ⟨_, f13, [], rfl, hle, hs.cw, b6, [v1], b8, [.int .i64 (p1)], rfl, rfl, ⟨_, rfl, ⟨rw2, hR3, hW4⟩⟩, hB12, rfl, hB15⟩

/-! casement/casementref5.Kids -/
def ref5_Kids_k1 (y25 : (List Int)) : Option (List Int) :=
  some y25
def ref5_Kids_l2 (p0 : api_Tree) : Nat → (List Int) → Int → Option (List Int)
  | 0, _, _ => none
  | k44 + 1, y34, y39 =>
  (bif (decide (0 ≤ y39)) then (appM 8 y34 [y39]).bind fun x51 =>
  (geti p0.Nodes y39).bind fun x57 =>
  (ref5_Kids_l2 p0 k44) x51 x57.Next else
  ref5_Kids_k1 y34)
def ref5_Kids (n : Nat) (p0 : api_Tree) (p1 : Int) : Option (List Int) :=
  (bif ((decide (p1 < 0)) || (decide ((p0.Nodes.length : Int) ≤ p1))) then some ([] : List Int) else
  (geti p0.Nodes p1).bind fun x12 =>
  ref5_Kids_l2 p0 n ([] : List Int) x12.First)
theorem ref5_Kids_ok (n : Nat) {f : Fz} {p0 : api_Tree} {a0 : List Value} {p1 : Int} {res : (List Int)} (h0 : t_api_Tree.R f a0 p0) (hm : ref5_Kids n p0 p1 = some res) : Does Try.prog 34 [.agg a0.toArray, .int .i64 p1] f [] (fun r f' L' => ∃ (u0 : Value), L' = [] ∧ r = u0 ∧ RS (tInt .i64) f' u0 res) := by
 unfold ref5_Kids at hm
 intro w0 L w hC
 obtain ⟨v1, rfl, ⟨rw2, hR3, hW4⟩⟩ := h0
 refine enter Try.func34 rfl Try.ntmps34 (by simp) hC fun a hs => ?_
 have hle := Fz.le.refl f
 refine W_seq fun K1 hK1 => ?_
 refine W_region ?_
 refine sbox hs rfl ?_; clear hs; (try clear a w); intro b6 a w hs
 replace hs : St _ _ _ (.blk b6 (.cells #[v1] 24 (0, 0)) :: L) _ _ _ := hs
 refine sy (v := (.slice none 0 0)) hs (y_assign rfl) ?_; clear hs; (try clear a w); intro a w hs
 refine RL_nil ?_
 refine hK1 _ _ ?_; clear hK1
 refine W_seq fun K2 hK2 => ?_
 refine W_region ?_
 refine sy (v := (.slice none 0 0)) hs (y_assign rfl) ?_; clear hs; (try clear a w); intro a w hs
 refine RL_nil ?_
 refine hK2 _ _ ?_; clear hK2
 refine W_seq fun K3 hK3 => ?_
 refine W_seq fun K4 hK4 => ?_
 refine W_post (fun a w => St 35 w0 f (.blk b6 (.cells #[v1] 24 (0, 0)) :: L) [(1, .int .i64 (p1)), (2, .pointer (some ⟨b6, 0, none⟩)), (5, (.slice none 0 0)), (15, .bool (((decide (p1 < 0)) || (decide ((p0.Nodes.length : Int) ≤ p1)))))] a w) ?_ ?_
 ·clear hs; intro a w hs
  refine hK4 _ _ ?_; clear hK4
  refine W_cond hs rfl (fun hg10 => ?_) (fun hg10 => ?_)
  ·replace hm := oc_t hg10 hm
   refine W_seq fun K5 hK5 => ?_
   refine W_region ?_
   refine sy (v := (.slice none 0 0)) hs (y_assign rfl) ?_; clear hs; (try clear a w); intro a w hs
   refine RL_nil ?_
   refine hK5 _ _ ?_; clear hK5
   refine W_ret ?_
   obtain rfl := Option.some.inj hm
   refine RtV1 hs rfl (rv_t hs rfl) ?_
   exact ⟨_, f, [], rfl, hle, (hs.subL (.cons _ (.refl _))).cw, (.slice none 0 0), rfl, rfl, RS.nil⟩
  ·replace hm := oc_f hg10 hm
   refine W_skip ?_
   refine hK3 _ _ ?_; clear hK3
   refine W_seq fun K6 hK6 => ?_
   refine W_seq fun K7 hK7 => ?_
   refine W_region ?_
   refine sy (v := .pointer (some ⟨b6, 0, none⟩)) hs (y_fieldAddr rfl (FO.of (off := 0) Try.underlying24 rfl rfl ti22 (by decide))) ?_; clear hs; (try clear a w); intro a w hs
   refine sy (v := v1) hs (y_ld rfl Try.underlying22 rfl (Cell.blk (.head _) rfl)) ?_; clear hs; (try clear a w); intro a w hs
   refine sy (v := .int .i64 (p1)) hs (y_move rfl) ?_; clear hs; (try clear a w); intro a w hs
   obtain ⟨x12, hx13, hm⟩ := ob hm
   obtain ⟨r14, hr15, hq16, hi17, hb18⟩ := hW4.geti hx13
   obtain ⟨v19, rfl, ⟨rw20, hR21, hW22⟩⟩ := hq16
   refine sy hs (y_indexAddr hR3 rfl rfl hi17 hb18 Try.underlying22 ti59) ?_; clear hs; (try clear a w); intro a w hs
   refine sy (v := eaddr v1 9 p1.toNat 5) hs (y_fieldAddrE (i := p1.toNat) (j := 0) hR3 rfl hb18 (FO.of (off := 5) Try.underlying59 rfl rfl ti3 (by decide))) ?_; clear hs; (try clear a w); intro a w hs
   refine sy (v := .int .i64 (x12.First)) hs (y_loadE (i := p1.toNat) (j := 5) hR3.up rfl hr15 rfl Try.underlying3 rfl) ?_; clear hs; (try clear a w); intro a w hs
   refine sy (v := .int .i64 (x12.First)) hs (y_assign rfl) ?_; clear hs; (try clear a w); intro a w hs
   refine RL_nil ?_
   refine hK7 _ _ ?_; clear hK7
   refine W_post (fun a w => ∃ (y25 : (List Int)) (v26 : Value) (rw27 : List (List Value)), ref5_Kids_k1 y25 = some res ∧ RW (tInt .i64) f rw27 y25 ∧ St 35 w0 f (.row v26 3 1 rw27 :: L) [(5, v26)] a w) ?_ ?_
   ·clear hs hm
    rintro a w ⟨y25, v26, rw27, hm, hW28, hs⟩
    replace hs : St _ _ _ (.row v26 3 1 rw27 :: L) _ _ _ := hs
    unfold ref5_Kids_k1 at hm
    refine hK6 _ _ ?_; clear hK6
    refine W_seq fun K8 hK8 => ?_
    refine W_region ?_
    refine sy (v := v26) hs (y_move rfl) ?_; clear hs; (try clear a w); intro a w hs
    refine sy (v := v26) hs (y_assign rfl) ?_; clear hs; (try clear a w); intro a w hs
    refine RL_nil ?_
    refine hK8 _ _ ?_; clear hK8
    refine W_ret ?_
    obtain ⟨f30, hf31, hs2, hR32⟩ := hs.frzAt 0 rfl
    clear hs; have hs := hs2; clear hs2
    replace hW28 := hW28.le hf31
    replace hle := hle.trans hf31
    replace hs : St _ _ _ (L) _ _ _ := hs
    obtain rfl := Option.some.inj hm
    refine RtV1 hs rfl (rv_t hs rfl) ?_
    exact ⟨_, f30, [], rfl, hle, hs.cw, v26, rfl, rfl, ⟨rw27, hR32, hW28⟩⟩
   ·refine W_block fun Qe9 hB9 hO9 => ?_
    replace hs := hs.nilRow 3 1
    have hW40 : RW (tInt .i64) f [] ([] : List Int) := trivial
    generalize hgrw41 : ([] : List (List Value)) = rw41 at hs hW40; clear hgrw41
    replace hs : St _ _ _ (.row (.slice none 0 0) 3 1 rw41 :: .blk b6 (.cells #[v1] 24 (0, 0)) :: L) _ _ _ := hs
    refine W_loop (fun (k : Nat) a w => ∃ (y34 : (List Int)) (y39 : Int) (v35 : Value) (rw36 : List (List Value)), ref5_Kids_l2 p0 k y34 y39 = some res ∧ RW (tInt .i64) f rw36 y34 ∧ St 35 w0 f (.row v35 3 1 rw36 :: .blk b6 (.cells #[v1] 24 (0, 0)) :: L) [(2, .pointer (some ⟨b6, 0, none⟩)), (5, v35), (6, .int .i64 (y39))] a w) (fun k => k) n ⟨([] : List Int), x12.First, (.slice none 0 0), rw41, hm, hW40, hs.sub ⟨rfl, rfl, rfl, trivial⟩⟩ ?_
    clear hs hm
    intro k
    rintro a w ⟨y34, y39, v35, rw36, hm, hW37, hs⟩
    replace hs : St _ _ _ (.row v35 3 1 rw36 :: .blk b6 (.cells #[v1] 24 (0, 0)) :: L) _ _ _ := hs
    intro K10 hK10
    cases k with
    | zero => simp [ref5_Kids_l2] at hm
    | succ k44 =>
     rw [ref5_Kids_l2] at hm
     refine W_seq fun K11 hK11 => ?_
     refine W_seq fun K12 hK12 => ?_
     refine W_region ?_
     refine sy (v := .int .i64 (y39)) hs (y_move rfl) ?_; clear hs; (try clear a w); intro a w hs
     refine sy hs (y_geq rfl rfl) ?_; clear hs; (try clear a w); intro a w hs
     refine RL_nil ?_
     refine hK12 _ _ ?_; clear hK12
     refine W_cond hs rfl (fun hg45 => ?_) (fun hg45 => ?_)
     ·replace hm := oc_t hg45 hm
      refine W_skip ?_
      refine hK11 _ _ ?_; clear hK11
      refine W_seq fun K13 hK13 => ?_
      refine W_block fun Qe14 hB14 hO14 => ?_
      refine W_region ?_
      refine sy (v := v35) hs (y_move rfl) ?_; clear hs; (try clear a w); intro a w hs
      refine sy (v := .int .i64 (y39)) hs (y_move rfl) ?_; clear hs; (try clear a w); intro a w hs
      refine RL_bs1s hs rfl Try.underlying60 ti3 rfl rfl ?_; clear hs; (try clear a w); intro v46 a w hs
      have hW47 : RW (tInt .i64) f [[.int .i64 (y39)]] [y39] := RW.single (rfl)
      generalize hgrw48 : ([[.int .i64 (y39)]] : List (List Value)) = rw48 at hs hW47; clear hgrw48
      replace hs : St _ _ _ (.row v46 3 1 rw48 :: .row v35 3 1 rw36 :: .blk b6 (.cells #[v1] 24 (0, 0)) :: L) _ _ _ := hs
      obtain ⟨x51, hx52, hm⟩ := ob hm
      obtain ⟨hbx51, hex51⟩ := appM_some hx52
      have hW55 := hW37.append hW47; rw [hex51] at hW55
      refine RL_append (i := 1) hs rfl rfl rfl (Rd.st hs (.head _)) Try.underlying60 ti3 (by decide) (by rw [RW.len hW37, RW.len hW47]; exact hbx51) (.free rfl) (by decide) ?_; clear hs; (try clear a w); intro v53 a w hs
      generalize hgx51 : rw36 ++ rw48 = rw54 at hs hW55; clear hgx51
      replace hs := hs.erase 0
      replace hs : St _ _ _ (.row v53 3 1 rw54 :: .blk b6 (.cells #[v1] 24 (0, 0)) :: L) _ _ _ := hs
      refine sy (v := v53) hs (y_assign rfl) ?_; clear hs; (try clear a w); intro a w hs
      refine RL_nil ?_
      refine hK13 _ _ ?_; clear hK13
      refine W_region ?_
      refine sy (v := .pointer (some ⟨b6, 0, none⟩)) hs (y_fieldAddr rfl (FO.of (off := 0) Try.underlying24 rfl rfl ti22 (by decide))) ?_; clear hs; (try clear a w); intro a w hs
      refine sy (v := v1) hs (y_ld rfl Try.underlying22 rfl (Cell.blk (.tail _ (.head _)) rfl)) ?_; clear hs; (try clear a w); intro a w hs
      refine sy (v := .int .i64 (y39)) hs (y_move rfl) ?_; clear hs; (try clear a w); intro a w hs
      obtain ⟨x57, hx58, hm⟩ := ob hm
      obtain ⟨r59, hr60, hq61, hi62, hb63⟩ := hW4.geti hx58
      obtain ⟨v64, rfl, ⟨rw65, hR66, hW67⟩⟩ := hq61
      refine sy hs (y_indexAddr hR3 rfl rfl hi62 hb63 Try.underlying22 ti59) ?_; clear hs; (try clear a w); intro a w hs
      refine sy (v := eaddr v1 9 y39.toNat 8) hs (y_fieldAddrE (i := y39.toNat) (j := 0) hR3 rfl hb63 (FO.of (off := 8) Try.underlying59 rfl rfl ti3 (by decide))) ?_; clear hs; (try clear a w); intro a w hs
      refine sy (v := .int .i64 (x57.Next)) hs (y_loadE (i := y39.toNat) (j := 8) hR3.up rfl hr60 rfl Try.underlying3 rfl) ?_; clear hs; (try clear a w); intro a w hs
      refine sy (v := .int .i64 (x57.Next)) hs (y_assign rfl) ?_; clear hs; (try clear a w); intro a w hs
      refine RL_nil ?_
      exact hK10 k44 _ _ (Nat.lt_succ_self _) ⟨x51, x57.Next, v53, rw54, hm, hW55, hs.sub ⟨rfl, rfl, rfl, trivial⟩⟩
     ·replace hm := oc_f hg45 hm
      refine W_exit ?_
      refine hB9 _ _ ?_
      exact ⟨y34, v35, rw36, hm, hW37, hs.subs ⟨rfl, trivial⟩ (.cons_cons _ (.cons _ (.refl _)))⟩
 ·refine W_region ?_
  refine sy (v := .int .i64 (p1)) hs (y_move rfl) ?_; clear hs; (try clear a w); intro a w hs
  refine sy hs (y_lss rfl rfl) ?_; clear hs; (try clear a w); intro a w hs
  refine sy (v := .bool (decide (p1 < 0))) hs (y_move rfl) ?_; clear hs; (try clear a w); intro a w hs
  refine St.split hs (t := 9) rfl (fun hg69 hq => ?_) (fun hg69 hq => ?_)
  ·clear hs; have hs := hq; clear hq
   refine sno hs ?_; clear hs; (try clear a w); intro a w hs
   refine sno hs ?_; clear hs; (try clear a w); intro a w hs
   refine sno hs ?_; clear hs; (try clear a w); intro a w hs
   refine sno hs ?_; clear hs; (try clear a w); intro a w hs
   refine sno hs ?_; clear hs; (try clear a w); intro a w hs
   refine sy (v := .bool (true)) hs (y_pick rfl rfl) ?_; clear hs; (try clear a w); intro a w hs
   refine RL_nil ?_
   exact hs.sub ⟨rfl, rfl, rfl, (lkB (((or_t hg69).trans rfl)) rfl), trivial⟩
  ·clear hs; have hs := hq; clear hq
   refine syg (v := .int .i64 (p1)) hs (y_move rfl) ?_; clear hs; (try clear a w); intro a w hs
   refine syg (v := .pointer (some ⟨b6, 0, none⟩)) hs (y_fieldAddr rfl (FO.of (off := 0) Try.underlying24 rfl rfl ti22 (by decide))) ?_; clear hs; (try clear a w); intro a w hs
   refine syg (v := v1) hs (y_ld rfl Try.underlying22 rfl (Cell.blk (.head _) rfl)) ?_; clear hs; (try clear a w); intro a w hs
   refine syg hs (y_lenW hR3 hW4 rfl Try.underlying22) ?_; clear hs; (try clear a w); intro a w hs
   refine syg hs (y_geq rfl rfl) ?_; clear hs; (try clear a w); intro a w hs
   refine sy (v := .bool (decide ((p0.Nodes.length : Int) ≤ p1))) hs (y_pick rfl rfl) ?_; clear hs; (try clear a w); intro a w hs
   refine RL_nil ?_
   exact hs.sub ⟨rfl, rfl, rfl, (lkB (((or_f hg69).trans rfl)) rfl), trivial⟩

/-! casement/casementref5.Depth -/
def ref5_Depth_k1 (y9 : Int) : Option Int :=
  some y9
def ref5_Depth_l2 (p0 : api_Tree) : Nat → Int → Int → Option Int
  | 0, _, _ => none
  | k12 + 1, y10, y11 =>
  (bif (decide (0 ≤ y10)) then (geti p0.Nodes y10).bind fun x14 =>
  (ref5_Depth_l2 p0 k12) x14.Parent (w64 (y11 + 1)) else
  ref5_Depth_k1 y11)
def ref5_Depth (n : Nat) (p0 : api_Tree) (p1 : Int) : Option Int :=
  (bif ((decide (p1 < 0)) || (decide ((p0.Nodes.length : Int) ≤ p1))) then some 0 else
  ref5_Depth_l2 p0 n p1 0)
theorem ref5_Depth_ok (n : Nat) {f : Fz} {p0 : api_Tree} {a0 : List Value} {p1 : Int} {res : Int} (h0 : t_api_Tree.R f a0 p0) (hm : ref5_Depth n p0 p1 = some res) : Gives Try.prog 31 [.agg a0.toArray, .int .i64 p1] f (.int .i64 res) := by
 unfold ref5_Depth at hm
 intro w0 L w hC
 obtain ⟨v1, rfl, ⟨rw2, hR3, hW4⟩⟩ := h0
 refine enter Try.func31 rfl Try.ntmps31 (by simp) hC fun a hs => ?_
 have hle := Fz.le.refl f
 refine W_seq fun K1 hK1 => ?_
 refine W_region ?_
 refine sbox hs rfl ?_; clear hs; (try clear a w); intro b6 a w hs
 replace hs : St _ _ _ (.blk b6 (.cells #[v1] 24 (0, 0)) :: L) _ _ _ := hs
 refine sy (v := .int .i64 (0)) hs (y_assign rfl) ?_; clear hs; (try clear a w); intro a w hs
 refine RL_nil ?_
 refine hK1 _ _ ?_; clear hK1
 refine W_seq fun K2 hK2 => ?_
 refine W_seq fun K3 hK3 => ?_
 refine W_post (fun a w => St 26 w0 f (.blk b6 (.cells #[v1] 24 (0, 0)) :: L) [(1, .int .i64 (p1)), (2, .pointer (some ⟨b6, 0, none⟩)), (14, .bool (((decide (p1 < 0)) || (decide ((p0.Nodes.length : Int) ≤ p1)))))] a w) ?_ ?_
 ·clear hs; intro a w hs
  refine hK3 _ _ ?_; clear hK3
  refine W_cond hs rfl (fun hg8 => ?_) (fun hg8 => ?_)
  ·replace hm := oc_t hg8 hm
   refine W_seq fun K4 hK4 => ?_
   refine W_region ?_
   refine sy (v := .int .i64 (0)) hs (y_assign rfl) ?_; clear hs; (try clear a w); intro a w hs
   refine RL_nil ?_
   refine hK4 _ _ ?_; clear hK4
   refine W_ret ?_
   obtain rfl := Option.some.inj hm
   refine RtV1 hs rfl (rv_t hs rfl) ?_
   exact ⟨rfl, ((hs.subL (.cons _ (.refl _))).weak hle).cw⟩
  ·replace hm := oc_f hg8 hm
   refine W_skip ?_
   refine hK2 _ _ ?_; clear hK2
   refine W_seq fun K5 hK5 => ?_
   refine W_region ?_
   refine sy (v := .int .i64 (0)) hs (y_assign rfl) ?_; clear hs; (try clear a w); intro a w hs
   refine RL_nil ?_
   refine hK5 _ _ ?_; clear hK5
   refine W_seq fun K6 hK6 => ?_
   refine W_post (fun a w => ∃ (y9 : Int), ref5_Depth_k1 y9 = some res ∧ St 26 w0 f (L) [(5, .int .i64 (y9))] a w) ?_ ?_
   ·clear hs hm
    rintro a w ⟨y9, hm, hs⟩
    replace hs : St _ _ _ (L) _ _ _ := hs
    unfold ref5_Depth_k1 at hm
    refine hK6 _ _ ?_; clear hK6
    refine W_seq fun K7 hK7 => ?_
    refine W_region ?_
    refine sy (v := .int .i64 (y9)) hs (y_move rfl) ?_; clear hs; (try clear a w); intro a w hs
    refine sy (v := .int .i64 (y9)) hs (y_assign rfl) ?_; clear hs; (try clear a w); intro a w hs
    refine RL_nil ?_
    refine hK7 _ _ ?_; clear hK7
    refine W_ret ?_
    obtain rfl := Option.some.inj hm
    refine RtV1 hs rfl (rv_t hs rfl) ?_
    exact ⟨rfl, (hs.weak hle).cw⟩
   ·refine W_block fun Qe8 hB8 hO8 => ?_
    refine W_loop (fun (k : Nat) a w => ∃ (y10 : Int) (y11 : Int), ref5_Depth_l2 p0 k y10 y11 = some res ∧ St 26 w0 f (.blk b6 (.cells #[v1] 24 (0, 0)) :: L) [(1, .int .i64 (y10)), (2, .pointer (some ⟨b6, 0, none⟩)), (5, .int .i64 (y11))] a w) (fun k => k) n ⟨p1, 0, hm, hs.sub ⟨rfl, rfl, rfl, trivial⟩⟩ ?_
    clear hs hm
    intro k
    rintro a w ⟨y10, y11, hm, hs⟩
    replace hs : St _ _ _ (.blk b6 (.cells #[v1] 24 (0, 0)) :: L) _ _ _ := hs
    intro K9 hK9
    cases k with
    | zero => simp [ref5_Depth_l2] at hm
    | succ k12 =>
     rw [ref5_Depth_l2] at hm
     refine W_seq fun K10 hK10 => ?_
     refine W_seq fun K11 hK11 => ?_
     refine W_region ?_
     refine sy (v := .int .i64 (y10)) hs (y_move rfl) ?_; clear hs; (try clear a w); intro a w hs
     refine sy hs (y_geq rfl rfl) ?_; clear hs; (try clear a w); intro a w hs
     refine RL_nil ?_
     refine hK11 _ _ ?_; clear hK11
     refine W_cond hs rfl (fun hg13 => ?_) (fun hg13 => ?_)
     ·replace hm := oc_t hg13 hm
      refine W_skip ?_
      refine hK10 _ _ ?_; clear hK10
      refine W_block fun Qe12 hB12 hO12 => ?_
      refine W_seq fun K13 hK13 => ?_
      refine W_region ?_
      refine sy (v := .int .i64 (y11)) hs (y_move rfl) ?_; clear hs; (try clear a w); intro a w hs
      refine sy hs (y_add rfl rfl rfl) ?_; clear hs; (try clear a w); intro a w hs
      refine sy (v := .int .i64 ((w64 (y11 + 1)))) hs (y_assign rfl) ?_; clear hs; (try clear a w); intro a w hs
      refine RL_nil ?_
      refine hK13 _ _ ?_; clear hK13
      refine W_region ?_
      refine sy (v := .pointer (some ⟨b6, 0, none⟩)) hs (y_fieldAddr rfl (FO.of (off := 0) Try.underlying24 rfl rfl ti22 (by decide))) ?_; clear hs; (try clear a w); intro a w hs
      refine sy (v := v1) hs (y_ld rfl Try.underlying22 rfl (Cell.blk (.head _) rfl)) ?_; clear hs; (try clear a w); intro a w hs
      refine sy (v := .int .i64 (y10)) hs (y_move rfl) ?_; clear hs; (try clear a w); intro a w hs
      obtain ⟨x14, hx15, hm⟩ := ob hm
      obtain ⟨r16, hr17, hq18, hi19, hb20⟩ := hW4.geti hx15
      obtain ⟨v21, rfl, ⟨rw22, hR23, hW24⟩⟩ := hq18
      refine sy hs (y_indexAddr hR3 rfl rfl hi19 hb20 Try.underlying22 ti59) ?_; clear hs; (try clear a w); intro a w hs
      refine sy (v := eaddr v1 9 y10.toNat 4) hs (y_fieldAddrE (i := y10.toNat) (j := 0) hR3 rfl hb20 (FO.of (off := 4) Try.underlying59 rfl rfl ti3 (by decide))) ?_; clear hs; (try clear a w); intro a w hs
      refine sy (v := .int .i64 (x14.Parent)) hs (y_loadE (i := y10.toNat) (j := 4) hR3.up rfl hr17 rfl Try.underlying3 rfl) ?_; clear hs; (try clear a w); intro a w hs
      refine sy (v := .int .i64 (x14.Parent)) hs (y_assign rfl) ?_; clear hs; (try clear a w); intro a w hs
      refine RL_nil ?_
      exact hK9 k12 _ _ (Nat.lt_succ_self _) ⟨x14.Parent, (w64 (y11 + 1)), hm, hs.sub ⟨rfl, rfl, rfl, trivial⟩⟩
     ·replace hm := oc_f hg13 hm
      refine W_exit ?_
      refine hB8 _ _ ?_
      exact ⟨y11, hm, hs.subs ⟨rfl, trivial⟩ (.cons _ (.refl _))⟩
 ·refine W_region ?_
  refine sy (v := .int .i64 (p1)) hs (y_move rfl) ?_; clear hs; (try clear a w); intro a w hs
  refine sy hs (y_lss rfl rfl) ?_; clear hs; (try clear a w); intro a w hs
  refine sy (v := .bool (decide (p1 < 0))) hs (y_move rfl) ?_; clear hs; (try clear a w); intro a w hs
  refine St.split hs (t := 8) rfl (fun hg26 hq => ?_) (fun hg26 hq => ?_)
  ·clear hs; have hs := hq; clear hq
   refine sno hs ?_; clear hs; (try clear a w); intro a w hs
   refine sno hs ?_; clear hs; (try clear a w); intro a w hs
   refine sno hs ?_; clear hs; (try clear a w); intro a w hs
   refine sno hs ?_; clear hs; (try clear a w); intro a w hs
   refine sno hs ?_; clear hs; (try clear a w); intro a w hs
   refine sy (v := .bool (true)) hs (y_pick rfl rfl) ?_; clear hs; (try clear a w); intro a w hs
   refine RL_nil ?_
   exact hs.sub ⟨rfl, rfl, (lkB (((or_t hg26).trans rfl)) rfl), trivial⟩
  ·clear hs; have hs := hq; clear hq
   refine syg (v := .int .i64 (p1)) hs (y_move rfl) ?_; clear hs; (try clear a w); intro a w hs
   refine syg (v := .pointer (some ⟨b6, 0, none⟩)) hs (y_fieldAddr rfl (FO.of (off := 0) Try.underlying24 rfl rfl ti22 (by decide))) ?_; clear hs; (try clear a w); intro a w hs
   refine syg (v := v1) hs (y_ld rfl Try.underlying22 rfl (Cell.blk (.head _) rfl)) ?_; clear hs; (try clear a w); intro a w hs
   refine syg hs (y_lenW hR3 hW4 rfl Try.underlying22) ?_; clear hs; (try clear a w); intro a w hs
   refine syg hs (y_geq rfl rfl) ?_; clear hs; (try clear a w); intro a w hs
   refine sy (v := .bool (decide ((p0.Nodes.length : Int) ≤ p1))) hs (y_pick rfl rfl) ?_; clear hs; (try clear a w); intro a w hs
   refine RL_nil ?_
   exact hs.sub ⟨rfl, rfl, (lkB (((or_f hg26).trans rfl)) rfl), trivial⟩

/-! casement/casementref5.Below -/
def ref5_Below_k1 : Option Bool :=
  some false
def ref5_Below_l2 (p0 : api_Tree) (p1 : Int) : Nat → Int → Option Bool
  | 0, _ => none
  | k9 + 1, y8 =>
  (bif (decide (0 ≤ y8)) then (bif (decide (y8 = p1)) then some true else
  (geti p0.Nodes y8).bind fun x12 =>
  (ref5_Below_l2 p0 p1 k9) x12.Parent) else
  ref5_Below_k1)
def ref5_Below (n : Nat) (p0 : api_Tree) (p1 : Int) (p2 : Int) : Option Bool :=
  ref5_Below_l2 p0 p1 n p2
theorem ref5_Below_ok (n : Nat) {f : Fz} {p0 : api_Tree} {a0 : List Value} {p1 : Int} {p2 : Int} {res : Bool} (h0 : t_api_Tree.R f a0 p0) (hm : ref5_Below n p0 p1 p2 = some res) : Gives Try.prog 35 [.agg a0.toArray, .int .i64 p1, .int .i64 p2] f (.bool res) := by
 unfold ref5_Below at hm
 intro w0 L w hC
 obtain ⟨v1, rfl, ⟨rw2, hR3, hW4⟩⟩ := h0
 refine enter Try.func35 rfl Try.ntmps35 (by simp) hC fun a hs => ?_
 have hle := Fz.le.refl f
 refine W_seq fun K1 hK1 => ?_
 refine W_region ?_
 refine sbox hs rfl ?_; clear hs; (try clear a w); intro b6 a w hs
 replace hs : St _ _ _ (.blk b6 (.cells #[v1] 24 (0, 0)) :: L) _ _ _ := hs
 refine sy (v := .bool (false)) hs (y_assign rfl) ?_; clear hs; (try clear a w); intro a w hs
 refine RL_nil ?_
 refine hK1 _ _ ?_; clear hK1
 refine W_seq fun K2 hK2 => ?_
 refine W_post (fun a w => ref5_Below_k1 = some res ∧ St 18 w0 f (L) [] a w) ?_ ?_
 ·clear hs hm
  rintro a w ⟨hm, hs⟩
  replace hs : St _ _ _ (L) _ _ _ := hs
  unfold ref5_Below_k1 at hm
  refine hK2 _ _ ?_; clear hK2
  refine W_seq fun K3 hK3 => ?_
  refine W_region ?_
  refine sy (v := .bool (false)) hs (y_assign rfl) ?_; clear hs; (try clear a w); intro a w hs
  refine RL_nil ?_
  refine hK3 _ _ ?_; clear hK3
  refine W_ret ?_
  obtain rfl := Option.some.inj hm
  refine RtV1 hs rfl (rv_t hs rfl) ?_
  exact ⟨rfl, (hs.weak hle).cw⟩
 ·refine W_block fun Qe4 hB4 hO4 => ?_
  refine W_loop (fun (k : Nat) a w => ∃ (y8 : Int), ref5_Below_l2 p0 p1 k y8 = some res ∧ St 18 w0 f (.blk b6 (.cells #[v1] 24 (0, 0)) :: L) [(1, .int .i64 (p1)), (2, .int .i64 (y8)), (3, .pointer (some ⟨b6, 0, none⟩))] a w) (fun k => k) n ⟨p2, hm, hs.sub ⟨rfl, rfl, rfl, trivial⟩⟩ ?_
  clear hs hm
  intro k
  rintro a w ⟨y8, hm, hs⟩
  replace hs : St _ _ _ (.blk b6 (.cells #[v1] 24 (0, 0)) :: L) _ _ _ := hs
  intro K5 hK5
  cases k with
  | zero => simp [ref5_Below_l2] at hm
  | succ k9 =>
   rw [ref5_Below_l2] at hm
   refine W_seq fun K6 hK6 => ?_
   refine W_seq fun K7 hK7 => ?_
   refine W_region ?_
   refine sy (v := .int .i64 (y8)) hs (y_move rfl) ?_; clear hs; (try clear a w); intro a w hs
   refine sy hs (y_geq rfl rfl) ?_; clear hs; (try clear a w); intro a w hs
   refine RL_nil ?_
   refine hK7 _ _ ?_; clear hK7
   refine W_cond hs rfl (fun hg10 => ?_) (fun hg10 => ?_)
   ·replace hm := oc_t hg10 hm
    refine W_skip ?_
    refine hK6 _ _ ?_; clear hK6
    refine W_block fun Qe8 hB8 hO8 => ?_
    refine W_seq fun K9 hK9 => ?_
    refine W_seq fun K10 hK10 => ?_
    refine W_region ?_
    refine sy (v := .int .i64 (y8)) hs (y_move rfl) ?_; clear hs; (try clear a w); intro a w hs
    refine sy (v := .int .i64 (p1)) hs (y_move rfl) ?_; clear hs; (try clear a w); intro a w hs
    refine sy hs (y_eql rfl rfl) ?_; clear hs; (try clear a w); intro a w hs
    refine RL_nil ?_
    refine hK10 _ _ ?_; clear hK10
    refine W_cond hs rfl (fun hg11 => ?_) (fun hg11 => ?_)
    ·replace hm := oc_t hg11 hm
     refine W_seq fun K11 hK11 => ?_
     refine W_region ?_
     refine sy (v := .bool (true)) hs (y_assign rfl) ?_; clear hs; (try clear a w); intro a w hs
     refine RL_nil ?_
     refine hK11 _ _ ?_; clear hK11
     refine W_ret ?_
     obtain rfl := Option.some.inj hm
     refine RtV1 hs rfl (rv_t hs rfl) ?_
     exact ⟨rfl, ((hs.subL (.cons _ (.refl _))).weak hle).cw⟩
    ·replace hm := oc_f hg11 hm
     refine W_skip ?_
     refine hK9 _ _ ?_; clear hK9
     refine W_region ?_
     refine sy (v := .pointer (some ⟨b6, 0, none⟩)) hs (y_fieldAddr rfl (FO.of (off := 0) Try.underlying24 rfl rfl ti22 (by decide))) ?_; clear hs; (try clear a w); intro a w hs
     refine sy (v := v1) hs (y_ld rfl Try.underlying22 rfl (Cell.blk (.head _) rfl)) ?_; clear hs; (try clear a w); intro a w hs
     refine sy (v := .int .i64 (y8)) hs (y_move rfl) ?_; clear hs; (try clear a w); intro a w hs
     obtain ⟨x12, hx13, hm⟩ := ob hm
     obtain ⟨r14, hr15, hq16, hi17, hb18⟩ := hW4.geti hx13
     obtain ⟨v19, rfl, ⟨rw20, hR21, hW22⟩⟩ := hq16
     refine sy hs (y_indexAddr hR3 rfl rfl hi17 hb18 Try.underlying22 ti59) ?_; clear hs; (try clear a w); intro a w hs
     refine sy (v := eaddr v1 9 y8.toNat 4) hs (y_fieldAddrE (i := y8.toNat) (j := 0) hR3 rfl hb18 (FO.of (off := 4) Try.underlying59 rfl rfl ti3 (by decide))) ?_; clear hs; (try clear a w); intro a w hs
     refine sy (v := .int .i64 (x12.Parent)) hs (y_loadE (i := y8.toNat) (j := 4) hR3.up rfl hr15 rfl Try.underlying3 rfl) ?_; clear hs; (try clear a w); intro a w hs
     refine sy (v := .int .i64 (x12.Parent)) hs (y_assign rfl) ?_; clear hs; (try clear a w); intro a w hs
     refine RL_nil ?_
     exact hK5 k9 _ _ (Nat.lt_succ_self _) ⟨x12.Parent, hm, hs.sub ⟨rfl, rfl, rfl, trivial⟩⟩
   ·replace hm := oc_f hg10 hm
    refine W_exit ?_
    refine hB4 _ _ ?_
    exact ⟨hm, hs.subs trivial (.cons _ (.refl _))⟩

/-! casement/casementref5.Attr -/
def ref5_Attr_k1 : Option (ByteArray × Bool) :=
  some ((bs []), false)
def ref5_Attr_l2 (p2 : ByteArray) (x9 : api_Node) : Nat → Int → Option (ByteArray × Bool)
  | 0, _ => none
  | k22 + 1, y21 =>
  (bif (decide (y21 < (x9.Attrs.length : Int))) then (geti x9.Attrs y21).bind fun x24 =>
  (bif (decide (x24.Name = p2)) then (geti x9.Attrs y21).bind fun x32 =>
  some (x32.Value, true) else
  (ref5_Attr_l2 p2 x9 k22) (w64 (y21 + 1))) else
  ref5_Attr_k1)
def ref5_Attr (n : Nat) (p0 : api_Tree) (p1 : Int) (p2 : ByteArray) : Option (ByteArray × Bool) :=
  (bif ((decide (p1 < 0)) || (decide ((p0.Nodes.length : Int) ≤ p1))) then some ((bs []), false) else
  (geti p0.Nodes p1).bind fun x9 =>
  ref5_Attr_l2 p2 x9 n 0)
theorem ref5_Attr_ok (n : Nat) {f : Fz} {p0 : api_Tree} {a0 : List Value} {p1 : Int} {p2 : ByteArray} {res : (ByteArray × Bool)} (h0 : t_api_Tree.R f a0 p0) (hm : ref5_Attr n p0 p1 p2 = some res) : Gives Try.prog 30 [.agg a0.toArray, .int .i64 p1, .string p2] f (.tuple #[.string res.1, .bool res.2]) := by
 unfold ref5_Attr at hm
 intro w0 L w hC
 obtain ⟨v1, rfl, ⟨rw2, hR3, hW4⟩⟩ := h0
 refine enter Try.func30 rfl Try.ntmps30 (by simp) hC fun a hs => ?_
 have hle := Fz.le.refl f
 refine W_seq fun K1 hK1 => ?_
 refine W_region ?_
 refine sbox hs rfl ?_; clear hs; (try clear a w); intro b6 a w hs
 replace hs : St _ _ _ (.blk b6 (.cells #[v1] 24 (0, 0)) :: L) _ _ _ := hs
 refine sy (v := .string ((bs []))) hs (y_assign rfl) ?_; clear hs; (try clear a w); intro a w hs
 refine sy (v := .bool (false)) hs (y_assign rfl) ?_; clear hs; (try clear a w); intro a w hs
 refine RL_nil ?_
 refine hK1 _ _ ?_; clear hK1
 refine W_seq fun K2 hK2 => ?_
 refine W_seq fun K3 hK3 => ?_
 refine W_post (fun a w => St 43 w0 f (.blk b6 (.cells #[v1] 24 (0, 0)) :: L) [(1, .int .i64 (p1)), (2, .string (p2)), (3, .pointer (some ⟨b6, 0, none⟩)), (18, .bool (((decide (p1 < 0)) || (decide ((p0.Nodes.length : Int) ≤ p1)))))] a w) ?_ ?_
 ·clear hs; intro a w hs
  refine hK3 _ _ ?_; clear hK3
  refine W_cond hs rfl (fun hg8 => ?_) (fun hg8 => ?_)
  ·replace hm := oc_t hg8 hm
   refine W_seq fun K4 hK4 => ?_
   refine W_region ?_
   refine sy (v := .string ((bs []))) hs (y_assign rfl) ?_; clear hs; (try clear a w); intro a w hs
   refine sy (v := .bool (false)) hs (y_assign rfl) ?_; clear hs; (try clear a w); intro a w hs
   refine RL_nil ?_
   refine hK4 _ _ ?_; clear hK4
   refine W_ret ?_
   obtain rfl := Option.some.inj hm
   refine RtV2 hs rfl (rv_t hs rfl) (rv_t hs rfl) ?_
   exact ⟨rfl, ((hs.subL (.cons _ (.refl _))).weak hle).cw⟩
  ·replace hm := oc_f hg8 hm
   refine W_skip ?_
   refine hK2 _ _ ?_; clear hK2
   refine W_seq fun K5 hK5 => ?_
   refine W_region ?_
   refine sy (v := .pointer (some ⟨b6, 0, none⟩)) hs (y_fieldAddr rfl (FO.of (off := 0) Try.underlying24 rfl rfl ti22 (by decide))) ?_; clear hs; (try clear a w); intro a w hs
   refine sy (v := v1) hs (y_ld rfl Try.underlying22 rfl (Cell.blk (.head _) rfl)) ?_; clear hs; (try clear a w); intro a w hs
   refine sy (v := .int .i64 (p1)) hs (y_move rfl) ?_; clear hs; (try clear a w); intro a w hs
   obtain ⟨x9, hx10, hm⟩ := ob hm
   obtain ⟨r11, hr12, hq13, hi14, hb15⟩ := hW4.geti hx10
   obtain ⟨v16, rfl, ⟨rw17, hR18, hW19⟩⟩ := hq13
   refine sy hs (y_indexAddr hR3 rfl rfl hi14 hb15 Try.underlying22 ti59) ?_; clear hs; (try clear a w); intro a w hs
   refine sy (v := eaddr v1 9 p1.toNat 3) hs (y_fieldAddrE (i := p1.toNat) (j := 0) hR3 rfl hb15 (FO.of (off := 3) Try.underlying59 rfl rfl ti32 (by decide))) ?_; clear hs; (try clear a w); intro a w hs
   refine sy (v := v16) hs (y_loadE (i := p1.toNat) (j := 3) hR3.up rfl hr12 rfl Try.underlying32 rfl) ?_; clear hs; (try clear a w); intro a w hs
   refine sy (v := v16) hs (y_assign rfl) ?_; clear hs; (try clear a w); intro a w hs
   refine RL_nil ?_
   refine hK5 _ _ ?_; clear hK5
   refine W_seq fun K6 hK6 => ?_
   refine W_seq fun K7 hK7 => ?_
   refine W_region ?_
   refine sy (v := .int .i64 (0)) hs (y_assign rfl) ?_; clear hs; (try clear a w); intro a w hs
   refine RL_nil ?_
   refine hK7 _ _ ?_; clear hK7
   refine W_post (fun a w => ref5_Attr_k1 = some res ∧ St 43 w0 f (L) [] a w) ?_ ?_
   ·clear hs hm
    rintro a w ⟨hm, hs⟩
    replace hs : St _ _ _ (L) _ _ _ := hs
    unfold ref5_Attr_k1 at hm
    refine hK6 _ _ ?_; clear hK6
    refine W_seq fun K8 hK8 => ?_
    refine W_region ?_
    refine sy (v := .string ((bs []))) hs (y_assign rfl) ?_; clear hs; (try clear a w); intro a w hs
    refine sy (v := .bool (false)) hs (y_assign rfl) ?_; clear hs; (try clear a w); intro a w hs
    refine RL_nil ?_
    refine hK8 _ _ ?_; clear hK8
    refine W_ret ?_
    obtain rfl := Option.some.inj hm
    refine RtV2 hs rfl (rv_t hs rfl) (rv_t hs rfl) ?_
    exact ⟨rfl, (hs.weak hle).cw⟩
   ·refine W_block fun Qe9 hB9 hO9 => ?_
    refine W_loop (fun (k : Nat) a w => ∃ (y21 : Int), ref5_Attr_l2 p2 x9 k y21 = some res ∧ St 43 w0 f (L) [(2, .string (p2)), (8, v16), (9, .int .i64 (y21))] a w) (fun k => k) n ⟨0, hm, hs.subs ⟨rfl, rfl, rfl, trivial⟩ (.cons _ (.refl _))⟩ ?_
    clear hs hm
    intro k
    rintro a w ⟨y21, hm, hs⟩
    replace hs : St _ _ _ (L) _ _ _ := hs
    intro K10 hK10
    cases k with
    | zero => simp [ref5_Attr_l2] at hm
    | succ k22 =>
     rw [ref5_Attr_l2] at hm
     refine W_seq fun K11 hK11 => ?_
     refine W_seq fun K12 hK12 => ?_
     refine W_region ?_
     refine sy (v := .int .i64 (y21)) hs (y_move rfl) ?_; clear hs; (try clear a w); intro a w hs
     refine sy (v := v16) hs (y_move rfl) ?_; clear hs; (try clear a w); intro a w hs
     refine sy hs (y_lenW hR18 hW19 rfl Try.underlying32) ?_; clear hs; (try clear a w); intro a w hs
     refine sy hs (y_lss rfl rfl) ?_; clear hs; (try clear a w); intro a w hs
     refine RL_nil ?_
     refine hK12 _ _ ?_; clear hK12
     refine W_cond hs rfl (fun hg23 => ?_) (fun hg23 => ?_)
     ·replace hm := oc_t hg23 hm
      refine W_skip ?_
      refine hK11 _ _ ?_; clear hK11
      refine W_seq fun K13 hK13 => ?_
      refine W_block fun Qe14 hB14 hO14 => ?_
      refine W_seq fun K15 hK15 => ?_
      refine W_region ?_
      refine sy (v := v16) hs (y_move rfl) ?_; clear hs; (try clear a w); intro a w hs
      refine sy (v := .int .i64 (y21)) hs (y_move rfl) ?_; clear hs; (try clear a w); intro a w hs
      obtain ⟨x24, hx25, hm⟩ := ob hm
      obtain ⟨r26, hr27, hq28, hi29, hb30⟩ := hW19.geti hx25
      obtain rfl : _ = ([.string (x24.Name), .string (x24.Value)] : List Value) := hq28
      refine sy hs (y_indexAddr hR18 rfl rfl hi29 hb30 Try.underlying32 ti53) ?_; clear hs; (try clear a w); intro a w hs
      refine sy (v := eaddr v16 2 y21.toNat 0) hs (y_fieldAddrE (i := y21.toNat) (j := 0) hR18 rfl hb30 (FO.of (off := 0) Try.underlying53 rfl rfl ti9 (by decide))) ?_; clear hs; (try clear a w); intro a w hs
      refine sy (v := .string (x24.Name)) hs (y_loadE (i := y21.toNat) (j := 0) hR18.up rfl hr27 rfl Try.underlying9 rfl) ?_; clear hs; (try clear a w); intro a w hs
      refine sy (v := .string (p2)) hs (y_move rfl) ?_; clear hs; (try clear a w); intro a w hs
      refine sy hs (y_seql rfl rfl) ?_; clear hs; (try clear a w); intro a w hs
      refine RL_nil ?_
      refine hK15 _ _ ?_; clear hK15
      refine W_cond hs rfl (fun hg31 => ?_) (fun hg31 => ?_)
      ·replace hm := oc_t hg31 hm
       refine W_seq fun K16 hK16 => ?_
       refine W_region ?_
       refine sy (v := v16) hs (y_move rfl) ?_; clear hs; (try clear a w); intro a w hs
       refine sy (v := .int .i64 (y21)) hs (y_move rfl) ?_; clear hs; (try clear a w); intro a w hs
       obtain ⟨x32, hx33, hm⟩ := ob hm
       obtain ⟨r34, hr35, hq36, hi37, hb38⟩ := hW19.geti hx33
       obtain rfl : _ = ([.string (x32.Name), .string (x32.Value)] : List Value) := hq36
       refine sy hs (y_indexAddr hR18 rfl rfl hi37 hb38 Try.underlying32 ti53) ?_; clear hs; (try clear a w); intro a w hs
       refine sy (v := eaddr v16 2 y21.toNat 1) hs (y_fieldAddrE (i := y21.toNat) (j := 0) hR18 rfl hb38 (FO.of (off := 1) Try.underlying53 rfl rfl ti9 (by decide))) ?_; clear hs; (try clear a w); intro a w hs
       refine sy (v := .string (x32.Value)) hs (y_loadE (i := y21.toNat) (j := 1) hR18.up rfl hr35 rfl Try.underlying9 rfl) ?_; clear hs; (try clear a w); intro a w hs
       refine sy (v := .string (x32.Value)) hs (y_assign rfl) ?_; clear hs; (try clear a w); intro a w hs
       refine sy (v := .bool (true)) hs (y_assign rfl) ?_; clear hs; (try clear a w); intro a w hs
       refine RL_nil ?_
       refine hK16 _ _ ?_; clear hK16
       refine W_ret ?_
       obtain rfl := Option.some.inj hm
       refine RtV2 hs rfl (rv_t hs rfl) (rv_t hs rfl) ?_
       exact ⟨rfl, (hs.weak hle).cw⟩
      ·replace hm := oc_f hg31 hm
       refine W_skip ?_
       refine hK13 _ _ ?_; clear hK13
       refine W_region ?_
       refine sy (v := .int .i64 (y21)) hs (y_move rfl) ?_; clear hs; (try clear a w); intro a w hs
       refine sy hs (y_add rfl rfl rfl) ?_; clear hs; (try clear a w); intro a w hs
       refine sy (v := .int .i64 ((w64 (y21 + 1)))) hs (y_assign rfl) ?_; clear hs; (try clear a w); intro a w hs
       refine RL_nil ?_
       exact hK10 k22 _ _ (Nat.lt_succ_self _) ⟨(w64 (y21 + 1)), hm, hs.sub ⟨rfl, rfl, rfl, trivial⟩⟩
     ·replace hm := oc_f hg23 hm
      refine W_exit ?_
      refine hB9 _ _ ?_
      exact ⟨hm, hs.sub trivial⟩
 ·refine W_region ?_
  refine sy (v := .int .i64 (p1)) hs (y_move rfl) ?_; clear hs; (try clear a w); intro a w hs
  refine sy hs (y_lss rfl rfl) ?_; clear hs; (try clear a w); intro a w hs
  refine sy (v := .bool (decide (p1 < 0))) hs (y_move rfl) ?_; clear hs; (try clear a w); intro a w hs
  refine St.split hs (t := 12) rfl (fun hg39 hq => ?_) (fun hg39 hq => ?_)
  ·clear hs; have hs := hq; clear hq
   refine sno hs ?_; clear hs; (try clear a w); intro a w hs
   refine sno hs ?_; clear hs; (try clear a w); intro a w hs
   refine sno hs ?_; clear hs; (try clear a w); intro a w hs
   refine sno hs ?_; clear hs; (try clear a w); intro a w hs
   refine sno hs ?_; clear hs; (try clear a w); intro a w hs
   refine sy (v := .bool (true)) hs (y_pick rfl rfl) ?_; clear hs; (try clear a w); intro a w hs
   refine RL_nil ?_
   exact hs.sub ⟨rfl, rfl, rfl, (lkB (((or_t hg39).trans rfl)) rfl), trivial⟩
  ·clear hs; have hs := hq; clear hq
   refine syg (v := .int .i64 (p1)) hs (y_move rfl) ?_; clear hs; (try clear a w); intro a w hs
   refine syg (v := .pointer (some ⟨b6, 0, none⟩)) hs (y_fieldAddr rfl (FO.of (off := 0) Try.underlying24 rfl rfl ti22 (by decide))) ?_; clear hs; (try clear a w); intro a w hs
   refine syg (v := v1) hs (y_ld rfl Try.underlying22 rfl (Cell.blk (.head _) rfl)) ?_; clear hs; (try clear a w); intro a w hs
   refine syg hs (y_lenW hR3 hW4 rfl Try.underlying22) ?_; clear hs; (try clear a w); intro a w hs
   refine syg hs (y_geq rfl rfl) ?_; clear hs; (try clear a w); intro a w hs
   refine sy (v := .bool (decide ((p0.Nodes.length : Int) ≤ p1))) hs (y_pick rfl rfl) ?_; clear hs; (try clear a w); intro a w hs
   refine RL_nil ?_
   exact hs.sub ⟨rfl, rfl, rfl, (lkB (((or_f hg39).trans rfl)) rfl), trivial⟩

/-! casement/casementref5.Index -/
def ref5_Index_k2 (y22 : Int) : Option Int :=
  some y22
def ref5_Index_k4 (p0 : api_Tree) (y24 : Int) (lp25 : Int → Int → Option Int) (y39 : Int) : Option Int :=
  (geti p0.Nodes y24).bind fun x40 =>
  lp25 y39 x40.Prev
def ref5_Index_l3 (p0 : api_Tree) : Nat → Int → Int → Option Int
  | 0, _, _ => none
  | k25 + 1, y23, y24 =>
  (bif (decide (0 ≤ y24)) then (geti p0.Nodes y24).bind fun x27 =>
  (bif (decide (x27.Kind = 1)) then ref5_Index_k4 p0 y24 (ref5_Index_l3 p0 k25) (w64 (y23 + 1)) else
  ref5_Index_k4 p0 y24 (ref5_Index_l3 p0 k25) y23) else
  ref5_Index_k2 y23)
def ref5_Index_k1 (n : Nat) (p0 : api_Tree) (p1 : Int) (y8 : Bool) : Option Int :=
  (bif y8 then some 0 else
  (geti p0.Nodes p1).bind fun x10 =>
  ref5_Index_l3 p0 n 1 x10.Prev)
def ref5_Index (n : Nat) (p0 : api_Tree) (p1 : Int) : Option Int :=
  (bif (decide (p1 < 0)) then ref5_Index_k1 n p0 p1 true else
  (bif (decide ((p0.Nodes.length : Int) ≤ p1)) then ref5_Index_k1 n p0 p1 true else
  (geti p0.Nodes p1).bind fun x55 =>
  ref5_Index_k1 n p0 p1 (decide (x55.Kind ≠ 1))))
theorem ref5_Index_ok (n : Nat) {f : Fz} {p0 : api_Tree} {a0 : List Value} {p1 : Int} {res : Int} (h0 : t_api_Tree.R f a0 p0) (hm : ref5_Index n p0 p1 = some res) : Gives Try.prog 32 [.agg a0.toArray, .int .i64 p1] f (.int .i64 res) := by
 unfold ref5_Index at hm
 intro w0 L w hC
 obtain ⟨v1, rfl, ⟨rw2, hR3, hW4⟩⟩ := h0
 refine enter Try.func32 rfl Try.ntmps32 (by simp) hC fun a hs => ?_
 have hle := Fz.le.refl f
 refine W_seq fun K1 hK1 => ?_
 refine W_region ?_
 refine sbox hs rfl ?_; clear hs; (try clear a w); intro b6 a w hs
 replace hs : St _ _ _ (.blk b6 (.cells #[v1] 24 (0, 0)) :: L) _ _ _ := hs
 refine sy (v := .int .i64 (0)) hs (y_assign rfl) ?_; clear hs; (try clear a w); intro a w hs
 refine RL_nil ?_
 refine hK1 _ _ ?_; clear hK1
 refine W_seq fun K2 hK2 => ?_
 refine W_seq fun K3 hK3 => ?_
 refine W_post (fun a w => ∃ (y8 : Bool), ref5_Index_k1 n p0 p1 y8 = some res ∧ St 49 w0 f (.blk b6 (.cells #[v1] 24 (0, 0)) :: L) [(1, .int .i64 (p1)), (2, .pointer (some ⟨b6, 0, none⟩)), (24, .bool (y8))] a w) ?_ ?_
 ·clear hs hm
  rintro a w ⟨y8, hm, hs⟩
  replace hs : St _ _ _ (.blk b6 (.cells #[v1] 24 (0, 0)) :: L) _ _ _ := hs
  unfold ref5_Index_k1 at hm
  refine hK3 _ _ ?_; clear hK3
  refine W_cond hs rfl (fun hg9 => ?_) (fun hg9 => ?_)
  ·replace hm := oc_t hg9 hm
   refine W_seq fun K4 hK4 => ?_
   refine W_region ?_
   refine sy (v := .int .i64 (0)) hs (y_assign rfl) ?_; clear hs; (try clear a w); intro a w hs
   refine RL_nil ?_
   refine hK4 _ _ ?_; clear hK4
   refine W_ret ?_
   obtain rfl := Option.some.inj hm
   refine RtV1 hs rfl (rv_t hs rfl) ?_
   exact ⟨rfl, ((hs.subL (.cons _ (.refl _))).weak hle).cw⟩
  ·replace hm := oc_f hg9 hm
   refine W_skip ?_
   refine hK2 _ _ ?_; clear hK2
   refine W_seq fun K5 hK5 => ?_
   refine W_region ?_
   refine sy (v := .int .i64 (1)) hs (y_assign rfl) ?_; clear hs; (try clear a w); intro a w hs
   refine RL_nil ?_
   refine hK5 _ _ ?_; clear hK5
   refine W_seq fun K6 hK6 => ?_
   refine W_seq fun K7 hK7 => ?_
   refine W_region ?_
   refine sy (v := .pointer (some ⟨b6, 0, none⟩)) hs (y_fieldAddr rfl (FO.of (off := 0) Try.underlying24 rfl rfl ti22 (by decide))) ?_; clear hs; (try clear a w); intro a w hs
   refine sy (v := v1) hs (y_ld rfl Try.underlying22 rfl (Cell.blk (.head _) rfl)) ?_; clear hs; (try clear a w); intro a w hs
   refine sy (v := .int .i64 (p1)) hs (y_move rfl) ?_; clear hs; (try clear a w); intro a w hs
   obtain ⟨x10, hx11, hm⟩ := ob hm
   obtain ⟨r12, hr13, hq14, hi15, hb16⟩ := hW4.geti hx11
   obtain ⟨v17, rfl, ⟨rw18, hR19, hW20⟩⟩ := hq14
   refine sy hs (y_indexAddr hR3 rfl rfl hi15 hb16 Try.underlying22 ti59) ?_; clear hs; (try clear a w); intro a w hs
   refine sy (v := eaddr v1 9 p1.toNat 7) hs (y_fieldAddrE (i := p1.toNat) (j := 0) hR3 rfl hb16 (FO.of (off := 7) Try.underlying59 rfl rfl ti3 (by decide))) ?_; clear hs; (try clear a w); intro a w hs
   refine sy (v := .int .i64 (x10.Prev)) hs (y_loadE (i := p1.toNat) (j := 7) hR3.up rfl hr13 rfl Try.underlying3 rfl) ?_; clear hs; (try clear a w); intro a w hs
   refine sy (v := .int .i64 (x10.Prev)) hs (y_assign rfl) ?_; clear hs; (try clear a w); intro a w hs
   refine RL_nil ?_
   refine hK7 _ _ ?_; clear hK7
   refine W_post (fun a w => ∃ (y22 : Int), ref5_Index_k2 y22 = some res ∧ St 49 w0 f (L) [(5, .int .i64 (y22))] a w) ?_ ?_
   ·clear hs hm
    rintro a w ⟨y22, hm, hs⟩
    replace hs : St _ _ _ (L) _ _ _ := hs
    unfold ref5_Index_k2 at hm
    refine hK6 _ _ ?_; clear hK6
    refine W_seq fun K8 hK8 => ?_
    refine W_region ?_
    refine sy (v := .int .i64 (y22)) hs (y_move rfl) ?_; clear hs; (try clear a w); intro a w hs
    refine sy (v := .int .i64 (y22)) hs (y_assign rfl) ?_; clear hs; (try clear a w); intro a w hs
    refine RL_nil ?_
    refine hK8 _ _ ?_; clear hK8
    refine W_ret ?_
    obtain rfl := Option.some.inj hm
    refine RtV1 hs rfl (rv_t hs rfl) ?_
    exact ⟨rfl, (hs.weak hle).cw⟩
   ·refine W_block fun Qe9 hB9 hO9 => ?_
    refine W_loop (fun (k : Nat) a w => ∃ (y23 : Int) (y24 : Int), ref5_Index_l3 p0 k y23 y24 = some res ∧ St 49 w0 f (.blk b6 (.cells #[v1] 24 (0, 0)) :: L) [(2, .pointer (some ⟨b6, 0, none⟩)), (5, .int .i64 (y23)), (6, .int .i64 (y24))] a w) (fun k => k) n ⟨1, x10.Prev, hm, hs.sub ⟨rfl, rfl, rfl, trivial⟩⟩ ?_
    clear hs hm
    intro k
    rintro a w ⟨y23, y24, hm, hs⟩
    replace hs : St _ _ _ (.blk b6 (.cells #[v1] 24 (0, 0)) :: L) _ _ _ := hs
    intro K10 hK10
    cases k with
    | zero => simp [ref5_Index_l3] at hm
    | succ k25 =>
     rw [ref5_Index_l3] at hm
     refine W_seq fun K11 hK11 => ?_
     refine W_seq fun K12 hK12 => ?_
     refine W_region ?_
     refine sy (v := .int .i64 (y24)) hs (y_move rfl) ?_; clear hs; (try clear a w); intro a w hs
     refine sy hs (y_geq rfl rfl) ?_; clear hs; (try clear a w); intro a w hs
     refine RL_nil ?_
     refine hK12 _ _ ?_; clear hK12
     refine W_cond hs rfl (fun hg26 => ?_) (fun hg26 => ?_)
     ·replace hm := oc_t hg26 hm
      refine W_skip ?_
      refine hK11 _ _ ?_; clear hK11
      refine W_seq fun K13 hK13 => ?_
      refine W_block fun Qe14 hB14 hO14 => ?_
      refine W_seq fun K15 hK15 => ?_
      refine W_region ?_
      refine sy (v := .pointer (some ⟨b6, 0, none⟩)) hs (y_fieldAddr rfl (FO.of (off := 0) Try.underlying24 rfl rfl ti22 (by decide))) ?_; clear hs; (try clear a w); intro a w hs
      refine sy (v := v1) hs (y_ld rfl Try.underlying22 rfl (Cell.blk (.head _) rfl)) ?_; clear hs; (try clear a w); intro a w hs
      refine sy (v := .int .i64 (y24)) hs (y_move rfl) ?_; clear hs; (try clear a w); intro a w hs
      obtain ⟨x27, hx28, hm⟩ := ob hm
      obtain ⟨r29, hr30, hq31, hi32, hb33⟩ := hW4.geti hx28
      obtain ⟨v34, rfl, ⟨rw35, hR36, hW37⟩⟩ := hq31
      refine sy hs (y_indexAddr hR3 rfl rfl hi32 hb33 Try.underlying22 ti59) ?_; clear hs; (try clear a w); intro a w hs
      refine sy (v := eaddr v1 9 y24.toNat 0) hs (y_fieldAddrE (i := y24.toNat) (j := 0) hR3 rfl hb33 (FO.of (off := 0) Try.underlying59 rfl rfl ti3 (by decide))) ?_; clear hs; (try clear a w); intro a w hs
      refine sy (v := .int .i64 (x27.Kind)) hs (y_loadE (i := y24.toNat) (j := 0) hR3.up rfl hr30 rfl Try.underlying3 rfl) ?_; clear hs; (try clear a w); intro a w hs
      refine sy hs (y_eql rfl rfl) ?_; clear hs; (try clear a w); intro a w hs
      refine RL_nil ?_
      refine hK15 _ _ ?_; clear hK15
      refine W_post (fun a w => ∃ (y39 : Int), ref5_Index_k4 p0 y24 (ref5_Index_l3 p0 k25) y39 = some res ∧ St 49 w0 f (.blk b6 (.cells #[v1] 24 (0, 0)) :: L) [(2, .pointer (some ⟨b6, 0, none⟩)), (5, .int .i64 (y39)), (6, .int .i64 (y24))] a w) ?_ ?_
      ·clear hs hm
       rintro a w ⟨y39, hm, hs⟩
       replace hs : St _ _ _ (.blk b6 (.cells #[v1] 24 (0, 0)) :: L) _ _ _ := hs
       unfold ref5_Index_k4 at hm
       refine hK13 _ _ ?_; clear hK13
       refine W_region ?_
       refine sy (v := .pointer (some ⟨b6, 0, none⟩)) hs (y_fieldAddr rfl (FO.of (off := 0) Try.underlying24 rfl rfl ti22 (by decide))) ?_; clear hs; (try clear a w); intro a w hs
       refine sy (v := v1) hs (y_ld rfl Try.underlying22 rfl (Cell.blk (.head _) rfl)) ?_; clear hs; (try clear a w); intro a w hs
       refine sy (v := .int .i64 (y24)) hs (y_move rfl) ?_; clear hs; (try clear a w); intro a w hs
       obtain ⟨x40, hx41, hm⟩ := ob hm
       obtain ⟨r42, hr43, hq44, hi45, hb46⟩ := hW4.geti hx41
       obtain ⟨v47, rfl, ⟨rw48, hR49, hW50⟩⟩ := hq44
       refine sy hs (y_indexAddr hR3 rfl rfl hi45 hb46 Try.underlying22 ti59) ?_; clear hs; (try clear a w); intro a w hs
       refine sy (v := eaddr v1 9 y24.toNat 7) hs (y_fieldAddrE (i := y24.toNat) (j := 0) hR3 rfl hb46 (FO.of (off := 7) Try.underlying59 rfl rfl ti3 (by decide))) ?_; clear hs; (try clear a w); intro a w hs
       refine sy (v := .int .i64 (x40.Prev)) hs (y_loadE (i := y24.toNat) (j := 7) hR3.up rfl hr43 rfl Try.underlying3 rfl) ?_; clear hs; (try clear a w); intro a w hs
       refine sy (v := .int .i64 (x40.Prev)) hs (y_assign rfl) ?_; clear hs; (try clear a w); intro a w hs
       refine RL_nil ?_
       exact hK10 k25 _ _ (Nat.lt_succ_self _) ⟨y39, x40.Prev, hm, hs.sub ⟨rfl, rfl, rfl, trivial⟩⟩
      ·refine W_cond hs rfl (fun hg52 => ?_) (fun hg52 => ?_)
       ·replace hm := oc_t hg52 hm
        refine W_region ?_
        refine sy (v := .int .i64 (y23)) hs (y_move rfl) ?_; clear hs; (try clear a w); intro a w hs
        refine sy hs (y_add rfl rfl rfl) ?_; clear hs; (try clear a w); intro a w hs
        refine sy (v := .int .i64 ((w64 (y23 + 1)))) hs (y_assign rfl) ?_; clear hs; (try clear a w); intro a w hs
        refine RL_nil ?_
        exact ⟨(w64 (y23 + 1)), hm, hs.sub ⟨rfl, rfl, rfl, trivial⟩⟩
       ·replace hm := oc_f hg52 hm
        refine W_skip ?_
        exact ⟨y23, hm, hs.sub ⟨rfl, rfl, rfl, trivial⟩⟩
     ·replace hm := oc_f hg26 hm
      refine W_exit ?_
      refine hB9 _ _ ?_
      exact ⟨y23, hm, hs.subs ⟨rfl, trivial⟩ (.cons _ (.refl _))⟩
 ·refine W_region ?_
  refine sy (v := .int .i64 (p1)) hs (y_move rfl) ?_; clear hs; (try clear a w); intro a w hs
  refine sy hs (y_lss rfl rfl) ?_; clear hs; (try clear a w); intro a w hs
  refine sy (v := .bool (decide (p1 < 0))) hs (y_move rfl) ?_; clear hs; (try clear a w); intro a w hs
  refine St.split hs (t := 9) rfl (fun hg53 hq => ?_) (fun hg53 hq => ?_)
  ·clear hs; have hs := hq; clear hq
   replace hm := oc_t hg53 hm
   refine sno hs ?_; clear hs; (try clear a w); intro a w hs
   refine sno hs ?_; clear hs; (try clear a w); intro a w hs
   refine sno hs ?_; clear hs; (try clear a w); intro a w hs
   refine sno hs ?_; clear hs; (try clear a w); intro a w hs
   refine sno hs ?_; clear hs; (try clear a w); intro a w hs
   refine sy (v := .bool (true)) hs (y_pick rfl rfl) ?_; clear hs; (try clear a w); intro a w hs
   refine sy (v := .bool (true)) hs (y_move rfl) ?_; clear hs; (try clear a w); intro a w hs
   refine sno hs ?_; clear hs; (try clear a w); intro a w hs
   refine sno hs ?_; clear hs; (try clear a w); intro a w hs
   refine sno hs ?_; clear hs; (try clear a w); intro a w hs
   refine sno hs ?_; clear hs; (try clear a w); intro a w hs
   refine sno hs ?_; clear hs; (try clear a w); intro a w hs
   refine sno hs ?_; clear hs; (try clear a w); intro a w hs
   refine sno hs ?_; clear hs; (try clear a w); intro a w hs
   refine sy (v := .bool (true)) hs (y_pick rfl rfl) ?_; clear hs; (try clear a w); intro a w hs
   refine RL_nil ?_
   exact ⟨true, hm, hs.sub ⟨rfl, rfl, rfl, trivial⟩⟩
  ·clear hs; have hs := hq; clear hq
   replace hm := oc_f hg53 hm
   refine syg (v := .int .i64 (p1)) hs (y_move rfl) ?_; clear hs; (try clear a w); intro a w hs
   refine syg (v := .pointer (some ⟨b6, 0, none⟩)) hs (y_fieldAddr rfl (FO.of (off := 0) Try.underlying24 rfl rfl ti22 (by decide))) ?_; clear hs; (try clear a w); intro a w hs
   refine syg (v := v1) hs (y_ld rfl Try.underlying22 rfl (Cell.blk (.head _) rfl)) ?_; clear hs; (try clear a w); intro a w hs
   refine syg hs (y_lenW hR3 hW4 rfl Try.underlying22) ?_; clear hs; (try clear a w); intro a w hs
   refine syg hs (y_geq rfl rfl) ?_; clear hs; (try clear a w); intro a w hs
   refine sy (v := .bool (decide ((p0.Nodes.length : Int) ≤ p1))) hs (y_pick rfl rfl) ?_; clear hs; (try clear a w); intro a w hs
   refine sy (v := .bool (decide ((p0.Nodes.length : Int) ≤ p1))) hs (y_move rfl) ?_; clear hs; (try clear a w); intro a w hs
   refine St.split hs (t := 16) rfl (fun hg54 hq => ?_) (fun hg54 hq => ?_)
   ·clear hs; have hs := hq; clear hq
    replace hm := oc_t hg54 hm
    refine sno hs ?_; clear hs; (try clear a w); intro a w hs
    refine sno hs ?_; clear hs; (try clear a w); intro a w hs
    refine sno hs ?_; clear hs; (try clear a w); intro a w hs
    refine sno hs ?_; clear hs; (try clear a w); intro a w hs
    refine sno hs ?_; clear hs; (try clear a w); intro a w hs
    refine sno hs ?_; clear hs; (try clear a w); intro a w hs
    refine sno hs ?_; clear hs; (try clear a w); intro a w hs
    refine sy (v := .bool (true)) hs (y_pick rfl rfl) ?_; clear hs; (try clear a w); intro a w hs
    refine RL_nil ?_
    exact ⟨true, hm, hs.sub ⟨rfl, rfl, rfl, trivial⟩⟩
   ·clear hs; have hs := hq; clear hq
    replace hm := oc_f hg54 hm
    refine syg (v := .pointer (some ⟨b6, 0, none⟩)) hs (y_fieldAddr rfl (FO.of (off := 0) Try.underlying24 rfl rfl ti22 (by decide))) ?_; clear hs; (try clear a w); intro a w hs
    refine syg (v := v1) hs (y_ld rfl Try.underlying22 rfl (Cell.blk (.head _) rfl)) ?_; clear hs; (try clear a w); intro a w hs
    refine syg (v := .int .i64 (p1)) hs (y_move rfl) ?_; clear hs; (try clear a w); intro a w hs
    obtain ⟨x55, hx56, hm⟩ := ob hm
    obtain ⟨r57, hr58, hq59, hi60, hb61⟩ := hW4.geti hx56
    obtain ⟨v62, rfl, ⟨rw63, hR64, hW65⟩⟩ := hq59
    refine syg hs (y_indexAddr hR3 rfl rfl hi60 hb61 Try.underlying22 ti59) ?_; clear hs; (try clear a w); intro a w hs
    refine syg (v := eaddr v1 9 p1.toNat 0) hs (y_fieldAddrE (i := p1.toNat) (j := 0) hR3 rfl hb61 (FO.of (off := 0) Try.underlying59 rfl rfl ti3 (by decide))) ?_; clear hs; (try clear a w); intro a w hs
    refine syg (v := .int .i64 (x55.Kind)) hs (y_loadE (i := p1.toNat) (j := 0) hR3.up rfl hr58 rfl Try.underlying3 rfl) ?_; clear hs; (try clear a w); intro a w hs
    refine syg hs (y_neq rfl rfl) ?_; clear hs; (try clear a w); intro a w hs
    refine sy (v := .bool (decide (x55.Kind ≠ 1))) hs (y_pick rfl rfl) ?_; clear hs; (try clear a w); intro a w hs
    refine RL_nil ?_
    exact ⟨decide (x55.Kind ≠ 1), hm, hs.sub ⟨rfl, rfl, rfl, trivial⟩⟩

end Go.Proofs.Ytekcbgnkikmhpaa
