/-
  Walks and laws of this seat; the base is the text Base.
-/
import Derived.Test.YtmkcglpeidbblaaDoorL10d
import Derived.Test.YtmkcglpeidbblaaDoorG10
import Derived.Test.YtmkcglpeidbblaaDoorRows
/-
  Models of functions, and that the functions compute them. Printed by lift.py.
-/
namespace Go.Proofs.YtmkcglpeidbblaaDoor
open Go.RowKit Go.Sl
/-! casement/match.element -/
def match_element_k1 (y8 : Bool) : Option Bool :=
  some y8
def match_element (_n : Nat) (p0 : api_Tree) (p1 : Int) : Option Bool :=
  (bif (decide (0 ≤ p1)) then (bif (decide (p1 < (p0.Nodes.length : Int))) then (geti p0.Nodes p1).bind fun x11 =>
  match_element_k1 (decide (x11.Kind = 1)) else
  match_element_k1 false) else
  match_element_k1 false)
set_option maxRecDepth 20000 in
set_option maxHeartbeats 4000000 in
theorem match_element_ok (n : Nat) {f : Fz} {p0 : api_Tree} {a0 : List Value} {p1 : Int} {res : Bool} (h0 : t_api_Tree.R f a0 p0) (hm : match_element n p0 p1 = some res) : Gives Tryd.prog 27 [.agg a0.toArray, .int .i64 p1] f (.bool res) := by
 unfold match_element at hm
 intro w0 L w hC
 obtain ⟨v1, rfl, ⟨rw2, hR3, hW4⟩⟩ := h0
 refine enter Tryd.func27 rfl Tryd.ntmps27 (by simp) hC fun a hs => ?_
 have hle := Fz.le.refl f
 refine W_seq fun K1 hK1 => ?_
 refine W_region ?_
 refine sbox hs rfl ?_; clear hs; intro b6 a w hs
 refine sy (v := .bool (false)) hs (y_assign rfl) ?_; clear hs; intro a w hs
 refine RL_nil ?_
 refine hK1 _ _ ?_; clear hK1
 refine W_seq fun K2 hK2 => ?_
 refine W_post (fun a w => ∃ (y8 : Bool), match_element_k1 y8 = some res ∧ St 23 w0 f (L) [(4, .bool (y8))] a w) ?_ ?_
 ·clear hs hm
  rintro a w ⟨y8, hm, hs⟩
  unfold match_element_k1 at hm
  refine hK2 _ _ ?_; clear hK2
  refine W_ret ?_
  obtain rfl := Option.some.inj hm
  refine RtV1 hs rfl (rv_t hs rfl) ?_
  exact ⟨rfl, (hs.weak hle).cw⟩
 ·refine W_region ?_
  refine sy (v := .int .i64 (p1)) hs (y_move rfl) ?_; clear hs; intro a w hs
  refine sy hs (y_geq rfl rfl) ?_; clear hs; intro a w hs
  refine sy (v := .bool (decide (0 ≤ p1))) hs (y_move rfl) ?_; clear hs; intro a w hs
  refine St.split hs (t := 7) rfl (fun hg9 hq => ?_) (fun hg9 hq => ?_)
  ·clear hs; have hs := hq; clear hq
   replace hm := oc_t hg9 hm
   refine syg (v := .int .i64 (p1)) hs (y_move rfl) ?_; clear hs; intro a w hs
   refine syg (v := .pointer (some ⟨b6, 0, none⟩)) hs (y_fieldAddr rfl (FO.of (off := 0) Tryd.underlying24 rfl rfl ti22 (by decide))) ?_; clear hs; intro a w hs
   refine syg (v := v1) hs (y_ld rfl Tryd.underlying22 rfl (Cell.blk (.head _) rfl)) ?_; clear hs; intro a w hs
   refine syg hs (y_lenW hR3 hW4 rfl Tryd.underlying22) ?_; clear hs; intro a w hs
   refine syg hs (y_lss rfl rfl) ?_; clear hs; intro a w hs
   refine sy (v := .bool (decide (p1 < (p0.Nodes.length : Int)))) hs (y_pick rfl rfl) ?_; clear hs; intro a w hs
   refine sy (v := .bool (decide (p1 < (p0.Nodes.length : Int)))) hs (y_move rfl) ?_; clear hs; intro a w hs
   refine St.split hs (t := 14) rfl (fun hg10 hq => ?_) (fun hg10 hq => ?_)
   ·clear hs; have hs := hq; clear hq
    replace hm := oc_t hg10 hm
    refine syg (v := .pointer (some ⟨b6, 0, none⟩)) hs (y_fieldAddr rfl (FO.of (off := 0) Tryd.underlying24 rfl rfl ti22 (by decide))) ?_; clear hs; intro a w hs
    refine syg (v := v1) hs (y_ld rfl Tryd.underlying22 rfl (Cell.blk (.head _) rfl)) ?_; clear hs; intro a w hs
    refine syg (v := .int .i64 (p1)) hs (y_move rfl) ?_; clear hs; intro a w hs
    obtain ⟨x11, hx12, hm⟩ := ob hm
    obtain ⟨r13, hr14, hq15, hi16, hb17⟩ := hW4.geti hx12
    obtain ⟨v18, rfl, ⟨rw19, hR20, hW21⟩⟩ := hq15
    refine syg hs (y_indexAddr hR3 rfl rfl hi16 hb17 Tryd.underlying22 ti42) ?_; clear hs; intro a w hs
    refine syg (v := eaddr v1 9 p1.toNat 0) hs (y_fieldAddrE (i := p1.toNat) (j := 0) hR3 rfl hb17 (FO.of (off := 0) Tryd.underlying42 rfl rfl ti3 (by decide))) ?_; clear hs; intro a w hs
    refine syg (v := .int .i64 (x11.Kind)) hs (y_loadE (i := p1.toNat) (j := 0) hR3.up rfl hr14 rfl Tryd.underlying3 rfl) ?_; clear hs; intro a w hs
    refine syg hs (y_eql rfl rfl) ?_; clear hs; intro a w hs
    refine sy (v := .bool (decide (x11.Kind = 1))) hs (y_pick rfl rfl) ?_; clear hs; intro a w hs
    refine sy (v := .bool (decide (x11.Kind = 1))) hs (y_assign rfl) ?_; clear hs; intro a w hs
    refine RL_nil ?_
    exact ⟨decide (x11.Kind = 1), hm, hs.subs ⟨rfl, trivial⟩ (.cons _ (.refl _))⟩
   ·clear hs; have hs := hq; clear hq
    replace hm := oc_f hg10 hm
    refine sno hs ?_; clear hs; intro a w hs
    refine sno hs ?_; clear hs; intro a w hs
    refine sno hs ?_; clear hs; intro a w hs
    refine sno hs ?_; clear hs; intro a w hs
    refine sno hs ?_; clear hs; intro a w hs
    refine sno hs ?_; clear hs; intro a w hs
    refine sno hs ?_; clear hs; intro a w hs
    refine sy (v := .bool (false)) hs (y_pick rfl rfl) ?_; clear hs; intro a w hs
    refine sy (v := .bool (false)) hs (y_assign rfl) ?_; clear hs; intro a w hs
    refine RL_nil ?_
    exact ⟨false, hm, hs.subs ⟨rfl, trivial⟩ (.cons _ (.refl _))⟩
  ·clear hs; have hs := hq; clear hq
   replace hm := oc_f hg9 hm
   refine sno hs ?_; clear hs; intro a w hs
   refine sno hs ?_; clear hs; intro a w hs
   refine sno hs ?_; clear hs; intro a w hs
   refine sno hs ?_; clear hs; intro a w hs
   refine sno hs ?_; clear hs; intro a w hs
   refine sy (v := .bool (false)) hs (y_pick rfl rfl) ?_; clear hs; intro a w hs
   refine sy (v := .bool (false)) hs (y_move rfl) ?_; clear hs; intro a w hs
   refine sno hs ?_; clear hs; intro a w hs
   refine sno hs ?_; clear hs; intro a w hs
   refine sno hs ?_; clear hs; intro a w hs
   refine sno hs ?_; clear hs; intro a w hs
   refine sno hs ?_; clear hs; intro a w hs
   refine sno hs ?_; clear hs; intro a w hs
   refine sno hs ?_; clear hs; intro a w hs
   refine sy (v := .bool (false)) hs (y_pick rfl rfl) ?_; clear hs; intro a w hs
   refine sy (v := .bool (false)) hs (y_assign rfl) ?_; clear hs; intro a w hs
   refine RL_nil ?_
   exact ⟨false, hm, hs.subs ⟨rfl, trivial⟩ (.cons _ (.refl _))⟩
/-! casement/match.beside -/
def match_beside_k1 : Option (Int × Bool) :=
  some (0, false)
def match_beside_k3 (n : Nat) (p0 : api_Tree) (y9 : Int) (lp10 : Int → Int → Option (Int × Bool)) (y12 : Int) : Option (Int × Bool) :=
  (bif ((decide (y12 < 0)) || (decide ((p0.Nodes.length : Int) ≤ y12))) then some (0, false) else
  (match_element n p0 y12).bind fun x14 =>
  (bif x14 then some (y12, true) else
  lp10 y12 (w64 (y9 + 1))))
def match_beside_l2 (n : Nat) (p0 : api_Tree) (p2 : Bool) : Nat → Int → Int → Option (Int × Bool)
  | 0, _, _ => none
  | k10 + 1, y8, y9 =>
  (bif (decide (y9 < (p0.Nodes.length : Int))) then (bif p2 then (geti p0.Nodes y8).bind fun x19 =>
  match_beside_k3 n p0 y9 (match_beside_l2 n p0 p2 k10) x19.Prev else
  (geti p0.Nodes y8).bind fun x31 =>
  match_beside_k3 n p0 y9 (match_beside_l2 n p0 p2 k10) x31.Next) else
  match_beside_k1)
def match_beside (n : Nat) (p0 : api_Tree) (p1 : Int) (p2 : Bool) : Option (Int × Bool) :=
  match_beside_l2 n p0 p2 n p1 0
set_option maxRecDepth 20000 in
set_option maxHeartbeats 4000000 in
theorem match_beside_ok (n : Nat) {f : Fz} {p0 : api_Tree} {a0 : List Value} {p1 : Int} {p2 : Bool} {res : (Int × Bool)} (h0 : t_api_Tree.R f a0 p0) (hm : match_beside n p0 p1 p2 = some res) : Gives Tryd.prog 31 [.agg a0.toArray, .int .i64 p1, .bool p2] f (.tuple #[.int .i64 res.1, .bool res.2]) := by
 unfold match_beside at hm
 intro w0 L w hC
 obtain ⟨v1, rfl, ⟨rw2, hR3, hW4⟩⟩ := h0
 refine enter Tryd.func31 rfl Tryd.ntmps31 (by simp) hC fun a hs => ?_
 have hle := Fz.le.refl f
 refine W_seq fun K1 hK1 => ?_
 refine W_region ?_
 refine sbox hs rfl ?_; clear hs; intro b6 a w hs
 refine sy (v := .int .i64 (0)) hs (y_assign rfl) ?_; clear hs; intro a w hs
 refine sy (v := .bool (false)) hs (y_assign rfl) ?_; clear hs; intro a w hs
 refine RL_nil ?_
 refine hK1 _ _ ?_; clear hK1
 refine W_seq fun K2 hK2 => ?_
 refine W_seq fun K3 hK3 => ?_
 refine W_region ?_
 refine sy (v := .int .i64 (0)) hs (y_assign rfl) ?_; clear hs; intro a w hs
 refine RL_nil ?_
 refine hK3 _ _ ?_; clear hK3
 refine W_post (fun a w => match_beside_k1 = some res ∧ St 42 w0 f (L) [] a w) ?_ ?_
 ·clear hs hm
  rintro a w ⟨hm, hs⟩
  unfold match_beside_k1 at hm
  refine hK2 _ _ ?_; clear hK2
  refine W_seq fun K4 hK4 => ?_
  refine W_region ?_
  refine sy (v := .int .i64 (0)) hs (y_assign rfl) ?_; clear hs; intro a w hs
  refine sy (v := .bool (false)) hs (y_assign rfl) ?_; clear hs; intro a w hs
  refine RL_nil ?_
  refine hK4 _ _ ?_; clear hK4
  refine W_ret ?_
  obtain rfl := Option.some.inj hm
  refine RtV2 hs rfl (rv_t hs rfl) (rv_t hs rfl) ?_
  exact ⟨rfl, (hs.weak hle).cw⟩
 ·refine W_block fun Qe5 hB5 hO5 => ?_
  refine W_loop (fun (k : Nat) a w => ∃ (y8 : Int) (y9 : Int), match_beside_l2 n p0 p2 k y8 y9 = some res ∧ St 42 w0 f (.blk b6 (.cells #[v1] 24 (0, 0)) :: L) [(1, .int .i64 (y8)), (2, .bool (p2)), (3, .pointer (some ⟨b6, 0, none⟩)), (8, .int .i64 (y9))] a w) (fun k => k) n ⟨p1, 0, hm, hs.sub ⟨rfl, rfl, rfl, rfl, trivial⟩⟩ ?_
  clear hs hm
  intro k
  rintro a w ⟨y8, y9, hm, hs⟩
  intro K6 hK6
  cases k with
  | zero => simp [match_beside_l2] at hm
  | succ k10 =>
   rw [match_beside_l2] at hm
   refine W_seq fun K7 hK7 => ?_
   refine W_seq fun K8 hK8 => ?_
   refine W_region ?_
   refine sy (v := .int .i64 (y9)) hs (y_move rfl) ?_; clear hs; intro a w hs
   refine sy (v := .pointer (some ⟨b6, 0, none⟩)) hs (y_fieldAddr rfl (FO.of (off := 0) Tryd.underlying24 rfl rfl ti22 (by decide))) ?_; clear hs; intro a w hs
   refine sy (v := v1) hs (y_ld rfl Tryd.underlying22 rfl (Cell.blk (.head _) rfl)) ?_; clear hs; intro a w hs
   refine sy hs (y_lenW hR3 hW4 rfl Tryd.underlying22) ?_; clear hs; intro a w hs
   refine sy hs (y_lss rfl rfl) ?_; clear hs; intro a w hs
   refine RL_nil ?_
   refine hK8 _ _ ?_; clear hK8
   refine W_cond hs rfl (fun hg11 => ?_) (fun hg11 => ?_)
   ·replace hm := oc_t hg11 hm
    refine W_skip ?_
    refine hK7 _ _ ?_; clear hK7
    refine W_seq fun K9 hK9 => ?_
    refine W_block fun Qe10 hB10 hO10 => ?_
    refine W_seq fun K11 hK11 => ?_
    refine W_seq fun K12 hK12 => ?_
    refine W_region ?_
    refine sy (v := .bool (p2)) hs (y_move rfl) ?_; clear hs; intro a w hs
    refine RL_nil ?_
    refine hK12 _ _ ?_; clear hK12
    refine W_post (fun a w => ∃ (y12 : Int), match_beside_k3 n p0 y9 (match_beside_l2 n p0 p2 k10) y12 = some res ∧ St 42 w0 f (.blk b6 (.cells #[v1] 24 (0, 0)) :: L) [(1, .int .i64 (y12)), (2, .bool (p2)), (3, .pointer (some ⟨b6, 0, none⟩)), (8, .int .i64 (y9))] a w) ?_ ?_
    ·clear hs hm
     rintro a w ⟨y12, hm, hs⟩
     unfold match_beside_k3 at hm
     refine hK11 _ _ ?_; clear hK11
     refine W_seq fun K13 hK13 => ?_
     refine W_seq fun K14 hK14 => ?_
     refine W_post (fun a w => St 42 w0 f (.blk b6 (.cells #[v1] 24 (0, 0)) :: L) [(1, .int .i64 (y12)), (2, .bool (p2)), (3, .pointer (some ⟨b6, 0, none⟩)), (8, .int .i64 (y9)), (37, .bool (((decide (y12 < 0)) || (decide ((p0.Nodes.length : Int) ≤ y12)))))] a w) ?_ ?_
     ·clear hs; intro a w hs
      refine hK14 _ _ ?_; clear hK14
      refine W_cond hs rfl (fun hg13 => ?_) (fun hg13 => ?_)
      ·replace hm := oc_t hg13 hm
       refine W_seq fun K15 hK15 => ?_
       refine W_region ?_
       refine sy (v := .int .i64 (0)) hs (y_assign rfl) ?_; clear hs; intro a w hs
       refine sy (v := .bool (false)) hs (y_assign rfl) ?_; clear hs; intro a w hs
       refine RL_nil ?_
       refine hK15 _ _ ?_; clear hK15
       refine W_ret ?_
       obtain rfl := Option.some.inj hm
       refine RtV2 hs rfl (rv_t hs rfl) (rv_t hs rfl) ?_
       exact ⟨rfl, ((hs.subL (.cons _ (.refl _))).weak hle).cw⟩
      ·replace hm := oc_f hg13 hm
       refine W_skip ?_
       refine hK13 _ _ ?_; clear hK13
       refine W_seq fun K16 hK16 => ?_
       refine W_region ?_
       refine sy hs (y_ldB rfl Tryd.underlying24 rfl ti24 (.head _) rfl) ?_; clear hs; intro a w hs
       refine sy (v := .int .i64 (y12)) hs (y_move rfl) ?_; clear hs; intro a w hs
       obtain ⟨x14, hx15, hm⟩ := ob hm
       refine sy hs (y_call rfl has27 rfl (match_element_ok n (f := f) (a0 := [v1]) ⟨_, rfl, ⟨rw2, hR3, hW4⟩⟩ hx15)) ?_; clear hs; intro a w hs
       refine RL_nil ?_
       refine hK16 _ _ ?_; clear hK16
       refine W_cond hs rfl (fun hg16 => ?_) (fun hg16 => ?_)
       ·replace hm := oc_t hg16 hm
        refine W_seq fun K17 hK17 => ?_
        refine W_region ?_
        refine sy (v := .int .i64 (y12)) hs (y_move rfl) ?_; clear hs; intro a w hs
        refine sy (v := .int .i64 (y12)) hs (y_assign rfl) ?_; clear hs; intro a w hs
        refine sy (v := .bool (true)) hs (y_assign rfl) ?_; clear hs; intro a w hs
        refine RL_nil ?_
        refine hK17 _ _ ?_; clear hK17
        refine W_ret ?_
        obtain rfl := Option.some.inj hm
        refine RtV2 hs rfl (rv_t hs rfl) (rv_t hs rfl) ?_
        exact ⟨rfl, ((hs.subL (.cons _ (.refl _))).weak hle).cw⟩
       ·replace hm := oc_f hg16 hm
        refine W_skip ?_
        refine hK9 _ _ ?_; clear hK9
        refine W_region ?_
        refine sy (v := .int .i64 (y9)) hs (y_move rfl) ?_; clear hs; intro a w hs
        refine sy hs (y_add rfl rfl rfl) ?_; clear hs; intro a w hs
        refine sy (v := .int .i64 ((w64 (y9 + 1)))) hs (y_assign rfl) ?_; clear hs; intro a w hs
        refine RL_nil ?_
        exact hK6 k10 _ _ (Nat.lt_succ_self _) ⟨y12, (w64 (y9 + 1)), hm, hs.sub ⟨rfl, rfl, rfl, rfl, trivial⟩⟩
     ·refine W_region ?_
      refine sy (v := .int .i64 (y12)) hs (y_move rfl) ?_; clear hs; intro a w hs
      refine sy hs (y_lss rfl rfl) ?_; clear hs; intro a w hs
      refine sy (v := .bool (decide (y12 < 0))) hs (y_move rfl) ?_; clear hs; intro a w hs
      refine St.split hs (t := 31) rfl (fun hg17 hq => ?_) (fun hg17 hq => ?_)
      ·clear hs; have hs := hq; clear hq
       refine sno hs ?_; clear hs; intro a w hs
       refine sno hs ?_; clear hs; intro a w hs
       refine sno hs ?_; clear hs; intro a w hs
       refine sno hs ?_; clear hs; intro a w hs
       refine sno hs ?_; clear hs; intro a w hs
       refine sy (v := .bool (true)) hs (y_pick rfl rfl) ?_; clear hs; intro a w hs
       refine RL_nil ?_
       exact hs.sub ⟨rfl, rfl, rfl, rfl, (lkB (((or_t hg17).trans rfl)) rfl), trivial⟩
      ·clear hs; have hs := hq; clear hq
       refine syg (v := .int .i64 (y12)) hs (y_move rfl) ?_; clear hs; intro a w hs
       refine syg (v := .pointer (some ⟨b6, 0, none⟩)) hs (y_fieldAddr rfl (FO.of (off := 0) Tryd.underlying24 rfl rfl ti22 (by decide))) ?_; clear hs; intro a w hs
       refine syg (v := v1) hs (y_ld rfl Tryd.underlying22 rfl (Cell.blk (.head _) rfl)) ?_; clear hs; intro a w hs
       refine syg hs (y_lenW hR3 hW4 rfl Tryd.underlying22) ?_; clear hs; intro a w hs
       refine syg hs (y_geq rfl rfl) ?_; clear hs; intro a w hs
       refine sy (v := .bool (decide ((p0.Nodes.length : Int) ≤ y12))) hs (y_pick rfl rfl) ?_; clear hs; intro a w hs
       refine RL_nil ?_
       exact hs.sub ⟨rfl, rfl, rfl, rfl, (lkB (((or_f hg17).trans rfl)) rfl), trivial⟩
    ·refine W_cond hs rfl (fun hg18 => ?_) (fun hg18 => ?_)
     ·replace hm := oc_t hg18 hm
      refine W_region ?_
      refine sy (v := .pointer (some ⟨b6, 0, none⟩)) hs (y_fieldAddr rfl (FO.of (off := 0) Tryd.underlying24 rfl rfl ti22 (by decide))) ?_; clear hs; intro a w hs
      refine sy (v := v1) hs (y_ld rfl Tryd.underlying22 rfl (Cell.blk (.head _) rfl)) ?_; clear hs; intro a w hs
      refine sy (v := .int .i64 (y8)) hs (y_move rfl) ?_; clear hs; intro a w hs
      obtain ⟨x19, hx20, hm⟩ := ob hm
      obtain ⟨r21, hr22, hq23, hi24, hb25⟩ := hW4.geti hx20
      obtain ⟨v26, rfl, ⟨rw27, hR28, hW29⟩⟩ := hq23
      refine sy hs (y_indexAddr hR3 rfl rfl hi24 hb25 Tryd.underlying22 ti42) ?_; clear hs; intro a w hs
      refine sy (v := eaddr v1 9 y8.toNat 7) hs (y_fieldAddrE (i := y8.toNat) (j := 0) hR3 rfl hb25 (FO.of (off := 7) Tryd.underlying42 rfl rfl ti3 (by decide))) ?_; clear hs; intro a w hs
      refine sy (v := .int .i64 (x19.Prev)) hs (y_loadE (i := y8.toNat) (j := 7) hR3.up rfl hr22 rfl Tryd.underlying3 rfl) ?_; clear hs; intro a w hs
      refine sy (v := .int .i64 (x19.Prev)) hs (y_assign rfl) ?_; clear hs; intro a w hs
      refine RL_nil ?_
      exact ⟨x19.Prev, hm, hs.sub ⟨rfl, rfl, rfl, rfl, trivial⟩⟩
     ·replace hm := oc_f hg18 hm
      refine W_region ?_
      refine sy (v := .pointer (some ⟨b6, 0, none⟩)) hs (y_fieldAddr rfl (FO.of (off := 0) Tryd.underlying24 rfl rfl ti22 (by decide))) ?_; clear hs; intro a w hs
      refine sy (v := v1) hs (y_ld rfl Tryd.underlying22 rfl (Cell.blk (.head _) rfl)) ?_; clear hs; intro a w hs
      refine sy (v := .int .i64 (y8)) hs (y_move rfl) ?_; clear hs; intro a w hs
      obtain ⟨x31, hx32, hm⟩ := ob hm
      obtain ⟨r33, hr34, hq35, hi36, hb37⟩ := hW4.geti hx32
      obtain ⟨v38, rfl, ⟨rw39, hR40, hW41⟩⟩ := hq35
      refine sy hs (y_indexAddr hR3 rfl rfl hi36 hb37 Tryd.underlying22 ti42) ?_; clear hs; intro a w hs
      refine sy (v := eaddr v1 9 y8.toNat 8) hs (y_fieldAddrE (i := y8.toNat) (j := 0) hR3 rfl hb37 (FO.of (off := 8) Tryd.underlying42 rfl rfl ti3 (by decide))) ?_; clear hs; intro a w hs
      refine sy (v := .int .i64 (x31.Next)) hs (y_loadE (i := y8.toNat) (j := 8) hR3.up rfl hr34 rfl Tryd.underlying3 rfl) ?_; clear hs; intro a w hs
      refine sy (v := .int .i64 (x31.Next)) hs (y_assign rfl) ?_; clear hs; intro a w hs
      refine RL_nil ?_
      exact ⟨x31.Next, hm, hs.sub ⟨rfl, rfl, rfl, rfl, trivial⟩⟩
   ·replace hm := oc_f hg11 hm
    refine W_exit ?_
    refine hB5 _ _ ?_
    exact ⟨hm, hs.subs trivial (.cons _ (.refl _))⟩
/-! casement/match.small -/
def match_small (n : Nat) (p0 : ByteArray) : Option ByteArray :=
  (strings_Map n (fun z0 => match_small_1 n z0) p0).bind fun x1 =>
  some x1
set_option maxRecDepth 20000 in
set_option maxHeartbeats 4000000 in
theorem match_small_ok (n : Nat) {f : Fz} {o0 : Obj} {o1 : Obj} {p0 : ByteArray} {res : ByteArray} (hT0 : f 0 = some o0) (hT1 : f 1 = some o1) (hTT : Tabs o0 o1) (hm : match_small n p0 = some res) : Gives Tryd.prog 47 [.string p0] f (.string res) := by
 unfold match_small at hm
 intro w0 L w hC
 refine enter Tryd.func47 rfl Tryd.ntmps47 (by simp) hC fun a hs => ?_
 have hle := Fz.le.refl f
 refine W_seq fun K1 hK1 => ?_
 refine W_region ?_
 refine sy (v := .string ((bs []))) hs (y_assign rfl) ?_; clear hs; intro a w hs
 refine RL_nil ?_
 refine hK1 _ _ ?_; clear hK1
 refine W_seq fun K2 hK2 => ?_
 refine W_region ?_
 refine sy (v := .string (p0)) hs (y_move rfl) ?_; clear hs; intro a w hs
 obtain ⟨x1, hx2, hm⟩ := ob hm
 refine sy hs (y_call rfl has54 rfl (strings_Map_ok n (f := f) (g0 := 55) (cap0 := []) hT0 hT1 hTT has55 (fun f9 hle9 z0 r9  h9 => match_small_1_ok n (f := f9)   h9) small_tot hx2)) ?_; clear hs; intro a w hs
 refine sy (v := .string (x1)) hs (y_assign rfl) ?_; clear hs; intro a w hs
 refine RL_nil ?_
 refine hK2 _ _ ?_; clear hK2
 refine W_ret ?_
 obtain rfl := Option.some.inj hm
 refine RtV1 hs rfl (rv_t hs rfl) ?_
 exact ⟨rfl, (hs.weak hle).cw⟩
/-! casement/match.holds -/
def match_holds_k1 : Option Bool :=
  some false
def match_holds_k2 : Option Bool :=
  match_holds_k1
def match_holds_l3 (n : Nat) (p2 : sheet_Test) (x20 : (List ByteArray)) : Nat → Int → Option Bool
  | 0, _ => none
  | k30 + 1, y29 =>
  (bif (decide (y29 < (x20.length : Int))) then (geti x20 y29).bind fun x32 =>
  (match_small n x32).bind fun x39 =>
  (bif (decide (x39 = p2.Name)) then some true else
  (match_holds_l3 n p2 x20 k30) (w64 (y29 + 1))) else
  match_holds_k2)
def match_holds (n : Nat) (p0 : api_Tree) (p1 : Int) (p2 : sheet_Test) : Option Bool :=
  (bif (decide (p2.Kind = 1)) then (dom_Attr n p0 p1 (bs [105, 100])).bind fun x11 =>
  some (x11.2 && (decide (x11.1 = p2.Name))) else
  (bif (decide (p2.Kind = 2)) then (dom_Attr n p0 p1 (bs [99, 108, 97, 115, 115])).bind fun x18 =>
  (strings_FieldsFunc n x18.1 (fun z0 => match_holds_1 n z0)).bind fun x20 =>
  match_holds_l3 n p2 x20 n 0 else
  (bif (decide (p2.Kind = 3)) then (dom_Attr n p0 p1 p2.Name).bind fun x43 =>
  some x43.2 else
  (bif (decide (p2.Kind = 4)) then (dom_Attr n p0 p1 p2.Name).bind fun x46 =>
  some (x46.2 && (decide (x46.1 = p2.Value))) else
  (bif (decide (p2.Kind = 5)) then (dom_Index n p0 p1).bind fun x50 =>
  some (decide (x50 = 1)) else
  (bif (decide (p2.Kind = 6)) then (match_beside n p0 p1 false).bind fun x53 =>
  some (!x53.2) else
  (bif (decide (p2.Kind = 7)) then (dom_Index n p0 p1).bind fun x56 =>
  some (decide (x56 = p2.N)) else
  match_holds_k1)))))))
set_option maxRecDepth 20000 in
set_option maxHeartbeats 4000000 in
theorem match_holds_ok (n : Nat) {f : Fz} {o0 : Obj} {o1 : Obj} {p0 : api_Tree} {a0 : List Value} {p1 : Int} {p2 : sheet_Test} {a2 : List Value} {res : Bool} (hT0 : f 0 = some o0) (hT1 : f 1 = some o1) (hTT : Tabs o0 o1) (h0 : t_api_Tree.R f a0 p0) (h2 : t_sheet_Test.R f a2 p2) (hm : match_holds n p0 p1 p2 = some res) : Gives Tryd.prog 40 [.agg a0.toArray, .int .i64 p1, .agg a2.toArray] f (.bool res) := by
 unfold match_holds at hm
 intro w0 L w hC
 obtain ⟨v1, rfl, ⟨rw2, hR3, hW4⟩⟩ := h0
 obtain rfl : _ = ([.int .i64 (p2.Kind), .string (p2.Name), .string (p2.Value), .int .i64 (p2.N)] : List Value) := h2
 refine enter Tryd.func40 rfl Tryd.ntmps40 (by simp) hC fun a hs => ?_
 have hle := Fz.le.refl f
 refine W_seq fun K1 hK1 => ?_
 refine W_region ?_
 refine sbox hs rfl ?_; clear hs; intro b6 a w hs
 refine sbox hs rfl ?_; clear hs; intro b8 a w hs
 refine sy (v := .bool (false)) hs (y_assign rfl) ?_; clear hs; intro a w hs
 refine RL_nil ?_
 refine hK1 _ _ ?_; clear hK1
 refine W_seq fun K2 hK2 => ?_
 refine W_seq fun K3 hK3 => ?_
 refine W_region ?_
 refine sy (v := .pointer (some ⟨b8, 0, none⟩)) hs (y_fieldAddr rfl (FO.of (off := 0) Tryd.underlying29 rfl rfl ti3 (by decide))) ?_; clear hs; intro a w hs
 refine sy (v := .int .i64 (p2.Kind)) hs (y_ld rfl Tryd.underlying3 rfl (Cell.blk (.head _) rfl)) ?_; clear hs; intro a w hs
 refine RL_nil ?_
 refine hK3 _ _ ?_; clear hK3
 refine W_block fun Qe4 hB4 hO4 => ?_
 refine W_seq fun K5 hK5 => ?_
 refine W_region ?_
 refine sy hs (y_eql rfl rfl) ?_; clear hs; intro a w hs
 refine sy (v := .bool (decide (p2.Kind = 1))) hs (y_assign rfl) ?_; clear hs; intro a w hs
 refine RL_nil ?_
 refine hK5 _ _ ?_; clear hK5
 refine W_cond hs rfl (fun hg10 => ?_) (fun hg10 => ?_)
 ·replace hm := oc_t hg10 hm
  refine W_seq fun K6 hK6 => ?_
  refine W_region ?_
  refine sy hs (y_ldB rfl Tryd.underlying24 rfl ti24 (.tail _ (.head _)) rfl) ?_; clear hs; intro a w hs
  refine sy (v := .int .i64 (p1)) hs (y_move rfl) ?_; clear hs; intro a w hs
  obtain ⟨x11, hx12, hm⟩ := ob hm
  refine sy hs (y_call rfl has44 rfl (dom_Attr_ok n (f := f) (a0 := [v1]) ⟨_, rfl, ⟨rw2, hR3, hW4⟩⟩ hx12)) ?_; clear hs; intro a w hs
  refine sy (v := .tuple #[.string (x11.1), .bool (x11.2)]) hs (y_move rfl) ?_; clear hs; intro a w hs
  refine sy (v := .string (x11.1)) hs (y_extract rfl rfl) ?_; clear hs; intro a w hs
  refine sy (v := .bool (x11.2)) hs (y_extract rfl rfl) ?_; clear hs; intro a w hs
  refine sy (v := .string (x11.1)) hs (y_assign rfl) ?_; clear hs; intro a w hs
  refine sy (v := .bool (x11.2)) hs (y_assign rfl) ?_; clear hs; intro a w hs
  refine RL_nil ?_
  refine hK6 _ _ ?_; clear hK6
  refine W_seq fun K7 hK7 => ?_
  refine W_post (fun a w => St 109 w0 f (.blk b8 (.cells #[.int .i64 (p2.Kind), .string (p2.Name), .string (p2.Value), .int .i64 (p2.N)] 29 (0, 0)) :: .blk b6 (.cells #[v1] 24 (0, 0)) :: L) [(6, .bool ((x11.2 && (decide (x11.1 = p2.Name)))))] a w) ?_ ?_
  ·clear hs; intro a w hs
   refine hK7 _ _ ?_; clear hK7
   refine W_ret ?_
   obtain rfl := Option.some.inj hm
   refine RtV1 hs rfl (rv_t hs rfl) ?_
   exact ⟨rfl, ((hs.subL (.cons _ (.cons _ (.refl _)))).weak hle).cw⟩
  ·refine W_region ?_
   refine sy (v := .bool (x11.2)) hs (y_move rfl) ?_; clear hs; intro a w hs
   refine sy (v := .bool (x11.2)) hs (y_move rfl) ?_; clear hs; intro a w hs
   refine St.split hs (t := 30) rfl (fun hg13 hq => ?_) (fun hg13 hq => ?_)
   ·clear hs; have hs := hq; clear hq
    refine syg (v := .string (x11.1)) hs (y_move rfl) ?_; clear hs; intro a w hs
    refine syg (v := .pointer (some ⟨b8, 1, none⟩)) hs (y_fieldAddr rfl (FO.of (off := 1) Tryd.underlying29 rfl rfl ti9 (by decide))) ?_; clear hs; intro a w hs
    refine syg (v := .string (p2.Name)) hs (y_ld rfl Tryd.underlying9 rfl (Cell.blk (.head _) rfl)) ?_; clear hs; intro a w hs
    refine syg hs (y_seql rfl rfl) ?_; clear hs; intro a w hs
    refine sy (v := .bool (decide (x11.1 = p2.Name))) hs (y_pick rfl rfl) ?_; clear hs; intro a w hs
    refine sy (v := .bool (decide (x11.1 = p2.Name))) hs (y_assign rfl) ?_; clear hs; intro a w hs
    refine RL_nil ?_
    exact hs.sub ⟨(lkB (((and_t hg13).trans rfl)) rfl), trivial⟩
   ·clear hs; have hs := hq; clear hq
    refine sno hs ?_; clear hs; intro a w hs
    refine sno hs ?_; clear hs; intro a w hs
    refine sno hs ?_; clear hs; intro a w hs
    refine sno hs ?_; clear hs; intro a w hs
    refine sy (v := .bool (false)) hs (y_pick rfl rfl) ?_; clear hs; intro a w hs
    refine sy (v := .bool (false)) hs (y_assign rfl) ?_; clear hs; intro a w hs
    refine RL_nil ?_
    exact hs.sub ⟨(lkB (((and_f hg13).trans rfl)) rfl), trivial⟩
 ·replace hm := oc_f hg10 hm
  refine W_seq fun K8 hK8 => ?_
  refine W_region ?_
  refine sy hs (y_eql rfl rfl) ?_; clear hs; intro a w hs
  refine sy (v := .bool (decide (p2.Kind = 2))) hs (y_assign rfl) ?_; clear hs; intro a w hs
  refine RL_nil ?_
  refine hK8 _ _ ?_; clear hK8
  have hbase16 := Fz.le.refl f
  refine W_post (fun a w => ∃ (f14 : Fz), Fz.le f f14 ∧ match_holds_k1 = some res ∧ St 109 w0 f14 (L) [] a w) ?_ ?_
  ·clear hs hm
   clear hbase16
   rintro a w ⟨f14, hl15, hm, hs⟩
   replace hR3 := hR3.le hl15
   replace hW4 := hW4.le hl15
   replace hT0 := hl15 _ _ hT0
   replace hT1 := hl15 _ _ hT1
   replace hle := hle.trans hl15
   unfold match_holds_k1 at hm
   refine hK2 _ _ ?_; clear hK2
   refine W_seq fun K9 hK9 => ?_
   refine W_region ?_
   refine sy (v := .bool (false)) hs (y_assign rfl) ?_; clear hs; intro a w hs
   refine RL_nil ?_
   refine hK9 _ _ ?_; clear hK9
   refine W_ret ?_
   obtain rfl := Option.some.inj hm
   refine RtV1 hs rfl (rv_t hs rfl) ?_
   exact ⟨rfl, (hs.weak hle).cw⟩
  ·refine W_cond hs rfl (fun hg17 => ?_) (fun hg17 => ?_)
   ·replace hm := oc_t hg17 hm
    refine W_seq fun K10 hK10 => ?_
    refine W_region ?_
    refine sy hs (y_ldB rfl Tryd.underlying24 rfl ti24 (.tail _ (.head _)) rfl) ?_; clear hs; intro a w hs
    refine sy (v := .int .i64 (p1)) hs (y_move rfl) ?_; clear hs; intro a w hs
    obtain ⟨x18, hx19, hm⟩ := ob hm
    refine sy hs (y_call rfl has44 rfl (dom_Attr_ok n (f := f) (a0 := [v1]) ⟨_, rfl, ⟨rw2, hR3, hW4⟩⟩ hx19)) ?_; clear hs; intro a w hs
    refine sy (v := .tuple #[.string (x18.1), .bool (x18.2)]) hs (y_move rfl) ?_; clear hs; intro a w hs
    refine sy (v := .string (x18.1)) hs (y_extract rfl rfl) ?_; clear hs; intro a w hs
    refine sy (v := .bool (x18.2)) hs (y_extract rfl rfl) ?_; clear hs; intro a w hs
    refine sy (v := .string (x18.1)) hs (y_assign rfl) ?_; clear hs; intro a w hs
    refine sy (v := .bool (x18.2)) hs (y_assign rfl) ?_; clear hs; intro a w hs
    refine RL_nil ?_
    refine hK10 _ _ ?_; clear hK10
    refine W_seq fun K11 hK11 => ?_
    refine W_region ?_
    refine sy (v := .string (x18.1)) hs (y_move rfl) ?_; clear hs; intro a w hs
    obtain ⟨x20, hx21, hm⟩ := ob hm
    refine RL_callV hs rfl has45 rfl (strings_FieldsFunc_ok n (f := f) (g1 := 46) (cap1 := []) has46 (fun f9 hle9 z0 r9  h9 => match_holds_1_ok n (f := f9)   h9) fields_tot hx21) ?_; clear hs
    rintro v24 f22 _ a w hf23 ⟨_, rfl, rfl, ⟨rw25, hR26, hW27⟩⟩ hs
    replace hR3 := hR3.le hf23
    replace hW4 := hW4.le hf23
    replace hT0 := hf23 _ _ hT0
    replace hT1 := hf23 _ _ hT1
    replace hle := hle.trans hf23
    replace hbase16 := hbase16.trans hf23
    refine sy hs (y_lenW hR26 hW27 rfl Tryd.underlying105) ?_; clear hs; intro a w hs
    refine sy (v := .int .i64 (0)) hs (y_move rfl) ?_; clear hs; intro a w hs
    refine RL_nil ?_
    refine hK11 _ _ ?_; clear hK11
    refine W_post (fun a w => match_holds_k2 = some res ∧ St 109 w0 f22 (L) [] a w) ?_ ?_
    ·clear hs hm
     rintro a w ⟨hm, hs⟩
     unfold match_holds_k2 at hm
     exact ⟨_, hbase16, hm, hs.sub trivial⟩
    ·refine W_block fun Qe12 hB12 hO12 => ?_
     refine W_loop (fun (k : Nat) a w => ∃ (y29 : Int), match_holds_l3 n p2 x20 k y29 = some res ∧ St 109 w0 f22 (.blk b8 (.cells #[.int .i64 (p2.Kind), .string (p2.Name), .string (p2.Value), .int .i64 (p2.N)] 29 (0, 0)) :: L) [(5, .pointer (some ⟨b8, 0, none⟩)), (45, v24), (46, .int .i64 ((x20.length : Int))), (47, .int .i64 (y29))] a w) (fun k => k) n ⟨0, hm, hs.subs ⟨rfl, rfl, rfl, rfl, trivial⟩ (.cons_cons _ (.cons _ (.refl _)))⟩ ?_
     clear hs hm
     intro k
     rintro a w ⟨y29, hm, hs⟩
     intro K13 hK13
     cases k with
     | zero => simp [match_holds_l3] at hm
     | succ k30 =>
      rw [match_holds_l3] at hm
      refine W_seq fun K14 hK14 => ?_
      refine W_region ?_
      refine sy hs (y_lss rfl rfl) ?_; clear hs; intro a w hs
      refine RL_nil ?_
      refine hK14 _ _ ?_; clear hK14
      refine W_seq fun K15 hK15 => ?_
      refine W_cond hs rfl (fun hg31 => ?_) (fun hg31 => ?_)
      ·replace hm := oc_t hg31 hm
       refine W_skip ?_
       refine hK15 _ _ ?_; clear hK15
       refine W_seq fun K16 hK16 => ?_
       refine W_block fun Qe17 hB17 hO17 => ?_
       refine W_seq fun K18 hK18 => ?_
       refine W_region ?_
       obtain ⟨x32, hx33, hm⟩ := ob hm
       obtain ⟨r34, hr35, hq36, hi37, hb38⟩ := hW27.geti hx33
       obtain rfl : _ = ([.string (x32)] : List Value) := hq36
       refine sy hs (y_indexAddr hR26 rfl rfl hi37 hb38 Tryd.underlying105 ti9) ?_; clear hs; intro a w hs
       refine sy (v := .string (x32)) hs (y_loadE (i := y29.toNat) (j := 0) hR26.up rfl hr35 rfl Tryd.underlying9 rfl) ?_; clear hs; intro a w hs
       refine sy (v := .string (x32)) hs (y_assign rfl) ?_; clear hs; intro a w hs
       refine RL_nil ?_
       refine hK18 _ _ ?_; clear hK18
       refine W_seq fun K19 hK19 => ?_
       refine W_draw hs mixed (by kernel_rfl) ?_; intro a he
       refine qy (v := .string (x32)) he (y_move rfl) ?_; clear he; intro a he
       obtain ⟨x39, hx40, hm⟩ := ob hm
       refine qy he (y_call rfl has47 rfl (match_small_ok n (f := f22)  hT0 hT1 hTT hx40)) ?_; clear he; intro a he
       refine qy (v := .pointer (some ⟨b8, 1, none⟩)) he (y_fieldAddr rfl (FO.of (off := 1) Tryd.underlying29 rfl rfl ti9 (by decide))) ?_; clear he; intro a he
       refine qy (v := .string (p2.Name)) he (y_ld rfl Tryd.underlying9 rfl (Cell.blk (.head _) rfl)) ?_; clear he; intro a he
       refine qy he (y_seql rfl rfl) ?_; clear he; intro a he
       refine QL_nil he ?_; clear he; (try clear hs); intro a w hs
       refine hK19 _ _ ?_; clear hK19
       refine W_cond hs rfl (fun hg41 => ?_) (fun hg41 => ?_)
       ·replace hm := oc_t hg41 hm
        refine W_seq fun K20 hK20 => ?_
        refine W_region ?_
        refine sy (v := .bool (true)) hs (y_assign rfl) ?_; clear hs; intro a w hs
        refine RL_nil ?_
        refine hK20 _ _ ?_; clear hK20
        refine W_ret ?_
        obtain rfl := Option.some.inj hm
        refine RtV1 hs rfl (rv_t hs rfl) ?_
        exact ⟨rfl, ((hs.subL (.cons _ (.refl _))).weak hle).cw⟩
       ·replace hm := oc_f hg41 hm
        refine W_skip ?_
        refine hK16 _ _ ?_; clear hK16
        refine W_region ?_
        refine sy hs (y_add rfl rfl rfl) ?_; clear hs; intro a w hs
        refine sy (v := .int .i64 ((w64 (y29 + 1)))) hs (y_move rfl) ?_; clear hs; intro a w hs
        refine RL_nil ?_
        exact hK13 k30 _ _ (Nat.lt_succ_self _) ⟨(w64 (y29 + 1)), hm, hs.sub ⟨rfl, rfl, rfl, rfl, trivial⟩⟩
      ·replace hm := oc_f hg31 hm
       refine W_exit ?_
       refine hB12 _ _ ?_
       exact ⟨hm, hs.subs trivial (.cons _ (.refl _))⟩
   ·replace hm := oc_f hg17 hm
    refine W_seq fun K21 hK21 => ?_
    refine W_region ?_
    refine sy hs (y_eql rfl rfl) ?_; clear hs; intro a w hs
    refine sy (v := .bool (decide (p2.Kind = 3))) hs (y_assign rfl) ?_; clear hs; intro a w hs
    refine RL_nil ?_
    refine hK21 _ _ ?_; clear hK21
    refine W_cond hs rfl (fun hg42 => ?_) (fun hg42 => ?_)
    ·replace hm := oc_t hg42 hm
     refine W_seq fun K22 hK22 => ?_
     refine W_region ?_
     refine sy hs (y_ldB rfl Tryd.underlying24 rfl ti24 (.tail _ (.head _)) rfl) ?_; clear hs; intro a w hs
     refine sy (v := .int .i64 (p1)) hs (y_move rfl) ?_; clear hs; intro a w hs
     refine sy (v := .pointer (some ⟨b8, 1, none⟩)) hs (y_fieldAddr rfl (FO.of (off := 1) Tryd.underlying29 rfl rfl ti9 (by decide))) ?_; clear hs; intro a w hs
     refine sy (v := .string (p2.Name)) hs (y_ld rfl Tryd.underlying9 rfl (Cell.blk (.head _) rfl)) ?_; clear hs; intro a w hs
     obtain ⟨x43, hx44, hm⟩ := ob hm
     refine sy hs (y_call rfl has44 rfl (dom_Attr_ok n (f := f) (a0 := [v1]) ⟨_, rfl, ⟨rw2, hR3, hW4⟩⟩ hx44)) ?_; clear hs; intro a w hs
     refine sy (v := .tuple #[.string (x43.1), .bool (x43.2)]) hs (y_move rfl) ?_; clear hs; intro a w hs
     refine sy (v := .string (x43.1)) hs (y_extract rfl rfl) ?_; clear hs; intro a w hs
     refine sy (v := .bool (x43.2)) hs (y_extract rfl rfl) ?_; clear hs; intro a w hs
     refine sy (v := .string (x43.1)) hs (y_assign rfl) ?_; clear hs; intro a w hs
     refine sy (v := .bool (x43.2)) hs (y_assign rfl) ?_; clear hs; intro a w hs
     refine RL_nil ?_
     refine hK22 _ _ ?_; clear hK22
     refine W_seq fun K23 hK23 => ?_
     refine W_region ?_
     refine sy (v := .bool (x43.2)) hs (y_move rfl) ?_; clear hs; intro a w hs
     refine sy (v := .bool (x43.2)) hs (y_assign rfl) ?_; clear hs; intro a w hs
     refine RL_nil ?_
     refine hK23 _ _ ?_; clear hK23
     refine W_ret ?_
     obtain rfl := Option.some.inj hm
     refine RtV1 hs rfl (rv_t hs rfl) ?_
     exact ⟨rfl, ((hs.subL (.cons _ (.cons _ (.refl _)))).weak hle).cw⟩
    ·replace hm := oc_f hg42 hm
     refine W_seq fun K24 hK24 => ?_
     refine W_region ?_
     refine sy hs (y_eql rfl rfl) ?_; clear hs; intro a w hs
     refine sy (v := .bool (decide (p2.Kind = 4))) hs (y_assign rfl) ?_; clear hs; intro a w hs
     refine RL_nil ?_
     refine hK24 _ _ ?_; clear hK24
     refine W_cond hs rfl (fun hg45 => ?_) (fun hg45 => ?_)
     ·replace hm := oc_t hg45 hm
      refine W_seq fun K25 hK25 => ?_
      refine W_region ?_
      refine sy hs (y_ldB rfl Tryd.underlying24 rfl ti24 (.tail _ (.head _)) rfl) ?_; clear hs; intro a w hs
      refine sy (v := .int .i64 (p1)) hs (y_move rfl) ?_; clear hs; intro a w hs
      refine sy (v := .pointer (some ⟨b8, 1, none⟩)) hs (y_fieldAddr rfl (FO.of (off := 1) Tryd.underlying29 rfl rfl ti9 (by decide))) ?_; clear hs; intro a w hs
      refine sy (v := .string (p2.Name)) hs (y_ld rfl Tryd.underlying9 rfl (Cell.blk (.head _) rfl)) ?_; clear hs; intro a w hs
      obtain ⟨x46, hx47, hm⟩ := ob hm
      refine sy hs (y_call rfl has44 rfl (dom_Attr_ok n (f := f) (a0 := [v1]) ⟨_, rfl, ⟨rw2, hR3, hW4⟩⟩ hx47)) ?_; clear hs; intro a w hs
      refine sy (v := .tuple #[.string (x46.1), .bool (x46.2)]) hs (y_move rfl) ?_; clear hs; intro a w hs
      refine sy (v := .string (x46.1)) hs (y_extract rfl rfl) ?_; clear hs; intro a w hs
      refine sy (v := .bool (x46.2)) hs (y_extract rfl rfl) ?_; clear hs; intro a w hs
      refine sy (v := .string (x46.1)) hs (y_assign rfl) ?_; clear hs; intro a w hs
      refine sy (v := .bool (x46.2)) hs (y_assign rfl) ?_; clear hs; intro a w hs
      refine RL_nil ?_
      refine hK25 _ _ ?_; clear hK25
      refine W_seq fun K26 hK26 => ?_
      refine W_post (fun a w => St 109 w0 f (.blk b8 (.cells #[.int .i64 (p2.Kind), .string (p2.Name), .string (p2.Value), .int .i64 (p2.N)] 29 (0, 0)) :: .blk b6 (.cells #[v1] 24 (0, 0)) :: L) [(6, .bool ((x46.2 && (decide (x46.1 = p2.Value)))))] a w) ?_ ?_
      ·clear hs; intro a w hs
       refine hK26 _ _ ?_; clear hK26
       refine W_ret ?_
       obtain rfl := Option.some.inj hm
       refine RtV1 hs rfl (rv_t hs rfl) ?_
       exact ⟨rfl, ((hs.subL (.cons _ (.cons _ (.refl _)))).weak hle).cw⟩
      ·refine W_region ?_
       refine sy (v := .bool (x46.2)) hs (y_move rfl) ?_; clear hs; intro a w hs
       refine sy (v := .bool (x46.2)) hs (y_move rfl) ?_; clear hs; intro a w hs
       refine St.split hs (t := 79) rfl (fun hg48 hq => ?_) (fun hg48 hq => ?_)
       ·clear hs; have hs := hq; clear hq
        refine syg (v := .string (x46.1)) hs (y_move rfl) ?_; clear hs; intro a w hs
        refine syg (v := .pointer (some ⟨b8, 2, none⟩)) hs (y_fieldAddr rfl (FO.of (off := 2) Tryd.underlying29 rfl rfl ti9 (by decide))) ?_; clear hs; intro a w hs
        refine syg (v := .string (p2.Value)) hs (y_ld rfl Tryd.underlying9 rfl (Cell.blk (.head _) rfl)) ?_; clear hs; intro a w hs
        refine syg hs (y_seql rfl rfl) ?_; clear hs; intro a w hs
        refine sy (v := .bool (decide (x46.1 = p2.Value))) hs (y_pick rfl rfl) ?_; clear hs; intro a w hs
        refine sy (v := .bool (decide (x46.1 = p2.Value))) hs (y_assign rfl) ?_; clear hs; intro a w hs
        refine RL_nil ?_
        exact hs.sub ⟨(lkB (((and_t hg48).trans rfl)) rfl), trivial⟩
       ·clear hs; have hs := hq; clear hq
        refine sno hs ?_; clear hs; intro a w hs
        refine sno hs ?_; clear hs; intro a w hs
        refine sno hs ?_; clear hs; intro a w hs
        refine sno hs ?_; clear hs; intro a w hs
        refine sy (v := .bool (false)) hs (y_pick rfl rfl) ?_; clear hs; intro a w hs
        refine sy (v := .bool (false)) hs (y_assign rfl) ?_; clear hs; intro a w hs
        refine RL_nil ?_
        exact hs.sub ⟨(lkB (((and_f hg48).trans rfl)) rfl), trivial⟩
     ·replace hm := oc_f hg45 hm
      refine W_seq fun K27 hK27 => ?_
      refine W_region ?_
      refine sy hs (y_eql rfl rfl) ?_; clear hs; intro a w hs
      refine sy (v := .bool (decide (p2.Kind = 5))) hs (y_assign rfl) ?_; clear hs; intro a w hs
      refine RL_nil ?_
      refine hK27 _ _ ?_; clear hK27
      refine W_cond hs rfl (fun hg49 => ?_) (fun hg49 => ?_)
      ·replace hm := oc_t hg49 hm
       refine W_seq fun K28 hK28 => ?_
       refine W_region ?_
       refine sy hs (y_ldB rfl Tryd.underlying24 rfl ti24 (.tail _ (.head _)) rfl) ?_; clear hs; intro a w hs
       refine sy (v := .int .i64 (p1)) hs (y_move rfl) ?_; clear hs; intro a w hs
       obtain ⟨x50, hx51, hm⟩ := ob hm
       refine sy hs (y_call rfl has48 rfl (dom_Index_ok n (f := f) (a0 := [v1]) ⟨_, rfl, ⟨rw2, hR3, hW4⟩⟩ hx51)) ?_; clear hs; intro a w hs
       refine sy hs (y_eql rfl rfl) ?_; clear hs; intro a w hs
       refine sy (v := .bool (decide (x50 = 1))) hs (y_assign rfl) ?_; clear hs; intro a w hs
       refine RL_nil ?_
       refine hK28 _ _ ?_; clear hK28
       refine W_ret ?_
       obtain rfl := Option.some.inj hm
       refine RtV1 hs rfl (rv_t hs rfl) ?_
       exact ⟨rfl, ((hs.subL (.cons _ (.cons _ (.refl _)))).weak hle).cw⟩
      ·replace hm := oc_f hg49 hm
       refine W_seq fun K29 hK29 => ?_
       refine W_region ?_
       refine sy hs (y_eql rfl rfl) ?_; clear hs; intro a w hs
       refine sy (v := .bool (decide (p2.Kind = 6))) hs (y_assign rfl) ?_; clear hs; intro a w hs
       refine RL_nil ?_
       refine hK29 _ _ ?_; clear hK29
       refine W_cond hs rfl (fun hg52 => ?_) (fun hg52 => ?_)
       ·replace hm := oc_t hg52 hm
        refine W_seq fun K30 hK30 => ?_
        refine W_region ?_
        refine sy hs (y_ldB rfl Tryd.underlying24 rfl ti24 (.tail _ (.head _)) rfl) ?_; clear hs; intro a w hs
        refine sy (v := .int .i64 (p1)) hs (y_move rfl) ?_; clear hs; intro a w hs
        obtain ⟨x53, hx54, hm⟩ := ob hm
        refine sy hs (y_call rfl has31 rfl (match_beside_ok n (f := f) (a0 := [v1]) ⟨_, rfl, ⟨rw2, hR3, hW4⟩⟩ hx54)) ?_; clear hs; intro a w hs
        refine sy (v := .tuple #[.int .i64 (x53.1), .bool (x53.2)]) hs (y_move rfl) ?_; clear hs; intro a w hs
        refine sy (v := .int .i64 (x53.1)) hs (y_extract rfl rfl) ?_; clear hs; intro a w hs
        refine sy (v := .bool (x53.2)) hs (y_extract rfl rfl) ?_; clear hs; intro a w hs
        refine sy (v := .int .i64 (x53.1)) hs (y_assign rfl) ?_; clear hs; intro a w hs
        refine sy (v := .bool (x53.2)) hs (y_assign rfl) ?_; clear hs; intro a w hs
        refine RL_nil ?_
        refine hK30 _ _ ?_; clear hK30
        refine W_seq fun K31 hK31 => ?_
        refine W_region ?_
        refine sy (v := .bool (x53.2)) hs (y_move rfl) ?_; clear hs; intro a w hs
        refine sy (v := .bool ((!x53.2))) hs (y_not rfl) ?_; clear hs; intro a w hs
        refine sy (v := .bool ((!x53.2))) hs (y_assign rfl) ?_; clear hs; intro a w hs
        refine RL_nil ?_
        refine hK31 _ _ ?_; clear hK31
        refine W_ret ?_
        obtain rfl := Option.some.inj hm
        refine RtV1 hs rfl (rv_t hs rfl) ?_
        exact ⟨rfl, ((hs.subL (.cons _ (.cons _ (.refl _)))).weak hle).cw⟩
       ·replace hm := oc_f hg52 hm
        refine W_seq fun K32 hK32 => ?_
        refine W_region ?_
        refine sy hs (y_eql rfl rfl) ?_; clear hs; intro a w hs
        refine sy (v := .bool (decide (p2.Kind = 7))) hs (y_assign rfl) ?_; clear hs; intro a w hs
        refine RL_nil ?_
        refine hK32 _ _ ?_; clear hK32
        refine W_cond hs rfl (fun hg55 => ?_) (fun hg55 => ?_)
        ·replace hm := oc_t hg55 hm
         refine W_seq fun K33 hK33 => ?_
         refine W_draw hs mixed (by kernel_rfl) ?_; intro a he
         refine qy he (y_ldB rfl Tryd.underlying24 rfl ti24 (.tail _ (.head _)) rfl) ?_; clear he; intro a he
         refine qy (v := .int .i64 (p1)) he (y_move rfl) ?_; clear he; intro a he
         obtain ⟨x56, hx57, hm⟩ := ob hm
         refine qy he (y_call rfl has48 rfl (dom_Index_ok n (f := f) (a0 := [v1]) ⟨_, rfl, ⟨rw2, hR3, hW4⟩⟩ hx57)) ?_; clear he; intro a he
         refine qy (v := .pointer (some ⟨b8, 3, none⟩)) he (y_fieldAddr rfl (FO.of (off := 3) Tryd.underlying29 rfl rfl ti3 (by decide))) ?_; clear he; intro a he
         refine qy (v := .int .i64 (p2.N)) he (y_ld rfl Tryd.underlying3 rfl (Cell.blk (.head _) rfl)) ?_; clear he; intro a he
         refine qy he (y_eql rfl rfl) ?_; clear he; intro a he
         refine qy (v := .bool (decide (x56 = p2.N))) he (y_assign rfl) ?_; clear he; intro a he
         refine QL_nil he ?_; clear he; (try clear hs); intro a w hs
         refine hK33 _ _ ?_; clear hK33
         refine W_ret ?_
         obtain rfl := Option.some.inj hm
         refine RtV1 hs rfl (rv_t hs rfl) ?_
         exact ⟨rfl, ((hs.subL (.cons _ (.cons _ (.refl _)))).weak hle).cw⟩
        ·replace hm := oc_f hg55 hm
         refine W_skip ?_
         exact ⟨_, (Fz.le.refl _), hm, hs.subs trivial (.cons _ (.cons _ (.refl _)))⟩
/-! casement/match.means -/
def match_means_k2 : Option Bool :=
  some true
def match_means_l3 (n : Nat) (p0 : api_Tree) (p1 : Int) (p2 : sheet_Step) : Nat → Int → Option Bool
  | 0, _ => none
  | k18 + 1, y17 =>
  (bif (decide (y17 < (p2.Tests.length : Int))) then (geti p2.Tests y17).bind fun x20 =>
  (match_holds n p0 p1 x20).bind fun x29 =>
  (bif (!x29) then some false else
  (match_means_l3 n p0 p1 p2 k18) (w64 (y17 + 1))) else
  match_means_k2)
def match_means_k1 (n : Nat) (p0 : api_Tree) (p1 : Int) (p2 : sheet_Step) (y15 : Bool) : Option Bool :=
  (bif y15 then some false else
  match_means_l3 n p0 p1 p2 n 0)
def match_means (n : Nat) (p0 : api_Tree) (p1 : Int) (p2 : sheet_Step) : Option Bool :=
  (bif (decide (p2.Name ≠ (bs []))) then (geti p0.Nodes p1).bind fun x33 =>
  match_means_k1 n p0 p1 p2 (decide (p2.Name ≠ x33.Name)) else
  match_means_k1 n p0 p1 p2 false)
set_option maxRecDepth 20000 in
set_option maxHeartbeats 4000000 in
theorem match_means_ok (n : Nat) {f : Fz} {o0 : Obj} {o1 : Obj} {p0 : api_Tree} {a0 : List Value} {p1 : Int} {p2 : sheet_Step} {a2 : List Value} {res : Bool} (hT0 : f 0 = some o0) (hT1 : f 1 = some o1) (hTT : Tabs o0 o1) (h0 : t_api_Tree.R f a0 p0) (h2 : t_sheet_Step.R f a2 p2) (hm : match_means n p0 p1 p2 = some res) : Gives Tryd.prog 33 [.agg a0.toArray, .int .i64 p1, .agg a2.toArray] f (.bool res) := by
 unfold match_means at hm
 intro w0 L w hC
 obtain ⟨v1, rfl, ⟨rw2, hR3, hW4⟩⟩ := h0
 obtain ⟨v6, rfl, ⟨rw7, hR8, hW9⟩⟩ := h2
 refine enter Tryd.func33 rfl Tryd.ntmps33 (by simp) hC fun a hs => ?_
 have hle := Fz.le.refl f
 refine W_seq fun K1 hK1 => ?_
 refine W_region ?_
 refine sbox hs rfl ?_; clear hs; intro b11 a w hs
 refine sbox hs rfl ?_; clear hs; intro b13 a w hs
 refine sy (v := .bool (false)) hs (y_assign rfl) ?_; clear hs; intro a w hs
 refine RL_nil ?_
 refine hK1 _ _ ?_; clear hK1
 refine W_seq fun K2 hK2 => ?_
 refine W_seq fun K3 hK3 => ?_
 refine W_post (fun a w => ∃ (y15 : Bool), match_means_k1 n p0 p1 p2 y15 = some res ∧ St 36 w0 f (.blk b13 (.cells #[.int .i64 (p2.Comb), .string (p2.Name), v6] 35 (0, 0)) :: .blk b11 (.cells #[v1] 24 (0, 0)) :: L) [(1, .int .i64 (p1)), (3, .pointer (some ⟨b11, 0, none⟩)), (5, .pointer (some ⟨b13, 0, none⟩)), (22, .bool (y15))] a w) ?_ ?_
 ·clear hs hm
  rintro a w ⟨y15, hm, hs⟩
  unfold match_means_k1 at hm
  refine hK3 _ _ ?_; clear hK3
  refine W_cond hs rfl (fun hg16 => ?_) (fun hg16 => ?_)
  ·replace hm := oc_t hg16 hm
   refine W_seq fun K4 hK4 => ?_
   refine W_region ?_
   refine sy (v := .bool (false)) hs (y_assign rfl) ?_; clear hs; intro a w hs
   refine RL_nil ?_
   refine hK4 _ _ ?_; clear hK4
   refine W_ret ?_
   obtain rfl := Option.some.inj hm
   refine RtV1 hs rfl (rv_t hs rfl) ?_
   exact ⟨rfl, ((hs.subL (.cons _ (.cons _ (.refl _)))).weak hle).cw⟩
  ·replace hm := oc_f hg16 hm
   refine W_skip ?_
   refine hK2 _ _ ?_; clear hK2
   refine W_seq fun K5 hK5 => ?_
   refine W_seq fun K6 hK6 => ?_
   refine W_region ?_
   refine sy (v := .pointer (some ⟨b13, 2, none⟩)) hs (y_fieldAddr rfl (FO.of (off := 2) Tryd.underlying35 rfl rfl ti33 (by decide))) ?_; clear hs; intro a w hs
   refine sy (v := v6) hs (y_ld rfl Tryd.underlying33 rfl (Cell.blk (.head _) rfl)) ?_; clear hs; intro a w hs
   refine sy hs (y_lenW hR8 hW9 rfl Tryd.underlying33) ?_; clear hs; intro a w hs
   refine sy (v := .int .i64 (0)) hs (y_move rfl) ?_; clear hs; intro a w hs
   refine RL_nil ?_
   refine hK6 _ _ ?_; clear hK6
   refine W_post (fun a w => match_means_k2 = some res ∧ St 36 w0 f (L) [] a w) ?_ ?_
   ·clear hs hm
    rintro a w ⟨hm, hs⟩
    unfold match_means_k2 at hm
    refine hK5 _ _ ?_; clear hK5
    refine W_seq fun K7 hK7 => ?_
    refine W_region ?_
    refine sy (v := .bool (true)) hs (y_assign rfl) ?_; clear hs; intro a w hs
    refine RL_nil ?_
    refine hK7 _ _ ?_; clear hK7
    refine W_ret ?_
    obtain rfl := Option.some.inj hm
    refine RtV1 hs rfl (rv_t hs rfl) ?_
    exact ⟨rfl, (hs.weak hle).cw⟩
   ·refine W_block fun Qe8 hB8 hO8 => ?_
    refine W_loop (fun (k : Nat) a w => ∃ (y17 : Int), match_means_l3 n p0 p1 p2 k y17 = some res ∧ St 36 w0 f (.blk b11 (.cells #[v1] 24 (0, 0)) :: L) [(1, .int .i64 (p1)), (3, .pointer (some ⟨b11, 0, none⟩)), (24, v6), (25, .int .i64 ((p2.Tests.length : Int))), (26, .int .i64 (y17))] a w) (fun k => k) n ⟨0, hm, hs.subs ⟨rfl, rfl, rfl, rfl, rfl, trivial⟩ (.cons _ (.cons_cons _ (.refl _)))⟩ ?_
    clear hs hm
    intro k
    rintro a w ⟨y17, hm, hs⟩
    intro K9 hK9
    cases k with
    | zero => simp [match_means_l3] at hm
    | succ k18 =>
     rw [match_means_l3] at hm
     refine W_seq fun K10 hK10 => ?_
     refine W_region ?_
     refine sy hs (y_lss rfl rfl) ?_; clear hs; intro a w hs
     refine RL_nil ?_
     refine hK10 _ _ ?_; clear hK10
     refine W_seq fun K11 hK11 => ?_
     refine W_cond hs rfl (fun hg19 => ?_) (fun hg19 => ?_)
     ·replace hm := oc_t hg19 hm
      refine W_skip ?_
      refine hK11 _ _ ?_; clear hK11
      refine W_seq fun K12 hK12 => ?_
      refine W_block fun Qe13 hB13 hO13 => ?_
      refine W_seq fun K14 hK14 => ?_
      refine W_region ?_
      obtain ⟨x20, hx21, hm⟩ := ob hm
      obtain ⟨r22, hr23, hq24, hi25, hb26⟩ := hW9.geti hx21
      obtain rfl : _ = ([.int .i64 (x20.Kind), .string (x20.Name), .string (x20.Value), .int .i64 (x20.N)] : List Value) := hq24
      refine sy hs (y_indexAddr hR8 rfl rfl hi25 hb26 Tryd.underlying33 ti29) ?_; clear hs; intro a w hs
      refine sy hs (y_loadRow hR8.up rfl hr23 Tryd.underlying29 rfl ti29) ?_; clear hs; intro a w hs
      refine RL_alloc hs ti29 (.free rfl) (by decide) ?_; clear hs; intro b27 a w hs
      refine RL_storeAll (i := 0) hs rfl rfl rfl ti29 ⟨rfl, rfl⟩ (AllC.arr (r := [.int .i64 (x20.Kind), .string (x20.Name), .string (x20.Value), .int .i64 (x20.N)]) ⟨rfl, rfl, rfl, rfl, trivial⟩) (.free rfl) ?_; clear hs; intro a w hs
      refine RL_nil ?_
      refine hK14 _ _ ?_; clear hK14
      refine W_seq fun K15 hK15 => ?_
      refine W_region ?_
      refine sy hs (y_ldB rfl Tryd.underlying24 rfl ti24 (.tail _ (.head _)) rfl) ?_; clear hs; intro a w hs
      refine sy (v := .int .i64 (p1)) hs (y_move rfl) ?_; clear hs; intro a w hs
      refine sy hs (y_ldB rfl Tryd.underlying29 rfl ti29 (.head _) rfl) ?_; clear hs; intro a w hs
      obtain ⟨x29, hx30, hm⟩ := ob hm
      refine sy hs (y_call rfl has40 rfl (match_holds_ok n (f := f) (a0 := [v1]) (a2 := [.int .i64 (x20.Kind), .string (x20.Name), .string (x20.Value), .int .i64 (x20.N)]) hT0 hT1 hTT ⟨_, rfl, ⟨rw2, hR3, hW4⟩⟩ rfl hx30)) ?_; clear hs; intro a w hs
      refine sy (v := .bool ((!x29))) hs (y_not rfl) ?_; clear hs; intro a w hs
      refine RL_nil ?_
      refine hK15 _ _ ?_; clear hK15
      refine W_cond hs rfl (fun hg31 => ?_) (fun hg31 => ?_)
      ·replace hm := oc_t hg31 hm
       refine W_seq fun K16 hK16 => ?_
       refine W_region ?_
       refine sy (v := .bool (false)) hs (y_assign rfl) ?_; clear hs; intro a w hs
       refine RL_nil ?_
       refine hK16 _ _ ?_; clear hK16
       refine W_ret ?_
       obtain rfl := Option.some.inj hm
       refine RtV1 hs rfl (rv_t hs rfl) ?_
       exact ⟨rfl, ((hs.subL (.cons _ (.cons _ (.refl _)))).weak hle).cw⟩
      ·replace hm := oc_f hg31 hm
       refine W_skip ?_
       refine hK12 _ _ ?_; clear hK12
       refine W_region ?_
       refine sy hs (y_add rfl rfl rfl) ?_; clear hs; intro a w hs
       refine sy (v := .int .i64 ((w64 (y17 + 1)))) hs (y_move rfl) ?_; clear hs; intro a w hs
       refine RL_nil ?_
       exact hK9 k18 _ _ (Nat.lt_succ_self _) ⟨(w64 (y17 + 1)), hm, hs.subs ⟨rfl, rfl, rfl, rfl, rfl, trivial⟩ (.cons _ (.cons_cons _ (.refl _)))⟩
     ·replace hm := oc_f hg19 hm
      refine W_exit ?_
      refine hB8 _ _ ?_
      exact ⟨hm, hs.subs trivial (.cons _ (.refl _))⟩
 ·refine W_draw hs mixed (by kernel_rfl) ?_; intro a he
  refine qy (v := .pointer (some ⟨b13, 1, none⟩)) he (y_fieldAddr rfl (FO.of (off := 1) Tryd.underlying35 rfl rfl ti9 (by decide))) ?_; clear he; intro a he
  refine qy (v := .string (p2.Name)) he (y_ld rfl Tryd.underlying9 rfl (Cell.blk (.head _) rfl)) ?_; clear he; intro a he
  refine qy he (y_sneq rfl rfl) ?_; clear he; intro a he
  refine qy (v := .bool (decide (p2.Name ≠ (bs [])))) he (y_move rfl) ?_; clear he; intro a he
  refine Ev.split he (t := 12) rfl (fun hg32 hq => ?_) (fun hg32 hq => ?_)
  ·clear he; have he := hq; clear hq
   replace hm := oc_t hg32 hm
   refine qyg (v := .pointer (some ⟨b13, 1, none⟩)) he (y_fieldAddr rfl (FO.of (off := 1) Tryd.underlying35 rfl rfl ti9 (by decide))) ?_; clear he; intro a he
   refine qyg (v := .string (p2.Name)) he (y_ld rfl Tryd.underlying9 rfl (Cell.blk (.head _) rfl)) ?_; clear he; intro a he
   refine qyg (v := .pointer (some ⟨b11, 0, none⟩)) he (y_fieldAddr rfl (FO.of (off := 0) Tryd.underlying24 rfl rfl ti22 (by decide))) ?_; clear he; intro a he
   refine qyg (v := v1) he (y_ld rfl Tryd.underlying22 rfl (Cell.blk (.tail _ (.head _)) rfl)) ?_; clear he; intro a he
   refine qyg (v := .int .i64 (p1)) he (y_move rfl) ?_; clear he; intro a he
   obtain ⟨x33, hx34, hm⟩ := ob hm
   obtain ⟨r35, hr36, hq37, hi38, hb39⟩ := hW4.geti hx34
   obtain ⟨v40, rfl, ⟨rw41, hR42, hW43⟩⟩ := hq37
   refine qyg he (y_indexAddr hR3 rfl rfl hi38 hb39 Tryd.underlying22 ti42) ?_; clear he; intro a he
   refine qyg (v := eaddr v1 9 p1.toNat 1) he (y_fieldAddrE (i := p1.toNat) (j := 0) hR3 rfl hb39 (FO.of (off := 1) Tryd.underlying42 rfl rfl ti9 (by decide))) ?_; clear he; intro a he
   refine qyg (v := .string (x33.Name)) he (y_loadE (i := p1.toNat) (j := 1) hR3.up rfl hr36 rfl Tryd.underlying9 rfl) ?_; clear he; intro a he
   refine qyg he (y_sneq rfl rfl) ?_; clear he; intro a he
   refine qy (v := .bool (decide (p2.Name ≠ x33.Name))) he (y_pick rfl rfl) ?_; clear he; intro a he
   refine QL_nil he ?_; clear he; (try clear hs); intro a w hs
   exact ⟨decide (p2.Name ≠ x33.Name), hm, hs.sub ⟨rfl, rfl, rfl, rfl, trivial⟩⟩
  ·clear he; have he := hq; clear hq
   replace hm := oc_f hg32 hm
   refine qno he ?_; clear he; intro a he
   refine qno he ?_; clear he; intro a he
   refine qno he ?_; clear he; intro a he
   refine qno he ?_; clear he; intro a he
   refine qno he ?_; clear he; intro a he
   refine qno he ?_; clear he; intro a he
   refine qno he ?_; clear he; intro a he
   refine qno he ?_; clear he; intro a he
   refine qno he ?_; clear he; intro a he
   refine qy (v := .bool (false)) he (y_pick rfl rfl) ?_; clear he; intro a he
   refine QL_nil he ?_; clear he; (try clear hs); intro a w hs
   exact ⟨false, hm, hs.sub ⟨rfl, rfl, rfl, rfl, trivial⟩⟩
end Go.Proofs.YtmkcglpeidbblaaDoor
