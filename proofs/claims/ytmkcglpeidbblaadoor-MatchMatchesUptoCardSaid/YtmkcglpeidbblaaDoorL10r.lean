/-
  Walks and laws of this seat; the base is the text Base.
-/
import Derived.Test.YtmkcglpeidbblaaDoorY10
import Derived.Test.YtmkcglpeidbblaaDoorRows
/-
  Models of functions, and that the functions compute them. Printed by lift.py.
-/
namespace Go.Proofs.YtmkcglpeidbblaaDoor
open Go.RowKit Go.Sl
/-! casement/casementref4.Blank -/
def ref4_Blank (_n : Nat) (p0 : Int) : Option Bool :=
  some ((decide (p0 = 9)) || ((decide (p0 = 10)) || ((decide (p0 = 12)) || (decide (p0 = 32)))))
set_option maxRecDepth 20000 in
set_option maxHeartbeats 4000000 in
theorem ref4_Blank_ok (n : Nat) {f : Fz} {p0 : Int} {res : Bool}  (hm : ref4_Blank n p0 = some res) : Gives Tryd.prog 56 [.int .i32 p0] f (.bool res) := by
 unfold ref4_Blank at hm
 intro w0 L w hC
 refine enter Tryd.func56 rfl Tryd.ntmps56 (by simp) hC fun a hs => ?_
 have hle := Fz.le.refl f
 refine W_seq fun K1 hK1 => ?_
 refine W_region ?_
 refine sy (v := .bool (false)) hs (y_assign rfl) ?_; clear hs; intro a w hs
 refine RL_nil ?_
 refine hK1 _ _ ?_; clear hK1
 refine W_seq fun K2 hK2 => ?_
 refine W_post (fun a w => St 17 w0 f (L) [(2, .bool (((decide (p0 = 9)) || ((decide (p0 = 10)) || ((decide (p0 = 12)) || (decide (p0 = 32)))))))] a w) ?_ ?_
 ·clear hs; intro a w hs
  refine hK2 _ _ ?_; clear hK2
  refine W_ret ?_
  obtain rfl := Option.some.inj hm
  refine RtV1 hs rfl (rv_t hs rfl) ?_
  exact ⟨rfl, (hs.weak hle).cw⟩
 ·refine W_region ?_
  refine sy (v := .int .i32 (p0)) hs (y_move rfl) ?_; clear hs; intro a w hs
  refine sy hs (y_eql rfl rfl) ?_; clear hs; intro a w hs
  refine sy (v := .bool (decide (p0 = 9))) hs (y_move rfl) ?_; clear hs; intro a w hs
  refine St.split hs (t := 5) rfl (fun hg1 hq => ?_) (fun hg1 hq => ?_)
  ·clear hs; have hs := hq; clear hq
   refine sno hs ?_; clear hs; intro a w hs
   refine sno hs ?_; clear hs; intro a w hs
   refine sy (v := .bool (true)) hs (y_pick rfl rfl) ?_; clear hs; intro a w hs
   refine sy (v := .bool (true)) hs (y_move rfl) ?_; clear hs; intro a w hs
   refine sno hs ?_; clear hs; intro a w hs
   refine sno hs ?_; clear hs; intro a w hs
   refine sy (v := .bool (true)) hs (y_pick rfl rfl) ?_; clear hs; intro a w hs
   refine sy (v := .bool (true)) hs (y_move rfl) ?_; clear hs; intro a w hs
   refine sno hs ?_; clear hs; intro a w hs
   refine sno hs ?_; clear hs; intro a w hs
   refine sy (v := .bool (true)) hs (y_pick rfl rfl) ?_; clear hs; intro a w hs
   refine sy (v := .bool (true)) hs (y_assign rfl) ?_; clear hs; intro a w hs
   refine RL_nil ?_
   exact hs.sub ⟨(lkB (((or_t hg1).trans rfl)) rfl), trivial⟩
  ·clear hs; have hs := hq; clear hq
   refine syg (v := .int .i32 (p0)) hs (y_move rfl) ?_; clear hs; intro a w hs
   refine syg hs (y_eql rfl rfl) ?_; clear hs; intro a w hs
   refine sy (v := .bool (decide (p0 = 10))) hs (y_pick rfl rfl) ?_; clear hs; intro a w hs
   refine sy (v := .bool (decide (p0 = 10))) hs (y_move rfl) ?_; clear hs; intro a w hs
   refine St.split hs (t := 9) rfl (fun hg2 hq => ?_) (fun hg2 hq => ?_)
   ·clear hs; have hs := hq; clear hq
    refine sno hs ?_; clear hs; intro a w hs
    refine sno hs ?_; clear hs; intro a w hs
    refine sy (v := .bool (true)) hs (y_pick rfl rfl) ?_; clear hs; intro a w hs
    refine sy (v := .bool (true)) hs (y_move rfl) ?_; clear hs; intro a w hs
    refine sno hs ?_; clear hs; intro a w hs
    refine sno hs ?_; clear hs; intro a w hs
    refine sy (v := .bool (true)) hs (y_pick rfl rfl) ?_; clear hs; intro a w hs
    refine sy (v := .bool (true)) hs (y_assign rfl) ?_; clear hs; intro a w hs
    refine RL_nil ?_
    exact hs.sub ⟨(lkB (((or_f hg1).trans ((or_t hg2).trans rfl))) rfl), trivial⟩
   ·clear hs; have hs := hq; clear hq
    refine syg (v := .int .i32 (p0)) hs (y_move rfl) ?_; clear hs; intro a w hs
    refine syg hs (y_eql rfl rfl) ?_; clear hs; intro a w hs
    refine sy (v := .bool (decide (p0 = 12))) hs (y_pick rfl rfl) ?_; clear hs; intro a w hs
    refine sy (v := .bool (decide (p0 = 12))) hs (y_move rfl) ?_; clear hs; intro a w hs
    refine St.split hs (t := 13) rfl (fun hg3 hq => ?_) (fun hg3 hq => ?_)
    ·clear hs; have hs := hq; clear hq
     refine sno hs ?_; clear hs; intro a w hs
     refine sno hs ?_; clear hs; intro a w hs
     refine sy (v := .bool (true)) hs (y_pick rfl rfl) ?_; clear hs; intro a w hs
     refine sy (v := .bool (true)) hs (y_assign rfl) ?_; clear hs; intro a w hs
     refine RL_nil ?_
     exact hs.sub ⟨(lkB (((or_f hg1).trans ((or_f hg2).trans ((or_t hg3).trans rfl)))) rfl), trivial⟩
    ·clear hs; have hs := hq; clear hq
     refine syg (v := .int .i32 (p0)) hs (y_move rfl) ?_; clear hs; intro a w hs
     refine syg hs (y_eql rfl rfl) ?_; clear hs; intro a w hs
     refine sy (v := .bool (decide (p0 = 32))) hs (y_pick rfl rfl) ?_; clear hs; intro a w hs
     refine sy (v := .bool (decide (p0 = 32))) hs (y_assign rfl) ?_; clear hs; intro a w hs
     refine RL_nil ?_
     exact hs.sub ⟨(lkB (((or_f hg1).trans ((or_f hg2).trans ((or_f hg3).trans rfl)))) rfl), trivial⟩
/-! casement/casementref4.Small -/
def ref4_Small_k1 (y7 : (List Int)) : Option ByteArray :=
  some (textOf y7)
def ref4_Small_k3 (y13 : (List Int)) (y18 : Int) (lp23 : (List Int) → Int → Option ByteArray) (y32 : Int) : Option ByteArray :=
  (appM 4 y13 [y32]).bind fun x38 =>
  lp23 x38 (w64 (y18 + 1))
def ref4_Small_l2 (p0 : (List Int)) : Nat → (List Int) → Int → Option ByteArray
  | 0, _, _ => none
  | k23 + 1, y13, y18 =>
  (bif (decide (y18 < (p0.length : Int))) then (geti p0 y18).bind fun x25 =>
  (bif ((decide (65 ≤ x25)) && (decide (x25 ≤ 90))) then ref4_Small_k3 y13 y18 (ref4_Small_l2 p0 k23) (IntKind.i32.wrap (x25 + 32)) else
  ref4_Small_k3 y13 y18 (ref4_Small_l2 p0 k23) x25) else
  ref4_Small_k1 y13)
def ref4_Small (n : Nat) (p0 : (List Int)) : Option ByteArray :=
  ref4_Small_l2 p0 n ([] : List Int) 0
set_option maxRecDepth 20000 in
set_option maxHeartbeats 4000000 in
theorem ref4_Small_ok (n : Nat) {f : Fz} {p0 : (List Int)} {a0 : Value} {res : ByteArray} (h0 : RS (tInt .i32) f a0 p0) (hm : ref4_Small n p0 = some res) : Gives Tryd.prog 57 [a0] f (.string res) := by
 unfold ref4_Small at hm
 intro w0 L w hC
 obtain ⟨rw1, hR2, hW3⟩ := h0
 refine enter Tryd.func57 rfl Tryd.ntmps57 (by simp) hC fun a hs => ?_
 have hle := Fz.le.refl f
 refine W_seq fun K1 hK1 => ?_
 refine W_region ?_
 refine sy (v := .string ((bs []))) hs (y_assign rfl) ?_; clear hs; intro a w hs
 refine RL_nil ?_
 refine hK1 _ _ ?_; clear hK1
 refine W_seq fun K2 hK2 => ?_
 refine W_region ?_
 refine sy (v := (.slice none 0 0)) hs (y_assign rfl) ?_; clear hs; intro a w hs
 refine RL_nil ?_
 refine hK2 _ _ ?_; clear hK2
 refine W_seq fun K3 hK3 => ?_
 refine W_seq fun K4 hK4 => ?_
 refine W_region ?_
 refine sy (v := .int .i64 (0)) hs (y_assign rfl) ?_; clear hs; intro a w hs
 refine RL_nil ?_
 refine hK4 _ _ ?_; clear hK4
 refine W_post (fun a w => ∃ (y7 : (List Int)) (v8 : Value) (rw9 : List (List Value)), ref4_Small_k1 y7 = some res ∧ RW (tInt .i32) f rw9 y7 ∧ St 30 w0 f (.row v8 21 1 rw9 :: L) [(3, v8)] a w) ?_ ?_
 ·clear hs hm
  rintro a w ⟨y7, v8, rw9, hm, hW10, hs⟩
  unfold ref4_Small_k1 at hm
  refine hK3 _ _ ?_; clear hK3
  refine W_seq fun K5 hK5 => ?_
  refine W_region ?_
  refine sy (v := v8) hs (y_move rfl) ?_; clear hs; intro a w hs
  refine sy (v := .string ((textOf y7))) hs (y_r2sW rfl Tryd.underlying98 Tryd.underlying21 Tryd.underlying9 (Rd.st hs (.head _)) hW10) ?_; clear hs; intro a w hs
  refine sy (v := .string ((textOf y7))) hs (y_assign rfl) ?_; clear hs; intro a w hs
  refine RL_nil ?_
  refine hK5 _ _ ?_; clear hK5
  refine W_ret ?_
  obtain rfl := Option.some.inj hm
  refine RtV1 hs rfl (rv_t hs rfl) ?_
  exact ⟨rfl, ((hs.subL (.cons _ (.refl _))).weak hle).cw⟩
 ·refine W_block fun Qe6 hB6 hO6 => ?_
  replace hs := hs.nilRow 21 1
  have hW19 : RW (tInt .i32) f [] ([] : List Int) := trivial
  generalize hgrw20 : ([] : List (List Value)) = rw20 at hs hW19; clear hgrw20
  refine W_loop (fun (k : Nat) a w => ∃ (y13 : (List Int)) (y18 : Int) (v14 : Value) (rw15 : List (List Value)), ref4_Small_l2 p0 k y13 y18 = some res ∧ RW (tInt .i32) f rw15 y13 ∧ St 30 w0 f (.row v14 21 1 rw15 :: L) [(0, a0), (3, v14), (4, .int .i64 (y18))] a w) (fun k => k) n ⟨([] : List Int), 0, (.slice none 0 0), rw20, hm, hW19, hs.sub ⟨rfl, rfl, rfl, trivial⟩⟩ ?_
  clear hs hm
  intro k
  rintro a w ⟨y13, y18, v14, rw15, hm, hW16, hs⟩
  intro K7 hK7
  cases k with
  | zero => simp [ref4_Small_l2] at hm
  | succ k23 =>
   rw [ref4_Small_l2] at hm
   refine W_seq fun K8 hK8 => ?_
   refine W_seq fun K9 hK9 => ?_
   refine W_region ?_
   refine sy (v := .int .i64 (y18)) hs (y_move rfl) ?_; clear hs; intro a w hs
   refine sy (v := a0) hs (y_move rfl) ?_; clear hs; intro a w hs
   refine sy hs (y_lenW hR2 hW3 rfl Tryd.underlying98) ?_; clear hs; intro a w hs
   refine sy hs (y_lss rfl rfl) ?_; clear hs; intro a w hs
   refine RL_nil ?_
   refine hK9 _ _ ?_; clear hK9
   refine W_cond hs rfl (fun hg24 => ?_) (fun hg24 => ?_)
   ·replace hm := oc_t hg24 hm
    refine W_skip ?_
    refine hK8 _ _ ?_; clear hK8
    refine W_seq fun K10 hK10 => ?_
    refine W_block fun Qe11 hB11 hO11 => ?_
    refine W_seq fun K12 hK12 => ?_
    refine W_region ?_
    refine sy (v := a0) hs (y_move rfl) ?_; clear hs; intro a w hs
    refine sy (v := .int .i64 (y18)) hs (y_move rfl) ?_; clear hs; intro a w hs
    obtain ⟨x25, hx26, hm⟩ := ob hm
    obtain ⟨r27, hr28, hq29, hi30, hb31⟩ := hW3.geti hx26
    obtain rfl : _ = ([.int .i32 (x25)] : List Value) := hq29
    refine sy hs (y_indexAddr hR2 rfl rfl hi30 hb31 Tryd.underlying98 ti21) ?_; clear hs; intro a w hs
    refine sy (v := .int .i32 (x25)) hs (y_loadE (i := y18.toNat) (j := 0) hR2.up rfl hr28 rfl Tryd.underlying21 rfl) ?_; clear hs; intro a w hs
    refine sy (v := .int .i32 (x25)) hs (y_assign rfl) ?_; clear hs; intro a w hs
    refine RL_nil ?_
    refine hK12 _ _ ?_; clear hK12
    refine W_seq fun K13 hK13 => ?_
    refine W_seq fun K14 hK14 => ?_
    refine W_post (fun a w => St 30 w0 f (.row v14 21 1 rw15 :: L) [(0, a0), (3, v14), (4, .int .i64 (y18)), (5, .int .i32 (x25)), (21, .bool (((decide (65 ≤ x25)) && (decide (x25 ≤ 90)))))] a w) ?_ ?_
    ·clear hs; intro a w hs
     refine hK14 _ _ ?_; clear hK14
     refine W_post (fun a w => ∃ (y32 : Int), ref4_Small_k3 y13 y18 (ref4_Small_l2 p0 k23) y32 = some res ∧ St 30 w0 f (.row v14 21 1 rw15 :: L) [(0, a0), (3, v14), (4, .int .i64 (y18)), (5, .int .i32 (y32))] a w) ?_ ?_
     ·clear hs hm
      rintro a w ⟨y32, hm, hs⟩
      unfold ref4_Small_k3 at hm
      refine hK13 _ _ ?_; clear hK13
      refine W_region ?_
      refine sy (v := v14) hs (y_move rfl) ?_; clear hs; intro a w hs
      refine sy (v := .int .i32 (y32)) hs (y_move rfl) ?_; clear hs; intro a w hs
      refine RL_bs1s hs rfl Tryd.underlying98 ti21 rfl rfl ?_; clear hs; intro v33 a w hs
      have hW34 : RW (tInt .i32) f [[.int .i32 (y32)]] [y32] := RW.single (rfl)
      generalize hgrw35 : ([[.int .i32 (y32)]] : List (List Value)) = rw35 at hs hW34; clear hgrw35
      obtain ⟨x38, hx39, hm⟩ := ob hm
      obtain ⟨hbx38, hex38⟩ := appM_some hx39
      have hW42 := hW16.append hW34; rw [hex38] at hW42
      refine RL_append (i := 1) hs rfl rfl rfl (Rd.st hs (.head _)) Tryd.underlying98 ti21 (by decide) (by rw [RW.len hW16, RW.len hW34]; exact hbx38) (.free rfl) (by decide) ?_; clear hs; intro v40 a w hs
      generalize hgx38 : rw15 ++ rw35 = rw41 at hs hW42; clear hgx38
      replace hs := hs.erase 0
      refine sy (v := v40) hs (y_assign rfl) ?_; clear hs; intro a w hs
      refine RL_nil ?_
      refine hK10 _ _ ?_; clear hK10
      refine W_region ?_
      refine sy (v := .int .i64 (y18)) hs (y_move rfl) ?_; clear hs; intro a w hs
      refine sy hs (y_add rfl rfl rfl) ?_; clear hs; intro a w hs
      refine sy (v := .int .i64 ((w64 (y18 + 1)))) hs (y_assign rfl) ?_; clear hs; intro a w hs
      refine RL_nil ?_
      exact hK7 k23 _ _ (Nat.lt_succ_self _) ⟨x38, (w64 (y18 + 1)), v40, rw41, hm, hW42, hs.sub ⟨rfl, rfl, rfl, trivial⟩⟩
     ·refine W_cond hs rfl (fun hg44 => ?_) (fun hg44 => ?_)
      ·replace hm := oc_t hg44 hm
       refine W_region ?_
       refine sy (v := .int .i32 (x25)) hs (y_move rfl) ?_; clear hs; intro a w hs
       refine sy hs (y_add rfl rfl rfl) ?_; clear hs; intro a w hs
       refine sy (v := .int .i32 ((IntKind.i32.wrap (x25 + 32)))) hs (y_assign rfl) ?_; clear hs; intro a w hs
       refine RL_nil ?_
       exact ⟨(IntKind.i32.wrap (x25 + 32)), hm, hs.sub ⟨rfl, rfl, rfl, rfl, trivial⟩⟩
      ·replace hm := oc_f hg44 hm
       refine W_skip ?_
       exact ⟨x25, hm, hs.sub ⟨rfl, rfl, rfl, rfl, trivial⟩⟩
    ·refine W_region ?_
     refine sy (v := .int .i32 (x25)) hs (y_move rfl) ?_; clear hs; intro a w hs
     refine sy hs (y_geq rfl rfl) ?_; clear hs; intro a w hs
     refine sy (v := .bool (decide (65 ≤ x25))) hs (y_move rfl) ?_; clear hs; intro a w hs
     refine St.split hs (t := 18) rfl (fun hg45 hq => ?_) (fun hg45 hq => ?_)
     ·clear hs; have hs := hq; clear hq
      refine syg (v := .int .i32 (x25)) hs (y_move rfl) ?_; clear hs; intro a w hs
      refine syg hs (y_leq rfl rfl) ?_; clear hs; intro a w hs
      refine sy (v := .bool (decide (x25 ≤ 90))) hs (y_pick rfl rfl) ?_; clear hs; intro a w hs
      refine RL_nil ?_
      exact hs.sub ⟨rfl, rfl, rfl, rfl, (lkB (((and_t hg45).trans rfl)) rfl), trivial⟩
     ·clear hs; have hs := hq; clear hq
      refine sno hs ?_; clear hs; intro a w hs
      refine sno hs ?_; clear hs; intro a w hs
      refine sy (v := .bool (false)) hs (y_pick rfl rfl) ?_; clear hs; intro a w hs
      refine RL_nil ?_
      exact hs.sub ⟨rfl, rfl, rfl, rfl, (lkB (((and_f hg45).trans rfl)) rfl), trivial⟩
   ·replace hm := oc_f hg24 hm
    refine W_exit ?_
    refine hB6 _ _ ?_
    exact ⟨y13, v14, rw15, hm, hW16, hs.sub ⟨rfl, trivial⟩⟩
/-! casement/casementref5.Attr -/
def ref5_Attr_k1 : Option (ByteArray × Bool) :=
  some ((bs []), false)
def ref5_Attr_l2 (p2 : ByteArray) (x9 : api_Node) : Nat → Int → Option (ByteArray × Bool)
  | 0, _ => none
  | k22 + 1, y21 =>
  (bif (decide (y21 < (x9.Attrs.length : Int))) then (geti x9.Attrs y21).bind fun x24 =>
  (bif (decide (x24.Name = p2)) then (geti x9.Attrs y21).bind fun x32 =>
  some (x32.Value, true) else
  (ref5_Attr_l2 p2 x9 k22) (w64 (y21 + 1))) else
  ref5_Attr_k1)
def ref5_Attr (n : Nat) (p0 : api_Tree) (p1 : Int) (p2 : ByteArray) : Option (ByteArray × Bool) :=
  (bif ((decide (p1 < 0)) || (decide ((p0.Nodes.length : Int) ≤ p1))) then some ((bs []), false) else
  (geti p0.Nodes p1).bind fun x9 =>
  ref5_Attr_l2 p2 x9 n 0)
set_option maxRecDepth 20000 in
set_option maxHeartbeats 4000000 in
theorem ref5_Attr_ok (n : Nat) {f : Fz} {p0 : api_Tree} {a0 : List Value} {p1 : Int} {p2 : ByteArray} {res : (ByteArray × Bool)} (h0 : t_api_Tree.R f a0 p0) (hm : ref5_Attr n p0 p1 p2 = some res) : Gives Tryd.prog 49 [.agg a0.toArray, .int .i64 p1, .string p2] f (.tuple #[.string res.1, .bool res.2]) := by
 unfold ref5_Attr at hm
 intro w0 L w hC
 obtain ⟨v1, rfl, ⟨rw2, hR3, hW4⟩⟩ := h0
 refine enter Tryd.func49 rfl Tryd.ntmps49 (by simp) hC fun a hs => ?_
 have hle := Fz.le.refl f
 refine W_seq fun K1 hK1 => ?_
 refine W_region ?_
 refine sbox hs rfl ?_; clear hs; intro b6 a w hs
 refine sy (v := .string ((bs []))) hs (y_assign rfl) ?_; clear hs; intro a w hs
 refine sy (v := .bool (false)) hs (y_assign rfl) ?_; clear hs; intro a w hs
 refine RL_nil ?_
 refine hK1 _ _ ?_; clear hK1
 refine W_seq fun K2 hK2 => ?_
 refine W_seq fun K3 hK3 => ?_
 refine W_post (fun a w => St 43 w0 f (.blk b6 (.cells #[v1] 24 (0, 0)) :: L) [(1, .int .i64 (p1)), (2, .string (p2)), (3, .pointer (some ⟨b6, 0, none⟩)), (18, .bool (((decide (p1 < 0)) || (decide ((p0.Nodes.length : Int) ≤ p1)))))] a w) ?_ ?_
 ·clear hs; intro a w hs
  refine hK3 _ _ ?_; clear hK3
  refine W_cond hs rfl (fun hg8 => ?_) (fun hg8 => ?_)
  ·replace hm := oc_t hg8 hm
   refine W_seq fun K4 hK4 => ?_
   refine W_region ?_
   refine sy (v := .string ((bs []))) hs (y_assign rfl) ?_; clear hs; intro a w hs
   refine sy (v := .bool (false)) hs (y_assign rfl) ?_; clear hs; intro a w hs
   refine RL_nil ?_
   refine hK4 _ _ ?_; clear hK4
   refine W_ret ?_
   obtain rfl := Option.some.inj hm
   refine RtV2 hs rfl (rv_t hs rfl) (rv_t hs rfl) ?_
   exact ⟨rfl, ((hs.subL (.cons _ (.refl _))).weak hle).cw⟩
  ·replace hm := oc_f hg8 hm
   refine W_skip ?_
   refine hK2 _ _ ?_; clear hK2
   refine W_seq fun K5 hK5 => ?_
   refine W_region ?_
   refine sy (v := .pointer (some ⟨b6, 0, none⟩)) hs (y_fieldAddr rfl (FO.of (off := 0) Tryd.underlying24 rfl rfl ti22 (by decide))) ?_; clear hs; intro a w hs
   refine sy (v := v1) hs (y_ld rfl Tryd.underlying22 rfl (Cell.blk (.head _) rfl)) ?_; clear hs; intro a w hs
   refine sy (v := .int .i64 (p1)) hs (y_move rfl) ?_; clear hs; intro a w hs
   obtain ⟨x9, hx10, hm⟩ := ob hm
   obtain ⟨r11, hr12, hq13, hi14, hb15⟩ := hW4.geti hx10
   obtain ⟨v16, rfl, ⟨rw17, hR18, hW19⟩⟩ := hq13
   refine sy hs (y_indexAddr hR3 rfl rfl hi14 hb15 Tryd.underlying22 ti42) ?_; clear hs; intro a w hs
   refine sy (v := eaddr v1 9 p1.toNat 3) hs (y_fieldAddrE (i := p1.toNat) (j := 0) hR3 rfl hb15 (FO.of (off := 3) Tryd.underlying42 rfl rfl ti40 (by decide))) ?_; clear hs; intro a w hs
   refine sy (v := v16) hs (y_loadE (i := p1.toNat) (j := 3) hR3.up rfl hr12 rfl Tryd.underlying40 rfl) ?_; clear hs; intro a w hs
   refine sy (v := v16) hs (y_assign rfl) ?_; clear hs; intro a w hs
   refine RL_nil ?_
   refine hK5 _ _ ?_; clear hK5
   refine W_seq fun K6 hK6 => ?_
   refine W_seq fun K7 hK7 => ?_
   refine W_region ?_
   refine sy (v := .int .i64 (0)) hs (y_assign rfl) ?_; clear hs; intro a w hs
   refine RL_nil ?_
   refine hK7 _ _ ?_; clear hK7
   refine W_post (fun a w => ref5_Attr_k1 = some res ∧ St 43 w0 f (L) [] a w) ?_ ?_
   ·clear hs hm
    rintro a w ⟨hm, hs⟩
    unfold ref5_Attr_k1 at hm
    refine hK6 _ _ ?_; clear hK6
    refine W_seq fun K8 hK8 => ?_
    refine W_region ?_
    refine sy (v := .string ((bs []))) hs (y_assign rfl) ?_; clear hs; intro a w hs
    refine sy (v := .bool (false)) hs (y_assign rfl) ?_; clear hs; intro a w hs
    refine RL_nil ?_
    refine hK8 _ _ ?_; clear hK8
    refine W_ret ?_
    obtain rfl := Option.some.inj hm
    refine RtV2 hs rfl (rv_t hs rfl) (rv_t hs rfl) ?_
    exact ⟨rfl, (hs.weak hle).cw⟩
   ·refine W_block fun Qe9 hB9 hO9 => ?_
    refine W_loop (fun (k : Nat) a w => ∃ (y21 : Int), ref5_Attr_l2 p2 x9 k y21 = some res ∧ St 43 w0 f (L) [(2, .string (p2)), (8, v16), (9, .int .i64 (y21))] a w) (fun k => k) n ⟨0, hm, hs.subs ⟨rfl, rfl, rfl, trivial⟩ (.cons _ (.refl _))⟩ ?_
    clear hs hm
    intro k
    rintro a w ⟨y21, hm, hs⟩
    intro K10 hK10
    cases k with
    | zero => simp [ref5_Attr_l2] at hm
    | succ k22 =>
     rw [ref5_Attr_l2] at hm
     refine W_seq fun K11 hK11 => ?_
     refine W_seq fun K12 hK12 => ?_
     refine W_region ?_
     refine sy (v := .int .i64 (y21)) hs (y_move rfl) ?_; clear hs; intro a w hs
     refine sy (v := v16) hs (y_move rfl) ?_; clear hs; intro a w hs
     refine sy hs (y_lenW hR18 hW19 rfl Tryd.underlying40) ?_; clear hs; intro a w hs
     refine sy hs (y_lss rfl rfl) ?_; clear hs; intro a w hs
     refine RL_nil ?_
     refine hK12 _ _ ?_; clear hK12
     refine W_cond hs rfl (fun hg23 => ?_) (fun hg23 => ?_)
     ·replace hm := oc_t hg23 hm
      refine W_skip ?_
      refine hK11 _ _ ?_; clear hK11
      refine W_seq fun K13 hK13 => ?_
      refine W_block fun Qe14 hB14 hO14 => ?_
      refine W_seq fun K15 hK15 => ?_
      refine W_region ?_
      refine sy (v := v16) hs (y_move rfl) ?_; clear hs; intro a w hs
      refine sy (v := .int .i64 (y21)) hs (y_move rfl) ?_; clear hs; intro a w hs
      obtain ⟨x24, hx25, hm⟩ := ob hm
      obtain ⟨r26, hr27, hq28, hi29, hb30⟩ := hW19.geti hx25
      obtain rfl : _ = ([.string (x24.Name), .string (x24.Value)] : List Value) := hq28
      refine sy hs (y_indexAddr hR18 rfl rfl hi29 hb30 Tryd.underlying40 ti91) ?_; clear hs; intro a w hs
      refine sy (v := eaddr v16 2 y21.toNat 0) hs (y_fieldAddrE (i := y21.toNat) (j := 0) hR18 rfl hb30 (FO.of (off := 0) Tryd.underlying91 rfl rfl ti9 (by decide))) ?_; clear hs; intro a w hs
      refine sy (v := .string (x24.Name)) hs (y_loadE (i := y21.toNat) (j := 0) hR18.up rfl hr27 rfl Tryd.underlying9 rfl) ?_; clear hs; intro a w hs
      refine sy (v := .string (p2)) hs (y_move rfl) ?_; clear hs; intro a w hs
      refine sy hs (y_seql rfl rfl) ?_; clear hs; intro a w hs
      refine RL_nil ?_
      refine hK15 _ _ ?_; clear hK15
      refine W_cond hs rfl (fun hg31 => ?_) (fun hg31 => ?_)
      ·replace hm := oc_t hg31 hm
       refine W_seq fun K16 hK16 => ?_
       refine W_region ?_
       refine sy (v := v16) hs (y_move rfl) ?_; clear hs; intro a w hs
       refine sy (v := .int .i64 (y21)) hs (y_move rfl) ?_; clear hs; intro a w hs
       obtain ⟨x32, hx33, hm⟩ := ob hm
       obtain ⟨r34, hr35, hq36, hi37, hb38⟩ := hW19.geti hx33
       obtain rfl : _ = ([.string (x32.Name), .string (x32.Value)] : List Value) := hq36
       refine sy hs (y_indexAddr hR18 rfl rfl hi37 hb38 Tryd.underlying40 ti91) ?_; clear hs; intro a w hs
       refine sy (v := eaddr v16 2 y21.toNat 1) hs (y_fieldAddrE (i := y21.toNat) (j := 0) hR18 rfl hb38 (FO.of (off := 1) Tryd.underlying91 rfl rfl ti9 (by decide))) ?_; clear hs; intro a w hs
       refine sy (v := .string (x32.Value)) hs (y_loadE (i := y21.toNat) (j := 1) hR18.up rfl hr35 rfl Tryd.underlying9 rfl) ?_; clear hs; intro a w hs
       refine sy (v := .string (x32.Value)) hs (y_assign rfl) ?_; clear hs; intro a w hs
       refine sy (v := .bool (true)) hs (y_assign rfl) ?_; clear hs; intro a w hs
       refine RL_nil ?_
       refine hK16 _ _ ?_; clear hK16
       refine W_ret ?_
       obtain rfl := Option.some.inj hm
       refine RtV2 hs rfl (rv_t hs rfl) (rv_t hs rfl) ?_
       exact ⟨rfl, (hs.weak hle).cw⟩
      ·replace hm := oc_f hg31 hm
       refine W_skip ?_
       refine hK13 _ _ ?_; clear hK13
       refine W_region ?_
       refine sy (v := .int .i64 (y21)) hs (y_move rfl) ?_; clear hs; intro a w hs
       refine sy hs (y_add rfl rfl rfl) ?_; clear hs; intro a w hs
       refine sy (v := .int .i64 ((w64 (y21 + 1)))) hs (y_assign rfl) ?_; clear hs; intro a w hs
       refine RL_nil ?_
       exact hK10 k22 _ _ (Nat.lt_succ_self _) ⟨(w64 (y21 + 1)), hm, hs.sub ⟨rfl, rfl, rfl, trivial⟩⟩
     ·replace hm := oc_f hg23 hm
      refine W_exit ?_
      refine hB9 _ _ ?_
      exact ⟨hm, hs.sub trivial⟩
 ·refine W_region ?_
  refine sy (v := .int .i64 (p1)) hs (y_move rfl) ?_; clear hs; intro a w hs
  refine sy hs (y_lss rfl rfl) ?_; clear hs; intro a w hs
  refine sy (v := .bool (decide (p1 < 0))) hs (y_move rfl) ?_; clear hs; intro a w hs
  refine St.split hs (t := 12) rfl (fun hg39 hq => ?_) (fun hg39 hq => ?_)
  ·clear hs; have hs := hq; clear hq
   refine sno hs ?_; clear hs; intro a w hs
   refine sno hs ?_; clear hs; intro a w hs
   refine sno hs ?_; clear hs; intro a w hs
   refine sno hs ?_; clear hs; intro a w hs
   refine sno hs ?_; clear hs; intro a w hs
   refine sy (v := .bool (true)) hs (y_pick rfl rfl) ?_; clear hs; intro a w hs
   refine RL_nil ?_
   exact hs.sub ⟨rfl, rfl, rfl, (lkB (((or_t hg39).trans rfl)) rfl), trivial⟩
  ·clear hs; have hs := hq; clear hq
   refine syg (v := .int .i64 (p1)) hs (y_move rfl) ?_; clear hs; intro a w hs
   refine syg (v := .pointer (some ⟨b6, 0, none⟩)) hs (y_fieldAddr rfl (FO.of (off := 0) Tryd.underlying24 rfl rfl ti22 (by decide))) ?_; clear hs; intro a w hs
   refine syg (v := v1) hs (y_ld rfl Tryd.underlying22 rfl (Cell.blk (.head _) rfl)) ?_; clear hs; intro a w hs
   refine syg hs (y_lenW hR3 hW4 rfl Tryd.underlying22) ?_; clear hs; intro a w hs
   refine syg hs (y_geq rfl rfl) ?_; clear hs; intro a w hs
   refine sy (v := .bool (decide ((p0.Nodes.length : Int) ≤ p1))) hs (y_pick rfl rfl) ?_; clear hs; intro a w hs
   refine RL_nil ?_
   exact hs.sub ⟨rfl, rfl, rfl, (lkB (((or_f hg39).trans rfl)) rfl), trivial⟩
/-! casement/casementref5.Index -/
def ref5_Index_k2 (y22 : Int) : Option Int :=
  some y22
def ref5_Index_k4 (p0 : api_Tree) (y24 : Int) (lp25 : Int → Int → Option Int) (y39 : Int) : Option Int :=
  (geti p0.Nodes y24).bind fun x40 =>
  lp25 y39 x40.Prev
def ref5_Index_l3 (p0 : api_Tree) : Nat → Int → Int → Option Int
  | 0, _, _ => none
  | k25 + 1, y23, y24 =>
  (bif (decide (0 ≤ y24)) then (geti p0.Nodes y24).bind fun x27 =>
  (bif (decide (x27.Kind = 1)) then ref5_Index_k4 p0 y24 (ref5_Index_l3 p0 k25) (w64 (y23 + 1)) else
  ref5_Index_k4 p0 y24 (ref5_Index_l3 p0 k25) y23) else
  ref5_Index_k2 y23)
def ref5_Index_k1 (n : Nat) (p0 : api_Tree) (p1 : Int) (y8 : Bool) : Option Int :=
  (bif y8 then some 0 else
  (geti p0.Nodes p1).bind fun x10 =>
  ref5_Index_l3 p0 n 1 x10.Prev)
def ref5_Index (n : Nat) (p0 : api_Tree) (p1 : Int) : Option Int :=
  (bif (decide (p1 < 0)) then ref5_Index_k1 n p0 p1 true else
  (bif (decide ((p0.Nodes.length : Int) ≤ p1)) then ref5_Index_k1 n p0 p1 true else
  (geti p0.Nodes p1).bind fun x55 =>
  ref5_Index_k1 n p0 p1 (decide (x55.Kind ≠ 1))))
set_option maxRecDepth 20000 in
set_option maxHeartbeats 4000000 in
theorem ref5_Index_ok (n : Nat) {f : Fz} {p0 : api_Tree} {a0 : List Value} {p1 : Int} {res : Int} (h0 : t_api_Tree.R f a0 p0) (hm : ref5_Index n p0 p1 = some res) : Gives Tryd.prog 51 [.agg a0.toArray, .int .i64 p1] f (.int .i64 res) := by
 unfold ref5_Index at hm
 intro w0 L w hC
 obtain ⟨v1, rfl, ⟨rw2, hR3, hW4⟩⟩ := h0
 refine enter Tryd.func51 rfl Tryd.ntmps51 (by simp) hC fun a hs => ?_
 have hle := Fz.le.refl f
 refine W_seq fun K1 hK1 => ?_
 refine W_region ?_
 refine sbox hs rfl ?_; clear hs; intro b6 a w hs
 refine sy (v := .int .i64 (0)) hs (y_assign rfl) ?_; clear hs; intro a w hs
 refine RL_nil ?_
 refine hK1 _ _ ?_; clear hK1
 refine W_seq fun K2 hK2 => ?_
 refine W_seq fun K3 hK3 => ?_
 refine W_post (fun a w => ∃ (y8 : Bool), ref5_Index_k1 n p0 p1 y8 = some res ∧ St 49 w0 f (.blk b6 (.cells #[v1] 24 (0, 0)) :: L) [(1, .int .i64 (p1)), (2, .pointer (some ⟨b6, 0, none⟩)), (24, .bool (y8))] a w) ?_ ?_
 ·clear hs hm
  rintro a w ⟨y8, hm, hs⟩
  unfold ref5_Index_k1 at hm
  refine hK3 _ _ ?_; clear hK3
  refine W_cond hs rfl (fun hg9 => ?_) (fun hg9 => ?_)
  ·replace hm := oc_t hg9 hm
   refine W_seq fun K4 hK4 => ?_
   refine W_region ?_
   refine sy (v := .int .i64 (0)) hs (y_assign rfl) ?_; clear hs; intro a w hs
   refine RL_nil ?_
   refine hK4 _ _ ?_; clear hK4
   refine W_ret ?_
   obtain rfl := Option.some.inj hm
   refine RtV1 hs rfl (rv_t hs rfl) ?_
   exact ⟨rfl, ((hs.subL (.cons _ (.refl _))).weak hle).cw⟩
  ·replace hm := oc_f hg9 hm
   refine W_skip ?_
   refine hK2 _ _ ?_; clear hK2
   refine W_seq fun K5 hK5 => ?_
   refine W_region ?_
   refine sy (v := .int .i64 (1)) hs (y_assign rfl) ?_; clear hs; intro a w hs
   refine RL_nil ?_
   refine hK5 _ _ ?_; clear hK5
   refine W_seq fun K6 hK6 => ?_
   refine W_seq fun K7 hK7 => ?_
   refine W_region ?_
   refine sy (v := .pointer (some ⟨b6, 0, none⟩)) hs (y_fieldAddr rfl (FO.of (off := 0) Tryd.underlying24 rfl rfl ti22 (by decide))) ?_; clear hs; intro a w hs
   refine sy (v := v1) hs (y_ld rfl Tryd.underlying22 rfl (Cell.blk (.head _) rfl)) ?_; clear hs; intro a w hs
   refine sy (v := .int .i64 (p1)) hs (y_move rfl) ?_; clear hs; intro a w hs
   obtain ⟨x10, hx11, hm⟩ := ob hm
   obtain ⟨r12, hr13, hq14, hi15, hb16⟩ := hW4.geti hx11
   obtain ⟨v17, rfl, ⟨rw18, hR19, hW20⟩⟩ := hq14
   refine sy hs (y_indexAddr hR3 rfl rfl hi15 hb16 Tryd.underlying22 ti42) ?_; clear hs; intro a w hs
   refine sy (v := eaddr v1 9 p1.toNat 7) hs (y_fieldAddrE (i := p1.toNat) (j := 0) hR3 rfl hb16 (FO.of (off := 7) Tryd.underlying42 rfl rfl ti3 (by decide))) ?_; clear hs; intro a w hs
   refine sy (v := .int .i64 (x10.Prev)) hs (y_loadE (i := p1.toNat) (j := 7) hR3.up rfl hr13 rfl Tryd.underlying3 rfl) ?_; clear hs; intro a w hs
   refine sy (v := .int .i64 (x10.Prev)) hs (y_assign rfl) ?_; clear hs; intro a w hs
   refine RL_nil ?_
   refine hK7 _ _ ?_; clear hK7
   refine W_post (fun a w => ∃ (y22 : Int), ref5_Index_k2 y22 = some res ∧ St 49 w0 f (L) [(5, .int .i64 (y22))] a w) ?_ ?_
   ·clear hs hm
    rintro a w ⟨y22, hm, hs⟩
    unfold ref5_Index_k2 at hm
    refine hK6 _ _ ?_; clear hK6
    refine W_seq fun K8 hK8 => ?_
    refine W_region ?_
    refine sy (v := .int .i64 (y22)) hs (y_move rfl) ?_; clear hs; intro a w hs
    refine sy (v := .int .i64 (y22)) hs (y_assign rfl) ?_; clear hs; intro a w hs
    refine RL_nil ?_
    refine hK8 _ _ ?_; clear hK8
    refine W_ret ?_
    obtain rfl := Option.some.inj hm
    refine RtV1 hs rfl (rv_t hs rfl) ?_
    exact ⟨rfl, (hs.weak hle).cw⟩
   ·refine W_block fun Qe9 hB9 hO9 => ?_
    refine W_loop (fun (k : Nat) a w => ∃ (y23 : Int) (y24 : Int), ref5_Index_l3 p0 k y23 y24 = some res ∧ St 49 w0 f (.blk b6 (.cells #[v1] 24 (0, 0)) :: L) [(2, .pointer (some ⟨b6, 0, none⟩)), (5, .int .i64 (y23)), (6, .int .i64 (y24))] a w) (fun k => k) n ⟨1, x10.Prev, hm, hs.sub ⟨rfl, rfl, rfl, trivial⟩⟩ ?_
    clear hs hm
    intro k
    rintro a w ⟨y23, y24, hm, hs⟩
    intro K10 hK10
    cases k with
    | zero => simp [ref5_Index_l3] at hm
    | succ k25 =>
     rw [ref5_Index_l3] at hm
     refine W_seq fun K11 hK11 => ?_
     refine W_seq fun K12 hK12 => ?_
     refine W_region ?_
     refine sy (v := .int .i64 (y24)) hs (y_move rfl) ?_; clear hs; intro a w hs
     refine sy hs (y_geq rfl rfl) ?_; clear hs; intro a w hs
     refine RL_nil ?_
     refine hK12 _ _ ?_; clear hK12
     refine W_cond hs rfl (fun hg26 => ?_) (fun hg26 => ?_)
     ·replace hm := oc_t hg26 hm
      refine W_skip ?_
      refine hK11 _ _ ?_; clear hK11
      refine W_seq fun K13 hK13 => ?_
      refine W_block fun Qe14 hB14 hO14 => ?_
      refine W_seq fun K15 hK15 => ?_
      refine W_region ?_
      refine sy (v := .pointer (some ⟨b6, 0, none⟩)) hs (y_fieldAddr rfl (FO.of (off := 0) Tryd.underlying24 rfl rfl ti22 (by decide))) ?_; clear hs; intro a w hs
      refine sy (v := v1) hs (y_ld rfl Tryd.underlying22 rfl (Cell.blk (.head _) rfl)) ?_; clear hs; intro a w hs
      refine sy (v := .int .i64 (y24)) hs (y_move rfl) ?_; clear hs; intro a w hs
      obtain ⟨x27, hx28, hm⟩ := ob hm
      obtain ⟨r29, hr30, hq31, hi32, hb33⟩ := hW4.geti hx28
      obtain ⟨v34, rfl, ⟨rw35, hR36, hW37⟩⟩ := hq31
      refine sy hs (y_indexAddr hR3 rfl rfl hi32 hb33 Tryd.underlying22 ti42) ?_; clear hs; intro a w hs
      refine sy (v := eaddr v1 9 y24.toNat 0) hs (y_fieldAddrE (i := y24.toNat) (j := 0) hR3 rfl hb33 (FO.of (off := 0) Tryd.underlying42 rfl rfl ti3 (by decide))) ?_; clear hs; intro a w hs
      refine sy (v := .int .i64 (x27.Kind)) hs (y_loadE (i := y24.toNat) (j := 0) hR3.up rfl hr30 rfl Tryd.underlying3 rfl) ?_; clear hs; intro a w hs
      refine sy hs (y_eql rfl rfl) ?_; clear hs; intro a w hs
      refine RL_nil ?_
      refine hK15 _ _ ?_; clear hK15
      refine W_post (fun a w => ∃ (y39 : Int), ref5_Index_k4 p0 y24 (ref5_Index_l3 p0 k25) y39 = some res ∧ St 49 w0 f (.blk b6 (.cells #[v1] 24 (0, 0)) :: L) [(2, .pointer (some ⟨b6, 0, none⟩)), (5, .int .i64 (y39)), (6, .int .i64 (y24))] a w) ?_ ?_
      ·clear hs hm
       rintro a w ⟨y39, hm, hs⟩
       unfold ref5_Index_k4 at hm
       refine hK13 _ _ ?_; clear hK13
       refine W_region ?_
       refine sy (v := .pointer (some ⟨b6, 0, none⟩)) hs (y_fieldAddr rfl (FO.of (off := 0) Tryd.underlying24 rfl rfl ti22 (by decide))) ?_; clear hs; intro a w hs
       refine sy (v := v1) hs (y_ld rfl Tryd.underlying22 rfl (Cell.blk (.head _) rfl)) ?_; clear hs; intro a w hs
       refine sy (v := .int .i64 (y24)) hs (y_move rfl) ?_; clear hs; intro a w hs
       obtain ⟨x40, hx41, hm⟩ := ob hm
       obtain ⟨r42, hr43, hq44, hi45, hb46⟩ := hW4.geti hx41
       obtain ⟨v47, rfl, ⟨rw48, hR49, hW50⟩⟩ := hq44
       refine sy hs (y_indexAddr hR3 rfl rfl hi45 hb46 Tryd.underlying22 ti42) ?_; clear hs; intro a w hs
       refine sy (v := eaddr v1 9 y24.toNat 7) hs (y_fieldAddrE (i := y24.toNat) (j := 0) hR3 rfl hb46 (FO.of (off := 7) Tryd.underlying42 rfl rfl ti3 (by decide))) ?_; clear hs; intro a w hs
       refine sy (v := .int .i64 (x40.Prev)) hs (y_loadE (i := y24.toNat) (j := 7) hR3.up rfl hr43 rfl Tryd.underlying3 rfl) ?_; clear hs; intro a w hs
       refine sy (v := .int .i64 (x40.Prev)) hs (y_assign rfl) ?_; clear hs; intro a w hs
       refine RL_nil ?_
       exact hK10 k25 _ _ (Nat.lt_succ_self _) ⟨y39, x40.Prev, hm, hs.sub ⟨rfl, rfl, rfl, trivial⟩⟩
      ·refine W_cond hs rfl (fun hg52 => ?_) (fun hg52 => ?_)
       ·replace hm := oc_t hg52 hm
        refine W_region ?_
        refine sy (v := .int .i64 (y23)) hs (y_move rfl) ?_; clear hs; intro a w hs
        refine sy hs (y_add rfl rfl rfl) ?_; clear hs; intro a w hs
        refine sy (v := .int .i64 ((w64 (y23 + 1)))) hs (y_assign rfl) ?_; clear hs; intro a w hs
        refine RL_nil ?_
        exact ⟨(w64 (y23 + 1)), hm, hs.sub ⟨rfl, rfl, rfl, trivial⟩⟩
       ·replace hm := oc_f hg52 hm
        refine W_skip ?_
        exact ⟨y23, hm, hs.sub ⟨rfl, rfl, rfl, trivial⟩⟩
     ·replace hm := oc_f hg26 hm
      refine W_exit ?_
      refine hB9 _ _ ?_
      exact ⟨y23, hm, hs.subs ⟨rfl, trivial⟩ (.cons _ (.refl _))⟩
 ·refine W_region ?_
  refine sy (v := .int .i64 (p1)) hs (y_move rfl) ?_; clear hs; intro a w hs
  refine sy hs (y_lss rfl rfl) ?_; clear hs; intro a w hs
  refine sy (v := .bool (decide (p1 < 0))) hs (y_move rfl) ?_; clear hs; intro a w hs
  refine St.split hs (t := 9) rfl (fun hg53 hq => ?_) (fun hg53 hq => ?_)
  ·clear hs; have hs := hq; clear hq
   replace hm := oc_t hg53 hm
   refine sno hs ?_; clear hs; intro a w hs
   refine sno hs ?_; clear hs; intro a w hs
   refine sno hs ?_; clear hs; intro a w hs
   refine sno hs ?_; clear hs; intro a w hs
   refine sno hs ?_; clear hs; intro a w hs
   refine sy (v := .bool (true)) hs (y_pick rfl rfl) ?_; clear hs; intro a w hs
   refine sy (v := .bool (true)) hs (y_move rfl) ?_; clear hs; intro a w hs
   refine sno hs ?_; clear hs; intro a w hs
   refine sno hs ?_; clear hs; intro a w hs
   refine sno hs ?_; clear hs; intro a w hs
   refine sno hs ?_; clear hs; intro a w hs
   refine sno hs ?_; clear hs; intro a w hs
   refine sno hs ?_; clear hs; intro a w hs
   refine sno hs ?_; clear hs; intro a w hs
   refine sy (v := .bool (true)) hs (y_pick rfl rfl) ?_; clear hs; intro a w hs
   refine RL_nil ?_
   exact ⟨true, hm, hs.sub ⟨rfl, rfl, rfl, trivial⟩⟩
  ·clear hs; have hs := hq; clear hq
   replace hm := oc_f hg53 hm
   refine syg (v := .int .i64 (p1)) hs (y_move rfl) ?_; clear hs; intro a w hs
   refine syg (v := .pointer (some ⟨b6, 0, none⟩)) hs (y_fieldAddr rfl (FO.of (off := 0) Tryd.underlying24 rfl rfl ti22 (by decide))) ?_; clear hs; intro a w hs
   refine syg (v := v1) hs (y_ld rfl Tryd.underlying22 rfl (Cell.blk (.head _) rfl)) ?_; clear hs; intro a w hs
   refine syg hs (y_lenW hR3 hW4 rfl Tryd.underlying22) ?_; clear hs; intro a w hs
   refine syg hs (y_geq rfl rfl) ?_; clear hs; intro a w hs
   refine sy (v := .bool (decide ((p0.Nodes.length : Int) ≤ p1))) hs (y_pick rfl rfl) ?_; clear hs; intro a w hs
   refine sy (v := .bool (decide ((p0.Nodes.length : Int) ≤ p1))) hs (y_move rfl) ?_; clear hs; intro a w hs
   refine St.split hs (t := 16) rfl (fun hg54 hq => ?_) (fun hg54 hq => ?_)
   ·clear hs; have hs := hq; clear hq
    replace hm := oc_t hg54 hm
    refine sno hs ?_; clear hs; intro a w hs
    refine sno hs ?_; clear hs; intro a w hs
    refine sno hs ?_; clear hs; intro a w hs
    refine sno hs ?_; clear hs; intro a w hs
    refine sno hs ?_; clear hs; intro a w hs
    refine sno hs ?_; clear hs; intro a w hs
    refine sno hs ?_; clear hs; intro a w hs
    refine sy (v := .bool (true)) hs (y_pick rfl rfl) ?_; clear hs; intro a w hs
    refine RL_nil ?_
    exact ⟨true, hm, hs.sub ⟨rfl, rfl, rfl, trivial⟩⟩
   ·clear hs; have hs := hq; clear hq
    replace hm := oc_f hg54 hm
    refine syg (v := .pointer (some ⟨b6, 0, none⟩)) hs (y_fieldAddr rfl (FO.of (off := 0) Tryd.underlying24 rfl rfl ti22 (by decide))) ?_; clear hs; intro a w hs
    refine syg (v := v1) hs (y_ld rfl Tryd.underlying22 rfl (Cell.blk (.head _) rfl)) ?_; clear hs; intro a w hs
    refine syg (v := .int .i64 (p1)) hs (y_move rfl) ?_; clear hs; intro a w hs
    obtain ⟨x55, hx56, hm⟩ := ob hm
    obtain ⟨r57, hr58, hq59, hi60, hb61⟩ := hW4.geti hx56
    obtain ⟨v62, rfl, ⟨rw63, hR64, hW65⟩⟩ := hq59
    refine syg hs (y_indexAddr hR3 rfl rfl hi60 hb61 Tryd.underlying22 ti42) ?_; clear hs; intro a w hs
    refine syg (v := eaddr v1 9 p1.toNat 0) hs (y_fieldAddrE (i := p1.toNat) (j := 0) hR3 rfl hb61 (FO.of (off := 0) Tryd.underlying42 rfl rfl ti3 (by decide))) ?_; clear hs; intro a w hs
    refine syg (v := .int .i64 (x55.Kind)) hs (y_loadE (i := p1.toNat) (j := 0) hR3.up rfl hr58 rfl Tryd.underlying3 rfl) ?_; clear hs; intro a w hs
    refine syg hs (y_neq rfl rfl) ?_; clear hs; intro a w hs
    refine sy (v := .bool (decide (x55.Kind ≠ 1))) hs (y_pick rfl rfl) ?_; clear hs; intro a w hs
    refine RL_nil ?_
    exact ⟨decide (x55.Kind ≠ 1), hm, hs.sub ⟨rfl, rfl, rfl, trivial⟩⟩
/-! casement/casementref10.word -/
def ref10_word_k1 : Option Bool :=
  some false
def ref10_word_k3 (x2 : ByteArray) (y12 : Nat) (lp17 : (List Int) → Nat → Option Bool) (y20 : (List Int)) : Option Bool :=
  lp17 y20 (y12 + (Utf8.decode x2 y12).2)
def ref10_word_k4 (x2 : ByteArray) (y12 : Nat) (lp17 : (List Int) → Nat → Option Bool) (y39 : Bool) : Option Bool :=
  (bif y39 then some true else
  ref10_word_k3 x2 y12 lp17 ([] : List Int))
def ref10_word_l2 (n : Nat) (p1 : ByteArray) (x2 : ByteArray) : Nat → (List Int) → Nat → Option Bool
  | 0, _, _ => none
  | k17 + 1, y7, y12 =>
  (bif decide (y12 < x2.size) then (ref4_Blank n ((Utf8.decode x2 y12).1 : Int)).bind fun x25 =>
  (bif (!x25) then (appM 4 y7 [((Utf8.decode x2 y12).1 : Int)]).bind fun x33 =>
  ref10_word_k3 x2 y12 (ref10_word_l2 n p1 x2 k17) x33 else
  (bif (decide (0 < (y7.length : Int))) then (ref4_Small n y7).bind fun x47 =>
  ref10_word_k4 x2 y12 (ref10_word_l2 n p1 x2 k17) (decide (x47 = p1)) else
  ref10_word_k4 x2 y12 (ref10_word_l2 n p1 x2 k17) false)) else
  ref10_word_k1)
def ref10_word (n : Nat) (p0 : ByteArray) (p1 : ByteArray) : Option Bool :=
  (addS p0 (bs [32])).bind fun x2 =>
  ref10_word_l2 n p1 x2 n ([] : List Int) (0 : Nat)
set_option maxRecDepth 20000 in
set_option maxHeartbeats 4000000 in
theorem ref10_word_ok (n : Nat) {f : Fz} {p0 : ByteArray} {p1 : ByteArray} {res : Bool}  (hm : ref10_word n p0 p1 = some res) : Gives Tryd.prog 50 [.string p0, .string p1] f (.bool res) := by
 unfold ref10_word at hm
 intro w0 L w hC
 refine enter Tryd.func50 rfl Tryd.ntmps50 (by simp) hC fun a hs => ?_
 have hle := Fz.le.refl f
 refine W_seq fun K1 hK1 => ?_
 refine W_region ?_
 refine sy (v := .bool (false)) hs (y_assign rfl) ?_; clear hs; intro a w hs
 refine RL_nil ?_
 refine hK1 _ _ ?_; clear hK1
 refine W_seq fun K2 hK2 => ?_
 refine W_region ?_
 refine sy (v := (.slice none 0 0)) hs (y_assign rfl) ?_; clear hs; intro a w hs
 refine RL_nil ?_
 refine hK2 _ _ ?_; clear hK2
 refine W_seq fun K3 hK3 => ?_
 refine W_seq fun K4 hK4 => ?_
 refine W_region ?_
 refine sy (v := .string (p0)) hs (y_move rfl) ?_; clear hs; intro a w hs
 obtain ⟨x2, hx3, hm⟩ := ob hm
 obtain ⟨hbx2, hex2⟩ := addS_some hx3
 refine sy hs (y_saddW rfl rfl hbx2 hex2) ?_; clear hs; intro a w hs
 refine RL_range hs rfl Tryd.underlying9 ?_; clear hs; intro b4 a w hs
 refine RL_nil ?_
 refine hK4 _ _ ?_; clear hK4
 refine W_post (fun a w => ref10_word_k1 = some res ∧ St 30 w0 f (L) [] a w) ?_ ?_
 ·clear hs hm
  rintro a w ⟨hm, hs⟩
  unfold ref10_word_k1 at hm
  refine hK3 _ _ ?_; clear hK3
  refine W_seq fun K5 hK5 => ?_
  refine W_region ?_
  refine sy (v := .bool (false)) hs (y_assign rfl) ?_; clear hs; intro a w hs
  refine RL_nil ?_
  refine hK5 _ _ ?_; clear hK5
  refine W_ret ?_
  obtain rfl := Option.some.inj hm
  refine RtV1 hs rfl (rv_t hs rfl) ?_
  exact ⟨rfl, (hs.weak hle).cw⟩
 ·refine W_block fun Qe6 hB6 hO6 => ?_
  replace hs := hs.nilRow 21 1
  have hW13 : RW (tInt .i32) f [] ([] : List Int) := trivial
  generalize hgrw14 : ([] : List (List Value)) = rw14 at hs hW13; clear hgrw14
  refine W_loop (fun (k : Nat) a w => ∃ (y7 : (List Int)) (y12 : Nat) (v8 : Value) (rw9 : List (List Value)), ref10_word_l2 n p1 x2 k y7 y12 = some res ∧ RW (tInt .i32) f rw9 y7 ∧ St 30 w0 f (.row v8 21 1 rw9 :: .blk b4 (.stringIter x2 y12) :: L) [(1, .string (p1)), (5, v8), (10, .pointer (some ⟨b4, 0, none⟩))] a w) (fun k => k) n ⟨([] : List Int), (0 : Nat), (.slice none 0 0), rw14, hm, hW13, hs.sub ⟨rfl, rfl, rfl, trivial⟩⟩ ?_
  clear hs hm
  intro k
  rintro a w ⟨y7, y12, v8, rw9, hm, hW10, hs⟩
  intro K7 hK7
  cases k with
  | zero => simp [ref10_word_l2] at hm
  | succ k17 =>
   rw [ref10_word_l2] at hm
   refine W_seq fun K8 hK8 => ?_
   refine W_region ?_
   refine RL_next (i := 1) hs rfl rfl (fun hg18 => ?_) (fun hg18 => ?_)
   ·replace hm := oc_t (decide_eq_true hg18) hm; clear hs; intro a w hs
    refine sy (v := .bool (true)) hs (y_extract rfl rfl) ?_; clear hs; intro a w hs
    refine RL_nil ?_
    refine hK8 _ _ ?_; clear hK8
    refine W_seq fun K9 hK9 => ?_
    refine W_condT hs rfl ?_
    refine W_skip ?_
    refine hK9 _ _ ?_; clear hK9
    refine W_post (fun a w => ∃ (y20 : (List Int)) (v21 : Value) (rw22 : List (List Value)), ref10_word_k3 x2 y12 (ref10_word_l2 n p1 x2 k17) y20 = some res ∧ RW (tInt .i32) f rw22 y20 ∧ St 30 w0 f (.row v21 21 1 rw22 :: .blk b4 (.stringIter x2 (y12 + (Utf8.decode x2 y12).2)) :: L) [(1, .string (p1)), (5, v21), (10, .pointer (some ⟨b4, 0, none⟩))] a w) ?_ ?_
    ·clear hs hm
     rintro a w ⟨y20, v21, rw22, hm, hW23, hs⟩
     unfold ref10_word_k3 at hm
     exact hK7 k17 _ _ (Nat.lt_succ_self _) ⟨y20, (y12 + (Utf8.decode x2 y12).2), v21, rw22, hm, hW23, hs.sub ⟨rfl, rfl, rfl, trivial⟩⟩
    ·refine W_block fun Qe10 hB10 hO10 => ?_
     refine W_seq fun K11 hK11 => ?_
     refine W_region ?_
     refine sy (v := .int .i32 (((Utf8.decode x2 y12).1 : Int))) hs (y_extract rfl rfl) ?_; clear hs; intro a w hs
     refine sy (v := .int .i32 (((Utf8.decode x2 y12).1 : Int))) hs (y_assign rfl) ?_; clear hs; intro a w hs
     refine RL_nil ?_
     refine hK11 _ _ ?_; clear hK11
     refine W_seq fun K12 hK12 => ?_
     refine W_seq fun K13 hK13 => ?_
     refine W_region ?_
     refine sy (v := .int .i32 (((Utf8.decode x2 y12).1 : Int))) hs (y_move rfl) ?_; clear hs; intro a w hs
     obtain ⟨x25, hx26, hm⟩ := ob hm
     refine sy hs (y_call rfl has56 rfl (ref4_Blank_ok n (f := f)  hx26)) ?_; clear hs; intro a w hs
     refine sy (v := .bool ((!x25))) hs (y_not rfl) ?_; clear hs; intro a w hs
     refine RL_nil ?_
     refine hK13 _ _ ?_; clear hK13
     refine W_cond hs rfl (fun hg27 => ?_) (fun hg27 => ?_)
     ·replace hm := oc_t hg27 hm
      refine W_seq fun K14 hK14 => ?_
      refine W_region ?_
      refine sy (v := v8) hs (y_move rfl) ?_; clear hs; intro a w hs
      refine sy (v := .int .i32 (((Utf8.decode x2 y12).1 : Int))) hs (y_move rfl) ?_; clear hs; intro a w hs
      refine RL_bs1s hs rfl Tryd.underlying98 ti21 rfl rfl ?_; clear hs; intro v28 a w hs
      have hW29 : RW (tInt .i32) f [[.int .i32 (((Utf8.decode x2 y12).1 : Int))]] [((Utf8.decode x2 y12).1 : Int)] := RW.single (rfl)
      generalize hgrw30 : ([[.int .i32 (((Utf8.decode x2 y12).1 : Int))]] : List (List Value)) = rw30 at hs hW29; clear hgrw30
      obtain ⟨x33, hx34, hm⟩ := ob hm
      obtain ⟨hbx33, hex33⟩ := appM_some hx34
      have hW37 := hW10.append hW29; rw [hex33] at hW37
      refine RL_append (i := 1) hs rfl rfl rfl (Rd.st hs (.head _)) Tryd.underlying98 ti21 (by decide) (by rw [RW.len hW10, RW.len hW29]; exact hbx33) (.free rfl) (by decide) ?_; clear hs; intro v35 a w hs
      generalize hgx33 : rw9 ++ rw30 = rw36 at hs hW37; clear hgx33
      replace hs := hs.erase 0
      refine sy (v := v35) hs (y_assign rfl) ?_; clear hs; intro a w hs
      refine RL_nil ?_
      refine hK14 _ _ ?_; clear hK14
      refine W_exit ?_
      refine hB10 _ _ ?_
      exact ⟨x33, v35, rw36, hm, hW37, hs.sub ⟨rfl, rfl, rfl, trivial⟩⟩
     ·replace hm := oc_f hg27 hm
      refine W_skip ?_
      refine hK12 _ _ ?_; clear hK12
      refine W_seq fun K15 hK15 => ?_
      refine W_seq fun K16 hK16 => ?_
      refine W_post (fun a w => ∃ (y39 : Bool), ref10_word_k4 x2 y12 (ref10_word_l2 n p1 x2 k17) y39 = some res ∧ St 30 w0 f (.blk b4 (.stringIter x2 (y12 + (Utf8.decode x2 y12).2)) :: L) [(1, .string (p1)), (10, .pointer (some ⟨b4, 0, none⟩)), (29, .bool (y39))] a w) ?_ ?_
      ·clear hs hm
       rintro a w ⟨y39, hm, hs⟩
       unfold ref10_word_k4 at hm
       refine hK16 _ _ ?_; clear hK16
       refine W_cond hs rfl (fun hg40 => ?_) (fun hg40 => ?_)
       ·replace hm := oc_t hg40 hm
        refine W_seq fun K17 hK17 => ?_
        refine W_region ?_
        refine sy (v := .bool (true)) hs (y_assign rfl) ?_; clear hs; intro a w hs
        refine RL_nil ?_
        refine hK17 _ _ ?_; clear hK17
        refine W_ret ?_
        obtain rfl := Option.some.inj hm
        refine RtV1 hs rfl (rv_t hs rfl) ?_
        exact ⟨rfl, ((hs.subL (.cons _ (.refl _))).weak hle).cw⟩
       ·replace hm := oc_f hg40 hm
        refine W_skip ?_
        refine hK15 _ _ ?_; clear hK15
        refine W_region ?_
        refine sy (v := (.slice none 0 0)) hs (y_assign rfl) ?_; clear hs; intro a w hs
        refine RL_nil ?_
        replace hs := hs.nilRow 21 1
        have hW42 : RW (tInt .i32) f [] ([] : List Int) := trivial
        generalize hgrw43 : ([] : List (List Value)) = rw43 at hs hW42; clear hgrw43
        exact ⟨([] : List Int), (.slice none 0 0), rw43, hm, hW42, hs.sub ⟨rfl, rfl, rfl, trivial⟩⟩
      ·refine W_region ?_
       refine sy (v := v8) hs (y_move rfl) ?_; clear hs; intro a w hs
       refine sy hs (y_lenW (Rd.st hs (.head _)) hW10 rfl Tryd.underlying98) ?_; clear hs; intro a w hs
       refine sy hs (y_gtr rfl rfl) ?_; clear hs; intro a w hs
       refine sy (v := .bool (decide (0 < (y7.length : Int)))) hs (y_move rfl) ?_; clear hs; intro a w hs
       refine St.split hs (t := 24) rfl (fun hg46 hq => ?_) (fun hg46 hq => ?_)
       ·clear hs; have hs := hq; clear hq
        replace hm := oc_t hg46 hm
        refine syg (v := v8) hs (y_move rfl) ?_; clear hs; intro a w hs
        obtain ⟨x47, hx48, hm⟩ := ob hm
        refine syg hs (y_callCK (cap := []) rfl has57 rfl (fun w9 hw9 => callsP (Lr := [.row v8 21 1 rw9]) (Lf := .blk b4 (.stringIter x2 (y12 + (Utf8.decode x2 y12).2)) :: L) (perm_at _ 0 rfl) hw9 (fun Lz w9 hw9 => lent0 hw9 (fun f9_0 w9 hle9_0 hRl0 hw9 => (ref4_Small_ok n (f := f9_0) (a0 := v8) ⟨rw9, hRl0, hW10.le hle9_0⟩ hx48) w0 _ w9 hw9)))) ?_; clear hs; intro a w hs
        refine syg (v := .string (p1)) hs (y_move rfl) ?_; clear hs; intro a w hs
        refine syg hs (y_seql rfl rfl) ?_; clear hs; intro a w hs
        refine sy (v := .bool (decide (x47 = p1))) hs (y_pick rfl rfl) ?_; clear hs; intro a w hs
        refine RL_nil ?_
        exact ⟨decide (x47 = p1), hm, hs.subs ⟨rfl, rfl, rfl, trivial⟩ (.cons _ (.cons_cons _ (.refl _)))⟩
       ·clear hs; have hs := hq; clear hq
        replace hm := oc_f hg46 hm
        refine sno hs ?_; clear hs; intro a w hs
        refine sno hs ?_; clear hs; intro a w hs
        refine sno hs ?_; clear hs; intro a w hs
        refine sno hs ?_; clear hs; intro a w hs
        refine sy (v := .bool (false)) hs (y_pick rfl rfl) ?_; clear hs; intro a w hs
        refine RL_nil ?_
        exact ⟨false, hm, hs.subs ⟨rfl, rfl, rfl, trivial⟩ (.cons _ (.cons_cons _ (.refl _)))⟩
   ·replace hm := oc_f (decide_eq_false (Nat.not_lt.2 hg18)) hm; clear hs; intro a w hs
    refine sy (v := .bool (false)) hs (y_extract rfl rfl) ?_; clear hs; intro a w hs
    refine RL_nil ?_
    refine hK8 _ _ ?_; clear hK8
    refine W_seq fun K18 hK18 => ?_
    refine W_condF hs rfl ?_
    refine W_exit ?_
    refine hB6 _ _ ?_
    exact ⟨hm, hs.subs trivial (.cons _ (.cons _ (.refl _)))⟩
/-! casement/casementref10.holds -/
def ref10_holds_k1 : Option Bool :=
  some true
def ref10_holds_l2 (p0 : api_Tree) : Nat → Int → Option Bool
  | 0, _ => none
  | k41 + 1, y40 =>
  (bif (decide (0 ≤ y40)) then (geti p0.Nodes y40).bind fun x43 =>
  (bif (decide (x43.Kind = 1)) then some false else
  (geti p0.Nodes y40).bind fun x56 =>
  (ref10_holds_l2 p0 k41) x56.Next) else
  ref10_holds_k1)
def ref10_holds (n : Nat) (p0 : api_Tree) (p1 : Int) (p2 : ref9_Test) : Option Bool :=
  (ref5_Attr n p0 p1 (bs [105, 100])).bind fun x10 =>
  (ref5_Attr n p0 p1 (bs [99, 108, 97, 115, 115])).bind fun x12 =>
  (ref5_Attr n p0 p1 p2.Name).bind fun x14 =>
  (bif (decide (p2.Kind = 1)) then some (x10.2 && (decide (x10.1 = p2.Name))) else
  (bif (decide (p2.Kind = 2)) then (ref10_word n x12.1 p2.Name).bind fun x19 =>
  some x19 else
  (bif (decide (p2.Kind = 3)) then some x14.2 else
  (bif (decide (p2.Kind = 4)) then some (x14.2 && (decide (x14.1 = p2.Value))) else
  (bif (decide (p2.Kind = 5)) then (ref5_Index n p0 p1).bind fun x25 =>
  some (decide (x25 = 1)) else
  (bif (decide (p2.Kind = 6)) then (geti p0.Nodes p1).bind fun x28 =>
  ref10_holds_l2 p0 n x28.Next else
  (bif (decide (p2.Kind = 7)) then (ref5_Index n p0 p1).bind fun x69 =>
  some (decide (x69 = p2.N)) else
  some false)))))))
set_option maxRecDepth 20000 in
set_option maxHeartbeats 4000000 in
theorem ref10_holds_ok (n : Nat) {f : Fz} {p0 : api_Tree} {a0 : List Value} {p1 : Int} {p2 : ref9_Test} {a2 : List Value} {res : Bool} (h0 : t_api_Tree.R f a0 p0) (h2 : t_ref9_Test.R f a2 p2) (hm : ref10_holds n p0 p1 p2 = some res) : Gives Tryd.prog 41 [.agg a0.toArray, .int .i64 p1, .agg a2.toArray] f (.bool res) := by
 unfold ref10_holds at hm
 intro w0 L w hC
 obtain ⟨v1, rfl, ⟨rw2, hR3, hW4⟩⟩ := h0
 obtain rfl : _ = ([.int .i64 (p2.Kind), .string (p2.Name), .string (p2.Value), .int .i64 (p2.N)] : List Value) := h2
 refine enter Tryd.func41 rfl Tryd.ntmps41 (by simp) hC fun a hs => ?_
 have hle := Fz.le.refl f
 refine W_seq fun K1 hK1 => ?_
 refine W_region ?_
 refine sbox hs rfl ?_; clear hs; intro b6 a w hs
 refine sbox hs rfl ?_; clear hs; intro b8 a w hs
 refine sy (v := .bool (false)) hs (y_assign rfl) ?_; clear hs; intro a w hs
 refine RL_nil ?_
 refine hK1 _ _ ?_; clear hK1
 refine W_seq fun K2 hK2 => ?_
 refine W_region ?_
 refine sy hs (y_ldB rfl Tryd.underlying24 rfl ti24 (.tail _ (.head _)) rfl) ?_; clear hs; intro a w hs
 refine sy (v := .int .i64 (p1)) hs (y_move rfl) ?_; clear hs; intro a w hs
 obtain ⟨x10, hx11, hm⟩ := ob hm
 refine sy hs (y_call rfl has49 rfl (ref5_Attr_ok n (f := f) (a0 := [v1]) ⟨_, rfl, ⟨rw2, hR3, hW4⟩⟩ hx11)) ?_; clear hs; intro a w hs
 refine sy (v := .tuple #[.string (x10.1), .bool (x10.2)]) hs (y_move rfl) ?_; clear hs; intro a w hs
 refine sy (v := .string (x10.1)) hs (y_extract rfl rfl) ?_; clear hs; intro a w hs
 refine sy (v := .bool (x10.2)) hs (y_extract rfl rfl) ?_; clear hs; intro a w hs
 refine sy (v := .string (x10.1)) hs (y_assign rfl) ?_; clear hs; intro a w hs
 refine sy (v := .bool (x10.2)) hs (y_assign rfl) ?_; clear hs; intro a w hs
 refine RL_nil ?_
 refine hK2 _ _ ?_; clear hK2
 refine W_seq fun K3 hK3 => ?_
 refine W_region ?_
 refine sy hs (y_ldB rfl Tryd.underlying24 rfl ti24 (.tail _ (.head _)) rfl) ?_; clear hs; intro a w hs
 refine sy (v := .int .i64 (p1)) hs (y_move rfl) ?_; clear hs; intro a w hs
 obtain ⟨x12, hx13, hm⟩ := ob hm
 refine sy hs (y_call rfl has49 rfl (ref5_Attr_ok n (f := f) (a0 := [v1]) ⟨_, rfl, ⟨rw2, hR3, hW4⟩⟩ hx13)) ?_; clear hs; intro a w hs
 refine sy (v := .tuple #[.string (x12.1), .bool (x12.2)]) hs (y_move rfl) ?_; clear hs; intro a w hs
 refine sy (v := .string (x12.1)) hs (y_extract rfl rfl) ?_; clear hs; intro a w hs
 refine sy (v := .bool (x12.2)) hs (y_extract rfl rfl) ?_; clear hs; intro a w hs
 refine sy (v := .string (x12.1)) hs (y_assign rfl) ?_; clear hs; intro a w hs
 refine sy (v := .bool (x12.2)) hs (y_assign rfl) ?_; clear hs; intro a w hs
 refine RL_nil ?_
 refine hK3 _ _ ?_; clear hK3
 refine W_seq fun K4 hK4 => ?_
 refine W_region ?_
 refine sy hs (y_ldB rfl Tryd.underlying24 rfl ti24 (.tail _ (.head _)) rfl) ?_; clear hs; intro a w hs
 refine sy (v := .int .i64 (p1)) hs (y_move rfl) ?_; clear hs; intro a w hs
 refine sy (v := .pointer (some ⟨b8, 1, none⟩)) hs (y_fieldAddr rfl (FO.of (off := 1) Tryd.underlying85 rfl rfl ti9 (by decide))) ?_; clear hs; intro a w hs
 refine sy (v := .string (p2.Name)) hs (y_ld rfl Tryd.underlying9 rfl (Cell.blk (.head _) rfl)) ?_; clear hs; intro a w hs
 obtain ⟨x14, hx15, hm⟩ := ob hm
 refine sy hs (y_call rfl has49 rfl (ref5_Attr_ok n (f := f) (a0 := [v1]) ⟨_, rfl, ⟨rw2, hR3, hW4⟩⟩ hx15)) ?_; clear hs; intro a w hs
 refine sy (v := .tuple #[.string (x14.1), .bool (x14.2)]) hs (y_move rfl) ?_; clear hs; intro a w hs
 refine sy (v := .string (x14.1)) hs (y_extract rfl rfl) ?_; clear hs; intro a w hs
 refine sy (v := .bool (x14.2)) hs (y_extract rfl rfl) ?_; clear hs; intro a w hs
 refine sy (v := .string (x14.1)) hs (y_assign rfl) ?_; clear hs; intro a w hs
 refine sy (v := .bool (x14.2)) hs (y_assign rfl) ?_; clear hs; intro a w hs
 refine RL_nil ?_
 refine hK4 _ _ ?_; clear hK4
 refine W_seq fun K5 hK5 => ?_
 refine W_seq fun K6 hK6 => ?_
 refine W_region ?_
 refine sy (v := .pointer (some ⟨b8, 0, none⟩)) hs (y_fieldAddr rfl (FO.of (off := 0) Tryd.underlying85 rfl rfl ti3 (by decide))) ?_; clear hs; intro a w hs
 refine sy (v := .int .i64 (p2.Kind)) hs (y_ld rfl Tryd.underlying3 rfl (Cell.blk (.head _) rfl)) ?_; clear hs; intro a w hs
 refine RL_nil ?_
 refine hK6 _ _ ?_; clear hK6
 refine W_block fun Qe7 hB7 hO7 => ?_
 refine W_seq fun K8 hK8 => ?_
 refine W_region ?_
 refine sy hs (y_eql rfl rfl) ?_; clear hs; intro a w hs
 refine sy (v := .bool (decide (p2.Kind = 1))) hs (y_assign rfl) ?_; clear hs; intro a w hs
 refine RL_nil ?_
 refine hK8 _ _ ?_; clear hK8
 refine W_cond hs rfl (fun hg16 => ?_) (fun hg16 => ?_)
 ·replace hm := oc_t hg16 hm
  refine W_seq fun K9 hK9 => ?_
  refine W_post (fun a w => St 100 w0 f (.blk b8 (.cells #[.int .i64 (p2.Kind), .string (p2.Name), .string (p2.Value), .int .i64 (p2.N)] 85 (0, 0)) :: .blk b6 (.cells #[v1] 24 (0, 0)) :: L) [(6, .bool ((x10.2 && (decide (x10.1 = p2.Name)))))] a w) ?_ ?_
  ·clear hs; intro a w hs
   refine hK9 _ _ ?_; clear hK9
   refine W_ret ?_
   obtain rfl := Option.some.inj hm
   refine RtV1 hs rfl (rv_t hs rfl) ?_
   exact ⟨rfl, ((hs.subL (.cons _ (.cons _ (.refl _)))).weak hle).cw⟩
  ·refine W_region ?_
   refine sy (v := .bool (x10.2)) hs (y_move rfl) ?_; clear hs; intro a w hs
   refine sy (v := .bool (x10.2)) hs (y_move rfl) ?_; clear hs; intro a w hs
   refine St.split hs (t := 39) rfl (fun hg17 hq => ?_) (fun hg17 hq => ?_)
   ·clear hs; have hs := hq; clear hq
    refine syg (v := .string (x10.1)) hs (y_move rfl) ?_; clear hs; intro a w hs
    refine syg (v := .pointer (some ⟨b8, 1, none⟩)) hs (y_fieldAddr rfl (FO.of (off := 1) Tryd.underlying85 rfl rfl ti9 (by decide))) ?_; clear hs; intro a w hs
    refine syg (v := .string (p2.Name)) hs (y_ld rfl Tryd.underlying9 rfl (Cell.blk (.head _) rfl)) ?_; clear hs; intro a w hs
    refine syg hs (y_seql rfl rfl) ?_; clear hs; intro a w hs
    refine sy (v := .bool (decide (x10.1 = p2.Name))) hs (y_pick rfl rfl) ?_; clear hs; intro a w hs
    refine sy (v := .bool (decide (x10.1 = p2.Name))) hs (y_assign rfl) ?_; clear hs; intro a w hs
    refine RL_nil ?_
    exact hs.sub ⟨(lkB (((and_t hg17).trans rfl)) rfl), trivial⟩
   ·clear hs; have hs := hq; clear hq
    refine sno hs ?_; clear hs; intro a w hs
    refine sno hs ?_; clear hs; intro a w hs
    refine sno hs ?_; clear hs; intro a w hs
    refine sno hs ?_; clear hs; intro a w hs
    refine sy (v := .bool (false)) hs (y_pick rfl rfl) ?_; clear hs; intro a w hs
    refine sy (v := .bool (false)) hs (y_assign rfl) ?_; clear hs; intro a w hs
    refine RL_nil ?_
    exact hs.sub ⟨(lkB (((and_f hg17).trans rfl)) rfl), trivial⟩
 ·replace hm := oc_f hg16 hm
  refine W_seq fun K10 hK10 => ?_
  refine W_region ?_
  refine sy hs (y_eql rfl rfl) ?_; clear hs; intro a w hs
  refine sy (v := .bool (decide (p2.Kind = 2))) hs (y_assign rfl) ?_; clear hs; intro a w hs
  refine RL_nil ?_
  refine hK10 _ _ ?_; clear hK10
  refine W_cond hs rfl (fun hg18 => ?_) (fun hg18 => ?_)
  ·replace hm := oc_t hg18 hm
   refine W_seq fun K11 hK11 => ?_
   refine W_region ?_
   refine sy (v := .string (x12.1)) hs (y_move rfl) ?_; clear hs; intro a w hs
   refine sy (v := .pointer (some ⟨b8, 1, none⟩)) hs (y_fieldAddr rfl (FO.of (off := 1) Tryd.underlying85 rfl rfl ti9 (by decide))) ?_; clear hs; intro a w hs
   refine sy (v := .string (p2.Name)) hs (y_ld rfl Tryd.underlying9 rfl (Cell.blk (.head _) rfl)) ?_; clear hs; intro a w hs
   obtain ⟨x19, hx20, hm⟩ := ob hm
   refine sy hs (y_call rfl has50 rfl (ref10_word_ok n (f := f)  hx20)) ?_; clear hs; intro a w hs
   refine sy (v := .bool (x19)) hs (y_assign rfl) ?_; clear hs; intro a w hs
   refine RL_nil ?_
   refine hK11 _ _ ?_; clear hK11
   refine W_ret ?_
   obtain rfl := Option.some.inj hm
   refine RtV1 hs rfl (rv_t hs rfl) ?_
   exact ⟨rfl, ((hs.subL (.cons _ (.cons _ (.refl _)))).weak hle).cw⟩
  ·replace hm := oc_f hg18 hm
   refine W_seq fun K12 hK12 => ?_
   refine W_region ?_
   refine sy hs (y_eql rfl rfl) ?_; clear hs; intro a w hs
   refine sy (v := .bool (decide (p2.Kind = 3))) hs (y_assign rfl) ?_; clear hs; intro a w hs
   refine RL_nil ?_
   refine hK12 _ _ ?_; clear hK12
   refine W_cond hs rfl (fun hg21 => ?_) (fun hg21 => ?_)
   ·replace hm := oc_t hg21 hm
    refine W_seq fun K13 hK13 => ?_
    refine W_region ?_
    refine sy (v := .bool (x14.2)) hs (y_move rfl) ?_; clear hs; intro a w hs
    refine sy (v := .bool (x14.2)) hs (y_assign rfl) ?_; clear hs; intro a w hs
    refine RL_nil ?_
    refine hK13 _ _ ?_; clear hK13
    refine W_ret ?_
    obtain rfl := Option.some.inj hm
    refine RtV1 hs rfl (rv_t hs rfl) ?_
    exact ⟨rfl, ((hs.subL (.cons _ (.cons _ (.refl _)))).weak hle).cw⟩
   ·replace hm := oc_f hg21 hm
    refine W_seq fun K14 hK14 => ?_
    refine W_region ?_
    refine sy hs (y_eql rfl rfl) ?_; clear hs; intro a w hs
    refine sy (v := .bool (decide (p2.Kind = 4))) hs (y_assign rfl) ?_; clear hs; intro a w hs
    refine RL_nil ?_
    refine hK14 _ _ ?_; clear hK14
    refine W_cond hs rfl (fun hg22 => ?_) (fun hg22 => ?_)
    ·replace hm := oc_t hg22 hm
     refine W_seq fun K15 hK15 => ?_
     refine W_post (fun a w => St 100 w0 f (.blk b8 (.cells #[.int .i64 (p2.Kind), .string (p2.Name), .string (p2.Value), .int .i64 (p2.N)] 85 (0, 0)) :: .blk b6 (.cells #[v1] 24 (0, 0)) :: L) [(6, .bool ((x14.2 && (decide (x14.1 = p2.Value)))))] a w) ?_ ?_
     ·clear hs; intro a w hs
      refine hK15 _ _ ?_; clear hK15
      refine W_ret ?_
      obtain rfl := Option.some.inj hm
      refine RtV1 hs rfl (rv_t hs rfl) ?_
      exact ⟨rfl, ((hs.subL (.cons _ (.cons _ (.refl _)))).weak hle).cw⟩
     ·refine W_region ?_
      refine sy (v := .bool (x14.2)) hs (y_move rfl) ?_; clear hs; intro a w hs
      refine sy (v := .bool (x14.2)) hs (y_move rfl) ?_; clear hs; intro a w hs
      refine St.split hs (t := 57) rfl (fun hg23 hq => ?_) (fun hg23 hq => ?_)
      ·clear hs; have hs := hq; clear hq
       refine syg (v := .string (x14.1)) hs (y_move rfl) ?_; clear hs; intro a w hs
       refine syg (v := .pointer (some ⟨b8, 2, none⟩)) hs (y_fieldAddr rfl (FO.of (off := 2) Tryd.underlying85 rfl rfl ti9 (by decide))) ?_; clear hs; intro a w hs
       refine syg (v := .string (p2.Value)) hs (y_ld rfl Tryd.underlying9 rfl (Cell.blk (.head _) rfl)) ?_; clear hs; intro a w hs
       refine syg hs (y_seql rfl rfl) ?_; clear hs; intro a w hs
       refine sy (v := .bool (decide (x14.1 = p2.Value))) hs (y_pick rfl rfl) ?_; clear hs; intro a w hs
       refine sy (v := .bool (decide (x14.1 = p2.Value))) hs (y_assign rfl) ?_; clear hs; intro a w hs
       refine RL_nil ?_
       exact hs.sub ⟨(lkB (((and_t hg23).trans rfl)) rfl), trivial⟩
      ·clear hs; have hs := hq; clear hq
       refine sno hs ?_; clear hs; intro a w hs
       refine sno hs ?_; clear hs; intro a w hs
       refine sno hs ?_; clear hs; intro a w hs
       refine sno hs ?_; clear hs; intro a w hs
       refine sy (v := .bool (false)) hs (y_pick rfl rfl) ?_; clear hs; intro a w hs
       refine sy (v := .bool (false)) hs (y_assign rfl) ?_; clear hs; intro a w hs
       refine RL_nil ?_
       exact hs.sub ⟨(lkB (((and_f hg23).trans rfl)) rfl), trivial⟩
    ·replace hm := oc_f hg22 hm
     refine W_seq fun K16 hK16 => ?_
     refine W_region ?_
     refine sy hs (y_eql rfl rfl) ?_; clear hs; intro a w hs
     refine sy (v := .bool (decide (p2.Kind = 5))) hs (y_assign rfl) ?_; clear hs; intro a w hs
     refine RL_nil ?_
     refine hK16 _ _ ?_; clear hK16
     refine W_cond hs rfl (fun hg24 => ?_) (fun hg24 => ?_)
     ·replace hm := oc_t hg24 hm
      refine W_seq fun K17 hK17 => ?_
      refine W_region ?_
      refine sy hs (y_ldB rfl Tryd.underlying24 rfl ti24 (.tail _ (.head _)) rfl) ?_; clear hs; intro a w hs
      refine sy (v := .int .i64 (p1)) hs (y_move rfl) ?_; clear hs; intro a w hs
      obtain ⟨x25, hx26, hm⟩ := ob hm
      refine sy hs (y_call rfl has51 rfl (ref5_Index_ok n (f := f) (a0 := [v1]) ⟨_, rfl, ⟨rw2, hR3, hW4⟩⟩ hx26)) ?_; clear hs; intro a w hs
      refine sy hs (y_eql rfl rfl) ?_; clear hs; intro a w hs
      refine sy (v := .bool (decide (x25 = 1))) hs (y_assign rfl) ?_; clear hs; intro a w hs
      refine RL_nil ?_
      refine hK17 _ _ ?_; clear hK17
      refine W_ret ?_
      obtain rfl := Option.some.inj hm
      refine RtV1 hs rfl (rv_t hs rfl) ?_
      exact ⟨rfl, ((hs.subL (.cons _ (.cons _ (.refl _)))).weak hle).cw⟩
     ·replace hm := oc_f hg24 hm
      refine W_seq fun K18 hK18 => ?_
      refine W_region ?_
      refine sy hs (y_eql rfl rfl) ?_; clear hs; intro a w hs
      refine sy (v := .bool (decide (p2.Kind = 6))) hs (y_assign rfl) ?_; clear hs; intro a w hs
      refine RL_nil ?_
      refine hK18 _ _ ?_; clear hK18
      refine W_cond hs rfl (fun hg27 => ?_) (fun hg27 => ?_)
      ·replace hm := oc_t hg27 hm
       refine W_seq fun K19 hK19 => ?_
       refine W_seq fun K20 hK20 => ?_
       refine W_region ?_
       refine sy (v := .pointer (some ⟨b6, 0, none⟩)) hs (y_fieldAddr rfl (FO.of (off := 0) Tryd.underlying24 rfl rfl ti22 (by decide))) ?_; clear hs; intro a w hs
       refine sy (v := v1) hs (y_ld rfl Tryd.underlying22 rfl (Cell.blk (.tail _ (.head _)) rfl)) ?_; clear hs; intro a w hs
       refine sy (v := .int .i64 (p1)) hs (y_move rfl) ?_; clear hs; intro a w hs
       obtain ⟨x28, hx29, hm⟩ := ob hm
       obtain ⟨r30, hr31, hq32, hi33, hb34⟩ := hW4.geti hx29
       obtain ⟨v35, rfl, ⟨rw36, hR37, hW38⟩⟩ := hq32
       refine sy hs (y_indexAddr hR3 rfl rfl hi33 hb34 Tryd.underlying22 ti42) ?_; clear hs; intro a w hs
       refine sy (v := eaddr v1 9 p1.toNat 8) hs (y_fieldAddrE (i := p1.toNat) (j := 0) hR3 rfl hb34 (FO.of (off := 8) Tryd.underlying42 rfl rfl ti3 (by decide))) ?_; clear hs; intro a w hs
       refine sy (v := .int .i64 (x28.Next)) hs (y_loadE (i := p1.toNat) (j := 8) hR3.up rfl hr31 rfl Tryd.underlying3 rfl) ?_; clear hs; intro a w hs
       refine sy (v := .int .i64 (x28.Next)) hs (y_assign rfl) ?_; clear hs; intro a w hs
       refine RL_nil ?_
       refine hK20 _ _ ?_; clear hK20
       refine W_post (fun a w => ref10_holds_k1 = some res ∧ St 100 w0 f (L) [] a w) ?_ ?_
       ·clear hs hm
        rintro a w ⟨hm, hs⟩
        unfold ref10_holds_k1 at hm
        refine hK19 _ _ ?_; clear hK19
        refine W_seq fun K21 hK21 => ?_
        refine W_region ?_
        refine sy (v := .bool (true)) hs (y_assign rfl) ?_; clear hs; intro a w hs
        refine RL_nil ?_
        refine hK21 _ _ ?_; clear hK21
        refine W_ret ?_
        obtain rfl := Option.some.inj hm
        refine RtV1 hs rfl (rv_t hs rfl) ?_
        exact ⟨rfl, (hs.weak hle).cw⟩
       ·refine W_block fun Qe22 hB22 hO22 => ?_
        refine W_loop (fun (k : Nat) a w => ∃ (y40 : Int), ref10_holds_l2 p0 k y40 = some res ∧ St 100 w0 f (.blk b6 (.cells #[v1] 24 (0, 0)) :: L) [(3, .pointer (some ⟨b6, 0, none⟩)), (13, .int .i64 (y40))] a w) (fun k => k) n ⟨x28.Next, hm, hs.subs ⟨rfl, rfl, trivial⟩ (.cons _ (.cons_cons _ (.refl _)))⟩ ?_
        clear hs hm
        intro k
        rintro a w ⟨y40, hm, hs⟩
        intro K23 hK23
        cases k with
        | zero => simp [ref10_holds_l2] at hm
        | succ k41 =>
         rw [ref10_holds_l2] at hm
         refine W_seq fun K24 hK24 => ?_
         refine W_seq fun K25 hK25 => ?_
         refine W_region ?_
         refine sy (v := .int .i64 (y40)) hs (y_move rfl) ?_; clear hs; intro a w hs
         refine sy hs (y_geq rfl rfl) ?_; clear hs; intro a w hs
         refine RL_nil ?_
         refine hK25 _ _ ?_; clear hK25
         refine W_cond hs rfl (fun hg42 => ?_) (fun hg42 => ?_)
         ·replace hm := oc_t hg42 hm
          refine W_skip ?_
          refine hK24 _ _ ?_; clear hK24
          refine W_seq fun K26 hK26 => ?_
          refine W_block fun Qe27 hB27 hO27 => ?_
          refine W_seq fun K28 hK28 => ?_
          refine W_region ?_
          refine sy (v := .pointer (some ⟨b6, 0, none⟩)) hs (y_fieldAddr rfl (FO.of (off := 0) Tryd.underlying24 rfl rfl ti22 (by decide))) ?_; clear hs; intro a w hs
          refine sy (v := v1) hs (y_ld rfl Tryd.underlying22 rfl (Cell.blk (.head _) rfl)) ?_; clear hs; intro a w hs
          refine sy (v := .int .i64 (y40)) hs (y_move rfl) ?_; clear hs; intro a w hs
          obtain ⟨x43, hx44, hm⟩ := ob hm
          obtain ⟨r45, hr46, hq47, hi48, hb49⟩ := hW4.geti hx44
          obtain ⟨v50, rfl, ⟨rw51, hR52, hW53⟩⟩ := hq47
          refine sy hs (y_indexAddr hR3 rfl rfl hi48 hb49 Tryd.underlying22 ti42) ?_; clear hs; intro a w hs
          refine sy (v := eaddr v1 9 y40.toNat 0) hs (y_fieldAddrE (i := y40.toNat) (j := 0) hR3 rfl hb49 (FO.of (off := 0) Tryd.underlying42 rfl rfl ti3 (by decide))) ?_; clear hs; intro a w hs
          refine sy (v := .int .i64 (x43.Kind)) hs (y_loadE (i := y40.toNat) (j := 0) hR3.up rfl hr46 rfl Tryd.underlying3 rfl) ?_; clear hs; intro a w hs
          refine sy hs (y_eql rfl rfl) ?_; clear hs; intro a w hs
          refine RL_nil ?_
          refine hK28 _ _ ?_; clear hK28
          refine W_cond hs rfl (fun hg55 => ?_) (fun hg55 => ?_)
          ·replace hm := oc_t hg55 hm
           refine W_seq fun K29 hK29 => ?_
           refine W_region ?_
           refine sy (v := .bool (false)) hs (y_assign rfl) ?_; clear hs; intro a w hs
           refine RL_nil ?_
           refine hK29 _ _ ?_; clear hK29
           refine W_ret ?_
           obtain rfl := Option.some.inj hm
           refine RtV1 hs rfl (rv_t hs rfl) ?_
           exact ⟨rfl, ((hs.subL (.cons _ (.refl _))).weak hle).cw⟩
          ·replace hm := oc_f hg55 hm
           refine W_skip ?_
           refine hK26 _ _ ?_; clear hK26
           refine W_region ?_
           refine sy (v := .pointer (some ⟨b6, 0, none⟩)) hs (y_fieldAddr rfl (FO.of (off := 0) Tryd.underlying24 rfl rfl ti22 (by decide))) ?_; clear hs; intro a w hs
           refine sy (v := v1) hs (y_ld rfl Tryd.underlying22 rfl (Cell.blk (.head _) rfl)) ?_; clear hs; intro a w hs
           refine sy (v := .int .i64 (y40)) hs (y_move rfl) ?_; clear hs; intro a w hs
           obtain ⟨x56, hx57, hm⟩ := ob hm
           obtain ⟨r58, hr59, hq60, hi61, hb62⟩ := hW4.geti hx57
           obtain ⟨v63, rfl, ⟨rw64, hR65, hW66⟩⟩ := hq60
           refine sy hs (y_indexAddr hR3 rfl rfl hi61 hb62 Tryd.underlying22 ti42) ?_; clear hs; intro a w hs
           refine sy (v := eaddr v1 9 y40.toNat 8) hs (y_fieldAddrE (i := y40.toNat) (j := 0) hR3 rfl hb62 (FO.of (off := 8) Tryd.underlying42 rfl rfl ti3 (by decide))) ?_; clear hs; intro a w hs
           refine sy (v := .int .i64 (x56.Next)) hs (y_loadE (i := y40.toNat) (j := 8) hR3.up rfl hr59 rfl Tryd.underlying3 rfl) ?_; clear hs; intro a w hs
           refine sy (v := .int .i64 (x56.Next)) hs (y_assign rfl) ?_; clear hs; intro a w hs
           refine RL_nil ?_
           exact hK23 k41 _ _ (Nat.lt_succ_self _) ⟨x56.Next, hm, hs.sub ⟨rfl, rfl, trivial⟩⟩
         ·replace hm := oc_f hg42 hm
          refine W_exit ?_
          refine hB22 _ _ ?_
          exact ⟨hm, hs.subs trivial (.cons _ (.refl _))⟩
      ·replace hm := oc_f hg27 hm
       refine W_seq fun K30 hK30 => ?_
       refine W_region ?_
       refine sy hs (y_eql rfl rfl) ?_; clear hs; intro a w hs
       refine sy (v := .bool (decide (p2.Kind = 7))) hs (y_assign rfl) ?_; clear hs; intro a w hs
       refine RL_nil ?_
       refine hK30 _ _ ?_; clear hK30
       refine W_cond hs rfl (fun hg68 => ?_) (fun hg68 => ?_)
       ·replace hm := oc_t hg68 hm
        refine W_seq fun K31 hK31 => ?_
        refine W_draw hs mixed (by kernel_rfl) ?_; intro a he
        refine qy he (y_ldB rfl Tryd.underlying24 rfl ti24 (.tail _ (.head _)) rfl) ?_; clear he; intro a he
        refine qy (v := .int .i64 (p1)) he (y_move rfl) ?_; clear he; intro a he
        obtain ⟨x69, hx70, hm⟩ := ob hm
        refine qy he (y_call rfl has51 rfl (ref5_Index_ok n (f := f) (a0 := [v1]) ⟨_, rfl, ⟨rw2, hR3, hW4⟩⟩ hx70)) ?_; clear he; intro a he
        refine qy (v := .pointer (some ⟨b8, 3, none⟩)) he (y_fieldAddr rfl (FO.of (off := 3) Tryd.underlying85 rfl rfl ti3 (by decide))) ?_; clear he; intro a he
        refine qy (v := .int .i64 (p2.N)) he (y_ld rfl Tryd.underlying3 rfl (Cell.blk (.head _) rfl)) ?_; clear he; intro a he
        refine qy he (y_eql rfl rfl) ?_; clear he; intro a he
        refine qy (v := .bool (decide (x69 = p2.N))) he (y_assign rfl) ?_; clear he; intro a he
        refine QL_nil he ?_; clear he; (try clear hs); intro a w hs
        refine hK31 _ _ ?_; clear hK31
        refine W_ret ?_
        obtain rfl := Option.some.inj hm
        refine RtV1 hs rfl (rv_t hs rfl) ?_
        exact ⟨rfl, ((hs.subL (.cons _ (.cons _ (.refl _)))).weak hle).cw⟩
       ·replace hm := oc_f hg68 hm
        refine W_skip ?_
        refine hK5 _ _ ?_; clear hK5
        refine W_seq fun K32 hK32 => ?_
        refine W_region ?_
        refine sy (v := .bool (false)) hs (y_assign rfl) ?_; clear hs; intro a w hs
        refine RL_nil ?_
        refine hK32 _ _ ?_; clear hK32
        refine W_ret ?_
        obtain rfl := Option.some.inj hm
        refine RtV1 hs rfl (rv_t hs rfl) ?_
        exact ⟨rfl, ((hs.subL (.cons _ (.cons _ (.refl _)))).weak hle).cw⟩
/-! casement/casementref10.means -/
def ref10_means_k2 : Option Bool :=
  some true
def ref10_means_l3 (n : Nat) (p0 : api_Tree) (p1 : Int) (p2 : ref9_Step) : Nat → Int → Option Bool
  | 0, _ => none
  | k18 + 1, y17 =>
  (bif (decide (y17 < (p2.Tests.length : Int))) then (geti p2.Tests y17).bind fun x20 =>
  (ref10_holds n p0 p1 x20).bind fun x27 =>
  (bif (!x27) then some false else
  (ref10_means_l3 n p0 p1 p2 k18) (w64 (y17 + 1))) else
  ref10_means_k2)
def ref10_means_k1 (n : Nat) (p0 : api_Tree) (p1 : Int) (p2 : ref9_Step) (y15 : Bool) : Option Bool :=
  (bif y15 then some false else
  ref10_means_l3 n p0 p1 p2 n 0)
def ref10_means (n : Nat) (p0 : api_Tree) (p1 : Int) (p2 : ref9_Step) : Option Bool :=
  (geti p0.Nodes p1).bind fun x30 =>
  (bif (decide (x30.Kind ≠ 1)) then ref10_means_k1 n p0 p1 p2 true else
  (bif (decide (p2.Name ≠ (bs []))) then (geti p0.Nodes p1).bind fun x44 =>
  ref10_means_k1 n p0 p1 p2 (decide (p2.Name ≠ x44.Name)) else
  ref10_means_k1 n p0 p1 p2 false))
set_option maxRecDepth 20000 in
set_option maxHeartbeats 4000000 in
theorem ref10_means_ok (n : Nat) {f : Fz} {p0 : api_Tree} {a0 : List Value} {p1 : Int} {p2 : ref9_Step} {a2 : List Value} {res : Bool} (h0 : t_api_Tree.R f a0 p0) (h2 : t_ref9_Step.R f a2 p2) (hm : ref10_means n p0 p1 p2 = some res) : Gives Tryd.prog 35 [.agg a0.toArray, .int .i64 p1, .agg a2.toArray] f (.bool res) := by
 unfold ref10_means at hm
 intro w0 L w hC
 obtain ⟨v1, rfl, ⟨rw2, hR3, hW4⟩⟩ := h0
 obtain ⟨v6, rfl, ⟨rw7, hR8, hW9⟩⟩ := h2
 refine enter Tryd.func35 rfl Tryd.ntmps35 (by simp) hC fun a hs => ?_
 have hle := Fz.le.refl f
 refine W_seq fun K1 hK1 => ?_
 refine W_region ?_
 refine sbox hs rfl ?_; clear hs; intro b11 a w hs
 refine sbox hs rfl ?_; clear hs; intro b13 a w hs
 refine sy (v := .bool (false)) hs (y_assign rfl) ?_; clear hs; intro a w hs
 refine RL_nil ?_
 refine hK1 _ _ ?_; clear hK1
 refine W_seq fun K2 hK2 => ?_
 refine W_seq fun K3 hK3 => ?_
 refine W_post (fun a w => ∃ (y15 : Bool), ref10_means_k1 n p0 p1 p2 y15 = some res ∧ St 47 w0 f (.blk b13 (.cells #[.int .i64 (p2.Comb), .string (p2.Name), v6] 84 (0, 0)) :: .blk b11 (.cells #[v1] 24 (0, 0)) :: L) [(1, .int .i64 (p1)), (3, .pointer (some ⟨b11, 0, none⟩)), (5, .pointer (some ⟨b13, 0, none⟩)), (30, .bool (y15))] a w) ?_ ?_
 ·clear hs hm
  rintro a w ⟨y15, hm, hs⟩
  unfold ref10_means_k1 at hm
  refine hK3 _ _ ?_; clear hK3
  refine W_cond hs rfl (fun hg16 => ?_) (fun hg16 => ?_)
  ·replace hm := oc_t hg16 hm
   refine W_seq fun K4 hK4 => ?_
   refine W_region ?_
   refine sy (v := .bool (false)) hs (y_assign rfl) ?_; clear hs; intro a w hs
   refine RL_nil ?_
   refine hK4 _ _ ?_; clear hK4
   refine W_ret ?_
   obtain rfl := Option.some.inj hm
   refine RtV1 hs rfl (rv_t hs rfl) ?_
   exact ⟨rfl, ((hs.subL (.cons _ (.cons _ (.refl _)))).weak hle).cw⟩
  ·replace hm := oc_f hg16 hm
   refine W_skip ?_
   refine hK2 _ _ ?_; clear hK2
   refine W_seq fun K5 hK5 => ?_
   refine W_seq fun K6 hK6 => ?_
   refine W_region ?_
   refine sy (v := .int .i64 (0)) hs (y_assign rfl) ?_; clear hs; intro a w hs
   refine RL_nil ?_
   refine hK6 _ _ ?_; clear hK6
   refine W_post (fun a w => ref10_means_k2 = some res ∧ St 47 w0 f (L) [] a w) ?_ ?_
   ·clear hs hm
    rintro a w ⟨hm, hs⟩
    unfold ref10_means_k2 at hm
    refine hK5 _ _ ?_; clear hK5
    refine W_seq fun K7 hK7 => ?_
    refine W_region ?_
    refine sy (v := .bool (true)) hs (y_assign rfl) ?_; clear hs; intro a w hs
    refine RL_nil ?_
    refine hK7 _ _ ?_; clear hK7
    refine W_ret ?_
    obtain rfl := Option.some.inj hm
    refine RtV1 hs rfl (rv_t hs rfl) ?_
    exact ⟨rfl, (hs.weak hle).cw⟩
   ·refine W_block fun Qe8 hB8 hO8 => ?_
    refine W_loop (fun (k : Nat) a w => ∃ (y17 : Int), ref10_means_l3 n p0 p1 p2 k y17 = some res ∧ St 47 w0 f (.blk b13 (.cells #[.int .i64 (p2.Comb), .string (p2.Name), v6] 84 (0, 0)) :: .blk b11 (.cells #[v1] 24 (0, 0)) :: L) [(1, .int .i64 (p1)), (3, .pointer (some ⟨b11, 0, none⟩)), (5, .pointer (some ⟨b13, 0, none⟩)), (7, .int .i64 (y17))] a w) (fun k => k) n ⟨0, hm, hs.sub ⟨rfl, rfl, rfl, rfl, trivial⟩⟩ ?_
    clear hs hm
    intro k
    rintro a w ⟨y17, hm, hs⟩
    intro K9 hK9
    cases k with
    | zero => simp [ref10_means_l3] at hm
    | succ k18 =>
     rw [ref10_means_l3] at hm
     refine W_seq fun K10 hK10 => ?_
     refine W_seq fun K11 hK11 => ?_
     refine W_region ?_
     refine sy (v := .int .i64 (y17)) hs (y_move rfl) ?_; clear hs; intro a w hs
     refine sy (v := .pointer (some ⟨b13, 2, none⟩)) hs (y_fieldAddr rfl (FO.of (off := 2) Tryd.underlying84 rfl rfl ti82 (by decide))) ?_; clear hs; intro a w hs
     refine sy (v := v6) hs (y_ld rfl Tryd.underlying82 rfl (Cell.blk (.head _) rfl)) ?_; clear hs; intro a w hs
     refine sy hs (y_lenW hR8 hW9 rfl Tryd.underlying82) ?_; clear hs; intro a w hs
     refine sy hs (y_lss rfl rfl) ?_; clear hs; intro a w hs
     refine RL_nil ?_
     refine hK11 _ _ ?_; clear hK11
     refine W_cond hs rfl (fun hg19 => ?_) (fun hg19 => ?_)
     ·replace hm := oc_t hg19 hm
      refine W_skip ?_
      refine hK10 _ _ ?_; clear hK10
      refine W_seq fun K12 hK12 => ?_
      refine W_block fun Qe13 hB13 hO13 => ?_
      refine W_seq fun K14 hK14 => ?_
      refine W_draw hs mixed (by kernel_rfl) ?_; intro a he
      refine qy he (y_ldB rfl Tryd.underlying24 rfl ti24 (.tail _ (.head _)) rfl) ?_; clear he; intro a he
      refine qy (v := .int .i64 (p1)) he (y_move rfl) ?_; clear he; intro a he
      refine qy (v := .pointer (some ⟨b13, 2, none⟩)) he (y_fieldAddr rfl (FO.of (off := 2) Tryd.underlying84 rfl rfl ti82 (by decide))) ?_; clear he; intro a he
      refine qy (v := v6) he (y_ld rfl Tryd.underlying82 rfl (Cell.blk (.head _) rfl)) ?_; clear he; intro a he
      refine qy (v := .int .i64 (y17)) he (y_move rfl) ?_; clear he; intro a he
      obtain ⟨x20, hx21, hm⟩ := ob hm
      obtain ⟨r22, hr23, hq24, hi25, hb26⟩ := hW9.geti hx21
      obtain rfl : _ = ([.int .i64 (x20.Kind), .string (x20.Name), .string (x20.Value), .int .i64 (x20.N)] : List Value) := hq24
      refine qy he (y_indexAddr hR8 rfl rfl hi25 hb26 Tryd.underlying82 ti85) ?_; clear he; intro a he
      refine qy he (y_loadRow hR8.up rfl hr23 Tryd.underlying85 rfl ti85) ?_; clear he; intro a he
      obtain ⟨x27, hx28, hm⟩ := ob hm
      refine qy he (y_call rfl has41 rfl (ref10_holds_ok n (f := f) (a0 := [v1]) (a2 := [.int .i64 (x20.Kind), .string (x20.Name), .string (x20.Value), .int .i64 (x20.N)]) ⟨_, rfl, ⟨rw2, hR3, hW4⟩⟩ rfl hx28)) ?_; clear he; intro a he
      refine qy (v := .bool ((!x27))) he (y_not rfl) ?_; clear he; intro a he
      refine QL_nil he ?_; clear he; (try clear hs); intro a w hs
      refine hK14 _ _ ?_; clear hK14
      refine W_cond hs rfl (fun hg29 => ?_) (fun hg29 => ?_)
      ·replace hm := oc_t hg29 hm
       refine W_seq fun K15 hK15 => ?_
       refine W_region ?_
       refine sy (v := .bool (false)) hs (y_assign rfl) ?_; clear hs; intro a w hs
       refine RL_nil ?_
       refine hK15 _ _ ?_; clear hK15
       refine W_ret ?_
       obtain rfl := Option.some.inj hm
       refine RtV1 hs rfl (rv_t hs rfl) ?_
       exact ⟨rfl, ((hs.subL (.cons _ (.cons _ (.refl _)))).weak hle).cw⟩
      ·replace hm := oc_f hg29 hm
       refine W_skip ?_
       refine hK12 _ _ ?_; clear hK12
       refine W_region ?_
       refine sy (v := .int .i64 (y17)) hs (y_move rfl) ?_; clear hs; intro a w hs
       refine sy hs (y_add rfl rfl rfl) ?_; clear hs; intro a w hs
       refine sy (v := .int .i64 ((w64 (y17 + 1)))) hs (y_assign rfl) ?_; clear hs; intro a w hs
       refine RL_nil ?_
       exact hK9 k18 _ _ (Nat.lt_succ_self _) ⟨(w64 (y17 + 1)), hm, hs.sub ⟨rfl, rfl, rfl, rfl, trivial⟩⟩
     ·replace hm := oc_f hg19 hm
      refine W_exit ?_
      refine hB8 _ _ ?_
      exact ⟨hm, hs.subs trivial (.cons _ (.cons _ (.refl _)))⟩
 ·refine W_draw hs mixed (by kernel_rfl) ?_; intro a he
  refine qy (v := .pointer (some ⟨b11, 0, none⟩)) he (y_fieldAddr rfl (FO.of (off := 0) Tryd.underlying24 rfl rfl ti22 (by decide))) ?_; clear he; intro a he
  refine qy (v := v1) he (y_ld rfl Tryd.underlying22 rfl (Cell.blk (.tail _ (.head _)) rfl)) ?_; clear he; intro a he
  refine qy (v := .int .i64 (p1)) he (y_move rfl) ?_; clear he; intro a he
  obtain ⟨x30, hx31, hm⟩ := ob hm
  obtain ⟨r32, hr33, hq34, hi35, hb36⟩ := hW4.geti hx31
  obtain ⟨v37, rfl, ⟨rw38, hR39, hW40⟩⟩ := hq34
  refine qy he (y_indexAddr hR3 rfl rfl hi35 hb36 Tryd.underlying22 ti42) ?_; clear he; intro a he
  refine qy (v := eaddr v1 9 p1.toNat 0) he (y_fieldAddrE (i := p1.toNat) (j := 0) hR3 rfl hb36 (FO.of (off := 0) Tryd.underlying42 rfl rfl ti3 (by decide))) ?_; clear he; intro a he
  refine qy (v := .int .i64 (x30.Kind)) he (y_loadE (i := p1.toNat) (j := 0) hR3.up rfl hr33 rfl Tryd.underlying3 rfl) ?_; clear he; intro a he
  refine qy he (y_neq rfl rfl) ?_; clear he; intro a he
  refine qy (v := .bool (decide (x30.Kind ≠ 1))) he (y_move rfl) ?_; clear he; intro a he
  refine Ev.split he (t := 15) rfl (fun hg42 hq => ?_) (fun hg42 hq => ?_)
  ·clear he; have he := hq; clear hq
   replace hm := oc_t hg42 hm
   refine qno he ?_; clear he; intro a he
   refine qno he ?_; clear he; intro a he
   refine qno he ?_; clear he; intro a he
   refine qno he ?_; clear he; intro a he
   refine qun he ?_; clear he; intro a he
   refine qun he ?_; clear he; intro a he
   refine qun he ?_; clear he; intro a he
   refine qun he ?_; clear he; intro a he
   refine qun he ?_; clear he; intro a he
   refine qun he ?_; clear he; intro a he
   refine qun he ?_; clear he; intro a he
   refine qun he ?_; clear he; intro a he
   refine qun he ?_; clear he; intro a he
   refine qno he ?_; clear he; intro a he
   refine qy (v := .bool (true)) he (y_pick rfl rfl) ?_; clear he; intro a he
   refine QL_nil he ?_; clear he; (try clear hs); intro a w hs
   exact ⟨true, hm, hs.sub ⟨rfl, rfl, rfl, rfl, trivial⟩⟩
  ·clear he; have he := hq; clear hq
   replace hm := oc_f hg42 hm
   refine qyg (v := .pointer (some ⟨b13, 1, none⟩)) he (y_fieldAddr rfl (FO.of (off := 1) Tryd.underlying84 rfl rfl ti9 (by decide))) ?_; clear he; intro a he
   refine qyg (v := .string (p2.Name)) he (y_ld rfl Tryd.underlying9 rfl (Cell.blk (.head _) rfl)) ?_; clear he; intro a he
   refine qyg he (y_sneq rfl rfl) ?_; clear he; intro a he
   refine qyg (v := .bool (decide (p2.Name ≠ (bs [])))) he (y_move rfl) ?_; clear he; intro a he
   refine Ev.split he (t := 19) rfl (fun hg43 hq => ?_) (fun hg43 hq => ?_)
   ·clear he; have he := hq; clear hq
    replace hm := oc_t hg43 hm
    refine qyg (v := .pointer (some ⟨b13, 1, none⟩)) he (y_fieldAddr rfl (FO.of (off := 1) Tryd.underlying84 rfl rfl ti9 (by decide))) ?_; clear he; intro a he
    refine qyg (v := .string (p2.Name)) he (y_ld rfl Tryd.underlying9 rfl (Cell.blk (.head _) rfl)) ?_; clear he; intro a he
    refine qyg (v := .pointer (some ⟨b11, 0, none⟩)) he (y_fieldAddr rfl (FO.of (off := 0) Tryd.underlying24 rfl rfl ti22 (by decide))) ?_; clear he; intro a he
    refine qyg (v := v1) he (y_ld rfl Tryd.underlying22 rfl (Cell.blk (.tail _ (.head _)) rfl)) ?_; clear he; intro a he
    refine qyg (v := .int .i64 (p1)) he (y_move rfl) ?_; clear he; intro a he
    obtain ⟨x44, hx45, hm⟩ := ob hm
    obtain ⟨r46, hr47, hq48, hi49, hb50⟩ := hW4.geti hx45
    obtain ⟨v51, rfl, ⟨rw52, hR53, hW54⟩⟩ := hq48
    refine qyg he (y_indexAddr hR3 rfl rfl hi49 hb50 Tryd.underlying22 ti42) ?_; clear he; intro a he
    refine qyg (v := eaddr v1 9 p1.toNat 1) he (y_fieldAddrE (i := p1.toNat) (j := 0) hR3 rfl hb50 (FO.of (off := 1) Tryd.underlying42 rfl rfl ti9 (by decide))) ?_; clear he; intro a he
    refine qyg (v := .string (x44.Name)) he (y_loadE (i := p1.toNat) (j := 1) hR3.up rfl hr47 rfl Tryd.underlying9 rfl) ?_; clear he; intro a he
    refine qyg he (y_sneq rfl rfl) ?_; clear he; intro a he
    refine qyg (v := .bool (decide (p2.Name ≠ x44.Name))) he (y_pick rfl rfl) ?_; clear he; intro a he
    refine qy (v := .bool (decide (p2.Name ≠ x44.Name))) he (y_pick rfl rfl) ?_; clear he; intro a he
    refine QL_nil he ?_; clear he; (try clear hs); intro a w hs
    exact ⟨decide (p2.Name ≠ x44.Name), hm, hs.sub ⟨rfl, rfl, rfl, rfl, trivial⟩⟩
   ·clear he; have he := hq; clear hq
    replace hm := oc_f hg43 hm
    refine qno he ?_; clear he; intro a he
    refine qno he ?_; clear he; intro a he
    refine qno he ?_; clear he; intro a he
    refine qno he ?_; clear he; intro a he
    refine qno he ?_; clear he; intro a he
    refine qno he ?_; clear he; intro a he
    refine qno he ?_; clear he; intro a he
    refine qno he ?_; clear he; intro a he
    refine qno he ?_; clear he; intro a he
    refine qyg (v := .bool (false)) he (y_pick rfl rfl) ?_; clear he; intro a he
    refine qy (v := .bool (false)) he (y_pick rfl rfl) ?_; clear he; intro a he
    refine QL_nil he ?_; clear he; (try clear hs); intro a w hs
    exact ⟨false, hm, hs.sub ⟨rfl, rfl, rfl, rfl, trivial⟩⟩
/-! casement/casementref10.ahead -/
def ref10_ahead_k2 (y12 : (List Int)) : Option (List Int) :=
  some y12
def ref10_ahead_k3 (y34 : (List Int)) : Option (List Int) :=
  ref10_ahead_k2 y34
def ref10_ahead_l4 (p0 : api_Tree) (p2 : Int) : Nat → (List Int) → Int → Option (List Int)
  | 0, _, _ => none
  | k50 + 1, y40, y45 =>
  (bif (decide (0 ≤ y45)) then (appM 8 y40 [y45]).bind fun x57 =>
  (bif (decide (p2 = 2)) then some x57 else
  (geti p0.Nodes y45).bind fun x67 =>
  (ref10_ahead_l4 p0 p2 k50) x57 x67.Parent) else
  ref10_ahead_k3 y40)
def ref10_ahead_k6 (y81 : (List Int)) : Option (List Int) :=
  ref10_ahead_k2 y81
def ref10_ahead_k7 (y100 : (List Int)) : Option (List Int) :=
  ref10_ahead_k6 y100
def ref10_ahead_k9 (p0 : api_Tree) (y111 : Int) (lp116 : (List Int) → Int → Option (List Int)) (y118 : (List Int)) : Option (List Int) :=
  (geti p0.Nodes y111).bind fun x123 =>
  lp116 y118 x123.Prev
def ref10_ahead_l8 (p0 : api_Tree) (p2 : Int) : Nat → (List Int) → Int → Option (List Int)
  | 0, _, _ => none
  | k116 + 1, y106, y111 =>
  (bif (decide (0 ≤ y111)) then (geti p0.Nodes y111).bind fun x135 =>
  (bif (decide (x135.Kind ≠ 1)) then ref10_ahead_k9 p0 y111 (ref10_ahead_l8 p0 p2 k116) y106 else
  (appM 8 y106 [y111]).bind fun x153 =>
  (bif (decide (p2 = 3)) then some x153 else
  ref10_ahead_k9 p0 y111 (ref10_ahead_l8 p0 p2 k116) x153)) else
  ref10_ahead_k7 y106)
def ref10_ahead_k5 (n : Nat) (p0 : api_Tree) (p1 : Int) (p2 : Int) (y79 : Bool) : Option (List Int) :=
  (bif y79 then (geti p0.Nodes p1).bind fun x87 =>
  ref10_ahead_l8 p0 p2 n ([] : List Int) x87.Prev else
  ref10_ahead_k6 ([] : List Int))
def ref10_ahead_k1 (n : Nat) (p0 : api_Tree) (p1 : Int) (p2 : Int) (y10 : Bool) : Option (List Int) :=
  (bif y10 then (geti p0.Nodes p1).bind fun x21 =>
  ref10_ahead_l4 p0 p2 n ([] : List Int) x21.Parent else
  (bif (decide (p2 = 3)) then ref10_ahead_k5 n p0 p1 p2 (decide (p2 = 3)) else
  ref10_ahead_k5 n p0 p1 p2 (decide (p2 = 4))))
def ref10_ahead (n : Nat) (p0 : api_Tree) (p1 : Int) (p2 : Int) : Option (List Int) :=
  (bif (decide (p2 = 1)) then ref10_ahead_k1 n p0 p1 p2 (decide (p2 = 1)) else
  ref10_ahead_k1 n p0 p1 p2 (decide (p2 = 2)))
set_option maxRecDepth 20000 in
set_option maxHeartbeats 4000000 in
theorem ref10_ahead_ok (n : Nat) {f : Fz} {p0 : api_Tree} {a0 : List Value} {p1 : Int} {p2 : Int} {res : (List Int)} (h0 : t_api_Tree.R f a0 p0) (hm : ref10_ahead n p0 p1 p2 = some res) : Does Tryd.prog 36 [.agg a0.toArray, .int .i64 p1, .int .i64 p2] f [] (fun r f' L' => ∃ (u0 : Value), L' = [] ∧ r = u0 ∧ RS (tInt .i64) f' u0 res) := by
 unfold ref10_ahead at hm
 intro w0 L w hC
 obtain ⟨v1, rfl, ⟨rw2, hR3, hW4⟩⟩ := h0
 refine enter Tryd.func36 rfl Tryd.ntmps36 (by simp) hC fun a hs => ?_
 have hle := Fz.le.refl f
 refine W_seq fun K1 hK1 => ?_
 refine W_region ?_
 refine sbox hs rfl ?_; clear hs; intro b6 a w hs
 refine sy (v := (.slice none 0 0)) hs (y_assign rfl) ?_; clear hs; intro a w hs
 refine RL_nil ?_
 refine hK1 _ _ ?_; clear hK1
 refine W_seq fun K2 hK2 => ?_
 refine W_region ?_
 refine sy (v := (.slice none 0 0)) hs (y_assign rfl) ?_; clear hs; intro a w hs
 refine RL_nil ?_
 refine hK2 _ _ ?_; clear hK2
 refine W_seq fun K3 hK3 => ?_
 refine W_seq fun K4 hK4 => ?_
 refine W_region ?_
 refine sy (v := .int .i64 (p2)) hs (y_move rfl) ?_; clear hs; intro a w hs
 refine RL_nil ?_
 refine hK4 _ _ ?_; clear hK4
 refine W_block fun Qe5 hB5 hO5 => ?_
 refine W_seq fun K6 hK6 => ?_
 refine W_seq fun K7 hK7 => ?_
 refine W_region ?_
 refine sy hs (y_eql rfl rfl) ?_; clear hs; intro a w hs
 refine sy (v := .bool (decide (p2 = 1))) hs (y_assign rfl) ?_; clear hs; intro a w hs
 refine RL_nil ?_
 refine hK7 _ _ ?_; clear hK7
 refine W_post (fun a w => ∃ (y10 : Bool), ref10_ahead_k1 n p0 p1 p2 y10 = some res ∧ St 67 w0 f (.blk b6 (.cells #[v1] 24 (0, 0)) :: L) [(1, .int .i64 (p1)), (2, .int .i64 (p2)), (3, .pointer (some ⟨b6, 0, none⟩)), (7, (.slice none 0 0)), (10, .int .i64 (p2)), (11, .bool (y10))] a w) ?_ ?_
 ·clear hs hm
  rintro a w ⟨y10, hm, hs⟩
  unfold ref10_ahead_k1 at hm
  refine hK6 _ _ ?_; clear hK6
  refine W_post (fun a w => ∃ (y12 : (List Int)) (v13 : Value) (rw14 : List (List Value)), ref10_ahead_k2 y12 = some res ∧ RW (tInt .i64) f rw14 y12 ∧ St 67 w0 f (.row v13 3 1 rw14 :: L) [(7, v13)] a w) ?_ ?_
  ·clear hs hm
   rintro a w ⟨y12, v13, rw14, hm, hW15, hs⟩
   unfold ref10_ahead_k2 at hm
   refine hK3 _ _ ?_; clear hK3
   refine W_seq fun K8 hK8 => ?_
   refine W_region ?_
   refine sy (v := v13) hs (y_move rfl) ?_; clear hs; intro a w hs
   refine sy (v := v13) hs (y_assign rfl) ?_; clear hs; intro a w hs
   refine RL_nil ?_
   refine hK8 _ _ ?_; clear hK8
   refine W_ret ?_
   obtain ⟨f17, hf18, hs2, hR19⟩ := hs.frzAt 0 rfl
   clear hs; have hs := hs2; clear hs2
   replace hW15 := hW15.le hf18
   replace hle := hle.trans hf18
   obtain rfl := Option.some.inj hm
   refine RtV1 hs rfl (rv_t hs rfl) ?_
   exact ⟨_, f17, [], rfl, hle, hs.cw, v13, rfl, rfl, ⟨rw14, hR19, hW15⟩⟩
  ·refine W_cond hs rfl (fun hg20 => ?_) (fun hg20 => ?_)
   ·replace hm := oc_t hg20 hm
    refine W_seq fun K9 hK9 => ?_
    refine W_region ?_
    refine sy (v := .pointer (some ⟨b6, 0, none⟩)) hs (y_fieldAddr rfl (FO.of (off := 0) Tryd.underlying24 rfl rfl ti22 (by decide))) ?_; clear hs; intro a w hs
    refine sy (v := v1) hs (y_ld rfl Tryd.underlying22 rfl (Cell.blk (.head _) rfl)) ?_; clear hs; intro a w hs
    refine sy (v := .int .i64 (p1)) hs (y_move rfl) ?_; clear hs; intro a w hs
    obtain ⟨x21, hx22, hm⟩ := ob hm
    obtain ⟨r23, hr24, hq25, hi26, hb27⟩ := hW4.geti hx22
    obtain ⟨v28, rfl, ⟨rw29, hR30, hW31⟩⟩ := hq25
    refine sy hs (y_indexAddr hR3 rfl rfl hi26 hb27 Tryd.underlying22 ti42) ?_; clear hs; intro a w hs
    refine sy (v := eaddr v1 9 p1.toNat 4) hs (y_fieldAddrE (i := p1.toNat) (j := 0) hR3 rfl hb27 (FO.of (off := 4) Tryd.underlying42 rfl rfl ti3 (by decide))) ?_; clear hs; intro a w hs
    refine sy (v := .int .i64 (x21.Parent)) hs (y_loadE (i := p1.toNat) (j := 4) hR3.up rfl hr24 rfl Tryd.underlying3 rfl) ?_; clear hs; intro a w hs
    refine sy (v := .int .i64 (x21.Parent)) hs (y_assign rfl) ?_; clear hs; intro a w hs
    refine RL_nil ?_
    refine hK9 _ _ ?_; clear hK9
    refine W_post (fun a w => ∃ (y34 : (List Int)) (v35 : Value) (rw36 : List (List Value)), ref10_ahead_k3 y34 = some res ∧ RW (tInt .i64) f rw36 y34 ∧ St 67 w0 f (.row v35 3 1 rw36 :: L) [(7, v35)] a w) ?_ ?_
    ·clear hs hm
     rintro a w ⟨y34, v35, rw36, hm, hW37, hs⟩
     unfold ref10_ahead_k3 at hm
     exact ⟨y34, v35, rw36, hm, hW37, hs.sub ⟨rfl, trivial⟩⟩
    ·refine W_block fun Qe10 hB10 hO10 => ?_
     replace hs := hs.nilRow 3 1
     have hW46 : RW (tInt .i64) f [] ([] : List Int) := trivial
     generalize hgrw47 : ([] : List (List Value)) = rw47 at hs hW46; clear hgrw47
     refine W_loop (fun (k : Nat) a w => ∃ (y40 : (List Int)) (y45 : Int) (v41 : Value) (rw42 : List (List Value)), ref10_ahead_l4 p0 p2 k y40 y45 = some res ∧ RW (tInt .i64) f rw42 y40 ∧ St 67 w0 f (.row v41 3 1 rw42 :: .blk b6 (.cells #[v1] 24 (0, 0)) :: L) [(2, .int .i64 (p2)), (3, .pointer (some ⟨b6, 0, none⟩)), (7, v41), (8, .int .i64 (y45))] a w) (fun k => k) n ⟨([] : List Int), x21.Parent, (.slice none 0 0), rw47, hm, hW46, hs.sub ⟨rfl, rfl, rfl, rfl, trivial⟩⟩ ?_
     clear hs hm
     intro k
     rintro a w ⟨y40, y45, v41, rw42, hm, hW43, hs⟩
     intro K11 hK11
     cases k with
     | zero => simp [ref10_ahead_l4] at hm
     | succ k50 =>
      rw [ref10_ahead_l4] at hm
      refine W_seq fun K12 hK12 => ?_
      refine W_seq fun K13 hK13 => ?_
      refine W_region ?_
      refine sy (v := .int .i64 (y45)) hs (y_move rfl) ?_; clear hs; intro a w hs
      refine sy hs (y_geq rfl rfl) ?_; clear hs; intro a w hs
      refine RL_nil ?_
      refine hK13 _ _ ?_; clear hK13
      refine W_cond hs rfl (fun hg51 => ?_) (fun hg51 => ?_)
      ·replace hm := oc_t hg51 hm
       refine W_skip ?_
       refine hK12 _ _ ?_; clear hK12
       refine W_seq fun K14 hK14 => ?_
       refine W_block fun Qe15 hB15 hO15 => ?_
       refine W_seq fun K16 hK16 => ?_
       refine W_region ?_
       refine sy (v := v41) hs (y_move rfl) ?_; clear hs; intro a w hs
       refine sy (v := .int .i64 (y45)) hs (y_move rfl) ?_; clear hs; intro a w hs
       refine RL_bs1s hs rfl Tryd.underlying46 ti3 rfl rfl ?_; clear hs; intro v52 a w hs
       have hW53 : RW (tInt .i64) f [[.int .i64 (y45)]] [y45] := RW.single (rfl)
       generalize hgrw54 : ([[.int .i64 (y45)]] : List (List Value)) = rw54 at hs hW53; clear hgrw54
       obtain ⟨x57, hx58, hm⟩ := ob hm
       obtain ⟨hbx57, hex57⟩ := appM_some hx58
       have hW61 := hW43.append hW53; rw [hex57] at hW61
       refine RL_append (i := 1) hs rfl rfl rfl (Rd.st hs (.head _)) Tryd.underlying46 ti3 (by decide) (by rw [RW.len hW43, RW.len hW53]; exact hbx57) (.free rfl) (by decide) ?_; clear hs; intro v59 a w hs
       generalize hgx57 : rw42 ++ rw54 = rw60 at hs hW61; clear hgx57
       replace hs := hs.erase 0
       refine sy (v := v59) hs (y_assign rfl) ?_; clear hs; intro a w hs
       refine RL_nil ?_
       refine hK16 _ _ ?_; clear hK16
       refine W_seq fun K17 hK17 => ?_
       refine W_region ?_
       refine sy (v := .int .i64 (p2)) hs (y_move rfl) ?_; clear hs; intro a w hs
       refine sy hs (y_eql rfl rfl) ?_; clear hs; intro a w hs
       refine RL_nil ?_
       refine hK17 _ _ ?_; clear hK17
       refine W_cond hs rfl (fun hg63 => ?_) (fun hg63 => ?_)
       ·replace hm := oc_t hg63 hm
        refine W_seq fun K18 hK18 => ?_
        refine W_region ?_
        refine sy (v := v59) hs (y_move rfl) ?_; clear hs; intro a w hs
        refine sy (v := v59) hs (y_assign rfl) ?_; clear hs; intro a w hs
        refine RL_nil ?_
        refine hK18 _ _ ?_; clear hK18
        refine W_ret ?_
        obtain ⟨f64, hf65, hs2, hR66⟩ := hs.frzAt 0 rfl
        clear hs; have hs := hs2; clear hs2
        replace hR3 := hR3.le hf65
        replace hW4 := hW4.le hf65
        replace hW43 := hW43.le hf65
        replace hW53 := hW53.le hf65
        replace hW61 := hW61.le hf65
        replace hle := hle.trans hf65
        obtain rfl := Option.some.inj hm
        refine RtV1 hs rfl (rv_t hs rfl) ?_
        exact ⟨_, f64, [], rfl, hle, (hs.subL (.cons _ (.refl _))).cw, v59, rfl, rfl, ⟨rw60, hR66, hW61⟩⟩
       ·replace hm := oc_f hg63 hm
        refine W_skip ?_
        refine hK14 _ _ ?_; clear hK14
        refine W_region ?_
        refine sy (v := .pointer (some ⟨b6, 0, none⟩)) hs (y_fieldAddr rfl (FO.of (off := 0) Tryd.underlying24 rfl rfl ti22 (by decide))) ?_; clear hs; intro a w hs
        refine sy (v := v1) hs (y_ld rfl Tryd.underlying22 rfl (Cell.blk (.tail _ (.head _)) rfl)) ?_; clear hs; intro a w hs
        refine sy (v := .int .i64 (y45)) hs (y_move rfl) ?_; clear hs; intro a w hs
        obtain ⟨x67, hx68, hm⟩ := ob hm
        obtain ⟨r69, hr70, hq71, hi72, hb73⟩ := hW4.geti hx68
        obtain ⟨v74, rfl, ⟨rw75, hR76, hW77⟩⟩ := hq71
        refine sy hs (y_indexAddr hR3 rfl rfl hi72 hb73 Tryd.underlying22 ti42) ?_; clear hs; intro a w hs
        refine sy (v := eaddr v1 9 y45.toNat 4) hs (y_fieldAddrE (i := y45.toNat) (j := 0) hR3 rfl hb73 (FO.of (off := 4) Tryd.underlying42 rfl rfl ti3 (by decide))) ?_; clear hs; intro a w hs
        refine sy (v := .int .i64 (x67.Parent)) hs (y_loadE (i := y45.toNat) (j := 4) hR3.up rfl hr70 rfl Tryd.underlying3 rfl) ?_; clear hs; intro a w hs
        refine sy (v := .int .i64 (x67.Parent)) hs (y_assign rfl) ?_; clear hs; intro a w hs
        refine RL_nil ?_
        exact hK11 k50 _ _ (Nat.lt_succ_self _) ⟨x57, x67.Parent, v59, rw60, hm, hW61, hs.sub ⟨rfl, rfl, rfl, rfl, trivial⟩⟩
      ·replace hm := oc_f hg51 hm
       refine W_exit ?_
       refine hB10 _ _ ?_
       exact ⟨y40, v41, rw42, hm, hW43, hs.subs ⟨rfl, trivial⟩ (.cons_cons _ (.cons _ (.refl _)))⟩
   ·replace hm := oc_f hg20 hm
    refine W_seq fun K19 hK19 => ?_
    refine W_seq fun K20 hK20 => ?_
    refine W_region ?_
    refine sy hs (y_eql rfl rfl) ?_; clear hs; intro a w hs
    refine sy (v := .bool (decide (p2 = 3))) hs (y_assign rfl) ?_; clear hs; intro a w hs
    refine RL_nil ?_
    refine hK20 _ _ ?_; clear hK20
    refine W_post (fun a w => ∃ (y79 : Bool), ref10_ahead_k5 n p0 p1 p2 y79 = some res ∧ St 67 w0 f (.blk b6 (.cells #[v1] 24 (0, 0)) :: L) [(1, .int .i64 (p1)), (2, .int .i64 (p2)), (3, .pointer (some ⟨b6, 0, none⟩)), (7, (.slice none 0 0)), (35, .bool (y79))] a w) ?_ ?_
    ·clear hs hm
     rintro a w ⟨y79, hm, hs⟩
     unfold ref10_ahead_k5 at hm
     refine hK19 _ _ ?_; clear hK19
     refine W_post (fun a w => ∃ (y81 : (List Int)) (v82 : Value) (rw83 : List (List Value)), ref10_ahead_k6 y81 = some res ∧ RW (tInt .i64) f rw83 y81 ∧ St 67 w0 f (.row v82 3 1 rw83 :: L) [(7, v82)] a w) ?_ ?_
     ·clear hs hm
      rintro a w ⟨y81, v82, rw83, hm, hW84, hs⟩
      unfold ref10_ahead_k6 at hm
      exact ⟨y81, v82, rw83, hm, hW84, hs.sub ⟨rfl, trivial⟩⟩
     ·refine W_cond hs rfl (fun hg86 => ?_) (fun hg86 => ?_)
      ·replace hm := oc_t hg86 hm
       refine W_seq fun K21 hK21 => ?_
       refine W_region ?_
       refine sy (v := .pointer (some ⟨b6, 0, none⟩)) hs (y_fieldAddr rfl (FO.of (off := 0) Tryd.underlying24 rfl rfl ti22 (by decide))) ?_; clear hs; intro a w hs
       refine sy (v := v1) hs (y_ld rfl Tryd.underlying22 rfl (Cell.blk (.head _) rfl)) ?_; clear hs; intro a w hs
       refine sy (v := .int .i64 (p1)) hs (y_move rfl) ?_; clear hs; intro a w hs
       obtain ⟨x87, hx88, hm⟩ := ob hm
       obtain ⟨r89, hr90, hq91, hi92, hb93⟩ := hW4.geti hx88
       obtain ⟨v94, rfl, ⟨rw95, hR96, hW97⟩⟩ := hq91
       refine sy hs (y_indexAddr hR3 rfl rfl hi92 hb93 Tryd.underlying22 ti42) ?_; clear hs; intro a w hs
       refine sy (v := eaddr v1 9 p1.toNat 7) hs (y_fieldAddrE (i := p1.toNat) (j := 0) hR3 rfl hb93 (FO.of (off := 7) Tryd.underlying42 rfl rfl ti3 (by decide))) ?_; clear hs; intro a w hs
       refine sy (v := .int .i64 (x87.Prev)) hs (y_loadE (i := p1.toNat) (j := 7) hR3.up rfl hr90 rfl Tryd.underlying3 rfl) ?_; clear hs; intro a w hs
       refine sy (v := .int .i64 (x87.Prev)) hs (y_assign rfl) ?_; clear hs; intro a w hs
       refine RL_nil ?_
       refine hK21 _ _ ?_; clear hK21
       refine W_post (fun a w => ∃ (y100 : (List Int)) (v101 : Value) (rw102 : List (List Value)), ref10_ahead_k7 y100 = some res ∧ RW (tInt .i64) f rw102 y100 ∧ St 67 w0 f (.row v101 3 1 rw102 :: L) [(7, v101)] a w) ?_ ?_
       ·clear hs hm
        rintro a w ⟨y100, v101, rw102, hm, hW103, hs⟩
        unfold ref10_ahead_k7 at hm
        exact ⟨y100, v101, rw102, hm, hW103, hs.sub ⟨rfl, trivial⟩⟩
       ·refine W_block fun Qe22 hB22 hO22 => ?_
        replace hs := hs.nilRow 3 1
        have hW112 : RW (tInt .i64) f [] ([] : List Int) := trivial
        generalize hgrw113 : ([] : List (List Value)) = rw113 at hs hW112; clear hgrw113
        refine W_loop (fun (k : Nat) a w => ∃ (y106 : (List Int)) (y111 : Int) (v107 : Value) (rw108 : List (List Value)), ref10_ahead_l8 p0 p2 k y106 y111 = some res ∧ RW (tInt .i64) f rw108 y106 ∧ St 67 w0 f (.row v107 3 1 rw108 :: .blk b6 (.cells #[v1] 24 (0, 0)) :: L) [(2, .int .i64 (p2)), (3, .pointer (some ⟨b6, 0, none⟩)), (7, v107), (9, .int .i64 (y111))] a w) (fun k => k) n ⟨([] : List Int), x87.Prev, (.slice none 0 0), rw113, hm, hW112, hs.sub ⟨rfl, rfl, rfl, rfl, trivial⟩⟩ ?_
        clear hs hm
        intro k
        rintro a w ⟨y106, y111, v107, rw108, hm, hW109, hs⟩
        intro K23 hK23
        cases k with
        | zero => simp [ref10_ahead_l8] at hm
        | succ k116 =>
         rw [ref10_ahead_l8] at hm
         refine W_seq fun K24 hK24 => ?_
         refine W_seq fun K25 hK25 => ?_
         refine W_region ?_
         refine sy (v := .int .i64 (y111)) hs (y_move rfl) ?_; clear hs; intro a w hs
         refine sy hs (y_geq rfl rfl) ?_; clear hs; intro a w hs
         refine RL_nil ?_
         refine hK25 _ _ ?_; clear hK25
         refine W_cond hs rfl (fun hg117 => ?_) (fun hg117 => ?_)
         ·replace hm := oc_t hg117 hm
          refine W_skip ?_
          refine hK24 _ _ ?_; clear hK24
          refine W_seq fun K26 hK26 => ?_
          refine W_post (fun a w => ∃ (y118 : (List Int)) (v119 : Value) (rw120 : List (List Value)), ref10_ahead_k9 p0 y111 (ref10_ahead_l8 p0 p2 k116) y118 = some res ∧ RW (tInt .i64) f rw120 y118 ∧ St 67 w0 f (.row v119 3 1 rw120 :: .blk b6 (.cells #[v1] 24 (0, 0)) :: L) [(2, .int .i64 (p2)), (3, .pointer (some ⟨b6, 0, none⟩)), (7, v119), (9, .int .i64 (y111))] a w) ?_ ?_
          ·clear hs hm
           rintro a w ⟨y118, v119, rw120, hm, hW121, hs⟩
           unfold ref10_ahead_k9 at hm
           refine hK26 _ _ ?_; clear hK26
           refine W_region ?_
           refine sy (v := .pointer (some ⟨b6, 0, none⟩)) hs (y_fieldAddr rfl (FO.of (off := 0) Tryd.underlying24 rfl rfl ti22 (by decide))) ?_; clear hs; intro a w hs
           refine sy (v := v1) hs (y_ld rfl Tryd.underlying22 rfl (Cell.blk (.tail _ (.head _)) rfl)) ?_; clear hs; intro a w hs
           refine sy (v := .int .i64 (y111)) hs (y_move rfl) ?_; clear hs; intro a w hs
           obtain ⟨x123, hx124, hm⟩ := ob hm
           obtain ⟨r125, hr126, hq127, hi128, hb129⟩ := hW4.geti hx124
           obtain ⟨v130, rfl, ⟨rw131, hR132, hW133⟩⟩ := hq127
           refine sy hs (y_indexAddr hR3 rfl rfl hi128 hb129 Tryd.underlying22 ti42) ?_; clear hs; intro a w hs
           refine sy (v := eaddr v1 9 y111.toNat 7) hs (y_fieldAddrE (i := y111.toNat) (j := 0) hR3 rfl hb129 (FO.of (off := 7) Tryd.underlying42 rfl rfl ti3 (by decide))) ?_; clear hs; intro a w hs
           refine sy (v := .int .i64 (x123.Prev)) hs (y_loadE (i := y111.toNat) (j := 7) hR3.up rfl hr126 rfl Tryd.underlying3 rfl) ?_; clear hs; intro a w hs
           refine sy (v := .int .i64 (x123.Prev)) hs (y_assign rfl) ?_; clear hs; intro a w hs
           refine RL_nil ?_
           exact hK23 k116 _ _ (Nat.lt_succ_self _) ⟨y118, x123.Prev, v119, rw120, hm, hW121, hs.sub ⟨rfl, rfl, rfl, rfl, trivial⟩⟩
          ·refine W_block fun Qe27 hB27 hO27 => ?_
           refine W_seq fun K28 hK28 => ?_
           refine W_seq fun K29 hK29 => ?_
           refine W_region ?_
           refine sy (v := .pointer (some ⟨b6, 0, none⟩)) hs (y_fieldAddr rfl (FO.of (off := 0) Tryd.underlying24 rfl rfl ti22 (by decide))) ?_; clear hs; intro a w hs
           refine sy (v := v1) hs (y_ld rfl Tryd.underlying22 rfl (Cell.blk (.tail _ (.head _)) rfl)) ?_; clear hs; intro a w hs
           refine sy (v := .int .i64 (y111)) hs (y_move rfl) ?_; clear hs; intro a w hs
           obtain ⟨x135, hx136, hm⟩ := ob hm
           obtain ⟨r137, hr138, hq139, hi140, hb141⟩ := hW4.geti hx136
           obtain ⟨v142, rfl, ⟨rw143, hR144, hW145⟩⟩ := hq139
           refine sy hs (y_indexAddr hR3 rfl rfl hi140 hb141 Tryd.underlying22 ti42) ?_; clear hs; intro a w hs
           refine sy (v := eaddr v1 9 y111.toNat 0) hs (y_fieldAddrE (i := y111.toNat) (j := 0) hR3 rfl hb141 (FO.of (off := 0) Tryd.underlying42 rfl rfl ti3 (by decide))) ?_; clear hs; intro a w hs
           refine sy (v := .int .i64 (x135.Kind)) hs (y_loadE (i := y111.toNat) (j := 0) hR3.up rfl hr138 rfl Tryd.underlying3 rfl) ?_; clear hs; intro a w hs
           refine sy hs (y_neq rfl rfl) ?_; clear hs; intro a w hs
           refine RL_nil ?_
           refine hK29 _ _ ?_; clear hK29
           refine W_cond hs rfl (fun hg147 => ?_) (fun hg147 => ?_)
           ·replace hm := oc_t hg147 hm
            refine W_exit ?_
            refine hB27 _ _ ?_
            exact ⟨y106, v107, rw108, hm, hW109, hs.sub ⟨rfl, rfl, rfl, rfl, trivial⟩⟩
           ·replace hm := oc_f hg147 hm
            refine W_skip ?_
            refine hK28 _ _ ?_; clear hK28
            refine W_seq fun K30 hK30 => ?_
            refine W_region ?_
            refine sy (v := v107) hs (y_move rfl) ?_; clear hs; intro a w hs
            refine sy (v := .int .i64 (y111)) hs (y_move rfl) ?_; clear hs; intro a w hs
            refine RL_bs1s hs rfl Tryd.underlying46 ti3 rfl rfl ?_; clear hs; intro v148 a w hs
            have hW149 : RW (tInt .i64) f [[.int .i64 (y111)]] [y111] := RW.single (rfl)
            generalize hgrw150 : ([[.int .i64 (y111)]] : List (List Value)) = rw150 at hs hW149; clear hgrw150
            obtain ⟨x153, hx154, hm⟩ := ob hm
            obtain ⟨hbx153, hex153⟩ := appM_some hx154
            have hW157 := hW109.append hW149; rw [hex153] at hW157
            refine RL_append (i := 1) hs rfl rfl rfl (Rd.st hs (.head _)) Tryd.underlying46 ti3 (by decide) (by rw [RW.len hW109, RW.len hW149]; exact hbx153) (.free rfl) (by decide) ?_; clear hs; intro v155 a w hs
            generalize hgx153 : rw108 ++ rw150 = rw156 at hs hW157; clear hgx153
            replace hs := hs.erase 0
            refine sy (v := v155) hs (y_assign rfl) ?_; clear hs; intro a w hs
            refine RL_nil ?_
            refine hK30 _ _ ?_; clear hK30
            refine W_seq fun K31 hK31 => ?_
            refine W_region ?_
            refine sy (v := .int .i64 (p2)) hs (y_move rfl) ?_; clear hs; intro a w hs
            refine sy hs (y_eql rfl rfl) ?_; clear hs; intro a w hs
            refine RL_nil ?_
            refine hK31 _ _ ?_; clear hK31
            refine W_cond hs rfl (fun hg159 => ?_) (fun hg159 => ?_)
            ·replace hm := oc_t hg159 hm
             refine W_seq fun K32 hK32 => ?_
             refine W_region ?_
             refine sy (v := v155) hs (y_move rfl) ?_; clear hs; intro a w hs
             refine sy (v := v155) hs (y_assign rfl) ?_; clear hs; intro a w hs
             refine RL_nil ?_
             refine hK32 _ _ ?_; clear hK32
             refine W_ret ?_
             obtain ⟨f160, hf161, hs2, hR162⟩ := hs.frzAt 0 rfl
             clear hs; have hs := hs2; clear hs2
             replace hR3 := hR3.le hf161
             replace hW4 := hW4.le hf161
             replace hW109 := hW109.le hf161
             replace hR144 := hR144.le hf161
             replace hW145 := hW145.le hf161
             replace hW149 := hW149.le hf161
             replace hW157 := hW157.le hf161
             replace hle := hle.trans hf161
             obtain rfl := Option.some.inj hm
             refine RtV1 hs rfl (rv_t hs rfl) ?_
             exact ⟨_, f160, [], rfl, hle, (hs.subL (.cons _ (.refl _))).cw, v155, rfl, rfl, ⟨rw156, hR162, hW157⟩⟩
            ·replace hm := oc_f hg159 hm
             refine W_skip ?_
             exact ⟨x153, v155, rw156, hm, hW157, hs.sub ⟨rfl, rfl, rfl, rfl, trivial⟩⟩
         ·replace hm := oc_f hg117 hm
          refine W_exit ?_
          refine hB22 _ _ ?_
          exact ⟨y106, v107, rw108, hm, hW109, hs.subs ⟨rfl, trivial⟩ (.cons_cons _ (.cons _ (.refl _)))⟩
      ·replace hm := oc_f hg86 hm
       refine W_skip ?_
       replace hs := hs.nilRow 3 1
       have hW163 : RW (tInt .i64) f [] ([] : List Int) := trivial
       generalize hgrw164 : ([] : List (List Value)) = rw164 at hs hW163; clear hgrw164
       exact ⟨([] : List Int), (.slice none 0 0), rw164, hm, hW163, hs.subs ⟨rfl, trivial⟩ (.cons_cons _ (.cons _ (.refl _)))⟩
    ·refine W_cond hs rfl (fun hg167 => ?_) (fun hg167 => ?_)
     ·replace hm := oc_t hg167 hm
      refine W_skip ?_
      exact ⟨decide (p2 = 3), hm, hs.sub ⟨rfl, rfl, rfl, rfl, rfl, trivial⟩⟩
     ·replace hm := oc_f hg167 hm
      refine W_region ?_
      refine sy hs (y_eql rfl rfl) ?_; clear hs; intro a w hs
      refine sy (v := .bool (decide (p2 = 4))) hs (y_assign rfl) ?_; clear hs; intro a w hs
      refine RL_nil ?_
      exact ⟨decide (p2 = 4), hm, hs.sub ⟨rfl, rfl, rfl, rfl, rfl, trivial⟩⟩
 ·refine W_cond hs rfl (fun hg168 => ?_) (fun hg168 => ?_)
  ·replace hm := oc_t hg168 hm
   refine W_skip ?_
   exact ⟨decide (p2 = 1), hm, hs.sub ⟨rfl, rfl, rfl, rfl, rfl, rfl, trivial⟩⟩
  ·replace hm := oc_f hg168 hm
   refine W_region ?_
   refine sy hs (y_eql rfl rfl) ?_; clear hs; intro a w hs
   refine sy (v := .bool (decide (p2 = 2))) hs (y_assign rfl) ?_; clear hs; intro a w hs
   refine RL_nil ?_
   exact ⟨decide (p2 = 2), hm, hs.sub ⟨rfl, rfl, rfl, rfl, rfl, rfl, trivial⟩⟩
end Go.Proofs.YtmkcglpeidbblaaDoor
