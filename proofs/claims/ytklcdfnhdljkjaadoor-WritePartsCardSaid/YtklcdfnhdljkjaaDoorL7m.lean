/-
  Walks and laws of this seat; the base is the text Base.
-/
import Derived.Test.YtklcdfnhdljkjaaDoorL7a
import Derived.Test.YtklcdfnhdljkjaaDoorL7s
import Derived.Test.YtklcdfnhdljkjaaDoorG7x
import Derived.Test.YtklcdfnhdljkjaaDoorRows
/-
  Models of functions, and that the functions compute them. Printed by lift.py.
-/
namespace Go.Proofs.YtklcdfnhdljkjaaDoor
open Go.RowKit Go.Sl
/-! casement/write.Markup$1 -/
def write_Markup_1_k1 (y22 : Bool) (y23 : (List Int)) : Option Builder :=
  some ({addr := y22, buf := y23} : Builder)
def write_Markup_1_k3 (y37 : Int) (lp38 : Bool → (List Int) → Int → Option Builder) (y43 : Bool) (y44 : (List Int)) : Option Builder :=
  lp38 y43 y44 (w64 (y37 + 1))
def write_Markup_1_k6 (y37 : Int) (lp38 : Bool → (List Int) → Int → Option Builder) (y124 : Bool) (y125 : (List Int)) : Option Builder :=
  write_Markup_1_k3 y37 lp38 y124 y125
def write_Markup_1_k5 (n : Nat) (q0 : api_Tree) (slf : Int → api_Tree → Builder → Option Builder) (y37 : Int) (lp38 : Bool → (List Int) → Int → Option Builder) (x50 : Int) (x57 : api_Node) (y105 : Bool) (y106 : (List Int)) : Option Builder :=
  (builder_WriteString n ({addr := y105, buf := y106} : Builder) (bs [62])).bind fun x112 =>
  (tree_Void n x57.Name).bind fun x120 =>
  (bif (!x120) then (slf x50 q0 ({addr := x112.2.addr, buf := x112.2.buf} : Builder)).bind fun x132 =>
  (addS (bs [60, 47]) x57.Name).bind fun x140 =>
  (addS x140 (bs [62])).bind fun x142 =>
  (builder_WriteString n ({addr := x132.addr, buf := x132.buf} : Builder) x142).bind fun x144 =>
  write_Markup_1_k6 y37 lp38 x144.2.addr x144.2.buf else
  write_Markup_1_k6 y37 lp38 x112.2.addr x112.2.buf)
def write_Markup_1_l7 (n : Nat) (q0 : api_Tree) (slf : Int → api_Tree → Builder → Option Builder) (y37 : Int) (lp38 : Bool → (List Int) → Int → Option Builder) (x50 : Int) (x57 : api_Node) : Nat → Bool → (List Int) → Int → Option Builder
  | 0, _, _, _ => none
  | k161 + 1, y154, y155, y160 =>
  (bif (decide (y160 < (x57.Attrs.length : Int))) then (geti x57.Attrs y160).bind fun x164 =>
  (addS (bs [32]) x164.Name).bind fun x174 =>
  (addS x174 (bs [61, 34])).bind fun x176 =>
  (write_Escape n x164.Value true).bind fun x178 =>
  (addS x176 x178).bind fun x180 =>
  (addS x180 (bs [34])).bind fun x182 =>
  (builder_WriteString n ({addr := y154, buf := y155} : Builder) x182).bind fun x184 =>
  (write_Markup_1_l7 n q0 slf y37 lp38 x50 x57 k161) x184.2.addr x184.2.buf (w64 (y160 + 1)) else
  write_Markup_1_k5 n q0 slf y37 lp38 x50 x57 y154 y155)
def write_Markup_1_k4 (n : Nat) (q0 : api_Tree) (slf : Int → api_Tree → Builder → Option Builder) (y31 : Bool) (y32 : (List Int)) (y37 : Int) (lp38 : Bool → (List Int) → Int → Option Builder) (x50 : Int) (x57 : api_Node) (y72 : Bool) : Option Builder :=
  (bif y72 then (builder_WriteString n ({addr := y31, buf := y32} : Builder) x57.Text).bind fun x74 =>
  write_Markup_1_k3 y37 lp38 x74.2.addr x74.2.buf else
  (bif (decide (x57.Kind = 2)) then (write_Escape n x57.Text false).bind fun x83 =>
  (builder_WriteString n ({addr := y31, buf := y32} : Builder) x83).bind fun x85 =>
  write_Markup_1_k3 y37 lp38 x85.2.addr x85.2.buf else
  (addS (bs [60]) x57.Name).bind fun x93 =>
  (builder_WriteString n ({addr := y31, buf := y32} : Builder) x93).bind fun x95 =>
  write_Markup_1_l7 n q0 slf y37 lp38 x50 x57 n x95.2.addr x95.2.buf 0))
def write_Markup_1_l2 (n : Nat) (p0 : Int) (q0 : api_Tree) (slf : Int → api_Tree → Builder → Option Builder) (x11 : (List Int)) : Nat → Bool → (List Int) → Int → Option Builder
  | 0, _, _, _ => none
  | k38 + 1, y31, y32, y37 =>
  (bif (decide (y37 < (x11.length : Int))) then (geti x11 y37).bind fun x50 =>
  (geti q0.Nodes x50).bind fun x57 =>
  (bif (decide (x57.Kind = 2)) then (geti q0.Nodes p0).bind fun x210 =>
  (slices_Contains_string_string n [(bs [115, 116, 121, 108, 101]), (bs [115, 99, 114, 105, 112, 116])] x210.Name).bind fun x222 =>
  write_Markup_1_k4 n q0 slf y31 y32 y37 (write_Markup_1_l2 n p0 q0 slf x11 k38) x50 x57 x222 else
  write_Markup_1_k4 n q0 slf y31 y32 y37 (write_Markup_1_l2 n p0 q0 slf x11 k38) x50 x57 false) else
  write_Markup_1_k1 y31 y32)
def write_Markup_1_b (slf : Int → api_Tree → Builder → Option Builder) (n : Nat) (p0 : Int) (q0 : api_Tree) (q1 : Builder) : Option Builder :=
  (dom_Kids n q0 p0).bind fun x11 =>
  write_Markup_1_l2 n p0 q0 slf x11 n q1.addr q1.buf 0
def write_Markup_1 : Nat → Int → api_Tree → Builder → Option Builder
  | 0, _, _, _ => none
  | n + 1, p0, q0, q1 => write_Markup_1_b (write_Markup_1 n) n p0 q0 q1
set_option maxRecDepth 20000 in
set_option maxHeartbeats 4000000 in
theorem write_Markup_1_bok {slf : Int → api_Tree → Builder → Option Builder} (n : Nat) (slf_ok : ∀ {f : Fz} {p0 : Int} {cb0 : Nat} {q0 : api_Tree} {ca0 : List Value} {cb1 : Nat} {q1 : Builder} {cv1_0 : Value} {cv1_0r : List (List Value)} {cb2 : Nat} {res : Builder} (_ : t_api_Tree.R f ca0 q0) (_ : f cb0 = some (.cells ca0.toArray 24 (0, 0))) (_ : RW (tInt .u8) f cv1_0r q1.buf) (_ : f cb2 = some (.cells #[.func (.func 20) #[] #[.pointer (some ⟨cb0, 0, none⟩), .pointer (some ⟨cb1, 0, none⟩), .pointer (some ⟨cb2, 0, none⟩)]] 54 (0, 0))) (_ : slf p0 q0 q1 = some res), Does Tryd.prog 20 [.int .i64 p0, .pointer (some ⟨cb0, 0, none⟩), .pointer (some ⟨cb1, 0, none⟩), .pointer (some ⟨cb2, 0, none⟩)] f [.blk cb1 (.cells #[baddr cb1 q1.addr, cv1_0] 53 (0, 0)), .row cv1_0 5 1 cv1_0r] (fun r f' L' => ∃ (dv1_0 : Value) (dv1_0r : List (List Value)), L' = [.blk cb1 (.cells #[baddr cb1 res.addr, dv1_0] 53 (0, 0)), .row dv1_0 5 1 dv1_0r] ∧ r = .tuple #[] ∧ RW (tInt .u8) f' dv1_0r res.buf)) {f : Fz} {p0 : Int} {cb0 : Nat} {q0 : api_Tree} {ca0 : List Value} {cb1 : Nat} {q1 : Builder} {cv1_0 : Value} {cv1_0r : List (List Value)} {cb2 : Nat} {res : Builder} (hq0 : t_api_Tree.R f ca0 q0) (hc0 : f cb0 = some (.cells ca0.toArray 24 (0, 0))) (cv1_0h : RW (tInt .u8) f cv1_0r q1.buf) (hc2 : f cb2 = some (.cells #[.func (.func 20) #[] #[.pointer (some ⟨cb0, 0, none⟩), .pointer (some ⟨cb1, 0, none⟩), .pointer (some ⟨cb2, 0, none⟩)]] 54 (0, 0))) (hm : write_Markup_1_b slf n p0 q0 q1 = some res) : Does Tryd.prog 20 [.int .i64 p0, .pointer (some ⟨cb0, 0, none⟩), .pointer (some ⟨cb1, 0, none⟩), .pointer (some ⟨cb2, 0, none⟩)] f [.blk cb1 (.cells #[baddr cb1 q1.addr, cv1_0] 53 (0, 0)), .row cv1_0 5 1 cv1_0r] (fun r f' L' => ∃ (dv1_0 : Value) (dv1_0r : List (List Value)), L' = [.blk cb1 (.cells #[baddr cb1 res.addr, dv1_0] 53 (0, 0)), .row dv1_0 5 1 dv1_0r] ∧ r = .tuple #[] ∧ RW (tInt .u8) f' dv1_0r res.buf) := by
 unfold write_Markup_1_b at hm
 intro w0 L w hC
 replace hC : Cw w0 f (.blk cb1 (.cells #[baddr cb1 q1.addr, cv1_0] 53 (0, 0)) :: .row cv1_0 5 1 cv1_0r :: L) w := hC
 obtain ⟨v2, rfl, ⟨rw3, hR4, hW5⟩⟩ := hq0
 refine enter Tryd.func20 rfl Tryd.ntmps20 (by simp) hC fun a hs => ?_
 have hle := Fz.le.refl f
 refine W_seq fun K1 hK1 => ?_
 refine W_region ?_
 refine sy hs (y_ldF rfl Tryd.underlying24 rfl ti24 hc0 rfl) ?_; clear hs; (try clear a w); intro a w hs
 refine sy (v := .int .i64 (p0)) hs (y_move rfl) ?_; clear hs; (try clear a w); intro a w hs
 obtain ⟨x11, hx12, hm⟩ := ob hm
 refine RL_callV hs rfl has21 rfl (dom_Kids_ok n (f := f) (a0 := [v2]) ⟨_, rfl, ⟨rw3, hR4, hW5⟩⟩ hx12) ?_; clear hs; (try clear a w)
 rintro v15 f13 _ a w hf14 ⟨_, rfl, rfl, ⟨rw16, hR17, hW18⟩⟩ hs
 replace hR4 := hR4.le hf14
 replace hW5 := hW5.le hf14
 replace hc0 := hf14 _ _ hc0
 replace cv1_0h := cv1_0h.le hf14
 replace hc2 := hf14 _ _ hc2
 replace hle := hle.trans hf14
 replace hs : St _ _ _ (.blk cb1 (.cells #[baddr cb1 q1.addr, cv1_0] 53 (0, 0)) :: .row cv1_0 5 1 cv1_0r :: L) _ _ _ := hs
 refine sy hs (y_lenW hR17 hW18 rfl Tryd.underlying55) ?_; clear hs; (try clear a w); intro a w hs
 refine sy (v := .int .i64 (0)) hs (y_move rfl) ?_; clear hs; (try clear a w); intro a w hs
 refine RL_nil ?_
 refine hK1 _ _ ?_; clear hK1
 have hbase28 := Fz.le.refl f13
 refine W_post (fun a w => ∃ (f20 : Fz) (y22 : Bool) (y23 : (List Int)) (v24 : Value) (rw25 : List (List Value)), Fz.le f13 f20 ∧ write_Markup_1_k1 y22 y23 = some res ∧ RW (tInt .u8) f20 rw25 y23 ∧ St 84 w0 f20 (.blk cb1 (.cells #[baddr cb1 y22, v24] 53 (0, 0)) :: .row v24 5 1 rw25 :: L) [] a w) ?_ ?_
 ·clear hs hm
  clear hbase28
  rintro a w ⟨f20, y22, y23, v24, rw25, hl21, hm, hW26, hs⟩
  replace hR4 := hR4.le hl21
  replace hW5 := hW5.le hl21
  replace hc0 := hl21 _ _ hc0
  replace cv1_0h := cv1_0h.le hl21
  replace hc2 := hl21 _ _ hc2
  replace hR17 := hR17.le hl21
  replace hW18 := hW18.le hl21
  replace hle := hle.trans hl21
  replace hs : St _ _ _ (.blk cb1 (.cells #[baddr cb1 y22, v24] 53 (0, 0)) :: .row v24 5 1 rw25 :: L) _ _ _ := hs
  unfold write_Markup_1_k1 at hm
  obtain rfl := Option.some.inj hm
  refine RtV0 hs rfl  ?_
  exact ⟨_, f20, [.blk cb1 (.cells #[baddr cb1 y22, v24] 53 (0, 0)), .row v24 5 1 rw25], rfl, hle, hs.cw, v24, rw25, rfl, rfl, hW26⟩
 ·refine W_block fun Qe2 hB2 hO2 => ?_
  have hbase := Fz.le.refl f13
  replace hs : St _ _ _ (.blk cb1 (.cells #[baddr cb1 q1.addr, cv1_0] 53 (0, 0)) :: .row cv1_0 5 1 cv1_0r :: L) _ _ _ := hs
  refine W_loop (fun (k : Nat) a w => ∃ (f29 : Fz) (y31 : Bool) (y32 : (List Int)) (y37 : Int) (v33 : Value) (rw34 : List (List Value)), Fz.le f13 f29 ∧ write_Markup_1_l2 n p0 q0 slf x11 k y31 y32 y37 = some res ∧ RW (tInt .u8) f29 rw34 y32 ∧ St 84 w0 f29 (.blk cb1 (.cells #[baddr cb1 y31, v33] 53 (0, 0)) :: .row v33 5 1 rw34 :: L) [(0, .int .i64 (p0)), (1, .pointer (some ⟨cb0, 0, none⟩)), (2, .pointer (some ⟨cb1, 0, none⟩)), (3, .pointer (some ⟨cb2, 0, none⟩)), (12, v15), (13, .int .i64 ((x11.length : Int))), (14, .int .i64 (y37))] a w) (fun k => k) n ⟨_, q1.addr, q1.buf, 0, cv1_0, cv1_0r, (Fz.le.refl _), hm, cv1_0h, hs.sub ⟨rfl, rfl, rfl, rfl, rfl, rfl, rfl, trivial⟩⟩ ?_
  clear hs hm
  intro k
  rintro a w ⟨f29, y31, y32, y37, v33, rw34, hl30, hm, hW35, hs⟩
  replace hR4 := hR4.le hl30
  replace hW5 := hW5.le hl30
  replace hc0 := hl30 _ _ hc0
  replace cv1_0h := cv1_0h.le hl30
  replace hc2 := hl30 _ _ hc2
  replace hR17 := hR17.le hl30
  replace hW18 := hW18.le hl30
  replace hle := hle.trans hl30
  replace hbase28 := hbase28.trans hl30
  replace hs : St _ _ _ (.blk cb1 (.cells #[baddr cb1 y31, v33] 53 (0, 0)) :: .row v33 5 1 rw34 :: L) _ _ _ := hs
  intro K3 hK3
  cases k with
  | zero => simp [write_Markup_1_l2] at hm
  | succ k38 =>
   rw [write_Markup_1_l2] at hm
   have hbase39 := hl30
   refine W_seq fun K4 hK4 => ?_
   refine W_region ?_
   refine sy hs (y_lss rfl rfl) ?_; clear hs; (try clear a w); intro a w hs
   refine RL_nil ?_
   refine hK4 _ _ ?_; clear hK4
   refine W_seq fun K5 hK5 => ?_
   refine W_cond hs rfl (fun hg40 => ?_) (fun hg40 => ?_)
   ·replace hm := oc_t hg40 hm
    refine W_skip ?_
    refine hK5 _ _ ?_; clear hK5
    refine W_seq fun K6 hK6 => ?_
    have hbase49 := Fz.le.refl f29
    refine W_post (fun a w => ∃ (f41 : Fz) (y43 : Bool) (y44 : (List Int)) (v45 : Value) (rw46 : List (List Value)), Fz.le f29 f41 ∧ write_Markup_1_k3 y37 (write_Markup_1_l2 n p0 q0 slf x11 k38) y43 y44 = some res ∧ RW (tInt .u8) f41 rw46 y44 ∧ St 84 w0 f41 (.blk cb1 (.cells #[baddr cb1 y43, v45] 53 (0, 0)) :: .row v45 5 1 rw46 :: L) [(0, .int .i64 (p0)), (1, .pointer (some ⟨cb0, 0, none⟩)), (2, .pointer (some ⟨cb1, 0, none⟩)), (3, .pointer (some ⟨cb2, 0, none⟩)), (12, v15), (13, .int .i64 ((x11.length : Int))), (14, .int .i64 (y37))] a w) ?_ ?_
    ·clear hs hm
     clear hbase49
     rintro a w ⟨f41, y43, y44, v45, rw46, hl42, hm, hW47, hs⟩
     replace hR4 := hR4.le hl42
     replace hW5 := hW5.le hl42
     replace hc0 := hl42 _ _ hc0
     replace cv1_0h := cv1_0h.le hl42
     replace hc2 := hl42 _ _ hc2
     replace hR17 := hR17.le hl42
     replace hW18 := hW18.le hl42
     replace hW35 := hW35.le hl42
     replace hle := hle.trans hl42
     replace hbase28 := hbase28.trans hl42
     replace hbase39 := hbase39.trans hl42
     replace hs : St _ _ _ (.blk cb1 (.cells #[baddr cb1 y43, v45] 53 (0, 0)) :: .row v45 5 1 rw46 :: L) _ _ _ := hs
     unfold write_Markup_1_k3 at hm
     refine hK6 _ _ ?_; clear hK6
     refine W_region ?_
     refine sy hs (y_add rfl rfl rfl) ?_; clear hs; (try clear a w); intro a w hs
     refine sy (v := .int .i64 ((w64 (y37 + 1)))) hs (y_move rfl) ?_; clear hs; (try clear a w); intro a w hs
     refine RL_nil ?_
     replace hs : St _ _ _ (.blk cb1 (.cells #[baddr cb1 y43, v45] 53 (0, 0)) :: .row v45 5 1 rw46 :: L) _ _ _ := hs
     exact hK3 k38 _ _ (Nat.lt_succ_self _) ⟨_, y43, y44, (w64 (y37 + 1)), v45, rw46, hbase39, hm, hW47, hs.sub ⟨rfl, rfl, rfl, rfl, rfl, rfl, rfl, trivial⟩⟩
    ·refine W_block fun Qe7 hB7 hO7 => ?_
     refine W_seq fun K8 hK8 => ?_
     refine W_region ?_
     obtain ⟨x50, hx51, hm⟩ := ob hm
     obtain ⟨r52, hr53, hq54, hi55, hb56⟩ := hW18.geti hx51
     obtain rfl : _ = ([.int .i64 (x50)] : List Value) := hq54
     refine sy hs (y_indexAddr hR17 rfl rfl hi55 hb56 Tryd.underlying55 ti3) ?_; clear hs; (try clear a w); intro a w hs
     refine sy (v := .int .i64 (x50)) hs (y_loadE (i := y37.toNat) (j := 0) hR17.up rfl hr53 rfl Tryd.underlying3 rfl) ?_; clear hs; (try clear a w); intro a w hs
     refine sy (v := .int .i64 (x50)) hs (y_assign rfl) ?_; clear hs; (try clear a w); intro a w hs
     refine RL_nil ?_
     refine hK8 _ _ ?_; clear hK8
     refine W_seq fun K9 hK9 => ?_
     refine W_region ?_
     refine sy (v := .pointer (some ⟨cb0, 0, none⟩)) hs (y_fieldAddr rfl (FO.of (off := 0) Tryd.underlying24 rfl rfl ti22 (by decide))) ?_; clear hs; (try clear a w); intro a w hs
     refine sy (v := v2) hs (y_ld rfl Tryd.underlying22 rfl (Cell.fz hc0 rfl)) ?_; clear hs; (try clear a w); intro a w hs
     refine sy (v := .int .i64 (x50)) hs (y_move rfl) ?_; clear hs; (try clear a w); intro a w hs
     obtain ⟨x57, hx58, hm⟩ := ob hm
     obtain ⟨r59, hr60, hq61, hi62, hb63⟩ := hW5.geti hx58
     obtain ⟨v64, rfl, ⟨rw65, hR66, hW67⟩⟩ := hq61
     refine sy hs (y_indexAddr hR4 rfl rfl hi62 hb63 Tryd.underlying22 ti37) ?_; clear hs; (try clear a w); intro a w hs
     refine sy hs (y_loadRow hR4.up rfl hr60 Tryd.underlying37 rfl ti37) ?_; clear hs; (try clear a w); intro a w hs
     refine RL_alloc hs ti37 (.free rfl) (by decide) ?_; clear hs; (try clear a w); intro b69 a w hs
     replace hs : St _ _ _ (.blk b69 (.cells #[.int .i64 (0), .string ((bs [])), .string ((bs [])), (.slice none 0 0), .int .i64 (0), .int .i64 (0), .int .i64 (0), .int .i64 (0), .int .i64 (0)] 37 (0, 0)) :: .blk cb1 (.cells #[baddr cb1 y31, v33] 53 (0, 0)) :: .row v33 5 1 rw34 :: L) _ _ _ := hs
     refine RL_storeAll (i := 0) hs rfl rfl rfl ti37 ⟨rfl, rfl⟩ (AllC.arr (r := [.int .i64 (x57.Kind), .string (x57.Name), .string (x57.Text), v64, .int .i64 (x57.Parent), .int .i64 (x57.First), .int .i64 (x57.Last), .int .i64 (x57.Prev), .int .i64 (x57.Next)]) ⟨rfl, rfl, rfl, hR66.one, rfl, rfl, rfl, rfl, rfl, trivial⟩) (.free rfl) ?_; clear hs; (try clear a w); intro a w hs
     replace hs : St _ _ _ (.blk b69 (.cells #[.int .i64 (x57.Kind), .string (x57.Name), .string (x57.Text), v64, .int .i64 (x57.Parent), .int .i64 (x57.First), .int .i64 (x57.Last), .int .i64 (x57.Prev), .int .i64 (x57.Next)] 37 (0, 0)) :: .blk cb1 (.cells #[baddr cb1 y31, v33] 53 (0, 0)) :: .row v33 5 1 rw34 :: L) _ _ _ := hs
     refine RL_nil ?_
     refine hK9 _ _ ?_; clear hK9
     refine W_seq fun K10 hK10 => ?_
     refine W_block fun Qe11 hB11 hO11 => ?_
     refine W_seq fun K12 hK12 => ?_
     refine W_post (fun a w => ∃ (y72 : Bool), write_Markup_1_k4 n q0 slf y31 y32 y37 (write_Markup_1_l2 n p0 q0 slf x11 k38) x50 x57 y72 = some res ∧ St 84 w0 f29 (.blk b69 (.cells #[.int .i64 (x57.Kind), .string (x57.Name), .string (x57.Text), v64, .int .i64 (x57.Parent), .int .i64 (x57.First), .int .i64 (x57.Last), .int .i64 (x57.Prev), .int .i64 (x57.Next)] 37 (0, 0)) :: .blk cb1 (.cells #[baddr cb1 y31, v33] 53 (0, 0)) :: .row v33 5 1 rw34 :: L) [(0, .int .i64 (p0)), (1, .pointer (some ⟨cb0, 0, none⟩)), (2, .pointer (some ⟨cb1, 0, none⟩)), (3, .pointer (some ⟨cb2, 0, none⟩)), (6, .int .i64 (x50)), (7, .pointer (some ⟨b69, 0, none⟩)), (12, v15), (13, .int .i64 ((x11.length : Int))), (14, .int .i64 (y37)), (23, .bool (y72))] a w) ?_ ?_
     ·clear hs hm
      rintro a w ⟨y72, hm, hs⟩
      replace hs : St _ _ _ (.blk b69 (.cells #[.int .i64 (x57.Kind), .string (x57.Name), .string (x57.Text), v64, .int .i64 (x57.Parent), .int .i64 (x57.First), .int .i64 (x57.Last), .int .i64 (x57.Prev), .int .i64 (x57.Next)] 37 (0, 0)) :: .blk cb1 (.cells #[baddr cb1 y31, v33] 53 (0, 0)) :: .row v33 5 1 rw34 :: L) _ _ _ := hs
      unfold write_Markup_1_k4 at hm
      refine hK12 _ _ ?_; clear hK12
      refine W_cond hs rfl (fun hg73 => ?_) (fun hg73 => ?_)
      ·replace hm := oc_t hg73 hm
       refine W_seq fun K13 hK13 => ?_
       refine W_region ?_
       refine sy (v := .pointer (some ⟨b69, 2, none⟩)) hs (y_fieldAddr rfl (FO.of (off := 2) Tryd.underlying37 rfl rfl ti9 (by decide))) ?_; clear hs; (try clear a w); intro a w hs
       refine sy (v := .string (x57.Text)) hs (y_ld rfl Tryd.underlying9 rfl (Cell.blk (.head _) rfl)) ?_; clear hs; (try clear a w); intro a w hs
       obtain ⟨x74, hx75, hm⟩ := ob hm
       replace hs := hs.front 2
       replace hs := hs.front 2
       replace hs : St _ _ _ (.blk cb1 (.cells #[baddr cb1 y31, v33] 53 (0, 0)) :: .row v33 5 1 rw34 :: .blk b69 (.cells #[.int .i64 (x57.Kind), .string (x57.Name), .string (x57.Text), v64, .int .i64 (x57.Parent), .int .i64 (x57.First), .int .i64 (x57.Last), .int .i64 (x57.Prev), .int .i64 (x57.Next)] 37 (0, 0)) :: L) _ _ _ := hs
       refine RL_call (Lr := [.blk cb1 (.cells #[baddr cb1 y31, v33] 53 (0, 0)), .row v33 5 1 rw34]) (Lf := .blk b69 (.cells #[.int .i64 (x57.Kind), .string (x57.Name), .string (x57.Text), v64, .int .i64 (x57.Parent), .int .i64 (x57.First), .int .i64 (x57.Last), .int .i64 (x57.Prev), .int .i64 (x57.Next)] 37 (0, 0)) :: L) hs rfl has22 rfl rfl (builder_WriteString_ok n (f := f29) (p0 := ({addr := y31, buf := y32} : Builder)) (pb := cb1) (v := v33) (vr := rw34) hW35 hx75) (.free rfl) (by decide) ?_; clear hs; (try clear a w)
       rintro _ f76 _ a w hf77 ⟨v78, rw79, rfl, rfl, hW80⟩ hs
       replace hR4 := hR4.le hf77
       replace hW5 := hW5.le hf77
       replace hc0 := hf77 _ _ hc0
       replace cv1_0h := cv1_0h.le hf77
       replace hc2 := hf77 _ _ hc2
       replace hR17 := hR17.le hf77
       replace hW18 := hW18.le hf77
       replace hW35 := hW35.le hf77
       replace hR66 := hR66.le hf77
       replace hW67 := hW67.le hf77
       replace hle := hle.trans hf77
       replace hbase28 := hbase28.trans hf77
       replace hbase39 := hbase39.trans hf77
       replace hbase49 := hbase49.trans hf77
       replace hs : St _ _ _ (.blk cb1 (.cells #[baddr cb1 x74.2.addr, v78] 53 (0, 0)) :: .row v78 5 1 rw79 :: .blk b69 (.cells #[.int .i64 (x57.Kind), .string (x57.Name), .string (x57.Text), v64, .int .i64 (x57.Parent), .int .i64 (x57.First), .int .i64 (x57.Last), .int .i64 (x57.Prev), .int .i64 (x57.Next)] 37 (0, 0)) :: L) _ _ _ := hs
       refine RL_nil ?_
       refine hK13 _ _ ?_; clear hK13
       refine W_exit ?_
       refine hO11 _ rfl _ _ ?_
       refine hB7 _ _ ?_
       replace hs : St _ _ _ (.blk cb1 (.cells #[baddr cb1 x74.2.addr, v78] 53 (0, 0)) :: .row v78 5 1 rw79 :: .blk b69 (.cells #[.int .i64 (x57.Kind), .string (x57.Name), .string (x57.Text), v64, .int .i64 (x57.Parent), .int .i64 (x57.First), .int .i64 (x57.Last), .int .i64 (x57.Prev), .int .i64 (x57.Next)] 37 (0, 0)) :: L) _ _ _ := hs
       exact ⟨_, x74.2.addr, x74.2.buf, v78, rw79, hbase49, hm, hW80, hs.subs ⟨rfl, rfl, rfl, rfl, rfl, rfl, rfl, trivial⟩ (.cons_cons _ (.cons_cons _ (.cons _ (.refl _))))⟩
      ·replace hm := oc_f hg73 hm
       refine W_seq fun K14 hK14 => ?_
       refine W_region ?_
       refine sy (v := .pointer (some ⟨b69, 0, none⟩)) hs (y_fieldAddr rfl (FO.of (off := 0) Tryd.underlying37 rfl rfl ti3 (by decide))) ?_; clear hs; (try clear a w); intro a w hs
       refine sy (v := .int .i64 (x57.Kind)) hs (y_ld rfl Tryd.underlying3 rfl (Cell.blk (.head _) rfl)) ?_; clear hs; (try clear a w); intro a w hs
       refine sy hs (y_eql rfl rfl) ?_; clear hs; (try clear a w); intro a w hs
       refine sy (v := .bool (decide (x57.Kind = 2))) hs (y_assign rfl) ?_; clear hs; (try clear a w); intro a w hs
       refine RL_nil ?_
       refine hK14 _ _ ?_; clear hK14
       refine W_cond hs rfl (fun hg82 => ?_) (fun hg82 => ?_)
       ·replace hm := oc_t hg82 hm
        refine W_seq fun K15 hK15 => ?_
        refine W_region ?_
        refine sy (v := .pointer (some ⟨b69, 2, none⟩)) hs (y_fieldAddr rfl (FO.of (off := 2) Tryd.underlying37 rfl rfl ti9 (by decide))) ?_; clear hs; (try clear a w); intro a w hs
        refine sy (v := .string (x57.Text)) hs (y_ld rfl Tryd.underlying9 rfl (Cell.blk (.head _) rfl)) ?_; clear hs; (try clear a w); intro a w hs
        obtain ⟨x83, hx84, hm⟩ := ob hm
        refine sy hs (y_call rfl has8 rfl (write_Escape_ok n (f := f29)  hx84)) ?_; clear hs; (try clear a w); intro a w hs
        obtain ⟨x85, hx86, hm⟩ := ob hm
        replace hs := hs.front 2
        replace hs := hs.front 2
        replace hs : St _ _ _ (.blk cb1 (.cells #[baddr cb1 y31, v33] 53 (0, 0)) :: .row v33 5 1 rw34 :: .blk b69 (.cells #[.int .i64 (x57.Kind), .string (x57.Name), .string (x57.Text), v64, .int .i64 (x57.Parent), .int .i64 (x57.First), .int .i64 (x57.Last), .int .i64 (x57.Prev), .int .i64 (x57.Next)] 37 (0, 0)) :: L) _ _ _ := hs
        refine RL_call (Lr := [.blk cb1 (.cells #[baddr cb1 y31, v33] 53 (0, 0)), .row v33 5 1 rw34]) (Lf := .blk b69 (.cells #[.int .i64 (x57.Kind), .string (x57.Name), .string (x57.Text), v64, .int .i64 (x57.Parent), .int .i64 (x57.First), .int .i64 (x57.Last), .int .i64 (x57.Prev), .int .i64 (x57.Next)] 37 (0, 0)) :: L) hs rfl has22 rfl rfl (builder_WriteString_ok n (f := f29) (p0 := ({addr := y31, buf := y32} : Builder)) (pb := cb1) (v := v33) (vr := rw34) hW35 hx86) (.free rfl) (by decide) ?_; clear hs; (try clear a w)
        rintro _ f87 _ a w hf88 ⟨v89, rw90, rfl, rfl, hW91⟩ hs
        replace hR4 := hR4.le hf88
        replace hW5 := hW5.le hf88
        replace hc0 := hf88 _ _ hc0
        replace cv1_0h := cv1_0h.le hf88
        replace hc2 := hf88 _ _ hc2
        replace hR17 := hR17.le hf88
        replace hW18 := hW18.le hf88
        replace hW35 := hW35.le hf88
        replace hR66 := hR66.le hf88
        replace hW67 := hW67.le hf88
        replace hle := hle.trans hf88
        replace hbase28 := hbase28.trans hf88
        replace hbase39 := hbase39.trans hf88
        replace hbase49 := hbase49.trans hf88
        replace hs : St _ _ _ (.blk cb1 (.cells #[baddr cb1 x85.2.addr, v89] 53 (0, 0)) :: .row v89 5 1 rw90 :: .blk b69 (.cells #[.int .i64 (x57.Kind), .string (x57.Name), .string (x57.Text), v64, .int .i64 (x57.Parent), .int .i64 (x57.First), .int .i64 (x57.Last), .int .i64 (x57.Prev), .int .i64 (x57.Next)] 37 (0, 0)) :: L) _ _ _ := hs
        refine RL_nil ?_
        refine hK15 _ _ ?_; clear hK15
        refine W_exit ?_
        refine hO11 _ rfl _ _ ?_
        refine hB7 _ _ ?_
        replace hs : St _ _ _ (.blk cb1 (.cells #[baddr cb1 x85.2.addr, v89] 53 (0, 0)) :: .row v89 5 1 rw90 :: .blk b69 (.cells #[.int .i64 (x57.Kind), .string (x57.Name), .string (x57.Text), v64, .int .i64 (x57.Parent), .int .i64 (x57.First), .int .i64 (x57.Last), .int .i64 (x57.Prev), .int .i64 (x57.Next)] 37 (0, 0)) :: L) _ _ _ := hs
        exact ⟨_, x85.2.addr, x85.2.buf, v89, rw90, hbase49, hm, hW91, hs.subs ⟨rfl, rfl, rfl, rfl, rfl, rfl, rfl, trivial⟩ (.cons_cons _ (.cons_cons _ (.cons _ (.refl _))))⟩
       ·replace hm := oc_f hg82 hm
        refine W_skip ?_
        refine hK10 _ _ ?_; clear hK10
        refine W_seq fun K16 hK16 => ?_
        refine W_region ?_
        refine sy (v := .pointer (some ⟨b69, 1, none⟩)) hs (y_fieldAddr rfl (FO.of (off := 1) Tryd.underlying37 rfl rfl ti9 (by decide))) ?_; clear hs; (try clear a w); intro a w hs
        refine sy (v := .string (x57.Name)) hs (y_ld rfl Tryd.underlying9 rfl (Cell.blk (.head _) rfl)) ?_; clear hs; (try clear a w); intro a w hs
        obtain ⟨x93, hx94, hm⟩ := ob hm
        obtain ⟨hbx93, hex93⟩ := addS_some hx94
        refine sy hs (y_saddW rfl rfl hbx93 hex93) ?_; clear hs; (try clear a w); intro a w hs
        obtain ⟨x95, hx96, hm⟩ := ob hm
        replace hs := hs.front 2
        replace hs := hs.front 2
        replace hs : St _ _ _ (.blk cb1 (.cells #[baddr cb1 y31, v33] 53 (0, 0)) :: .row v33 5 1 rw34 :: .blk b69 (.cells #[.int .i64 (x57.Kind), .string (x57.Name), .string (x57.Text), v64, .int .i64 (x57.Parent), .int .i64 (x57.First), .int .i64 (x57.Last), .int .i64 (x57.Prev), .int .i64 (x57.Next)] 37 (0, 0)) :: L) _ _ _ := hs
        refine RL_call (Lr := [.blk cb1 (.cells #[baddr cb1 y31, v33] 53 (0, 0)), .row v33 5 1 rw34]) (Lf := .blk b69 (.cells #[.int .i64 (x57.Kind), .string (x57.Name), .string (x57.Text), v64, .int .i64 (x57.Parent), .int .i64 (x57.First), .int .i64 (x57.Last), .int .i64 (x57.Prev), .int .i64 (x57.Next)] 37 (0, 0)) :: L) hs rfl has22 rfl rfl (builder_WriteString_ok n (f := f29) (p0 := ({addr := y31, buf := y32} : Builder)) (pb := cb1) (v := v33) (vr := rw34) hW35 hx96) (.free rfl) (by decide) ?_; clear hs; (try clear a w)
        rintro _ f97 _ a w hf98 ⟨v99, rw100, rfl, rfl, hW101⟩ hs
        replace hR4 := hR4.le hf98
        replace hW5 := hW5.le hf98
        replace hc0 := hf98 _ _ hc0
        replace cv1_0h := cv1_0h.le hf98
        replace hc2 := hf98 _ _ hc2
        replace hR17 := hR17.le hf98
        replace hW18 := hW18.le hf98
        replace hW35 := hW35.le hf98
        replace hR66 := hR66.le hf98
        replace hW67 := hW67.le hf98
        replace hle := hle.trans hf98
        replace hbase28 := hbase28.trans hf98
        replace hbase39 := hbase39.trans hf98
        replace hbase49 := hbase49.trans hf98
        replace hs : St _ _ _ (.blk cb1 (.cells #[baddr cb1 x95.2.addr, v99] 53 (0, 0)) :: .row v99 5 1 rw100 :: .blk b69 (.cells #[.int .i64 (x57.Kind), .string (x57.Name), .string (x57.Text), v64, .int .i64 (x57.Parent), .int .i64 (x57.First), .int .i64 (x57.Last), .int .i64 (x57.Prev), .int .i64 (x57.Next)] 37 (0, 0)) :: L) _ _ _ := hs
        refine RL_nil ?_
        refine hK16 _ _ ?_; clear hK16
        refine W_seq fun K17 hK17 => ?_
        refine W_seq fun K18 hK18 => ?_
        refine W_region ?_
        refine sy (v := .pointer (some ⟨b69, 3, none⟩)) hs (y_fieldAddr rfl (FO.of (off := 3) Tryd.underlying37 rfl rfl ti28 (by decide))) ?_; clear hs; (try clear a w); intro a w hs
        refine sy (v := v64) hs (y_ld rfl Tryd.underlying28 rfl (Cell.blk (.tail _ (.tail _ (.head _))) rfl)) ?_; clear hs; (try clear a w); intro a w hs
        refine sy hs (y_lenW hR66 hW67 rfl Tryd.underlying28) ?_; clear hs; (try clear a w); intro a w hs
        refine sy (v := .int .i64 (0)) hs (y_move rfl) ?_; clear hs; (try clear a w); intro a w hs
        refine RL_nil ?_
        refine hK18 _ _ ?_; clear hK18
        have hbase111 := Fz.le.refl f97
        refine W_post (fun a w => ∃ (f103 : Fz) (y105 : Bool) (y106 : (List Int)) (v107 : Value) (rw108 : List (List Value)), Fz.le f97 f103 ∧ write_Markup_1_k5 n q0 slf y37 (write_Markup_1_l2 n p0 q0 slf x11 k38) x50 x57 y105 y106 = some res ∧ RW (tInt .u8) f103 rw108 y106 ∧ St 84 w0 f103 (.blk cb1 (.cells #[baddr cb1 y105, v107] 53 (0, 0)) :: .row v107 5 1 rw108 :: .blk b69 (.cells #[.int .i64 (x57.Kind), .string (x57.Name), .string (x57.Text), v64, .int .i64 (x57.Parent), .int .i64 (x57.First), .int .i64 (x57.Last), .int .i64 (x57.Prev), .int .i64 (x57.Next)] 37 (0, 0)) :: L) [(0, .int .i64 (p0)), (1, .pointer (some ⟨cb0, 0, none⟩)), (2, .pointer (some ⟨cb1, 0, none⟩)), (3, .pointer (some ⟨cb2, 0, none⟩)), (6, .int .i64 (x50)), (7, .pointer (some ⟨b69, 0, none⟩)), (12, v15), (13, .int .i64 ((x11.length : Int))), (14, .int .i64 (y37))] a w) ?_ ?_
        ·clear hs hm
         clear hbase111
         rintro a w ⟨f103, y105, y106, v107, rw108, hl104, hm, hW109, hs⟩
         replace hR4 := hR4.le hl104
         replace hW5 := hW5.le hl104
         replace hc0 := hl104 _ _ hc0
         replace cv1_0h := cv1_0h.le hl104
         replace hc2 := hl104 _ _ hc2
         replace hR17 := hR17.le hl104
         replace hW18 := hW18.le hl104
         replace hW35 := hW35.le hl104
         replace hR66 := hR66.le hl104
         replace hW67 := hW67.le hl104
         replace hW101 := hW101.le hl104
         replace hle := hle.trans hl104
         replace hbase28 := hbase28.trans hl104
         replace hbase39 := hbase39.trans hl104
         replace hbase49 := hbase49.trans hl104
         replace hs : St _ _ _ (.blk cb1 (.cells #[baddr cb1 y105, v107] 53 (0, 0)) :: .row v107 5 1 rw108 :: .blk b69 (.cells #[.int .i64 (x57.Kind), .string (x57.Name), .string (x57.Text), v64, .int .i64 (x57.Parent), .int .i64 (x57.First), .int .i64 (x57.Last), .int .i64 (x57.Prev), .int .i64 (x57.Next)] 37 (0, 0)) :: L) _ _ _ := hs
         unfold write_Markup_1_k5 at hm
         refine hK17 _ _ ?_; clear hK17
         refine W_seq fun K19 hK19 => ?_
         refine W_region ?_
         obtain ⟨x112, hx113, hm⟩ := ob hm
         replace hs := hs.front 1
         replace hs := hs.front 1
         replace hs : St _ _ _ (.blk cb1 (.cells #[baddr cb1 y105, v107] 53 (0, 0)) :: .row v107 5 1 rw108 :: .blk b69 (.cells #[.int .i64 (x57.Kind), .string (x57.Name), .string (x57.Text), v64, .int .i64 (x57.Parent), .int .i64 (x57.First), .int .i64 (x57.Last), .int .i64 (x57.Prev), .int .i64 (x57.Next)] 37 (0, 0)) :: L) _ _ _ := hs
         refine RL_call (Lr := [.blk cb1 (.cells #[baddr cb1 y105, v107] 53 (0, 0)), .row v107 5 1 rw108]) (Lf := .blk b69 (.cells #[.int .i64 (x57.Kind), .string (x57.Name), .string (x57.Text), v64, .int .i64 (x57.Parent), .int .i64 (x57.First), .int .i64 (x57.Last), .int .i64 (x57.Prev), .int .i64 (x57.Next)] 37 (0, 0)) :: L) hs rfl has22 rfl rfl (builder_WriteString_ok n (f := f103) (p0 := ({addr := y105, buf := y106} : Builder)) (pb := cb1) (v := v107) (vr := rw108) hW109 hx113) (.free rfl) (by decide) ?_; clear hs; (try clear a w)
         rintro _ f114 _ a w hf115 ⟨v116, rw117, rfl, rfl, hW118⟩ hs
         replace hR4 := hR4.le hf115
         replace hW5 := hW5.le hf115
         replace hc0 := hf115 _ _ hc0
         replace cv1_0h := cv1_0h.le hf115
         replace hc2 := hf115 _ _ hc2
         replace hR17 := hR17.le hf115
         replace hW18 := hW18.le hf115
         replace hW35 := hW35.le hf115
         replace hR66 := hR66.le hf115
         replace hW67 := hW67.le hf115
         replace hW101 := hW101.le hf115
         replace hW109 := hW109.le hf115
         replace hle := hle.trans hf115
         replace hbase28 := hbase28.trans hf115
         replace hbase39 := hbase39.trans hf115
         replace hbase49 := hbase49.trans hf115
         replace hs : St _ _ _ (.blk cb1 (.cells #[baddr cb1 x112.2.addr, v116] 53 (0, 0)) :: .row v116 5 1 rw117 :: .blk b69 (.cells #[.int .i64 (x57.Kind), .string (x57.Name), .string (x57.Text), v64, .int .i64 (x57.Parent), .int .i64 (x57.First), .int .i64 (x57.Last), .int .i64 (x57.Prev), .int .i64 (x57.Next)] 37 (0, 0)) :: L) _ _ _ := hs
         refine RL_nil ?_
         refine hK19 _ _ ?_; clear hK19
         refine W_seq fun K20 hK20 => ?_
         refine W_region ?_
         refine sy (v := .pointer (some ⟨b69, 1, none⟩)) hs (y_fieldAddr rfl (FO.of (off := 1) Tryd.underlying37 rfl rfl ti9 (by decide))) ?_; clear hs; (try clear a w); intro a w hs
         refine sy (v := .string (x57.Name)) hs (y_ld rfl Tryd.underlying9 rfl (Cell.blk (.tail _ (.tail _ (.head _))) rfl)) ?_; clear hs; (try clear a w); intro a w hs
         obtain ⟨x120, hx121, hm⟩ := ob hm
         refine sy hs (y_call rfl has18 rfl (tree_Void_ok n (f := f114)  hx121)) ?_; clear hs; (try clear a w); intro a w hs
         refine sy (v := .bool ((!x120))) hs (y_not rfl) ?_; clear hs; (try clear a w); intro a w hs
         refine RL_nil ?_
         refine hK20 _ _ ?_; clear hK20
         have hbase130 := Fz.le.refl f114
         refine W_post (fun a w => ∃ (f122 : Fz) (y124 : Bool) (y125 : (List Int)) (v126 : Value) (rw127 : List (List Value)), Fz.le f114 f122 ∧ write_Markup_1_k6 y37 (write_Markup_1_l2 n p0 q0 slf x11 k38) y124 y125 = some res ∧ RW (tInt .u8) f122 rw127 y125 ∧ St 84 w0 f122 (.blk cb1 (.cells #[baddr cb1 y124, v126] 53 (0, 0)) :: .row v126 5 1 rw127 :: L) [(0, .int .i64 (p0)), (1, .pointer (some ⟨cb0, 0, none⟩)), (2, .pointer (some ⟨cb1, 0, none⟩)), (3, .pointer (some ⟨cb2, 0, none⟩)), (12, v15), (13, .int .i64 ((x11.length : Int))), (14, .int .i64 (y37))] a w) ?_ ?_
         ·clear hs hm
          clear hbase130
          rintro a w ⟨f122, y124, y125, v126, rw127, hl123, hm, hW128, hs⟩
          replace hR4 := hR4.le hl123
          replace hW5 := hW5.le hl123
          replace hc0 := hl123 _ _ hc0
          replace cv1_0h := cv1_0h.le hl123
          replace hc2 := hl123 _ _ hc2
          replace hR17 := hR17.le hl123
          replace hW18 := hW18.le hl123
          replace hW35 := hW35.le hl123
          replace hR66 := hR66.le hl123
          replace hW67 := hW67.le hl123
          replace hW101 := hW101.le hl123
          replace hW109 := hW109.le hl123
          replace hW118 := hW118.le hl123
          replace hle := hle.trans hl123
          replace hbase28 := hbase28.trans hl123
          replace hbase39 := hbase39.trans hl123
          replace hbase49 := hbase49.trans hl123
          replace hs : St _ _ _ (.blk cb1 (.cells #[baddr cb1 y124, v126] 53 (0, 0)) :: .row v126 5 1 rw127 :: L) _ _ _ := hs
          unfold write_Markup_1_k6 at hm
          replace hs : St _ _ _ (.blk cb1 (.cells #[baddr cb1 y124, v126] 53 (0, 0)) :: .row v126 5 1 rw127 :: L) _ _ _ := hs
          exact ⟨_, y124, y125, v126, rw127, hbase49, hm, hW128, hs.sub ⟨rfl, rfl, rfl, rfl, rfl, rfl, rfl, trivial⟩⟩
         ·refine W_cond hs rfl (fun hg131 => ?_) (fun hg131 => ?_)
          ·replace hm := oc_t hg131 hm
           refine W_seq fun K21 hK21 => ?_
           refine W_region ?_
           refine sy (v := .func (.func 20) #[] #[.pointer (some ⟨cb0, 0, none⟩), .pointer (some ⟨cb1, 0, none⟩), .pointer (some ⟨cb2, 0, none⟩)]) hs (y_ld rfl Tryd.underlying54 rfl (Cell.fz hc2 rfl)) ?_; clear hs; (try clear a w); intro a w hs
           refine sy (v := .int .i64 (x50)) hs (y_move rfl) ?_; clear hs; (try clear a w); intro a w hs
           obtain ⟨x132, hx133, hm⟩ := ob hm
           replace hs := hs.front 1
           replace hs := hs.front 1
           replace hs : St _ _ _ (.blk cb1 (.cells #[baddr cb1 x112.2.addr, v116] 53 (0, 0)) :: .row v116 5 1 rw117 :: .blk b69 (.cells #[.int .i64 (x57.Kind), .string (x57.Name), .string (x57.Text), v64, .int .i64 (x57.Parent), .int .i64 (x57.First), .int .i64 (x57.Last), .int .i64 (x57.Prev), .int .i64 (x57.Next)] 37 (0, 0)) :: L) _ _ _ := hs
           refine RL_call (Lr := [.blk cb1 (.cells #[baddr cb1 x112.2.addr, v116] 53 (0, 0)), .row v116 5 1 rw117]) (Lf := .blk b69 (.cells #[.int .i64 (x57.Kind), .string (x57.Name), .string (x57.Text), v64, .int .i64 (x57.Parent), .int .i64 (x57.First), .int .i64 (x57.Last), .int .i64 (x57.Prev), .int .i64 (x57.Next)] 37 (0, 0)) :: L) hs rfl has20 rfl rfl (slf_ok (f := f114) (cb0 := cb0) (ca0 := [v2]) (cb1 := cb1) (q1 := ({addr := x112.2.addr, buf := x112.2.buf} : Builder)) (cv1_0 := v116) (cv1_0r := rw117) (cb2 := cb2) ⟨_, rfl, ⟨rw3, hR4, hW5⟩⟩ hc0 hW118 hc2 hx133) (.free rfl) (by decide) ?_; clear hs; (try clear a w)
           rintro _ f134 _ a w hf135 ⟨v136, rw137, rfl, rfl, hW138⟩ hs
           replace hR4 := hR4.le hf135
           replace hW5 := hW5.le hf135
           replace hc0 := hf135 _ _ hc0
           replace cv1_0h := cv1_0h.le hf135
           replace hc2 := hf135 _ _ hc2
           replace hR17 := hR17.le hf135
           replace hW18 := hW18.le hf135
           replace hW35 := hW35.le hf135
           replace hR66 := hR66.le hf135
           replace hW67 := hW67.le hf135
           replace hW101 := hW101.le hf135
           replace hW109 := hW109.le hf135
           replace hW118 := hW118.le hf135
           replace hle := hle.trans hf135
           replace hbase28 := hbase28.trans hf135
           replace hbase39 := hbase39.trans hf135
           replace hbase49 := hbase49.trans hf135
           replace hbase130 := hbase130.trans hf135
           replace hs : St _ _ _ (.blk cb1 (.cells #[baddr cb1 x132.addr, v136] 53 (0, 0)) :: .row v136 5 1 rw137 :: .blk b69 (.cells #[.int .i64 (x57.Kind), .string (x57.Name), .string (x57.Text), v64, .int .i64 (x57.Parent), .int .i64 (x57.First), .int .i64 (x57.Last), .int .i64 (x57.Prev), .int .i64 (x57.Next)] 37 (0, 0)) :: L) _ _ _ := hs
           refine RL_nil ?_
           refine hK21 _ _ ?_; clear hK21
           refine W_region ?_
           refine sy (v := .pointer (some ⟨b69, 1, none⟩)) hs (y_fieldAddr rfl (FO.of (off := 1) Tryd.underlying37 rfl rfl ti9 (by decide))) ?_; clear hs; (try clear a w); intro a w hs
           refine sy (v := .string (x57.Name)) hs (y_ld rfl Tryd.underlying9 rfl (Cell.blk (.tail _ (.tail _ (.head _))) rfl)) ?_; clear hs; (try clear a w); intro a w hs
           obtain ⟨x140, hx141, hm⟩ := ob hm
           obtain ⟨hbx140, hex140⟩ := addS_some hx141
           refine sy hs (y_saddW rfl rfl hbx140 hex140) ?_; clear hs; (try clear a w); intro a w hs
           obtain ⟨x142, hx143, hm⟩ := ob hm
           obtain ⟨hbx142, hex142⟩ := addS_some hx143
           refine sy hs (y_saddW rfl rfl hbx142 hex142) ?_; clear hs; (try clear a w); intro a w hs
           obtain ⟨x144, hx145, hm⟩ := ob hm
           replace hs := hs.front 1
           replace hs := hs.front 1
           replace hs : St _ _ _ (.blk cb1 (.cells #[baddr cb1 x132.addr, v136] 53 (0, 0)) :: .row v136 5 1 rw137 :: .blk b69 (.cells #[.int .i64 (x57.Kind), .string (x57.Name), .string (x57.Text), v64, .int .i64 (x57.Parent), .int .i64 (x57.First), .int .i64 (x57.Last), .int .i64 (x57.Prev), .int .i64 (x57.Next)] 37 (0, 0)) :: L) _ _ _ := hs
           refine RL_call (Lr := [.blk cb1 (.cells #[baddr cb1 x132.addr, v136] 53 (0, 0)), .row v136 5 1 rw137]) (Lf := .blk b69 (.cells #[.int .i64 (x57.Kind), .string (x57.Name), .string (x57.Text), v64, .int .i64 (x57.Parent), .int .i64 (x57.First), .int .i64 (x57.Last), .int .i64 (x57.Prev), .int .i64 (x57.Next)] 37 (0, 0)) :: L) hs rfl has22 rfl rfl (builder_WriteString_ok n (f := f134) (p0 := ({addr := x132.addr, buf := x132.buf} : Builder)) (pb := cb1) (v := v136) (vr := rw137) hW138 hx145) (.free rfl) (by decide) ?_; clear hs; (try clear a w)
           rintro _ f146 _ a w hf147 ⟨v148, rw149, rfl, rfl, hW150⟩ hs
           replace hR4 := hR4.le hf147
           replace hW5 := hW5.le hf147
           replace hc0 := hf147 _ _ hc0
           replace cv1_0h := cv1_0h.le hf147
           replace hc2 := hf147 _ _ hc2
           replace hR17 := hR17.le hf147
           replace hW18 := hW18.le hf147
           replace hW35 := hW35.le hf147
           replace hR66 := hR66.le hf147
           replace hW67 := hW67.le hf147
           replace hW101 := hW101.le hf147
           replace hW109 := hW109.le hf147
           replace hW118 := hW118.le hf147
           replace hW138 := hW138.le hf147
           replace hle := hle.trans hf147
           replace hbase28 := hbase28.trans hf147
           replace hbase39 := hbase39.trans hf147
           replace hbase49 := hbase49.trans hf147
           replace hbase130 := hbase130.trans hf147
           replace hs : St _ _ _ (.blk cb1 (.cells #[baddr cb1 x144.2.addr, v148] 53 (0, 0)) :: .row v148 5 1 rw149 :: .blk b69 (.cells #[.int .i64 (x57.Kind), .string (x57.Name), .string (x57.Text), v64, .int .i64 (x57.Parent), .int .i64 (x57.First), .int .i64 (x57.Last), .int .i64 (x57.Prev), .int .i64 (x57.Next)] 37 (0, 0)) :: L) _ _ _ := hs
           refine RL_nil ?_
           replace hs : St _ _ _ (.blk cb1 (.cells #[baddr cb1 x144.2.addr, v148] 53 (0, 0)) :: .row v148 5 1 rw149 :: .blk b69 (.cells #[.int .i64 (x57.Kind), .string (x57.Name), .string (x57.Text), v64, .int .i64 (x57.Parent), .int .i64 (x57.First), .int .i64 (x57.Last), .int .i64 (x57.Prev), .int .i64 (x57.Next)] 37 (0, 0)) :: L) _ _ _ := hs
           exact ⟨_, x144.2.addr, x144.2.buf, v148, rw149, hbase130, hm, hW150, hs.subs ⟨rfl, rfl, rfl, rfl, rfl, rfl, rfl, trivial⟩ (.cons_cons _ (.cons_cons _ (.cons _ (.refl _))))⟩
          ·replace hm := oc_f hg131 hm
           refine W_skip ?_
           replace hs : St _ _ _ (.blk cb1 (.cells #[baddr cb1 x112.2.addr, v116] 53 (0, 0)) :: .row v116 5 1 rw117 :: .blk b69 (.cells #[.int .i64 (x57.Kind), .string (x57.Name), .string (x57.Text), v64, .int .i64 (x57.Parent), .int .i64 (x57.First), .int .i64 (x57.Last), .int .i64 (x57.Prev), .int .i64 (x57.Next)] 37 (0, 0)) :: L) _ _ _ := hs
           exact ⟨_, x112.2.addr, x112.2.buf, v116, rw117, (Fz.le.refl _), hm, hW118, hs.subs ⟨rfl, rfl, rfl, rfl, rfl, rfl, rfl, trivial⟩ (.cons_cons _ (.cons_cons _ (.cons _ (.refl _))))⟩
        ·refine W_block fun Qe22 hB22 hO22 => ?_
         have hbase := Fz.le.refl f97
         replace hs : St _ _ _ (.blk cb1 (.cells #[baddr cb1 x95.2.addr, v99] 53 (0, 0)) :: .row v99 5 1 rw100 :: .blk b69 (.cells #[.int .i64 (x57.Kind), .string (x57.Name), .string (x57.Text), v64, .int .i64 (x57.Parent), .int .i64 (x57.First), .int .i64 (x57.Last), .int .i64 (x57.Prev), .int .i64 (x57.Next)] 37 (0, 0)) :: L) _ _ _ := hs
         refine W_loop (fun (k : Nat) a w => ∃ (f152 : Fz) (y154 : Bool) (y155 : (List Int)) (y160 : Int) (v156 : Value) (rw157 : List (List Value)), Fz.le f97 f152 ∧ write_Markup_1_l7 n q0 slf y37 (write_Markup_1_l2 n p0 q0 slf x11 k38) x50 x57 k y154 y155 y160 = some res ∧ RW (tInt .u8) f152 rw157 y155 ∧ St 84 w0 f152 (.blk cb1 (.cells #[baddr cb1 y154, v156] 53 (0, 0)) :: .row v156 5 1 rw157 :: .blk b69 (.cells #[.int .i64 (x57.Kind), .string (x57.Name), .string (x57.Text), v64, .int .i64 (x57.Parent), .int .i64 (x57.First), .int .i64 (x57.Last), .int .i64 (x57.Prev), .int .i64 (x57.Next)] 37 (0, 0)) :: L) [(0, .int .i64 (p0)), (1, .pointer (some ⟨cb0, 0, none⟩)), (2, .pointer (some ⟨cb1, 0, none⟩)), (3, .pointer (some ⟨cb2, 0, none⟩)), (6, .int .i64 (x50)), (7, .pointer (some ⟨b69, 0, none⟩)), (12, v15), (13, .int .i64 ((x11.length : Int))), (14, .int .i64 (y37)), (53, v64), (54, .int .i64 ((x57.Attrs.length : Int))), (55, .int .i64 (y160))] a w) (fun k => k) n ⟨_, x95.2.addr, x95.2.buf, 0, v99, rw100, (Fz.le.refl _), hm, hW101, hs.sub ⟨rfl, rfl, rfl, rfl, rfl, rfl, rfl, rfl, rfl, rfl, rfl, rfl, trivial⟩⟩ ?_
         clear hs hm
         intro k
         rintro a w ⟨f152, y154, y155, y160, v156, rw157, hl153, hm, hW158, hs⟩
         replace hR4 := hR4.le hl153
         replace hW5 := hW5.le hl153
         replace hc0 := hl153 _ _ hc0
         replace cv1_0h := cv1_0h.le hl153
         replace hc2 := hl153 _ _ hc2
         replace hR17 := hR17.le hl153
         replace hW18 := hW18.le hl153
         replace hW35 := hW35.le hl153
         replace hR66 := hR66.le hl153
         replace hW67 := hW67.le hl153
         replace hW101 := hW101.le hl153
         replace hle := hle.trans hl153
         replace hbase28 := hbase28.trans hl153
         replace hbase39 := hbase39.trans hl153
         replace hbase49 := hbase49.trans hl153
         replace hbase111 := hbase111.trans hl153
         replace hs : St _ _ _ (.blk cb1 (.cells #[baddr cb1 y154, v156] 53 (0, 0)) :: .row v156 5 1 rw157 :: .blk b69 (.cells #[.int .i64 (x57.Kind), .string (x57.Name), .string (x57.Text), v64, .int .i64 (x57.Parent), .int .i64 (x57.First), .int .i64 (x57.Last), .int .i64 (x57.Prev), .int .i64 (x57.Next)] 37 (0, 0)) :: L) _ _ _ := hs
         intro K23 hK23
         cases k with
         | zero => simp [write_Markup_1_l7] at hm
         | succ k161 =>
          rw [write_Markup_1_l7] at hm
          have hbase162 := hl153
          refine W_seq fun K24 hK24 => ?_
          refine W_region ?_
          refine sy hs (y_lss rfl rfl) ?_; clear hs; (try clear a w); intro a w hs
          refine RL_nil ?_
          refine hK24 _ _ ?_; clear hK24
          refine W_seq fun K25 hK25 => ?_
          refine W_cond hs rfl (fun hg163 => ?_) (fun hg163 => ?_)
          ·replace hm := oc_t hg163 hm
           refine W_skip ?_
           refine hK25 _ _ ?_; clear hK25
           refine W_seq fun K26 hK26 => ?_
           refine W_block fun Qe27 hB27 hO27 => ?_
           refine W_seq fun K28 hK28 => ?_
           refine W_region ?_
           obtain ⟨x164, hx165, hm⟩ := ob hm
           obtain ⟨r166, hr167, hq168, hi169, hb170⟩ := hW67.geti hx165
           obtain rfl : _ = ([.string (x164.Name), .string (x164.Value)] : List Value) := hq168
           refine sy hs (y_indexAddr hR66 rfl rfl hi169 hb170 Tryd.underlying28 ti43) ?_; clear hs; (try clear a w); intro a w hs
           refine sy hs (y_loadRow hR66.up rfl hr167 Tryd.underlying43 rfl ti43) ?_; clear hs; (try clear a w); intro a w hs
           refine RL_alloc hs ti43 (.free rfl) (by decide) ?_; clear hs; (try clear a w); intro b171 a w hs
           replace hs : St _ _ _ (.blk b171 (.cells #[.string ((bs [])), .string ((bs []))] 43 (0, 0)) :: .blk cb1 (.cells #[baddr cb1 y154, v156] 53 (0, 0)) :: .row v156 5 1 rw157 :: .blk b69 (.cells #[.int .i64 (x57.Kind), .string (x57.Name), .string (x57.Text), v64, .int .i64 (x57.Parent), .int .i64 (x57.First), .int .i64 (x57.Last), .int .i64 (x57.Prev), .int .i64 (x57.Next)] 37 (0, 0)) :: L) _ _ _ := hs
           refine RL_storeAll (i := 0) hs rfl rfl rfl ti43 ⟨rfl, rfl⟩ (AllC.arr (r := [.string (x164.Name), .string (x164.Value)]) ⟨rfl, rfl, trivial⟩) (.free rfl) ?_; clear hs; (try clear a w); intro a w hs
           replace hs : St _ _ _ (.blk b171 (.cells #[.string (x164.Name), .string (x164.Value)] 43 (0, 0)) :: .blk cb1 (.cells #[baddr cb1 y154, v156] 53 (0, 0)) :: .row v156 5 1 rw157 :: .blk b69 (.cells #[.int .i64 (x57.Kind), .string (x57.Name), .string (x57.Text), v64, .int .i64 (x57.Parent), .int .i64 (x57.First), .int .i64 (x57.Last), .int .i64 (x57.Prev), .int .i64 (x57.Next)] 37 (0, 0)) :: L) _ _ _ := hs
           refine RL_nil ?_
           refine hK28 _ _ ?_; clear hK28
           have hsD := hs.subL (L' := .blk b171 (.cells #[.string (x164.Name), .string (x164.Value)] 43 (0, 0)) :: []) (.cons_cons _ (.cons _ (.cons _ (.cons _ (List.nil_sublist _)))))
           have hbd173 := Fz.le.refl f152
           refine T_start hs (.blk b171 (.cells #[.string (x164.Name), .string (x164.Value)] 43 (0, 0)) :: []) [9] (.look 0 (.look 1 (.look 2 (.look 3 (.look 4 (.look 5 (.look 6 (.look 7 (.look 8 (.any [9] (fun _ => .done))))))))))) mixed (by kernel_rfl) ?_; clear hs; (try clear a w); intro a he
           refine uy (v := .pointer (some ⟨b171, 0, none⟩)) 0 he rfl (y_fieldAddr rfl (FO.of (off := 0) Tryd.underlying43 rfl rfl ti9 (by decide))) ?_; clear he; (try clear a); intro a he
           refine uy (v := .string (x164.Name)) 1 he rfl (y_ld rfl Tryd.underlying9 rfl (Cell.blk (.head _) rfl)) ?_; clear he; (try clear a); intro a he
           obtain ⟨x174, hx175, hm⟩ := ob hm
           obtain ⟨hbx174, hex174⟩ := addS_some hx175
           refine uy 2 he rfl (y_saddW rfl rfl hbx174 hex174) ?_; clear he; (try clear a); intro a he
           obtain ⟨x176, hx177, hm⟩ := ob hm
           obtain ⟨hbx176, hex176⟩ := addS_some hx177
           refine uy 3 he rfl (y_saddW rfl rfl hbx176 hex176) ?_; clear he; (try clear a); intro a he
           refine uy (v := .pointer (some ⟨b171, 1, none⟩)) 4 he rfl (y_fieldAddr rfl (FO.of (off := 1) Tryd.underlying43 rfl rfl ti9 (by decide))) ?_; clear he; (try clear a); intro a he
           refine uy (v := .string (x164.Value)) 5 he rfl (y_ld rfl Tryd.underlying9 rfl (Cell.blk (.head _) rfl)) ?_; clear he; (try clear a); intro a he
           obtain ⟨x178, hx179, hm⟩ := ob hm
           refine ucall 6 he rfl rfl has8 rfl (fun f9 L9 w9 hfc _ hw9 => (write_Escape_ok n (f := f9)  hx179) w0 L9 w9 hw9) ?_; clear he; (try clear a); intro a he
           obtain ⟨x180, hx181, hm⟩ := ob hm
           obtain ⟨hbx180, hex180⟩ := addS_some hx181
           refine uy 7 he rfl (y_saddW rfl rfl hbx180 hex180) ?_; clear he; (try clear a); intro a he
           obtain ⟨x182, hx183, hm⟩ := ob hm
           obtain ⟨hbx182, hex182⟩ := addS_some hx183
           refine uy 8 he rfl (y_saddW rfl rfl hbx182 hex182) ?_; clear he; (try clear a); intro a he
           refine T_any1 he rfl ?_; clear he; (try clear a); intro a w hs
           obtain ⟨x184, hx185, hm⟩ := ob hm
           replace hs := hs.front 2
           replace hs := hs.front 2
           replace hs : St _ _ _ (.blk cb1 (.cells #[baddr cb1 y154, v156] 53 (0, 0)) :: .row v156 5 1 rw157 :: .blk b171 (.cells #[.string (x164.Name), .string (x164.Value)] 43 (0, 0)) :: .blk b69 (.cells #[.int .i64 (x57.Kind), .string (x57.Name), .string (x57.Text), v64, .int .i64 (x57.Parent), .int .i64 (x57.First), .int .i64 (x57.Last), .int .i64 (x57.Prev), .int .i64 (x57.Next)] 37 (0, 0)) :: L) _ _ _ := hs
           refine RL_call (Lr := [.blk cb1 (.cells #[baddr cb1 y154, v156] 53 (0, 0)), .row v156 5 1 rw157]) (Lf := .blk b171 (.cells #[.string (x164.Name), .string (x164.Value)] 43 (0, 0)) :: .blk b69 (.cells #[.int .i64 (x57.Kind), .string (x57.Name), .string (x57.Text), v64, .int .i64 (x57.Parent), .int .i64 (x57.First), .int .i64 (x57.Last), .int .i64 (x57.Prev), .int .i64 (x57.Next)] 37 (0, 0)) :: L) hs rfl has22 rfl rfl (builder_WriteString_ok n (f := f152) (p0 := ({addr := y154, buf := y155} : Builder)) (pb := cb1) (v := v156) (vr := rw157) hW158 hx185) (.free rfl) (by decide) ?_; clear hs; (try clear a w)
           rintro _ f186 _ a w hf187 ⟨v188, rw189, rfl, rfl, hW190⟩ hs
           have hR191 := hR4.le hf187
           have hW192 := hW5.le hf187
           have hc193 := hf187 _ _ hc0
           have cv194 := cv1_0h.le hf187
           have hc195 := hf187 _ _ hc2
           have hR196 := hR17.le hf187
           have hW197 := hW18.le hf187
           have hW198 := hW35.le hf187
           have hR199 := hR66.le hf187
           have hW200 := hW67.le hf187
           have hW201 := hW101.le hf187
           have hW202 := hW158.le hf187
           replace hle := hle.trans hf187
           replace hbase28 := hbase28.trans hf187
           replace hbase39 := hbase39.trans hf187
           replace hbase49 := hbase49.trans hf187
           replace hbase111 := hbase111.trans hf187
           replace hbase162 := hbase162.trans hf187
           replace hbd173 := hbd173.trans hf187
           replace hs : St _ _ _ (.blk cb1 (.cells #[baddr cb1 x184.2.addr, v188] 53 (0, 0)) :: .row v188 5 1 rw189 :: .blk b171 (.cells #[.string (x164.Name), .string (x164.Value)] 43 (0, 0)) :: .blk b69 (.cells #[.int .i64 (x57.Kind), .string (x57.Name), .string (x57.Text), v64, .int .i64 (x57.Parent), .int .i64 (x57.First), .int .i64 (x57.Last), .int .i64 (x57.Prev), .int .i64 (x57.Next)] 37 (0, 0)) :: L) _ _ _ := hs
           refine uend hs ?_; clear hs; (try clear a w); intro a he
           refine T_nil he ?_; clear he; (try clear a); intro w hs; try clear hsD
           refine hK26 _ _ ?_; clear hK26
           refine W_region ?_
           refine sy hs (y_add rfl rfl rfl) ?_; clear hs; (try clear a w); intro a w hs
           refine sy (v := .int .i64 ((w64 (y160 + 1)))) hs (y_move rfl) ?_; clear hs; (try clear a w); intro a w hs
           refine RL_nil ?_
           replace hs : St _ _ _ (.blk cb1 (.cells #[baddr cb1 x184.2.addr, v188] 53 (0, 0)) :: .row v188 5 1 rw189 :: .blk b171 (.cells #[.string (x164.Name), .string (x164.Value)] 43 (0, 0)) :: .blk b69 (.cells #[.int .i64 (x57.Kind), .string (x57.Name), .string (x57.Text), v64, .int .i64 (x57.Parent), .int .i64 (x57.First), .int .i64 (x57.Last), .int .i64 (x57.Prev), .int .i64 (x57.Next)] 37 (0, 0)) :: L) _ _ _ := hs
           exact hK23 k161 _ _ (Nat.lt_succ_self _) ⟨_, x184.2.addr, x184.2.buf, (w64 (y160 + 1)), v188, rw189, hbase162, hm, hW190, hs.subs ⟨rfl, rfl, rfl, rfl, rfl, rfl, rfl, rfl, rfl, rfl, rfl, rfl, trivial⟩ (.cons_cons _ (.cons_cons _ (.cons _ (.cons_cons _ (.refl _)))))⟩
          ·replace hm := oc_f hg163 hm
           refine W_exit ?_
           refine hB22 _ _ ?_
           replace hs : St _ _ _ (.blk cb1 (.cells #[baddr cb1 y154, v156] 53 (0, 0)) :: .row v156 5 1 rw157 :: .blk b69 (.cells #[.int .i64 (x57.Kind), .string (x57.Name), .string (x57.Text), v64, .int .i64 (x57.Parent), .int .i64 (x57.First), .int .i64 (x57.Last), .int .i64 (x57.Prev), .int .i64 (x57.Next)] 37 (0, 0)) :: L) _ _ _ := hs
           exact ⟨_, y154, y155, v156, rw157, hbase111, hm, hW158, hs.sub ⟨rfl, rfl, rfl, rfl, rfl, rfl, rfl, rfl, rfl, trivial⟩⟩
     ·refine W_region ?_
      refine sy (v := .pointer (some ⟨b69, 0, none⟩)) hs (y_fieldAddr rfl (FO.of (off := 0) Tryd.underlying37 rfl rfl ti3 (by decide))) ?_; clear hs; (try clear a w); intro a w hs
      refine sy (v := .int .i64 (x57.Kind)) hs (y_ld rfl Tryd.underlying3 rfl (Cell.blk (.head _) rfl)) ?_; clear hs; (try clear a w); intro a w hs
      refine sy hs (y_eql rfl rfl) ?_; clear hs; (try clear a w); intro a w hs
      refine sy (v := .bool (decide (x57.Kind = 2))) hs (y_move rfl) ?_; clear hs; (try clear a w); intro a w hs
      refine St.split hs (t := 27) rfl (fun hg204 hq => ?_) (fun hg204 hq => ?_)
      ·clear hs; have hs := hq; clear hq
       replace hm := oc_t hg204 hm
       refine RL_guard hs rfl rfl ?_
       refine RL_bsN (parts := [(0, .const (.string (bs [115, 116, 121, 108, 101]))), (1, .const (.string (bs [115, 99, 114, 105, 112, 116])))]) (us := [.string ((bs [115, 116, 121, 108, 101])), .string ((bs [115, 99, 114, 105, 112, 116]))]) (rows := [[.string ((bs [115, 116, 121, 108, 101]))], [.string ((bs [115, 99, 114, 105, 112, 116]))]]) hs rfl Tryd.underlying47 ti9 (by decide) rfl rfl (by intro r hr; simp only [List.mem_cons, List.mem_nil_iff, or_false] at hr; rcases hr with rfl | rfl; exact AllC.row ⟨rfl, trivial⟩ rfl; exact AllC.row ⟨rfl, trivial⟩ rfl) ?_; clear hs; (try clear a w); intro v205 a w hs
       have hW206 : RW tStr f29 [[.string ((bs [115, 116, 121, 108, 101]))], [.string ((bs [115, 99, 114, 105, 112, 116]))]] [(bs [115, 116, 121, 108, 101]), (bs [115, 99, 114, 105, 112, 116])] := ⟨rfl, ⟨rfl, trivial⟩⟩
       generalize hgrw207 : ([[.string ((bs [115, 116, 121, 108, 101]))], [.string ((bs [115, 99, 114, 105, 112, 116]))]] : List (List Value)) = rw207 at hs hW206; clear hgrw207
       replace hs : St _ _ _ (.row v205 9 1 rw207 :: .blk b69 (.cells #[.int .i64 (x57.Kind), .string (x57.Name), .string (x57.Text), v64, .int .i64 (x57.Parent), .int .i64 (x57.First), .int .i64 (x57.Last), .int .i64 (x57.Prev), .int .i64 (x57.Next)] 37 (0, 0)) :: .blk cb1 (.cells #[baddr cb1 y31, v33] 53 (0, 0)) :: .row v33 5 1 rw34 :: L) _ _ _ := hs
       refine syg (v := .pointer (some ⟨cb0, 0, none⟩)) hs (y_fieldAddr rfl (FO.of (off := 0) Tryd.underlying24 rfl rfl ti22 (by decide))) ?_; clear hs; (try clear a w); intro a w hs
       refine syg (v := v2) hs (y_ld rfl Tryd.underlying22 rfl (Cell.fz hc0 rfl)) ?_; clear hs; (try clear a w); intro a w hs
       refine syg (v := .int .i64 (p0)) hs (y_move rfl) ?_; clear hs; (try clear a w); intro a w hs
       obtain ⟨x210, hx211, hm⟩ := ob hm
       obtain ⟨r212, hr213, hq214, hi215, hb216⟩ := hW5.geti hx211
       obtain ⟨v217, rfl, ⟨rw218, hR219, hW220⟩⟩ := hq214
       refine syg hs (y_indexAddr hR4 rfl rfl hi215 hb216 Tryd.underlying22 ti37) ?_; clear hs; (try clear a w); intro a w hs
       refine syg (v := eaddr v2 9 p0.toNat 1) hs (y_fieldAddrE (i := p0.toNat) (j := 0) hR4 rfl hb216 (FO.of (off := 1) Tryd.underlying37 rfl rfl ti9 (by decide))) ?_; clear hs; (try clear a w); intro a w hs
       refine syg (v := .string (x210.Name)) hs (y_loadE (i := p0.toNat) (j := 1) hR4.up rfl hr213 rfl Tryd.underlying9 rfl) ?_; clear hs; (try clear a w); intro a w hs
       obtain ⟨x222, hx223, hm⟩ := ob hm
       refine syg hs (y_callCK (cap := []) rfl has14 rfl (fun w9 hw9 => callsP (Lr := [.row v205 9 1 rw207]) (Lf := .blk b69 (.cells #[.int .i64 (x57.Kind), .string (x57.Name), .string (x57.Text), v64, .int .i64 (x57.Parent), .int .i64 (x57.First), .int .i64 (x57.Last), .int .i64 (x57.Prev), .int .i64 (x57.Next)] 37 (0, 0)) :: .blk cb1 (.cells #[baddr cb1 y31, v33] 53 (0, 0)) :: .row v33 5 1 rw34 :: L) (perm_at _ 0 rfl) hw9 (fun Lz w9 hw9 => lent0 hw9 (fun f9_0 w9 hle9_0 hRl0 hw9 => (slices_Contains_string_string_ok n (f := f9_0) (a0 := v205) ⟨rw207, hRl0, hW206.le hle9_0⟩ hx223) w0 _ w9 hw9)))) ?_; clear hs; (try clear a w); intro a w hs
       refine sy (v := .bool (x222)) hs (y_pick rfl rfl) ?_; clear hs; (try clear a w); intro a w hs
       refine sy (v := .bool (x222)) hs (y_assign rfl) ?_; clear hs; (try clear a w); intro a w hs
       refine RL_nil ?_
       replace hs : St _ _ _ (.row v205 9 1 rw207 :: .blk b69 (.cells #[.int .i64 (x57.Kind), .string (x57.Name), .string (x57.Text), v64, .int .i64 (x57.Parent), .int .i64 (x57.First), .int .i64 (x57.Last), .int .i64 (x57.Prev), .int .i64 (x57.Next)] 37 (0, 0)) :: .blk cb1 (.cells #[baddr cb1 y31, v33] 53 (0, 0)) :: .row v33 5 1 rw34 :: L) _ _ _ := hs
       exact ⟨x222, hm, hs.subs ⟨rfl, rfl, rfl, rfl, rfl, rfl, rfl, rfl, rfl, rfl, trivial⟩ (.cons _ (.cons_cons _ (.cons_cons _ (.cons_cons _ (.refl _)))))⟩
      ·clear hs; have hs := hq; clear hq
       replace hm := oc_f hg204 hm
       refine sno hs ?_; clear hs; (try clear a w); intro a w hs
       refine sno hs ?_; clear hs; (try clear a w); intro a w hs
       refine sno hs ?_; clear hs; (try clear a w); intro a w hs
       refine sno hs ?_; clear hs; (try clear a w); intro a w hs
       refine sno hs ?_; clear hs; (try clear a w); intro a w hs
       refine sno hs ?_; clear hs; (try clear a w); intro a w hs
       refine sno hs ?_; clear hs; (try clear a w); intro a w hs
       refine sno hs ?_; clear hs; (try clear a w); intro a w hs
       refine sy (v := .bool (false)) hs (y_pick rfl rfl) ?_; clear hs; (try clear a w); intro a w hs
       refine sy (v := .bool (false)) hs (y_assign rfl) ?_; clear hs; (try clear a w); intro a w hs
       refine RL_nil ?_
       replace hs : St _ _ _ (.blk b69 (.cells #[.int .i64 (x57.Kind), .string (x57.Name), .string (x57.Text), v64, .int .i64 (x57.Parent), .int .i64 (x57.First), .int .i64 (x57.Last), .int .i64 (x57.Prev), .int .i64 (x57.Next)] 37 (0, 0)) :: .blk cb1 (.cells #[baddr cb1 y31, v33] 53 (0, 0)) :: .row v33 5 1 rw34 :: L) _ _ _ := hs
       exact ⟨false, hm, hs.sub ⟨rfl, rfl, rfl, rfl, rfl, rfl, rfl, rfl, rfl, rfl, trivial⟩⟩
   ·replace hm := oc_f hg40 hm
    refine W_exit ?_
    refine hB2 _ _ ?_
    replace hs : St _ _ _ (.blk cb1 (.cells #[baddr cb1 y31, v33] 53 (0, 0)) :: .row v33 5 1 rw34 :: L) _ _ _ := hs
    exact ⟨_, y31, y32, v33, rw34, hbase28, hm, hW35, hs.sub trivial⟩
set_option maxRecDepth 20000 in
set_option maxHeartbeats 4000000 in
theorem write_Markup_1_ok : ∀ (n : Nat) {f : Fz} {p0 : Int} {cb0 : Nat} {q0 : api_Tree} {ca0 : List Value} {cb1 : Nat} {q1 : Builder} {cv1_0 : Value} {cv1_0r : List (List Value)} {cb2 : Nat} {res : Builder} (_hq0 : t_api_Tree.R f ca0 q0) (_hc0 : f cb0 = some (.cells ca0.toArray 24 (0, 0))) (_cv1_0h : RW (tInt .u8) f cv1_0r q1.buf) (_hc2 : f cb2 = some (.cells #[.func (.func 20) #[] #[.pointer (some ⟨cb0, 0, none⟩), .pointer (some ⟨cb1, 0, none⟩), .pointer (some ⟨cb2, 0, none⟩)]] 54 (0, 0))) (_ : write_Markup_1 n p0 q0 q1 = some res), Does Tryd.prog 20 [.int .i64 p0, .pointer (some ⟨cb0, 0, none⟩), .pointer (some ⟨cb1, 0, none⟩), .pointer (some ⟨cb2, 0, none⟩)] f [.blk cb1 (.cells #[baddr cb1 q1.addr, cv1_0] 53 (0, 0)), .row cv1_0 5 1 cv1_0r] (fun r f' L' => ∃ (dv1_0 : Value) (dv1_0r : List (List Value)), L' = [.blk cb1 (.cells #[baddr cb1 res.addr, dv1_0] 53 (0, 0)), .row dv1_0 5 1 dv1_0r] ∧ r = .tuple #[] ∧ RW (tInt .u8) f' dv1_0r res.buf)
  | 0, f, p0, cb0, q0, ca0, cb1, q1, cv1_0, cv1_0r, cb2, res, hq0, hc0, cv1_0h, hc2, hm => by simp [write_Markup_1] at hm
  | n + 1, f, p0, cb0, q0, ca0, cb1, q1, cv1_0, cv1_0r, cb2, res, hq0, hc0, cv1_0h, hc2, hm => write_Markup_1_bok n (write_Markup_1_ok n) hq0 hc0 cv1_0h hc2 hm
/-! casement/write.Markup -/
def write_Markup (n : Nat) (p0 : api_Tree) : Option ByteArray :=
  (dom_Right n p0).bind fun x8 =>
  (bif (decide (x8 ≠ 0)) then some (bs []) else
  (write_Markup_1 n 0 p0 ({addr := false, buf := ([] : List Int)} : Builder)).bind fun x26 =>
  some (bytesOf x26.buf))
set_option maxRecDepth 20000 in
set_option maxHeartbeats 4000000 in
theorem write_Markup_ok (n : Nat) {f : Fz} {p0 : api_Tree} {a0 : List Value} {res : ByteArray} (h0 : t_api_Tree.R f a0 p0) (hm : write_Markup n p0 = some res) : Gives Tryd.prog 7 [.agg a0.toArray] f (.string res) := by
 unfold write_Markup at hm
 intro w0 L w hC
 obtain ⟨v1, rfl, ⟨rw2, hR3, hW4⟩⟩ := h0
 refine enter Tryd.func7 rfl Tryd.ntmps7 (by simp) hC fun a hs => ?_
 have hle := Fz.le.refl f
 refine W_seq fun K1 hK1 => ?_
 refine W_region ?_
 refine sbox hs rfl ?_; clear hs; (try clear a w); intro b6 a w hs
 replace hs : St _ _ _ (.blk b6 (.cells #[v1] 24 (0, 0)) :: L) _ _ _ := hs
 refine sy (v := .string ((bs []))) hs (y_assign rfl) ?_; clear hs; (try clear a w); intro a w hs
 refine RL_nil ?_
 refine hK1 _ _ ?_; clear hK1
 refine W_seq fun K2 hK2 => ?_
 refine W_seq fun K3 hK3 => ?_
 refine W_region ?_
 refine sy hs (y_ldB rfl Tryd.underlying24 rfl ti24 (.head _) rfl) ?_; clear hs; (try clear a w); intro a w hs
 obtain ⟨x8, hx9, hm⟩ := ob hm
 refine sy hs (y_call rfl has13 rfl (dom_Right_ok n (f := f) (a0 := [v1]) ⟨_, rfl, ⟨rw2, hR3, hW4⟩⟩ hx9)) ?_; clear hs; (try clear a w); intro a w hs
 refine sy hs (y_neq rfl rfl) ?_; clear hs; (try clear a w); intro a w hs
 refine RL_nil ?_
 refine hK3 _ _ ?_; clear hK3
 refine W_cond hs rfl (fun hg10 => ?_) (fun hg10 => ?_)
 ·replace hm := oc_t hg10 hm
  refine W_seq fun K4 hK4 => ?_
  refine W_region ?_
  refine sy (v := .string ((bs []))) hs (y_assign rfl) ?_; clear hs; (try clear a w); intro a w hs
  refine RL_nil ?_
  refine hK4 _ _ ?_; clear hK4
  refine W_ret ?_
  obtain rfl := Option.some.inj hm
  refine RtV1 hs rfl (rv_t hs rfl) ?_
  exact ⟨rfl, ((hs.subL (.cons _ (.refl _))).weak hle).cw⟩
 ·replace hm := oc_f hg10 hm
  refine W_skip ?_
  refine hK2 _ _ ?_; clear hK2
  refine W_seq fun K5 hK5 => ?_
  refine W_region ?_
  refine RL_alloc hs ti53 (.free rfl) (by decide) ?_; clear hs; (try clear a w); intro b11 a w hs
  replace hs : St _ _ _ (.blk b11 (.cells #[.pointer none, (.slice none 0 0)] 53 (0, 0)) :: .blk b6 (.cells #[v1] 24 (0, 0)) :: L) _ _ _ := hs
  replace hs := hs.nilRow 5 1
  have hW14 : RW (tInt .u8) f [] ([] : List Int) := trivial
  generalize hgrw15 : ([] : List (List Value)) = rw15 at hs hW14; clear hgrw15
  replace hs : St _ _ _ (.row (.slice none 0 0) 5 1 rw15 :: .blk b11 (.cells #[.pointer none, (.slice none 0 0)] 53 (0, 0)) :: .blk b6 (.cells #[v1] 24 (0, 0)) :: L) _ _ _ := hs
  replace hs : St _ _ _ (.row (.slice none 0 0) 5 1 rw15 :: .blk b11 (.cells #[baddr b11 false, (.slice none 0 0)] 53 (0, 0)) :: .blk b6 (.cells #[v1] 24 (0, 0)) :: L) _ _ _ := hs
  refine RL_nil ?_
  refine hK5 _ _ ?_; clear hK5
  refine W_seq fun K6 hK6 => ?_
  refine W_region ?_
  refine RL_alloc hs ti54 (.free rfl) (by decide) ?_; clear hs; (try clear a w); intro b18 a w hs
  replace hs : St _ _ _ (.blk b18 (.cells #[.nilFunc] 54 (0, 0)) :: .row (.slice none 0 0) 5 1 rw15 :: .blk b11 (.cells #[baddr b11 false, (.slice none 0 0)] 53 (0, 0)) :: .blk b6 (.cells #[v1] 24 (0, 0)) :: L) _ _ _ := hs
  refine RL_nil ?_
  refine hK6 _ _ ?_; clear hK6
  refine W_seq fun K7 hK7 => ?_
  refine W_region ?_
  obtain ⟨f20, hf21, hs2, hB22⟩ := hs.frzB 3 rfl
  clear hs; have hs := hs2; clear hs2
  replace hR3 := hR3.le hf21
  replace hW4 := hW4.le hf21
  replace hW14 := hW14.le hf21
  replace hle := hle.trans hf21
  replace hs : St _ _ _ (.blk b18 (.cells #[.nilFunc] 54 (0, 0)) :: .row (.slice none 0 0) 5 1 rw15 :: .blk b11 (.cells #[baddr b11 false, (.slice none 0 0)] 53 (0, 0)) :: L) _ _ _ := hs
  refine sy hs (y_makeFunc rfl) ?_; clear hs; (try clear a w); intro a w hs
  refine sstore 0 hs rfl rfl rfl ti54 rfl ?_; clear hs; (try clear a w); intro a w hs
  replace hs : St _ _ _ (.blk b18 (.cells #[.func (.func 20) #[] #[.pointer (some ⟨b6, 0, none⟩), .pointer (some ⟨b11, 0, none⟩), .pointer (some ⟨b18, 0, none⟩)]] 54 (0, 0)) :: .row (.slice none 0 0) 5 1 rw15 :: .blk b11 (.cells #[baddr b11 false, (.slice none 0 0)] 53 (0, 0)) :: L) _ _ _ := hs
  refine RL_nil ?_
  refine hK7 _ _ ?_; clear hK7
  refine W_seq fun K8 hK8 => ?_
  refine W_region ?_
  refine sy (v := .func (.func 20) #[] #[.pointer (some ⟨b6, 0, none⟩), .pointer (some ⟨b11, 0, none⟩), .pointer (some ⟨b18, 0, none⟩)]) hs (y_ld rfl Tryd.underlying54 rfl (Cell.blk (.head _) rfl)) ?_; clear hs; (try clear a w); intro a w hs
  obtain ⟨f23, hf24, hs2, hB25⟩ := hs.frzB 0 rfl
  clear hs; have hs := hs2; clear hs2
  replace hR3 := hR3.le hf24
  replace hW4 := hW4.le hf24
  replace hW14 := hW14.le hf24
  replace hB22 := hf24 _ _ hB22
  replace hle := hle.trans hf24
  replace hs : St _ _ _ (.row (.slice none 0 0) 5 1 rw15 :: .blk b11 (.cells #[baddr b11 false, (.slice none 0 0)] 53 (0, 0)) :: L) _ _ _ := hs
  obtain ⟨x26, hx27, hm⟩ := ob hm
  replace hs := hs.front 0
  replace hs := hs.front 1
  replace hs : St _ _ _ (.blk b11 (.cells #[baddr b11 false, (.slice none 0 0)] 53 (0, 0)) :: .row (.slice none 0 0) 5 1 rw15 :: L) _ _ _ := hs
  refine RL_call (Lr := [.blk b11 (.cells #[baddr b11 false, (.slice none 0 0)] 53 (0, 0)), .row (.slice none 0 0) 5 1 rw15]) (Lf := L) hs rfl has20 rfl rfl (write_Markup_1_ok n (f := f23) (cb0 := b6) (ca0 := [v1]) (cb1 := b11) (q1 := ({addr := false, buf := ([] : List Int)} : Builder)) (cv1_0 := (.slice none 0 0)) (cv1_0r := rw15) (cb2 := b18) ⟨_, rfl, ⟨rw2, hR3, hW4⟩⟩ hB22 hW14 hB25 hx27) (.free rfl) (by decide) ?_; clear hs; (try clear a w)
  rintro _ f28 _ a w hf29 ⟨v30, rw31, rfl, rfl, hW32⟩ hs
  replace hR3 := hR3.le hf29
  replace hW4 := hW4.le hf29
  replace hW14 := hW14.le hf29
  replace hB22 := hf29 _ _ hB22
  replace hB25 := hf29 _ _ hB25
  replace hle := hle.trans hf29
  replace hs : St _ _ _ (.blk b11 (.cells #[baddr b11 x26.addr, v30] 53 (0, 0)) :: .row v30 5 1 rw31 :: L) _ _ _ := hs
  refine RL_nil ?_
  refine hK8 _ _ ?_; clear hK8
  refine W_seq fun K9 hK9 => ?_
  refine W_region ?_
  replace hs := hs.front 1
  replace hs := hs.front 1
  replace hs : St _ _ _ (.blk b11 (.cells #[baddr b11 x26.addr, v30] 53 (0, 0)) :: .row v30 5 1 rw31 :: L) _ _ _ := hs
  refine RL_call (Lr := [.blk b11 (.cells #[baddr b11 x26.addr, v30] 53 (0, 0)), .row v30 5 1 rw31]) (Lf := L) hs rfl has23 rfl rfl (builder_String_ok n (f := f28) (p0 := ({addr := x26.addr, buf := x26.buf} : Builder)) (pb := b11) (v := v30) (vr := rw31) hW32) (.free rfl) (by decide) ?_; clear hs; (try clear a w)
  rintro _ f34 _ a w hf35 ⟨rfl, rfl⟩ hs
  replace hR3 := hR3.le hf35
  replace hW4 := hW4.le hf35
  replace hW14 := hW14.le hf35
  replace hB22 := hf35 _ _ hB22
  replace hB25 := hf35 _ _ hB25
  replace hW32 := hW32.le hf35
  replace hle := hle.trans hf35
  replace hs : St _ _ _ (L) _ _ _ := hs
  refine sy (v := .string ((bytesOf x26.buf))) hs (y_assign rfl) ?_; clear hs; (try clear a w); intro a w hs
  refine RL_nil ?_
  refine hK9 _ _ ?_; clear hK9
  refine W_ret ?_
  obtain rfl := Option.some.inj hm
  refine RtV1 hs rfl (rv_t hs rfl) ?_
  exact ⟨rfl, (hs.weak hle).cw⟩
end Go.Proofs.YtklcdfnhdljkjaaDoor
