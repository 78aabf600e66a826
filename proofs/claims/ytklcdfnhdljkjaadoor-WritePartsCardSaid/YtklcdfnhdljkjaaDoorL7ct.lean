/-
  Walks and laws of this seat; the base is the text Base.
-/
import Derived.Test.YtklcdfnhdljkjaaDoorL7a
import Derived.Test.YtklcdfnhdljkjaaDoorL7s
import Derived.Test.YtklcdfnhdljkjaaDoorG7t
import Derived.Test.YtklcdfnhdljkjaaDoorRows
/-
  Models of functions, and that the functions compute them. Printed by lift.py.
-/
namespace Go.Proofs.YtklcdfnhdljkjaaDoor
open Go.RowKit Go.Sl
/-! casement/write.Canonical -/
def write_Canonical_k2 : Option Bool :=
  some true
def write_Canonical_k4 (y22 : Int) (lp23 : (List Bool) → Int → Option Bool) (y25 : (List Bool)) : Option Bool :=
  lp23 y25 (w64 (y22 + 1))
def write_Canonical_k7 (y22 : Int) (lp23 : (List Bool) → Int → Option Bool) (y61 : (List Bool)) (y69 : Bool) : Option Bool :=
  (bif y69 then some false else
  write_Canonical_k4 y22 lp23 y61)
def write_Canonical_k10 (y22 : Int) (lp23 : (List Bool) → Int → Option Bool) (y61 : (List Bool)) : Option Bool :=
  write_Canonical_k4 y22 lp23 y61
def write_Canonical_k12 (y91 : Int) (lp92 : Int → Option Bool) (y103 : Bool) : Option Bool :=
  (bif y103 then some false else
  lp92 (w64 (y91 + 1)))
def write_Canonical_l11 (n : Nat) (y22 : Int) (lp23 : (List Bool) → Int → Option Bool) (x30 : api_Node) (y61 : (List Bool)) : Nat → Int → Option Bool
  | 0, _ => none
  | k92 + 1, y91 =>
  (bif (decide (y91 < (x30.Attrs.length : Int))) then (geti x30.Attrs y91).bind fun x94 =>
  (write_attribute n x94.Name).bind fun x105 =>
  (bif (!x105) then write_Canonical_k12 y91 (write_Canonical_l11 n y22 lp23 x30 y61 k92) true else
  (write_plainT n x94.Value).bind fun x108 =>
  write_Canonical_k12 y91 (write_Canonical_l11 n y22 lp23 x30 y61 k92) (!x108)) else
  write_Canonical_k10 y22 lp23 y61)
def write_Canonical_k9 (n : Nat) (y22 : Int) (lp23 : (List Bool) → Int → Option Bool) (x30 : api_Node) (y61 : (List Bool)) (y89 : Bool) : Option Bool :=
  (bif y89 then some false else
  write_Canonical_l11 n y22 lp23 x30 y61 n 0)
def write_Canonical_k8 (n : Nat) (y22 : Int) (lp23 : (List Bool) → Int → Option Bool) (x30 : api_Node) (y61 : (List Bool)) (y87 : Bool) : Option Bool :=
  (bif y87 then some false else
  (geti y61 x30.Parent).bind fun x110 =>
  (bif x110 then (slices_Contains_string_string n [(bs [100, 105, 118]), (bs [104, 49]), (bs [108, 105]), (bs [112]), (bs [116, 97, 98, 108, 101]), (bs [117, 108])] x30.Name).bind fun x123 =>
  write_Canonical_k9 n y22 lp23 x30 y61 x123 else
  write_Canonical_k9 n y22 lp23 x30 y61 false))
def write_Canonical_k6 (n : Nat) (p0 : api_Tree) (y22 : Int) (lp23 : (List Bool) → Int → Option Bool) (x30 : api_Node) (x46 : api_Node) (y61 : (List Bool)) (y66 : Bool) : Option Bool :=
  (bif y66 then some false else
  (bif (decide (x30.Kind = 2)) then (write_plainT n x30.Text).bind fun x71 =>
  (bif (!x71) then write_Canonical_k7 y22 lp23 y61 true else
  (bif (decide (0 ≤ x30.Prev)) then (geti p0.Nodes x30.Prev).bind fun x75 =>
  write_Canonical_k7 y22 lp23 y61 (decide (x75.Kind = 2)) else
  write_Canonical_k7 y22 lp23 y61 false)) else
  (write_known n x30.Name).bind fun x125 =>
  (bif (!x125) then write_Canonical_k8 n y22 lp23 x30 y61 true else
  (tree_Void n x30.Name).bind fun x128 =>
  (bif x128 then (bif (decide (0 ≤ x30.First)) then write_Canonical_k8 n y22 lp23 x30 y61 true else
  (write_within n x30.Name).bind fun x132 =>
  (bif (decide (x132 ≠ (bs []))) then (write_within n x30.Name).bind fun x135 =>
  write_Canonical_k8 n y22 lp23 x30 y61 (decide (x135 ≠ x46.Name)) else
  write_Canonical_k8 n y22 lp23 x30 y61 false)) else
  (write_within n x30.Name).bind fun x137 =>
  (bif (decide (x137 ≠ (bs []))) then (write_within n x30.Name).bind fun x140 =>
  write_Canonical_k8 n y22 lp23 x30 y61 (decide (x140 ≠ x46.Name)) else
  write_Canonical_k8 n y22 lp23 x30 y61 false)))))
def write_Canonical_k5 (n : Nat) (p0 : api_Tree) (y22 : Int) (lp23 : (List Bool) → Int → Option Bool) (x30 : api_Node) (x46 : api_Node) (y61 : (List Bool)) : Option Bool :=
  (slices_Contains_string_string n [(bs [116, 97, 98, 108, 101]), (bs [116, 114]), (bs [117, 108])] x46.Name).bind fun x149 =>
  (bif x149 then (bif (decide (x30.Kind = 2)) then write_Canonical_k6 n p0 y22 lp23 x30 x46 y61 true else
  (write_within n x30.Name).bind fun x153 =>
  write_Canonical_k6 n p0 y22 lp23 x30 x46 y61 (decide (x153 ≠ x46.Name))) else
  write_Canonical_k6 n p0 y22 lp23 x30 x46 y61 false)
def write_Canonical_l3 (n : Nat) (p0 : api_Tree) : Nat → (List Bool) → Int → Option Bool
  | 0, _, _ => none
  | k23 + 1, y17, y22 =>
  (bif (decide (y22 < (p0.Nodes.length : Int))) then (geti p0.Nodes y22).bind fun x30 =>
  (bif (decide (y22 = 0)) then write_Canonical_k4 y22 (write_Canonical_l3 n p0 k23) y17 else
  (geti p0.Nodes x30.Parent).bind fun x46 =>
  (geti y17 x30.Parent).bind fun x155 =>
  (bif x155 then (geti y17 y22).bind fun _x163 =>
  (seti y17 y22 true).bind fun x170 =>
  write_Canonical_k5 n p0 y22 (write_Canonical_l3 n p0 k23) x30 x46 x170 else
  (geti y17 y22).bind fun _x175 =>
  (seti y17 y22 (decide (x30.Name = (bs [112])))).bind fun x182 =>
  write_Canonical_k5 n p0 y22 (write_Canonical_l3 n p0 k23) x30 x46 x182)) else
  write_Canonical_k2)
def write_Canonical_k1 (n : Nat) (p0 : api_Tree) (y8 : Bool) : Option Bool :=
  (bif y8 then some false else
  (repM 1 (p0.Nodes.length : Int) false).bind fun x10 =>
  write_Canonical_l3 n p0 n x10 0)
def write_Canonical (n : Nat) (p0 : api_Tree) : Option Bool :=
  (dom_Right n p0).bind fun x187 =>
  (bif (decide (x187 ≠ 0)) then write_Canonical_k1 n p0 true else
  (geti p0.Nodes 0).bind fun x190 =>
  (bif (decide (x190.Name ≠ (bs [114, 111, 111, 116]))) then write_Canonical_k1 n p0 true else
  (geti p0.Nodes 0).bind fun x203 =>
  write_Canonical_k1 n p0 (decide (0 < (x203.Attrs.length : Int)))))
set_option maxRecDepth 20000 in
set_option maxHeartbeats 4000000 in
theorem write_Canonical_ok (n : Nat) {f : Fz} {o0 : Obj} {o1 : Obj} {p0 : api_Tree} {a0 : List Value} {res : Bool} (hT0 : f 0 = some o0) (hT1 : f 1 = some o1) (hTT : Tabs o0 o1) (h0 : t_api_Tree.R f a0 p0) (hm : write_Canonical n p0 = some res) : Gives Tryd.prog 6 [.agg a0.toArray] f (.bool res) := by
 unfold write_Canonical at hm
 intro w0 L w hC
 obtain ⟨v1, rfl, ⟨rw2, hR3, hW4⟩⟩ := h0
 refine enter Tryd.func6 rfl Tryd.ntmps6 (by simp) hC fun a hs => ?_
 have hle := Fz.le.refl f
 refine W_seq fun K1 hK1 => ?_
 refine W_region ?_
 refine sbox hs rfl ?_; clear hs; (try clear a w); intro b6 a w hs
 replace hs : St _ _ _ (.blk b6 (.cells #[v1] 24 (0, 0)) :: L) _ _ _ := hs
 refine sy (v := .bool (false)) hs (y_assign rfl) ?_; clear hs; (try clear a w); intro a w hs
 refine RL_nil ?_
 refine hK1 _ _ ?_; clear hK1
 refine W_seq fun K2 hK2 => ?_
 refine W_seq fun K3 hK3 => ?_
 refine W_post (fun a w => ∃ (y8 : Bool), write_Canonical_k1 n p0 y8 = some res ∧ St 159 w0 f (.blk b6 (.cells #[v1] 24 (0, 0)) :: L) [(1, .pointer (some ⟨b6, 0, none⟩)), (28, .bool (y8))] a w) ?_ ?_
 ·clear hs hm
  rintro a w ⟨y8, hm, hs⟩
  replace hs : St _ _ _ (.blk b6 (.cells #[v1] 24 (0, 0)) :: L) _ _ _ := hs
  unfold write_Canonical_k1 at hm
  refine hK3 _ _ ?_; clear hK3
  refine W_cond hs rfl (fun hg9 => ?_) (fun hg9 => ?_)
  ·replace hm := oc_t hg9 hm
   refine W_seq fun K4 hK4 => ?_
   refine W_region ?_
   refine sy (v := .bool (false)) hs (y_assign rfl) ?_; clear hs; (try clear a w); intro a w hs
   refine RL_nil ?_
   refine hK4 _ _ ?_; clear hK4
   refine W_ret ?_
   obtain rfl := Option.some.inj hm
   refine RtV1 hs rfl (rv_t hs rfl) ?_
   exact ⟨rfl, ((hs.subL (.cons _ (.refl _))).weak hle).cw⟩
  ·replace hm := oc_f hg9 hm
   refine W_skip ?_
   refine hK2 _ _ ?_; clear hK2
   refine W_seq fun K5 hK5 => ?_
   refine W_region ?_
   refine sy (v := .pointer (some ⟨b6, 0, none⟩)) hs (y_fieldAddr rfl (FO.of (off := 0) Tryd.underlying24 rfl rfl ti22 (by decide))) ?_; clear hs; (try clear a w); intro a w hs
   refine sy (v := v1) hs (y_ld rfl Tryd.underlying22 rfl (Cell.blk (.head _) rfl)) ?_; clear hs; (try clear a w); intro a w hs
   refine sy hs (y_lenW hR3 hW4 rfl Tryd.underlying22) ?_; clear hs; (try clear a w); intro a w hs
   obtain ⟨x10, hx11, hm⟩ := ob hm
   obtain ⟨hix10, hbx10, hex10⟩ := repM_some hx11
   refine RL_makeW hs rfl rfl hix10 Tryd.underlying45 ti4 (by decide) (AllC.row ⟨rfl, trivial⟩ rfl) hbx10 ?_; clear hs; (try clear a w); intro v12 a w hs
   replace hs : St _ _ _ (.row v12 4 1 (List.replicate (p0.Nodes.length : Int).toNat ([.bool (false)] : List Value)) :: .blk b6 (.cells #[v1] 24 (0, 0)) :: L) _ _ _ := hs
   have hW14 : RW tBool f (List.replicate (p0.Nodes.length : Int).toNat ([.bool (false)] : List Value)) x10 := by rw [← hex10]; exact RW.rep (t := tBool) (r := [.bool (false)]) (rfl) _
   generalize hgx10 : (List.replicate (p0.Nodes.length : Int).toNat ([.bool (false)] : List Value)) = rw13 at hs hW14; clear hgx10
   replace hs : St _ _ _ (.row v12 4 1 rw13 :: .blk b6 (.cells #[v1] 24 (0, 0)) :: L) _ _ _ := hs
   refine sy (v := v12) hs (y_assign rfl) ?_; clear hs; (try clear a w); intro a w hs
   refine RL_nil ?_
   refine hK5 _ _ ?_; clear hK5
   refine W_seq fun K6 hK6 => ?_
   refine W_seq fun K7 hK7 => ?_
   refine W_region ?_
   refine sy (v := .pointer (some ⟨b6, 0, none⟩)) hs (y_fieldAddr rfl (FO.of (off := 0) Tryd.underlying24 rfl rfl ti22 (by decide))) ?_; clear hs; (try clear a w); intro a w hs
   refine sy (v := v1) hs (y_ld rfl Tryd.underlying22 rfl (Cell.blk (.tail _ (.head _)) rfl)) ?_; clear hs; (try clear a w); intro a w hs
   refine sy hs (y_lenW hR3 hW4 rfl Tryd.underlying22) ?_; clear hs; (try clear a w); intro a w hs
   refine sy (v := .int .i64 (0)) hs (y_move rfl) ?_; clear hs; (try clear a w); intro a w hs
   refine RL_nil ?_
   refine hK7 _ _ ?_; clear hK7
   refine W_post (fun a w => write_Canonical_k2 = some res ∧ St 159 w0 f (L) [] a w) ?_ ?_
   ·clear hs hm
    rintro a w ⟨hm, hs⟩
    replace hs : St _ _ _ (L) _ _ _ := hs
    unfold write_Canonical_k2 at hm
    refine hK6 _ _ ?_; clear hK6
    refine W_seq fun K8 hK8 => ?_
    refine W_region ?_
    refine sy (v := .bool (true)) hs (y_assign rfl) ?_; clear hs; (try clear a w); intro a w hs
    refine RL_nil ?_
    refine hK8 _ _ ?_; clear hK8
    refine W_ret ?_
    obtain rfl := Option.some.inj hm
    refine RtV1 hs rfl (rv_t hs rfl) ?_
    exact ⟨rfl, (hs.weak hle).cw⟩
   ·refine W_block fun Qe9 hB9 hO9 => ?_
    refine W_loop (fun (k : Nat) a w => ∃ (y17 : (List Bool)) (y22 : Int) (v18 : Value) (rw19 : List (List Value)), write_Canonical_l3 n p0 k y17 y22 = some res ∧ RW tBool f rw19 y17 ∧ St 159 w0 f (.row v18 4 1 rw19 :: .blk b6 (.cells #[v1] 24 (0, 0)) :: L) [(1, .pointer (some ⟨b6, 0, none⟩)), (3, v18), (34, v1), (35, .int .i64 ((p0.Nodes.length : Int))), (36, .int .i64 (y22))] a w) (fun k => k) n ⟨x10, 0, v12, rw13, hm, hW14, hs.sub ⟨rfl, rfl, rfl, rfl, rfl, trivial⟩⟩ ?_
    clear hs hm
    intro k
    rintro a w ⟨y17, y22, v18, rw19, hm, hW20, hs⟩
    replace hs : St _ _ _ (.row v18 4 1 rw19 :: .blk b6 (.cells #[v1] 24 (0, 0)) :: L) _ _ _ := hs
    intro K10 hK10
    cases k with
    | zero => simp [write_Canonical_l3] at hm
    | succ k23 =>
     rw [write_Canonical_l3] at hm
     refine W_seq fun K11 hK11 => ?_
     refine W_region ?_
     refine sy hs (y_lss rfl rfl) ?_; clear hs; (try clear a w); intro a w hs
     refine RL_nil ?_
     refine hK11 _ _ ?_; clear hK11
     refine W_seq fun K12 hK12 => ?_
     refine W_cond hs rfl (fun hg24 => ?_) (fun hg24 => ?_)
     ·replace hm := oc_t hg24 hm
      refine W_skip ?_
      refine hK12 _ _ ?_; clear hK12
      refine W_seq fun K13 hK13 => ?_
      refine W_post (fun a w => ∃ (y25 : (List Bool)) (v26 : Value) (rw27 : List (List Value)), write_Canonical_k4 y22 (write_Canonical_l3 n p0 k23) y25 = some res ∧ RW tBool f rw27 y25 ∧ St 159 w0 f (.row v26 4 1 rw27 :: .blk b6 (.cells #[v1] 24 (0, 0)) :: L) [(1, .pointer (some ⟨b6, 0, none⟩)), (3, v26), (34, v1), (35, .int .i64 ((p0.Nodes.length : Int))), (36, .int .i64 (y22))] a w) ?_ ?_
      ·clear hs hm
       rintro a w ⟨y25, v26, rw27, hm, hW28, hs⟩
       replace hs : St _ _ _ (.row v26 4 1 rw27 :: .blk b6 (.cells #[v1] 24 (0, 0)) :: L) _ _ _ := hs
       unfold write_Canonical_k4 at hm
       refine hK13 _ _ ?_; clear hK13
       refine W_region ?_
       refine sy hs (y_add rfl rfl rfl) ?_; clear hs; (try clear a w); intro a w hs
       refine sy (v := .int .i64 ((w64 (y22 + 1)))) hs (y_move rfl) ?_; clear hs; (try clear a w); intro a w hs
       refine RL_nil ?_
       exact hK10 k23 _ _ (Nat.lt_succ_self _) ⟨y25, (w64 (y22 + 1)), v26, rw27, hm, hW28, hs.sub ⟨rfl, rfl, rfl, rfl, rfl, trivial⟩⟩
      ·refine W_block fun Qe14 hB14 hO14 => ?_
       refine W_seq fun K15 hK15 => ?_
       refine W_region ?_
       refine sy (v := .int .i64 (y22)) hs (y_move rfl) ?_; clear hs; (try clear a w); intro a w hs
       obtain ⟨x30, hx31, hm⟩ := ob hm
       obtain ⟨r32, hr33, hq34, hi35, hb36⟩ := hW4.geti hx31
       obtain ⟨v37, rfl, ⟨rw38, hR39, hW40⟩⟩ := hq34
       refine sy hs (y_indexAddr hR3 rfl rfl hi35 hb36 Tryd.underlying22 ti37) ?_; clear hs; (try clear a w); intro a w hs
       refine sy hs (y_loadRow hR3.up rfl hr33 Tryd.underlying37 rfl ti37) ?_; clear hs; (try clear a w); intro a w hs
       refine RL_alloc hs ti37 (.free rfl) (by decide) ?_; clear hs; (try clear a w); intro b42 a w hs
       replace hs : St _ _ _ (.blk b42 (.cells #[.int .i64 (0), .string ((bs [])), .string ((bs [])), (.slice none 0 0), .int .i64 (0), .int .i64 (0), .int .i64 (0), .int .i64 (0), .int .i64 (0)] 37 (0, 0)) :: .row v18 4 1 rw19 :: .blk b6 (.cells #[v1] 24 (0, 0)) :: L) _ _ _ := hs
       refine sy (v := .int .i64 (y22)) hs (y_assign rfl) ?_; clear hs; (try clear a w); intro a w hs
       refine RL_storeAll (i := 0) hs rfl rfl rfl ti37 ⟨rfl, rfl⟩ (AllC.arr (r := [.int .i64 (x30.Kind), .string (x30.Name), .string (x30.Text), v37, .int .i64 (x30.Parent), .int .i64 (x30.First), .int .i64 (x30.Last), .int .i64 (x30.Prev), .int .i64 (x30.Next)]) ⟨rfl, rfl, rfl, hR39.one, rfl, rfl, rfl, rfl, rfl, trivial⟩) (.free rfl) ?_; clear hs; (try clear a w); intro a w hs
       replace hs : St _ _ _ (.blk b42 (.cells #[.int .i64 (x30.Kind), .string (x30.Name), .string (x30.Text), v37, .int .i64 (x30.Parent), .int .i64 (x30.First), .int .i64 (x30.Last), .int .i64 (x30.Prev), .int .i64 (x30.Next)] 37 (0, 0)) :: .row v18 4 1 rw19 :: .blk b6 (.cells #[v1] 24 (0, 0)) :: L) _ _ _ := hs
       refine RL_nil ?_
       refine hK15 _ _ ?_; clear hK15
       refine W_seq fun K16 hK16 => ?_
       refine W_seq fun K17 hK17 => ?_
       refine W_region ?_
       refine sy (v := .int .i64 (y22)) hs (y_move rfl) ?_; clear hs; (try clear a w); intro a w hs
       refine sy hs (y_eql rfl rfl) ?_; clear hs; (try clear a w); intro a w hs
       refine RL_nil ?_
       refine hK17 _ _ ?_; clear hK17
       refine W_cond hs rfl (fun hg45 => ?_) (fun hg45 => ?_)
       ·replace hm := oc_t hg45 hm
        refine W_exit ?_
        refine hB14 _ _ ?_
        exact ⟨y17, v18, rw19, hm, hW20, hs.subs ⟨rfl, rfl, rfl, rfl, rfl, trivial⟩ (.cons _ (.cons_cons _ (.cons_cons _ (.refl _))))⟩
       ·replace hm := oc_f hg45 hm
        refine W_skip ?_
        refine hK16 _ _ ?_; clear hK16
        refine W_seq fun K18 hK18 => ?_
        refine W_region ?_
        refine sy (v := .pointer (some ⟨b6, 0, none⟩)) hs (y_fieldAddr rfl (FO.of (off := 0) Tryd.underlying24 rfl rfl ti22 (by decide))) ?_; clear hs; (try clear a w); intro a w hs
        refine sy (v := v1) hs (y_ld rfl Tryd.underlying22 rfl (Cell.blk (.tail _ (.tail _ (.head _))) rfl)) ?_; clear hs; (try clear a w); intro a w hs
        refine sy (v := .pointer (some ⟨b42, 4, none⟩)) hs (y_fieldAddr rfl (FO.of (off := 4) Tryd.underlying37 rfl rfl ti3 (by decide))) ?_; clear hs; (try clear a w); intro a w hs
        refine sy (v := .int .i64 (x30.Parent)) hs (y_ld rfl Tryd.underlying3 rfl (Cell.blk (.head _) rfl)) ?_; clear hs; (try clear a w); intro a w hs
        obtain ⟨x46, hx47, hm⟩ := ob hm
        obtain ⟨r48, hr49, hq50, hi51, hb52⟩ := hW4.geti hx47
        obtain ⟨v53, rfl, ⟨rw54, hR55, hW56⟩⟩ := hq50
        refine sy hs (y_indexAddr hR3 rfl rfl hi51 hb52 Tryd.underlying22 ti37) ?_; clear hs; (try clear a w); intro a w hs
        refine sy hs (y_loadRow hR3.up rfl hr49 Tryd.underlying37 rfl ti37) ?_; clear hs; (try clear a w); intro a w hs
        refine RL_alloc hs ti37 (.free rfl) (by decide) ?_; clear hs; (try clear a w); intro b58 a w hs
        replace hs : St _ _ _ (.blk b58 (.cells #[.int .i64 (0), .string ((bs [])), .string ((bs [])), (.slice none 0 0), .int .i64 (0), .int .i64 (0), .int .i64 (0), .int .i64 (0), .int .i64 (0)] 37 (0, 0)) :: .blk b42 (.cells #[.int .i64 (x30.Kind), .string (x30.Name), .string (x30.Text), v37, .int .i64 (x30.Parent), .int .i64 (x30.First), .int .i64 (x30.Last), .int .i64 (x30.Prev), .int .i64 (x30.Next)] 37 (0, 0)) :: .row v18 4 1 rw19 :: .blk b6 (.cells #[v1] 24 (0, 0)) :: L) _ _ _ := hs
        refine RL_storeAll (i := 0) hs rfl rfl rfl ti37 ⟨rfl, rfl⟩ (AllC.arr (r := [.int .i64 (x46.Kind), .string (x46.Name), .string (x46.Text), v53, .int .i64 (x46.Parent), .int .i64 (x46.First), .int .i64 (x46.Last), .int .i64 (x46.Prev), .int .i64 (x46.Next)]) ⟨rfl, rfl, rfl, hR55.one, rfl, rfl, rfl, rfl, rfl, trivial⟩) (.free rfl) ?_; clear hs; (try clear a w); intro a w hs
        replace hs : St _ _ _ (.blk b58 (.cells #[.int .i64 (x46.Kind), .string (x46.Name), .string (x46.Text), v53, .int .i64 (x46.Parent), .int .i64 (x46.First), .int .i64 (x46.Last), .int .i64 (x46.Prev), .int .i64 (x46.Next)] 37 (0, 0)) :: .blk b42 (.cells #[.int .i64 (x30.Kind), .string (x30.Name), .string (x30.Text), v37, .int .i64 (x30.Parent), .int .i64 (x30.First), .int .i64 (x30.Last), .int .i64 (x30.Prev), .int .i64 (x30.Next)] 37 (0, 0)) :: .row v18 4 1 rw19 :: .blk b6 (.cells #[v1] 24 (0, 0)) :: L) _ _ _ := hs
        refine RL_nil ?_
        refine hK18 _ _ ?_; clear hK18
        refine W_seq fun K19 hK19 => ?_
        refine W_post (fun a w => ∃ (y61 : (List Bool)) (v62 : Value) (rw63 : List (List Value)), write_Canonical_k5 n p0 y22 (write_Canonical_l3 n p0 k23) x30 x46 y61 = some res ∧ RW tBool f rw63 y61 ∧ St 159 w0 f (.blk b58 (.cells #[.int .i64 (x46.Kind), .string (x46.Name), .string (x46.Text), v53, .int .i64 (x46.Parent), .int .i64 (x46.First), .int .i64 (x46.Last), .int .i64 (x46.Prev), .int .i64 (x46.Next)] 37 (0, 0)) :: .blk b42 (.cells #[.int .i64 (x30.Kind), .string (x30.Name), .string (x30.Text), v37, .int .i64 (x30.Parent), .int .i64 (x30.First), .int .i64 (x30.Last), .int .i64 (x30.Prev), .int .i64 (x30.Next)] 37 (0, 0)) :: .row v62 4 1 rw63 :: .blk b6 (.cells #[v1] 24 (0, 0)) :: L) [(1, .pointer (some ⟨b6, 0, none⟩)), (3, v62), (5, .pointer (some ⟨b42, 0, none⟩)), (6, .pointer (some ⟨b58, 0, none⟩)), (34, v1), (35, .int .i64 ((p0.Nodes.length : Int))), (36, .int .i64 (y22))] a w) ?_ ?_
        ·clear hs hm
         rintro a w ⟨y61, v62, rw63, hm, hW64, hs⟩
         replace hs : St _ _ _ (.blk b58 (.cells #[.int .i64 (x46.Kind), .string (x46.Name), .string (x46.Text), v53, .int .i64 (x46.Parent), .int .i64 (x46.First), .int .i64 (x46.Last), .int .i64 (x46.Prev), .int .i64 (x46.Next)] 37 (0, 0)) :: .blk b42 (.cells #[.int .i64 (x30.Kind), .string (x30.Name), .string (x30.Text), v37, .int .i64 (x30.Parent), .int .i64 (x30.First), .int .i64 (x30.Last), .int .i64 (x30.Prev), .int .i64 (x30.Next)] 37 (0, 0)) :: .row v62 4 1 rw63 :: .blk b6 (.cells #[v1] 24 (0, 0)) :: L) _ _ _ := hs
         unfold write_Canonical_k5 at hm
         refine hK19 _ _ ?_; clear hK19
         refine W_seq fun K20 hK20 => ?_
         refine W_seq fun K21 hK21 => ?_
         refine W_post (fun a w => ∃ (y66 : Bool), write_Canonical_k6 n p0 y22 (write_Canonical_l3 n p0 k23) x30 x46 y61 y66 = some res ∧ St 159 w0 f (.blk b58 (.cells #[.int .i64 (x46.Kind), .string (x46.Name), .string (x46.Text), v53, .int .i64 (x46.Parent), .int .i64 (x46.First), .int .i64 (x46.Last), .int .i64 (x46.Prev), .int .i64 (x46.Next)] 37 (0, 0)) :: .blk b42 (.cells #[.int .i64 (x30.Kind), .string (x30.Name), .string (x30.Text), v37, .int .i64 (x30.Parent), .int .i64 (x30.First), .int .i64 (x30.Last), .int .i64 (x30.Prev), .int .i64 (x30.Next)] 37 (0, 0)) :: .row v62 4 1 rw63 :: .blk b6 (.cells #[v1] 24 (0, 0)) :: L) [(1, .pointer (some ⟨b6, 0, none⟩)), (3, v62), (5, .pointer (some ⟨b42, 0, none⟩)), (6, .pointer (some ⟨b58, 0, none⟩)), (34, v1), (35, .int .i64 ((p0.Nodes.length : Int))), (36, .int .i64 (y22)), (78, .bool (y66))] a w) ?_ ?_
         ·clear hs hm
          rintro a w ⟨y66, hm, hs⟩
          replace hs : St _ _ _ (.blk b58 (.cells #[.int .i64 (x46.Kind), .string (x46.Name), .string (x46.Text), v53, .int .i64 (x46.Parent), .int .i64 (x46.First), .int .i64 (x46.Last), .int .i64 (x46.Prev), .int .i64 (x46.Next)] 37 (0, 0)) :: .blk b42 (.cells #[.int .i64 (x30.Kind), .string (x30.Name), .string (x30.Text), v37, .int .i64 (x30.Parent), .int .i64 (x30.First), .int .i64 (x30.Last), .int .i64 (x30.Prev), .int .i64 (x30.Next)] 37 (0, 0)) :: .row v62 4 1 rw63 :: .blk b6 (.cells #[v1] 24 (0, 0)) :: L) _ _ _ := hs
          unfold write_Canonical_k6 at hm
          refine hK21 _ _ ?_; clear hK21
          refine W_cond hs rfl (fun hg67 => ?_) (fun hg67 => ?_)
          ·replace hm := oc_t hg67 hm
           refine W_seq fun K22 hK22 => ?_
           refine W_region ?_
           refine sy (v := .bool (false)) hs (y_assign rfl) ?_; clear hs; (try clear a w); intro a w hs
           refine RL_nil ?_
           refine hK22 _ _ ?_; clear hK22
           refine W_ret ?_
           obtain rfl := Option.some.inj hm
           refine RtV1 hs rfl (rv_t hs rfl) ?_
           exact ⟨rfl, ((hs.subL (.cons _ (.cons _ (.cons _ (.cons _ (.refl _)))))).weak hle).cw⟩
          ·replace hm := oc_f hg67 hm
           refine W_skip ?_
           refine hK20 _ _ ?_; clear hK20
           refine W_seq fun K23 hK23 => ?_
           refine W_seq fun K24 hK24 => ?_
           refine W_region ?_
           refine sy (v := .pointer (some ⟨b42, 0, none⟩)) hs (y_fieldAddr rfl (FO.of (off := 0) Tryd.underlying37 rfl rfl ti3 (by decide))) ?_; clear hs; (try clear a w); intro a w hs
           refine sy (v := .int .i64 (x30.Kind)) hs (y_ld rfl Tryd.underlying3 rfl (Cell.blk (.tail _ (.head _)) rfl)) ?_; clear hs; (try clear a w); intro a w hs
           refine sy hs (y_eql rfl rfl) ?_; clear hs; (try clear a w); intro a w hs
           refine RL_nil ?_
           refine hK24 _ _ ?_; clear hK24
           refine W_cond hs rfl (fun hg68 => ?_) (fun hg68 => ?_)
           ·replace hm := oc_t hg68 hm
            refine W_seq fun K25 hK25 => ?_
            refine W_seq fun K26 hK26 => ?_
            refine W_post (fun a w => ∃ (y69 : Bool), write_Canonical_k7 y22 (write_Canonical_l3 n p0 k23) y61 y69 = some res ∧ St 159 w0 f (.row v62 4 1 rw63 :: .blk b6 (.cells #[v1] 24 (0, 0)) :: L) [(1, .pointer (some ⟨b6, 0, none⟩)), (3, v62), (34, v1), (35, .int .i64 ((p0.Nodes.length : Int))), (36, .int .i64 (y22)), (100, .bool (y69))] a w) ?_ ?_
            ·clear hs hm
             rintro a w ⟨y69, hm, hs⟩
             replace hs : St _ _ _ (.row v62 4 1 rw63 :: .blk b6 (.cells #[v1] 24 (0, 0)) :: L) _ _ _ := hs
             unfold write_Canonical_k7 at hm
             refine hK26 _ _ ?_; clear hK26
             refine W_cond hs rfl (fun hg70 => ?_) (fun hg70 => ?_)
             ·replace hm := oc_t hg70 hm
              refine W_seq fun K27 hK27 => ?_
              refine W_region ?_
              refine sy (v := .bool (false)) hs (y_assign rfl) ?_; clear hs; (try clear a w); intro a w hs
              refine RL_nil ?_
              refine hK27 _ _ ?_; clear hK27
              refine W_ret ?_
              obtain rfl := Option.some.inj hm
              refine RtV1 hs rfl (rv_t hs rfl) ?_
              exact ⟨rfl, ((hs.subL (.cons _ (.cons _ (.refl _)))).weak hle).cw⟩
             ·replace hm := oc_f hg70 hm
              refine W_skip ?_
              refine hK25 _ _ ?_; clear hK25
              refine W_exit ?_
              refine hB14 _ _ ?_
              exact ⟨y61, v62, rw63, hm, hW64, hs.sub ⟨rfl, rfl, rfl, rfl, rfl, trivial⟩⟩
            ·refine W_region ?_
             refine sy (v := .pointer (some ⟨b42, 2, none⟩)) hs (y_fieldAddr rfl (FO.of (off := 2) Tryd.underlying37 rfl rfl ti9 (by decide))) ?_; clear hs; (try clear a w); intro a w hs
             refine sy (v := .string (x30.Text)) hs (y_ld rfl Tryd.underlying9 rfl (Cell.blk (.tail _ (.head _)) rfl)) ?_; clear hs; (try clear a w); intro a w hs
             obtain ⟨x71, hx72, hm⟩ := ob hm
             refine sy hs (y_call rfl has16 rfl (write_plainT_ok n (f := f)  hT0 hT1 hTT hx72)) ?_; clear hs; (try clear a w); intro a w hs
             refine sy (v := .bool ((!x71))) hs (y_not rfl) ?_; clear hs; (try clear a w); intro a w hs
             refine sy (v := .bool ((!x71))) hs (y_move rfl) ?_; clear hs; (try clear a w); intro a w hs
             refine St.split hs (t := 86) rfl (fun hg73 hq => ?_) (fun hg73 hq => ?_)
             ·clear hs; have hs := hq; clear hq
              replace hm := oc_t hg73 hm
              refine sno hs ?_; clear hs; (try clear a w); intro a w hs
              refine sno hs ?_; clear hs; (try clear a w); intro a w hs
              refine sno hs ?_; clear hs; (try clear a w); intro a w hs
              refine sno hs ?_; clear hs; (try clear a w); intro a w hs
              refine sun hs ?_; clear hs; (try clear a w); intro a w hs
              refine sun hs ?_; clear hs; (try clear a w); intro a w hs
              refine sun hs ?_; clear hs; (try clear a w); intro a w hs
              refine sun hs ?_; clear hs; (try clear a w); intro a w hs
              refine sun hs ?_; clear hs; (try clear a w); intro a w hs
              refine sun hs ?_; clear hs; (try clear a w); intro a w hs
              refine sun hs ?_; clear hs; (try clear a w); intro a w hs
              refine sun hs ?_; clear hs; (try clear a w); intro a w hs
              refine sno hs ?_; clear hs; (try clear a w); intro a w hs
              refine sy (v := .bool (true)) hs (y_pick rfl rfl) ?_; clear hs; (try clear a w); intro a w hs
              refine RL_nil ?_
              exact ⟨true, hm, hs.subs ⟨rfl, rfl, rfl, rfl, rfl, rfl, trivial⟩ (.cons _ (.cons _ (.cons_cons _ (.cons_cons _ (.refl _)))))⟩
             ·clear hs; have hs := hq; clear hq
              replace hm := oc_f hg73 hm
              refine syg (v := .pointer (some ⟨b42, 7, none⟩)) hs (y_fieldAddr rfl (FO.of (off := 7) Tryd.underlying37 rfl rfl ti3 (by decide))) ?_; clear hs; (try clear a w); intro a w hs
              refine syg (v := .int .i64 (x30.Prev)) hs (y_ld rfl Tryd.underlying3 rfl (Cell.blk (.tail _ (.head _)) rfl)) ?_; clear hs; (try clear a w); intro a w hs
              refine syg hs (y_geq rfl rfl) ?_; clear hs; (try clear a w); intro a w hs
              refine syg (v := .bool (decide (0 ≤ x30.Prev))) hs (y_move rfl) ?_; clear hs; (try clear a w); intro a w hs
              refine St.split hs (t := 90) rfl (fun hg74 hq => ?_) (fun hg74 hq => ?_)
              ·clear hs; have hs := hq; clear hq
               replace hm := oc_t hg74 hm
               refine syg (v := .pointer (some ⟨b6, 0, none⟩)) hs (y_fieldAddr rfl (FO.of (off := 0) Tryd.underlying24 rfl rfl ti22 (by decide))) ?_; clear hs; (try clear a w); intro a w hs
               refine syg (v := v1) hs (y_ld rfl Tryd.underlying22 rfl (Cell.blk (.tail _ (.tail _ (.tail _ (.head _)))) rfl)) ?_; clear hs; (try clear a w); intro a w hs
               refine syg (v := .pointer (some ⟨b42, 7, none⟩)) hs (y_fieldAddr rfl (FO.of (off := 7) Tryd.underlying37 rfl rfl ti3 (by decide))) ?_; clear hs; (try clear a w); intro a w hs
               refine syg (v := .int .i64 (x30.Prev)) hs (y_ld rfl Tryd.underlying3 rfl (Cell.blk (.tail _ (.head _)) rfl)) ?_; clear hs; (try clear a w); intro a w hs
               obtain ⟨x75, hx76, hm⟩ := ob hm
               obtain ⟨r77, hr78, hq79, hi80, hb81⟩ := hW4.geti hx76
               obtain ⟨v82, rfl, ⟨rw83, hR84, hW85⟩⟩ := hq79
               refine syg hs (y_indexAddr hR3 rfl rfl hi80 hb81 Tryd.underlying22 ti37) ?_; clear hs; (try clear a w); intro a w hs
               refine syg (v := eaddr v1 9 x30.Prev.toNat 0) hs (y_fieldAddrE (i := x30.Prev.toNat) (j := 0) hR3 rfl hb81 (FO.of (off := 0) Tryd.underlying37 rfl rfl ti3 (by decide))) ?_; clear hs; (try clear a w); intro a w hs
               refine syg (v := .int .i64 (x75.Kind)) hs (y_loadE (i := x30.Prev.toNat) (j := 0) hR3.up rfl hr78 rfl Tryd.underlying3 rfl) ?_; clear hs; (try clear a w); intro a w hs
               refine syg hs (y_eql rfl rfl) ?_; clear hs; (try clear a w); intro a w hs
               refine syg (v := .bool (decide (x75.Kind = 2))) hs (y_pick rfl rfl) ?_; clear hs; (try clear a w); intro a w hs
               refine sy (v := .bool (decide (x75.Kind = 2))) hs (y_pick rfl rfl) ?_; clear hs; (try clear a w); intro a w hs
               refine RL_nil ?_
               exact ⟨decide (x75.Kind = 2), hm, hs.subs ⟨rfl, rfl, rfl, rfl, rfl, rfl, trivial⟩ (.cons _ (.cons _ (.cons_cons _ (.cons_cons _ (.refl _)))))⟩
              ·clear hs; have hs := hq; clear hq
               replace hm := oc_f hg74 hm
               refine sno hs ?_; clear hs; (try clear a w); intro a w hs
               refine sno hs ?_; clear hs; (try clear a w); intro a w hs
               refine sno hs ?_; clear hs; (try clear a w); intro a w hs
               refine sno hs ?_; clear hs; (try clear a w); intro a w hs
               refine sno hs ?_; clear hs; (try clear a w); intro a w hs
               refine sno hs ?_; clear hs; (try clear a w); intro a w hs
               refine sno hs ?_; clear hs; (try clear a w); intro a w hs
               refine sno hs ?_; clear hs; (try clear a w); intro a w hs
               refine syg (v := .bool (false)) hs (y_pick rfl rfl) ?_; clear hs; (try clear a w); intro a w hs
               refine sy (v := .bool (false)) hs (y_pick rfl rfl) ?_; clear hs; (try clear a w); intro a w hs
               refine RL_nil ?_
               exact ⟨false, hm, hs.subs ⟨rfl, rfl, rfl, rfl, rfl, rfl, trivial⟩ (.cons _ (.cons _ (.cons_cons _ (.cons_cons _ (.refl _)))))⟩
           ·replace hm := oc_f hg68 hm
            refine W_skip ?_
            refine hK23 _ _ ?_; clear hK23
            refine W_seq fun K28 hK28 => ?_
            refine W_seq fun K29 hK29 => ?_
            refine W_post (fun a w => ∃ (y87 : Bool), write_Canonical_k8 n y22 (write_Canonical_l3 n p0 k23) x30 y61 y87 = some res ∧ St 159 w0 f (.blk b42 (.cells #[.int .i64 (x30.Kind), .string (x30.Name), .string (x30.Text), v37, .int .i64 (x30.Parent), .int .i64 (x30.First), .int .i64 (x30.Last), .int .i64 (x30.Prev), .int .i64 (x30.Next)] 37 (0, 0)) :: .row v62 4 1 rw63 :: .blk b6 (.cells #[v1] 24 (0, 0)) :: L) [(1, .pointer (some ⟨b6, 0, none⟩)), (3, v62), (5, .pointer (some ⟨b42, 0, none⟩)), (34, v1), (35, .int .i64 ((p0.Nodes.length : Int))), (36, .int .i64 (y22)), (128, .bool (y87))] a w) ?_ ?_
            ·clear hs hm
             rintro a w ⟨y87, hm, hs⟩
             replace hs : St _ _ _ (.blk b42 (.cells #[.int .i64 (x30.Kind), .string (x30.Name), .string (x30.Text), v37, .int .i64 (x30.Parent), .int .i64 (x30.First), .int .i64 (x30.Last), .int .i64 (x30.Prev), .int .i64 (x30.Next)] 37 (0, 0)) :: .row v62 4 1 rw63 :: .blk b6 (.cells #[v1] 24 (0, 0)) :: L) _ _ _ := hs
             unfold write_Canonical_k8 at hm
             refine hK29 _ _ ?_; clear hK29
             refine W_cond hs rfl (fun hg88 => ?_) (fun hg88 => ?_)
             ·replace hm := oc_t hg88 hm
              refine W_seq fun K30 hK30 => ?_
              refine W_region ?_
              refine sy (v := .bool (false)) hs (y_assign rfl) ?_; clear hs; (try clear a w); intro a w hs
              refine RL_nil ?_
              refine hK30 _ _ ?_; clear hK30
              refine W_ret ?_
              obtain rfl := Option.some.inj hm
              refine RtV1 hs rfl (rv_t hs rfl) ?_
              exact ⟨rfl, ((hs.subL (.cons _ (.cons _ (.cons _ (.refl _))))).weak hle).cw⟩
             ·replace hm := oc_f hg88 hm
              refine W_skip ?_
              refine hK28 _ _ ?_; clear hK28
              refine W_seq fun K31 hK31 => ?_
              refine W_seq fun K32 hK32 => ?_
              refine W_post (fun a w => ∃ (y89 : Bool), write_Canonical_k9 n y22 (write_Canonical_l3 n p0 k23) x30 y61 y89 = some res ∧ St 159 w0 f (.blk b42 (.cells #[.int .i64 (x30.Kind), .string (x30.Name), .string (x30.Text), v37, .int .i64 (x30.Parent), .int .i64 (x30.First), .int .i64 (x30.Last), .int .i64 (x30.Prev), .int .i64 (x30.Next)] 37 (0, 0)) :: .row v62 4 1 rw63 :: .blk b6 (.cells #[v1] 24 (0, 0)) :: L) [(1, .pointer (some ⟨b6, 0, none⟩)), (3, v62), (5, .pointer (some ⟨b42, 0, none⟩)), (34, v1), (35, .int .i64 ((p0.Nodes.length : Int))), (36, .int .i64 (y22)), (139, .bool (y89))] a w) ?_ ?_
              ·clear hs hm
               rintro a w ⟨y89, hm, hs⟩
               replace hs : St _ _ _ (.blk b42 (.cells #[.int .i64 (x30.Kind), .string (x30.Name), .string (x30.Text), v37, .int .i64 (x30.Parent), .int .i64 (x30.First), .int .i64 (x30.Last), .int .i64 (x30.Prev), .int .i64 (x30.Next)] 37 (0, 0)) :: .row v62 4 1 rw63 :: .blk b6 (.cells #[v1] 24 (0, 0)) :: L) _ _ _ := hs
               unfold write_Canonical_k9 at hm
               refine hK32 _ _ ?_; clear hK32
               refine W_cond hs rfl (fun hg90 => ?_) (fun hg90 => ?_)
               ·replace hm := oc_t hg90 hm
                refine W_seq fun K33 hK33 => ?_
                refine W_region ?_
                refine sy (v := .bool (false)) hs (y_assign rfl) ?_; clear hs; (try clear a w); intro a w hs
                refine RL_nil ?_
                refine hK33 _ _ ?_; clear hK33
                refine W_ret ?_
                obtain rfl := Option.some.inj hm
                refine RtV1 hs rfl (rv_t hs rfl) ?_
                exact ⟨rfl, ((hs.subL (.cons _ (.cons _ (.cons _ (.refl _))))).weak hle).cw⟩
               ·replace hm := oc_f hg90 hm
                refine W_skip ?_
                refine hK31 _ _ ?_; clear hK31
                refine W_seq fun K34 hK34 => ?_
                refine W_region ?_
                refine sy (v := .pointer (some ⟨b42, 3, none⟩)) hs (y_fieldAddr rfl (FO.of (off := 3) Tryd.underlying37 rfl rfl ti28 (by decide))) ?_; clear hs; (try clear a w); intro a w hs
                refine sy (v := v37) hs (y_ld rfl Tryd.underlying28 rfl (Cell.blk (.head _) rfl)) ?_; clear hs; (try clear a w); intro a w hs
                refine sy hs (y_lenW hR39 hW40 rfl Tryd.underlying28) ?_; clear hs; (try clear a w); intro a w hs
                refine sy (v := .int .i64 (0)) hs (y_move rfl) ?_; clear hs; (try clear a w); intro a w hs
                refine RL_nil ?_
                refine hK34 _ _ ?_; clear hK34
                refine W_post (fun a w => write_Canonical_k10 y22 (write_Canonical_l3 n p0 k23) y61 = some res ∧ St 159 w0 f (.row v62 4 1 rw63 :: .blk b6 (.cells #[v1] 24 (0, 0)) :: L) [(1, .pointer (some ⟨b6, 0, none⟩)), (3, v62), (34, v1), (35, .int .i64 ((p0.Nodes.length : Int))), (36, .int .i64 (y22))] a w) ?_ ?_
                ·clear hs hm
                 rintro a w ⟨hm, hs⟩
                 replace hs : St _ _ _ (.row v62 4 1 rw63 :: .blk b6 (.cells #[v1] 24 (0, 0)) :: L) _ _ _ := hs
                 unfold write_Canonical_k10 at hm
                 exact ⟨y61, v62, rw63, hm, hW64, hs.sub ⟨rfl, rfl, rfl, rfl, rfl, trivial⟩⟩
                ·refine W_block fun Qe35 hB35 hO35 => ?_
                 refine W_loop (fun (k : Nat) a w => ∃ (y91 : Int), write_Canonical_l11 n y22 (write_Canonical_l3 n p0 k23) x30 y61 k y91 = some res ∧ St 159 w0 f (.row v62 4 1 rw63 :: .blk b6 (.cells #[v1] 24 (0, 0)) :: L) [(1, .pointer (some ⟨b6, 0, none⟩)), (3, v62), (34, v1), (35, .int .i64 ((p0.Nodes.length : Int))), (36, .int .i64 (y22)), (141, v37), (142, .int .i64 ((x30.Attrs.length : Int))), (143, .int .i64 (y91))] a w) (fun k => k) n ⟨0, hm, hs.subs ⟨rfl, rfl, rfl, rfl, rfl, rfl, rfl, rfl, trivial⟩ (.cons _ (.cons_cons _ (.cons_cons _ (.refl _))))⟩ ?_
                 clear hs hm
                 intro k
                 rintro a w ⟨y91, hm, hs⟩
                 replace hs : St _ _ _ (.row v62 4 1 rw63 :: .blk b6 (.cells #[v1] 24 (0, 0)) :: L) _ _ _ := hs
                 intro K36 hK36
                 cases k with
                 | zero => simp [write_Canonical_l11] at hm
                 | succ k92 =>
                  rw [write_Canonical_l11] at hm
                  refine W_seq fun K37 hK37 => ?_
                  refine W_region ?_
                  refine sy hs (y_lss rfl rfl) ?_; clear hs; (try clear a w); intro a w hs
                  refine RL_nil ?_
                  refine hK37 _ _ ?_; clear hK37
                  refine W_seq fun K38 hK38 => ?_
                  refine W_cond hs rfl (fun hg93 => ?_) (fun hg93 => ?_)
                  ·replace hm := oc_t hg93 hm
                   refine W_skip ?_
                   refine hK38 _ _ ?_; clear hK38
                   refine W_seq fun K39 hK39 => ?_
                   refine W_block fun Qe40 hB40 hO40 => ?_
                   refine W_seq fun K41 hK41 => ?_
                   refine W_region ?_
                   obtain ⟨x94, hx95, hm⟩ := ob hm
                   obtain ⟨r96, hr97, hq98, hi99, hb100⟩ := hW40.geti hx95
                   obtain rfl : _ = ([.string (x94.Name), .string (x94.Value)] : List Value) := hq98
                   refine sy hs (y_indexAddr hR39 rfl rfl hi99 hb100 Tryd.underlying28 ti43) ?_; clear hs; (try clear a w); intro a w hs
                   refine sy hs (y_loadRow hR39.up rfl hr97 Tryd.underlying43 rfl ti43) ?_; clear hs; (try clear a w); intro a w hs
                   refine RL_alloc hs ti43 (.free rfl) (by decide) ?_; clear hs; (try clear a w); intro b101 a w hs
                   replace hs : St _ _ _ (.blk b101 (.cells #[.string ((bs [])), .string ((bs []))] 43 (0, 0)) :: .row v62 4 1 rw63 :: .blk b6 (.cells #[v1] 24 (0, 0)) :: L) _ _ _ := hs
                   refine RL_storeAll (i := 0) hs rfl rfl rfl ti43 ⟨rfl, rfl⟩ (AllC.arr (r := [.string (x94.Name), .string (x94.Value)]) ⟨rfl, rfl, trivial⟩) (.free rfl) ?_; clear hs; (try clear a w); intro a w hs
                   replace hs : St _ _ _ (.blk b101 (.cells #[.string (x94.Name), .string (x94.Value)] 43 (0, 0)) :: .row v62 4 1 rw63 :: .blk b6 (.cells #[v1] 24 (0, 0)) :: L) _ _ _ := hs
                   refine RL_nil ?_
                   refine hK41 _ _ ?_; clear hK41
                   refine W_seq fun K42 hK42 => ?_
                   refine W_post (fun a w => ∃ (y103 : Bool), write_Canonical_k12 y91 (write_Canonical_l11 n y22 (write_Canonical_l3 n p0 k23) x30 y61 k92) y103 = some res ∧ St 159 w0 f (.row v62 4 1 rw63 :: .blk b6 (.cells #[v1] 24 (0, 0)) :: L) [(1, .pointer (some ⟨b6, 0, none⟩)), (3, v62), (34, v1), (35, .int .i64 ((p0.Nodes.length : Int))), (36, .int .i64 (y22)), (141, v37), (142, .int .i64 ((x30.Attrs.length : Int))), (143, .int .i64 (y91)), (156, .bool (y103))] a w) ?_ ?_
                   ·clear hs hm
                    rintro a w ⟨y103, hm, hs⟩
                    replace hs : St _ _ _ (.row v62 4 1 rw63 :: .blk b6 (.cells #[v1] 24 (0, 0)) :: L) _ _ _ := hs
                    unfold write_Canonical_k12 at hm
                    refine hK42 _ _ ?_; clear hK42
                    refine W_cond hs rfl (fun hg104 => ?_) (fun hg104 => ?_)
                    ·replace hm := oc_t hg104 hm
                     refine W_seq fun K43 hK43 => ?_
                     refine W_region ?_
                     refine sy (v := .bool (false)) hs (y_assign rfl) ?_; clear hs; (try clear a w); intro a w hs
                     refine RL_nil ?_
                     refine hK43 _ _ ?_; clear hK43
                     refine W_ret ?_
                     obtain rfl := Option.some.inj hm
                     refine RtV1 hs rfl (rv_t hs rfl) ?_
                     exact ⟨rfl, ((hs.subL (.cons _ (.cons _ (.refl _)))).weak hle).cw⟩
                    ·replace hm := oc_f hg104 hm
                     refine W_skip ?_
                     refine hK39 _ _ ?_; clear hK39
                     refine W_region ?_
                     refine sy hs (y_add rfl rfl rfl) ?_; clear hs; (try clear a w); intro a w hs
                     refine sy (v := .int .i64 ((w64 (y91 + 1)))) hs (y_move rfl) ?_; clear hs; (try clear a w); intro a w hs
                     refine RL_nil ?_
                     exact hK36 k92 _ _ (Nat.lt_succ_self _) ⟨(w64 (y91 + 1)), hm, hs.sub ⟨rfl, rfl, rfl, rfl, rfl, rfl, rfl, rfl, trivial⟩⟩
                   ·refine W_region ?_
                    refine sy (v := .pointer (some ⟨b101, 0, none⟩)) hs (y_fieldAddr rfl (FO.of (off := 0) Tryd.underlying43 rfl rfl ti9 (by decide))) ?_; clear hs; (try clear a w); intro a w hs
                    refine sy (v := .string (x94.Name)) hs (y_ld rfl Tryd.underlying9 rfl (Cell.blk (.head _) rfl)) ?_; clear hs; (try clear a w); intro a w hs
                    obtain ⟨x105, hx106, hm⟩ := ob hm
                    refine sy hs (y_call rfl has19 rfl (write_attribute_ok n (f := f)  hx106)) ?_; clear hs; (try clear a w); intro a w hs
                    refine sy (v := .bool ((!x105))) hs (y_not rfl) ?_; clear hs; (try clear a w); intro a w hs
                    refine sy (v := .bool ((!x105))) hs (y_move rfl) ?_; clear hs; (try clear a w); intro a w hs
                    refine St.split hs (t := 151) rfl (fun hg107 hq => ?_) (fun hg107 hq => ?_)
                    ·clear hs; have hs := hq; clear hq
                     replace hm := oc_t hg107 hm
                     refine sno hs ?_; clear hs; (try clear a w); intro a w hs
                     refine sno hs ?_; clear hs; (try clear a w); intro a w hs
                     refine sno hs ?_; clear hs; (try clear a w); intro a w hs
                     refine sno hs ?_; clear hs; (try clear a w); intro a w hs
                     refine sy (v := .bool (true)) hs (y_pick rfl rfl) ?_; clear hs; (try clear a w); intro a w hs
                     refine RL_nil ?_
                     exact ⟨true, hm, hs.subs ⟨rfl, rfl, rfl, rfl, rfl, rfl, rfl, rfl, rfl, trivial⟩ (.cons _ (.cons_cons _ (.cons_cons _ (.refl _))))⟩
                    ·clear hs; have hs := hq; clear hq
                     replace hm := oc_f hg107 hm
                     refine syg (v := .pointer (some ⟨b101, 1, none⟩)) hs (y_fieldAddr rfl (FO.of (off := 1) Tryd.underlying43 rfl rfl ti9 (by decide))) ?_; clear hs; (try clear a w); intro a w hs
                     refine syg (v := .string (x94.Value)) hs (y_ld rfl Tryd.underlying9 rfl (Cell.blk (.head _) rfl)) ?_; clear hs; (try clear a w); intro a w hs
                     obtain ⟨x108, hx109, hm⟩ := ob hm
                     refine syg hs (y_call rfl has16 rfl (write_plainT_ok n (f := f)  hT0 hT1 hTT hx109)) ?_; clear hs; (try clear a w); intro a w hs
                     refine syg (v := .bool ((!x108))) hs (y_not rfl) ?_; clear hs; (try clear a w); intro a w hs
                     refine sy (v := .bool ((!x108))) hs (y_pick rfl rfl) ?_; clear hs; (try clear a w); intro a w hs
                     refine RL_nil ?_
                     exact ⟨(!x108), hm, hs.subs ⟨rfl, rfl, rfl, rfl, rfl, rfl, rfl, rfl, rfl, trivial⟩ (.cons _ (.cons_cons _ (.cons_cons _ (.refl _))))⟩
                  ·replace hm := oc_f hg93 hm
                   refine W_exit ?_
                   refine hB35 _ _ ?_
                   exact ⟨hm, hs.sub ⟨rfl, rfl, rfl, rfl, rfl, trivial⟩⟩
              ·refine W_region ?_
               refine sy (v := v62) hs (y_move rfl) ?_; clear hs; (try clear a w); intro a w hs
               refine sy (v := .pointer (some ⟨b42, 4, none⟩)) hs (y_fieldAddr rfl (FO.of (off := 4) Tryd.underlying37 rfl rfl ti3 (by decide))) ?_; clear hs; (try clear a w); intro a w hs
               refine sy (v := .int .i64 (x30.Parent)) hs (y_ld rfl Tryd.underlying3 rfl (Cell.blk (.head _) rfl)) ?_; clear hs; (try clear a w); intro a w hs
               obtain ⟨x110, hx111, hm⟩ := ob hm
               obtain ⟨r112, hr113, hq114, hi115, hb116⟩ := hW64.geti hx111
               obtain rfl : _ = ([.bool (x110)] : List Value) := hq114
               refine sy hs (y_indexAddr (Rd.st hs (.tail _ (.head _))) rfl rfl hi115 hb116 Tryd.underlying45 ti4) ?_; clear hs; (try clear a w); intro a w hs
               refine sy (v := .bool (x110)) hs (y_loadE (i := x30.Parent.toNat) (j := 0) (Rd.st hs (.tail _ (.head _))) rfl hr113 rfl Tryd.underlying4 rfl) ?_; clear hs; (try clear a w); intro a w hs
               refine sy (v := .bool (x110)) hs (y_move rfl) ?_; clear hs; (try clear a w); intro a w hs
               refine St.split hs (t := 134) rfl (fun hg117 hq => ?_) (fun hg117 hq => ?_)
               ·clear hs; have hs := hq; clear hq
                replace hm := oc_t hg117 hm
                refine RL_guard hs rfl rfl ?_
                refine RL_bsN (parts := [(0, .const (.string (bs [100, 105, 118]))), (1, .const (.string (bs [104, 49]))), (2, .const (.string (bs [108, 105]))), (3, .const (.string (bs [112]))), (4, .const (.string (bs [116, 97, 98, 108, 101]))), (5, .const (.string (bs [117, 108])))]) (us := [.string ((bs [100, 105, 118])), .string ((bs [104, 49])), .string ((bs [108, 105])), .string ((bs [112])), .string ((bs [116, 97, 98, 108, 101])), .string ((bs [117, 108]))]) (rows := [[.string ((bs [100, 105, 118]))], [.string ((bs [104, 49]))], [.string ((bs [108, 105]))], [.string ((bs [112]))], [.string ((bs [116, 97, 98, 108, 101]))], [.string ((bs [117, 108]))]]) hs rfl Tryd.underlying47 ti9 (by decide) rfl rfl (by intro r hr; simp only [List.mem_cons, List.mem_nil_iff, or_false] at hr; rcases hr with rfl | rfl | rfl | rfl | rfl | rfl; exact AllC.row ⟨rfl, trivial⟩ rfl; exact AllC.row ⟨rfl, trivial⟩ rfl; exact AllC.row ⟨rfl, trivial⟩ rfl; exact AllC.row ⟨rfl, trivial⟩ rfl; exact AllC.row ⟨rfl, trivial⟩ rfl; exact AllC.row ⟨rfl, trivial⟩ rfl) ?_; clear hs; (try clear a w); intro v118 a w hs
                have hW119 : RW tStr f [[.string ((bs [100, 105, 118]))], [.string ((bs [104, 49]))], [.string ((bs [108, 105]))], [.string ((bs [112]))], [.string ((bs [116, 97, 98, 108, 101]))], [.string ((bs [117, 108]))]] [(bs [100, 105, 118]), (bs [104, 49]), (bs [108, 105]), (bs [112]), (bs [116, 97, 98, 108, 101]), (bs [117, 108])] := ⟨rfl, ⟨rfl, ⟨rfl, ⟨rfl, ⟨rfl, ⟨rfl, trivial⟩⟩⟩⟩⟩⟩
                generalize hgrw120 : ([[.string ((bs [100, 105, 118]))], [.string ((bs [104, 49]))], [.string ((bs [108, 105]))], [.string ((bs [112]))], [.string ((bs [116, 97, 98, 108, 101]))], [.string ((bs [117, 108]))]] : List (List Value)) = rw120 at hs hW119; clear hgrw120
                replace hs : St _ _ _ (.row v118 9 1 rw120 :: .blk b42 (.cells #[.int .i64 (x30.Kind), .string (x30.Name), .string (x30.Text), v37, .int .i64 (x30.Parent), .int .i64 (x30.First), .int .i64 (x30.Last), .int .i64 (x30.Prev), .int .i64 (x30.Next)] 37 (0, 0)) :: .row v62 4 1 rw63 :: .blk b6 (.cells #[v1] 24 (0, 0)) :: L) _ _ _ := hs
                refine syg (v := .pointer (some ⟨b42, 1, none⟩)) hs (y_fieldAddr rfl (FO.of (off := 1) Tryd.underlying37 rfl rfl ti9 (by decide))) ?_; clear hs; (try clear a w); intro a w hs
                refine syg (v := .string (x30.Name)) hs (y_ld rfl Tryd.underlying9 rfl (Cell.blk (.tail _ (.head _)) rfl)) ?_; clear hs; (try clear a w); intro a w hs
                obtain ⟨x123, hx124, hm⟩ := ob hm
                refine syg hs (y_callCK (cap := []) rfl has14 rfl (fun w9 hw9 => callsP (Lr := [.row v118 9 1 rw120]) (Lf := .blk b42 (.cells #[.int .i64 (x30.Kind), .string (x30.Name), .string (x30.Text), v37, .int .i64 (x30.Parent), .int .i64 (x30.First), .int .i64 (x30.Last), .int .i64 (x30.Prev), .int .i64 (x30.Next)] 37 (0, 0)) :: .row v62 4 1 rw63 :: .blk b6 (.cells #[v1] 24 (0, 0)) :: L) (perm_at _ 0 rfl) hw9 (fun Lz w9 hw9 => lent0 hw9 (fun f9_0 w9 hle9_0 hRl0 hw9 => (slices_Contains_string_string_ok n (f := f9_0) (a0 := v118) ⟨rw120, hRl0, hW119.le hle9_0⟩ hx124) w0 _ w9 hw9)))) ?_; clear hs; (try clear a w); intro a w hs
                refine sy (v := .bool (x123)) hs (y_pick rfl rfl) ?_; clear hs; (try clear a w); intro a w hs
                refine RL_nil ?_
                exact ⟨x123, hm, hs.subs ⟨rfl, rfl, rfl, rfl, rfl, rfl, rfl, trivial⟩ (.cons _ (.cons_cons _ (.cons_cons _ (.cons_cons _ (.refl _)))))⟩
               ·clear hs; have hs := hq; clear hq
                replace hm := oc_f hg117 hm
                refine sno hs ?_; clear hs; (try clear a w); intro a w hs
                refine sno hs ?_; clear hs; (try clear a w); intro a w hs
                refine sno hs ?_; clear hs; (try clear a w); intro a w hs
                refine sno hs ?_; clear hs; (try clear a w); intro a w hs
                refine sy (v := .bool (false)) hs (y_pick rfl rfl) ?_; clear hs; (try clear a w); intro a w hs
                refine RL_nil ?_
                exact ⟨false, hm, hs.sub ⟨rfl, rfl, rfl, rfl, rfl, rfl, rfl, trivial⟩⟩
            ·refine W_draw hs mixed (by kernel_rfl) ?_; intro a he
             refine qy (v := .pointer (some ⟨b42, 1, none⟩)) he (y_fieldAddr rfl (FO.of (off := 1) Tryd.underlying37 rfl rfl ti9 (by decide))) ?_; clear he; (try clear a); intro a he
             refine qy (v := .string (x30.Name)) he (y_ld rfl Tryd.underlying9 rfl (Cell.blk (.tail _ (.head _)) rfl)) ?_; clear he; (try clear a); intro a he
             obtain ⟨x125, hx126, hm⟩ := ob hm
             refine qy he (y_call rfl has17 rfl (write_known_ok n (f := f)  hx126)) ?_; clear he; (try clear a); intro a he
             refine qy (v := .bool ((!x125))) he (y_not rfl) ?_; clear he; (try clear a); intro a he
             refine qy (v := .bool ((!x125))) he (y_move rfl) ?_; clear he; (try clear a); intro a he
             refine Ev.split he (t := 105) rfl (fun hg127 hq => ?_) (fun hg127 hq => ?_)
             ·clear he; have he := hq; clear hq
              replace hm := oc_t hg127 hm
              refine qno he ?_; clear he; (try clear a); intro a he
              refine qno he ?_; clear he; (try clear a); intro a he
              refine qno he ?_; clear he; (try clear a); intro a he
              refine qno he ?_; clear he; (try clear a); intro a he
              refine qun he ?_; clear he; (try clear a); intro a he
              refine qun he ?_; clear he; (try clear a); intro a he
              refine qun he ?_; clear he; (try clear a); intro a he
              refine qno he ?_; clear he; (try clear a); intro a he
              refine qy (v := .bool (true)) he (y_pick rfl rfl) ?_; clear he; (try clear a); intro a he
              refine qy (v := .bool (true)) he (y_move rfl) ?_; clear he; (try clear a); intro a he
              refine qno he ?_; clear he; (try clear a); intro a he
              refine qno he ?_; clear he; (try clear a); intro a he
              refine qno he ?_; clear he; (try clear a); intro a he
              refine qno he ?_; clear he; (try clear a); intro a he
              refine qno he ?_; clear he; (try clear a); intro a he
              refine qun he ?_; clear he; (try clear a); intro a he
              refine qun he ?_; clear he; (try clear a); intro a he
              refine qun he ?_; clear he; (try clear a); intro a he
              refine qun he ?_; clear he; (try clear a); intro a he
              refine qun he ?_; clear he; (try clear a); intro a he
              refine qun he ?_; clear he; (try clear a); intro a he
              refine qno he ?_; clear he; (try clear a); intro a he
              refine qy (v := .bool (true)) he (y_pick rfl rfl) ?_; clear he; (try clear a); intro a he
              refine QL_nil he ?_; clear he; (try clear hs); (try clear a); intro a w hs
              exact ⟨true, hm, hs.subs ⟨rfl, rfl, rfl, rfl, rfl, rfl, rfl, trivial⟩ (.cons _ (.cons_cons _ (.cons_cons _ (.cons_cons _ (.refl _)))))⟩
             ·clear he; have he := hq; clear hq
              replace hm := oc_f hg127 hm
              refine qyg (v := .pointer (some ⟨b42, 1, none⟩)) he (y_fieldAddr rfl (FO.of (off := 1) Tryd.underlying37 rfl rfl ti9 (by decide))) ?_; clear he; (try clear a); intro a he
              refine qyg (v := .string (x30.Name)) he (y_ld rfl Tryd.underlying9 rfl (Cell.blk (.tail _ (.head _)) rfl)) ?_; clear he; (try clear a); intro a he
              obtain ⟨x128, hx129, hm⟩ := ob hm
              refine qyg he (y_call rfl has18 rfl (tree_Void_ok n (f := f)  hx129)) ?_; clear he; (try clear a); intro a he
              refine qyg (v := .bool (x128)) he (y_move rfl) ?_; clear he; (try clear a); intro a he
              refine Ev.split he (t := 109) rfl (fun hg130 hq => ?_) (fun hg130 hq => ?_)
              ·clear he; have he := hq; clear hq
               replace hm := oc_t hg130 hm
               refine qyg (v := .pointer (some ⟨b42, 5, none⟩)) he (y_fieldAddr rfl (FO.of (off := 5) Tryd.underlying37 rfl rfl ti3 (by decide))) ?_; clear he; (try clear a); intro a he
               refine qyg (v := .int .i64 (x30.First)) he (y_ld rfl Tryd.underlying3 rfl (Cell.blk (.tail _ (.head _)) rfl)) ?_; clear he; (try clear a); intro a he
               refine qyg he (y_geq rfl rfl) ?_; clear he; (try clear a); intro a he
               refine qyg (v := .bool (decide (0 ≤ x30.First))) he (y_pick rfl rfl) ?_; clear he; (try clear a); intro a he
               refine qy (v := .bool (decide (0 ≤ x30.First))) he (y_pick rfl rfl) ?_; clear he; (try clear a); intro a he
               refine qy (v := .bool (decide (0 ≤ x30.First))) he (y_move rfl) ?_; clear he; (try clear a); intro a he
               refine Ev.split he (t := 115) rfl (fun hg131 hq => ?_) (fun hg131 hq => ?_)
               ·clear he; have he := hq; clear hq
                replace hm := oc_t hg131 hm
                refine qno he ?_; clear he; (try clear a); intro a he
                refine qno he ?_; clear he; (try clear a); intro a he
                refine qno he ?_; clear he; (try clear a); intro a he
                refine qno he ?_; clear he; (try clear a); intro a he
                refine qno he ?_; clear he; (try clear a); intro a he
                refine qun he ?_; clear he; (try clear a); intro a he
                refine qun he ?_; clear he; (try clear a); intro a he
                refine qun he ?_; clear he; (try clear a); intro a he
                refine qun he ?_; clear he; (try clear a); intro a he
                refine qun he ?_; clear he; (try clear a); intro a he
                refine qun he ?_; clear he; (try clear a); intro a he
                refine qno he ?_; clear he; (try clear a); intro a he
                refine qy (v := .bool (true)) he (y_pick rfl rfl) ?_; clear he; (try clear a); intro a he
                refine QL_nil he ?_; clear he; (try clear hs); (try clear a); intro a w hs
                exact ⟨true, hm, hs.subs ⟨rfl, rfl, rfl, rfl, rfl, rfl, rfl, trivial⟩ (.cons _ (.cons_cons _ (.cons_cons _ (.cons_cons _ (.refl _)))))⟩
               ·clear he; have he := hq; clear hq
                replace hm := oc_f hg131 hm
                refine qyg (v := .pointer (some ⟨b42, 1, none⟩)) he (y_fieldAddr rfl (FO.of (off := 1) Tryd.underlying37 rfl rfl ti9 (by decide))) ?_; clear he; (try clear a); intro a he
                refine qyg (v := .string (x30.Name)) he (y_ld rfl Tryd.underlying9 rfl (Cell.blk (.tail _ (.head _)) rfl)) ?_; clear he; (try clear a); intro a he
                obtain ⟨x132, hx133, hm⟩ := ob hm
                refine qyg he (y_call rfl has15 rfl (write_within_ok n (f := f)  hx133)) ?_; clear he; (try clear a); intro a he
                refine qyg he (y_sneq rfl rfl) ?_; clear he; (try clear a); intro a he
                refine qyg (v := .bool (decide (x132 ≠ (bs [])))) he (y_move rfl) ?_; clear he; (try clear a); intro a he
                refine Ev.split he (t := 120) rfl (fun hg134 hq => ?_) (fun hg134 hq => ?_)
                ·clear he; have he := hq; clear hq
                 replace hm := oc_t hg134 hm
                 refine qyg (v := .pointer (some ⟨b42, 1, none⟩)) he (y_fieldAddr rfl (FO.of (off := 1) Tryd.underlying37 rfl rfl ti9 (by decide))) ?_; clear he; (try clear a); intro a he
                 refine qyg (v := .string (x30.Name)) he (y_ld rfl Tryd.underlying9 rfl (Cell.blk (.tail _ (.head _)) rfl)) ?_; clear he; (try clear a); intro a he
                 obtain ⟨x135, hx136, hm⟩ := ob hm
                 refine qyg he (y_call rfl has15 rfl (write_within_ok n (f := f)  hx136)) ?_; clear he; (try clear a); intro a he
                 refine qyg (v := .pointer (some ⟨b58, 1, none⟩)) he (y_fieldAddr rfl (FO.of (off := 1) Tryd.underlying37 rfl rfl ti9 (by decide))) ?_; clear he; (try clear a); intro a he
                 refine qyg (v := .string (x46.Name)) he (y_ld rfl Tryd.underlying9 rfl (Cell.blk (.head _) rfl)) ?_; clear he; (try clear a); intro a he
                 refine qyg he (y_sneq rfl rfl) ?_; clear he; (try clear a); intro a he
                 refine qyg (v := .bool (decide (x135 ≠ x46.Name))) he (y_pick rfl rfl) ?_; clear he; (try clear a); intro a he
                 refine qy (v := .bool (decide (x135 ≠ x46.Name))) he (y_pick rfl rfl) ?_; clear he; (try clear a); intro a he
                 refine QL_nil he ?_; clear he; (try clear hs); (try clear a); intro a w hs
                 exact ⟨decide (x135 ≠ x46.Name), hm, hs.subs ⟨rfl, rfl, rfl, rfl, rfl, rfl, rfl, trivial⟩ (.cons _ (.cons_cons _ (.cons_cons _ (.cons_cons _ (.refl _)))))⟩
                ·clear he; have he := hq; clear hq
                 replace hm := oc_f hg134 hm
                 refine qno he ?_; clear he; (try clear a); intro a he
                 refine qno he ?_; clear he; (try clear a); intro a he
                 refine qno he ?_; clear he; (try clear a); intro a he
                 refine qno he ?_; clear he; (try clear a); intro a he
                 refine qno he ?_; clear he; (try clear a); intro a he
                 refine qno he ?_; clear he; (try clear a); intro a he
                 refine qyg (v := .bool (false)) he (y_pick rfl rfl) ?_; clear he; (try clear a); intro a he
                 refine qy (v := .bool (false)) he (y_pick rfl rfl) ?_; clear he; (try clear a); intro a he
                 refine QL_nil he ?_; clear he; (try clear hs); (try clear a); intro a w hs
                 exact ⟨false, hm, hs.subs ⟨rfl, rfl, rfl, rfl, rfl, rfl, rfl, trivial⟩ (.cons _ (.cons_cons _ (.cons_cons _ (.cons_cons _ (.refl _)))))⟩
              ·clear he; have he := hq; clear hq
               replace hm := oc_f hg130 hm
               refine qno he ?_; clear he; (try clear a); intro a he
               refine qno he ?_; clear he; (try clear a); intro a he
               refine qno he ?_; clear he; (try clear a); intro a he
               refine qyg (v := .bool (false)) he (y_pick rfl rfl) ?_; clear he; (try clear a); intro a he
               refine qy (v := .bool (false)) he (y_pick rfl rfl) ?_; clear he; (try clear a); intro a he
               refine qy (v := .bool (false)) he (y_move rfl) ?_; clear he; (try clear a); intro a he
               refine qyg (v := .pointer (some ⟨b42, 1, none⟩)) he (y_fieldAddr rfl (FO.of (off := 1) Tryd.underlying37 rfl rfl ti9 (by decide))) ?_; clear he; (try clear a); intro a he
               refine qyg (v := .string (x30.Name)) he (y_ld rfl Tryd.underlying9 rfl (Cell.blk (.tail _ (.head _)) rfl)) ?_; clear he; (try clear a); intro a he
               obtain ⟨x137, hx138, hm⟩ := ob hm
               refine qyg he (y_call rfl has15 rfl (write_within_ok n (f := f)  hx138)) ?_; clear he; (try clear a); intro a he
               refine qyg he (y_sneq rfl rfl) ?_; clear he; (try clear a); intro a he
               refine qyg (v := .bool (decide (x137 ≠ (bs [])))) he (y_move rfl) ?_; clear he; (try clear a); intro a he
               refine Ev.split he (t := 120) rfl (fun hg139 hq => ?_) (fun hg139 hq => ?_)
               ·clear he; have he := hq; clear hq
                replace hm := oc_t hg139 hm
                refine qyg (v := .pointer (some ⟨b42, 1, none⟩)) he (y_fieldAddr rfl (FO.of (off := 1) Tryd.underlying37 rfl rfl ti9 (by decide))) ?_; clear he; (try clear a); intro a he
                refine qyg (v := .string (x30.Name)) he (y_ld rfl Tryd.underlying9 rfl (Cell.blk (.tail _ (.head _)) rfl)) ?_; clear he; (try clear a); intro a he
                obtain ⟨x140, hx141, hm⟩ := ob hm
                refine qyg he (y_call rfl has15 rfl (write_within_ok n (f := f)  hx141)) ?_; clear he; (try clear a); intro a he
                refine qyg (v := .pointer (some ⟨b58, 1, none⟩)) he (y_fieldAddr rfl (FO.of (off := 1) Tryd.underlying37 rfl rfl ti9 (by decide))) ?_; clear he; (try clear a); intro a he
                refine qyg (v := .string (x46.Name)) he (y_ld rfl Tryd.underlying9 rfl (Cell.blk (.head _) rfl)) ?_; clear he; (try clear a); intro a he
                refine qyg he (y_sneq rfl rfl) ?_; clear he; (try clear a); intro a he
                refine qyg (v := .bool (decide (x140 ≠ x46.Name))) he (y_pick rfl rfl) ?_; clear he; (try clear a); intro a he
                refine qy (v := .bool (decide (x140 ≠ x46.Name))) he (y_pick rfl rfl) ?_; clear he; (try clear a); intro a he
                refine QL_nil he ?_; clear he; (try clear hs); (try clear a); intro a w hs
                exact ⟨decide (x140 ≠ x46.Name), hm, hs.subs ⟨rfl, rfl, rfl, rfl, rfl, rfl, rfl, trivial⟩ (.cons _ (.cons_cons _ (.cons_cons _ (.cons_cons _ (.refl _)))))⟩
               ·clear he; have he := hq; clear hq
                replace hm := oc_f hg139 hm
                refine qno he ?_; clear he; (try clear a); intro a he
                refine qno he ?_; clear he; (try clear a); intro a he
                refine qno he ?_; clear he; (try clear a); intro a he
                refine qno he ?_; clear he; (try clear a); intro a he
                refine qno he ?_; clear he; (try clear a); intro a he
                refine qno he ?_; clear he; (try clear a); intro a he
                refine qyg (v := .bool (false)) he (y_pick rfl rfl) ?_; clear he; (try clear a); intro a he
                refine qy (v := .bool (false)) he (y_pick rfl rfl) ?_; clear he; (try clear a); intro a he
                refine QL_nil he ?_; clear he; (try clear hs); (try clear a); intro a w hs
                exact ⟨false, hm, hs.subs ⟨rfl, rfl, rfl, rfl, rfl, rfl, rfl, trivial⟩ (.cons _ (.cons_cons _ (.cons_cons _ (.cons_cons _ (.refl _)))))⟩
         ·have hsD := hs.subL (L' := .blk b58 (.cells #[.int .i64 (x46.Kind), .string (x46.Name), .string (x46.Text), v53, .int .i64 (x46.Parent), .int .i64 (x46.First), .int .i64 (x46.Last), .int .i64 (x46.Prev), .int .i64 (x46.Next)] 37 (0, 0)) :: .blk b42 (.cells #[.int .i64 (x30.Kind), .string (x30.Name), .string (x30.Text), v37, .int .i64 (x30.Parent), .int .i64 (x30.First), .int .i64 (x30.Last), .int .i64 (x30.Prev), .int .i64 (x30.Next)] 37 (0, 0)) :: []) (.cons_cons _ (.cons_cons _ (.cons _ (.cons _ (List.nil_sublist _)))))
          have hbd142 := Fz.le.refl f
          refine T_start hs (.blk b58 (.cells #[.int .i64 (x46.Kind), .string (x46.Name), .string (x46.Text), v53, .int .i64 (x46.Parent), .int .i64 (x46.First), .int .i64 (x46.Last), .int .i64 (x46.Prev), .int .i64 (x46.Next)] 37 (0, 0)) :: .blk b42 (.cells #[.int .i64 (x30.Kind), .string (x30.Name), .string (x30.Text), v37, .int .i64 (x30.Parent), .int .i64 (x30.First), .int .i64 (x30.Last), .int .i64 (x30.Prev), .int .i64 (x30.Next)] 37 (0, 0)) :: []) [] (.look 1 (.look 2 (.any [0] (fun _ => .any [3] (fun _ => .look 4 (.look 5 (.look 6 (.look 7 (.look 8 (.look 9 (.look 10 (.look 11 (.look 12 (.look 13 (.look 14 (.look 15 (.look 16 (.done)))))))))))))))))) mixed (by kernel_rfl) ?_; clear hs; (try clear a w); intro a he
          refine uy (v := .pointer (some ⟨b58, 1, none⟩)) 1 he rfl (y_fieldAddr rfl (FO.of (off := 1) Tryd.underlying37 rfl rfl ti9 (by decide))) ?_; clear he; (try clear a); intro a he
          refine uy (v := .string (x46.Name)) 2 he rfl (y_ld rfl Tryd.underlying9 rfl (Cell.blk (.head _) rfl)) ?_; clear he; (try clear a); intro a he
          refine T_any1 he rfl ?_; clear he; (try clear a); intro a w hs
          refine RL_bsN (parts := [(0, .const (.string (bs [116, 97, 98, 108, 101]))), (1, .const (.string (bs [116, 114]))), (2, .const (.string (bs [117, 108])))]) (us := [.string ((bs [116, 97, 98, 108, 101])), .string ((bs [116, 114])), .string ((bs [117, 108]))]) (rows := [[.string ((bs [116, 97, 98, 108, 101]))], [.string ((bs [116, 114]))], [.string ((bs [117, 108]))]]) hs rfl Tryd.underlying47 ti9 (by decide) rfl rfl (by intro r hr; simp only [List.mem_cons, List.mem_nil_iff, or_false] at hr; rcases hr with rfl | rfl | rfl; exact AllC.row ⟨rfl, trivial⟩ rfl; exact AllC.row ⟨rfl, trivial⟩ rfl; exact AllC.row ⟨rfl, trivial⟩ rfl) ?_; clear hs; (try clear a w); intro v143 a w hs
          have hW144 : RW tStr f [[.string ((bs [116, 97, 98, 108, 101]))], [.string ((bs [116, 114]))], [.string ((bs [117, 108]))]] [(bs [116, 97, 98, 108, 101]), (bs [116, 114]), (bs [117, 108])] := ⟨rfl, ⟨rfl, ⟨rfl, trivial⟩⟩⟩
          generalize hgrw145 : ([[.string ((bs [116, 97, 98, 108, 101]))], [.string ((bs [116, 114]))], [.string ((bs [117, 108]))]] : List (List Value)) = rw145 at hs hW144; clear hgrw145
          replace hs : St _ _ _ (.row v143 9 1 rw145 :: .blk b58 (.cells #[.int .i64 (x46.Kind), .string (x46.Name), .string (x46.Text), v53, .int .i64 (x46.Parent), .int .i64 (x46.First), .int .i64 (x46.Last), .int .i64 (x46.Prev), .int .i64 (x46.Next)] 37 (0, 0)) :: .blk b42 (.cells #[.int .i64 (x30.Kind), .string (x30.Name), .string (x30.Text), v37, .int .i64 (x30.Parent), .int .i64 (x30.First), .int .i64 (x30.Last), .int .i64 (x30.Prev), .int .i64 (x30.Next)] 37 (0, 0)) :: .row v62 4 1 rw63 :: .blk b6 (.cells #[v1] 24 (0, 0)) :: L) _ _ _ := hs
          have ho148 : v143.oneCell' = true := hs.one (i := 0) rfl
          refine uon hs ?_; clear hs; (try clear a w); intro a he
          refine T_any1 he rfl ?_; clear he; (try clear a); intro a w hs
          obtain ⟨x149, hx150, hm⟩ := ob hm
          refine sy hs (y_callCK (cap := []) rfl has14 rfl (fun w9 hw9 => callsP (Lr := [.row v143 9 1 rw145]) (Lf := .blk b58 (.cells #[.int .i64 (x46.Kind), .string (x46.Name), .string (x46.Text), v53, .int .i64 (x46.Parent), .int .i64 (x46.First), .int .i64 (x46.Last), .int .i64 (x46.Prev), .int .i64 (x46.Next)] 37 (0, 0)) :: .blk b42 (.cells #[.int .i64 (x30.Kind), .string (x30.Name), .string (x30.Text), v37, .int .i64 (x30.Parent), .int .i64 (x30.First), .int .i64 (x30.Last), .int .i64 (x30.Prev), .int .i64 (x30.Next)] 37 (0, 0)) :: .row v62 4 1 rw63 :: .blk b6 (.cells #[v1] 24 (0, 0)) :: L) (perm_at _ 0 rfl) hw9 (fun Lz w9 hw9 => lent0 hw9 (fun f9_0 w9 hle9_0 hRl0 hw9 => (slices_Contains_string_string_ok n (f := f9_0) (a0 := v143) ⟨rw145, hRl0, hW144.le hle9_0⟩ hx150) w0 _ w9 hw9)))) ?_; clear hs; (try clear a w); intro a w hs
          refine uon hs ?_; clear hs; (try clear a w); intro a he
          refine uy (v := .bool (x149)) 4 he rfl (y_move rfl) ?_; clear he; (try clear a); intro a he
          refine Ev.split he (t := 66) rfl (fun hg151 hq => ?_) (fun hg151 hq => ?_)
          ·clear he; have he := hq; clear hq
           replace hm := oc_t hg151 hm
           refine uyg (v := .pointer (some ⟨b42, 0, none⟩)) 5 he rfl (y_fieldAddr rfl (FO.of (off := 0) Tryd.underlying37 rfl rfl ti3 (by decide))) ?_; clear he; (try clear a); intro a he
           refine uyg (v := .int .i64 (x30.Kind)) 6 he rfl (y_ld rfl Tryd.underlying3 rfl (Cell.blk (.tail _ (.head _)) rfl)) ?_; clear he; (try clear a); intro a he
           refine uyg 7 he rfl (y_eql rfl rfl) ?_; clear he; (try clear a); intro a he
           refine uyg (v := .bool (decide (x30.Kind = 2))) 8 he rfl (y_move rfl) ?_; clear he; (try clear a); intro a he
           refine Ev.split he (t := 70) rfl (fun hg152 hq => ?_) (fun hg152 hq => ?_)
           ·clear he; have he := hq; clear hq
            replace hm := oc_t hg152 hm
            refine uno 9 he rfl ?_; clear he; (try clear a); intro a he
            refine uno 10 he rfl ?_; clear he; (try clear a); intro a he
            refine uno 11 he rfl ?_; clear he; (try clear a); intro a he
            refine uno 12 he rfl ?_; clear he; (try clear a); intro a he
            refine uno 13 he rfl ?_; clear he; (try clear a); intro a he
            refine uno 14 he rfl ?_; clear he; (try clear a); intro a he
            refine uyg (v := .bool (true)) 15 he rfl (y_pick rfl rfl) ?_; clear he; (try clear a); intro a he
            refine uy (v := .bool (true)) 16 he rfl (y_pick rfl rfl) ?_; clear he; (try clear a); intro a he
            refine T_nil he ?_; clear he; (try clear a); intro w hs; try clear hsD
            exact ⟨true, hm, hs.subs ⟨rfl, rfl, rfl, rfl, rfl, rfl, rfl, rfl, trivial⟩ (.cons _ (.cons_cons _ (.cons_cons _ (.cons_cons _ (.cons_cons _ (.refl _))))))⟩
           ·clear he; have he := hq; clear hq
            replace hm := oc_f hg152 hm
            refine uyg (v := .pointer (some ⟨b42, 1, none⟩)) 9 he rfl (y_fieldAddr rfl (FO.of (off := 1) Tryd.underlying37 rfl rfl ti9 (by decide))) ?_; clear he; (try clear a); intro a he
            refine uyg (v := .string (x30.Name)) 10 he rfl (y_ld rfl Tryd.underlying9 rfl (Cell.blk (.tail _ (.head _)) rfl)) ?_; clear he; (try clear a); intro a he
            obtain ⟨x153, hx154, hm⟩ := ob hm
            refine ucallg 11 he rfl rfl has15 rfl (fun f9 L9 w9 hfc _ hw9 => (write_within_ok n (f := f9)  hx154) w0 L9 w9 hw9) ?_; clear he; (try clear a); intro a he
            refine uyg (v := .pointer (some ⟨b58, 1, none⟩)) 12 he rfl (y_fieldAddr rfl (FO.of (off := 1) Tryd.underlying37 rfl rfl ti9 (by decide))) ?_; clear he; (try clear a); intro a he
            refine uyg (v := .string (x46.Name)) 13 he rfl (y_ld rfl Tryd.underlying9 rfl (Cell.blk (.head _) rfl)) ?_; clear he; (try clear a); intro a he
            refine uyg 14 he rfl (y_sneq rfl rfl) ?_; clear he; (try clear a); intro a he
            refine uyg (v := .bool (decide (x153 ≠ x46.Name))) 15 he rfl (y_pick rfl rfl) ?_; clear he; (try clear a); intro a he
            refine uy (v := .bool (decide (x153 ≠ x46.Name))) 16 he rfl (y_pick rfl rfl) ?_; clear he; (try clear a); intro a he
            refine T_nil he ?_; clear he; (try clear a); intro w hs; try clear hsD
            exact ⟨decide (x153 ≠ x46.Name), hm, hs.subs ⟨rfl, rfl, rfl, rfl, rfl, rfl, rfl, rfl, trivial⟩ (.cons _ (.cons_cons _ (.cons_cons _ (.cons_cons _ (.cons_cons _ (.refl _))))))⟩
          ·clear he; have he := hq; clear hq
           replace hm := oc_f hg151 hm
           refine uno 5 he rfl ?_; clear he; (try clear a); intro a he
           refine uno 6 he rfl ?_; clear he; (try clear a); intro a he
           refine uno 7 he rfl ?_; clear he; (try clear a); intro a he
           refine uno 8 he rfl ?_; clear he; (try clear a); intro a he
           refine uun 9 he rfl ?_; clear he; (try clear a); intro a he
           refine uun 10 he rfl ?_; clear he; (try clear a); intro a he
           refine uun 11 he rfl ?_; clear he; (try clear a); intro a he
           refine uun 12 he rfl ?_; clear he; (try clear a); intro a he
           refine uun 13 he rfl ?_; clear he; (try clear a); intro a he
           refine uun 14 he rfl ?_; clear he; (try clear a); intro a he
           refine uno 15 he rfl ?_; clear he; (try clear a); intro a he
           refine uy (v := .bool (false)) 16 he rfl (y_pick rfl rfl) ?_; clear he; (try clear a); intro a he
           refine T_nil he ?_; clear he; (try clear a); intro w hs; try clear hsD
           exact ⟨false, hm, hs.subs ⟨rfl, rfl, rfl, rfl, rfl, rfl, rfl, rfl, trivial⟩ (.cons _ (.cons_cons _ (.cons_cons _ (.cons_cons _ (.cons_cons _ (.refl _))))))⟩
        ·refine W_region ?_
         refine sy (v := v18) hs (y_move rfl) ?_; clear hs; (try clear a w); intro a w hs
         refine sy (v := .int .i64 (y22)) hs (y_move rfl) ?_; clear hs; (try clear a w); intro a w hs
         refine sy (v := v18) hs (y_move rfl) ?_; clear hs; (try clear a w); intro a w hs
         refine sy (v := .pointer (some ⟨b42, 4, none⟩)) hs (y_fieldAddr rfl (FO.of (off := 4) Tryd.underlying37 rfl rfl ti3 (by decide))) ?_; clear hs; (try clear a w); intro a w hs
         refine sy (v := .int .i64 (x30.Parent)) hs (y_ld rfl Tryd.underlying3 rfl (Cell.blk (.tail _ (.head _)) rfl)) ?_; clear hs; (try clear a w); intro a w hs
         obtain ⟨x155, hx156, hm⟩ := ob hm
         obtain ⟨r157, hr158, hq159, hi160, hb161⟩ := hW20.geti hx156
         obtain rfl : _ = ([.bool (x155)] : List Value) := hq159
         refine sy hs (y_indexAddr (Rd.st hs (.tail _ (.tail _ (.head _)))) rfl rfl hi160 hb161 Tryd.underlying45 ti4) ?_; clear hs; (try clear a w); intro a w hs
         refine sy (v := .bool (x155)) hs (y_loadE (i := x30.Parent.toNat) (j := 0) (Rd.st hs (.tail _ (.tail _ (.head _)))) rfl hr158 rfl Tryd.underlying4 rfl) ?_; clear hs; (try clear a w); intro a w hs
         refine sy (v := .bool (x155)) hs (y_move rfl) ?_; clear hs; (try clear a w); intro a w hs
         refine St.split hs (t := 56) rfl (fun hg162 hq => ?_) (fun hg162 hq => ?_)
         ·clear hs; have hs := hq; clear hq
          replace hm := oc_t hg162 hm
          refine sno hs ?_; clear hs; (try clear a w); intro a w hs
          refine sno hs ?_; clear hs; (try clear a w); intro a w hs
          refine sno hs ?_; clear hs; (try clear a w); intro a w hs
          refine sy (v := .bool (true)) hs (y_pick rfl rfl) ?_; clear hs; (try clear a w); intro a w hs
          obtain ⟨x163, hx164, hm⟩ := ob hm
          obtain ⟨r165, hr166, hq167, hi168, hb169⟩ := hW20.geti hx164
          obtain rfl : _ = ([.bool (x163)] : List Value) := hq167
          refine sy hs (y_indexAddr (Rd.st hs (.tail _ (.tail _ (.head _)))) rfl rfl hi168 hb169 Tryd.underlying45 ti4) ?_; clear hs; (try clear a w); intro a w hs
          obtain ⟨x170, hx171, hm⟩ := ob hm
          have hex170 := seti_some hx171
          have hW173 := RW.set (i := y22.toNat) (r := [.bool (true)]) (x := (true : Bool)) hW20 (rfl); rw [hex170] at hW173
          refine RL_storeRow (i := 2) (j := 0) (m := y22.toNat) hs rfl rfl rfl hr166 (by decide) ti4 rfl (.free rfl) ?_; clear hs; (try clear a w); intro a w hs
          replace hs : St _ _ _ (.blk b58 (.cells #[.int .i64 (x46.Kind), .string (x46.Name), .string (x46.Text), v53, .int .i64 (x46.Parent), .int .i64 (x46.First), .int .i64 (x46.Last), .int .i64 (x46.Prev), .int .i64 (x46.Next)] 37 (0, 0)) :: .blk b42 (.cells #[.int .i64 (x30.Kind), .string (x30.Name), .string (x30.Text), v37, .int .i64 (x30.Parent), .int .i64 (x30.First), .int .i64 (x30.Last), .int .i64 (x30.Prev), .int .i64 (x30.Next)] 37 (0, 0)) :: .row v18 4 1 (rw19.set y22.toNat [.bool (true)]) :: .blk b6 (.cells #[v1] 24 (0, 0)) :: L) _ _ _ := hs
          generalize hgrw172 : rw19.set y22.toNat [.bool (true)] = rw172 at hs hW173; clear hgrw172
          replace hs : St _ _ _ (.blk b58 (.cells #[.int .i64 (x46.Kind), .string (x46.Name), .string (x46.Text), v53, .int .i64 (x46.Parent), .int .i64 (x46.First), .int .i64 (x46.Last), .int .i64 (x46.Prev), .int .i64 (x46.Next)] 37 (0, 0)) :: .blk b42 (.cells #[.int .i64 (x30.Kind), .string (x30.Name), .string (x30.Text), v37, .int .i64 (x30.Parent), .int .i64 (x30.First), .int .i64 (x30.Last), .int .i64 (x30.Prev), .int .i64 (x30.Next)] 37 (0, 0)) :: .row v18 4 1 rw172 :: .blk b6 (.cells #[v1] 24 (0, 0)) :: L) _ _ _ := hs
          refine RL_nil ?_
          exact ⟨x170, v18, rw172, hm, hW173, hs.sub ⟨rfl, rfl, rfl, rfl, rfl, rfl, rfl, trivial⟩⟩
         ·clear hs; have hs := hq; clear hq
          replace hm := oc_f hg162 hm
          refine syg (v := .pointer (some ⟨b42, 1, none⟩)) hs (y_fieldAddr rfl (FO.of (off := 1) Tryd.underlying37 rfl rfl ti9 (by decide))) ?_; clear hs; (try clear a w); intro a w hs
          refine syg (v := .string (x30.Name)) hs (y_ld rfl Tryd.underlying9 rfl (Cell.blk (.tail _ (.head _)) rfl)) ?_; clear hs; (try clear a w); intro a w hs
          refine syg hs (y_seql rfl rfl) ?_; clear hs; (try clear a w); intro a w hs
          refine sy (v := .bool (decide (x30.Name = (bs [112])))) hs (y_pick rfl rfl) ?_; clear hs; (try clear a w); intro a w hs
          obtain ⟨x175, hx176, hm⟩ := ob hm
          obtain ⟨r177, hr178, hq179, hi180, hb181⟩ := hW20.geti hx176
          obtain rfl : _ = ([.bool (x175)] : List Value) := hq179
          refine sy hs (y_indexAddr (Rd.st hs (.tail _ (.tail _ (.head _)))) rfl rfl hi180 hb181 Tryd.underlying45 ti4) ?_; clear hs; (try clear a w); intro a w hs
          obtain ⟨x182, hx183, hm⟩ := ob hm
          have hex182 := seti_some hx183
          have hW185 := RW.set (i := y22.toNat) (r := [.bool (decide (x30.Name = (bs [112])))]) (x := ((decide (x30.Name = (bs [112]))) : Bool)) hW20 (rfl); rw [hex182] at hW185
          refine RL_storeRow (i := 2) (j := 0) (m := y22.toNat) hs rfl rfl rfl hr178 (by decide) ti4 rfl (.free rfl) ?_; clear hs; (try clear a w); intro a w hs
          replace hs : St _ _ _ (.blk b58 (.cells #[.int .i64 (x46.Kind), .string (x46.Name), .string (x46.Text), v53, .int .i64 (x46.Parent), .int .i64 (x46.First), .int .i64 (x46.Last), .int .i64 (x46.Prev), .int .i64 (x46.Next)] 37 (0, 0)) :: .blk b42 (.cells #[.int .i64 (x30.Kind), .string (x30.Name), .string (x30.Text), v37, .int .i64 (x30.Parent), .int .i64 (x30.First), .int .i64 (x30.Last), .int .i64 (x30.Prev), .int .i64 (x30.Next)] 37 (0, 0)) :: .row v18 4 1 (rw19.set y22.toNat [.bool (decide (x30.Name = (bs [112])))]) :: .blk b6 (.cells #[v1] 24 (0, 0)) :: L) _ _ _ := hs
          generalize hgrw184 : rw19.set y22.toNat [.bool (decide (x30.Name = (bs [112])))] = rw184 at hs hW185; clear hgrw184
          replace hs : St _ _ _ (.blk b58 (.cells #[.int .i64 (x46.Kind), .string (x46.Name), .string (x46.Text), v53, .int .i64 (x46.Parent), .int .i64 (x46.First), .int .i64 (x46.Last), .int .i64 (x46.Prev), .int .i64 (x46.Next)] 37 (0, 0)) :: .blk b42 (.cells #[.int .i64 (x30.Kind), .string (x30.Name), .string (x30.Text), v37, .int .i64 (x30.Parent), .int .i64 (x30.First), .int .i64 (x30.Last), .int .i64 (x30.Prev), .int .i64 (x30.Next)] 37 (0, 0)) :: .row v18 4 1 rw184 :: .blk b6 (.cells #[v1] 24 (0, 0)) :: L) _ _ _ := hs
          refine RL_nil ?_
          exact ⟨x182, v18, rw184, hm, hW185, hs.sub ⟨rfl, rfl, rfl, rfl, rfl, rfl, rfl, trivial⟩⟩
     ·replace hm := oc_f hg24 hm
      refine W_exit ?_
      refine hB9 _ _ ?_
      exact ⟨hm, hs.subs trivial (.cons _ (.cons _ (.refl _)))⟩
 ·refine W_region ?_
  refine sy hs (y_ldB rfl Tryd.underlying24 rfl ti24 (.head _) rfl) ?_; clear hs; (try clear a w); intro a w hs
  obtain ⟨x187, hx188, hm⟩ := ob hm
  refine sy hs (y_call rfl has13 rfl (dom_Right_ok n (f := f) (a0 := [v1]) ⟨_, rfl, ⟨rw2, hR3, hW4⟩⟩ hx188)) ?_; clear hs; (try clear a w); intro a w hs
  refine sy hs (y_neq rfl rfl) ?_; clear hs; (try clear a w); intro a w hs
  refine sy (v := .bool (decide (x187 ≠ 0))) hs (y_move rfl) ?_; clear hs; (try clear a w); intro a w hs
  refine St.split hs (t := 12) rfl (fun hg189 hq => ?_) (fun hg189 hq => ?_)
  ·clear hs; have hs := hq; clear hq
   replace hm := oc_t hg189 hm
   refine sno hs ?_; clear hs; (try clear a w); intro a w hs
   refine sno hs ?_; clear hs; (try clear a w); intro a w hs
   refine sno hs ?_; clear hs; (try clear a w); intro a w hs
   refine sno hs ?_; clear hs; (try clear a w); intro a w hs
   refine sno hs ?_; clear hs; (try clear a w); intro a w hs
   refine sno hs ?_; clear hs; (try clear a w); intro a w hs
   refine sy (v := .bool (true)) hs (y_pick rfl rfl) ?_; clear hs; (try clear a w); intro a w hs
   refine sy (v := .bool (true)) hs (y_move rfl) ?_; clear hs; (try clear a w); intro a w hs
   refine sno hs ?_; clear hs; (try clear a w); intro a w hs
   refine sno hs ?_; clear hs; (try clear a w); intro a w hs
   refine sno hs ?_; clear hs; (try clear a w); intro a w hs
   refine sno hs ?_; clear hs; (try clear a w); intro a w hs
   refine sno hs ?_; clear hs; (try clear a w); intro a w hs
   refine sno hs ?_; clear hs; (try clear a w); intro a w hs
   refine sno hs ?_; clear hs; (try clear a w); intro a w hs
   refine sy (v := .bool (true)) hs (y_pick rfl rfl) ?_; clear hs; (try clear a w); intro a w hs
   refine RL_nil ?_
   exact ⟨true, hm, hs.sub ⟨rfl, rfl, trivial⟩⟩
  ·clear hs; have hs := hq; clear hq
   replace hm := oc_f hg189 hm
   refine syg (v := .pointer (some ⟨b6, 0, none⟩)) hs (y_fieldAddr rfl (FO.of (off := 0) Tryd.underlying24 rfl rfl ti22 (by decide))) ?_; clear hs; (try clear a w); intro a w hs
   refine syg (v := v1) hs (y_ld rfl Tryd.underlying22 rfl (Cell.blk (.head _) rfl)) ?_; clear hs; (try clear a w); intro a w hs
   obtain ⟨x190, hx191, hm⟩ := ob hm
   obtain ⟨r192, hr193, hq194, hi195, hb196⟩ := hW4.geti hx191
   obtain ⟨v197, rfl, ⟨rw198, hR199, hW200⟩⟩ := hq194
   refine syg hs (y_indexAddr hR3 rfl rfl hi195 hb196 Tryd.underlying22 ti37) ?_; clear hs; (try clear a w); intro a w hs
   refine syg (v := eaddr v1 9 ((0 : Int).toNat) 1) hs (y_fieldAddrE (i := (0 : Int).toNat) (j := 0) hR3 rfl hb196 (FO.of (off := 1) Tryd.underlying37 rfl rfl ti9 (by decide))) ?_; clear hs; (try clear a w); intro a w hs
   refine syg (v := .string (x190.Name)) hs (y_loadE (i := (0 : Int).toNat) (j := 1) hR3.up rfl hr193 rfl Tryd.underlying9 rfl) ?_; clear hs; (try clear a w); intro a w hs
   refine syg hs (y_sneq rfl rfl) ?_; clear hs; (try clear a w); intro a w hs
   refine sy (v := .bool (decide (x190.Name ≠ (bs [114, 111, 111, 116])))) hs (y_pick rfl rfl) ?_; clear hs; (try clear a w); intro a w hs
   refine sy (v := .bool (decide (x190.Name ≠ (bs [114, 111, 111, 116])))) hs (y_move rfl) ?_; clear hs; (try clear a w); intro a w hs
   refine St.split hs (t := 20) rfl (fun hg202 hq => ?_) (fun hg202 hq => ?_)
   ·clear hs; have hs := hq; clear hq
    replace hm := oc_t hg202 hm
    refine sno hs ?_; clear hs; (try clear a w); intro a w hs
    refine sno hs ?_; clear hs; (try clear a w); intro a w hs
    refine sno hs ?_; clear hs; (try clear a w); intro a w hs
    refine sno hs ?_; clear hs; (try clear a w); intro a w hs
    refine sno hs ?_; clear hs; (try clear a w); intro a w hs
    refine sno hs ?_; clear hs; (try clear a w); intro a w hs
    refine sno hs ?_; clear hs; (try clear a w); intro a w hs
    refine sy (v := .bool (true)) hs (y_pick rfl rfl) ?_; clear hs; (try clear a w); intro a w hs
    refine RL_nil ?_
    exact ⟨true, hm, hs.sub ⟨rfl, rfl, trivial⟩⟩
   ·clear hs; have hs := hq; clear hq
    replace hm := oc_f hg202 hm
    refine syg (v := .pointer (some ⟨b6, 0, none⟩)) hs (y_fieldAddr rfl (FO.of (off := 0) Tryd.underlying24 rfl rfl ti22 (by decide))) ?_; clear hs; (try clear a w); intro a w hs
    refine syg (v := v1) hs (y_ld rfl Tryd.underlying22 rfl (Cell.blk (.head _) rfl)) ?_; clear hs; (try clear a w); intro a w hs
    obtain ⟨x203, hx204, hm⟩ := ob hm
    obtain ⟨r205, hr206, hq207, hi208, hb209⟩ := hW4.geti hx204
    obtain ⟨v210, rfl, ⟨rw211, hR212, hW213⟩⟩ := hq207
    refine syg hs (y_indexAddr hR3 rfl rfl hi208 hb209 Tryd.underlying22 ti37) ?_; clear hs; (try clear a w); intro a w hs
    refine syg (v := eaddr v1 9 ((0 : Int).toNat) 3) hs (y_fieldAddrE (i := (0 : Int).toNat) (j := 0) hR3 rfl hb209 (FO.of (off := 3) Tryd.underlying37 rfl rfl ti28 (by decide))) ?_; clear hs; (try clear a w); intro a w hs
    refine syg (v := v210) hs (y_loadE (i := (0 : Int).toNat) (j := 3) hR3.up rfl hr206 rfl Tryd.underlying28 rfl) ?_; clear hs; (try clear a w); intro a w hs
    refine syg hs (y_lenW hR212 hW213 rfl Tryd.underlying28) ?_; clear hs; (try clear a w); intro a w hs
    refine syg hs (y_gtr rfl rfl) ?_; clear hs; (try clear a w); intro a w hs
    refine sy (v := .bool (decide (0 < (x203.Attrs.length : Int)))) hs (y_pick rfl rfl) ?_; clear hs; (try clear a w); intro a w hs
    refine RL_nil ?_
    exact ⟨decide (0 < (x203.Attrs.length : Int)), hm, hs.sub ⟨rfl, rfl, trivial⟩⟩
end Go.Proofs.YtklcdfnhdljkjaaDoor
