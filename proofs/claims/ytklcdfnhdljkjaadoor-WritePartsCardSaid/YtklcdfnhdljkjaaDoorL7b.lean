/-
  Walks and laws of this seat; the base is the text Base.
-/
import Derived.Test.YtklcdfnhdljkjaaDoorG7x
import Derived.Test.YtklcdfnhdljkjaaDoorL7a
import Derived.Test.YtklcdfnhdljkjaaDoorRows
/-
  Models of functions, and that the functions compute them. Printed by lift.py.
-/
namespace Go.Proofs.YtklcdfnhdljkjaaDoor
open Go.RowKit Go.Sl
/-! casement/dom.Make$1 -/
def dom_Make_1_k3 (q0 : api_Tree) (y51 : (List api_Node)) (y56 : Int) : Option (Int × api_Tree) :=
  (geti y51 (q0.Nodes.length : Int)).bind fun x58 =>
  (seti y51 (q0.Nodes.length : Int) ({x58 with Last := y56} : api_Node)).bind fun x70 =>
  some ((q0.Nodes.length : Int), ({Nodes := x70} : api_Tree))
def dom_Make_1_k5 (q0 : api_Tree) (y83 : Int) (lp84 : (List api_Node) → Int → Int → Option (Int × api_Tree)) (x108 : (Int × api_Tree)) (y116 : (List api_Node)) : Option (Int × api_Tree) :=
  (bif (decide (4096 < (y116.length : Int))) then dom_Make_1_k3 q0 y116 x108.1 else
  lp84 y116 x108.1 (w64 (y83 + 1)))
def dom_Make_1_l4 (p0 : dom_Part) (q0 : api_Tree) (slf : dom_Part → Int → Int → api_Tree → Option (Int × api_Tree)) : Nat → (List api_Node) → Int → Int → Option (Int × api_Tree)
  | 0, _, _, _ => none
  | k84 + 1, y77, y82, y83 =>
  (bif (decide (y83 < (p0.Kids.length : Int))) then (geti p0.Kids y83).bind fun x87 =>
  (slf x87 (q0.Nodes.length : Int) y82 ({Nodes := y77} : api_Tree)).bind fun x108 =>
  (bif (decide (y82 = (-1))) then (geti x108.2.Nodes (q0.Nodes.length : Int)).bind fun x123 =>
  (seti x108.2.Nodes (q0.Nodes.length : Int) ({x123 with First := x108.1} : api_Node)).bind fun x135 =>
  dom_Make_1_k5 q0 y83 (dom_Make_1_l4 p0 q0 slf k84) x108 x135 else
  (geti x108.2.Nodes y82).bind fun x140 =>
  (seti x108.2.Nodes y82 ({x140 with Next := x108.1} : api_Node)).bind fun x152 =>
  dom_Make_1_k5 q0 y83 (dom_Make_1_l4 p0 q0 slf k84) x108 x152) else
  dom_Make_1_k3 q0 y77 y82)
def dom_Make_1_k2 (n : Nat) (p0 : dom_Part) (q0 : api_Tree) (slf : dom_Part → Int → Int → api_Tree → Option (Int × api_Tree)) (y29 : api_Node) : Option (Int × api_Tree) :=
  (appM 104 q0.Nodes [y29]).bind fun x42 =>
  (bif ((decide (4096 < (x42.length : Int))) || (decide (p0.Name = (bs [])))) then some ((q0.Nodes.length : Int), ({Nodes := x42} : api_Tree)) else
  dom_Make_1_l4 p0 q0 slf n x42 (-1) 0)
def dom_Make_1_k1 (n : Nat) (p0 : dom_Part) (p1 : Int) (p2 : Int) (q0 : api_Tree) (slf : dom_Part → Int → Int → api_Tree → Option (Int × api_Tree)) (y21 : (List api_Attr)) : Option (Int × api_Tree) :=
  (bif (decide (p0.Name = (bs []))) then dom_Make_1_k2 n p0 q0 slf ({Kind := 2, Name := p0.Name, Text := p0.Text, Attrs := ([] : List api_Attr), Parent := p1, First := (-1), Last := (-1), Prev := p2, Next := (-1)} : api_Node) else
  dom_Make_1_k2 n p0 q0 slf ({Kind := 1, Name := p0.Name, Text := (bs []), Attrs := y21, Parent := p1, First := (-1), Last := (-1), Prev := p2, Next := (-1)} : api_Node))
def dom_Make_1_b (slf : dom_Part → Int → Int → api_Tree → Option (Int × api_Tree)) (n : Nat) (p0 : dom_Part) (p1 : Int) (p2 : Int) (q0 : api_Tree) : Option (Int × api_Tree) :=
  (slices_Clone n p0.Attrs).bind fun x162 =>
  dom_Make_1_k1 n p0 p1 p2 q0 slf x162
def dom_Make_1 : Nat → dom_Part → Int → Int → api_Tree → Option (Int × api_Tree)
  | 0, _, _, _, _ => none
  | n + 1, p0, p1, p2, q0 => dom_Make_1_b (dom_Make_1 n) n p0 p1 p2 q0
set_option maxRecDepth 20000 in
set_option maxHeartbeats 4000000 in
theorem dom_Make_1_bok {slf : dom_Part → Int → Int → api_Tree → Option (Int × api_Tree)} (n : Nat) (slf_ok : ∀ {f : Fz} {p0 : dom_Part} {a0 : List Value} {p1 : Int} {p2 : Int} {cb0 : Nat} {q0 : api_Tree} {cv0_0 : Value} {cv0_0r : List (List Value)} {cb1 : Nat} {res : (Int × api_Tree)} (_ : t_dom_Part.R f a0 p0) (_ : RW t_api_Node f cv0_0r q0.Nodes) (_ : f cb1 = some (.cells #[.func (.func 11) #[] #[.pointer (some ⟨cb0, 0, none⟩), .pointer (some ⟨cb1, 0, none⟩)]] 40 (0, 0))) (_ : slf p0 p1 p2 q0 = some res), Does Tryd.prog 11 [.agg a0.toArray, .int .i64 p1, .int .i64 p2, .pointer (some ⟨cb0, 0, none⟩), .pointer (some ⟨cb1, 0, none⟩)] f [.blk cb0 (.cells #[cv0_0] 24 (0, 0)), .row cv0_0 37 9 cv0_0r] (fun r f' L' => ∃ (dv0_0 : Value) (dv0_0r : List (List Value)), L' = [.blk cb0 (.cells #[dv0_0] 24 (0, 0)), .row dv0_0 37 9 dv0_0r] ∧ r = .int .i64 res.1 ∧ RW t_api_Node f' dv0_0r res.2.Nodes)) {f : Fz} {p0 : dom_Part} {a0 : List Value} {p1 : Int} {p2 : Int} {cb0 : Nat} {q0 : api_Tree} {cv0_0 : Value} {cv0_0r : List (List Value)} {cb1 : Nat} {res : (Int × api_Tree)} (h0 : t_dom_Part.R f a0 p0) (cv0_0h : RW t_api_Node f cv0_0r q0.Nodes) (hc1 : f cb1 = some (.cells #[.func (.func 11) #[] #[.pointer (some ⟨cb0, 0, none⟩), .pointer (some ⟨cb1, 0, none⟩)]] 40 (0, 0))) (hm : dom_Make_1_b slf n p0 p1 p2 q0 = some res) : Does Tryd.prog 11 [.agg a0.toArray, .int .i64 p1, .int .i64 p2, .pointer (some ⟨cb0, 0, none⟩), .pointer (some ⟨cb1, 0, none⟩)] f [.blk cb0 (.cells #[cv0_0] 24 (0, 0)), .row cv0_0 37 9 cv0_0r] (fun r f' L' => ∃ (dv0_0 : Value) (dv0_0r : List (List Value)), L' = [.blk cb0 (.cells #[dv0_0] 24 (0, 0)), .row dv0_0 37 9 dv0_0r] ∧ r = .int .i64 res.1 ∧ RW t_api_Node f' dv0_0r res.2.Nodes) := by
 unfold dom_Make_1_b at hm
 intro w0 L w hC
 replace hC : Cw w0 f (.blk cb0 (.cells #[cv0_0] 24 (0, 0)) :: .row cv0_0 37 9 cv0_0r :: L) w := hC
 obtain ⟨v1, v6, rfl, ⟨rw2, hR3, hW4⟩, ⟨rw7, hR8, hW9⟩⟩ := R_dom_Part.ex h0
 refine enter Tryd.func11 rfl Tryd.ntmps11 (by simp) hC fun a hs => ?_
 have hle := Fz.le.refl f
 refine W_seq fun K1 hK1 => ?_
 refine W_region ?_
 refine sbox hs rfl ?_; clear hs; (try clear a w); intro b15 a w hs
 replace hs : St _ _ _ (.blk b15 (.cells #[.string (p0.Name), .string (p0.Text), v1, v6] 31 (0, 0)) :: .blk cb0 (.cells #[cv0_0] 24 (0, 0)) :: .row cv0_0 37 9 cv0_0r :: L) _ _ _ := hs
 refine sy (v := .int .i64 (0)) hs (y_assign rfl) ?_; clear hs; (try clear a w); intro a w hs
 refine RL_nil ?_
 refine hK1 _ _ ?_; clear hK1
 refine W_seq fun K2 hK2 => ?_
 refine W_region ?_
 refine sy (v := .pointer (some ⟨cb0, 0, none⟩)) hs (y_fieldAddr rfl (FO.of (off := 0) Tryd.underlying24 rfl rfl ti22 (by decide))) ?_; clear hs; (try clear a w); intro a w hs
 refine sy (v := cv0_0) hs (y_ld rfl Tryd.underlying22 rfl (Cell.blk (.tail _ (.head _)) rfl)) ?_; clear hs; (try clear a w); intro a w hs
 refine sy hs (y_lenW (Rd.st hs (.tail _ (.tail _ (.head _)))) cv0_0h rfl Tryd.underlying22) ?_; clear hs; (try clear a w); intro a w hs
 refine sy (v := .int .i64 ((q0.Nodes.length : Int))) hs (y_assign rfl) ?_; clear hs; (try clear a w); intro a w hs
 refine RL_nil ?_
 refine hK2 _ _ ?_; clear hK2
 refine W_seq fun K3 hK3 => ?_
 have hbase28 := Fz.le.refl f
 refine W_post (fun a w => ∃ (f17 : Fz) (y21 : (List api_Attr)) (b20 : Nat) (v22 : Value), Fz.le f f17 ∧ dom_Make_1_k1 n p0 p1 p2 q0 slf y21 = some res ∧ RS t_api_Attr f17 v22 y21 ∧ St 89 w0 f17 (.blk b20 (.cells #[.int .i64 (1), .string (p0.Name), .string ((bs [])), v22, .int .i64 (p1), .int .i64 ((-1)), .int .i64 ((-1)), .int .i64 (p2), .int .i64 ((-1))] 37 (0, 0)) :: .blk b15 (.cells #[.string (p0.Name), .string (p0.Text), v1, v6] 31 (0, 0)) :: .blk cb0 (.cells #[cv0_0] 24 (0, 0)) :: .row cv0_0 37 9 cv0_0r :: L) [(3, .pointer (some ⟨cb0, 0, none⟩)), (4, .pointer (some ⟨cb1, 0, none⟩)), (5, .pointer (some ⟨b15, 0, none⟩)), (9, .int .i64 ((q0.Nodes.length : Int))), (10, .pointer (some ⟨b20, 0, none⟩))] a w) ?_ ?_
 ·clear hs hm
  clear hbase28
  rintro a w ⟨f17, y21, b20, v22, hl18, hm, hs23, hs⟩
  replace hR3 := hR3.le hl18
  replace hW4 := hW4.le hl18
  replace hR8 := hR8.le hl18
  replace hW9 := hW9.le hl18
  replace cv0_0h := cv0_0h.le hl18
  replace hc1 := hl18 _ _ hc1
  replace hle := hle.trans hl18
  obtain ⟨rw24, hR25, hW26⟩ := hs23
  replace hs : St _ _ _ (.blk b20 (.cells #[.int .i64 (1), .string (p0.Name), .string ((bs [])), v22, .int .i64 (p1), .int .i64 ((-1)), .int .i64 ((-1)), .int .i64 (p2), .int .i64 ((-1))] 37 (0, 0)) :: .blk b15 (.cells #[.string (p0.Name), .string (p0.Text), v1, v6] 31 (0, 0)) :: .blk cb0 (.cells #[cv0_0] 24 (0, 0)) :: .row cv0_0 37 9 cv0_0r :: L) _ _ _ := hs
  unfold dom_Make_1_k1 at hm
  refine hK3 _ _ ?_; clear hK3
  refine W_seq fun K4 hK4 => ?_
  refine W_seq fun K5 hK5 => ?_
  refine W_region ?_
  refine sy (v := .pointer (some ⟨b15, 0, none⟩)) hs (y_fieldAddr rfl (FO.of (off := 0) Tryd.underlying31 rfl rfl ti9 (by decide))) ?_; clear hs; (try clear a w); intro a w hs
  refine sy (v := .string (p0.Name)) hs (y_ld rfl Tryd.underlying9 rfl (Cell.blk (.tail _ (.head _)) rfl)) ?_; clear hs; (try clear a w); intro a w hs
  refine sy hs (y_seql rfl rfl) ?_; clear hs; (try clear a w); intro a w hs
  refine RL_nil ?_
  refine hK5 _ _ ?_; clear hK5
  refine W_post (fun a w => ∃ (y29 : api_Node) (r30 : List Value), dom_Make_1_k2 n p0 q0 slf y29 = some res ∧ t_api_Node.R f17 r30 y29 ∧ St 89 w0 f17 (.blk b20 (.cells r30.toArray 37 (0, 0)) :: .blk b15 (.cells #[.string (p0.Name), .string (p0.Text), v1, v6] 31 (0, 0)) :: .blk cb0 (.cells #[cv0_0] 24 (0, 0)) :: .row cv0_0 37 9 cv0_0r :: L) [(3, .pointer (some ⟨cb0, 0, none⟩)), (4, .pointer (some ⟨cb1, 0, none⟩)), (5, .pointer (some ⟨b15, 0, none⟩)), (9, .int .i64 ((q0.Nodes.length : Int))), (10, .pointer (some ⟨b20, 0, none⟩))] a w) ?_ ?_
  ·clear hs hm
   rintro a w ⟨y29, r30, hm, hq31, hs⟩
   obtain ⟨v32, rfl, ⟨rw33, hR34, hW35⟩⟩ := hq31
   replace hs : St _ _ _ (.blk b20 (.cells #[.int .i64 (y29.Kind), .string (y29.Name), .string (y29.Text), v32, .int .i64 (y29.Parent), .int .i64 (y29.First), .int .i64 (y29.Last), .int .i64 (y29.Prev), .int .i64 (y29.Next)] 37 (0, 0)) :: .blk b15 (.cells #[.string (p0.Name), .string (p0.Text), v1, v6] 31 (0, 0)) :: .blk cb0 (.cells #[cv0_0] 24 (0, 0)) :: .row cv0_0 37 9 cv0_0r :: L) _ _ _ := hs
   unfold dom_Make_1_k2 at hm
   refine hK4 _ _ ?_; clear hK4
   refine W_seq fun K6 hK6 => ?_
   refine W_region ?_
   refine sy (v := .pointer (some ⟨cb0, 0, none⟩)) hs (y_fieldAddr rfl (FO.of (off := 0) Tryd.underlying24 rfl rfl ti22 (by decide))) ?_; clear hs; (try clear a w); intro a w hs
   refine sy (v := cv0_0) hs (y_ld rfl Tryd.underlying22 rfl (Cell.blk (.tail _ (.tail _ (.head _))) rfl)) ?_; clear hs; (try clear a w); intro a w hs
   refine sy hs (y_ldB rfl Tryd.underlying37 rfl ti37 (.head _) rfl) ?_; clear hs; (try clear a w); intro a w hs
   refine RL_bs1a hs rfl Tryd.underlying22 ti37 (by decide) (AllC.row ⟨rfl, rfl, rfl, hR34.one, rfl, rfl, rfl, rfl, rfl, trivial⟩ rfl) ?_; clear hs; (try clear a w); intro v37 a w hs
   have hW38 : RW t_api_Node f17 [[.int .i64 (y29.Kind), .string (y29.Name), .string (y29.Text), v32, .int .i64 (y29.Parent), .int .i64 (y29.First), .int .i64 (y29.Last), .int .i64 (y29.Prev), .int .i64 (y29.Next)]] [y29] := RW.single (⟨_, rfl, ⟨rw33, hR34, hW35⟩⟩)
   generalize hgrw39 : ([[.int .i64 (y29.Kind), .string (y29.Name), .string (y29.Text), v32, .int .i64 (y29.Parent), .int .i64 (y29.First), .int .i64 (y29.Last), .int .i64 (y29.Prev), .int .i64 (y29.Next)]] : List (List Value)) = rw39 at hs hW38; clear hgrw39
   replace hs : St _ _ _ (.row v37 37 9 rw39 :: .blk b20 (.cells #[.int .i64 (y29.Kind), .string (y29.Name), .string (y29.Text), v32, .int .i64 (y29.Parent), .int .i64 (y29.First), .int .i64 (y29.Last), .int .i64 (y29.Prev), .int .i64 (y29.Next)] 37 (0, 0)) :: .blk b15 (.cells #[.string (p0.Name), .string (p0.Text), v1, v6] 31 (0, 0)) :: .blk cb0 (.cells #[cv0_0] 24 (0, 0)) :: .row cv0_0 37 9 cv0_0r :: L) _ _ _ := hs
   obtain ⟨x42, hx43, hm⟩ := ob hm
   obtain ⟨hbx42, hex42⟩ := appM_some hx43
   have hW46 := cv0_0h.append hW38; rw [hex42] at hW46
   refine RL_append (i := 4) hs rfl rfl rfl (Rd.st hs (.head _)) Tryd.underlying22 ti37 (by decide) (by rw [RW.len cv0_0h, RW.len hW38]; exact hbx42) (.free rfl) (by decide) ?_; clear hs; (try clear a w); intro v44 a w hs
   generalize hgx42 : cv0_0r ++ rw39 = rw45 at hs hW46; clear hgx42
   replace hs := hs.erase 0
   replace hs : St _ _ _ (.blk b20 (.cells #[.int .i64 (y29.Kind), .string (y29.Name), .string (y29.Text), v32, .int .i64 (y29.Parent), .int .i64 (y29.First), .int .i64 (y29.Last), .int .i64 (y29.Prev), .int .i64 (y29.Next)] 37 (0, 0)) :: .blk b15 (.cells #[.string (p0.Name), .string (p0.Text), v1, v6] 31 (0, 0)) :: .blk cb0 (.cells #[cv0_0] 24 (0, 0)) :: .row v44 37 9 rw45 :: L) _ _ _ := hs
   refine sy (v := .pointer (some ⟨cb0, 0, none⟩)) hs (y_fieldAddr rfl (FO.of (off := 0) Tryd.underlying24 rfl rfl ti22 (by decide))) ?_; clear hs; (try clear a w); intro a w hs
   refine sstore 2 hs rfl rfl rfl ti22 ((hs.one (i := 3) rfl)) ?_; clear hs; (try clear a w); intro a w hs
   replace hs : St _ _ _ (.blk b20 (.cells #[.int .i64 (y29.Kind), .string (y29.Name), .string (y29.Text), v32, .int .i64 (y29.Parent), .int .i64 (y29.First), .int .i64 (y29.Last), .int .i64 (y29.Prev), .int .i64 (y29.Next)] 37 (0, 0)) :: .blk b15 (.cells #[.string (p0.Name), .string (p0.Text), v1, v6] 31 (0, 0)) :: .blk cb0 (.cells #[v44] 24 (0, 0)) :: .row v44 37 9 rw45 :: L) _ _ _ := hs
   refine RL_nil ?_
   refine hK6 _ _ ?_; clear hK6
   refine W_seq fun K7 hK7 => ?_
   refine W_seq fun K8 hK8 => ?_
   refine W_post (fun a w => St 89 w0 f17 (.blk b20 (.cells #[.int .i64 (y29.Kind), .string (y29.Name), .string (y29.Text), v32, .int .i64 (y29.Parent), .int .i64 (y29.First), .int .i64 (y29.Last), .int .i64 (y29.Prev), .int .i64 (y29.Next)] 37 (0, 0)) :: .blk b15 (.cells #[.string (p0.Name), .string (p0.Text), v1, v6] 31 (0, 0)) :: .blk cb0 (.cells #[v44] 24 (0, 0)) :: .row v44 37 9 rw45 :: L) [(3, .pointer (some ⟨cb0, 0, none⟩)), (4, .pointer (some ⟨cb1, 0, none⟩)), (5, .pointer (some ⟨b15, 0, none⟩)), (9, .int .i64 ((q0.Nodes.length : Int))), (48, .bool (((decide (4096 < (x42.length : Int))) || (decide (p0.Name = (bs []))))))] a w) ?_ ?_
   ·clear hs; intro a w hs
    refine hK8 _ _ ?_; clear hK8
    refine W_cond hs rfl (fun hg48 => ?_) (fun hg48 => ?_)
    ·replace hm := oc_t hg48 hm
     refine W_seq fun K9 hK9 => ?_
     refine W_region ?_
     refine sy (v := .int .i64 ((q0.Nodes.length : Int))) hs (y_move rfl) ?_; clear hs; (try clear a w); intro a w hs
     refine sy (v := .int .i64 ((q0.Nodes.length : Int))) hs (y_assign rfl) ?_; clear hs; (try clear a w); intro a w hs
     refine RL_nil ?_
     refine hK9 _ _ ?_; clear hK9
     refine W_ret ?_
     obtain rfl := Option.some.inj hm
     refine RtV1 hs rfl (rv_t hs rfl) ?_
     exact ⟨_, f17, [.blk cb0 (.cells #[v44] 24 (0, 0)), .row v44 37 9 rw45], rfl, hle, (hs.subL (.cons _ (.cons _ (.cons_cons _ (.cons_cons _ (.refl _)))))).cw, v44, rw45, rfl, rfl, hW46⟩
    ·replace hm := oc_f hg48 hm
     refine W_skip ?_
     refine hK7 _ _ ?_; clear hK7
     refine W_seq fun K10 hK10 => ?_
     refine W_region ?_
     refine sy (v := .int .i64 ((-1))) hs (y_assign rfl) ?_; clear hs; (try clear a w); intro a w hs
     refine RL_nil ?_
     refine hK10 _ _ ?_; clear hK10
     refine W_seq fun K11 hK11 => ?_
     refine W_seq fun K12 hK12 => ?_
     refine W_region ?_
     refine sy (v := .pointer (some ⟨b15, 3, none⟩)) hs (y_fieldAddr rfl (FO.of (off := 3) Tryd.underlying31 rfl rfl ti29 (by decide))) ?_; clear hs; (try clear a w); intro a w hs
     refine sy (v := v6) hs (y_ld rfl Tryd.underlying29 rfl (Cell.blk (.tail _ (.head _)) rfl)) ?_; clear hs; (try clear a w); intro a w hs
     refine sy hs (y_lenW hR8 hW9 rfl Tryd.underlying29) ?_; clear hs; (try clear a w); intro a w hs
     refine sy (v := .int .i64 (0)) hs (y_move rfl) ?_; clear hs; (try clear a w); intro a w hs
     refine RL_nil ?_
     refine hK12 _ _ ?_; clear hK12
     have hbase57 := Fz.le.refl f17
     refine W_post (fun a w => ∃ (f49 : Fz) (y51 : (List api_Node)) (y56 : Int) (v52 : Value) (rw53 : List (List Value)), Fz.le f17 f49 ∧ dom_Make_1_k3 q0 y51 y56 = some res ∧ RW t_api_Node f49 rw53 y51 ∧ St 89 w0 f49 (.blk cb0 (.cells #[v52] 24 (0, 0)) :: .row v52 37 9 rw53 :: L) [(3, .pointer (some ⟨cb0, 0, none⟩)), (9, .int .i64 ((q0.Nodes.length : Int))), (11, .int .i64 (y56))] a w) ?_ ?_
     ·clear hs hm
      clear hbase57
      rintro a w ⟨f49, y51, y56, v52, rw53, hl50, hm, hW54, hs⟩
      replace hR3 := hR3.le hl50
      replace hW4 := hW4.le hl50
      replace hR8 := hR8.le hl50
      replace hW9 := hW9.le hl50
      replace cv0_0h := cv0_0h.le hl50
      replace hc1 := hl50 _ _ hc1
      replace hR25 := hR25.le hl50
      replace hW26 := hW26.le hl50
      replace hR34 := hR34.le hl50
      replace hW35 := hW35.le hl50
      replace hW38 := hW38.le hl50
      replace hW46 := hW46.le hl50
      replace hle := hle.trans hl50
      replace hs : St _ _ _ (.blk cb0 (.cells #[v52] 24 (0, 0)) :: .row v52 37 9 rw53 :: L) _ _ _ := hs
      unfold dom_Make_1_k3 at hm
      refine hK11 _ _ ?_; clear hK11
      refine W_seq fun K13 hK13 => ?_
      refine W_region ?_
      refine sy (v := .pointer (some ⟨cb0, 0, none⟩)) hs (y_fieldAddr rfl (FO.of (off := 0) Tryd.underlying24 rfl rfl ti22 (by decide))) ?_; clear hs; (try clear a w); intro a w hs
      refine sy (v := v52) hs (y_ld rfl Tryd.underlying22 rfl (Cell.blk (.head _) rfl)) ?_; clear hs; (try clear a w); intro a w hs
      refine sy (v := .int .i64 ((q0.Nodes.length : Int))) hs (y_move rfl) ?_; clear hs; (try clear a w); intro a w hs
      refine sy (v := .int .i64 (y56)) hs (y_move rfl) ?_; clear hs; (try clear a w); intro a w hs
      obtain ⟨x58, hx59, hm⟩ := ob hm
      obtain ⟨r60, hr61, hq62, hi63, hb64⟩ := hW54.geti hx59
      obtain ⟨v65, rfl, ⟨rw66, hR67, hW68⟩⟩ := hq62
      refine sy hs (y_indexAddr (Rd.st hs (.tail _ (.head _))) rfl rfl hi63 hb64 Tryd.underlying22 ti37) ?_; clear hs; (try clear a w); intro a w hs
      refine sy (v := eaddr v52 9 ((q0.Nodes.length : Int).toNat) 6) hs (y_fieldAddrE (i := (q0.Nodes.length : Int).toNat) (j := 0) (Rd.st hs (.tail _ (.head _))) rfl hb64 (FO.of (off := 6) Tryd.underlying37 rfl rfl ti3 (by decide))) ?_; clear hs; (try clear a w); intro a w hs
      obtain ⟨x70, hx71, hm⟩ := ob hm
      have hex70 := seti_some hx71
      have hW73 := RW.set (i := (q0.Nodes.length : Int).toNat) (r := [.int .i64 (x58.Kind), .string (x58.Name), .string (x58.Text), v65, .int .i64 (x58.Parent), .int .i64 (x58.First), .int .i64 (y56), .int .i64 (x58.Prev), .int .i64 (x58.Next)]) (x := (({x58 with Last := y56} : api_Node) : api_Node)) hW54 (⟨_, rfl, ⟨rw66, hR67, hW68⟩⟩); rw [hex70] at hW73
      refine RL_storeRow (i := 1) (j := 6) (m := (q0.Nodes.length : Int).toNat) hs rfl rfl rfl hr61 (by decide) ti3 rfl (.free rfl) ?_; clear hs; (try clear a w); intro a w hs
      replace hs : St _ _ _ (.blk cb0 (.cells #[v52] 24 (0, 0)) :: .row v52 37 9 (rw53.set ((q0.Nodes.length : Int).toNat) [.int .i64 (x58.Kind), .string (x58.Name), .string (x58.Text), v65, .int .i64 (x58.Parent), .int .i64 (x58.First), .int .i64 (y56), .int .i64 (x58.Prev), .int .i64 (x58.Next)]) :: L) _ _ _ := hs
      generalize hgrw72 : rw53.set ((q0.Nodes.length : Int).toNat) [.int .i64 (x58.Kind), .string (x58.Name), .string (x58.Text), v65, .int .i64 (x58.Parent), .int .i64 (x58.First), .int .i64 (y56), .int .i64 (x58.Prev), .int .i64 (x58.Next)] = rw72 at hs hW73; clear hgrw72
      replace hs : St _ _ _ (.blk cb0 (.cells #[v52] 24 (0, 0)) :: .row v52 37 9 rw72 :: L) _ _ _ := hs
      refine RL_nil ?_
      refine hK13 _ _ ?_; clear hK13
      refine W_seq fun K14 hK14 => ?_
      refine W_region ?_
      refine sy (v := .int .i64 ((q0.Nodes.length : Int))) hs (y_move rfl) ?_; clear hs; (try clear a w); intro a w hs
      refine sy (v := .int .i64 ((q0.Nodes.length : Int))) hs (y_assign rfl) ?_; clear hs; (try clear a w); intro a w hs
      refine RL_nil ?_
      refine hK14 _ _ ?_; clear hK14
      refine W_ret ?_
      obtain rfl := Option.some.inj hm
      refine RtV1 hs rfl (rv_t hs rfl) ?_
      exact ⟨_, f49, [.blk cb0 (.cells #[v52] 24 (0, 0)), .row v52 37 9 rw72], rfl, hle, hs.cw, v52, rw72, rfl, rfl, hW73⟩
     ·refine W_block fun Qe15 hB15 hO15 => ?_
      have hbase := Fz.le.refl f17
      replace hs : St _ _ _ (.blk b20 (.cells #[.int .i64 (y29.Kind), .string (y29.Name), .string (y29.Text), v32, .int .i64 (y29.Parent), .int .i64 (y29.First), .int .i64 (y29.Last), .int .i64 (y29.Prev), .int .i64 (y29.Next)] 37 (0, 0)) :: .blk b15 (.cells #[.string (p0.Name), .string (p0.Text), v1, v6] 31 (0, 0)) :: .blk cb0 (.cells #[v44] 24 (0, 0)) :: .row v44 37 9 rw45 :: L) _ _ _ := hs
      refine W_loop (fun (k : Nat) a w => ∃ (f75 : Fz) (y77 : (List api_Node)) (y82 : Int) (y83 : Int) (v78 : Value) (rw79 : List (List Value)), Fz.le f17 f75 ∧ dom_Make_1_l4 p0 q0 slf k y77 y82 y83 = some res ∧ RW t_api_Node f75 rw79 y77 ∧ St 89 w0 f75 (.blk cb0 (.cells #[v78] 24 (0, 0)) :: .row v78 37 9 rw79 :: L) [(3, .pointer (some ⟨cb0, 0, none⟩)), (4, .pointer (some ⟨cb1, 0, none⟩)), (9, .int .i64 ((q0.Nodes.length : Int))), (11, .int .i64 (y82)), (51, v6), (52, .int .i64 ((p0.Kids.length : Int))), (53, .int .i64 (y83))] a w) (fun k => k) n ⟨_, x42, (-1), 0, v44, rw45, (Fz.le.refl _), hm, hW46, hs.subs ⟨rfl, rfl, rfl, rfl, rfl, rfl, rfl, trivial⟩ (.cons _ (.cons _ (.cons_cons _ (.cons_cons _ (.refl _)))))⟩ ?_
      clear hs hm
      intro k
      rintro a w ⟨f75, y77, y82, y83, v78, rw79, hl76, hm, hW80, hs⟩
      replace hR3 := hR3.le hl76
      replace hW4 := hW4.le hl76
      replace hR8 := hR8.le hl76
      replace hW9 := hW9.le hl76
      replace cv0_0h := cv0_0h.le hl76
      replace hc1 := hl76 _ _ hc1
      replace hR25 := hR25.le hl76
      replace hW26 := hW26.le hl76
      replace hR34 := hR34.le hl76
      replace hW35 := hW35.le hl76
      replace hW38 := hW38.le hl76
      replace hW46 := hW46.le hl76
      replace hle := hle.trans hl76
      replace hbase57 := hbase57.trans hl76
      replace hs : St _ _ _ (.blk cb0 (.cells #[v78] 24 (0, 0)) :: .row v78 37 9 rw79 :: L) _ _ _ := hs
      intro K16 hK16
      cases k with
      | zero => simp [dom_Make_1_l4] at hm
      | succ k84 =>
       rw [dom_Make_1_l4] at hm
       have hbase85 := hl76
       refine W_seq fun K17 hK17 => ?_
       refine W_region ?_
       refine sy hs (y_lss rfl rfl) ?_; clear hs; (try clear a w); intro a w hs
       refine RL_nil ?_
       refine hK17 _ _ ?_; clear hK17
       refine W_seq fun K18 hK18 => ?_
       refine W_cond hs rfl (fun hg86 => ?_) (fun hg86 => ?_)
       ·replace hm := oc_t hg86 hm
        refine W_skip ?_
        refine hK18 _ _ ?_; clear hK18
        refine W_seq fun K19 hK19 => ?_
        refine W_block fun Qe20 hB20 hO20 => ?_
        refine W_seq fun K21 hK21 => ?_
        refine W_region ?_
        obtain ⟨x87, hx88, hm⟩ := ob hm
        obtain ⟨r89, hr90, hq91, hi92, hb93⟩ := hW9.geti hx88
        obtain ⟨v94, v99, rfl, ⟨rw95, hR96, hW97⟩, ⟨rw100, hR101, hW102⟩⟩ := R_dom_Part.ex hq91
        refine sy hs (y_indexAddr hR8 rfl rfl hi92 hb93 Tryd.underlying29 ti31) ?_; clear hs; (try clear a w); intro a w hs
        refine sy hs (y_loadRow hR8.up rfl hr90 Tryd.underlying31 rfl ti31) ?_; clear hs; (try clear a w); intro a w hs
        refine RL_alloc hs ti31 (.free rfl) (by decide) ?_; clear hs; (try clear a w); intro b104 a w hs
        replace hs : St _ _ _ (.blk b104 (.cells #[.string ((bs [])), .string ((bs [])), (.slice none 0 0), (.slice none 0 0)] 31 (0, 0)) :: .blk cb0 (.cells #[v78] 24 (0, 0)) :: .row v78 37 9 rw79 :: L) _ _ _ := hs
        refine RL_storeAll (i := 0) hs rfl rfl rfl ti31 ⟨rfl, rfl⟩ (AllC.arr (r := [.string (x87.Name), .string (x87.Text), v94, v99]) ⟨rfl, rfl, hR96.one, hR101.one, trivial⟩) (.free rfl) ?_; clear hs; (try clear a w); intro a w hs
        replace hs : St _ _ _ (.blk b104 (.cells #[.string (x87.Name), .string (x87.Text), v94, v99] 31 (0, 0)) :: .blk cb0 (.cells #[v78] 24 (0, 0)) :: .row v78 37 9 rw79 :: L) _ _ _ := hs
        refine RL_nil ?_
        refine hK21 _ _ ?_; clear hK21
        refine W_seq fun K22 hK22 => ?_
        refine W_region ?_
        refine sy (v := .func (.func 11) #[] #[.pointer (some ⟨cb0, 0, none⟩), .pointer (some ⟨cb1, 0, none⟩)]) hs (y_ld rfl Tryd.underlying40 rfl (Cell.fz hc1 rfl)) ?_; clear hs; (try clear a w); intro a w hs
        refine sy hs (y_ldB rfl Tryd.underlying31 rfl ti31 (.head _) rfl) ?_; clear hs; (try clear a w); intro a w hs
        refine sy (v := .int .i64 ((q0.Nodes.length : Int))) hs (y_move rfl) ?_; clear hs; (try clear a w); intro a w hs
        refine sy (v := .int .i64 (y82)) hs (y_move rfl) ?_; clear hs; (try clear a w); intro a w hs
        obtain ⟨x108, hx109, hm⟩ := ob hm
        replace hs := hs.front 2
        replace hs := hs.front 2
        replace hs : St _ _ _ (.blk cb0 (.cells #[v78] 24 (0, 0)) :: .row v78 37 9 rw79 :: .blk b104 (.cells #[.string (x87.Name), .string (x87.Text), v94, v99] 31 (0, 0)) :: L) _ _ _ := hs
        refine RL_call (Lr := [.blk cb0 (.cells #[v78] 24 (0, 0)), .row v78 37 9 rw79]) (Lf := .blk b104 (.cells #[.string (x87.Name), .string (x87.Text), v94, v99] 31 (0, 0)) :: L) hs rfl has11 rfl rfl (slf_ok (f := f75) (a0 := [.string (x87.Name), .string (x87.Text), v94, v99]) (cb0 := cb0) (cb1 := cb1) (R_dom_Part.of (x := x87) ⟨rw95, hR96, hW97⟩ ⟨rw100, hR101, hW102⟩) hW80 hc1 hx109) (.free rfl) (by decide) ?_; clear hs; (try clear a w)
        rintro _ f110 _ a w hf111 ⟨v112, rw113, rfl, rfl, hW114⟩ hs
        replace hR3 := hR3.le hf111
        replace hW4 := hW4.le hf111
        replace hR8 := hR8.le hf111
        replace hW9 := hW9.le hf111
        replace cv0_0h := cv0_0h.le hf111
        replace hc1 := hf111 _ _ hc1
        replace hR25 := hR25.le hf111
        replace hW26 := hW26.le hf111
        replace hR34 := hR34.le hf111
        replace hW35 := hW35.le hf111
        replace hW38 := hW38.le hf111
        replace hW46 := hW46.le hf111
        replace hW80 := hW80.le hf111
        replace hR96 := hR96.le hf111
        replace hW97 := hW97.le hf111
        replace hR101 := hR101.le hf111
        replace hW102 := hW102.le hf111
        replace hle := hle.trans hf111
        replace hbase57 := hbase57.trans hf111
        replace hbase85 := hbase85.trans hf111
        replace hs : St _ _ _ (.blk cb0 (.cells #[v112] 24 (0, 0)) :: .row v112 37 9 rw113 :: .blk b104 (.cells #[.string (x87.Name), .string (x87.Text), v94, v99] 31 (0, 0)) :: L) _ _ _ := hs
        refine sy (v := .int .i64 (x108.1)) hs (y_assign rfl) ?_; clear hs; (try clear a w); intro a w hs
        refine RL_nil ?_
        refine hK22 _ _ ?_; clear hK22
        refine W_seq fun K23 hK23 => ?_
        refine W_seq fun K24 hK24 => ?_
        refine W_region ?_
        refine sy (v := .int .i64 (y82)) hs (y_move rfl) ?_; clear hs; (try clear a w); intro a w hs
        refine sy hs (y_eql rfl rfl) ?_; clear hs; (try clear a w); intro a w hs
        refine RL_nil ?_
        refine hK24 _ _ ?_; clear hK24
        refine W_post (fun a w => ∃ (y116 : (List api_Node)) (v117 : Value) (rw118 : List (List Value)), dom_Make_1_k5 q0 y83 (dom_Make_1_l4 p0 q0 slf k84) x108 y116 = some res ∧ RW t_api_Node f110 rw118 y116 ∧ St 89 w0 f110 (.blk cb0 (.cells #[v117] 24 (0, 0)) :: .row v117 37 9 rw118 :: L) [(3, .pointer (some ⟨cb0, 0, none⟩)), (4, .pointer (some ⟨cb1, 0, none⟩)), (9, .int .i64 ((q0.Nodes.length : Int))), (14, .int .i64 (x108.1)), (51, v6), (52, .int .i64 ((p0.Kids.length : Int))), (53, .int .i64 (y83))] a w) ?_ ?_
        ·clear hs hm
         rintro a w ⟨y116, v117, rw118, hm, hW119, hs⟩
         replace hs : St _ _ _ (.blk cb0 (.cells #[v117] 24 (0, 0)) :: .row v117 37 9 rw118 :: L) _ _ _ := hs
         unfold dom_Make_1_k5 at hm
         refine hK23 _ _ ?_; clear hK23
         refine W_seq fun K25 hK25 => ?_
         refine W_region ?_
         refine sy (v := .int .i64 (x108.1)) hs (y_move rfl) ?_; clear hs; (try clear a w); intro a w hs
         refine sy (v := .int .i64 (x108.1)) hs (y_assign rfl) ?_; clear hs; (try clear a w); intro a w hs
         refine RL_nil ?_
         refine hK25 _ _ ?_; clear hK25
         refine W_seq fun K26 hK26 => ?_
         refine W_region ?_
         refine sy (v := .pointer (some ⟨cb0, 0, none⟩)) hs (y_fieldAddr rfl (FO.of (off := 0) Tryd.underlying24 rfl rfl ti22 (by decide))) ?_; clear hs; (try clear a w); intro a w hs
         refine sy (v := v117) hs (y_ld rfl Tryd.underlying22 rfl (Cell.blk (.head _) rfl)) ?_; clear hs; (try clear a w); intro a w hs
         refine sy hs (y_lenW (Rd.st hs (.tail _ (.head _))) hW119 rfl Tryd.underlying22) ?_; clear hs; (try clear a w); intro a w hs
         refine sy hs (y_gtr rfl rfl) ?_; clear hs; (try clear a w); intro a w hs
         refine RL_nil ?_
         refine hK26 _ _ ?_; clear hK26
         refine W_cond hs rfl (fun hg121 => ?_) (fun hg121 => ?_)
         ·replace hm := oc_t hg121 hm
          refine W_exit ?_
          refine hO20 _ rfl _ _ ?_
          refine hB15 _ _ ?_
          replace hs : St _ _ _ (.blk cb0 (.cells #[v117] 24 (0, 0)) :: .row v117 37 9 rw118 :: L) _ _ _ := hs
          exact ⟨_, y116, x108.1, v117, rw118, hbase57, hm, hW119, hs.sub ⟨rfl, rfl, rfl, trivial⟩⟩
         ·replace hm := oc_f hg121 hm
          refine W_skip ?_
          refine hK19 _ _ ?_; clear hK19
          refine W_region ?_
          refine sy hs (y_add rfl rfl rfl) ?_; clear hs; (try clear a w); intro a w hs
          refine sy (v := .int .i64 ((w64 (y83 + 1)))) hs (y_move rfl) ?_; clear hs; (try clear a w); intro a w hs
          refine RL_nil ?_
          replace hs : St _ _ _ (.blk cb0 (.cells #[v117] 24 (0, 0)) :: .row v117 37 9 rw118 :: L) _ _ _ := hs
          exact hK16 k84 _ _ (Nat.lt_succ_self _) ⟨_, y116, x108.1, (w64 (y83 + 1)), v117, rw118, hbase85, hm, hW119, hs.sub ⟨rfl, rfl, rfl, rfl, rfl, rfl, rfl, trivial⟩⟩
        ·refine W_cond hs rfl (fun hg122 => ?_) (fun hg122 => ?_)
         ·replace hm := oc_t hg122 hm
          refine W_region ?_
          refine sy (v := .pointer (some ⟨cb0, 0, none⟩)) hs (y_fieldAddr rfl (FO.of (off := 0) Tryd.underlying24 rfl rfl ti22 (by decide))) ?_; clear hs; (try clear a w); intro a w hs
          refine sy (v := v112) hs (y_ld rfl Tryd.underlying22 rfl (Cell.blk (.head _) rfl)) ?_; clear hs; (try clear a w); intro a w hs
          refine sy (v := .int .i64 ((q0.Nodes.length : Int))) hs (y_move rfl) ?_; clear hs; (try clear a w); intro a w hs
          refine sy (v := .int .i64 (x108.1)) hs (y_move rfl) ?_; clear hs; (try clear a w); intro a w hs
          obtain ⟨x123, hx124, hm⟩ := ob hm
          obtain ⟨r125, hr126, hq127, hi128, hb129⟩ := hW114.geti hx124
          obtain ⟨v130, rfl, ⟨rw131, hR132, hW133⟩⟩ := hq127
          refine sy hs (y_indexAddr (Rd.st hs (.tail _ (.head _))) rfl rfl hi128 hb129 Tryd.underlying22 ti37) ?_; clear hs; (try clear a w); intro a w hs
          refine sy (v := eaddr v112 9 ((q0.Nodes.length : Int).toNat) 5) hs (y_fieldAddrE (i := (q0.Nodes.length : Int).toNat) (j := 0) (Rd.st hs (.tail _ (.head _))) rfl hb129 (FO.of (off := 5) Tryd.underlying37 rfl rfl ti3 (by decide))) ?_; clear hs; (try clear a w); intro a w hs
          obtain ⟨x135, hx136, hm⟩ := ob hm
          have hex135 := seti_some hx136
          have hW138 := RW.set (i := (q0.Nodes.length : Int).toNat) (r := [.int .i64 (x123.Kind), .string (x123.Name), .string (x123.Text), v130, .int .i64 (x123.Parent), .int .i64 (x108.1), .int .i64 (x123.Last), .int .i64 (x123.Prev), .int .i64 (x123.Next)]) (x := (({x123 with First := x108.1} : api_Node) : api_Node)) hW114 (⟨_, rfl, ⟨rw131, hR132, hW133⟩⟩); rw [hex135] at hW138
          refine RL_storeRow (i := 1) (j := 5) (m := (q0.Nodes.length : Int).toNat) hs rfl rfl rfl hr126 (by decide) ti3 rfl (.free rfl) ?_; clear hs; (try clear a w); intro a w hs
          replace hs : St _ _ _ (.blk cb0 (.cells #[v112] 24 (0, 0)) :: .row v112 37 9 (rw113.set ((q0.Nodes.length : Int).toNat) [.int .i64 (x123.Kind), .string (x123.Name), .string (x123.Text), v130, .int .i64 (x123.Parent), .int .i64 (x108.1), .int .i64 (x123.Last), .int .i64 (x123.Prev), .int .i64 (x123.Next)]) :: .blk b104 (.cells #[.string (x87.Name), .string (x87.Text), v94, v99] 31 (0, 0)) :: L) _ _ _ := hs
          generalize hgrw137 : rw113.set ((q0.Nodes.length : Int).toNat) [.int .i64 (x123.Kind), .string (x123.Name), .string (x123.Text), v130, .int .i64 (x123.Parent), .int .i64 (x108.1), .int .i64 (x123.Last), .int .i64 (x123.Prev), .int .i64 (x123.Next)] = rw137 at hs hW138; clear hgrw137
          replace hs : St _ _ _ (.blk cb0 (.cells #[v112] 24 (0, 0)) :: .row v112 37 9 rw137 :: .blk b104 (.cells #[.string (x87.Name), .string (x87.Text), v94, v99] 31 (0, 0)) :: L) _ _ _ := hs
          refine RL_nil ?_
          replace hs : St _ _ _ (.blk cb0 (.cells #[v112] 24 (0, 0)) :: .row v112 37 9 rw137 :: .blk b104 (.cells #[.string (x87.Name), .string (x87.Text), v94, v99] 31 (0, 0)) :: L) _ _ _ := hs
          exact ⟨x135, v112, rw137, hm, hW138, hs.subs ⟨rfl, rfl, rfl, rfl, rfl, rfl, rfl, trivial⟩ (.cons_cons _ (.cons_cons _ (.cons _ (.refl _))))⟩
         ·replace hm := oc_f hg122 hm
          refine W_region ?_
          refine sy (v := .pointer (some ⟨cb0, 0, none⟩)) hs (y_fieldAddr rfl (FO.of (off := 0) Tryd.underlying24 rfl rfl ti22 (by decide))) ?_; clear hs; (try clear a w); intro a w hs
          refine sy (v := v112) hs (y_ld rfl Tryd.underlying22 rfl (Cell.blk (.head _) rfl)) ?_; clear hs; (try clear a w); intro a w hs
          refine sy (v := .int .i64 (y82)) hs (y_move rfl) ?_; clear hs; (try clear a w); intro a w hs
          refine sy (v := .int .i64 (x108.1)) hs (y_move rfl) ?_; clear hs; (try clear a w); intro a w hs
          obtain ⟨x140, hx141, hm⟩ := ob hm
          obtain ⟨r142, hr143, hq144, hi145, hb146⟩ := hW114.geti hx141
          obtain ⟨v147, rfl, ⟨rw148, hR149, hW150⟩⟩ := hq144
          refine sy hs (y_indexAddr (Rd.st hs (.tail _ (.head _))) rfl rfl hi145 hb146 Tryd.underlying22 ti37) ?_; clear hs; (try clear a w); intro a w hs
          refine sy (v := eaddr v112 9 y82.toNat 8) hs (y_fieldAddrE (i := y82.toNat) (j := 0) (Rd.st hs (.tail _ (.head _))) rfl hb146 (FO.of (off := 8) Tryd.underlying37 rfl rfl ti3 (by decide))) ?_; clear hs; (try clear a w); intro a w hs
          obtain ⟨x152, hx153, hm⟩ := ob hm
          have hex152 := seti_some hx153
          have hW155 := RW.set (i := y82.toNat) (r := [.int .i64 (x140.Kind), .string (x140.Name), .string (x140.Text), v147, .int .i64 (x140.Parent), .int .i64 (x140.First), .int .i64 (x140.Last), .int .i64 (x140.Prev), .int .i64 (x108.1)]) (x := (({x140 with Next := x108.1} : api_Node) : api_Node)) hW114 (⟨_, rfl, ⟨rw148, hR149, hW150⟩⟩); rw [hex152] at hW155
          refine RL_storeRow (i := 1) (j := 8) (m := y82.toNat) hs rfl rfl rfl hr143 (by decide) ti3 rfl (.free rfl) ?_; clear hs; (try clear a w); intro a w hs
          replace hs : St _ _ _ (.blk cb0 (.cells #[v112] 24 (0, 0)) :: .row v112 37 9 (rw113.set y82.toNat [.int .i64 (x140.Kind), .string (x140.Name), .string (x140.Text), v147, .int .i64 (x140.Parent), .int .i64 (x140.First), .int .i64 (x140.Last), .int .i64 (x140.Prev), .int .i64 (x108.1)]) :: .blk b104 (.cells #[.string (x87.Name), .string (x87.Text), v94, v99] 31 (0, 0)) :: L) _ _ _ := hs
          generalize hgrw154 : rw113.set y82.toNat [.int .i64 (x140.Kind), .string (x140.Name), .string (x140.Text), v147, .int .i64 (x140.Parent), .int .i64 (x140.First), .int .i64 (x140.Last), .int .i64 (x140.Prev), .int .i64 (x108.1)] = rw154 at hs hW155; clear hgrw154
          replace hs : St _ _ _ (.blk cb0 (.cells #[v112] 24 (0, 0)) :: .row v112 37 9 rw154 :: .blk b104 (.cells #[.string (x87.Name), .string (x87.Text), v94, v99] 31 (0, 0)) :: L) _ _ _ := hs
          refine RL_nil ?_
          replace hs : St _ _ _ (.blk cb0 (.cells #[v112] 24 (0, 0)) :: .row v112 37 9 rw154 :: .blk b104 (.cells #[.string (x87.Name), .string (x87.Text), v94, v99] 31 (0, 0)) :: L) _ _ _ := hs
          exact ⟨x152, v112, rw154, hm, hW155, hs.subs ⟨rfl, rfl, rfl, rfl, rfl, rfl, rfl, trivial⟩ (.cons_cons _ (.cons_cons _ (.cons _ (.refl _))))⟩
       ·replace hm := oc_f hg86 hm
        refine W_exit ?_
        refine hB15 _ _ ?_
        replace hs : St _ _ _ (.blk cb0 (.cells #[v78] 24 (0, 0)) :: .row v78 37 9 rw79 :: L) _ _ _ := hs
        exact ⟨_, y77, y82, v78, rw79, hbase57, hm, hW80, hs.sub ⟨rfl, rfl, rfl, trivial⟩⟩
   ·refine W_region ?_
    refine sy (v := .pointer (some ⟨cb0, 0, none⟩)) hs (y_fieldAddr rfl (FO.of (off := 0) Tryd.underlying24 rfl rfl ti22 (by decide))) ?_; clear hs; (try clear a w); intro a w hs
    refine sy (v := v44) hs (y_ld rfl Tryd.underlying22 rfl (Cell.blk (.tail _ (.tail _ (.head _))) rfl)) ?_; clear hs; (try clear a w); intro a w hs
    refine sy hs (y_lenW (Rd.st hs (.tail _ (.tail _ (.tail _ (.head _))))) hW46 rfl Tryd.underlying22) ?_; clear hs; (try clear a w); intro a w hs
    refine sy hs (y_gtr rfl rfl) ?_; clear hs; (try clear a w); intro a w hs
    refine sy (v := .bool (decide (4096 < (x42.length : Int)))) hs (y_move rfl) ?_; clear hs; (try clear a w); intro a w hs
    refine St.split hs (t := 44) rfl (fun hg157 hq => ?_) (fun hg157 hq => ?_)
    ·clear hs; have hs := hq; clear hq
     refine sno hs ?_; clear hs; (try clear a w); intro a w hs
     refine sno hs ?_; clear hs; (try clear a w); intro a w hs
     refine sno hs ?_; clear hs; (try clear a w); intro a w hs
     refine sy (v := .bool (true)) hs (y_pick rfl rfl) ?_; clear hs; (try clear a w); intro a w hs
     refine RL_nil ?_
     exact hs.sub ⟨rfl, rfl, rfl, rfl, (lkB (((or_t hg157).trans rfl)) rfl), trivial⟩
    ·clear hs; have hs := hq; clear hq
     refine syg (v := .pointer (some ⟨b15, 0, none⟩)) hs (y_fieldAddr rfl (FO.of (off := 0) Tryd.underlying31 rfl rfl ti9 (by decide))) ?_; clear hs; (try clear a w); intro a w hs
     refine syg (v := .string (p0.Name)) hs (y_ld rfl Tryd.underlying9 rfl (Cell.blk (.tail _ (.head _)) rfl)) ?_; clear hs; (try clear a w); intro a w hs
     refine syg hs (y_seql rfl rfl) ?_; clear hs; (try clear a w); intro a w hs
     refine sy (v := .bool (decide (p0.Name = (bs [])))) hs (y_pick rfl rfl) ?_; clear hs; (try clear a w); intro a w hs
     refine RL_nil ?_
     exact hs.sub ⟨rfl, rfl, rfl, rfl, (lkB (((or_f hg157).trans rfl)) rfl), trivial⟩
  ·refine W_cond hs rfl (fun hg158 => ?_) (fun hg158 => ?_)
   ·replace hm := oc_t hg158 hm
    have hsD := hs.subL (L' := .blk b15 (.cells #[.string (p0.Name), .string (p0.Text), v1, v6] 31 (0, 0)) :: []) (.cons _ (.cons_cons _ (.cons _ (.cons _ (List.nil_sublist _)))))
    have hbd159 := Fz.le.refl f17
    refine T_start hs (.blk b15 (.cells #[.string (p0.Name), .string (p0.Text), v1, v6] 31 (0, 0)) :: []) [7] (.look 0 (.look 1 (.look 2 (.any [3] (fun _ => .look 4 (.any [5] (fun _ => .look 6 (.any [7] (fun _ => .done))))))))) mixed (by kernel_rfl) ?_; clear hs; (try clear a w); intro a he
    refine uy (v := .pointer (some ⟨b15, 1, none⟩)) 0 he rfl (y_fieldAddr rfl (FO.of (off := 1) Tryd.underlying31 rfl rfl ti9 (by decide))) ?_; clear he; (try clear a); intro a he
    refine uy (v := .string (p0.Text)) 1 he rfl (y_ld rfl Tryd.underlying9 rfl (Cell.blk (.head _) rfl)) ?_; clear he; (try clear a); intro a he
    refine uy (v := .pointer (some ⟨b20, 0, none⟩)) 2 he rfl (y_fieldAddr rfl (FO.of (off := 0) Tryd.underlying37 rfl rfl ti3 (by decide))) ?_; clear he; (try clear a); intro a he
    refine T_any1 he rfl ?_; clear he; (try clear a); intro a w hs
    refine sstore 0 hs rfl rfl rfl ti3 rfl ?_; clear hs; (try clear a w); intro a w hs
    replace hs : St _ _ _ (.blk b20 (.cells #[.int .i64 (2), .string (p0.Name), .string ((bs [])), v22, .int .i64 (p1), .int .i64 ((-1)), .int .i64 ((-1)), .int .i64 (p2), .int .i64 ((-1))] 37 (0, 0)) :: .blk b15 (.cells #[.string (p0.Name), .string (p0.Text), v1, v6] 31 (0, 0)) :: .blk cb0 (.cells #[cv0_0] 24 (0, 0)) :: .row cv0_0 37 9 cv0_0r :: L) _ _ _ := hs
    refine uon hs ?_; clear hs; (try clear a w); intro a he
    refine uy (v := .pointer (some ⟨b20, 2, none⟩)) 4 he rfl (y_fieldAddr rfl (FO.of (off := 2) Tryd.underlying37 rfl rfl ti9 (by decide))) ?_; clear he; (try clear a); intro a he
    refine T_any1 he rfl ?_; clear he; (try clear a); intro a w hs
    refine sstore 0 hs rfl rfl rfl ti9 rfl ?_; clear hs; (try clear a w); intro a w hs
    replace hs : St _ _ _ (.blk b20 (.cells #[.int .i64 (2), .string (p0.Name), .string (p0.Text), v22, .int .i64 (p1), .int .i64 ((-1)), .int .i64 ((-1)), .int .i64 (p2), .int .i64 ((-1))] 37 (0, 0)) :: .blk b15 (.cells #[.string (p0.Name), .string (p0.Text), v1, v6] 31 (0, 0)) :: .blk cb0 (.cells #[cv0_0] 24 (0, 0)) :: .row cv0_0 37 9 cv0_0r :: L) _ _ _ := hs
    refine uon hs ?_; clear hs; (try clear a w); intro a he
    refine uy (v := .pointer (some ⟨b20, 3, none⟩)) 6 he rfl (y_fieldAddr rfl (FO.of (off := 3) Tryd.underlying37 rfl rfl ti28 (by decide))) ?_; clear he; (try clear a); intro a he
    refine T_any1 he rfl ?_; clear he; (try clear a); intro a w hs
    refine sstore 0 hs rfl rfl rfl ti28 rfl ?_; clear hs; (try clear a w); intro a w hs
    replace hs : St _ _ _ (.blk b20 (.cells #[.int .i64 (2), .string (p0.Name), .string (p0.Text), (.slice none 0 0), .int .i64 (p1), .int .i64 ((-1)), .int .i64 ((-1)), .int .i64 (p2), .int .i64 ((-1))] 37 (0, 0)) :: .blk b15 (.cells #[.string (p0.Name), .string (p0.Text), v1, v6] 31 (0, 0)) :: .blk cb0 (.cells #[cv0_0] 24 (0, 0)) :: .row cv0_0 37 9 cv0_0r :: L) _ _ _ := hs
    refine uend hs ?_; clear hs; (try clear a w); intro a he
    refine T_nil he ?_; clear he; (try clear a); intro w hs; try clear hsD
    replace hs : St _ _ _ (.blk b20 (.cells #[.int .i64 (2), .string (p0.Name), .string (p0.Text), (.slice none 0 0), .int .i64 (p1), .int .i64 ((-1)), .int .i64 ((-1)), .int .i64 (p2), .int .i64 ((-1))] 37 (0, 0)) :: .blk b15 (.cells #[.string (p0.Name), .string (p0.Text), v1, v6] 31 (0, 0)) :: .blk cb0 (.cells #[cv0_0] 24 (0, 0)) :: .row cv0_0 37 9 cv0_0r :: L) _ _ _ := hs
    exact ⟨({Kind := 2, Name := p0.Name, Text := p0.Text, Attrs := ([] : List api_Attr), Parent := p1, First := (-1), Last := (-1), Prev := p2, Next := (-1)} : api_Node), [.int .i64 (2), .string (p0.Name), .string (p0.Text), (.slice none 0 0), .int .i64 (p1), .int .i64 ((-1)), .int .i64 ((-1)), .int .i64 (p2), .int .i64 ((-1))], hm, ⟨_, rfl, RS.nil⟩, hs.sub ⟨rfl, rfl, rfl, rfl, rfl, trivial⟩⟩
   ·replace hm := oc_f hg158 hm
    refine W_skip ?_
    replace hs : St _ _ _ (.blk b20 (.cells #[.int .i64 (1), .string (p0.Name), .string ((bs [])), v22, .int .i64 (p1), .int .i64 ((-1)), .int .i64 ((-1)), .int .i64 (p2), .int .i64 ((-1))] 37 (0, 0)) :: .blk b15 (.cells #[.string (p0.Name), .string (p0.Text), v1, v6] 31 (0, 0)) :: .blk cb0 (.cells #[cv0_0] 24 (0, 0)) :: .row cv0_0 37 9 cv0_0r :: L) _ _ _ := hs
    exact ⟨({Kind := 1, Name := p0.Name, Text := (bs []), Attrs := y21, Parent := p1, First := (-1), Last := (-1), Prev := p2, Next := (-1)} : api_Node), [.int .i64 (1), .string (p0.Name), .string ((bs [])), v22, .int .i64 (p1), .int .i64 ((-1)), .int .i64 ((-1)), .int .i64 (p2), .int .i64 ((-1))], hm, ⟨_, rfl, ⟨rw24, hR25, hW26⟩⟩, hs.sub ⟨rfl, rfl, rfl, rfl, rfl, trivial⟩⟩
 ·have hsD := hs.subL (L' := .blk b15 (.cells #[.string (p0.Name), .string (p0.Text), v1, v6] 31 (0, 0)) :: []) (.cons_cons _ (.cons _ (.cons _ (List.nil_sublist _))))
  have hbd161 := Fz.le.refl f
  refine T_start hs (.blk b15 (.cells #[.string (p0.Name), .string (p0.Text), v1, v6] 31 (0, 0)) :: []) [9] (.look 0 (.look 1 (.look 2 (.look 3 (.look 5 (.look 6 (.any [4, 8] (fun i => bif Nat.beq i 4 then .look 7 (.any [8] (fun _ => .any [9] (fun _ => .done))) else .any [4] (fun _ => .look 7 (.any [9] (fun _ => .done))))))))))) mixed (by kernel_rfl) ?_; clear hs; (try clear a w); intro a he
  refine uy (v := .pointer (some ⟨b15, 0, none⟩)) 0 he rfl (y_fieldAddr rfl (FO.of (off := 0) Tryd.underlying31 rfl rfl ti9 (by decide))) ?_; clear he; (try clear a); intro a he
  refine uy (v := .string (p0.Name)) 1 he rfl (y_ld rfl Tryd.underlying9 rfl (Cell.blk (.head _) rfl)) ?_; clear he; (try clear a); intro a he
  refine uy (v := .pointer (some ⟨b15, 2, none⟩)) 2 he rfl (y_fieldAddr rfl (FO.of (off := 2) Tryd.underlying31 rfl rfl ti28 (by decide))) ?_; clear he; (try clear a); intro a he
  refine uy (v := v1) 3 he rfl (y_ld rfl Tryd.underlying28 rfl (Cell.blk (.head _) rfl)) ?_; clear he; (try clear a); intro a he
  refine uy (v := .int .i64 (p1)) 5 he rfl (y_move rfl) ?_; clear he; (try clear a); intro a he
  refine uy (v := .int .i64 (p2)) 6 he rfl (y_move rfl) ?_; clear he; (try clear a); intro a he
  refine T_any2 he rfl rfl ?_ ?_ <;> (clear he; (try clear a); intro a w hs)
  ·obtain ⟨x162, hx163, hm⟩ := ob hm
   refine RL_callV hs rfl has12 rfl (slices_Clone_ok n (f := f) (a0 := v1) ⟨rw2, hR3, hW4⟩ hx163) ?_; clear hs; (try clear a w)
   rintro v166 f164 _ a w hf165 ⟨_, rfl, rfl, ⟨rw167, hR168, hW169⟩⟩ hs
   have hR170 := hR3.le hf165
   have hW171 := hW4.le hf165
   have hR172 := hR8.le hf165
   have hW173 := hW9.le hf165
   have cv174 := cv0_0h.le hf165
   have hc175 := hf165 _ _ hc1
   replace hle := hle.trans hf165
   replace hbase28 := hbase28.trans hf165
   replace hbd161 := hbd161.trans hf165
   replace hs : St _ _ _ (.blk b15 (.cells #[.string (p0.Name), .string (p0.Text), v1, v6] 31 (0, 0)) :: .blk cb0 (.cells #[cv0_0] 24 (0, 0)) :: .row cv0_0 37 9 cv0_0r :: L) _ _ _ := hs
   refine uon hs ?_; clear hs; (try clear a w); intro a he
   refine uy 7 he rfl (y_buildS (places := [(0, 1), (1, 1), (2, 1), (3, 1), (4, 1), (5, 1), (6, 1), (7, 1), (8, 1)]) (cs := [.int .i64 (1), .string (p0.Name), .string ((bs [])), v166, .int .i64 (p1), .int .i64 ((-1)), .int .i64 ((-1)), .int .i64 (p2), .int .i64 ((-1))]) rfl Tryd.underlying37 ti37 (by kernel_rfl) (by decide) rfl ⟨rfl, rfl, hR168.one, rfl, rfl, rfl, rfl, rfl, trivial⟩) ?_; clear he; (try clear a); intro a he
   refine T_any1 he rfl ?_; clear he; (try clear a); intro a w hs
   refine RL_alloc hs ti37 (.free rfl) (by decide) ?_; clear hs; (try clear a w); intro b178 a w hs
   replace hs : St _ _ _ (.blk b178 (.cells #[.int .i64 (0), .string ((bs [])), .string ((bs [])), (.slice none 0 0), .int .i64 (0), .int .i64 (0), .int .i64 (0), .int .i64 (0), .int .i64 (0)] 37 (0, 0)) :: .blk b15 (.cells #[.string (p0.Name), .string (p0.Text), v1, v6] 31 (0, 0)) :: .blk cb0 (.cells #[cv0_0] 24 (0, 0)) :: .row cv0_0 37 9 cv0_0r :: L) _ _ _ := hs
   refine uon hs ?_; clear hs; (try clear a w); intro a he
   refine T_any1 he rfl ?_; clear he; (try clear a); intro a w hs
   refine RL_storeAll (i := 0) hs rfl rfl rfl ti37 ⟨rfl, rfl⟩ (AllC.arr (r := [.int .i64 (1), .string (p0.Name), .string ((bs [])), v166, .int .i64 (p1), .int .i64 ((-1)), .int .i64 ((-1)), .int .i64 (p2), .int .i64 ((-1))]) ⟨rfl, rfl, rfl, hR168.one, rfl, rfl, rfl, rfl, rfl, trivial⟩) (.free rfl) ?_; clear hs; (try clear a w); intro a w hs
   replace hs : St _ _ _ (.blk b178 (.cells #[.int .i64 (1), .string (p0.Name), .string ((bs [])), v166, .int .i64 (p1), .int .i64 ((-1)), .int .i64 ((-1)), .int .i64 (p2), .int .i64 ((-1))] 37 (0, 0)) :: .blk b15 (.cells #[.string (p0.Name), .string (p0.Text), v1, v6] 31 (0, 0)) :: .blk cb0 (.cells #[cv0_0] 24 (0, 0)) :: .row cv0_0 37 9 cv0_0r :: L) _ _ _ := hs
   refine uend hs ?_; clear hs; (try clear a w); intro a he
   refine T_nil he ?_; clear he; (try clear a); intro w hs; try clear hsD
   replace hs : St _ _ _ (.blk b178 (.cells #[.int .i64 (1), .string (p0.Name), .string ((bs [])), v166, .int .i64 (p1), .int .i64 ((-1)), .int .i64 ((-1)), .int .i64 (p2), .int .i64 ((-1))] 37 (0, 0)) :: .blk b15 (.cells #[.string (p0.Name), .string (p0.Text), v1, v6] 31 (0, 0)) :: .blk cb0 (.cells #[cv0_0] 24 (0, 0)) :: .row cv0_0 37 9 cv0_0r :: L) _ _ _ := hs
   exact ⟨_, x162, b178, v166, hbase28, hm, ⟨rw167, hR168, hW169⟩, hs.sub ⟨rfl, rfl, rfl, rfl, rfl, trivial⟩⟩
  ·refine RL_alloc hs ti37 (.free rfl) (by decide) ?_; clear hs; (try clear a w); intro b181 a w hs
   replace hs : St _ _ _ (.blk b181 (.cells #[.int .i64 (0), .string ((bs [])), .string ((bs [])), (.slice none 0 0), .int .i64 (0), .int .i64 (0), .int .i64 (0), .int .i64 (0), .int .i64 (0)] 37 (0, 0)) :: .blk b15 (.cells #[.string (p0.Name), .string (p0.Text), v1, v6] 31 (0, 0)) :: .blk cb0 (.cells #[cv0_0] 24 (0, 0)) :: .row cv0_0 37 9 cv0_0r :: L) _ _ _ := hs
   refine uon hs ?_; clear hs; (try clear a w); intro a he
   refine T_any1 he rfl ?_; clear he; (try clear a); intro a w hs
   obtain ⟨x184, hx185, hm⟩ := ob hm
   refine RL_callV hs rfl has12 rfl (slices_Clone_ok n (f := f) (a0 := v1) ⟨rw2, hR3, hW4⟩ hx185) ?_; clear hs; (try clear a w)
   rintro v188 f186 _ a w hf187 ⟨_, rfl, rfl, ⟨rw189, hR190, hW191⟩⟩ hs
   have hR192 := hR3.le hf187
   have hW193 := hW4.le hf187
   have hR194 := hR8.le hf187
   have hW195 := hW9.le hf187
   have cv196 := cv0_0h.le hf187
   have hc197 := hf187 _ _ hc1
   replace hle := hle.trans hf187
   replace hbase28 := hbase28.trans hf187
   replace hbd161 := hbd161.trans hf187
   replace hs : St _ _ _ (.blk b181 (.cells #[.int .i64 (0), .string ((bs [])), .string ((bs [])), (.slice none 0 0), .int .i64 (0), .int .i64 (0), .int .i64 (0), .int .i64 (0), .int .i64 (0)] 37 (0, 0)) :: .blk b15 (.cells #[.string (p0.Name), .string (p0.Text), v1, v6] 31 (0, 0)) :: .blk cb0 (.cells #[cv0_0] 24 (0, 0)) :: .row cv0_0 37 9 cv0_0r :: L) _ _ _ := hs
   refine uon hs ?_; clear hs; (try clear a w); intro a he
   refine uy 7 he rfl (y_buildS (places := [(0, 1), (1, 1), (2, 1), (3, 1), (4, 1), (5, 1), (6, 1), (7, 1), (8, 1)]) (cs := [.int .i64 (1), .string (p0.Name), .string ((bs [])), v188, .int .i64 (p1), .int .i64 ((-1)), .int .i64 ((-1)), .int .i64 (p2), .int .i64 ((-1))]) rfl Tryd.underlying37 ti37 (by kernel_rfl) (by decide) rfl ⟨rfl, rfl, hR190.one, rfl, rfl, rfl, rfl, rfl, trivial⟩) ?_; clear he; (try clear a); intro a he
   refine T_any1 he rfl ?_; clear he; (try clear a); intro a w hs
   refine RL_storeAll (i := 0) hs rfl rfl rfl ti37 ⟨rfl, rfl⟩ (AllC.arr (r := [.int .i64 (1), .string (p0.Name), .string ((bs [])), v188, .int .i64 (p1), .int .i64 ((-1)), .int .i64 ((-1)), .int .i64 (p2), .int .i64 ((-1))]) ⟨rfl, rfl, rfl, hR190.one, rfl, rfl, rfl, rfl, rfl, trivial⟩) (.free rfl) ?_; clear hs; (try clear a w); intro a w hs
   replace hs : St _ _ _ (.blk b181 (.cells #[.int .i64 (1), .string (p0.Name), .string ((bs [])), v188, .int .i64 (p1), .int .i64 ((-1)), .int .i64 ((-1)), .int .i64 (p2), .int .i64 ((-1))] 37 (0, 0)) :: .blk b15 (.cells #[.string (p0.Name), .string (p0.Text), v1, v6] 31 (0, 0)) :: .blk cb0 (.cells #[cv0_0] 24 (0, 0)) :: .row cv0_0 37 9 cv0_0r :: L) _ _ _ := hs
   refine uend hs ?_; clear hs; (try clear a w); intro a he
   refine T_nil he ?_; clear he; (try clear a); intro w hs; try clear hsD
   replace hs : St _ _ _ (.blk b181 (.cells #[.int .i64 (1), .string (p0.Name), .string ((bs [])), v188, .int .i64 (p1), .int .i64 ((-1)), .int .i64 ((-1)), .int .i64 (p2), .int .i64 ((-1))] 37 (0, 0)) :: .blk b15 (.cells #[.string (p0.Name), .string (p0.Text), v1, v6] 31 (0, 0)) :: .blk cb0 (.cells #[cv0_0] 24 (0, 0)) :: .row cv0_0 37 9 cv0_0r :: L) _ _ _ := hs
   exact ⟨_, x184, b181, v188, hbase28, hm, ⟨rw189, hR190, hW191⟩, hs.sub ⟨rfl, rfl, rfl, rfl, rfl, trivial⟩⟩
set_option maxRecDepth 20000 in
set_option maxHeartbeats 4000000 in
theorem dom_Make_1_ok : ∀ (n : Nat) {f : Fz} {p0 : dom_Part} {a0 : List Value} {p1 : Int} {p2 : Int} {cb0 : Nat} {q0 : api_Tree} {cv0_0 : Value} {cv0_0r : List (List Value)} {cb1 : Nat} {res : (Int × api_Tree)} (_h0 : t_dom_Part.R f a0 p0) (_cv0_0h : RW t_api_Node f cv0_0r q0.Nodes) (_hc1 : f cb1 = some (.cells #[.func (.func 11) #[] #[.pointer (some ⟨cb0, 0, none⟩), .pointer (some ⟨cb1, 0, none⟩)]] 40 (0, 0))) (_ : dom_Make_1 n p0 p1 p2 q0 = some res), Does Tryd.prog 11 [.agg a0.toArray, .int .i64 p1, .int .i64 p2, .pointer (some ⟨cb0, 0, none⟩), .pointer (some ⟨cb1, 0, none⟩)] f [.blk cb0 (.cells #[cv0_0] 24 (0, 0)), .row cv0_0 37 9 cv0_0r] (fun r f' L' => ∃ (dv0_0 : Value) (dv0_0r : List (List Value)), L' = [.blk cb0 (.cells #[dv0_0] 24 (0, 0)), .row dv0_0 37 9 dv0_0r] ∧ r = .int .i64 res.1 ∧ RW t_api_Node f' dv0_0r res.2.Nodes)
  | 0, f, p0, a0, p1, p2, cb0, q0, cv0_0, cv0_0r, cb1, res, h0, cv0_0h, hc1, hm => by simp [dom_Make_1] at hm
  | n + 1, f, p0, a0, p1, p2, cb0, q0, cv0_0, cv0_0r, cb1, res, h0, cv0_0h, hc1, hm => dom_Make_1_bok n (dom_Make_1_ok n) h0 cv0_0h hc1 hm
/-! casement/dom.Make -/
def dom_Make (n : Nat) (p0 : dom_Part) : Option (api_Tree × Int) :=
  (dom_Make_1 n p0 (-1) (-1) ({Nodes := ([] : List api_Node)} : api_Tree)).bind fun x24 =>
  (dom_Right n x24.2).bind fun x36 =>
  (bif (decide (x36 ≠ 0)) then some (({Nodes := ([] : List api_Node)} : api_Tree), x36) else
  some (x24.2, 0))
set_option maxRecDepth 20000 in
set_option maxHeartbeats 4000000 in
theorem dom_Make_ok (n : Nat) {f : Fz} {p0 : dom_Part} {a0 : List Value} {res : (api_Tree × Int)} (h0 : t_dom_Part.R f a0 p0) (hm : dom_Make n p0 = some res) : Does Tryd.prog 5 [.agg a0.toArray] f [] (fun r f' L' => ∃ (u0 : List Value), L' = [] ∧ r = .tuple #[.agg u0.toArray, .int .i64 res.2] ∧ t_api_Tree.R f' u0 res.1) := by
 unfold dom_Make at hm
 intro w0 L w hC
 obtain ⟨v1, v6, rfl, ⟨rw2, hR3, hW4⟩, ⟨rw7, hR8, hW9⟩⟩ := R_dom_Part.ex h0
 refine enter Tryd.func5 rfl Tryd.ntmps5 (by simp) hC fun a hs => ?_
 have hle := Fz.le.refl f
 refine W_seq fun K1 hK1 => ?_
 refine W_region ?_
 refine sbox hs rfl ?_; clear hs; (try clear a w); intro b11 a w hs
 replace hs : St _ _ _ (.blk b11 (.cells #[.string (p0.Name), .string (p0.Text), v1, v6] 31 (0, 0)) :: L) _ _ _ := hs
 refine RL_alloc hs ti24 (.free rfl) (by decide) ?_; clear hs; (try clear a w); intro b13 a w hs
 replace hs : St _ _ _ (.blk b13 (.cells #[(.slice none 0 0)] 24 (0, 0)) :: .blk b11 (.cells #[.string (p0.Name), .string (p0.Text), v1, v6] 31 (0, 0)) :: L) _ _ _ := hs
 refine sy (v := .int .i64 (0)) hs (y_assign rfl) ?_; clear hs; (try clear a w); intro a w hs
 refine RL_nil ?_
 refine hK1 _ _ ?_; clear hK1
 refine W_seq fun K2 hK2 => ?_
 refine W_region ?_
 refine RL_alloc hs ti24 (.free rfl) (by decide) ?_; clear hs; (try clear a w); intro b16 a w hs
 replace hs : St _ _ _ (.blk b16 (.cells #[(.slice none 0 0)] 24 (0, 0)) :: .blk b13 (.cells #[(.slice none 0 0)] 24 (0, 0)) :: .blk b11 (.cells #[.string (p0.Name), .string (p0.Text), v1, v6] 31 (0, 0)) :: L) _ _ _ := hs
 refine RL_nil ?_
 refine hK2 _ _ ?_; clear hK2
 refine W_seq fun K3 hK3 => ?_
 refine W_region ?_
 refine RL_alloc hs ti40 (.free rfl) (by decide) ?_; clear hs; (try clear a w); intro b19 a w hs
 replace hs : St _ _ _ (.blk b19 (.cells #[.nilFunc] 40 (0, 0)) :: .blk b16 (.cells #[(.slice none 0 0)] 24 (0, 0)) :: .blk b13 (.cells #[(.slice none 0 0)] 24 (0, 0)) :: .blk b11 (.cells #[.string (p0.Name), .string (p0.Text), v1, v6] 31 (0, 0)) :: L) _ _ _ := hs
 refine RL_nil ?_
 refine hK3 _ _ ?_; clear hK3
 refine W_seq fun K4 hK4 => ?_
 refine W_region ?_
 refine sy hs (y_makeFunc rfl) ?_; clear hs; (try clear a w); intro a w hs
 refine sstore 0 hs rfl rfl rfl ti40 rfl ?_; clear hs; (try clear a w); intro a w hs
 replace hs : St _ _ _ (.blk b19 (.cells #[.func (.func 11) #[] #[.pointer (some ⟨b16, 0, none⟩), .pointer (some ⟨b19, 0, none⟩)]] 40 (0, 0)) :: .blk b16 (.cells #[(.slice none 0 0)] 24 (0, 0)) :: .blk b13 (.cells #[(.slice none 0 0)] 24 (0, 0)) :: .blk b11 (.cells #[.string (p0.Name), .string (p0.Text), v1, v6] 31 (0, 0)) :: L) _ _ _ := hs
 refine RL_nil ?_
 refine hK4 _ _ ?_; clear hK4
 refine W_seq fun K5 hK5 => ?_
 refine W_region ?_
 refine sy (v := .func (.func 11) #[] #[.pointer (some ⟨b16, 0, none⟩), .pointer (some ⟨b19, 0, none⟩)]) hs (y_ld rfl Tryd.underlying40 rfl (Cell.blk (.head _) rfl)) ?_; clear hs; (try clear a w); intro a w hs
 refine sy hs (y_ldB rfl Tryd.underlying31 rfl ti31 (.tail _ (.tail _ (.tail _ (.head _)))) rfl) ?_; clear hs; (try clear a w); intro a w hs
 obtain ⟨f21, hf22, hs2, hB23⟩ := hs.frzB 0 rfl
 clear hs; have hs := hs2; clear hs2
 replace hR3 := hR3.le hf22
 replace hW4 := hW4.le hf22
 replace hR8 := hR8.le hf22
 replace hW9 := hW9.le hf22
 replace hle := hle.trans hf22
 replace hs : St _ _ _ (.blk b16 (.cells #[(.slice none 0 0)] 24 (0, 0)) :: .blk b13 (.cells #[(.slice none 0 0)] 24 (0, 0)) :: .blk b11 (.cells #[.string (p0.Name), .string (p0.Text), v1, v6] 31 (0, 0)) :: L) _ _ _ := hs
 obtain ⟨x24, hx25, hm⟩ := ob hm
 replace hs := hs.nilRow 37 9
 have hW26 : RW t_api_Node f21 [] ([] : List api_Node) := trivial
 generalize hgrw27 : ([] : List (List Value)) = rw27 at hs hW26; clear hgrw27
 replace hs : St _ _ _ (.row (.slice none 0 0) 37 9 rw27 :: .blk b16 (.cells #[(.slice none 0 0)] 24 (0, 0)) :: .blk b13 (.cells #[(.slice none 0 0)] 24 (0, 0)) :: .blk b11 (.cells #[.string (p0.Name), .string (p0.Text), v1, v6] 31 (0, 0)) :: L) _ _ _ := hs
 replace hs := hs.front 0
 replace hs := hs.front 1
 replace hs : St _ _ _ (.blk b16 (.cells #[(.slice none 0 0)] 24 (0, 0)) :: .row (.slice none 0 0) 37 9 rw27 :: .blk b13 (.cells #[(.slice none 0 0)] 24 (0, 0)) :: .blk b11 (.cells #[.string (p0.Name), .string (p0.Text), v1, v6] 31 (0, 0)) :: L) _ _ _ := hs
 refine RL_call (Lr := [.blk b16 (.cells #[(.slice none 0 0)] 24 (0, 0)), .row (.slice none 0 0) 37 9 rw27]) (Lf := .blk b13 (.cells #[(.slice none 0 0)] 24 (0, 0)) :: .blk b11 (.cells #[.string (p0.Name), .string (p0.Text), v1, v6] 31 (0, 0)) :: L) hs rfl has11 rfl rfl (dom_Make_1_ok n (f := f21) (a0 := [.string (p0.Name), .string (p0.Text), v1, v6]) (cb0 := b16) (cb1 := b19) (R_dom_Part.of (x := p0) ⟨rw2, hR3, hW4⟩ ⟨rw7, hR8, hW9⟩) hW26 hB23 hx25) (.free rfl) (by decide) ?_; clear hs; (try clear a w)
 rintro _ f30 _ a w hf31 ⟨v32, rw33, rfl, rfl, hW34⟩ hs
 replace hR3 := hR3.le hf31
 replace hW4 := hW4.le hf31
 replace hR8 := hR8.le hf31
 replace hW9 := hW9.le hf31
 replace hB23 := hf31 _ _ hB23
 replace hW26 := hW26.le hf31
 replace hle := hle.trans hf31
 replace hs : St _ _ _ (.blk b16 (.cells #[v32] 24 (0, 0)) :: .row v32 37 9 rw33 :: .blk b13 (.cells #[(.slice none 0 0)] 24 (0, 0)) :: .blk b11 (.cells #[.string (p0.Name), .string (p0.Text), v1, v6] 31 (0, 0)) :: L) _ _ _ := hs
 refine RL_nil ?_
 refine hK5 _ _ ?_; clear hK5
 refine W_seq fun K6 hK6 => ?_
 refine W_seq fun K7 hK7 => ?_
 refine W_region ?_
 refine sy hs (y_ldB rfl Tryd.underlying24 rfl ti24 (.head _) rfl) ?_; clear hs; (try clear a w); intro a w hs
 obtain ⟨x36, hx37, hm⟩ := ob hm
 refine sy hs (y_callCK (cap := []) rfl has13 rfl (fun w9 hw9 => callsP (Lr := [.row v32 37 9 rw33]) (Lf := .blk b16 (.cells #[v32] 24 (0, 0)) :: .blk b13 (.cells #[(.slice none 0 0)] 24 (0, 0)) :: .blk b11 (.cells #[.string (p0.Name), .string (p0.Text), v1, v6] 31 (0, 0)) :: L) (perm_at _ 1 rfl) hw9 (fun Lz w9 hw9 => lent0 hw9 (fun f9_0 w9 hle9_0 hRl0 hw9 => (dom_Right_ok n (f := f9_0) (a0 := [v32]) ⟨_, rfl, ⟨rw33, hRl0, hW34.le hle9_0⟩⟩ hx37) w0 _ w9 hw9)))) ?_; clear hs; (try clear a w); intro a w hs
 refine sy (v := .int .i64 (x36)) hs (y_assign rfl) ?_; clear hs; (try clear a w); intro a w hs
 refine RL_nil ?_
 refine hK7 _ _ ?_; clear hK7
 refine W_seq fun K8 hK8 => ?_
 refine W_region ?_
 refine sy (v := .int .i64 (x36)) hs (y_move rfl) ?_; clear hs; (try clear a w); intro a w hs
 refine sy hs (y_neq rfl rfl) ?_; clear hs; (try clear a w); intro a w hs
 refine RL_nil ?_
 refine hK8 _ _ ?_; clear hK8
 refine W_cond hs rfl (fun hg38 => ?_) (fun hg38 => ?_)
 ·replace hm := oc_t hg38 hm
  refine W_seq fun K9 hK9 => ?_
  refine W_region ?_
  refine sy hs (y_buildS (places := [(0, 1)]) (cs := [(.slice none 0 0)]) rfl Tryd.underlying24 ti24 (by kernel_rfl) (by decide) rfl trivial) ?_; clear hs; (try clear a w); intro a w hs
  refine sy (v := .int .i64 (x36)) hs (y_move rfl) ?_; clear hs; (try clear a w); intro a w hs
  refine RL_storeAll (i := 2) hs rfl rfl rfl ti24 ⟨rfl, rfl⟩ (AllC.arr (r := [(.slice none 0 0)]) ⟨rfl, trivial⟩) (.free rfl) ?_; clear hs; (try clear a w); intro a w hs
  replace hs : St _ _ _ (.blk b16 (.cells #[v32] 24 (0, 0)) :: .row v32 37 9 rw33 :: .blk b13 (.cells #[(.slice none 0 0)] 24 (0, 0)) :: .blk b11 (.cells #[.string (p0.Name), .string (p0.Text), v1, v6] 31 (0, 0)) :: L) _ _ _ := hs
  refine sy (v := .int .i64 (x36)) hs (y_assign rfl) ?_; clear hs; (try clear a w); intro a w hs
  refine RL_nil ?_
  refine hK9 _ _ ?_; clear hK9
  refine W_ret ?_
  obtain rfl := Option.some.inj hm
  refine RtV2 hs rfl (rv_a hs rfl Tryd.underlying24 rfl ti24 (fun j u hj => Cell.blk (.tail _ (.tail _ (.head _))) hj) rfl) (rv_t hs rfl) ?_
  exact ⟨_, f30, [], rfl, hle, (hs.subL (.cons _ (.cons _ (.cons _ (.cons _ (.refl _)))))).cw, [(.slice none 0 0)], rfl, rfl, ⟨_, rfl, RS.nil⟩⟩
 ·replace hm := oc_f hg38 hm
  refine W_skip ?_
  refine hK6 _ _ ?_; clear hK6
  refine W_seq fun K10 hK10 => ?_
  refine W_region ?_
  refine sy hs (y_ldB rfl Tryd.underlying24 rfl ti24 (.head _) rfl) ?_; clear hs; (try clear a w); intro a w hs
  refine RL_storeAll (i := 2) hs rfl rfl rfl ti24 ⟨rfl, rfl⟩ (AllC.arr (r := [v32]) ⟨(hs.one (i := 1) rfl), trivial⟩) (.free rfl) ?_; clear hs; (try clear a w); intro a w hs
  replace hs : St _ _ _ (.blk b16 (.cells #[v32] 24 (0, 0)) :: .row v32 37 9 rw33 :: .blk b13 (.cells #[v32] 24 (0, 0)) :: .blk b11 (.cells #[.string (p0.Name), .string (p0.Text), v1, v6] 31 (0, 0)) :: L) _ _ _ := hs
  refine sy (v := .int .i64 (0)) hs (y_assign rfl) ?_; clear hs; (try clear a w); intro a w hs
  refine RL_nil ?_
  refine hK10 _ _ ?_; clear hK10
  refine W_ret ?_
  obtain ⟨f40, hf41, hs2, hR42⟩ := hs.frzAt 1 rfl
  clear hs; have hs := hs2; clear hs2
  replace hR3 := hR3.le hf41
  replace hW4 := hW4.le hf41
  replace hR8 := hR8.le hf41
  replace hW9 := hW9.le hf41
  replace hB23 := hf41 _ _ hB23
  replace hW34 := hW34.le hf41
  replace hle := hle.trans hf41
  replace hs : St _ _ _ (.blk b16 (.cells #[v32] 24 (0, 0)) :: .blk b13 (.cells #[v32] 24 (0, 0)) :: .blk b11 (.cells #[.string (p0.Name), .string (p0.Text), v1, v6] 31 (0, 0)) :: L) _ _ _ := hs
  obtain rfl := Option.some.inj hm
  refine RtV2 hs rfl (rv_a hs rfl Tryd.underlying24 rfl ti24 (fun j u hj => Cell.blk (.tail _ (.head _)) hj) rfl) (rv_t hs rfl) ?_
  exact ⟨_, f40, [], rfl, hle, (hs.subL (.cons _ (.cons _ (.cons _ (.refl _))))).cw, [v32], rfl, rfl, ⟨_, rfl, ⟨rw33, hR42, hW34⟩⟩⟩
end Go.Proofs.YtklcdfnhdljkjaaDoor
