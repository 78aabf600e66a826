/-
  Walks and laws of this seat; the base is the text Base.
-/
import Derived.Test.YtekcbgnkikmhpaaL5b
import Derived.Test.YtekcbgnkikmhpaaRows
/-
  Models of functions, and that the functions compute them. Printed by lift.py.
-/
namespace Go.Proofs.Ytekcbgnkikmhpaa
open Go.RowKit Go.Sl
/-! casement/dom.Make$1 -/
def dom_Make_1_k3 (q0 : api_Tree) (y51 : (List api_Node)) (y56 : Int) : Option (Int × api_Tree) :=
  (geti y51 (q0.Nodes.length : Int)).bind fun x58 =>
  (seti y51 (q0.Nodes.length : Int) ({x58 with Last := y56} : api_Node)).bind fun x70 =>
  some ((q0.Nodes.length : Int), ({Nodes := x70} : api_Tree))
def dom_Make_1_k5 (q0 : api_Tree) (y83 : Int) (lp84 : (List api_Node) → Int → Int → Option (Int × api_Tree)) (x108 : (Int × api_Tree)) (y116 : (List api_Node)) : Option (Int × api_Tree) :=
  (bif (decide (4096 < (y116.length : Int))) then dom_Make_1_k3 q0 y116 x108.1 else
  lp84 y116 x108.1 (w64 (y83 + 1)))
def dom_Make_1_l4 (p0 : dom_Part) (q0 : api_Tree) (slf : dom_Part → Int → Int → api_Tree → Option (Int × api_Tree)) : Nat → (List api_Node) → Int → Int → Option (Int × api_Tree)
  | 0, _, _, _ => none
  | k84 + 1, y77, y82, y83 =>
  (bif (decide (y83 < (p0.Kids.length : Int))) then (geti p0.Kids y83).bind fun x87 =>
  (slf x87 (q0.Nodes.length : Int) y82 ({Nodes := y77} : api_Tree)).bind fun x108 =>
  (bif (decide (y82 = (-1))) then (geti x108.2.Nodes (q0.Nodes.length : Int)).bind fun x123 =>
  (seti x108.2.Nodes (q0.Nodes.length : Int) ({x123 with First := x108.1} : api_Node)).bind fun x135 =>
  dom_Make_1_k5 q0 y83 (dom_Make_1_l4 p0 q0 slf k84) x108 x135 else
  (geti x108.2.Nodes y82).bind fun x140 =>
  (seti x108.2.Nodes y82 ({x140 with Next := x108.1} : api_Node)).bind fun x152 =>
  dom_Make_1_k5 q0 y83 (dom_Make_1_l4 p0 q0 slf k84) x108 x152) else
  dom_Make_1_k3 q0 y77 y82)
def dom_Make_1_k2 (n : Nat) (p0 : dom_Part) (q0 : api_Tree) (slf : dom_Part → Int → Int → api_Tree → Option (Int × api_Tree)) (y29 : api_Node) : Option (Int × api_Tree) :=
  (appM 104 q0.Nodes [y29]).bind fun x42 =>
  (bif ((decide (4096 < (x42.length : Int))) || (decide (p0.Name = (bs [])))) then some ((q0.Nodes.length : Int), ({Nodes := x42} : api_Tree)) else
  dom_Make_1_l4 p0 q0 slf n x42 (-1) 0)
def dom_Make_1_k1 (n : Nat) (p0 : dom_Part) (p1 : Int) (p2 : Int) (q0 : api_Tree) (slf : dom_Part → Int → Int → api_Tree → Option (Int × api_Tree)) (y21 : (List api_Attr)) : Option (Int × api_Tree) :=
  (bif (decide (p0.Name = (bs []))) then dom_Make_1_k2 n p0 q0 slf ({Kind := 2, Name := p0.Name, Text := p0.Text, Attrs := ([] : List api_Attr), Parent := p1, First := (-1), Last := (-1), Prev := p2, Next := (-1)} : api_Node) else
  dom_Make_1_k2 n p0 q0 slf ({Kind := 1, Name := p0.Name, Text := (bs []), Attrs := y21, Parent := p1, First := (-1), Last := (-1), Prev := p2, Next := (-1)} : api_Node))
def dom_Make_1_b (slf : dom_Part → Int → Int → api_Tree → Option (Int × api_Tree)) (n : Nat) (p0 : dom_Part) (p1 : Int) (p2 : Int) (q0 : api_Tree) : Option (Int × api_Tree) :=
  (slices_Clone n p0.Attrs).bind fun x160 =>
  dom_Make_1_k1 n p0 p1 p2 q0 slf x160
def dom_Make_1 : Nat → dom_Part → Int → Int → api_Tree → Option (Int × api_Tree)
  | 0, _, _, _, _ => none
  | n + 1, p0, p1, p2, q0 => dom_Make_1_b (dom_Make_1 n) n p0 p1 p2 q0
theorem dom_Make_1_bok {slf : dom_Part → Int → Int → api_Tree → Option (Int × api_Tree)} (n : Nat) (slf_ok : ∀ {f : Fz} {p0 : dom_Part} {a0 : List Value} {p1 : Int} {p2 : Int} {cb0 : Nat} {q0 : api_Tree} {cv0_0 : Value} {cv0_0r : List (List Value)} {cb1 : Nat} {res : (Int × api_Tree)} (_ : t_dom_Part.R f a0 p0) (_ : RW t_api_Node f cv0_0r q0.Nodes) (_ : f cb1 = some (.cells #[.func (.func 40) #[] #[.pointer (some ⟨cb0, 0, none⟩), .pointer (some ⟨cb1, 0, none⟩)]] 71 (0, 0))) (_ : slf p0 p1 p2 q0 = some res), Does Try.prog 40 [.agg a0.toArray, .int .i64 p1, .int .i64 p2, .pointer (some ⟨cb0, 0, none⟩), .pointer (some ⟨cb1, 0, none⟩)] f [.blk cb0 (.cells #[cv0_0] 24 (0, 0)), .row cv0_0 59 9 cv0_0r] (fun r f' L' => ∃ (dv0_0 : Value) (dv0_0r : List (List Value)), L' = [.blk cb0 (.cells #[dv0_0] 24 (0, 0)), .row dv0_0 59 9 dv0_0r] ∧ r = .int .i64 res.1 ∧ RW t_api_Node f' dv0_0r res.2.Nodes)) {f : Fz} {p0 : dom_Part} {a0 : List Value} {p1 : Int} {p2 : Int} {cb0 : Nat} {q0 : api_Tree} {cv0_0 : Value} {cv0_0r : List (List Value)} {cb1 : Nat} {res : (Int × api_Tree)} (h0 : t_dom_Part.R f a0 p0) (cv0_0h : RW t_api_Node f cv0_0r q0.Nodes) (hc1 : f cb1 = some (.cells #[.func (.func 40) #[] #[.pointer (some ⟨cb0, 0, none⟩), .pointer (some ⟨cb1, 0, none⟩)]] 71 (0, 0))) (hm : dom_Make_1_b slf n p0 p1 p2 q0 = some res) : Does Try.prog 40 [.agg a0.toArray, .int .i64 p1, .int .i64 p2, .pointer (some ⟨cb0, 0, none⟩), .pointer (some ⟨cb1, 0, none⟩)] f [.blk cb0 (.cells #[cv0_0] 24 (0, 0)), .row cv0_0 59 9 cv0_0r] (fun r f' L' => ∃ (dv0_0 : Value) (dv0_0r : List (List Value)), L' = [.blk cb0 (.cells #[dv0_0] 24 (0, 0)), .row dv0_0 59 9 dv0_0r] ∧ r = .int .i64 res.1 ∧ RW t_api_Node f' dv0_0r res.2.Nodes) := by
 unfold dom_Make_1_b at hm
 intro w0 L w hC
 replace hC : Cw w0 f (.blk cb0 (.cells #[cv0_0] 24 (0, 0)) :: .row cv0_0 59 9 cv0_0r :: L) w := hC
 obtain ⟨v1, v6, rfl, ⟨rw2, hR3, hW4⟩, ⟨rw7, hR8, hW9⟩⟩ := R_dom_Part.ex h0
 refine enter Try.func40 rfl Try.ntmps40 (by simp) hC fun a hs => ?_
 have hle := Fz.le.refl f
 refine W_seq fun K1 hK1 => ?_
 refine W_region ?_
 refine sbox hs rfl ?_; clear hs; (try clear a w); intro b15 a w hs
 replace hs : St _ _ _ (.blk b15 (.cells #[.string (p0.Name), .string (p0.Text), v1, v6] 35 (0, 0)) :: .blk cb0 (.cells #[cv0_0] 24 (0, 0)) :: .row cv0_0 59 9 cv0_0r :: L) _ _ _ := hs
 refine sy (v := .int .i64 (0)) hs (y_assign rfl) ?_; clear hs; (try clear a w); intro a w hs
 refine RL_nil ?_
 refine hK1 _ _ ?_; clear hK1
 refine W_seq fun K2 hK2 => ?_
 refine W_region ?_
 refine sy (v := .pointer (some ⟨cb0, 0, none⟩)) hs (y_fieldAddr rfl (FO.of (off := 0) Try.underlying24 rfl rfl ti22 (by decide))) ?_; clear hs; (try clear a w); intro a w hs
 refine sy (v := cv0_0) hs (y_ld rfl Try.underlying22 rfl (Cell.blk (.tail _ (.head _)) rfl)) ?_; clear hs; (try clear a w); intro a w hs
 refine sy hs (y_lenW (Rd.st hs (.tail _ (.tail _ (.head _)))) cv0_0h rfl Try.underlying22) ?_; clear hs; (try clear a w); intro a w hs
 refine sy (v := .int .i64 ((q0.Nodes.length : Int))) hs (y_assign rfl) ?_; clear hs; (try clear a w); intro a w hs
 refine RL_nil ?_
 refine hK2 _ _ ?_; clear hK2
 refine W_seq fun K3 hK3 => ?_
 have hbase28 := Fz.le.refl f
 refine W_post (fun a w => ∃ (f17 : Fz) (y21 : (List api_Attr)) (b20 : Nat) (v22 : Value), Fz.le f f17 ∧ dom_Make_1_k1 n p0 p1 p2 q0 slf y21 = some res ∧ RS t_api_Attr f17 v22 y21 ∧ St 89 w0 f17 (.blk b20 (.cells #[.int .i64 (1), .string (p0.Name), .string ((bs [])), v22, .int .i64 (p1), .int .i64 ((-1)), .int .i64 ((-1)), .int .i64 (p2), .int .i64 ((-1))] 59 (0, 0)) :: .blk b15 (.cells #[.string (p0.Name), .string (p0.Text), v1, v6] 35 (0, 0)) :: .blk cb0 (.cells #[cv0_0] 24 (0, 0)) :: .row cv0_0 59 9 cv0_0r :: L) [(3, .pointer (some ⟨cb0, 0, none⟩)), (4, .pointer (some ⟨cb1, 0, none⟩)), (5, .pointer (some ⟨b15, 0, none⟩)), (9, .int .i64 ((q0.Nodes.length : Int))), (10, .pointer (some ⟨b20, 0, none⟩))] a w) ?_ ?_
 ·clear hs hm
  clear hbase28
  rintro a w ⟨f17, y21, b20, v22, hl18, hm, hs23, hs⟩
  replace hR3 := hR3.le hl18
  replace hW4 := hW4.le hl18
  replace hR8 := hR8.le hl18
  replace hW9 := hW9.le hl18
  replace cv0_0h := cv0_0h.le hl18
  replace hc1 := hl18 _ _ hc1
  replace hle := hle.trans hl18
  obtain ⟨rw24, hR25, hW26⟩ := hs23
  replace hs : St _ _ _ (.blk b20 (.cells #[.int .i64 (1), .string (p0.Name), .string ((bs [])), v22, .int .i64 (p1), .int .i64 ((-1)), .int .i64 ((-1)), .int .i64 (p2), .int .i64 ((-1))] 59 (0, 0)) :: .blk b15 (.cells #[.string (p0.Name), .string (p0.Text), v1, v6] 35 (0, 0)) :: .blk cb0 (.cells #[cv0_0] 24 (0, 0)) :: .row cv0_0 59 9 cv0_0r :: L) _ _ _ := hs
  unfold dom_Make_1_k1 at hm
  refine hK3 _ _ ?_; clear hK3
  refine W_seq fun K4 hK4 => ?_
  refine W_seq fun K5 hK5 => ?_
  refine W_region ?_
  refine sy (v := .pointer (some ⟨b15, 0, none⟩)) hs (y_fieldAddr rfl (FO.of (off := 0) Try.underlying35 rfl rfl ti9 (by decide))) ?_; clear hs; (try clear a w); intro a w hs
  refine sy (v := .string (p0.Name)) hs (y_ld rfl Try.underlying9 rfl (Cell.blk (.tail _ (.head _)) rfl)) ?_; clear hs; (try clear a w); intro a w hs
  refine sy hs (y_seql rfl rfl) ?_; clear hs; (try clear a w); intro a w hs
  refine RL_nil ?_
  refine hK5 _ _ ?_; clear hK5
  refine W_post (fun a w => ∃ (y29 : api_Node) (r30 : List Value), dom_Make_1_k2 n p0 q0 slf y29 = some res ∧ t_api_Node.R f17 r30 y29 ∧ St 89 w0 f17 (.blk b20 (.cells r30.toArray 59 (0, 0)) :: .blk b15 (.cells #[.string (p0.Name), .string (p0.Text), v1, v6] 35 (0, 0)) :: .blk cb0 (.cells #[cv0_0] 24 (0, 0)) :: .row cv0_0 59 9 cv0_0r :: L) [(3, .pointer (some ⟨cb0, 0, none⟩)), (4, .pointer (some ⟨cb1, 0, none⟩)), (5, .pointer (some ⟨b15, 0, none⟩)), (9, .int .i64 ((q0.Nodes.length : Int))), (10, .pointer (some ⟨b20, 0, none⟩))] a w) ?_ ?_
  ·clear hs hm
   rintro a w ⟨y29, r30, hm, hq31, hs⟩
   obtain ⟨v32, rfl, ⟨rw33, hR34, hW35⟩⟩ := hq31
   replace hs : St _ _ _ (.blk b20 (.cells #[.int .i64 (y29.Kind), .string (y29.Name), .string (y29.Text), v32, .int .i64 (y29.Parent), .int .i64 (y29.First), .int .i64 (y29.Last), .int .i64 (y29.Prev), .int .i64 (y29.Next)] 59 (0, 0)) :: .blk b15 (.cells #[.string (p0.Name), .string (p0.Text), v1, v6] 35 (0, 0)) :: .blk cb0 (.cells #[cv0_0] 24 (0, 0)) :: .row cv0_0 59 9 cv0_0r :: L) _ _ _ := hs
   unfold dom_Make_1_k2 at hm
   refine hK4 _ _ ?_; clear hK4
   refine W_seq fun K6 hK6 => ?_
   refine W_region ?_
   refine sy (v := .pointer (some ⟨cb0, 0, none⟩)) hs (y_fieldAddr rfl (FO.of (off := 0) Try.underlying24 rfl rfl ti22 (by decide))) ?_; clear hs; (try clear a w); intro a w hs
   refine sy (v := cv0_0) hs (y_ld rfl Try.underlying22 rfl (Cell.blk (.tail _ (.tail _ (.head _))) rfl)) ?_; clear hs; (try clear a w); intro a w hs
   refine sy hs (y_ldB rfl Try.underlying59 rfl ti59 (.head _) rfl) ?_; clear hs; (try clear a w); intro a w hs
   refine RL_bs1a hs rfl Try.underlying22 ti59 (by decide) (AllC.row ⟨rfl, rfl, rfl, hR34.one, rfl, rfl, rfl, rfl, rfl, trivial⟩ rfl) ?_; clear hs; (try clear a w); intro v37 a w hs
   have hW38 : RW t_api_Node f17 [[.int .i64 (y29.Kind), .string (y29.Name), .string (y29.Text), v32, .int .i64 (y29.Parent), .int .i64 (y29.First), .int .i64 (y29.Last), .int .i64 (y29.Prev), .int .i64 (y29.Next)]] [y29] := RW.single (⟨_, rfl, ⟨rw33, hR34, hW35⟩⟩)
   generalize hgrw39 : ([[.int .i64 (y29.Kind), .string (y29.Name), .string (y29.Text), v32, .int .i64 (y29.Parent), .int .i64 (y29.First), .int .i64 (y29.Last), .int .i64 (y29.Prev), .int .i64 (y29.Next)]] : List (List Value)) = rw39 at hs hW38; clear hgrw39
   replace hs : St _ _ _ (.row v37 59 9 rw39 :: .blk b20 (.cells #[.int .i64 (y29.Kind), .string (y29.Name), .string (y29.Text), v32, .int .i64 (y29.Parent), .int .i64 (y29.First), .int .i64 (y29.Last), .int .i64 (y29.Prev), .int .i64 (y29.Next)] 59 (0, 0)) :: .blk b15 (.cells #[.string (p0.Name), .string (p0.Text), v1, v6] 35 (0, 0)) :: .blk cb0 (.cells #[cv0_0] 24 (0, 0)) :: .row cv0_0 59 9 cv0_0r :: L) _ _ _ := hs
   obtain ⟨x42, hx43, hm⟩ := ob hm
   obtain ⟨hbx42, hex42⟩ := appM_some hx43
   have hW46 := cv0_0h.append hW38; rw [hex42] at hW46
   refine RL_append (i := 4) hs rfl rfl rfl (Rd.st hs (.head _)) Try.underlying22 ti59 (by decide) (by rw [RW.len cv0_0h, RW.len hW38]; exact hbx42) (.free rfl) (by decide) ?_; clear hs; (try clear a w); intro v44 a w hs
   generalize hgx42 : cv0_0r ++ rw39 = rw45 at hs hW46; clear hgx42
   replace hs := hs.erase 0
   replace hs : St _ _ _ (.blk b20 (.cells #[.int .i64 (y29.Kind), .string (y29.Name), .string (y29.Text), v32, .int .i64 (y29.Parent), .int .i64 (y29.First), .int .i64 (y29.Last), .int .i64 (y29.Prev), .int .i64 (y29.Next)] 59 (0, 0)) :: .blk b15 (.cells #[.string (p0.Name), .string (p0.Text), v1, v6] 35 (0, 0)) :: .blk cb0 (.cells #[cv0_0] 24 (0, 0)) :: .row v44 59 9 rw45 :: L) _ _ _ := hs
   refine sy (v := .pointer (some ⟨cb0, 0, none⟩)) hs (y_fieldAddr rfl (FO.of (off := 0) Try.underlying24 rfl rfl ti22 (by decide))) ?_; clear hs; (try clear a w); intro a w hs
   refine sstore 2 hs rfl rfl rfl ti22 ((hs.one (i := 3) rfl)) ?_; clear hs; (try clear a w); intro a w hs
   replace hs : St _ _ _ (.blk b20 (.cells #[.int .i64 (y29.Kind), .string (y29.Name), .string (y29.Text), v32, .int .i64 (y29.Parent), .int .i64 (y29.First), .int .i64 (y29.Last), .int .i64 (y29.Prev), .int .i64 (y29.Next)] 59 (0, 0)) :: .blk b15 (.cells #[.string (p0.Name), .string (p0.Text), v1, v6] 35 (0, 0)) :: .blk cb0 (.cells #[v44] 24 (0, 0)) :: .row v44 59 9 rw45 :: L) _ _ _ := hs
   refine RL_nil ?_
   refine hK6 _ _ ?_; clear hK6
   refine W_seq fun K7 hK7 => ?_
   refine W_seq fun K8 hK8 => ?_
   refine W_post (fun a w => St 89 w0 f17 (.blk b20 (.cells #[.int .i64 (y29.Kind), .string (y29.Name), .string (y29.Text), v32, .int .i64 (y29.Parent), .int .i64 (y29.First), .int .i64 (y29.Last), .int .i64 (y29.Prev), .int .i64 (y29.Next)] 59 (0, 0)) :: .blk b15 (.cells #[.string (p0.Name), .string (p0.Text), v1, v6] 35 (0, 0)) :: .blk cb0 (.cells #[v44] 24 (0, 0)) :: .row v44 59 9 rw45 :: L) [(3, .pointer (some ⟨cb0, 0, none⟩)), (4, .pointer (some ⟨cb1, 0, none⟩)), (5, .pointer (some ⟨b15, 0, none⟩)), (9, .int .i64 ((q0.Nodes.length : Int))), (48, .bool (((decide (4096 < (x42.length : Int))) || (decide (p0.Name = (bs []))))))] a w) ?_ ?_
   ·clear hs; intro a w hs
    refine hK8 _ _ ?_; clear hK8
    refine W_cond hs rfl (fun hg48 => ?_) (fun hg48 => ?_)
    ·replace hm := oc_t hg48 hm
     refine W_seq fun K9 hK9 => ?_
     refine W_region ?_
     refine sy (v := .int .i64 ((q0.Nodes.length : Int))) hs (y_move rfl) ?_; clear hs; (try clear a w); intro a w hs
     refine sy (v := .int .i64 ((q0.Nodes.length : Int))) hs (y_assign rfl) ?_; clear hs; (try clear a w); intro a w hs
     refine RL_nil ?_
     refine hK9 _ _ ?_; clear hK9
     refine W_ret ?_
     obtain rfl := Option.some.inj hm
     refine RtV1 hs rfl (rv_t hs rfl) ?_
     exact ⟨_, f17, [.blk cb0 (.cells #[v44] 24 (0, 0)), .row v44 59 9 rw45], rfl, hle, (hs.subL (.cons _ (.cons _ (.cons_cons _ (.cons_cons _ (.refl _)))))).cw, v44, rw45, rfl, rfl, hW46⟩
    ·replace hm := oc_f hg48 hm
     refine W_skip ?_
     refine hK7 _ _ ?_; clear hK7
     refine W_seq fun K10 hK10 => ?_
     refine W_region ?_
     refine sy (v := .int .i64 ((-1))) hs (y_assign rfl) ?_; clear hs; (try clear a w); intro a w hs
     refine RL_nil ?_
     refine hK10 _ _ ?_; clear hK10
     refine W_seq fun K11 hK11 => ?_
     refine W_seq fun K12 hK12 => ?_
     refine W_region ?_
     refine sy (v := .pointer (some ⟨b15, 3, none⟩)) hs (y_fieldAddr rfl (FO.of (off := 3) Try.underlying35 rfl rfl ti33 (by decide))) ?_; clear hs; (try clear a w); intro a w hs
     refine sy (v := v6) hs (y_ld rfl Try.underlying33 rfl (Cell.blk (.tail _ (.head _)) rfl)) ?_; clear hs; (try clear a w); intro a w hs
     refine sy hs (y_lenW hR8 hW9 rfl Try.underlying33) ?_; clear hs; (try clear a w); intro a w hs
     refine sy (v := .int .i64 (0)) hs (y_move rfl) ?_; clear hs; (try clear a w); intro a w hs
     refine RL_nil ?_
     refine hK12 _ _ ?_; clear hK12
     have hbase57 := Fz.le.refl f17
     refine W_post (fun a w => ∃ (f49 : Fz) (y51 : (List api_Node)) (y56 : Int) (v52 : Value) (rw53 : List (List Value)), Fz.le f17 f49 ∧ dom_Make_1_k3 q0 y51 y56 = some res ∧ RW t_api_Node f49 rw53 y51 ∧ St 89 w0 f49 (.blk cb0 (.cells #[v52] 24 (0, 0)) :: .row v52 59 9 rw53 :: L) [(3, .pointer (some ⟨cb0, 0, none⟩)), (9, .int .i64 ((q0.Nodes.length : Int))), (11, .int .i64 (y56))] a w) ?_ ?_
     ·clear hs hm
      clear hbase57
      rintro a w ⟨f49, y51, y56, v52, rw53, hl50, hm, hW54, hs⟩
      replace hR3 := hR3.le hl50
      replace hW4 := hW4.le hl50
      replace hR8 := hR8.le hl50
      replace hW9 := hW9.le hl50
      replace cv0_0h := cv0_0h.le hl50
      replace hc1 := hl50 _ _ hc1
      replace hR25 := hR25.le hl50
      replace hW26 := hW26.le hl50
      replace hR34 := hR34.le hl50
      replace hW35 := hW35.le hl50
      replace hW38 := hW38.le hl50
      replace hW46 := hW46.le hl50
      replace hle := hle.trans hl50
      replace hs : St _ _ _ (.blk cb0 (.cells #[v52] 24 (0, 0)) :: .row v52 59 9 rw53 :: L) _ _ _ := hs
      unfold dom_Make_1_k3 at hm
      refine hK11 _ _ ?_; clear hK11
      refine W_seq fun K13 hK13 => ?_
      refine W_region ?_
      refine sy (v := .pointer (some ⟨cb0, 0, none⟩)) hs (y_fieldAddr rfl (FO.of (off := 0) Try.underlying24 rfl rfl ti22 (by decide))) ?_; clear hs; (try clear a w); intro a w hs
      refine sy (v := v52) hs (y_ld rfl Try.underlying22 rfl (Cell.blk (.head _) rfl)) ?_; clear hs; (try clear a w); intro a w hs
      refine sy (v := .int .i64 ((q0.Nodes.length : Int))) hs (y_move rfl) ?_; clear hs; (try clear a w); intro a w hs
      refine sy (v := .int .i64 (y56)) hs (y_move rfl) ?_; clear hs; (try clear a w); intro a w hs
      obtain ⟨x58, hx59, hm⟩ := ob hm
      obtain ⟨r60, hr61, hq62, hi63, hb64⟩ := hW54.geti hx59
      obtain ⟨v65, rfl, ⟨rw66, hR67, hW68⟩⟩ := hq62
      refine sy hs (y_indexAddr (Rd.st hs (.tail _ (.head _))) rfl rfl hi63 hb64 Try.underlying22 ti59) ?_; clear hs; (try clear a w); intro a w hs
      refine sy (v := eaddr v52 9 ((q0.Nodes.length : Int).toNat) 6) hs (y_fieldAddrE (i := (q0.Nodes.length : Int).toNat) (j := 0) (Rd.st hs (.tail _ (.head _))) rfl hb64 (FO.of (off := 6) Try.underlying59 rfl rfl ti3 (by decide))) ?_; clear hs; (try clear a w); intro a w hs
      obtain ⟨x70, hx71, hm⟩ := ob hm
      have hex70 := seti_some hx71
      have hW73 := RW.set (i := (q0.Nodes.length : Int).toNat) (r := [.int .i64 (x58.Kind), .string (x58.Name), .string (x58.Text), v65, .int .i64 (x58.Parent), .int .i64 (x58.First), .int .i64 (y56), .int .i64 (x58.Prev), .int .i64 (x58.Next)]) (x := (({x58 with Last := y56} : api_Node) : api_Node)) hW54 (⟨_, rfl, ⟨rw66, hR67, hW68⟩⟩); rw [hex70] at hW73
      refine RL_storeRow (i := 1) (j := 6) (m := (q0.Nodes.length : Int).toNat) hs rfl rfl rfl hr61 (by decide) ti3 rfl (.free rfl) ?_; clear hs; (try clear a w); intro a w hs
      replace hs : St _ _ _ (.blk cb0 (.cells #[v52] 24 (0, 0)) :: .row v52 59 9 (rw53.set ((q0.Nodes.length : Int).toNat) [.int .i64 (x58.Kind), .string (x58.Name), .string (x58.Text), v65, .int .i64 (x58.Parent), .int .i64 (x58.First), .int .i64 (y56), .int .i64 (x58.Prev), .int .i64 (x58.Next)]) :: L) _ _ _ := hs
      generalize hgrw72 : rw53.set ((q0.Nodes.length : Int).toNat) [.int .i64 (x58.Kind), .string (x58.Name), .string (x58.Text), v65, .int .i64 (x58.Parent), .int .i64 (x58.First), .int .i64 (y56), .int .i64 (x58.Prev), .int .i64 (x58.Next)] = rw72 at hs hW73; clear hgrw72
      replace hs : St _ _ _ (.blk cb0 (.cells #[v52] 24 (0, 0)) :: .row v52 59 9 rw72 :: L) _ _ _ := hs
      refine RL_nil ?_
      refine hK13 _ _ ?_; clear hK13
      refine W_seq fun K14 hK14 => ?_
      refine W_region ?_
      refine sy (v := .int .i64 ((q0.Nodes.length : Int))) hs (y_move rfl) ?_; clear hs; (try clear a w); intro a w hs
      refine sy (v := .int .i64 ((q0.Nodes.length : Int))) hs (y_assign rfl) ?_; clear hs; (try clear a w); intro a w hs
      refine RL_nil ?_
      refine hK14 _ _ ?_; clear hK14
      refine W_ret ?_
      obtain rfl := Option.some.inj hm
      refine RtV1 hs rfl (rv_t hs rfl) ?_
      exact ⟨_, f49, [.blk cb0 (.cells #[v52] 24 (0, 0)), .row v52 59 9 rw72], rfl, hle, hs.cw, v52, rw72, rfl, rfl, hW73⟩
     ·refine W_block fun Qe15 hB15 hO15 => ?_
      have hbase := Fz.le.refl f17
      replace hs : St _ _ _ (.blk b20 (.cells #[.int .i64 (y29.Kind), .string (y29.Name), .string (y29.Text), v32, .int .i64 (y29.Parent), .int .i64 (y29.First), .int .i64 (y29.Last), .int .i64 (y29.Prev), .int .i64 (y29.Next)] 59 (0, 0)) :: .blk b15 (.cells #[.string (p0.Name), .string (p0.Text), v1, v6] 35 (0, 0)) :: .blk cb0 (.cells #[v44] 24 (0, 0)) :: .row v44 59 9 rw45 :: L) _ _ _ := hs
      refine W_loop (fun (k : Nat) a w => ∃ (f75 : Fz) (y77 : (List api_Node)) (y82 : Int) (y83 : Int) (v78 : Value) (rw79 : List (List Value)), Fz.le f17 f75 ∧ dom_Make_1_l4 p0 q0 slf k y77 y82 y83 = some res ∧ RW t_api_Node f75 rw79 y77 ∧ St 89 w0 f75 (.blk cb0 (.cells #[v78] 24 (0, 0)) :: .row v78 59 9 rw79 :: L) [(3, .pointer (some ⟨cb0, 0, none⟩)), (4, .pointer (some ⟨cb1, 0, none⟩)), (9, .int .i64 ((q0.Nodes.length : Int))), (11, .int .i64 (y82)), (51, v6), (52, .int .i64 ((p0.Kids.length : Int))), (53, .int .i64 (y83))] a w) (fun k => k) n ⟨_, x42, (-1), 0, v44, rw45, (Fz.le.refl _), hm, hW46, hs.subs ⟨rfl, rfl, rfl, rfl, rfl, rfl, rfl, trivial⟩ (.cons _ (.cons _ (.cons_cons _ (.cons_cons _ (.refl _)))))⟩ ?_
      clear hs hm
      intro k
      rintro a w ⟨f75, y77, y82, y83, v78, rw79, hl76, hm, hW80, hs⟩
      replace hR3 := hR3.le hl76
      replace hW4 := hW4.le hl76
      replace hR8 := hR8.le hl76
      replace hW9 := hW9.le hl76
      replace cv0_0h := cv0_0h.le hl76
      replace hc1 := hl76 _ _ hc1
      replace hR25 := hR25.le hl76
      replace hW26 := hW26.le hl76
      replace hR34 := hR34.le hl76
      replace hW35 := hW35.le hl76
      replace hW38 := hW38.le hl76
      replace hW46 := hW46.le hl76
      replace hle := hle.trans hl76
      replace hbase57 := hbase57.trans hl76
      replace hs : St _ _ _ (.blk cb0 (.cells #[v78] 24 (0, 0)) :: .row v78 59 9 rw79 :: L) _ _ _ := hs
      intro K16 hK16
      cases k with
      | zero => simp [dom_Make_1_l4] at hm
      | succ k84 =>
       rw [dom_Make_1_l4] at hm
       have hbase85 := hl76
       refine W_seq fun K17 hK17 => ?_
       refine W_region ?_
       refine sy hs (y_lss rfl rfl) ?_; clear hs; (try clear a w); intro a w hs
       refine RL_nil ?_
       refine hK17 _ _ ?_; clear hK17
       refine W_seq fun K18 hK18 => ?_
       refine W_cond hs rfl (fun hg86 => ?_) (fun hg86 => ?_)
       ·replace hm := oc_t hg86 hm
        refine W_skip ?_
        refine hK18 _ _ ?_; clear hK18
        refine W_seq fun K19 hK19 => ?_
        refine W_block fun Qe20 hB20 hO20 => ?_
        refine W_seq fun K21 hK21 => ?_
        refine W_region ?_
        obtain ⟨x87, hx88, hm⟩ := ob hm
        obtain ⟨r89, hr90, hq91, hi92, hb93⟩ := hW9.geti hx88
        obtain ⟨v94, v99, rfl, ⟨rw95, hR96, hW97⟩, ⟨rw100, hR101, hW102⟩⟩ := R_dom_Part.ex hq91
        refine sy hs (y_indexAddr hR8 rfl rfl hi92 hb93 Try.underlying33 ti35) ?_; clear hs; (try clear a w); intro a w hs
        refine sy hs (y_loadRow hR8.up rfl hr90 Try.underlying35 rfl ti35) ?_; clear hs; (try clear a w); intro a w hs
        refine RL_alloc hs ti35 (.free rfl) (by decide) ?_; clear hs; (try clear a w); intro b104 a w hs
        replace hs : St _ _ _ (.blk b104 (.cells #[.string ((bs [])), .string ((bs [])), (.slice none 0 0), (.slice none 0 0)] 35 (0, 0)) :: .blk cb0 (.cells #[v78] 24 (0, 0)) :: .row v78 59 9 rw79 :: L) _ _ _ := hs
        refine RL_storeAll (i := 0) hs rfl rfl rfl ti35 ⟨rfl, rfl⟩ (AllC.arr (r := [.string (x87.Name), .string (x87.Text), v94, v99]) ⟨rfl, rfl, hR96.one, hR101.one, trivial⟩) (.free rfl) ?_; clear hs; (try clear a w); intro a w hs
        replace hs : St _ _ _ (.blk b104 (.cells #[.string (x87.Name), .string (x87.Text), v94, v99] 35 (0, 0)) :: .blk cb0 (.cells #[v78] 24 (0, 0)) :: .row v78 59 9 rw79 :: L) _ _ _ := hs
        refine RL_nil ?_
        refine hK21 _ _ ?_; clear hK21
        refine W_seq fun K22 hK22 => ?_
        refine W_region ?_
        refine sy (v := .func (.func 40) #[] #[.pointer (some ⟨cb0, 0, none⟩), .pointer (some ⟨cb1, 0, none⟩)]) hs (y_ld rfl Try.underlying71 rfl (Cell.fz hc1 rfl)) ?_; clear hs; (try clear a w); intro a w hs
        refine sy hs (y_ldB rfl Try.underlying35 rfl ti35 (.head _) rfl) ?_; clear hs; (try clear a w); intro a w hs
        refine sy (v := .int .i64 ((q0.Nodes.length : Int))) hs (y_move rfl) ?_; clear hs; (try clear a w); intro a w hs
        refine sy (v := .int .i64 (y82)) hs (y_move rfl) ?_; clear hs; (try clear a w); intro a w hs
        obtain ⟨x108, hx109, hm⟩ := ob hm
        replace hs := hs.front 2
        replace hs := hs.front 2
        replace hs : St _ _ _ (.blk cb0 (.cells #[v78] 24 (0, 0)) :: .row v78 59 9 rw79 :: .blk b104 (.cells #[.string (x87.Name), .string (x87.Text), v94, v99] 35 (0, 0)) :: L) _ _ _ := hs
        refine RL_call (Lr := [.blk cb0 (.cells #[v78] 24 (0, 0)), .row v78 59 9 rw79]) (Lf := .blk b104 (.cells #[.string (x87.Name), .string (x87.Text), v94, v99] 35 (0, 0)) :: L) hs rfl has40 rfl rfl (slf_ok (f := f75) (a0 := [.string (x87.Name), .string (x87.Text), v94, v99]) (cb0 := cb0) (cb1 := cb1) (R_dom_Part.of (x := x87) ⟨rw95, hR96, hW97⟩ ⟨rw100, hR101, hW102⟩) hW80 hc1 hx109) (.free rfl) (by decide) ?_; clear hs; (try clear a w)
        rintro _ f110 _ a w hf111 ⟨v112, rw113, rfl, rfl, hW114⟩ hs
        replace hR3 := hR3.le hf111
        replace hW4 := hW4.le hf111
        replace hR8 := hR8.le hf111
        replace hW9 := hW9.le hf111
        replace cv0_0h := cv0_0h.le hf111
        replace hc1 := hf111 _ _ hc1
        replace hR25 := hR25.le hf111
        replace hW26 := hW26.le hf111
        replace hR34 := hR34.le hf111
        replace hW35 := hW35.le hf111
        replace hW38 := hW38.le hf111
        replace hW46 := hW46.le hf111
        replace hW80 := hW80.le hf111
        replace hR96 := hR96.le hf111
        replace hW97 := hW97.le hf111
        replace hR101 := hR101.le hf111
        replace hW102 := hW102.le hf111
        replace hle := hle.trans hf111
        replace hbase57 := hbase57.trans hf111
        replace hbase85 := hbase85.trans hf111
        replace hs : St _ _ _ (.blk cb0 (.cells #[v112] 24 (0, 0)) :: .row v112 59 9 rw113 :: .blk b104 (.cells #[.string (x87.Name), .string (x87.Text), v94, v99] 35 (0, 0)) :: L) _ _ _ := hs
        refine sy (v := .int .i64 (x108.1)) hs (y_assign rfl) ?_; clear hs; (try clear a w); intro a w hs
        refine RL_nil ?_
        refine hK22 _ _ ?_; clear hK22
        refine W_seq fun K23 hK23 => ?_
        refine W_seq fun K24 hK24 => ?_
        refine W_region ?_
        refine sy (v := .int .i64 (y82)) hs (y_move rfl) ?_; clear hs; (try clear a w); intro a w hs
        refine sy hs (y_eql rfl rfl) ?_; clear hs; (try clear a w); intro a w hs
        refine RL_nil ?_
        refine hK24 _ _ ?_; clear hK24
        refine W_post (fun a w => ∃ (y116 : (List api_Node)) (v117 : Value) (rw118 : List (List Value)), dom_Make_1_k5 q0 y83 (dom_Make_1_l4 p0 q0 slf k84) x108 y116 = some res ∧ RW t_api_Node f110 rw118 y116 ∧ St 89 w0 f110 (.blk cb0 (.cells #[v117] 24 (0, 0)) :: .row v117 59 9 rw118 :: L) [(3, .pointer (some ⟨cb0, 0, none⟩)), (4, .pointer (some ⟨cb1, 0, none⟩)), (9, .int .i64 ((q0.Nodes.length : Int))), (14, .int .i64 (x108.1)), (51, v6), (52, .int .i64 ((p0.Kids.length : Int))), (53, .int .i64 (y83))] a w) ?_ ?_
        ·clear hs hm
         rintro a w ⟨y116, v117, rw118, hm, hW119, hs⟩
         replace hs : St _ _ _ (.blk cb0 (.cells #[v117] 24 (0, 0)) :: .row v117 59 9 rw118 :: L) _ _ _ := hs
         unfold dom_Make_1_k5 at hm
         refine hK23 _ _ ?_; clear hK23
         refine W_seq fun K25 hK25 => ?_
         refine W_region ?_
         refine sy (v := .int .i64 (x108.1)) hs (y_move rfl) ?_; clear hs; (try clear a w); intro a w hs
         refine sy (v := .int .i64 (x108.1)) hs (y_assign rfl) ?_; clear hs; (try clear a w); intro a w hs
         refine RL_nil ?_
         refine hK25 _ _ ?_; clear hK25
         refine W_seq fun K26 hK26 => ?_
         refine W_region ?_
         refine sy (v := .pointer (some ⟨cb0, 0, none⟩)) hs (y_fieldAddr rfl (FO.of (off := 0) Try.underlying24 rfl rfl ti22 (by decide))) ?_; clear hs; (try clear a w); intro a w hs
         refine sy (v := v117) hs (y_ld rfl Try.underlying22 rfl (Cell.blk (.head _) rfl)) ?_; clear hs; (try clear a w); intro a w hs
         refine sy hs (y_lenW (Rd.st hs (.tail _ (.head _))) hW119 rfl Try.underlying22) ?_; clear hs; (try clear a w); intro a w hs
         refine sy hs (y_gtr rfl rfl) ?_; clear hs; (try clear a w); intro a w hs
         refine RL_nil ?_
         refine hK26 _ _ ?_; clear hK26
         refine W_cond hs rfl (fun hg121 => ?_) (fun hg121 => ?_)
         ·replace hm := oc_t hg121 hm
          refine W_exit ?_
          refine hO20 _ rfl _ _ ?_
          refine hB15 _ _ ?_
          replace hs : St _ _ _ (.blk cb0 (.cells #[v117] 24 (0, 0)) :: .row v117 59 9 rw118 :: L) _ _ _ := hs
          exact ⟨_, y116, x108.1, v117, rw118, hbase57, hm, hW119, hs.sub ⟨rfl, rfl, rfl, trivial⟩⟩
         ·replace hm := oc_f hg121 hm
          refine W_skip ?_
          refine hK19 _ _ ?_; clear hK19
          refine W_region ?_
          refine sy hs (y_add rfl rfl rfl) ?_; clear hs; (try clear a w); intro a w hs
          refine sy (v := .int .i64 ((w64 (y83 + 1)))) hs (y_move rfl) ?_; clear hs; (try clear a w); intro a w hs
          refine RL_nil ?_
          replace hs : St _ _ _ (.blk cb0 (.cells #[v117] 24 (0, 0)) :: .row v117 59 9 rw118 :: L) _ _ _ := hs
          exact hK16 k84 _ _ (Nat.lt_succ_self _) ⟨_, y116, x108.1, (w64 (y83 + 1)), v117, rw118, hbase85, hm, hW119, hs.sub ⟨rfl, rfl, rfl, rfl, rfl, rfl, rfl, trivial⟩⟩
        ·refine W_cond hs rfl (fun hg122 => ?_) (fun hg122 => ?_)
         ·replace hm := oc_t hg122 hm
          refine W_region ?_
          refine sy (v := .pointer (some ⟨cb0, 0, none⟩)) hs (y_fieldAddr rfl (FO.of (off := 0) Try.underlying24 rfl rfl ti22 (by decide))) ?_; clear hs; (try clear a w); intro a w hs
          refine sy (v := v112) hs (y_ld rfl Try.underlying22 rfl (Cell.blk (.head _) rfl)) ?_; clear hs; (try clear a w); intro a w hs
          refine sy (v := .int .i64 ((q0.Nodes.length : Int))) hs (y_move rfl) ?_; clear hs; (try clear a w); intro a w hs
          refine sy (v := .int .i64 (x108.1)) hs (y_move rfl) ?_; clear hs; (try clear a w); intro a w hs
          obtain ⟨x123, hx124, hm⟩ := ob hm
          obtain ⟨r125, hr126, hq127, hi128, hb129⟩ := hW114.geti hx124
          obtain ⟨v130, rfl, ⟨rw131, hR132, hW133⟩⟩ := hq127
          refine sy hs (y_indexAddr (Rd.st hs (.tail _ (.head _))) rfl rfl hi128 hb129 Try.underlying22 ti59) ?_; clear hs; (try clear a w); intro a w hs
          refine sy (v := eaddr v112 9 ((q0.Nodes.length : Int).toNat) 5) hs (y_fieldAddrE (i := (q0.Nodes.length : Int).toNat) (j := 0) (Rd.st hs (.tail _ (.head _))) rfl hb129 (FO.of (off := 5) Try.underlying59 rfl rfl ti3 (by decide))) ?_; clear hs; (try clear a w); intro a w hs
          obtain ⟨x135, hx136, hm⟩ := ob hm
          have hex135 := seti_some hx136
          have hW138 := RW.set (i := (q0.Nodes.length : Int).toNat) (r := [.int .i64 (x123.Kind), .string (x123.Name), .string (x123.Text), v130, .int .i64 (x123.Parent), .int .i64 (x108.1), .int .i64 (x123.Last), .int .i64 (x123.Prev), .int .i64 (x123.Next)]) (x := (({x123 with First := x108.1} : api_Node) : api_Node)) hW114 (⟨_, rfl, ⟨rw131, hR132, hW133⟩⟩); rw [hex135] at hW138
          refine RL_storeRow (i := 1) (j := 5) (m := (q0.Nodes.length : Int).toNat) hs rfl rfl rfl hr126 (by decide) ti3 rfl (.free rfl) ?_; clear hs; (try clear a w); intro a w hs
          replace hs : St _ _ _ (.blk cb0 (.cells #[v112] 24 (0, 0)) :: .row v112 59 9 (rw113.set ((q0.Nodes.length : Int).toNat) [.int .i64 (x123.Kind), .string (x123.Name), .string (x123.Text), v130, .int .i64 (x123.Parent), .int .i64 (x108.1), .int .i64 (x123.Last), .int .i64 (x123.Prev), .int .i64 (x123.Next)]) :: .blk b104 (.cells #[.string (x87.Name), .string (x87.Text), v94, v99] 35 (0, 0)) :: L) _ _ _ := hs
          generalize hgrw137 : rw113.set ((q0.Nodes.length : Int).toNat) [.int .i64 (x123.Kind), .string (x123.Name), .string (x123.Text), v130, .int .i64 (x123.Parent), .int .i64 (x108.1), .int .i64 (x123.Last), .int .i64 (x123.Prev), .int .i64 (x123.Next)] = rw137 at hs hW138; clear hgrw137
          replace hs : St _ _ _ (.blk cb0 (.cells #[v112] 24 (0, 0)) :: .row v112 59 9 rw137 :: .blk b104 (.cells #[.string (x87.Name), .string (x87.Text), v94, v99] 35 (0, 0)) :: L) _ _ _ := hs
          refine RL_nil ?_
          replace hs : St _ _ _ (.blk cb0 (.cells #[v112] 24 (0, 0)) :: .row v112 59 9 rw137 :: .blk b104 (.cells #[.string (x87.Name), .string (x87.Text), v94, v99] 35 (0, 0)) :: L) _ _ _ := hs
          exact ⟨x135, v112, rw137, hm, hW138, hs.subs ⟨rfl, rfl, rfl, rfl, rfl, rfl, rfl, trivial⟩ (.cons_cons _ (.cons_cons _ (.cons _ (.refl _))))⟩
         ·replace hm := oc_f hg122 hm
          refine W_region ?_
          refine sy (v := .pointer (some ⟨cb0, 0, none⟩)) hs (y_fieldAddr rfl (FO.of (off := 0) Try.underlying24 rfl rfl ti22 (by decide))) ?_; clear hs; (try clear a w); intro a w hs
          refine sy (v := v112) hs (y_ld rfl Try.underlying22 rfl (Cell.blk (.head _) rfl)) ?_; clear hs; (try clear a w); intro a w hs
          refine sy (v := .int .i64 (y82)) hs (y_move rfl) ?_; clear hs; (try clear a w); intro a w hs
          refine sy (v := .int .i64 (x108.1)) hs (y_move rfl) ?_; clear hs; (try clear a w); intro a w hs
          obtain ⟨x140, hx141, hm⟩ := ob hm
          obtain ⟨r142, hr143, hq144, hi145, hb146⟩ := hW114.geti hx141
          obtain ⟨v147, rfl, ⟨rw148, hR149, hW150⟩⟩ := hq144
          refine sy hs (y_indexAddr (Rd.st hs (.tail _ (.head _))) rfl rfl hi145 hb146 Try.underlying22 ti59) ?_; clear hs; (try clear a w); intro a w hs
          refine sy (v := eaddr v112 9 y82.toNat 8) hs (y_fieldAddrE (i := y82.toNat) (j := 0) (Rd.st hs (.tail _ (.head _))) rfl hb146 (FO.of (off := 8) Try.underlying59 rfl rfl ti3 (by decide))) ?_; clear hs; (try clear a w); intro a w hs
          obtain ⟨x152, hx153, hm⟩ := ob hm
          have hex152 := seti_some hx153
          have hW155 := RW.set (i := y82.toNat) (r := [.int .i64 (x140.Kind), .string (x140.Name), .string (x140.Text), v147, .int .i64 (x140.Parent), .int .i64 (x140.First), .int .i64 (x140.Last), .int .i64 (x140.Prev), .int .i64 (x108.1)]) (x := (({x140 with Next := x108.1} : api_Node) : api_Node)) hW114 (⟨_, rfl, ⟨rw148, hR149, hW150⟩⟩); rw [hex152] at hW155
          refine RL_storeRow (i := 1) (j := 8) (m := y82.toNat) hs rfl rfl rfl hr143 (by decide) ti3 rfl (.free rfl) ?_; clear hs; (try clear a w); intro a w hs
          replace hs : St _ _ _ (.blk cb0 (.cells #[v112] 24 (0, 0)) :: .row v112 59 9 (rw113.set y82.toNat [.int .i64 (x140.Kind), .string (x140.Name), .string (x140.Text), v147, .int .i64 (x140.Parent), .int .i64 (x140.First), .int .i64 (x140.Last), .int .i64 (x140.Prev), .int .i64 (x108.1)]) :: .blk b104 (.cells #[.string (x87.Name), .string (x87.Text), v94, v99] 35 (0, 0)) :: L) _ _ _ := hs
          generalize hgrw154 : rw113.set y82.toNat [.int .i64 (x140.Kind), .string (x140.Name), .string (x140.Text), v147, .int .i64 (x140.Parent), .int .i64 (x140.First), .int .i64 (x140.Last), .int .i64 (x140.Prev), .int .i64 (x108.1)] = rw154 at hs hW155; clear hgrw154
          replace hs : St _ _ _ (.blk cb0 (.cells #[v112] 24 (0, 0)) :: .row v112 59 9 rw154 :: .blk b104 (.cells #[.string (x87.Name), .string (x87.Text), v94, v99] 35 (0, 0)) :: L) _ _ _ := hs
          refine RL_nil ?_
          replace hs : St _ _ _ (.blk cb0 (.cells #[v112] 24 (0, 0)) :: .row v112 59 9 rw154 :: .blk b104 (.cells #[.string (x87.Name), .string (x87.Text), v94, v99] 35 (0, 0)) :: L) _ _ _ := hs
          exact ⟨x152, v112, rw154, hm, hW155, hs.subs ⟨rfl, rfl, rfl, rfl, rfl, rfl, rfl, trivial⟩ (.cons_cons _ (.cons_cons _ (.cons _ (.refl _))))⟩
       ·replace hm := oc_f hg86 hm
        refine W_exit ?_
        refine hB15 _ _ ?_
        replace hs : St _ _ _ (.blk cb0 (.cells #[v78] 24 (0, 0)) :: .row v78 59 9 rw79 :: L) _ _ _ := hs
        exact ⟨_, y77, y82, v78, rw79, hbase57, hm, hW80, hs.sub ⟨rfl, rfl, rfl, trivial⟩⟩
   ·refine W_region ?_
    refine sy (v := .pointer (some ⟨cb0, 0, none⟩)) hs (y_fieldAddr rfl (FO.of (off := 0) Try.underlying24 rfl rfl ti22 (by decide))) ?_; clear hs; (try clear a w); intro a w hs
    refine sy (v := v44) hs (y_ld rfl Try.underlying22 rfl (Cell.blk (.tail _ (.tail _ (.head _))) rfl)) ?_; clear hs; (try clear a w); intro a w hs
    refine sy hs (y_lenW (Rd.st hs (.tail _ (.tail _ (.tail _ (.head _))))) hW46 rfl Try.underlying22) ?_; clear hs; (try clear a w); intro a w hs
    refine sy hs (y_gtr rfl rfl) ?_; clear hs; (try clear a w); intro a w hs
    refine sy (v := .bool (decide (4096 < (x42.length : Int)))) hs (y_move rfl) ?_; clear hs; (try clear a w); intro a w hs
    refine St.split hs (t := 44) rfl (fun hg157 hq => ?_) (fun hg157 hq => ?_)
    ·clear hs; have hs := hq; clear hq
     refine sno hs ?_; clear hs; (try clear a w); intro a w hs
     refine sno hs ?_; clear hs; (try clear a w); intro a w hs
     refine sno hs ?_; clear hs; (try clear a w); intro a w hs
     refine sy (v := .bool (true)) hs (y_pick rfl rfl) ?_; clear hs; (try clear a w); intro a w hs
     refine RL_nil ?_
     exact hs.sub ⟨rfl, rfl, rfl, rfl, (lkB (((or_t hg157).trans rfl)) rfl), trivial⟩
    ·clear hs; have hs := hq; clear hq
     refine syg (v := .pointer (some ⟨b15, 0, none⟩)) hs (y_fieldAddr rfl (FO.of (off := 0) Try.underlying35 rfl rfl ti9 (by decide))) ?_; clear hs; (try clear a w); intro a w hs
     refine syg (v := .string (p0.Name)) hs (y_ld rfl Try.underlying9 rfl (Cell.blk (.tail _ (.head _)) rfl)) ?_; clear hs; (try clear a w); intro a w hs
     refine syg hs (y_seql rfl rfl) ?_; clear hs; (try clear a w); intro a w hs
     refine sy (v := .bool (decide (p0.Name = (bs [])))) hs (y_pick rfl rfl) ?_; clear hs; (try clear a w); intro a w hs
     refine RL_nil ?_
     exact hs.sub ⟨rfl, rfl, rfl, rfl, (lkB (((or_f hg157).trans rfl)) rfl), trivial⟩
  ·refine W_cond hs rfl (fun hg158 => ?_) (fun hg158 => ?_)
   ·replace hm := oc_t hg158 hm
    have hsD := hs.subL (L' := .blk b15 (.cells #[.string (p0.Name), .string (p0.Text), v1, v6] 35 (0, 0)) :: []) (.cons _ (.cons_cons _ (.cons _ (.cons _ (List.nil_sublist _)))))
    refine T_start hs (.blk b15 (.cells #[.string (p0.Name), .string (p0.Text), v1, v6] 35 (0, 0)) :: []) [7] (.look 0 (.look 1 (.look 2 (.any [3] (fun _ => .look 4 (.any [5] (fun _ => .look 6 (.any [7] (fun _ => .done))))))))) mixed (by kernel_rfl) ?_; clear hs; (try clear a w); intro a he
    refine uy (v := .pointer (some ⟨b15, 1, none⟩)) 0 he rfl (y_fieldAddr rfl (FO.of (off := 1) Try.underlying35 rfl rfl ti9 (by decide))) ?_; clear he; (try clear a); intro a he
    refine uy (v := .string (p0.Text)) 1 he rfl (y_ld rfl Try.underlying9 rfl (Cell.blk (.head _) rfl)) ?_; clear he; (try clear a); intro a he
    refine uy (v := .pointer (some ⟨b20, 0, none⟩)) 2 he rfl (y_fieldAddr rfl (FO.of (off := 0) Try.underlying59 rfl rfl ti3 (by decide))) ?_; clear he; (try clear a); intro a he
    refine T_any1 he rfl ?_; clear he; (try clear a); intro a w hs
    refine sstore 0 hs rfl rfl rfl ti3 rfl ?_; clear hs; (try clear a w); intro a w hs
    replace hs : St _ _ _ (.blk b20 (.cells #[.int .i64 (2), .string (p0.Name), .string ((bs [])), v22, .int .i64 (p1), .int .i64 ((-1)), .int .i64 ((-1)), .int .i64 (p2), .int .i64 ((-1))] 59 (0, 0)) :: .blk b15 (.cells #[.string (p0.Name), .string (p0.Text), v1, v6] 35 (0, 0)) :: .blk cb0 (.cells #[cv0_0] 24 (0, 0)) :: .row cv0_0 59 9 cv0_0r :: L) _ _ _ := hs
    refine uon hs ?_; clear hs; (try clear a w); intro a he
    refine uy (v := .pointer (some ⟨b20, 2, none⟩)) 4 he rfl (y_fieldAddr rfl (FO.of (off := 2) Try.underlying59 rfl rfl ti9 (by decide))) ?_; clear he; (try clear a); intro a he
    refine T_any1 he rfl ?_; clear he; (try clear a); intro a w hs
    refine sstore 0 hs rfl rfl rfl ti9 rfl ?_; clear hs; (try clear a w); intro a w hs
    replace hs : St _ _ _ (.blk b20 (.cells #[.int .i64 (2), .string (p0.Name), .string (p0.Text), v22, .int .i64 (p1), .int .i64 ((-1)), .int .i64 ((-1)), .int .i64 (p2), .int .i64 ((-1))] 59 (0, 0)) :: .blk b15 (.cells #[.string (p0.Name), .string (p0.Text), v1, v6] 35 (0, 0)) :: .blk cb0 (.cells #[cv0_0] 24 (0, 0)) :: .row cv0_0 59 9 cv0_0r :: L) _ _ _ := hs
    refine uon hs ?_; clear hs; (try clear a w); intro a he
    refine uy (v := .pointer (some ⟨b20, 3, none⟩)) 6 he rfl (y_fieldAddr rfl (FO.of (off := 3) Try.underlying59 rfl rfl ti32 (by decide))) ?_; clear he; (try clear a); intro a he
    refine T_any1 he rfl ?_; clear he; (try clear a); intro a w hs
    refine sstore 0 hs rfl rfl rfl ti32 rfl ?_; clear hs; (try clear a w); intro a w hs
    replace hs : St _ _ _ (.blk b20 (.cells #[.int .i64 (2), .string (p0.Name), .string (p0.Text), (.slice none 0 0), .int .i64 (p1), .int .i64 ((-1)), .int .i64 ((-1)), .int .i64 (p2), .int .i64 ((-1))] 59 (0, 0)) :: .blk b15 (.cells #[.string (p0.Name), .string (p0.Text), v1, v6] 35 (0, 0)) :: .blk cb0 (.cells #[cv0_0] 24 (0, 0)) :: .row cv0_0 59 9 cv0_0r :: L) _ _ _ := hs
    refine uend hs ?_; clear hs; (try clear a w); intro a he
    refine T_nil he ?_; clear he; (try clear a); intro w hs; try clear hsD
    replace hs : St _ _ _ (.blk b20 (.cells #[.int .i64 (2), .string (p0.Name), .string (p0.Text), (.slice none 0 0), .int .i64 (p1), .int .i64 ((-1)), .int .i64 ((-1)), .int .i64 (p2), .int .i64 ((-1))] 59 (0, 0)) :: .blk b15 (.cells #[.string (p0.Name), .string (p0.Text), v1, v6] 35 (0, 0)) :: .blk cb0 (.cells #[cv0_0] 24 (0, 0)) :: .row cv0_0 59 9 cv0_0r :: L) _ _ _ := hs
    exact ⟨({Kind := 2, Name := p0.Name, Text := p0.Text, Attrs := ([] : List api_Attr), Parent := p1, First := (-1), Last := (-1), Prev := p2, Next := (-1)} : api_Node), [.int .i64 (2), .string (p0.Name), .string (p0.Text), (.slice none 0 0), .int .i64 (p1), .int .i64 ((-1)), .int .i64 ((-1)), .int .i64 (p2), .int .i64 ((-1))], hm, ⟨_, rfl, RS.nil⟩, hs.sub ⟨rfl, rfl, rfl, rfl, rfl, trivial⟩⟩
   ·replace hm := oc_f hg158 hm
    refine W_skip ?_
    replace hs : St _ _ _ (.blk b20 (.cells #[.int .i64 (1), .string (p0.Name), .string ((bs [])), v22, .int .i64 (p1), .int .i64 ((-1)), .int .i64 ((-1)), .int .i64 (p2), .int .i64 ((-1))] 59 (0, 0)) :: .blk b15 (.cells #[.string (p0.Name), .string (p0.Text), v1, v6] 35 (0, 0)) :: .blk cb0 (.cells #[cv0_0] 24 (0, 0)) :: .row cv0_0 59 9 cv0_0r :: L) _ _ _ := hs
    exact ⟨({Kind := 1, Name := p0.Name, Text := (bs []), Attrs := y21, Parent := p1, First := (-1), Last := (-1), Prev := p2, Next := (-1)} : api_Node), [.int .i64 (1), .string (p0.Name), .string ((bs [])), v22, .int .i64 (p1), .int .i64 ((-1)), .int .i64 ((-1)), .int .i64 (p2), .int .i64 ((-1))], hm, ⟨_, rfl, ⟨rw24, hR25, hW26⟩⟩, hs.sub ⟨rfl, rfl, rfl, rfl, rfl, trivial⟩⟩
 ·have hsD := hs.subL (L' := .blk b15 (.cells #[.string (p0.Name), .string (p0.Text), v1, v6] 35 (0, 0)) :: []) (.cons_cons _ (.cons _ (.cons _ (List.nil_sublist _))))
  refine T_start hs (.blk b15 (.cells #[.string (p0.Name), .string (p0.Text), v1, v6] 35 (0, 0)) :: []) [9] (.look 0 (.look 1 (.look 2 (.look 3 (.look 5 (.look 6 (.any [4, 8] (fun i => bif Nat.beq i 4 then .look 7 (.any [8] (fun _ => .any [9] (fun _ => .done))) else .any [4] (fun _ => .look 7 (.any [9] (fun _ => .done))))))))))) mixed (by kernel_rfl) ?_; clear hs; (try clear a w); intro a he
  refine uy (v := .pointer (some ⟨b15, 0, none⟩)) 0 he rfl (y_fieldAddr rfl (FO.of (off := 0) Try.underlying35 rfl rfl ti9 (by decide))) ?_; clear he; (try clear a); intro a he
  refine uy (v := .string (p0.Name)) 1 he rfl (y_ld rfl Try.underlying9 rfl (Cell.blk (.head _) rfl)) ?_; clear he; (try clear a); intro a he
  refine uy (v := .pointer (some ⟨b15, 2, none⟩)) 2 he rfl (y_fieldAddr rfl (FO.of (off := 2) Try.underlying35 rfl rfl ti32 (by decide))) ?_; clear he; (try clear a); intro a he
  refine uy (v := v1) 3 he rfl (y_ld rfl Try.underlying32 rfl (Cell.blk (.head _) rfl)) ?_; clear he; (try clear a); intro a he
  refine uy (v := .int .i64 (p1)) 5 he rfl (y_move rfl) ?_; clear he; (try clear a); intro a he
  refine uy (v := .int .i64 (p2)) 6 he rfl (y_move rfl) ?_; clear he; (try clear a); intro a he
  refine T_any2 he rfl rfl ?_ ?_ <;> (clear he; (try clear a); intro a w hs)
  ·obtain ⟨x160, hx161, hm⟩ := ob hm
   refine RL_callV hs rfl has41 rfl (slices_Clone_ok n (f := f) (a0 := v1) ⟨rw2, hR3, hW4⟩ hx161) ?_; clear hs; (try clear a w)
   rintro v164 f162 _ a w hf163 ⟨_, rfl, rfl, ⟨rw165, hR166, hW167⟩⟩ hs
   have hR168 := hR3.le hf163
   have hW169 := hW4.le hf163
   have hR170 := hR8.le hf163
   have hW171 := hW9.le hf163
   have cv172 := cv0_0h.le hf163
   have hc173 := hf163 _ _ hc1
   replace hle := hle.trans hf163
   replace hbase28 := hbase28.trans hf163
   replace hs : St _ _ _ (.blk b15 (.cells #[.string (p0.Name), .string (p0.Text), v1, v6] 35 (0, 0)) :: .blk cb0 (.cells #[cv0_0] 24 (0, 0)) :: .row cv0_0 59 9 cv0_0r :: L) _ _ _ := hs
   refine uon hs ?_; clear hs; (try clear a w); intro a he
   refine uy 7 he rfl (y_buildS (places := [(0, 1), (1, 1), (2, 1), (3, 1), (4, 1), (5, 1), (6, 1), (7, 1), (8, 1)]) (cs := [.int .i64 (1), .string (p0.Name), .string ((bs [])), v164, .int .i64 (p1), .int .i64 ((-1)), .int .i64 ((-1)), .int .i64 (p2), .int .i64 ((-1))]) rfl Try.underlying59 ti59 (by kernel_rfl) (by decide) rfl ⟨rfl, rfl, hR166.one, rfl, rfl, rfl, rfl, rfl, trivial⟩) ?_; clear he; (try clear a); intro a he
   refine T_any1 he rfl ?_; clear he; (try clear a); intro a w hs
   refine RL_alloc hs ti59 (.free rfl) (by decide) ?_; clear hs; (try clear a w); intro b176 a w hs
   replace hs : St _ _ _ (.blk b176 (.cells #[.int .i64 (0), .string ((bs [])), .string ((bs [])), (.slice none 0 0), .int .i64 (0), .int .i64 (0), .int .i64 (0), .int .i64 (0), .int .i64 (0)] 59 (0, 0)) :: .blk b15 (.cells #[.string (p0.Name), .string (p0.Text), v1, v6] 35 (0, 0)) :: .blk cb0 (.cells #[cv0_0] 24 (0, 0)) :: .row cv0_0 59 9 cv0_0r :: L) _ _ _ := hs
   refine uon hs ?_; clear hs; (try clear a w); intro a he
   refine T_any1 he rfl ?_; clear he; (try clear a); intro a w hs
   refine RL_storeAll (i := 0) hs rfl rfl rfl ti59 ⟨rfl, rfl⟩ (AllC.arr (r := [.int .i64 (1), .string (p0.Name), .string ((bs [])), v164, .int .i64 (p1), .int .i64 ((-1)), .int .i64 ((-1)), .int .i64 (p2), .int .i64 ((-1))]) ⟨rfl, rfl, rfl, hR166.one, rfl, rfl, rfl, rfl, rfl, trivial⟩) (.free rfl) ?_; clear hs; (try clear a w); intro a w hs
   replace hs : St _ _ _ (.blk b176 (.cells #[.int .i64 (1), .string (p0.Name), .string ((bs [])), v164, .int .i64 (p1), .int .i64 ((-1)), .int .i64 ((-1)), .int .i64 (p2), .int .i64 ((-1))] 59 (0, 0)) :: .blk b15 (.cells #[.string (p0.Name), .string (p0.Text), v1, v6] 35 (0, 0)) :: .blk cb0 (.cells #[cv0_0] 24 (0, 0)) :: .row cv0_0 59 9 cv0_0r :: L) _ _ _ := hs
   refine uend hs ?_; clear hs; (try clear a w); intro a he
   refine T_nil he ?_; clear he; (try clear a); intro w hs; try clear hsD
   replace hs : St _ _ _ (.blk b176 (.cells #[.int .i64 (1), .string (p0.Name), .string ((bs [])), v164, .int .i64 (p1), .int .i64 ((-1)), .int .i64 ((-1)), .int .i64 (p2), .int .i64 ((-1))] 59 (0, 0)) :: .blk b15 (.cells #[.string (p0.Name), .string (p0.Text), v1, v6] 35 (0, 0)) :: .blk cb0 (.cells #[cv0_0] 24 (0, 0)) :: .row cv0_0 59 9 cv0_0r :: L) _ _ _ := hs
   exact ⟨_, x160, b176, v164, hbase28, hm, ⟨rw165, hR166, hW167⟩, hs.sub ⟨rfl, rfl, rfl, rfl, rfl, trivial⟩⟩
  ·refine RL_alloc hs ti59 (.free rfl) (by decide) ?_; clear hs; (try clear a w); intro b179 a w hs
   replace hs : St _ _ _ (.blk b179 (.cells #[.int .i64 (0), .string ((bs [])), .string ((bs [])), (.slice none 0 0), .int .i64 (0), .int .i64 (0), .int .i64 (0), .int .i64 (0), .int .i64 (0)] 59 (0, 0)) :: .blk b15 (.cells #[.string (p0.Name), .string (p0.Text), v1, v6] 35 (0, 0)) :: .blk cb0 (.cells #[cv0_0] 24 (0, 0)) :: .row cv0_0 59 9 cv0_0r :: L) _ _ _ := hs
   refine uon hs ?_; clear hs; (try clear a w); intro a he
   refine T_any1 he rfl ?_; clear he; (try clear a); intro a w hs
   obtain ⟨x182, hx183, hm⟩ := ob hm
   refine RL_callV hs rfl has41 rfl (slices_Clone_ok n (f := f) (a0 := v1) ⟨rw2, hR3, hW4⟩ hx183) ?_; clear hs; (try clear a w)
   rintro v186 f184 _ a w hf185 ⟨_, rfl, rfl, ⟨rw187, hR188, hW189⟩⟩ hs
   have hR190 := hR3.le hf185
   have hW191 := hW4.le hf185
   have hR192 := hR8.le hf185
   have hW193 := hW9.le hf185
   have cv194 := cv0_0h.le hf185
   have hc195 := hf185 _ _ hc1
   replace hle := hle.trans hf185
   replace hbase28 := hbase28.trans hf185
   replace hs : St _ _ _ (.blk b179 (.cells #[.int .i64 (0), .string ((bs [])), .string ((bs [])), (.slice none 0 0), .int .i64 (0), .int .i64 (0), .int .i64 (0), .int .i64 (0), .int .i64 (0)] 59 (0, 0)) :: .blk b15 (.cells #[.string (p0.Name), .string (p0.Text), v1, v6] 35 (0, 0)) :: .blk cb0 (.cells #[cv0_0] 24 (0, 0)) :: .row cv0_0 59 9 cv0_0r :: L) _ _ _ := hs
   refine uon hs ?_; clear hs; (try clear a w); intro a he
   refine uy 7 he rfl (y_buildS (places := [(0, 1), (1, 1), (2, 1), (3, 1), (4, 1), (5, 1), (6, 1), (7, 1), (8, 1)]) (cs := [.int .i64 (1), .string (p0.Name), .string ((bs [])), v186, .int .i64 (p1), .int .i64 ((-1)), .int .i64 ((-1)), .int .i64 (p2), .int .i64 ((-1))]) rfl Try.underlying59 ti59 (by kernel_rfl) (by decide) rfl ⟨rfl, rfl, hR188.one, rfl, rfl, rfl, rfl, rfl, trivial⟩) ?_; clear he; (try clear a); intro a he
   refine T_any1 he rfl ?_; clear he; (try clear a); intro a w hs
   refine RL_storeAll (i := 0) hs rfl rfl rfl ti59 ⟨rfl, rfl⟩ (AllC.arr (r := [.int .i64 (1), .string (p0.Name), .string ((bs [])), v186, .int .i64 (p1), .int .i64 ((-1)), .int .i64 ((-1)), .int .i64 (p2), .int .i64 ((-1))]) ⟨rfl, rfl, rfl, hR188.one, rfl, rfl, rfl, rfl, rfl, trivial⟩) (.free rfl) ?_; clear hs; (try clear a w); intro a w hs
   replace hs : St _ _ _ (.blk b179 (.cells #[.int .i64 (1), .string (p0.Name), .string ((bs [])), v186, .int .i64 (p1), .int .i64 ((-1)), .int .i64 ((-1)), .int .i64 (p2), .int .i64 ((-1))] 59 (0, 0)) :: .blk b15 (.cells #[.string (p0.Name), .string (p0.Text), v1, v6] 35 (0, 0)) :: .blk cb0 (.cells #[cv0_0] 24 (0, 0)) :: .row cv0_0 59 9 cv0_0r :: L) _ _ _ := hs
   refine uend hs ?_; clear hs; (try clear a w); intro a he
   refine T_nil he ?_; clear he; (try clear a); intro w hs; try clear hsD
   replace hs : St _ _ _ (.blk b179 (.cells #[.int .i64 (1), .string (p0.Name), .string ((bs [])), v186, .int .i64 (p1), .int .i64 ((-1)), .int .i64 ((-1)), .int .i64 (p2), .int .i64 ((-1))] 59 (0, 0)) :: .blk b15 (.cells #[.string (p0.Name), .string (p0.Text), v1, v6] 35 (0, 0)) :: .blk cb0 (.cells #[cv0_0] 24 (0, 0)) :: .row cv0_0 59 9 cv0_0r :: L) _ _ _ := hs
   exact ⟨_, x182, b179, v186, hbase28, hm, ⟨rw187, hR188, hW189⟩, hs.sub ⟨rfl, rfl, rfl, rfl, rfl, trivial⟩⟩
theorem dom_Make_1_ok : ∀ (n : Nat) {f : Fz} {p0 : dom_Part} {a0 : List Value} {p1 : Int} {p2 : Int} {cb0 : Nat} {q0 : api_Tree} {cv0_0 : Value} {cv0_0r : List (List Value)} {cb1 : Nat} {res : (Int × api_Tree)} (_h0 : t_dom_Part.R f a0 p0) (_cv0_0h : RW t_api_Node f cv0_0r q0.Nodes) (_hc1 : f cb1 = some (.cells #[.func (.func 40) #[] #[.pointer (some ⟨cb0, 0, none⟩), .pointer (some ⟨cb1, 0, none⟩)]] 71 (0, 0))) (_ : dom_Make_1 n p0 p1 p2 q0 = some res), Does Try.prog 40 [.agg a0.toArray, .int .i64 p1, .int .i64 p2, .pointer (some ⟨cb0, 0, none⟩), .pointer (some ⟨cb1, 0, none⟩)] f [.blk cb0 (.cells #[cv0_0] 24 (0, 0)), .row cv0_0 59 9 cv0_0r] (fun r f' L' => ∃ (dv0_0 : Value) (dv0_0r : List (List Value)), L' = [.blk cb0 (.cells #[dv0_0] 24 (0, 0)), .row dv0_0 59 9 dv0_0r] ∧ r = .int .i64 res.1 ∧ RW t_api_Node f' dv0_0r res.2.Nodes)
  | 0, f, p0, a0, p1, p2, cb0, q0, cv0_0, cv0_0r, cb1, res, h0, cv0_0h, hc1, hm => by simp [dom_Make_1] at hm
  | n + 1, f, p0, a0, p1, p2, cb0, q0, cv0_0, cv0_0r, cb1, res, h0, cv0_0h, hc1, hm => dom_Make_1_bok n (dom_Make_1_ok n) h0 cv0_0h hc1 hm
/-! casement/dom.Make -/
def dom_Make (n : Nat) (p0 : dom_Part) : Option (api_Tree × Int) :=
  (dom_Make_1 n p0 (-1) (-1) ({Nodes := ([] : List api_Node)} : api_Tree)).bind fun x24 =>
  (dom_Right n x24.2).bind fun x39 =>
  (bif (decide (x39 ≠ 0)) then some (({Nodes := ([] : List api_Node)} : api_Tree), x39) else
  some (x24.2, 0))
theorem dom_Make_ok (n : Nat) {f : Fz} {p0 : dom_Part} {a0 : List Value} {res : (api_Tree × Int)} (h0 : t_dom_Part.R f a0 p0) (hm : dom_Make n p0 = some res) : Does Try.prog 16 [.agg a0.toArray] f [] (fun r f' L' => ∃ (u0 : List Value), L' = [] ∧ r = .tuple #[.agg u0.toArray, .int .i64 res.2] ∧ t_api_Tree.R f' u0 res.1) := by
 unfold dom_Make at hm
 intro w0 L w hC
 obtain ⟨v1, v6, rfl, ⟨rw2, hR3, hW4⟩, ⟨rw7, hR8, hW9⟩⟩ := R_dom_Part.ex h0
 refine enter Try.func16 rfl Try.ntmps16 (by simp) hC fun a hs => ?_
 have hle := Fz.le.refl f
 refine W_seq fun K1 hK1 => ?_
 refine W_region ?_
 refine sbox hs rfl ?_; clear hs; (try clear a w); intro b11 a w hs
 replace hs : St _ _ _ (.blk b11 (.cells #[.string (p0.Name), .string (p0.Text), v1, v6] 35 (0, 0)) :: L) _ _ _ := hs
 refine RL_alloc hs ti24 (.free rfl) (by decide) ?_; clear hs; (try clear a w); intro b13 a w hs
 replace hs : St _ _ _ (.blk b13 (.cells #[(.slice none 0 0)] 24 (0, 0)) :: .blk b11 (.cells #[.string (p0.Name), .string (p0.Text), v1, v6] 35 (0, 0)) :: L) _ _ _ := hs
 refine sy (v := .int .i64 (0)) hs (y_assign rfl) ?_; clear hs; (try clear a w); intro a w hs
 refine RL_nil ?_
 refine hK1 _ _ ?_; clear hK1
 refine W_seq fun K2 hK2 => ?_
 refine W_region ?_
 refine RL_alloc hs ti24 (.free rfl) (by decide) ?_; clear hs; (try clear a w); intro b16 a w hs
 replace hs : St _ _ _ (.blk b16 (.cells #[(.slice none 0 0)] 24 (0, 0)) :: .blk b13 (.cells #[(.slice none 0 0)] 24 (0, 0)) :: .blk b11 (.cells #[.string (p0.Name), .string (p0.Text), v1, v6] 35 (0, 0)) :: L) _ _ _ := hs
 refine RL_nil ?_
 refine hK2 _ _ ?_; clear hK2
 refine W_seq fun K3 hK3 => ?_
 refine W_region ?_
 refine RL_alloc hs ti71 (.free rfl) (by decide) ?_; clear hs; (try clear a w); intro b19 a w hs
 replace hs : St _ _ _ (.blk b19 (.cells #[.nilFunc] 71 (0, 0)) :: .blk b16 (.cells #[(.slice none 0 0)] 24 (0, 0)) :: .blk b13 (.cells #[(.slice none 0 0)] 24 (0, 0)) :: .blk b11 (.cells #[.string (p0.Name), .string (p0.Text), v1, v6] 35 (0, 0)) :: L) _ _ _ := hs
 refine RL_nil ?_
 refine hK3 _ _ ?_; clear hK3
 refine W_seq fun K4 hK4 => ?_
 refine W_region ?_
 refine sy hs (y_makeFunc rfl) ?_; clear hs; (try clear a w); intro a w hs
 refine sstore 0 hs rfl rfl rfl ti71 rfl ?_; clear hs; (try clear a w); intro a w hs
 replace hs : St _ _ _ (.blk b19 (.cells #[.func (.func 40) #[] #[.pointer (some ⟨b16, 0, none⟩), .pointer (some ⟨b19, 0, none⟩)]] 71 (0, 0)) :: .blk b16 (.cells #[(.slice none 0 0)] 24 (0, 0)) :: .blk b13 (.cells #[(.slice none 0 0)] 24 (0, 0)) :: .blk b11 (.cells #[.string (p0.Name), .string (p0.Text), v1, v6] 35 (0, 0)) :: L) _ _ _ := hs
 refine RL_nil ?_
 refine hK4 _ _ ?_; clear hK4
 refine W_seq fun K5 hK5 => ?_
 refine W_region ?_
 refine sy (v := .func (.func 40) #[] #[.pointer (some ⟨b16, 0, none⟩), .pointer (some ⟨b19, 0, none⟩)]) hs (y_ld rfl Try.underlying71 rfl (Cell.blk (.head _) rfl)) ?_; clear hs; (try clear a w); intro a w hs
 refine sy hs (y_ldB rfl Try.underlying35 rfl ti35 (.tail _ (.tail _ (.tail _ (.head _)))) rfl) ?_; clear hs; (try clear a w); intro a w hs
 obtain ⟨f21, hf22, hs2, hB23⟩ := hs.frzB 0 rfl
 clear hs; have hs := hs2; clear hs2
 replace hR3 := hR3.le hf22
 replace hW4 := hW4.le hf22
 replace hR8 := hR8.le hf22
 replace hW9 := hW9.le hf22
 replace hle := hle.trans hf22
 replace hs : St _ _ _ (.blk b16 (.cells #[(.slice none 0 0)] 24 (0, 0)) :: .blk b13 (.cells #[(.slice none 0 0)] 24 (0, 0)) :: .blk b11 (.cells #[.string (p0.Name), .string (p0.Text), v1, v6] 35 (0, 0)) :: L) _ _ _ := hs
 obtain ⟨x24, hx25, hm⟩ := ob hm
 replace hs := hs.nilRow 59 9
 have hW26 : RW t_api_Node f21 [] ([] : List api_Node) := trivial
 generalize hgrw27 : ([] : List (List Value)) = rw27 at hs hW26; clear hgrw27
 replace hs : St _ _ _ (.row (.slice none 0 0) 59 9 rw27 :: .blk b16 (.cells #[(.slice none 0 0)] 24 (0, 0)) :: .blk b13 (.cells #[(.slice none 0 0)] 24 (0, 0)) :: .blk b11 (.cells #[.string (p0.Name), .string (p0.Text), v1, v6] 35 (0, 0)) :: L) _ _ _ := hs
 replace hs := hs.front 0
 replace hs := hs.front 1
 replace hs : St _ _ _ (.blk b16 (.cells #[(.slice none 0 0)] 24 (0, 0)) :: .row (.slice none 0 0) 59 9 rw27 :: .blk b13 (.cells #[(.slice none 0 0)] 24 (0, 0)) :: .blk b11 (.cells #[.string (p0.Name), .string (p0.Text), v1, v6] 35 (0, 0)) :: L) _ _ _ := hs
 refine RL_call (Lr := [.blk b16 (.cells #[(.slice none 0 0)] 24 (0, 0)), .row (.slice none 0 0) 59 9 rw27]) (Lf := .blk b13 (.cells #[(.slice none 0 0)] 24 (0, 0)) :: .blk b11 (.cells #[.string (p0.Name), .string (p0.Text), v1, v6] 35 (0, 0)) :: L) hs rfl has40 rfl rfl (dom_Make_1_ok n (f := f21) (a0 := [.string (p0.Name), .string (p0.Text), v1, v6]) (cb0 := b16) (cb1 := b19) (R_dom_Part.of (x := p0) ⟨rw2, hR3, hW4⟩ ⟨rw7, hR8, hW9⟩) hW26 hB23 hx25) (.free rfl) (by decide) ?_; clear hs; (try clear a w)
 rintro _ f30 _ a w hf31 ⟨v32, rw33, rfl, rfl, hW34⟩ hs
 replace hR3 := hR3.le hf31
 replace hW4 := hW4.le hf31
 replace hR8 := hR8.le hf31
 replace hW9 := hW9.le hf31
 replace hB23 := hf31 _ _ hB23
 replace hW26 := hW26.le hf31
 replace hle := hle.trans hf31
 replace hs : St _ _ _ (.blk b16 (.cells #[v32] 24 (0, 0)) :: .row v32 59 9 rw33 :: .blk b13 (.cells #[(.slice none 0 0)] 24 (0, 0)) :: .blk b11 (.cells #[.string (p0.Name), .string (p0.Text), v1, v6] 35 (0, 0)) :: L) _ _ _ := hs
 refine RL_nil ?_
 refine hK5 _ _ ?_; clear hK5
 refine W_seq fun K6 hK6 => ?_
 refine W_seq fun K7 hK7 => ?_
 refine W_region ?_
 refine sy hs (y_ldB rfl Try.underlying24 rfl ti24 (.head _) rfl) ?_; clear hs; (try clear a w); intro a w hs
 obtain ⟨f36, hf37, hs2, hR38⟩ := hs.frzAt 1 rfl
 clear hs; have hs := hs2; clear hs2
 replace hR3 := hR3.le hf37
 replace hW4 := hW4.le hf37
 replace hR8 := hR8.le hf37
 replace hW9 := hW9.le hf37
 replace hB23 := hf37 _ _ hB23
 replace hW34 := hW34.le hf37
 replace hle := hle.trans hf37
 replace hs : St _ _ _ (.blk b16 (.cells #[v32] 24 (0, 0)) :: .blk b13 (.cells #[(.slice none 0 0)] 24 (0, 0)) :: .blk b11 (.cells #[.string (p0.Name), .string (p0.Text), v1, v6] 35 (0, 0)) :: L) _ _ _ := hs
 obtain ⟨x39, hx40, hm⟩ := ob hm
 refine sy hs (y_call rfl has12 rfl (dom_Right_ok n (f := f36) (a0 := [v32]) ⟨_, rfl, ⟨rw33, hR38, hW34⟩⟩ hx40)) ?_; clear hs; (try clear a w); intro a w hs
 refine sy (v := .int .i64 (x39)) hs (y_assign rfl) ?_; clear hs; (try clear a w); intro a w hs
 refine RL_nil ?_
 refine hK7 _ _ ?_; clear hK7
 refine W_seq fun K8 hK8 => ?_
 refine W_region ?_
 refine sy (v := .int .i64 (x39)) hs (y_move rfl) ?_; clear hs; (try clear a w); intro a w hs
 refine sy hs (y_neq rfl rfl) ?_; clear hs; (try clear a w); intro a w hs
 refine RL_nil ?_
 refine hK8 _ _ ?_; clear hK8
 refine W_cond hs rfl (fun hg41 => ?_) (fun hg41 => ?_)
 ·replace hm := oc_t hg41 hm
  refine W_seq fun K9 hK9 => ?_
  refine W_region ?_
  refine sy hs (y_buildS (places := [(0, 1)]) (cs := [(.slice none 0 0)]) rfl Try.underlying24 ti24 (by kernel_rfl) (by decide) rfl trivial) ?_; clear hs; (try clear a w); intro a w hs
  refine sy (v := .int .i64 (x39)) hs (y_move rfl) ?_; clear hs; (try clear a w); intro a w hs
  refine RL_storeAll (i := 1) hs rfl rfl rfl ti24 ⟨rfl, rfl⟩ (AllC.arr (r := [(.slice none 0 0)]) ⟨rfl, trivial⟩) (.free rfl) ?_; clear hs; (try clear a w); intro a w hs
  replace hs : St _ _ _ (.blk b16 (.cells #[v32] 24 (0, 0)) :: .blk b13 (.cells #[(.slice none 0 0)] 24 (0, 0)) :: .blk b11 (.cells #[.string (p0.Name), .string (p0.Text), v1, v6] 35 (0, 0)) :: L) _ _ _ := hs
  refine sy (v := .int .i64 (x39)) hs (y_assign rfl) ?_; clear hs; (try clear a w); intro a w hs
  refine RL_nil ?_
  refine hK9 _ _ ?_; clear hK9
  refine W_ret ?_
  obtain rfl := Option.some.inj hm
  refine RtV2 hs rfl (rv_a hs rfl Try.underlying24 rfl ti24 (fun j u hj => Cell.blk (.tail _ (.head _)) hj) rfl) (rv_t hs rfl) ?_
  exact ⟨_, f36, [], rfl, hle, (hs.subL (.cons _ (.cons _ (.cons _ (.refl _))))).cw, [(.slice none 0 0)], rfl, rfl, ⟨_, rfl, RS.nil⟩⟩
 ·replace hm := oc_f hg41 hm
  refine W_skip ?_
  refine hK6 _ _ ?_; clear hK6
  refine W_seq fun K10 hK10 => ?_
  refine W_region ?_
  refine sy hs (y_ldB rfl Try.underlying24 rfl ti24 (.head _) rfl) ?_; clear hs; (try clear a w); intro a w hs
  refine RL_storeAll (i := 1) hs rfl rfl rfl ti24 ⟨rfl, rfl⟩ (AllC.arr (r := [v32]) ⟨hR38.one, trivial⟩) (.free rfl) ?_; clear hs; (try clear a w); intro a w hs
  replace hs : St _ _ _ (.blk b16 (.cells #[v32] 24 (0, 0)) :: .blk b13 (.cells #[v32] 24 (0, 0)) :: .blk b11 (.cells #[.string (p0.Name), .string (p0.Text), v1, v6] 35 (0, 0)) :: L) _ _ _ := hs
  refine sy (v := .int .i64 (0)) hs (y_assign rfl) ?_; clear hs; (try clear a w); intro a w hs
  refine RL_nil ?_
  refine hK10 _ _ ?_; clear hK10
  refine W_ret ?_
  obtain rfl := Option.some.inj hm
  refine RtV2 hs rfl (rv_a hs rfl Try.underlying24 rfl ti24 (fun j u hj => Cell.blk (.tail _ (.head _)) hj) rfl) (rv_t hs rfl) ?_
  exact ⟨_, f36, [], rfl, hle, (hs.subL (.cons _ (.cons _ (.cons _ (.refl _))))).cw, [v32], rfl, rfl, ⟨_, rfl, ⟨rw33, hR38, hW34⟩⟩⟩
/-! casement/dom.Parts$1 -/
def dom_Parts_1_k2 (x12 : api_Node) (y31 : (List api_Attr)) (y43 : (List dom_Part)) : Option dom_Part :=
  some ({Name := x12.Name, Text := x12.Text, Attrs := y31, Kids := y43} : dom_Part)
def dom_Parts_1_l3 (q0 : api_Tree) (slf : Int → api_Tree → Option dom_Part) (x12 : api_Node) (y31 : (List api_Attr)) : Nat → (List dom_Part) → Int → Option dom_Part
  | 0, _, _ => none
  | k65 + 1, y55, y60 =>
  (bif (decide (y60 ≠ (-1))) then (slf y60 q0).bind fun x68 =>
  (appM 80 y55 [x68]).bind fun x99 =>
  (geti q0.Nodes y60).bind fun x106 =>
  (dom_Parts_1_l3 q0 slf x12 y31 k65) x99 x106.Next else
  dom_Parts_1_k2 x12 y31 y55)
def dom_Parts_1_k1 (n : Nat) (q0 : api_Tree) (slf : Int → api_Tree → Option dom_Part) (x12 : api_Node) (y31 : (List api_Attr)) : Option dom_Part :=
  dom_Parts_1_l3 q0 slf x12 y31 n ([] : List dom_Part) x12.First
def dom_Parts_1_b (slf : Int → api_Tree → Option dom_Part) (n : Nat) (p0 : Int) (q0 : api_Tree) : Option dom_Part :=
  (geti q0.Nodes p0).bind fun x12 =>
  (slices_Clone n x12.Attrs).bind fun x118 =>
  dom_Parts_1_k1 n q0 slf x12 x118
def dom_Parts_1 : Nat → Int → api_Tree → Option dom_Part
  | 0, _, _ => none
  | n + 1, p0, q0 => dom_Parts_1_b (dom_Parts_1 n) n p0 q0
theorem dom_Parts_1_bok {slf : Int → api_Tree → Option dom_Part} (n : Nat) (slf_ok : ∀ {f : Fz} {p0 : Int} {cb0 : Nat} {q0 : api_Tree} {ca0 : List Value} {cb1 : Nat} {res : dom_Part} (_ : t_api_Tree.R f ca0 q0) (_ : f cb0 = some (.cells ca0.toArray 24 (0, 0))) (_ : f cb1 = some (.cells #[.func (.func 43) #[] #[.pointer (some ⟨cb0, 0, none⟩), .pointer (some ⟨cb1, 0, none⟩)]] 74 (0, 0))) (_ : slf p0 q0 = some res), Does Try.prog 43 [.int .i64 p0, .pointer (some ⟨cb0, 0, none⟩), .pointer (some ⟨cb1, 0, none⟩)] f [] (fun r f' L' => ∃ (u0 : List Value), L' = [] ∧ r = .agg u0.toArray ∧ t_dom_Part.R f' u0 res)) {f : Fz} {p0 : Int} {cb0 : Nat} {q0 : api_Tree} {ca0 : List Value} {cb1 : Nat} {res : dom_Part} (hq0 : t_api_Tree.R f ca0 q0) (hc0 : f cb0 = some (.cells ca0.toArray 24 (0, 0))) (hc1 : f cb1 = some (.cells #[.func (.func 43) #[] #[.pointer (some ⟨cb0, 0, none⟩), .pointer (some ⟨cb1, 0, none⟩)]] 74 (0, 0))) (hm : dom_Parts_1_b slf n p0 q0 = some res) : Does Try.prog 43 [.int .i64 p0, .pointer (some ⟨cb0, 0, none⟩), .pointer (some ⟨cb1, 0, none⟩)] f [] (fun r f' L' => ∃ (u0 : List Value), L' = [] ∧ r = .agg u0.toArray ∧ t_dom_Part.R f' u0 res) := by
 unfold dom_Parts_1_b at hm
 intro w0 L w hC
 obtain ⟨v2, rfl, ⟨rw3, hR4, hW5⟩⟩ := hq0
 refine enter Try.func43 rfl Try.ntmps43 (by simp) hC fun a hs => ?_
 have hle := Fz.le.refl f
 refine W_seq fun K1 hK1 => ?_
 refine W_region ?_
 refine RL_alloc hs ti35 (.free rfl) (by decide) ?_; clear hs; (try clear a w); intro b8 a w hs
 replace hs : St _ _ _ (.blk b8 (.cells #[.string ((bs [])), .string ((bs [])), (.slice none 0 0), (.slice none 0 0)] 35 (0, 0)) :: L) _ _ _ := hs
 refine RL_nil ?_
 refine hK1 _ _ ?_; clear hK1
 refine W_seq fun K2 hK2 => ?_
 refine W_region ?_
 refine sy (v := .pointer (some ⟨cb0, 0, none⟩)) hs (y_fieldAddr rfl (FO.of (off := 0) Try.underlying24 rfl rfl ti22 (by decide))) ?_; clear hs; (try clear a w); intro a w hs
 refine sy (v := v2) hs (y_ld rfl Try.underlying22 rfl (Cell.fz hc0 rfl)) ?_; clear hs; (try clear a w); intro a w hs
 refine sy (v := .int .i64 (p0)) hs (y_move rfl) ?_; clear hs; (try clear a w); intro a w hs
 obtain ⟨x12, hx13, hm⟩ := ob hm
 obtain ⟨r14, hr15, hq16, hi17, hb18⟩ := hW5.geti hx13
 obtain ⟨v19, rfl, ⟨rw20, hR21, hW22⟩⟩ := hq16
 refine sy hs (y_indexAddr hR4 rfl rfl hi17 hb18 Try.underlying22 ti59) ?_; clear hs; (try clear a w); intro a w hs
 refine sy hs (y_loadRow hR4.up rfl hr15 Try.underlying59 rfl ti59) ?_; clear hs; (try clear a w); intro a w hs
 refine RL_alloc hs ti59 (.free rfl) (by decide) ?_; clear hs; (try clear a w); intro b24 a w hs
 replace hs : St _ _ _ (.blk b24 (.cells #[.int .i64 (0), .string ((bs [])), .string ((bs [])), (.slice none 0 0), .int .i64 (0), .int .i64 (0), .int .i64 (0), .int .i64 (0), .int .i64 (0)] 59 (0, 0)) :: .blk b8 (.cells #[.string ((bs [])), .string ((bs [])), (.slice none 0 0), (.slice none 0 0)] 35 (0, 0)) :: L) _ _ _ := hs
 refine RL_storeAll (i := 0) hs rfl rfl rfl ti59 ⟨rfl, rfl⟩ (AllC.arr (r := [.int .i64 (x12.Kind), .string (x12.Name), .string (x12.Text), v19, .int .i64 (x12.Parent), .int .i64 (x12.First), .int .i64 (x12.Last), .int .i64 (x12.Prev), .int .i64 (x12.Next)]) ⟨rfl, rfl, rfl, hR21.one, rfl, rfl, rfl, rfl, rfl, trivial⟩) (.free rfl) ?_; clear hs; (try clear a w); intro a w hs
 replace hs : St _ _ _ (.blk b24 (.cells #[.int .i64 (x12.Kind), .string (x12.Name), .string (x12.Text), v19, .int .i64 (x12.Parent), .int .i64 (x12.First), .int .i64 (x12.Last), .int .i64 (x12.Prev), .int .i64 (x12.Next)] 59 (0, 0)) :: .blk b8 (.cells #[.string ((bs [])), .string ((bs [])), (.slice none 0 0), (.slice none 0 0)] 35 (0, 0)) :: L) _ _ _ := hs
 refine RL_nil ?_
 refine hK2 _ _ ?_; clear hK2
 refine W_seq fun K3 hK3 => ?_
 have hbase39 := Fz.le.refl f
 refine W_post (fun a w => ∃ (f27 : Fz) (y31 : (List api_Attr)) (b30 : Nat) (v32 : Value), Fz.le f f27 ∧ dom_Parts_1_k1 n q0 slf x12 y31 = some res ∧ RS t_api_Attr f27 v32 y31 ∧ St 40 w0 f27 (.blk b30 (.cells #[.string (x12.Name), .string (x12.Text), v32, (.slice none 0 0)] 35 (0, 0)) :: .blk b24 (.cells #[.int .i64 (x12.Kind), .string (x12.Name), .string (x12.Text), v19, .int .i64 (x12.Parent), .int .i64 (x12.First), .int .i64 (x12.Last), .int .i64 (x12.Prev), .int .i64 (x12.Next)] 59 (0, 0)) :: .blk b8 (.cells #[.string ((bs [])), .string ((bs [])), (.slice none 0 0), (.slice none 0 0)] 35 (0, 0)) :: L) [(1, .pointer (some ⟨cb0, 0, none⟩)), (2, .pointer (some ⟨cb1, 0, none⟩)), (4, .pointer (some ⟨b8, 0, none⟩)), (5, .pointer (some ⟨b24, 0, none⟩)), (6, .pointer (some ⟨b30, 0, none⟩))] a w) ?_ ?_
 ·clear hs hm
  clear hbase39
  rintro a w ⟨f27, y31, b30, v32, hl28, hm, hs33, hs⟩
  replace hR4 := hR4.le hl28
  replace hW5 := hW5.le hl28
  replace hc0 := hl28 _ _ hc0
  replace hc1 := hl28 _ _ hc1
  replace hR21 := hR21.le hl28
  replace hW22 := hW22.le hl28
  replace hle := hle.trans hl28
  obtain ⟨rw34, hR35, hW36⟩ := hs33
  replace hs : St _ _ _ (.blk b30 (.cells #[.string (x12.Name), .string (x12.Text), v32, (.slice none 0 0)] 35 (0, 0)) :: .blk b24 (.cells #[.int .i64 (x12.Kind), .string (x12.Name), .string (x12.Text), v19, .int .i64 (x12.Parent), .int .i64 (x12.First), .int .i64 (x12.Last), .int .i64 (x12.Prev), .int .i64 (x12.Next)] 59 (0, 0)) :: .blk b8 (.cells #[.string ((bs [])), .string ((bs [])), (.slice none 0 0), (.slice none 0 0)] 35 (0, 0)) :: L) _ _ _ := hs
  unfold dom_Parts_1_k1 at hm
  refine hK3 _ _ ?_; clear hK3
  refine W_seq fun K4 hK4 => ?_
  refine W_seq fun K5 hK5 => ?_
  refine W_region ?_
  refine sy (v := .pointer (some ⟨b24, 5, none⟩)) hs (y_fieldAddr rfl (FO.of (off := 5) Try.underlying59 rfl rfl ti3 (by decide))) ?_; clear hs; (try clear a w); intro a w hs
  refine sy (v := .int .i64 (x12.First)) hs (y_ld rfl Try.underlying3 rfl (Cell.blk (.tail _ (.head _)) rfl)) ?_; clear hs; (try clear a w); intro a w hs
  refine sy (v := .int .i64 (x12.First)) hs (y_assign rfl) ?_; clear hs; (try clear a w); intro a w hs
  refine RL_nil ?_
  refine hK5 _ _ ?_; clear hK5
  have hbase48 := Fz.le.refl f27
  refine W_post (fun a w => ∃ (f40 : Fz) (y43 : (List dom_Part)) (v44 : Value) (rw45 : List (List Value)), Fz.le f27 f40 ∧ dom_Parts_1_k2 x12 y31 y43 = some res ∧ RW t_dom_Part f40 rw45 y43 ∧ St 40 w0 f40 (.row v44 35 4 rw45 :: .blk b30 (.cells #[.string (x12.Name), .string (x12.Text), v32, v44] 35 (0, 0)) :: .blk b8 (.cells #[.string ((bs [])), .string ((bs [])), (.slice none 0 0), (.slice none 0 0)] 35 (0, 0)) :: L) [(4, .pointer (some ⟨b8, 0, none⟩)), (6, .pointer (some ⟨b30, 0, none⟩))] a w) ?_ ?_
  ·clear hs hm
   clear hbase48
   rintro a w ⟨f40, y43, v44, rw45, hl41, hm, hW46, hs⟩
   replace hR4 := hR4.le hl41
   replace hW5 := hW5.le hl41
   replace hc0 := hl41 _ _ hc0
   replace hc1 := hl41 _ _ hc1
   replace hR21 := hR21.le hl41
   replace hW22 := hW22.le hl41
   replace hR35 := hR35.le hl41
   replace hW36 := hW36.le hl41
   replace hle := hle.trans hl41
   replace hs : St _ _ _ (.row v44 35 4 rw45 :: .blk b30 (.cells #[.string (x12.Name), .string (x12.Text), v32, v44] 35 (0, 0)) :: .blk b8 (.cells #[.string ((bs [])), .string ((bs [])), (.slice none 0 0), (.slice none 0 0)] 35 (0, 0)) :: L) _ _ _ := hs
   unfold dom_Parts_1_k2 at hm
   refine hK4 _ _ ?_; clear hK4
   refine W_seq fun K6 hK6 => ?_
   refine W_region ?_
   refine sy hs (y_ldB rfl Try.underlying35 rfl ti35 (.tail _ (.head _)) rfl) ?_; clear hs; (try clear a w); intro a w hs
   refine RL_storeAll (i := 2) hs rfl rfl rfl ti35 ⟨rfl, rfl⟩ (AllC.arr (r := [.string (x12.Name), .string (x12.Text), v32, v44]) ⟨rfl, rfl, hR35.one, (hs.one (i := 0) rfl), trivial⟩) (.free rfl) ?_; clear hs; (try clear a w); intro a w hs
   replace hs : St _ _ _ (.row v44 35 4 rw45 :: .blk b30 (.cells #[.string (x12.Name), .string (x12.Text), v32, v44] 35 (0, 0)) :: .blk b8 (.cells #[.string (x12.Name), .string (x12.Text), v32, v44] 35 (0, 0)) :: L) _ _ _ := hs
   refine RL_nil ?_
   refine hK6 _ _ ?_; clear hK6
   refine W_ret ?_
   obtain ⟨f49, hf50, hs2, hR51⟩ := hs.frzAt 0 rfl
   clear hs; have hs := hs2; clear hs2
   replace hR4 := hR4.le hf50
   replace hW5 := hW5.le hf50
   replace hc0 := hf50 _ _ hc0
   replace hc1 := hf50 _ _ hc1
   replace hR35 := hR35.le hf50
   replace hW36 := hW36.le hf50
   replace hW46 := hW46.le hf50
   replace hle := hle.trans hf50
   replace hs : St _ _ _ (.blk b30 (.cells #[.string (x12.Name), .string (x12.Text), v32, v44] 35 (0, 0)) :: .blk b8 (.cells #[.string (x12.Name), .string (x12.Text), v32, v44] 35 (0, 0)) :: L) _ _ _ := hs
   obtain rfl := Option.some.inj hm
   refine RtV1 hs rfl (rv_a hs rfl Try.underlying35 rfl ti35 (fun j u hj => Cell.blk (.tail _ (.head _)) hj) rfl) ?_
   exact ⟨_, f49, [], rfl, hle, (hs.subL (.cons _ (.cons _ (.refl _)))).cw, [.string (x12.Name), .string (x12.Text), v32, v44], rfl, rfl, R_dom_Part.of (x := ({Name := x12.Name, Text := x12.Text, Attrs := y31, Kids := y43} : dom_Part)) ⟨rw34, hR35, hW36⟩ ⟨rw45, hR51, hW46⟩⟩
  ·refine W_block fun Qe7 hB7 hO7 => ?_
   have hbase := Fz.le.refl f27
   replace hs := hs.nilRow 35 4
   have hW61 : RW t_dom_Part f27 [] ([] : List dom_Part) := trivial
   generalize hgrw62 : ([] : List (List Value)) = rw62 at hs hW61; clear hgrw62
   replace hs : St _ _ _ (.row (.slice none 0 0) 35 4 rw62 :: .blk b30 (.cells #[.string (x12.Name), .string (x12.Text), v32, (.slice none 0 0)] 35 (0, 0)) :: .blk b24 (.cells #[.int .i64 (x12.Kind), .string (x12.Name), .string (x12.Text), v19, .int .i64 (x12.Parent), .int .i64 (x12.First), .int .i64 (x12.Last), .int .i64 (x12.Prev), .int .i64 (x12.Next)] 59 (0, 0)) :: .blk b8 (.cells #[.string ((bs [])), .string ((bs [])), (.slice none 0 0), (.slice none 0 0)] 35 (0, 0)) :: L) _ _ _ := hs
   replace hs : St _ _ _ (.row (.slice none 0 0) 35 4 rw62 :: .blk b30 (.cells #[.string (x12.Name), .string (x12.Text), v32, (.slice none 0 0)] 35 (0, 0)) :: .blk b24 (.cells #[.int .i64 (x12.Kind), .string (x12.Name), .string (x12.Text), v19, .int .i64 (x12.Parent), .int .i64 (x12.First), .int .i64 (x12.Last), .int .i64 (x12.Prev), .int .i64 (x12.Next)] 59 (0, 0)) :: .blk b8 (.cells #[.string ((bs [])), .string ((bs [])), (.slice none 0 0), (.slice none 0 0)] 35 (0, 0)) :: L) _ _ _ := hs
   refine W_loop (fun (k : Nat) a w => ∃ (f52 : Fz) (y55 : (List dom_Part)) (y60 : Int) (v56 : Value) (rw57 : List (List Value)), Fz.le f27 f52 ∧ dom_Parts_1_l3 q0 slf x12 y31 k y55 y60 = some res ∧ RW t_dom_Part f52 rw57 y55 ∧ St 40 w0 f52 (.row v56 35 4 rw57 :: .blk b30 (.cells #[.string (x12.Name), .string (x12.Text), v32, v56] 35 (0, 0)) :: .blk b8 (.cells #[.string ((bs [])), .string ((bs [])), (.slice none 0 0), (.slice none 0 0)] 35 (0, 0)) :: L) [(1, .pointer (some ⟨cb0, 0, none⟩)), (2, .pointer (some ⟨cb1, 0, none⟩)), (4, .pointer (some ⟨b8, 0, none⟩)), (6, .pointer (some ⟨b30, 0, none⟩)), (7, .int .i64 (y60))] a w) (fun k => k) n ⟨_, ([] : List dom_Part), x12.First, (.slice none 0 0), rw62, (Fz.le.refl _), hm, hW61, hs.subs ⟨rfl, rfl, rfl, rfl, rfl, trivial⟩ (.cons_cons _ (.cons_cons _ (.cons _ (.cons_cons _ (.refl _)))))⟩ ?_
   clear hs hm
   intro k
   rintro a w ⟨f52, y55, y60, v56, rw57, hl53, hm, hW58, hs⟩
   replace hR4 := hR4.le hl53
   replace hW5 := hW5.le hl53
   replace hc0 := hl53 _ _ hc0
   replace hc1 := hl53 _ _ hc1
   replace hR21 := hR21.le hl53
   replace hW22 := hW22.le hl53
   replace hR35 := hR35.le hl53
   replace hW36 := hW36.le hl53
   replace hle := hle.trans hl53
   replace hbase48 := hbase48.trans hl53
   replace hs : St _ _ _ (.row v56 35 4 rw57 :: .blk b30 (.cells #[.string (x12.Name), .string (x12.Text), v32, v56] 35 (0, 0)) :: .blk b8 (.cells #[.string ((bs [])), .string ((bs [])), (.slice none 0 0), (.slice none 0 0)] 35 (0, 0)) :: L) _ _ _ := hs
   intro K8 hK8
   cases k with
   | zero => simp [dom_Parts_1_l3] at hm
   | succ k65 =>
    rw [dom_Parts_1_l3] at hm
    have hbase66 := hl53
    refine W_seq fun K9 hK9 => ?_
    refine W_seq fun K10 hK10 => ?_
    refine W_region ?_
    refine sy (v := .int .i64 (y60)) hs (y_move rfl) ?_; clear hs; (try clear a w); intro a w hs
    refine sy hs (y_neq rfl rfl) ?_; clear hs; (try clear a w); intro a w hs
    refine RL_nil ?_
    refine hK10 _ _ ?_; clear hK10
    refine W_cond hs rfl (fun hg67 => ?_) (fun hg67 => ?_)
    ·replace hm := oc_t hg67 hm
     refine W_skip ?_
     refine hK9 _ _ ?_; clear hK9
     refine W_seq fun K11 hK11 => ?_
     refine W_block fun Qe12 hB12 hO12 => ?_
     have hsD := hs.subL (L' := .blk b30 (.cells #[.string (x12.Name), .string (x12.Text), v32, v56] 35 (0, 0)) :: []) (.cons _ (.cons_cons _ (.cons _ (List.nil_sublist _))))
     refine T_start hs (.blk b30 (.cells #[.string (x12.Name), .string (x12.Text), v32, v56] 35 (0, 0)) :: []) [8] (.look 0 (.look 1 (.look 2 (.look 3 (.any [4] (fun _ => .any [5] (fun _ => .any [6] (fun _ => .look 7 (.any [8] (fun _ => .done)))))))))) mixed (by kernel_rfl) ?_; clear hs; (try clear a w); intro a he
     refine uy (v := .pointer (some ⟨b30, 3, none⟩)) 0 he rfl (y_fieldAddr rfl (FO.of (off := 3) Try.underlying35 rfl rfl ti33 (by decide))) ?_; clear he; (try clear a); intro a he
     refine uy (v := v56) 1 he rfl (y_ld rfl Try.underlying33 rfl (Cell.blk (.head _) rfl)) ?_; clear he; (try clear a); intro a he
     refine uy (v := .func (.func 43) #[] #[.pointer (some ⟨cb0, 0, none⟩), .pointer (some ⟨cb1, 0, none⟩)]) 2 he rfl (y_ld rfl Try.underlying74 rfl (Cell.fz hc1 rfl)) ?_; clear he; (try clear a); intro a he
     refine uy (v := .int .i64 (y60)) 3 he rfl (y_move rfl) ?_; clear he; (try clear a); intro a he
     refine T_any1 he rfl ?_; clear he; (try clear a); intro a w hs
     obtain ⟨x68, hx69, hm⟩ := ob hm
     refine RL_callVK hs rfl has43 rfl (slf_ok (f := f52) (cb0 := cb0) (ca0 := [v2]) (cb1 := cb1) ⟨_, rfl, ⟨rw3, hR4, hW5⟩⟩ hc0 hc1 hx69) ?_; clear hs; (try clear a w)
     rintro _ f70 _ a w hf71 ⟨r72, rfl, rfl, hq73⟩ hs
     have hR74 := hR4.le hf71
     have hW75 := hW5.le hf71
     have hc76 := hf71 _ _ hc0
     have hc77 := hf71 _ _ hc1
     have hR78 := hR21.le hf71
     have hW79 := hW22.le hf71
     have hR80 := hR35.le hf71
     have hW81 := hW36.le hf71
     have hW82 := hW58.le hf71
     replace hle := hle.trans hf71
     replace hbase48 := hbase48.trans hf71
     replace hbase66 := hbase66.trans hf71
     obtain ⟨v83, v88, rfl, ⟨rw84, hR85, hW86⟩, ⟨rw89, hR90, hW91⟩⟩ := R_dom_Part.ex hq73
     replace hs : St _ _ _ (.row v56 35 4 rw57 :: .blk b30 (.cells #[.string (x12.Name), .string (x12.Text), v32, v56] 35 (0, 0)) :: .blk b8 (.cells #[.string ((bs [])), .string ((bs [])), (.slice none 0 0), (.slice none 0 0)] 35 (0, 0)) :: L) _ _ _ := hs
     refine uon hs ?_; clear hs; (try clear a w); intro a he
     refine T_any1 he rfl ?_; clear he; (try clear a); intro a w hs
     refine RL_bs1a hs rfl Try.underlying33 ti35 (by decide) (AllC.row ⟨rfl, rfl, hR85.one, hR90.one, trivial⟩ rfl) ?_; clear hs; (try clear a w); intro v93 a w hs
     have hW94 : RW t_dom_Part f70 [[.string (x68.Name), .string (x68.Text), v83, v88]] [x68] := RW.single (R_dom_Part.of (x := x68) ⟨rw84, hR85, hW86⟩ ⟨rw89, hR90, hW91⟩)
     generalize hgrw95 : ([[.string (x68.Name), .string (x68.Text), v83, v88]] : List (List Value)) = rw95 at hs hW94; clear hgrw95
     replace hs : St _ _ _ (.row v93 35 4 rw95 :: .row v56 35 4 rw57 :: .blk b30 (.cells #[.string (x12.Name), .string (x12.Text), v32, v56] 35 (0, 0)) :: .blk b8 (.cells #[.string ((bs [])), .string ((bs [])), (.slice none 0 0), (.slice none 0 0)] 35 (0, 0)) :: L) _ _ _ := hs
     have ho98 : v93.oneCell' = true := hs.one (i := 0) rfl
     refine uon hs ?_; clear hs; (try clear a w); intro a he
     refine T_any1 he rfl ?_; clear he; (try clear a); intro a w hs
     obtain ⟨x99, hx100, hm⟩ := ob hm
     obtain ⟨hbx99, hex99⟩ := appM_some hx100
     have hW103 := hW82.append hW94; rw [hex99] at hW103
     refine RL_append (i := 1) hs rfl rfl rfl (Rd.st hs (.head _)) Try.underlying33 ti35 (by decide) (by rw [RW.len hW82, RW.len hW94]; exact hbx99) (.free rfl) (by decide) ?_; clear hs; (try clear a w); intro v101 a w hs
     generalize hgx99 : rw57 ++ rw95 = rw102 at hs hW103; clear hgx99
     replace hs := hs.erase 0
     replace hs : St _ _ _ (.row v101 35 4 rw102 :: .blk b30 (.cells #[.string (x12.Name), .string (x12.Text), v32, v56] 35 (0, 0)) :: .blk b8 (.cells #[.string ((bs [])), .string ((bs [])), (.slice none 0 0), (.slice none 0 0)] 35 (0, 0)) :: L) _ _ _ := hs
     have ho105 : v101.oneCell' = true := hs.one (i := 0) rfl
     refine uon hs ?_; clear hs; (try clear a w); intro a he
     refine uy (v := .pointer (some ⟨b30, 3, none⟩)) 7 he rfl (y_fieldAddr rfl (FO.of (off := 3) Try.underlying35 rfl rfl ti33 (by decide))) ?_; clear he; (try clear a); intro a he
     refine T_any1 he rfl ?_; clear he; (try clear a); intro a w hs
     refine sstore 1 hs rfl rfl rfl ti33 ho105 ?_; clear hs; (try clear a w); intro a w hs
     replace hs : St _ _ _ (.row v101 35 4 rw102 :: .blk b30 (.cells #[.string (x12.Name), .string (x12.Text), v32, v101] 35 (0, 0)) :: .blk b8 (.cells #[.string ((bs [])), .string ((bs [])), (.slice none 0 0), (.slice none 0 0)] 35 (0, 0)) :: L) _ _ _ := hs
     refine uend hs ?_; clear hs; (try clear a w); intro a he
     refine T_nil he ?_; clear he; (try clear a); intro w hs; try clear hsD
     refine hK11 _ _ ?_; clear hK11
     refine W_region ?_
     refine sy (v := .pointer (some ⟨cb0, 0, none⟩)) hs (y_fieldAddr rfl (FO.of (off := 0) Try.underlying24 rfl rfl ti22 (by decide))) ?_; clear hs; (try clear a w); intro a w hs
     refine sy (v := v2) hs (y_ld rfl Try.underlying22 rfl (Cell.fz hc76 rfl)) ?_; clear hs; (try clear a w); intro a w hs
     refine sy (v := .int .i64 (y60)) hs (y_move rfl) ?_; clear hs; (try clear a w); intro a w hs
     obtain ⟨x106, hx107, hm⟩ := ob hm
     obtain ⟨r108, hr109, hq110, hi111, hb112⟩ := hW75.geti hx107
     obtain ⟨v113, rfl, ⟨rw114, hR115, hW116⟩⟩ := hq110
     refine sy hs (y_indexAddr hR74 rfl rfl hi111 hb112 Try.underlying22 ti59) ?_; clear hs; (try clear a w); intro a w hs
     refine sy (v := eaddr v2 9 y60.toNat 8) hs (y_fieldAddrE (i := y60.toNat) (j := 0) hR74 rfl hb112 (FO.of (off := 8) Try.underlying59 rfl rfl ti3 (by decide))) ?_; clear hs; (try clear a w); intro a w hs
     refine sy (v := .int .i64 (x106.Next)) hs (y_loadE (i := y60.toNat) (j := 8) hR74.up rfl hr109 rfl Try.underlying3 rfl) ?_; clear hs; (try clear a w); intro a w hs
     refine sy (v := .int .i64 (x106.Next)) hs (y_assign rfl) ?_; clear hs; (try clear a w); intro a w hs
     refine RL_nil ?_
     exact hK8 k65 _ _ (Nat.lt_succ_self _) ⟨_, x99, x106.Next, v101, rw102, hbase66, hm, hW103, hs.sub ⟨rfl, rfl, rfl, rfl, rfl, trivial⟩⟩
    ·replace hm := oc_f hg67 hm
     refine W_exit ?_
     refine hB7 _ _ ?_
     exact ⟨_, y55, v56, rw57, hbase48, hm, hW58, hs.sub ⟨rfl, rfl, trivial⟩⟩
 ·have hsD := hs.subL (L' := .blk b24 (.cells #[.int .i64 (x12.Kind), .string (x12.Name), .string (x12.Text), v19, .int .i64 (x12.Parent), .int .i64 (x12.First), .int .i64 (x12.Last), .int .i64 (x12.Prev), .int .i64 (x12.Next)] 59 (0, 0)) :: []) (.cons_cons _ (.cons _ (List.nil_sublist _)))
  refine T_start hs (.blk b24 (.cells #[.int .i64 (x12.Kind), .string (x12.Name), .string (x12.Text), v19, .int .i64 (x12.Parent), .int .i64 (x12.First), .int .i64 (x12.Last), .int .i64 (x12.Prev), .int .i64 (x12.Next)] 59 (0, 0)) :: []) [9] (.look 0 (.look 1 (.look 2 (.look 3 (.look 4 (.look 5 (.any [6, 8] (fun i => bif Nat.beq i 6 then .look 7 (.any [8] (fun _ => .any [9] (fun _ => .done))) else .any [6] (fun _ => .look 7 (.any [9] (fun _ => .done))))))))))) mixed (by kernel_rfl) ?_; clear hs; (try clear a w); intro a he
  refine uy (v := .pointer (some ⟨b24, 1, none⟩)) 0 he rfl (y_fieldAddr rfl (FO.of (off := 1) Try.underlying59 rfl rfl ti9 (by decide))) ?_; clear he; (try clear a); intro a he
  refine uy (v := .string (x12.Name)) 1 he rfl (y_ld rfl Try.underlying9 rfl (Cell.blk (.head _) rfl)) ?_; clear he; (try clear a); intro a he
  refine uy (v := .pointer (some ⟨b24, 2, none⟩)) 2 he rfl (y_fieldAddr rfl (FO.of (off := 2) Try.underlying59 rfl rfl ti9 (by decide))) ?_; clear he; (try clear a); intro a he
  refine uy (v := .string (x12.Text)) 3 he rfl (y_ld rfl Try.underlying9 rfl (Cell.blk (.head _) rfl)) ?_; clear he; (try clear a); intro a he
  refine uy (v := .pointer (some ⟨b24, 3, none⟩)) 4 he rfl (y_fieldAddr rfl (FO.of (off := 3) Try.underlying59 rfl rfl ti32 (by decide))) ?_; clear he; (try clear a); intro a he
  refine uy (v := v19) 5 he rfl (y_ld rfl Try.underlying32 rfl (Cell.blk (.head _) rfl)) ?_; clear he; (try clear a); intro a he
  refine T_any2 he rfl rfl ?_ ?_ <;> (clear he; (try clear a); intro a w hs)
  ·obtain ⟨x118, hx119, hm⟩ := ob hm
   refine RL_callV hs rfl has41 rfl (slices_Clone_ok n (f := f) (a0 := v19) ⟨rw20, hR21, hW22⟩ hx119) ?_; clear hs; (try clear a w)
   rintro v122 f120 _ a w hf121 ⟨_, rfl, rfl, ⟨rw123, hR124, hW125⟩⟩ hs
   have hR126 := hR4.le hf121
   have hW127 := hW5.le hf121
   have hc128 := hf121 _ _ hc0
   have hc129 := hf121 _ _ hc1
   have hR130 := hR21.le hf121
   have hW131 := hW22.le hf121
   replace hle := hle.trans hf121
   replace hbase39 := hbase39.trans hf121
   replace hs : St _ _ _ (.blk b24 (.cells #[.int .i64 (x12.Kind), .string (x12.Name), .string (x12.Text), v19, .int .i64 (x12.Parent), .int .i64 (x12.First), .int .i64 (x12.Last), .int .i64 (x12.Prev), .int .i64 (x12.Next)] 59 (0, 0)) :: .blk b8 (.cells #[.string ((bs [])), .string ((bs [])), (.slice none 0 0), (.slice none 0 0)] 35 (0, 0)) :: L) _ _ _ := hs
   refine uon hs ?_; clear hs; (try clear a w); intro a he
   refine uy 7 he rfl (y_buildS (places := [(0, 1), (1, 1), (2, 1), (3, 1)]) (cs := [.string (x12.Name), .string (x12.Text), v122, (.slice none 0 0)]) rfl Try.underlying35 ti35 (by kernel_rfl) (by decide) rfl ⟨rfl, rfl, hR124.one, trivial⟩) ?_; clear he; (try clear a); intro a he
   refine T_any1 he rfl ?_; clear he; (try clear a); intro a w hs
   refine RL_alloc hs ti35 (.free rfl) (by decide) ?_; clear hs; (try clear a w); intro b135 a w hs
   replace hs : St _ _ _ (.blk b135 (.cells #[.string ((bs [])), .string ((bs [])), (.slice none 0 0), (.slice none 0 0)] 35 (0, 0)) :: .blk b24 (.cells #[.int .i64 (x12.Kind), .string (x12.Name), .string (x12.Text), v19, .int .i64 (x12.Parent), .int .i64 (x12.First), .int .i64 (x12.Last), .int .i64 (x12.Prev), .int .i64 (x12.Next)] 59 (0, 0)) :: .blk b8 (.cells #[.string ((bs [])), .string ((bs [])), (.slice none 0 0), (.slice none 0 0)] 35 (0, 0)) :: L) _ _ _ := hs
   refine uon hs ?_; clear hs; (try clear a w); intro a he
   refine T_any1 he rfl ?_; clear he; (try clear a); intro a w hs
   refine RL_storeAll (i := 0) hs rfl rfl rfl ti35 ⟨rfl, rfl⟩ (AllC.arr (r := [.string (x12.Name), .string (x12.Text), v122, (.slice none 0 0)]) ⟨rfl, rfl, hR124.one, rfl, trivial⟩) (.free rfl) ?_; clear hs; (try clear a w); intro a w hs
   replace hs : St _ _ _ (.blk b135 (.cells #[.string (x12.Name), .string (x12.Text), v122, (.slice none 0 0)] 35 (0, 0)) :: .blk b24 (.cells #[.int .i64 (x12.Kind), .string (x12.Name), .string (x12.Text), v19, .int .i64 (x12.Parent), .int .i64 (x12.First), .int .i64 (x12.Last), .int .i64 (x12.Prev), .int .i64 (x12.Next)] 59 (0, 0)) :: .blk b8 (.cells #[.string ((bs [])), .string ((bs [])), (.slice none 0 0), (.slice none 0 0)] 35 (0, 0)) :: L) _ _ _ := hs
   refine uend hs ?_; clear hs; (try clear a w); intro a he
   refine T_nil he ?_; clear he; (try clear a); intro w hs; try clear hsD
   exact ⟨_, x118, b135, v122, hbase39, hm, ⟨rw123, hR124, hW125⟩, hs.sub ⟨rfl, rfl, rfl, rfl, rfl, trivial⟩⟩
  ·refine RL_alloc hs ti35 (.free rfl) (by decide) ?_; clear hs; (try clear a w); intro b139 a w hs
   replace hs : St _ _ _ (.blk b139 (.cells #[.string ((bs [])), .string ((bs [])), (.slice none 0 0), (.slice none 0 0)] 35 (0, 0)) :: .blk b24 (.cells #[.int .i64 (x12.Kind), .string (x12.Name), .string (x12.Text), v19, .int .i64 (x12.Parent), .int .i64 (x12.First), .int .i64 (x12.Last), .int .i64 (x12.Prev), .int .i64 (x12.Next)] 59 (0, 0)) :: .blk b8 (.cells #[.string ((bs [])), .string ((bs [])), (.slice none 0 0), (.slice none 0 0)] 35 (0, 0)) :: L) _ _ _ := hs
   refine uon hs ?_; clear hs; (try clear a w); intro a he
   refine T_any1 he rfl ?_; clear he; (try clear a); intro a w hs
   obtain ⟨x143, hx144, hm⟩ := ob hm
   refine RL_callV hs rfl has41 rfl (slices_Clone_ok n (f := f) (a0 := v19) ⟨rw20, hR21, hW22⟩ hx144) ?_; clear hs; (try clear a w)
   rintro v147 f145 _ a w hf146 ⟨_, rfl, rfl, ⟨rw148, hR149, hW150⟩⟩ hs
   have hR151 := hR4.le hf146
   have hW152 := hW5.le hf146
   have hc153 := hf146 _ _ hc0
   have hc154 := hf146 _ _ hc1
   have hR155 := hR21.le hf146
   have hW156 := hW22.le hf146
   replace hle := hle.trans hf146
   replace hbase39 := hbase39.trans hf146
   replace hs : St _ _ _ (.blk b139 (.cells #[.string ((bs [])), .string ((bs [])), (.slice none 0 0), (.slice none 0 0)] 35 (0, 0)) :: .blk b24 (.cells #[.int .i64 (x12.Kind), .string (x12.Name), .string (x12.Text), v19, .int .i64 (x12.Parent), .int .i64 (x12.First), .int .i64 (x12.Last), .int .i64 (x12.Prev), .int .i64 (x12.Next)] 59 (0, 0)) :: .blk b8 (.cells #[.string ((bs [])), .string ((bs [])), (.slice none 0 0), (.slice none 0 0)] 35 (0, 0)) :: L) _ _ _ := hs
   refine uon hs ?_; clear hs; (try clear a w); intro a he
   refine uy 7 he rfl (y_buildS (places := [(0, 1), (1, 1), (2, 1), (3, 1)]) (cs := [.string (x12.Name), .string (x12.Text), v147, (.slice none 0 0)]) rfl Try.underlying35 ti35 (by kernel_rfl) (by decide) rfl ⟨rfl, rfl, hR149.one, trivial⟩) ?_; clear he; (try clear a); intro a he
   refine T_any1 he rfl ?_; clear he; (try clear a); intro a w hs
   refine RL_storeAll (i := 0) hs rfl rfl rfl ti35 ⟨rfl, rfl⟩ (AllC.arr (r := [.string (x12.Name), .string (x12.Text), v147, (.slice none 0 0)]) ⟨rfl, rfl, hR149.one, rfl, trivial⟩) (.free rfl) ?_; clear hs; (try clear a w); intro a w hs
   replace hs : St _ _ _ (.blk b139 (.cells #[.string (x12.Name), .string (x12.Text), v147, (.slice none 0 0)] 35 (0, 0)) :: .blk b24 (.cells #[.int .i64 (x12.Kind), .string (x12.Name), .string (x12.Text), v19, .int .i64 (x12.Parent), .int .i64 (x12.First), .int .i64 (x12.Last), .int .i64 (x12.Prev), .int .i64 (x12.Next)] 59 (0, 0)) :: .blk b8 (.cells #[.string ((bs [])), .string ((bs [])), (.slice none 0 0), (.slice none 0 0)] 35 (0, 0)) :: L) _ _ _ := hs
   refine uend hs ?_; clear hs; (try clear a w); intro a he
   refine T_nil he ?_; clear he; (try clear a); intro w hs; try clear hsD
   exact ⟨_, x143, b139, v147, hbase39, hm, ⟨rw148, hR149, hW150⟩, hs.sub ⟨rfl, rfl, rfl, rfl, rfl, trivial⟩⟩
theorem dom_Parts_1_ok : ∀ (n : Nat) {f : Fz} {p0 : Int} {cb0 : Nat} {q0 : api_Tree} {ca0 : List Value} {cb1 : Nat} {res : dom_Part} (_hq0 : t_api_Tree.R f ca0 q0) (_hc0 : f cb0 = some (.cells ca0.toArray 24 (0, 0))) (_hc1 : f cb1 = some (.cells #[.func (.func 43) #[] #[.pointer (some ⟨cb0, 0, none⟩), .pointer (some ⟨cb1, 0, none⟩)]] 74 (0, 0))) (_ : dom_Parts_1 n p0 q0 = some res), Does Try.prog 43 [.int .i64 p0, .pointer (some ⟨cb0, 0, none⟩), .pointer (some ⟨cb1, 0, none⟩)] f [] (fun r f' L' => ∃ (u0 : List Value), L' = [] ∧ r = .agg u0.toArray ∧ t_dom_Part.R f' u0 res)
  | 0, f, p0, cb0, q0, ca0, cb1, res, hq0, hc0, hc1, hm => by simp [dom_Parts_1] at hm
  | n + 1, f, p0, cb0, q0, ca0, cb1, res, hq0, hc0, hc1, hm => dom_Parts_1_bok n (dom_Parts_1_ok n) hq0 hc0 hc1 hm
/-! casement/dom.Parts -/
def dom_Parts (n : Nat) (p0 : api_Tree) : Option dom_Part :=
  (dom_Right n p0).bind fun x12 =>
  (bif (decide (x12 ≠ 0)) then some ({Name := (bs []), Text := (bs []), Attrs := ([] : List api_Attr), Kids := ([] : List dom_Part)} : dom_Part) else
  (dom_Parts_1 n 0 p0).bind fun x25 =>
  some x25)
theorem dom_Parts_ok (n : Nat) {f : Fz} {p0 : api_Tree} {a0 : List Value} {res : dom_Part} (h0 : t_api_Tree.R f a0 p0) (hm : dom_Parts n p0 = some res) : Does Try.prog 19 [.agg a0.toArray] f [] (fun r f' L' => ∃ (u0 : List Value), L' = [] ∧ r = .agg u0.toArray ∧ t_dom_Part.R f' u0 res) := by
 unfold dom_Parts at hm
 intro w0 L w hC
 obtain ⟨v1, rfl, ⟨rw2, hR3, hW4⟩⟩ := h0
 refine enter Try.func19 rfl Try.ntmps19 (by simp) hC fun a hs => ?_
 have hle := Fz.le.refl f
 refine W_seq fun K1 hK1 => ?_
 refine W_region ?_
 refine sbox hs rfl ?_; clear hs; (try clear a w); intro b6 a w hs
 replace hs : St _ _ _ (.blk b6 (.cells #[v1] 24 (0, 0)) :: L) _ _ _ := hs
 refine RL_alloc hs ti35 (.free rfl) (by decide) ?_; clear hs; (try clear a w); intro b8 a w hs
 replace hs : St _ _ _ (.blk b8 (.cells #[.string ((bs [])), .string ((bs [])), (.slice none 0 0), (.slice none 0 0)] 35 (0, 0)) :: .blk b6 (.cells #[v1] 24 (0, 0)) :: L) _ _ _ := hs
 refine RL_nil ?_
 refine hK1 _ _ ?_; clear hK1
 refine W_seq fun K2 hK2 => ?_
 refine W_seq fun K3 hK3 => ?_
 refine W_region ?_
 refine sy hs (y_ldB rfl Try.underlying24 rfl ti24 (.tail _ (.head _)) rfl) ?_; clear hs; (try clear a w); intro a w hs
 obtain ⟨x12, hx13, hm⟩ := ob hm
 refine sy hs (y_call rfl has12 rfl (dom_Right_ok n (f := f) (a0 := [v1]) ⟨_, rfl, ⟨rw2, hR3, hW4⟩⟩ hx13)) ?_; clear hs; (try clear a w); intro a w hs
 refine sy hs (y_neq rfl rfl) ?_; clear hs; (try clear a w); intro a w hs
 refine RL_nil ?_
 refine hK3 _ _ ?_; clear hK3
 refine W_cond hs rfl (fun hg14 => ?_) (fun hg14 => ?_)
 ·replace hm := oc_t hg14 hm
  refine W_seq fun K4 hK4 => ?_
  refine W_region ?_
  refine sy hs (y_buildS (places := [(0, 1), (1, 1), (2, 1), (3, 1)]) (cs := [.string ((bs [])), .string ((bs [])), (.slice none 0 0), (.slice none 0 0)]) rfl Try.underlying35 ti35 (by kernel_rfl) (by decide) rfl trivial) ?_; clear hs; (try clear a w); intro a w hs
  refine RL_storeAll (i := 0) hs rfl rfl rfl ti35 ⟨rfl, rfl⟩ (AllC.arr (r := [.string ((bs [])), .string ((bs [])), (.slice none 0 0), (.slice none 0 0)]) ⟨rfl, rfl, rfl, rfl, trivial⟩) (.free rfl) ?_; clear hs; (try clear a w); intro a w hs
  replace hs : St _ _ _ (.blk b8 (.cells #[.string ((bs [])), .string ((bs [])), (.slice none 0 0), (.slice none 0 0)] 35 (0, 0)) :: .blk b6 (.cells #[v1] 24 (0, 0)) :: L) _ _ _ := hs
  refine RL_nil ?_
  refine hK4 _ _ ?_; clear hK4
  refine W_ret ?_
  obtain rfl := Option.some.inj hm
  refine RtV1 hs rfl (rv_a hs rfl Try.underlying35 rfl ti35 (fun j u hj => Cell.blk (.head _) hj) rfl) ?_
  exact ⟨_, f, [], rfl, hle, (hs.subL (.cons _ (.cons _ (.refl _)))).cw, [.string ((bs [])), .string ((bs [])), (.slice none 0 0), (.slice none 0 0)], rfl, rfl, R_dom_Part.of (x := ({Name := (bs []), Text := (bs []), Attrs := ([] : List api_Attr), Kids := ([] : List dom_Part)} : dom_Part)) RS.nil RS.nil⟩
 ·replace hm := oc_f hg14 hm
  refine W_skip ?_
  refine hK2 _ _ ?_; clear hK2
  refine W_seq fun K5 hK5 => ?_
  refine W_region ?_
  refine RL_alloc hs ti74 (.free rfl) (by decide) ?_; clear hs; (try clear a w); intro b17 a w hs
  replace hs : St _ _ _ (.blk b17 (.cells #[.nilFunc] 74 (0, 0)) :: .blk b8 (.cells #[.string ((bs [])), .string ((bs [])), (.slice none 0 0), (.slice none 0 0)] 35 (0, 0)) :: .blk b6 (.cells #[v1] 24 (0, 0)) :: L) _ _ _ := hs
  refine RL_nil ?_
  refine hK5 _ _ ?_; clear hK5
  refine W_seq fun K6 hK6 => ?_
  refine W_region ?_
  obtain ⟨f19, hf20, hs2, hB21⟩ := hs.frzB 2 rfl
  clear hs; have hs := hs2; clear hs2
  replace hR3 := hR3.le hf20
  replace hW4 := hW4.le hf20
  replace hle := hle.trans hf20
  replace hs : St _ _ _ (.blk b17 (.cells #[.nilFunc] 74 (0, 0)) :: .blk b8 (.cells #[.string ((bs [])), .string ((bs [])), (.slice none 0 0), (.slice none 0 0)] 35 (0, 0)) :: L) _ _ _ := hs
  refine sy hs (y_makeFunc rfl) ?_; clear hs; (try clear a w); intro a w hs
  refine sstore 0 hs rfl rfl rfl ti74 rfl ?_; clear hs; (try clear a w); intro a w hs
  replace hs : St _ _ _ (.blk b17 (.cells #[.func (.func 43) #[] #[.pointer (some ⟨b6, 0, none⟩), .pointer (some ⟨b17, 0, none⟩)]] 74 (0, 0)) :: .blk b8 (.cells #[.string ((bs [])), .string ((bs [])), (.slice none 0 0), (.slice none 0 0)] 35 (0, 0)) :: L) _ _ _ := hs
  refine RL_nil ?_
  refine hK6 _ _ ?_; clear hK6
  refine W_seq fun K7 hK7 => ?_
  refine W_region ?_
  refine sy (v := .func (.func 43) #[] #[.pointer (some ⟨b6, 0, none⟩), .pointer (some ⟨b17, 0, none⟩)]) hs (y_ld rfl Try.underlying74 rfl (Cell.blk (.head _) rfl)) ?_; clear hs; (try clear a w); intro a w hs
  obtain ⟨f22, hf23, hs2, hB24⟩ := hs.frzB 0 rfl
  clear hs; have hs := hs2; clear hs2
  replace hR3 := hR3.le hf23
  replace hW4 := hW4.le hf23
  replace hB21 := hf23 _ _ hB21
  replace hle := hle.trans hf23
  replace hs : St _ _ _ (.blk b8 (.cells #[.string ((bs [])), .string ((bs [])), (.slice none 0 0), (.slice none 0 0)] 35 (0, 0)) :: L) _ _ _ := hs
  obtain ⟨x25, hx26, hm⟩ := ob hm
  refine RL_callVK hs rfl has43 rfl (dom_Parts_1_ok n (f := f22) (cb0 := b6) (ca0 := [v1]) (cb1 := b17) ⟨_, rfl, ⟨rw2, hR3, hW4⟩⟩ hB21 hB24 hx26) ?_; clear hs; (try clear a w)
  rintro _ f27 _ a w hf28 ⟨r29, rfl, rfl, hq30⟩ hs
  replace hR3 := hR3.le hf28
  replace hW4 := hW4.le hf28
  replace hB21 := hf28 _ _ hB21
  replace hB24 := hf28 _ _ hB24
  replace hle := hle.trans hf28
  obtain ⟨v31, v36, rfl, ⟨rw32, hR33, hW34⟩, ⟨rw37, hR38, hW39⟩⟩ := R_dom_Part.ex hq30
  replace hs : St _ _ _ (.blk b8 (.cells #[.string ((bs [])), .string ((bs [])), (.slice none 0 0), (.slice none 0 0)] 35 (0, 0)) :: L) _ _ _ := hs
  refine RL_storeAll (i := 0) hs rfl rfl rfl ti35 ⟨rfl, rfl⟩ (AllC.arr (r := [.string (x25.Name), .string (x25.Text), v31, v36]) ⟨rfl, rfl, hR33.one, hR38.one, trivial⟩) (.free rfl) ?_; clear hs; (try clear a w); intro a w hs
  replace hs : St _ _ _ (.blk b8 (.cells #[.string (x25.Name), .string (x25.Text), v31, v36] 35 (0, 0)) :: L) _ _ _ := hs
  refine RL_nil ?_
  refine hK7 _ _ ?_; clear hK7
  refine W_ret ?_
  obtain rfl := Option.some.inj hm
  refine RtV1 hs rfl (rv_a hs rfl Try.underlying35 rfl ti35 (fun j u hj => Cell.blk (.head _) hj) rfl) ?_
  exact ⟨_, f27, [], rfl, hle, (hs.subL (.cons _ (.refl _))).cw, [.string (x25.Name), .string (x25.Text), v31, v36], rfl, rfl, R_dom_Part.of (x := x25) ⟨rw32, hR33, hW34⟩ ⟨rw37, hR38, hW39⟩⟩
end Go.Proofs.Ytekcbgnkikmhpaa
