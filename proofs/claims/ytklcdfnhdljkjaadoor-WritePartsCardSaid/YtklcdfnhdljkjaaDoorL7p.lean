/-
  Walks and laws of this seat; the base is the text Base.
-/
import Derived.Test.YtklcdfnhdljkjaaDoorY7
import Derived.Test.YtklcdfnhdljkjaaDoorRows
/-
  Models of functions, and that the functions compute them. Printed by lift.py.
-/
namespace Go.Proofs.YtklcdfnhdljkjaaDoor
open Go.RowKit Go.Sl
/-! casement/casementref5.Kids -/
def ref5_Kids_k1 (y25 : (List Int)) : Option (List Int) :=
  some y25
def ref5_Kids_l2 (p0 : api_Tree) : Nat → (List Int) → Int → Option (List Int)
  | 0, _, _ => none
  | k44 + 1, y34, y39 =>
  (bif (decide (0 ≤ y39)) then (appM 8 y34 [y39]).bind fun x51 =>
  (geti p0.Nodes y39).bind fun x57 =>
  (ref5_Kids_l2 p0 k44) x51 x57.Next else
  ref5_Kids_k1 y34)
def ref5_Kids (n : Nat) (p0 : api_Tree) (p1 : Int) : Option (List Int) :=
  (bif ((decide (p1 < 0)) || (decide ((p0.Nodes.length : Int) ≤ p1))) then some ([] : List Int) else
  (geti p0.Nodes p1).bind fun x12 =>
  ref5_Kids_l2 p0 n ([] : List Int) x12.First)
set_option maxRecDepth 20000 in
set_option maxHeartbeats 4000000 in
theorem ref5_Kids_ok (n : Nat) {f : Fz} {p0 : api_Tree} {a0 : List Value} {p1 : Int} {res : (List Int)} (h0 : t_api_Tree.R f a0 p0) (hm : ref5_Kids n p0 p1 = some res) : Does Tryd.prog 26 [.agg a0.toArray, .int .i64 p1] f [] (fun r f' L' => ∃ (u0 : Value), L' = [] ∧ r = u0 ∧ RS (tInt .i64) f' u0 res) := by
 unfold ref5_Kids at hm
 intro w0 L w hC
 obtain ⟨v1, rfl, ⟨rw2, hR3, hW4⟩⟩ := h0
 refine enter Tryd.func26 rfl Tryd.ntmps26 (by simp) hC fun a hs => ?_
 have hle := Fz.le.refl f
 refine W_seq fun K1 hK1 => ?_
 refine W_region ?_
 refine sbox hs rfl ?_; clear hs; (try clear a w); intro b6 a w hs
 replace hs : St _ _ _ (.blk b6 (.cells #[v1] 24 (0, 0)) :: L) _ _ _ := hs
 refine sy (v := (.slice none 0 0)) hs (y_assign rfl) ?_; clear hs; (try clear a w); intro a w hs
 refine RL_nil ?_
 refine hK1 _ _ ?_; clear hK1
 refine W_seq fun K2 hK2 => ?_
 refine W_region ?_
 refine sy (v := (.slice none 0 0)) hs (y_assign rfl) ?_; clear hs; (try clear a w); intro a w hs
 refine RL_nil ?_
 refine hK2 _ _ ?_; clear hK2
 refine W_seq fun K3 hK3 => ?_
 refine W_seq fun K4 hK4 => ?_
 refine W_post (fun a w => St 35 w0 f (.blk b6 (.cells #[v1] 24 (0, 0)) :: L) [(1, .int .i64 (p1)), (2, .pointer (some ⟨b6, 0, none⟩)), (5, (.slice none 0 0)), (15, .bool (((decide (p1 < 0)) || (decide ((p0.Nodes.length : Int) ≤ p1)))))] a w) ?_ ?_
 ·clear hs; intro a w hs
  refine hK4 _ _ ?_; clear hK4
  refine W_cond hs rfl (fun hg10 => ?_) (fun hg10 => ?_)
  ·replace hm := oc_t hg10 hm
   refine W_seq fun K5 hK5 => ?_
   refine W_region ?_
   refine sy (v := (.slice none 0 0)) hs (y_assign rfl) ?_; clear hs; (try clear a w); intro a w hs
   refine RL_nil ?_
   refine hK5 _ _ ?_; clear hK5
   refine W_ret ?_
   obtain rfl := Option.some.inj hm
   refine RtV1 hs rfl (rv_t hs rfl) ?_
   exact ⟨_, f, [], rfl, hle, (hs.subL (.cons _ (.refl _))).cw, (.slice none 0 0), rfl, rfl, RS.nil⟩
  ·replace hm := oc_f hg10 hm
   refine W_skip ?_
   refine hK3 _ _ ?_; clear hK3
   refine W_seq fun K6 hK6 => ?_
   refine W_seq fun K7 hK7 => ?_
   refine W_region ?_
   refine sy (v := .pointer (some ⟨b6, 0, none⟩)) hs (y_fieldAddr rfl (FO.of (off := 0) Tryd.underlying24 rfl rfl ti22 (by decide))) ?_; clear hs; (try clear a w); intro a w hs
   refine sy (v := v1) hs (y_ld rfl Tryd.underlying22 rfl (Cell.blk (.head _) rfl)) ?_; clear hs; (try clear a w); intro a w hs
   refine sy (v := .int .i64 (p1)) hs (y_move rfl) ?_; clear hs; (try clear a w); intro a w hs
   obtain ⟨x12, hx13, hm⟩ := ob hm
   obtain ⟨r14, hr15, hq16, hi17, hb18⟩ := hW4.geti hx13
   obtain ⟨v19, rfl, ⟨rw20, hR21, hW22⟩⟩ := hq16
   refine sy hs (y_indexAddr hR3 rfl rfl hi17 hb18 Tryd.underlying22 ti37) ?_; clear hs; (try clear a w); intro a w hs
   refine sy (v := eaddr v1 9 p1.toNat 5) hs (y_fieldAddrE (i := p1.toNat) (j := 0) hR3 rfl hb18 (FO.of (off := 5) Tryd.underlying37 rfl rfl ti3 (by decide))) ?_; clear hs; (try clear a w); intro a w hs
   refine sy (v := .int .i64 (x12.First)) hs (y_loadE (i := p1.toNat) (j := 5) hR3.up rfl hr15 rfl Tryd.underlying3 rfl) ?_; clear hs; (try clear a w); intro a w hs
   refine sy (v := .int .i64 (x12.First)) hs (y_assign rfl) ?_; clear hs; (try clear a w); intro a w hs
   refine RL_nil ?_
   refine hK7 _ _ ?_; clear hK7
   refine W_post (fun a w => ∃ (y25 : (List Int)) (v26 : Value) (rw27 : List (List Value)), ref5_Kids_k1 y25 = some res ∧ RW (tInt .i64) f rw27 y25 ∧ St 35 w0 f (.row v26 3 1 rw27 :: L) [(5, v26)] a w) ?_ ?_
   ·clear hs hm
    rintro a w ⟨y25, v26, rw27, hm, hW28, hs⟩
    replace hs : St _ _ _ (.row v26 3 1 rw27 :: L) _ _ _ := hs
    unfold ref5_Kids_k1 at hm
    refine hK6 _ _ ?_; clear hK6
    refine W_seq fun K8 hK8 => ?_
    refine W_region ?_
    refine sy (v := v26) hs (y_move rfl) ?_; clear hs; (try clear a w); intro a w hs
    refine sy (v := v26) hs (y_assign rfl) ?_; clear hs; (try clear a w); intro a w hs
    refine RL_nil ?_
    refine hK8 _ _ ?_; clear hK8
    refine W_ret ?_
    obtain ⟨f30, hf31, hs2, hR32⟩ := hs.frzAt 0 rfl
    clear hs; have hs := hs2; clear hs2
    replace hW28 := hW28.le hf31
    replace hle := hle.trans hf31
    replace hs : St _ _ _ (L) _ _ _ := hs
    obtain rfl := Option.some.inj hm
    refine RtV1 hs rfl (rv_t hs rfl) ?_
    exact ⟨_, f30, [], rfl, hle, hs.cw, v26, rfl, rfl, ⟨rw27, hR32, hW28⟩⟩
   ·refine W_block fun Qe9 hB9 hO9 => ?_
    replace hs := hs.nilRow 3 1
    have hW40 : RW (tInt .i64) f [] ([] : List Int) := trivial
    generalize hgrw41 : ([] : List (List Value)) = rw41 at hs hW40; clear hgrw41
    replace hs : St _ _ _ (.row (.slice none 0 0) 3 1 rw41 :: .blk b6 (.cells #[v1] 24 (0, 0)) :: L) _ _ _ := hs
    refine W_loop (fun (k : Nat) a w => ∃ (y34 : (List Int)) (y39 : Int) (v35 : Value) (rw36 : List (List Value)), ref5_Kids_l2 p0 k y34 y39 = some res ∧ RW (tInt .i64) f rw36 y34 ∧ St 35 w0 f (.row v35 3 1 rw36 :: .blk b6 (.cells #[v1] 24 (0, 0)) :: L) [(2, .pointer (some ⟨b6, 0, none⟩)), (5, v35), (6, .int .i64 (y39))] a w) (fun k => k) n ⟨([] : List Int), x12.First, (.slice none 0 0), rw41, hm, hW40, hs.sub ⟨rfl, rfl, rfl, trivial⟩⟩ ?_
    clear hs hm
    intro k
    rintro a w ⟨y34, y39, v35, rw36, hm, hW37, hs⟩
    replace hs : St _ _ _ (.row v35 3 1 rw36 :: .blk b6 (.cells #[v1] 24 (0, 0)) :: L) _ _ _ := hs
    intro K10 hK10
    cases k with
    | zero => simp [ref5_Kids_l2] at hm
    | succ k44 =>
     rw [ref5_Kids_l2] at hm
     refine W_seq fun K11 hK11 => ?_
     refine W_seq fun K12 hK12 => ?_
     refine W_region ?_
     refine sy (v := .int .i64 (y39)) hs (y_move rfl) ?_; clear hs; (try clear a w); intro a w hs
     refine sy hs (y_geq rfl rfl) ?_; clear hs; (try clear a w); intro a w hs
     refine RL_nil ?_
     refine hK12 _ _ ?_; clear hK12
     refine W_cond hs rfl (fun hg45 => ?_) (fun hg45 => ?_)
     ·replace hm := oc_t hg45 hm
      refine W_skip ?_
      refine hK11 _ _ ?_; clear hK11
      refine W_seq fun K13 hK13 => ?_
      refine W_block fun Qe14 hB14 hO14 => ?_
      refine W_region ?_
      refine sy (v := v35) hs (y_move rfl) ?_; clear hs; (try clear a w); intro a w hs
      refine sy (v := .int .i64 (y39)) hs (y_move rfl) ?_; clear hs; (try clear a w); intro a w hs
      refine RL_bs1s hs rfl Tryd.underlying55 ti3 rfl rfl ?_; clear hs; (try clear a w); intro v46 a w hs
      have hW47 : RW (tInt .i64) f [[.int .i64 (y39)]] [y39] := RW.single (rfl)
      generalize hgrw48 : ([[.int .i64 (y39)]] : List (List Value)) = rw48 at hs hW47; clear hgrw48
      replace hs : St _ _ _ (.row v46 3 1 rw48 :: .row v35 3 1 rw36 :: .blk b6 (.cells #[v1] 24 (0, 0)) :: L) _ _ _ := hs
      obtain ⟨x51, hx52, hm⟩ := ob hm
      obtain ⟨hbx51, hex51⟩ := appM_some hx52
      have hW55 := hW37.append hW47; rw [hex51] at hW55
      refine RL_append (i := 1) hs rfl rfl rfl (Rd.st hs (.head _)) Tryd.underlying55 ti3 (by decide) (by rw [RW.len hW37, RW.len hW47]; exact hbx51) (.free rfl) (by decide) ?_; clear hs; (try clear a w); intro v53 a w hs
      generalize hgx51 : rw36 ++ rw48 = rw54 at hs hW55; clear hgx51
      replace hs := hs.erase 0
      replace hs : St _ _ _ (.row v53 3 1 rw54 :: .blk b6 (.cells #[v1] 24 (0, 0)) :: L) _ _ _ := hs
      refine sy (v := v53) hs (y_assign rfl) ?_; clear hs; (try clear a w); intro a w hs
      refine RL_nil ?_
      refine hK13 _ _ ?_; clear hK13
      refine W_region ?_
      refine sy (v := .pointer (some ⟨b6, 0, none⟩)) hs (y_fieldAddr rfl (FO.of (off := 0) Tryd.underlying24 rfl rfl ti22 (by decide))) ?_; clear hs; (try clear a w); intro a w hs
      refine sy (v := v1) hs (y_ld rfl Tryd.underlying22 rfl (Cell.blk (.tail _ (.head _)) rfl)) ?_; clear hs; (try clear a w); intro a w hs
      refine sy (v := .int .i64 (y39)) hs (y_move rfl) ?_; clear hs; (try clear a w); intro a w hs
      obtain ⟨x57, hx58, hm⟩ := ob hm
      obtain ⟨r59, hr60, hq61, hi62, hb63⟩ := hW4.geti hx58
      obtain ⟨v64, rfl, ⟨rw65, hR66, hW67⟩⟩ := hq61
      refine sy hs (y_indexAddr hR3 rfl rfl hi62 hb63 Tryd.underlying22 ti37) ?_; clear hs; (try clear a w); intro a w hs
      refine sy (v := eaddr v1 9 y39.toNat 8) hs (y_fieldAddrE (i := y39.toNat) (j := 0) hR3 rfl hb63 (FO.of (off := 8) Tryd.underlying37 rfl rfl ti3 (by decide))) ?_; clear hs; (try clear a w); intro a w hs
      refine sy (v := .int .i64 (x57.Next)) hs (y_loadE (i := y39.toNat) (j := 8) hR3.up rfl hr60 rfl Tryd.underlying3 rfl) ?_; clear hs; (try clear a w); intro a w hs
      refine sy (v := .int .i64 (x57.Next)) hs (y_assign rfl) ?_; clear hs; (try clear a w); intro a w hs
      refine RL_nil ?_
      exact hK10 k44 _ _ (Nat.lt_succ_self _) ⟨x51, x57.Next, v53, rw54, hm, hW55, hs.sub ⟨rfl, rfl, rfl, trivial⟩⟩
     ·replace hm := oc_f hg45 hm
      refine W_exit ?_
      refine hB9 _ _ ?_
      exact ⟨y34, v35, rw36, hm, hW37, hs.subs ⟨rfl, trivial⟩ (.cons_cons _ (.cons _ (.refl _)))⟩
 ·refine W_region ?_
  refine sy (v := .int .i64 (p1)) hs (y_move rfl) ?_; clear hs; (try clear a w); intro a w hs
  refine sy hs (y_lss rfl rfl) ?_; clear hs; (try clear a w); intro a w hs
  refine sy (v := .bool (decide (p1 < 0))) hs (y_move rfl) ?_; clear hs; (try clear a w); intro a w hs
  refine St.split hs (t := 9) rfl (fun hg69 hq => ?_) (fun hg69 hq => ?_)
  ·clear hs; have hs := hq; clear hq
   refine sno hs ?_; clear hs; (try clear a w); intro a w hs
   refine sno hs ?_; clear hs; (try clear a w); intro a w hs
   refine sno hs ?_; clear hs; (try clear a w); intro a w hs
   refine sno hs ?_; clear hs; (try clear a w); intro a w hs
   refine sno hs ?_; clear hs; (try clear a w); intro a w hs
   refine sy (v := .bool (true)) hs (y_pick rfl rfl) ?_; clear hs; (try clear a w); intro a w hs
   refine RL_nil ?_
   exact hs.sub ⟨rfl, rfl, rfl, (lkB (((or_t hg69).trans rfl)) rfl), trivial⟩
  ·clear hs; have hs := hq; clear hq
   refine syg (v := .int .i64 (p1)) hs (y_move rfl) ?_; clear hs; (try clear a w); intro a w hs
   refine syg (v := .pointer (some ⟨b6, 0, none⟩)) hs (y_fieldAddr rfl (FO.of (off := 0) Tryd.underlying24 rfl rfl ti22 (by decide))) ?_; clear hs; (try clear a w); intro a w hs
   refine syg (v := v1) hs (y_ld rfl Tryd.underlying22 rfl (Cell.blk (.head _) rfl)) ?_; clear hs; (try clear a w); intro a w hs
   refine syg hs (y_lenW hR3 hW4 rfl Tryd.underlying22) ?_; clear hs; (try clear a w); intro a w hs
   refine syg hs (y_geq rfl rfl) ?_; clear hs; (try clear a w); intro a w hs
   refine sy (v := .bool (decide ((p0.Nodes.length : Int) ≤ p1))) hs (y_pick rfl rfl) ?_; clear hs; (try clear a w); intro a w hs
   refine RL_nil ?_
   exact hs.sub ⟨rfl, rfl, rfl, (lkB (((or_f hg69).trans rfl)) rfl), trivial⟩
/-! casement/casementlaw7.part -/
def law7_part_k1 (x12 : api_Node) (y45 : (List dom_Part)) : Option dom_Part :=
  some ({Name := x12.Name, Text := x12.Text, Attrs := x12.Attrs, Kids := y45} : dom_Part)
def law7_part_l2 (p0 : api_Tree) (slf : api_Tree → Int → Option dom_Part) (x12 : api_Node) (x33 : (List Int)) : Nat → (List dom_Part) → Int → Option dom_Part
  | 0, _, _ => none
  | k67 + 1, y57, y62 =>
  (bif (decide (y62 < (x33.length : Int))) then (geti x33 y62).bind fun x71 =>
  (slf p0 x71).bind fun x78 =>
  (appM 80 y57 [x78]).bind fun x107 =>
  (law7_part_l2 p0 slf x12 x33 k67) x107 (w64 (y62 + 1)) else
  law7_part_k1 x12 y57)
def law7_part_b (slf : api_Tree → Int → Option dom_Part) (n : Nat) (p0 : api_Tree) (p1 : Int) : Option dom_Part :=
  (geti p0.Nodes p1).bind fun x12 =>
  (ref5_Kids n p0 p1).bind fun x33 =>
  law7_part_l2 p0 slf x12 x33 n ([] : List dom_Part) 0
def law7_part : Nat → api_Tree → Int → Option dom_Part
  | 0, _, _ => none
  | n + 1, p0, p1 => law7_part_b (law7_part n) n p0 p1
set_option maxRecDepth 20000 in
set_option maxHeartbeats 4000000 in
theorem law7_part_bok {slf : api_Tree → Int → Option dom_Part} (n : Nat) (slf_ok : ∀ {f : Fz} {p0 : api_Tree} {a0 : List Value} {p1 : Int} {res : dom_Part} (_ : t_api_Tree.R f a0 p0) (_ : slf p0 p1 = some res), Does Tryd.prog 10 [.agg a0.toArray, .int .i64 p1] f [] (fun r f' L' => ∃ (u0 : List Value), L' = [] ∧ r = .agg u0.toArray ∧ t_dom_Part.R f' u0 res)) {f : Fz} {p0 : api_Tree} {a0 : List Value} {p1 : Int} {res : dom_Part} (h0 : t_api_Tree.R f a0 p0) (hm : law7_part_b slf n p0 p1 = some res) : Does Tryd.prog 10 [.agg a0.toArray, .int .i64 p1] f [] (fun r f' L' => ∃ (u0 : List Value), L' = [] ∧ r = .agg u0.toArray ∧ t_dom_Part.R f' u0 res) := by
 unfold law7_part_b at hm
 intro w0 L w hC
 obtain ⟨v1, rfl, ⟨rw2, hR3, hW4⟩⟩ := h0
 refine enter Tryd.func10 rfl Tryd.ntmps10 (by simp) hC fun a hs => ?_
 have hle := Fz.le.refl f
 refine W_seq fun K1 hK1 => ?_
 refine W_region ?_
 refine sbox hs rfl ?_; clear hs; (try clear a w); intro b6 a w hs
 replace hs : St _ _ _ (.blk b6 (.cells #[v1] 24 (0, 0)) :: L) _ _ _ := hs
 refine RL_alloc hs ti31 (.free rfl) (by decide) ?_; clear hs; (try clear a w); intro b8 a w hs
 replace hs : St _ _ _ (.blk b8 (.cells #[.string ((bs [])), .string ((bs [])), (.slice none 0 0), (.slice none 0 0)] 31 (0, 0)) :: .blk b6 (.cells #[v1] 24 (0, 0)) :: L) _ _ _ := hs
 refine RL_nil ?_
 refine hK1 _ _ ?_; clear hK1
 refine W_seq fun K2 hK2 => ?_
 refine W_region ?_
 refine sy (v := .pointer (some ⟨b6, 0, none⟩)) hs (y_fieldAddr rfl (FO.of (off := 0) Tryd.underlying24 rfl rfl ti22 (by decide))) ?_; clear hs; (try clear a w); intro a w hs
 refine sy (v := v1) hs (y_ld rfl Tryd.underlying22 rfl (Cell.blk (.tail _ (.head _)) rfl)) ?_; clear hs; (try clear a w); intro a w hs
 refine sy (v := .int .i64 (p1)) hs (y_move rfl) ?_; clear hs; (try clear a w); intro a w hs
 obtain ⟨x12, hx13, hm⟩ := ob hm
 obtain ⟨r14, hr15, hq16, hi17, hb18⟩ := hW4.geti hx13
 obtain ⟨v19, rfl, ⟨rw20, hR21, hW22⟩⟩ := hq16
 refine sy hs (y_indexAddr hR3 rfl rfl hi17 hb18 Tryd.underlying22 ti37) ?_; clear hs; (try clear a w); intro a w hs
 refine sy hs (y_loadRow hR3.up rfl hr15 Tryd.underlying37 rfl ti37) ?_; clear hs; (try clear a w); intro a w hs
 refine RL_alloc hs ti37 (.free rfl) (by decide) ?_; clear hs; (try clear a w); intro b24 a w hs
 replace hs : St _ _ _ (.blk b24 (.cells #[.int .i64 (0), .string ((bs [])), .string ((bs [])), (.slice none 0 0), .int .i64 (0), .int .i64 (0), .int .i64 (0), .int .i64 (0), .int .i64 (0)] 37 (0, 0)) :: .blk b8 (.cells #[.string ((bs [])), .string ((bs [])), (.slice none 0 0), (.slice none 0 0)] 31 (0, 0)) :: .blk b6 (.cells #[v1] 24 (0, 0)) :: L) _ _ _ := hs
 refine RL_storeAll (i := 0) hs rfl rfl rfl ti37 ⟨rfl, rfl⟩ (AllC.arr (r := [.int .i64 (x12.Kind), .string (x12.Name), .string (x12.Text), v19, .int .i64 (x12.Parent), .int .i64 (x12.First), .int .i64 (x12.Last), .int .i64 (x12.Prev), .int .i64 (x12.Next)]) ⟨rfl, rfl, rfl, hR21.one, rfl, rfl, rfl, rfl, rfl, trivial⟩) (.free rfl) ?_; clear hs; (try clear a w); intro a w hs
 replace hs : St _ _ _ (.blk b24 (.cells #[.int .i64 (x12.Kind), .string (x12.Name), .string (x12.Text), v19, .int .i64 (x12.Parent), .int .i64 (x12.First), .int .i64 (x12.Last), .int .i64 (x12.Prev), .int .i64 (x12.Next)] 37 (0, 0)) :: .blk b8 (.cells #[.string ((bs [])), .string ((bs [])), (.slice none 0 0), (.slice none 0 0)] 31 (0, 0)) :: .blk b6 (.cells #[v1] 24 (0, 0)) :: L) _ _ _ := hs
 refine RL_nil ?_
 refine hK2 _ _ ?_; clear hK2
 refine W_seq fun K3 hK3 => ?_
 refine W_region ?_
 refine sy (v := .pointer (some ⟨b24, 1, none⟩)) hs (y_fieldAddr rfl (FO.of (off := 1) Tryd.underlying37 rfl rfl ti9 (by decide))) ?_; clear hs; (try clear a w); intro a w hs
 refine sy (v := .string (x12.Name)) hs (y_ld rfl Tryd.underlying9 rfl (Cell.blk (.head _) rfl)) ?_; clear hs; (try clear a w); intro a w hs
 refine sy (v := .pointer (some ⟨b24, 2, none⟩)) hs (y_fieldAddr rfl (FO.of (off := 2) Tryd.underlying37 rfl rfl ti9 (by decide))) ?_; clear hs; (try clear a w); intro a w hs
 refine sy (v := .string (x12.Text)) hs (y_ld rfl Tryd.underlying9 rfl (Cell.blk (.head _) rfl)) ?_; clear hs; (try clear a w); intro a w hs
 refine sy (v := .pointer (some ⟨b24, 3, none⟩)) hs (y_fieldAddr rfl (FO.of (off := 3) Tryd.underlying37 rfl rfl ti28 (by decide))) ?_; clear hs; (try clear a w); intro a w hs
 refine sy (v := v19) hs (y_ld rfl Tryd.underlying28 rfl (Cell.blk (.head _) rfl)) ?_; clear hs; (try clear a w); intro a w hs
 refine sy hs (y_buildS (places := [(0, 1), (1, 1), (2, 1), (3, 1)]) (cs := [.string (x12.Name), .string (x12.Text), v19, (.slice none 0 0)]) rfl Tryd.underlying31 ti31 (by kernel_rfl) (by decide) rfl ⟨rfl, rfl, hR21.one, trivial⟩) ?_; clear hs; (try clear a w); intro a w hs
 refine RL_alloc hs ti31 (.free rfl) (by decide) ?_; clear hs; (try clear a w); intro b29 a w hs
 replace hs : St _ _ _ (.blk b29 (.cells #[.string ((bs [])), .string ((bs [])), (.slice none 0 0), (.slice none 0 0)] 31 (0, 0)) :: .blk b24 (.cells #[.int .i64 (x12.Kind), .string (x12.Name), .string (x12.Text), v19, .int .i64 (x12.Parent), .int .i64 (x12.First), .int .i64 (x12.Last), .int .i64 (x12.Prev), .int .i64 (x12.Next)] 37 (0, 0)) :: .blk b8 (.cells #[.string ((bs [])), .string ((bs [])), (.slice none 0 0), (.slice none 0 0)] 31 (0, 0)) :: .blk b6 (.cells #[v1] 24 (0, 0)) :: L) _ _ _ := hs
 refine RL_storeAll (i := 0) hs rfl rfl rfl ti31 ⟨rfl, rfl⟩ (AllC.arr (r := [.string (x12.Name), .string (x12.Text), v19, (.slice none 0 0)]) ⟨rfl, rfl, hR21.one, rfl, trivial⟩) (.free rfl) ?_; clear hs; (try clear a w); intro a w hs
 replace hs : St _ _ _ (.blk b29 (.cells #[.string (x12.Name), .string (x12.Text), v19, (.slice none 0 0)] 31 (0, 0)) :: .blk b24 (.cells #[.int .i64 (x12.Kind), .string (x12.Name), .string (x12.Text), v19, .int .i64 (x12.Parent), .int .i64 (x12.First), .int .i64 (x12.Last), .int .i64 (x12.Prev), .int .i64 (x12.Next)] 37 (0, 0)) :: .blk b8 (.cells #[.string ((bs [])), .string ((bs [])), (.slice none 0 0), (.slice none 0 0)] 31 (0, 0)) :: .blk b6 (.cells #[v1] 24 (0, 0)) :: L) _ _ _ := hs
 refine RL_nil ?_
 refine hK3 _ _ ?_; clear hK3
 refine W_seq fun K4 hK4 => ?_
 refine W_region ?_
 refine sy hs (y_ldB rfl Tryd.underlying24 rfl ti24 (.tail _ (.tail _ (.tail _ (.head _)))) rfl) ?_; clear hs; (try clear a w); intro a w hs
 refine sy (v := .int .i64 (p1)) hs (y_move rfl) ?_; clear hs; (try clear a w); intro a w hs
 obtain ⟨x33, hx34, hm⟩ := ob hm
 refine RL_callV hs rfl has26 rfl (ref5_Kids_ok n (f := f) (a0 := [v1]) ⟨_, rfl, ⟨rw2, hR3, hW4⟩⟩ hx34) ?_; clear hs; (try clear a w)
 rintro v37 f35 _ a w hf36 ⟨_, rfl, rfl, ⟨rw38, hR39, hW40⟩⟩ hs
 replace hR3 := hR3.le hf36
 replace hW4 := hW4.le hf36
 replace hR21 := hR21.le hf36
 replace hW22 := hW22.le hf36
 replace hle := hle.trans hf36
 replace hs : St _ _ _ (.blk b29 (.cells #[.string (x12.Name), .string (x12.Text), v19, (.slice none 0 0)] 31 (0, 0)) :: .blk b24 (.cells #[.int .i64 (x12.Kind), .string (x12.Name), .string (x12.Text), v19, .int .i64 (x12.Parent), .int .i64 (x12.First), .int .i64 (x12.Last), .int .i64 (x12.Prev), .int .i64 (x12.Next)] 37 (0, 0)) :: .blk b8 (.cells #[.string ((bs [])), .string ((bs [])), (.slice none 0 0), (.slice none 0 0)] 31 (0, 0)) :: .blk b6 (.cells #[v1] 24 (0, 0)) :: L) _ _ _ := hs
 refine sy (v := v37) hs (y_assign rfl) ?_; clear hs; (try clear a w); intro a w hs
 refine RL_nil ?_
 refine hK4 _ _ ?_; clear hK4
 refine W_seq fun K5 hK5 => ?_
 refine W_seq fun K6 hK6 => ?_
 refine W_region ?_
 refine sy (v := .int .i64 (0)) hs (y_assign rfl) ?_; clear hs; (try clear a w); intro a w hs
 refine RL_nil ?_
 refine hK6 _ _ ?_; clear hK6
 have hbase50 := Fz.le.refl f35
 refine W_post (fun a w => ∃ (f42 : Fz) (y45 : (List dom_Part)) (v46 : Value) (rw47 : List (List Value)), Fz.le f35 f42 ∧ law7_part_k1 x12 y45 = some res ∧ RW t_dom_Part f42 rw47 y45 ∧ St 42 w0 f42 (.row v46 31 4 rw47 :: .blk b29 (.cells #[.string (x12.Name), .string (x12.Text), v19, v46] 31 (0, 0)) :: .blk b8 (.cells #[.string ((bs [])), .string ((bs [])), (.slice none 0 0), (.slice none 0 0)] 31 (0, 0)) :: L) [(4, .pointer (some ⟨b8, 0, none⟩)), (6, .pointer (some ⟨b29, 0, none⟩))] a w) ?_ ?_
 ·clear hs hm
  clear hbase50
  rintro a w ⟨f42, y45, v46, rw47, hl43, hm, hW48, hs⟩
  replace hR3 := hR3.le hl43
  replace hW4 := hW4.le hl43
  replace hR21 := hR21.le hl43
  replace hW22 := hW22.le hl43
  replace hR39 := hR39.le hl43
  replace hW40 := hW40.le hl43
  replace hle := hle.trans hl43
  replace hs : St _ _ _ (.row v46 31 4 rw47 :: .blk b29 (.cells #[.string (x12.Name), .string (x12.Text), v19, v46] 31 (0, 0)) :: .blk b8 (.cells #[.string ((bs [])), .string ((bs [])), (.slice none 0 0), (.slice none 0 0)] 31 (0, 0)) :: L) _ _ _ := hs
  unfold law7_part_k1 at hm
  refine hK5 _ _ ?_; clear hK5
  refine W_seq fun K7 hK7 => ?_
  refine W_region ?_
  refine sy hs (y_ldB rfl Tryd.underlying31 rfl ti31 (.tail _ (.head _)) rfl) ?_; clear hs; (try clear a w); intro a w hs
  refine RL_storeAll (i := 2) hs rfl rfl rfl ti31 ⟨rfl, rfl⟩ (AllC.arr (r := [.string (x12.Name), .string (x12.Text), v19, v46]) ⟨rfl, rfl, hR21.one, (hs.one (i := 0) rfl), trivial⟩) (.free rfl) ?_; clear hs; (try clear a w); intro a w hs
  replace hs : St _ _ _ (.row v46 31 4 rw47 :: .blk b29 (.cells #[.string (x12.Name), .string (x12.Text), v19, v46] 31 (0, 0)) :: .blk b8 (.cells #[.string (x12.Name), .string (x12.Text), v19, v46] 31 (0, 0)) :: L) _ _ _ := hs
  refine RL_nil ?_
  refine hK7 _ _ ?_; clear hK7
  refine W_ret ?_
  obtain ⟨f51, hf52, hs2, hR53⟩ := hs.frzAt 0 rfl
  clear hs; have hs := hs2; clear hs2
  replace hR21 := hR21.le hf52
  replace hW22 := hW22.le hf52
  replace hW48 := hW48.le hf52
  replace hle := hle.trans hf52
  replace hs : St _ _ _ (.blk b29 (.cells #[.string (x12.Name), .string (x12.Text), v19, v46] 31 (0, 0)) :: .blk b8 (.cells #[.string (x12.Name), .string (x12.Text), v19, v46] 31 (0, 0)) :: L) _ _ _ := hs
  obtain rfl := Option.some.inj hm
  refine RtV1 hs rfl (rv_a hs rfl Tryd.underlying31 rfl ti31 (fun j u hj => Cell.blk (.tail _ (.head _)) hj) rfl) ?_
  exact ⟨_, f51, [], rfl, hle, (hs.subL (.cons _ (.cons _ (.refl _)))).cw, [.string (x12.Name), .string (x12.Text), v19, v46], rfl, rfl, R_dom_Part.of (x := ({Name := x12.Name, Text := x12.Text, Attrs := x12.Attrs, Kids := y45} : dom_Part)) ⟨rw20, hR21, hW22⟩ ⟨rw47, hR53, hW48⟩⟩
 ·refine W_block fun Qe8 hB8 hO8 => ?_
  have hbase := Fz.le.refl f35
  replace hs := hs.nilRow 31 4
  have hW63 : RW t_dom_Part f35 [] ([] : List dom_Part) := trivial
  generalize hgrw64 : ([] : List (List Value)) = rw64 at hs hW63; clear hgrw64
  replace hs : St _ _ _ (.row (.slice none 0 0) 31 4 rw64 :: .blk b29 (.cells #[.string (x12.Name), .string (x12.Text), v19, (.slice none 0 0)] 31 (0, 0)) :: .blk b24 (.cells #[.int .i64 (x12.Kind), .string (x12.Name), .string (x12.Text), v19, .int .i64 (x12.Parent), .int .i64 (x12.First), .int .i64 (x12.Last), .int .i64 (x12.Prev), .int .i64 (x12.Next)] 37 (0, 0)) :: .blk b8 (.cells #[.string ((bs [])), .string ((bs [])), (.slice none 0 0), (.slice none 0 0)] 31 (0, 0)) :: .blk b6 (.cells #[v1] 24 (0, 0)) :: L) _ _ _ := hs
  replace hs : St _ _ _ (.row (.slice none 0 0) 31 4 rw64 :: .blk b29 (.cells #[.string (x12.Name), .string (x12.Text), v19, (.slice none 0 0)] 31 (0, 0)) :: .blk b24 (.cells #[.int .i64 (x12.Kind), .string (x12.Name), .string (x12.Text), v19, .int .i64 (x12.Parent), .int .i64 (x12.First), .int .i64 (x12.Last), .int .i64 (x12.Prev), .int .i64 (x12.Next)] 37 (0, 0)) :: .blk b8 (.cells #[.string ((bs [])), .string ((bs [])), (.slice none 0 0), (.slice none 0 0)] 31 (0, 0)) :: .blk b6 (.cells #[v1] 24 (0, 0)) :: L) _ _ _ := hs
  refine W_loop (fun (k : Nat) a w => ∃ (f54 : Fz) (y57 : (List dom_Part)) (y62 : Int) (v58 : Value) (rw59 : List (List Value)), Fz.le f35 f54 ∧ law7_part_l2 p0 slf x12 x33 k y57 y62 = some res ∧ RW t_dom_Part f54 rw59 y57 ∧ St 42 w0 f54 (.row v58 31 4 rw59 :: .blk b29 (.cells #[.string (x12.Name), .string (x12.Text), v19, v58] 31 (0, 0)) :: .blk b8 (.cells #[.string ((bs [])), .string ((bs [])), (.slice none 0 0), (.slice none 0 0)] 31 (0, 0)) :: .blk b6 (.cells #[v1] 24 (0, 0)) :: L) [(2, .pointer (some ⟨b6, 0, none⟩)), (4, .pointer (some ⟨b8, 0, none⟩)), (6, .pointer (some ⟨b29, 0, none⟩)), (7, v37), (8, .int .i64 (y62))] a w) (fun k => k) n ⟨_, ([] : List dom_Part), 0, (.slice none 0 0), rw64, (Fz.le.refl _), hm, hW63, hs.subs ⟨rfl, rfl, rfl, rfl, rfl, trivial⟩ (.cons_cons _ (.cons_cons _ (.cons _ (.cons_cons _ (.cons_cons _ (.refl _))))))⟩ ?_
  clear hs hm
  intro k
  rintro a w ⟨f54, y57, y62, v58, rw59, hl55, hm, hW60, hs⟩
  replace hR3 := hR3.le hl55
  replace hW4 := hW4.le hl55
  replace hR21 := hR21.le hl55
  replace hW22 := hW22.le hl55
  replace hR39 := hR39.le hl55
  replace hW40 := hW40.le hl55
  replace hle := hle.trans hl55
  replace hbase50 := hbase50.trans hl55
  replace hs : St _ _ _ (.row v58 31 4 rw59 :: .blk b29 (.cells #[.string (x12.Name), .string (x12.Text), v19, v58] 31 (0, 0)) :: .blk b8 (.cells #[.string ((bs [])), .string ((bs [])), (.slice none 0 0), (.slice none 0 0)] 31 (0, 0)) :: .blk b6 (.cells #[v1] 24 (0, 0)) :: L) _ _ _ := hs
  intro K9 hK9
  cases k with
  | zero => simp [law7_part_l2] at hm
  | succ k67 =>
   rw [law7_part_l2] at hm
   have hbase68 := hl55
   refine W_seq fun K10 hK10 => ?_
   refine W_seq fun K11 hK11 => ?_
   refine W_region ?_
   refine sy (v := .int .i64 (y62)) hs (y_move rfl) ?_; clear hs; (try clear a w); intro a w hs
   refine sy (v := v37) hs (y_move rfl) ?_; clear hs; (try clear a w); intro a w hs
   refine sy hs (y_lenW hR39 hW40 rfl Tryd.underlying55) ?_; clear hs; (try clear a w); intro a w hs
   refine sy hs (y_lss rfl rfl) ?_; clear hs; (try clear a w); intro a w hs
   refine RL_nil ?_
   refine hK11 _ _ ?_; clear hK11
   refine W_cond hs rfl (fun hg69 => ?_) (fun hg69 => ?_)
   ·replace hm := oc_t hg69 hm
    refine W_skip ?_
    refine hK10 _ _ ?_; clear hK10
    refine W_seq fun K12 hK12 => ?_
    refine W_block fun Qe13 hB13 hO13 => ?_
    have hsD := hs.subL (L' := .blk b29 (.cells #[.string (x12.Name), .string (x12.Text), v19, v58] 31 (0, 0)) :: .blk b6 (.cells #[v1] 24 (0, 0)) :: []) (.cons _ (.cons_cons _ (.cons _ (.cons_cons _ (List.nil_sublist _)))))
    have hbd70 := Fz.le.refl f54
    refine T_start hs (.blk b29 (.cells #[.string (x12.Name), .string (x12.Text), v19, v58] 31 (0, 0)) :: .blk b6 (.cells #[v1] 24 (0, 0)) :: []) [11] (.look 0 (.look 1 (.look 2 (.look 3 (.look 4 (.look 5 (.look 6 (.any [7] (fun _ => .any [8] (fun _ => .any [9] (fun _ => .look 10 (.any [11] (fun _ => .done))))))))))))) mixed (by kernel_rfl) ?_; clear hs; (try clear a w); intro a he
    refine uy (v := .pointer (some ⟨b29, 3, none⟩)) 0 he rfl (y_fieldAddr rfl (FO.of (off := 3) Tryd.underlying31 rfl rfl ti29 (by decide))) ?_; clear he; (try clear a); intro a he
    refine uy (v := v58) 1 he rfl (y_ld rfl Tryd.underlying29 rfl (Cell.blk (.head _) rfl)) ?_; clear he; (try clear a); intro a he
    refine uy 2 he rfl (y_ldB rfl Tryd.underlying24 rfl ti24 (.tail _ (.head _)) rfl) ?_; clear he; (try clear a); intro a he
    refine uy (v := v37) 3 he rfl (y_move rfl) ?_; clear he; (try clear a); intro a he
    refine uy (v := .int .i64 (y62)) 4 he rfl (y_move rfl) ?_; clear he; (try clear a); intro a he
    obtain ⟨x71, hx72, hm⟩ := ob hm
    obtain ⟨r73, hr74, hq75, hi76, hb77⟩ := hW40.geti hx72
    obtain rfl : _ = ([.int .i64 (x71)] : List Value) := hq75
    refine uy 5 he rfl (y_indexAddr hR39 rfl rfl hi76 hb77 Tryd.underlying55 ti3) ?_; clear he; (try clear a); intro a he
    refine uy (v := .int .i64 (x71)) 6 he rfl (y_loadE (i := y62.toNat) (j := 0) hR39.up rfl hr74 rfl Tryd.underlying3 rfl) ?_; clear he; (try clear a); intro a he
    refine T_any1 he rfl ?_; clear he; (try clear a); intro a w hs
    obtain ⟨x78, hx79, hm⟩ := ob hm
    refine RL_callV hs rfl has10 rfl (slf_ok (f := f54) (a0 := [v1]) ⟨_, rfl, ⟨rw2, hR3, hW4⟩⟩ hx79) ?_; clear hs; (try clear a w)
    rintro _ f80 _ a w hf81 ⟨r82, rfl, rfl, hq83⟩ hs
    have hR84 := hR3.le hf81
    have hW85 := hW4.le hf81
    have hR86 := hR21.le hf81
    have hW87 := hW22.le hf81
    have hR88 := hR39.le hf81
    have hW89 := hW40.le hf81
    have hW90 := hW60.le hf81
    replace hle := hle.trans hf81
    replace hbase50 := hbase50.trans hf81
    replace hbase68 := hbase68.trans hf81
    replace hbd70 := hbd70.trans hf81
    obtain ⟨v91, v96, rfl, ⟨rw92, hR93, hW94⟩, ⟨rw97, hR98, hW99⟩⟩ := R_dom_Part.ex hq83
    replace hs : St _ _ _ (.row v58 31 4 rw59 :: .blk b29 (.cells #[.string (x12.Name), .string (x12.Text), v19, v58] 31 (0, 0)) :: .blk b8 (.cells #[.string ((bs [])), .string ((bs [])), (.slice none 0 0), (.slice none 0 0)] 31 (0, 0)) :: .blk b6 (.cells #[v1] 24 (0, 0)) :: L) _ _ _ := hs
    refine uon hs ?_; clear hs; (try clear a w); intro a he
    refine T_any1 he rfl ?_; clear he; (try clear a); intro a w hs
    refine RL_bs1a hs rfl Tryd.underlying29 ti31 (by decide) (AllC.row ⟨rfl, rfl, hR93.one, hR98.one, trivial⟩ rfl) ?_; clear hs; (try clear a w); intro v101 a w hs
    have hW102 : RW t_dom_Part f80 [[.string (x78.Name), .string (x78.Text), v91, v96]] [x78] := RW.single (R_dom_Part.of (x := x78) ⟨rw92, hR93, hW94⟩ ⟨rw97, hR98, hW99⟩)
    generalize hgrw103 : ([[.string (x78.Name), .string (x78.Text), v91, v96]] : List (List Value)) = rw103 at hs hW102; clear hgrw103
    replace hs : St _ _ _ (.row v101 31 4 rw103 :: .row v58 31 4 rw59 :: .blk b29 (.cells #[.string (x12.Name), .string (x12.Text), v19, v58] 31 (0, 0)) :: .blk b8 (.cells #[.string ((bs [])), .string ((bs [])), (.slice none 0 0), (.slice none 0 0)] 31 (0, 0)) :: .blk b6 (.cells #[v1] 24 (0, 0)) :: L) _ _ _ := hs
    have ho106 : v101.oneCell' = true := hs.one (i := 0) rfl
    refine uon hs ?_; clear hs; (try clear a w); intro a he
    refine T_any1 he rfl ?_; clear he; (try clear a); intro a w hs
    obtain ⟨x107, hx108, hm⟩ := ob hm
    obtain ⟨hbx107, hex107⟩ := appM_some hx108
    have hW111 := hW90.append hW102; rw [hex107] at hW111
    refine RL_append (i := 1) hs rfl rfl rfl (Rd.st hs (.head _)) Tryd.underlying29 ti31 (by decide) (by rw [RW.len hW90, RW.len hW102]; exact hbx107) (.free rfl) (by decide) ?_; clear hs; (try clear a w); intro v109 a w hs
    generalize hgx107 : rw59 ++ rw103 = rw110 at hs hW111; clear hgx107
    replace hs := hs.erase 0
    replace hs : St _ _ _ (.row v109 31 4 rw110 :: .blk b29 (.cells #[.string (x12.Name), .string (x12.Text), v19, v58] 31 (0, 0)) :: .blk b8 (.cells #[.string ((bs [])), .string ((bs [])), (.slice none 0 0), (.slice none 0 0)] 31 (0, 0)) :: .blk b6 (.cells #[v1] 24 (0, 0)) :: L) _ _ _ := hs
    have ho113 : v109.oneCell' = true := hs.one (i := 0) rfl
    refine uon hs ?_; clear hs; (try clear a w); intro a he
    refine uy (v := .pointer (some ⟨b29, 3, none⟩)) 10 he rfl (y_fieldAddr rfl (FO.of (off := 3) Tryd.underlying31 rfl rfl ti29 (by decide))) ?_; clear he; (try clear a); intro a he
    refine T_any1 he rfl ?_; clear he; (try clear a); intro a w hs
    refine sstore 1 hs rfl rfl rfl ti29 ho113 ?_; clear hs; (try clear a w); intro a w hs
    replace hs : St _ _ _ (.row v109 31 4 rw110 :: .blk b29 (.cells #[.string (x12.Name), .string (x12.Text), v19, v109] 31 (0, 0)) :: .blk b8 (.cells #[.string ((bs [])), .string ((bs [])), (.slice none 0 0), (.slice none 0 0)] 31 (0, 0)) :: .blk b6 (.cells #[v1] 24 (0, 0)) :: L) _ _ _ := hs
    refine uend hs ?_; clear hs; (try clear a w); intro a he
    refine T_nil he ?_; clear he; (try clear a); intro w hs; try clear hsD
    refine hK12 _ _ ?_; clear hK12
    refine W_region ?_
    refine sy (v := .int .i64 (y62)) hs (y_move rfl) ?_; clear hs; (try clear a w); intro a w hs
    refine sy hs (y_add rfl rfl rfl) ?_; clear hs; (try clear a w); intro a w hs
    refine sy (v := .int .i64 ((w64 (y62 + 1)))) hs (y_assign rfl) ?_; clear hs; (try clear a w); intro a w hs
    refine RL_nil ?_
    exact hK9 k67 _ _ (Nat.lt_succ_self _) ⟨_, x107, (w64 (y62 + 1)), v109, rw110, hbase68, hm, hW111, hs.sub ⟨rfl, rfl, rfl, rfl, rfl, trivial⟩⟩
   ·replace hm := oc_f hg69 hm
    refine W_exit ?_
    refine hB8 _ _ ?_
    exact ⟨_, y57, v58, rw59, hbase50, hm, hW60, hs.subs ⟨rfl, rfl, trivial⟩ (.cons_cons _ (.cons_cons _ (.cons_cons _ (.cons _ (.refl _)))))⟩
set_option maxRecDepth 20000 in
set_option maxHeartbeats 4000000 in
theorem law7_part_ok : ∀ (n : Nat) {f : Fz} {p0 : api_Tree} {a0 : List Value} {p1 : Int} {res : dom_Part} (_h0 : t_api_Tree.R f a0 p0) (_ : law7_part n p0 p1 = some res), Does Tryd.prog 10 [.agg a0.toArray, .int .i64 p1] f [] (fun r f' L' => ∃ (u0 : List Value), L' = [] ∧ r = .agg u0.toArray ∧ t_dom_Part.R f' u0 res)
  | 0, f, p0, a0, p1, res, h0, hm => by simp [law7_part] at hm
  | n + 1, f, p0, a0, p1, res, h0, hm => law7_part_bok n (law7_part_ok n) h0 hm
end Go.Proofs.YtklcdfnhdljkjaaDoor
