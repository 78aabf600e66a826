/-
  Walks and laws of this seat; the base is the text Base.
-/
import Derived.Test.YtekcbgnkikmhpaaL5h
/-
  Models of functions, and that the functions compute them. Printed by lift.py.
-/
namespace Go.Proofs.Ytekcbgnkikmhpaa
open Go.RowKit Go.Sl

/-! casement/casementlaw5.DomAsks -/
def law5_DomAsks_k4 (n : Nat) : Option Bool :=
  (law5_known n).bind fun x56 =>
  some x56
def law5_DomAsks_k8 (y77 : Int) (lp78 : Int → Option Bool) (y96 : Bool) : Option Bool :=
  (bif y96 then some false else
  lp78 (w64 (y77 + 1)))
def law5_DomAsks_k7 (n : Nat) (y25 : (List Int)) (y77 : Int) (lp78 : Int → Option Bool) (y87 : (List Int)) : Option Bool :=
  (bif (decide (y77 = 0)) then (book_Same_int n y87 y25).bind fun x101 =>
  (bif (!x101) then law5_DomAsks_k8 y77 lp78 true else
  (bif (decide ((y25.length : Int) < (y87.length : Int))) then law5_DomAsks_k8 y77 lp78 true else
  (cutM y25 (0 : Int) (y87.length : Int)).bind fun x105 =>
  (book_Same_int n y87 x105).bind fun x112 =>
  law5_DomAsks_k8 y77 lp78 (!x112))) else
  (bif (decide ((y25.length : Int) < (y87.length : Int))) then law5_DomAsks_k8 y77 lp78 true else
  (cutM y25 (0 : Int) (y87.length : Int)).bind fun x115 =>
  (book_Same_int n y87 x115).bind fun x122 =>
  law5_DomAsks_k8 y77 lp78 (!x122)))
def law5_DomAsks_k10 (n : Nat) (y25 : (List Int)) (y77 : Int) (lp78 : Int → Option Bool) (y163 : (List Int)) : Option Bool :=
  law5_DomAsks_k7 n y25 y77 lp78 y163
def law5_DomAsks_r9 (n : Nat) (y25 : (List Int)) (x49 : Int) (y77 : Int) (lp78 : Int → Option Bool) : List Int → (List Int) → Option Bool
  | [], y144 =>
  law5_DomAsks_k7 n y25 y77 lp78 y144
  | x169 :: rm168, y144 =>
  (appM 8 y144 [x169]).bind fun x188 =>
  (bif ((decide (y77 = 1)) && (decide (x49 < (x188.length : Int)))) then law5_DomAsks_k10 n y25 y77 lp78 x188 else
  (law5_DomAsks_r9 n y25 x49 y77 lp78 rm168) x188)
def law5_DomAsks_l6 (n : Nat) (y25 : (List Int)) (x30 : (api_Tree × Int)) (x49 : Int) : Nat → Int → Option Bool
  | 0, _ => none
  | k78 + 1, y77 =>
  (bif (decide (y77 < 2)) then (dom_All_1 n x30.1 x30.2).bind fun x124 =>
  law5_DomAsks_r9 n y25 x49 y77 (law5_DomAsks_l6 n y25 x30 x49 k78) x124 ([] : List Int) else
  law5_DomAsks_k4 n)
def law5_DomAsks_k3 (n : Nat) (p0 : api_Tree) (p2 : Int) (p3 : Int) (y25 : (List Int)) : Option Bool :=
  (dom_All n p0 p2).bind fun x30 =>
  (book_Within n p3 0 9).bind fun x49 =>
  law5_DomAsks_l6 n y25 x30 x49 n 0
def law5_DomAsks_k13 (y202 : Int) (lp207 : (List Int) → Int → Option Bool) (y210 : (List Int)) : Option Bool :=
  lp207 y210 (w64 (y202 + 1))
def law5_DomAsks_k12 (y197 : (List Int)) (y202 : Int) (lp207 : (List Int) → Int → Option Bool) (y209 : Bool) : Option Bool :=
  (bif y209 then (appM 8 y197 [y202]).bind fun x221 =>
  law5_DomAsks_k13 y202 lp207 x221 else
  law5_DomAsks_k13 y202 lp207 y197)
def law5_DomAsks_l11 (n : Nat) (p0 : api_Tree) (p2 : Int) (p3 : Int) : Nat → (List Int) → Int → Option Bool
  | 0, _, _ => none
  | k207 + 1, y197, y202 =>
  (bif (decide (y202 < (p0.Nodes.length : Int))) then (bif (decide (0 ≤ p2)) then (bif (decide (p2 < (p0.Nodes.length : Int))) then (ref5_Below n p0 p2 y202).bind fun x229 =>
  law5_DomAsks_k12 y197 y202 (law5_DomAsks_l11 n p0 p2 p3 k207) x229 else
  law5_DomAsks_k12 y197 y202 (law5_DomAsks_l11 n p0 p2 p3 k207) false) else
  law5_DomAsks_k12 y197 y202 (law5_DomAsks_l11 n p0 p2 p3 k207) false) else
  law5_DomAsks_k3 n p0 p2 p3 y197)
def law5_DomAsks_k2 (n : Nat) (p0 : api_Tree) (p2 : Int) (p3 : Int) (y20 : Bool) : Option Bool :=
  (bif y20 then some false else
  law5_DomAsks_l11 n p0 p2 p3 n ([] : List Int) 0)
def law5_DomAsks_k1 (n : Nat) (p0 : api_Tree) (p1 : Int) (p2 : Int) (p3 : Int) (p4 : ByteArray) (y10 : Bool) : Option Bool :=
  (bif y10 then (law5_known n).bind fun x12 =>
  some x12 else
  (dom_Attr n p0 p1 p4).bind fun x14 =>
  (ref5_Attr n p0 p1 p4).bind fun x16 =>
  (bif (decide (x14.1 ≠ x16.1)) then law5_DomAsks_k2 n p0 p2 p3 true else
  (bif (!(x14.2 == x16.2)) then law5_DomAsks_k2 n p0 p2 p3 true else
  (dom_Depth n p0 p1).bind fun x233 =>
  (ref5_Depth n p0 p1).bind fun x235 =>
  (bif (decide (x233 ≠ x235)) then law5_DomAsks_k2 n p0 p2 p3 true else
  (dom_Index n p0 p1).bind fun x238 =>
  (ref5_Index n p0 p1).bind fun x240 =>
  (bif (decide (x238 ≠ x240)) then law5_DomAsks_k2 n p0 p2 p3 true else
  (dom_Kids n p0 p1).bind fun x243 =>
  (ref5_Kids n p0 p1).bind fun x254 =>
  (book_Same_int n x243 x254).bind fun x267 =>
  law5_DomAsks_k2 n p0 p2 p3 (!x267))))))
def law5_DomAsks (n : Nat) (p0 : api_Tree) (p1 : Int) (p2 : Int) (p3 : Int) (p4 : ByteArray) : Option Bool :=
  (bif (decide (300 < (p0.Nodes.length : Int))) then law5_DomAsks_k1 n p0 p1 p2 p3 p4 true else
  (ref5_Right n p0).bind fun x270 =>
  law5_DomAsks_k1 n p0 p1 p2 p3 p4 (decide (x270 ≠ 0)))
theorem law5_DomAsks_ok (n : Nat) {f : Fz} {p0 : api_Tree} {a0 : List Value} {p1 : Int} {p2 : Int} {p3 : Int} {p4 : ByteArray} {res : Bool} (h0 : t_api_Tree.R f a0 p0) (hm : law5_DomAsks n p0 p1 p2 p3 p4 = some res) : Gives Try.prog 9 [.agg a0.toArray, .int .i64 p1, .int .i64 p2, .int .i64 p3, .string p4] f (.bool res) := by
 unfold law5_DomAsks at hm
 intro w0 L w hC
 obtain ⟨v1, rfl, ⟨rw2, hR3, hW4⟩⟩ := h0
 refine enter1 Try.func9 rfl Try.ntmps9 (by simp) hC fun a hs => ?_
 have hM : Marks f f [] := Marks.nil
 have hle := Fz.le.refl f
 refine W1_seq fun K1 hK1 => ?_
 refine W1_of ?_
 refine W_region ?_
 refine sbox hs rfl ?_; clear hs; (try clear a w); intro b6 a w hs
 replace hs : St _ _ _ (.blk b6 (.cells #[v1] 24 (0, 0)) :: L) _ _ _ := hs
 refine sbox1 hs rfl rfl ?_; clear hs; (try clear a w); intro b8 a w hs
 replace hs : St _ _ _ (.blk b8 (.cells #[.int .i64 (p3)] 3 (0, 0)) :: .blk b6 (.cells #[v1] 24 (0, 0)) :: L) _ _ _ := hs
 refine sy (v := .bool (false)) hs (y_assign rfl) ?_; clear hs; (try clear a w); intro a w hs
 refine RL_nil ?_
 refine hK1 _ _ _ ?_; clear hK1
 refine W1_seq fun K2 hK2 => ?_
 refine W1_of ?_
 refine W_seq fun K3 hK3 => ?_
 refine W_post (fun a w => ∃ (y10 : Bool), law5_DomAsks_k1 n p0 p1 p2 p3 p4 y10 = some res ∧ St 158 w0 f (.blk b8 (.cells #[.int .i64 (p3)] 3 (0, 0)) :: .blk b6 (.cells #[v1] 24 (0, 0)) :: L) [(1, .int .i64 (p1)), (2, .int .i64 (p2)), (4, .string (p4)), (5, .pointer (some ⟨b6, 0, none⟩)), (8, .pointer (some ⟨b8, 0, none⟩)), (10, .bool (false)), (29, .bool (y10))] a w) ?_ ?_
 ·clear hs hm
  rintro a w ⟨y10, hm, hs⟩
  replace hs : St _ _ _ (.blk b8 (.cells #[.int .i64 (p3)] 3 (0, 0)) :: .blk b6 (.cells #[v1] 24 (0, 0)) :: L) _ _ _ := hs
  unfold law5_DomAsks_k1 at hm
  refine hK3 _ _ ?_; clear hK3
  refine W_cond hs rfl (fun hg11 => ?_) (fun hg11 => ?_)
  ·replace hm := oc_t hg11 hm
   refine W_seq fun K4 hK4 => ?_
   refine W_region ?_
   obtain ⟨x12, hx13, hm⟩ := ob hm
   refine sy hs (y_call rfl has10 rfl (law5_known_ok n (f := f)  hx13)) ?_; clear hs; (try clear a w); intro a w hs
   refine sy (v := .bool (x12)) hs (y_assign rfl) ?_; clear hs; (try clear a w); intro a w hs
   refine RL_nil ?_
   refine hK4 _ _ ?_; clear hK4
   refine W_ret ?_
   obtain rfl := Option.some.inj hm
   refine RtM_of hs hle hM ?_; clear hs; (try clear w); intro w hs
   replace hle := Fz.le.refl f
   refine RtV1 hs rfl (rv_t hs rfl) ?_
   exact ⟨rfl, ((hs.subL (.cons _ (.cons _ (.refl _)))).weak hle).cw⟩
  ·replace hm := oc_f hg11 hm
   refine W_skip ?_
   refine hK2 _ _ _ ?_; clear hK2
   refine W1_seq fun K5 hK5 => ?_
   refine W1_of ?_
   refine W_region ?_
   refine sy hs (y_ldB rfl Try.underlying24 rfl ti24 (.tail _ (.head _)) rfl) ?_; clear hs; (try clear a w); intro a w hs
   refine sy (v := .int .i64 (p1)) hs (y_move rfl) ?_; clear hs; (try clear a w); intro a w hs
   refine sy (v := .string (p4)) hs (y_move rfl) ?_; clear hs; (try clear a w); intro a w hs
   obtain ⟨x14, hx15, hm⟩ := ob hm
   refine sy hs (y_call rfl has29 rfl (dom_Attr_ok n (f := f) (a0 := [v1]) ⟨_, rfl, ⟨rw2, hR3, hW4⟩⟩ hx15)) ?_; clear hs; (try clear a w); intro a w hs
   refine sy (v := .tuple #[.string (x14.1), .bool (x14.2)]) hs (y_move rfl) ?_; clear hs; (try clear a w); intro a w hs
   refine sy (v := .string (x14.1)) hs (y_extract rfl rfl) ?_; clear hs; (try clear a w); intro a w hs
   refine sy (v := .bool (x14.2)) hs (y_extract rfl rfl) ?_; clear hs; (try clear a w); intro a w hs
   refine sy (v := .string (x14.1)) hs (y_assign rfl) ?_; clear hs; (try clear a w); intro a w hs
   refine sy (v := .bool (x14.2)) hs (y_assign rfl) ?_; clear hs; (try clear a w); intro a w hs
   refine RL_nil ?_
   refine hK5 _ _ _ ?_; clear hK5
   refine W1_seq fun K6 hK6 => ?_
   refine W1_of ?_
   refine W_region ?_
   refine sy hs (y_ldB rfl Try.underlying24 rfl ti24 (.tail _ (.head _)) rfl) ?_; clear hs; (try clear a w); intro a w hs
   refine sy (v := .int .i64 (p1)) hs (y_move rfl) ?_; clear hs; (try clear a w); intro a w hs
   refine sy (v := .string (p4)) hs (y_move rfl) ?_; clear hs; (try clear a w); intro a w hs
   obtain ⟨x16, hx17, hm⟩ := ob hm
   refine sy hs (y_call rfl has30 rfl (ref5_Attr_ok n (f := f) (a0 := [v1]) ⟨_, rfl, ⟨rw2, hR3, hW4⟩⟩ hx17)) ?_; clear hs; (try clear a w); intro a w hs
   refine sy (v := .tuple #[.string (x16.1), .bool (x16.2)]) hs (y_move rfl) ?_; clear hs; (try clear a w); intro a w hs
   refine sy (v := .string (x16.1)) hs (y_extract rfl rfl) ?_; clear hs; (try clear a w); intro a w hs
   refine sy (v := .bool (x16.2)) hs (y_extract rfl rfl) ?_; clear hs; (try clear a w); intro a w hs
   refine sy (v := .string (x16.1)) hs (y_assign rfl) ?_; clear hs; (try clear a w); intro a w hs
   refine sy (v := .bool (x16.2)) hs (y_assign rfl) ?_; clear hs; (try clear a w); intro a w hs
   refine RL_nil ?_
   refine hK6 _ _ _ ?_; clear hK6
   refine W1_seq fun K7 hK7 => ?_
   refine W1_of ?_
   refine W_seq fun K8 hK8 => ?_
   have hbase21 := Fz.le.refl f
   refine W_post (fun a w => ∃ (f18 : Fz) (y20 : Bool), Fz.le f f18 ∧ law5_DomAsks_k2 n p0 p2 p3 y20 = some res ∧ St 158 w0 f18 (.blk b8 (.cells #[.int .i64 (p3)] 3 (0, 0)) :: .blk b6 (.cells #[v1] 24 (0, 0)) :: L) [(2, .int .i64 (p2)), (5, .pointer (some ⟨b6, 0, none⟩)), (8, .pointer (some ⟨b8, 0, none⟩)), (10, .bool (false)), (80, .bool (y20))] a w) ?_ ?_
   ·clear hs hm
    clear hbase21
    rintro a w ⟨f18, y20, hl19, hm, hs⟩
    replace hR3 := hR3.le hl19
    replace hW4 := hW4.le hl19
    replace hle := hle.trans hl19
    replace hM := hM.le hl19
    replace hs : St _ _ _ (.blk b8 (.cells #[.int .i64 (p3)] 3 (0, 0)) :: .blk b6 (.cells #[v1] 24 (0, 0)) :: L) _ _ _ := hs
    unfold law5_DomAsks_k2 at hm
    refine hK8 _ _ ?_; clear hK8
    refine W_cond hs rfl (fun hg22 => ?_) (fun hg22 => ?_)
    ·replace hm := oc_t hg22 hm
     refine W_seq fun K9 hK9 => ?_
     refine W_region ?_
     refine sy (v := .bool (false)) hs (y_assign rfl) ?_; clear hs; (try clear a w); intro a w hs
     refine RL_nil ?_
     refine hK9 _ _ ?_; clear hK9
     refine W_ret ?_
     obtain rfl := Option.some.inj hm
     refine RtM_of hs hle hM ?_; clear hs; (try clear w); intro w hs
     replace hle := Fz.le.refl f
     refine RtV1 hs rfl (rv_t hs rfl) ?_
     exact ⟨rfl, ((hs.subL (.cons _ (.cons _ (.refl _)))).weak hle).cw⟩
    ·replace hm := oc_f hg22 hm
     refine W_skip ?_
     refine hK7 _ _ _ ?_; clear hK7
     refine W1_seq fun K10 hK10 => ?_
     refine W1_of ?_
     refine W_region ?_
     refine sy (v := (.slice none 0 0)) hs (y_assign rfl) ?_; clear hs; (try clear a w); intro a w hs
     refine RL_nil ?_
     refine hK10 _ _ _ ?_; clear hK10
     refine W1_seq fun K11 hK11 => ?_
     refine W1_of ?_
     refine W_seq fun K12 hK12 => ?_
     refine W_region ?_
     refine sy (v := .int .i64 (0)) hs (y_assign rfl) ?_; clear hs; (try clear a w); intro a w hs
     refine RL_nil ?_
     refine hK12 _ _ ?_; clear hK12
     refine W_post (fun a w => ∃ (y25 : (List Int)) (v26 : Value) (rw27 : List (List Value)), law5_DomAsks_k3 n p0 p2 p3 y25 = some res ∧ RW (tInt .i64) f18 rw27 y25 ∧ St 158 w0 f18 (.row v26 3 1 rw27 :: .blk b8 (.cells #[.int .i64 (p3)] 3 (0, 0)) :: .blk b6 (.cells #[v1] 24 (0, 0)) :: L) [(2, .int .i64 (p2)), (5, .pointer (some ⟨b6, 0, none⟩)), (8, .pointer (some ⟨b8, 0, none⟩)), (10, .bool (false)), (15, v26)] a w) ?_ ?_
     ·clear hs hm
      rintro a w ⟨y25, v26, rw27, hm, hW28, hs⟩
      replace hs : St _ _ _ (.row v26 3 1 rw27 :: .blk b8 (.cells #[.int .i64 (p3)] 3 (0, 0)) :: .blk b6 (.cells #[v1] 24 (0, 0)) :: L) _ _ _ := hs
      unfold law5_DomAsks_k3 at hm
      refine hK11 _ _ _ ?_; clear hK11
      refine W1_seq fun K13 hK13 => ?_
      refine W1_of ?_
      refine W_region ?_
      refine sy hs (y_ldB rfl Try.underlying24 rfl ti24 (.tail _ (.tail _ (.head _))) rfl) ?_; clear hs; (try clear a w); intro a w hs
      refine sy (v := .int .i64 (p2)) hs (y_move rfl) ?_; clear hs; (try clear a w); intro a w hs
      obtain ⟨x30, hx31, hm⟩ := ob hm
      refine RL_callV hs rfl has24 rfl (dom_All_ok n (f := f18) (a0 := [v1]) ⟨_, rfl, ⟨rw2, hR3, hW4⟩⟩ hx31) ?_; clear hs; (try clear a w)
      rintro _ f32 _ a w hf33 ⟨b34, r35, b39, r40, rfl, rfl, hq36, hB37, hq41, hB42⟩ hs
      replace hR3 := hR3.le hf33
      replace hW4 := hW4.le hf33
      replace hW28 := hW28.le hf33
      replace hle := hle.trans hf33
      replace hM := hM.le hf33
      obtain ⟨v44, rfl, ⟨rw45, hR46, hW47⟩⟩ := hq36
      obtain rfl : _ = ([.int .i64 (x30.2)] : List Value) := hq41
      replace hs : St _ _ _ (.row v26 3 1 rw27 :: .blk b8 (.cells #[.int .i64 (p3)] 3 (0, 0)) :: .blk b6 (.cells #[v1] 24 (0, 0)) :: L) _ _ _ := hs
      refine sy (v := .func (.func 45) #[] #[.pointer (some ⟨b34, 0, none⟩), .pointer (some ⟨b39, 0, none⟩)]) hs (y_assign rfl) ?_; clear hs; (try clear a w); intro a w hs
      refine RL_nil ?_
      refine hK13 _ _ _ ?_; clear hK13
      refine W1_seq fun K14 hK14 => ?_
      refine W1_of ?_
      refine W_seq fun K15 hK15 => ?_
      refine W_region ?_
      refine sy (v := .func (.func 45) #[] #[.pointer (some ⟨b34, 0, none⟩), .pointer (some ⟨b39, 0, none⟩)]) hs (y_move rfl) ?_; clear hs; (try clear a w); intro a w hs
      refine sy hs (y_fnil rfl rfl Try.underlying55) ?_; clear hs; (try clear a w); intro a w hs
      refine RL_nil ?_
      refine hK15 _ _ ?_; clear hK15
      refine W_condF hs rfl ?_
      refine W_skip ?_
      refine hK14 _ _ _ ?_; clear hK14
      refine W1_seq fun K16 hK16 => ?_
      refine W1_of ?_
      refine W_region ?_
      refine sy (v := .int .i64 (p3)) hs (y_ld rfl Try.underlying3 rfl (Cell.blk (.tail _ (.head _)) rfl)) ?_; clear hs; (try clear a w); intro a w hs
      obtain ⟨x49, hx50, hm⟩ := ob hm
      refine sy hs (y_call rfl has36 rfl (book_Within_ok n (f := f32)  hx50)) ?_; clear hs; (try clear a w); intro a w hs
      refine sstore 1 hs rfl rfl rfl ti3 rfl ?_; clear hs; (try clear a w); intro a w hs
      replace hs : St _ _ _ (.row v26 3 1 rw27 :: .blk b8 (.cells #[.int .i64 (x49)] 3 (0, 0)) :: .blk b6 (.cells #[v1] 24 (0, 0)) :: L) _ _ _ := hs
      refine RL_nil ?_
      refine hK16 _ _ _ ?_; clear hK16
      refine W1_seq fun K17 hK17 => ?_
      refine W1_seq fun K18 hK18 => ?_
      refine W1_of ?_
      refine W_region ?_
      refine RL_alloc hs ti3 (.free rfl) (by decide) ?_; clear hs; (try clear a w); intro b51 a w hs
      replace hs : St _ _ _ (.blk b51 (.cells #[.int .i64 (0)] 3 (0, 0)) :: .row v26 3 1 rw27 :: .blk b8 (.cells #[.int .i64 (x49)] 3 (0, 0)) :: .blk b6 (.cells #[v1] 24 (0, 0)) :: L) _ _ _ := hs
      refine sstore 0 hs rfl rfl rfl ti3 rfl ?_; clear hs; (try clear a w); intro a w hs
      replace hs : St _ _ _ (.blk b51 (.cells #[.int .i64 (0)] 3 (0, 0)) :: .row v26 3 1 rw27 :: .blk b8 (.cells #[.int .i64 (x49)] 3 (0, 0)) :: .blk b6 (.cells #[v1] 24 (0, 0)) :: L) _ _ _ := hs
      refine RL_nil ?_
      refine hK18 _ _ _ ?_; clear hK18
      have hbase55 := Fz.le.refl f32
      refine W1_post (fun M a w => ∃ (f53 : Fz), Fz.le f32 f53 ∧ law5_DomAsks_k4 n = some res ∧ Marks f f53 M ∧ St 158 w0 f53 (L) [] a w) ?_ ?_
      ·clear hs hm
       clear hbase55
       rintro M a w ⟨f53, hl54, hm, hM, hs⟩
       replace hR3 := hR3.le hl54
       replace hW4 := hW4.le hl54
       replace hW28 := hW28.le hl54
       replace hR46 := hR46.le hl54
       replace hW47 := hW47.le hl54
       replace hB37 := hl54 _ _ hB37
       replace hB42 := hl54 _ _ hB42
       replace hle := hle.trans hl54
       replace hs : St _ _ _ (L) _ _ _ := hs
       unfold law5_DomAsks_k4 at hm
       refine hK17 _ _ _ ?_; clear hK17
       refine W1_of ?_
       refine W_seq fun K19 hK19 => ?_
       refine W_region ?_
       obtain ⟨x56, hx57, hm⟩ := ob hm
       refine sy hs (y_call rfl has10 rfl (law5_known_ok n (f := f53)  hx57)) ?_; clear hs; (try clear a w); intro a w hs
       refine sy (v := .bool (x56)) hs (y_assign rfl) ?_; clear hs; (try clear a w); intro a w hs
       refine RL_nil ?_
       refine hK19 _ _ ?_; clear hK19
       refine W_ret ?_
       obtain rfl := Option.some.inj hm
       refine RtM_of hs hle hM ?_; clear hs; (try clear w); intro w hs
       replace hle := Fz.le.refl f
       refine RtV1 hs rfl (rv_t hs rfl) ?_
       exact ⟨rfl, (hs.weak hle).cw⟩
      ·refine W1_block fun Qe20 hB20 hO20 => ?_
       obtain ⟨f70, hf71, hs2, hR72⟩ := hs.frzAt 1 rfl
       clear hs; have hs := hs2; clear hs2
       replace hR3 := hR3.le hf71
       replace hW4 := hW4.le hf71
       replace hW28 := hW28.le hf71
       replace hR46 := hR46.le hf71
       replace hW47 := hW47.le hf71
       replace hB37 := hf71 _ _ hB37
       replace hB42 := hf71 _ _ hB42
       replace hle := hle.trans hf71
       replace hbase55 := hbase55.trans hf71
       replace hM := hM.le hf71
       replace hs : St _ _ _ (.blk b51 (.cells #[.int .i64 (0)] 3 (0, 0)) :: .blk b8 (.cells #[.int .i64 (x49)] 3 (0, 0)) :: .blk b6 (.cells #[v1] 24 (0, 0)) :: L) _ _ _ := hs
       have hbase := Fz.le.refl f70
       refine W1_loop (fun (k : Nat) M a w => ∃ (f73 : Fz) (y77 : Int) (b76 : Nat), Fz.le f70 f73 ∧ law5_DomAsks_l6 n y25 x30 x49 k y77 = some res ∧ Marks f f73 M ∧ St 158 w0 f73 (.blk b76 (.cells #[.int .i64 (y77)] 3 (0, 0)) :: .blk b8 (.cells #[.int .i64 (x49)] 3 (0, 0)) :: L) [(8, .pointer (some ⟨b8, 0, none⟩)), (10, .bool (false)), (15, v26), (17, .func (.func 45) #[] #[.pointer (some ⟨b34, 0, none⟩), .pointer (some ⟨b39, 0, none⟩)]), (18, .pointer (some ⟨b76, 0, none⟩))] a w) (fun k => k) n ⟨_, 0, b51, (Fz.le.refl _), hm, hM, hs.subs ⟨rfl, rfl, rfl, rfl, rfl, trivial⟩ (.cons_cons _ (.cons_cons _ (.cons _ (.refl _))))⟩ ?_
       clear hs hm
       intro k
       rintro M a w ⟨f73, y77, b76, hl74, hm, hM, hs⟩
       replace hR3 := hR3.le hl74
       replace hW4 := hW4.le hl74
       replace hW28 := hW28.le hl74
       replace hR46 := hR46.le hl74
       replace hW47 := hW47.le hl74
       replace hB37 := hl74 _ _ hB37
       replace hB42 := hl74 _ _ hB42
       replace hR72 := hR72.le hl74
       replace hle := hle.trans hl74
       replace hbase55 := hbase55.trans hl74
       replace hs : St _ _ _ (.blk b76 (.cells #[.int .i64 (y77)] 3 (0, 0)) :: .blk b8 (.cells #[.int .i64 (x49)] 3 (0, 0)) :: L) _ _ _ := hs
       intro K21 hK21
       cases k with
       | zero => simp [law5_DomAsks_l6] at hm
       | succ k78 =>
        rw [law5_DomAsks_l6] at hm
        have hbase79 := hl74
        refine W1_seq fun K22 hK22 => ?_
        refine W1_of ?_
        refine W_seq fun K23 hK23 => ?_
        refine W_region ?_
        refine sy (v := .int .i64 (y77)) hs (y_ld rfl Try.underlying3 rfl (Cell.blk (.head _) rfl)) ?_; clear hs; (try clear a w); intro a w hs
        refine sy hs (y_lss rfl rfl) ?_; clear hs; (try clear a w); intro a w hs
        refine RL_nil ?_
        refine hK23 _ _ ?_; clear hK23
        refine W_cond hs rfl (fun hg80 => ?_) (fun hg80 => ?_)
        ·replace hm := oc_t hg80 hm
         refine W_skip ?_
         refine hK22 _ _ _ ?_; clear hK22
         refine W1_seq fun K24 hK24 => ?_
         refine W1_block fun Qe25 hB25 hO25 => ?_
         refine W1_seq fun K26 hK26 => ?_
         refine W1_of ?_
         refine W_region ?_
         refine RL_alloc hs ti60 (.free rfl) (by decide) ?_; clear hs; (try clear a w); intro b81 a w hs
         replace hs : St _ _ _ (.blk b81 (.cells #[(.slice none 0 0)] 60 (0, 0)) :: .blk b76 (.cells #[.int .i64 (y77)] 3 (0, 0)) :: .blk b8 (.cells #[.int .i64 (x49)] 3 (0, 0)) :: L) _ _ _ := hs
         refine RL_nil ?_
         refine hK26 _ _ _ ?_; clear hK26
         refine W1_seq fun K27 hK27 => ?_
         refine W1_seq fun K28 hK28 => ?_
         refine W1_of ?_
         refine W_region ?_
         refine sy (v := .func (.func 45) #[] #[.pointer (some ⟨b34, 0, none⟩), .pointer (some ⟨b39, 0, none⟩)]) hs (y_move rfl) ?_; clear hs; (try clear a w); intro a w hs
         refine RL_nil ?_
         refine hK28 _ _ _ ?_; clear hK28
         have hbase92 := Fz.le.refl f73
         refine W1_post (fun M a w => ∃ (f84 : Fz) (y87 : (List Int)) (v88 : Value) (rw89 : List (List Value)), Fz.le f73 f84 ∧ law5_DomAsks_k7 n y25 y77 (law5_DomAsks_l6 n y25 x30 x49 k78) y87 = some res ∧ RW (tInt .i64) f84 rw89 y87 ∧ Marks f f84 M ∧ St 158 w0 f84 (.row v88 3 1 rw89 :: .blk b81 (.cells #[v88] 60 (0, 0)) :: .blk b76 (.cells #[.int .i64 (y77)] 3 (0, 0)) :: .blk b8 (.cells #[.int .i64 (x49)] 3 (0, 0)) :: L) [(8, .pointer (some ⟨b8, 0, none⟩)), (10, .bool (false)), (15, v26), (17, .func (.func 45) #[] #[.pointer (some ⟨b34, 0, none⟩), .pointer (some ⟨b39, 0, none⟩)]), (18, .pointer (some ⟨b76, 0, none⟩)), (19, .pointer (some ⟨b81, 0, none⟩))] a w) ?_ ?_
         ·clear hs hm
          clear hbase92
          rintro M a w ⟨f84, y87, v88, rw89, hl85, hm, hW90, hM, hs⟩
          replace hR3 := hR3.le hl85
          replace hW4 := hW4.le hl85
          replace hW28 := hW28.le hl85
          replace hR46 := hR46.le hl85
          replace hW47 := hW47.le hl85
          replace hB37 := hl85 _ _ hB37
          replace hB42 := hl85 _ _ hB42
          replace hR72 := hR72.le hl85
          replace hle := hle.trans hl85
          replace hbase55 := hbase55.trans hl85
          replace hbase79 := hbase79.trans hl85
          replace hs : St _ _ _ (.row v88 3 1 rw89 :: .blk b81 (.cells #[v88] 60 (0, 0)) :: .blk b76 (.cells #[.int .i64 (y77)] 3 (0, 0)) :: .blk b8 (.cells #[.int .i64 (x49)] 3 (0, 0)) :: L) _ _ _ := hs
          unfold law5_DomAsks_k7 at hm
          refine hK27 _ _ _ ?_; clear hK27
          refine W1_of ?_
          refine W_seq fun K29 hK29 => ?_
          obtain ⟨f93, hf94, hs2, hR95⟩ := hs.frzAt 0 rfl
          clear hs; have hs := hs2; clear hs2
          replace hW28 := hW28.le hf94
          replace hR46 := hR46.le hf94
          replace hW47 := hW47.le hf94
          replace hB37 := hf94 _ _ hB37
          replace hB42 := hf94 _ _ hB42
          replace hR72 := hR72.le hf94
          replace hW90 := hW90.le hf94
          replace hle := hle.trans hf94
          replace hbase55 := hbase55.trans hf94
          replace hbase79 := hbase79.trans hf94
          replace hM := hM.le hf94
          replace hs : St _ _ _ (.blk b81 (.cells #[v88] 60 (0, 0)) :: .blk b76 (.cells #[.int .i64 (y77)] 3 (0, 0)) :: .blk b8 (.cells #[.int .i64 (x49)] 3 (0, 0)) :: L) _ _ _ := hs
          refine W_post (fun a w => ∃ (y96 : Bool), law5_DomAsks_k8 y77 (law5_DomAsks_l6 n y25 x30 x49 k78) y96 = some res ∧ St 158 w0 f93 (.blk b76 (.cells #[.int .i64 (y77)] 3 (0, 0)) :: .blk b8 (.cells #[.int .i64 (x49)] 3 (0, 0)) :: L) [(8, .pointer (some ⟨b8, 0, none⟩)), (10, .bool (false)), (15, v26), (17, .func (.func 45) #[] #[.pointer (some ⟨b34, 0, none⟩), .pointer (some ⟨b39, 0, none⟩)]), (18, .pointer (some ⟨b76, 0, none⟩)), (155, .bool (y96))] a w) ?_ ?_
          ·clear hs hm
           rintro a w ⟨y96, hm, hs⟩
           replace hs : St _ _ _ (.blk b76 (.cells #[.int .i64 (y77)] 3 (0, 0)) :: .blk b8 (.cells #[.int .i64 (x49)] 3 (0, 0)) :: L) _ _ _ := hs
           unfold law5_DomAsks_k8 at hm
           refine hK29 _ _ ?_; clear hK29
           refine W_cond hs rfl (fun hg97 => ?_) (fun hg97 => ?_)
           ·replace hm := oc_t hg97 hm
            refine W_seq fun K30 hK30 => ?_
            refine W_region ?_
            refine sy (v := .bool (false)) hs (y_assign rfl) ?_; clear hs; (try clear a w); intro a w hs
            refine RL_nil ?_
            refine hK30 _ _ ?_; clear hK30
            refine W_ret ?_
            obtain rfl := Option.some.inj hm
            refine RtM_of hs hle hM ?_; clear hs; (try clear w); intro w hs
            replace hle := Fz.le.refl f
            refine RtV1 hs rfl (rv_t hs rfl) ?_
            exact ⟨rfl, ((hs.subL (.cons _ (.cons _ (.refl _)))).weak hle).cw⟩
           ·replace hm := oc_f hg97 hm
            refine W_skip ?_
            refine hK24 _ _ _ ?_; clear hK24
            refine W1_of ?_
            refine W_seq fun K31 hK31 => ?_
            refine W_seq fun K32 hK32 => ?_
            refine W_region ?_
            refine sy (v := .int .i64 (y77)) hs (y_ld rfl Try.underlying3 rfl (Cell.blk (.head _) rfl)) ?_; clear hs; (try clear a w); intro a w hs
            refine RL_nil ?_
            refine hK32 _ _ ?_; clear hK32
            refine W_region ?_
            refine RL_alloc hs ti3 (.free rfl) (by decide) ?_; clear hs; (try clear a w); intro b98 a w hs
            replace hs : St _ _ _ (.blk b98 (.cells #[.int .i64 (0)] 3 (0, 0)) :: .blk b76 (.cells #[.int .i64 (y77)] 3 (0, 0)) :: .blk b8 (.cells #[.int .i64 (x49)] 3 (0, 0)) :: L) _ _ _ := hs
            refine sstore 0 hs rfl rfl rfl ti3 rfl ?_; clear hs; (try clear a w); intro a w hs
            replace hs : St _ _ _ (.blk b98 (.cells #[.int .i64 (y77)] 3 (0, 0)) :: .blk b76 (.cells #[.int .i64 (y77)] 3 (0, 0)) :: .blk b8 (.cells #[.int .i64 (x49)] 3 (0, 0)) :: L) _ _ _ := hs
            refine RL_nil ?_
            refine hK31 _ _ ?_; clear hK31
            refine W_region ?_
            refine sy (v := .int .i64 (y77)) hs (y_ld rfl Try.underlying3 rfl (Cell.blk (.head _) rfl)) ?_; clear hs; (try clear a w); intro a w hs
            refine sy hs (y_add rfl rfl rfl) ?_; clear hs; (try clear a w); intro a w hs
            refine sstore 0 hs rfl rfl rfl ti3 rfl ?_; clear hs; (try clear a w); intro a w hs
            replace hs : St _ _ _ (.blk b98 (.cells #[.int .i64 ((w64 (y77 + 1)))] 3 (0, 0)) :: .blk b76 (.cells #[.int .i64 (y77)] 3 (0, 0)) :: .blk b8 (.cells #[.int .i64 (x49)] 3 (0, 0)) :: L) _ _ _ := hs
            refine RL_nil ?_
            exact hK21 k78 _ _ _ (Nat.lt_succ_self _) ⟨_, (w64 (y77 + 1)), b98, hbase79, hm, hM, hs.subs ⟨rfl, rfl, rfl, rfl, rfl, trivial⟩ (.cons_cons _ (.cons _ (.cons_cons _ (.refl _))))⟩
          ·refine W_draw hs mixed (by kernel_rfl) ?_; intro a he
           refine qy (v := .int .i64 (y77)) he (y_ld rfl Try.underlying3 rfl (Cell.blk (.tail _ (.head _)) rfl)) ?_; clear he; (try clear a); intro a he
           refine qy he (y_eql rfl rfl) ?_; clear he; (try clear a); intro a he
           refine qy (v := .bool (decide (y77 = 0))) he (y_move rfl) ?_; clear he; (try clear a); intro a he
           refine Ev.split he (t := 134) rfl (fun hg100 hq => ?_) (fun hg100 hq => ?_)
           ·clear he; have he := hq; clear hq
            replace hm := oc_t hg100 hm
            refine qyg (v := v88) he (y_ld rfl Try.underlying60 rfl (Cell.blk (.head _) rfl)) ?_; clear he; (try clear a); intro a he
            refine qyg (v := v26) he (y_move rfl) ?_; clear he; (try clear a); intro a he
            obtain ⟨x101, hx102, hm⟩ := ob hm
            refine qyg he (y_call rfl has33 rfl (book_Same_int_ok n (f := f93) (a0 := v88) (a1 := v26) ⟨rw89, hR95, hW90⟩ ⟨rw27, hR72, hW28⟩ hx102)) ?_; clear he; (try clear a); intro a he
            refine qyg (v := .bool ((!x101))) he (y_not rfl) ?_; clear he; (try clear a); intro a he
            refine qy (v := .bool ((!x101))) he (y_pick rfl rfl) ?_; clear he; (try clear a); intro a he
            refine qy (v := .bool ((!x101))) he (y_move rfl) ?_; clear he; (try clear a); intro a he
            refine Ev.split he (t := 140) rfl (fun hg103 hq => ?_) (fun hg103 hq => ?_)
            ·clear he; have he := hq; clear hq
             replace hm := oc_t hg103 hm
             refine qno he ?_; clear he; (try clear a); intro a he
             refine qno he ?_; clear he; (try clear a); intro a he
             refine qno he ?_; clear he; (try clear a); intro a he
             refine qno he ?_; clear he; (try clear a); intro a he
             refine qno he ?_; clear he; (try clear a); intro a he
             refine qy (v := .bool (true)) he (y_pick rfl rfl) ?_; clear he; (try clear a); intro a he
             refine qy (v := .bool (true)) he (y_move rfl) ?_; clear he; (try clear a); intro a he
             refine qno he ?_; clear he; (try clear a); intro a he
             refine qno he ?_; clear he; (try clear a); intro a he
             refine qno he ?_; clear he; (try clear a); intro a he
             refine qno he ?_; clear he; (try clear a); intro a he
             refine qno he ?_; clear he; (try clear a); intro a he
             refine qno he ?_; clear he; (try clear a); intro a he
             refine qno he ?_; clear he; (try clear a); intro a he
             refine qy (v := .bool (true)) he (y_pick rfl rfl) ?_; clear he; (try clear a); intro a he
             refine QL_nil he ?_; clear he; (try clear hs); (try clear a); intro a w hs
             exact ⟨true, hm, hs.subs ⟨rfl, rfl, rfl, rfl, rfl, rfl, trivial⟩ (.cons _ (.cons_cons _ (.cons_cons _ (.refl _))))⟩
            ·clear he; have he := hq; clear hq
             replace hm := oc_f hg103 hm
             refine qyg (v := v88) he (y_ld rfl Try.underlying60 rfl (Cell.blk (.head _) rfl)) ?_; clear he; (try clear a); intro a he
             refine qyg he (y_lenW hR95 hW90 rfl Try.underlying60) ?_; clear he; (try clear a); intro a he
             refine qyg (v := v26) he (y_move rfl) ?_; clear he; (try clear a); intro a he
             refine qyg he (y_lenW hR72 hW28 rfl Try.underlying60) ?_; clear he; (try clear a); intro a he
             refine qyg he (y_gtr rfl rfl) ?_; clear he; (try clear a); intro a he
             refine qy (v := .bool (decide ((y25.length : Int) < (y87.length : Int)))) he (y_pick rfl rfl) ?_; clear he; (try clear a); intro a he
             refine qy (v := .bool (decide ((y25.length : Int) < (y87.length : Int)))) he (y_move rfl) ?_; clear he; (try clear a); intro a he
             refine Ev.split he (t := 147) rfl (fun hg104 hq => ?_) (fun hg104 hq => ?_)
             ·clear he; have he := hq; clear hq
              replace hm := oc_t hg104 hm
              refine qno he ?_; clear he; (try clear a); intro a he
              refine qno he ?_; clear he; (try clear a); intro a he
              refine qno he ?_; clear he; (try clear a); intro a he
              refine qno he ?_; clear he; (try clear a); intro a he
              refine qno he ?_; clear he; (try clear a); intro a he
              refine qno he ?_; clear he; (try clear a); intro a he
              refine qno he ?_; clear he; (try clear a); intro a he
              refine qy (v := .bool (true)) he (y_pick rfl rfl) ?_; clear he; (try clear a); intro a he
              refine QL_nil he ?_; clear he; (try clear hs); (try clear a); intro a w hs
              exact ⟨true, hm, hs.subs ⟨rfl, rfl, rfl, rfl, rfl, rfl, trivial⟩ (.cons _ (.cons_cons _ (.cons_cons _ (.refl _))))⟩
             ·clear he; have he := hq; clear hq
              replace hm := oc_f hg104 hm
              refine qyg (v := v88) he (y_ld rfl Try.underlying60 rfl (Cell.blk (.head _) rfl)) ?_; clear he; (try clear a); intro a he
              refine qyg (v := v26) he (y_move rfl) ?_; clear he; (try clear a); intro a he
              refine qyg (v := v88) he (y_ld rfl Try.underlying60 rfl (Cell.blk (.head _) rfl)) ?_; clear he; (try clear a); intro a he
              refine qyg he (y_lenW hR95 hW90 rfl Try.underlying60) ?_; clear he; (try clear a); intro a he
              obtain ⟨x105, hx106, hm⟩ := ob hm
              obtain ⟨⟨hlx105, hhx105, h1x105, h2x105⟩, hex105⟩ := cutM_some hx106
              have hW107 := (hW28.take (y87.length : Int).toNat).drop (Int.toNat 0); rw [hex105] at hW107
              have hR108 := (hR72 : Rd _ [] _ _ _).cut h1x105 (by rw [RW.len hW28]; exact h2x105)
              generalize hgrw109 : List.drop _ (List.take _ rw27) = rw109 at hR108 hW107; clear hgrw109
              obtain ⟨v110, hvv110⟩ : ∃ u, cutv v26 1 (Int.toNat 0) (y87.length : Int).toNat = u := ⟨_, rfl⟩
              rw [hvv110] at hR108
              refine qyg he (y_sliceV (lo := (0 : Nat)) (hi := (y87.length : Int).toNat) hvv110 rfl Try.underlying60 ti3 (.inl ⟨rfl, rfl⟩) (.inr ⟨_, rfl, by rw [← hhx105]; rfl⟩) h1x105 (by rw [RW.len hW28]; exact h2x105) hR72) ?_; clear he; (try clear a); intro a he
              obtain ⟨x112, hx113, hm⟩ := ob hm
              refine qyg he (y_call rfl has33 rfl (book_Same_int_ok n (f := f93) (a0 := v88) (a1 := v110) ⟨rw89, hR95, hW90⟩ ⟨rw109, hR108, hW107⟩ hx113)) ?_; clear he; (try clear a); intro a he
              refine qyg (v := .bool ((!x112))) he (y_not rfl) ?_; clear he; (try clear a); intro a he
              refine qy (v := .bool ((!x112))) he (y_pick rfl rfl) ?_; clear he; (try clear a); intro a he
              refine QL_nil he ?_; clear he; (try clear hs); (try clear a); intro a w hs
              exact ⟨(!x112), hm, hs.subs ⟨rfl, rfl, rfl, rfl, rfl, rfl, trivial⟩ (.cons _ (.cons_cons _ (.cons_cons _ (.refl _))))⟩
           ·clear he; have he := hq; clear hq
            replace hm := oc_f hg100 hm
            refine qno he ?_; clear he; (try clear a); intro a he
            refine qno he ?_; clear he; (try clear a); intro a he
            refine qno he ?_; clear he; (try clear a); intro a he
            refine qno he ?_; clear he; (try clear a); intro a he
            refine qy (v := .bool (false)) he (y_pick rfl rfl) ?_; clear he; (try clear a); intro a he
            refine qy (v := .bool (false)) he (y_move rfl) ?_; clear he; (try clear a); intro a he
            refine qyg (v := v88) he (y_ld rfl Try.underlying60 rfl (Cell.blk (.head _) rfl)) ?_; clear he; (try clear a); intro a he
            refine qyg he (y_lenW hR95 hW90 rfl Try.underlying60) ?_; clear he; (try clear a); intro a he
            refine qyg (v := v26) he (y_move rfl) ?_; clear he; (try clear a); intro a he
            refine qyg he (y_lenW hR72 hW28 rfl Try.underlying60) ?_; clear he; (try clear a); intro a he
            refine qyg he (y_gtr rfl rfl) ?_; clear he; (try clear a); intro a he
            refine qy (v := .bool (decide ((y25.length : Int) < (y87.length : Int)))) he (y_pick rfl rfl) ?_; clear he; (try clear a); intro a he
            refine qy (v := .bool (decide ((y25.length : Int) < (y87.length : Int)))) he (y_move rfl) ?_; clear he; (try clear a); intro a he
            refine Ev.split he (t := 147) rfl (fun hg114 hq => ?_) (fun hg114 hq => ?_)
            ·clear he; have he := hq; clear hq
             replace hm := oc_t hg114 hm
             refine qno he ?_; clear he; (try clear a); intro a he
             refine qno he ?_; clear he; (try clear a); intro a he
             refine qno he ?_; clear he; (try clear a); intro a he
             refine qno he ?_; clear he; (try clear a); intro a he
             refine qno he ?_; clear he; (try clear a); intro a he
             refine qno he ?_; clear he; (try clear a); intro a he
             refine qno he ?_; clear he; (try clear a); intro a he
             refine qy (v := .bool (true)) he (y_pick rfl rfl) ?_; clear he; (try clear a); intro a he
             refine QL_nil he ?_; clear he; (try clear hs); (try clear a); intro a w hs
             exact ⟨true, hm, hs.subs ⟨rfl, rfl, rfl, rfl, rfl, rfl, trivial⟩ (.cons _ (.cons_cons _ (.cons_cons _ (.refl _))))⟩
            ·clear he; have he := hq; clear hq
             replace hm := oc_f hg114 hm
             refine qyg (v := v88) he (y_ld rfl Try.underlying60 rfl (Cell.blk (.head _) rfl)) ?_; clear he; (try clear a); intro a he
             refine qyg (v := v26) he (y_move rfl) ?_; clear he; (try clear a); intro a he
             refine qyg (v := v88) he (y_ld rfl Try.underlying60 rfl (Cell.blk (.head _) rfl)) ?_; clear he; (try clear a); intro a he
             refine qyg he (y_lenW hR95 hW90 rfl Try.underlying60) ?_; clear he; (try clear a); intro a he
             obtain ⟨x115, hx116, hm⟩ := ob hm
             obtain ⟨⟨hlx115, hhx115, h1x115, h2x115⟩, hex115⟩ := cutM_some hx116
             have hW117 := (hW28.take (y87.length : Int).toNat).drop (Int.toNat 0); rw [hex115] at hW117
             have hR118 := (hR72 : Rd _ [] _ _ _).cut h1x115 (by rw [RW.len hW28]; exact h2x115)
             generalize hgrw119 : List.drop _ (List.take _ rw27) = rw119 at hR118 hW117; clear hgrw119
             obtain ⟨v120, hvv120⟩ : ∃ u, cutv v26 1 (Int.toNat 0) (y87.length : Int).toNat = u := ⟨_, rfl⟩
             rw [hvv120] at hR118
             refine qyg he (y_sliceV (lo := (0 : Nat)) (hi := (y87.length : Int).toNat) hvv120 rfl Try.underlying60 ti3 (.inl ⟨rfl, rfl⟩) (.inr ⟨_, rfl, by rw [← hhx115]; rfl⟩) h1x115 (by rw [RW.len hW28]; exact h2x115) hR72) ?_; clear he; (try clear a); intro a he
             obtain ⟨x122, hx123, hm⟩ := ob hm
             refine qyg he (y_call rfl has33 rfl (book_Same_int_ok n (f := f93) (a0 := v88) (a1 := v120) ⟨rw89, hR95, hW90⟩ ⟨rw119, hR118, hW117⟩ hx123)) ?_; clear he; (try clear a); intro a he
             refine qyg (v := .bool ((!x122))) he (y_not rfl) ?_; clear he; (try clear a); intro a he
             refine qy (v := .bool ((!x122))) he (y_pick rfl rfl) ?_; clear he; (try clear a); intro a he
             refine QL_nil he ?_; clear he; (try clear hs); (try clear a); intro a w hs
             exact ⟨(!x122), hm, hs.subs ⟨rfl, rfl, rfl, rfl, rfl, rfl, trivial⟩ (.cons _ (.cons_cons _ (.cons_cons _ (.refl _))))⟩
         ·refine W1_block fun Qe33 hB33 hO33 => ?_
          obtain ⟨x124, hx125, hm⟩ := ob hm
          replace hs : St 158 w0 f73 (.blk b81 (.cells #[(.slice none 0 0)] 60 (0, 0)) :: .blk b76 (.cells #[.int .i64 (y77)] 3 (0, 0)) :: .blk b8 (.cells #[.int .i64 (x49)] 3 (0, 0)) :: L) [(8, .pointer (some ⟨b8, 0, none⟩)), (10, .bool (false)), (15, v26), (17, .func (.func 45) #[] #[.pointer (some ⟨b34, 0, none⟩), .pointer (some ⟨b39, 0, none⟩)]), (18, .pointer (some ⟨b76, 0, none⟩)), (19, .pointer (some ⟨b81, 0, none⟩)), (118, .func (.func 45) #[] #[.pointer (some ⟨b34, 0, none⟩), .pointer (some ⟨b39, 0, none⟩)])] a w := hs.subs ⟨rfl, rfl, rfl, rfl, rfl, rfl, rfl, trivial⟩ (.cons_cons _ (.cons_cons _ (.cons_cons _ (.refl _))))
          replace hs := hs.nilRow 3 1
          have hW170 : RW (tInt .i64) f73 [] ([] : List Int) := trivial
          generalize hgrw171 : ([] : List (List Value)) = rw171 at hs hW170; clear hgrw171
          replace hs : St _ _ _ (.row (.slice none 0 0) 3 1 rw171 :: .blk b81 (.cells #[(.slice none 0 0)] 60 (0, 0)) :: .blk b76 (.cells #[.int .i64 (y77)] 3 (0, 0)) :: .blk b8 (.cells #[.int .i64 (x49)] 3 (0, 0)) :: L) _ _ _ := hs
          replace hs : St _ _ _ (.row (.slice none 0 0) 3 1 rw171 :: .blk b81 (.cells #[(.slice none 0 0)] 60 (0, 0)) :: .blk b76 (.cells #[.int .i64 (y77)] 3 (0, 0)) :: .blk b8 (.cells #[.int .i64 (x49)] 3 (0, 0)) :: L) _ _ _ := hs
          refine W1_range (L := L) (ents := [.row (.slice none 0 0) 3 1 rw171, .blk b81 (.cells #[(.slice none 0 0)] 60 (0, 0)), .blk b76 (.cells #[.int .i64 (y77)] 3 (0, 0)), .blk b8 (.cells #[.int .i64 (x49)] 3 (0, 0))]) (enc := (fun x => .int .i64 x)) hs rfl has45 (dom_All_1_it n (f := f73) (cb0 := b34) (ca0 := [v44]) (cb1 := b39) (ca1 := [.int .i64 (x30.2)]) ⟨_, rfl, ⟨rw45, hR46, hW47⟩⟩ hB37 rfl hB42 hx125) (by decide) (fun x => [(20, .int .i64 x), (119, .int .i64 x), (8, .pointer (some ⟨b8, 0, none⟩)), (10, .bool (false)), (15, v26), (17, .func (.func 45) #[] #[.pointer (some ⟨b34, 0, none⟩), .pointer (some ⟨b39, 0, none⟩)]), (18, .pointer (some ⟨b76, 0, none⟩)), (19, .pointer (some ⟨b81, 0, none⟩)), (118, .func (.func 45) #[] #[.pointer (some ⟨b34, 0, none⟩), .pointer (some ⟨b39, 0, none⟩)])]) (fun rem ents => ∃ (y144 : (List Int)) (v145 : Value) (rw146 : List (List Value)), law5_DomAsks_r9 n y25 x49 y77 (law5_DomAsks_l6 n y25 x30 x49 k78) rem y144 = some res ∧ RW (tInt .i64) f73 rw146 y144 ∧ ents = [.row v145 3 1 rw146, .blk b81 (.cells #[v145] 60 (0, 0)), .blk b76 (.cells #[.int .i64 (y77)] 3 (0, 0)), .blk b8 (.cells #[.int .i64 (x49)] 3 (0, 0))]) (fun c ents => (c = .exit 4 ∧ ∃ (y163 : (List Int)) (v164 : Value) (rw165 : List (List Value)), law5_DomAsks_k10 n y25 y77 (law5_DomAsks_l6 n y25 x30 x49 k78) y163 = some res ∧ RW (tInt .i64) f73 rw165 y163 ∧ ents = [.row v164 3 1 rw165, .blk b81 (.cells #[v164] 60 (0, 0)), .blk b76 (.cells #[.int .i64 (y77)] 3 (0, 0)), .blk b8 (.cells #[.int .i64 (x49)] 3 (0, 0))])) ⟨([] : List Int), (.slice none 0 0), rw171, hm, (RW.any (fun _ _ _ _ h => h) hW170), rfl⟩ ?_ ?_ ?_ ?_
          ·intro x f9 L a w hs K hK
           refine W_region ?_
           refine sy (v := .int .i64 (x)) hs (y_assign rfl) ?_; clear hs; (try clear a w); intro a w hs
           refine RL_nil ?_
           exact hK _ _ hs
          ·clear hs hm; (try clear a w)
           rintro x169 rm168 _ L f180 a w hf181 ⟨y144, v145, rw146, hm, hW147, rfl⟩ hs
           replace hW28 := hW28.le hf181
           replace hR46 := hR46.le hf181
           replace hW47 := hW47.le hf181
           replace hB37 := hf181 _ _ hB37
           replace hB42 := hf181 _ _ hB42
           replace hR72 := hR72.le hf181
           replace hW147 := hW147.le hf181
           replace hle := hle.trans hf181
           replace hbase55 := hbase55.trans hf181
           replace hbase79 := hbase79.trans hf181
           replace hbase92 := hbase92.trans hf181
           replace hM := hM.le hf181
           replace hs : St _ _ _ (.row v145 3 1 rw146 :: .blk b81 (.cells #[v145] 60 (0, 0)) :: .blk b76 (.cells #[.int .i64 (y77)] 3 (0, 0)) :: .blk b8 (.cells #[.int .i64 (x49)] 3 (0, 0)) :: L) _ _ _ := hs
           rw [law5_DomAsks_r9] at hm
           have hbase182 := Fz.le.refl f180
           refine W_block fun Qe34 hB34 hO34 => ?_
           refine W_seq fun K35 hK35 => ?_
           refine W_region ?_
           refine sy (v := v145) hs (y_ld rfl Try.underlying60 rfl (Cell.blk (.tail _ (.head _)) rfl)) ?_; clear hs; (try clear a w); intro a w hs
           refine sy (v := .int .i64 (x169)) hs (y_move rfl) ?_; clear hs; (try clear a w); intro a w hs
           refine RL_bs1s hs rfl Try.underlying60 ti3 rfl rfl ?_; clear hs; (try clear a w); intro v183 a w hs
           have hW184 : RW (tInt .i64) f180 [[.int .i64 (x169)]] [x169] := RW.single (rfl)
           generalize hgrw185 : ([[.int .i64 (x169)]] : List (List Value)) = rw185 at hs hW184; clear hgrw185
           replace hs : St _ _ _ (.row v183 3 1 rw185 :: .row v145 3 1 rw146 :: .blk b81 (.cells #[v145] 60 (0, 0)) :: .blk b76 (.cells #[.int .i64 (y77)] 3 (0, 0)) :: .blk b8 (.cells #[.int .i64 (x49)] 3 (0, 0)) :: L) _ _ _ := hs
           obtain ⟨x188, hx189, hm⟩ := ob hm
           obtain ⟨hbx188, hex188⟩ := appM_some hx189
           have hW192 := hW147.append hW184; rw [hex188] at hW192
           refine RL_append (i := 1) hs rfl rfl rfl (Rd.st hs (.head _)) Try.underlying60 ti3 (by decide) (by rw [RW.len hW147, RW.len hW184]; exact hbx188) (.free rfl) (by decide) ?_; clear hs; (try clear a w); intro v190 a w hs
           generalize hgx188 : rw146 ++ rw185 = rw191 at hs hW192; clear hgx188
           replace hs := hs.erase 0
           replace hs : St _ _ _ (.row v190 3 1 rw191 :: .blk b81 (.cells #[v145] 60 (0, 0)) :: .blk b76 (.cells #[.int .i64 (y77)] 3 (0, 0)) :: .blk b8 (.cells #[.int .i64 (x49)] 3 (0, 0)) :: L) _ _ _ := hs
           refine sstore 1 hs rfl rfl rfl ti60 ((hs.one (i := 0) rfl)) ?_; clear hs; (try clear a w); intro a w hs
           replace hs : St _ _ _ (.row v190 3 1 rw191 :: .blk b81 (.cells #[v190] 60 (0, 0)) :: .blk b76 (.cells #[.int .i64 (y77)] 3 (0, 0)) :: .blk b8 (.cells #[.int .i64 (x49)] 3 (0, 0)) :: L) _ _ _ := hs
           refine RL_nil ?_
           refine hK35 _ _ ?_; clear hK35
           refine W_seq fun K36 hK36 => ?_
           refine W_post (fun a w => St 158 w0 f180 (.row v190 3 1 rw191 :: .blk b81 (.cells #[v190] 60 (0, 0)) :: .blk b76 (.cells #[.int .i64 (y77)] 3 (0, 0)) :: .blk b8 (.cells #[.int .i64 (x49)] 3 (0, 0)) :: L) [(131, .bool (((decide (y77 = 1)) && (decide (x49 < (x188.length : Int))))))] a w) ?_ ?_
           ·clear hs; intro a w hs
            refine hK36 _ _ ?_; clear hK36
            refine W_cond hs rfl (fun hg194 => ?_) (fun hg194 => ?_)
            ·replace hm := oc_t hg194 hm
             refine W_exit ?_
             refine hO34 _ rfl _ _ ?_
             exact ⟨_, [.row v190 3 1 rw191, .blk b81 (.cells #[v190] 60 (0, 0)), .blk b76 (.cells #[.int .i64 (y77)] 3 (0, 0)), .blk b8 (.cells #[.int .i64 (x49)] 3 (0, 0))], hbase182, ⟨rfl, x188, v190, rw191, hm, (RW.any (fun _ _ _ _ h => h) hW192), rfl⟩, hs.cw⟩
            ·replace hm := oc_f hg194 hm
             refine W_skip ?_
             exact ⟨_, [.row v190 3 1 rw191, .blk b81 (.cells #[v190] 60 (0, 0)), .blk b76 (.cells #[.int .i64 (y77)] 3 (0, 0)), .blk b8 (.cells #[.int .i64 (x49)] 3 (0, 0))], hbase182, ⟨x188, v190, rw191, hm, (RW.any (fun _ _ _ _ h => h) hW192), rfl⟩, hs.cw⟩
           ·refine W_region ?_
            refine sy (v := .int .i64 (y77)) hs (y_ld rfl Try.underlying3 rfl (Cell.blk (.tail _ (.tail _ (.head _))) rfl)) ?_; clear hs; (try clear a w); intro a w hs
            refine sy hs (y_eql rfl rfl) ?_; clear hs; (try clear a w); intro a w hs
            refine sy (v := .bool (decide (y77 = 1))) hs (y_move rfl) ?_; clear hs; (try clear a w); intro a w hs
            refine St.split hs (t := 126) rfl (fun hg195 hq => ?_) (fun hg195 hq => ?_)
            ·clear hs; have hs := hq; clear hq
             refine syg (v := v190) hs (y_ld rfl Try.underlying60 rfl (Cell.blk (.tail _ (.head _)) rfl)) ?_; clear hs; (try clear a w); intro a w hs
             refine syg hs (y_lenW (Rd.st hs (.head _)) hW192 rfl Try.underlying60) ?_; clear hs; (try clear a w); intro a w hs
             refine syg (v := .int .i64 (x49)) hs (y_ld rfl Try.underlying3 rfl (Cell.blk (.tail _ (.tail _ (.tail _ (.head _)))) rfl)) ?_; clear hs; (try clear a w); intro a w hs
             refine syg hs (y_gtr rfl rfl) ?_; clear hs; (try clear a w); intro a w hs
             refine sy (v := .bool (decide (x49 < (x188.length : Int)))) hs (y_pick rfl rfl) ?_; clear hs; (try clear a w); intro a w hs
             refine RL_nil ?_
             exact hs.sub ⟨(lkB (((and_t hg195).trans rfl)) rfl), trivial⟩
            ·clear hs; have hs := hq; clear hq
             refine sno hs ?_; clear hs; (try clear a w); intro a w hs
             refine sno hs ?_; clear hs; (try clear a w); intro a w hs
             refine sno hs ?_; clear hs; (try clear a w); intro a w hs
             refine sno hs ?_; clear hs; (try clear a w); intro a w hs
             refine sy (v := .bool (false)) hs (y_pick rfl rfl) ?_; clear hs; (try clear a w); intro a w hs
             refine RL_nil ?_
             exact hs.sub ⟨(lkB (((and_f hg195).trans rfl)) rfl), trivial⟩
          ·clear hs hm; (try clear w)
           rintro f174 D176 _ w hf175 hD0 hD ⟨y144, v145, rw146, hm, hW147, rfl⟩ hs
           replace hM := Marks.cons hM hle hf175 hD0 hD; clear hD0 hD
           replace hW28 := hW28.le hf175
           replace hR46 := hR46.le hf175
           replace hW47 := hW47.le hf175
           replace hB37 := hf175 _ _ hB37
           replace hB42 := hf175 _ _ hB42
           replace hR72 := hR72.le hf175
           replace hW147 := hW147.le hf175
           replace hle := hle.trans hf175
           replace hbase55 := hbase55.trans hf175
           replace hbase79 := hbase79.trans hf175
           replace hbase92 := hbase92.trans hf175
           replace hs : St _ _ _ (.row v145 3 1 rw146 :: .blk b81 (.cells #[v145] 60 (0, 0)) :: .blk b76 (.cells #[.int .i64 (y77)] 3 (0, 0)) :: .blk b8 (.cells #[.int .i64 (x49)] 3 (0, 0)) :: L) _ _ _ := hs
           rw [law5_DomAsks_r9] at hm
           exact ⟨_, y144, v145, rw146, hbase92, hm, hW147, hM, hs.sub ⟨rfl, rfl, rfl, rfl, rfl, rfl, trivial⟩⟩
          ·clear hs hm; (try clear w)
           rintro c f177 D179 _ w hf178 hD0 hD hX hs
           replace hM := Marks.cons hM hle hf178 hD0 hD; clear hD0 hD
           rcases hX with ⟨rfl, y163, v164, rw165, hm, hW166, rfl⟩
           replace hW28 := hW28.le hf178
           replace hR46 := hR46.le hf178
           replace hW47 := hW47.le hf178
           replace hB37 := hf178 _ _ hB37
           replace hB42 := hf178 _ _ hB42
           replace hR72 := hR72.le hf178
           replace hW166 := hW166.le hf178
           replace hle := hle.trans hf178
           replace hbase55 := hbase55.trans hf178
           replace hbase79 := hbase79.trans hf178
           replace hbase92 := hbase92.trans hf178
           replace hs : St _ _ _ (.row v164 3 1 rw165 :: .blk b81 (.cells #[v164] 60 (0, 0)) :: .blk b76 (.cells #[.int .i64 (y77)] 3 (0, 0)) :: .blk b8 (.cells #[.int .i64 (x49)] 3 (0, 0)) :: L) _ _ _ := hs
           unfold law5_DomAsks_k10 at hm
           refine W1_of ?_
           refine W_exit ?_
           refine hB33 _ _ _ ?_
           exact ⟨_, y163, v164, rw165, hbase92, hm, hW166, hM, hs.sub ⟨rfl, rfl, rfl, rfl, rfl, rfl, trivial⟩⟩
        ·replace hm := oc_f hg80 hm
         refine W_exit ?_
         refine hB20 _ _ _ ?_
         exact ⟨_, hbase55, hm, hM, hs.subs trivial (.cons _ (.cons _ (.refl _)))⟩
     ·refine W_block fun Qe37 hB37 hO37 => ?_
      replace hs := hs.nilRow 3 1
      have hW203 : RW (tInt .i64) f18 [] ([] : List Int) := trivial
      generalize hgrw204 : ([] : List (List Value)) = rw204 at hs hW203; clear hgrw204
      replace hs : St _ _ _ (.row (.slice none 0 0) 3 1 rw204 :: .blk b8 (.cells #[.int .i64 (p3)] 3 (0, 0)) :: .blk b6 (.cells #[v1] 24 (0, 0)) :: L) _ _ _ := hs
      refine W_loop (fun (k : Nat) a w => ∃ (y197 : (List Int)) (y202 : Int) (v198 : Value) (rw199 : List (List Value)), law5_DomAsks_l11 n p0 p2 p3 k y197 y202 = some res ∧ RW (tInt .i64) f18 rw199 y197 ∧ St 158 w0 f18 (.row v198 3 1 rw199 :: .blk b8 (.cells #[.int .i64 (p3)] 3 (0, 0)) :: .blk b6 (.cells #[v1] 24 (0, 0)) :: L) [(2, .int .i64 (p2)), (5, .pointer (some ⟨b6, 0, none⟩)), (8, .pointer (some ⟨b8, 0, none⟩)), (10, .bool (false)), (15, v198), (16, .int .i64 (y202))] a w) (fun k => k) n ⟨([] : List Int), 0, (.slice none 0 0), rw204, hm, hW203, hs.sub ⟨rfl, rfl, rfl, rfl, rfl, rfl, trivial⟩⟩ ?_
      clear hs hm
      intro k
      rintro a w ⟨y197, y202, v198, rw199, hm, hW200, hs⟩
      replace hs : St _ _ _ (.row v198 3 1 rw199 :: .blk b8 (.cells #[.int .i64 (p3)] 3 (0, 0)) :: .blk b6 (.cells #[v1] 24 (0, 0)) :: L) _ _ _ := hs
      intro K38 hK38
      cases k with
      | zero => simp [law5_DomAsks_l11] at hm
      | succ k207 =>
       rw [law5_DomAsks_l11] at hm
       refine W_seq fun K39 hK39 => ?_
       refine W_seq fun K40 hK40 => ?_
       refine W_region ?_
       refine sy (v := .int .i64 (y202)) hs (y_move rfl) ?_; clear hs; (try clear a w); intro a w hs
       refine sy (v := .pointer (some ⟨b6, 0, none⟩)) hs (y_fieldAddr rfl (FO.of (off := 0) Try.underlying24 rfl rfl ti22 (by decide))) ?_; clear hs; (try clear a w); intro a w hs
       refine sy (v := v1) hs (y_ld rfl Try.underlying22 rfl (Cell.blk (.tail _ (.tail _ (.head _))) rfl)) ?_; clear hs; (try clear a w); intro a w hs
       refine sy hs (y_lenW hR3 hW4 rfl Try.underlying22) ?_; clear hs; (try clear a w); intro a w hs
       refine sy hs (y_lss rfl rfl) ?_; clear hs; (try clear a w); intro a w hs
       refine RL_nil ?_
       refine hK40 _ _ ?_; clear hK40
       refine W_cond hs rfl (fun hg208 => ?_) (fun hg208 => ?_)
       ·replace hm := oc_t hg208 hm
        refine W_skip ?_
        refine hK39 _ _ ?_; clear hK39
        refine W_seq fun K41 hK41 => ?_
        refine W_block fun Qe42 hB42 hO42 => ?_
        refine W_seq fun K43 hK43 => ?_
        refine W_post (fun a w => ∃ (y209 : Bool), law5_DomAsks_k12 y197 y202 (law5_DomAsks_l11 n p0 p2 p3 k207) y209 = some res ∧ St 158 w0 f18 (.row v198 3 1 rw199 :: .blk b8 (.cells #[.int .i64 (p3)] 3 (0, 0)) :: .blk b6 (.cells #[v1] 24 (0, 0)) :: L) [(2, .int .i64 (p2)), (5, .pointer (some ⟨b6, 0, none⟩)), (8, .pointer (some ⟨b8, 0, none⟩)), (10, .bool (false)), (15, v198), (16, .int .i64 (y202)), (102, .bool (y209))] a w) ?_ ?_
        ·clear hs hm
         rintro a w ⟨y209, hm, hs⟩
         replace hs : St _ _ _ (.row v198 3 1 rw199 :: .blk b8 (.cells #[.int .i64 (p3)] 3 (0, 0)) :: .blk b6 (.cells #[v1] 24 (0, 0)) :: L) _ _ _ := hs
         unfold law5_DomAsks_k12 at hm
         refine hK43 _ _ ?_; clear hK43
         refine W_post (fun a w => ∃ (y210 : (List Int)) (v211 : Value) (rw212 : List (List Value)), law5_DomAsks_k13 y202 (law5_DomAsks_l11 n p0 p2 p3 k207) y210 = some res ∧ RW (tInt .i64) f18 rw212 y210 ∧ St 158 w0 f18 (.row v211 3 1 rw212 :: .blk b8 (.cells #[.int .i64 (p3)] 3 (0, 0)) :: .blk b6 (.cells #[v1] 24 (0, 0)) :: L) [(2, .int .i64 (p2)), (5, .pointer (some ⟨b6, 0, none⟩)), (8, .pointer (some ⟨b8, 0, none⟩)), (10, .bool (false)), (15, v211), (16, .int .i64 (y202))] a w) ?_ ?_
         ·clear hs hm
          rintro a w ⟨y210, v211, rw212, hm, hW213, hs⟩
          replace hs : St _ _ _ (.row v211 3 1 rw212 :: .blk b8 (.cells #[.int .i64 (p3)] 3 (0, 0)) :: .blk b6 (.cells #[v1] 24 (0, 0)) :: L) _ _ _ := hs
          unfold law5_DomAsks_k13 at hm
          refine hK41 _ _ ?_; clear hK41
          refine W_region ?_
          refine sy (v := .int .i64 (y202)) hs (y_move rfl) ?_; clear hs; (try clear a w); intro a w hs
          refine sy hs (y_add rfl rfl rfl) ?_; clear hs; (try clear a w); intro a w hs
          refine sy (v := .int .i64 ((w64 (y202 + 1)))) hs (y_assign rfl) ?_; clear hs; (try clear a w); intro a w hs
          refine RL_nil ?_
          exact hK38 k207 _ _ (Nat.lt_succ_self _) ⟨y210, (w64 (y202 + 1)), v211, rw212, hm, hW213, hs.sub ⟨rfl, rfl, rfl, rfl, rfl, rfl, trivial⟩⟩
         ·refine W_cond hs rfl (fun hg215 => ?_) (fun hg215 => ?_)
          ·replace hm := oc_t hg215 hm
           refine W_region ?_
           refine sy (v := v198) hs (y_move rfl) ?_; clear hs; (try clear a w); intro a w hs
           refine sy (v := .int .i64 (y202)) hs (y_move rfl) ?_; clear hs; (try clear a w); intro a w hs
           refine RL_bs1s hs rfl Try.underlying60 ti3 rfl rfl ?_; clear hs; (try clear a w); intro v216 a w hs
           have hW217 : RW (tInt .i64) f18 [[.int .i64 (y202)]] [y202] := RW.single (rfl)
           generalize hgrw218 : ([[.int .i64 (y202)]] : List (List Value)) = rw218 at hs hW217; clear hgrw218
           replace hs : St _ _ _ (.row v216 3 1 rw218 :: .row v198 3 1 rw199 :: .blk b8 (.cells #[.int .i64 (p3)] 3 (0, 0)) :: .blk b6 (.cells #[v1] 24 (0, 0)) :: L) _ _ _ := hs
           obtain ⟨x221, hx222, hm⟩ := ob hm
           obtain ⟨hbx221, hex221⟩ := appM_some hx222
           have hW225 := hW200.append hW217; rw [hex221] at hW225
           refine RL_append (i := 1) hs rfl rfl rfl (Rd.st hs (.head _)) Try.underlying60 ti3 (by decide) (by rw [RW.len hW200, RW.len hW217]; exact hbx221) (.free rfl) (by decide) ?_; clear hs; (try clear a w); intro v223 a w hs
           generalize hgx221 : rw199 ++ rw218 = rw224 at hs hW225; clear hgx221
           replace hs := hs.erase 0
           replace hs : St _ _ _ (.row v223 3 1 rw224 :: .blk b8 (.cells #[.int .i64 (p3)] 3 (0, 0)) :: .blk b6 (.cells #[v1] 24 (0, 0)) :: L) _ _ _ := hs
           refine sy (v := v223) hs (y_assign rfl) ?_; clear hs; (try clear a w); intro a w hs
           refine RL_nil ?_
           exact ⟨x221, v223, rw224, hm, hW225, hs.sub ⟨rfl, rfl, rfl, rfl, rfl, rfl, trivial⟩⟩
          ·replace hm := oc_f hg215 hm
           refine W_skip ?_
           exact ⟨y197, v198, rw199, hm, hW200, hs.sub ⟨rfl, rfl, rfl, rfl, rfl, rfl, trivial⟩⟩
        ·refine W_region ?_
         refine sy (v := .int .i64 (p2)) hs (y_move rfl) ?_; clear hs; (try clear a w); intro a w hs
         refine sy hs (y_geq rfl rfl) ?_; clear hs; (try clear a w); intro a w hs
         refine sy (v := .bool (decide (0 ≤ p2))) hs (y_move rfl) ?_; clear hs; (try clear a w); intro a w hs
         refine St.split hs (t := 90) rfl (fun hg227 hq => ?_) (fun hg227 hq => ?_)
         ·clear hs; have hs := hq; clear hq
          replace hm := oc_t hg227 hm
          refine syg (v := .int .i64 (p2)) hs (y_move rfl) ?_; clear hs; (try clear a w); intro a w hs
          refine syg (v := .pointer (some ⟨b6, 0, none⟩)) hs (y_fieldAddr rfl (FO.of (off := 0) Try.underlying24 rfl rfl ti22 (by decide))) ?_; clear hs; (try clear a w); intro a w hs
          refine syg (v := v1) hs (y_ld rfl Try.underlying22 rfl (Cell.blk (.tail _ (.tail _ (.head _))) rfl)) ?_; clear hs; (try clear a w); intro a w hs
          refine syg hs (y_lenW hR3 hW4 rfl Try.underlying22) ?_; clear hs; (try clear a w); intro a w hs
          refine syg hs (y_lss rfl rfl) ?_; clear hs; (try clear a w); intro a w hs
          refine sy (v := .bool (decide (p2 < (p0.Nodes.length : Int)))) hs (y_pick rfl rfl) ?_; clear hs; (try clear a w); intro a w hs
          refine sy (v := .bool (decide (p2 < (p0.Nodes.length : Int)))) hs (y_move rfl) ?_; clear hs; (try clear a w); intro a w hs
          refine St.split hs (t := 97) rfl (fun hg228 hq => ?_) (fun hg228 hq => ?_)
          ·clear hs; have hs := hq; clear hq
           replace hm := oc_t hg228 hm
           refine syg hs (y_ldB rfl Try.underlying24 rfl ti24 (.tail _ (.tail _ (.head _))) rfl) ?_; clear hs; (try clear a w); intro a w hs
           refine syg (v := .int .i64 (p2)) hs (y_move rfl) ?_; clear hs; (try clear a w); intro a w hs
           refine syg (v := .int .i64 (y202)) hs (y_move rfl) ?_; clear hs; (try clear a w); intro a w hs
           obtain ⟨x229, hx230, hm⟩ := ob hm
           refine syg hs (y_call rfl has35 rfl (ref5_Below_ok n (f := f18) (a0 := [v1]) ⟨_, rfl, ⟨rw2, hR3, hW4⟩⟩ hx230)) ?_; clear hs; (try clear a w); intro a w hs
           refine sy (v := .bool (x229)) hs (y_pick rfl rfl) ?_; clear hs; (try clear a w); intro a w hs
           refine RL_nil ?_
           exact ⟨x229, hm, hs.sub ⟨rfl, rfl, rfl, rfl, rfl, rfl, rfl, trivial⟩⟩
          ·clear hs; have hs := hq; clear hq
           replace hm := oc_f hg228 hm
           refine sno hs ?_; clear hs; (try clear a w); intro a w hs
           refine sno hs ?_; clear hs; (try clear a w); intro a w hs
           refine sno hs ?_; clear hs; (try clear a w); intro a w hs
           refine sno hs ?_; clear hs; (try clear a w); intro a w hs
           refine sy (v := .bool (false)) hs (y_pick rfl rfl) ?_; clear hs; (try clear a w); intro a w hs
           refine RL_nil ?_
           exact ⟨false, hm, hs.sub ⟨rfl, rfl, rfl, rfl, rfl, rfl, rfl, trivial⟩⟩
         ·clear hs; have hs := hq; clear hq
          replace hm := oc_f hg227 hm
          refine sno hs ?_; clear hs; (try clear a w); intro a w hs
          refine sno hs ?_; clear hs; (try clear a w); intro a w hs
          refine sno hs ?_; clear hs; (try clear a w); intro a w hs
          refine sno hs ?_; clear hs; (try clear a w); intro a w hs
          refine sno hs ?_; clear hs; (try clear a w); intro a w hs
          refine sy (v := .bool (false)) hs (y_pick rfl rfl) ?_; clear hs; (try clear a w); intro a w hs
          refine sy (v := .bool (false)) hs (y_move rfl) ?_; clear hs; (try clear a w); intro a w hs
          refine sno hs ?_; clear hs; (try clear a w); intro a w hs
          refine sno hs ?_; clear hs; (try clear a w); intro a w hs
          refine sno hs ?_; clear hs; (try clear a w); intro a w hs
          refine sno hs ?_; clear hs; (try clear a w); intro a w hs
          refine sy (v := .bool (false)) hs (y_pick rfl rfl) ?_; clear hs; (try clear a w); intro a w hs
          refine RL_nil ?_
          exact ⟨false, hm, hs.sub ⟨rfl, rfl, rfl, rfl, rfl, rfl, rfl, trivial⟩⟩
       ·replace hm := oc_f hg208 hm
        refine W_exit ?_
        refine hB37 _ _ ?_
        exact ⟨y197, v198, rw199, hm, hW200, hs.sub ⟨rfl, rfl, rfl, rfl, rfl, trivial⟩⟩
   ·have hsD := hs.subL (L' := .blk b6 (.cells #[v1] 24 (0, 0)) :: []) (.cons _ (.cons_cons _ (List.nil_sublist _)))
    refine T_start hs (.blk b6 (.cells #[v1] 24 (0, 0)) :: []) [] (.look 0 (.look 1 (.look 2 (.look 3 (.look 4 (.look 5 (.look 6 (.look 7 (.look 8 (.look 9 (.look 10 (.look 11 (.look 12 (.look 13 (.look 14 (.look 15 (.look 16 (.look 17 (.look 18 (.look 19 (.look 20 (.look 21 (.look 22 (.look 23 (.look 24 (.look 25 (.look 26 (.look 27 (.look 28 (.look 30 (.look 31 (.any [29] (fun _ => .any [32] (fun _ => .any [33] (fun _ => .look 34 (.look 35 (.done))))))))))))))))))))))))))))))))))))) mixed (by kernel_rfl) ?_; clear hs; (try clear a w); intro a he
    refine uy (v := .string (x14.1)) 0 he rfl (y_move rfl) ?_; clear he; (try clear a); intro a he
    refine uy (v := .string (x16.1)) 1 he rfl (y_move rfl) ?_; clear he; (try clear a); intro a he
    refine uy 2 he rfl (y_sneq rfl rfl) ?_; clear he; (try clear a); intro a he
    refine uy (v := .bool (decide (x14.1 ≠ x16.1))) 3 he rfl (y_move rfl) ?_; clear he; (try clear a); intro a he
    refine Ev.split he (t := 48) rfl (fun hg231 hq => ?_) (fun hg231 hq => ?_)
    ·clear he; have he := hq; clear hq
     replace hm := oc_t hg231 hm
     refine uno 4 he rfl ?_; clear he; (try clear a); intro a he
     refine uno 5 he rfl ?_; clear he; (try clear a); intro a he
     refine uno 6 he rfl ?_; clear he; (try clear a); intro a he
     refine uy (v := .bool (true)) 7 he rfl (y_pick rfl rfl) ?_; clear he; (try clear a); intro a he
     refine uy (v := .bool (true)) 8 he rfl (y_move rfl) ?_; clear he; (try clear a); intro a he
     refine uno 9 he rfl ?_; clear he; (try clear a); intro a he
     refine uno 10 he rfl ?_; clear he; (try clear a); intro a he
     refine uno 11 he rfl ?_; clear he; (try clear a); intro a he
     refine uno 12 he rfl ?_; clear he; (try clear a); intro a he
     refine uno 13 he rfl ?_; clear he; (try clear a); intro a he
     refine uno 14 he rfl ?_; clear he; (try clear a); intro a he
     refine uno 15 he rfl ?_; clear he; (try clear a); intro a he
     refine uy (v := .bool (true)) 16 he rfl (y_pick rfl rfl) ?_; clear he; (try clear a); intro a he
     refine uy (v := .bool (true)) 17 he rfl (y_move rfl) ?_; clear he; (try clear a); intro a he
     refine uno 18 he rfl ?_; clear he; (try clear a); intro a he
     refine uno 19 he rfl ?_; clear he; (try clear a); intro a he
     refine uno 20 he rfl ?_; clear he; (try clear a); intro a he
     refine uno 21 he rfl ?_; clear he; (try clear a); intro a he
     refine uno 22 he rfl ?_; clear he; (try clear a); intro a he
     refine uno 23 he rfl ?_; clear he; (try clear a); intro a he
     refine uno 24 he rfl ?_; clear he; (try clear a); intro a he
     refine uy (v := .bool (true)) 25 he rfl (y_pick rfl rfl) ?_; clear he; (try clear a); intro a he
     refine uy (v := .bool (true)) 26 he rfl (y_move rfl) ?_; clear he; (try clear a); intro a he
     refine uno 27 he rfl ?_; clear he; (try clear a); intro a he
     refine uno 28 he rfl ?_; clear he; (try clear a); intro a he
     refine uno 30 he rfl ?_; clear he; (try clear a); intro a he
     refine uno 31 he rfl ?_; clear he; (try clear a); intro a he
     refine T_any1 he rfl ?_; clear he; (try clear a); intro a w hs
     refine sno hs ?_; clear hs; (try clear a w); intro a w hs
     refine uon hs ?_; clear hs; (try clear a w); intro a he
     refine T_any1 he rfl ?_; clear he; (try clear a); intro a w hs
     refine sno hs ?_; clear hs; (try clear a w); intro a w hs
     refine uon hs ?_; clear hs; (try clear a w); intro a he
     refine T_any1 he rfl ?_; clear he; (try clear a); intro a w hs
     refine sno hs ?_; clear hs; (try clear a w); intro a w hs
     refine uon hs ?_; clear hs; (try clear a w); intro a he
     refine uno 34 he rfl ?_; clear he; (try clear a); intro a he
     refine uy (v := .bool (true)) 35 he rfl (y_pick rfl rfl) ?_; clear he; (try clear a); intro a he
     refine T_nil he ?_; clear he; (try clear a); intro w hs; try clear hsD
     exact ⟨_, true, (Fz.le.refl _), hm, hs.sub ⟨rfl, rfl, rfl, rfl, rfl, trivial⟩⟩
    ·clear he; have he := hq; clear hq
     replace hm := oc_f hg231 hm
     refine uyg (v := .bool (x14.2)) 4 he rfl (y_move rfl) ?_; clear he; (try clear a); intro a he
     refine uyg (v := .bool (x16.2)) 5 he rfl (y_move rfl) ?_; clear he; (try clear a); intro a he
     refine uyg 6 he rfl (y_bneq rfl rfl Try.underlying4) ?_; clear he; (try clear a); intro a he
     refine uy (v := .bool ((!(x14.2 == x16.2)))) 7 he rfl (y_pick rfl rfl) ?_; clear he; (try clear a); intro a he
     refine uy (v := .bool ((!(x14.2 == x16.2)))) 8 he rfl (y_move rfl) ?_; clear he; (try clear a); intro a he
     refine Ev.split he (t := 53) rfl (fun hg232 hq => ?_) (fun hg232 hq => ?_)
     ·clear he; have he := hq; clear hq
      replace hm := oc_t hg232 hm
      refine uno 9 he rfl ?_; clear he; (try clear a); intro a he
      refine uno 10 he rfl ?_; clear he; (try clear a); intro a he
      refine uno 11 he rfl ?_; clear he; (try clear a); intro a he
      refine uno 12 he rfl ?_; clear he; (try clear a); intro a he
      refine uno 13 he rfl ?_; clear he; (try clear a); intro a he
      refine uno 14 he rfl ?_; clear he; (try clear a); intro a he
      refine uno 15 he rfl ?_; clear he; (try clear a); intro a he
      refine uy (v := .bool (true)) 16 he rfl (y_pick rfl rfl) ?_; clear he; (try clear a); intro a he
      refine uy (v := .bool (true)) 17 he rfl (y_move rfl) ?_; clear he; (try clear a); intro a he
      refine uno 18 he rfl ?_; clear he; (try clear a); intro a he
      refine uno 19 he rfl ?_; clear he; (try clear a); intro a he
      refine uno 20 he rfl ?_; clear he; (try clear a); intro a he
      refine uno 21 he rfl ?_; clear he; (try clear a); intro a he
      refine uno 22 he rfl ?_; clear he; (try clear a); intro a he
      refine uno 23 he rfl ?_; clear he; (try clear a); intro a he
      refine uno 24 he rfl ?_; clear he; (try clear a); intro a he
      refine uy (v := .bool (true)) 25 he rfl (y_pick rfl rfl) ?_; clear he; (try clear a); intro a he
      refine uy (v := .bool (true)) 26 he rfl (y_move rfl) ?_; clear he; (try clear a); intro a he
      refine uno 27 he rfl ?_; clear he; (try clear a); intro a he
      refine uno 28 he rfl ?_; clear he; (try clear a); intro a he
      refine uno 30 he rfl ?_; clear he; (try clear a); intro a he
      refine uno 31 he rfl ?_; clear he; (try clear a); intro a he
      refine T_any1 he rfl ?_; clear he; (try clear a); intro a w hs
      refine sno hs ?_; clear hs; (try clear a w); intro a w hs
      refine uon hs ?_; clear hs; (try clear a w); intro a he
      refine T_any1 he rfl ?_; clear he; (try clear a); intro a w hs
      refine sno hs ?_; clear hs; (try clear a w); intro a w hs
      refine uon hs ?_; clear hs; (try clear a w); intro a he
      refine T_any1 he rfl ?_; clear he; (try clear a); intro a w hs
      refine sno hs ?_; clear hs; (try clear a w); intro a w hs
      refine uon hs ?_; clear hs; (try clear a w); intro a he
      refine uno 34 he rfl ?_; clear he; (try clear a); intro a he
      refine uy (v := .bool (true)) 35 he rfl (y_pick rfl rfl) ?_; clear he; (try clear a); intro a he
      refine T_nil he ?_; clear he; (try clear a); intro w hs; try clear hsD
      exact ⟨_, true, (Fz.le.refl _), hm, hs.sub ⟨rfl, rfl, rfl, rfl, rfl, trivial⟩⟩
     ·clear he; have he := hq; clear hq
      replace hm := oc_f hg232 hm
      refine uyg 9 he rfl (y_ldB rfl Try.underlying24 rfl ti24 (.head _) rfl) ?_; clear he; (try clear a); intro a he
      refine uyg (v := .int .i64 (p1)) 10 he rfl (y_move rfl) ?_; clear he; (try clear a); intro a he
      obtain ⟨x233, hx234, hm⟩ := ob hm
      refine ucallg 11 he rfl rfl has25 rfl (fun f9 L9 w9 hfc _ hw9 => (dom_Depth_ok n (f := f9) (a0 := [v1]) ⟨_, rfl, ⟨rw2, hR3.le hfc, hW4.le hfc⟩⟩ hx234) w0 L9 w9 hw9) ?_; clear he; (try clear a); intro a he
      refine uyg 12 he rfl (y_ldB rfl Try.underlying24 rfl ti24 (.head _) rfl) ?_; clear he; (try clear a); intro a he
      refine uyg (v := .int .i64 (p1)) 13 he rfl (y_move rfl) ?_; clear he; (try clear a); intro a he
      obtain ⟨x235, hx236, hm⟩ := ob hm
      refine ucallg 14 he rfl rfl has31 rfl (fun f9 L9 w9 hfc _ hw9 => (ref5_Depth_ok n (f := f9) (a0 := [v1]) ⟨_, rfl, ⟨rw2, hR3.le hfc, hW4.le hfc⟩⟩ hx236) w0 L9 w9 hw9) ?_; clear he; (try clear a); intro a he
      refine uyg 15 he rfl (y_neq rfl rfl) ?_; clear he; (try clear a); intro a he
      refine uy (v := .bool (decide (x233 ≠ x235))) 16 he rfl (y_pick rfl rfl) ?_; clear he; (try clear a); intro a he
      refine uy (v := .bool (decide (x233 ≠ x235))) 17 he rfl (y_move rfl) ?_; clear he; (try clear a); intro a he
      refine Ev.split he (t := 62) rfl (fun hg237 hq => ?_) (fun hg237 hq => ?_)
      ·clear he; have he := hq; clear hq
       replace hm := oc_t hg237 hm
       refine uno 18 he rfl ?_; clear he; (try clear a); intro a he
       refine uno 19 he rfl ?_; clear he; (try clear a); intro a he
       refine uno 20 he rfl ?_; clear he; (try clear a); intro a he
       refine uno 21 he rfl ?_; clear he; (try clear a); intro a he
       refine uno 22 he rfl ?_; clear he; (try clear a); intro a he
       refine uno 23 he rfl ?_; clear he; (try clear a); intro a he
       refine uno 24 he rfl ?_; clear he; (try clear a); intro a he
       refine uy (v := .bool (true)) 25 he rfl (y_pick rfl rfl) ?_; clear he; (try clear a); intro a he
       refine uy (v := .bool (true)) 26 he rfl (y_move rfl) ?_; clear he; (try clear a); intro a he
       refine uno 27 he rfl ?_; clear he; (try clear a); intro a he
       refine uno 28 he rfl ?_; clear he; (try clear a); intro a he
       refine uno 30 he rfl ?_; clear he; (try clear a); intro a he
       refine uno 31 he rfl ?_; clear he; (try clear a); intro a he
       refine T_any1 he rfl ?_; clear he; (try clear a); intro a w hs
       refine sno hs ?_; clear hs; (try clear a w); intro a w hs
       refine uon hs ?_; clear hs; (try clear a w); intro a he
       refine T_any1 he rfl ?_; clear he; (try clear a); intro a w hs
       refine sno hs ?_; clear hs; (try clear a w); intro a w hs
       refine uon hs ?_; clear hs; (try clear a w); intro a he
       refine T_any1 he rfl ?_; clear he; (try clear a); intro a w hs
       refine sno hs ?_; clear hs; (try clear a w); intro a w hs
       refine uon hs ?_; clear hs; (try clear a w); intro a he
       refine uno 34 he rfl ?_; clear he; (try clear a); intro a he
       refine uy (v := .bool (true)) 35 he rfl (y_pick rfl rfl) ?_; clear he; (try clear a); intro a he
       refine T_nil he ?_; clear he; (try clear a); intro w hs; try clear hsD
       exact ⟨_, true, (Fz.le.refl _), hm, hs.sub ⟨rfl, rfl, rfl, rfl, rfl, trivial⟩⟩
      ·clear he; have he := hq; clear hq
       replace hm := oc_f hg237 hm
       refine uyg 18 he rfl (y_ldB rfl Try.underlying24 rfl ti24 (.head _) rfl) ?_; clear he; (try clear a); intro a he
       refine uyg (v := .int .i64 (p1)) 19 he rfl (y_move rfl) ?_; clear he; (try clear a); intro a he
       obtain ⟨x238, hx239, hm⟩ := ob hm
       refine ucallg 20 he rfl rfl has27 rfl (fun f9 L9 w9 hfc _ hw9 => (dom_Index_ok n (f := f9) (a0 := [v1]) ⟨_, rfl, ⟨rw2, hR3.le hfc, hW4.le hfc⟩⟩ hx239) w0 L9 w9 hw9) ?_; clear he; (try clear a); intro a he
       refine uyg 21 he rfl (y_ldB rfl Try.underlying24 rfl ti24 (.head _) rfl) ?_; clear he; (try clear a); intro a he
       refine uyg (v := .int .i64 (p1)) 22 he rfl (y_move rfl) ?_; clear he; (try clear a); intro a he
       obtain ⟨x240, hx241, hm⟩ := ob hm
       refine ucallg 23 he rfl rfl has32 rfl (fun f9 L9 w9 hfc _ hw9 => (ref5_Index_ok n (f := f9) (a0 := [v1]) ⟨_, rfl, ⟨rw2, hR3.le hfc, hW4.le hfc⟩⟩ hx241) w0 L9 w9 hw9) ?_; clear he; (try clear a); intro a he
       refine uyg 24 he rfl (y_neq rfl rfl) ?_; clear he; (try clear a); intro a he
       refine uy (v := .bool (decide (x238 ≠ x240))) 25 he rfl (y_pick rfl rfl) ?_; clear he; (try clear a); intro a he
       refine uy (v := .bool (decide (x238 ≠ x240))) 26 he rfl (y_move rfl) ?_; clear he; (try clear a); intro a he
       refine Ev.split he (t := 71) rfl (fun hg242 hq => ?_) (fun hg242 hq => ?_)
       ·clear he; have he := hq; clear hq
        replace hm := oc_t hg242 hm
        refine uno 27 he rfl ?_; clear he; (try clear a); intro a he
        refine uno 28 he rfl ?_; clear he; (try clear a); intro a he
        refine uno 30 he rfl ?_; clear he; (try clear a); intro a he
        refine uno 31 he rfl ?_; clear he; (try clear a); intro a he
        refine T_any1 he rfl ?_; clear he; (try clear a); intro a w hs
        refine sno hs ?_; clear hs; (try clear a w); intro a w hs
        refine uon hs ?_; clear hs; (try clear a w); intro a he
        refine T_any1 he rfl ?_; clear he; (try clear a); intro a w hs
        refine sno hs ?_; clear hs; (try clear a w); intro a w hs
        refine uon hs ?_; clear hs; (try clear a w); intro a he
        refine T_any1 he rfl ?_; clear he; (try clear a); intro a w hs
        refine sno hs ?_; clear hs; (try clear a w); intro a w hs
        refine uon hs ?_; clear hs; (try clear a w); intro a he
        refine uno 34 he rfl ?_; clear he; (try clear a); intro a he
        refine uy (v := .bool (true)) 35 he rfl (y_pick rfl rfl) ?_; clear he; (try clear a); intro a he
        refine T_nil he ?_; clear he; (try clear a); intro w hs; try clear hsD
        exact ⟨_, true, (Fz.le.refl _), hm, hs.sub ⟨rfl, rfl, rfl, rfl, rfl, trivial⟩⟩
       ·clear he; have he := hq; clear hq
        replace hm := oc_f hg242 hm
        refine uyg 27 he rfl (y_ldB rfl Try.underlying24 rfl ti24 (.head _) rfl) ?_; clear he; (try clear a); intro a he
        refine uyg (v := .int .i64 (p1)) 28 he rfl (y_move rfl) ?_; clear he; (try clear a); intro a he
        refine uyg 30 he rfl (y_ldB rfl Try.underlying24 rfl ti24 (.head _) rfl) ?_; clear he; (try clear a); intro a he
        refine uyg (v := .int .i64 (p1)) 31 he rfl (y_move rfl) ?_; clear he; (try clear a); intro a he
        refine T_any1 he rfl ?_; clear he; (try clear a); intro a w hs
        obtain ⟨x243, hx244, hm⟩ := ob hm
        refine RL_callVg hs rfl has26 rfl (dom_Kids_ok n (f := f) (a0 := [v1]) ⟨_, rfl, ⟨rw2, hR3, hW4⟩⟩ hx244) ?_; clear hs; (try clear a w)
        rintro v247 f245 _ a w hf246 ⟨_, rfl, rfl, ⟨rw248, hR249, hW250⟩⟩ hs
        have hR251 := hR3.le hf246
        have hW252 := hW4.le hf246
        replace hle := hle.trans hf246
        replace hbase21 := hbase21.trans hf246
        replace hM := hM.le hf246
        replace hs : St _ _ _ (.blk b8 (.cells #[.int .i64 (p3)] 3 (0, 0)) :: .blk b6 (.cells #[v1] 24 (0, 0)) :: L) _ _ _ := hs
        refine uon hs ?_; clear hs; (try clear a w); intro a he
        refine T_any1 he rfl ?_; clear he; (try clear a); intro a w hs
        obtain ⟨x254, hx255, hm⟩ := ob hm
        refine RL_callVg hs rfl has34 rfl (ref5_Kids_ok n (f := f245) (a0 := [v1]) ⟨_, rfl, ⟨rw2, hR251, hW252⟩⟩ hx255) ?_; clear hs; (try clear a w)
        rintro v258 f256 _ a w hf257 ⟨_, rfl, rfl, ⟨rw259, hR260, hW261⟩⟩ hs
        have hR262 := hR251.le hf257
        have hW263 := hW252.le hf257
        have hR264 := hR249.le hf257
        have hW265 := hW250.le hf257
        replace hle := hle.trans hf257
        replace hbase21 := hbase21.trans hf257
        replace hM := hM.le hf257
        replace hs : St _ _ _ (.blk b8 (.cells #[.int .i64 (p3)] 3 (0, 0)) :: .blk b6 (.cells #[v1] 24 (0, 0)) :: L) _ _ _ := hs
        refine uon hs ?_; clear hs; (try clear a w); intro a he
        refine T_any1 he rfl ?_; clear he; (try clear a); intro a w hs
        obtain ⟨x267, hx268, hm⟩ := ob hm
        refine syg hs (y_call rfl has33 rfl (book_Same_int_ok n (f := f256) (a0 := v247) (a1 := v258) ⟨rw248, hR264, hW265⟩ ⟨rw259, hR260, hW261⟩ hx268)) ?_; clear hs; (try clear a w); intro a w hs
        refine uon hs ?_; clear hs; (try clear a w); intro a he
        refine uyg (v := .bool ((!x267))) 34 he rfl (y_not rfl) ?_; clear he; (try clear a); intro a he
        refine uy (v := .bool ((!x267))) 35 he rfl (y_pick rfl rfl) ?_; clear he; (try clear a); intro a he
        refine T_nil he ?_; clear he; (try clear a); intro w hs; try clear hsD
        exact ⟨_, (!x267), hbase21, hm, hs.sub ⟨rfl, rfl, rfl, rfl, rfl, trivial⟩⟩
 ·refine W_region ?_
  refine sy (v := .pointer (some ⟨b6, 0, none⟩)) hs (y_fieldAddr rfl (FO.of (off := 0) Try.underlying24 rfl rfl ti22 (by decide))) ?_; clear hs; (try clear a w); intro a w hs
  refine sy (v := v1) hs (y_ld rfl Try.underlying22 rfl (Cell.blk (.tail _ (.head _)) rfl)) ?_; clear hs; (try clear a w); intro a w hs
  refine sy hs (y_lenW hR3 hW4 rfl Try.underlying22) ?_; clear hs; (try clear a w); intro a w hs
  refine sy hs (y_gtr rfl rfl) ?_; clear hs; (try clear a w); intro a w hs
  refine sy (v := .bool (decide (300 < (p0.Nodes.length : Int)))) hs (y_move rfl) ?_; clear hs; (try clear a w); intro a w hs
  refine St.split hs (t := 25) rfl (fun hg269 hq => ?_) (fun hg269 hq => ?_)
  ·clear hs; have hs := hq; clear hq
   replace hm := oc_t hg269 hm
   refine sno hs ?_; clear hs; (try clear a w); intro a w hs
   refine sno hs ?_; clear hs; (try clear a w); intro a w hs
   refine sno hs ?_; clear hs; (try clear a w); intro a w hs
   refine sy (v := .bool (true)) hs (y_pick rfl rfl) ?_; clear hs; (try clear a w); intro a w hs
   refine RL_nil ?_
   exact ⟨true, hm, hs.sub ⟨rfl, rfl, rfl, rfl, rfl, rfl, rfl, trivial⟩⟩
  ·clear hs; have hs := hq; clear hq
   replace hm := oc_f hg269 hm
   refine syg hs (y_ldB rfl Try.underlying24 rfl ti24 (.tail _ (.head _)) rfl) ?_; clear hs; (try clear a w); intro a w hs
   obtain ⟨x270, hx271, hm⟩ := ob hm
   refine syg hs (y_call rfl has13 rfl (ref5_Right_ok n (f := f) (a0 := [v1]) ⟨_, rfl, ⟨rw2, hR3, hW4⟩⟩ hx271)) ?_; clear hs; (try clear a w); intro a w hs
   refine syg hs (y_neq rfl rfl) ?_; clear hs; (try clear a w); intro a w hs
   refine sy (v := .bool (decide (x270 ≠ 0))) hs (y_pick rfl rfl) ?_; clear hs; (try clear a w); intro a w hs
   refine RL_nil ?_
   exact ⟨decide (x270 ≠ 0), hm, hs.sub ⟨rfl, rfl, rfl, rfl, rfl, rfl, rfl, trivial⟩⟩

end Go.Proofs.Ytekcbgnkikmhpaa
