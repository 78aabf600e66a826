/-
  Walks and laws of this seat; the base is the text Base.
-/
import Derived.Test.YtekcbgnkikmhpaaL5h
/-
  Models of functions, and that the functions compute them. Printed by lift.py.
-/
namespace Go.Proofs.Ytekcbgnkikmhpaa
open Go.RowKit Go.Sl

/-! casement/casementlaw5.DomWalk -/
def law5_DomWalk_k4 (y248 : Bool) : Option Bool :=
  some y248
def law5_DomWalk_k3 (_y242 : Int) : Option Bool :=
  some false
def law5_DomWalk_k6 (y139 : Int) (lp243 : Int → Option Bool) : Option Bool :=
  lp243 (w64 (y139 + 1))
def law5_DomWalk_k9 (y270 : Int) (lp271 : Int → Int → Option Bool) (y294 : Int) : Option Bool :=
  lp271 y294 (w64 (y270 + 1))
def law5_DomWalk_k8 (n : Nat) (p0 : api_Tree) (y139 : Int) (x260 : (List Int)) (y269 : Int) (y270 : Int) (lp271 : Int → Int → Option Bool) (y273 : Bool) : Option Bool :=
  (bif y273 then law5_DomWalk_k3 y139 else
  (geti x260 y270).bind fun x275 =>
  (geti p0.Nodes x275).bind fun x282 =>
  (bif (decide (x282.Kind = 1)) then (geti x260 y270).bind fun x296 =>
  (dom_Index n p0 x296).bind fun x303 =>
  (bif (decide (x303 ≠ y269)) then law5_DomWalk_k3 y139 else
  law5_DomWalk_k9 y270 lp271 (w64 (y269 + 1))) else
  law5_DomWalk_k9 y270 lp271 y269))
def law5_DomWalk_l7 (n : Nat) (p0 : api_Tree) (y139 : Int) (lp243 : Int → Option Bool) (x244 : Int) (x260 : (List Int)) : Nat → Int → Int → Option Bool
  | 0, _, _ => none
  | k271 + 1, y269, y270 =>
  (bif (decide (y270 < (x260.length : Int))) then (geti x260 y270).bind fun x306 =>
  (geti p0.Nodes x306).bind fun x313 =>
  (bif (decide (x313.Parent ≠ x244)) then law5_DomWalk_k8 n p0 y139 x260 y269 y270 (law5_DomWalk_l7 n p0 y139 lp243 x244 x260 k271) true else
  (bif (decide (0 < y270)) then (geti x260 y270).bind fun x327 =>
  (geti x260 (w64 (y270 - 1))).bind fun x334 =>
  law5_DomWalk_k8 n p0 y139 x260 y269 y270 (law5_DomWalk_l7 n p0 y139 lp243 x244 x260 k271) (decide (x327 ≤ x334)) else
  law5_DomWalk_k8 n p0 y139 x260 y269 y270 (law5_DomWalk_l7 n p0 y139 lp243 x244 x260 k271) false)) else
  law5_DomWalk_k6 y139 lp243)
def law5_DomWalk_k5 (n : Nat) (p0 : api_Tree) (y139 : Int) (lp243 : Int → Option Bool) (x244 : Int) (y258 : Bool) : Option Bool :=
  (bif y258 then law5_DomWalk_k3 y139 else
  (dom_Kids n p0 x244).bind fun x260 =>
  law5_DomWalk_l7 n p0 y139 lp243 x244 x260 n 1 0)
def law5_DomWalk_r2 (n : Nat) (p0 : api_Tree) : List Int → Int → Option Bool
  | [], y139 =>
  (bif (decide (y139 = (p0.Nodes.length : Int))) then (law5_known n).bind fun x250 =>
  law5_DomWalk_k4 x250 else
  law5_DomWalk_k4 false)
  | x244 :: rm243, y139 =>
  (bif (decide (x244 ≠ y139)) then law5_DomWalk_k5 n p0 y139 (law5_DomWalk_r2 n p0 rm243) x244 true else
  (bif (decide (0 < x244)) then (dom_Depth n p0 x244).bind fun x343 =>
  (geti p0.Nodes x244).bind fun x345 =>
  (dom_Depth n p0 x345.Parent).bind fun x357 =>
  law5_DomWalk_k5 n p0 y139 (law5_DomWalk_r2 n p0 rm243) x244 (decide (x343 ≠ (w64 (x357 + 1)))) else
  law5_DomWalk_k5 n p0 y139 (law5_DomWalk_r2 n p0 rm243) x244 false))
def law5_DomWalk_k1 (n : Nat) (p0 : api_Tree) (y10 : Bool) : Option Bool :=
  (bif y10 then (law5_known n).bind fun x12 =>
  some x12 else
  (dom_All n p0 0).bind fun x14 =>
  (dom_All_1 n x14.1 x14.2).bind fun x35 =>
  law5_DomWalk_r2 n p0 x35 0)
def law5_DomWalk (n : Nat) (p0 : api_Tree) : Option Bool :=
  (bif (decide (300 < (p0.Nodes.length : Int))) then law5_DomWalk_k1 n p0 true else
  (dom_Right n p0).bind fun x360 =>
  law5_DomWalk_k1 n p0 (decide (x360 ≠ 0)))
theorem law5_DomWalk_ok (n : Nat) {f : Fz} {p0 : api_Tree} {a0 : List Value} {res : Bool} (h0 : t_api_Tree.R f a0 p0) (hm : law5_DomWalk n p0 = some res) : Gives Try.prog 7 [.agg a0.toArray] f (.bool res) := by
 unfold law5_DomWalk at hm
 intro w0 L w hC
 obtain ⟨v1, rfl, ⟨rw2, hR3, hW4⟩⟩ := h0
 refine enter1 Try.func7 rfl Try.ntmps7 (by simp) hC fun a hs => ?_
 have hM : Marks f f [] := Marks.nil
 have hle := Fz.le.refl f
 refine W1_seq fun K1 hK1 => ?_
 refine W1_of ?_
 refine W_region ?_
 refine sbox hs rfl ?_; clear hs; (try clear a w); intro b6 a w hs
 replace hs : St _ _ _ (.blk b6 (.cells #[v1] 24 (0, 0)) :: L) _ _ _ := hs
 refine RL_alloc hs ti4 (.free rfl) (by decide) ?_; clear hs; (try clear a w); intro b8 a w hs
 replace hs : St _ _ _ (.blk b8 (.cells #[.bool (false)] 4 (0, 0)) :: .blk b6 (.cells #[v1] 24 (0, 0)) :: L) _ _ _ := hs
 refine RL_nil ?_
 refine hK1 _ _ _ ?_; clear hK1
 refine W1_seq fun K2 hK2 => ?_
 refine W1_of ?_
 refine W_seq fun K3 hK3 => ?_
 refine W_post (fun a w => ∃ (y10 : Bool), law5_DomWalk_k1 n p0 y10 = some res ∧ St 113 w0 f (.blk b8 (.cells #[.bool (false)] 4 (0, 0)) :: .blk b6 (.cells #[v1] 24 (0, 0)) :: L) [(1, .pointer (some ⟨b6, 0, none⟩)), (2, .pointer (some ⟨b8, 0, none⟩)), (17, .bool (y10))] a w) ?_ ?_
 ·clear hs hm
  rintro a w ⟨y10, hm, hs⟩
  replace hs : St _ _ _ (.blk b8 (.cells #[.bool (false)] 4 (0, 0)) :: .blk b6 (.cells #[v1] 24 (0, 0)) :: L) _ _ _ := hs
  unfold law5_DomWalk_k1 at hm
  refine hK3 _ _ ?_; clear hK3
  refine W_cond hs rfl (fun hg11 => ?_) (fun hg11 => ?_)
  ·replace hm := oc_t hg11 hm
   refine W_seq fun K4 hK4 => ?_
   refine W_region ?_
   obtain ⟨x12, hx13, hm⟩ := ob hm
   refine sy hs (y_call rfl has10 rfl (law5_known_ok n (f := f)  hx13)) ?_; clear hs; (try clear a w); intro a w hs
   refine sstore 0 hs rfl rfl rfl ti4 rfl ?_; clear hs; (try clear a w); intro a w hs
   replace hs : St _ _ _ (.blk b8 (.cells #[.bool (x12)] 4 (0, 0)) :: .blk b6 (.cells #[v1] 24 (0, 0)) :: L) _ _ _ := hs
   refine RL_nil ?_
   refine hK4 _ _ ?_; clear hK4
   refine W_ret ?_
   obtain rfl := Option.some.inj hm
   refine RtM_of hs hle hM ?_; clear hs; (try clear w); intro w hs
   replace hle := Fz.le.refl f
   refine RtV1 hs rfl (rv_c hs rfl Try.underlying4 rfl (Cell.blk (.head _) rfl)) ?_
   exact ⟨rfl, ((hs.subL (.cons _ (.cons _ (.refl _)))).weak hle).cw⟩
  ·replace hm := oc_f hg11 hm
   refine W_skip ?_
   refine hK2 _ _ _ ?_; clear hK2
   refine W1_seq fun K5 hK5 => ?_
   refine W1_of ?_
   refine W_region ?_
   refine sy hs (y_ldB rfl Try.underlying24 rfl ti24 (.tail _ (.head _)) rfl) ?_; clear hs; (try clear a w); intro a w hs
   obtain ⟨x14, hx15, hm⟩ := ob hm
   refine RL_callV hs rfl has24 rfl (dom_All_ok n (f := f) (a0 := [v1]) ⟨_, rfl, ⟨rw2, hR3, hW4⟩⟩ hx15) ?_; clear hs; (try clear a w)
   rintro _ f16 _ a w hf17 ⟨b18, r19, b23, r24, rfl, rfl, hq20, hB21, hq25, hB26⟩ hs
   replace hR3 := hR3.le hf17
   replace hW4 := hW4.le hf17
   replace hle := hle.trans hf17
   replace hM := hM.le hf17
   obtain ⟨v28, rfl, ⟨rw29, hR30, hW31⟩⟩ := hq20
   obtain rfl : _ = ([.int .i64 (x14.2)] : List Value) := hq25
   replace hs : St _ _ _ (.blk b8 (.cells #[.bool (false)] 4 (0, 0)) :: .blk b6 (.cells #[v1] 24 (0, 0)) :: L) _ _ _ := hs
   refine sy (v := .func (.func 45) #[] #[.pointer (some ⟨b18, 0, none⟩), .pointer (some ⟨b23, 0, none⟩)]) hs (y_assign rfl) ?_; clear hs; (try clear a w); intro a w hs
   refine RL_nil ?_
   refine hK5 _ _ _ ?_; clear hK5
   refine W1_seq fun K6 hK6 => ?_
   refine W1_of ?_
   refine W_seq fun K7 hK7 => ?_
   refine W_region ?_
   refine sy (v := .func (.func 45) #[] #[.pointer (some ⟨b18, 0, none⟩), .pointer (some ⟨b23, 0, none⟩)]) hs (y_move rfl) ?_; clear hs; (try clear a w); intro a w hs
   refine sy hs (y_fnil rfl rfl Try.underlying55) ?_; clear hs; (try clear a w); intro a w hs
   refine RL_nil ?_
   refine hK7 _ _ ?_; clear hK7
   refine W_condF hs rfl ?_
   refine W_skip ?_
   refine hK6 _ _ _ ?_; clear hK6
   refine W1_seq fun K8 hK8 => ?_
   refine W1_of ?_
   refine W_region ?_
   refine RL_alloc hs ti3 (.free rfl) (by decide) ?_; clear hs; (try clear a w); intro b33 a w hs
   replace hs : St _ _ _ (.blk b33 (.cells #[.int .i64 (0)] 3 (0, 0)) :: .blk b8 (.cells #[.bool (false)] 4 (0, 0)) :: .blk b6 (.cells #[v1] 24 (0, 0)) :: L) _ _ _ := hs
   refine sstore 0 hs rfl rfl rfl ti3 rfl ?_; clear hs; (try clear a w); intro a w hs
   replace hs : St _ _ _ (.blk b33 (.cells #[.int .i64 (0)] 3 (0, 0)) :: .blk b8 (.cells #[.bool (false)] 4 (0, 0)) :: .blk b6 (.cells #[v1] 24 (0, 0)) :: L) _ _ _ := hs
   refine RL_nil ?_
   refine hK8 _ _ _ ?_; clear hK8
   refine W1_seq fun K9 hK9 => ?_
   refine W1_seq fun K10 hK10 => ?_
   refine W1_of ?_
   refine W_region ?_
   refine sy (v := .func (.func 45) #[] #[.pointer (some ⟨b18, 0, none⟩), .pointer (some ⟨b23, 0, none⟩)]) hs (y_move rfl) ?_; clear hs; (try clear a w); intro a w hs
   refine RL_nil ?_
   refine hK10 _ _ _ ?_; clear hK10
   refine W1_block fun Qe11 hB11 hO11 => ?_
   obtain ⟨x35, hx36, hm⟩ := ob hm
   replace hs : St 113 w0 f16 (.blk b33 (.cells #[.int .i64 (0)] 3 (0, 0)) :: .blk b8 (.cells #[.bool (false)] 4 (0, 0)) :: .blk b6 (.cells #[v1] 24 (0, 0)) :: L) [(1, .pointer (some ⟨b6, 0, none⟩)), (2, .pointer (some ⟨b8, 0, none⟩)), (4, .pointer (some ⟨b33, 0, none⟩)), (23, .func (.func 45) #[] #[.pointer (some ⟨b18, 0, none⟩), .pointer (some ⟨b23, 0, none⟩)])] a w := hs.subs ⟨rfl, rfl, rfl, rfl, trivial⟩ (.cons_cons _ (.cons_cons _ (.cons_cons _ (.refl _))))
   refine W1_range (L := L) (ents := [.blk b33 (.cells #[.int .i64 (0)] 3 (0, 0)), .blk b8 (.cells #[.bool (false)] 4 (0, 0)), .blk b6 (.cells #[v1] 24 (0, 0))]) (enc := (fun x => .int .i64 x)) hs rfl has45 (dom_All_1_it n (f := f16) (cb0 := b18) (ca0 := [v28]) (cb1 := b23) (ca1 := [.int .i64 (x14.2)]) ⟨_, rfl, ⟨rw29, hR30, hW31⟩⟩ hB21 rfl hB26 hx36) (by decide) (fun x => [(5, .int .i64 x), (24, .int .i64 x), (1, .pointer (some ⟨b6, 0, none⟩)), (2, .pointer (some ⟨b8, 0, none⟩)), (4, .pointer (some ⟨b33, 0, none⟩)), (23, .func (.func 45) #[] #[.pointer (some ⟨b18, 0, none⟩), .pointer (some ⟨b23, 0, none⟩)])]) (fun rem ents => ∃ (y139 : Int), law5_DomWalk_r2 n p0 rem y139 = some res ∧ ents = [.blk b33 (.cells #[.int .i64 (y139)] 3 (0, 0)), .blk b8 (.cells #[.bool (false)] 4 (0, 0)), .blk b6 (.cells #[v1] 24 (0, 0))]) (fun c ents => (c = .ret ∧ ∃ (y242 : Int), law5_DomWalk_k3 y242 = some res ∧ ents = [.blk b33 (.cells #[.int .i64 (y242)] 3 (0, 0)), .blk b8 (.cells #[.bool (false)] 4 (0, 0)), .blk b6 (.cells #[v1] 24 (0, 0))])) ⟨0, hm, rfl⟩ ?_ ?_ ?_ ?_
   ·intro x f9 L a w hs K hK
    refine W_region ?_
    refine sy (v := .int .i64 (x)) hs (y_assign rfl) ?_; clear hs; (try clear a w); intro a w hs
    refine RL_nil ?_
    exact hK _ _ hs
   ·clear hs hm; (try clear a w)
    rintro x244 rm243 _ L f255 a w hf256 ⟨y139, hm, rfl⟩ hs
    replace hR3 := hR3.le hf256
    replace hW4 := hW4.le hf256
    replace hR30 := hR30.le hf256
    replace hW31 := hW31.le hf256
    replace hB21 := hf256 _ _ hB21
    replace hB26 := hf256 _ _ hB26
    replace hle := hle.trans hf256
    replace hM := hM.le hf256
    replace hs : St _ _ _ (.blk b33 (.cells #[.int .i64 (y139)] 3 (0, 0)) :: .blk b8 (.cells #[.bool (false)] 4 (0, 0)) :: .blk b6 (.cells #[v1] 24 (0, 0)) :: L) _ _ _ := hs
    rw [law5_DomWalk_r2] at hm
    have hbase257 := Fz.le.refl f255
    refine W_block fun Qe13 hB13 hO13 => ?_
    refine W_seq fun K14 hK14 => ?_
    refine W_seq fun K15 hK15 => ?_
    refine W_post (fun a w => ∃ (y258 : Bool), law5_DomWalk_k5 n p0 y139 (law5_DomWalk_r2 n p0 rm243) x244 y258 = some res ∧ St 113 w0 f255 (.blk b33 (.cells #[.int .i64 (y139)] 3 (0, 0)) :: .blk b8 (.cells #[.bool (false)] 4 (0, 0)) :: .blk b6 (.cells #[v1] 24 (0, 0)) :: L) [(1, .pointer (some ⟨b6, 0, none⟩)), (2, .pointer (some ⟨b8, 0, none⟩)), (4, .pointer (some ⟨b33, 0, none⟩)), (5, .int .i64 (x244)), (46, .bool (y258))] a w) ?_ ?_
    ·clear hs hm
     rintro a w ⟨y258, hm, hs⟩
     replace hs : St _ _ _ (.blk b33 (.cells #[.int .i64 (y139)] 3 (0, 0)) :: .blk b8 (.cells #[.bool (false)] 4 (0, 0)) :: .blk b6 (.cells #[v1] 24 (0, 0)) :: L) _ _ _ := hs
     unfold law5_DomWalk_k5 at hm
     refine hK15 _ _ ?_; clear hK15
     refine W_cond hs rfl (fun hg259 => ?_) (fun hg259 => ?_)
     ·replace hm := oc_t hg259 hm
      refine W_seq fun K16 hK16 => ?_
      refine W_region ?_
      refine sstore 1 hs rfl rfl rfl ti4 rfl ?_; clear hs; (try clear a w); intro a w hs
      replace hs : St _ _ _ (.blk b33 (.cells #[.int .i64 (y139)] 3 (0, 0)) :: .blk b8 (.cells #[.bool (false)] 4 (0, 0)) :: .blk b6 (.cells #[v1] 24 (0, 0)) :: L) _ _ _ := hs
      refine RL_nil ?_
      refine hK16 _ _ ?_; clear hK16
      refine W_ret ?_
      exact ⟨_, [.blk b33 (.cells #[.int .i64 (y139)] 3 (0, 0)), .blk b8 (.cells #[.bool (false)] 4 (0, 0)), .blk b6 (.cells #[v1] 24 (0, 0))], hbase257, ⟨rfl, y139, hm, rfl⟩, hs.cw⟩
     ·replace hm := oc_f hg259 hm
      refine W_skip ?_
      refine hK14 _ _ ?_; clear hK14
      refine W_seq fun K17 hK17 => ?_
      refine W_region ?_
      refine sy hs (y_ldB rfl Try.underlying24 rfl ti24 (.tail _ (.tail _ (.head _))) rfl) ?_; clear hs; (try clear a w); intro a w hs
      refine sy (v := .int .i64 (x244)) hs (y_move rfl) ?_; clear hs; (try clear a w); intro a w hs
      obtain ⟨x260, hx261, hm⟩ := ob hm
      refine RL_callV hs rfl has26 rfl (dom_Kids_ok n (f := f255) (a0 := [v1]) ⟨_, rfl, ⟨rw2, hR3, hW4⟩⟩ hx261) ?_; clear hs; (try clear a w)
      rintro v264 f262 _ a w hf263 ⟨_, rfl, rfl, ⟨rw265, hR266, hW267⟩⟩ hs
      replace hR3 := hR3.le hf263
      replace hW4 := hW4.le hf263
      replace hR30 := hR30.le hf263
      replace hW31 := hW31.le hf263
      replace hB21 := hf263 _ _ hB21
      replace hB26 := hf263 _ _ hB26
      replace hle := hle.trans hf263
      replace hbase257 := hbase257.trans hf263
      replace hM := hM.le hf263
      replace hs : St _ _ _ (.blk b33 (.cells #[.int .i64 (y139)] 3 (0, 0)) :: .blk b8 (.cells #[.bool (false)] 4 (0, 0)) :: .blk b6 (.cells #[v1] 24 (0, 0)) :: L) _ _ _ := hs
      refine sy (v := v264) hs (y_assign rfl) ?_; clear hs; (try clear a w); intro a w hs
      refine RL_nil ?_
      refine hK17 _ _ ?_; clear hK17
      refine W_seq fun K18 hK18 => ?_
      refine W_region ?_
      refine sy (v := .int .i64 (1)) hs (y_assign rfl) ?_; clear hs; (try clear a w); intro a w hs
      refine RL_nil ?_
      refine hK18 _ _ ?_; clear hK18
      refine W_seq fun K19 hK19 => ?_
      refine W_seq fun K20 hK20 => ?_
      refine W_region ?_
      refine sy (v := .int .i64 (0)) hs (y_assign rfl) ?_; clear hs; (try clear a w); intro a w hs
      refine RL_nil ?_
      refine hK20 _ _ ?_; clear hK20
      refine W_post (fun a w => law5_DomWalk_k6 y139 (law5_DomWalk_r2 n p0 rm243) = some res ∧ St 113 w0 f262 (.blk b33 (.cells #[.int .i64 (y139)] 3 (0, 0)) :: .blk b8 (.cells #[.bool (false)] 4 (0, 0)) :: .blk b6 (.cells #[v1] 24 (0, 0)) :: L) [(4, .pointer (some ⟨b33, 0, none⟩))] a w) ?_ ?_
      ·clear hs hm
       rintro a w ⟨hm, hs⟩
       replace hs : St _ _ _ (.blk b33 (.cells #[.int .i64 (y139)] 3 (0, 0)) :: .blk b8 (.cells #[.bool (false)] 4 (0, 0)) :: .blk b6 (.cells #[v1] 24 (0, 0)) :: L) _ _ _ := hs
       unfold law5_DomWalk_k6 at hm
       refine hK19 _ _ ?_; clear hK19
       refine W_region ?_
       refine sy (v := .int .i64 (y139)) hs (y_ld rfl Try.underlying3 rfl (Cell.blk (.head _) rfl)) ?_; clear hs; (try clear a w); intro a w hs
       refine sy hs (y_add rfl rfl rfl) ?_; clear hs; (try clear a w); intro a w hs
       refine sstore 0 hs rfl rfl rfl ti3 rfl ?_; clear hs; (try clear a w); intro a w hs
       replace hs : St _ _ _ (.blk b33 (.cells #[.int .i64 ((w64 (y139 + 1)))] 3 (0, 0)) :: .blk b8 (.cells #[.bool (false)] 4 (0, 0)) :: .blk b6 (.cells #[v1] 24 (0, 0)) :: L) _ _ _ := hs
       refine RL_nil ?_
       exact ⟨_, [.blk b33 (.cells #[.int .i64 ((w64 (y139 + 1)))] 3 (0, 0)), .blk b8 (.cells #[.bool (false)] 4 (0, 0)), .blk b6 (.cells #[v1] 24 (0, 0))], hbase257, ⟨(w64 (y139 + 1)), hm, rfl⟩, hs.cw⟩
      ·refine W_block fun Qe21 hB21 hO21 => ?_
       refine W_loop (fun (k : Nat) a w => ∃ (y269 : Int) (y270 : Int), law5_DomWalk_l7 n p0 y139 (law5_DomWalk_r2 n p0 rm243) x244 x260 k y269 y270 = some res ∧ St 113 w0 f262 (.blk b33 (.cells #[.int .i64 (y139)] 3 (0, 0)) :: .blk b8 (.cells #[.bool (false)] 4 (0, 0)) :: .blk b6 (.cells #[v1] 24 (0, 0)) :: L) [(1, .pointer (some ⟨b6, 0, none⟩)), (2, .pointer (some ⟨b8, 0, none⟩)), (4, .pointer (some ⟨b33, 0, none⟩)), (5, .int .i64 (x244)), (6, v264), (7, .int .i64 (y269)), (8, .int .i64 (y270))] a w) (fun k => k) n ⟨1, 0, hm, hs.sub ⟨rfl, rfl, rfl, rfl, rfl, rfl, rfl, trivial⟩⟩ ?_
       clear hs hm
       intro k
       rintro a w ⟨y269, y270, hm, hs⟩
       replace hs : St _ _ _ (.blk b33 (.cells #[.int .i64 (y139)] 3 (0, 0)) :: .blk b8 (.cells #[.bool (false)] 4 (0, 0)) :: .blk b6 (.cells #[v1] 24 (0, 0)) :: L) _ _ _ := hs
       intro K22 hK22
       cases k with
       | zero => simp [law5_DomWalk_l7] at hm
       | succ k271 =>
        rw [law5_DomWalk_l7] at hm
        refine W_seq fun K23 hK23 => ?_
        refine W_seq fun K24 hK24 => ?_
        refine W_region ?_
        refine sy (v := .int .i64 (y270)) hs (y_move rfl) ?_; clear hs; (try clear a w); intro a w hs
        refine sy (v := v264) hs (y_move rfl) ?_; clear hs; (try clear a w); intro a w hs
        refine sy hs (y_lenW hR266 hW267 rfl Try.underlying60) ?_; clear hs; (try clear a w); intro a w hs
        refine sy hs (y_lss rfl rfl) ?_; clear hs; (try clear a w); intro a w hs
        refine RL_nil ?_
        refine hK24 _ _ ?_; clear hK24
        refine W_cond hs rfl (fun hg272 => ?_) (fun hg272 => ?_)
        ·replace hm := oc_t hg272 hm
         refine W_skip ?_
         refine hK23 _ _ ?_; clear hK23
         refine W_seq fun K25 hK25 => ?_
         refine W_block fun Qe26 hB26 hO26 => ?_
         refine W_seq fun K27 hK27 => ?_
         refine W_seq fun K28 hK28 => ?_
         refine W_post (fun a w => ∃ (y273 : Bool), law5_DomWalk_k8 n p0 y139 x260 y269 y270 (law5_DomWalk_l7 n p0 y139 (law5_DomWalk_r2 n p0 rm243) x244 x260 k271) y273 = some res ∧ St 113 w0 f262 (.blk b33 (.cells #[.int .i64 (y139)] 3 (0, 0)) :: .blk b8 (.cells #[.bool (false)] 4 (0, 0)) :: .blk b6 (.cells #[v1] 24 (0, 0)) :: L) [(1, .pointer (some ⟨b6, 0, none⟩)), (2, .pointer (some ⟨b8, 0, none⟩)), (4, .pointer (some ⟨b33, 0, none⟩)), (5, .int .i64 (x244)), (6, v264), (7, .int .i64 (y269)), (8, .int .i64 (y270)), (82, .bool (y273))] a w) ?_ ?_
         ·clear hs hm
          rintro a w ⟨y273, hm, hs⟩
          replace hs : St _ _ _ (.blk b33 (.cells #[.int .i64 (y139)] 3 (0, 0)) :: .blk b8 (.cells #[.bool (false)] 4 (0, 0)) :: .blk b6 (.cells #[v1] 24 (0, 0)) :: L) _ _ _ := hs
          unfold law5_DomWalk_k8 at hm
          refine hK28 _ _ ?_; clear hK28
          refine W_cond hs rfl (fun hg274 => ?_) (fun hg274 => ?_)
          ·replace hm := oc_t hg274 hm
           refine W_seq fun K29 hK29 => ?_
           refine W_region ?_
           refine sstore 1 hs rfl rfl rfl ti4 rfl ?_; clear hs; (try clear a w); intro a w hs
           replace hs : St _ _ _ (.blk b33 (.cells #[.int .i64 (y139)] 3 (0, 0)) :: .blk b8 (.cells #[.bool (false)] 4 (0, 0)) :: .blk b6 (.cells #[v1] 24 (0, 0)) :: L) _ _ _ := hs
           refine RL_nil ?_
           refine hK29 _ _ ?_; clear hK29
           refine W_ret ?_
           exact ⟨_, [.blk b33 (.cells #[.int .i64 (y139)] 3 (0, 0)), .blk b8 (.cells #[.bool (false)] 4 (0, 0)), .blk b6 (.cells #[v1] 24 (0, 0))], hbase257, ⟨rfl, y139, hm, rfl⟩, hs.cw⟩
          ·replace hm := oc_f hg274 hm
           refine W_skip ?_
           refine hK27 _ _ ?_; clear hK27
           refine W_seq fun K30 hK30 => ?_
           refine W_draw hs mixed (by kernel_rfl) ?_; intro a he
           refine qy (v := .pointer (some ⟨b6, 0, none⟩)) he (y_fieldAddr rfl (FO.of (off := 0) Try.underlying24 rfl rfl ti22 (by decide))) ?_; clear he; (try clear a); intro a he
           refine qy (v := v1) he (y_ld rfl Try.underlying22 rfl (Cell.blk (.tail _ (.tail _ (.head _))) rfl)) ?_; clear he; (try clear a); intro a he
           refine qy (v := v264) he (y_move rfl) ?_; clear he; (try clear a); intro a he
           refine qy (v := .int .i64 (y270)) he (y_move rfl) ?_; clear he; (try clear a); intro a he
           obtain ⟨x275, hx276, hm⟩ := ob hm
           obtain ⟨r277, hr278, hq279, hi280, hb281⟩ := hW267.geti hx276
           obtain rfl : _ = ([.int .i64 (x275)] : List Value) := hq279
           refine qy he (y_indexAddr hR266 rfl rfl hi280 hb281 Try.underlying60 ti3) ?_; clear he; (try clear a); intro a he
           refine qy (v := .int .i64 (x275)) he (y_loadE (i := y270.toNat) (j := 0) hR266.up rfl hr278 rfl Try.underlying3 rfl) ?_; clear he; (try clear a); intro a he
           obtain ⟨x282, hx283, hm⟩ := ob hm
           obtain ⟨r284, hr285, hq286, hi287, hb288⟩ := hW4.geti hx283
           obtain ⟨v289, rfl, ⟨rw290, hR291, hW292⟩⟩ := hq286
           refine qy he (y_indexAddr hR3 rfl rfl hi287 hb288 Try.underlying22 ti59) ?_; clear he; (try clear a); intro a he
           refine qy (v := eaddr v1 9 x275.toNat 0) he (y_fieldAddrE (i := x275.toNat) (j := 0) hR3 rfl hb288 (FO.of (off := 0) Try.underlying59 rfl rfl ti3 (by decide))) ?_; clear he; (try clear a); intro a he
           refine qy (v := .int .i64 (x282.Kind)) he (y_loadE (i := x275.toNat) (j := 0) hR3.up rfl hr285 rfl Try.underlying3 rfl) ?_; clear he; (try clear a); intro a he
           refine qy he (y_eql rfl rfl) ?_; clear he; (try clear a); intro a he
           refine QL_nil he ?_; clear he; (try clear hs); (try clear a); intro a w hs
           refine hK30 _ _ ?_; clear hK30
           refine W_post (fun a w => ∃ (y294 : Int), law5_DomWalk_k9 y270 (law5_DomWalk_l7 n p0 y139 (law5_DomWalk_r2 n p0 rm243) x244 x260 k271) y294 = some res ∧ St 113 w0 f262 (.blk b33 (.cells #[.int .i64 (y139)] 3 (0, 0)) :: .blk b8 (.cells #[.bool (false)] 4 (0, 0)) :: .blk b6 (.cells #[v1] 24 (0, 0)) :: L) [(1, .pointer (some ⟨b6, 0, none⟩)), (2, .pointer (some ⟨b8, 0, none⟩)), (4, .pointer (some ⟨b33, 0, none⟩)), (5, .int .i64 (x244)), (6, v264), (7, .int .i64 (y294)), (8, .int .i64 (y270))] a w) ?_ ?_
           ·clear hs hm
            rintro a w ⟨y294, hm, hs⟩
            replace hs : St _ _ _ (.blk b33 (.cells #[.int .i64 (y139)] 3 (0, 0)) :: .blk b8 (.cells #[.bool (false)] 4 (0, 0)) :: .blk b6 (.cells #[v1] 24 (0, 0)) :: L) _ _ _ := hs
            unfold law5_DomWalk_k9 at hm
            refine hK25 _ _ ?_; clear hK25
            refine W_region ?_
            refine sy (v := .int .i64 (y270)) hs (y_move rfl) ?_; clear hs; (try clear a w); intro a w hs
            refine sy hs (y_add rfl rfl rfl) ?_; clear hs; (try clear a w); intro a w hs
            refine sy (v := .int .i64 ((w64 (y270 + 1)))) hs (y_assign rfl) ?_; clear hs; (try clear a w); intro a w hs
            refine RL_nil ?_
            exact hK22 k271 _ _ (Nat.lt_succ_self _) ⟨y294, (w64 (y270 + 1)), hm, hs.sub ⟨rfl, rfl, rfl, rfl, rfl, rfl, rfl, trivial⟩⟩
           ·refine W_cond hs rfl (fun hg295 => ?_) (fun hg295 => ?_)
            ·replace hm := oc_t hg295 hm
             refine W_seq fun K31 hK31 => ?_
             refine W_seq fun K32 hK32 => ?_
             refine W_draw hs mixed (by kernel_rfl) ?_; intro a he
             refine qy he (y_ldB rfl Try.underlying24 rfl ti24 (.tail _ (.tail _ (.head _))) rfl) ?_; clear he; (try clear a); intro a he
             refine qy (v := v264) he (y_move rfl) ?_; clear he; (try clear a); intro a he
             refine qy (v := .int .i64 (y270)) he (y_move rfl) ?_; clear he; (try clear a); intro a he
             obtain ⟨x296, hx297, hm⟩ := ob hm
             obtain ⟨r298, hr299, hq300, hi301, hb302⟩ := hW267.geti hx297
             obtain rfl : _ = ([.int .i64 (x296)] : List Value) := hq300
             refine qy he (y_indexAddr hR266 rfl rfl hi301 hb302 Try.underlying60 ti3) ?_; clear he; (try clear a); intro a he
             refine qy (v := .int .i64 (x296)) he (y_loadE (i := y270.toNat) (j := 0) hR266.up rfl hr299 rfl Try.underlying3 rfl) ?_; clear he; (try clear a); intro a he
             obtain ⟨x303, hx304, hm⟩ := ob hm
             refine qy he (y_call rfl has27 rfl (dom_Index_ok n (f := f262) (a0 := [v1]) ⟨_, rfl, ⟨rw2, hR3, hW4⟩⟩ hx304)) ?_; clear he; (try clear a); intro a he
             refine qy (v := .int .i64 (y269)) he (y_move rfl) ?_; clear he; (try clear a); intro a he
             refine qy he (y_neq rfl rfl) ?_; clear he; (try clear a); intro a he
             refine QL_nil he ?_; clear he; (try clear hs); (try clear a); intro a w hs
             refine hK32 _ _ ?_; clear hK32
             refine W_cond hs rfl (fun hg305 => ?_) (fun hg305 => ?_)
             ·replace hm := oc_t hg305 hm
              refine W_seq fun K33 hK33 => ?_
              refine W_region ?_
              refine sstore 1 hs rfl rfl rfl ti4 rfl ?_; clear hs; (try clear a w); intro a w hs
              replace hs : St _ _ _ (.blk b33 (.cells #[.int .i64 (y139)] 3 (0, 0)) :: .blk b8 (.cells #[.bool (false)] 4 (0, 0)) :: .blk b6 (.cells #[v1] 24 (0, 0)) :: L) _ _ _ := hs
              refine RL_nil ?_
              refine hK33 _ _ ?_; clear hK33
              refine W_ret ?_
              exact ⟨_, [.blk b33 (.cells #[.int .i64 (y139)] 3 (0, 0)), .blk b8 (.cells #[.bool (false)] 4 (0, 0)), .blk b6 (.cells #[v1] 24 (0, 0))], hbase257, ⟨rfl, y139, hm, rfl⟩, hs.cw⟩
             ·replace hm := oc_f hg305 hm
              refine W_skip ?_
              refine hK31 _ _ ?_; clear hK31
              refine W_region ?_
              refine sy (v := .int .i64 (y269)) hs (y_move rfl) ?_; clear hs; (try clear a w); intro a w hs
              refine sy hs (y_add rfl rfl rfl) ?_; clear hs; (try clear a w); intro a w hs
              refine sy (v := .int .i64 ((w64 (y269 + 1)))) hs (y_assign rfl) ?_; clear hs; (try clear a w); intro a w hs
              refine RL_nil ?_
              exact ⟨(w64 (y269 + 1)), hm, hs.sub ⟨rfl, rfl, rfl, rfl, rfl, rfl, rfl, trivial⟩⟩
            ·replace hm := oc_f hg295 hm
             refine W_skip ?_
             exact ⟨y269, hm, hs.sub ⟨rfl, rfl, rfl, rfl, rfl, rfl, rfl, trivial⟩⟩
         ·refine W_draw hs mixed (by kernel_rfl) ?_; intro a he
          refine qy (v := .pointer (some ⟨b6, 0, none⟩)) he (y_fieldAddr rfl (FO.of (off := 0) Try.underlying24 rfl rfl ti22 (by decide))) ?_; clear he; (try clear a); intro a he
          refine qy (v := v1) he (y_ld rfl Try.underlying22 rfl (Cell.blk (.tail _ (.tail _ (.head _))) rfl)) ?_; clear he; (try clear a); intro a he
          refine qy (v := v264) he (y_move rfl) ?_; clear he; (try clear a); intro a he
          refine qy (v := .int .i64 (y270)) he (y_move rfl) ?_; clear he; (try clear a); intro a he
          obtain ⟨x306, hx307, hm⟩ := ob hm
          obtain ⟨r308, hr309, hq310, hi311, hb312⟩ := hW267.geti hx307
          obtain rfl : _ = ([.int .i64 (x306)] : List Value) := hq310
          refine qy he (y_indexAddr hR266 rfl rfl hi311 hb312 Try.underlying60 ti3) ?_; clear he; (try clear a); intro a he
          refine qy (v := .int .i64 (x306)) he (y_loadE (i := y270.toNat) (j := 0) hR266.up rfl hr309 rfl Try.underlying3 rfl) ?_; clear he; (try clear a); intro a he
          obtain ⟨x313, hx314, hm⟩ := ob hm
          obtain ⟨r315, hr316, hq317, hi318, hb319⟩ := hW4.geti hx314
          obtain ⟨v320, rfl, ⟨rw321, hR322, hW323⟩⟩ := hq317
          refine qy he (y_indexAddr hR3 rfl rfl hi318 hb319 Try.underlying22 ti59) ?_; clear he; (try clear a); intro a he
          refine qy (v := eaddr v1 9 x306.toNat 4) he (y_fieldAddrE (i := x306.toNat) (j := 0) hR3 rfl hb319 (FO.of (off := 4) Try.underlying59 rfl rfl ti3 (by decide))) ?_; clear he; (try clear a); intro a he
          refine qy (v := .int .i64 (x313.Parent)) he (y_loadE (i := x306.toNat) (j := 4) hR3.up rfl hr316 rfl Try.underlying3 rfl) ?_; clear he; (try clear a); intro a he
          refine qy (v := .int .i64 (x244)) he (y_move rfl) ?_; clear he; (try clear a); intro a he
          refine qy he (y_neq rfl rfl) ?_; clear he; (try clear a); intro a he
          refine qy (v := .bool (decide (x313.Parent ≠ x244))) he (y_move rfl) ?_; clear he; (try clear a); intro a he
          refine Ev.split he (t := 67) rfl (fun hg325 hq => ?_) (fun hg325 hq => ?_)
          ·clear he; have he := hq; clear hq
           replace hm := oc_t hg325 hm
           refine qno he ?_; clear he; (try clear a); intro a he
           refine qno he ?_; clear he; (try clear a); intro a he
           refine qno he ?_; clear he; (try clear a); intro a he
           refine qun he ?_; clear he; (try clear a); intro a he
           refine qun he ?_; clear he; (try clear a); intro a he
           refine qun he ?_; clear he; (try clear a); intro a he
           refine qun he ?_; clear he; (try clear a); intro a he
           refine qun he ?_; clear he; (try clear a); intro a he
           refine qun he ?_; clear he; (try clear a); intro a he
           refine qun he ?_; clear he; (try clear a); intro a he
           refine qun he ?_; clear he; (try clear a); intro a he
           refine qun he ?_; clear he; (try clear a); intro a he
           refine qun he ?_; clear he; (try clear a); intro a he
           refine qno he ?_; clear he; (try clear a); intro a he
           refine qy (v := .bool (true)) he (y_pick rfl rfl) ?_; clear he; (try clear a); intro a he
           refine QL_nil he ?_; clear he; (try clear hs); (try clear a); intro a w hs
           exact ⟨true, hm, hs.sub ⟨rfl, rfl, rfl, rfl, rfl, rfl, rfl, rfl, trivial⟩⟩
          ·clear he; have he := hq; clear hq
           replace hm := oc_f hg325 hm
           refine qyg (v := .int .i64 (y270)) he (y_move rfl) ?_; clear he; (try clear a); intro a he
           refine qyg he (y_gtr rfl rfl) ?_; clear he; (try clear a); intro a he
           refine qyg (v := .bool (decide (0 < y270))) he (y_move rfl) ?_; clear he; (try clear a); intro a he
           refine Ev.split he (t := 70) rfl (fun hg326 hq => ?_) (fun hg326 hq => ?_)
           ·clear he; have he := hq; clear hq
            replace hm := oc_t hg326 hm
            refine qyg (v := v264) he (y_move rfl) ?_; clear he; (try clear a); intro a he
            refine qyg (v := .int .i64 (y270)) he (y_move rfl) ?_; clear he; (try clear a); intro a he
            obtain ⟨x327, hx328, hm⟩ := ob hm
            obtain ⟨r329, hr330, hq331, hi332, hb333⟩ := hW267.geti hx328
            obtain rfl : _ = ([.int .i64 (x327)] : List Value) := hq331
            refine qyg he (y_indexAddr hR266 rfl rfl hi332 hb333 Try.underlying60 ti3) ?_; clear he; (try clear a); intro a he
            refine qyg (v := .int .i64 (x327)) he (y_loadE (i := y270.toNat) (j := 0) hR266.up rfl hr330 rfl Try.underlying3 rfl) ?_; clear he; (try clear a); intro a he
            refine qyg (v := v264) he (y_move rfl) ?_; clear he; (try clear a); intro a he
            refine qyg (v := .int .i64 (y270)) he (y_move rfl) ?_; clear he; (try clear a); intro a he
            refine qyg he (y_sub rfl rfl rfl) ?_; clear he; (try clear a); intro a he
            obtain ⟨x334, hx335, hm⟩ := ob hm
            obtain ⟨r336, hr337, hq338, hi339, hb340⟩ := hW267.geti hx335
            obtain rfl : _ = ([.int .i64 (x334)] : List Value) := hq338
            refine qyg he (y_indexAddr hR266 rfl rfl hi339 hb340 Try.underlying60 ti3) ?_; clear he; (try clear a); intro a he
            refine qyg (v := .int .i64 (x334)) he (y_loadE (i := (w64 (y270 - 1)).toNat) (j := 0) hR266.up rfl hr337 rfl Try.underlying3 rfl) ?_; clear he; (try clear a); intro a he
            refine qyg he (y_leq rfl rfl) ?_; clear he; (try clear a); intro a he
            refine qyg (v := .bool (decide (x327 ≤ x334))) he (y_pick rfl rfl) ?_; clear he; (try clear a); intro a he
            refine qy (v := .bool (decide (x327 ≤ x334))) he (y_pick rfl rfl) ?_; clear he; (try clear a); intro a he
            refine QL_nil he ?_; clear he; (try clear hs); (try clear a); intro a w hs
            exact ⟨decide (x327 ≤ x334), hm, hs.sub ⟨rfl, rfl, rfl, rfl, rfl, rfl, rfl, rfl, trivial⟩⟩
           ·clear he; have he := hq; clear hq
            replace hm := oc_f hg326 hm
            refine qno he ?_; clear he; (try clear a); intro a he
            refine qno he ?_; clear he; (try clear a); intro a he
            refine qno he ?_; clear he; (try clear a); intro a he
            refine qno he ?_; clear he; (try clear a); intro a he
            refine qno he ?_; clear he; (try clear a); intro a he
            refine qno he ?_; clear he; (try clear a); intro a he
            refine qno he ?_; clear he; (try clear a); intro a he
            refine qno he ?_; clear he; (try clear a); intro a he
            refine qno he ?_; clear he; (try clear a); intro a he
            refine qno he ?_; clear he; (try clear a); intro a he
            refine qyg (v := .bool (false)) he (y_pick rfl rfl) ?_; clear he; (try clear a); intro a he
            refine qy (v := .bool (false)) he (y_pick rfl rfl) ?_; clear he; (try clear a); intro a he
            refine QL_nil he ?_; clear he; (try clear hs); (try clear a); intro a w hs
            exact ⟨false, hm, hs.sub ⟨rfl, rfl, rfl, rfl, rfl, rfl, rfl, rfl, trivial⟩⟩
        ·replace hm := oc_f hg272 hm
         refine W_exit ?_
         refine hB21 _ _ ?_
         exact ⟨hm, hs.sub ⟨rfl, trivial⟩⟩
    ·refine W_draw hs mixed (by kernel_rfl) ?_; intro a he
     refine qy (v := .int .i64 (x244)) he (y_move rfl) ?_; clear he; (try clear a); intro a he
     refine qy (v := .int .i64 (y139)) he (y_ld rfl Try.underlying3 rfl (Cell.blk (.head _) rfl)) ?_; clear he; (try clear a); intro a he
     refine qy he (y_neq rfl rfl) ?_; clear he; (try clear a); intro a he
     refine qy (v := .bool (decide (x244 ≠ y139))) he (y_move rfl) ?_; clear he; (try clear a); intro a he
     refine Ev.split he (t := 28) rfl (fun hg341 hq => ?_) (fun hg341 hq => ?_)
     ·clear he; have he := hq; clear hq
      replace hm := oc_t hg341 hm
      refine qno he ?_; clear he; (try clear a); intro a he
      refine qno he ?_; clear he; (try clear a); intro a he
      refine qno he ?_; clear he; (try clear a); intro a he
      refine qun he ?_; clear he; (try clear a); intro a he
      refine qun he ?_; clear he; (try clear a); intro a he
      refine qun he ?_; clear he; (try clear a); intro a he
      refine qun he ?_; clear he; (try clear a); intro a he
      refine qun he ?_; clear he; (try clear a); intro a he
      refine qun he ?_; clear he; (try clear a); intro a he
      refine qun he ?_; clear he; (try clear a); intro a he
      refine qun he ?_; clear he; (try clear a); intro a he
      refine qun he ?_; clear he; (try clear a); intro a he
      refine qun he ?_; clear he; (try clear a); intro a he
      refine qun he ?_; clear he; (try clear a); intro a he
      refine qun he ?_; clear he; (try clear a); intro a he
      refine qun he ?_; clear he; (try clear a); intro a he
      refine qno he ?_; clear he; (try clear a); intro a he
      refine qy (v := .bool (true)) he (y_pick rfl rfl) ?_; clear he; (try clear a); intro a he
      refine QL_nil he ?_; clear he; (try clear hs); (try clear a); intro a w hs
      exact ⟨true, hm, hs.sub ⟨rfl, rfl, rfl, rfl, rfl, trivial⟩⟩
     ·clear he; have he := hq; clear hq
      replace hm := oc_f hg341 hm
      refine qyg (v := .int .i64 (x244)) he (y_move rfl) ?_; clear he; (try clear a); intro a he
      refine qyg he (y_gtr rfl rfl) ?_; clear he; (try clear a); intro a he
      refine qyg (v := .bool (decide (0 < x244))) he (y_move rfl) ?_; clear he; (try clear a); intro a he
      refine Ev.split he (t := 31) rfl (fun hg342 hq => ?_) (fun hg342 hq => ?_)
      ·clear he; have he := hq; clear hq
       replace hm := oc_t hg342 hm
       refine qyg he (y_ldB rfl Try.underlying24 rfl ti24 (.tail _ (.tail _ (.head _))) rfl) ?_; clear he; (try clear a); intro a he
       refine qyg (v := .int .i64 (x244)) he (y_move rfl) ?_; clear he; (try clear a); intro a he
       obtain ⟨x343, hx344, hm⟩ := ob hm
       refine qyg he (y_call rfl has25 rfl (dom_Depth_ok n (f := f255) (a0 := [v1]) ⟨_, rfl, ⟨rw2, hR3, hW4⟩⟩ hx344)) ?_; clear he; (try clear a); intro a he
       refine qyg he (y_ldB rfl Try.underlying24 rfl ti24 (.tail _ (.tail _ (.head _))) rfl) ?_; clear he; (try clear a); intro a he
       refine qyg (v := .pointer (some ⟨b6, 0, none⟩)) he (y_fieldAddr rfl (FO.of (off := 0) Try.underlying24 rfl rfl ti22 (by decide))) ?_; clear he; (try clear a); intro a he
       refine qyg (v := v1) he (y_ld rfl Try.underlying22 rfl (Cell.blk (.tail _ (.tail _ (.head _))) rfl)) ?_; clear he; (try clear a); intro a he
       refine qyg (v := .int .i64 (x244)) he (y_move rfl) ?_; clear he; (try clear a); intro a he
       obtain ⟨x345, hx346, hm⟩ := ob hm
       obtain ⟨r347, hr348, hq349, hi350, hb351⟩ := hW4.geti hx346
       obtain ⟨v352, rfl, ⟨rw353, hR354, hW355⟩⟩ := hq349
       refine qyg he (y_indexAddr hR3 rfl rfl hi350 hb351 Try.underlying22 ti59) ?_; clear he; (try clear a); intro a he
       refine qyg (v := eaddr v1 9 x244.toNat 4) he (y_fieldAddrE (i := x244.toNat) (j := 0) hR3 rfl hb351 (FO.of (off := 4) Try.underlying59 rfl rfl ti3 (by decide))) ?_; clear he; (try clear a); intro a he
       refine qyg (v := .int .i64 (x345.Parent)) he (y_loadE (i := x244.toNat) (j := 4) hR3.up rfl hr348 rfl Try.underlying3 rfl) ?_; clear he; (try clear a); intro a he
       obtain ⟨x357, hx358, hm⟩ := ob hm
       refine qyg he (y_call rfl has25 rfl (dom_Depth_ok n (f := f255) (a0 := [v1]) ⟨_, rfl, ⟨rw2, hR3, hW4⟩⟩ hx358)) ?_; clear he; (try clear a); intro a he
       refine qyg he (y_add rfl rfl rfl) ?_; clear he; (try clear a); intro a he
       refine qyg he (y_neq rfl rfl) ?_; clear he; (try clear a); intro a he
       refine qyg (v := .bool (decide (x343 ≠ (w64 (x357 + 1))))) he (y_pick rfl rfl) ?_; clear he; (try clear a); intro a he
       refine qy (v := .bool (decide (x343 ≠ (w64 (x357 + 1))))) he (y_pick rfl rfl) ?_; clear he; (try clear a); intro a he
       refine QL_nil he ?_; clear he; (try clear hs); (try clear a); intro a w hs
       exact ⟨decide (x343 ≠ (w64 (x357 + 1))), hm, hs.sub ⟨rfl, rfl, rfl, rfl, rfl, trivial⟩⟩
      ·clear he; have he := hq; clear hq
       replace hm := oc_f hg342 hm
       refine qno he ?_; clear he; (try clear a); intro a he
       refine qno he ?_; clear he; (try clear a); intro a he
       refine qno he ?_; clear he; (try clear a); intro a he
       refine qno he ?_; clear he; (try clear a); intro a he
       refine qno he ?_; clear he; (try clear a); intro a he
       refine qno he ?_; clear he; (try clear a); intro a he
       refine qno he ?_; clear he; (try clear a); intro a he
       refine qno he ?_; clear he; (try clear a); intro a he
       refine qno he ?_; clear he; (try clear a); intro a he
       refine qno he ?_; clear he; (try clear a); intro a he
       refine qno he ?_; clear he; (try clear a); intro a he
       refine qno he ?_; clear he; (try clear a); intro a he
       refine qno he ?_; clear he; (try clear a); intro a he
       refine qyg (v := .bool (false)) he (y_pick rfl rfl) ?_; clear he; (try clear a); intro a he
       refine qy (v := .bool (false)) he (y_pick rfl rfl) ?_; clear he; (try clear a); intro a he
       refine QL_nil he ?_; clear he; (try clear hs); (try clear a); intro a w hs
       exact ⟨false, hm, hs.sub ⟨rfl, rfl, rfl, rfl, rfl, trivial⟩⟩
   ·clear hs hm; (try clear w)
    rintro f245 D247 _ w hf246 hD0 hD ⟨y139, hm, rfl⟩ hs
    replace hM := Marks.cons hM hle hf246 hD0 hD; clear hD0 hD
    replace hR3 := hR3.le hf246
    replace hW4 := hW4.le hf246
    replace hR30 := hR30.le hf246
    replace hW31 := hW31.le hf246
    replace hB21 := hf246 _ _ hB21
    replace hB26 := hf246 _ _ hB26
    replace hle := hle.trans hf246
    replace hs : St _ _ _ (.blk b33 (.cells #[.int .i64 (y139)] 3 (0, 0)) :: .blk b8 (.cells #[.bool (false)] 4 (0, 0)) :: .blk b6 (.cells #[v1] 24 (0, 0)) :: L) _ _ _ := hs
    rw [law5_DomWalk_r2] at hm
    refine hK9 _ _ _ ?_; clear hK9
    refine W1_of ?_
    refine W_seq fun K12 hK12 => ?_
    refine W_post (fun a w => ∃ (y248 : Bool), law5_DomWalk_k4 y248 = some res ∧ St 113 w0 f245 (.blk b8 (.cells #[.bool (y248)] 4 (0, 0)) :: L) [(2, .pointer (some ⟨b8, 0, none⟩))] a w) ?_ ?_
    ·clear hs hm
     rintro a w ⟨y248, hm, hs⟩
     replace hs : St _ _ _ (.blk b8 (.cells #[.bool (y248)] 4 (0, 0)) :: L) _ _ _ := hs
     unfold law5_DomWalk_k4 at hm
     refine hK12 _ _ ?_; clear hK12
     refine W_ret ?_
     obtain rfl := Option.some.inj hm
     refine RtM_of hs hle hM ?_; clear hs; (try clear w); intro w hs
     replace hle := Fz.le.refl f
     refine RtV1 hs rfl (rv_c hs rfl Try.underlying4 rfl (Cell.blk (.head _) rfl)) ?_
     exact ⟨rfl, ((hs.subL (.cons _ (.refl _))).weak hle).cw⟩
    ·refine W_region ?_
     refine sy (v := .int .i64 (y139)) hs (y_ld rfl Try.underlying3 rfl (Cell.blk (.head _) rfl)) ?_; clear hs; (try clear a w); intro a w hs
     refine sy (v := .pointer (some ⟨b6, 0, none⟩)) hs (y_fieldAddr rfl (FO.of (off := 0) Try.underlying24 rfl rfl ti22 (by decide))) ?_; clear hs; (try clear a w); intro a w hs
     refine sy (v := v1) hs (y_ld rfl Try.underlying22 rfl (Cell.blk (.tail _ (.tail _ (.head _))) rfl)) ?_; clear hs; (try clear a w); intro a w hs
     refine sy hs (y_lenW hR3 hW4 rfl Try.underlying22) ?_; clear hs; (try clear a w); intro a w hs
     refine sy hs (y_eql rfl rfl) ?_; clear hs; (try clear a w); intro a w hs
     refine sy (v := .bool (decide (y139 = (p0.Nodes.length : Int)))) hs (y_move rfl) ?_; clear hs; (try clear a w); intro a w hs
     refine St.split hs (t := 110) rfl (fun hg249 hq => ?_) (fun hg249 hq => ?_)
     ·clear hs; have hs := hq; clear hq
      replace hm := oc_t hg249 hm
      obtain ⟨x250, hx251, hm⟩ := ob hm
      refine syg hs (y_call rfl has10 rfl (law5_known_ok n (f := f245)  hx251)) ?_; clear hs; (try clear a w); intro a w hs
      refine sy (v := .bool (x250)) hs (y_pick rfl rfl) ?_; clear hs; (try clear a w); intro a w hs
      refine sstore 1 hs rfl rfl rfl ti4 rfl ?_; clear hs; (try clear a w); intro a w hs
      replace hs : St _ _ _ (.blk b33 (.cells #[.int .i64 (y139)] 3 (0, 0)) :: .blk b8 (.cells #[.bool (x250)] 4 (0, 0)) :: .blk b6 (.cells #[v1] 24 (0, 0)) :: L) _ _ _ := hs
      refine RL_nil ?_
      exact ⟨x250, hm, hs.subs ⟨rfl, trivial⟩ (.cons _ (.cons_cons _ (.cons _ (.refl _))))⟩
     ·clear hs; have hs := hq; clear hq
      replace hm := oc_f hg249 hm
      refine sno hs ?_; clear hs; (try clear a w); intro a w hs
      refine sy (v := .bool (false)) hs (y_pick rfl rfl) ?_; clear hs; (try clear a w); intro a w hs
      refine sstore 1 hs rfl rfl rfl ti4 rfl ?_; clear hs; (try clear a w); intro a w hs
      replace hs : St _ _ _ (.blk b33 (.cells #[.int .i64 (y139)] 3 (0, 0)) :: .blk b8 (.cells #[.bool (false)] 4 (0, 0)) :: .blk b6 (.cells #[v1] 24 (0, 0)) :: L) _ _ _ := hs
      refine RL_nil ?_
      exact ⟨false, hm, hs.subs ⟨rfl, trivial⟩ (.cons _ (.cons_cons _ (.cons _ (.refl _))))⟩
   ·clear hs hm; (try clear w)
    rintro c f252 D254 _ w hf253 hD0 hD hX hs
    replace hM := Marks.cons hM hle hf253 hD0 hD; clear hD0 hD
    rcases hX with ⟨rfl, y242, hm, rfl⟩
    replace hR3 := hR3.le hf253
    replace hW4 := hW4.le hf253
    replace hR30 := hR30.le hf253
    replace hW31 := hW31.le hf253
    replace hB21 := hf253 _ _ hB21
    replace hB26 := hf253 _ _ hB26
    replace hle := hle.trans hf253
    replace hs : St _ _ _ (.blk b33 (.cells #[.int .i64 (y242)] 3 (0, 0)) :: .blk b8 (.cells #[.bool (false)] 4 (0, 0)) :: .blk b6 (.cells #[v1] 24 (0, 0)) :: L) _ _ _ := hs
    unfold law5_DomWalk_k3 at hm
    refine W1_of ?_
    refine W_ret ?_
    obtain rfl := Option.some.inj hm
    refine RtM_of hs hle hM ?_; clear hs; (try clear w); intro w hs
    replace hle := Fz.le.refl f
    refine RtV1 hs rfl (rv_c hs rfl Try.underlying4 rfl (Cell.blk (.tail _ (.head _)) rfl)) ?_
    exact ⟨rfl, ((hs.subL (.cons _ (.cons _ (.cons _ (.refl _))))).weak hle).cw⟩
 ·refine W_region ?_
  refine sy (v := .pointer (some ⟨b6, 0, none⟩)) hs (y_fieldAddr rfl (FO.of (off := 0) Try.underlying24 rfl rfl ti22 (by decide))) ?_; clear hs; (try clear a w); intro a w hs
  refine sy (v := v1) hs (y_ld rfl Try.underlying22 rfl (Cell.blk (.tail _ (.head _)) rfl)) ?_; clear hs; (try clear a w); intro a w hs
  refine sy hs (y_lenW hR3 hW4 rfl Try.underlying22) ?_; clear hs; (try clear a w); intro a w hs
  refine sy hs (y_gtr rfl rfl) ?_; clear hs; (try clear a w); intro a w hs
  refine sy (v := .bool (decide (300 < (p0.Nodes.length : Int)))) hs (y_move rfl) ?_; clear hs; (try clear a w); intro a w hs
  refine St.split hs (t := 13) rfl (fun hg359 hq => ?_) (fun hg359 hq => ?_)
  ·clear hs; have hs := hq; clear hq
   replace hm := oc_t hg359 hm
   refine sno hs ?_; clear hs; (try clear a w); intro a w hs
   refine sno hs ?_; clear hs; (try clear a w); intro a w hs
   refine sno hs ?_; clear hs; (try clear a w); intro a w hs
   refine sy (v := .bool (true)) hs (y_pick rfl rfl) ?_; clear hs; (try clear a w); intro a w hs
   refine RL_nil ?_
   exact ⟨true, hm, hs.sub ⟨rfl, rfl, rfl, trivial⟩⟩
  ·clear hs; have hs := hq; clear hq
   replace hm := oc_f hg359 hm
   refine syg hs (y_ldB rfl Try.underlying24 rfl ti24 (.tail _ (.head _)) rfl) ?_; clear hs; (try clear a w); intro a w hs
   obtain ⟨x360, hx361, hm⟩ := ob hm
   refine syg hs (y_call rfl has12 rfl (dom_Right_ok n (f := f) (a0 := [v1]) ⟨_, rfl, ⟨rw2, hR3, hW4⟩⟩ hx361)) ?_; clear hs; (try clear a w); intro a w hs
   refine syg hs (y_neq rfl rfl) ?_; clear hs; (try clear a w); intro a w hs
   refine sy (v := .bool (decide (x360 ≠ 0))) hs (y_pick rfl rfl) ?_; clear hs; (try clear a w); intro a w hs
   refine RL_nil ?_
   exact ⟨decide (x360 ≠ 0), hm, hs.sub ⟨rfl, rfl, rfl, trivial⟩⟩

end Go.Proofs.Ytekcbgnkikmhpaa
