/-
  Walks and laws of this seat; the base is the text Base.
-/
import Derived.Test.YtekcbgnkikmhpaaL5f
import Derived.Test.YtekcbgnkikmhpaaRows
/-
  Models of functions, and that the functions compute them. Printed by lift.py.
-/
namespace Go.Proofs.Ytekcbgnkikmhpaa
open Go.RowKit Go.Sl

/-! casement/casementlaw5.DomRight -/
def law5_DomRight_k1 (y25 : Bool) : Option Bool :=
  some y25
def law5_DomRight (n : Nat) (p0 : api_Tree) : Option Bool :=
  (bif ((decide (500 < (p0.Nodes.length : Int))) && (decide ((p0.Nodes.length : Int) ≤ 4096))) then (law5_known n).bind fun x9 =>
  some x9 else
  (keep_Copy n p0).bind fun x11 =>
  (dom_Right n x11).bind fun x26 =>
  (ref5_Right n p0).bind fun x28 =>
  (bif (decide (x26 = x28)) then (keep_SameTree n p0 x11).bind fun x31 =>
  (bif x31 then (law5_known n).bind fun x34 =>
  law5_DomRight_k1 x34 else
  law5_DomRight_k1 false) else
  law5_DomRight_k1 false))
theorem law5_DomRight_ok (n : Nat) {f : Fz} {p0 : api_Tree} {a0 : List Value} {res : Bool} (h0 : t_api_Tree.R f a0 p0) (hm : law5_DomRight n p0 = some res) : Gives Try.prog 3 [.agg a0.toArray] f (.bool res) := by
 unfold law5_DomRight at hm
 intro w0 L w hC
 obtain ⟨v1, rfl, ⟨rw2, hR3, hW4⟩⟩ := h0
 refine enter Try.func3 rfl Try.ntmps3 (by simp) hC fun a hs => ?_
 have hle := Fz.le.refl f
 refine W_seq fun K1 hK1 => ?_
 refine W_region ?_
 refine sbox hs rfl ?_; clear hs; (try clear a w); intro b6 a w hs
 replace hs : St _ _ _ (.blk b6 (.cells #[v1] 24 (0, 0)) :: L) _ _ _ := hs
 refine sy (v := .bool (false)) hs (y_assign rfl) ?_; clear hs; (try clear a w); intro a w hs
 refine RL_nil ?_
 refine hK1 _ _ ?_; clear hK1
 refine W_seq fun K2 hK2 => ?_
 refine W_seq fun K3 hK3 => ?_
 refine W_post (fun a w => St 30 w0 f (.blk b6 (.cells #[v1] 24 (0, 0)) :: L) [(1, .pointer (some ⟨b6, 0, none⟩)), (13, .bool (((decide (500 < (p0.Nodes.length : Int))) && (decide ((p0.Nodes.length : Int) ≤ 4096)))))] a w) ?_ ?_
 ·clear hs; intro a w hs
  refine hK3 _ _ ?_; clear hK3
  refine W_cond hs rfl (fun hg8 => ?_) (fun hg8 => ?_)
  ·replace hm := oc_t hg8 hm
   refine W_seq fun K4 hK4 => ?_
   refine W_region ?_
   obtain ⟨x9, hx10, hm⟩ := ob hm
   refine sy hs (y_call rfl has10 rfl (law5_known_ok n (f := f)  hx10)) ?_; clear hs; (try clear a w); intro a w hs
   refine sy (v := .bool (x9)) hs (y_assign rfl) ?_; clear hs; (try clear a w); intro a w hs
   refine RL_nil ?_
   refine hK4 _ _ ?_; clear hK4
   refine W_ret ?_
   obtain rfl := Option.some.inj hm
   refine RtV1 hs rfl (rv_t hs rfl) ?_
   exact ⟨rfl, ((hs.subL (.cons _ (.refl _))).weak hle).cw⟩
  ·replace hm := oc_f hg8 hm
   refine W_skip ?_
   refine hK2 _ _ ?_; clear hK2
   refine W_seq fun K5 hK5 => ?_
   refine W_region ?_
   refine sy hs (y_ldB rfl Try.underlying24 rfl ti24 (.head _) rfl) ?_; clear hs; (try clear a w); intro a w hs
   obtain ⟨x11, hx12, hm⟩ := ob hm
   refine RL_callV hs rfl has11 rfl (keep_Copy_ok n (f := f) (a0 := [v1]) ⟨_, rfl, ⟨rw2, hR3, hW4⟩⟩ hx12) ?_; clear hs; (try clear a w)
   rintro _ f13 _ a w hf14 ⟨r15, rfl, rfl, hq16⟩ hs
   replace hR3 := hR3.le hf14
   replace hW4 := hW4.le hf14
   replace hle := hle.trans hf14
   obtain ⟨v17, rfl, ⟨rw18, hR19, hW20⟩⟩ := hq16
   replace hs : St _ _ _ (.blk b6 (.cells #[v1] 24 (0, 0)) :: L) _ _ _ := hs
   refine RL_alloc hs ti24 (.free rfl) (by decide) ?_; clear hs; (try clear a w); intro b22 a w hs
   replace hs : St _ _ _ (.blk b22 (.cells #[(.slice none 0 0)] 24 (0, 0)) :: .blk b6 (.cells #[v1] 24 (0, 0)) :: L) _ _ _ := hs
   refine RL_storeAll (i := 0) hs rfl rfl rfl ti24 ⟨rfl, rfl⟩ (AllC.arr (r := [v17]) ⟨hR19.one, trivial⟩) (.free rfl) ?_; clear hs; (try clear a w); intro a w hs
   replace hs : St _ _ _ (.blk b22 (.cells #[v17] 24 (0, 0)) :: .blk b6 (.cells #[v1] 24 (0, 0)) :: L) _ _ _ := hs
   refine RL_nil ?_
   refine hK5 _ _ ?_; clear hK5
   refine W_seq fun K6 hK6 => ?_
   refine W_post (fun a w => ∃ (y25 : Bool), law5_DomRight_k1 y25 = some res ∧ St 30 w0 f13 (L) [(2, .bool (y25))] a w) ?_ ?_
   ·clear hs hm
    rintro a w ⟨y25, hm, hs⟩
    replace hs : St _ _ _ (L) _ _ _ := hs
    unfold law5_DomRight_k1 at hm
    refine hK6 _ _ ?_; clear hK6
    refine W_ret ?_
    obtain rfl := Option.some.inj hm
    refine RtV1 hs rfl (rv_t hs rfl) ?_
    exact ⟨rfl, (hs.weak hle).cw⟩
   ·refine W_draw hs mixed (by kernel_rfl) ?_; intro a he
    refine qy he (y_ldB rfl Try.underlying24 rfl ti24 (.head _) rfl) ?_; clear he; (try clear a); intro a he
    obtain ⟨x26, hx27, hm⟩ := ob hm
    refine qy he (y_call rfl has12 rfl (dom_Right_ok n (f := f13) (a0 := [v17]) ⟨_, rfl, ⟨rw18, hR19, hW20⟩⟩ hx27)) ?_; clear he; (try clear a); intro a he
    refine qy he (y_ldB rfl Try.underlying24 rfl ti24 (.tail _ (.head _)) rfl) ?_; clear he; (try clear a); intro a he
    obtain ⟨x28, hx29, hm⟩ := ob hm
    refine qy he (y_call rfl has13 rfl (ref5_Right_ok n (f := f13) (a0 := [v1]) ⟨_, rfl, ⟨rw2, hR3, hW4⟩⟩ hx29)) ?_; clear he; (try clear a); intro a he
    refine qy he (y_eql rfl rfl) ?_; clear he; (try clear a); intro a he
    refine qy (v := .bool (decide (x26 = x28))) he (y_move rfl) ?_; clear he; (try clear a); intro a he
    refine Ev.split he (t := 22) rfl (fun hg30 hq => ?_) (fun hg30 hq => ?_)
    ·clear he; have he := hq; clear hq
     replace hm := oc_t hg30 hm
     refine qyg he (y_ldB rfl Try.underlying24 rfl ti24 (.tail _ (.head _)) rfl) ?_; clear he; (try clear a); intro a he
     refine qyg he (y_ldB rfl Try.underlying24 rfl ti24 (.head _) rfl) ?_; clear he; (try clear a); intro a he
     obtain ⟨x31, hx32, hm⟩ := ob hm
     refine qyg he (y_call rfl has14 rfl (keep_SameTree_ok n (f := f13) (a0 := [v1]) (a1 := [v17]) ⟨_, rfl, ⟨rw2, hR3, hW4⟩⟩ ⟨_, rfl, ⟨rw18, hR19, hW20⟩⟩ hx32)) ?_; clear he; (try clear a); intro a he
     refine qy (v := .bool (x31)) he (y_pick rfl rfl) ?_; clear he; (try clear a); intro a he
     refine qy (v := .bool (x31)) he (y_move rfl) ?_; clear he; (try clear a); intro a he
     refine Ev.split he (t := 27) rfl (fun hg33 hq => ?_) (fun hg33 hq => ?_)
     ·clear he; have he := hq; clear hq
      replace hm := oc_t hg33 hm
      obtain ⟨x34, hx35, hm⟩ := ob hm
      refine qyg he (y_call rfl has10 rfl (law5_known_ok n (f := f13)  hx35)) ?_; clear he; (try clear a); intro a he
      refine qy (v := .bool (x34)) he (y_pick rfl rfl) ?_; clear he; (try clear a); intro a he
      refine qy (v := .bool (x34)) he (y_assign rfl) ?_; clear he; (try clear a); intro a he
      refine QL_nil he ?_; clear he; (try clear hs); (try clear a); intro a w hs
      exact ⟨x34, hm, hs.subs ⟨rfl, trivial⟩ (.cons _ (.cons _ (.refl _)))⟩
     ·clear he; have he := hq; clear hq
      replace hm := oc_f hg33 hm
      refine qno he ?_; clear he; (try clear a); intro a he
      refine qy (v := .bool (false)) he (y_pick rfl rfl) ?_; clear he; (try clear a); intro a he
      refine qy (v := .bool (false)) he (y_assign rfl) ?_; clear he; (try clear a); intro a he
      refine QL_nil he ?_; clear he; (try clear hs); (try clear a); intro a w hs
      exact ⟨false, hm, hs.subs ⟨rfl, trivial⟩ (.cons _ (.cons _ (.refl _)))⟩
    ·clear he; have he := hq; clear hq
     replace hm := oc_f hg30 hm
     refine qno he ?_; clear he; (try clear a); intro a he
     refine qno he ?_; clear he; (try clear a); intro a he
     refine qno he ?_; clear he; (try clear a); intro a he
     refine qy (v := .bool (false)) he (y_pick rfl rfl) ?_; clear he; (try clear a); intro a he
     refine qy (v := .bool (false)) he (y_move rfl) ?_; clear he; (try clear a); intro a he
     refine qno he ?_; clear he; (try clear a); intro a he
     refine qy (v := .bool (false)) he (y_pick rfl rfl) ?_; clear he; (try clear a); intro a he
     refine qy (v := .bool (false)) he (y_assign rfl) ?_; clear he; (try clear a); intro a he
     refine QL_nil he ?_; clear he; (try clear hs); (try clear a); intro a w hs
     exact ⟨false, hm, hs.subs ⟨rfl, trivial⟩ (.cons _ (.cons _ (.refl _)))⟩
 ·refine W_region ?_
  refine sy (v := .pointer (some ⟨b6, 0, none⟩)) hs (y_fieldAddr rfl (FO.of (off := 0) Try.underlying24 rfl rfl ti22 (by decide))) ?_; clear hs; (try clear a w); intro a w hs
  refine sy (v := v1) hs (y_ld rfl Try.underlying22 rfl (Cell.blk (.head _) rfl)) ?_; clear hs; (try clear a w); intro a w hs
  refine sy hs (y_lenW hR3 hW4 rfl Try.underlying22) ?_; clear hs; (try clear a w); intro a w hs
  refine sy hs (y_gtr rfl rfl) ?_; clear hs; (try clear a w); intro a w hs
  refine sy (v := .bool (decide (500 < (p0.Nodes.length : Int)))) hs (y_move rfl) ?_; clear hs; (try clear a w); intro a w hs
  refine St.split hs (t := 8) rfl (fun hg36 hq => ?_) (fun hg36 hq => ?_)
  ·clear hs; have hs := hq; clear hq
   refine syg (v := .pointer (some ⟨b6, 0, none⟩)) hs (y_fieldAddr rfl (FO.of (off := 0) Try.underlying24 rfl rfl ti22 (by decide))) ?_; clear hs; (try clear a w); intro a w hs
   refine syg (v := v1) hs (y_ld rfl Try.underlying22 rfl (Cell.blk (.head _) rfl)) ?_; clear hs; (try clear a w); intro a w hs
   refine syg hs (y_lenW hR3 hW4 rfl Try.underlying22) ?_; clear hs; (try clear a w); intro a w hs
   refine syg hs (y_leq rfl rfl) ?_; clear hs; (try clear a w); intro a w hs
   refine sy (v := .bool (decide ((p0.Nodes.length : Int) ≤ 4096))) hs (y_pick rfl rfl) ?_; clear hs; (try clear a w); intro a w hs
   refine RL_nil ?_
   exact hs.sub ⟨rfl, (lkB (((and_t hg36).trans rfl)) rfl), trivial⟩
  ·clear hs; have hs := hq; clear hq
   refine sno hs ?_; clear hs; (try clear a w); intro a w hs
   refine sno hs ?_; clear hs; (try clear a w); intro a w hs
   refine sno hs ?_; clear hs; (try clear a w); intro a w hs
   refine sno hs ?_; clear hs; (try clear a w); intro a w hs
   refine sy (v := .bool (false)) hs (y_pick rfl rfl) ?_; clear hs; (try clear a w); intro a w hs
   refine RL_nil ?_
   exact hs.sub ⟨rfl, (lkB (((and_f hg36).trans rfl)) rfl), trivial⟩

/-! casement/casementlaw5.DomMakes -/
def law5_DomMakes_k1 (y62 : Bool) : Option Bool :=
  some y62
def law5_DomMakes (n : Nat) (p0 : dom_Part) : Option Bool :=
  (law5_deep n p0 0).bind fun x13 =>
  (bif (decide (2000 ≤ x13)) then (law5_known n).bind fun x16 =>
  some x16 else
  (dom_Make n p0).bind fun x18 =>
  (law5_plain n p0).bind fun x32 =>
  (ref5_Make n x32).bind fun x48 =>
  (bif (decide (x18.2 = x48.2)) then (keep_SameTree n x18.1 x48.1).bind fun x64 =>
  (bif x64 then (law5_known n).bind fun x67 =>
  law5_DomMakes_k1 x67 else
  law5_DomMakes_k1 false) else
  law5_DomMakes_k1 false))
theorem law5_DomMakes_ok (n : Nat) {f : Fz} {p0 : dom_Part} {a0 : List Value} {res : Bool} (h0 : t_dom_Part.R f a0 p0) (hm : law5_DomMakes n p0 = some res) : Gives Try.prog 4 [.agg a0.toArray] f (.bool res) := by
 unfold law5_DomMakes at hm
 intro w0 L w hC
 obtain ⟨v1, v6, rfl, ⟨rw2, hR3, hW4⟩, ⟨rw7, hR8, hW9⟩⟩ := R_dom_Part.ex h0
 refine enter Try.func4 rfl Try.ntmps4 (by simp) hC fun a hs => ?_
 have hle := Fz.le.refl f
 refine W_seq fun K1 hK1 => ?_
 refine W_region ?_
 refine sbox hs rfl ?_; clear hs; (try clear a w); intro b11 a w hs
 replace hs : St _ _ _ (.blk b11 (.cells #[.string (p0.Name), .string (p0.Text), v1, v6] 35 (0, 0)) :: L) _ _ _ := hs
 refine sy (v := .bool (false)) hs (y_assign rfl) ?_; clear hs; (try clear a w); intro a w hs
 refine RL_nil ?_
 refine hK1 _ _ ?_; clear hK1
 refine W_seq fun K2 hK2 => ?_
 refine W_seq fun K3 hK3 => ?_
 refine W_region ?_
 refine sy hs (y_ldB rfl Try.underlying35 rfl ti35 (.head _) rfl) ?_; clear hs; (try clear a w); intro a w hs
 obtain ⟨x13, hx14, hm⟩ := ob hm
 refine sy hs (y_call rfl has15 rfl (law5_deep_ok n (f := f) (a0 := [.string (p0.Name), .string (p0.Text), v1, v6]) (R_dom_Part.of (x := p0) ⟨rw2, hR3, hW4⟩ ⟨rw7, hR8, hW9⟩) hx14)) ?_; clear hs; (try clear a w); intro a w hs
 refine sy hs (y_geq rfl rfl) ?_; clear hs; (try clear a w); intro a w hs
 refine RL_nil ?_
 refine hK3 _ _ ?_; clear hK3
 refine W_cond hs rfl (fun hg15 => ?_) (fun hg15 => ?_)
 ·replace hm := oc_t hg15 hm
  refine W_seq fun K4 hK4 => ?_
  refine W_region ?_
  obtain ⟨x16, hx17, hm⟩ := ob hm
  refine sy hs (y_call rfl has10 rfl (law5_known_ok n (f := f)  hx17)) ?_; clear hs; (try clear a w); intro a w hs
  refine sy (v := .bool (x16)) hs (y_assign rfl) ?_; clear hs; (try clear a w); intro a w hs
  refine RL_nil ?_
  refine hK4 _ _ ?_; clear hK4
  refine W_ret ?_
  obtain rfl := Option.some.inj hm
  refine RtV1 hs rfl (rv_t hs rfl) ?_
  exact ⟨rfl, ((hs.subL (.cons _ (.refl _))).weak hle).cw⟩
 ·replace hm := oc_f hg15 hm
  refine W_skip ?_
  refine hK2 _ _ ?_; clear hK2
  refine W_seq fun K5 hK5 => ?_
  refine W_region ?_
  refine sy hs (y_ldB rfl Try.underlying35 rfl ti35 (.head _) rfl) ?_; clear hs; (try clear a w); intro a w hs
  obtain ⟨x18, hx19, hm⟩ := ob hm
  refine RL_callV hs rfl has16 rfl (dom_Make_ok n (f := f) (a0 := [.string (p0.Name), .string (p0.Text), v1, v6]) (R_dom_Part.of (x := p0) ⟨rw2, hR3, hW4⟩ ⟨rw7, hR8, hW9⟩) hx19) ?_; clear hs; (try clear a w)
  rintro _ f20 _ a w hf21 ⟨r22, rfl, rfl, hq23⟩ hs
  replace hR3 := hR3.le hf21
  replace hW4 := hW4.le hf21
  replace hR8 := hR8.le hf21
  replace hW9 := hW9.le hf21
  replace hle := hle.trans hf21
  obtain ⟨v24, rfl, ⟨rw25, hR26, hW27⟩⟩ := hq23
  replace hs : St _ _ _ (.blk b11 (.cells #[.string (p0.Name), .string (p0.Text), v1, v6] 35 (0, 0)) :: L) _ _ _ := hs
  refine sy (v := .tuple #[.agg #[v24], .int .i64 (x18.2)]) hs (y_move rfl) ?_; clear hs; (try clear a w); intro a w hs
  refine sy (v := .agg #[v24]) hs (y_extract rfl rfl) ?_; clear hs; (try clear a w); intro a w hs
  refine sy (v := .int .i64 (x18.2)) hs (y_extract rfl rfl) ?_; clear hs; (try clear a w); intro a w hs
  refine RL_alloc hs ti24 (.free rfl) (by decide) ?_; clear hs; (try clear a w); intro b29 a w hs
  replace hs : St _ _ _ (.blk b29 (.cells #[(.slice none 0 0)] 24 (0, 0)) :: .blk b11 (.cells #[.string (p0.Name), .string (p0.Text), v1, v6] 35 (0, 0)) :: L) _ _ _ := hs
  refine RL_storeAll (i := 0) hs rfl rfl rfl ti24 ⟨rfl, rfl⟩ (AllC.arr (r := [v24]) ⟨hR26.one, trivial⟩) (.free rfl) ?_; clear hs; (try clear a w); intro a w hs
  replace hs : St _ _ _ (.blk b29 (.cells #[v24] 24 (0, 0)) :: .blk b11 (.cells #[.string (p0.Name), .string (p0.Text), v1, v6] 35 (0, 0)) :: L) _ _ _ := hs
  refine sy (v := .int .i64 (x18.2)) hs (y_assign rfl) ?_; clear hs; (try clear a w); intro a w hs
  refine RL_nil ?_
  refine hK5 _ _ ?_; clear hK5
  refine W_seq fun K6 hK6 => ?_
  refine W_region ?_
  refine sy hs (y_ldB rfl Try.underlying35 rfl ti35 (.tail _ (.head _)) rfl) ?_; clear hs; (try clear a w); intro a w hs
  obtain ⟨x32, hx33, hm⟩ := ob hm
  refine RL_callV hs rfl has18 rfl (law5_plain_ok n (f := f20) (a0 := [.string (p0.Name), .string (p0.Text), v1, v6]) (R_dom_Part.of (x := p0) ⟨rw2, hR3, hW4⟩ ⟨rw7, hR8, hW9⟩) hx33) ?_; clear hs; (try clear a w)
  rintro _ f34 _ a w hf35 ⟨r36, rfl, rfl, hq37⟩ hs
  replace hR3 := hR3.le hf35
  replace hW4 := hW4.le hf35
  replace hR8 := hR8.le hf35
  replace hW9 := hW9.le hf35
  replace hR26 := hR26.le hf35
  replace hW27 := hW27.le hf35
  replace hle := hle.trans hf35
  obtain ⟨v38, v43, rfl, ⟨rw39, hR40, hW41⟩, ⟨rw44, hR45, hW46⟩⟩ := R_ref5_Part.ex hq37
  replace hs : St _ _ _ (.blk b29 (.cells #[v24] 24 (0, 0)) :: .blk b11 (.cells #[.string (p0.Name), .string (p0.Text), v1, v6] 35 (0, 0)) :: L) _ _ _ := hs
  obtain ⟨x48, hx49, hm⟩ := ob hm
  refine RL_callV hs rfl has17 rfl (ref5_Make_ok n (f := f34) (a0 := [.string (x32.Name), .string (x32.Text), v38, v43]) (R_ref5_Part.of (x := x32) ⟨rw39, hR40, hW41⟩ ⟨rw44, hR45, hW46⟩) hx49) ?_; clear hs; (try clear a w)
  rintro _ f50 _ a w hf51 ⟨r52, rfl, rfl, hq53⟩ hs
  replace hR3 := hR3.le hf51
  replace hW4 := hW4.le hf51
  replace hR8 := hR8.le hf51
  replace hW9 := hW9.le hf51
  replace hR26 := hR26.le hf51
  replace hW27 := hW27.le hf51
  replace hR40 := hR40.le hf51
  replace hW41 := hW41.le hf51
  replace hR45 := hR45.le hf51
  replace hW46 := hW46.le hf51
  replace hle := hle.trans hf51
  obtain ⟨v54, rfl, ⟨rw55, hR56, hW57⟩⟩ := hq53
  replace hs : St _ _ _ (.blk b29 (.cells #[v24] 24 (0, 0)) :: .blk b11 (.cells #[.string (p0.Name), .string (p0.Text), v1, v6] 35 (0, 0)) :: L) _ _ _ := hs
  refine sy (v := .tuple #[.agg #[v54], .int .i64 (x48.2)]) hs (y_move rfl) ?_; clear hs; (try clear a w); intro a w hs
  refine sy (v := .agg #[v54]) hs (y_extract rfl rfl) ?_; clear hs; (try clear a w); intro a w hs
  refine sy (v := .int .i64 (x48.2)) hs (y_extract rfl rfl) ?_; clear hs; (try clear a w); intro a w hs
  refine RL_alloc hs ti24 (.free rfl) (by decide) ?_; clear hs; (try clear a w); intro b59 a w hs
  replace hs : St _ _ _ (.blk b59 (.cells #[(.slice none 0 0)] 24 (0, 0)) :: .blk b29 (.cells #[v24] 24 (0, 0)) :: .blk b11 (.cells #[.string (p0.Name), .string (p0.Text), v1, v6] 35 (0, 0)) :: L) _ _ _ := hs
  refine RL_storeAll (i := 0) hs rfl rfl rfl ti24 ⟨rfl, rfl⟩ (AllC.arr (r := [v54]) ⟨hR56.one, trivial⟩) (.free rfl) ?_; clear hs; (try clear a w); intro a w hs
  replace hs : St _ _ _ (.blk b59 (.cells #[v54] 24 (0, 0)) :: .blk b29 (.cells #[v24] 24 (0, 0)) :: .blk b11 (.cells #[.string (p0.Name), .string (p0.Text), v1, v6] 35 (0, 0)) :: L) _ _ _ := hs
  refine sy (v := .int .i64 (x48.2)) hs (y_assign rfl) ?_; clear hs; (try clear a w); intro a w hs
  refine RL_nil ?_
  refine hK6 _ _ ?_; clear hK6
  refine W_seq fun K7 hK7 => ?_
  refine W_post (fun a w => ∃ (y62 : Bool), law5_DomMakes_k1 y62 = some res ∧ St 33 w0 f50 (L) [(2, .bool (y62))] a w) ?_ ?_
  ·clear hs hm
   rintro a w ⟨y62, hm, hs⟩
   replace hs : St _ _ _ (L) _ _ _ := hs
   unfold law5_DomMakes_k1 at hm
   refine hK7 _ _ ?_; clear hK7
   refine W_ret ?_
   obtain rfl := Option.some.inj hm
   refine RtV1 hs rfl (rv_t hs rfl) ?_
   exact ⟨rfl, (hs.weak hle).cw⟩
  ·refine W_region ?_
   refine sy (v := .int .i64 (x18.2)) hs (y_move rfl) ?_; clear hs; (try clear a w); intro a w hs
   refine sy (v := .int .i64 (x48.2)) hs (y_move rfl) ?_; clear hs; (try clear a w); intro a w hs
   refine sy hs (y_eql rfl rfl) ?_; clear hs; (try clear a w); intro a w hs
   refine sy (v := .bool (decide (x18.2 = x48.2))) hs (y_move rfl) ?_; clear hs; (try clear a w); intro a w hs
   refine St.split hs (t := 25) rfl (fun hg63 hq => ?_) (fun hg63 hq => ?_)
   ·clear hs; have hs := hq; clear hq
    replace hm := oc_t hg63 hm
    refine syg hs (y_ldB rfl Try.underlying24 rfl ti24 (.tail _ (.head _)) rfl) ?_; clear hs; (try clear a w); intro a w hs
    refine syg hs (y_ldB rfl Try.underlying24 rfl ti24 (.head _) rfl) ?_; clear hs; (try clear a w); intro a w hs
    obtain ⟨x64, hx65, hm⟩ := ob hm
    refine syg hs (y_call rfl has14 rfl (keep_SameTree_ok n (f := f50) (a0 := [v24]) (a1 := [v54]) ⟨_, rfl, ⟨rw25, hR26, hW27⟩⟩ ⟨_, rfl, ⟨rw55, hR56, hW57⟩⟩ hx65)) ?_; clear hs; (try clear a w); intro a w hs
    refine sy (v := .bool (x64)) hs (y_pick rfl rfl) ?_; clear hs; (try clear a w); intro a w hs
    refine sy (v := .bool (x64)) hs (y_move rfl) ?_; clear hs; (try clear a w); intro a w hs
    refine St.split hs (t := 30) rfl (fun hg66 hq => ?_) (fun hg66 hq => ?_)
    ·clear hs; have hs := hq; clear hq
     replace hm := oc_t hg66 hm
     obtain ⟨x67, hx68, hm⟩ := ob hm
     refine syg hs (y_call rfl has10 rfl (law5_known_ok n (f := f50)  hx68)) ?_; clear hs; (try clear a w); intro a w hs
     refine sy (v := .bool (x67)) hs (y_pick rfl rfl) ?_; clear hs; (try clear a w); intro a w hs
     refine sy (v := .bool (x67)) hs (y_assign rfl) ?_; clear hs; (try clear a w); intro a w hs
     refine RL_nil ?_
     exact ⟨x67, hm, hs.subs ⟨rfl, trivial⟩ (.cons _ (.cons _ (.cons _ (.refl _))))⟩
    ·clear hs; have hs := hq; clear hq
     replace hm := oc_f hg66 hm
     refine sno hs ?_; clear hs; (try clear a w); intro a w hs
     refine sy (v := .bool (false)) hs (y_pick rfl rfl) ?_; clear hs; (try clear a w); intro a w hs
     refine sy (v := .bool (false)) hs (y_assign rfl) ?_; clear hs; (try clear a w); intro a w hs
     refine RL_nil ?_
     exact ⟨false, hm, hs.subs ⟨rfl, trivial⟩ (.cons _ (.cons _ (.cons _ (.refl _))))⟩
   ·clear hs; have hs := hq; clear hq
    replace hm := oc_f hg63 hm
    refine sno hs ?_; clear hs; (try clear a w); intro a w hs
    refine sno hs ?_; clear hs; (try clear a w); intro a w hs
    refine sno hs ?_; clear hs; (try clear a w); intro a w hs
    refine sy (v := .bool (false)) hs (y_pick rfl rfl) ?_; clear hs; (try clear a w); intro a w hs
    refine sy (v := .bool (false)) hs (y_move rfl) ?_; clear hs; (try clear a w); intro a w hs
    refine sno hs ?_; clear hs; (try clear a w); intro a w hs
    refine sy (v := .bool (false)) hs (y_pick rfl rfl) ?_; clear hs; (try clear a w); intro a w hs
    refine sy (v := .bool (false)) hs (y_assign rfl) ?_; clear hs; (try clear a w); intro a w hs
    refine RL_nil ?_
    exact ⟨false, hm, hs.subs ⟨rfl, trivial⟩ (.cons _ (.cons _ (.cons _ (.refl _))))⟩

/-! casement/casementlaw5.DomBack -/
def law5_DomBack_k3 (y44 : Bool) : Option Bool :=
  some y44
def law5_DomBack_k4 (y50 : Bool) : Option Bool :=
  some y50
def law5_DomBack_k2 (n : Nat) (p1 : dom_Part) : Option Bool :=
  (dom_Make n p1).bind fun x29 =>
  (bif (decide (x29.2 ≠ 0)) then (bif (decide ((x29.1.Nodes.length : Int) = 0)) then (law5_known n).bind fun x46 =>
  law5_DomBack_k3 x46 else
  law5_DomBack_k3 false) else
  (dom_Right n x29.1).bind fun x52 =>
  (bif (decide (x52 = 0)) then (dom_Parts n x29.1).bind fun x55 =>
  (law5_clean n p1).bind fun x79 =>
  (law5_same n x55 x79).bind fun x107 =>
  (bif x107 then (law5_known n).bind fun x110 =>
  law5_DomBack_k4 x110 else
  law5_DomBack_k4 false) else
  law5_DomBack_k4 false))
def law5_DomBack_k5 (n : Nat) (p1 : dom_Part) (y143 : Bool) : Option Bool :=
  (bif y143 then some false else
  law5_DomBack_k2 n p1)
def law5_DomBack_k1 (n : Nat) (p0 : api_Tree) (p1 : dom_Part) (y20 : Bool) : Option Bool :=
  (bif y20 then (law5_known n).bind fun x22 =>
  some x22 else
  (dom_Right n p0).bind fun x24 =>
  (bif (decide (x24 = 0)) then (dom_Parts n p0).bind fun x113 =>
  (dom_Make n x113).bind fun x129 =>
  (bif (decide (x129.2 ≠ 0)) then law5_DomBack_k5 n p1 true else
  (keep_SameTree n p0 x129.1).bind fun x146 =>
  law5_DomBack_k5 n p1 (!x146)) else
  law5_DomBack_k2 n p1))
def law5_DomBack (n : Nat) (p0 : api_Tree) (p1 : dom_Part) : Option Bool :=
  (bif (decide (300 < (p0.Nodes.length : Int))) then law5_DomBack_k1 n p0 p1 true else
  (law5_deep n p1 0).bind fun x149 =>
  law5_DomBack_k1 n p0 p1 (decide (2000 ≤ x149)))
theorem law5_DomBack_ok (n : Nat) {f : Fz} {p0 : api_Tree} {a0 : List Value} {p1 : dom_Part} {a1 : List Value} {res : Bool} (h0 : t_api_Tree.R f a0 p0) (h1 : t_dom_Part.R f a1 p1) (hm : law5_DomBack n p0 p1 = some res) : Gives Try.prog 5 [.agg a0.toArray, .agg a1.toArray] f (.bool res) := by
 unfold law5_DomBack at hm
 intro w0 L w hC
 obtain ⟨v1, rfl, ⟨rw2, hR3, hW4⟩⟩ := h0
 obtain ⟨v6, v11, rfl, ⟨rw7, hR8, hW9⟩, ⟨rw12, hR13, hW14⟩⟩ := R_dom_Part.ex h1
 refine enter Try.func5 rfl Try.ntmps5 (by simp) hC fun a hs => ?_
 have hle := Fz.le.refl f
 refine W_seq fun K1 hK1 => ?_
 refine W_region ?_
 refine sbox hs rfl ?_; clear hs; (try clear a w); intro b16 a w hs
 replace hs : St _ _ _ (.blk b16 (.cells #[v1] 24 (0, 0)) :: L) _ _ _ := hs
 refine sbox hs rfl ?_; clear hs; (try clear a w); intro b18 a w hs
 replace hs : St _ _ _ (.blk b18 (.cells #[.string (p1.Name), .string (p1.Text), v6, v11] 35 (0, 0)) :: .blk b16 (.cells #[v1] 24 (0, 0)) :: L) _ _ _ := hs
 refine sy (v := .bool (false)) hs (y_assign rfl) ?_; clear hs; (try clear a w); intro a w hs
 refine RL_nil ?_
 refine hK1 _ _ ?_; clear hK1
 refine W_seq fun K2 hK2 => ?_
 refine W_seq fun K3 hK3 => ?_
 refine W_post (fun a w => ∃ (y20 : Bool), law5_DomBack_k1 n p0 p1 y20 = some res ∧ St 63 w0 f (.blk b18 (.cells #[.string (p1.Name), .string (p1.Text), v6, v11] 35 (0, 0)) :: .blk b16 (.cells #[v1] 24 (0, 0)) :: L) [(2, .pointer (some ⟨b16, 0, none⟩)), (3, .pointer (some ⟨b18, 0, none⟩)), (17, .bool (y20))] a w) ?_ ?_
 ·clear hs hm
  rintro a w ⟨y20, hm, hs⟩
  replace hs : St _ _ _ (.blk b18 (.cells #[.string (p1.Name), .string (p1.Text), v6, v11] 35 (0, 0)) :: .blk b16 (.cells #[v1] 24 (0, 0)) :: L) _ _ _ := hs
  unfold law5_DomBack_k1 at hm
  refine hK3 _ _ ?_; clear hK3
  refine W_cond hs rfl (fun hg21 => ?_) (fun hg21 => ?_)
  ·replace hm := oc_t hg21 hm
   refine W_seq fun K4 hK4 => ?_
   refine W_region ?_
   obtain ⟨x22, hx23, hm⟩ := ob hm
   refine sy hs (y_call rfl has10 rfl (law5_known_ok n (f := f)  hx23)) ?_; clear hs; (try clear a w); intro a w hs
   refine sy (v := .bool (x22)) hs (y_assign rfl) ?_; clear hs; (try clear a w); intro a w hs
   refine RL_nil ?_
   refine hK4 _ _ ?_; clear hK4
   refine W_ret ?_
   obtain rfl := Option.some.inj hm
   refine RtV1 hs rfl (rv_t hs rfl) ?_
   exact ⟨rfl, ((hs.subL (.cons _ (.cons _ (.refl _)))).weak hle).cw⟩
  ·replace hm := oc_f hg21 hm
   refine W_skip ?_
   refine hK2 _ _ ?_; clear hK2
   refine W_seq fun K5 hK5 => ?_
   refine W_seq fun K6 hK6 => ?_
   refine W_region ?_
   refine sy hs (y_ldB rfl Try.underlying24 rfl ti24 (.tail _ (.head _)) rfl) ?_; clear hs; (try clear a w); intro a w hs
   obtain ⟨x24, hx25, hm⟩ := ob hm
   refine sy hs (y_call rfl has12 rfl (dom_Right_ok n (f := f) (a0 := [v1]) ⟨_, rfl, ⟨rw2, hR3, hW4⟩⟩ hx25)) ?_; clear hs; (try clear a w); intro a w hs
   refine sy hs (y_eql rfl rfl) ?_; clear hs; (try clear a w); intro a w hs
   refine RL_nil ?_
   refine hK6 _ _ ?_; clear hK6
   have hbase28 := Fz.le.refl f
   refine W_post (fun a w => ∃ (f26 : Fz), Fz.le f f26 ∧ law5_DomBack_k2 n p1 = some res ∧ St 63 w0 f26 (.blk b18 (.cells #[.string (p1.Name), .string (p1.Text), v6, v11] 35 (0, 0)) :: L) [(3, .pointer (some ⟨b18, 0, none⟩))] a w) ?_ ?_
   ·clear hs hm
    clear hbase28
    rintro a w ⟨f26, hl27, hm, hs⟩
    replace hR3 := hR3.le hl27
    replace hW4 := hW4.le hl27
    replace hR8 := hR8.le hl27
    replace hW9 := hW9.le hl27
    replace hR13 := hR13.le hl27
    replace hW14 := hW14.le hl27
    replace hle := hle.trans hl27
    replace hs : St _ _ _ (.blk b18 (.cells #[.string (p1.Name), .string (p1.Text), v6, v11] 35 (0, 0)) :: L) _ _ _ := hs
    unfold law5_DomBack_k2 at hm
    refine hK5 _ _ ?_; clear hK5
    refine W_seq fun K7 hK7 => ?_
    refine W_region ?_
    refine sy hs (y_ldB rfl Try.underlying35 rfl ti35 (.head _) rfl) ?_; clear hs; (try clear a w); intro a w hs
    obtain ⟨x29, hx30, hm⟩ := ob hm
    refine RL_callV hs rfl has16 rfl (dom_Make_ok n (f := f26) (a0 := [.string (p1.Name), .string (p1.Text), v6, v11]) (R_dom_Part.of (x := p1) ⟨rw7, hR8, hW9⟩ ⟨rw12, hR13, hW14⟩) hx30) ?_; clear hs; (try clear a w)
    rintro _ f31 _ a w hf32 ⟨r33, rfl, rfl, hq34⟩ hs
    replace hR3 := hR3.le hf32
    replace hW4 := hW4.le hf32
    replace hR8 := hR8.le hf32
    replace hW9 := hW9.le hf32
    replace hR13 := hR13.le hf32
    replace hW14 := hW14.le hf32
    replace hle := hle.trans hf32
    obtain ⟨v35, rfl, ⟨rw36, hR37, hW38⟩⟩ := hq34
    replace hs : St _ _ _ (.blk b18 (.cells #[.string (p1.Name), .string (p1.Text), v6, v11] 35 (0, 0)) :: L) _ _ _ := hs
    refine sy (v := .tuple #[.agg #[v35], .int .i64 (x29.2)]) hs (y_move rfl) ?_; clear hs; (try clear a w); intro a w hs
    refine sy (v := .agg #[v35]) hs (y_extract rfl rfl) ?_; clear hs; (try clear a w); intro a w hs
    refine sy (v := .int .i64 (x29.2)) hs (y_extract rfl rfl) ?_; clear hs; (try clear a w); intro a w hs
    refine RL_alloc hs ti24 (.free rfl) (by decide) ?_; clear hs; (try clear a w); intro b40 a w hs
    replace hs : St _ _ _ (.blk b40 (.cells #[(.slice none 0 0)] 24 (0, 0)) :: .blk b18 (.cells #[.string (p1.Name), .string (p1.Text), v6, v11] 35 (0, 0)) :: L) _ _ _ := hs
    refine RL_storeAll (i := 0) hs rfl rfl rfl ti24 ⟨rfl, rfl⟩ (AllC.arr (r := [v35]) ⟨hR37.one, trivial⟩) (.free rfl) ?_; clear hs; (try clear a w); intro a w hs
    replace hs : St _ _ _ (.blk b40 (.cells #[v35] 24 (0, 0)) :: .blk b18 (.cells #[.string (p1.Name), .string (p1.Text), v6, v11] 35 (0, 0)) :: L) _ _ _ := hs
    refine sy (v := .int .i64 (x29.2)) hs (y_assign rfl) ?_; clear hs; (try clear a w); intro a w hs
    refine RL_nil ?_
    refine hK7 _ _ ?_; clear hK7
    refine W_seq fun K8 hK8 => ?_
    refine W_seq fun K9 hK9 => ?_
    refine W_region ?_
    refine sy (v := .int .i64 (x29.2)) hs (y_move rfl) ?_; clear hs; (try clear a w); intro a w hs
    refine sy hs (y_neq rfl rfl) ?_; clear hs; (try clear a w); intro a w hs
    refine RL_nil ?_
    refine hK9 _ _ ?_; clear hK9
    refine W_cond hs rfl (fun hg43 => ?_) (fun hg43 => ?_)
    ·replace hm := oc_t hg43 hm
     refine W_seq fun K10 hK10 => ?_
     refine W_post (fun a w => ∃ (y44 : Bool), law5_DomBack_k3 y44 = some res ∧ St 63 w0 f31 (L) [(4, .bool (y44))] a w) ?_ ?_
     ·clear hs hm
      rintro a w ⟨y44, hm, hs⟩
      replace hs : St _ _ _ (L) _ _ _ := hs
      unfold law5_DomBack_k3 at hm
      refine hK10 _ _ ?_; clear hK10
      refine W_ret ?_
      obtain rfl := Option.some.inj hm
      refine RtV1 hs rfl (rv_t hs rfl) ?_
      exact ⟨rfl, (hs.weak hle).cw⟩
     ·refine W_region ?_
      refine sy (v := .pointer (some ⟨b40, 0, none⟩)) hs (y_fieldAddr rfl (FO.of (off := 0) Try.underlying24 rfl rfl ti22 (by decide))) ?_; clear hs; (try clear a w); intro a w hs
      refine sy (v := v35) hs (y_ld rfl Try.underlying22 rfl (Cell.blk (.head _) rfl)) ?_; clear hs; (try clear a w); intro a w hs
      refine sy hs (y_lenW hR37 hW38 rfl Try.underlying22) ?_; clear hs; (try clear a w); intro a w hs
      refine sy hs (y_eql rfl rfl) ?_; clear hs; (try clear a w); intro a w hs
      refine sy (v := .bool (decide ((x29.1.Nodes.length : Int) = 0))) hs (y_move rfl) ?_; clear hs; (try clear a w); intro a w hs
      refine St.split hs (t := 47) rfl (fun hg45 hq => ?_) (fun hg45 hq => ?_)
      ·clear hs; have hs := hq; clear hq
       replace hm := oc_t hg45 hm
       obtain ⟨x46, hx47, hm⟩ := ob hm
       refine syg hs (y_call rfl has10 rfl (law5_known_ok n (f := f31)  hx47)) ?_; clear hs; (try clear a w); intro a w hs
       refine sy (v := .bool (x46)) hs (y_pick rfl rfl) ?_; clear hs; (try clear a w); intro a w hs
       refine sy (v := .bool (x46)) hs (y_assign rfl) ?_; clear hs; (try clear a w); intro a w hs
       refine RL_nil ?_
       exact ⟨x46, hm, hs.subs ⟨rfl, trivial⟩ (.cons _ (.cons _ (.refl _)))⟩
      ·clear hs; have hs := hq; clear hq
       replace hm := oc_f hg45 hm
       refine sno hs ?_; clear hs; (try clear a w); intro a w hs
       refine sy (v := .bool (false)) hs (y_pick rfl rfl) ?_; clear hs; (try clear a w); intro a w hs
       refine sy (v := .bool (false)) hs (y_assign rfl) ?_; clear hs; (try clear a w); intro a w hs
       refine RL_nil ?_
       exact ⟨false, hm, hs.subs ⟨rfl, trivial⟩ (.cons _ (.cons _ (.refl _)))⟩
    ·replace hm := oc_f hg43 hm
     refine W_skip ?_
     refine hK8 _ _ ?_; clear hK8
     refine W_seq fun K11 hK11 => ?_
     have hbase51 := Fz.le.refl f31
     refine W_post (fun a w => ∃ (f48 : Fz) (y50 : Bool), Fz.le f31 f48 ∧ law5_DomBack_k4 y50 = some res ∧ St 63 w0 f48 (L) [(4, .bool (y50))] a w) ?_ ?_
     ·clear hs hm
      clear hbase51
      rintro a w ⟨f48, y50, hl49, hm, hs⟩
      replace hR3 := hR3.le hl49
      replace hW4 := hW4.le hl49
      replace hR8 := hR8.le hl49
      replace hW9 := hW9.le hl49
      replace hR13 := hR13.le hl49
      replace hW14 := hW14.le hl49
      replace hR37 := hR37.le hl49
      replace hW38 := hW38.le hl49
      replace hle := hle.trans hl49
      replace hs : St _ _ _ (L) _ _ _ := hs
      unfold law5_DomBack_k4 at hm
      refine hK11 _ _ ?_; clear hK11
      refine W_ret ?_
      obtain rfl := Option.some.inj hm
      refine RtV1 hs rfl (rv_t hs rfl) ?_
      exact ⟨rfl, (hs.weak hle).cw⟩
     ·have hsD := hs.subL (L' := .blk b40 (.cells #[v35] 24 (0, 0)) :: .blk b18 (.cells #[.string (p1.Name), .string (p1.Text), v6, v11] 35 (0, 0)) :: []) (.cons_cons _ (.cons_cons _ (List.nil_sublist _)))
      refine T_start hs (.blk b40 (.cells #[v35] 24 (0, 0)) :: .blk b18 (.cells #[.string (p1.Name), .string (p1.Text), v6, v11] 35 (0, 0)) :: []) [] (.look 0 (.look 1 (.look 2 (.look 3 (.look 4 (.look 6 (.any [5] (fun _ => .any [7] (fun _ => .any [8] (fun _ => .look 9 (.look 10 (.any [11] (fun _ => .look 12 (.look 13 (.done))))))))))))))) mixed (by kernel_rfl) ?_; clear hs; (try clear a w); intro a he
      refine uy 0 he rfl (y_ldB rfl Try.underlying24 rfl ti24 (.head _) rfl) ?_; clear he; (try clear a); intro a he
      obtain ⟨x52, hx53, hm⟩ := ob hm
      refine ucall 1 he rfl rfl has12 rfl (fun f9 L9 w9 hfc _ hw9 => (dom_Right_ok n (f := f9) (a0 := [v35]) ⟨_, rfl, ⟨rw36, hR37.le hfc, hW38.le hfc⟩⟩ hx53) w0 L9 w9 hw9) ?_; clear he; (try clear a); intro a he
      refine uy 2 he rfl (y_eql rfl rfl) ?_; clear he; (try clear a); intro a he
      refine uy (v := .bool (decide (x52 = 0))) 3 he rfl (y_move rfl) ?_; clear he; (try clear a); intro a he
      refine Ev.split he (t := 53) rfl (fun hg54 hq => ?_) (fun hg54 hq => ?_)
      ·clear he; have he := hq; clear hq
       replace hm := oc_t hg54 hm
       refine uyg 4 he rfl (y_ldB rfl Try.underlying24 rfl ti24 (.head _) rfl) ?_; clear he; (try clear a); intro a he
       refine uyg 6 he rfl (y_ldB rfl Try.underlying35 rfl ti35 (.tail _ (.head _)) rfl) ?_; clear he; (try clear a); intro a he
       refine T_any1 he rfl ?_; clear he; (try clear a); intro a w hs
       obtain ⟨x55, hx56, hm⟩ := ob hm
       refine RL_callVg hs rfl has19 rfl (dom_Parts_ok n (f := f31) (a0 := [v35]) ⟨_, rfl, ⟨rw36, hR37, hW38⟩⟩ hx56) ?_; clear hs; (try clear a w)
       rintro _ f57 _ a w hf58 ⟨r59, rfl, rfl, hq60⟩ hs
       have hR61 := hR3.le hf58
       have hW62 := hW4.le hf58
       have hR63 := hR8.le hf58
       have hW64 := hW9.le hf58
       have hR65 := hR13.le hf58
       have hW66 := hW14.le hf58
       have hR67 := hR37.le hf58
       have hW68 := hW38.le hf58
       replace hle := hle.trans hf58
       replace hbase51 := hbase51.trans hf58
       obtain ⟨v69, v74, rfl, ⟨rw70, hR71, hW72⟩, ⟨rw75, hR76, hW77⟩⟩ := R_dom_Part.ex hq60
       replace hs : St _ _ _ (.blk b40 (.cells #[v35] 24 (0, 0)) :: .blk b18 (.cells #[.string (p1.Name), .string (p1.Text), v6, v11] 35 (0, 0)) :: L) _ _ _ := hs
       refine uon hs ?_; clear hs; (try clear a w); intro a he
       refine T_any1 he rfl ?_; clear he; (try clear a); intro a w hs
       obtain ⟨x79, hx80, hm⟩ := ob hm
       refine RL_callVg hs rfl has21 rfl (law5_clean_ok n (f := f57) (a0 := [.string (p1.Name), .string (p1.Text), v6, v11]) (R_dom_Part.of (x := p1) ⟨rw7, hR63, hW64⟩ ⟨rw12, hR65, hW66⟩) hx80) ?_; clear hs; (try clear a w)
       rintro _ f81 _ a w hf82 ⟨r83, rfl, rfl, hq84⟩ hs
       have hR85 := hR61.le hf82
       have hW86 := hW62.le hf82
       have hR87 := hR63.le hf82
       have hW88 := hW64.le hf82
       have hR89 := hR65.le hf82
       have hW90 := hW66.le hf82
       have hR91 := hR67.le hf82
       have hW92 := hW68.le hf82
       have hR93 := hR71.le hf82
       have hW94 := hW72.le hf82
       have hR95 := hR76.le hf82
       have hW96 := hW77.le hf82
       replace hle := hle.trans hf82
       replace hbase51 := hbase51.trans hf82
       obtain ⟨v97, v102, rfl, ⟨rw98, hR99, hW100⟩, ⟨rw103, hR104, hW105⟩⟩ := R_dom_Part.ex hq84
       replace hs : St _ _ _ (.blk b40 (.cells #[v35] 24 (0, 0)) :: .blk b18 (.cells #[.string (p1.Name), .string (p1.Text), v6, v11] 35 (0, 0)) :: L) _ _ _ := hs
       refine uon hs ?_; clear hs; (try clear a w); intro a he
       refine T_any1 he rfl ?_; clear he; (try clear a); intro a w hs
       obtain ⟨x107, hx108, hm⟩ := ob hm
       refine syg hs (y_call rfl has20 rfl (law5_same_ok n (f := f81) (a0 := [.string (x55.Name), .string (x55.Text), v69, v74]) (a1 := [.string (x79.Name), .string (x79.Text), v97, v102]) (R_dom_Part.of (x := x55) ⟨rw70, hR93, hW94⟩ ⟨rw75, hR95, hW96⟩) (R_dom_Part.of (x := x79) ⟨rw98, hR99, hW100⟩ ⟨rw103, hR104, hW105⟩) hx108)) ?_; clear hs; (try clear a w); intro a w hs
       refine uon hs ?_; clear hs; (try clear a w); intro a he
       refine uy (v := .bool (x107)) 9 he rfl (y_pick rfl rfl) ?_; clear he; (try clear a); intro a he
       refine uy (v := .bool (x107)) 10 he rfl (y_move rfl) ?_; clear he; (try clear a); intro a he
       refine Ev.split he (t := 60) rfl (fun hg109 hq => ?_) (fun hg109 hq => ?_)
       ·clear he; have he := hq; clear hq
        replace hm := oc_t hg109 hm
        refine T_any1 he rfl ?_; clear he; (try clear a); intro a w hs
        obtain ⟨x110, hx111, hm⟩ := ob hm
        refine syg hs (y_call rfl has10 rfl (law5_known_ok n (f := f81)  hx111)) ?_; clear hs; (try clear a w); intro a w hs
        refine uon hs ?_; clear hs; (try clear a w); intro a he
        refine uy (v := .bool (x110)) 12 he rfl (y_pick rfl rfl) ?_; clear he; (try clear a); intro a he
        refine uy (v := .bool (x110)) 13 he rfl (y_assign rfl) ?_; clear he; (try clear a); intro a he
        refine T_nil he ?_; clear he; (try clear a); intro w hs; try clear hsD
        exact ⟨_, x110, hbase51, hm, hs.subs ⟨rfl, trivial⟩ (.cons _ (.cons _ (.refl _)))⟩
       ·clear he; have he := hq; clear hq
        replace hm := oc_f hg109 hm
        refine T_any1 he rfl ?_; clear he; (try clear a); intro a w hs
        refine sno hs ?_; clear hs; (try clear a w); intro a w hs
        refine uon hs ?_; clear hs; (try clear a w); intro a he
        refine uy (v := .bool (false)) 12 he rfl (y_pick rfl rfl) ?_; clear he; (try clear a); intro a he
        refine uy (v := .bool (false)) 13 he rfl (y_assign rfl) ?_; clear he; (try clear a); intro a he
        refine T_nil he ?_; clear he; (try clear a); intro w hs; try clear hsD
        exact ⟨_, false, hbase51, hm, hs.subs ⟨rfl, trivial⟩ (.cons _ (.cons _ (.refl _)))⟩
      ·clear he; have he := hq; clear hq
       replace hm := oc_f hg54 hm
       refine uno 4 he rfl ?_; clear he; (try clear a); intro a he
       refine uno 6 he rfl ?_; clear he; (try clear a); intro a he
       refine T_any1 he rfl ?_; clear he; (try clear a); intro a w hs
       refine sno hs ?_; clear hs; (try clear a w); intro a w hs
       refine uon hs ?_; clear hs; (try clear a w); intro a he
       refine T_any1 he rfl ?_; clear he; (try clear a); intro a w hs
       refine sno hs ?_; clear hs; (try clear a w); intro a w hs
       refine uon hs ?_; clear hs; (try clear a w); intro a he
       refine T_any1 he rfl ?_; clear he; (try clear a); intro a w hs
       refine sno hs ?_; clear hs; (try clear a w); intro a w hs
       refine uon hs ?_; clear hs; (try clear a w); intro a he
       refine uy (v := .bool (false)) 9 he rfl (y_pick rfl rfl) ?_; clear he; (try clear a); intro a he
       refine uy (v := .bool (false)) 10 he rfl (y_move rfl) ?_; clear he; (try clear a); intro a he
       refine T_any1 he rfl ?_; clear he; (try clear a); intro a w hs
       refine sno hs ?_; clear hs; (try clear a w); intro a w hs
       refine uon hs ?_; clear hs; (try clear a w); intro a he
       refine uy (v := .bool (false)) 12 he rfl (y_pick rfl rfl) ?_; clear he; (try clear a); intro a he
       refine uy (v := .bool (false)) 13 he rfl (y_assign rfl) ?_; clear he; (try clear a); intro a he
       refine T_nil he ?_; clear he; (try clear a); intro w hs; try clear hsD
       exact ⟨_, false, (Fz.le.refl _), hm, hs.subs ⟨rfl, trivial⟩ (.cons _ (.cons _ (.refl _)))⟩
   ·refine W_cond hs rfl (fun hg112 => ?_) (fun hg112 => ?_)
    ·replace hm := oc_t hg112 hm
     refine W_seq fun K12 hK12 => ?_
     refine W_region ?_
     refine sy hs (y_ldB rfl Try.underlying24 rfl ti24 (.tail _ (.head _)) rfl) ?_; clear hs; (try clear a w); intro a w hs
     obtain ⟨x113, hx114, hm⟩ := ob hm
     refine RL_callV hs rfl has19 rfl (dom_Parts_ok n (f := f) (a0 := [v1]) ⟨_, rfl, ⟨rw2, hR3, hW4⟩⟩ hx114) ?_; clear hs; (try clear a w)
     rintro _ f115 _ a w hf116 ⟨r117, rfl, rfl, hq118⟩ hs
     replace hR3 := hR3.le hf116
     replace hW4 := hW4.le hf116
     replace hR8 := hR8.le hf116
     replace hW9 := hW9.le hf116
     replace hR13 := hR13.le hf116
     replace hW14 := hW14.le hf116
     replace hle := hle.trans hf116
     replace hbase28 := hbase28.trans hf116
     obtain ⟨v119, v124, rfl, ⟨rw120, hR121, hW122⟩, ⟨rw125, hR126, hW127⟩⟩ := R_dom_Part.ex hq118
     replace hs : St _ _ _ (.blk b18 (.cells #[.string (p1.Name), .string (p1.Text), v6, v11] 35 (0, 0)) :: .blk b16 (.cells #[v1] 24 (0, 0)) :: L) _ _ _ := hs
     obtain ⟨x129, hx130, hm⟩ := ob hm
     refine RL_callV hs rfl has16 rfl (dom_Make_ok n (f := f115) (a0 := [.string (x113.Name), .string (x113.Text), v119, v124]) (R_dom_Part.of (x := x113) ⟨rw120, hR121, hW122⟩ ⟨rw125, hR126, hW127⟩) hx130) ?_; clear hs; (try clear a w)
     rintro _ f131 _ a w hf132 ⟨r133, rfl, rfl, hq134⟩ hs
     replace hR3 := hR3.le hf132
     replace hW4 := hW4.le hf132
     replace hR8 := hR8.le hf132
     replace hW9 := hW9.le hf132
     replace hR13 := hR13.le hf132
     replace hW14 := hW14.le hf132
     replace hR121 := hR121.le hf132
     replace hW122 := hW122.le hf132
     replace hR126 := hR126.le hf132
     replace hW127 := hW127.le hf132
     replace hle := hle.trans hf132
     replace hbase28 := hbase28.trans hf132
     obtain ⟨v135, rfl, ⟨rw136, hR137, hW138⟩⟩ := hq134
     replace hs : St _ _ _ (.blk b18 (.cells #[.string (p1.Name), .string (p1.Text), v6, v11] 35 (0, 0)) :: .blk b16 (.cells #[v1] 24 (0, 0)) :: L) _ _ _ := hs
     refine sy (v := .tuple #[.agg #[v135], .int .i64 (x129.2)]) hs (y_move rfl) ?_; clear hs; (try clear a w); intro a w hs
     refine sy (v := .agg #[v135]) hs (y_extract rfl rfl) ?_; clear hs; (try clear a w); intro a w hs
     refine sy (v := .int .i64 (x129.2)) hs (y_extract rfl rfl) ?_; clear hs; (try clear a w); intro a w hs
     refine RL_alloc hs ti24 (.free rfl) (by decide) ?_; clear hs; (try clear a w); intro b140 a w hs
     replace hs : St _ _ _ (.blk b140 (.cells #[(.slice none 0 0)] 24 (0, 0)) :: .blk b18 (.cells #[.string (p1.Name), .string (p1.Text), v6, v11] 35 (0, 0)) :: .blk b16 (.cells #[v1] 24 (0, 0)) :: L) _ _ _ := hs
     refine RL_storeAll (i := 0) hs rfl rfl rfl ti24 ⟨rfl, rfl⟩ (AllC.arr (r := [v135]) ⟨hR137.one, trivial⟩) (.free rfl) ?_; clear hs; (try clear a w); intro a w hs
     replace hs : St _ _ _ (.blk b140 (.cells #[v135] 24 (0, 0)) :: .blk b18 (.cells #[.string (p1.Name), .string (p1.Text), v6, v11] 35 (0, 0)) :: .blk b16 (.cells #[v1] 24 (0, 0)) :: L) _ _ _ := hs
     refine sy (v := .int .i64 (x129.2)) hs (y_assign rfl) ?_; clear hs; (try clear a w); intro a w hs
     refine RL_nil ?_
     refine hK12 _ _ ?_; clear hK12
     refine W_seq fun K13 hK13 => ?_
     refine W_post (fun a w => ∃ (y143 : Bool), law5_DomBack_k5 n p1 y143 = some res ∧ St 63 w0 f131 (.blk b18 (.cells #[.string (p1.Name), .string (p1.Text), v6, v11] 35 (0, 0)) :: L) [(3, .pointer (some ⟨b18, 0, none⟩)), (35, .bool (y143))] a w) ?_ ?_
     ·clear hs hm
      rintro a w ⟨y143, hm, hs⟩
      replace hs : St _ _ _ (.blk b18 (.cells #[.string (p1.Name), .string (p1.Text), v6, v11] 35 (0, 0)) :: L) _ _ _ := hs
      unfold law5_DomBack_k5 at hm
      refine hK13 _ _ ?_; clear hK13
      refine W_cond hs rfl (fun hg144 => ?_) (fun hg144 => ?_)
      ·replace hm := oc_t hg144 hm
       refine W_seq fun K14 hK14 => ?_
       refine W_region ?_
       refine sy (v := .bool (false)) hs (y_assign rfl) ?_; clear hs; (try clear a w); intro a w hs
       refine RL_nil ?_
       refine hK14 _ _ ?_; clear hK14
       refine W_ret ?_
       obtain rfl := Option.some.inj hm
       refine RtV1 hs rfl (rv_t hs rfl) ?_
       exact ⟨rfl, ((hs.subL (.cons _ (.refl _))).weak hle).cw⟩
      ·replace hm := oc_f hg144 hm
       refine W_skip ?_
       exact ⟨_, hbase28, hm, hs.sub ⟨rfl, trivial⟩⟩
     ·refine W_region ?_
      refine sy (v := .int .i64 (x129.2)) hs (y_move rfl) ?_; clear hs; (try clear a w); intro a w hs
      refine sy hs (y_neq rfl rfl) ?_; clear hs; (try clear a w); intro a w hs
      refine sy (v := .bool (decide (x129.2 ≠ 0))) hs (y_move rfl) ?_; clear hs; (try clear a w); intro a w hs
      refine St.split hs (t := 30) rfl (fun hg145 hq => ?_) (fun hg145 hq => ?_)
      ·clear hs; have hs := hq; clear hq
       replace hm := oc_t hg145 hm
       refine sno hs ?_; clear hs; (try clear a w); intro a w hs
       refine sno hs ?_; clear hs; (try clear a w); intro a w hs
       refine sno hs ?_; clear hs; (try clear a w); intro a w hs
       refine sno hs ?_; clear hs; (try clear a w); intro a w hs
       refine sy (v := .bool (true)) hs (y_pick rfl rfl) ?_; clear hs; (try clear a w); intro a w hs
       refine RL_nil ?_
       exact ⟨true, hm, hs.subs ⟨rfl, rfl, trivial⟩ (.cons _ (.cons_cons _ (.cons _ (.refl _))))⟩
      ·clear hs; have hs := hq; clear hq
       replace hm := oc_f hg145 hm
       refine syg hs (y_ldB rfl Try.underlying24 rfl ti24 (.tail _ (.tail _ (.head _))) rfl) ?_; clear hs; (try clear a w); intro a w hs
       refine syg hs (y_ldB rfl Try.underlying24 rfl ti24 (.head _) rfl) ?_; clear hs; (try clear a w); intro a w hs
       obtain ⟨x146, hx147, hm⟩ := ob hm
       refine syg hs (y_call rfl has14 rfl (keep_SameTree_ok n (f := f131) (a0 := [v1]) (a1 := [v135]) ⟨_, rfl, ⟨rw2, hR3, hW4⟩⟩ ⟨_, rfl, ⟨rw136, hR137, hW138⟩⟩ hx147)) ?_; clear hs; (try clear a w); intro a w hs
       refine syg (v := .bool ((!x146))) hs (y_not rfl) ?_; clear hs; (try clear a w); intro a w hs
       refine sy (v := .bool ((!x146))) hs (y_pick rfl rfl) ?_; clear hs; (try clear a w); intro a w hs
       refine RL_nil ?_
       exact ⟨(!x146), hm, hs.subs ⟨rfl, rfl, trivial⟩ (.cons _ (.cons_cons _ (.cons _ (.refl _))))⟩
    ·replace hm := oc_f hg112 hm
     refine W_skip ?_
     exact ⟨_, (Fz.le.refl _), hm, hs.subs ⟨rfl, trivial⟩ (.cons_cons _ (.cons _ (.refl _)))⟩
 ·refine W_region ?_
  refine sy (v := .pointer (some ⟨b16, 0, none⟩)) hs (y_fieldAddr rfl (FO.of (off := 0) Try.underlying24 rfl rfl ti22 (by decide))) ?_; clear hs; (try clear a w); intro a w hs
  refine sy (v := v1) hs (y_ld rfl Try.underlying22 rfl (Cell.blk (.tail _ (.head _)) rfl)) ?_; clear hs; (try clear a w); intro a w hs
  refine sy hs (y_lenW hR3 hW4 rfl Try.underlying22) ?_; clear hs; (try clear a w); intro a w hs
  refine sy hs (y_gtr rfl rfl) ?_; clear hs; (try clear a w); intro a w hs
  refine sy (v := .bool (decide (300 < (p0.Nodes.length : Int)))) hs (y_move rfl) ?_; clear hs; (try clear a w); intro a w hs
  refine St.split hs (t := 13) rfl (fun hg148 hq => ?_) (fun hg148 hq => ?_)
  ·clear hs; have hs := hq; clear hq
   replace hm := oc_t hg148 hm
   refine sno hs ?_; clear hs; (try clear a w); intro a w hs
   refine sno hs ?_; clear hs; (try clear a w); intro a w hs
   refine sno hs ?_; clear hs; (try clear a w); intro a w hs
   refine sy (v := .bool (true)) hs (y_pick rfl rfl) ?_; clear hs; (try clear a w); intro a w hs
   refine RL_nil ?_
   exact ⟨true, hm, hs.sub ⟨rfl, rfl, rfl, trivial⟩⟩
  ·clear hs; have hs := hq; clear hq
   replace hm := oc_f hg148 hm
   refine syg hs (y_ldB rfl Try.underlying35 rfl ti35 (.head _) rfl) ?_; clear hs; (try clear a w); intro a w hs
   obtain ⟨x149, hx150, hm⟩ := ob hm
   refine syg hs (y_call rfl has15 rfl (law5_deep_ok n (f := f) (a0 := [.string (p1.Name), .string (p1.Text), v6, v11]) (R_dom_Part.of (x := p1) ⟨rw7, hR8, hW9⟩ ⟨rw12, hR13, hW14⟩) hx150)) ?_; clear hs; (try clear a w); intro a w hs
   refine syg hs (y_geq rfl rfl) ?_; clear hs; (try clear a w); intro a w hs
   refine sy (v := .bool (decide (2000 ≤ x149))) hs (y_pick rfl rfl) ?_; clear hs; (try clear a w); intro a w hs
   refine RL_nil ?_
   exact ⟨decide (2000 ≤ x149), hm, hs.sub ⟨rfl, rfl, rfl, trivial⟩⟩

end Go.Proofs.Ytekcbgnkikmhpaa
