/-
  Walks and laws of this seat; the base is the text Base.
-/
import Derived.Test.YtklcdfnhdljkjaaDoorL7kt
import Derived.Test.YtklcdfnhdljkjaaDoorL7p
import Derived.Test.YtklcdfnhdljkjaaDoorRows
/-
  Models of functions, and that the functions compute them. Printed by lift.py.
-/
namespace Go.Proofs.YtklcdfnhdljkjaaDoor
open Go.RowKit Go.Sl
/-! casement/casementlaw7.WriteParts -/
def law7_WriteParts_k2 (y67 : Bool) : Option Bool :=
  some y67
def law7_WriteParts_k1 (n : Nat) (p0 : api_Tree) (p1 : Int) (y8 : Bool) : Option Bool :=
  (bif y8 then (law7_known n).bind fun x10 =>
  some x10 else
  (geti p0.Nodes p1).bind fun x12 =>
  (bif ((decide (x12.Name = (bs [116, 114]))) || ((decide (x12.Name = (bs [116, 100]))) || (decide (x12.Name = (bs [108, 105]))))) then (law7_known n).bind fun x25 =>
  some x25 else
  (law7_part n p0 p1).bind fun x27 =>
  (dom_Make n ({Name := (bs [114, 111, 111, 116]), Text := (bs []), Attrs := ([] : List api_Attr), Kids := [x27]} : dom_Part)).bind fun x53 =>
  (bif (decide (x53.2 = 0)) then (write_Canonical n x53.1).bind fun x69 =>
  (bif x69 then (law7_known n).bind fun x72 =>
  law7_WriteParts_k2 x72 else
  law7_WriteParts_k2 false) else
  law7_WriteParts_k2 false)))
def law7_WriteParts (n : Nat) (p0 : api_Tree) (p1 : Int) : Option Bool :=
  (bif (decide (300 < (p0.Nodes.length : Int))) then law7_WriteParts_k1 n p0 p1 true else
  (write_Canonical n p0).bind fun x77 =>
  (bif (!x77) then law7_WriteParts_k1 n p0 p1 true else
  (bif (decide (p1 ≤ 0)) then law7_WriteParts_k1 n p0 p1 true else
  (bif (decide ((p0.Nodes.length : Int) ≤ p1)) then law7_WriteParts_k1 n p0 p1 true else
  (geti p0.Nodes p1).bind fun x82 =>
  law7_WriteParts_k1 n p0 p1 (decide (x82.Kind ≠ 1))))))
set_option maxRecDepth 20000 in
set_option maxHeartbeats 4000000 in
theorem law7_WriteParts_ok (n : Nat) {f : Fz} {o0 : Obj} {o1 : Obj} {p0 : api_Tree} {a0 : List Value} {p1 : Int} {res : Bool} (hT0 : f 0 = some o0) (hT1 : f 1 = some o1) (hTT : Tabs o0 o1) (h0 : t_api_Tree.R f a0 p0) (hm : law7_WriteParts n p0 p1 = some res) : Gives Tryd.prog 4 [.agg a0.toArray, .int .i64 p1] f (.bool res) := by
 unfold law7_WriteParts at hm
 intro w0 L w hC
 obtain ⟨v1, rfl, ⟨rw2, hR3, hW4⟩⟩ := h0
 refine enter Tryd.func4 rfl Tryd.ntmps4 (by simp) hC fun a hs => ?_
 have hle := Fz.le.refl f
 refine W_seq fun K1 hK1 => ?_
 refine W_region ?_
 refine sbox hs rfl ?_; clear hs; (try clear a w); intro b6 a w hs
 replace hs : St _ _ _ (.blk b6 (.cells #[v1] 24 (0, 0)) :: L) _ _ _ := hs
 refine sy (v := .bool (false)) hs (y_assign rfl) ?_; clear hs; (try clear a w); intro a w hs
 refine RL_nil ?_
 refine hK1 _ _ ?_; clear hK1
 refine W_seq fun K2 hK2 => ?_
 refine W_seq fun K3 hK3 => ?_
 refine W_post (fun a w => ∃ (y8 : Bool), law7_WriteParts_k1 n p0 p1 y8 = some res ∧ St 73 w0 f (.blk b6 (.cells #[v1] 24 (0, 0)) :: L) [(1, .int .i64 (p1)), (2, .pointer (some ⟨b6, 0, none⟩)), (36, .bool (y8))] a w) ?_ ?_
 ·clear hs hm
  rintro a w ⟨y8, hm, hs⟩
  replace hs : St _ _ _ (.blk b6 (.cells #[v1] 24 (0, 0)) :: L) _ _ _ := hs
  unfold law7_WriteParts_k1 at hm
  refine hK3 _ _ ?_; clear hK3
  refine W_cond hs rfl (fun hg9 => ?_) (fun hg9 => ?_)
  ·replace hm := oc_t hg9 hm
   refine W_seq fun K4 hK4 => ?_
   refine W_region ?_
   obtain ⟨x10, hx11, hm⟩ := ob hm
   refine sy hs (y_call rfl has9 rfl (law7_known_ok n (f := f)  hT0 hT1 hTT hx11)) ?_; clear hs; (try clear a w); intro a w hs
   refine sy (v := .bool (x10)) hs (y_assign rfl) ?_; clear hs; (try clear a w); intro a w hs
   refine RL_nil ?_
   refine hK4 _ _ ?_; clear hK4
   refine W_ret ?_
   obtain rfl := Option.some.inj hm
   refine RtV1 hs rfl (rv_t hs rfl) ?_
   exact ⟨rfl, ((hs.subL (.cons _ (.refl _))).weak hle).cw⟩
  ·replace hm := oc_f hg9 hm
   refine W_skip ?_
   refine hK2 _ _ ?_; clear hK2
   refine W_seq fun K5 hK5 => ?_
   refine W_region ?_
   refine sy (v := .pointer (some ⟨b6, 0, none⟩)) hs (y_fieldAddr rfl (FO.of (off := 0) Tryd.underlying24 rfl rfl ti22 (by decide))) ?_; clear hs; (try clear a w); intro a w hs
   refine sy (v := v1) hs (y_ld rfl Tryd.underlying22 rfl (Cell.blk (.head _) rfl)) ?_; clear hs; (try clear a w); intro a w hs
   refine sy (v := .int .i64 (p1)) hs (y_move rfl) ?_; clear hs; (try clear a w); intro a w hs
   obtain ⟨x12, hx13, hm⟩ := ob hm
   obtain ⟨r14, hr15, hq16, hi17, hb18⟩ := hW4.geti hx13
   obtain ⟨v19, rfl, ⟨rw20, hR21, hW22⟩⟩ := hq16
   refine sy hs (y_indexAddr hR3 rfl rfl hi17 hb18 Tryd.underlying22 ti37) ?_; clear hs; (try clear a w); intro a w hs
   refine sy (v := eaddr v1 9 p1.toNat 1) hs (y_fieldAddrE (i := p1.toNat) (j := 0) hR3 rfl hb18 (FO.of (off := 1) Tryd.underlying37 rfl rfl ti9 (by decide))) ?_; clear hs; (try clear a w); intro a w hs
   refine sy (v := .string (x12.Name)) hs (y_loadE (i := p1.toNat) (j := 1) hR3.up rfl hr15 rfl Tryd.underlying9 rfl) ?_; clear hs; (try clear a w); intro a w hs
   refine sy (v := .string (x12.Name)) hs (y_assign rfl) ?_; clear hs; (try clear a w); intro a w hs
   refine RL_nil ?_
   refine hK5 _ _ ?_; clear hK5
   refine W_seq fun K6 hK6 => ?_
   refine W_seq fun K7 hK7 => ?_
   refine W_post (fun a w => St 73 w0 f (.blk b6 (.cells #[v1] 24 (0, 0)) :: L) [(1, .int .i64 (p1)), (2, .pointer (some ⟨b6, 0, none⟩)), (53, .bool (((decide (x12.Name = (bs [116, 114]))) || ((decide (x12.Name = (bs [116, 100]))) || (decide (x12.Name = (bs [108, 105])))))))] a w) ?_ ?_
   ·clear hs; intro a w hs
    refine hK7 _ _ ?_; clear hK7
    refine W_cond hs rfl (fun hg24 => ?_) (fun hg24 => ?_)
    ·replace hm := oc_t hg24 hm
     refine W_seq fun K8 hK8 => ?_
     refine W_region ?_
     obtain ⟨x25, hx26, hm⟩ := ob hm
     refine sy hs (y_call rfl has9 rfl (law7_known_ok n (f := f)  hT0 hT1 hTT hx26)) ?_; clear hs; (try clear a w); intro a w hs
     refine sy (v := .bool (x25)) hs (y_assign rfl) ?_; clear hs; (try clear a w); intro a w hs
     refine RL_nil ?_
     refine hK8 _ _ ?_; clear hK8
     refine W_ret ?_
     obtain rfl := Option.some.inj hm
     refine RtV1 hs rfl (rv_t hs rfl) ?_
     exact ⟨rfl, ((hs.subL (.cons _ (.refl _))).weak hle).cw⟩
    ·replace hm := oc_f hg24 hm
     refine W_skip ?_
     refine hK6 _ _ ?_; clear hK6
     refine W_seq fun K9 hK9 => ?_
     refine W_region ?_
     refine sy hs (y_ldB rfl Tryd.underlying24 rfl ti24 (.head _) rfl) ?_; clear hs; (try clear a w); intro a w hs
     refine sy (v := .int .i64 (p1)) hs (y_move rfl) ?_; clear hs; (try clear a w); intro a w hs
     obtain ⟨x27, hx28, hm⟩ := ob hm
     refine RL_callV hs rfl has10 rfl (law7_part_ok n (f := f) (a0 := [v1]) ⟨_, rfl, ⟨rw2, hR3, hW4⟩⟩ hx28) ?_; clear hs; (try clear a w)
     rintro _ f29 _ a w hf30 ⟨r31, rfl, rfl, hq32⟩ hs
     replace hR3 := hR3.le hf30
     replace hW4 := hW4.le hf30
     replace hT0 := hf30 _ _ hT0
     replace hT1 := hf30 _ _ hT1
     replace hR21 := hR21.le hf30
     replace hW22 := hW22.le hf30
     replace hle := hle.trans hf30
     obtain ⟨v33, v38, rfl, ⟨rw34, hR35, hW36⟩, ⟨rw39, hR40, hW41⟩⟩ := R_dom_Part.ex hq32
     replace hs : St _ _ _ (.blk b6 (.cells #[v1] 24 (0, 0)) :: L) _ _ _ := hs
     refine RL_bs1a hs rfl Tryd.underlying29 ti31 (by decide) (AllC.row ⟨rfl, rfl, hR35.one, hR40.one, trivial⟩ rfl) ?_; clear hs; (try clear a w); intro v43 a w hs
     have hW44 : RW t_dom_Part f29 [[.string (x27.Name), .string (x27.Text), v33, v38]] [x27] := RW.single (R_dom_Part.of (x := x27) ⟨rw34, hR35, hW36⟩ ⟨rw39, hR40, hW41⟩)
     generalize hgrw45 : ([[.string (x27.Name), .string (x27.Text), v33, v38]] : List (List Value)) = rw45 at hs hW44; clear hgrw45
     replace hs : St _ _ _ (.row v43 31 4 rw45 :: .blk b6 (.cells #[v1] 24 (0, 0)) :: L) _ _ _ := hs
     refine sy hs (y_buildS (places := [(0, 1), (1, 1), (2, 1), (3, 1)]) (cs := [.string ((bs [114, 111, 111, 116])), .string ((bs [])), (.slice none 0 0), v43]) rfl Tryd.underlying31 ti31 (by kernel_rfl) (by decide) rfl ⟨rfl, (hs.one (i := 0) rfl), trivial⟩) ?_; clear hs; (try clear a w); intro a w hs
     obtain ⟨f50, hf51, hs2, hR52⟩ := hs.frzAt 0 rfl
     clear hs; have hs := hs2; clear hs2
     replace hR3 := hR3.le hf51
     replace hW4 := hW4.le hf51
     replace hT0 := hf51 _ _ hT0
     replace hT1 := hf51 _ _ hT1
     replace hR35 := hR35.le hf51
     replace hW36 := hW36.le hf51
     replace hR40 := hR40.le hf51
     replace hW41 := hW41.le hf51
     replace hW44 := hW44.le hf51
     replace hle := hle.trans hf51
     replace hs : St _ _ _ (.blk b6 (.cells #[v1] 24 (0, 0)) :: L) _ _ _ := hs
     obtain ⟨x53, hx54, hm⟩ := ob hm
     refine RL_callV hs rfl has5 rfl (dom_Make_ok n (f := f50) (a0 := [.string ((bs [114, 111, 111, 116])), .string ((bs [])), (.slice none 0 0), v43]) (R_dom_Part.of (x := ({Name := (bs [114, 111, 111, 116]), Text := (bs []), Attrs := ([] : List api_Attr), Kids := [x27]} : dom_Part)) RS.nil ⟨rw45, hR52, hW44⟩) hx54) ?_; clear hs; (try clear a w)
     rintro _ f55 _ a w hf56 ⟨r57, rfl, rfl, hq58⟩ hs
     replace hR3 := hR3.le hf56
     replace hW4 := hW4.le hf56
     replace hT0 := hf56 _ _ hT0
     replace hT1 := hf56 _ _ hT1
     replace hR35 := hR35.le hf56
     replace hW36 := hW36.le hf56
     replace hR40 := hR40.le hf56
     replace hW41 := hW41.le hf56
     replace hW44 := hW44.le hf56
     replace hR52 := hR52.le hf56
     replace hle := hle.trans hf56
     obtain ⟨v59, rfl, ⟨rw60, hR61, hW62⟩⟩ := hq58
     replace hs : St _ _ _ (.blk b6 (.cells #[v1] 24 (0, 0)) :: L) _ _ _ := hs
     refine sy (v := .tuple #[.agg #[v59], .int .i64 (x53.2)]) hs (y_move rfl) ?_; clear hs; (try clear a w); intro a w hs
     refine sy (v := .agg #[v59]) hs (y_extract rfl rfl) ?_; clear hs; (try clear a w); intro a w hs
     refine sy (v := .int .i64 (x53.2)) hs (y_extract rfl rfl) ?_; clear hs; (try clear a w); intro a w hs
     refine RL_alloc hs ti24 (.free rfl) (by decide) ?_; clear hs; (try clear a w); intro b64 a w hs
     replace hs : St _ _ _ (.blk b64 (.cells #[(.slice none 0 0)] 24 (0, 0)) :: .blk b6 (.cells #[v1] 24 (0, 0)) :: L) _ _ _ := hs
     refine RL_storeAll (i := 0) hs rfl rfl rfl ti24 ⟨rfl, rfl⟩ (AllC.arr (r := [v59]) ⟨hR61.one, trivial⟩) (.free rfl) ?_; clear hs; (try clear a w); intro a w hs
     replace hs : St _ _ _ (.blk b64 (.cells #[v59] 24 (0, 0)) :: .blk b6 (.cells #[v1] 24 (0, 0)) :: L) _ _ _ := hs
     refine sy (v := .int .i64 (x53.2)) hs (y_assign rfl) ?_; clear hs; (try clear a w); intro a w hs
     refine RL_nil ?_
     refine hK9 _ _ ?_; clear hK9
     refine W_seq fun K10 hK10 => ?_
     refine W_post (fun a w => ∃ (y67 : Bool), law7_WriteParts_k2 y67 = some res ∧ St 73 w0 f55 (L) [(4, .bool (y67))] a w) ?_ ?_
     ·clear hs hm
      rintro a w ⟨y67, hm, hs⟩
      replace hs : St _ _ _ (L) _ _ _ := hs
      unfold law7_WriteParts_k2 at hm
      refine hK10 _ _ ?_; clear hK10
      refine W_ret ?_
      obtain rfl := Option.some.inj hm
      refine RtV1 hs rfl (rv_t hs rfl) ?_
      exact ⟨rfl, (hs.weak hle).cw⟩
     ·refine W_region ?_
      refine sy (v := .int .i64 (x53.2)) hs (y_move rfl) ?_; clear hs; (try clear a w); intro a w hs
      refine sy hs (y_eql rfl rfl) ?_; clear hs; (try clear a w); intro a w hs
      refine sy (v := .bool (decide (x53.2 = 0))) hs (y_move rfl) ?_; clear hs; (try clear a w); intro a w hs
      refine St.split hs (t := 66) rfl (fun hg68 hq => ?_) (fun hg68 hq => ?_)
      ·clear hs; have hs := hq; clear hq
       replace hm := oc_t hg68 hm
       refine syg hs (y_ldB rfl Tryd.underlying24 rfl ti24 (.head _) rfl) ?_; clear hs; (try clear a w); intro a w hs
       obtain ⟨x69, hx70, hm⟩ := ob hm
       refine syg hs (y_call rfl has6 rfl (write_Canonical_ok n (f := f55) (a0 := [v59]) hT0 hT1 hTT ⟨_, rfl, ⟨rw60, hR61, hW62⟩⟩ hx70)) ?_; clear hs; (try clear a w); intro a w hs
       refine sy (v := .bool (x69)) hs (y_pick rfl rfl) ?_; clear hs; (try clear a w); intro a w hs
       refine sy (v := .bool (x69)) hs (y_move rfl) ?_; clear hs; (try clear a w); intro a w hs
       refine St.split hs (t := 70) rfl (fun hg71 hq => ?_) (fun hg71 hq => ?_)
       ·clear hs; have hs := hq; clear hq
        replace hm := oc_t hg71 hm
        obtain ⟨x72, hx73, hm⟩ := ob hm
        refine syg hs (y_call rfl has9 rfl (law7_known_ok n (f := f55)  hT0 hT1 hTT hx73)) ?_; clear hs; (try clear a w); intro a w hs
        refine sy (v := .bool (x72)) hs (y_pick rfl rfl) ?_; clear hs; (try clear a w); intro a w hs
        refine sy (v := .bool (x72)) hs (y_assign rfl) ?_; clear hs; (try clear a w); intro a w hs
        refine RL_nil ?_
        exact ⟨x72, hm, hs.subs ⟨rfl, trivial⟩ (.cons _ (.cons _ (.refl _)))⟩
       ·clear hs; have hs := hq; clear hq
        replace hm := oc_f hg71 hm
        refine sno hs ?_; clear hs; (try clear a w); intro a w hs
        refine sy (v := .bool (false)) hs (y_pick rfl rfl) ?_; clear hs; (try clear a w); intro a w hs
        refine sy (v := .bool (false)) hs (y_assign rfl) ?_; clear hs; (try clear a w); intro a w hs
        refine RL_nil ?_
        exact ⟨false, hm, hs.subs ⟨rfl, trivial⟩ (.cons _ (.cons _ (.refl _)))⟩
      ·clear hs; have hs := hq; clear hq
       replace hm := oc_f hg68 hm
       refine sno hs ?_; clear hs; (try clear a w); intro a w hs
       refine sno hs ?_; clear hs; (try clear a w); intro a w hs
       refine sy (v := .bool (false)) hs (y_pick rfl rfl) ?_; clear hs; (try clear a w); intro a w hs
       refine sy (v := .bool (false)) hs (y_move rfl) ?_; clear hs; (try clear a w); intro a w hs
       refine sno hs ?_; clear hs; (try clear a w); intro a w hs
       refine sy (v := .bool (false)) hs (y_pick rfl rfl) ?_; clear hs; (try clear a w); intro a w hs
       refine sy (v := .bool (false)) hs (y_assign rfl) ?_; clear hs; (try clear a w); intro a w hs
       refine RL_nil ?_
       exact ⟨false, hm, hs.subs ⟨rfl, trivial⟩ (.cons _ (.cons _ (.refl _)))⟩
   ·refine W_region ?_
    refine sy (v := .string (x12.Name)) hs (y_move rfl) ?_; clear hs; (try clear a w); intro a w hs
    refine sy hs (y_seql rfl rfl) ?_; clear hs; (try clear a w); intro a w hs
    refine sy (v := .bool (decide (x12.Name = (bs [116, 114])))) hs (y_move rfl) ?_; clear hs; (try clear a w); intro a w hs
    refine St.split hs (t := 46) rfl (fun hg74 hq => ?_) (fun hg74 hq => ?_)
    ·clear hs; have hs := hq; clear hq
     refine sno hs ?_; clear hs; (try clear a w); intro a w hs
     refine sno hs ?_; clear hs; (try clear a w); intro a w hs
     refine sy (v := .bool (true)) hs (y_pick rfl rfl) ?_; clear hs; (try clear a w); intro a w hs
     refine sy (v := .bool (true)) hs (y_move rfl) ?_; clear hs; (try clear a w); intro a w hs
     refine sno hs ?_; clear hs; (try clear a w); intro a w hs
     refine sno hs ?_; clear hs; (try clear a w); intro a w hs
     refine sy (v := .bool (true)) hs (y_pick rfl rfl) ?_; clear hs; (try clear a w); intro a w hs
     refine RL_nil ?_
     exact hs.sub ⟨rfl, rfl, (lkB (((or_t hg74).trans rfl)) rfl), trivial⟩
    ·clear hs; have hs := hq; clear hq
     refine syg (v := .string (x12.Name)) hs (y_move rfl) ?_; clear hs; (try clear a w); intro a w hs
     refine syg hs (y_seql rfl rfl) ?_; clear hs; (try clear a w); intro a w hs
     refine sy (v := .bool (decide (x12.Name = (bs [116, 100])))) hs (y_pick rfl rfl) ?_; clear hs; (try clear a w); intro a w hs
     refine sy (v := .bool (decide (x12.Name = (bs [116, 100])))) hs (y_move rfl) ?_; clear hs; (try clear a w); intro a w hs
     refine St.split hs (t := 50) rfl (fun hg75 hq => ?_) (fun hg75 hq => ?_)
     ·clear hs; have hs := hq; clear hq
      refine sno hs ?_; clear hs; (try clear a w); intro a w hs
      refine sno hs ?_; clear hs; (try clear a w); intro a w hs
      refine sy (v := .bool (true)) hs (y_pick rfl rfl) ?_; clear hs; (try clear a w); intro a w hs
      refine RL_nil ?_
      exact hs.sub ⟨rfl, rfl, (lkB (((or_f hg74).trans ((or_t hg75).trans rfl))) rfl), trivial⟩
     ·clear hs; have hs := hq; clear hq
      refine syg (v := .string (x12.Name)) hs (y_move rfl) ?_; clear hs; (try clear a w); intro a w hs
      refine syg hs (y_seql rfl rfl) ?_; clear hs; (try clear a w); intro a w hs
      refine sy (v := .bool (decide (x12.Name = (bs [108, 105])))) hs (y_pick rfl rfl) ?_; clear hs; (try clear a w); intro a w hs
      refine RL_nil ?_
      exact hs.sub ⟨rfl, rfl, (lkB (((or_f hg74).trans ((or_f hg75).trans rfl))) rfl), trivial⟩
 ·refine W_region ?_
  refine sy (v := .pointer (some ⟨b6, 0, none⟩)) hs (y_fieldAddr rfl (FO.of (off := 0) Tryd.underlying24 rfl rfl ti22 (by decide))) ?_; clear hs; (try clear a w); intro a w hs
  refine sy (v := v1) hs (y_ld rfl Tryd.underlying22 rfl (Cell.blk (.head _) rfl)) ?_; clear hs; (try clear a w); intro a w hs
  refine sy hs (y_lenW hR3 hW4 rfl Tryd.underlying22) ?_; clear hs; (try clear a w); intro a w hs
  refine sy hs (y_gtr rfl rfl) ?_; clear hs; (try clear a w); intro a w hs
  refine sy (v := .bool (decide (300 < (p0.Nodes.length : Int)))) hs (y_move rfl) ?_; clear hs; (try clear a w); intro a w hs
  refine St.split hs (t := 12) rfl (fun hg76 hq => ?_) (fun hg76 hq => ?_)
  ·clear hs; have hs := hq; clear hq
   replace hm := oc_t hg76 hm
   refine sno hs ?_; clear hs; (try clear a w); intro a w hs
   refine sno hs ?_; clear hs; (try clear a w); intro a w hs
   refine sno hs ?_; clear hs; (try clear a w); intro a w hs
   refine sy (v := .bool (true)) hs (y_pick rfl rfl) ?_; clear hs; (try clear a w); intro a w hs
   refine sy (v := .bool (true)) hs (y_move rfl) ?_; clear hs; (try clear a w); intro a w hs
   refine sno hs ?_; clear hs; (try clear a w); intro a w hs
   refine sno hs ?_; clear hs; (try clear a w); intro a w hs
   refine sy (v := .bool (true)) hs (y_pick rfl rfl) ?_; clear hs; (try clear a w); intro a w hs
   refine sy (v := .bool (true)) hs (y_move rfl) ?_; clear hs; (try clear a w); intro a w hs
   refine sno hs ?_; clear hs; (try clear a w); intro a w hs
   refine sno hs ?_; clear hs; (try clear a w); intro a w hs
   refine sno hs ?_; clear hs; (try clear a w); intro a w hs
   refine sno hs ?_; clear hs; (try clear a w); intro a w hs
   refine sno hs ?_; clear hs; (try clear a w); intro a w hs
   refine sy (v := .bool (true)) hs (y_pick rfl rfl) ?_; clear hs; (try clear a w); intro a w hs
   refine sy (v := .bool (true)) hs (y_move rfl) ?_; clear hs; (try clear a w); intro a w hs
   refine sno hs ?_; clear hs; (try clear a w); intro a w hs
   refine sno hs ?_; clear hs; (try clear a w); intro a w hs
   refine sno hs ?_; clear hs; (try clear a w); intro a w hs
   refine sno hs ?_; clear hs; (try clear a w); intro a w hs
   refine sno hs ?_; clear hs; (try clear a w); intro a w hs
   refine sno hs ?_; clear hs; (try clear a w); intro a w hs
   refine sno hs ?_; clear hs; (try clear a w); intro a w hs
   refine sy (v := .bool (true)) hs (y_pick rfl rfl) ?_; clear hs; (try clear a w); intro a w hs
   refine RL_nil ?_
   exact ⟨true, hm, hs.sub ⟨rfl, rfl, rfl, trivial⟩⟩
  ·clear hs; have hs := hq; clear hq
   replace hm := oc_f hg76 hm
   refine syg hs (y_ldB rfl Tryd.underlying24 rfl ti24 (.head _) rfl) ?_; clear hs; (try clear a w); intro a w hs
   obtain ⟨x77, hx78, hm⟩ := ob hm
   refine syg hs (y_call rfl has6 rfl (write_Canonical_ok n (f := f) (a0 := [v1]) hT0 hT1 hTT ⟨_, rfl, ⟨rw2, hR3, hW4⟩⟩ hx78)) ?_; clear hs; (try clear a w); intro a w hs
   refine syg (v := .bool ((!x77))) hs (y_not rfl) ?_; clear hs; (try clear a w); intro a w hs
   refine sy (v := .bool ((!x77))) hs (y_pick rfl rfl) ?_; clear hs; (try clear a w); intro a w hs
   refine sy (v := .bool ((!x77))) hs (y_move rfl) ?_; clear hs; (try clear a w); intro a w hs
   refine St.split hs (t := 17) rfl (fun hg79 hq => ?_) (fun hg79 hq => ?_)
   ·clear hs; have hs := hq; clear hq
    replace hm := oc_t hg79 hm
    refine sno hs ?_; clear hs; (try clear a w); intro a w hs
    refine sno hs ?_; clear hs; (try clear a w); intro a w hs
    refine sy (v := .bool (true)) hs (y_pick rfl rfl) ?_; clear hs; (try clear a w); intro a w hs
    refine sy (v := .bool (true)) hs (y_move rfl) ?_; clear hs; (try clear a w); intro a w hs
    refine sno hs ?_; clear hs; (try clear a w); intro a w hs
    refine sno hs ?_; clear hs; (try clear a w); intro a w hs
    refine sno hs ?_; clear hs; (try clear a w); intro a w hs
    refine sno hs ?_; clear hs; (try clear a w); intro a w hs
    refine sno hs ?_; clear hs; (try clear a w); intro a w hs
    refine sy (v := .bool (true)) hs (y_pick rfl rfl) ?_; clear hs; (try clear a w); intro a w hs
    refine sy (v := .bool (true)) hs (y_move rfl) ?_; clear hs; (try clear a w); intro a w hs
    refine sno hs ?_; clear hs; (try clear a w); intro a w hs
    refine sno hs ?_; clear hs; (try clear a w); intro a w hs
    refine sno hs ?_; clear hs; (try clear a w); intro a w hs
    refine sno hs ?_; clear hs; (try clear a w); intro a w hs
    refine sno hs ?_; clear hs; (try clear a w); intro a w hs
    refine sno hs ?_; clear hs; (try clear a w); intro a w hs
    refine sno hs ?_; clear hs; (try clear a w); intro a w hs
    refine sy (v := .bool (true)) hs (y_pick rfl rfl) ?_; clear hs; (try clear a w); intro a w hs
    refine RL_nil ?_
    exact ⟨true, hm, hs.sub ⟨rfl, rfl, rfl, trivial⟩⟩
   ·clear hs; have hs := hq; clear hq
    replace hm := oc_f hg79 hm
    refine syg (v := .int .i64 (p1)) hs (y_move rfl) ?_; clear hs; (try clear a w); intro a w hs
    refine syg hs (y_leq rfl rfl) ?_; clear hs; (try clear a w); intro a w hs
    refine sy (v := .bool (decide (p1 ≤ 0))) hs (y_pick rfl rfl) ?_; clear hs; (try clear a w); intro a w hs
    refine sy (v := .bool (decide (p1 ≤ 0))) hs (y_move rfl) ?_; clear hs; (try clear a w); intro a w hs
    refine St.split hs (t := 21) rfl (fun hg80 hq => ?_) (fun hg80 hq => ?_)
    ·clear hs; have hs := hq; clear hq
     replace hm := oc_t hg80 hm
     refine sno hs ?_; clear hs; (try clear a w); intro a w hs
     refine sno hs ?_; clear hs; (try clear a w); intro a w hs
     refine sno hs ?_; clear hs; (try clear a w); intro a w hs
     refine sno hs ?_; clear hs; (try clear a w); intro a w hs
     refine sno hs ?_; clear hs; (try clear a w); intro a w hs
     refine sy (v := .bool (true)) hs (y_pick rfl rfl) ?_; clear hs; (try clear a w); intro a w hs
     refine sy (v := .bool (true)) hs (y_move rfl) ?_; clear hs; (try clear a w); intro a w hs
     refine sno hs ?_; clear hs; (try clear a w); intro a w hs
     refine sno hs ?_; clear hs; (try clear a w); intro a w hs
     refine sno hs ?_; clear hs; (try clear a w); intro a w hs
     refine sno hs ?_; clear hs; (try clear a w); intro a w hs
     refine sno hs ?_; clear hs; (try clear a w); intro a w hs
     refine sno hs ?_; clear hs; (try clear a w); intro a w hs
     refine sno hs ?_; clear hs; (try clear a w); intro a w hs
     refine sy (v := .bool (true)) hs (y_pick rfl rfl) ?_; clear hs; (try clear a w); intro a w hs
     refine RL_nil ?_
     exact ⟨true, hm, hs.sub ⟨rfl, rfl, rfl, trivial⟩⟩
    ·clear hs; have hs := hq; clear hq
     replace hm := oc_f hg80 hm
     refine syg (v := .int .i64 (p1)) hs (y_move rfl) ?_; clear hs; (try clear a w); intro a w hs
     refine syg (v := .pointer (some ⟨b6, 0, none⟩)) hs (y_fieldAddr rfl (FO.of (off := 0) Tryd.underlying24 rfl rfl ti22 (by decide))) ?_; clear hs; (try clear a w); intro a w hs
     refine syg (v := v1) hs (y_ld rfl Tryd.underlying22 rfl (Cell.blk (.head _) rfl)) ?_; clear hs; (try clear a w); intro a w hs
     refine syg hs (y_lenW hR3 hW4 rfl Tryd.underlying22) ?_; clear hs; (try clear a w); intro a w hs
     refine syg hs (y_geq rfl rfl) ?_; clear hs; (try clear a w); intro a w hs
     refine sy (v := .bool (decide ((p0.Nodes.length : Int) ≤ p1))) hs (y_pick rfl rfl) ?_; clear hs; (try clear a w); intro a w hs
     refine sy (v := .bool (decide ((p0.Nodes.length : Int) ≤ p1))) hs (y_move rfl) ?_; clear hs; (try clear a w); intro a w hs
     refine St.split hs (t := 28) rfl (fun hg81 hq => ?_) (fun hg81 hq => ?_)
     ·clear hs; have hs := hq; clear hq
      replace hm := oc_t hg81 hm
      refine sno hs ?_; clear hs; (try clear a w); intro a w hs
      refine sno hs ?_; clear hs; (try clear a w); intro a w hs
      refine sno hs ?_; clear hs; (try clear a w); intro a w hs
      refine sno hs ?_; clear hs; (try clear a w); intro a w hs
      refine sno hs ?_; clear hs; (try clear a w); intro a w hs
      refine sno hs ?_; clear hs; (try clear a w); intro a w hs
      refine sno hs ?_; clear hs; (try clear a w); intro a w hs
      refine sy (v := .bool (true)) hs (y_pick rfl rfl) ?_; clear hs; (try clear a w); intro a w hs
      refine RL_nil ?_
      exact ⟨true, hm, hs.sub ⟨rfl, rfl, rfl, trivial⟩⟩
     ·clear hs; have hs := hq; clear hq
      replace hm := oc_f hg81 hm
      refine syg (v := .pointer (some ⟨b6, 0, none⟩)) hs (y_fieldAddr rfl (FO.of (off := 0) Tryd.underlying24 rfl rfl ti22 (by decide))) ?_; clear hs; (try clear a w); intro a w hs
      refine syg (v := v1) hs (y_ld rfl Tryd.underlying22 rfl (Cell.blk (.head _) rfl)) ?_; clear hs; (try clear a w); intro a w hs
      refine syg (v := .int .i64 (p1)) hs (y_move rfl) ?_; clear hs; (try clear a w); intro a w hs
      obtain ⟨x82, hx83, hm⟩ := ob hm
      obtain ⟨r84, hr85, hq86, hi87, hb88⟩ := hW4.geti hx83
      obtain ⟨v89, rfl, ⟨rw90, hR91, hW92⟩⟩ := hq86
      refine syg hs (y_indexAddr hR3 rfl rfl hi87 hb88 Tryd.underlying22 ti37) ?_; clear hs; (try clear a w); intro a w hs
      refine syg (v := eaddr v1 9 p1.toNat 0) hs (y_fieldAddrE (i := p1.toNat) (j := 0) hR3 rfl hb88 (FO.of (off := 0) Tryd.underlying37 rfl rfl ti3 (by decide))) ?_; clear hs; (try clear a w); intro a w hs
      refine syg (v := .int .i64 (x82.Kind)) hs (y_loadE (i := p1.toNat) (j := 0) hR3.up rfl hr85 rfl Tryd.underlying3 rfl) ?_; clear hs; (try clear a w); intro a w hs
      refine syg hs (y_neq rfl rfl) ?_; clear hs; (try clear a w); intro a w hs
      refine sy (v := .bool (decide (x82.Kind ≠ 1))) hs (y_pick rfl rfl) ?_; clear hs; (try clear a w); intro a w hs
      refine RL_nil ?_
      exact ⟨decide (x82.Kind ≠ 1), hm, hs.sub ⟨rfl, rfl, rfl, trivial⟩⟩
end Go.Proofs.YtklcdfnhdljkjaaDoor
