/-
  Walks and laws of this seat; the base is the text Base.
-/
import Derived.Test.YtklcdfnhdljkjaaDoorL7ct
import Derived.Test.YtklcdfnhdljkjaaDoorL7m
import Derived.Test.YtklcdfnhdljkjaaDoorL7b
import Derived.Test.YtklcdfnhdljkjaaDoorRows
/-
  Models of functions, and that the functions compute them. Printed by lift.py.
-/
namespace Go.Proofs.YtklcdfnhdljkjaaDoor
open Go.RowKit Go.Sl
/-! casement/casementlaw7.known -/
def law7_known_k1 (y45 : Bool) : Option Bool :=
  some y45
def law7_known (n : Nat) : Option Bool :=
  (dom_Make n ({Name := (bs [114, 111, 111, 116]), Text := (bs []), Attrs := ([] : List api_Attr), Kids := [({Name := (bs [112]), Text := (bs []), Attrs := [({Name := (bs [99, 108, 97, 115, 115]), Value := (bs [97, 34])} : api_Attr)], Kids := [({Name := (bs []), Text := (bs [120, 32, 60, 32, 121]), Attrs := ([] : List api_Attr), Kids := ([] : List dom_Part)} : dom_Part)]} : dom_Part)]} : dom_Part)).bind fun x31 =>
  (bif (decide (x31.2 = 0)) then (write_Markup n x31.1).bind fun x47 =>
  (bif (decide (x47 = (bs [60, 112, 32, 99, 108, 97, 115, 115, 61, 34, 97, 38, 113, 117, 111, 116, 59, 34, 62, 120, 32, 38, 108, 116, 59, 32, 121, 60, 47, 112, 62]))) then (write_Canonical n x31.1).bind fun x50 =>
  law7_known_k1 x50 else
  law7_known_k1 false) else
  law7_known_k1 false)
set_option maxRecDepth 20000 in
set_option maxHeartbeats 4000000 in
theorem law7_known_ok (n : Nat) {f : Fz} {o0 : Obj} {o1 : Obj} {res : Bool} (hT0 : f 0 = some o0) (hT1 : f 1 = some o1) (hTT : Tabs o0 o1) (hm : law7_known n = some res) : Gives Tryd.prog 9 [] f (.bool res) := by
 unfold law7_known at hm
 intro w0 L w hC
 refine enter Tryd.func9 rfl Tryd.ntmps9 (by simp) hC fun a hs => ?_
 have hle := Fz.le.refl f
 refine W_seq fun K1 hK1 => ?_
 refine W_region ?_
 refine sy (v := .bool (false)) hs (y_assign rfl) ?_; clear hs; (try clear a w); intro a w hs
 refine RL_nil ?_
 refine hK1 _ _ ?_; clear hK1
 refine W_seq fun K2 hK2 => ?_
 refine W_region ?_
 refine sy hs (y_buildS (places := [(0, 1), (1, 1)]) (cs := [.string ((bs [99, 108, 97, 115, 115])), .string ((bs [97, 34]))]) rfl Tryd.underlying43 ti43 (by kernel_rfl) (by decide) rfl ⟨rfl, rfl, trivial⟩) ?_; clear hs; (try clear a w); intro a w hs
 refine RL_bs1a hs rfl Tryd.underlying28 ti43 (by decide) (AllC.row ⟨rfl, rfl, trivial⟩ rfl) ?_; clear hs; (try clear a w); intro v1 a w hs
 have hW2 : RW t_api_Attr f [[.string ((bs [99, 108, 97, 115, 115])), .string ((bs [97, 34]))]] [({Name := (bs [99, 108, 97, 115, 115]), Value := (bs [97, 34])} : api_Attr)] := RW.single (rfl)
 generalize hgrw3 : ([[.string ((bs [99, 108, 97, 115, 115])), .string ((bs [97, 34]))]] : List (List Value)) = rw3 at hs hW2; clear hgrw3
 replace hs : St _ _ _ (.row v1 43 2 rw3 :: L) _ _ _ := hs
 refine sy hs (y_buildS (places := [(0, 1), (1, 1), (2, 1), (3, 1)]) (cs := [.string ((bs [])), .string ((bs [120, 32, 60, 32, 121])), (.slice none 0 0), (.slice none 0 0)]) rfl Tryd.underlying31 ti31 (by kernel_rfl) (by decide) rfl ⟨rfl, trivial⟩) ?_; clear hs; (try clear a w); intro a w hs
 refine RL_bs1a hs rfl Tryd.underlying29 ti31 (by decide) (AllC.row ⟨rfl, rfl, rfl, rfl, trivial⟩ rfl) ?_; clear hs; (try clear a w); intro v8 a w hs
 have hW9 : RW t_dom_Part f [[.string ((bs [])), .string ((bs [120, 32, 60, 32, 121])), (.slice none 0 0), (.slice none 0 0)]] [({Name := (bs []), Text := (bs [120, 32, 60, 32, 121]), Attrs := ([] : List api_Attr), Kids := ([] : List dom_Part)} : dom_Part)] := RW.single (R_dom_Part.of (x := ({Name := (bs []), Text := (bs [120, 32, 60, 32, 121]), Attrs := ([] : List api_Attr), Kids := ([] : List dom_Part)} : dom_Part)) RS.nil RS.nil)
 generalize hgrw10 : ([[.string ((bs [])), .string ((bs [120, 32, 60, 32, 121])), (.slice none 0 0), (.slice none 0 0)]] : List (List Value)) = rw10 at hs hW9; clear hgrw10
 replace hs : St _ _ _ (.row v8 31 4 rw10 :: .row v1 43 2 rw3 :: L) _ _ _ := hs
 refine sy hs (y_buildS (places := [(0, 1), (1, 1), (2, 1), (3, 1)]) (cs := [.string ((bs [112])), .string ((bs [])), v1, v8]) rfl Tryd.underlying31 ti31 (by kernel_rfl) (by decide) rfl ⟨rfl, (hs.one (i := 1) rfl), (hs.one (i := 0) rfl), trivial⟩) ?_; clear hs; (try clear a w); intro a w hs
 obtain ⟨f17, hf18, hs2, hR19⟩ := hs.frzAt 0 rfl
 clear hs; have hs := hs2; clear hs2
 replace hT0 := hf18 _ _ hT0
 replace hT1 := hf18 _ _ hT1
 replace hW2 := hW2.le hf18
 replace hW9 := hW9.le hf18
 replace hle := hle.trans hf18
 replace hs : St _ _ _ (.row v1 43 2 rw3 :: L) _ _ _ := hs
 obtain ⟨f20, hf21, hs2, hR22⟩ := hs.frzAt 0 rfl
 clear hs; have hs := hs2; clear hs2
 replace hT0 := hf21 _ _ hT0
 replace hT1 := hf21 _ _ hT1
 replace hW2 := hW2.le hf21
 replace hW9 := hW9.le hf21
 replace hR19 := hR19.le hf21
 replace hle := hle.trans hf21
 replace hs : St _ _ _ (L) _ _ _ := hs
 refine RL_bs1a hs rfl Tryd.underlying29 ti31 (by decide) (AllC.row ⟨rfl, rfl, hR22.one, hR19.one, trivial⟩ rfl) ?_; clear hs; (try clear a w); intro v15 a w hs
 have hW16 : RW t_dom_Part f20 [[.string ((bs [112])), .string ((bs [])), v1, v8]] [({Name := (bs [112]), Text := (bs []), Attrs := [({Name := (bs [99, 108, 97, 115, 115]), Value := (bs [97, 34])} : api_Attr)], Kids := [({Name := (bs []), Text := (bs [120, 32, 60, 32, 121]), Attrs := ([] : List api_Attr), Kids := ([] : List dom_Part)} : dom_Part)]} : dom_Part)] := RW.single (R_dom_Part.of (x := ({Name := (bs [112]), Text := (bs []), Attrs := [({Name := (bs [99, 108, 97, 115, 115]), Value := (bs [97, 34])} : api_Attr)], Kids := [({Name := (bs []), Text := (bs [120, 32, 60, 32, 121]), Attrs := ([] : List api_Attr), Kids := ([] : List dom_Part)} : dom_Part)]} : dom_Part)) ⟨rw3, hR22, hW2⟩ ⟨rw10, hR19, hW9⟩)
 generalize hgrw23 : ([[.string ((bs [112])), .string ((bs [])), v1, v8]] : List (List Value)) = rw23 at hs hW16; clear hgrw23
 replace hs : St _ _ _ (.row v15 31 4 rw23 :: L) _ _ _ := hs
 refine sy hs (y_buildS (places := [(0, 1), (1, 1), (2, 1), (3, 1)]) (cs := [.string ((bs [114, 111, 111, 116])), .string ((bs [])), (.slice none 0 0), v15]) rfl Tryd.underlying31 ti31 (by kernel_rfl) (by decide) rfl ⟨rfl, (hs.one (i := 0) rfl), trivial⟩) ?_; clear hs; (try clear a w); intro a w hs
 obtain ⟨f28, hf29, hs2, hR30⟩ := hs.frzAt 0 rfl
 clear hs; have hs := hs2; clear hs2
 replace hT0 := hf29 _ _ hT0
 replace hT1 := hf29 _ _ hT1
 replace hW2 := hW2.le hf29
 replace hW9 := hW9.le hf29
 replace hR19 := hR19.le hf29
 replace hR22 := hR22.le hf29
 replace hW16 := hW16.le hf29
 replace hle := hle.trans hf29
 replace hs : St _ _ _ (L) _ _ _ := hs
 obtain ⟨x31, hx32, hm⟩ := ob hm
 refine RL_callV hs rfl has5 rfl (dom_Make_ok n (f := f28) (a0 := [.string ((bs [114, 111, 111, 116])), .string ((bs [])), (.slice none 0 0), v15]) (R_dom_Part.of (x := ({Name := (bs [114, 111, 111, 116]), Text := (bs []), Attrs := ([] : List api_Attr), Kids := [({Name := (bs [112]), Text := (bs []), Attrs := [({Name := (bs [99, 108, 97, 115, 115]), Value := (bs [97, 34])} : api_Attr)], Kids := [({Name := (bs []), Text := (bs [120, 32, 60, 32, 121]), Attrs := ([] : List api_Attr), Kids := ([] : List dom_Part)} : dom_Part)]} : dom_Part)]} : dom_Part)) RS.nil ⟨rw23, hR30, hW16⟩) hx32) ?_; clear hs; (try clear a w)
 rintro _ f33 _ a w hf34 ⟨r35, rfl, rfl, hq36⟩ hs
 replace hT0 := hf34 _ _ hT0
 replace hT1 := hf34 _ _ hT1
 replace hW2 := hW2.le hf34
 replace hW9 := hW9.le hf34
 replace hR19 := hR19.le hf34
 replace hR22 := hR22.le hf34
 replace hW16 := hW16.le hf34
 replace hR30 := hR30.le hf34
 replace hle := hle.trans hf34
 obtain ⟨v37, rfl, ⟨rw38, hR39, hW40⟩⟩ := hq36
 replace hs : St _ _ _ (L) _ _ _ := hs
 refine sy (v := .tuple #[.agg #[v37], .int .i64 (x31.2)]) hs (y_move rfl) ?_; clear hs; (try clear a w); intro a w hs
 refine sy (v := .agg #[v37]) hs (y_extract rfl rfl) ?_; clear hs; (try clear a w); intro a w hs
 refine sy (v := .int .i64 (x31.2)) hs (y_extract rfl rfl) ?_; clear hs; (try clear a w); intro a w hs
 refine RL_alloc hs ti24 (.free rfl) (by decide) ?_; clear hs; (try clear a w); intro b42 a w hs
 replace hs : St _ _ _ (.blk b42 (.cells #[(.slice none 0 0)] 24 (0, 0)) :: L) _ _ _ := hs
 refine RL_storeAll (i := 0) hs rfl rfl rfl ti24 ⟨rfl, rfl⟩ (AllC.arr (r := [v37]) ⟨hR39.one, trivial⟩) (.free rfl) ?_; clear hs; (try clear a w); intro a w hs
 replace hs : St _ _ _ (.blk b42 (.cells #[v37] 24 (0, 0)) :: L) _ _ _ := hs
 refine sy (v := .int .i64 (x31.2)) hs (y_assign rfl) ?_; clear hs; (try clear a w); intro a w hs
 refine RL_nil ?_
 refine hK2 _ _ ?_; clear hK2
 refine W_seq fun K3 hK3 => ?_
 refine W_post (fun a w => ∃ (y45 : Bool), law7_known_k1 y45 = some res ∧ St 25 w0 f33 (L) [(0, .bool (y45))] a w) ?_ ?_
 ·clear hs hm
  rintro a w ⟨y45, hm, hs⟩
  replace hs : St _ _ _ (L) _ _ _ := hs
  unfold law7_known_k1 at hm
  refine hK3 _ _ ?_; clear hK3
  refine W_ret ?_
  obtain rfl := Option.some.inj hm
  refine RtV1 hs rfl (rv_t hs rfl) ?_
  exact ⟨rfl, (hs.weak hle).cw⟩
 ·refine W_region ?_
  refine sy (v := .int .i64 (x31.2)) hs (y_move rfl) ?_; clear hs; (try clear a w); intro a w hs
  refine sy hs (y_eql rfl rfl) ?_; clear hs; (try clear a w); intro a w hs
  refine sy (v := .bool (decide (x31.2 = 0))) hs (y_move rfl) ?_; clear hs; (try clear a w); intro a w hs
  refine St.split hs (t := 16) rfl (fun hg46 hq => ?_) (fun hg46 hq => ?_)
  ·clear hs; have hs := hq; clear hq
   replace hm := oc_t hg46 hm
   refine syg hs (y_ldB rfl Tryd.underlying24 rfl ti24 (.head _) rfl) ?_; clear hs; (try clear a w); intro a w hs
   obtain ⟨x47, hx48, hm⟩ := ob hm
   refine syg hs (y_call rfl has7 rfl (write_Markup_ok n (f := f33) (a0 := [v37]) ⟨_, rfl, ⟨rw38, hR39, hW40⟩⟩ hx48)) ?_; clear hs; (try clear a w); intro a w hs
   refine syg hs (y_seql rfl rfl) ?_; clear hs; (try clear a w); intro a w hs
   refine sy (v := .bool (decide (x47 = (bs [60, 112, 32, 99, 108, 97, 115, 115, 61, 34, 97, 38, 113, 117, 111, 116, 59, 34, 62, 120, 32, 38, 108, 116, 59, 32, 121, 60, 47, 112, 62])))) hs (y_pick rfl rfl) ?_; clear hs; (try clear a w); intro a w hs
   refine sy (v := .bool (decide (x47 = (bs [60, 112, 32, 99, 108, 97, 115, 115, 61, 34, 97, 38, 113, 117, 111, 116, 59, 34, 62, 120, 32, 38, 108, 116, 59, 32, 121, 60, 47, 112, 62])))) hs (y_move rfl) ?_; clear hs; (try clear a w); intro a w hs
   refine St.split hs (t := 21) rfl (fun hg49 hq => ?_) (fun hg49 hq => ?_)
   ·clear hs; have hs := hq; clear hq
    replace hm := oc_t hg49 hm
    refine syg hs (y_ldB rfl Tryd.underlying24 rfl ti24 (.head _) rfl) ?_; clear hs; (try clear a w); intro a w hs
    obtain ⟨x50, hx51, hm⟩ := ob hm
    refine syg hs (y_call rfl has6 rfl (write_Canonical_ok n (f := f33) (a0 := [v37]) hT0 hT1 hTT ⟨_, rfl, ⟨rw38, hR39, hW40⟩⟩ hx51)) ?_; clear hs; (try clear a w); intro a w hs
    refine sy (v := .bool (x50)) hs (y_pick rfl rfl) ?_; clear hs; (try clear a w); intro a w hs
    refine sy (v := .bool (x50)) hs (y_assign rfl) ?_; clear hs; (try clear a w); intro a w hs
    refine RL_nil ?_
    exact ⟨x50, hm, hs.subs ⟨rfl, trivial⟩ (.cons _ (.refl _))⟩
   ·clear hs; have hs := hq; clear hq
    replace hm := oc_f hg49 hm
    refine sno hs ?_; clear hs; (try clear a w); intro a w hs
    refine sno hs ?_; clear hs; (try clear a w); intro a w hs
    refine sy (v := .bool (false)) hs (y_pick rfl rfl) ?_; clear hs; (try clear a w); intro a w hs
    refine sy (v := .bool (false)) hs (y_assign rfl) ?_; clear hs; (try clear a w); intro a w hs
    refine RL_nil ?_
    exact ⟨false, hm, hs.subs ⟨rfl, trivial⟩ (.cons _ (.refl _))⟩
  ·clear hs; have hs := hq; clear hq
   replace hm := oc_f hg46 hm
   refine sno hs ?_; clear hs; (try clear a w); intro a w hs
   refine sno hs ?_; clear hs; (try clear a w); intro a w hs
   refine sno hs ?_; clear hs; (try clear a w); intro a w hs
   refine sy (v := .bool (false)) hs (y_pick rfl rfl) ?_; clear hs; (try clear a w); intro a w hs
   refine sy (v := .bool (false)) hs (y_move rfl) ?_; clear hs; (try clear a w); intro a w hs
   refine sno hs ?_; clear hs; (try clear a w); intro a w hs
   refine sno hs ?_; clear hs; (try clear a w); intro a w hs
   refine sy (v := .bool (false)) hs (y_pick rfl rfl) ?_; clear hs; (try clear a w); intro a w hs
   refine sy (v := .bool (false)) hs (y_assign rfl) ?_; clear hs; (try clear a w); intro a w hs
   refine RL_nil ?_
   exact ⟨false, hm, hs.subs ⟨rfl, trivial⟩ (.cons _ (.refl _))⟩
end Go.Proofs.YtklcdfnhdljkjaaDoor
