/-
  Walks and laws of this seat; the base is the text Base.
-/
import Derived.Test.YtklcdfnhdljkjaaDoorL7k
import Derived.Test.YtklcdfnhdljkjaaDoorRows
/-
  Models of functions, and that the functions compute them. Printed by lift.py.
-/
namespace Go.Proofs.YtklcdfnhdljkjaaDoor
open Go.RowKit Go.Sl
/-! casement/casementlaw7.WriteNumbers -/
def law7_WriteNumbers_k1 (y151 : Bool) : Option Bool :=
  some y151
def law7_WriteNumbers (n : Nat) : Option Bool :=
  (dom_Make n ({Name := (bs [114, 111, 111, 116]), Text := (bs []), Attrs := ([] : List api_Attr), Kids := [({Name := (bs [117, 108]), Text := (bs []), Attrs := ([] : List api_Attr), Kids := [({Name := (bs []), Text := (bs [120]), Attrs := ([] : List api_Attr), Kids := ([] : List dom_Part)} : dom_Part)]} : dom_Part)]} : dom_Part)).bind fun x23 =>
  (dom_Make n ({Name := (bs [114, 111, 111, 116]), Text := (bs []), Attrs := ([] : List api_Attr), Kids := [({Name := (bs [112]), Text := (bs []), Attrs := ([] : List api_Attr), Kids := [({Name := (bs [100, 105, 118]), Text := (bs []), Attrs := ([] : List api_Attr), Kids := ([] : List dom_Part)} : dom_Part)]} : dom_Part)]} : dom_Part)).bind fun x59 =>
  (dom_Make n ({Name := (bs [114, 111, 111, 116]), Text := (bs []), Attrs := ([] : List api_Attr), Kids := [({Name := (bs [98, 114]), Text := (bs []), Attrs := ([] : List api_Attr), Kids := ([] : List dom_Part)} : dom_Part)]} : dom_Part)).bind fun x85 =>
  (dom_Make n ({Name := (bs [114, 111, 111, 116]), Text := (bs []), Attrs := ([] : List api_Attr), Kids := [({Name := (bs [116, 97, 98, 108, 101]), Text := (bs []), Attrs := ([] : List api_Attr), Kids := [({Name := (bs []), Text := (bs [32]), Attrs := ([] : List api_Attr), Kids := ([] : List dom_Part)} : dom_Part)]} : dom_Part)]} : dom_Part)).bind fun x121 =>
  (dom_Make n ({Name := (bs [100, 105, 118]), Text := (bs []), Attrs := ([] : List api_Attr), Kids := ([] : List dom_Part)} : dom_Part)).bind fun x137 =>
  (write_Canonical n x23.1).bind fun x152 =>
  (bif (!x152) then (write_Canonical n x59.1).bind fun x155 =>
  (bif (!x155) then (write_Canonical n x85.1).bind fun x158 =>
  (bif x158 then (write_Canonical n x121.1).bind fun x161 =>
  (bif (!x161) then (write_Canonical n x137.1).bind fun x164 =>
  (bif (!x164) then (write_Markup n x85.1).bind fun x167 =>
  (bif (decide (x167 = (bs [60, 98, 114, 62]))) then (write_Markup n ({Nodes := ([] : List api_Node)} : api_Tree)).bind fun x171 =>
  (bif (decide (x171 = (bs []))) then (write_Escape n (bs [34, 38, 60, 62, 194, 160, 13]) false).bind fun x174 =>
  (bif (decide (x174 = (bs [34, 38, 97, 109, 112, 59, 38, 108, 116, 59, 38, 103, 116, 59, 38, 110, 98, 115, 112, 59, 38, 35, 49, 51, 59]))) then (write_Escape n (bs [34]) true).bind fun x177 =>
  (bif (decide (x177 = (bs [38, 113, 117, 111, 116, 59]))) then (write_Canonical n ({Nodes := ([] : List api_Node)} : api_Tree)).bind fun x181 =>
  (bif (!x181) then (law7_known n).bind fun x184 =>
  law7_WriteNumbers_k1 x184 else
  law7_WriteNumbers_k1 false) else
  law7_WriteNumbers_k1 false) else
  law7_WriteNumbers_k1 false) else
  law7_WriteNumbers_k1 false) else
  law7_WriteNumbers_k1 false) else
  law7_WriteNumbers_k1 false) else
  law7_WriteNumbers_k1 false) else
  law7_WriteNumbers_k1 false) else
  law7_WriteNumbers_k1 false) else
  law7_WriteNumbers_k1 false)
set_option maxRecDepth 20000 in
set_option maxHeartbeats 4000000 in
theorem law7_WriteNumbers_ok (n : Nat) {f : Fz}  {res : Bool}  (hm : law7_WriteNumbers n = some res) : Gives Tryd.prog 3 [] f (.bool res) := by
 unfold law7_WriteNumbers at hm
 intro w0 L w hC
 refine enter Tryd.func3 rfl Tryd.ntmps3 (by simp) hC fun a hs => ?_
 have hle := Fz.le.refl f
 refine W_seq fun K1 hK1 => ?_
 refine W_region ?_
 refine sy (v := .bool (false)) hs (y_assign rfl) ?_; clear hs; (try clear a w); intro a w hs
 refine RL_nil ?_
 refine hK1 _ _ ?_; clear hK1
 refine W_seq fun K2 hK2 => ?_
 refine W_region ?_
 refine sy hs (y_buildS (places := [(0, 1), (1, 1), (2, 1), (3, 1)]) (cs := [.string ((bs [])), .string ((bs [120])), (.slice none 0 0), (.slice none 0 0)]) rfl Tryd.underlying31 ti31 (by kernel_rfl) (by decide) rfl ⟨rfl, trivial⟩) ?_; clear hs; (try clear a w); intro a w hs
 refine RL_bs1a hs rfl Tryd.underlying29 ti31 (by decide) (AllC.row ⟨rfl, rfl, rfl, rfl, trivial⟩ rfl) ?_; clear hs; (try clear a w); intro v3 a w hs
 have hW4 : RW t_dom_Part f [[.string ((bs [])), .string ((bs [120])), (.slice none 0 0), (.slice none 0 0)]] [({Name := (bs []), Text := (bs [120]), Attrs := ([] : List api_Attr), Kids := ([] : List dom_Part)} : dom_Part)] := RW.single (R_dom_Part.of (x := ({Name := (bs []), Text := (bs [120]), Attrs := ([] : List api_Attr), Kids := ([] : List dom_Part)} : dom_Part)) RS.nil RS.nil)
 generalize hgrw5 : ([[.string ((bs [])), .string ((bs [120])), (.slice none 0 0), (.slice none 0 0)]] : List (List Value)) = rw5 at hs hW4; clear hgrw5
 replace hs : St _ _ _ (.row v3 31 4 rw5 :: L) _ _ _ := hs
 refine sy hs (y_buildS (places := [(0, 1), (1, 1), (2, 1), (3, 1)]) (cs := [.string ((bs [117, 108])), .string ((bs [])), (.slice none 0 0), v3]) rfl Tryd.underlying31 ti31 (by kernel_rfl) (by decide) rfl ⟨rfl, (hs.one (i := 0) rfl), trivial⟩) ?_; clear hs; (try clear a w); intro a w hs
 obtain ⟨f12, hf13, hs2, hR14⟩ := hs.frzAt 0 rfl
 clear hs; have hs := hs2; clear hs2
 replace hW4 := hW4.le hf13
 replace hle := hle.trans hf13
 replace hs : St _ _ _ (L) _ _ _ := hs
 refine RL_bs1a hs rfl Tryd.underlying29 ti31 (by decide) (AllC.row ⟨rfl, rfl, rfl, hR14.one, trivial⟩ rfl) ?_; clear hs; (try clear a w); intro v10 a w hs
 have hW11 : RW t_dom_Part f12 [[.string ((bs [117, 108])), .string ((bs [])), (.slice none 0 0), v3]] [({Name := (bs [117, 108]), Text := (bs []), Attrs := ([] : List api_Attr), Kids := [({Name := (bs []), Text := (bs [120]), Attrs := ([] : List api_Attr), Kids := ([] : List dom_Part)} : dom_Part)]} : dom_Part)] := RW.single (R_dom_Part.of (x := ({Name := (bs [117, 108]), Text := (bs []), Attrs := ([] : List api_Attr), Kids := [({Name := (bs []), Text := (bs [120]), Attrs := ([] : List api_Attr), Kids := ([] : List dom_Part)} : dom_Part)]} : dom_Part)) RS.nil ⟨rw5, hR14, hW4⟩)
 generalize hgrw15 : ([[.string ((bs [117, 108])), .string ((bs [])), (.slice none 0 0), v3]] : List (List Value)) = rw15 at hs hW11; clear hgrw15
 replace hs : St _ _ _ (.row v10 31 4 rw15 :: L) _ _ _ := hs
 refine sy hs (y_buildS (places := [(0, 1), (1, 1), (2, 1), (3, 1)]) (cs := [.string ((bs [114, 111, 111, 116])), .string ((bs [])), (.slice none 0 0), v10]) rfl Tryd.underlying31 ti31 (by kernel_rfl) (by decide) rfl ⟨rfl, (hs.one (i := 0) rfl), trivial⟩) ?_; clear hs; (try clear a w); intro a w hs
 obtain ⟨f20, hf21, hs2, hR22⟩ := hs.frzAt 0 rfl
 clear hs; have hs := hs2; clear hs2
 replace hW4 := hW4.le hf21
 replace hR14 := hR14.le hf21
 replace hW11 := hW11.le hf21
 replace hle := hle.trans hf21
 replace hs : St _ _ _ (L) _ _ _ := hs
 obtain ⟨x23, hx24, hm⟩ := ob hm
 refine RL_callV hs rfl has5 rfl (dom_Make_ok n (f := f20) (a0 := [.string ((bs [114, 111, 111, 116])), .string ((bs [])), (.slice none 0 0), v10]) (R_dom_Part.of (x := ({Name := (bs [114, 111, 111, 116]), Text := (bs []), Attrs := ([] : List api_Attr), Kids := [({Name := (bs [117, 108]), Text := (bs []), Attrs := ([] : List api_Attr), Kids := [({Name := (bs []), Text := (bs [120]), Attrs := ([] : List api_Attr), Kids := ([] : List dom_Part)} : dom_Part)]} : dom_Part)]} : dom_Part)) RS.nil ⟨rw15, hR22, hW11⟩) hx24) ?_; clear hs; (try clear a w)
 rintro _ f25 _ a w hf26 ⟨r27, rfl, rfl, hq28⟩ hs
 replace hW4 := hW4.le hf26
 replace hR14 := hR14.le hf26
 replace hW11 := hW11.le hf26
 replace hR22 := hR22.le hf26
 replace hle := hle.trans hf26
 obtain ⟨v29, rfl, ⟨rw30, hR31, hW32⟩⟩ := hq28
 replace hs : St _ _ _ (L) _ _ _ := hs
 refine sy (v := .tuple #[.agg #[v29], .int .i64 (x23.2)]) hs (y_move rfl) ?_; clear hs; (try clear a w); intro a w hs
 refine sy (v := .agg #[v29]) hs (y_extract rfl rfl) ?_; clear hs; (try clear a w); intro a w hs
 refine sy (v := .int .i64 (x23.2)) hs (y_extract rfl rfl) ?_; clear hs; (try clear a w); intro a w hs
 refine RL_alloc hs ti24 (.free rfl) (by decide) ?_; clear hs; (try clear a w); intro b34 a w hs
 replace hs : St _ _ _ (.blk b34 (.cells #[(.slice none 0 0)] 24 (0, 0)) :: L) _ _ _ := hs
 refine RL_storeAll (i := 0) hs rfl rfl rfl ti24 ⟨rfl, rfl⟩ (AllC.arr (r := [v29]) ⟨hR31.one, trivial⟩) (.free rfl) ?_; clear hs; (try clear a w); intro a w hs
 replace hs : St _ _ _ (.blk b34 (.cells #[v29] 24 (0, 0)) :: L) _ _ _ := hs
 refine sy (v := .int .i64 (x23.2)) hs (y_assign rfl) ?_; clear hs; (try clear a w); intro a w hs
 refine RL_nil ?_
 refine hK2 _ _ ?_; clear hK2
 refine W_seq fun K3 hK3 => ?_
 refine W_region ?_
 refine sy hs (y_buildS (places := [(0, 1), (1, 1), (2, 1), (3, 1)]) (cs := [.string ((bs [100, 105, 118])), .string ((bs [])), (.slice none 0 0), (.slice none 0 0)]) rfl Tryd.underlying31 ti31 (by kernel_rfl) (by decide) rfl ⟨rfl, trivial⟩) ?_; clear hs; (try clear a w); intro a w hs
 refine RL_bs1a hs rfl Tryd.underlying29 ti31 (by decide) (AllC.row ⟨rfl, rfl, rfl, rfl, trivial⟩ rfl) ?_; clear hs; (try clear a w); intro v39 a w hs
 have hW40 : RW t_dom_Part f25 [[.string ((bs [100, 105, 118])), .string ((bs [])), (.slice none 0 0), (.slice none 0 0)]] [({Name := (bs [100, 105, 118]), Text := (bs []), Attrs := ([] : List api_Attr), Kids := ([] : List dom_Part)} : dom_Part)] := RW.single (R_dom_Part.of (x := ({Name := (bs [100, 105, 118]), Text := (bs []), Attrs := ([] : List api_Attr), Kids := ([] : List dom_Part)} : dom_Part)) RS.nil RS.nil)
 generalize hgrw41 : ([[.string ((bs [100, 105, 118])), .string ((bs [])), (.slice none 0 0), (.slice none 0 0)]] : List (List Value)) = rw41 at hs hW40; clear hgrw41
 replace hs : St _ _ _ (.row v39 31 4 rw41 :: .blk b34 (.cells #[v29] 24 (0, 0)) :: L) _ _ _ := hs
 refine sy hs (y_buildS (places := [(0, 1), (1, 1), (2, 1), (3, 1)]) (cs := [.string ((bs [112])), .string ((bs [])), (.slice none 0 0), v39]) rfl Tryd.underlying31 ti31 (by kernel_rfl) (by decide) rfl ⟨rfl, (hs.one (i := 0) rfl), trivial⟩) ?_; clear hs; (try clear a w); intro a w hs
 obtain ⟨f48, hf49, hs2, hR50⟩ := hs.frzAt 0 rfl
 clear hs; have hs := hs2; clear hs2
 replace hW4 := hW4.le hf49
 replace hR14 := hR14.le hf49
 replace hW11 := hW11.le hf49
 replace hR22 := hR22.le hf49
 replace hR31 := hR31.le hf49
 replace hW32 := hW32.le hf49
 replace hW40 := hW40.le hf49
 replace hle := hle.trans hf49
 replace hs : St _ _ _ (.blk b34 (.cells #[v29] 24 (0, 0)) :: L) _ _ _ := hs
 refine RL_bs1a hs rfl Tryd.underlying29 ti31 (by decide) (AllC.row ⟨rfl, rfl, rfl, hR50.one, trivial⟩ rfl) ?_; clear hs; (try clear a w); intro v46 a w hs
 have hW47 : RW t_dom_Part f48 [[.string ((bs [112])), .string ((bs [])), (.slice none 0 0), v39]] [({Name := (bs [112]), Text := (bs []), Attrs := ([] : List api_Attr), Kids := [({Name := (bs [100, 105, 118]), Text := (bs []), Attrs := ([] : List api_Attr), Kids := ([] : List dom_Part)} : dom_Part)]} : dom_Part)] := RW.single (R_dom_Part.of (x := ({Name := (bs [112]), Text := (bs []), Attrs := ([] : List api_Attr), Kids := [({Name := (bs [100, 105, 118]), Text := (bs []), Attrs := ([] : List api_Attr), Kids := ([] : List dom_Part)} : dom_Part)]} : dom_Part)) RS.nil ⟨rw41, hR50, hW40⟩)
 generalize hgrw51 : ([[.string ((bs [112])), .string ((bs [])), (.slice none 0 0), v39]] : List (List Value)) = rw51 at hs hW47; clear hgrw51
 replace hs : St _ _ _ (.row v46 31 4 rw51 :: .blk b34 (.cells #[v29] 24 (0, 0)) :: L) _ _ _ := hs
 refine sy hs (y_buildS (places := [(0, 1), (1, 1), (2, 1), (3, 1)]) (cs := [.string ((bs [114, 111, 111, 116])), .string ((bs [])), (.slice none 0 0), v46]) rfl Tryd.underlying31 ti31 (by kernel_rfl) (by decide) rfl ⟨rfl, (hs.one (i := 0) rfl), trivial⟩) ?_; clear hs; (try clear a w); intro a w hs
 obtain ⟨f56, hf57, hs2, hR58⟩ := hs.frzAt 0 rfl
 clear hs; have hs := hs2; clear hs2
 replace hW4 := hW4.le hf57
 replace hR14 := hR14.le hf57
 replace hW11 := hW11.le hf57
 replace hR22 := hR22.le hf57
 replace hR31 := hR31.le hf57
 replace hW32 := hW32.le hf57
 replace hW40 := hW40.le hf57
 replace hR50 := hR50.le hf57
 replace hW47 := hW47.le hf57
 replace hle := hle.trans hf57
 replace hs : St _ _ _ (.blk b34 (.cells #[v29] 24 (0, 0)) :: L) _ _ _ := hs
 obtain ⟨x59, hx60, hm⟩ := ob hm
 refine RL_callV hs rfl has5 rfl (dom_Make_ok n (f := f56) (a0 := [.string ((bs [114, 111, 111, 116])), .string ((bs [])), (.slice none 0 0), v46]) (R_dom_Part.of (x := ({Name := (bs [114, 111, 111, 116]), Text := (bs []), Attrs := ([] : List api_Attr), Kids := [({Name := (bs [112]), Text := (bs []), Attrs := ([] : List api_Attr), Kids := [({Name := (bs [100, 105, 118]), Text := (bs []), Attrs := ([] : List api_Attr), Kids := ([] : List dom_Part)} : dom_Part)]} : dom_Part)]} : dom_Part)) RS.nil ⟨rw51, hR58, hW47⟩) hx60) ?_; clear hs; (try clear a w)
 rintro _ f61 _ a w hf62 ⟨r63, rfl, rfl, hq64⟩ hs
 replace hW4 := hW4.le hf62
 replace hR14 := hR14.le hf62
 replace hW11 := hW11.le hf62
 replace hR22 := hR22.le hf62
 replace hR31 := hR31.le hf62
 replace hW32 := hW32.le hf62
 replace hW40 := hW40.le hf62
 replace hR50 := hR50.le hf62
 replace hW47 := hW47.le hf62
 replace hR58 := hR58.le hf62
 replace hle := hle.trans hf62
 obtain ⟨v65, rfl, ⟨rw66, hR67, hW68⟩⟩ := hq64
 replace hs : St _ _ _ (.blk b34 (.cells #[v29] 24 (0, 0)) :: L) _ _ _ := hs
 refine sy (v := .tuple #[.agg #[v65], .int .i64 (x59.2)]) hs (y_move rfl) ?_; clear hs; (try clear a w); intro a w hs
 refine sy (v := .agg #[v65]) hs (y_extract rfl rfl) ?_; clear hs; (try clear a w); intro a w hs
 refine sy (v := .int .i64 (x59.2)) hs (y_extract rfl rfl) ?_; clear hs; (try clear a w); intro a w hs
 refine RL_alloc hs ti24 (.free rfl) (by decide) ?_; clear hs; (try clear a w); intro b70 a w hs
 replace hs : St _ _ _ (.blk b70 (.cells #[(.slice none 0 0)] 24 (0, 0)) :: .blk b34 (.cells #[v29] 24 (0, 0)) :: L) _ _ _ := hs
 refine RL_storeAll (i := 0) hs rfl rfl rfl ti24 ⟨rfl, rfl⟩ (AllC.arr (r := [v65]) ⟨hR67.one, trivial⟩) (.free rfl) ?_; clear hs; (try clear a w); intro a w hs
 replace hs : St _ _ _ (.blk b70 (.cells #[v65] 24 (0, 0)) :: .blk b34 (.cells #[v29] 24 (0, 0)) :: L) _ _ _ := hs
 refine sy (v := .int .i64 (x59.2)) hs (y_assign rfl) ?_; clear hs; (try clear a w); intro a w hs
 refine RL_nil ?_
 refine hK3 _ _ ?_; clear hK3
 refine W_seq fun K4 hK4 => ?_
 refine W_region ?_
 refine sy hs (y_buildS (places := [(0, 1), (1, 1), (2, 1), (3, 1)]) (cs := [.string ((bs [98, 114])), .string ((bs [])), (.slice none 0 0), (.slice none 0 0)]) rfl Tryd.underlying31 ti31 (by kernel_rfl) (by decide) rfl ⟨rfl, trivial⟩) ?_; clear hs; (try clear a w); intro a w hs
 refine RL_bs1a hs rfl Tryd.underlying29 ti31 (by decide) (AllC.row ⟨rfl, rfl, rfl, rfl, trivial⟩ rfl) ?_; clear hs; (try clear a w); intro v75 a w hs
 have hW76 : RW t_dom_Part f61 [[.string ((bs [98, 114])), .string ((bs [])), (.slice none 0 0), (.slice none 0 0)]] [({Name := (bs [98, 114]), Text := (bs []), Attrs := ([] : List api_Attr), Kids := ([] : List dom_Part)} : dom_Part)] := RW.single (R_dom_Part.of (x := ({Name := (bs [98, 114]), Text := (bs []), Attrs := ([] : List api_Attr), Kids := ([] : List dom_Part)} : dom_Part)) RS.nil RS.nil)
 generalize hgrw77 : ([[.string ((bs [98, 114])), .string ((bs [])), (.slice none 0 0), (.slice none 0 0)]] : List (List Value)) = rw77 at hs hW76; clear hgrw77
 replace hs : St _ _ _ (.row v75 31 4 rw77 :: .blk b70 (.cells #[v65] 24 (0, 0)) :: .blk b34 (.cells #[v29] 24 (0, 0)) :: L) _ _ _ := hs
 refine sy hs (y_buildS (places := [(0, 1), (1, 1), (2, 1), (3, 1)]) (cs := [.string ((bs [114, 111, 111, 116])), .string ((bs [])), (.slice none 0 0), v75]) rfl Tryd.underlying31 ti31 (by kernel_rfl) (by decide) rfl ⟨rfl, (hs.one (i := 0) rfl), trivial⟩) ?_; clear hs; (try clear a w); intro a w hs
 obtain ⟨f82, hf83, hs2, hR84⟩ := hs.frzAt 0 rfl
 clear hs; have hs := hs2; clear hs2
 replace hW4 := hW4.le hf83
 replace hR14 := hR14.le hf83
 replace hW11 := hW11.le hf83
 replace hR22 := hR22.le hf83
 replace hR31 := hR31.le hf83
 replace hW32 := hW32.le hf83
 replace hW40 := hW40.le hf83
 replace hR50 := hR50.le hf83
 replace hW47 := hW47.le hf83
 replace hR58 := hR58.le hf83
 replace hR67 := hR67.le hf83
 replace hW68 := hW68.le hf83
 replace hW76 := hW76.le hf83
 replace hle := hle.trans hf83
 replace hs : St _ _ _ (.blk b70 (.cells #[v65] 24 (0, 0)) :: .blk b34 (.cells #[v29] 24 (0, 0)) :: L) _ _ _ := hs
 obtain ⟨x85, hx86, hm⟩ := ob hm
 refine RL_callV hs rfl has5 rfl (dom_Make_ok n (f := f82) (a0 := [.string ((bs [114, 111, 111, 116])), .string ((bs [])), (.slice none 0 0), v75]) (R_dom_Part.of (x := ({Name := (bs [114, 111, 111, 116]), Text := (bs []), Attrs := ([] : List api_Attr), Kids := [({Name := (bs [98, 114]), Text := (bs []), Attrs := ([] : List api_Attr), Kids := ([] : List dom_Part)} : dom_Part)]} : dom_Part)) RS.nil ⟨rw77, hR84, hW76⟩) hx86) ?_; clear hs; (try clear a w)
 rintro _ f87 _ a w hf88 ⟨r89, rfl, rfl, hq90⟩ hs
 replace hW4 := hW4.le hf88
 replace hR14 := hR14.le hf88
 replace hW11 := hW11.le hf88
 replace hR22 := hR22.le hf88
 replace hR31 := hR31.le hf88
 replace hW32 := hW32.le hf88
 replace hW40 := hW40.le hf88
 replace hR50 := hR50.le hf88
 replace hW47 := hW47.le hf88
 replace hR58 := hR58.le hf88
 replace hR67 := hR67.le hf88
 replace hW68 := hW68.le hf88
 replace hW76 := hW76.le hf88
 replace hR84 := hR84.le hf88
 replace hle := hle.trans hf88
 obtain ⟨v91, rfl, ⟨rw92, hR93, hW94⟩⟩ := hq90
 replace hs : St _ _ _ (.blk b70 (.cells #[v65] 24 (0, 0)) :: .blk b34 (.cells #[v29] 24 (0, 0)) :: L) _ _ _ := hs
 refine sy (v := .tuple #[.agg #[v91], .int .i64 (x85.2)]) hs (y_move rfl) ?_; clear hs; (try clear a w); intro a w hs
 refine sy (v := .agg #[v91]) hs (y_extract rfl rfl) ?_; clear hs; (try clear a w); intro a w hs
 refine sy (v := .int .i64 (x85.2)) hs (y_extract rfl rfl) ?_; clear hs; (try clear a w); intro a w hs
 refine RL_alloc hs ti24 (.free rfl) (by decide) ?_; clear hs; (try clear a w); intro b96 a w hs
 replace hs : St _ _ _ (.blk b96 (.cells #[(.slice none 0 0)] 24 (0, 0)) :: .blk b70 (.cells #[v65] 24 (0, 0)) :: .blk b34 (.cells #[v29] 24 (0, 0)) :: L) _ _ _ := hs
 refine RL_storeAll (i := 0) hs rfl rfl rfl ti24 ⟨rfl, rfl⟩ (AllC.arr (r := [v91]) ⟨hR93.one, trivial⟩) (.free rfl) ?_; clear hs; (try clear a w); intro a w hs
 replace hs : St _ _ _ (.blk b96 (.cells #[v91] 24 (0, 0)) :: .blk b70 (.cells #[v65] 24 (0, 0)) :: .blk b34 (.cells #[v29] 24 (0, 0)) :: L) _ _ _ := hs
 refine sy (v := .int .i64 (x85.2)) hs (y_assign rfl) ?_; clear hs; (try clear a w); intro a w hs
 refine RL_nil ?_
 refine hK4 _ _ ?_; clear hK4
 refine W_seq fun K5 hK5 => ?_
 refine W_region ?_
 refine sy hs (y_buildS (places := [(0, 1), (1, 1), (2, 1), (3, 1)]) (cs := [.string ((bs [])), .string ((bs [32])), (.slice none 0 0), (.slice none 0 0)]) rfl Tryd.underlying31 ti31 (by kernel_rfl) (by decide) rfl ⟨rfl, trivial⟩) ?_; clear hs; (try clear a w); intro a w hs
 refine RL_bs1a hs rfl Tryd.underlying29 ti31 (by decide) (AllC.row ⟨rfl, rfl, rfl, rfl, trivial⟩ rfl) ?_; clear hs; (try clear a w); intro v101 a w hs
 have hW102 : RW t_dom_Part f87 [[.string ((bs [])), .string ((bs [32])), (.slice none 0 0), (.slice none 0 0)]] [({Name := (bs []), Text := (bs [32]), Attrs := ([] : List api_Attr), Kids := ([] : List dom_Part)} : dom_Part)] := RW.single (R_dom_Part.of (x := ({Name := (bs []), Text := (bs [32]), Attrs := ([] : List api_Attr), Kids := ([] : List dom_Part)} : dom_Part)) RS.nil RS.nil)
 generalize hgrw103 : ([[.string ((bs [])), .string ((bs [32])), (.slice none 0 0), (.slice none 0 0)]] : List (List Value)) = rw103 at hs hW102; clear hgrw103
 replace hs : St _ _ _ (.row v101 31 4 rw103 :: .blk b96 (.cells #[v91] 24 (0, 0)) :: .blk b70 (.cells #[v65] 24 (0, 0)) :: .blk b34 (.cells #[v29] 24 (0, 0)) :: L) _ _ _ := hs
 refine sy hs (y_buildS (places := [(0, 1), (1, 1), (2, 1), (3, 1)]) (cs := [.string ((bs [116, 97, 98, 108, 101])), .string ((bs [])), (.slice none 0 0), v101]) rfl Tryd.underlying31 ti31 (by kernel_rfl) (by decide) rfl ⟨rfl, (hs.one (i := 0) rfl), trivial⟩) ?_; clear hs; (try clear a w); intro a w hs
 obtain ⟨f110, hf111, hs2, hR112⟩ := hs.frzAt 0 rfl
 clear hs; have hs := hs2; clear hs2
 replace hW4 := hW4.le hf111
 replace hR14 := hR14.le hf111
 replace hW11 := hW11.le hf111
 replace hR22 := hR22.le hf111
 replace hR31 := hR31.le hf111
 replace hW32 := hW32.le hf111
 replace hW40 := hW40.le hf111
 replace hR50 := hR50.le hf111
 replace hW47 := hW47.le hf111
 replace hR58 := hR58.le hf111
 replace hR67 := hR67.le hf111
 replace hW68 := hW68.le hf111
 replace hW76 := hW76.le hf111
 replace hR84 := hR84.le hf111
 replace hR93 := hR93.le hf111
 replace hW94 := hW94.le hf111
 replace hW102 := hW102.le hf111
 replace hle := hle.trans hf111
 replace hs : St _ _ _ (.blk b96 (.cells #[v91] 24 (0, 0)) :: .blk b70 (.cells #[v65] 24 (0, 0)) :: .blk b34 (.cells #[v29] 24 (0, 0)) :: L) _ _ _ := hs
 refine RL_bs1a hs rfl Tryd.underlying29 ti31 (by decide) (AllC.row ⟨rfl, rfl, rfl, hR112.one, trivial⟩ rfl) ?_; clear hs; (try clear a w); intro v108 a w hs
 have hW109 : RW t_dom_Part f110 [[.string ((bs [116, 97, 98, 108, 101])), .string ((bs [])), (.slice none 0 0), v101]] [({Name := (bs [116, 97, 98, 108, 101]), Text := (bs []), Attrs := ([] : List api_Attr), Kids := [({Name := (bs []), Text := (bs [32]), Attrs := ([] : List api_Attr), Kids := ([] : List dom_Part)} : dom_Part)]} : dom_Part)] := RW.single (R_dom_Part.of (x := ({Name := (bs [116, 97, 98, 108, 101]), Text := (bs []), Attrs := ([] : List api_Attr), Kids := [({Name := (bs []), Text := (bs [32]), Attrs := ([] : List api_Attr), Kids := ([] : List dom_Part)} : dom_Part)]} : dom_Part)) RS.nil ⟨rw103, hR112, hW102⟩)
 generalize hgrw113 : ([[.string ((bs [116, 97, 98, 108, 101])), .string ((bs [])), (.slice none 0 0), v101]] : List (List Value)) = rw113 at hs hW109; clear hgrw113
 replace hs : St _ _ _ (.row v108 31 4 rw113 :: .blk b96 (.cells #[v91] 24 (0, 0)) :: .blk b70 (.cells #[v65] 24 (0, 0)) :: .blk b34 (.cells #[v29] 24 (0, 0)) :: L) _ _ _ := hs
 refine sy hs (y_buildS (places := [(0, 1), (1, 1), (2, 1), (3, 1)]) (cs := [.string ((bs [114, 111, 111, 116])), .string ((bs [])), (.slice none 0 0), v108]) rfl Tryd.underlying31 ti31 (by kernel_rfl) (by decide) rfl ⟨rfl, (hs.one (i := 0) rfl), trivial⟩) ?_; clear hs; (try clear a w); intro a w hs
 obtain ⟨f118, hf119, hs2, hR120⟩ := hs.frzAt 0 rfl
 clear hs; have hs := hs2; clear hs2
 replace hW4 := hW4.le hf119
 replace hR14 := hR14.le hf119
 replace hW11 := hW11.le hf119
 replace hR22 := hR22.le hf119
 replace hR31 := hR31.le hf119
 replace hW32 := hW32.le hf119
 replace hW40 := hW40.le hf119
 replace hR50 := hR50.le hf119
 replace hW47 := hW47.le hf119
 replace hR58 := hR58.le hf119
 replace hR67 := hR67.le hf119
 replace hW68 := hW68.le hf119
 replace hW76 := hW76.le hf119
 replace hR84 := hR84.le hf119
 replace hR93 := hR93.le hf119
 replace hW94 := hW94.le hf119
 replace hW102 := hW102.le hf119
 replace hR112 := hR112.le hf119
 replace hW109 := hW109.le hf119
 replace hle := hle.trans hf119
 replace hs : St _ _ _ (.blk b96 (.cells #[v91] 24 (0, 0)) :: .blk b70 (.cells #[v65] 24 (0, 0)) :: .blk b34 (.cells #[v29] 24 (0, 0)) :: L) _ _ _ := hs
 obtain ⟨x121, hx122, hm⟩ := ob hm
 refine RL_callV hs rfl has5 rfl (dom_Make_ok n (f := f118) (a0 := [.string ((bs [114, 111, 111, 116])), .string ((bs [])), (.slice none 0 0), v108]) (R_dom_Part.of (x := ({Name := (bs [114, 111, 111, 116]), Text := (bs []), Attrs := ([] : List api_Attr), Kids := [({Name := (bs [116, 97, 98, 108, 101]), Text := (bs []), Attrs := ([] : List api_Attr), Kids := [({Name := (bs []), Text := (bs [32]), Attrs := ([] : List api_Attr), Kids := ([] : List dom_Part)} : dom_Part)]} : dom_Part)]} : dom_Part)) RS.nil ⟨rw113, hR120, hW109⟩) hx122) ?_; clear hs; (try clear a w)
 rintro _ f123 _ a w hf124 ⟨r125, rfl, rfl, hq126⟩ hs
 replace hW4 := hW4.le hf124
 replace hR14 := hR14.le hf124
 replace hW11 := hW11.le hf124
 replace hR22 := hR22.le hf124
 replace hR31 := hR31.le hf124
 replace hW32 := hW32.le hf124
 replace hW40 := hW40.le hf124
 replace hR50 := hR50.le hf124
 replace hW47 := hW47.le hf124
 replace hR58 := hR58.le hf124
 replace hR67 := hR67.le hf124
 replace hW68 := hW68.le hf124
 replace hW76 := hW76.le hf124
 replace hR84 := hR84.le hf124
 replace hR93 := hR93.le hf124
 replace hW94 := hW94.le hf124
 replace hW102 := hW102.le hf124
 replace hR112 := hR112.le hf124
 replace hW109 := hW109.le hf124
 replace hR120 := hR120.le hf124
 replace hle := hle.trans hf124
 obtain ⟨v127, rfl, ⟨rw128, hR129, hW130⟩⟩ := hq126
 replace hs : St _ _ _ (.blk b96 (.cells #[v91] 24 (0, 0)) :: .blk b70 (.cells #[v65] 24 (0, 0)) :: .blk b34 (.cells #[v29] 24 (0, 0)) :: L) _ _ _ := hs
 refine sy (v := .tuple #[.agg #[v127], .int .i64 (x121.2)]) hs (y_move rfl) ?_; clear hs; (try clear a w); intro a w hs
 refine sy (v := .agg #[v127]) hs (y_extract rfl rfl) ?_; clear hs; (try clear a w); intro a w hs
 refine sy (v := .int .i64 (x121.2)) hs (y_extract rfl rfl) ?_; clear hs; (try clear a w); intro a w hs
 refine RL_alloc hs ti24 (.free rfl) (by decide) ?_; clear hs; (try clear a w); intro b132 a w hs
 replace hs : St _ _ _ (.blk b132 (.cells #[(.slice none 0 0)] 24 (0, 0)) :: .blk b96 (.cells #[v91] 24 (0, 0)) :: .blk b70 (.cells #[v65] 24 (0, 0)) :: .blk b34 (.cells #[v29] 24 (0, 0)) :: L) _ _ _ := hs
 refine RL_storeAll (i := 0) hs rfl rfl rfl ti24 ⟨rfl, rfl⟩ (AllC.arr (r := [v127]) ⟨hR129.one, trivial⟩) (.free rfl) ?_; clear hs; (try clear a w); intro a w hs
 replace hs : St _ _ _ (.blk b132 (.cells #[v127] 24 (0, 0)) :: .blk b96 (.cells #[v91] 24 (0, 0)) :: .blk b70 (.cells #[v65] 24 (0, 0)) :: .blk b34 (.cells #[v29] 24 (0, 0)) :: L) _ _ _ := hs
 refine sy (v := .int .i64 (x121.2)) hs (y_assign rfl) ?_; clear hs; (try clear a w); intro a w hs
 refine RL_nil ?_
 refine hK5 _ _ ?_; clear hK5
 refine W_seq fun K6 hK6 => ?_
 refine W_region ?_
 refine sy hs (y_buildS (places := [(0, 1), (1, 1), (2, 1), (3, 1)]) (cs := [.string ((bs [100, 105, 118])), .string ((bs [])), (.slice none 0 0), (.slice none 0 0)]) rfl Tryd.underlying31 ti31 (by kernel_rfl) (by decide) rfl ⟨rfl, trivial⟩) ?_; clear hs; (try clear a w); intro a w hs
 obtain ⟨x137, hx138, hm⟩ := ob hm
 refine RL_callV hs rfl has5 rfl (dom_Make_ok n (f := f123) (a0 := [.string ((bs [100, 105, 118])), .string ((bs [])), (.slice none 0 0), (.slice none 0 0)]) (R_dom_Part.of (x := ({Name := (bs [100, 105, 118]), Text := (bs []), Attrs := ([] : List api_Attr), Kids := ([] : List dom_Part)} : dom_Part)) RS.nil RS.nil) hx138) ?_; clear hs; (try clear a w)
 rintro _ f139 _ a w hf140 ⟨r141, rfl, rfl, hq142⟩ hs
 replace hW4 := hW4.le hf140
 replace hR14 := hR14.le hf140
 replace hW11 := hW11.le hf140
 replace hR22 := hR22.le hf140
 replace hR31 := hR31.le hf140
 replace hW32 := hW32.le hf140
 replace hW40 := hW40.le hf140
 replace hR50 := hR50.le hf140
 replace hW47 := hW47.le hf140
 replace hR58 := hR58.le hf140
 replace hR67 := hR67.le hf140
 replace hW68 := hW68.le hf140
 replace hW76 := hW76.le hf140
 replace hR84 := hR84.le hf140
 replace hR93 := hR93.le hf140
 replace hW94 := hW94.le hf140
 replace hW102 := hW102.le hf140
 replace hR112 := hR112.le hf140
 replace hW109 := hW109.le hf140
 replace hR120 := hR120.le hf140
 replace hR129 := hR129.le hf140
 replace hW130 := hW130.le hf140
 replace hle := hle.trans hf140
 obtain ⟨v143, rfl, ⟨rw144, hR145, hW146⟩⟩ := hq142
 replace hs : St _ _ _ (.blk b132 (.cells #[v127] 24 (0, 0)) :: .blk b96 (.cells #[v91] 24 (0, 0)) :: .blk b70 (.cells #[v65] 24 (0, 0)) :: .blk b34 (.cells #[v29] 24 (0, 0)) :: L) _ _ _ := hs
 refine sy (v := .tuple #[.agg #[v143], .int .i64 (x137.2)]) hs (y_move rfl) ?_; clear hs; (try clear a w); intro a w hs
 refine sy (v := .agg #[v143]) hs (y_extract rfl rfl) ?_; clear hs; (try clear a w); intro a w hs
 refine sy (v := .int .i64 (x137.2)) hs (y_extract rfl rfl) ?_; clear hs; (try clear a w); intro a w hs
 refine RL_alloc hs ti24 (.free rfl) (by decide) ?_; clear hs; (try clear a w); intro b148 a w hs
 replace hs : St _ _ _ (.blk b148 (.cells #[(.slice none 0 0)] 24 (0, 0)) :: .blk b132 (.cells #[v127] 24 (0, 0)) :: .blk b96 (.cells #[v91] 24 (0, 0)) :: .blk b70 (.cells #[v65] 24 (0, 0)) :: .blk b34 (.cells #[v29] 24 (0, 0)) :: L) _ _ _ := hs
 refine RL_storeAll (i := 0) hs rfl rfl rfl ti24 ⟨rfl, rfl⟩ (AllC.arr (r := [v143]) ⟨hR145.one, trivial⟩) (.free rfl) ?_; clear hs; (try clear a w); intro a w hs
 replace hs : St _ _ _ (.blk b148 (.cells #[v143] 24 (0, 0)) :: .blk b132 (.cells #[v127] 24 (0, 0)) :: .blk b96 (.cells #[v91] 24 (0, 0)) :: .blk b70 (.cells #[v65] 24 (0, 0)) :: .blk b34 (.cells #[v29] 24 (0, 0)) :: L) _ _ _ := hs
 refine sy (v := .int .i64 (x137.2)) hs (y_assign rfl) ?_; clear hs; (try clear a w); intro a w hs
 refine RL_nil ?_
 refine hK6 _ _ ?_; clear hK6
 refine W_seq fun K7 hK7 => ?_
 refine W_post (fun a w => ∃ (y151 : Bool), law7_WriteNumbers_k1 y151 = some res ∧ St 98 w0 f139 (L) [(0, .bool (y151))] a w) ?_ ?_
 ·clear hs hm
  rintro a w ⟨y151, hm, hs⟩
  replace hs : St _ _ _ (L) _ _ _ := hs
  unfold law7_WriteNumbers_k1 at hm
  refine hK7 _ _ ?_; clear hK7
  refine W_ret ?_
  obtain rfl := Option.some.inj hm
  refine RtV1 hs rfl (rv_t hs rfl) ?_
  exact ⟨rfl, (hs.weak hle).cw⟩
 ·refine W_region ?_
  refine sy hs (y_ldB rfl Tryd.underlying24 rfl ti24 (.tail _ (.tail _ (.tail _ (.tail _ (.head _))))) rfl) ?_; clear hs; (try clear a w); intro a w hs
  obtain ⟨x152, hx153, hm⟩ := ob hm
  refine sy hs (y_call rfl has6 rfl (write_Canonical_ok n (f := f139) (a0 := [v29]) ⟨_, rfl, ⟨rw30, hR31, hW32⟩⟩ hx153)) ?_; clear hs; (try clear a w); intro a w hs
  refine sy (v := .bool ((!x152))) hs (y_not rfl) ?_; clear hs; (try clear a w); intro a w hs
  refine sy (v := .bool ((!x152))) hs (y_move rfl) ?_; clear hs; (try clear a w); intro a w hs
  refine St.split hs (t := 53) rfl (fun hg154 hq => ?_) (fun hg154 hq => ?_)
  ·clear hs; have hs := hq; clear hq
   replace hm := oc_t hg154 hm
   refine syg hs (y_ldB rfl Tryd.underlying24 rfl ti24 (.tail _ (.tail _ (.tail _ (.head _)))) rfl) ?_; clear hs; (try clear a w); intro a w hs
   obtain ⟨x155, hx156, hm⟩ := ob hm
   refine syg hs (y_call rfl has6 rfl (write_Canonical_ok n (f := f139) (a0 := [v65]) ⟨_, rfl, ⟨rw66, hR67, hW68⟩⟩ hx156)) ?_; clear hs; (try clear a w); intro a w hs
   refine syg (v := .bool ((!x155))) hs (y_not rfl) ?_; clear hs; (try clear a w); intro a w hs
   refine sy (v := .bool ((!x155))) hs (y_pick rfl rfl) ?_; clear hs; (try clear a w); intro a w hs
   refine sy (v := .bool ((!x155))) hs (y_move rfl) ?_; clear hs; (try clear a w); intro a w hs
   refine St.split hs (t := 58) rfl (fun hg157 hq => ?_) (fun hg157 hq => ?_)
   ·clear hs; have hs := hq; clear hq
    replace hm := oc_t hg157 hm
    refine syg hs (y_ldB rfl Tryd.underlying24 rfl ti24 (.tail _ (.tail _ (.head _))) rfl) ?_; clear hs; (try clear a w); intro a w hs
    obtain ⟨x158, hx159, hm⟩ := ob hm
    refine syg hs (y_call rfl has6 rfl (write_Canonical_ok n (f := f139) (a0 := [v91]) ⟨_, rfl, ⟨rw92, hR93, hW94⟩⟩ hx159)) ?_; clear hs; (try clear a w); intro a w hs
    refine sy (v := .bool (x158)) hs (y_pick rfl rfl) ?_; clear hs; (try clear a w); intro a w hs
    refine sy (v := .bool (x158)) hs (y_move rfl) ?_; clear hs; (try clear a w); intro a w hs
    refine St.split hs (t := 62) rfl (fun hg160 hq => ?_) (fun hg160 hq => ?_)
    ·clear hs; have hs := hq; clear hq
     replace hm := oc_t hg160 hm
     refine syg hs (y_ldB rfl Tryd.underlying24 rfl ti24 (.tail _ (.head _)) rfl) ?_; clear hs; (try clear a w); intro a w hs
     obtain ⟨x161, hx162, hm⟩ := ob hm
     refine syg hs (y_call rfl has6 rfl (write_Canonical_ok n (f := f139) (a0 := [v127]) ⟨_, rfl, ⟨rw128, hR129, hW130⟩⟩ hx162)) ?_; clear hs; (try clear a w); intro a w hs
     refine syg (v := .bool ((!x161))) hs (y_not rfl) ?_; clear hs; (try clear a w); intro a w hs
     refine sy (v := .bool ((!x161))) hs (y_pick rfl rfl) ?_; clear hs; (try clear a w); intro a w hs
     refine sy (v := .bool ((!x161))) hs (y_move rfl) ?_; clear hs; (try clear a w); intro a w hs
     refine St.split hs (t := 67) rfl (fun hg163 hq => ?_) (fun hg163 hq => ?_)
     ·clear hs; have hs := hq; clear hq
      replace hm := oc_t hg163 hm
      refine syg hs (y_ldB rfl Tryd.underlying24 rfl ti24 (.head _) rfl) ?_; clear hs; (try clear a w); intro a w hs
      obtain ⟨x164, hx165, hm⟩ := ob hm
      refine syg hs (y_call rfl has6 rfl (write_Canonical_ok n (f := f139) (a0 := [v143]) ⟨_, rfl, ⟨rw144, hR145, hW146⟩⟩ hx165)) ?_; clear hs; (try clear a w); intro a w hs
      refine syg (v := .bool ((!x164))) hs (y_not rfl) ?_; clear hs; (try clear a w); intro a w hs
      refine sy (v := .bool ((!x164))) hs (y_pick rfl rfl) ?_; clear hs; (try clear a w); intro a w hs
      refine sy (v := .bool ((!x164))) hs (y_move rfl) ?_; clear hs; (try clear a w); intro a w hs
      refine St.split hs (t := 72) rfl (fun hg166 hq => ?_) (fun hg166 hq => ?_)
      ·clear hs; have hs := hq; clear hq
       replace hm := oc_t hg166 hm
       refine syg hs (y_ldB rfl Tryd.underlying24 rfl ti24 (.tail _ (.tail _ (.head _))) rfl) ?_; clear hs; (try clear a w); intro a w hs
       obtain ⟨x167, hx168, hm⟩ := ob hm
       refine syg hs (y_call rfl has7 rfl (write_Markup_ok n (f := f139) (a0 := [v91]) ⟨_, rfl, ⟨rw92, hR93, hW94⟩⟩ hx168)) ?_; clear hs; (try clear a w); intro a w hs
       refine syg hs (y_seql rfl rfl) ?_; clear hs; (try clear a w); intro a w hs
       refine sy (v := .bool (decide (x167 = (bs [60, 98, 114, 62])))) hs (y_pick rfl rfl) ?_; clear hs; (try clear a w); intro a w hs
       refine sy (v := .bool (decide (x167 = (bs [60, 98, 114, 62])))) hs (y_move rfl) ?_; clear hs; (try clear a w); intro a w hs
       refine St.split hs (t := 77) rfl (fun hg169 hq => ?_) (fun hg169 hq => ?_)
       ·clear hs; have hs := hq; clear hq
        replace hm := oc_t hg169 hm
        refine syg hs (y_buildS (places := [(0, 1)]) (cs := [(.slice none 0 0)]) rfl Tryd.underlying24 ti24 (by kernel_rfl) (by decide) rfl trivial) ?_; clear hs; (try clear a w); intro a w hs
        obtain ⟨x171, hx172, hm⟩ := ob hm
        refine syg hs (y_call rfl has7 rfl (write_Markup_ok n (f := f139) (a0 := [(.slice none 0 0)]) ⟨_, rfl, RS.nil⟩ hx172)) ?_; clear hs; (try clear a w); intro a w hs
        refine syg hs (y_seql rfl rfl) ?_; clear hs; (try clear a w); intro a w hs
        refine sy (v := .bool (decide (x171 = (bs [])))) hs (y_pick rfl rfl) ?_; clear hs; (try clear a w); intro a w hs
        refine sy (v := .bool (decide (x171 = (bs [])))) hs (y_move rfl) ?_; clear hs; (try clear a w); intro a w hs
        refine St.split hs (t := 82) rfl (fun hg173 hq => ?_) (fun hg173 hq => ?_)
        ·clear hs; have hs := hq; clear hq
         replace hm := oc_t hg173 hm
         obtain ⟨x174, hx175, hm⟩ := ob hm
         refine syg hs (y_call rfl has8 rfl (write_Escape_ok n (f := f139)  hx175)) ?_; clear hs; (try clear a w); intro a w hs
         refine syg hs (y_seql rfl rfl) ?_; clear hs; (try clear a w); intro a w hs
         refine sy (v := .bool (decide (x174 = (bs [34, 38, 97, 109, 112, 59, 38, 108, 116, 59, 38, 103, 116, 59, 38, 110, 98, 115, 112, 59, 38, 35, 49, 51, 59])))) hs (y_pick rfl rfl) ?_; clear hs; (try clear a w); intro a w hs
         refine sy (v := .bool (decide (x174 = (bs [34, 38, 97, 109, 112, 59, 38, 108, 116, 59, 38, 103, 116, 59, 38, 110, 98, 115, 112, 59, 38, 35, 49, 51, 59])))) hs (y_move rfl) ?_; clear hs; (try clear a w); intro a w hs
         refine St.split hs (t := 86) rfl (fun hg176 hq => ?_) (fun hg176 hq => ?_)
         ·clear hs; have hs := hq; clear hq
          replace hm := oc_t hg176 hm
          obtain ⟨x177, hx178, hm⟩ := ob hm
          refine syg hs (y_call rfl has8 rfl (write_Escape_ok n (f := f139)  hx178)) ?_; clear hs; (try clear a w); intro a w hs
          refine syg hs (y_seql rfl rfl) ?_; clear hs; (try clear a w); intro a w hs
          refine sy (v := .bool (decide (x177 = (bs [38, 113, 117, 111, 116, 59])))) hs (y_pick rfl rfl) ?_; clear hs; (try clear a w); intro a w hs
          refine sy (v := .bool (decide (x177 = (bs [38, 113, 117, 111, 116, 59])))) hs (y_move rfl) ?_; clear hs; (try clear a w); intro a w hs
          refine St.split hs (t := 90) rfl (fun hg179 hq => ?_) (fun hg179 hq => ?_)
          ·clear hs; have hs := hq; clear hq
           replace hm := oc_t hg179 hm
           refine syg hs (y_buildS (places := [(0, 1)]) (cs := [(.slice none 0 0)]) rfl Tryd.underlying24 ti24 (by kernel_rfl) (by decide) rfl trivial) ?_; clear hs; (try clear a w); intro a w hs
           obtain ⟨x181, hx182, hm⟩ := ob hm
           refine syg hs (y_call rfl has6 rfl (write_Canonical_ok n (f := f139) (a0 := [(.slice none 0 0)]) ⟨_, rfl, RS.nil⟩ hx182)) ?_; clear hs; (try clear a w); intro a w hs
           refine syg (v := .bool ((!x181))) hs (y_not rfl) ?_; clear hs; (try clear a w); intro a w hs
           refine sy (v := .bool ((!x181))) hs (y_pick rfl rfl) ?_; clear hs; (try clear a w); intro a w hs
           refine sy (v := .bool ((!x181))) hs (y_move rfl) ?_; clear hs; (try clear a w); intro a w hs
           refine St.split hs (t := 95) rfl (fun hg183 hq => ?_) (fun hg183 hq => ?_)
           ·clear hs; have hs := hq; clear hq
            replace hm := oc_t hg183 hm
            obtain ⟨x184, hx185, hm⟩ := ob hm
            refine syg hs (y_call rfl has9 rfl (law7_known_ok n (f := f139)  hx185)) ?_; clear hs; (try clear a w); intro a w hs
            refine sy (v := .bool (x184)) hs (y_pick rfl rfl) ?_; clear hs; (try clear a w); intro a w hs
            refine sy (v := .bool (x184)) hs (y_assign rfl) ?_; clear hs; (try clear a w); intro a w hs
            refine RL_nil ?_
            exact ⟨x184, hm, hs.subs ⟨rfl, trivial⟩ (.cons _ (.cons _ (.cons _ (.cons _ (.cons _ (.refl _))))))⟩
           ·clear hs; have hs := hq; clear hq
            replace hm := oc_f hg183 hm
            refine sno hs ?_; clear hs; (try clear a w); intro a w hs
            refine sy (v := .bool (false)) hs (y_pick rfl rfl) ?_; clear hs; (try clear a w); intro a w hs
            refine sy (v := .bool (false)) hs (y_assign rfl) ?_; clear hs; (try clear a w); intro a w hs
            refine RL_nil ?_
            exact ⟨false, hm, hs.subs ⟨rfl, trivial⟩ (.cons _ (.cons _ (.cons _ (.cons _ (.cons _ (.refl _))))))⟩
          ·clear hs; have hs := hq; clear hq
           replace hm := oc_f hg179 hm
           refine sno hs ?_; clear hs; (try clear a w); intro a w hs
           refine sno hs ?_; clear hs; (try clear a w); intro a w hs
           refine sno hs ?_; clear hs; (try clear a w); intro a w hs
           refine sy (v := .bool (false)) hs (y_pick rfl rfl) ?_; clear hs; (try clear a w); intro a w hs
           refine sy (v := .bool (false)) hs (y_move rfl) ?_; clear hs; (try clear a w); intro a w hs
           refine sno hs ?_; clear hs; (try clear a w); intro a w hs
           refine sy (v := .bool (false)) hs (y_pick rfl rfl) ?_; clear hs; (try clear a w); intro a w hs
           refine sy (v := .bool (false)) hs (y_assign rfl) ?_; clear hs; (try clear a w); intro a w hs
           refine RL_nil ?_
           exact ⟨false, hm, hs.subs ⟨rfl, trivial⟩ (.cons _ (.cons _ (.cons _ (.cons _ (.cons _ (.refl _))))))⟩
         ·clear hs; have hs := hq; clear hq
          replace hm := oc_f hg176 hm
          refine sno hs ?_; clear hs; (try clear a w); intro a w hs
          refine sno hs ?_; clear hs; (try clear a w); intro a w hs
          refine sy (v := .bool (false)) hs (y_pick rfl rfl) ?_; clear hs; (try clear a w); intro a w hs
          refine sy (v := .bool (false)) hs (y_move rfl) ?_; clear hs; (try clear a w); intro a w hs
          refine sno hs ?_; clear hs; (try clear a w); intro a w hs
          refine sno hs ?_; clear hs; (try clear a w); intro a w hs
          refine sno hs ?_; clear hs; (try clear a w); intro a w hs
          refine sy (v := .bool (false)) hs (y_pick rfl rfl) ?_; clear hs; (try clear a w); intro a w hs
          refine sy (v := .bool (false)) hs (y_move rfl) ?_; clear hs; (try clear a w); intro a w hs
          refine sno hs ?_; clear hs; (try clear a w); intro a w hs
          refine sy (v := .bool (false)) hs (y_pick rfl rfl) ?_; clear hs; (try clear a w); intro a w hs
          refine sy (v := .bool (false)) hs (y_assign rfl) ?_; clear hs; (try clear a w); intro a w hs
          refine RL_nil ?_
          exact ⟨false, hm, hs.subs ⟨rfl, trivial⟩ (.cons _ (.cons _ (.cons _ (.cons _ (.cons _ (.refl _))))))⟩
        ·clear hs; have hs := hq; clear hq
         replace hm := oc_f hg173 hm
         refine sno hs ?_; clear hs; (try clear a w); intro a w hs
         refine sno hs ?_; clear hs; (try clear a w); intro a w hs
         refine sy (v := .bool (false)) hs (y_pick rfl rfl) ?_; clear hs; (try clear a w); intro a w hs
         refine sy (v := .bool (false)) hs (y_move rfl) ?_; clear hs; (try clear a w); intro a w hs
         refine sno hs ?_; clear hs; (try clear a w); intro a w hs
         refine sno hs ?_; clear hs; (try clear a w); intro a w hs
         refine sy (v := .bool (false)) hs (y_pick rfl rfl) ?_; clear hs; (try clear a w); intro a w hs
         refine sy (v := .bool (false)) hs (y_move rfl) ?_; clear hs; (try clear a w); intro a w hs
         refine sno hs ?_; clear hs; (try clear a w); intro a w hs
         refine sno hs ?_; clear hs; (try clear a w); intro a w hs
         refine sno hs ?_; clear hs; (try clear a w); intro a w hs
         refine sy (v := .bool (false)) hs (y_pick rfl rfl) ?_; clear hs; (try clear a w); intro a w hs
         refine sy (v := .bool (false)) hs (y_move rfl) ?_; clear hs; (try clear a w); intro a w hs
         refine sno hs ?_; clear hs; (try clear a w); intro a w hs
         refine sy (v := .bool (false)) hs (y_pick rfl rfl) ?_; clear hs; (try clear a w); intro a w hs
         refine sy (v := .bool (false)) hs (y_assign rfl) ?_; clear hs; (try clear a w); intro a w hs
         refine RL_nil ?_
         exact ⟨false, hm, hs.subs ⟨rfl, trivial⟩ (.cons _ (.cons _ (.cons _ (.cons _ (.cons _ (.refl _))))))⟩
       ·clear hs; have hs := hq; clear hq
        replace hm := oc_f hg169 hm
        refine sno hs ?_; clear hs; (try clear a w); intro a w hs
        refine sno hs ?_; clear hs; (try clear a w); intro a w hs
        refine sno hs ?_; clear hs; (try clear a w); intro a w hs
        refine sy (v := .bool (false)) hs (y_pick rfl rfl) ?_; clear hs; (try clear a w); intro a w hs
        refine sy (v := .bool (false)) hs (y_move rfl) ?_; clear hs; (try clear a w); intro a w hs
        refine sno hs ?_; clear hs; (try clear a w); intro a w hs
        refine sno hs ?_; clear hs; (try clear a w); intro a w hs
        refine sy (v := .bool (false)) hs (y_pick rfl rfl) ?_; clear hs; (try clear a w); intro a w hs
        refine sy (v := .bool (false)) hs (y_move rfl) ?_; clear hs; (try clear a w); intro a w hs
        refine sno hs ?_; clear hs; (try clear a w); intro a w hs
        refine sno hs ?_; clear hs; (try clear a w); intro a w hs
        refine sy (v := .bool (false)) hs (y_pick rfl rfl) ?_; clear hs; (try clear a w); intro a w hs
        refine sy (v := .bool (false)) hs (y_move rfl) ?_; clear hs; (try clear a w); intro a w hs
        refine sno hs ?_; clear hs; (try clear a w); intro a w hs
        refine sno hs ?_; clear hs; (try clear a w); intro a w hs
        refine sno hs ?_; clear hs; (try clear a w); intro a w hs
        refine sy (v := .bool (false)) hs (y_pick rfl rfl) ?_; clear hs; (try clear a w); intro a w hs
        refine sy (v := .bool (false)) hs (y_move rfl) ?_; clear hs; (try clear a w); intro a w hs
        refine sno hs ?_; clear hs; (try clear a w); intro a w hs
        refine sy (v := .bool (false)) hs (y_pick rfl rfl) ?_; clear hs; (try clear a w); intro a w hs
        refine sy (v := .bool (false)) hs (y_assign rfl) ?_; clear hs; (try clear a w); intro a w hs
        refine RL_nil ?_
        exact ⟨false, hm, hs.subs ⟨rfl, trivial⟩ (.cons _ (.cons _ (.cons _ (.cons _ (.cons _ (.refl _))))))⟩
      ·clear hs; have hs := hq; clear hq
       replace hm := oc_f hg166 hm
       refine sno hs ?_; clear hs; (try clear a w); intro a w hs
       refine sno hs ?_; clear hs; (try clear a w); intro a w hs
       refine sno hs ?_; clear hs; (try clear a w); intro a w hs
       refine sy (v := .bool (false)) hs (y_pick rfl rfl) ?_; clear hs; (try clear a w); intro a w hs
       refine sy (v := .bool (false)) hs (y_move rfl) ?_; clear hs; (try clear a w); intro a w hs
       refine sno hs ?_; clear hs; (try clear a w); intro a w hs
       refine sno hs ?_; clear hs; (try clear a w); intro a w hs
       refine sno hs ?_; clear hs; (try clear a w); intro a w hs
       refine sy (v := .bool (false)) hs (y_pick rfl rfl) ?_; clear hs; (try clear a w); intro a w hs
       refine sy (v := .bool (false)) hs (y_move rfl) ?_; clear hs; (try clear a w); intro a w hs
       refine sno hs ?_; clear hs; (try clear a w); intro a w hs
       refine sno hs ?_; clear hs; (try clear a w); intro a w hs
       refine sy (v := .bool (false)) hs (y_pick rfl rfl) ?_; clear hs; (try clear a w); intro a w hs
       refine sy (v := .bool (false)) hs (y_move rfl) ?_; clear hs; (try clear a w); intro a w hs
       refine sno hs ?_; clear hs; (try clear a w); intro a w hs
       refine sno hs ?_; clear hs; (try clear a w); intro a w hs
       refine sy (v := .bool (false)) hs (y_pick rfl rfl) ?_; clear hs; (try clear a w); intro a w hs
       refine sy (v := .bool (false)) hs (y_move rfl) ?_; clear hs; (try clear a w); intro a w hs
       refine sno hs ?_; clear hs; (try clear a w); intro a w hs
       refine sno hs ?_; clear hs; (try clear a w); intro a w hs
       refine sno hs ?_; clear hs; (try clear a w); intro a w hs
       refine sy (v := .bool (false)) hs (y_pick rfl rfl) ?_; clear hs; (try clear a w); intro a w hs
       refine sy (v := .bool (false)) hs (y_move rfl) ?_; clear hs; (try clear a w); intro a w hs
       refine sno hs ?_; clear hs; (try clear a w); intro a w hs
       refine sy (v := .bool (false)) hs (y_pick rfl rfl) ?_; clear hs; (try clear a w); intro a w hs
       refine sy (v := .bool (false)) hs (y_assign rfl) ?_; clear hs; (try clear a w); intro a w hs
       refine RL_nil ?_
       exact ⟨false, hm, hs.subs ⟨rfl, trivial⟩ (.cons _ (.cons _ (.cons _ (.cons _ (.cons _ (.refl _))))))⟩
     ·clear hs; have hs := hq; clear hq
      replace hm := oc_f hg163 hm
      refine sno hs ?_; clear hs; (try clear a w); intro a w hs
      refine sno hs ?_; clear hs; (try clear a w); intro a w hs
      refine sno hs ?_; clear hs; (try clear a w); intro a w hs
      refine sy (v := .bool (false)) hs (y_pick rfl rfl) ?_; clear hs; (try clear a w); intro a w hs
      refine sy (v := .bool (false)) hs (y_move rfl) ?_; clear hs; (try clear a w); intro a w hs
      refine sno hs ?_; clear hs; (try clear a w); intro a w hs
      refine sno hs ?_; clear hs; (try clear a w); intro a w hs
      refine sno hs ?_; clear hs; (try clear a w); intro a w hs
      refine sy (v := .bool (false)) hs (y_pick rfl rfl) ?_; clear hs; (try clear a w); intro a w hs
      refine sy (v := .bool (false)) hs (y_move rfl) ?_; clear hs; (try clear a w); intro a w hs
      refine sno hs ?_; clear hs; (try clear a w); intro a w hs
      refine sno hs ?_; clear hs; (try clear a w); intro a w hs
      refine sno hs ?_; clear hs; (try clear a w); intro a w hs
      refine sy (v := .bool (false)) hs (y_pick rfl rfl) ?_; clear hs; (try clear a w); intro a w hs
      refine sy (v := .bool (false)) hs (y_move rfl) ?_; clear hs; (try clear a w); intro a w hs
      refine sno hs ?_; clear hs; (try clear a w); intro a w hs
      refine sno hs ?_; clear hs; (try clear a w); intro a w hs
      refine sy (v := .bool (false)) hs (y_pick rfl rfl) ?_; clear hs; (try clear a w); intro a w hs
      refine sy (v := .bool (false)) hs (y_move rfl) ?_; clear hs; (try clear a w); intro a w hs
      refine sno hs ?_; clear hs; (try clear a w); intro a w hs
      refine sno hs ?_; clear hs; (try clear a w); intro a w hs
      refine sy (v := .bool (false)) hs (y_pick rfl rfl) ?_; clear hs; (try clear a w); intro a w hs
      refine sy (v := .bool (false)) hs (y_move rfl) ?_; clear hs; (try clear a w); intro a w hs
      refine sno hs ?_; clear hs; (try clear a w); intro a w hs
      refine sno hs ?_; clear hs; (try clear a w); intro a w hs
      refine sno hs ?_; clear hs; (try clear a w); intro a w hs
      refine sy (v := .bool (false)) hs (y_pick rfl rfl) ?_; clear hs; (try clear a w); intro a w hs
      refine sy (v := .bool (false)) hs (y_move rfl) ?_; clear hs; (try clear a w); intro a w hs
      refine sno hs ?_; clear hs; (try clear a w); intro a w hs
      refine sy (v := .bool (false)) hs (y_pick rfl rfl) ?_; clear hs; (try clear a w); intro a w hs
      refine sy (v := .bool (false)) hs (y_assign rfl) ?_; clear hs; (try clear a w); intro a w hs
      refine RL_nil ?_
      exact ⟨false, hm, hs.subs ⟨rfl, trivial⟩ (.cons _ (.cons _ (.cons _ (.cons _ (.cons _ (.refl _))))))⟩
    ·clear hs; have hs := hq; clear hq
     replace hm := oc_f hg160 hm
     refine sno hs ?_; clear hs; (try clear a w); intro a w hs
     refine sno hs ?_; clear hs; (try clear a w); intro a w hs
     refine sno hs ?_; clear hs; (try clear a w); intro a w hs
     refine sy (v := .bool (false)) hs (y_pick rfl rfl) ?_; clear hs; (try clear a w); intro a w hs
     refine sy (v := .bool (false)) hs (y_move rfl) ?_; clear hs; (try clear a w); intro a w hs
     refine sno hs ?_; clear hs; (try clear a w); intro a w hs
     refine sno hs ?_; clear hs; (try clear a w); intro a w hs
     refine sno hs ?_; clear hs; (try clear a w); intro a w hs
     refine sy (v := .bool (false)) hs (y_pick rfl rfl) ?_; clear hs; (try clear a w); intro a w hs
     refine sy (v := .bool (false)) hs (y_move rfl) ?_; clear hs; (try clear a w); intro a w hs
     refine sno hs ?_; clear hs; (try clear a w); intro a w hs
     refine sno hs ?_; clear hs; (try clear a w); intro a w hs
     refine sno hs ?_; clear hs; (try clear a w); intro a w hs
     refine sy (v := .bool (false)) hs (y_pick rfl rfl) ?_; clear hs; (try clear a w); intro a w hs
     refine sy (v := .bool (false)) hs (y_move rfl) ?_; clear hs; (try clear a w); intro a w hs
     refine sno hs ?_; clear hs; (try clear a w); intro a w hs
     refine sno hs ?_; clear hs; (try clear a w); intro a w hs
     refine sno hs ?_; clear hs; (try clear a w); intro a w hs
     refine sy (v := .bool (false)) hs (y_pick rfl rfl) ?_; clear hs; (try clear a w); intro a w hs
     refine sy (v := .bool (false)) hs (y_move rfl) ?_; clear hs; (try clear a w); intro a w hs
     refine sno hs ?_; clear hs; (try clear a w); intro a w hs
     refine sno hs ?_; clear hs; (try clear a w); intro a w hs
     refine sy (v := .bool (false)) hs (y_pick rfl rfl) ?_; clear hs; (try clear a w); intro a w hs
     refine sy (v := .bool (false)) hs (y_move rfl) ?_; clear hs; (try clear a w); intro a w hs
     refine sno hs ?_; clear hs; (try clear a w); intro a w hs
     refine sno hs ?_; clear hs; (try clear a w); intro a w hs
     refine sy (v := .bool (false)) hs (y_pick rfl rfl) ?_; clear hs; (try clear a w); intro a w hs
     refine sy (v := .bool (false)) hs (y_move rfl) ?_; clear hs; (try clear a w); intro a w hs
     refine sno hs ?_; clear hs; (try clear a w); intro a w hs
     refine sno hs ?_; clear hs; (try clear a w); intro a w hs
     refine sno hs ?_; clear hs; (try clear a w); intro a w hs
     refine sy (v := .bool (false)) hs (y_pick rfl rfl) ?_; clear hs; (try clear a w); intro a w hs
     refine sy (v := .bool (false)) hs (y_move rfl) ?_; clear hs; (try clear a w); intro a w hs
     refine sno hs ?_; clear hs; (try clear a w); intro a w hs
     refine sy (v := .bool (false)) hs (y_pick rfl rfl) ?_; clear hs; (try clear a w); intro a w hs
     refine sy (v := .bool (false)) hs (y_assign rfl) ?_; clear hs; (try clear a w); intro a w hs
     refine RL_nil ?_
     exact ⟨false, hm, hs.subs ⟨rfl, trivial⟩ (.cons _ (.cons _ (.cons _ (.cons _ (.cons _ (.refl _))))))⟩
   ·clear hs; have hs := hq; clear hq
    replace hm := oc_f hg157 hm
    refine sno hs ?_; clear hs; (try clear a w); intro a w hs
    refine sno hs ?_; clear hs; (try clear a w); intro a w hs
    refine sy (v := .bool (false)) hs (y_pick rfl rfl) ?_; clear hs; (try clear a w); intro a w hs
    refine sy (v := .bool (false)) hs (y_move rfl) ?_; clear hs; (try clear a w); intro a w hs
    refine sno hs ?_; clear hs; (try clear a w); intro a w hs
    refine sno hs ?_; clear hs; (try clear a w); intro a w hs
    refine sno hs ?_; clear hs; (try clear a w); intro a w hs
    refine sy (v := .bool (false)) hs (y_pick rfl rfl) ?_; clear hs; (try clear a w); intro a w hs
    refine sy (v := .bool (false)) hs (y_move rfl) ?_; clear hs; (try clear a w); intro a w hs
    refine sno hs ?_; clear hs; (try clear a w); intro a w hs
    refine sno hs ?_; clear hs; (try clear a w); intro a w hs
    refine sno hs ?_; clear hs; (try clear a w); intro a w hs
    refine sy (v := .bool (false)) hs (y_pick rfl rfl) ?_; clear hs; (try clear a w); intro a w hs
    refine sy (v := .bool (false)) hs (y_move rfl) ?_; clear hs; (try clear a w); intro a w hs
    refine sno hs ?_; clear hs; (try clear a w); intro a w hs
    refine sno hs ?_; clear hs; (try clear a w); intro a w hs
    refine sno hs ?_; clear hs; (try clear a w); intro a w hs
    refine sy (v := .bool (false)) hs (y_pick rfl rfl) ?_; clear hs; (try clear a w); intro a w hs
    refine sy (v := .bool (false)) hs (y_move rfl) ?_; clear hs; (try clear a w); intro a w hs
    refine sno hs ?_; clear hs; (try clear a w); intro a w hs
    refine sno hs ?_; clear hs; (try clear a w); intro a w hs
    refine sno hs ?_; clear hs; (try clear a w); intro a w hs
    refine sy (v := .bool (false)) hs (y_pick rfl rfl) ?_; clear hs; (try clear a w); intro a w hs
    refine sy (v := .bool (false)) hs (y_move rfl) ?_; clear hs; (try clear a w); intro a w hs
    refine sno hs ?_; clear hs; (try clear a w); intro a w hs
    refine sno hs ?_; clear hs; (try clear a w); intro a w hs
    refine sy (v := .bool (false)) hs (y_pick rfl rfl) ?_; clear hs; (try clear a w); intro a w hs
    refine sy (v := .bool (false)) hs (y_move rfl) ?_; clear hs; (try clear a w); intro a w hs
    refine sno hs ?_; clear hs; (try clear a w); intro a w hs
    refine sno hs ?_; clear hs; (try clear a w); intro a w hs
    refine sy (v := .bool (false)) hs (y_pick rfl rfl) ?_; clear hs; (try clear a w); intro a w hs
    refine sy (v := .bool (false)) hs (y_move rfl) ?_; clear hs; (try clear a w); intro a w hs
    refine sno hs ?_; clear hs; (try clear a w); intro a w hs
    refine sno hs ?_; clear hs; (try clear a w); intro a w hs
    refine sno hs ?_; clear hs; (try clear a w); intro a w hs
    refine sy (v := .bool (false)) hs (y_pick rfl rfl) ?_; clear hs; (try clear a w); intro a w hs
    refine sy (v := .bool (false)) hs (y_move rfl) ?_; clear hs; (try clear a w); intro a w hs
    refine sno hs ?_; clear hs; (try clear a w); intro a w hs
    refine sy (v := .bool (false)) hs (y_pick rfl rfl) ?_; clear hs; (try clear a w); intro a w hs
    refine sy (v := .bool (false)) hs (y_assign rfl) ?_; clear hs; (try clear a w); intro a w hs
    refine RL_nil ?_
    exact ⟨false, hm, hs.subs ⟨rfl, trivial⟩ (.cons _ (.cons _ (.cons _ (.cons _ (.cons _ (.refl _))))))⟩
  ·clear hs; have hs := hq; clear hq
   replace hm := oc_f hg154 hm
   refine sno hs ?_; clear hs; (try clear a w); intro a w hs
   refine sno hs ?_; clear hs; (try clear a w); intro a w hs
   refine sno hs ?_; clear hs; (try clear a w); intro a w hs
   refine sy (v := .bool (false)) hs (y_pick rfl rfl) ?_; clear hs; (try clear a w); intro a w hs
   refine sy (v := .bool (false)) hs (y_move rfl) ?_; clear hs; (try clear a w); intro a w hs
   refine sno hs ?_; clear hs; (try clear a w); intro a w hs
   refine sno hs ?_; clear hs; (try clear a w); intro a w hs
   refine sy (v := .bool (false)) hs (y_pick rfl rfl) ?_; clear hs; (try clear a w); intro a w hs
   refine sy (v := .bool (false)) hs (y_move rfl) ?_; clear hs; (try clear a w); intro a w hs
   refine sno hs ?_; clear hs; (try clear a w); intro a w hs
   refine sno hs ?_; clear hs; (try clear a w); intro a w hs
   refine sno hs ?_; clear hs; (try clear a w); intro a w hs
   refine sy (v := .bool (false)) hs (y_pick rfl rfl) ?_; clear hs; (try clear a w); intro a w hs
   refine sy (v := .bool (false)) hs (y_move rfl) ?_; clear hs; (try clear a w); intro a w hs
   refine sno hs ?_; clear hs; (try clear a w); intro a w hs
   refine sno hs ?_; clear hs; (try clear a w); intro a w hs
   refine sno hs ?_; clear hs; (try clear a w); intro a w hs
   refine sy (v := .bool (false)) hs (y_pick rfl rfl) ?_; clear hs; (try clear a w); intro a w hs
   refine sy (v := .bool (false)) hs (y_move rfl) ?_; clear hs; (try clear a w); intro a w hs
   refine sno hs ?_; clear hs; (try clear a w); intro a w hs
   refine sno hs ?_; clear hs; (try clear a w); intro a w hs
   refine sno hs ?_; clear hs; (try clear a w); intro a w hs
   refine sy (v := .bool (false)) hs (y_pick rfl rfl) ?_; clear hs; (try clear a w); intro a w hs
   refine sy (v := .bool (false)) hs (y_move rfl) ?_; clear hs; (try clear a w); intro a w hs
   refine sno hs ?_; clear hs; (try clear a w); intro a w hs
   refine sno hs ?_; clear hs; (try clear a w); intro a w hs
   refine sno hs ?_; clear hs; (try clear a w); intro a w hs
   refine sy (v := .bool (false)) hs (y_pick rfl rfl) ?_; clear hs; (try clear a w); intro a w hs
   refine sy (v := .bool (false)) hs (y_move rfl) ?_; clear hs; (try clear a w); intro a w hs
   refine sno hs ?_; clear hs; (try clear a w); intro a w hs
   refine sno hs ?_; clear hs; (try clear a w); intro a w hs
   refine sy (v := .bool (false)) hs (y_pick rfl rfl) ?_; clear hs; (try clear a w); intro a w hs
   refine sy (v := .bool (false)) hs (y_move rfl) ?_; clear hs; (try clear a w); intro a w hs
   refine sno hs ?_; clear hs; (try clear a w); intro a w hs
   refine sno hs ?_; clear hs; (try clear a w); intro a w hs
   refine sy (v := .bool (false)) hs (y_pick rfl rfl) ?_; clear hs; (try clear a w); intro a w hs
   refine sy (v := .bool (false)) hs (y_move rfl) ?_; clear hs; (try clear a w); intro a w hs
   refine sno hs ?_; clear hs; (try clear a w); intro a w hs
   refine sno hs ?_; clear hs; (try clear a w); intro a w hs
   refine sno hs ?_; clear hs; (try clear a w); intro a w hs
   refine sy (v := .bool (false)) hs (y_pick rfl rfl) ?_; clear hs; (try clear a w); intro a w hs
   refine sy (v := .bool (false)) hs (y_move rfl) ?_; clear hs; (try clear a w); intro a w hs
   refine sno hs ?_; clear hs; (try clear a w); intro a w hs
   refine sy (v := .bool (false)) hs (y_pick rfl rfl) ?_; clear hs; (try clear a w); intro a w hs
   refine sy (v := .bool (false)) hs (y_assign rfl) ?_; clear hs; (try clear a w); intro a w hs
   refine RL_nil ?_
   exact ⟨false, hm, hs.subs ⟨rfl, trivial⟩ (.cons _ (.cons _ (.cons _ (.cons _ (.cons _ (.refl _))))))⟩
end Go.Proofs.YtklcdfnhdljkjaaDoor
