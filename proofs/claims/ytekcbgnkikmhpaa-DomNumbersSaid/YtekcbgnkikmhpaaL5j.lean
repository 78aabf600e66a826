/-
  Walks and laws of this seat; the base is the text Base.
-/
import Derived.Test.YtekcbgnkikmhpaaL5h
/-
  Models of functions, and that the functions compute them. Printed by lift.py.
-/
namespace Go.Proofs.Ytekcbgnkikmhpaa
open Go.RowKit Go.Sl

/-! casement/casementlaw5.DomNumbers -/
def law5_DomNumbers_k4 (y189 : Bool) : Option Bool :=
  some y189
def law5_DomNumbers_k3 : Option Bool :=
  some false
def law5_DomNumbers_r2 (n : Nat) (x5 : (api_Tree × Int)) (x21 : (api_Tree × Int)) (x47 : (api_Tree × Int)) (x79 : (api_Tree × Int)) (x103 : (api_Tree × Int)) (x131 : (api_Tree × Int)) (x145 : (api_Tree × Int)) (x159 : (ByteArray × Bool)) : List Int → Option Bool
  | [] =>
  (bif (decide (x5.2 = 10)) then (bif (decide (x21.2 = 10)) then (bif (decide (x47.2 = 10)) then (bif (decide (x79.2 = 0)) then (bif (decide (x103.2 = 5)) then (bif (decide (x131.2 = 4)) then (dom_Right n ({Nodes := ([] : List api_Node)} : api_Tree)).bind fun x198 =>
  (bif (decide (x198 = 10)) then (dom_Kids n x145.1 1).bind fun x201 =>
  (bif (decide ((x201.length : Int) = 0)) then (bif (!x159.2) then (dom_Depth n x145.1 9).bind fun x212 =>
  (bif (decide (x212 = 0)) then (dom_Index n x145.1 1).bind fun x215 =>
  (bif (decide (x215 = 0)) then (dom_Index n x145.1 0).bind fun x218 =>
  (bif (decide (x218 = 1)) then (law5_known n).bind fun x221 =>
  law5_DomNumbers_k4 x221 else
  law5_DomNumbers_k4 false) else
  law5_DomNumbers_k4 false) else
  law5_DomNumbers_k4 false) else
  law5_DomNumbers_k4 false) else
  law5_DomNumbers_k4 false) else
  law5_DomNumbers_k4 false) else
  law5_DomNumbers_k4 false) else
  law5_DomNumbers_k4 false) else
  law5_DomNumbers_k4 false) else
  law5_DomNumbers_k4 false) else
  law5_DomNumbers_k4 false) else
  law5_DomNumbers_k4 false)
  | _x183 :: _rm182 =>
  law5_DomNumbers_k3
def law5_DomNumbers_k1 (n : Nat) (x5 : (api_Tree × Int)) (x21 : (api_Tree × Int)) (x47 : (api_Tree × Int)) (y70 : (List dom_Part)) : Option Bool :=
  (dom_Make n ({Name := (bs [97]), Text := (bs []), Attrs := ([] : List api_Attr), Kids := y70} : dom_Part)).bind fun x79 =>
  (dom_Make n ({Name := (bs [97]), Text := (bs []), Attrs := ([] : List api_Attr), Kids := [({Name := (bs [97]), Text := (bs []), Attrs := ([] : List api_Attr), Kids := y70} : dom_Part)]} : dom_Part)).bind fun x103 =>
  (repM 80 4096 ({Name := (bs []), Text := (bs []), Attrs := ([] : (List api_Attr)), Kids := ([] : (List dom_Part))} : dom_Part)).bind fun x117 =>
  (dom_Make n ({Name := (bs [97]), Text := (bs []), Attrs := ([] : List api_Attr), Kids := x117} : dom_Part)).bind fun x131 =>
  (law5_sample n).bind fun x145 =>
  (dom_Attr n x145.1 0 (bs [120])).bind fun x159 =>
  (dom_All n x145.1 (-1)).bind fun x161 =>
  (dom_All_1 n x161.1 x161.2).bind fun x180 =>
  law5_DomNumbers_r2 n x5 x21 x47 x79 x103 x131 x145 x159 x180
def law5_DomNumbers_l5 (n : Nat) (x5 : (api_Tree × Int)) (x21 : (api_Tree × Int)) (x47 : (api_Tree × Int)) : Nat → (List dom_Part) → Int → Option Bool
  | 0, _, _ => none
  | k242 + 1, y232, y237 =>
  (bif (decide (y237 < 256)) then (law5_DomNumbers_l5 n x5 x21 x47 k242) [({Name := (bs [97]), Text := (bs []), Attrs := ([] : List api_Attr), Kids := y232} : dom_Part)] (w64 (y237 + 1)) else
  law5_DomNumbers_k1 n x5 x21 x47 y232)
def law5_DomNumbers (n : Nat) : Option Bool :=
  (dom_Make n ({Name := (bs []), Text := (bs [120]), Attrs := ([] : List api_Attr), Kids := ([] : List dom_Part)} : dom_Part)).bind fun x5 =>
  (dom_Make n ({Name := (bs []), Text := (bs []), Attrs := ([] : List api_Attr), Kids := ([] : List dom_Part)} : dom_Part)).bind fun x21 =>
  (dom_Make n ({Name := (bs [97]), Text := (bs []), Attrs := ([] : List api_Attr), Kids := [({Name := (bs []), Text := (bs []), Attrs := ([] : List api_Attr), Kids := ([] : List dom_Part)} : dom_Part)]} : dom_Part)).bind fun x47 =>
  law5_DomNumbers_l5 n x5 x21 x47 n ([] : List dom_Part) 1
theorem law5_DomNumbers_ok (n : Nat) {f : Fz}  {res : Bool}  (hm : law5_DomNumbers n = some res) : Gives Try.prog 8 [] f (.bool res) := by
 unfold law5_DomNumbers at hm
 intro w0 L w hC
 refine enter1 Try.func8 rfl Try.ntmps8 (by simp) hC fun a hs => ?_
 have hM : Marks f f [] := Marks.nil
 have hle := Fz.le.refl f
 refine W1_seq fun K1 hK1 => ?_
 refine W1_of ?_
 refine W_region ?_
 refine RL_alloc hs ti4 (.free rfl) (by decide) ?_; clear hs; (try clear a w); intro b1 a w hs
 replace hs : St _ _ _ (.blk b1 (.cells #[.bool (false)] 4 (0, 0)) :: L) _ _ _ := hs
 refine RL_nil ?_
 refine hK1 _ _ _ ?_; clear hK1
 refine W1_seq fun K2 hK2 => ?_
 refine W1_of ?_
 refine W_region ?_
 refine sy hs (y_buildS (places := [(0, 1), (1, 1), (2, 1), (3, 1)]) (cs := [.string ((bs [])), .string ((bs [120])), (.slice none 0 0), (.slice none 0 0)]) rfl Try.underlying35 ti35 (by kernel_rfl) (by decide) rfl ⟨rfl, trivial⟩) ?_; clear hs; (try clear a w); intro a w hs
 obtain ⟨x5, hx6, hm⟩ := ob hm
 refine RL_callV hs rfl has16 rfl (dom_Make_ok n (f := f) (a0 := [.string ((bs [])), .string ((bs [120])), (.slice none 0 0), (.slice none 0 0)]) (R_dom_Part.of (x := ({Name := (bs []), Text := (bs [120]), Attrs := ([] : List api_Attr), Kids := ([] : List dom_Part)} : dom_Part)) RS.nil RS.nil) hx6) ?_; clear hs; (try clear a w)
 rintro _ f7 _ a w hf8 ⟨r9, rfl, rfl, hq10⟩ hs
 replace hle := hle.trans hf8
 replace hM := hM.le hf8
 obtain ⟨v11, rfl, ⟨rw12, hR13, hW14⟩⟩ := hq10
 replace hs : St _ _ _ (.blk b1 (.cells #[.bool (false)] 4 (0, 0)) :: L) _ _ _ := hs
 refine sy (v := .tuple #[.agg #[v11], .int .i64 (x5.2)]) hs (y_move rfl) ?_; clear hs; (try clear a w); intro a w hs
 refine sy (v := .agg #[v11]) hs (y_extract rfl rfl) ?_; clear hs; (try clear a w); intro a w hs
 refine sy (v := .int .i64 (x5.2)) hs (y_extract rfl rfl) ?_; clear hs; (try clear a w); intro a w hs
 refine RL_alloc hs ti24 (.free rfl) (by decide) ?_; clear hs; (try clear a w); intro b16 a w hs
 replace hs : St _ _ _ (.blk b16 (.cells #[(.slice none 0 0)] 24 (0, 0)) :: .blk b1 (.cells #[.bool (false)] 4 (0, 0)) :: L) _ _ _ := hs
 refine RL_storeAll (i := 0) hs rfl rfl rfl ti24 ⟨rfl, rfl⟩ (AllC.arr (r := [v11]) ⟨hR13.one, trivial⟩) (.free rfl) ?_; clear hs; (try clear a w); intro a w hs
 replace hs : St _ _ _ (.blk b16 (.cells #[v11] 24 (0, 0)) :: .blk b1 (.cells #[.bool (false)] 4 (0, 0)) :: L) _ _ _ := hs
 refine sy (v := .int .i64 (x5.2)) hs (y_assign rfl) ?_; clear hs; (try clear a w); intro a w hs
 refine RL_nil ?_
 refine hK2 _ _ _ ?_; clear hK2
 refine W1_seq fun K3 hK3 => ?_
 refine W1_of ?_
 refine W_region ?_
 refine sy hs (y_buildS (places := [(0, 1), (1, 1), (2, 1), (3, 1)]) (cs := [.string ((bs [])), .string ((bs [])), (.slice none 0 0), (.slice none 0 0)]) rfl Try.underlying35 ti35 (by kernel_rfl) (by decide) rfl trivial) ?_; clear hs; (try clear a w); intro a w hs
 obtain ⟨x21, hx22, hm⟩ := ob hm
 refine RL_callV hs rfl has16 rfl (dom_Make_ok n (f := f7) (a0 := [.string ((bs [])), .string ((bs [])), (.slice none 0 0), (.slice none 0 0)]) (R_dom_Part.of (x := ({Name := (bs []), Text := (bs []), Attrs := ([] : List api_Attr), Kids := ([] : List dom_Part)} : dom_Part)) RS.nil RS.nil) hx22) ?_; clear hs; (try clear a w)
 rintro _ f23 _ a w hf24 ⟨r25, rfl, rfl, hq26⟩ hs
 replace hR13 := hR13.le hf24
 replace hW14 := hW14.le hf24
 replace hle := hle.trans hf24
 replace hM := hM.le hf24
 obtain ⟨v27, rfl, ⟨rw28, hR29, hW30⟩⟩ := hq26
 replace hs : St _ _ _ (.blk b16 (.cells #[v11] 24 (0, 0)) :: .blk b1 (.cells #[.bool (false)] 4 (0, 0)) :: L) _ _ _ := hs
 refine sy (v := .tuple #[.agg #[v27], .int .i64 (x21.2)]) hs (y_move rfl) ?_; clear hs; (try clear a w); intro a w hs
 refine sy (v := .agg #[v27]) hs (y_extract rfl rfl) ?_; clear hs; (try clear a w); intro a w hs
 refine sy (v := .int .i64 (x21.2)) hs (y_extract rfl rfl) ?_; clear hs; (try clear a w); intro a w hs
 refine RL_alloc hs ti24 (.free rfl) (by decide) ?_; clear hs; (try clear a w); intro b32 a w hs
 replace hs : St _ _ _ (.blk b32 (.cells #[(.slice none 0 0)] 24 (0, 0)) :: .blk b16 (.cells #[v11] 24 (0, 0)) :: .blk b1 (.cells #[.bool (false)] 4 (0, 0)) :: L) _ _ _ := hs
 refine RL_storeAll (i := 0) hs rfl rfl rfl ti24 ⟨rfl, rfl⟩ (AllC.arr (r := [v27]) ⟨hR29.one, trivial⟩) (.free rfl) ?_; clear hs; (try clear a w); intro a w hs
 replace hs : St _ _ _ (.blk b32 (.cells #[v27] 24 (0, 0)) :: .blk b16 (.cells #[v11] 24 (0, 0)) :: .blk b1 (.cells #[.bool (false)] 4 (0, 0)) :: L) _ _ _ := hs
 refine sy (v := .int .i64 (x21.2)) hs (y_assign rfl) ?_; clear hs; (try clear a w); intro a w hs
 refine RL_nil ?_
 refine hK3 _ _ _ ?_; clear hK3
 refine W1_seq fun K4 hK4 => ?_
 refine W1_of ?_
 refine W_region ?_
 refine sy hs (y_buildS (places := [(0, 1), (1, 1), (2, 1), (3, 1)]) (cs := [.string ((bs [])), .string ((bs [])), (.slice none 0 0), (.slice none 0 0)]) rfl Try.underlying35 ti35 (by kernel_rfl) (by decide) rfl trivial) ?_; clear hs; (try clear a w); intro a w hs
 refine RL_bs1a hs rfl Try.underlying33 ti35 (by decide) (AllC.row ⟨rfl, rfl, rfl, rfl, trivial⟩ rfl) ?_; clear hs; (try clear a w); intro v37 a w hs
 have hW38 : RW t_dom_Part f23 [[.string ((bs [])), .string ((bs [])), (.slice none 0 0), (.slice none 0 0)]] [({Name := (bs []), Text := (bs []), Attrs := ([] : List api_Attr), Kids := ([] : List dom_Part)} : dom_Part)] := RW.single (R_dom_Part.of (x := ({Name := (bs []), Text := (bs []), Attrs := ([] : List api_Attr), Kids := ([] : List dom_Part)} : dom_Part)) RS.nil RS.nil)
 generalize hgrw39 : ([[.string ((bs [])), .string ((bs [])), (.slice none 0 0), (.slice none 0 0)]] : List (List Value)) = rw39 at hs hW38; clear hgrw39
 replace hs : St _ _ _ (.row v37 35 4 rw39 :: .blk b32 (.cells #[v27] 24 (0, 0)) :: .blk b16 (.cells #[v11] 24 (0, 0)) :: .blk b1 (.cells #[.bool (false)] 4 (0, 0)) :: L) _ _ _ := hs
 refine sy hs (y_buildS (places := [(0, 1), (1, 1), (2, 1), (3, 1)]) (cs := [.string ((bs [97])), .string ((bs [])), (.slice none 0 0), v37]) rfl Try.underlying35 ti35 (by kernel_rfl) (by decide) rfl ⟨rfl, (hs.one (i := 0) rfl), trivial⟩) ?_; clear hs; (try clear a w); intro a w hs
 obtain ⟨f44, hf45, hs2, hR46⟩ := hs.frzAt 0 rfl
 clear hs; have hs := hs2; clear hs2
 replace hR13 := hR13.le hf45
 replace hW14 := hW14.le hf45
 replace hR29 := hR29.le hf45
 replace hW30 := hW30.le hf45
 replace hW38 := hW38.le hf45
 replace hle := hle.trans hf45
 replace hM := hM.le hf45
 replace hs : St _ _ _ (.blk b32 (.cells #[v27] 24 (0, 0)) :: .blk b16 (.cells #[v11] 24 (0, 0)) :: .blk b1 (.cells #[.bool (false)] 4 (0, 0)) :: L) _ _ _ := hs
 obtain ⟨x47, hx48, hm⟩ := ob hm
 refine RL_callV hs rfl has16 rfl (dom_Make_ok n (f := f44) (a0 := [.string ((bs [97])), .string ((bs [])), (.slice none 0 0), v37]) (R_dom_Part.of (x := ({Name := (bs [97]), Text := (bs []), Attrs := ([] : List api_Attr), Kids := [({Name := (bs []), Text := (bs []), Attrs := ([] : List api_Attr), Kids := ([] : List dom_Part)} : dom_Part)]} : dom_Part)) RS.nil ⟨rw39, hR46, hW38⟩) hx48) ?_; clear hs; (try clear a w)
 rintro _ f49 _ a w hf50 ⟨r51, rfl, rfl, hq52⟩ hs
 replace hR13 := hR13.le hf50
 replace hW14 := hW14.le hf50
 replace hR29 := hR29.le hf50
 replace hW30 := hW30.le hf50
 replace hW38 := hW38.le hf50
 replace hR46 := hR46.le hf50
 replace hle := hle.trans hf50
 replace hM := hM.le hf50
 obtain ⟨v53, rfl, ⟨rw54, hR55, hW56⟩⟩ := hq52
 replace hs : St _ _ _ (.blk b32 (.cells #[v27] 24 (0, 0)) :: .blk b16 (.cells #[v11] 24 (0, 0)) :: .blk b1 (.cells #[.bool (false)] 4 (0, 0)) :: L) _ _ _ := hs
 refine sy (v := .tuple #[.agg #[v53], .int .i64 (x47.2)]) hs (y_move rfl) ?_; clear hs; (try clear a w); intro a w hs
 refine sy (v := .agg #[v53]) hs (y_extract rfl rfl) ?_; clear hs; (try clear a w); intro a w hs
 refine sy (v := .int .i64 (x47.2)) hs (y_extract rfl rfl) ?_; clear hs; (try clear a w); intro a w hs
 refine RL_alloc hs ti24 (.free rfl) (by decide) ?_; clear hs; (try clear a w); intro b58 a w hs
 replace hs : St _ _ _ (.blk b58 (.cells #[(.slice none 0 0)] 24 (0, 0)) :: .blk b32 (.cells #[v27] 24 (0, 0)) :: .blk b16 (.cells #[v11] 24 (0, 0)) :: .blk b1 (.cells #[.bool (false)] 4 (0, 0)) :: L) _ _ _ := hs
 refine RL_storeAll (i := 0) hs rfl rfl rfl ti24 ⟨rfl, rfl⟩ (AllC.arr (r := [v53]) ⟨hR55.one, trivial⟩) (.free rfl) ?_; clear hs; (try clear a w); intro a w hs
 replace hs : St _ _ _ (.blk b58 (.cells #[v53] 24 (0, 0)) :: .blk b32 (.cells #[v27] 24 (0, 0)) :: .blk b16 (.cells #[v11] 24 (0, 0)) :: .blk b1 (.cells #[.bool (false)] 4 (0, 0)) :: L) _ _ _ := hs
 refine sy (v := .int .i64 (x47.2)) hs (y_assign rfl) ?_; clear hs; (try clear a w); intro a w hs
 refine RL_nil ?_
 refine hK4 _ _ _ ?_; clear hK4
 refine W1_seq fun K5 hK5 => ?_
 refine W1_of ?_
 refine W_region ?_
 refine sy hs (y_buildS (places := [(0, 1), (1, 1), (2, 1), (3, 1)]) (cs := [.string ((bs [97])), .string ((bs [])), (.slice none 0 0), (.slice none 0 0)]) rfl Try.underlying35 ti35 (by kernel_rfl) (by decide) rfl ⟨rfl, trivial⟩) ?_; clear hs; (try clear a w); intro a w hs
 refine RL_alloc hs ti35 (.free rfl) (by decide) ?_; clear hs; (try clear a w); intro b63 a w hs
 replace hs : St _ _ _ (.blk b63 (.cells #[.string ((bs [])), .string ((bs [])), (.slice none 0 0), (.slice none 0 0)] 35 (0, 0)) :: .blk b58 (.cells #[v53] 24 (0, 0)) :: .blk b32 (.cells #[v27] 24 (0, 0)) :: .blk b16 (.cells #[v11] 24 (0, 0)) :: .blk b1 (.cells #[.bool (false)] 4 (0, 0)) :: L) _ _ _ := hs
 refine RL_storeAll (i := 0) hs rfl rfl rfl ti35 ⟨rfl, rfl⟩ (AllC.arr (r := [.string ((bs [97])), .string ((bs [])), (.slice none 0 0), (.slice none 0 0)]) ⟨rfl, rfl, rfl, rfl, trivial⟩) (.free rfl) ?_; clear hs; (try clear a w); intro a w hs
 replace hs : St _ _ _ (.blk b63 (.cells #[.string ((bs [97])), .string ((bs [])), (.slice none 0 0), (.slice none 0 0)] 35 (0, 0)) :: .blk b58 (.cells #[v53] 24 (0, 0)) :: .blk b32 (.cells #[v27] 24 (0, 0)) :: .blk b16 (.cells #[v11] 24 (0, 0)) :: .blk b1 (.cells #[.bool (false)] 4 (0, 0)) :: L) _ _ _ := hs
 refine RL_nil ?_
 refine hK5 _ _ _ ?_; clear hK5
 refine W1_seq fun K6 hK6 => ?_
 refine W1_of ?_
 refine W_seq fun K7 hK7 => ?_
 refine W_region ?_
 refine sy (v := .int .i64 (1)) hs (y_assign rfl) ?_; clear hs; (try clear a w); intro a w hs
 refine RL_nil ?_
 refine hK7 _ _ ?_; clear hK7
 have hbase75 := Fz.le.refl f49
 refine W_post (fun a w => ∃ (f67 : Fz) (y70 : (List dom_Part)) (v71 : Value) (rw72 : List (List Value)), Fz.le f49 f67 ∧ law5_DomNumbers_k1 n x5 x21 x47 y70 = some res ∧ RW t_dom_Part f67 rw72 y70 ∧ St 133 w0 f67 (.row v71 35 4 rw72 :: .blk b63 (.cells #[.string ((bs [97])), .string ((bs [])), (.slice none 0 0), v71] 35 (0, 0)) :: .blk b1 (.cells #[.bool (false)] 4 (0, 0)) :: L) [(0, .pointer (some ⟨b1, 0, none⟩)), (2, .int .i64 (x5.2)), (4, .int .i64 (x21.2)), (6, .int .i64 (x47.2)), (7, .pointer (some ⟨b63, 0, none⟩))] a w) ?_ ?_
 ·clear hs hm
  clear hbase75
  rintro a w ⟨f67, y70, v71, rw72, hl68, hm, hW73, hs⟩
  replace hR13 := hR13.le hl68
  replace hW14 := hW14.le hl68
  replace hR29 := hR29.le hl68
  replace hW30 := hW30.le hl68
  replace hW38 := hW38.le hl68
  replace hR46 := hR46.le hl68
  replace hR55 := hR55.le hl68
  replace hW56 := hW56.le hl68
  replace hle := hle.trans hl68
  replace hM := hM.le hl68
  replace hs : St _ _ _ (.row v71 35 4 rw72 :: .blk b63 (.cells #[.string ((bs [97])), .string ((bs [])), (.slice none 0 0), v71] 35 (0, 0)) :: .blk b1 (.cells #[.bool (false)] 4 (0, 0)) :: L) _ _ _ := hs
  unfold law5_DomNumbers_k1 at hm
  refine hK6 _ _ _ ?_; clear hK6
  refine W1_seq fun K8 hK8 => ?_
  refine W1_of ?_
  refine W_region ?_
  refine sy hs (y_ldB rfl Try.underlying35 rfl ti35 (.tail _ (.head _)) rfl) ?_; clear hs; (try clear a w); intro a w hs
  obtain ⟨f76, hf77, hs2, hR78⟩ := hs.frzAt 0 rfl
  clear hs; have hs := hs2; clear hs2
  replace hW73 := hW73.le hf77
  replace hle := hle.trans hf77
  replace hM := hM.le hf77
  replace hs : St _ _ _ (.blk b63 (.cells #[.string ((bs [97])), .string ((bs [])), (.slice none 0 0), v71] 35 (0, 0)) :: .blk b1 (.cells #[.bool (false)] 4 (0, 0)) :: L) _ _ _ := hs
  obtain ⟨x79, hx80, hm⟩ := ob hm
  refine RL_callV hs rfl has16 rfl (dom_Make_ok n (f := f76) (a0 := [.string ((bs [97])), .string ((bs [])), (.slice none 0 0), v71]) (R_dom_Part.of (x := ({Name := (bs [97]), Text := (bs []), Attrs := ([] : List api_Attr), Kids := y70} : dom_Part)) RS.nil ⟨rw72, hR78, hW73⟩) hx80) ?_; clear hs; (try clear a w)
  rintro _ f81 _ a w hf82 ⟨r83, rfl, rfl, hq84⟩ hs
  replace hW73 := hW73.le hf82
  replace hR78 := hR78.le hf82
  replace hle := hle.trans hf82
  replace hM := hM.le hf82
  obtain ⟨v85, rfl, ⟨rw86, hR87, hW88⟩⟩ := hq84
  replace hs : St _ _ _ (.blk b63 (.cells #[.string ((bs [97])), .string ((bs [])), (.slice none 0 0), v71] 35 (0, 0)) :: .blk b1 (.cells #[.bool (false)] 4 (0, 0)) :: L) _ _ _ := hs
  refine sy (v := .tuple #[.agg #[v85], .int .i64 (x79.2)]) hs (y_move rfl) ?_; clear hs; (try clear a w); intro a w hs
  refine sy (v := .agg #[v85]) hs (y_extract rfl rfl) ?_; clear hs; (try clear a w); intro a w hs
  refine sy (v := .int .i64 (x79.2)) hs (y_extract rfl rfl) ?_; clear hs; (try clear a w); intro a w hs
  refine RL_alloc hs ti24 (.free rfl) (by decide) ?_; clear hs; (try clear a w); intro b90 a w hs
  replace hs : St _ _ _ (.blk b90 (.cells #[(.slice none 0 0)] 24 (0, 0)) :: .blk b63 (.cells #[.string ((bs [97])), .string ((bs [])), (.slice none 0 0), v71] 35 (0, 0)) :: .blk b1 (.cells #[.bool (false)] 4 (0, 0)) :: L) _ _ _ := hs
  refine RL_storeAll (i := 0) hs rfl rfl rfl ti24 ⟨rfl, rfl⟩ (AllC.arr (r := [v85]) ⟨hR87.one, trivial⟩) (.free rfl) ?_; clear hs; (try clear a w); intro a w hs
  replace hs : St _ _ _ (.blk b90 (.cells #[v85] 24 (0, 0)) :: .blk b63 (.cells #[.string ((bs [97])), .string ((bs [])), (.slice none 0 0), v71] 35 (0, 0)) :: .blk b1 (.cells #[.bool (false)] 4 (0, 0)) :: L) _ _ _ := hs
  refine sy (v := .int .i64 (x79.2)) hs (y_assign rfl) ?_; clear hs; (try clear a w); intro a w hs
  refine RL_nil ?_
  refine hK8 _ _ _ ?_; clear hK8
  refine W1_seq fun K9 hK9 => ?_
  refine W1_of ?_
  refine W_region ?_
  refine sy hs (y_ldB rfl Try.underlying35 rfl ti35 (.tail _ (.head _)) rfl) ?_; clear hs; (try clear a w); intro a w hs
  refine RL_bs1a hs rfl Try.underlying33 ti35 (by decide) (AllC.row ⟨rfl, rfl, rfl, hR78.one, trivial⟩ rfl) ?_; clear hs; (try clear a w); intro v93 a w hs
  have hW94 : RW t_dom_Part f81 [[.string ((bs [97])), .string ((bs [])), (.slice none 0 0), v71]] [({Name := (bs [97]), Text := (bs []), Attrs := ([] : List api_Attr), Kids := y70} : dom_Part)] := RW.single (R_dom_Part.of (x := ({Name := (bs [97]), Text := (bs []), Attrs := ([] : List api_Attr), Kids := y70} : dom_Part)) RS.nil ⟨rw72, hR78, hW73⟩)
  generalize hgrw95 : ([[.string ((bs [97])), .string ((bs [])), (.slice none 0 0), v71]] : List (List Value)) = rw95 at hs hW94; clear hgrw95
  replace hs : St _ _ _ (.row v93 35 4 rw95 :: .blk b90 (.cells #[v85] 24 (0, 0)) :: .blk b63 (.cells #[.string ((bs [97])), .string ((bs [])), (.slice none 0 0), v71] 35 (0, 0)) :: .blk b1 (.cells #[.bool (false)] 4 (0, 0)) :: L) _ _ _ := hs
  refine sy hs (y_buildS (places := [(0, 1), (1, 1), (2, 1), (3, 1)]) (cs := [.string ((bs [97])), .string ((bs [])), (.slice none 0 0), v93]) rfl Try.underlying35 ti35 (by kernel_rfl) (by decide) rfl ⟨rfl, (hs.one (i := 0) rfl), trivial⟩) ?_; clear hs; (try clear a w); intro a w hs
  obtain ⟨f100, hf101, hs2, hR102⟩ := hs.frzAt 0 rfl
  clear hs; have hs := hs2; clear hs2
  replace hW73 := hW73.le hf101
  replace hR78 := hR78.le hf101
  replace hR87 := hR87.le hf101
  replace hW88 := hW88.le hf101
  replace hW94 := hW94.le hf101
  replace hle := hle.trans hf101
  replace hM := hM.le hf101
  replace hs : St _ _ _ (.blk b90 (.cells #[v85] 24 (0, 0)) :: .blk b63 (.cells #[.string ((bs [97])), .string ((bs [])), (.slice none 0 0), v71] 35 (0, 0)) :: .blk b1 (.cells #[.bool (false)] 4 (0, 0)) :: L) _ _ _ := hs
  obtain ⟨x103, hx104, hm⟩ := ob hm
  refine RL_callV hs rfl has16 rfl (dom_Make_ok n (f := f100) (a0 := [.string ((bs [97])), .string ((bs [])), (.slice none 0 0), v93]) (R_dom_Part.of (x := ({Name := (bs [97]), Text := (bs []), Attrs := ([] : List api_Attr), Kids := [({Name := (bs [97]), Text := (bs []), Attrs := ([] : List api_Attr), Kids := y70} : dom_Part)]} : dom_Part)) RS.nil ⟨rw95, hR102, hW94⟩) hx104) ?_; clear hs; (try clear a w)
  rintro _ f105 _ a w hf106 ⟨r107, rfl, rfl, hq108⟩ hs
  replace hW73 := hW73.le hf106
  replace hR78 := hR78.le hf106
  replace hR87 := hR87.le hf106
  replace hW88 := hW88.le hf106
  replace hW94 := hW94.le hf106
  replace hR102 := hR102.le hf106
  replace hle := hle.trans hf106
  replace hM := hM.le hf106
  obtain ⟨v109, rfl, ⟨rw110, hR111, hW112⟩⟩ := hq108
  replace hs : St _ _ _ (.blk b90 (.cells #[v85] 24 (0, 0)) :: .blk b63 (.cells #[.string ((bs [97])), .string ((bs [])), (.slice none 0 0), v71] 35 (0, 0)) :: .blk b1 (.cells #[.bool (false)] 4 (0, 0)) :: L) _ _ _ := hs
  refine sy (v := .tuple #[.agg #[v109], .int .i64 (x103.2)]) hs (y_move rfl) ?_; clear hs; (try clear a w); intro a w hs
  refine sy (v := .agg #[v109]) hs (y_extract rfl rfl) ?_; clear hs; (try clear a w); intro a w hs
  refine sy (v := .int .i64 (x103.2)) hs (y_extract rfl rfl) ?_; clear hs; (try clear a w); intro a w hs
  refine RL_alloc hs ti24 (.free rfl) (by decide) ?_; clear hs; (try clear a w); intro b114 a w hs
  replace hs : St _ _ _ (.blk b114 (.cells #[(.slice none 0 0)] 24 (0, 0)) :: .blk b90 (.cells #[v85] 24 (0, 0)) :: .blk b63 (.cells #[.string ((bs [97])), .string ((bs [])), (.slice none 0 0), v71] 35 (0, 0)) :: .blk b1 (.cells #[.bool (false)] 4 (0, 0)) :: L) _ _ _ := hs
  refine RL_storeAll (i := 0) hs rfl rfl rfl ti24 ⟨rfl, rfl⟩ (AllC.arr (r := [v109]) ⟨hR111.one, trivial⟩) (.free rfl) ?_; clear hs; (try clear a w); intro a w hs
  replace hs : St _ _ _ (.blk b114 (.cells #[v109] 24 (0, 0)) :: .blk b90 (.cells #[v85] 24 (0, 0)) :: .blk b63 (.cells #[.string ((bs [97])), .string ((bs [])), (.slice none 0 0), v71] 35 (0, 0)) :: .blk b1 (.cells #[.bool (false)] 4 (0, 0)) :: L) _ _ _ := hs
  refine sy (v := .int .i64 (x103.2)) hs (y_assign rfl) ?_; clear hs; (try clear a w); intro a w hs
  refine RL_nil ?_
  refine hK9 _ _ _ ?_; clear hK9
  refine W1_seq fun K10 hK10 => ?_
  refine W1_of ?_
  refine W_region ?_
  obtain ⟨x117, hx118, hm⟩ := ob hm
  obtain ⟨hix117, hbx117, hex117⟩ := repM_some hx118
  refine RL_makeW hs rfl rfl hix117 Try.underlying33 ti35 (by decide) (AllC.row ⟨rfl, rfl, rfl, rfl, trivial⟩ rfl) hbx117 ?_; clear hs; (try clear a w); intro v119 a w hs
  replace hs : St _ _ _ (.row v119 35 4 (List.replicate (4096 : Int).toNat ([.string ((bs [])), .string ((bs [])), (.slice none 0 0), (.slice none 0 0)] : List Value)) :: .blk b114 (.cells #[v109] 24 (0, 0)) :: .blk b90 (.cells #[v85] 24 (0, 0)) :: .blk b63 (.cells #[.string ((bs [97])), .string ((bs [])), (.slice none 0 0), v71] 35 (0, 0)) :: .blk b1 (.cells #[.bool (false)] 4 (0, 0)) :: L) _ _ _ := hs
  have hW121 : RW t_dom_Part f105 (List.replicate (4096 : Int).toNat ([.string ((bs [])), .string ((bs [])), (.slice none 0 0), (.slice none 0 0)] : List Value)) x117 := by rw [← hex117]; exact RW.rep (t := t_dom_Part) (r := [.string ((bs [])), .string ((bs [])), (.slice none 0 0), (.slice none 0 0)]) (R_dom_Part.of (x := ({Name := (bs []), Text := (bs []), Attrs := ([] : List api_Attr), Kids := ([] : List dom_Part)} : dom_Part)) RS.nil RS.nil) _
  generalize hgx117 : (List.replicate (4096 : Int).toNat ([.string ((bs [])), .string ((bs [])), (.slice none 0 0), (.slice none 0 0)] : List Value)) = rw120 at hs hW121; clear hgx117
  replace hs : St _ _ _ (.row v119 35 4 rw120 :: .blk b114 (.cells #[v109] 24 (0, 0)) :: .blk b90 (.cells #[v85] 24 (0, 0)) :: .blk b63 (.cells #[.string ((bs [97])), .string ((bs [])), (.slice none 0 0), v71] 35 (0, 0)) :: .blk b1 (.cells #[.bool (false)] 4 (0, 0)) :: L) _ _ _ := hs
  refine sy hs (y_buildS (places := [(0, 1), (1, 1), (2, 1), (3, 1)]) (cs := [.string ((bs [97])), .string ((bs [])), (.slice none 0 0), v119]) rfl Try.underlying35 ti35 (by kernel_rfl) (by decide) rfl ⟨rfl, (hs.one (i := 0) rfl), trivial⟩) ?_; clear hs; (try clear a w); intro a w hs
  obtain ⟨f128, hf129, hs2, hR130⟩ := hs.frzAt 0 rfl
  clear hs; have hs := hs2; clear hs2
  replace hW73 := hW73.le hf129
  replace hR78 := hR78.le hf129
  replace hR87 := hR87.le hf129
  replace hW88 := hW88.le hf129
  replace hW94 := hW94.le hf129
  replace hR102 := hR102.le hf129
  replace hR111 := hR111.le hf129
  replace hW112 := hW112.le hf129
  replace hW121 := hW121.le hf129
  replace hle := hle.trans hf129
  replace hM := hM.le hf129
  replace hs : St _ _ _ (.blk b114 (.cells #[v109] 24 (0, 0)) :: .blk b90 (.cells #[v85] 24 (0, 0)) :: .blk b63 (.cells #[.string ((bs [97])), .string ((bs [])), (.slice none 0 0), v71] 35 (0, 0)) :: .blk b1 (.cells #[.bool (false)] 4 (0, 0)) :: L) _ _ _ := hs
  obtain ⟨x131, hx132, hm⟩ := ob hm
  refine RL_callV hs rfl has16 rfl (dom_Make_ok n (f := f128) (a0 := [.string ((bs [97])), .string ((bs [])), (.slice none 0 0), v119]) (R_dom_Part.of (x := ({Name := (bs [97]), Text := (bs []), Attrs := ([] : List api_Attr), Kids := x117} : dom_Part)) RS.nil ⟨rw120, hR130, hW121⟩) hx132) ?_; clear hs; (try clear a w)
  rintro _ f133 _ a w hf134 ⟨r135, rfl, rfl, hq136⟩ hs
  replace hW73 := hW73.le hf134
  replace hR78 := hR78.le hf134
  replace hR87 := hR87.le hf134
  replace hW88 := hW88.le hf134
  replace hW94 := hW94.le hf134
  replace hR102 := hR102.le hf134
  replace hR111 := hR111.le hf134
  replace hW112 := hW112.le hf134
  replace hW121 := hW121.le hf134
  replace hR130 := hR130.le hf134
  replace hle := hle.trans hf134
  replace hM := hM.le hf134
  obtain ⟨v137, rfl, ⟨rw138, hR139, hW140⟩⟩ := hq136
  replace hs : St _ _ _ (.blk b114 (.cells #[v109] 24 (0, 0)) :: .blk b90 (.cells #[v85] 24 (0, 0)) :: .blk b63 (.cells #[.string ((bs [97])), .string ((bs [])), (.slice none 0 0), v71] 35 (0, 0)) :: .blk b1 (.cells #[.bool (false)] 4 (0, 0)) :: L) _ _ _ := hs
  refine sy (v := .tuple #[.agg #[v137], .int .i64 (x131.2)]) hs (y_move rfl) ?_; clear hs; (try clear a w); intro a w hs
  refine sy (v := .agg #[v137]) hs (y_extract rfl rfl) ?_; clear hs; (try clear a w); intro a w hs
  refine sy (v := .int .i64 (x131.2)) hs (y_extract rfl rfl) ?_; clear hs; (try clear a w); intro a w hs
  refine RL_alloc hs ti24 (.free rfl) (by decide) ?_; clear hs; (try clear a w); intro b142 a w hs
  replace hs : St _ _ _ (.blk b142 (.cells #[(.slice none 0 0)] 24 (0, 0)) :: .blk b114 (.cells #[v109] 24 (0, 0)) :: .blk b90 (.cells #[v85] 24 (0, 0)) :: .blk b63 (.cells #[.string ((bs [97])), .string ((bs [])), (.slice none 0 0), v71] 35 (0, 0)) :: .blk b1 (.cells #[.bool (false)] 4 (0, 0)) :: L) _ _ _ := hs
  refine RL_storeAll (i := 0) hs rfl rfl rfl ti24 ⟨rfl, rfl⟩ (AllC.arr (r := [v137]) ⟨hR139.one, trivial⟩) (.free rfl) ?_; clear hs; (try clear a w); intro a w hs
  replace hs : St _ _ _ (.blk b142 (.cells #[v137] 24 (0, 0)) :: .blk b114 (.cells #[v109] 24 (0, 0)) :: .blk b90 (.cells #[v85] 24 (0, 0)) :: .blk b63 (.cells #[.string ((bs [97])), .string ((bs [])), (.slice none 0 0), v71] 35 (0, 0)) :: .blk b1 (.cells #[.bool (false)] 4 (0, 0)) :: L) _ _ _ := hs
  refine sy (v := .int .i64 (x131.2)) hs (y_assign rfl) ?_; clear hs; (try clear a w); intro a w hs
  refine RL_nil ?_
  refine hK10 _ _ _ ?_; clear hK10
  refine W1_seq fun K11 hK11 => ?_
  refine W1_of ?_
  refine W_region ?_
  obtain ⟨x145, hx146, hm⟩ := ob hm
  refine RL_callV hs rfl has28 rfl (law5_sample_ok n (f := f133)  hx146) ?_; clear hs; (try clear a w)
  rintro _ f147 _ a w hf148 ⟨r149, rfl, rfl, hq150⟩ hs
  replace hW73 := hW73.le hf148
  replace hR78 := hR78.le hf148
  replace hR87 := hR87.le hf148
  replace hW88 := hW88.le hf148
  replace hW94 := hW94.le hf148
  replace hR102 := hR102.le hf148
  replace hR111 := hR111.le hf148
  replace hW112 := hW112.le hf148
  replace hW121 := hW121.le hf148
  replace hR130 := hR130.le hf148
  replace hR139 := hR139.le hf148
  replace hW140 := hW140.le hf148
  replace hle := hle.trans hf148
  replace hM := hM.le hf148
  obtain ⟨v151, rfl, ⟨rw152, hR153, hW154⟩⟩ := hq150
  replace hs : St _ _ _ (.blk b142 (.cells #[v137] 24 (0, 0)) :: .blk b114 (.cells #[v109] 24 (0, 0)) :: .blk b90 (.cells #[v85] 24 (0, 0)) :: .blk b63 (.cells #[.string ((bs [97])), .string ((bs [])), (.slice none 0 0), v71] 35 (0, 0)) :: .blk b1 (.cells #[.bool (false)] 4 (0, 0)) :: L) _ _ _ := hs
  refine sy (v := .tuple #[.agg #[v151], .int .i64 (x145.2)]) hs (y_move rfl) ?_; clear hs; (try clear a w); intro a w hs
  refine sy (v := .agg #[v151]) hs (y_extract rfl rfl) ?_; clear hs; (try clear a w); intro a w hs
  refine sy (v := .int .i64 (x145.2)) hs (y_extract rfl rfl) ?_; clear hs; (try clear a w); intro a w hs
  refine RL_alloc hs ti24 (.free rfl) (by decide) ?_; clear hs; (try clear a w); intro b156 a w hs
  replace hs : St _ _ _ (.blk b156 (.cells #[(.slice none 0 0)] 24 (0, 0)) :: .blk b142 (.cells #[v137] 24 (0, 0)) :: .blk b114 (.cells #[v109] 24 (0, 0)) :: .blk b90 (.cells #[v85] 24 (0, 0)) :: .blk b63 (.cells #[.string ((bs [97])), .string ((bs [])), (.slice none 0 0), v71] 35 (0, 0)) :: .blk b1 (.cells #[.bool (false)] 4 (0, 0)) :: L) _ _ _ := hs
  refine RL_storeAll (i := 0) hs rfl rfl rfl ti24 ⟨rfl, rfl⟩ (AllC.arr (r := [v151]) ⟨hR153.one, trivial⟩) (.free rfl) ?_; clear hs; (try clear a w); intro a w hs
  replace hs : St _ _ _ (.blk b156 (.cells #[v151] 24 (0, 0)) :: .blk b142 (.cells #[v137] 24 (0, 0)) :: .blk b114 (.cells #[v109] 24 (0, 0)) :: .blk b90 (.cells #[v85] 24 (0, 0)) :: .blk b63 (.cells #[.string ((bs [97])), .string ((bs [])), (.slice none 0 0), v71] 35 (0, 0)) :: .blk b1 (.cells #[.bool (false)] 4 (0, 0)) :: L) _ _ _ := hs
  refine sy (v := .int .i64 (x145.2)) hs (y_assign rfl) ?_; clear hs; (try clear a w); intro a w hs
  refine RL_nil ?_
  refine hK11 _ _ _ ?_; clear hK11
  refine W1_seq fun K12 hK12 => ?_
  refine W1_of ?_
  refine W_region ?_
  refine sy hs (y_ldB rfl Try.underlying24 rfl ti24 (.head _) rfl) ?_; clear hs; (try clear a w); intro a w hs
  obtain ⟨x159, hx160, hm⟩ := ob hm
  refine sy hs (y_call rfl has29 rfl (dom_Attr_ok n (f := f147) (a0 := [v151]) ⟨_, rfl, ⟨rw152, hR153, hW154⟩⟩ hx160)) ?_; clear hs; (try clear a w); intro a w hs
  refine sy (v := .tuple #[.string (x159.1), .bool (x159.2)]) hs (y_move rfl) ?_; clear hs; (try clear a w); intro a w hs
  refine sy (v := .string (x159.1)) hs (y_extract rfl rfl) ?_; clear hs; (try clear a w); intro a w hs
  refine sy (v := .bool (x159.2)) hs (y_extract rfl rfl) ?_; clear hs; (try clear a w); intro a w hs
  refine sy (v := .string (x159.1)) hs (y_assign rfl) ?_; clear hs; (try clear a w); intro a w hs
  refine sy (v := .bool (x159.2)) hs (y_assign rfl) ?_; clear hs; (try clear a w); intro a w hs
  refine RL_nil ?_
  refine hK12 _ _ _ ?_; clear hK12
  refine W1_seq fun K13 hK13 => ?_
  refine W1_of ?_
  refine W_region ?_
  refine sy hs (y_ldB rfl Try.underlying24 rfl ti24 (.head _) rfl) ?_; clear hs; (try clear a w); intro a w hs
  obtain ⟨x161, hx162, hm⟩ := ob hm
  refine RL_callV hs rfl has24 rfl (dom_All_ok n (f := f147) (a0 := [v151]) ⟨_, rfl, ⟨rw152, hR153, hW154⟩⟩ hx162) ?_; clear hs; (try clear a w)
  rintro _ f163 _ a w hf164 ⟨b165, r166, b170, r171, rfl, rfl, hq167, hB168, hq172, hB173⟩ hs
  replace hW73 := hW73.le hf164
  replace hR78 := hR78.le hf164
  replace hR87 := hR87.le hf164
  replace hW88 := hW88.le hf164
  replace hW94 := hW94.le hf164
  replace hR102 := hR102.le hf164
  replace hR111 := hR111.le hf164
  replace hW112 := hW112.le hf164
  replace hW121 := hW121.le hf164
  replace hR130 := hR130.le hf164
  replace hR139 := hR139.le hf164
  replace hW140 := hW140.le hf164
  replace hR153 := hR153.le hf164
  replace hW154 := hW154.le hf164
  replace hle := hle.trans hf164
  replace hM := hM.le hf164
  obtain ⟨v175, rfl, ⟨rw176, hR177, hW178⟩⟩ := hq167
  obtain rfl : _ = ([.int .i64 (x161.2)] : List Value) := hq172
  replace hs : St _ _ _ (.blk b156 (.cells #[v151] 24 (0, 0)) :: .blk b142 (.cells #[v137] 24 (0, 0)) :: .blk b114 (.cells #[v109] 24 (0, 0)) :: .blk b90 (.cells #[v85] 24 (0, 0)) :: .blk b63 (.cells #[.string ((bs [97])), .string ((bs [])), (.slice none 0 0), v71] 35 (0, 0)) :: .blk b1 (.cells #[.bool (false)] 4 (0, 0)) :: L) _ _ _ := hs
  refine sy (v := .func (.func 45) #[] #[.pointer (some ⟨b165, 0, none⟩), .pointer (some ⟨b170, 0, none⟩)]) hs (y_assign rfl) ?_; clear hs; (try clear a w); intro a w hs
  refine RL_nil ?_
  refine hK13 _ _ _ ?_; clear hK13
  refine W1_seq fun K14 hK14 => ?_
  refine W1_of ?_
  refine W_seq fun K15 hK15 => ?_
  refine W_region ?_
  refine sy (v := .func (.func 45) #[] #[.pointer (some ⟨b165, 0, none⟩), .pointer (some ⟨b170, 0, none⟩)]) hs (y_move rfl) ?_; clear hs; (try clear a w); intro a w hs
  refine sy hs (y_fnil rfl rfl Try.underlying55) ?_; clear hs; (try clear a w); intro a w hs
  refine RL_nil ?_
  refine hK15 _ _ ?_; clear hK15
  refine W_condF hs rfl ?_
  refine W_skip ?_
  refine hK14 _ _ _ ?_; clear hK14
  refine W1_seq fun K16 hK16 => ?_
  refine W1_seq fun K17 hK17 => ?_
  refine W1_of ?_
  refine W_region ?_
  refine sy (v := .func (.func 45) #[] #[.pointer (some ⟨b165, 0, none⟩), .pointer (some ⟨b170, 0, none⟩)]) hs (y_move rfl) ?_; clear hs; (try clear a w); intro a w hs
  refine RL_nil ?_
  refine hK17 _ _ _ ?_; clear hK17
  refine W1_block fun Qe18 hB18 hO18 => ?_
  obtain ⟨x180, hx181, hm⟩ := ob hm
  replace hs : St 133 w0 f163 (.blk b156 (.cells #[v151] 24 (0, 0)) :: .blk b1 (.cells #[.bool (false)] 4 (0, 0)) :: L) [(0, .pointer (some ⟨b1, 0, none⟩)), (2, .int .i64 (x5.2)), (4, .int .i64 (x21.2)), (6, .int .i64 (x47.2)), (10, .int .i64 (x79.2)), (12, .int .i64 (x103.2)), (14, .int .i64 (x131.2)), (15, .pointer (some ⟨b156, 0, none⟩)), (18, .bool (x159.2)), (76, .func (.func 45) #[] #[.pointer (some ⟨b165, 0, none⟩), .pointer (some ⟨b170, 0, none⟩)])] a w := hs.subs ⟨rfl, rfl, rfl, rfl, rfl, rfl, rfl, rfl, rfl, rfl, trivial⟩ (.cons_cons _ (.cons _ (.cons _ (.cons _ (.cons _ (.cons_cons _ (.refl _)))))))
  refine W1_range (L := L) (ents := [.blk b156 (.cells #[v151] 24 (0, 0)), .blk b1 (.cells #[.bool (false)] 4 (0, 0))]) (enc := (fun x => .int .i64 x)) hs rfl has45 (dom_All_1_it n (f := f163) (cb0 := b165) (ca0 := [v175]) (cb1 := b170) (ca1 := [.int .i64 (x161.2)]) ⟨_, rfl, ⟨rw176, hR177, hW178⟩⟩ hB168 rfl hB173 hx181) (by decide) (fun x => [(77, .int .i64 x), (0, .pointer (some ⟨b1, 0, none⟩)), (2, .int .i64 (x5.2)), (4, .int .i64 (x21.2)), (6, .int .i64 (x47.2)), (10, .int .i64 (x79.2)), (12, .int .i64 (x103.2)), (14, .int .i64 (x131.2)), (15, .pointer (some ⟨b156, 0, none⟩)), (18, .bool (x159.2)), (76, .func (.func 45) #[] #[.pointer (some ⟨b165, 0, none⟩), .pointer (some ⟨b170, 0, none⟩)])]) (fun rem ents => law5_DomNumbers_r2 n x5 x21 x47 x79 x103 x131 x145 x159 rem = some res ∧ ents = [.blk b156 (.cells #[v151] 24 (0, 0)), .blk b1 (.cells #[.bool (false)] 4 (0, 0))]) (fun c ents => (c = .ret ∧ law5_DomNumbers_k3 = some res ∧ ents = [.blk b156 (.cells #[v151] 24 (0, 0)), .blk b1 (.cells #[.bool (false)] 4 (0, 0))])) ⟨hm, rfl⟩ ?_ ?_ ?_ ?_
  ·intro x f9 L a w hs K hK
   refine W_skip ?_
   exact hK _ _ hs
  ·clear hs hm; (try clear a w)
   rintro x183 rm182 _ L f226 a w hf227 ⟨hm, rfl⟩ hs
   replace hW73 := hW73.le hf227
   replace hR78 := hR78.le hf227
   replace hR87 := hR87.le hf227
   replace hW88 := hW88.le hf227
   replace hW94 := hW94.le hf227
   replace hR102 := hR102.le hf227
   replace hR111 := hR111.le hf227
   replace hW112 := hW112.le hf227
   replace hW121 := hW121.le hf227
   replace hR130 := hR130.le hf227
   replace hR139 := hR139.le hf227
   replace hW140 := hW140.le hf227
   replace hR153 := hR153.le hf227
   replace hW154 := hW154.le hf227
   replace hR177 := hR177.le hf227
   replace hW178 := hW178.le hf227
   replace hB168 := hf227 _ _ hB168
   replace hB173 := hf227 _ _ hB173
   replace hle := hle.trans hf227
   replace hM := hM.le hf227
   replace hs : St _ _ _ (.blk b156 (.cells #[v151] 24 (0, 0)) :: .blk b1 (.cells #[.bool (false)] 4 (0, 0)) :: L) _ _ _ := hs
   rw [law5_DomNumbers_r2] at hm
   have hbase228 := Fz.le.refl f226
   refine W_block fun Qe20 hB20 hO20 => ?_
   refine W_seq fun K21 hK21 => ?_
   refine W_region ?_
   refine sstore 1 hs rfl rfl rfl ti4 rfl ?_; clear hs; (try clear a w); intro a w hs
   replace hs : St _ _ _ (.blk b156 (.cells #[v151] 24 (0, 0)) :: .blk b1 (.cells #[.bool (false)] 4 (0, 0)) :: L) _ _ _ := hs
   refine RL_nil ?_
   refine hK21 _ _ ?_; clear hK21
   refine W_ret ?_
   exact ⟨_, [.blk b156 (.cells #[v151] 24 (0, 0)), .blk b1 (.cells #[.bool (false)] 4 (0, 0))], hbase228, ⟨rfl, hm, rfl⟩, hs.cw⟩
  ·clear hs hm; (try clear w)
   rintro f184 D186 _ w hf185 hD0 hD ⟨hm, rfl⟩ hs
   replace hM := Marks.cons hM hle hf185 hD0 hD; clear hD0 hD
   replace hW73 := hW73.le hf185
   replace hR78 := hR78.le hf185
   replace hR87 := hR87.le hf185
   replace hW88 := hW88.le hf185
   replace hW94 := hW94.le hf185
   replace hR102 := hR102.le hf185
   replace hR111 := hR111.le hf185
   replace hW112 := hW112.le hf185
   replace hW121 := hW121.le hf185
   replace hR130 := hR130.le hf185
   replace hR139 := hR139.le hf185
   replace hW140 := hW140.le hf185
   replace hR153 := hR153.le hf185
   replace hW154 := hW154.le hf185
   replace hR177 := hR177.le hf185
   replace hW178 := hW178.le hf185
   replace hB168 := hf185 _ _ hB168
   replace hB173 := hf185 _ _ hB173
   replace hle := hle.trans hf185
   replace hs : St _ _ _ (.blk b156 (.cells #[v151] 24 (0, 0)) :: .blk b1 (.cells #[.bool (false)] 4 (0, 0)) :: L) _ _ _ := hs
   rw [law5_DomNumbers_r2] at hm
   refine hK16 _ _ _ ?_; clear hK16
   refine W1_of ?_
   refine W_seq fun K19 hK19 => ?_
   have hbase190 := Fz.le.refl f184
   refine W_post (fun a w => ∃ (f187 : Fz) (y189 : Bool), Fz.le f184 f187 ∧ law5_DomNumbers_k4 y189 = some res ∧ St 133 w0 f187 (.blk b1 (.cells #[.bool (y189)] 4 (0, 0)) :: L) [(0, .pointer (some ⟨b1, 0, none⟩))] a w) ?_ ?_
   ·clear hs hm
    clear hbase190
    rintro a w ⟨f187, y189, hl188, hm, hs⟩
    replace hW73 := hW73.le hl188
    replace hR78 := hR78.le hl188
    replace hR87 := hR87.le hl188
    replace hW88 := hW88.le hl188
    replace hW94 := hW94.le hl188
    replace hR102 := hR102.le hl188
    replace hR111 := hR111.le hl188
    replace hW112 := hW112.le hl188
    replace hW121 := hW121.le hl188
    replace hR130 := hR130.le hl188
    replace hR139 := hR139.le hl188
    replace hW140 := hW140.le hl188
    replace hR153 := hR153.le hl188
    replace hW154 := hW154.le hl188
    replace hR177 := hR177.le hl188
    replace hW178 := hW178.le hl188
    replace hB168 := hl188 _ _ hB168
    replace hB173 := hl188 _ _ hB173
    replace hle := hle.trans hl188
    replace hM := hM.le hl188
    replace hs : St _ _ _ (.blk b1 (.cells #[.bool (y189)] 4 (0, 0)) :: L) _ _ _ := hs
    unfold law5_DomNumbers_k4 at hm
    refine hK19 _ _ ?_; clear hK19
    refine W_ret ?_
    obtain rfl := Option.some.inj hm
    refine RtM_of hs hle hM ?_; clear hs; (try clear w); intro w hs
    replace hle := Fz.le.refl f
    refine RtV1 hs rfl (rv_c hs rfl Try.underlying4 rfl (Cell.blk (.head _) rfl)) ?_
    exact ⟨rfl, ((hs.subL (.cons _ (.refl _))).weak hle).cw⟩
   ·refine W_region ?_
    refine sy (v := .int .i64 (x5.2)) hs (y_move rfl) ?_; clear hs; (try clear a w); intro a w hs
    refine sy hs (y_eql rfl rfl) ?_; clear hs; (try clear a w); intro a w hs
    refine sy (v := .bool (decide (x5.2 = 10))) hs (y_move rfl) ?_; clear hs; (try clear a w); intro a w hs
    refine St.split hs (t := 80) rfl (fun hg191 hq => ?_) (fun hg191 hq => ?_)
    ·clear hs; have hs := hq; clear hq
     replace hm := oc_t hg191 hm
     refine syg (v := .int .i64 (x21.2)) hs (y_move rfl) ?_; clear hs; (try clear a w); intro a w hs
     refine syg hs (y_eql rfl rfl) ?_; clear hs; (try clear a w); intro a w hs
     refine sy (v := .bool (decide (x21.2 = 10))) hs (y_pick rfl rfl) ?_; clear hs; (try clear a w); intro a w hs
     refine sy (v := .bool (decide (x21.2 = 10))) hs (y_move rfl) ?_; clear hs; (try clear a w); intro a w hs
     refine St.split hs (t := 84) rfl (fun hg192 hq => ?_) (fun hg192 hq => ?_)
     ·clear hs; have hs := hq; clear hq
      replace hm := oc_t hg192 hm
      refine syg (v := .int .i64 (x47.2)) hs (y_move rfl) ?_; clear hs; (try clear a w); intro a w hs
      refine syg hs (y_eql rfl rfl) ?_; clear hs; (try clear a w); intro a w hs
      refine sy (v := .bool (decide (x47.2 = 10))) hs (y_pick rfl rfl) ?_; clear hs; (try clear a w); intro a w hs
      refine sy (v := .bool (decide (x47.2 = 10))) hs (y_move rfl) ?_; clear hs; (try clear a w); intro a w hs
      refine St.split hs (t := 88) rfl (fun hg193 hq => ?_) (fun hg193 hq => ?_)
      ·clear hs; have hs := hq; clear hq
       replace hm := oc_t hg193 hm
       refine syg (v := .int .i64 (x79.2)) hs (y_move rfl) ?_; clear hs; (try clear a w); intro a w hs
       refine syg hs (y_eql rfl rfl) ?_; clear hs; (try clear a w); intro a w hs
       refine sy (v := .bool (decide (x79.2 = 0))) hs (y_pick rfl rfl) ?_; clear hs; (try clear a w); intro a w hs
       refine sy (v := .bool (decide (x79.2 = 0))) hs (y_move rfl) ?_; clear hs; (try clear a w); intro a w hs
       refine St.split hs (t := 92) rfl (fun hg194 hq => ?_) (fun hg194 hq => ?_)
       ·clear hs; have hs := hq; clear hq
        replace hm := oc_t hg194 hm
        refine syg (v := .int .i64 (x103.2)) hs (y_move rfl) ?_; clear hs; (try clear a w); intro a w hs
        refine syg hs (y_eql rfl rfl) ?_; clear hs; (try clear a w); intro a w hs
        refine sy (v := .bool (decide (x103.2 = 5))) hs (y_pick rfl rfl) ?_; clear hs; (try clear a w); intro a w hs
        refine sy (v := .bool (decide (x103.2 = 5))) hs (y_move rfl) ?_; clear hs; (try clear a w); intro a w hs
        refine St.split hs (t := 96) rfl (fun hg195 hq => ?_) (fun hg195 hq => ?_)
        ·clear hs; have hs := hq; clear hq
         replace hm := oc_t hg195 hm
         refine syg (v := .int .i64 (x131.2)) hs (y_move rfl) ?_; clear hs; (try clear a w); intro a w hs
         refine syg hs (y_eql rfl rfl) ?_; clear hs; (try clear a w); intro a w hs
         refine sy (v := .bool (decide (x131.2 = 4))) hs (y_pick rfl rfl) ?_; clear hs; (try clear a w); intro a w hs
         refine sy (v := .bool (decide (x131.2 = 4))) hs (y_move rfl) ?_; clear hs; (try clear a w); intro a w hs
         refine St.split hs (t := 100) rfl (fun hg196 hq => ?_) (fun hg196 hq => ?_)
         ·clear hs; have hs := hq; clear hq
          replace hm := oc_t hg196 hm
          refine syg hs (y_buildS (places := [(0, 1)]) (cs := [(.slice none 0 0)]) rfl Try.underlying24 ti24 (by kernel_rfl) (by decide) rfl trivial) ?_; clear hs; (try clear a w); intro a w hs
          obtain ⟨x198, hx199, hm⟩ := ob hm
          refine syg hs (y_call rfl has12 rfl (dom_Right_ok n (f := f184) (a0 := [(.slice none 0 0)]) ⟨_, rfl, RS.nil⟩ hx199)) ?_; clear hs; (try clear a w); intro a w hs
          refine syg hs (y_eql rfl rfl) ?_; clear hs; (try clear a w); intro a w hs
          refine sy (v := .bool (decide (x198 = 10))) hs (y_pick rfl rfl) ?_; clear hs; (try clear a w); intro a w hs
          refine sy (v := .bool (decide (x198 = 10))) hs (y_move rfl) ?_; clear hs; (try clear a w); intro a w hs
          refine St.split hs (t := 105) rfl (fun hg200 hq => ?_) (fun hg200 hq => ?_)
          ·clear hs; have hs := hq; clear hq
           replace hm := oc_t hg200 hm
           refine syg hs (y_ldB rfl Try.underlying24 rfl ti24 (.head _) rfl) ?_; clear hs; (try clear a w); intro a w hs
           obtain ⟨x201, hx202, hm⟩ := ob hm
           refine RL_callVg hs rfl has26 rfl (dom_Kids_ok n (f := f184) (a0 := [v151]) ⟨_, rfl, ⟨rw152, hR153, hW154⟩⟩ hx202) ?_; clear hs; (try clear a w)
           rintro v205 f203 _ a w hf204 ⟨_, rfl, rfl, ⟨rw206, hR207, hW208⟩⟩ hs
           replace hW73 := hW73.le hf204
           replace hR78 := hR78.le hf204
           replace hR87 := hR87.le hf204
           replace hW88 := hW88.le hf204
           replace hW94 := hW94.le hf204
           replace hR102 := hR102.le hf204
           replace hR111 := hR111.le hf204
           replace hW112 := hW112.le hf204
           replace hW121 := hW121.le hf204
           replace hR130 := hR130.le hf204
           replace hR139 := hR139.le hf204
           replace hW140 := hW140.le hf204
           replace hR153 := hR153.le hf204
           replace hW154 := hW154.le hf204
           replace hR177 := hR177.le hf204
           replace hW178 := hW178.le hf204
           replace hB168 := hf204 _ _ hB168
           replace hB173 := hf204 _ _ hB173
           replace hle := hle.trans hf204
           replace hbase190 := hbase190.trans hf204
           replace hM := hM.le hf204
           replace hs : St _ _ _ (.blk b156 (.cells #[v151] 24 (0, 0)) :: .blk b1 (.cells #[.bool (false)] 4 (0, 0)) :: L) _ _ _ := hs
           refine syg hs (y_lenW hR207 hW208 rfl Try.underlying60) ?_; clear hs; (try clear a w); intro a w hs
           refine syg hs (y_eql rfl rfl) ?_; clear hs; (try clear a w); intro a w hs
           refine sy (v := .bool (decide ((x201.length : Int) = 0))) hs (y_pick rfl rfl) ?_; clear hs; (try clear a w); intro a w hs
           refine sy (v := .bool (decide ((x201.length : Int) = 0))) hs (y_move rfl) ?_; clear hs; (try clear a w); intro a w hs
           refine St.split hs (t := 111) rfl (fun hg210 hq => ?_) (fun hg210 hq => ?_)
           ·clear hs; have hs := hq; clear hq
            replace hm := oc_t hg210 hm
            refine syg (v := .bool (x159.2)) hs (y_move rfl) ?_; clear hs; (try clear a w); intro a w hs
            refine syg (v := .bool ((!x159.2))) hs (y_not rfl) ?_; clear hs; (try clear a w); intro a w hs
            refine sy (v := .bool ((!x159.2))) hs (y_pick rfl rfl) ?_; clear hs; (try clear a w); intro a w hs
            refine sy (v := .bool ((!x159.2))) hs (y_move rfl) ?_; clear hs; (try clear a w); intro a w hs
            refine St.split hs (t := 115) rfl (fun hg211 hq => ?_) (fun hg211 hq => ?_)
            ·clear hs; have hs := hq; clear hq
             replace hm := oc_t hg211 hm
             refine syg hs (y_ldB rfl Try.underlying24 rfl ti24 (.head _) rfl) ?_; clear hs; (try clear a w); intro a w hs
             obtain ⟨x212, hx213, hm⟩ := ob hm
             refine syg hs (y_call rfl has25 rfl (dom_Depth_ok n (f := f203) (a0 := [v151]) ⟨_, rfl, ⟨rw152, hR153, hW154⟩⟩ hx213)) ?_; clear hs; (try clear a w); intro a w hs
             refine syg hs (y_eql rfl rfl) ?_; clear hs; (try clear a w); intro a w hs
             refine sy (v := .bool (decide (x212 = 0))) hs (y_pick rfl rfl) ?_; clear hs; (try clear a w); intro a w hs
             refine sy (v := .bool (decide (x212 = 0))) hs (y_move rfl) ?_; clear hs; (try clear a w); intro a w hs
             refine St.split hs (t := 120) rfl (fun hg214 hq => ?_) (fun hg214 hq => ?_)
             ·clear hs; have hs := hq; clear hq
              replace hm := oc_t hg214 hm
              refine syg hs (y_ldB rfl Try.underlying24 rfl ti24 (.head _) rfl) ?_; clear hs; (try clear a w); intro a w hs
              obtain ⟨x215, hx216, hm⟩ := ob hm
              refine syg hs (y_call rfl has27 rfl (dom_Index_ok n (f := f203) (a0 := [v151]) ⟨_, rfl, ⟨rw152, hR153, hW154⟩⟩ hx216)) ?_; clear hs; (try clear a w); intro a w hs
              refine syg hs (y_eql rfl rfl) ?_; clear hs; (try clear a w); intro a w hs
              refine sy (v := .bool (decide (x215 = 0))) hs (y_pick rfl rfl) ?_; clear hs; (try clear a w); intro a w hs
              refine sy (v := .bool (decide (x215 = 0))) hs (y_move rfl) ?_; clear hs; (try clear a w); intro a w hs
              refine St.split hs (t := 125) rfl (fun hg217 hq => ?_) (fun hg217 hq => ?_)
              ·clear hs; have hs := hq; clear hq
               replace hm := oc_t hg217 hm
               refine syg hs (y_ldB rfl Try.underlying24 rfl ti24 (.head _) rfl) ?_; clear hs; (try clear a w); intro a w hs
               obtain ⟨x218, hx219, hm⟩ := ob hm
               refine syg hs (y_call rfl has27 rfl (dom_Index_ok n (f := f203) (a0 := [v151]) ⟨_, rfl, ⟨rw152, hR153, hW154⟩⟩ hx219)) ?_; clear hs; (try clear a w); intro a w hs
               refine syg hs (y_eql rfl rfl) ?_; clear hs; (try clear a w); intro a w hs
               refine sy (v := .bool (decide (x218 = 1))) hs (y_pick rfl rfl) ?_; clear hs; (try clear a w); intro a w hs
               refine sy (v := .bool (decide (x218 = 1))) hs (y_move rfl) ?_; clear hs; (try clear a w); intro a w hs
               refine St.split hs (t := 130) rfl (fun hg220 hq => ?_) (fun hg220 hq => ?_)
               ·clear hs; have hs := hq; clear hq
                replace hm := oc_t hg220 hm
                obtain ⟨x221, hx222, hm⟩ := ob hm
                refine syg hs (y_call rfl has10 rfl (law5_known_ok n (f := f203)  hx222)) ?_; clear hs; (try clear a w); intro a w hs
                refine sy (v := .bool (x221)) hs (y_pick rfl rfl) ?_; clear hs; (try clear a w); intro a w hs
                refine sstore 1 hs rfl rfl rfl ti4 rfl ?_; clear hs; (try clear a w); intro a w hs
                replace hs : St _ _ _ (.blk b156 (.cells #[v151] 24 (0, 0)) :: .blk b1 (.cells #[.bool (x221)] 4 (0, 0)) :: L) _ _ _ := hs
                refine RL_nil ?_
                exact ⟨_, x221, hbase190, hm, hs.subs ⟨rfl, trivial⟩ (.cons _ (.cons_cons _ (.refl _)))⟩
               ·clear hs; have hs := hq; clear hq
                replace hm := oc_f hg220 hm
                refine sno hs ?_; clear hs; (try clear a w); intro a w hs
                refine sy (v := .bool (false)) hs (y_pick rfl rfl) ?_; clear hs; (try clear a w); intro a w hs
                refine sstore 1 hs rfl rfl rfl ti4 rfl ?_; clear hs; (try clear a w); intro a w hs
                replace hs : St _ _ _ (.blk b156 (.cells #[v151] 24 (0, 0)) :: .blk b1 (.cells #[.bool (false)] 4 (0, 0)) :: L) _ _ _ := hs
                refine RL_nil ?_
                exact ⟨_, false, hbase190, hm, hs.subs ⟨rfl, trivial⟩ (.cons _ (.cons_cons _ (.refl _)))⟩
              ·clear hs; have hs := hq; clear hq
               replace hm := oc_f hg217 hm
               refine sno hs ?_; clear hs; (try clear a w); intro a w hs
               refine sno hs ?_; clear hs; (try clear a w); intro a w hs
               refine sno hs ?_; clear hs; (try clear a w); intro a w hs
               refine sy (v := .bool (false)) hs (y_pick rfl rfl) ?_; clear hs; (try clear a w); intro a w hs
               refine sy (v := .bool (false)) hs (y_move rfl) ?_; clear hs; (try clear a w); intro a w hs
               refine sno hs ?_; clear hs; (try clear a w); intro a w hs
               refine sy (v := .bool (false)) hs (y_pick rfl rfl) ?_; clear hs; (try clear a w); intro a w hs
               refine sstore 1 hs rfl rfl rfl ti4 rfl ?_; clear hs; (try clear a w); intro a w hs
               replace hs : St _ _ _ (.blk b156 (.cells #[v151] 24 (0, 0)) :: .blk b1 (.cells #[.bool (false)] 4 (0, 0)) :: L) _ _ _ := hs
               refine RL_nil ?_
               exact ⟨_, false, hbase190, hm, hs.subs ⟨rfl, trivial⟩ (.cons _ (.cons_cons _ (.refl _)))⟩
             ·clear hs; have hs := hq; clear hq
              replace hm := oc_f hg214 hm
              refine sno hs ?_; clear hs; (try clear a w); intro a w hs
              refine sno hs ?_; clear hs; (try clear a w); intro a w hs
              refine sno hs ?_; clear hs; (try clear a w); intro a w hs
              refine sy (v := .bool (false)) hs (y_pick rfl rfl) ?_; clear hs; (try clear a w); intro a w hs
              refine sy (v := .bool (false)) hs (y_move rfl) ?_; clear hs; (try clear a w); intro a w hs
              refine sno hs ?_; clear hs; (try clear a w); intro a w hs
              refine sno hs ?_; clear hs; (try clear a w); intro a w hs
              refine sno hs ?_; clear hs; (try clear a w); intro a w hs
              refine sy (v := .bool (false)) hs (y_pick rfl rfl) ?_; clear hs; (try clear a w); intro a w hs
              refine sy (v := .bool (false)) hs (y_move rfl) ?_; clear hs; (try clear a w); intro a w hs
              refine sno hs ?_; clear hs; (try clear a w); intro a w hs
              refine sy (v := .bool (false)) hs (y_pick rfl rfl) ?_; clear hs; (try clear a w); intro a w hs
              refine sstore 1 hs rfl rfl rfl ti4 rfl ?_; clear hs; (try clear a w); intro a w hs
              replace hs : St _ _ _ (.blk b156 (.cells #[v151] 24 (0, 0)) :: .blk b1 (.cells #[.bool (false)] 4 (0, 0)) :: L) _ _ _ := hs
              refine RL_nil ?_
              exact ⟨_, false, hbase190, hm, hs.subs ⟨rfl, trivial⟩ (.cons _ (.cons_cons _ (.refl _)))⟩
            ·clear hs; have hs := hq; clear hq
             replace hm := oc_f hg211 hm
             refine sno hs ?_; clear hs; (try clear a w); intro a w hs
             refine sno hs ?_; clear hs; (try clear a w); intro a w hs
             refine sno hs ?_; clear hs; (try clear a w); intro a w hs
             refine sy (v := .bool (false)) hs (y_pick rfl rfl) ?_; clear hs; (try clear a w); intro a w hs
             refine sy (v := .bool (false)) hs (y_move rfl) ?_; clear hs; (try clear a w); intro a w hs
             refine sno hs ?_; clear hs; (try clear a w); intro a w hs
             refine sno hs ?_; clear hs; (try clear a w); intro a w hs
             refine sno hs ?_; clear hs; (try clear a w); intro a w hs
             refine sy (v := .bool (false)) hs (y_pick rfl rfl) ?_; clear hs; (try clear a w); intro a w hs
             refine sy (v := .bool (false)) hs (y_move rfl) ?_; clear hs; (try clear a w); intro a w hs
             refine sno hs ?_; clear hs; (try clear a w); intro a w hs
             refine sno hs ?_; clear hs; (try clear a w); intro a w hs
             refine sno hs ?_; clear hs; (try clear a w); intro a w hs
             refine sy (v := .bool (false)) hs (y_pick rfl rfl) ?_; clear hs; (try clear a w); intro a w hs
             refine sy (v := .bool (false)) hs (y_move rfl) ?_; clear hs; (try clear a w); intro a w hs
             refine sno hs ?_; clear hs; (try clear a w); intro a w hs
             refine sy (v := .bool (false)) hs (y_pick rfl rfl) ?_; clear hs; (try clear a w); intro a w hs
             refine sstore 1 hs rfl rfl rfl ti4 rfl ?_; clear hs; (try clear a w); intro a w hs
             replace hs : St _ _ _ (.blk b156 (.cells #[v151] 24 (0, 0)) :: .blk b1 (.cells #[.bool (false)] 4 (0, 0)) :: L) _ _ _ := hs
             refine RL_nil ?_
             exact ⟨_, false, hbase190, hm, hs.subs ⟨rfl, trivial⟩ (.cons _ (.cons_cons _ (.refl _)))⟩
           ·clear hs; have hs := hq; clear hq
            replace hm := oc_f hg210 hm
            refine sno hs ?_; clear hs; (try clear a w); intro a w hs
            refine sno hs ?_; clear hs; (try clear a w); intro a w hs
            refine sy (v := .bool (false)) hs (y_pick rfl rfl) ?_; clear hs; (try clear a w); intro a w hs
            refine sy (v := .bool (false)) hs (y_move rfl) ?_; clear hs; (try clear a w); intro a w hs
            refine sno hs ?_; clear hs; (try clear a w); intro a w hs
            refine sno hs ?_; clear hs; (try clear a w); intro a w hs
            refine sno hs ?_; clear hs; (try clear a w); intro a w hs
            refine sy (v := .bool (false)) hs (y_pick rfl rfl) ?_; clear hs; (try clear a w); intro a w hs
            refine sy (v := .bool (false)) hs (y_move rfl) ?_; clear hs; (try clear a w); intro a w hs
            refine sno hs ?_; clear hs; (try clear a w); intro a w hs
            refine sno hs ?_; clear hs; (try clear a w); intro a w hs
            refine sno hs ?_; clear hs; (try clear a w); intro a w hs
            refine sy (v := .bool (false)) hs (y_pick rfl rfl) ?_; clear hs; (try clear a w); intro a w hs
            refine sy (v := .bool (false)) hs (y_move rfl) ?_; clear hs; (try clear a w); intro a w hs
            refine sno hs ?_; clear hs; (try clear a w); intro a w hs
            refine sno hs ?_; clear hs; (try clear a w); intro a w hs
            refine sno hs ?_; clear hs; (try clear a w); intro a w hs
            refine sy (v := .bool (false)) hs (y_pick rfl rfl) ?_; clear hs; (try clear a w); intro a w hs
            refine sy (v := .bool (false)) hs (y_move rfl) ?_; clear hs; (try clear a w); intro a w hs
            refine sno hs ?_; clear hs; (try clear a w); intro a w hs
            refine sy (v := .bool (false)) hs (y_pick rfl rfl) ?_; clear hs; (try clear a w); intro a w hs
            refine sstore 1 hs rfl rfl rfl ti4 rfl ?_; clear hs; (try clear a w); intro a w hs
            replace hs : St _ _ _ (.blk b156 (.cells #[v151] 24 (0, 0)) :: .blk b1 (.cells #[.bool (false)] 4 (0, 0)) :: L) _ _ _ := hs
            refine RL_nil ?_
            exact ⟨_, false, hbase190, hm, hs.subs ⟨rfl, trivial⟩ (.cons _ (.cons_cons _ (.refl _)))⟩
          ·clear hs; have hs := hq; clear hq
           replace hm := oc_f hg200 hm
           refine sno hs ?_; clear hs; (try clear a w); intro a w hs
           refine sno hs ?_; clear hs; (try clear a w); intro a w hs
           refine sno hs ?_; clear hs; (try clear a w); intro a w hs
           refine sno hs ?_; clear hs; (try clear a w); intro a w hs
           refine sy (v := .bool (false)) hs (y_pick rfl rfl) ?_; clear hs; (try clear a w); intro a w hs
           refine sy (v := .bool (false)) hs (y_move rfl) ?_; clear hs; (try clear a w); intro a w hs
           refine sno hs ?_; clear hs; (try clear a w); intro a w hs
           refine sno hs ?_; clear hs; (try clear a w); intro a w hs
           refine sy (v := .bool (false)) hs (y_pick rfl rfl) ?_; clear hs; (try clear a w); intro a w hs
           refine sy (v := .bool (false)) hs (y_move rfl) ?_; clear hs; (try clear a w); intro a w hs
           refine sno hs ?_; clear hs; (try clear a w); intro a w hs
           refine sno hs ?_; clear hs; (try clear a w); intro a w hs
           refine sno hs ?_; clear hs; (try clear a w); intro a w hs
           refine sy (v := .bool (false)) hs (y_pick rfl rfl) ?_; clear hs; (try clear a w); intro a w hs
           refine sy (v := .bool (false)) hs (y_move rfl) ?_; clear hs; (try clear a w); intro a w hs
           refine sno hs ?_; clear hs; (try clear a w); intro a w hs
           refine sno hs ?_; clear hs; (try clear a w); intro a w hs
           refine sno hs ?_; clear hs; (try clear a w); intro a w hs
           refine sy (v := .bool (false)) hs (y_pick rfl rfl) ?_; clear hs; (try clear a w); intro a w hs
           refine sy (v := .bool (false)) hs (y_move rfl) ?_; clear hs; (try clear a w); intro a w hs
           refine sno hs ?_; clear hs; (try clear a w); intro a w hs
           refine sno hs ?_; clear hs; (try clear a w); intro a w hs
           refine sno hs ?_; clear hs; (try clear a w); intro a w hs
           refine sy (v := .bool (false)) hs (y_pick rfl rfl) ?_; clear hs; (try clear a w); intro a w hs
           refine sy (v := .bool (false)) hs (y_move rfl) ?_; clear hs; (try clear a w); intro a w hs
           refine sno hs ?_; clear hs; (try clear a w); intro a w hs
           refine sy (v := .bool (false)) hs (y_pick rfl rfl) ?_; clear hs; (try clear a w); intro a w hs
           refine sstore 1 hs rfl rfl rfl ti4 rfl ?_; clear hs; (try clear a w); intro a w hs
           replace hs : St _ _ _ (.blk b156 (.cells #[v151] 24 (0, 0)) :: .blk b1 (.cells #[.bool (false)] 4 (0, 0)) :: L) _ _ _ := hs
           refine RL_nil ?_
           exact ⟨_, false, (Fz.le.refl _), hm, hs.subs ⟨rfl, trivial⟩ (.cons _ (.cons_cons _ (.refl _)))⟩
         ·clear hs; have hs := hq; clear hq
          replace hm := oc_f hg196 hm
          refine sno hs ?_; clear hs; (try clear a w); intro a w hs
          refine sno hs ?_; clear hs; (try clear a w); intro a w hs
          refine sno hs ?_; clear hs; (try clear a w); intro a w hs
          refine sy (v := .bool (false)) hs (y_pick rfl rfl) ?_; clear hs; (try clear a w); intro a w hs
          refine sy (v := .bool (false)) hs (y_move rfl) ?_; clear hs; (try clear a w); intro a w hs
          refine sno hs ?_; clear hs; (try clear a w); intro a w hs
          refine sno hs ?_; clear hs; (try clear a w); intro a w hs
          refine sno hs ?_; clear hs; (try clear a w); intro a w hs
          refine sno hs ?_; clear hs; (try clear a w); intro a w hs
          refine sy (v := .bool (false)) hs (y_pick rfl rfl) ?_; clear hs; (try clear a w); intro a w hs
          refine sy (v := .bool (false)) hs (y_move rfl) ?_; clear hs; (try clear a w); intro a w hs
          refine sno hs ?_; clear hs; (try clear a w); intro a w hs
          refine sno hs ?_; clear hs; (try clear a w); intro a w hs
          refine sy (v := .bool (false)) hs (y_pick rfl rfl) ?_; clear hs; (try clear a w); intro a w hs
          refine sy (v := .bool (false)) hs (y_move rfl) ?_; clear hs; (try clear a w); intro a w hs
          refine sno hs ?_; clear hs; (try clear a w); intro a w hs
          refine sno hs ?_; clear hs; (try clear a w); intro a w hs
          refine sno hs ?_; clear hs; (try clear a w); intro a w hs
          refine sy (v := .bool (false)) hs (y_pick rfl rfl) ?_; clear hs; (try clear a w); intro a w hs
          refine sy (v := .bool (false)) hs (y_move rfl) ?_; clear hs; (try clear a w); intro a w hs
          refine sno hs ?_; clear hs; (try clear a w); intro a w hs
          refine sno hs ?_; clear hs; (try clear a w); intro a w hs
          refine sno hs ?_; clear hs; (try clear a w); intro a w hs
          refine sy (v := .bool (false)) hs (y_pick rfl rfl) ?_; clear hs; (try clear a w); intro a w hs
          refine sy (v := .bool (false)) hs (y_move rfl) ?_; clear hs; (try clear a w); intro a w hs
          refine sno hs ?_; clear hs; (try clear a w); intro a w hs
          refine sno hs ?_; clear hs; (try clear a w); intro a w hs
          refine sno hs ?_; clear hs; (try clear a w); intro a w hs
          refine sy (v := .bool (false)) hs (y_pick rfl rfl) ?_; clear hs; (try clear a w); intro a w hs
          refine sy (v := .bool (false)) hs (y_move rfl) ?_; clear hs; (try clear a w); intro a w hs
          refine sno hs ?_; clear hs; (try clear a w); intro a w hs
          refine sy (v := .bool (false)) hs (y_pick rfl rfl) ?_; clear hs; (try clear a w); intro a w hs
          refine sstore 1 hs rfl rfl rfl ti4 rfl ?_; clear hs; (try clear a w); intro a w hs
          replace hs : St _ _ _ (.blk b156 (.cells #[v151] 24 (0, 0)) :: .blk b1 (.cells #[.bool (false)] 4 (0, 0)) :: L) _ _ _ := hs
          refine RL_nil ?_
          exact ⟨_, false, (Fz.le.refl _), hm, hs.subs ⟨rfl, trivial⟩ (.cons _ (.cons_cons _ (.refl _)))⟩
        ·clear hs; have hs := hq; clear hq
         replace hm := oc_f hg195 hm
         refine sno hs ?_; clear hs; (try clear a w); intro a w hs
         refine sno hs ?_; clear hs; (try clear a w); intro a w hs
         refine sy (v := .bool (false)) hs (y_pick rfl rfl) ?_; clear hs; (try clear a w); intro a w hs
         refine sy (v := .bool (false)) hs (y_move rfl) ?_; clear hs; (try clear a w); intro a w hs
         refine sno hs ?_; clear hs; (try clear a w); intro a w hs
         refine sno hs ?_; clear hs; (try clear a w); intro a w hs
         refine sno hs ?_; clear hs; (try clear a w); intro a w hs
         refine sy (v := .bool (false)) hs (y_pick rfl rfl) ?_; clear hs; (try clear a w); intro a w hs
         refine sy (v := .bool (false)) hs (y_move rfl) ?_; clear hs; (try clear a w); intro a w hs
         refine sno hs ?_; clear hs; (try clear a w); intro a w hs
         refine sno hs ?_; clear hs; (try clear a w); intro a w hs
         refine sno hs ?_; clear hs; (try clear a w); intro a w hs
         refine sno hs ?_; clear hs; (try clear a w); intro a w hs
         refine sy (v := .bool (false)) hs (y_pick rfl rfl) ?_; clear hs; (try clear a w); intro a w hs
         refine sy (v := .bool (false)) hs (y_move rfl) ?_; clear hs; (try clear a w); intro a w hs
         refine sno hs ?_; clear hs; (try clear a w); intro a w hs
         refine sno hs ?_; clear hs; (try clear a w); intro a w hs
         refine sy (v := .bool (false)) hs (y_pick rfl rfl) ?_; clear hs; (try clear a w); intro a w hs
         refine sy (v := .bool (false)) hs (y_move rfl) ?_; clear hs; (try clear a w); intro a w hs
         refine sno hs ?_; clear hs; (try clear a w); intro a w hs
         refine sno hs ?_; clear hs; (try clear a w); intro a w hs
         refine sno hs ?_; clear hs; (try clear a w); intro a w hs
         refine sy (v := .bool (false)) hs (y_pick rfl rfl) ?_; clear hs; (try clear a w); intro a w hs
         refine sy (v := .bool (false)) hs (y_move rfl) ?_; clear hs; (try clear a w); intro a w hs
         refine sno hs ?_; clear hs; (try clear a w); intro a w hs
         refine sno hs ?_; clear hs; (try clear a w); intro a w hs
         refine sno hs ?_; clear hs; (try clear a w); intro a w hs
         refine sy (v := .bool (false)) hs (y_pick rfl rfl) ?_; clear hs; (try clear a w); intro a w hs
         refine sy (v := .bool (false)) hs (y_move rfl) ?_; clear hs; (try clear a w); intro a w hs
         refine sno hs ?_; clear hs; (try clear a w); intro a w hs
         refine sno hs ?_; clear hs; (try clear a w); intro a w hs
         refine sno hs ?_; clear hs; (try clear a w); intro a w hs
         refine sy (v := .bool (false)) hs (y_pick rfl rfl) ?_; clear hs; (try clear a w); intro a w hs
         refine sy (v := .bool (false)) hs (y_move rfl) ?_; clear hs; (try clear a w); intro a w hs
         refine sno hs ?_; clear hs; (try clear a w); intro a w hs
         refine sy (v := .bool (false)) hs (y_pick rfl rfl) ?_; clear hs; (try clear a w); intro a w hs
         refine sstore 1 hs rfl rfl rfl ti4 rfl ?_; clear hs; (try clear a w); intro a w hs
         replace hs : St _ _ _ (.blk b156 (.cells #[v151] 24 (0, 0)) :: .blk b1 (.cells #[.bool (false)] 4 (0, 0)) :: L) _ _ _ := hs
         refine RL_nil ?_
         exact ⟨_, false, (Fz.le.refl _), hm, hs.subs ⟨rfl, trivial⟩ (.cons _ (.cons_cons _ (.refl _)))⟩
       ·clear hs; have hs := hq; clear hq
        replace hm := oc_f hg194 hm
        refine sno hs ?_; clear hs; (try clear a w); intro a w hs
        refine sno hs ?_; clear hs; (try clear a w); intro a w hs
        refine sy (v := .bool (false)) hs (y_pick rfl rfl) ?_; clear hs; (try clear a w); intro a w hs
        refine sy (v := .bool (false)) hs (y_move rfl) ?_; clear hs; (try clear a w); intro a w hs
        refine sno hs ?_; clear hs; (try clear a w); intro a w hs
        refine sno hs ?_; clear hs; (try clear a w); intro a w hs
        refine sy (v := .bool (false)) hs (y_pick rfl rfl) ?_; clear hs; (try clear a w); intro a w hs
        refine sy (v := .bool (false)) hs (y_move rfl) ?_; clear hs; (try clear a w); intro a w hs
        refine sno hs ?_; clear hs; (try clear a w); intro a w hs
        refine sno hs ?_; clear hs; (try clear a w); intro a w hs
        refine sno hs ?_; clear hs; (try clear a w); intro a w hs
        refine sy (v := .bool (false)) hs (y_pick rfl rfl) ?_; clear hs; (try clear a w); intro a w hs
        refine sy (v := .bool (false)) hs (y_move rfl) ?_; clear hs; (try clear a w); intro a w hs
        refine sno hs ?_; clear hs; (try clear a w); intro a w hs
        refine sno hs ?_; clear hs; (try clear a w); intro a w hs
        refine sno hs ?_; clear hs; (try clear a w); intro a w hs
        refine sno hs ?_; clear hs; (try clear a w); intro a w hs
        refine sy (v := .bool (false)) hs (y_pick rfl rfl) ?_; clear hs; (try clear a w); intro a w hs
        refine sy (v := .bool (false)) hs (y_move rfl) ?_; clear hs; (try clear a w); intro a w hs
        refine sno hs ?_; clear hs; (try clear a w); intro a w hs
        refine sno hs ?_; clear hs; (try clear a w); intro a w hs
        refine sy (v := .bool (false)) hs (y_pick rfl rfl) ?_; clear hs; (try clear a w); intro a w hs
        refine sy (v := .bool (false)) hs (y_move rfl) ?_; clear hs; (try clear a w); intro a w hs
        refine sno hs ?_; clear hs; (try clear a w); intro a w hs
        refine sno hs ?_; clear hs; (try clear a w); intro a w hs
        refine sno hs ?_; clear hs; (try clear a w); intro a w hs
        refine sy (v := .bool (false)) hs (y_pick rfl rfl) ?_; clear hs; (try clear a w); intro a w hs
        refine sy (v := .bool (false)) hs (y_move rfl) ?_; clear hs; (try clear a w); intro a w hs
        refine sno hs ?_; clear hs; (try clear a w); intro a w hs
        refine sno hs ?_; clear hs; (try clear a w); intro a w hs
        refine sno hs ?_; clear hs; (try clear a w); intro a w hs
        refine sy (v := .bool (false)) hs (y_pick rfl rfl) ?_; clear hs; (try clear a w); intro a w hs
        refine sy (v := .bool (false)) hs (y_move rfl) ?_; clear hs; (try clear a w); intro a w hs
        refine sno hs ?_; clear hs; (try clear a w); intro a w hs
        refine sno hs ?_; clear hs; (try clear a w); intro a w hs
        refine sno hs ?_; clear hs; (try clear a w); intro a w hs
        refine sy (v := .bool (false)) hs (y_pick rfl rfl) ?_; clear hs; (try clear a w); intro a w hs
        refine sy (v := .bool (false)) hs (y_move rfl) ?_; clear hs; (try clear a w); intro a w hs
        refine sno hs ?_; clear hs; (try clear a w); intro a w hs
        refine sy (v := .bool (false)) hs (y_pick rfl rfl) ?_; clear hs; (try clear a w); intro a w hs
        refine sstore 1 hs rfl rfl rfl ti4 rfl ?_; clear hs; (try clear a w); intro a w hs
        replace hs : St _ _ _ (.blk b156 (.cells #[v151] 24 (0, 0)) :: .blk b1 (.cells #[.bool (false)] 4 (0, 0)) :: L) _ _ _ := hs
        refine RL_nil ?_
        exact ⟨_, false, (Fz.le.refl _), hm, hs.subs ⟨rfl, trivial⟩ (.cons _ (.cons_cons _ (.refl _)))⟩
      ·clear hs; have hs := hq; clear hq
       replace hm := oc_f hg193 hm
       refine sno hs ?_; clear hs; (try clear a w); intro a w hs
       refine sno hs ?_; clear hs; (try clear a w); intro a w hs
       refine sy (v := .bool (false)) hs (y_pick rfl rfl) ?_; clear hs; (try clear a w); intro a w hs
       refine sy (v := .bool (false)) hs (y_move rfl) ?_; clear hs; (try clear a w); intro a w hs
       refine sno hs ?_; clear hs; (try clear a w); intro a w hs
       refine sno hs ?_; clear hs; (try clear a w); intro a w hs
       refine sy (v := .bool (false)) hs (y_pick rfl rfl) ?_; clear hs; (try clear a w); intro a w hs
       refine sy (v := .bool (false)) hs (y_move rfl) ?_; clear hs; (try clear a w); intro a w hs
       refine sno hs ?_; clear hs; (try clear a w); intro a w hs
       refine sno hs ?_; clear hs; (try clear a w); intro a w hs
       refine sy (v := .bool (false)) hs (y_pick rfl rfl) ?_; clear hs; (try clear a w); intro a w hs
       refine sy (v := .bool (false)) hs (y_move rfl) ?_; clear hs; (try clear a w); intro a w hs
       refine sno hs ?_; clear hs; (try clear a w); intro a w hs
       refine sno hs ?_; clear hs; (try clear a w); intro a w hs
       refine sno hs ?_; clear hs; (try clear a w); intro a w hs
       refine sy (v := .bool (false)) hs (y_pick rfl rfl) ?_; clear hs; (try clear a w); intro a w hs
       refine sy (v := .bool (false)) hs (y_move rfl) ?_; clear hs; (try clear a w); intro a w hs
       refine sno hs ?_; clear hs; (try clear a w); intro a w hs
       refine sno hs ?_; clear hs; (try clear a w); intro a w hs
       refine sno hs ?_; clear hs; (try clear a w); intro a w hs
       refine sno hs ?_; clear hs; (try clear a w); intro a w hs
       refine sy (v := .bool (false)) hs (y_pick rfl rfl) ?_; clear hs; (try clear a w); intro a w hs
       refine sy (v := .bool (false)) hs (y_move rfl) ?_; clear hs; (try clear a w); intro a w hs
       refine sno hs ?_; clear hs; (try clear a w); intro a w hs
       refine sno hs ?_; clear hs; (try clear a w); intro a w hs
       refine sy (v := .bool (false)) hs (y_pick rfl rfl) ?_; clear hs; (try clear a w); intro a w hs
       refine sy (v := .bool (false)) hs (y_move rfl) ?_; clear hs; (try clear a w); intro a w hs
       refine sno hs ?_; clear hs; (try clear a w); intro a w hs
       refine sno hs ?_; clear hs; (try clear a w); intro a w hs
       refine sno hs ?_; clear hs; (try clear a w); intro a w hs
       refine sy (v := .bool (false)) hs (y_pick rfl rfl) ?_; clear hs; (try clear a w); intro a w hs
       refine sy (v := .bool (false)) hs (y_move rfl) ?_; clear hs; (try clear a w); intro a w hs
       refine sno hs ?_; clear hs; (try clear a w); intro a w hs
       refine sno hs ?_; clear hs; (try clear a w); intro a w hs
       refine sno hs ?_; clear hs; (try clear a w); intro a w hs
       refine sy (v := .bool (false)) hs (y_pick rfl rfl) ?_; clear hs; (try clear a w); intro a w hs
       refine sy (v := .bool (false)) hs (y_move rfl) ?_; clear hs; (try clear a w); intro a w hs
       refine sno hs ?_; clear hs; (try clear a w); intro a w hs
       refine sno hs ?_; clear hs; (try clear a w); intro a w hs
       refine sno hs ?_; clear hs; (try clear a w); intro a w hs
       refine sy (v := .bool (false)) hs (y_pick rfl rfl) ?_; clear hs; (try clear a w); intro a w hs
       refine sy (v := .bool (false)) hs (y_move rfl) ?_; clear hs; (try clear a w); intro a w hs
       refine sno hs ?_; clear hs; (try clear a w); intro a w hs
       refine sy (v := .bool (false)) hs (y_pick rfl rfl) ?_; clear hs; (try clear a w); intro a w hs
       refine sstore 1 hs rfl rfl rfl ti4 rfl ?_; clear hs; (try clear a w); intro a w hs
       replace hs : St _ _ _ (.blk b156 (.cells #[v151] 24 (0, 0)) :: .blk b1 (.cells #[.bool (false)] 4 (0, 0)) :: L) _ _ _ := hs
       refine RL_nil ?_
       exact ⟨_, false, (Fz.le.refl _), hm, hs.subs ⟨rfl, trivial⟩ (.cons _ (.cons_cons _ (.refl _)))⟩
     ·clear hs; have hs := hq; clear hq
      replace hm := oc_f hg192 hm
      refine sno hs ?_; clear hs; (try clear a w); intro a w hs
      refine sno hs ?_; clear hs; (try clear a w); intro a w hs
      refine sy (v := .bool (false)) hs (y_pick rfl rfl) ?_; clear hs; (try clear a w); intro a w hs
      refine sy (v := .bool (false)) hs (y_move rfl) ?_; clear hs; (try clear a w); intro a w hs
      refine sno hs ?_; clear hs; (try clear a w); intro a w hs
      refine sno hs ?_; clear hs; (try clear a w); intro a w hs
      refine sy (v := .bool (false)) hs (y_pick rfl rfl) ?_; clear hs; (try clear a w); intro a w hs
      refine sy (v := .bool (false)) hs (y_move rfl) ?_; clear hs; (try clear a w); intro a w hs
      refine sno hs ?_; clear hs; (try clear a w); intro a w hs
      refine sno hs ?_; clear hs; (try clear a w); intro a w hs
      refine sy (v := .bool (false)) hs (y_pick rfl rfl) ?_; clear hs; (try clear a w); intro a w hs
      refine sy (v := .bool (false)) hs (y_move rfl) ?_; clear hs; (try clear a w); intro a w hs
      refine sno hs ?_; clear hs; (try clear a w); intro a w hs
      refine sno hs ?_; clear hs; (try clear a w); intro a w hs
      refine sy (v := .bool (false)) hs (y_pick rfl rfl) ?_; clear hs; (try clear a w); intro a w hs
      refine sy (v := .bool (false)) hs (y_move rfl) ?_; clear hs; (try clear a w); intro a w hs
      refine sno hs ?_; clear hs; (try clear a w); intro a w hs
      refine sno hs ?_; clear hs; (try clear a w); intro a w hs
      refine sno hs ?_; clear hs; (try clear a w); intro a w hs
      refine sy (v := .bool (false)) hs (y_pick rfl rfl) ?_; clear hs; (try clear a w); intro a w hs
      refine sy (v := .bool (false)) hs (y_move rfl) ?_; clear hs; (try clear a w); intro a w hs
      refine sno hs ?_; clear hs; (try clear a w); intro a w hs
      refine sno hs ?_; clear hs; (try clear a w); intro a w hs
      refine sno hs ?_; clear hs; (try clear a w); intro a w hs
      refine sno hs ?_; clear hs; (try clear a w); intro a w hs
      refine sy (v := .bool (false)) hs (y_pick rfl rfl) ?_; clear hs; (try clear a w); intro a w hs
      refine sy (v := .bool (false)) hs (y_move rfl) ?_; clear hs; (try clear a w); intro a w hs
      refine sno hs ?_; clear hs; (try clear a w); intro a w hs
      refine sno hs ?_; clear hs; (try clear a w); intro a w hs
      refine sy (v := .bool (false)) hs (y_pick rfl rfl) ?_; clear hs; (try clear a w); intro a w hs
      refine sy (v := .bool (false)) hs (y_move rfl) ?_; clear hs; (try clear a w); intro a w hs
      refine sno hs ?_; clear hs; (try clear a w); intro a w hs
      refine sno hs ?_; clear hs; (try clear a w); intro a w hs
      refine sno hs ?_; clear hs; (try clear a w); intro a w hs
      refine sy (v := .bool (false)) hs (y_pick rfl rfl) ?_; clear hs; (try clear a w); intro a w hs
      refine sy (v := .bool (false)) hs (y_move rfl) ?_; clear hs; (try clear a w); intro a w hs
      refine sno hs ?_; clear hs; (try clear a w); intro a w hs
      refine sno hs ?_; clear hs; (try clear a w); intro a w hs
      refine sno hs ?_; clear hs; (try clear a w); intro a w hs
      refine sy (v := .bool (false)) hs (y_pick rfl rfl) ?_; clear hs; (try clear a w); intro a w hs
      refine sy (v := .bool (false)) hs (y_move rfl) ?_; clear hs; (try clear a w); intro a w hs
      refine sno hs ?_; clear hs; (try clear a w); intro a w hs
      refine sno hs ?_; clear hs; (try clear a w); intro a w hs
      refine sno hs ?_; clear hs; (try clear a w); intro a w hs
      refine sy (v := .bool (false)) hs (y_pick rfl rfl) ?_; clear hs; (try clear a w); intro a w hs
      refine sy (v := .bool (false)) hs (y_move rfl) ?_; clear hs; (try clear a w); intro a w hs
      refine sno hs ?_; clear hs; (try clear a w); intro a w hs
      refine sy (v := .bool (false)) hs (y_pick rfl rfl) ?_; clear hs; (try clear a w); intro a w hs
      refine sstore 1 hs rfl rfl rfl ti4 rfl ?_; clear hs; (try clear a w); intro a w hs
      replace hs : St _ _ _ (.blk b156 (.cells #[v151] 24 (0, 0)) :: .blk b1 (.cells #[.bool (false)] 4 (0, 0)) :: L) _ _ _ := hs
      refine RL_nil ?_
      exact ⟨_, false, (Fz.le.refl _), hm, hs.subs ⟨rfl, trivial⟩ (.cons _ (.cons_cons _ (.refl _)))⟩
    ·clear hs; have hs := hq; clear hq
     replace hm := oc_f hg191 hm
     refine sno hs ?_; clear hs; (try clear a w); intro a w hs
     refine sno hs ?_; clear hs; (try clear a w); intro a w hs
     refine sy (v := .bool (false)) hs (y_pick rfl rfl) ?_; clear hs; (try clear a w); intro a w hs
     refine sy (v := .bool (false)) hs (y_move rfl) ?_; clear hs; (try clear a w); intro a w hs
     refine sno hs ?_; clear hs; (try clear a w); intro a w hs
     refine sno hs ?_; clear hs; (try clear a w); intro a w hs
     refine sy (v := .bool (false)) hs (y_pick rfl rfl) ?_; clear hs; (try clear a w); intro a w hs
     refine sy (v := .bool (false)) hs (y_move rfl) ?_; clear hs; (try clear a w); intro a w hs
     refine sno hs ?_; clear hs; (try clear a w); intro a w hs
     refine sno hs ?_; clear hs; (try clear a w); intro a w hs
     refine sy (v := .bool (false)) hs (y_pick rfl rfl) ?_; clear hs; (try clear a w); intro a w hs
     refine sy (v := .bool (false)) hs (y_move rfl) ?_; clear hs; (try clear a w); intro a w hs
     refine sno hs ?_; clear hs; (try clear a w); intro a w hs
     refine sno hs ?_; clear hs; (try clear a w); intro a w hs
     refine sy (v := .bool (false)) hs (y_pick rfl rfl) ?_; clear hs; (try clear a w); intro a w hs
     refine sy (v := .bool (false)) hs (y_move rfl) ?_; clear hs; (try clear a w); intro a w hs
     refine sno hs ?_; clear hs; (try clear a w); intro a w hs
     refine sno hs ?_; clear hs; (try clear a w); intro a w hs
     refine sy (v := .bool (false)) hs (y_pick rfl rfl) ?_; clear hs; (try clear a w); intro a w hs
     refine sy (v := .bool (false)) hs (y_move rfl) ?_; clear hs; (try clear a w); intro a w hs
     refine sno hs ?_; clear hs; (try clear a w); intro a w hs
     refine sno hs ?_; clear hs; (try clear a w); intro a w hs
     refine sno hs ?_; clear hs; (try clear a w); intro a w hs
     refine sy (v := .bool (false)) hs (y_pick rfl rfl) ?_; clear hs; (try clear a w); intro a w hs
     refine sy (v := .bool (false)) hs (y_move rfl) ?_; clear hs; (try clear a w); intro a w hs
     refine sno hs ?_; clear hs; (try clear a w); intro a w hs
     refine sno hs ?_; clear hs; (try clear a w); intro a w hs
     refine sno hs ?_; clear hs; (try clear a w); intro a w hs
     refine sno hs ?_; clear hs; (try clear a w); intro a w hs
     refine sy (v := .bool (false)) hs (y_pick rfl rfl) ?_; clear hs; (try clear a w); intro a w hs
     refine sy (v := .bool (false)) hs (y_move rfl) ?_; clear hs; (try clear a w); intro a w hs
     refine sno hs ?_; clear hs; (try clear a w); intro a w hs
     refine sno hs ?_; clear hs; (try clear a w); intro a w hs
     refine sy (v := .bool (false)) hs (y_pick rfl rfl) ?_; clear hs; (try clear a w); intro a w hs
     refine sy (v := .bool (false)) hs (y_move rfl) ?_; clear hs; (try clear a w); intro a w hs
     refine sno hs ?_; clear hs; (try clear a w); intro a w hs
     refine sno hs ?_; clear hs; (try clear a w); intro a w hs
     refine sno hs ?_; clear hs; (try clear a w); intro a w hs
     refine sy (v := .bool (false)) hs (y_pick rfl rfl) ?_; clear hs; (try clear a w); intro a w hs
     refine sy (v := .bool (false)) hs (y_move rfl) ?_; clear hs; (try clear a w); intro a w hs
     refine sno hs ?_; clear hs; (try clear a w); intro a w hs
     refine sno hs ?_; clear hs; (try clear a w); intro a w hs
     refine sno hs ?_; clear hs; (try clear a w); intro a w hs
     refine sy (v := .bool (false)) hs (y_pick rfl rfl) ?_; clear hs; (try clear a w); intro a w hs
     refine sy (v := .bool (false)) hs (y_move rfl) ?_; clear hs; (try clear a w); intro a w hs
     refine sno hs ?_; clear hs; (try clear a w); intro a w hs
     refine sno hs ?_; clear hs; (try clear a w); intro a w hs
     refine sno hs ?_; clear hs; (try clear a w); intro a w hs
     refine sy (v := .bool (false)) hs (y_pick rfl rfl) ?_; clear hs; (try clear a w); intro a w hs
     refine sy (v := .bool (false)) hs (y_move rfl) ?_; clear hs; (try clear a w); intro a w hs
     refine sno hs ?_; clear hs; (try clear a w); intro a w hs
     refine sy (v := .bool (false)) hs (y_pick rfl rfl) ?_; clear hs; (try clear a w); intro a w hs
     refine sstore 1 hs rfl rfl rfl ti4 rfl ?_; clear hs; (try clear a w); intro a w hs
     replace hs : St _ _ _ (.blk b156 (.cells #[v151] 24 (0, 0)) :: .blk b1 (.cells #[.bool (false)] 4 (0, 0)) :: L) _ _ _ := hs
     refine RL_nil ?_
     exact ⟨_, false, (Fz.le.refl _), hm, hs.subs ⟨rfl, trivial⟩ (.cons _ (.cons_cons _ (.refl _)))⟩
  ·clear hs hm; (try clear w)
   rintro c f223 D225 _ w hf224 hD0 hD hX hs
   replace hM := Marks.cons hM hle hf224 hD0 hD; clear hD0 hD
   rcases hX with ⟨rfl, hm, rfl⟩
   replace hW73 := hW73.le hf224
   replace hR78 := hR78.le hf224
   replace hR87 := hR87.le hf224
   replace hW88 := hW88.le hf224
   replace hW94 := hW94.le hf224
   replace hR102 := hR102.le hf224
   replace hR111 := hR111.le hf224
   replace hW112 := hW112.le hf224
   replace hW121 := hW121.le hf224
   replace hR130 := hR130.le hf224
   replace hR139 := hR139.le hf224
   replace hW140 := hW140.le hf224
   replace hR153 := hR153.le hf224
   replace hW154 := hW154.le hf224
   replace hR177 := hR177.le hf224
   replace hW178 := hW178.le hf224
   replace hB168 := hf224 _ _ hB168
   replace hB173 := hf224 _ _ hB173
   replace hle := hle.trans hf224
   replace hs : St _ _ _ (.blk b156 (.cells #[v151] 24 (0, 0)) :: .blk b1 (.cells #[.bool (false)] 4 (0, 0)) :: L) _ _ _ := hs
   unfold law5_DomNumbers_k3 at hm
   refine W1_of ?_
   refine W_ret ?_
   obtain rfl := Option.some.inj hm
   refine RtM_of hs hle hM ?_; clear hs; (try clear w); intro w hs
   replace hle := Fz.le.refl f
   refine RtV1 hs rfl (rv_c hs rfl Try.underlying4 rfl (Cell.blk (.tail _ (.head _)) rfl)) ?_
   exact ⟨rfl, ((hs.subL (.cons _ (.cons _ (.refl _)))).weak hle).cw⟩
 ·refine W_block fun Qe22 hB22 hO22 => ?_
  have hbase := Fz.le.refl f49
  replace hs := hs.nilRow 35 4
  have hW238 : RW t_dom_Part f49 [] ([] : List dom_Part) := trivial
  generalize hgrw239 : ([] : List (List Value)) = rw239 at hs hW238; clear hgrw239
  replace hs : St _ _ _ (.row (.slice none 0 0) 35 4 rw239 :: .blk b63 (.cells #[.string ((bs [97])), .string ((bs [])), (.slice none 0 0), (.slice none 0 0)] 35 (0, 0)) :: .blk b58 (.cells #[v53] 24 (0, 0)) :: .blk b32 (.cells #[v27] 24 (0, 0)) :: .blk b16 (.cells #[v11] 24 (0, 0)) :: .blk b1 (.cells #[.bool (false)] 4 (0, 0)) :: L) _ _ _ := hs
  replace hs : St _ _ _ (.row (.slice none 0 0) 35 4 rw239 :: .blk b63 (.cells #[.string ((bs [97])), .string ((bs [])), (.slice none 0 0), (.slice none 0 0)] 35 (0, 0)) :: .blk b58 (.cells #[v53] 24 (0, 0)) :: .blk b32 (.cells #[v27] 24 (0, 0)) :: .blk b16 (.cells #[v11] 24 (0, 0)) :: .blk b1 (.cells #[.bool (false)] 4 (0, 0)) :: L) _ _ _ := hs
  refine W_loop (fun (k : Nat) a w => ∃ (f229 : Fz) (y232 : (List dom_Part)) (y237 : Int) (v233 : Value) (rw234 : List (List Value)), Fz.le f49 f229 ∧ law5_DomNumbers_l5 n x5 x21 x47 k y232 y237 = some res ∧ RW t_dom_Part f229 rw234 y232 ∧ St 133 w0 f229 (.row v233 35 4 rw234 :: .blk b63 (.cells #[.string ((bs [97])), .string ((bs [])), (.slice none 0 0), v233] 35 (0, 0)) :: .blk b1 (.cells #[.bool (false)] 4 (0, 0)) :: L) [(0, .pointer (some ⟨b1, 0, none⟩)), (2, .int .i64 (x5.2)), (4, .int .i64 (x21.2)), (6, .int .i64 (x47.2)), (7, .pointer (some ⟨b63, 0, none⟩)), (8, .int .i64 (y237))] a w) (fun k => k) n ⟨_, ([] : List dom_Part), 1, (.slice none 0 0), rw239, (Fz.le.refl _), hm, hW238, hs.subs ⟨rfl, rfl, rfl, rfl, rfl, rfl, trivial⟩ (.cons_cons _ (.cons_cons _ (.cons _ (.cons _ (.cons _ (.cons_cons _ (.refl _)))))))⟩ ?_
  clear hs hm
  intro k
  rintro a w ⟨f229, y232, y237, v233, rw234, hl230, hm, hW235, hs⟩
  replace hR13 := hR13.le hl230
  replace hW14 := hW14.le hl230
  replace hR29 := hR29.le hl230
  replace hW30 := hW30.le hl230
  replace hW38 := hW38.le hl230
  replace hR46 := hR46.le hl230
  replace hR55 := hR55.le hl230
  replace hW56 := hW56.le hl230
  replace hle := hle.trans hl230
  replace hbase75 := hbase75.trans hl230
  replace hM := hM.le hl230
  replace hs : St _ _ _ (.row v233 35 4 rw234 :: .blk b63 (.cells #[.string ((bs [97])), .string ((bs [])), (.slice none 0 0), v233] 35 (0, 0)) :: .blk b1 (.cells #[.bool (false)] 4 (0, 0)) :: L) _ _ _ := hs
  intro K23 hK23
  cases k with
  | zero => simp [law5_DomNumbers_l5] at hm
  | succ k242 =>
   rw [law5_DomNumbers_l5] at hm
   have hbase243 := hl230
   refine W_seq fun K24 hK24 => ?_
   refine W_seq fun K25 hK25 => ?_
   refine W_region ?_
   refine sy (v := .int .i64 (y237)) hs (y_move rfl) ?_; clear hs; (try clear a w); intro a w hs
   refine sy hs (y_lss rfl rfl) ?_; clear hs; (try clear a w); intro a w hs
   refine RL_nil ?_
   refine hK25 _ _ ?_; clear hK25
   refine W_cond hs rfl (fun hg244 => ?_) (fun hg244 => ?_)
   ·replace hm := oc_t hg244 hm
    refine W_skip ?_
    refine hK24 _ _ ?_; clear hK24
    refine W_seq fun K26 hK26 => ?_
    refine W_block fun Qe27 hB27 hO27 => ?_
    refine W_region ?_
    refine sy hs (y_ldB rfl Try.underlying35 rfl ti35 (.tail _ (.head _)) rfl) ?_; clear hs; (try clear a w); intro a w hs
    obtain ⟨f247, hf248, hs2, hR249⟩ := hs.frzAt 0 rfl
    clear hs; have hs := hs2; clear hs2
    replace hW235 := hW235.le hf248
    replace hle := hle.trans hf248
    replace hbase75 := hbase75.trans hf248
    replace hbase243 := hbase243.trans hf248
    replace hM := hM.le hf248
    replace hs : St _ _ _ (.blk b63 (.cells #[.string ((bs [97])), .string ((bs [])), (.slice none 0 0), v233] 35 (0, 0)) :: .blk b1 (.cells #[.bool (false)] 4 (0, 0)) :: L) _ _ _ := hs
    refine RL_bs1a hs rfl Try.underlying33 ti35 (by decide) (AllC.row ⟨rfl, rfl, rfl, hR249.one, trivial⟩ rfl) ?_; clear hs; (try clear a w); intro v245 a w hs
    have hW246 : RW t_dom_Part f247 [[.string ((bs [97])), .string ((bs [])), (.slice none 0 0), v233]] [({Name := (bs [97]), Text := (bs []), Attrs := ([] : List api_Attr), Kids := y232} : dom_Part)] := RW.single (R_dom_Part.of (x := ({Name := (bs [97]), Text := (bs []), Attrs := ([] : List api_Attr), Kids := y232} : dom_Part)) RS.nil ⟨rw234, hR249, hW235⟩)
    generalize hgrw250 : ([[.string ((bs [97])), .string ((bs [])), (.slice none 0 0), v233]] : List (List Value)) = rw250 at hs hW246; clear hgrw250
    replace hs : St _ _ _ (.row v245 35 4 rw250 :: .blk b63 (.cells #[.string ((bs [97])), .string ((bs [])), (.slice none 0 0), v233] 35 (0, 0)) :: .blk b1 (.cells #[.bool (false)] 4 (0, 0)) :: L) _ _ _ := hs
    refine sy hs (y_buildS (places := [(0, 1), (1, 1), (2, 1), (3, 1)]) (cs := [.string ((bs [97])), .string ((bs [])), (.slice none 0 0), v245]) rfl Try.underlying35 ti35 (by kernel_rfl) (by decide) rfl ⟨rfl, (hs.one (i := 0) rfl), trivial⟩) ?_; clear hs; (try clear a w); intro a w hs
    refine RL_storeAll (i := 1) hs rfl rfl rfl ti35 ⟨rfl, rfl⟩ (AllC.arr (r := [.string ((bs [97])), .string ((bs [])), (.slice none 0 0), v245]) ⟨rfl, rfl, rfl, (hs.one (i := 0) rfl), trivial⟩) (.free rfl) ?_; clear hs; (try clear a w); intro a w hs
    replace hs : St _ _ _ (.row v245 35 4 rw250 :: .blk b63 (.cells #[.string ((bs [97])), .string ((bs [])), (.slice none 0 0), v245] 35 (0, 0)) :: .blk b1 (.cells #[.bool (false)] 4 (0, 0)) :: L) _ _ _ := hs
    refine RL_nil ?_
    refine hK26 _ _ ?_; clear hK26
    refine W_region ?_
    refine sy (v := .int .i64 (y237)) hs (y_move rfl) ?_; clear hs; (try clear a w); intro a w hs
    refine sy hs (y_add rfl rfl rfl) ?_; clear hs; (try clear a w); intro a w hs
    refine sy (v := .int .i64 ((w64 (y237 + 1)))) hs (y_assign rfl) ?_; clear hs; (try clear a w); intro a w hs
    refine RL_nil ?_
    exact hK23 k242 _ _ (Nat.lt_succ_self _) ⟨_, [({Name := (bs [97]), Text := (bs []), Attrs := ([] : List api_Attr), Kids := y232} : dom_Part)], (w64 (y237 + 1)), v245, rw250, hbase243, hm, hW246, hs.sub ⟨rfl, rfl, rfl, rfl, rfl, rfl, trivial⟩⟩
   ·replace hm := oc_f hg244 hm
    refine W_exit ?_
    refine hB22 _ _ ?_
    exact ⟨_, y232, v233, rw234, hbase75, hm, hW235, hs.sub ⟨rfl, rfl, rfl, rfl, rfl, trivial⟩⟩

end Go.Proofs.Ytekcbgnkikmhpaa
