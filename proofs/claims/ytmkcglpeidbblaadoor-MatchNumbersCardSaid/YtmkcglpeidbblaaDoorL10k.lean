/-
  Walks and laws of this seat; the base is the text Base.
-/
import Derived.Test.YtmkcglpeidbblaaDoorL10o
import Derived.Test.YtmkcglpeidbblaaDoorL10h
import Derived.Test.YtmkcglpeidbblaaDoorRows
/-
  Models of functions, and that the functions compute them. Printed by lift.py.
-/
namespace Go.Proofs.YtmkcglpeidbblaaDoor
open Go.RowKit Go.Sl
/-! casement/casementlaw10.sample -/
def law10_sample (n : Nat) : Option api_Tree :=
  (ref5_Make n ({Name := (bs [114, 111, 111, 116]), Text := (bs []), Attrs := ([] : List api_Attr), Kids := [({Name := (bs [117, 108]), Text := (bs []), Attrs := ([] : List api_Attr), Kids := [({Name := (bs [108, 105]), Text := (bs []), Attrs := [({Name := (bs [99, 108, 97, 115, 115]), Value := (bs [65, 32, 98])} : api_Attr)], Kids := ([] : List ref5_Part)} : ref5_Part), ({Name := (bs []), Text := (bs [116]), Attrs := ([] : List api_Attr), Kids := ([] : List ref5_Part)} : ref5_Part), ({Name := (bs [108, 105]), Text := (bs []), Attrs := [({Name := (bs [105, 100]), Value := (bs [120])} : api_Attr)], Kids := ([] : List ref5_Part)} : ref5_Part)]} : ref5_Part)]} : ref5_Part)).bind fun x50 =>
  some x50.1
set_option maxRecDepth 20000 in
set_option maxHeartbeats 4000000 in
theorem law10_sample_ok (n : Nat) {f : Fz}  {res : api_Tree}  (hm : law10_sample n = some res) : Does Tryd.prog 25 [] f [] (fun r f' L' => ∃ (u0 : List Value), L' = [] ∧ r = .agg u0.toArray ∧ t_api_Tree.R f' u0 res) := by
 unfold law10_sample at hm
 intro w0 L w hC
 refine enter Tryd.func25 rfl Tryd.ntmps25 (by simp) hC fun a hs => ?_
 have hle := Fz.le.refl f
 refine W_seq fun K1 hK1 => ?_
 refine W_region ?_
 refine RL_alloc hs ti24 (.free rfl) (by decide) ?_; clear hs; (try clear a w); intro b1 a w hs
 replace hs : St _ _ _ (.blk b1 (.cells #[(.slice none 0 0)] 24 (0, 0)) :: L) _ _ _ := hs
 refine RL_nil ?_
 refine hK1 _ _ ?_; clear hK1
 refine W_seq fun K2 hK2 => ?_
 refine W_region ?_
 refine sy hs (y_buildS (places := [(0, 1), (1, 1)]) (cs := [.string ((bs [99, 108, 97, 115, 115])), .string ((bs [65, 32, 98]))]) rfl Tryd.underlying91 ti91 (by kernel_rfl) (by decide) rfl ⟨rfl, rfl, trivial⟩) ?_; clear hs; (try clear a w); intro a w hs
 refine RL_bs1a hs rfl Tryd.underlying40 ti91 (by decide) (AllC.row ⟨rfl, rfl, trivial⟩ rfl) ?_; clear hs; (try clear a w); intro v4 a w hs
 have hW5 : RW t_api_Attr f [[.string ((bs [99, 108, 97, 115, 115])), .string ((bs [65, 32, 98]))]] [({Name := (bs [99, 108, 97, 115, 115]), Value := (bs [65, 32, 98])} : api_Attr)] := RW.single (rfl)
 generalize hgrw6 : ([[.string ((bs [99, 108, 97, 115, 115])), .string ((bs [65, 32, 98]))]] : List (List Value)) = rw6 at hs hW5; clear hgrw6
 replace hs : St _ _ _ (.row v4 91 2 rw6 :: .blk b1 (.cells #[(.slice none 0 0)] 24 (0, 0)) :: L) _ _ _ := hs
 refine sy hs (y_buildS (places := [(0, 1), (1, 1), (2, 1), (3, 1)]) (cs := [.string ((bs [108, 105])), .string ((bs [])), v4, (.slice none 0 0)]) rfl Tryd.underlying94 ti94 (by kernel_rfl) (by decide) rfl ⟨rfl, (hs.one (i := 0) rfl), trivial⟩) ?_; clear hs; (try clear a w); intro a w hs
 refine sy hs (y_buildS (places := [(0, 1), (1, 1), (2, 1), (3, 1)]) (cs := [.string ((bs [])), .string ((bs [116])), (.slice none 0 0), (.slice none 0 0)]) rfl Tryd.underlying94 ti94 (by kernel_rfl) (by decide) rfl ⟨rfl, trivial⟩) ?_; clear hs; (try clear a w); intro a w hs
 refine sy hs (y_buildS (places := [(0, 1), (1, 1)]) (cs := [.string ((bs [105, 100])), .string ((bs [120]))]) rfl Tryd.underlying91 ti91 (by kernel_rfl) (by decide) rfl ⟨rfl, rfl, trivial⟩) ?_; clear hs; (try clear a w); intro a w hs
 refine RL_bs1a hs rfl Tryd.underlying40 ti91 (by decide) (AllC.row ⟨rfl, rfl, trivial⟩ rfl) ?_; clear hs; (try clear a w); intro v13 a w hs
 have hW14 : RW t_api_Attr f [[.string ((bs [105, 100])), .string ((bs [120]))]] [({Name := (bs [105, 100]), Value := (bs [120])} : api_Attr)] := RW.single (rfl)
 generalize hgrw15 : ([[.string ((bs [105, 100])), .string ((bs [120]))]] : List (List Value)) = rw15 at hs hW14; clear hgrw15
 replace hs : St _ _ _ (.row v13 91 2 rw15 :: .row v4 91 2 rw6 :: .blk b1 (.cells #[(.slice none 0 0)] 24 (0, 0)) :: L) _ _ _ := hs
 refine sy hs (y_buildS (places := [(0, 1), (1, 1), (2, 1), (3, 1)]) (cs := [.string ((bs [108, 105])), .string ((bs [])), v13, (.slice none 0 0)]) rfl Tryd.underlying94 ti94 (by kernel_rfl) (by decide) rfl ⟨rfl, (hs.one (i := 0) rfl), trivial⟩) ?_; clear hs; (try clear a w); intro a w hs
 obtain ⟨f22, hf23, hs2, hR24⟩ := hs.frzAt 1 rfl
 clear hs; have hs := hs2; clear hs2
 replace hW5 := hW5.le hf23
 replace hW14 := hW14.le hf23
 replace hle := hle.trans hf23
 replace hs : St _ _ _ (.row v13 91 2 rw15 :: .blk b1 (.cells #[(.slice none 0 0)] 24 (0, 0)) :: L) _ _ _ := hs
 obtain ⟨f25, hf26, hs2, hR27⟩ := hs.frzAt 0 rfl
 clear hs; have hs := hs2; clear hs2
 replace hW5 := hW5.le hf26
 replace hW14 := hW14.le hf26
 replace hR24 := hR24.le hf26
 replace hle := hle.trans hf26
 replace hs : St _ _ _ (.blk b1 (.cells #[(.slice none 0 0)] 24 (0, 0)) :: L) _ _ _ := hs
 refine RL_bsN (parts := [(0, .tmp 6), (1, .tmp 7), (2, .tmp 10)]) (us := [.agg #[.string ((bs [108, 105])), .string ((bs [])), v4, (.slice none 0 0)], .agg #[.string ((bs [])), .string ((bs [116])), (.slice none 0 0), (.slice none 0 0)], .agg #[.string ((bs [108, 105])), .string ((bs [])), v13, (.slice none 0 0)]]) (rows := [[.string ((bs [108, 105])), .string ((bs [])), v4, (.slice none 0 0)], [.string ((bs [])), .string ((bs [116])), (.slice none 0 0), (.slice none 0 0)], [.string ((bs [108, 105])), .string ((bs [])), v13, (.slice none 0 0)]]) hs rfl Tryd.underlying92 ti94 (by decide) rfl rfl (by intro r hr; simp only [List.mem_cons, List.mem_nil_iff, or_false] at hr; rcases hr with rfl | rfl | rfl; exact AllC.row ⟨rfl, rfl, hR24.one, rfl, trivial⟩ rfl; exact AllC.row ⟨rfl, rfl, rfl, rfl, trivial⟩ rfl; exact AllC.row ⟨rfl, rfl, hR27.one, rfl, trivial⟩ rfl) ?_; clear hs; (try clear a w); intro v20 a w hs
 have hW21 : RW t_ref5_Part f25 [[.string ((bs [108, 105])), .string ((bs [])), v4, (.slice none 0 0)], [.string ((bs [])), .string ((bs [116])), (.slice none 0 0), (.slice none 0 0)], [.string ((bs [108, 105])), .string ((bs [])), v13, (.slice none 0 0)]] [({Name := (bs [108, 105]), Text := (bs []), Attrs := [({Name := (bs [99, 108, 97, 115, 115]), Value := (bs [65, 32, 98])} : api_Attr)], Kids := ([] : List ref5_Part)} : ref5_Part), ({Name := (bs []), Text := (bs [116]), Attrs := ([] : List api_Attr), Kids := ([] : List ref5_Part)} : ref5_Part), ({Name := (bs [108, 105]), Text := (bs []), Attrs := [({Name := (bs [105, 100]), Value := (bs [120])} : api_Attr)], Kids := ([] : List ref5_Part)} : ref5_Part)] := ⟨R_ref5_Part.of (x := ({Name := (bs [108, 105]), Text := (bs []), Attrs := [({Name := (bs [99, 108, 97, 115, 115]), Value := (bs [65, 32, 98])} : api_Attr)], Kids := ([] : List ref5_Part)} : ref5_Part)) ⟨rw6, hR24, hW5⟩ RS.nil, ⟨R_ref5_Part.of (x := ({Name := (bs []), Text := (bs [116]), Attrs := ([] : List api_Attr), Kids := ([] : List ref5_Part)} : ref5_Part)) RS.nil RS.nil, ⟨R_ref5_Part.of (x := ({Name := (bs [108, 105]), Text := (bs []), Attrs := [({Name := (bs [105, 100]), Value := (bs [120])} : api_Attr)], Kids := ([] : List ref5_Part)} : ref5_Part)) ⟨rw15, hR27, hW14⟩ RS.nil, trivial⟩⟩⟩
 generalize hgrw28 : ([[.string ((bs [108, 105])), .string ((bs [])), v4, (.slice none 0 0)], [.string ((bs [])), .string ((bs [116])), (.slice none 0 0), (.slice none 0 0)], [.string ((bs [108, 105])), .string ((bs [])), v13, (.slice none 0 0)]] : List (List Value)) = rw28 at hs hW21; clear hgrw28
 replace hs : St _ _ _ (.row v20 94 4 rw28 :: .blk b1 (.cells #[(.slice none 0 0)] 24 (0, 0)) :: L) _ _ _ := hs
 refine sy hs (y_buildS (places := [(0, 1), (1, 1), (2, 1), (3, 1)]) (cs := [.string ((bs [117, 108])), .string ((bs [])), (.slice none 0 0), v20]) rfl Tryd.underlying94 ti94 (by kernel_rfl) (by decide) rfl ⟨rfl, (hs.one (i := 0) rfl), trivial⟩) ?_; clear hs; (try clear a w); intro a w hs
 obtain ⟨f35, hf36, hs2, hR37⟩ := hs.frzAt 0 rfl
 clear hs; have hs := hs2; clear hs2
 replace hW5 := hW5.le hf36
 replace hW14 := hW14.le hf36
 replace hR24 := hR24.le hf36
 replace hR27 := hR27.le hf36
 replace hW21 := hW21.le hf36
 replace hle := hle.trans hf36
 replace hs : St _ _ _ (.blk b1 (.cells #[(.slice none 0 0)] 24 (0, 0)) :: L) _ _ _ := hs
 refine RL_bs1a hs rfl Tryd.underlying92 ti94 (by decide) (AllC.row ⟨rfl, rfl, rfl, hR37.one, trivial⟩ rfl) ?_; clear hs; (try clear a w); intro v33 a w hs
 have hW34 : RW t_ref5_Part f35 [[.string ((bs [117, 108])), .string ((bs [])), (.slice none 0 0), v20]] [({Name := (bs [117, 108]), Text := (bs []), Attrs := ([] : List api_Attr), Kids := [({Name := (bs [108, 105]), Text := (bs []), Attrs := [({Name := (bs [99, 108, 97, 115, 115]), Value := (bs [65, 32, 98])} : api_Attr)], Kids := ([] : List ref5_Part)} : ref5_Part), ({Name := (bs []), Text := (bs [116]), Attrs := ([] : List api_Attr), Kids := ([] : List ref5_Part)} : ref5_Part), ({Name := (bs [108, 105]), Text := (bs []), Attrs := [({Name := (bs [105, 100]), Value := (bs [120])} : api_Attr)], Kids := ([] : List ref5_Part)} : ref5_Part)]} : ref5_Part)] := RW.single (R_ref5_Part.of (x := ({Name := (bs [117, 108]), Text := (bs []), Attrs := ([] : List api_Attr), Kids := [({Name := (bs [108, 105]), Text := (bs []), Attrs := [({Name := (bs [99, 108, 97, 115, 115]), Value := (bs [65, 32, 98])} : api_Attr)], Kids := ([] : List ref5_Part)} : ref5_Part), ({Name := (bs []), Text := (bs [116]), Attrs := ([] : List api_Attr), Kids := ([] : List ref5_Part)} : ref5_Part), ({Name := (bs [108, 105]), Text := (bs []), Attrs := [({Name := (bs [105, 100]), Value := (bs [120])} : api_Attr)], Kids := ([] : List ref5_Part)} : ref5_Part)]} : ref5_Part)) RS.nil ⟨rw28, hR37, hW21⟩)
 generalize hgrw38 : ([[.string ((bs [117, 108])), .string ((bs [])), (.slice none 0 0), v20]] : List (List Value)) = rw38 at hs hW34; clear hgrw38
 replace hs : St _ _ _ (.row v33 94 4 rw38 :: .blk b1 (.cells #[(.slice none 0 0)] 24 (0, 0)) :: L) _ _ _ := hs
 refine sy hs (y_buildS (places := [(0, 1), (1, 1), (2, 1), (3, 1)]) (cs := [.string ((bs [114, 111, 111, 116])), .string ((bs [])), (.slice none 0 0), v33]) rfl Tryd.underlying94 ti94 (by kernel_rfl) (by decide) rfl ⟨rfl, (hs.one (i := 0) rfl), trivial⟩) ?_; clear hs; (try clear a w); intro a w hs
 refine RL_alloc hs ti94 (.free rfl) (by decide) ?_; clear hs; (try clear a w); intro b43 a w hs
 replace hs : St _ _ _ (.blk b43 (.cells #[.string ((bs [])), .string ((bs [])), (.slice none 0 0), (.slice none 0 0)] 94 (0, 0)) :: .row v33 94 4 rw38 :: .blk b1 (.cells #[(.slice none 0 0)] 24 (0, 0)) :: L) _ _ _ := hs
 refine RL_storeAll (i := 0) hs rfl rfl rfl ti94 ⟨rfl, rfl⟩ (AllC.arr (r := [.string ((bs [114, 111, 111, 116])), .string ((bs [])), (.slice none 0 0), v33]) ⟨rfl, rfl, rfl, (hs.one (i := 1) rfl), trivial⟩) (.free rfl) ?_; clear hs; (try clear a w); intro a w hs
 replace hs : St _ _ _ (.blk b43 (.cells #[.string ((bs [114, 111, 111, 116])), .string ((bs [])), (.slice none 0 0), v33] 94 (0, 0)) :: .row v33 94 4 rw38 :: .blk b1 (.cells #[(.slice none 0 0)] 24 (0, 0)) :: L) _ _ _ := hs
 refine RL_nil ?_
 refine hK2 _ _ ?_; clear hK2
 refine W_seq fun K3 hK3 => ?_
 refine W_region ?_
 refine sy hs (y_ldB rfl Tryd.underlying94 rfl ti94 (.head _) rfl) ?_; clear hs; (try clear a w); intro a w hs
 obtain ⟨f47, hf48, hs2, hR49⟩ := hs.frzAt 1 rfl
 clear hs; have hs := hs2; clear hs2
 replace hW5 := hW5.le hf48
 replace hW14 := hW14.le hf48
 replace hR24 := hR24.le hf48
 replace hR27 := hR27.le hf48
 replace hW21 := hW21.le hf48
 replace hR37 := hR37.le hf48
 replace hW34 := hW34.le hf48
 replace hle := hle.trans hf48
 replace hs : St _ _ _ (.blk b43 (.cells #[.string ((bs [114, 111, 111, 116])), .string ((bs [])), (.slice none 0 0), v33] 94 (0, 0)) :: .blk b1 (.cells #[(.slice none 0 0)] 24 (0, 0)) :: L) _ _ _ := hs
 obtain ⟨x50, hx51, hm⟩ := ob hm
 refine RL_callV hs rfl has38 rfl (ref5_Make_ok n (f := f47) (a0 := [.string ((bs [114, 111, 111, 116])), .string ((bs [])), (.slice none 0 0), v33]) (R_ref5_Part.of (x := ({Name := (bs [114, 111, 111, 116]), Text := (bs []), Attrs := ([] : List api_Attr), Kids := [({Name := (bs [117, 108]), Text := (bs []), Attrs := ([] : List api_Attr), Kids := [({Name := (bs [108, 105]), Text := (bs []), Attrs := [({Name := (bs [99, 108, 97, 115, 115]), Value := (bs [65, 32, 98])} : api_Attr)], Kids := ([] : List ref5_Part)} : ref5_Part), ({Name := (bs []), Text := (bs [116]), Attrs := ([] : List api_Attr), Kids := ([] : List ref5_Part)} : ref5_Part), ({Name := (bs [108, 105]), Text := (bs []), Attrs := [({Name := (bs [105, 100]), Value := (bs [120])} : api_Attr)], Kids := ([] : List ref5_Part)} : ref5_Part)]} : ref5_Part)]} : ref5_Part)) RS.nil ⟨rw38, hR49, hW34⟩) hx51) ?_; clear hs; (try clear a w)
 rintro _ f52 _ a w hf53 ⟨r54, rfl, rfl, hq55⟩ hs
 replace hW5 := hW5.le hf53
 replace hW14 := hW14.le hf53
 replace hR24 := hR24.le hf53
 replace hR27 := hR27.le hf53
 replace hW21 := hW21.le hf53
 replace hR37 := hR37.le hf53
 replace hW34 := hW34.le hf53
 replace hR49 := hR49.le hf53
 replace hle := hle.trans hf53
 obtain ⟨v56, rfl, ⟨rw57, hR58, hW59⟩⟩ := hq55
 replace hs : St _ _ _ (.blk b43 (.cells #[.string ((bs [114, 111, 111, 116])), .string ((bs [])), (.slice none 0 0), v33] 94 (0, 0)) :: .blk b1 (.cells #[(.slice none 0 0)] 24 (0, 0)) :: L) _ _ _ := hs
 refine sy (v := .tuple #[.agg #[v56], .int .i64 (x50.2)]) hs (y_move rfl) ?_; clear hs; (try clear a w); intro a w hs
 refine sy (v := .agg #[v56]) hs (y_extract rfl rfl) ?_; clear hs; (try clear a w); intro a w hs
 refine sy (v := .int .i64 (x50.2)) hs (y_extract rfl rfl) ?_; clear hs; (try clear a w); intro a w hs
 refine RL_alloc hs ti24 (.free rfl) (by decide) ?_; clear hs; (try clear a w); intro b61 a w hs
 replace hs : St _ _ _ (.blk b61 (.cells #[(.slice none 0 0)] 24 (0, 0)) :: .blk b43 (.cells #[.string ((bs [114, 111, 111, 116])), .string ((bs [])), (.slice none 0 0), v33] 94 (0, 0)) :: .blk b1 (.cells #[(.slice none 0 0)] 24 (0, 0)) :: L) _ _ _ := hs
 refine RL_storeAll (i := 0) hs rfl rfl rfl ti24 ⟨rfl, rfl⟩ (AllC.arr (r := [v56]) ⟨hR58.one, trivial⟩) (.free rfl) ?_; clear hs; (try clear a w); intro a w hs
 replace hs : St _ _ _ (.blk b61 (.cells #[v56] 24 (0, 0)) :: .blk b43 (.cells #[.string ((bs [114, 111, 111, 116])), .string ((bs [])), (.slice none 0 0), v33] 94 (0, 0)) :: .blk b1 (.cells #[(.slice none 0 0)] 24 (0, 0)) :: L) _ _ _ := hs
 refine sy (v := .int .i64 (x50.2)) hs (y_assign rfl) ?_; clear hs; (try clear a w); intro a w hs
 refine RL_nil ?_
 refine hK3 _ _ ?_; clear hK3
 refine W_seq fun K4 hK4 => ?_
 refine W_region ?_
 refine sy hs (y_ldB rfl Tryd.underlying24 rfl ti24 (.head _) rfl) ?_; clear hs; (try clear a w); intro a w hs
 refine RL_storeAll (i := 2) hs rfl rfl rfl ti24 ⟨rfl, rfl⟩ (AllC.arr (r := [v56]) ⟨hR58.one, trivial⟩) (.free rfl) ?_; clear hs; (try clear a w); intro a w hs
 replace hs : St _ _ _ (.blk b61 (.cells #[v56] 24 (0, 0)) :: .blk b43 (.cells #[.string ((bs [114, 111, 111, 116])), .string ((bs [])), (.slice none 0 0), v33] 94 (0, 0)) :: .blk b1 (.cells #[v56] 24 (0, 0)) :: L) _ _ _ := hs
 refine RL_nil ?_
 refine hK4 _ _ ?_; clear hK4
 refine W_ret ?_
 obtain rfl := Option.some.inj hm
 refine RtV1 hs rfl (rv_a hs rfl Tryd.underlying24 rfl ti24 (fun j u hj => Cell.blk (.tail _ (.tail _ (.head _))) hj) rfl) ?_
 exact ⟨_, f52, [], rfl, hle, (hs.subL (.cons _ (.cons _ (.cons _ (.refl _))))).cw, [v56], rfl, rfl, ⟨_, rfl, ⟨rw57, hR58, hW59⟩⟩⟩
/-! casement/casementlaw10.known -/
def law10_known_k1 (y17 : Bool) : Option Bool :=
  some y17
def law10_known (n : Nat) : Option Bool :=
  (law10_sample n).bind fun x1 =>
  (law10_name n 0 (bs [117, 108]) ([] : List sheet_Test)).bind fun x21 =>
  (law10_name n 2 (bs [108, 105]) ([] : List sheet_Test)).bind fun x37 =>
  (law10_name n 3 (bs [108, 105]) ([] : List sheet_Test)).bind fun x55 =>
  (law10_sel n [x21, x37, x55]).bind fun x94 =>
  (match_Match n x1 4 x94).bind fun x117 =>
  (bif x117 then (law10_name n 0 (bs []) [({Kind := 2, Name := (bs [97]), Value := (bs []), N := 0} : sheet_Test)]).bind fun x144 =>
  (law10_sel n [x144]).bind fun x199 =>
  (match_Match n x1 2 x199).bind fun x230 =>
  (bif x230 then (law10_name n 0 (bs [108, 105]) [({Kind := 6, Name := (bs []), Value := (bs []), N := 0} : sheet_Test)]).bind fun x265 =>
  (law10_sel n [x265]).bind fun x336 =>
  (match_Match n x1 2 x336).bind fun x375 =>
  law10_known_k1 (!x375) else
  law10_known_k1 false) else
  law10_known_k1 false)
set_option maxRecDepth 20000 in
set_option maxHeartbeats 4000000 in
theorem law10_known_ok (n : Nat) {f : Fz} {o0 : Obj} {o1 : Obj} {res : Bool} (hT0 : f 0 = some o0) (hT1 : f 1 = some o1) (hTT : Tabs o0 o1) (hm : law10_known n = some res) : Gives Tryd.prog 11 [] f (.bool res) := by
 unfold law10_known at hm
 intro w0 L w hC
 refine enter Tryd.func11 rfl Tryd.ntmps11 (by simp) hC fun a hs => ?_
 have hle := Fz.le.refl f
 refine W_seq fun K1 hK1 => ?_
 refine W_region ?_
 refine sy (v := .bool (false)) hs (y_assign rfl) ?_; clear hs; (try clear a w); intro a w hs
 refine RL_nil ?_
 refine hK1 _ _ ?_; clear hK1
 refine W_seq fun K2 hK2 => ?_
 refine W_region ?_
 obtain ⟨x1, hx2, hm⟩ := ob hm
 refine RL_callV hs rfl has25 rfl (law10_sample_ok n (f := f)  hx2) ?_; clear hs; (try clear a w)
 rintro _ f3 _ a w hf4 ⟨r5, rfl, rfl, hq6⟩ hs
 replace hT0 := hf4 _ _ hT0
 replace hT1 := hf4 _ _ hT1
 replace hle := hle.trans hf4
 obtain ⟨v7, rfl, ⟨rw8, hR9, hW10⟩⟩ := hq6
 replace hs : St _ _ _ (L) _ _ _ := hs
 refine RL_alloc hs ti24 (.free rfl) (by decide) ?_; clear hs; (try clear a w); intro b12 a w hs
 replace hs : St _ _ _ (.blk b12 (.cells #[(.slice none 0 0)] 24 (0, 0)) :: L) _ _ _ := hs
 refine RL_storeAll (i := 0) hs rfl rfl rfl ti24 ⟨rfl, rfl⟩ (AllC.arr (r := [v7]) ⟨hR9.one, trivial⟩) (.free rfl) ?_; clear hs; (try clear a w); intro a w hs
 replace hs : St _ _ _ (.blk b12 (.cells #[v7] 24 (0, 0)) :: L) _ _ _ := hs
 refine RL_nil ?_
 refine hK2 _ _ ?_; clear hK2
 refine W_seq fun K3 hK3 => ?_
 have hbase18 := Fz.le.refl f3
 refine W_post (fun a w => ∃ (f15 : Fz) (y17 : Bool), Fz.le f3 f15 ∧ law10_known_k1 y17 = some res ∧ St 29 w0 f15 (L) [(0, .bool (y17))] a w) ?_ ?_
 ·clear hs hm
  clear hbase18
  rintro a w ⟨f15, y17, hl16, hm, hs⟩
  replace hT0 := hl16 _ _ hT0
  replace hT1 := hl16 _ _ hT1
  replace hR9 := hR9.le hl16
  replace hW10 := hW10.le hl16
  replace hle := hle.trans hl16
  replace hs : St _ _ _ (L) _ _ _ := hs
  unfold law10_known_k1 at hm
  refine hK3 _ _ ?_; clear hK3
  refine W_ret ?_
  obtain rfl := Option.some.inj hm
  refine RtV1 hs rfl (rv_t hs rfl) ?_
  exact ⟨rfl, (hs.weak hle).cw⟩
 ·have hsD := hs.subL (L' := .blk b12 (.cells #[v7] 24 (0, 0)) :: []) (.cons_cons _ (List.nil_sublist _))
  have hbd19 := Fz.le.refl f3
  refine T_start hs (.blk b12 (.cells #[v7] 24 (0, 0)) :: []) [] (.look 0 (.any [1] (fun _ => .any [2] (fun _ => .any [3] (fun _ => .any [4] (fun _ => .any [5] (fun _ => .any [6] (fun _ => .look 7 (.look 8 (.look 9 (.any [10] (fun _ => .any [11] (fun _ => .any [12] (fun _ => .any [13] (fun _ => .any [14] (fun _ => .look 15 (.look 16 (.look 17 (.look 18 (.any [19] (fun _ => .any [20] (fun _ => .any [21] (fun _ => .any [22] (fun _ => .any [23] (fun _ => .look 24 (.look 25 (.look 26 (.done)))))))))))))))))))))))))))) mixed (by kernel_rfl) ?_; clear hs; (try clear a w); intro a he
  refine uy 0 he rfl (y_ldB rfl Tryd.underlying24 rfl ti24 (.head _) rfl) ?_; clear he; (try clear a); intro a he
  refine T_any1 he rfl ?_; clear he; (try clear a); intro a w hs
  obtain ⟨x21, hx22, hm⟩ := ob hm
  refine RL_callV hs rfl has15 rfl (law10_name_ok n (f := f3) (a2 := (.slice none 0 0)) RS.nil hx22) ?_; clear hs; (try clear a w)
  rintro _ f23 _ a w hf24 ⟨r25, rfl, rfl, hq26⟩ hs
  have hT27 := hf24 _ _ hT0
  have hT28 := hf24 _ _ hT1
  have hR29 := hR9.le hf24
  have hW30 := hW10.le hf24
  replace hle := hle.trans hf24
  replace hbase18 := hbase18.trans hf24
  replace hbd19 := hbd19.trans hf24
  obtain ⟨v31, rfl, ⟨rw32, hR33, hW34⟩⟩ := hq26
  replace hs : St _ _ _ (.blk b12 (.cells #[v7] 24 (0, 0)) :: L) _ _ _ := hs
  refine uon hs ?_; clear hs; (try clear a w); intro a he
  refine T_any1 he rfl ?_; clear he; (try clear a); intro a w hs
  obtain ⟨x37, hx38, hm⟩ := ob hm
  refine RL_callV hs rfl has15 rfl (law10_name_ok n (f := f23) (a2 := (.slice none 0 0)) RS.nil hx38) ?_; clear hs; (try clear a w)
  rintro _ f39 _ a w hf40 ⟨r41, rfl, rfl, hq42⟩ hs
  have hT43 := hf40 _ _ hT27
  have hT44 := hf40 _ _ hT28
  have hR45 := hR29.le hf40
  have hW46 := hW30.le hf40
  have hR47 := hR33.le hf40
  have hW48 := hW34.le hf40
  replace hle := hle.trans hf40
  replace hbase18 := hbase18.trans hf40
  replace hbd19 := hbd19.trans hf40
  obtain ⟨v49, rfl, ⟨rw50, hR51, hW52⟩⟩ := hq42
  replace hs : St _ _ _ (.blk b12 (.cells #[v7] 24 (0, 0)) :: L) _ _ _ := hs
  refine uon hs ?_; clear hs; (try clear a w); intro a he
  refine T_any1 he rfl ?_; clear he; (try clear a); intro a w hs
  obtain ⟨x55, hx56, hm⟩ := ob hm
  refine RL_callV hs rfl has15 rfl (law10_name_ok n (f := f39) (a2 := (.slice none 0 0)) RS.nil hx56) ?_; clear hs; (try clear a w)
  rintro _ f57 _ a w hf58 ⟨r59, rfl, rfl, hq60⟩ hs
  have hT61 := hf58 _ _ hT43
  have hT62 := hf58 _ _ hT44
  have hR63 := hR45.le hf58
  have hW64 := hW46.le hf58
  have hR65 := hR47.le hf58
  have hW66 := hW48.le hf58
  have hR67 := hR51.le hf58
  have hW68 := hW52.le hf58
  replace hle := hle.trans hf58
  replace hbase18 := hbase18.trans hf58
  replace hbd19 := hbd19.trans hf58
  obtain ⟨v69, rfl, ⟨rw70, hR71, hW72⟩⟩ := hq60
  replace hs : St _ _ _ (.blk b12 (.cells #[v7] 24 (0, 0)) :: L) _ _ _ := hs
  refine uon hs ?_; clear hs; (try clear a w); intro a he
  refine T_any1 he rfl ?_; clear he; (try clear a); intro a w hs
  refine RL_bsN (parts := [(0, .tmp 4), (1, .tmp 5), (2, .tmp 6)]) (us := [.agg #[.int .i64 (x21.Comb), .string (x21.Name), v31], .agg #[.int .i64 (x37.Comb), .string (x37.Name), v49], .agg #[.int .i64 (x55.Comb), .string (x55.Name), v69]]) (rows := [[.int .i64 (x21.Comb), .string (x21.Name), v31], [.int .i64 (x37.Comb), .string (x37.Name), v49], [.int .i64 (x55.Comb), .string (x55.Name), v69]]) hs rfl Tryd.underlying25 ti35 (by decide) rfl rfl (by intro r hr; simp only [List.mem_cons, List.mem_nil_iff, or_false] at hr; rcases hr with rfl | rfl | rfl; exact AllC.row ⟨rfl, rfl, hR65.one, trivial⟩ rfl; exact AllC.row ⟨rfl, rfl, hR67.one, trivial⟩ rfl; exact AllC.row ⟨rfl, rfl, hR71.one, trivial⟩ rfl) ?_; clear hs; (try clear a w); intro v74 a w hs
  have hW75 : RW t_sheet_Step f57 [[.int .i64 (x21.Comb), .string (x21.Name), v31], [.int .i64 (x37.Comb), .string (x37.Name), v49], [.int .i64 (x55.Comb), .string (x55.Name), v69]] [x21, x37, x55] := ⟨⟨_, rfl, ⟨rw32, hR65, hW66⟩⟩, ⟨⟨_, rfl, ⟨rw50, hR67, hW68⟩⟩, ⟨⟨_, rfl, ⟨rw70, hR71, hW72⟩⟩, trivial⟩⟩⟩
  generalize hgrw76 : ([[.int .i64 (x21.Comb), .string (x21.Name), v31], [.int .i64 (x37.Comb), .string (x37.Name), v49], [.int .i64 (x55.Comb), .string (x55.Name), v69]] : List (List Value)) = rw76 at hs hW75; clear hgrw76
  replace hs : St _ _ _ (.row v74 35 3 rw76 :: .blk b12 (.cells #[v7] 24 (0, 0)) :: L) _ _ _ := hs
  have ho79 : v74.oneCell' = true := hs.one (i := 0) rfl
  refine uon hs ?_; clear hs; (try clear a w); intro a he
  refine T_any1 he rfl ?_; clear he; (try clear a); intro a w hs
  obtain ⟨f80, hf81, hs2, hR82⟩ := hs.frzAt 0 rfl
  clear hs; have hs := hs2; clear hs2
  have hT83 := hf81 _ _ hT61
  have hT84 := hf81 _ _ hT62
  have hR85 := hR63.le hf81
  have hW86 := hW64.le hf81
  have hR87 := hR65.le hf81
  have hW88 := hW66.le hf81
  have hR89 := hR67.le hf81
  have hW90 := hW68.le hf81
  have hR91 := hR71.le hf81
  have hW92 := hW72.le hf81
  have hW93 := hW75.le hf81
  replace hle := hle.trans hf81
  replace hbase18 := hbase18.trans hf81
  replace hbd19 := hbd19.trans hf81
  replace hs : St _ _ _ (.blk b12 (.cells #[v7] 24 (0, 0)) :: L) _ _ _ := hs
  obtain ⟨x94, hx95, hm⟩ := ob hm
  refine RL_callV hs rfl has14 rfl (law10_sel_ok n (f := f80) (a0 := v74) ⟨rw76, hR82, hW93⟩ hx95) ?_; clear hs; (try clear a w)
  rintro _ f96 _ a w hf97 ⟨r98, rfl, rfl, hq99⟩ hs
  have hT100 := hf97 _ _ hT83
  have hT101 := hf97 _ _ hT84
  have hR102 := hR85.le hf97
  have hW103 := hW86.le hf97
  have hR104 := hR87.le hf97
  have hW105 := hW88.le hf97
  have hR106 := hR89.le hf97
  have hW107 := hW90.le hf97
  have hR108 := hR91.le hf97
  have hW109 := hW92.le hf97
  have hW110 := hW93.le hf97
  have hR111 := hR82.le hf97
  replace hle := hle.trans hf97
  replace hbase18 := hbase18.trans hf97
  replace hbd19 := hbd19.trans hf97
  obtain ⟨v112, rfl, ⟨rw113, hR114, hW115⟩⟩ := hq99
  replace hs : St _ _ _ (.blk b12 (.cells #[v7] 24 (0, 0)) :: L) _ _ _ := hs
  refine uon hs ?_; clear hs; (try clear a w); intro a he
  refine T_any1 he rfl ?_; clear he; (try clear a); intro a w hs
  obtain ⟨x117, hx118, hm⟩ := ob hm
  refine sy hs (y_call rfl has12 rfl (match_Match_ok n (f := f96) (a0 := [v7]) (a2 := [v112]) hT100 hT101 hTT ⟨_, rfl, ⟨rw8, hR102, hW103⟩⟩ ⟨_, rfl, ⟨rw113, hR114, hW115⟩⟩ hx118)) ?_; clear hs; (try clear a w); intro a w hs
  refine uon hs ?_; clear hs; (try clear a w); intro a he
  refine uy (v := .bool (x117)) 7 he rfl (y_move rfl) ?_; clear he; (try clear a); intro a he
  refine Ev.split he (t := 10) rfl (fun hg119 hq => ?_) (fun hg119 hq => ?_)
  ·clear he; have he := hq; clear hq
   replace hm := oc_t hg119 hm
   refine uyg 8 he rfl (y_ldB rfl Tryd.underlying24 rfl ti24 (.head _) rfl) ?_; clear he; (try clear a); intro a he
   refine uyg 9 he rfl (y_buildS (places := [(0, 1), (1, 1), (2, 1), (3, 1)]) (cs := [.int .i64 (2), .string ((bs [97])), .string ((bs [])), .int .i64 (0)]) rfl Tryd.underlying29 ti29 (by kernel_rfl) (by decide) rfl ⟨rfl, rfl, trivial⟩) ?_; clear he; (try clear a); intro a he
   refine T_any1 he rfl ?_; clear he; (try clear a); intro a w hs
   refine RL_guard hs rfl rfl ?_
   refine RL_bs1a hs rfl Tryd.underlying33 ti29 (by decide) (AllC.row ⟨rfl, rfl, rfl, rfl, trivial⟩ rfl) ?_; clear hs; (try clear a w); intro v120 a w hs
   have hW121 : RW t_sheet_Test f96 [[.int .i64 (2), .string ((bs [97])), .string ((bs [])), .int .i64 (0)]] [({Kind := 2, Name := (bs [97]), Value := (bs []), N := 0} : sheet_Test)] := RW.single (rfl)
   generalize hgrw122 : ([[.int .i64 (2), .string ((bs [97])), .string ((bs [])), .int .i64 (0)]] : List (List Value)) = rw122 at hs hW121; clear hgrw122
   replace hs : St _ _ _ (.row v120 29 4 rw122 :: .blk b12 (.cells #[v7] 24 (0, 0)) :: L) _ _ _ := hs
   have ho125 : v120.oneCell' = true := hs.one (i := 0) rfl
   refine uon hs ?_; clear hs; (try clear a w); intro a he
   refine T_any1 he rfl ?_; clear he; (try clear a); intro a w hs
   obtain ⟨f126, hf127, hs2, hR128⟩ := hs.frzAt 0 rfl
   clear hs; have hs := hs2; clear hs2
   have hT129 := hf127 _ _ hT100
   have hT130 := hf127 _ _ hT101
   have hR131 := hR102.le hf127
   have hW132 := hW103.le hf127
   have hR133 := hR104.le hf127
   have hW134 := hW105.le hf127
   have hR135 := hR106.le hf127
   have hW136 := hW107.le hf127
   have hR137 := hR108.le hf127
   have hW138 := hW109.le hf127
   have hW139 := hW110.le hf127
   have hR140 := hR111.le hf127
   have hR141 := hR114.le hf127
   have hW142 := hW115.le hf127
   have hW143 := hW121.le hf127
   replace hle := hle.trans hf127
   replace hbase18 := hbase18.trans hf127
   replace hbd19 := hbd19.trans hf127
   replace hs : St _ _ _ (.blk b12 (.cells #[v7] 24 (0, 0)) :: L) _ _ _ := hs
   obtain ⟨x144, hx145, hm⟩ := ob hm
   refine RL_callVg hs rfl has15 rfl (law10_name_ok n (f := f126) (a2 := v120) ⟨rw122, hR128, hW143⟩ hx145) ?_; clear hs; (try clear a w)
   rintro _ f146 _ a w hf147 ⟨r148, rfl, rfl, hq149⟩ hs
   have hT150 := hf147 _ _ hT129
   have hT151 := hf147 _ _ hT130
   have hR152 := hR131.le hf147
   have hW153 := hW132.le hf147
   have hR154 := hR133.le hf147
   have hW155 := hW134.le hf147
   have hR156 := hR135.le hf147
   have hW157 := hW136.le hf147
   have hR158 := hR137.le hf147
   have hW159 := hW138.le hf147
   have hW160 := hW139.le hf147
   have hR161 := hR140.le hf147
   have hR162 := hR141.le hf147
   have hW163 := hW142.le hf147
   have hW164 := hW143.le hf147
   have hR165 := hR128.le hf147
   replace hle := hle.trans hf147
   replace hbase18 := hbase18.trans hf147
   replace hbd19 := hbd19.trans hf147
   obtain ⟨v166, rfl, ⟨rw167, hR168, hW169⟩⟩ := hq149
   replace hs : St _ _ _ (.blk b12 (.cells #[v7] 24 (0, 0)) :: L) _ _ _ := hs
   refine uon hs ?_; clear hs; (try clear a w); intro a he
   refine T_any1 he rfl ?_; clear he; (try clear a); intro a w hs
   refine RL_guard hs rfl rfl ?_
   refine RL_bs1a hs rfl Tryd.underlying25 ti35 (by decide) (AllC.row ⟨rfl, rfl, hR168.one, trivial⟩ rfl) ?_; clear hs; (try clear a w); intro v171 a w hs
   have hW172 : RW t_sheet_Step f146 [[.int .i64 (x144.Comb), .string (x144.Name), v166]] [x144] := RW.single (⟨_, rfl, ⟨rw167, hR168, hW169⟩⟩)
   generalize hgrw173 : ([[.int .i64 (x144.Comb), .string (x144.Name), v166]] : List (List Value)) = rw173 at hs hW172; clear hgrw173
   replace hs : St _ _ _ (.row v171 35 3 rw173 :: .blk b12 (.cells #[v7] 24 (0, 0)) :: L) _ _ _ := hs
   have ho176 : v171.oneCell' = true := hs.one (i := 0) rfl
   refine uon hs ?_; clear hs; (try clear a w); intro a he
   refine T_any1 he rfl ?_; clear he; (try clear a); intro a w hs
   obtain ⟨f177, hf178, hs2, hR179⟩ := hs.frzAt 0 rfl
   clear hs; have hs := hs2; clear hs2
   have hT180 := hf178 _ _ hT150
   have hT181 := hf178 _ _ hT151
   have hR182 := hR152.le hf178
   have hW183 := hW153.le hf178
   have hR184 := hR154.le hf178
   have hW185 := hW155.le hf178
   have hR186 := hR156.le hf178
   have hW187 := hW157.le hf178
   have hR188 := hR158.le hf178
   have hW189 := hW159.le hf178
   have hW190 := hW160.le hf178
   have hR191 := hR161.le hf178
   have hR192 := hR162.le hf178
   have hW193 := hW163.le hf178
   have hW194 := hW164.le hf178
   have hR195 := hR165.le hf178
   have hR196 := hR168.le hf178
   have hW197 := hW169.le hf178
   have hW198 := hW172.le hf178
   replace hle := hle.trans hf178
   replace hbase18 := hbase18.trans hf178
   replace hbd19 := hbd19.trans hf178
   replace hs : St _ _ _ (.blk b12 (.cells #[v7] 24 (0, 0)) :: L) _ _ _ := hs
   obtain ⟨x199, hx200, hm⟩ := ob hm
   refine RL_callVg hs rfl has14 rfl (law10_sel_ok n (f := f177) (a0 := v171) ⟨rw173, hR179, hW198⟩ hx200) ?_; clear hs; (try clear a w)
   rintro _ f201 _ a w hf202 ⟨r203, rfl, rfl, hq204⟩ hs
   have hT205 := hf202 _ _ hT180
   have hT206 := hf202 _ _ hT181
   have hR207 := hR182.le hf202
   have hW208 := hW183.le hf202
   have hR209 := hR184.le hf202
   have hW210 := hW185.le hf202
   have hR211 := hR186.le hf202
   have hW212 := hW187.le hf202
   have hR213 := hR188.le hf202
   have hW214 := hW189.le hf202
   have hW215 := hW190.le hf202
   have hR216 := hR191.le hf202
   have hR217 := hR192.le hf202
   have hW218 := hW193.le hf202
   have hW219 := hW194.le hf202
   have hR220 := hR195.le hf202
   have hR221 := hR196.le hf202
   have hW222 := hW197.le hf202
   have hW223 := hW198.le hf202
   have hR224 := hR179.le hf202
   replace hle := hle.trans hf202
   replace hbase18 := hbase18.trans hf202
   replace hbd19 := hbd19.trans hf202
   obtain ⟨v225, rfl, ⟨rw226, hR227, hW228⟩⟩ := hq204
   replace hs : St _ _ _ (.blk b12 (.cells #[v7] 24 (0, 0)) :: L) _ _ _ := hs
   refine uon hs ?_; clear hs; (try clear a w); intro a he
   refine T_any1 he rfl ?_; clear he; (try clear a); intro a w hs
   obtain ⟨x230, hx231, hm⟩ := ob hm
   refine syg hs (y_call rfl has12 rfl (match_Match_ok n (f := f201) (a0 := [v7]) (a2 := [v225]) hT205 hT206 hTT ⟨_, rfl, ⟨rw8, hR207, hW208⟩⟩ ⟨_, rfl, ⟨rw226, hR227, hW228⟩⟩ hx231)) ?_; clear hs; (try clear a w); intro a w hs
   refine uon hs ?_; clear hs; (try clear a w); intro a he
   refine uy (v := .bool (x230)) 15 he rfl (y_pick rfl rfl) ?_; clear he; (try clear a); intro a he
   refine uy (v := .bool (x230)) 16 he rfl (y_move rfl) ?_; clear he; (try clear a); intro a he
   refine Ev.split he (t := 19) rfl (fun hg232 hq => ?_) (fun hg232 hq => ?_)
   ·clear he; have he := hq; clear hq
    replace hm := oc_t hg232 hm
    refine uyg 17 he rfl (y_ldB rfl Tryd.underlying24 rfl ti24 (.head _) rfl) ?_; clear he; (try clear a); intro a he
    refine uyg 18 he rfl (y_buildS (places := [(0, 1), (1, 1), (2, 1), (3, 1)]) (cs := [.int .i64 (6), .string ((bs [])), .string ((bs [])), .int .i64 (0)]) rfl Tryd.underlying29 ti29 (by kernel_rfl) (by decide) rfl ⟨rfl, trivial⟩) ?_; clear he; (try clear a); intro a he
    refine T_any1 he rfl ?_; clear he; (try clear a); intro a w hs
    refine RL_guard hs rfl rfl ?_
    refine RL_bs1a hs rfl Tryd.underlying33 ti29 (by decide) (AllC.row ⟨rfl, rfl, rfl, rfl, trivial⟩ rfl) ?_; clear hs; (try clear a w); intro v233 a w hs
    have hW234 : RW t_sheet_Test f201 [[.int .i64 (6), .string ((bs [])), .string ((bs [])), .int .i64 (0)]] [({Kind := 6, Name := (bs []), Value := (bs []), N := 0} : sheet_Test)] := RW.single (rfl)
    generalize hgrw235 : ([[.int .i64 (6), .string ((bs [])), .string ((bs [])), .int .i64 (0)]] : List (List Value)) = rw235 at hs hW234; clear hgrw235
    replace hs : St _ _ _ (.row v233 29 4 rw235 :: .blk b12 (.cells #[v7] 24 (0, 0)) :: L) _ _ _ := hs
    have ho238 : v233.oneCell' = true := hs.one (i := 0) rfl
    refine uon hs ?_; clear hs; (try clear a w); intro a he
    refine T_any1 he rfl ?_; clear he; (try clear a); intro a w hs
    obtain ⟨f239, hf240, hs2, hR241⟩ := hs.frzAt 0 rfl
    clear hs; have hs := hs2; clear hs2
    have hT242 := hf240 _ _ hT205
    have hT243 := hf240 _ _ hT206
    have hR244 := hR207.le hf240
    have hW245 := hW208.le hf240
    have hR246 := hR209.le hf240
    have hW247 := hW210.le hf240
    have hR248 := hR211.le hf240
    have hW249 := hW212.le hf240
    have hR250 := hR213.le hf240
    have hW251 := hW214.le hf240
    have hW252 := hW215.le hf240
    have hR253 := hR216.le hf240
    have hR254 := hR217.le hf240
    have hW255 := hW218.le hf240
    have hW256 := hW219.le hf240
    have hR257 := hR220.le hf240
    have hR258 := hR221.le hf240
    have hW259 := hW222.le hf240
    have hW260 := hW223.le hf240
    have hR261 := hR224.le hf240
    have hR262 := hR227.le hf240
    have hW263 := hW228.le hf240
    have hW264 := hW234.le hf240
    replace hle := hle.trans hf240
    replace hbase18 := hbase18.trans hf240
    replace hbd19 := hbd19.trans hf240
    replace hs : St _ _ _ (.blk b12 (.cells #[v7] 24 (0, 0)) :: L) _ _ _ := hs
    obtain ⟨x265, hx266, hm⟩ := ob hm
    refine RL_callVg hs rfl has15 rfl (law10_name_ok n (f := f239) (a2 := v233) ⟨rw235, hR241, hW264⟩ hx266) ?_; clear hs; (try clear a w)
    rintro _ f267 _ a w hf268 ⟨r269, rfl, rfl, hq270⟩ hs
    have hT271 := hf268 _ _ hT242
    have hT272 := hf268 _ _ hT243
    have hR273 := hR244.le hf268
    have hW274 := hW245.le hf268
    have hR275 := hR246.le hf268
    have hW276 := hW247.le hf268
    have hR277 := hR248.le hf268
    have hW278 := hW249.le hf268
    have hR279 := hR250.le hf268
    have hW280 := hW251.le hf268
    have hW281 := hW252.le hf268
    have hR282 := hR253.le hf268
    have hR283 := hR254.le hf268
    have hW284 := hW255.le hf268
    have hW285 := hW256.le hf268
    have hR286 := hR257.le hf268
    have hR287 := hR258.le hf268
    have hW288 := hW259.le hf268
    have hW289 := hW260.le hf268
    have hR290 := hR261.le hf268
    have hR291 := hR262.le hf268
    have hW292 := hW263.le hf268
    have hW293 := hW264.le hf268
    have hR294 := hR241.le hf268
    replace hle := hle.trans hf268
    replace hbase18 := hbase18.trans hf268
    replace hbd19 := hbd19.trans hf268
    obtain ⟨v295, rfl, ⟨rw296, hR297, hW298⟩⟩ := hq270
    replace hs : St _ _ _ (.blk b12 (.cells #[v7] 24 (0, 0)) :: L) _ _ _ := hs
    refine uon hs ?_; clear hs; (try clear a w); intro a he
    refine T_any1 he rfl ?_; clear he; (try clear a); intro a w hs
    refine RL_guard hs rfl rfl ?_
    refine RL_bs1a hs rfl Tryd.underlying25 ti35 (by decide) (AllC.row ⟨rfl, rfl, hR297.one, trivial⟩ rfl) ?_; clear hs; (try clear a w); intro v300 a w hs
    have hW301 : RW t_sheet_Step f267 [[.int .i64 (x265.Comb), .string (x265.Name), v295]] [x265] := RW.single (⟨_, rfl, ⟨rw296, hR297, hW298⟩⟩)
    generalize hgrw302 : ([[.int .i64 (x265.Comb), .string (x265.Name), v295]] : List (List Value)) = rw302 at hs hW301; clear hgrw302
    replace hs : St _ _ _ (.row v300 35 3 rw302 :: .blk b12 (.cells #[v7] 24 (0, 0)) :: L) _ _ _ := hs
    have ho305 : v300.oneCell' = true := hs.one (i := 0) rfl
    refine uon hs ?_; clear hs; (try clear a w); intro a he
    refine T_any1 he rfl ?_; clear he; (try clear a); intro a w hs
    obtain ⟨f306, hf307, hs2, hR308⟩ := hs.frzAt 0 rfl
    clear hs; have hs := hs2; clear hs2
    have hT309 := hf307 _ _ hT271
    have hT310 := hf307 _ _ hT272
    have hR311 := hR273.le hf307
    have hW312 := hW274.le hf307
    have hR313 := hR275.le hf307
    have hW314 := hW276.le hf307
    have hR315 := hR277.le hf307
    have hW316 := hW278.le hf307
    have hR317 := hR279.le hf307
    have hW318 := hW280.le hf307
    have hW319 := hW281.le hf307
    have hR320 := hR282.le hf307
    have hR321 := hR283.le hf307
    have hW322 := hW284.le hf307
    have hW323 := hW285.le hf307
    have hR324 := hR286.le hf307
    have hR325 := hR287.le hf307
    have hW326 := hW288.le hf307
    have hW327 := hW289.le hf307
    have hR328 := hR290.le hf307
    have hR329 := hR291.le hf307
    have hW330 := hW292.le hf307
    have hW331 := hW293.le hf307
    have hR332 := hR294.le hf307
    have hR333 := hR297.le hf307
    have hW334 := hW298.le hf307
    have hW335 := hW301.le hf307
    replace hle := hle.trans hf307
    replace hbase18 := hbase18.trans hf307
    replace hbd19 := hbd19.trans hf307
    replace hs : St _ _ _ (.blk b12 (.cells #[v7] 24 (0, 0)) :: L) _ _ _ := hs
    obtain ⟨x336, hx337, hm⟩ := ob hm
    refine RL_callVg hs rfl has14 rfl (law10_sel_ok n (f := f306) (a0 := v300) ⟨rw302, hR308, hW335⟩ hx337) ?_; clear hs; (try clear a w)
    rintro _ f338 _ a w hf339 ⟨r340, rfl, rfl, hq341⟩ hs
    have hT342 := hf339 _ _ hT309
    have hT343 := hf339 _ _ hT310
    have hR344 := hR311.le hf339
    have hW345 := hW312.le hf339
    have hR346 := hR313.le hf339
    have hW347 := hW314.le hf339
    have hR348 := hR315.le hf339
    have hW349 := hW316.le hf339
    have hR350 := hR317.le hf339
    have hW351 := hW318.le hf339
    have hW352 := hW319.le hf339
    have hR353 := hR320.le hf339
    have hR354 := hR321.le hf339
    have hW355 := hW322.le hf339
    have hW356 := hW323.le hf339
    have hR357 := hR324.le hf339
    have hR358 := hR325.le hf339
    have hW359 := hW326.le hf339
    have hW360 := hW327.le hf339
    have hR361 := hR328.le hf339
    have hR362 := hR329.le hf339
    have hW363 := hW330.le hf339
    have hW364 := hW331.le hf339
    have hR365 := hR332.le hf339
    have hR366 := hR333.le hf339
    have hW367 := hW334.le hf339
    have hW368 := hW335.le hf339
    have hR369 := hR308.le hf339
    replace hle := hle.trans hf339
    replace hbase18 := hbase18.trans hf339
    replace hbd19 := hbd19.trans hf339
    obtain ⟨v370, rfl, ⟨rw371, hR372, hW373⟩⟩ := hq341
    replace hs : St _ _ _ (.blk b12 (.cells #[v7] 24 (0, 0)) :: L) _ _ _ := hs
    refine uon hs ?_; clear hs; (try clear a w); intro a he
    refine T_any1 he rfl ?_; clear he; (try clear a); intro a w hs
    obtain ⟨x375, hx376, hm⟩ := ob hm
    refine syg hs (y_call rfl has12 rfl (match_Match_ok n (f := f338) (a0 := [v7]) (a2 := [v370]) hT342 hT343 hTT ⟨_, rfl, ⟨rw8, hR344, hW345⟩⟩ ⟨_, rfl, ⟨rw371, hR372, hW373⟩⟩ hx376)) ?_; clear hs; (try clear a w); intro a w hs
    refine uon hs ?_; clear hs; (try clear a w); intro a he
    refine uyg (v := .bool ((!x375))) 24 he rfl (y_not rfl) ?_; clear he; (try clear a); intro a he
    refine uy (v := .bool ((!x375))) 25 he rfl (y_pick rfl rfl) ?_; clear he; (try clear a); intro a he
    refine uy (v := .bool ((!x375))) 26 he rfl (y_assign rfl) ?_; clear he; (try clear a); intro a he
    refine T_nil he ?_; clear he; (try clear a); intro w hs; try clear hsD
    exact ⟨_, (!x375), hbase18, hm, hs.subs ⟨rfl, trivial⟩ (.cons _ (.refl _))⟩
   ·clear he; have he := hq; clear hq
    replace hm := oc_f hg232 hm
    refine uno 17 he rfl ?_; clear he; (try clear a); intro a he
    refine uno 18 he rfl ?_; clear he; (try clear a); intro a he
    refine T_any1 he rfl ?_; clear he; (try clear a); intro a w hs
    refine sno hs ?_; clear hs; (try clear a w); intro a w hs
    refine uon hs ?_; clear hs; (try clear a w); intro a he
    refine T_any1 he rfl ?_; clear he; (try clear a); intro a w hs
    refine sno hs ?_; clear hs; (try clear a w); intro a w hs
    refine uon hs ?_; clear hs; (try clear a w); intro a he
    refine T_any1 he rfl ?_; clear he; (try clear a); intro a w hs
    refine sno hs ?_; clear hs; (try clear a w); intro a w hs
    refine uon hs ?_; clear hs; (try clear a w); intro a he
    refine T_any1 he rfl ?_; clear he; (try clear a); intro a w hs
    refine sno hs ?_; clear hs; (try clear a w); intro a w hs
    refine uon hs ?_; clear hs; (try clear a w); intro a he
    refine T_any1 he rfl ?_; clear he; (try clear a); intro a w hs
    refine sno hs ?_; clear hs; (try clear a w); intro a w hs
    refine uon hs ?_; clear hs; (try clear a w); intro a he
    refine uno 24 he rfl ?_; clear he; (try clear a); intro a he
    refine uy (v := .bool (false)) 25 he rfl (y_pick rfl rfl) ?_; clear he; (try clear a); intro a he
    refine uy (v := .bool (false)) 26 he rfl (y_assign rfl) ?_; clear he; (try clear a); intro a he
    refine T_nil he ?_; clear he; (try clear a); intro w hs; try clear hsD
    exact ⟨_, false, hbase18, hm, hs.subs ⟨rfl, trivial⟩ (.cons _ (.refl _))⟩
  ·clear he; have he := hq; clear hq
   replace hm := oc_f hg119 hm
   refine uno 8 he rfl ?_; clear he; (try clear a); intro a he
   refine uno 9 he rfl ?_; clear he; (try clear a); intro a he
   refine T_any1 he rfl ?_; clear he; (try clear a); intro a w hs
   refine sno hs ?_; clear hs; (try clear a w); intro a w hs
   refine uon hs ?_; clear hs; (try clear a w); intro a he
   refine T_any1 he rfl ?_; clear he; (try clear a); intro a w hs
   refine sno hs ?_; clear hs; (try clear a w); intro a w hs
   refine uon hs ?_; clear hs; (try clear a w); intro a he
   refine T_any1 he rfl ?_; clear he; (try clear a); intro a w hs
   refine sno hs ?_; clear hs; (try clear a w); intro a w hs
   refine uon hs ?_; clear hs; (try clear a w); intro a he
   refine T_any1 he rfl ?_; clear he; (try clear a); intro a w hs
   refine sno hs ?_; clear hs; (try clear a w); intro a w hs
   refine uon hs ?_; clear hs; (try clear a w); intro a he
   refine T_any1 he rfl ?_; clear he; (try clear a); intro a w hs
   refine sno hs ?_; clear hs; (try clear a w); intro a w hs
   refine uon hs ?_; clear hs; (try clear a w); intro a he
   refine uy (v := .bool (false)) 15 he rfl (y_pick rfl rfl) ?_; clear he; (try clear a); intro a he
   refine uy (v := .bool (false)) 16 he rfl (y_move rfl) ?_; clear he; (try clear a); intro a he
   refine uno 17 he rfl ?_; clear he; (try clear a); intro a he
   refine uno 18 he rfl ?_; clear he; (try clear a); intro a he
   refine T_any1 he rfl ?_; clear he; (try clear a); intro a w hs
   refine sno hs ?_; clear hs; (try clear a w); intro a w hs
   refine uon hs ?_; clear hs; (try clear a w); intro a he
   refine T_any1 he rfl ?_; clear he; (try clear a); intro a w hs
   refine sno hs ?_; clear hs; (try clear a w); intro a w hs
   refine uon hs ?_; clear hs; (try clear a w); intro a he
   refine T_any1 he rfl ?_; clear he; (try clear a); intro a w hs
   refine sno hs ?_; clear hs; (try clear a w); intro a w hs
   refine uon hs ?_; clear hs; (try clear a w); intro a he
   refine T_any1 he rfl ?_; clear he; (try clear a); intro a w hs
   refine sno hs ?_; clear hs; (try clear a w); intro a w hs
   refine uon hs ?_; clear hs; (try clear a w); intro a he
   refine T_any1 he rfl ?_; clear he; (try clear a); intro a w hs
   refine sno hs ?_; clear hs; (try clear a w); intro a w hs
   refine uon hs ?_; clear hs; (try clear a w); intro a he
   refine uno 24 he rfl ?_; clear he; (try clear a); intro a he
   refine uy (v := .bool (false)) 25 he rfl (y_pick rfl rfl) ?_; clear he; (try clear a); intro a he
   refine uy (v := .bool (false)) 26 he rfl (y_assign rfl) ?_; clear he; (try clear a); intro a he
   refine T_nil he ?_; clear he; (try clear a); intro w hs; try clear hsD
   exact ⟨_, false, hbase18, hm, hs.subs ⟨rfl, trivial⟩ (.cons _ (.refl _))⟩
/-! casement/casementlaw10.small -/
end Go.Proofs.YtmkcglpeidbblaaDoor
