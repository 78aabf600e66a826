/-
  Walks and laws of this seat; the base is the text Base.
-/
import Derived.Test.YtmkcglpeidbblaaDoorL10o
import Derived.Test.YtmkcglpeidbblaaDoorL10h
import Derived.Test.YtmkcglpeidbblaaDoorRows
/-
  Models of functions, and that the functions compute them. Printed by lift.py.
-/
namespace Go.Proofs.YtmkcglpeidbblaaDoor
open Go.RowKit Go.Sl
/-! casement/casementlaw10.sample -/
def law10_sample (n : Nat) : Option api_Tree :=
  (ref5_Make n ({Name := (bs [114, 111, 111, 116]), Text := (bs []), Attrs := ([] : List api_Attr), Kids := [({Name := (bs [117, 108]), Text := (bs []), Attrs := ([] : List api_Attr), Kids := [({Name := (bs [108, 105]), Text := (bs []), Attrs := [({Name := (bs [99, 108, 97, 115, 115]), Value := (bs [65, 32, 98])} : api_Attr)], Kids := ([] : List ref5_Part)} : ref5_Part), ({Name := (bs []), Text := (bs [116]), Attrs := ([] : List api_Attr), Kids := ([] : List ref5_Part)} : ref5_Part), ({Name := (bs [108, 105]), Text := (bs []), Attrs := [({Name := (bs [105, 100]), Value := (bs [120])} : api_Attr)], Kids := ([] : List ref5_Part)} : ref5_Part)]} : ref5_Part)]} : ref5_Part)).bind fun x50 =>
  some x50.1
set_option maxRecDepth 20000 in
set_option maxHeartbeats 4000000 in
theorem law10_sample_ok (n : Nat) {f : Fz}  {res : api_Tree}  (hm : law10_sample n = some res) : Does Tryd.prog 25 [] f [] (fun r f' L' => ∃ (u0 : List Value), L' = [] ∧ r = .agg u0.toArray ∧ t_api_Tree.R f' u0 res) := by
 unfold law10_sample at hm
 intro w0 L w hC
 refine enter Tryd.func25 rfl Tryd.ntmps25 (by simp) hC fun a hs => ?_
 have hle := Fz.le.refl f
 refine W_seq fun K1 hK1 => ?_
 refine W_region ?_
 refine RL_alloc hs ti24 (.free rfl) (by decide) ?_; clear hs; (try clear a w); intro b1 a w hs
 replace hs : St _ _ _ (.blk b1 (.cells #[(.slice none 0 0)] 24 (0, 0)) :: L) _ _ _ := hs
 refine RL_nil ?_
 refine hK1 _ _ ?_; clear hK1
 refine W_seq fun K2 hK2 => ?_
 refine W_region ?_
 refine sy hs (y_buildS (places := [(0, 1), (1, 1)]) (cs := [.string ((bs [99, 108, 97, 115, 115])), .string ((bs [65, 32, 98]))]) rfl Tryd.underlying91 ti91 (by kernel_rfl) (by decide) rfl ⟨rfl, rfl, trivial⟩) ?_; clear hs; (try clear a w); intro a w hs
 refine RL_bs1a hs rfl Tryd.underlying40 ti91 (by decide) (AllC.row ⟨rfl, rfl, trivial⟩ rfl) ?_; clear hs; (try clear a w); intro v4 a w hs
 have hW5 : RW t_api_Attr f [[.string ((bs [99, 108, 97, 115, 115])), .string ((bs [65, 32, 98]))]] [({Name := (bs [99, 108, 97, 115, 115]), Value := (bs [65, 32, 98])} : api_Attr)] := RW.single (rfl)
 generalize hgrw6 : ([[.string ((bs [99, 108, 97, 115, 115])), .string ((bs [65, 32, 98]))]] : List (List Value)) = rw6 at hs hW5; clear hgrw6
 replace hs : St _ _ _ (.row v4 91 2 rw6 :: .blk b1 (.cells #[(.slice none 0 0)] 24 (0, 0)) :: L) _ _ _ := hs
 refine sy hs (y_buildS (places := [(0, 1), (1, 1), (2, 1), (3, 1)]) (cs := [.string ((bs [108, 105])), .string ((bs [])), v4, (.slice none 0 0)]) rfl Tryd.underlying94 ti94 (by kernel_rfl) (by decide) rfl ⟨rfl, (hs.one (i := 0) rfl), trivial⟩) ?_; clear hs; (try clear a w); intro a w hs
 refine sy hs (y_buildS (places := [(0, 1), (1, 1), (2, 1), (3, 1)]) (cs := [.string ((bs [])), .string ((bs [116])), (.slice none 0 0), (.slice none 0 0)]) rfl Tryd.underlying94 ti94 (by kernel_rfl) (by decide) rfl ⟨rfl, trivial⟩) ?_; clear hs; (try clear a w); intro a w hs
 refine sy hs (y_buildS (places := [(0, 1), (1, 1)]) (cs := [.string ((bs [105, 100])), .string ((bs [120]))]) rfl Tryd.underlying91 ti91 (by kernel_rfl) (by decide) rfl ⟨rfl, rfl, trivial⟩) ?_; clear hs; (try clear a w); intro a w hs
 refine RL_bs1a hs rfl Tryd.underlying40 ti91 (by decide) (AllC.row ⟨rfl, rfl, trivial⟩ rfl) ?_; clear hs; (try clear a w); intro v13 a w hs
 have hW14 : RW t_api_Attr f [[.string ((bs [105, 100])), .string ((bs [120]))]] [({Name := (bs [105, 100]), Value := (bs [120])} : api_Attr)] := RW.single (rfl)
 generalize hgrw15 : ([[.string ((bs [105, 100])), .string ((bs [120]))]] : List (List Value)) = rw15 at hs hW14; clear hgrw15
 replace hs : St _ _ _ (.row v13 91 2 rw15 :: .row v4 91 2 rw6 :: .blk b1 (.cells #[(.slice none 0 0)] 24 (0, 0)) :: L) _ _ _ := hs
 refine sy hs (y_buildS (places := [(0, 1), (1, 1), (2, 1), (3, 1)]) (cs := [.string ((bs [108, 105])), .string ((bs [])), v13, (.slice none 0 0)]) rfl Tryd.underlying94 ti94 (by kernel_rfl) (by decide) rfl ⟨rfl, (hs.one (i := 0) rfl), trivial⟩) ?_; clear hs; (try clear a w); intro a w hs
 obtain ⟨f22, hf23, hs2, hR24⟩ := hs.frzAt 1 rfl
 clear hs; have hs := hs2; clear hs2
 replace hW5 := hW5.le hf23
 replace hW14 := hW14.le hf23
 replace hle := hle.trans hf23
 replace hs : St _ _ _ (.row v13 91 2 rw15 :: .blk b1 (.cells #[(.slice none 0 0)] 24 (0, 0)) :: L) _ _ _ := hs
 obtain ⟨f25, hf26, hs2, hR27⟩ := hs.frzAt 0 rfl
 clear hs; have hs := hs2; clear hs2
 replace hW5 := hW5.le hf26
 replace hW14 := hW14.le hf26
 replace hR24 := hR24.le hf26
 replace hle := hle.trans hf26
 replace hs : St _ _ _ (.blk b1 (.cells #[(.slice none 0 0)] 24 (0, 0)) :: L) _ _ _ := hs
 refine RL_bsN (parts := [(0, .tmp 6), (1, .tmp 7), (2, .tmp 10)]) (us := [.agg #[.string ((bs [108, 105])), .string ((bs [])), v4, (.slice none 0 0)], .agg #[.string ((bs [])), .string ((bs [116])), (.slice none 0 0), (.slice none 0 0)], .agg #[.string ((bs [108, 105])), .string ((bs [])), v13, (.slice none 0 0)]]) (rows := [[.string ((bs [108, 105])), .string ((bs [])), v4, (.slice none 0 0)], [.string ((bs [])), .string ((bs [116])), (.slice none 0 0), (.slice none 0 0)], [.string ((bs [108, 105])), .string ((bs [])), v13, (.slice none 0 0)]]) hs rfl Tryd.underlying92 ti94 (by decide) rfl rfl (by intro r hr; simp only [List.mem_cons, List.mem_nil_iff, or_false] at hr; rcases hr with rfl | rfl | rfl; exact AllC.row ⟨rfl, rfl, hR24.one, rfl, trivial⟩ rfl; exact AllC.row ⟨rfl, rfl, rfl, rfl, trivial⟩ rfl; exact AllC.row ⟨rfl, rfl, hR27.one, rfl, trivial⟩ rfl) ?_; clear hs; (try clear a w); intro v20 a w hs
 have hW21 : RW t_ref5_Part f25 [[.string ((bs [108, 105])), .string ((bs [])), v4, (.slice none 0 0)], [.string ((bs [])), .string ((bs [116])), (.slice none 0 0), (.slice none 0 0)], [.string ((bs [108, 105])), .string ((bs [])), v13, (.slice none 0 0)]] [({Name := (bs [108, 105]), Text := (bs []), Attrs := [({Name := (bs [99, 108, 97, 115, 115]), Value := (bs [65, 32, 98])} : api_Attr)], Kids := ([] : List ref5_Part)} : ref5_Part), ({Name := (bs []), Text := (bs [116]), Attrs := ([] : List api_Attr), Kids := ([] : List ref5_Part)} : ref5_Part), ({Name := (bs [108, 105]), Text := (bs []), Attrs := [({Name := (bs [105, 100]), Value := (bs [120])} : api_Attr)], Kids := ([] : List ref5_Part)} : ref5_Part)] := ⟨R_ref5_Part.of (x := ({Name := (bs [108, 105]), Text := (bs []), Attrs := [({Name := (bs [99, 108, 97, 115, 115]), Value := (bs [65, 32, 98])} : api_Attr)], Kids := ([] : List ref5_Part)} : ref5_Part)) ⟨rw6, hR24, hW5⟩ RS.nil, ⟨R_ref5_Part.of (x := ({Name := (bs []), Text := (bs [116]), Attrs := ([] : List api_Attr), Kids := ([] : List ref5_Part)} : ref5_Part)) RS.nil RS.nil, ⟨R_ref5_Part.of (x := ({Name := (bs [108, 105]), Text := (bs []), Attrs := [({Name := (bs [105, 100]), Value := (bs [120])} : api_Attr)], Kids := ([] : List ref5_Part)} : ref5_Part)) ⟨rw15, hR27, hW14⟩ RS.nil, trivial⟩⟩⟩
 generalize hgrw28 : ([[.string ((bs [108, 105])), .string ((bs [])), v4, (.slice none 0 0)], [.string ((bs [])), .string ((bs [116])), (.slice none 0 0), (.slice none 0 0)], [.string ((bs [108, 105])), .string ((bs [])), v13, (.slice none 0 0)]] : List (List Value)) = rw28 at hs hW21; clear hgrw28
 replace hs : St _ _ _ (.row v20 94 4 rw28 :: .blk b1 (.cells #[(.slice none 0 0)] 24 (0, 0)) :: L) _ _ _ := hs
 refine sy hs (y_buildS (places := [(0, 1), (1, 1), (2, 1), (3, 1)]) (cs := [.string ((bs [117, 108])), .string ((bs [])), (.slice none 0 0), v20]) rfl Tryd.underlying94 ti94 (by kernel_rfl) (by decide) rfl ⟨rfl, (hs.one (i := 0) rfl), trivial⟩) ?_; clear hs; (try clear a w); intro a w hs
 obtain ⟨f35, hf36, hs2, hR37⟩ := hs.frzAt 0 rfl
 clear hs; have hs := hs2; clear hs2
 replace hW5 := hW5.le hf36
 replace hW14 := hW14.le hf36
 replace hR24 := hR24.le hf36
 replace hR27 := hR27.le hf36
 replace hW21 := hW21.le hf36
 replace hle := hle.trans hf36
 replace hs : St _ _ _ (.blk b1 (.cells #[(.slice none 0 0)] 24 (0, 0)) :: L) _ _ _ := hs
 refine RL_bs1a hs rfl Tryd.underlying92 ti94 (by decide) (AllC.row ⟨rfl, rfl, rfl, hR37.one, trivial⟩ rfl) ?_; clear hs; (try clear a w); intro v33 a w hs
 have hW34 : RW t_ref5_Part f35 [[.string ((bs [117, 108])), .string ((bs [])), (.slice none 0 0), v20]] [({Name := (bs [117, 108]), Text := (bs []), Attrs := ([] : List api_Attr), Kids := [({Name := (bs [108, 105]), Text := (bs []), Attrs := [({Name := (bs [99, 108, 97, 115, 115]), Value := (bs [65, 32, 98])} : api_Attr)], Kids := ([] : List ref5_Part)} : ref5_Part), ({Name := (bs []), Text := (bs [116]), Attrs := ([] : List api_Attr), Kids := ([] : List ref5_Part)} : ref5_Part), ({Name := (bs [108, 105]), Text := (bs []), Attrs := [({Name := (bs [105, 100]), Value := (bs [120])} : api_Attr)], Kids := ([] : List ref5_Part)} : ref5_Part)]} : ref5_Part)] := RW.single (R_ref5_Part.of (x := ({Name := (bs [117, 108]), Text := (bs []), Attrs := ([] : List api_Attr), Kids := [({Name := (bs [108, 105]), Text := (bs []), Attrs := [({Name := (bs [99, 108, 97, 115, 115]), Value := (bs [65, 32, 98])} : api_Attr)], Kids := ([] : List ref5_Part)} : ref5_Part), ({Name := (bs []), Text := (bs [116]), Attrs := ([] : List api_Attr), Kids := ([] : List ref5_Part)} : ref5_Part), ({Name := (bs [108, 105]), Text := (bs []), Attrs := [({Name := (bs [105, 100]), Value := (bs [120])} : api_Attr)], Kids := ([] : List ref5_Part)} : ref5_Part)]} : ref5_Part)) RS.nil ⟨rw28, hR37, hW21⟩)
 generalize hgrw38 : ([[.string ((bs [117, 108])), .string ((bs [])), (.slice none 0 0), v20]] : List (List Value)) = rw38 at hs hW34; clear hgrw38
 replace hs : St _ _ _ (.row v33 94 4 rw38 :: .blk b1 (.cells #[(.slice none 0 0)] 24 (0, 0)) :: L) _ _ _ := hs
 refine sy hs (y_buildS (places := [(0, 1), (1, 1), (2, 1), (3, 1)]) (cs := [.string ((bs [114, 111, 111, 116])), .string ((bs [])), (.slice none 0 0), v33]) rfl Tryd.underlying94 ti94 (by kernel_rfl) (by decide) rfl ⟨rfl, (hs.one (i := 0) rfl), trivial⟩) ?_; clear hs; (try clear a w); intro a w hs
 refine RL_alloc hs ti94 (.free rfl) (by decide) ?_; clear hs; (try clear a w); intro b43 a w hs
 replace hs : St _ _ _ (.blk b43 (.cells #[.string ((bs [])), .string ((bs [])), (.slice none 0 0), (.slice none 0 0)] 94 (0, 0)) :: .row v33 94 4 rw38 :: .blk b1 (.cells #[(.slice none 0 0)] 24 (0, 0)) :: L) _ _ _ := hs
 refine RL_storeAll (i := 0) hs rfl rfl rfl ti94 ⟨rfl, rfl⟩ (AllC.arr (r := [.string ((bs [114, 111, 111, 116])), .string ((bs [])), (.slice none 0 0), v33]) ⟨rfl, rfl, rfl, (hs.one (i := 1) rfl), trivial⟩) (.free rfl) ?_; clear hs; (try clear a w); intro a w hs
 replace hs : St _ _ _ (.blk b43 (.cells #[.string ((bs [114, 111, 111, 116])), .string ((bs [])), (.slice none 0 0), v33] 94 (0, 0)) :: .row v33 94 4 rw38 :: .blk b1 (.cells #[(.slice none 0 0)] 24 (0, 0)) :: L) _ _ _ := hs
 refine RL_nil ?_
 refine hK2 _ _ ?_; clear hK2
 refine W_seq fun K3 hK3 => ?_
 refine W_region ?_
 refine sy hs (y_ldB rfl Tryd.underlying94 rfl ti94 (.head _) rfl) ?_; clear hs; (try clear a w); intro a w hs
 obtain ⟨f47, hf48, hs2, hR49⟩ := hs.frzAt 1 rfl
 clear hs; have hs := hs2; clear hs2
 replace hW5 := hW5.le hf48
 replace hW14 := hW14.le hf48
 replace hR24 := hR24.le hf48
 replace hR27 := hR27.le hf48
 replace hW21 := hW21.le hf48
 replace hR37 := hR37.le hf48
 replace hW34 := hW34.le hf48
 replace hle := hle.trans hf48
 replace hs : St _ _ _ (.blk b43 (.cells #[.string ((bs [114, 111, 111, 116])), .string ((bs [])), (.slice none 0 0), v33] 94 (0, 0)) :: .blk b1 (.cells #[(.slice none 0 0)] 24 (0, 0)) :: L) _ _ _ := hs
 obtain ⟨x50, hx51, hm⟩ := ob hm
 refine RL_callV hs rfl has38 rfl (ref5_Make_ok n (f := f47) (a0 := [.string ((bs [114, 111, 111, 116])), .string ((bs [])), (.slice none 0 0), v33]) (R_ref5_Part.of (x := ({Name := (bs [114, 111, 111, 116]), Text := (bs []), Attrs := ([] : List api_Attr), Kids := [({Name := (bs [117, 108]), Text := (bs []), Attrs := ([] : List api_Attr), Kids := [({Name := (bs [108, 105]), Text := (bs []), Attrs := [({Name := (bs [99, 108, 97, 115, 115]), Value := (bs [65, 32, 98])} : api_Attr)], Kids := ([] : List ref5_Part)} : ref5_Part), ({Name := (bs []), Text := (bs [116]), Attrs := ([] : List api_Attr), Kids := ([] : List ref5_Part)} : ref5_Part), ({Name := (bs [108, 105]), Text := (bs []), Attrs := [({Name := (bs [105, 100]), Value := (bs [120])} : api_Attr)], Kids := ([] : List ref5_Part)} : ref5_Part)]} : ref5_Part)]} : ref5_Part)) RS.nil ⟨rw38, hR49, hW34⟩) hx51) ?_; clear hs; (try clear a w)
 rintro _ f52 _ a w hf53 ⟨r54, rfl, rfl, hq55⟩ hs
 replace hW5 := hW5.le hf53
 replace hW14 := hW14.le hf53
 replace hR24 := hR24.le hf53
 replace hR27 := hR27.le hf53
 replace hW21 := hW21.le hf53
 replace hR37 := hR37.le hf53
 replace hW34 := hW34.le hf53
 replace hR49 := hR49.le hf53
 replace hle := hle.trans hf53
 obtain ⟨v56, rfl, ⟨rw57, hR58, hW59⟩⟩ := hq55
 replace hs : St _ _ _ (.blk b43 (.cells #[.string ((bs [114, 111, 111, 116])), .string ((bs [])), (.slice none 0 0), v33] 94 (0, 0)) :: .blk b1 (.cells #[(.slice none 0 0)] 24 (0, 0)) :: L) _ _ _ := hs
 refine sy (v := .tuple #[.agg #[v56], .int .i64 (x50.2)]) hs (y_move rfl) ?_; clear hs; (try clear a w); intro a w hs
 refine sy (v := .agg #[v56]) hs (y_extract rfl rfl) ?_; clear hs; (try clear a w); intro a w hs
 refine sy (v := .int .i64 (x50.2)) hs (y_extract rfl rfl) ?_; clear hs; (try clear a w); intro a w hs
 refine RL_alloc hs ti24 (.free rfl) (by decide) ?_; clear hs; (try clear a w); intro b61 a w hs
 replace hs : St _ _ _ (.blk b61 (.cells #[(.slice none 0 0)] 24 (0, 0)) :: .blk b43 (.cells #[.string ((bs [114, 111, 111, 116])), .string ((bs [])), (.slice none 0 0), v33] 94 (0, 0)) :: .blk b1 (.cells #[(.slice none 0 0)] 24 (0, 0)) :: L) _ _ _ := hs
 refine RL_storeAll (i := 0) hs rfl rfl rfl ti24 ⟨rfl, rfl⟩ (AllC.arr (r := [v56]) ⟨hR58.one, trivial⟩) (.free rfl) ?_; clear hs; (try clear a w); intro a w hs
 replace hs : St _ _ _ (.blk b61 (.cells #[v56] 24 (0, 0)) :: .blk b43 (.cells #[.string ((bs [114, 111, 111, 116])), .string ((bs [])), (.slice none 0 0), v33] 94 (0, 0)) :: .blk b1 (.cells #[(.slice none 0 0)] 24 (0, 0)) :: L) _ _ _ := hs
 refine sy (v := .int .i64 (x50.2)) hs (y_assign rfl) ?_; clear hs; (try clear a w); intro a w hs
 refine RL_nil ?_
 refine hK3 _ _ ?_; clear hK3
 refine W_seq fun K4 hK4 => ?_
 refine W_region ?_
 refine sy hs (y_ldB rfl Tryd.underlying24 rfl ti24 (.head _) rfl) ?_; clear hs; (try clear a w); intro a w hs
 refine RL_storeAll (i := 2) hs rfl rfl rfl ti24 ⟨rfl, rfl⟩ (AllC.arr (r := [v56]) ⟨hR58.one, trivial⟩) (.free rfl) ?_; clear hs; (try clear a w); intro a w hs
 replace hs : St _ _ _ (.blk b61 (.cells #[v56] 24 (0, 0)) :: .blk b43 (.cells #[.string ((bs [114, 111, 111, 116])), .string ((bs [])), (.slice none 0 0), v33] 94 (0, 0)) :: .blk b1 (.cells #[v56] 24 (0, 0)) :: L) _ _ _ := hs
 refine RL_nil ?_
 refine hK4 _ _ ?_; clear hK4
 refine W_ret ?_
 obtain rfl := Option.some.inj hm
 refine RtV1 hs rfl (rv_a hs rfl Tryd.underlying24 rfl ti24 (fun j u hj => Cell.blk (.tail _ (.tail _ (.head _))) hj) rfl) ?_
 exact ⟨_, f52, [], rfl, hle, (hs.subL (.cons _ (.cons _ (.cons _ (.refl _))))).cw, [v56], rfl, rfl, ⟨_, rfl, ⟨rw57, hR58, hW59⟩⟩⟩
/-! casement/casementlaw10.small -/
end Go.Proofs.YtmkcglpeidbblaaDoor
