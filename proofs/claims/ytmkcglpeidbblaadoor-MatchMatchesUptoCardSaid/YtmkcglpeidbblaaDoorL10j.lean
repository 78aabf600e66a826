/-
  Walks and laws of this seat; the base is the text Base.
-/
import Derived.Test.YtmkcglpeidbblaaDoorL10o
import Derived.Test.YtmkcglpeidbblaaDoorL10h
import Derived.Test.YtmkcglpeidbblaaDoorRows
/-
  Models of functions, and that the functions compute them. Printed by lift.py.
-/
namespace Go.Proofs.YtmkcglpeidbblaaDoor
open Go.RowKit Go.Sl
/-! casement/casementlaw10.sample -/
def law10_sample (n : Nat) : Option api_Tree :=
  (ref5_Make n ({Name := (bs [114, 111, 111, 116]), Text := (bs []), Attrs := ([] : List api_Attr), Kids := [({Name := (bs [117, 108]), Text := (bs []), Attrs := ([] : List api_Attr), Kids := [({Name := (bs [108, 105]), Text := (bs []), Attrs := [({Name := (bs [99, 108, 97, 115, 115]), Value := (bs [65, 32, 98])} : api_Attr)], Kids := ([] : List ref5_Part)} : ref5_Part), ({Name := (bs []), Text := (bs [116]), Attrs := ([] : List api_Attr), Kids := ([] : List ref5_Part)} : ref5_Part), ({Name := (bs [108, 105]), Text := (bs []), Attrs := [({Name := (bs [105, 100]), Value := (bs [120])} : api_Attr)], Kids := ([] : List ref5_Part)} : ref5_Part)]} : ref5_Part)]} : ref5_Part)).bind fun x50 =>
  some x50.1
set_option maxRecDepth 20000 in
set_option maxHeartbeats 4000000 in
theorem law10_sample_ok (n : Nat) {f : Fz}  {res : api_Tree}  (hm : law10_sample n = some res) : Does Tryd.prog 25 [] f [] (fun r f' L' => ∃ (u0 : List Value), L' = [] ∧ r = .agg u0.toArray ∧ t_api_Tree.R f' u0 res) := by
 unfold law10_sample at hm
 intro w0 L w hC
 refine enter Tryd.func25 rfl Tryd.ntmps25 (by simp) hC fun a hs => ?_
 have hle := Fz.le.refl f
 refine W_seq fun K1 hK1 => ?_
 refine W_region ?_
 refine RL_alloc hs ti24 (.free rfl) (by decide) ?_; clear hs; intro b1 a w hs
 replace hs : St _ _ _ (.blk b1 (.cells #[(.slice none 0 0)] 24 (0, 0)) :: L) _ _ _ := hs
 refine RL_nil ?_
 refine hK1 _ _ ?_; clear hK1
 refine W_seq fun K2 hK2 => ?_
 refine W_region ?_
 refine sy hs (y_buildS (places := [(0, 1), (1, 1)]) (cs := [.string ((bs [99, 108, 97, 115, 115])), .string ((bs [65, 32, 98]))]) rfl Tryd.underlying91 ti91 (by kernel_rfl) (by decide) rfl ⟨rfl, rfl, trivial⟩) ?_; clear hs; intro a w hs
 refine RL_bs1a hs rfl Tryd.underlying40 ti91 (by decide) (AllC.row ⟨rfl, rfl, trivial⟩ rfl) ?_; clear hs; intro v4 a w hs
 have hW5 : RW t_api_Attr f [[.string ((bs [99, 108, 97, 115, 115])), .string ((bs [65, 32, 98]))]] [({Name := (bs [99, 108, 97, 115, 115]), Value := (bs [65, 32, 98])} : api_Attr)] := RW.single (rfl)
 generalize hgrw6 : ([[.string ((bs [99, 108, 97, 115, 115])), .string ((bs [65, 32, 98]))]] : List (List Value)) = rw6 at hs hW5; clear hgrw6
 replace hs : St _ _ _ (.row v4 91 2 rw6 :: .blk b1 (.cells #[(.slice none 0 0)] 24 (0, 0)) :: L) _ _ _ := hs
 refine sy hs (y_buildS (places := [(0, 1), (1, 1), (2, 1), (3, 1)]) (cs := [.string ((bs [108, 105])), .string ((bs [])), v4, (.slice none 0 0)]) rfl Tryd.underlying94 ti94 (by kernel_rfl) (by decide) rfl ⟨rfl, (hs.one (i := 0) rfl), trivial⟩) ?_; clear hs; intro a w hs
 refine sy hs (y_buildS (places := [(0, 1), (1, 1), (2, 1), (3, 1)]) (cs := [.string ((bs [])), .string ((bs [116])), (.slice none 0 0), (.slice none 0 0)]) rfl Tryd.underlying94 ti94 (by kernel_rfl) (by decide) rfl ⟨rfl, trivial⟩) ?_; clear hs; intro a w hs
 refine sy hs (y_buildS (places := [(0, 1), (1, 1)]) (cs := [.string ((bs [105, 100])), .string ((bs [120]))]) rfl Tryd.underlying91 ti91 (by kernel_rfl) (by decide) rfl ⟨rfl, rfl, trivial⟩) ?_; clear hs; intro a w hs
 refine RL_bs1a hs rfl Tryd.underlying40 ti91 (by decide) (AllC.row ⟨rfl, rfl, trivial⟩ rfl) ?_; clear hs; intro v13 a w hs
 have hW14 : RW t_api_Attr f [[.string ((bs [105, 100])), .string ((bs [120]))]] [({Name := (bs [105, 100]), Value := (bs [120])} : api_Attr)] := RW.single (rfl)
 generalize hgrw15 : ([[.string ((bs [105, 100])), .string ((bs [120]))]] : List (List Value)) = rw15 at hs hW14; clear hgrw15
 replace hs : St _ _ _ (.row v13 91 2 rw15 :: .row v4 91 2 rw6 :: .blk b1 (.cells #[(.slice none 0 0)] 24 (0, 0)) :: L) _ _ _ := hs
 refine sy hs (y_buildS (places := [(0, 1), (1, 1), (2, 1), (3, 1)]) (cs := [.string ((bs [108, 105])), .string ((bs [])), v13, (.slice none 0 0)]) rfl Tryd.underlying94 ti94 (by kernel_rfl) (by decide) rfl ⟨rfl, (hs.one (i := 0) rfl), trivial⟩) ?_; clear hs; intro a w hs
 obtain ⟨f22, hf23, hs2, hR24⟩ := hs.frzAt 1 rfl
 clear hs; have hs := hs2; clear hs2
 replace hW5 := hW5.le hf23
 replace hW14 := hW14.le hf23
 replace hle := hle.trans hf23
 replace hs : St _ _ _ (.row v13 91 2 rw15 :: .blk b1 (.cells #[(.slice none 0 0)] 24 (0, 0)) :: L) _ _ _ := hs
 obtain ⟨f25, hf26, hs2, hR27⟩ := hs.frzAt 0 rfl
 clear hs; have hs := hs2; clear hs2
 replace hW5 := hW5.le hf26
 replace hW14 := hW14.le hf26
 replace hR24 := hR24.le hf26
 replace hle := hle.trans hf26
 replace hs : St _ _ _ (.blk b1 (.cells #[(.slice none 0 0)] 24 (0, 0)) :: L) _ _ _ := hs
 refine RL_bsN (parts := [(0, .tmp 6), (1, .tmp 7), (2, .tmp 10)]) (us := [.agg #[.string ((bs [108, 105])), .string ((bs [])), v4, (.slice none 0 0)], .agg #[.string ((bs [])), .string ((bs [116])), (.slice none 0 0), (.slice none 0 0)], .agg #[.string ((bs [108, 105])), .string ((bs [])), v13, (.slice none 0 0)]]) (rows := [[.string ((bs [108, 105])), .string ((bs [])), v4, (.slice none 0 0)], [.string ((bs [])), .string ((bs [116])), (.slice none 0 0), (.slice none 0 0)], [.string ((bs [108, 105])), .string ((bs [])), v13, (.slice none 0 0)]]) hs rfl Tryd.underlying92 ti94 (by decide) rfl rfl (by intro r hr; simp only [List.mem_cons, List.mem_nil_iff, or_false] at hr; rcases hr with rfl | rfl | rfl; exact AllC.row ⟨rfl, rfl, hR24.one, rfl, trivial⟩ rfl; exact AllC.row ⟨rfl, rfl, rfl, rfl, trivial⟩ rfl; exact AllC.row ⟨rfl, rfl, hR27.one, rfl, trivial⟩ rfl) ?_; clear hs; intro v20 a w hs
 have hW21 : RW t_ref5_Part f25 [[.string ((bs [108, 105])), .string ((bs [])), v4, (.slice none 0 0)], [.string ((bs [])), .string ((bs [116])), (.slice none 0 0), (.slice none 0 0)], [.string ((bs [108, 105])), .string ((bs [])), v13, (.slice none 0 0)]] [({Name := (bs [108, 105]), Text := (bs []), Attrs := [({Name := (bs [99, 108, 97, 115, 115]), Value := (bs [65, 32, 98])} : api_Attr)], Kids := ([] : List ref5_Part)} : ref5_Part), ({Name := (bs []), Text := (bs [116]), Attrs := ([] : List api_Attr), Kids := ([] : List ref5_Part)} : ref5_Part), ({Name := (bs [108, 105]), Text := (bs []), Attrs := [({Name := (bs [105, 100]), Value := (bs [120])} : api_Attr)], Kids := ([] : List ref5_Part)} : ref5_Part)] := ⟨R_ref5_Part.of (x := ({Name := (bs [108, 105]), Text := (bs []), Attrs := [({Name := (bs [99, 108, 97, 115, 115]), Value := (bs [65, 32, 98])} : api_Attr)], Kids := ([] : List ref5_Part)} : ref5_Part)) ⟨rw6, hR24, hW5⟩ RS.nil, ⟨R_ref5_Part.of (x := ({Name := (bs []), Text := (bs [116]), Attrs := ([] : List api_Attr), Kids := ([] : List ref5_Part)} : ref5_Part)) RS.nil RS.nil, ⟨R_ref5_Part.of (x := ({Name := (bs [108, 105]), Text := (bs []), Attrs := [({Name := (bs [105, 100]), Value := (bs [120])} : api_Attr)], Kids := ([] : List ref5_Part)} : ref5_Part)) ⟨rw15, hR27, hW14⟩ RS.nil, trivial⟩⟩⟩
 generalize hgrw28 : ([[.string ((bs [108, 105])), .string ((bs [])), v4, (.slice none 0 0)], [.string ((bs [])), .string ((bs [116])), (.slice none 0 0), (.slice none 0 0)], [.string ((bs [108, 105])), .string ((bs [])), v13, (.slice none 0 0)]] : List (List Value)) = rw28 at hs hW21; clear hgrw28
 replace hs : St _ _ _ (.row v20 94 4 rw28 :: .blk b1 (.cells #[(.slice none 0 0)] 24 (0, 0)) :: L) _ _ _ := hs
 refine sy hs (y_buildS (places := [(0, 1), (1, 1), (2, 1), (3, 1)]) (cs := [.string ((bs [117, 108])), .string ((bs [])), (.slice none 0 0), v20]) rfl Tryd.underlying94 ti94 (by kernel_rfl) (by decide) rfl ⟨rfl, (hs.one (i := 0) rfl), trivial⟩) ?_; clear hs; intro a w hs
 obtain ⟨f35, hf36, hs2, hR37⟩ := hs.frzAt 0 rfl
 clear hs; have hs := hs2; clear hs2
 replace hW5 := hW5.le hf36
 replace hW14 := hW14.le hf36
 replace hR24 := hR24.le hf36
 replace hR27 := hR27.le hf36
 replace hW21 := hW21.le hf36
 replace hle := hle.trans hf36
 replace hs : St _ _ _ (.blk b1 (.cells #[(.slice none 0 0)] 24 (0, 0)) :: L) _ _ _ := hs
 refine RL_bs1a hs rfl Tryd.underlying92 ti94 (by decide) (AllC.row ⟨rfl, rfl, rfl, hR37.one, trivial⟩ rfl) ?_; clear hs; intro v33 a w hs
 have hW34 : RW t_ref5_Part f35 [[.string ((bs [117, 108])), .string ((bs [])), (.slice none 0 0), v20]] [({Name := (bs [117, 108]), Text := (bs []), Attrs := ([] : List api_Attr), Kids := [({Name := (bs [108, 105]), Text := (bs []), Attrs := [({Name := (bs [99, 108, 97, 115, 115]), Value := (bs [65, 32, 98])} : api_Attr)], Kids := ([] : List ref5_Part)} : ref5_Part), ({Name := (bs []), Text := (bs [116]), Attrs := ([] : List api_Attr), Kids := ([] : List ref5_Part)} : ref5_Part), ({Name := (bs [108, 105]), Text := (bs []), Attrs := [({Name := (bs [105, 100]), Value := (bs [120])} : api_Attr)], Kids := ([] : List ref5_Part)} : ref5_Part)]} : ref5_Part)] := RW.single (R_ref5_Part.of (x := ({Name := (bs [117, 108]), Text := (bs []), Attrs := ([] : List api_Attr), Kids := [({Name := (bs [108, 105]), Text := (bs []), Attrs := [({Name := (bs [99, 108, 97, 115, 115]), Value := (bs [65, 32, 98])} : api_Attr)], Kids := ([] : List ref5_Part)} : ref5_Part), ({Name := (bs []), Text := (bs [116]), Attrs := ([] : List api_Attr), Kids := ([] : List ref5_Part)} : ref5_Part), ({Name := (bs [108, 105]), Text := (bs []), Attrs := [({Name := (bs [105, 100]), Value := (bs [120])} : api_Attr)], Kids := ([] : List ref5_Part)} : ref5_Part)]} : ref5_Part)) RS.nil ⟨rw28, hR37, hW21⟩)
 generalize hgrw38 : ([[.string ((bs [117, 108])), .string ((bs [])), (.slice none 0 0), v20]] : List (List Value)) = rw38 at hs hW34; clear hgrw38
 replace hs : St _ _ _ (.row v33 94 4 rw38 :: .blk b1 (.cells #[(.slice none 0 0)] 24 (0, 0)) :: L) _ _ _ := hs
 refine sy hs (y_buildS (places := [(0, 1), (1, 1), (2, 1), (3, 1)]) (cs := [.string ((bs [114, 111, 111, 116])), .string ((bs [])), (.slice none 0 0), v33]) rfl Tryd.underlying94 ti94 (by kernel_rfl) (by decide) rfl ⟨rfl, (hs.one (i := 0) rfl), trivial⟩) ?_; clear hs; intro a w hs
 refine RL_alloc hs ti94 (.free rfl) (by decide) ?_; clear hs; intro b43 a w hs
 replace hs : St _ _ _ (.blk b43 (.cells #[.string ((bs [])), .string ((bs [])), (.slice none 0 0), (.slice none 0 0)] 94 (0, 0)) :: .row v33 94 4 rw38 :: .blk b1 (.cells #[(.slice none 0 0)] 24 (0, 0)) :: L) _ _ _ := hs
 refine RL_storeAll (i := 0) hs rfl rfl rfl ti94 ⟨rfl, rfl⟩ (AllC.arr (r := [.string ((bs [114, 111, 111, 116])), .string ((bs [])), (.slice none 0 0), v33]) ⟨rfl, rfl, rfl, (hs.one (i := 1) rfl), trivial⟩) (.free rfl) ?_; clear hs; intro a w hs
 replace hs : St _ _ _ (.blk b43 (.cells #[.string ((bs [114, 111, 111, 116])), .string ((bs [])), (.slice none 0 0), v33] 94 (0, 0)) :: .row v33 94 4 rw38 :: .blk b1 (.cells #[(.slice none 0 0)] 24 (0, 0)) :: L) _ _ _ := hs
 refine RL_nil ?_
 refine hK2 _ _ ?_; clear hK2
 refine W_seq fun K3 hK3 => ?_
 refine W_region ?_
 refine sy hs (y_ldB rfl Tryd.underlying94 rfl ti94 (.head _) rfl) ?_; clear hs; intro a w hs
 obtain ⟨f47, hf48, hs2, hR49⟩ := hs.frzAt 1 rfl
 clear hs; have hs := hs2; clear hs2
 replace hW5 := hW5.le hf48
 replace hW14 := hW14.le hf48
 replace hR24 := hR24.le hf48
 replace hR27 := hR27.le hf48
 replace hW21 := hW21.le hf48
 replace hR37 := hR37.le hf48
 replace hW34 := hW34.le hf48
 replace hle := hle.trans hf48
 replace hs : St _ _ _ (.blk b43 (.cells #[.string ((bs [114, 111, 111, 116])), .string ((bs [])), (.slice none 0 0), v33] 94 (0, 0)) :: .blk b1 (.cells #[(.slice none 0 0)] 24 (0, 0)) :: L) _ _ _ := hs
 obtain ⟨x50, hx51, hm⟩ := ob hm
 refine RL_callV hs rfl has38 rfl (ref5_Make_ok n (f := f47) (a0 := [.string ((bs [114, 111, 111, 116])), .string ((bs [])), (.slice none 0 0), v33]) (R_ref5_Part.of (x := ({Name := (bs [114, 111, 111, 116]), Text := (bs []), Attrs := ([] : List api_Attr), Kids := [({Name := (bs [117, 108]), Text := (bs []), Attrs := ([] : List api_Attr), Kids := [({Name := (bs [108, 105]), Text := (bs []), Attrs := [({Name := (bs [99, 108, 97, 115, 115]), Value := (bs [65, 32, 98])} : api_Attr)], Kids := ([] : List ref5_Part)} : ref5_Part), ({Name := (bs []), Text := (bs [116]), Attrs := ([] : List api_Attr), Kids := ([] : List ref5_Part)} : ref5_Part), ({Name := (bs [108, 105]), Text := (bs []), Attrs := [({Name := (bs [105, 100]), Value := (bs [120])} : api_Attr)], Kids := ([] : List ref5_Part)} : ref5_Part)]} : ref5_Part)]} : ref5_Part)) RS.nil ⟨rw38, hR49, hW34⟩) hx51) ?_; clear hs
 rintro _ f52 _ a w hf53 ⟨r54, rfl, rfl, hq55⟩ hs
 replace hW5 := hW5.le hf53
 replace hW14 := hW14.le hf53
 replace hR24 := hR24.le hf53
 replace hR27 := hR27.le hf53
 replace hW21 := hW21.le hf53
 replace hR37 := hR37.le hf53
 replace hW34 := hW34.le hf53
 replace hR49 := hR49.le hf53
 replace hle := hle.trans hf53
 obtain ⟨v56, rfl, ⟨rw57, hR58, hW59⟩⟩ := hq55
 replace hs : St _ _ _ (.blk b43 (.cells #[.string ((bs [114, 111, 111, 116])), .string ((bs [])), (.slice none 0 0), v33] 94 (0, 0)) :: .blk b1 (.cells #[(.slice none 0 0)] 24 (0, 0)) :: L) _ _ _ := hs
 refine sy (v := .tuple #[.agg #[v56], .int .i64 (x50.2)]) hs (y_move rfl) ?_; clear hs; intro a w hs
 refine sy (v := .agg #[v56]) hs (y_extract rfl rfl) ?_; clear hs; intro a w hs
 refine sy (v := .int .i64 (x50.2)) hs (y_extract rfl rfl) ?_; clear hs; intro a w hs
 refine RL_alloc hs ti24 (.free rfl) (by decide) ?_; clear hs; intro b61 a w hs
 replace hs : St _ _ _ (.blk b61 (.cells #[(.slice none 0 0)] 24 (0, 0)) :: .blk b43 (.cells #[.string ((bs [114, 111, 111, 116])), .string ((bs [])), (.slice none 0 0), v33] 94 (0, 0)) :: .blk b1 (.cells #[(.slice none 0 0)] 24 (0, 0)) :: L) _ _ _ := hs
 refine RL_storeAll (i := 0) hs rfl rfl rfl ti24 ⟨rfl, rfl⟩ (AllC.arr (r := [v56]) ⟨hR58.one, trivial⟩) (.free rfl) ?_; clear hs; intro a w hs
 replace hs : St _ _ _ (.blk b61 (.cells #[v56] 24 (0, 0)) :: .blk b43 (.cells #[.string ((bs [114, 111, 111, 116])), .string ((bs [])), (.slice none 0 0), v33] 94 (0, 0)) :: .blk b1 (.cells #[(.slice none 0 0)] 24 (0, 0)) :: L) _ _ _ := hs
 refine sy (v := .int .i64 (x50.2)) hs (y_assign rfl) ?_; clear hs; intro a w hs
 refine RL_nil ?_
 refine hK3 _ _ ?_; clear hK3
 refine W_seq fun K4 hK4 => ?_
 refine W_region ?_
 refine sy hs (y_ldB rfl Tryd.underlying24 rfl ti24 (.head _) rfl) ?_; clear hs; intro a w hs
 refine RL_storeAll (i := 2) hs rfl rfl rfl ti24 ⟨rfl, rfl⟩ (AllC.arr (r := [v56]) ⟨hR58.one, trivial⟩) (.free rfl) ?_; clear hs; intro a w hs
 replace hs : St _ _ _ (.blk b61 (.cells #[v56] 24 (0, 0)) :: .blk b43 (.cells #[.string ((bs [114, 111, 111, 116])), .string ((bs [])), (.slice none 0 0), v33] 94 (0, 0)) :: .blk b1 (.cells #[v56] 24 (0, 0)) :: L) _ _ _ := hs
 refine RL_nil ?_
 refine hK4 _ _ ?_; clear hK4
 refine W_ret ?_
 obtain rfl := Option.some.inj hm
 refine RtV1 hs rfl (rv_a hs rfl Tryd.underlying24 rfl ti24 (fun j u hj => Cell.blk (.tail _ (.tail _ (.head _))) hj) rfl) ?_
 exact ⟨_, f52, [], rfl, hle, (hs.subL (.cons _ (.cons _ (.cons _ (.refl _))))).cw, [v56], rfl, rfl, ⟨_, rfl, ⟨rw57, hR58, hW59⟩⟩⟩
/-! casement/casementlaw10.small -/
def law10_small_k2 : Option Bool :=
  some true
def law10_small_l3 (p1 : (List sheet_Selector)) : Nat → Int → Option Bool
  | 0, _ => none
  | k15 + 1, y14 =>
  (bif (decide (y14 < (p1.length : Int))) then (geti p1 y14).bind fun x17 =>
  (bif (decide (12 < (x17.Steps.length : Int))) then some false else
  (law10_small_l3 p1 k15) (w64 (y14 + 1))) else
  law10_small_k2)
def law10_small_k1 (n : Nat) (p1 : (List sheet_Selector)) (y12 : Bool) : Option Bool :=
  (bif y12 then some false else
  law10_small_l3 p1 n 0)
def law10_small (n : Nat) (p0 : api_Tree) (p1 : (List sheet_Selector)) : Option Bool :=
  (bif (decide (150 < (p0.Nodes.length : Int))) then law10_small_k1 n p1 true else
  (keep_Whole n p0).bind fun x31 =>
  (bif (!x31) then law10_small_k1 n p1 true else
  law10_small_k1 n p1 (decide (20 < (p1.length : Int)))))
set_option maxRecDepth 20000 in
set_option maxHeartbeats 4000000 in
theorem law10_small_ok (n : Nat) {f : Fz} {p0 : api_Tree} {a0 : List Value} {p1 : (List sheet_Selector)} {a1 : Value} {res : Bool} (h0 : t_api_Tree.R f a0 p0) (h1 : RS t_sheet_Selector f a1 p1) (hm : law10_small n p0 p1 = some res) : Gives Tryd.prog 10 [.agg a0.toArray, a1] f (.bool res) := by
 unfold law10_small at hm
 intro w0 L w hC
 obtain ⟨v1, rfl, ⟨rw2, hR3, hW4⟩⟩ := h0
 obtain ⟨rw6, hR7, hW8⟩ := h1
 refine enter Tryd.func10 rfl Tryd.ntmps10 (by simp) hC fun a hs => ?_
 have hle := Fz.le.refl f
 refine W_seq fun K1 hK1 => ?_
 refine W_region ?_
 refine sbox hs rfl ?_; clear hs; intro b10 a w hs
 replace hs : St _ _ _ (.blk b10 (.cells #[v1] 24 (0, 0)) :: L) _ _ _ := hs
 refine sy (v := .bool (false)) hs (y_assign rfl) ?_; clear hs; intro a w hs
 refine RL_nil ?_
 refine hK1 _ _ ?_; clear hK1
 refine W_seq fun K2 hK2 => ?_
 refine W_seq fun K3 hK3 => ?_
 refine W_post (fun a w => ∃ (y12 : Bool), law10_small_k1 n p1 y12 = some res ∧ St 33 w0 f (L) [(1, a1), (19, .bool (y12))] a w) ?_ ?_
 ·clear hs hm
  rintro a w ⟨y12, hm, hs⟩
  replace hs : St _ _ _ (L) _ _ _ := hs
  unfold law10_small_k1 at hm
  refine hK3 _ _ ?_; clear hK3
  refine W_cond hs rfl (fun hg13 => ?_) (fun hg13 => ?_)
  ·replace hm := oc_t hg13 hm
   refine W_seq fun K4 hK4 => ?_
   refine W_region ?_
   refine sy (v := .bool (false)) hs (y_assign rfl) ?_; clear hs; intro a w hs
   refine RL_nil ?_
   refine hK4 _ _ ?_; clear hK4
   refine W_ret ?_
   obtain rfl := Option.some.inj hm
   refine RtV1 hs rfl (rv_t hs rfl) ?_
   exact ⟨rfl, (hs.weak hle).cw⟩
  ·replace hm := oc_f hg13 hm
   refine W_skip ?_
   refine hK2 _ _ ?_; clear hK2
   refine W_seq fun K5 hK5 => ?_
   refine W_seq fun K6 hK6 => ?_
   refine W_region ?_
   refine sy (v := .int .i64 (0)) hs (y_assign rfl) ?_; clear hs; intro a w hs
   refine RL_nil ?_
   refine hK6 _ _ ?_; clear hK6
   refine W_post (fun a w => law10_small_k2 = some res ∧ St 33 w0 f (L) [] a w) ?_ ?_
   ·clear hs hm
    rintro a w ⟨hm, hs⟩
    replace hs : St _ _ _ (L) _ _ _ := hs
    unfold law10_small_k2 at hm
    refine hK5 _ _ ?_; clear hK5
    refine W_seq fun K7 hK7 => ?_
    refine W_region ?_
    refine sy (v := .bool (true)) hs (y_assign rfl) ?_; clear hs; intro a w hs
    refine RL_nil ?_
    refine hK7 _ _ ?_; clear hK7
    refine W_ret ?_
    obtain rfl := Option.some.inj hm
    refine RtV1 hs rfl (rv_t hs rfl) ?_
    exact ⟨rfl, (hs.weak hle).cw⟩
   ·refine W_block fun Qe8 hB8 hO8 => ?_
    refine W_loop (fun (k : Nat) a w => ∃ (y14 : Int), law10_small_l3 p1 k y14 = some res ∧ St 33 w0 f (L) [(1, a1), (5, .int .i64 (y14))] a w) (fun k => k) n ⟨0, hm, hs.sub ⟨rfl, rfl, trivial⟩⟩ ?_
    clear hs hm
    intro k
    rintro a w ⟨y14, hm, hs⟩
    replace hs : St _ _ _ (L) _ _ _ := hs
    intro K9 hK9
    cases k with
    | zero => simp [law10_small_l3] at hm
    | succ k15 =>
     rw [law10_small_l3] at hm
     refine W_seq fun K10 hK10 => ?_
     refine W_seq fun K11 hK11 => ?_
     refine W_region ?_
     refine sy (v := .int .i64 (y14)) hs (y_move rfl) ?_; clear hs; intro a w hs
     refine sy (v := a1) hs (y_move rfl) ?_; clear hs; intro a w hs
     refine sy hs (y_lenW hR7 hW8 rfl Tryd.underlying31) ?_; clear hs; intro a w hs
     refine sy hs (y_lss rfl rfl) ?_; clear hs; intro a w hs
     refine RL_nil ?_
     refine hK11 _ _ ?_; clear hK11
     refine W_cond hs rfl (fun hg16 => ?_) (fun hg16 => ?_)
     ·replace hm := oc_t hg16 hm
      refine W_skip ?_
      refine hK10 _ _ ?_; clear hK10
      refine W_seq fun K12 hK12 => ?_
      refine W_block fun Qe13 hB13 hO13 => ?_
      refine W_seq fun K14 hK14 => ?_
      refine W_region ?_
      refine sy (v := a1) hs (y_move rfl) ?_; clear hs; intro a w hs
      refine sy (v := .int .i64 (y14)) hs (y_move rfl) ?_; clear hs; intro a w hs
      obtain ⟨x17, hx18, hm⟩ := ob hm
      obtain ⟨r19, hr20, hq21, hi22, hb23⟩ := hW8.geti hx18
      obtain ⟨v24, rfl, ⟨rw25, hR26, hW27⟩⟩ := hq21
      refine sy hs (y_indexAddr hR7 rfl rfl hi22 hb23 Tryd.underlying31 ti27) ?_; clear hs; intro a w hs
      refine sy (v := eaddr a1 1 y14.toNat 0) hs (y_fieldAddrE (i := y14.toNat) (j := 0) hR7 rfl hb23 (FO.of (off := 0) Tryd.underlying27 rfl rfl ti25 (by decide))) ?_; clear hs; intro a w hs
      refine sy (v := v24) hs (y_loadE (i := y14.toNat) (j := 0) hR7.up rfl hr20 rfl Tryd.underlying25 rfl) ?_; clear hs; intro a w hs
      refine sy hs (y_lenW hR26 hW27 rfl Tryd.underlying25) ?_; clear hs; intro a w hs
      refine sy hs (y_gtr rfl rfl) ?_; clear hs; intro a w hs
      refine RL_nil ?_
      refine hK14 _ _ ?_; clear hK14
      refine W_cond hs rfl (fun hg29 => ?_) (fun hg29 => ?_)
      ·replace hm := oc_t hg29 hm
       refine W_seq fun K15 hK15 => ?_
       refine W_region ?_
       refine sy (v := .bool (false)) hs (y_assign rfl) ?_; clear hs; intro a w hs
       refine RL_nil ?_
       refine hK15 _ _ ?_; clear hK15
       refine W_ret ?_
       obtain rfl := Option.some.inj hm
       refine RtV1 hs rfl (rv_t hs rfl) ?_
       exact ⟨rfl, (hs.weak hle).cw⟩
      ·replace hm := oc_f hg29 hm
       refine W_skip ?_
       refine hK12 _ _ ?_; clear hK12
       refine W_region ?_
       refine sy (v := .int .i64 (y14)) hs (y_move rfl) ?_; clear hs; intro a w hs
       refine sy hs (y_add rfl rfl rfl) ?_; clear hs; intro a w hs
       refine sy (v := .int .i64 ((w64 (y14 + 1)))) hs (y_assign rfl) ?_; clear hs; intro a w hs
       refine RL_nil ?_
       exact hK9 k15 _ _ (Nat.lt_succ_self _) ⟨(w64 (y14 + 1)), hm, hs.sub ⟨rfl, rfl, trivial⟩⟩
     ·replace hm := oc_f hg16 hm
      refine W_exit ?_
      refine hB8 _ _ ?_
      exact ⟨hm, hs.sub trivial⟩
 ·refine W_region ?_
  refine sy (v := .pointer (some ⟨b10, 0, none⟩)) hs (y_fieldAddr rfl (FO.of (off := 0) Tryd.underlying24 rfl rfl ti22 (by decide))) ?_; clear hs; intro a w hs
  refine sy (v := v1) hs (y_ld rfl Tryd.underlying22 rfl (Cell.blk (.head _) rfl)) ?_; clear hs; intro a w hs
  refine sy hs (y_lenW hR3 hW4 rfl Tryd.underlying22) ?_; clear hs; intro a w hs
  refine sy hs (y_gtr rfl rfl) ?_; clear hs; intro a w hs
  refine sy (v := .bool (decide (150 < (p0.Nodes.length : Int)))) hs (y_move rfl) ?_; clear hs; intro a w hs
  refine St.split hs (t := 10) rfl (fun hg30 hq => ?_) (fun hg30 hq => ?_)
  ·clear hs; have hs := hq; clear hq
   replace hm := oc_t hg30 hm
   refine sno hs ?_; clear hs; intro a w hs
   refine sno hs ?_; clear hs; intro a w hs
   refine sno hs ?_; clear hs; intro a w hs
   refine sy (v := .bool (true)) hs (y_pick rfl rfl) ?_; clear hs; intro a w hs
   refine sy (v := .bool (true)) hs (y_move rfl) ?_; clear hs; intro a w hs
   refine sno hs ?_; clear hs; intro a w hs
   refine sno hs ?_; clear hs; intro a w hs
   refine sno hs ?_; clear hs; intro a w hs
   refine sy (v := .bool (true)) hs (y_pick rfl rfl) ?_; clear hs; intro a w hs
   refine RL_nil ?_
   exact ⟨true, hm, hs.subs ⟨rfl, rfl, trivial⟩ (.cons _ (.refl _))⟩
  ·clear hs; have hs := hq; clear hq
   replace hm := oc_f hg30 hm
   refine syg hs (y_ldB rfl Tryd.underlying24 rfl ti24 (.head _) rfl) ?_; clear hs; intro a w hs
   obtain ⟨x31, hx32, hm⟩ := ob hm
   refine syg hs (y_call rfl has26 rfl (keep_Whole_ok n (f := f) (a0 := [v1]) ⟨_, rfl, ⟨rw2, hR3, hW4⟩⟩ hx32)) ?_; clear hs; intro a w hs
   refine syg (v := .bool ((!x31))) hs (y_not rfl) ?_; clear hs; intro a w hs
   refine sy (v := .bool ((!x31))) hs (y_pick rfl rfl) ?_; clear hs; intro a w hs
   refine sy (v := .bool ((!x31))) hs (y_move rfl) ?_; clear hs; intro a w hs
   refine St.split hs (t := 15) rfl (fun hg33 hq => ?_) (fun hg33 hq => ?_)
   ·clear hs; have hs := hq; clear hq
    replace hm := oc_t hg33 hm
    refine sno hs ?_; clear hs; intro a w hs
    refine sno hs ?_; clear hs; intro a w hs
    refine sno hs ?_; clear hs; intro a w hs
    refine sy (v := .bool (true)) hs (y_pick rfl rfl) ?_; clear hs; intro a w hs
    refine RL_nil ?_
    exact ⟨true, hm, hs.subs ⟨rfl, rfl, trivial⟩ (.cons _ (.refl _))⟩
   ·clear hs; have hs := hq; clear hq
    replace hm := oc_f hg33 hm
    refine syg (v := a1) hs (y_move rfl) ?_; clear hs; intro a w hs
    refine syg hs (y_lenW hR7 hW8 rfl Tryd.underlying31) ?_; clear hs; intro a w hs
    refine syg hs (y_gtr rfl rfl) ?_; clear hs; intro a w hs
    refine sy (v := .bool (decide (20 < (p1.length : Int)))) hs (y_pick rfl rfl) ?_; clear hs; intro a w hs
    refine RL_nil ?_
    exact ⟨decide (20 < (p1.length : Int)), hm, hs.subs ⟨rfl, rfl, trivial⟩ (.cons _ (.refl _))⟩
end Go.Proofs.YtmkcglpeidbblaaDoor
