/-
  Walks and laws of this seat; the base is the text Base.
-/
import Derived.Test.YtmkcglpeidbblaaDoorL10e
import Derived.Test.YtmkcglpeidbblaaDoorRows
/-
  Models of functions, and that the functions compute them. Printed by lift.py.
-/
namespace Go.Proofs.YtmkcglpeidbblaaDoor
open Go.RowKit Go.Sl
/-! casement/casementbook.Within -/
/-! casement/casementbook.Same[int] -/
/-! casement/casementkeep.Whole -/
/-! casement/casementlaw10.selectors -/
/-! casement/casementlaw10.name -/
def law10_name (_n : Nat) (p0 : Int) (p1 : ByteArray) (p2 : (List sheet_Test)) : Option sheet_Step :=
  some ({Comb := p0, Name := p1, Tests := p2} : sheet_Step)
set_option maxRecDepth 20000 in
set_option maxHeartbeats 4000000 in
theorem law10_name_ok (n : Nat) {f : Fz} {p0 : Int} {p1 : ByteArray} {p2 : (List sheet_Test)} {a2 : Value} {res : sheet_Step} (h2 : RS t_sheet_Test f a2 p2) (hm : law10_name n p0 p1 p2 = some res) : Does Tryd.prog 15 [.int .i64 p0, .string p1, a2] f [] (fun r f' L' => ∃ (u0 : List Value), L' = [] ∧ r = .agg u0.toArray ∧ t_sheet_Step.R f' u0 res) := by
 unfold law10_name at hm
 intro w0 L w hC
 obtain ⟨rw1, hR2, hW3⟩ := h2
 refine enter Tryd.func15 rfl Tryd.ntmps15 (by simp) hC fun a hs => ?_
 have hle := Fz.le.refl f
 refine W_seq fun K1 hK1 => ?_
 refine W_region ?_
 refine RL_alloc hs ti35 (.free rfl) (by decide) ?_; clear hs; (try clear a w); intro b5 a w hs
 replace hs : St _ _ _ (.blk b5 (.cells #[.int .i64 (0), .string ((bs [])), (.slice none 0 0)] 35 (0, 0)) :: L) _ _ _ := hs
 refine RL_nil ?_
 refine hK1 _ _ ?_; clear hK1
 refine W_seq fun K2 hK2 => ?_
 refine W_region ?_
 refine sy (v := .int .i64 (p0)) hs (y_move rfl) ?_; clear hs; (try clear a w); intro a w hs
 refine sy (v := .string (p1)) hs (y_move rfl) ?_; clear hs; (try clear a w); intro a w hs
 refine sy (v := a2) hs (y_move rfl) ?_; clear hs; (try clear a w); intro a w hs
 refine sy hs (y_buildS (places := [(0, 1), (1, 1), (2, 1)]) (cs := [.int .i64 (p0), .string (p1), a2]) rfl Tryd.underlying35 ti35 (by kernel_rfl) (by decide) rfl ⟨rfl, rfl, hR2.one, trivial⟩) ?_; clear hs; (try clear a w); intro a w hs
 refine RL_storeAll (i := 0) hs rfl rfl rfl ti35 ⟨rfl, rfl⟩ (AllC.arr (r := [.int .i64 (p0), .string (p1), a2]) ⟨rfl, rfl, hR2.one, trivial⟩) (.free rfl) ?_; clear hs; (try clear a w); intro a w hs
 replace hs : St _ _ _ (.blk b5 (.cells #[.int .i64 (p0), .string (p1), a2] 35 (0, 0)) :: L) _ _ _ := hs
 refine RL_nil ?_
 refine hK2 _ _ ?_; clear hK2
 refine W_ret ?_
 obtain rfl := Option.some.inj hm
 refine RtV1 hs rfl (rv_a hs rfl Tryd.underlying35 rfl ti35 (fun j u hj => Cell.blk (.head _) hj) rfl) ?_
 exact ⟨_, f, [], rfl, hle, (hs.subL (.cons _ (.refl _))).cw, [.int .i64 (p0), .string (p1), a2], rfl, rfl, ⟨_, rfl, ⟨rw1, hR2, hW3⟩⟩⟩
/-! casement/casementlaw10.sel -/
def law10_sel (_n : Nat) (p0 : (List sheet_Step)) : Option sheet_Selector :=
  some ({Steps := p0} : sheet_Selector)
set_option maxRecDepth 20000 in
set_option maxHeartbeats 4000000 in
theorem law10_sel_ok (n : Nat) {f : Fz} {p0 : (List sheet_Step)} {a0 : Value} {res : sheet_Selector} (h0 : RS t_sheet_Step f a0 p0) (hm : law10_sel n p0 = some res) : Does Tryd.prog 14 [a0] f [] (fun r f' L' => ∃ (u0 : List Value), L' = [] ∧ r = .agg u0.toArray ∧ t_sheet_Selector.R f' u0 res) := by
 unfold law10_sel at hm
 intro w0 L w hC
 obtain ⟨rw1, hR2, hW3⟩ := h0
 refine enter Tryd.func14 rfl Tryd.ntmps14 (by simp) hC fun a hs => ?_
 have hle := Fz.le.refl f
 refine W_seq fun K1 hK1 => ?_
 refine W_region ?_
 refine RL_alloc hs ti27 (.free rfl) (by decide) ?_; clear hs; (try clear a w); intro b5 a w hs
 replace hs : St _ _ _ (.blk b5 (.cells #[(.slice none 0 0)] 27 (0, 0)) :: L) _ _ _ := hs
 refine RL_nil ?_
 refine hK1 _ _ ?_; clear hK1
 refine W_seq fun K2 hK2 => ?_
 refine W_region ?_
 refine sy (v := a0) hs (y_move rfl) ?_; clear hs; (try clear a w); intro a w hs
 refine sy hs (y_buildS (places := [(0, 1)]) (cs := [a0]) rfl Tryd.underlying27 ti27 (by kernel_rfl) (by decide) rfl ⟨hR2.one, trivial⟩) ?_; clear hs; (try clear a w); intro a w hs
 refine RL_storeAll (i := 0) hs rfl rfl rfl ti27 ⟨rfl, rfl⟩ (AllC.arr (r := [a0]) ⟨hR2.one, trivial⟩) (.free rfl) ?_; clear hs; (try clear a w); intro a w hs
 replace hs : St _ _ _ (.blk b5 (.cells #[a0] 27 (0, 0)) :: L) _ _ _ := hs
 refine RL_nil ?_
 refine hK2 _ _ ?_; clear hK2
 refine W_ret ?_
 obtain rfl := Option.some.inj hm
 refine RtV1 hs rfl (rv_a hs rfl Tryd.underlying27 rfl ti27 (fun j u hj => Cell.blk (.head _) hj) rfl) ?_
 exact ⟨_, f, [], rfl, hle, (hs.subL (.cons _ (.refl _))).cw, [a0], rfl, rfl, ⟨_, rfl, ⟨rw1, hR2, hW3⟩⟩⟩
end Go.Proofs.YtmkcglpeidbblaaDoor
