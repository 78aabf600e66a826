/-
  Walks and laws of this seat; the base is the text Base.
-/
import Derived.Test.YtmkcglpeidbblaaDoorL10n
import Derived.Test.YtmkcglpeidbblaaDoorRows
/-
  Models of functions, and that the functions compute them. Printed by lift.py.
-/
namespace Go.Proofs.YtmkcglpeidbblaaDoor
open Go.RowKit Go.Sl
/-! casement/match.Weigh -/
/-! casement/match.Less -/
/-! casement/match.Best -/
/-! casement/match.All -/
def match_All (_n : Nat) (p0 : api_Tree) (p1 : sheet_Selector) : Option (api_Tree × sheet_Selector) :=
  some (p0, p1)
set_option maxRecDepth 20000 in
set_option maxHeartbeats 4000000 in
theorem match_All_ok (n : Nat) {f : Fz} {p0 : api_Tree} {a0 : List Value} {p1 : sheet_Selector} {a1 : List Value} {res : (api_Tree × sheet_Selector)} (h0 : t_api_Tree.R f a0 p0) (h1 : t_sheet_Selector.R f a1 p1) (hm : match_All n p0 p1 = some res) : Does Tryd.prog 16 [.agg a0.toArray, .agg a1.toArray] f [] (fun r f' L' => ∃ (gb0_0 : Nat) (gr0_0 : List Value) (gb0_1 : Nat) (gr0_1 : List Value), L' = [] ∧ r = .func (.func 34) #[] #[.pointer (some ⟨gb0_0, 0, none⟩), .pointer (some ⟨gb0_1, 0, none⟩)] ∧ t_api_Tree.R f' gr0_0 res.1 ∧ f' gb0_0 = some (.cells gr0_0.toArray 24 (0, 0)) ∧ t_sheet_Selector.R f' gr0_1 res.2 ∧ f' gb0_1 = some (.cells gr0_1.toArray 27 (0, 0))) := by
 unfold match_All at hm
 intro w0 L w hC
 obtain ⟨v1, rfl, ⟨rw2, hR3, hW4⟩⟩ := h0
 obtain ⟨v6, rfl, ⟨rw7, hR8, hW9⟩⟩ := h1
 refine enter Tryd.func16 rfl Tryd.ntmps16 (by simp) hC fun a hs => ?_
 have hle := Fz.le.refl f
 refine W_seq fun K1 hK1 => ?_
 refine W_region ?_
 refine sbox hs rfl ?_; clear hs; (try clear a w); intro b11 a w hs
 replace hs : St _ _ _ (.blk b11 (.cells #[v1] 24 (0, 0)) :: L) _ _ _ := hs
 refine sbox hs rfl ?_; clear hs; (try clear a w); intro b13 a w hs
 replace hs : St _ _ _ (.blk b13 (.cells #[v6] 27 (0, 0)) :: .blk b11 (.cells #[v1] 24 (0, 0)) :: L) _ _ _ := hs
 refine sy (v := .nilFunc) hs (y_assign rfl) ?_; clear hs; (try clear a w); intro a w hs
 refine RL_nil ?_
 refine hK1 _ _ ?_; clear hK1
 refine W_seq fun K2 hK2 => ?_
 refine W_region ?_
 obtain ⟨f15, hf16, hs2, hB17⟩ := hs.frzB 1 rfl
 clear hs; have hs := hs2; clear hs2
 replace hR3 := hR3.le hf16
 replace hW4 := hW4.le hf16
 replace hR8 := hR8.le hf16
 replace hW9 := hW9.le hf16
 replace hle := hle.trans hf16
 replace hs : St _ _ _ (.blk b13 (.cells #[v6] 27 (0, 0)) :: L) _ _ _ := hs
 obtain ⟨f18, hf19, hs2, hB20⟩ := hs.frzB 0 rfl
 clear hs; have hs := hs2; clear hs2
 replace hR3 := hR3.le hf19
 replace hW4 := hW4.le hf19
 replace hR8 := hR8.le hf19
 replace hW9 := hW9.le hf19
 replace hB17 := hf19 _ _ hB17
 replace hle := hle.trans hf19
 replace hs : St _ _ _ (L) _ _ _ := hs
 refine sy hs (y_makeFunc rfl) ?_; clear hs; (try clear a w); intro a w hs
 refine sy (v := .func (.func 34) #[] #[.pointer (some ⟨b11, 0, none⟩), .pointer (some ⟨b13, 0, none⟩)]) hs (y_assign rfl) ?_; clear hs; (try clear a w); intro a w hs
 refine RL_nil ?_
 refine hK2 _ _ ?_; clear hK2
 refine W_ret ?_
 obtain rfl := Option.some.inj hm
 refine RtV1 hs rfl (rv_t hs rfl) ?_
 exact ⟨_, f18, [], rfl, hle, hs.cw, b11, [v1], b13, [v6], rfl, rfl, ⟨_, rfl, ⟨rw2, hR3, hW4⟩⟩, hB17, ⟨_, rfl, ⟨rw7, hR8, hW9⟩⟩, hB20⟩
end Go.Proofs.YtmkcglpeidbblaaDoor
