/-
  Walks and laws of this seat; the base is the text Base.
-/
import Derived.Test.YtklcdfnhdljkjaaDoorS7b
import Derived.Test.YtklcdfnhdljkjaaDoorBasg
namespace Go.Proofs.YtklcdfnhdljkjaaDoor
open Go.RowKit Go.Sl
section
variable {f : Fz} {L : List Ent} {w0 w : World} {b nb : Nat} {gp : Value} {val : ByteArray} {pr : Int}
/-- A node of the trie. -/
abbrev node (v : ByteArray) (p : Int) (pre : ByteArray) (nx tb : Value) : Array Value := #[.string v, .int .i64 p, .string pre, nx, tb]
set_option maxRecDepth 20000 in
set_option maxHeartbeats 4000000 in
theorem add_nil {v0 pre : ByteArray} {nx tb : Value} : Does Tryd.prog 59 [.pointer (some ⟨nb, 0, none⟩), .string (bs []), .string val, .int .i64 pr, gp] f [.blk nb (.cells (node v0 0 pre nx tb) 125 (0, 0))] (fun _ f' L' => f' = f ∧ L' = [.blk nb (.cells (node val pr pre nx tb) 125 (0, 0))]) := by
  intro w0 L w hC
  replace hC : Cw w0 f (.blk nb (.cells (node v0 0 pre nx tb) 125 (0, 0)) :: L) w := hC
  refine enter Tryd.func59 rfl Tryd.ntmps59 (by simp) hC fun a hs => ?_
  refine W_seq fun K1 hK1 => ?_
  refine W_seq fun K2 hK2 => ?_
  refine W_region ?_
  refine sy hs (y_move rfl) ?_; clear hs; intro a w hs
  refine sy hs (y_seql rfl rfl) ?_; clear hs; intro a w hs
  refine RL_nil ?_
  rw [decide_eq_true (show bs [] = ⟨#[]⟩ from rfl)] at hs
  refine hK2 _ _ ?_; clear hK2
  refine W_condT hs rfl ?_
  refine W_seq fun K3 hK3 => ?_
  refine W_seq fun K4 hK4 => ?_
  refine W_region ?_
  refine sy hs (y_move rfl) ?_; clear hs; intro a w hs
  refine sy hs (y_nilCheck rfl) ?_; clear hs; intro a w hs
  refine sy (v := .pointer (some ⟨nb, 1, none⟩)) hs (y_fieldAddr rfl (FO.of (off := 1) Tryd.underlying125 rfl rfl ti3 (by decide))) ?_; clear hs; intro a w hs
  refine sy (v := .int .i64 0) hs (y_ld rfl Tryd.underlying3 rfl (Cell.blk (.head _) rfl)) ?_; clear hs; intro a w hs
  refine sy hs (y_eql rfl rfl) ?_; clear hs; intro a w hs
  refine RL_nil ?_
  refine hK4 _ _ ?_; clear hK4
  refine W_condT hs rfl ?_
  refine W_seq fun K5 hK5 => ?_
  refine W_region ?_
  refine sy hs (y_move rfl) ?_; clear hs; intro a w hs
  refine sy hs (y_move rfl) ?_; clear hs; intro a w hs
  refine sy hs (y_nilCheck rfl) ?_; clear hs; intro a w hs
  refine sy (v := .pointer (some ⟨nb, 0, none⟩)) hs (y_fieldAddr rfl (FO.of (off := 0) Tryd.underlying125 rfl rfl ti9 (by decide))) ?_; clear hs; intro a w hs
  refine RL_storeBlk (i := 0) (o := 0) (u := .string val) hs rfl rfl rfl ti9 rfl (by simp) rfl (.free rfl) ?_; clear hs; intro a w hs
  replace hs : St _ _ _ (.blk nb (.cells (node val 0 pre nx tb) 125 (0, 0)) :: L) _ _ _ := hs
  refine RL_nil ?_
  refine hK5 _ _ ?_; clear hK5
  refine W_region ?_
  refine sy hs (y_move rfl) ?_; clear hs; intro a w hs
  refine sy hs (y_move rfl) ?_; clear hs; intro a w hs
  refine sy hs (y_nilCheck rfl) ?_; clear hs; intro a w hs
  refine sy (v := .pointer (some ⟨nb, 1, none⟩)) hs (y_fieldAddr rfl (FO.of (off := 1) Tryd.underlying125 rfl rfl ti3 (by decide))) ?_; clear hs; intro a w hs
  refine RL_storeBlk (i := 0) (o := 1) (u := .int .i64 pr) hs rfl rfl rfl ti3 rfl (by simp) rfl (.free rfl) ?_; clear hs; intro a w hs
  replace hs : St _ _ _ (.blk nb (.cells (node val pr pre nx tb) 125 (0, 0)) :: L) _ _ _ := hs
  refine RL_nil ?_
  refine hK3 _ _ ?_; clear hK3
  refine W_ret ?_
  refine RtV0 hs rfl ?_
  exact ⟨_, f, [_], rfl, .refl _, hs.cw, rfl, rfl⟩
set_option maxRecDepth 20000 in
set_option maxHeartbeats 4000000 in
/-- A text of some bytes comes to a fresh node. -/
theorem add_one {key : ByteArray} (hk : key ≠ bs []) : Does Tryd.prog 59 [.pointer (some ⟨nb, 0, none⟩), .string key, .string val, .int .i64 pr, gp] f [.blk nb (.cells (node (bs []) 0 (bs []) (.pointer none) (.slice none 0 0)) 125 (0, 0))]
    (fun _ f' L' => f' = f ∧ ∃ n2, L' = [.blk n2 (.cells (node val pr (bs []) (.pointer none) (.slice none 0 0)) 125 (0, 0)), .blk nb (.cells (node (bs []) 0 key (.pointer (some ⟨n2, 0, none⟩)) (.slice none 0 0)) 125 (0, 0))]) := by
  intro w0 L w hC
  replace hC : Cw w0 f (.blk nb (.cells (node (bs []) 0 (bs []) (.pointer none) (.slice none 0 0)) 125 (0, 0)) :: L) w := hC
  refine enter Tryd.func59 rfl Tryd.ntmps59 (by simp) hC fun a hs => ?_
  refine W_seq fun K1 hK1 => ?_
  refine W_seq fun K2 hK2 => ?_
  refine W_region ?_
  refine sy hs (y_move rfl) ?_; clear hs; intro a w hs
  refine sy hs (y_seql rfl rfl) ?_; clear hs; intro a w hs
  refine RL_nil ?_
  rw [decide_eq_false (show ¬ key = ⟨#[]⟩ from hk)] at hs
  refine hK2 _ _ ?_; clear hK2
  refine W_condF hs rfl ?_
  refine W_skip ?_
  refine hK1 _ _ ?_; clear hK1
  refine W_seq fun K3 hK3 => ?_
  refine W_region ?_
  refine sy hs (y_move rfl) ?_; clear hs; intro a w hs
  refine sy hs (y_nilCheck rfl) ?_; clear hs; intro a w hs
  refine sy (v := .pointer (some ⟨nb, 2, none⟩)) hs (y_fieldAddr rfl (FO.of (off := 2) Tryd.underlying125 rfl rfl ti9 (by decide))) ?_; clear hs; intro a w hs
  refine sy (v := .string (bs [])) hs (y_ld rfl Tryd.underlying9 rfl (Cell.blk (.head _) rfl)) ?_; clear hs; intro a w hs
  refine sy hs (y_sneq rfl rfl) ?_; clear hs; intro a w hs
  refine RL_nil ?_
  rw [decide_eq_false (show ¬ bs [] ≠ ⟨#[]⟩ from fun h => h rfl)] at hs
  refine hK3 _ _ ?_; clear hK3
  refine W_condF hs rfl ?_
  refine W_seq fun K4 hK4 => ?_
  refine W_region ?_
  refine sy hs (y_move rfl) ?_; clear hs; intro a w hs
  refine sy hs (y_nilCheck rfl) ?_; clear hs; intro a w hs
  refine sy (v := .pointer (some ⟨nb, 4, none⟩)) hs (y_fieldAddr rfl (FO.of (off := 4) Tryd.underlying125 rfl rfl ti123 (by decide))) ?_; clear hs; intro a w hs
  refine sy (v := .slice none 0 0) hs (y_ld rfl Tryd.underlying123 rfl (Cell.blk (.head _) rfl)) ?_; clear hs; intro a w hs
  refine sy hs (y_slNeq rfl Tryd.underlying123) ?_; clear hs; intro a w hs
  refine RL_nil ?_
  refine hK4 _ _ ?_; clear hK4
  refine W_condF hs rfl ?_
  refine W_seq fun K5 hK5 => ?_
  refine W_region ?_
  refine sy hs (y_move rfl) ?_; clear hs; intro a w hs
  refine sy hs (y_move rfl) ?_; clear hs; intro a w hs
  refine sy hs (y_nilCheck rfl) ?_; clear hs; intro a w hs
  refine sy (v := .pointer (some ⟨nb, 2, none⟩)) hs (y_fieldAddr rfl (FO.of (off := 2) Tryd.underlying125 rfl rfl ti9 (by decide))) ?_; clear hs; intro a w hs
  refine RL_storeBlk (i := 0) (o := 2) (u := .string key) hs rfl rfl rfl ti9 rfl (by simp) rfl (.free rfl) ?_; clear hs; intro a w hs
  replace hs : St _ _ _ (.blk nb (.cells (node (bs []) 0 key (.pointer none) (.slice none 0 0)) 125 (0, 0)) :: L) _ _ _ := hs
  refine RL_nil ?_
  refine hK5 _ _ ?_; clear hK5
  refine W_seq fun K6 hK6 => ?_
  refine W_region ?_
  refine sy hs (y_move rfl) ?_; clear hs; intro a w hs
  refine RL_alloc hs ti125 (.free rfl) (by decide) ?_; clear hs; intro n2 a w hs
  replace hs : St _ _ _ (.blk n2 (.cells (node (bs []) 0 (bs []) (.pointer none) (.slice none 0 0)) 125 (0, 0)) :: .blk nb (.cells (node (bs []) 0 key (.pointer none) (.slice none 0 0)) 125 (0, 0)) :: L) _ _ _ := hs
  refine sy hs (y_nilCheck rfl) ?_; clear hs; intro a w hs
  refine sy (v := .pointer (some ⟨nb, 3, none⟩)) hs (y_fieldAddr rfl (FO.of (off := 3) Tryd.underlying125 rfl rfl ti122 (by decide))) ?_; clear hs; intro a w hs
  refine RL_storeBlk (i := 1) (o := 3) (u := .pointer (some ⟨n2, 0, none⟩)) hs rfl rfl rfl ti122 rfl (by simp) rfl (.free rfl) ?_; clear hs; intro a w hs
  replace hs : St _ _ _ (.blk n2 (.cells (node (bs []) 0 (bs []) (.pointer none) (.slice none 0 0)) 125 (0, 0)) :: .blk nb (.cells (node (bs []) 0 key (.pointer (some ⟨n2, 0, none⟩)) (.slice none 0 0)) 125 (0, 0)) :: L) _ _ _ := hs
  refine RL_nil ?_
  refine hK6 _ _ ?_; clear hK6
  refine W_region ?_
  refine sy hs (y_move rfl) ?_; clear hs; intro a w hs
  refine sy hs (y_nilCheck rfl) ?_; clear hs; intro a w hs
  refine sy (v := .pointer (some ⟨nb, 3, none⟩)) hs (y_fieldAddr rfl (FO.of (off := 3) Tryd.underlying125 rfl rfl ti122 (by decide))) ?_; clear hs; intro a w hs
  refine sy (v := .pointer (some ⟨n2, 0, none⟩)) hs (y_ld rfl Tryd.underlying122 rfl (Cell.blk (.tail _ (.head _)) rfl)) ?_; clear hs; intro a w hs
  refine sy hs (y_move rfl) ?_; clear hs; intro a w hs
  refine sy hs (y_move rfl) ?_; clear hs; intro a w hs
  refine sy hs (y_move rfl) ?_; clear hs; intro a w hs
  refine RL_call (Lr := [.blk n2 (.cells (node (bs []) 0 (bs []) (.pointer none) (.slice none 0 0)) 125 (0, 0))]) (Lf := .blk nb (.cells (node (bs []) 0 key (.pointer (some ⟨n2, 0, none⟩)) (.slice none 0 0)) 125 (0, 0)) :: L) hs rfl has59 rfl rfl (add_nil (nb := n2) (val := val) (pr := pr) (gp := gp)) (.free rfl) (by decide) ?_; clear hs
  rintro _ _ _ a w _ ⟨rfl, rfl⟩ hs
  refine RL_nil ?_
  refine RtV0 hs rfl ?_
  exact ⟨_, _, [_, _], rfl, .refl _, hs.cw, rfl, n2, rfl⟩
end
end Go.Proofs.YtklcdfnhdljkjaaDoor
