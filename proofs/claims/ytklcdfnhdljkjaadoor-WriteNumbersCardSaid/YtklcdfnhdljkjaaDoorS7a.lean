/-
  Walks and laws of this seat; the base is the text Base.
-/
import Derived.Test.YtklcdfnhdljkjaaDoorBasg
import Derived.Test.YtklcdfnhdljkjaaDoorT7
import Derived.Test.YtklcdfnhdljkjaaDoorRows
namespace Go.Proofs.YtklcdfnhdljkjaaDoor
open Go.RowKit Go.Sl
/-! sync.Once, of one goroutine -/
theorem xLoad : ExtF Tryd.prog 44 (Extern.Atomic.loadT (.int .u32)) := ⟨_, Tryd.func44, by kernel_rfl, by kernel_rfl, by kernel_rfl, by kernel_rfl⟩
theorem xStore : ExtF Tryd.prog 56 Extern.Atomic.storeT := ⟨_, Tryd.func56, by kernel_rfl, by kernel_rfl, by kernel_rfl, by kernel_rfl⟩
theorem xCas : ExtF Tryd.prog 63 (Extern.Atomic.casT (.int .i32)) := ⟨_, Tryd.func63, by kernel_rfl, by kernel_rfl, by kernel_rfl, by kernel_rfl⟩
theorem xAdd : ExtF Tryd.prog 68 (Extern.Atomic.update (Op.intArith .add) .i32 true) := ⟨_, Tryd.func68, by kernel_rfl, by kernel_rfl, by kernel_rfl, by kernel_rfl⟩
theorem xDis : ExtF Tryd.prog 62 (fun _ => do mark .disable; pure Extern.Race.none_) := ⟨_, Tryd.func62, by kernel_rfl, by kernel_rfl, by kernel_rfl, by kernel_rfl⟩
theorem xEn : ExtF Tryd.prog 64 (fun _ => do mark .enable; pure Extern.Race.none_) := ⟨_, Tryd.func64, by kernel_rfl, by kernel_rfl, by kernel_rfl, by kernel_rfl⟩
theorem xAcq : ExtF Tryd.prog 65 (Extern.Race.marked .acquire) := ⟨_, Tryd.func65, by kernel_rfl, by kernel_rfl, by kernel_rfl, by kernel_rfl⟩
theorem xRel : ExtF Tryd.prog 67 (Extern.Race.marked .releaseMerge) := ⟨_, Tryd.func67, by kernel_rfl, by kernel_rfl, by kernel_rfl, by kernel_rfl⟩
section
variable {f : Fz} {L : List Ent} {w0 w : World} {b o : Nat} {cs : Array Value} {e : TypeId} {i : Int}
set_option maxRecDepth 20000 in
set_option maxHeartbeats 4000000 in
theorem BLoad_ok (hc : Cell f L b o (.int .u32 i)) (hC : Cw w0 f L w) : Calls Tryd.prog 40 [.pointer (some ⟨b, o, none⟩)].toArray w fun e w' => e = .returned (.bool (decide (i ≠ 0))) ∧ Cw w0 f L w' := by
  refine enter Tryd.func40 rfl Tryd.ntmps40 (by simp) hC fun a hs => ?_
  refine W_seq fun K1 hK1 => ?_
  refine W_region ?_
  refine sy (v := .bool false) hs (y_assign rfl) ?_; clear hs; intro a w hs
  refine RL_nil ?_
  refine hK1 _ _ ?_; clear hK1
  refine W_seq fun K2 hK2 => ?_
  refine W_region ?_
  refine sy hs (y_move rfl) ?_; clear hs; intro a w hs
  refine sy hs (y_nilCheck rfl) ?_; clear hs; intro a w hs
  refine sy (v := .pointer (some ⟨b, o, none⟩)) hs (y_fieldAddr rfl (FO.of (off := 0) Tryd.underlying73 rfl rfl ti71 (by decide))) ?_; clear hs; intro a w hs
  refine sy hs (y_atLoad xLoad rfl rfl hc) ?_; clear hs; intro a w hs
  refine sy hs (y_neq rfl rfl) ?_; clear hs; intro a w hs
  refine sy (v := .bool (decide (i ≠ 0))) hs (y_assign rfl) ?_; clear hs; intro a w hs
  refine RL_nil ?_
  refine hK2 _ _ ?_; clear hK2
  refine W_ret ?_
  refine RtV1 hs rfl (rv_t hs rfl) ?_
  exact ⟨rfl, hs.cw⟩
set_option maxRecDepth 20000 in
set_option maxHeartbeats 4000000 in
theorem ilock_ok (h : cs[o]? = some (.int .i32 0)) : Does Tryd.prog 54 [.pointer (some ⟨b, o, none⟩)] f [.blk b (.cells cs e (0, 0))] (fun _ f' L' => f' = f ∧ L' = [.blk b (.cells (cs.setIfInBounds o (.int .i32 1)) e (0, 0))]) := by
  intro w0 L w hC
  obtain ⟨ho, hv⟩ := Array.getElem?_eq_some_iff.1 h
  replace hC : Cw w0 f (.blk b (.cells cs e (0, 0)) :: L) w := hC
  refine enter Tryd.func54 rfl Tryd.ntmps54 (by simp) hC fun a hs => ?_
  refine W_seq fun K1 hK1 => ?_
  refine W_region ?_
  refine sy hs (y_mark0 xDis rfl) ?_; clear hs; intro a w hs
  refine RL_nil ?_
  refine hK1 _ _ ?_; clear hK1
  refine W_seq fun K3 hK3 => ?_
  refine W_seq fun K2 hK2 => ?_
  refine W_region ?_
  refine sy hs (y_move rfl) ?_; clear hs; intro a w hs
  refine sy hs (y_nilCheck rfl) ?_; clear hs; intro a w hs
  refine sy (v := .pointer (some ⟨b, o, none⟩)) hs (y_fieldAddr rfl (FO.of (off := 0) Tryd.underlying75 rfl rfl ti21 (by decide))) ?_; clear hs; intro a w hs
  refine RL_extSet (i := 0) (b := b) (o := o) (u := .bool true) (new := .int .i32 1) (vs := [.pointer (some ⟨b, o, none⟩), .int .i32 0, .int .i32 1]) hs rfl rfl rfl ho (fun w h1 h2 => ?_) rfl (.free rfl) (by decide) ?_
  · obtain ⟨fn, q1, q2, q3, q4, q5⟩ := xCas.ex
    rw [hv] at h1
    exact run_call_cas_hit q1 q2 q3 q4 .i32 q5 h1 h2
  clear hs; intro a w hs
  refine RL_nil ?_
  replace hs : St _ _ _ (.blk b (.cells (cs.setIfInBounds o (.int .i32 1)) e (0, 0)) :: L) _ _ _ := hs
  have hcell : Cell f (.blk b (.cells (cs.setIfInBounds o (.int .i32 1)) e (0, 0)) :: L) b o (.int .i32 1) := Cell.blk (.head _) (by simp [ho])
  refine hK2 _ _ ?_; clear hK2
  refine W_condT hs rfl ?_
  refine W_seq fun K4 hK4 => ?_
  refine W_condT hs rfl ?_
  refine W_seq fun K5 hK5 => ?_
  refine W_region ?_
  refine sy hs (y_mark0 xEn rfl) ?_; clear hs; intro a w hs
  refine RL_nil ?_
  refine hK5 _ _ ?_; clear hK5
  refine W_region ?_
  refine sy hs (y_move rfl) ?_; clear hs; intro a w hs
  refine sy hs (y_toUnsafeO rfl Tryd.underlying131 Tryd.underlying93 ti75 (by decide) hcell) ?_; clear hs; intro a w hs
  refine sy hs (y_marked xAcq rfl rfl) ?_; clear hs; intro a w hs
  refine RL_nil ?_
  refine hK4 _ _ ?_; clear hK4
  refine W_ret ?_
  refine RtV0 hs rfl ?_
  exact ⟨_, f, [_], rfl, .refl _, hs.cw, rfl, rfl⟩
set_option maxRecDepth 20000 in
set_option maxHeartbeats 4000000 in
theorem lock_ok (h : cs[o]? = some (.int .i32 0)) : Does Tryd.prog 45 [.pointer (some ⟨b, o, none⟩)] f [.blk b (.cells cs e (0, 0))] (fun _ f' L' => f' = f ∧ L' = [.blk b (.cells (cs.setIfInBounds o (.int .i32 1)) e (0, 0))]) := by
  intro w0 L w hC
  replace hC : Cw w0 f (.blk b (.cells cs e (0, 0)) :: L) w := hC
  refine enter Tryd.func45 rfl Tryd.ntmps45 (by simp) hC fun a hs => ?_
  refine W_region ?_
  refine sy hs (y_move rfl) ?_; clear hs; intro a w hs
  refine sy hs (y_nilCheck rfl) ?_; clear hs; intro a w hs
  refine sy (v := .pointer (some ⟨b, o, none⟩)) hs (y_fieldAddr rfl (FO.of (off := 0) Tryd.underlying77 rfl rfl ti75 (by decide))) ?_; clear hs; intro a w hs
  refine RL_call (Lr := [.blk b (.cells cs e (0, 0))]) (Lf := L) hs rfl has54 rfl rfl (ilock_ok h) (.free rfl) (by decide) ?_; clear hs
  rintro _ _ _ a w _ ⟨rfl, rfl⟩ hs
  refine RL_nil ?_
  refine RtV0 hs rfl ?_
  exact ⟨_, _, [_], rfl, .refl _, hs.cw, rfl, rfl⟩
set_option maxRecDepth 20000 in
set_option maxHeartbeats 4000000 in
theorem iunlock_ok (h : cs[o]? = some (.int .i32 1)) : Does Tryd.prog 55 [.pointer (some ⟨b, o, none⟩)] f [.blk b (.cells cs e (0, 0))] (fun _ f' L' => f' = f ∧ L' = [.blk b (.cells (cs.setIfInBounds o (.int .i32 0)) e (0, 0))]) := by
  intro w0 L w hC
  obtain ⟨ho, hv⟩ := Array.getElem?_eq_some_iff.1 h
  replace hC : Cw w0 f (.blk b (.cells cs e (0, 0)) :: L) w := hC
  have hcell : Cell f (.blk b (.cells cs e (0, 0)) :: L) b o (.int .i32 1) := Cell.blk (.head _) h
  refine enter Tryd.func55 rfl Tryd.ntmps55 (by simp) hC fun a hs => ?_
  refine W_seq fun K1 hK1 => ?_
  refine W_condT hs rfl ?_
  refine W_seq fun K2 hK2 => ?_
  refine W_region ?_
  refine sy hs (y_move rfl) ?_; clear hs; intro a w hs
  refine sy hs (y_nilCheck rfl) ?_; clear hs; intro a w hs
  refine sy (v := .pointer (some ⟨b, o, none⟩)) hs (y_fieldAddr rfl (FO.of (off := 0) Tryd.underlying75 rfl rfl ti21 (by decide))) ?_; clear hs; intro a w hs
  refine sy hs (y_load rfl hcell Tryd.underlying21 rfl) ?_; clear hs; intro a w hs
  refine RL_nil ?_
  refine hK2 _ _ ?_; clear hK2
  refine W_seq fun K3 hK3 => ?_
  refine W_region ?_
  refine sy hs (y_move rfl) ?_; clear hs; intro a w hs
  refine sy hs (y_toUnsafeO rfl Tryd.underlying131 Tryd.underlying93 ti75 (by decide) hcell) ?_; clear hs; intro a w hs
  refine sy hs (y_marked xRel rfl rfl) ?_; clear hs; intro a w hs
  refine RL_nil ?_
  refine hK3 _ _ ?_; clear hK3
  refine W_region ?_
  refine sy hs (y_mark0 xDis rfl) ?_; clear hs; intro a w hs
  refine RL_nil ?_
  refine hK1 _ _ ?_; clear hK1
  refine W_seq fun K4 hK4 => ?_
  refine W_region ?_
  refine sy hs (y_move rfl) ?_; clear hs; intro a w hs
  refine sy hs (y_nilCheck rfl) ?_; clear hs; intro a w hs
  refine sy (v := .pointer (some ⟨b, o, none⟩)) hs (y_fieldAddr rfl (FO.of (off := 0) Tryd.underlying75 rfl rfl ti21 (by decide))) ?_; clear hs; intro a w hs
  refine RL_extSet (i := 0) (b := b) (o := o) (u := .int .i32 0) (new := .int .i32 0) (vs := [.pointer (some ⟨b, o, none⟩), .int .i32 (-1)]) hs rfl rfl rfl ho (fun w h1 h2 => ?_) rfl (.free rfl) (by decide) ?_
  · obtain ⟨fn, q1, q2, q3, q4, q5⟩ := xAdd.ex
    rw [hv] at h1
    exact run_call_add q1 q2 q3 q4 .i32 q5 (y := -1) (s := 0) h1 h2 (by simp [go_sem]; rfl)
  clear hs; intro a w hs
  refine sy (v := .int .i32 0) hs (y_assign rfl) ?_; clear hs; intro a w hs
  refine RL_nil ?_
  refine hK4 _ _ ?_; clear hK4
  refine W_seq fun K5 hK5 => ?_
  refine W_seq fun K6 hK6 => ?_
  refine W_region ?_
  refine sy (v := .int .i32 0) hs (y_move rfl) ?_; clear hs; intro a w hs
  refine sy hs (y_neq rfl rfl) ?_; clear hs; intro a w hs
  refine RL_nil ?_
  refine hK6 _ _ ?_; clear hK6
  refine W_condF hs rfl ?_
  refine W_skip ?_
  refine hK5 _ _ ?_; clear hK5
  refine W_region ?_
  refine sy hs (y_mark0 xEn rfl) ?_; clear hs; intro a w hs
  refine RL_nil ?_
  refine RtV0 hs rfl ?_
  exact ⟨_, f, [_], rfl, .refl _, hs.cw, rfl, rfl⟩
set_option maxRecDepth 20000 in
set_option maxHeartbeats 4000000 in
theorem unlock_d {u : FrameMode} (h : cs[o]? = some (.int .i32 1)) (hC : Cw w0 f (.blk b (.cells cs e (0, 0)) :: L) w) : CallsD Tryd.prog 46 [.pointer (some ⟨b, o, none⟩)].toArray u w fun e' u' w' => u' = u ∧ (e' = .returned (.tuple #[]) ∧ Cw w0 f (.blk b (.cells (cs.setIfInBounds o (.int .i32 0)) e (0, 0)) :: L) w') := by
  refine enterCD Tryd.func46 rfl Tryd.ntmps46 (by simp) hC fun a hs => ?_
  refine W_region ?_
  refine sy hs (y_move rfl) ?_; clear hs; intro a w hs
  refine sy hs (y_nilCheck rfl) ?_; clear hs; intro a w hs
  refine sy (v := .pointer (some ⟨b, o, none⟩)) hs (y_fieldAddr rfl (FO.of (off := 0) Tryd.underlying77 rfl rfl ti75 (by decide))) ?_; clear hs; intro a w hs
  refine RL_call (Lr := [.blk b (.cells cs e (0, 0))]) (Lf := L) hs rfl has55 rfl rfl (iunlock_ok h) (.free rfl) (by decide) ?_; clear hs
  rintro _ _ _ a w _ ⟨rfl, rfl⟩ hs
  refine RL_nil ?_
  refine RtV0 hs rfl ?_
  exact ⟨rfl, hs.cw⟩
theorem b32_ok : Gives Tryd.prog 57 [.bool true] f (.int .u32 1) := by
  intro w0 L w hC
  refine enter Tryd.func57 rfl Tryd.ntmps57 (by simp) hC fun a hs => ?_
  refine W_seq fun K1 hK1 => ?_
  refine W_region ?_
  refine sy (v := .int .u32 0) hs (y_assign rfl) ?_; clear hs; intro a w hs
  refine RL_nil ?_
  refine hK1 _ _ ?_; clear hK1
  refine W_seq fun K2 hK2 => ?_
  refine W_seq fun K3 hK3 => ?_
  refine W_region ?_
  refine sy (v := .bool true) hs (y_move rfl) ?_; clear hs; intro a w hs
  refine RL_nil ?_
  refine hK3 _ _ ?_; clear hK3
  refine W_condT hs rfl ?_
  refine W_seq fun K4 hK4 => ?_
  refine W_region ?_
  refine sy (v := .int .u32 1) hs (y_assign rfl) ?_; clear hs; intro a w hs
  refine RL_nil ?_
  refine hK4 _ _ ?_; clear hK4
  refine W_ret ?_
  refine RtV1 hs rfl (rv_t hs rfl) ?_
  exact ⟨rfl, hs.cw⟩
set_option maxRecDepth 20000 in
set_option maxHeartbeats 4000000 in
theorem bstore_d {u : FrameMode} {x : Value} (h : cs[o]? = some x) (hC : Cw w0 f (.blk b (.cells cs e (0, 0)) :: L) w) : CallsD Tryd.prog 47 [.pointer (some ⟨b, o, none⟩), .bool true].toArray u w fun e' u' w' => u' = u ∧ (e' = .returned (.tuple #[]) ∧ Cw w0 f (.blk b (.cells (cs.setIfInBounds o (.int .u32 1)) e (0, 0)) :: L) w') := by
  obtain ⟨ho, hv⟩ := Array.getElem?_eq_some_iff.1 h
  refine enterCD Tryd.func47 rfl Tryd.ntmps47 (by simp) hC fun a hs => ?_
  refine D_start hs ([]) [5] [(0, true), (1, true), (2, true), (3, true), (4, true), (5, false)] mixed (by kernel_rfl) ?_; clear hs; intro a he
  refine dy 0 he rfl (y_move rfl) ?_; clear he; intro a he
  refine dy 1 he rfl (y_nilCheck rfl) ?_; clear he; intro a he
  refine dy 2 he rfl (y_fieldAddr rfl (FO.of (off := 0) Tryd.underlying73 rfl rfl ti71 (by decide))) ?_; clear he; intro a he
  refine dy 3 he rfl (y_move rfl) ?_; clear he; intro a he
  refine dcall (v := .int .u32 1) 4 he rfl rfl has57 rfl (fun f' L' w h1 h2 hw => b32_ok _ _ _ hw) ?_; clear he; intro a he
  refine D_eff (i := 5) rfl he ?_; clear he; intro a w hs
  refine RL_extSet (i := 0) (b := b) (o := o) (u := .tuple #[]) (new := .int .u32 1) (vs := [.pointer (some ⟨b, o, none⟩), .int .u32 1]) hs rfl rfl rfl ho (fun w h1 h2 => ?_) rfl (.free rfl) (by decide) ?_
  · obtain ⟨fn, q1, q2, q3, q4, q5⟩ := xStore.ex
    exact run_call_store q1 q2 q3 q4 q5 h1 h2
  clear hs; intro a w hs
  refine dend hs ?_; clear hs; intro a he
  refine D_nil he ?_; clear he; intro w hs
  refine RtV0 hs rfl ?_
  exact ⟨rfl, hs.cw⟩
end
end Go.Proofs.YtklcdfnhdljkjaaDoor
