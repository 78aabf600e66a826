/-
  Walks and laws of this seat; the base is the text Base.
-/
import Derived.Test.YtklcdfnhdljkjaaDoorBasg
import Derived.Test.YtklcdfnhdljkjaaDoorT7
import Derived.Test.YtklcdfnhdljkjaaDoorRows
namespace Go.Proofs.YtklcdfnhdljkjaaDoor
open Go.RowKit Go.Sl
/-! sync.Once, of one goroutine -/
theorem xLoad : ExtF Tryd.prog 44 (Extern.Atomic.loadT (.int .u32)) := ⟨_, Tryd.func44, by kernel_rfl, by kernel_rfl, by kernel_rfl, by kernel_rfl⟩
theorem xStore : ExtF Tryd.prog 56 Extern.Atomic.storeT := ⟨_, Tryd.func56, by kernel_rfl, by kernel_rfl, by kernel_rfl, by kernel_rfl⟩
theorem xCas : ExtF Tryd.prog 63 (Extern.Atomic.casT (.int .i32)) := ⟨_, Tryd.func63, by kernel_rfl, by kernel_rfl, by kernel_rfl, by kernel_rfl⟩
theorem xAdd : ExtF Tryd.prog 68 (Extern.Atomic.update (Op.intArith .add) .i32 true) := ⟨_, Tryd.func68, by kernel_rfl, by kernel_rfl, by kernel_rfl, by kernel_rfl⟩
theorem xDis : ExtF Tryd.prog 62 (fun _ => do mark .disable; pure Extern.Race.none_) := ⟨_, Tryd.func62, by kernel_rfl, by kernel_rfl, by kernel_rfl, by kernel_rfl⟩
theorem xEn : ExtF Tryd.prog 64 (fun _ => do mark .enable; pure Extern.Race.none_) := ⟨_, Tryd.func64, by kernel_rfl, by kernel_rfl, by kernel_rfl, by kernel_rfl⟩
theorem xAcq : ExtF Tryd.prog 65 (Extern.Race.marked .acquire) := ⟨_, Tryd.func65, by kernel_rfl, by kernel_rfl, by kernel_rfl, by kernel_rfl⟩
theorem xRel : ExtF Tryd.prog 67 (Extern.Race.marked .releaseMerge) := ⟨_, Tryd.func67, by kernel_rfl, by kernel_rfl, by kernel_rfl, by kernel_rfl⟩
section
variable {f : Fz} {L : List Ent} {w0 w : World} {b o : Nat} {cs : Array Value} {e : TypeId} {i : Int}
set_option maxRecDepth 20000 in
set_option maxHeartbeats 4000000 in
theorem BLoad_ok (hc : Cell f L b o (.int .u32 i)) (hC : Cw w0 f L w) : Calls Tryd.prog 40 [.pointer (some ⟨b, o, none⟩)].toArray w fun e w' => e = .returned (.bool (decide (i ≠ 0))) ∧ Cw w0 f L w' := by
  refine enter Tryd.func40 rfl Tryd.ntmps40 (by simp) hC fun a hs => ?_
  refine W_seq fun K1 hK1 => ?_
  refine W_region ?_
  refine sy (v := .bool false) hs (y_assign rfl) ?_; clear hs; intro a w hs
  refine RL_nil ?_
  refine hK1 _ _ ?_; clear hK1
  refine W_seq fun K2 hK2 => ?_
  refine W_region ?_
  refine sy hs (y_move rfl) ?_; clear hs; intro a w hs
  refine sy hs (y_nilCheck rfl) ?_; clear hs; intro a w hs
  refine sy (v := .pointer (some ⟨b, o, none⟩)) hs (y_fieldAddr rfl (FO.of (off := 0) Tryd.underlying73 rfl rfl ti71 (by decide))) ?_; clear hs; intro a w hs
  refine sy hs (y_atLoad xLoad rfl rfl hc) ?_; clear hs; intro a w hs
  refine sy hs (y_neq rfl rfl) ?_; clear hs; intro a w hs
  refine sy (v := .bool (decide (i ≠ 0))) hs (y_assign rfl) ?_; clear hs; intro a w hs
  refine RL_nil ?_
  refine hK2 _ _ ?_; clear hK2
  refine W_ret ?_
  refine RtV1 hs rfl (rv_t hs rfl) ?_
  exact ⟨rfl, hs.cw⟩
set_option maxRecDepth 20000 in
set_option maxHeartbeats 4000000 in
theorem ilock_ok (h : cs[o]? = some (.int .i32 0)) : Does Tryd.prog 54 [.pointer (some ⟨b, o, none⟩)] f [.blk b (.cells cs e (0, 0))] (fun _ f' L' => f' = f ∧ L' = [.blk b (.cells (cs.setIfInBounds o (.int .i32 1)) e (0, 0))]) := by
  intro w0 L w hC
  obtain ⟨ho, hv⟩ := Array.getElem?_eq_some_iff.1 h
  replace hC : Cw w0 f (.blk b (.cells cs e (0, 0)) :: L) w := hC
  refine enter Tryd.func54 rfl Tryd.ntmps54 (by simp) hC fun a hs => ?_
  refine W_seq fun K1 hK1 => ?_
  refine W_region ?_
  refine sy hs (y_mark0 xDis rfl) ?_; clear hs; intro a w hs
  refine RL_nil ?_
  refine hK1 _ _ ?_; clear hK1
  refine W_seq fun K3 hK3 => ?_
  refine W_seq fun K2 hK2 => ?_
  refine W_region ?_
  refine sy hs (y_move rfl) ?_; clear hs; intro a w hs
  refine sy hs (y_nilCheck rfl) ?_; clear hs; intro a w hs
  refine sy (v := .pointer (some ⟨b, o, none⟩)) hs (y_fieldAddr rfl (FO.of (off := 0) Tryd.underlying75 rfl rfl ti21 (by decide))) ?_; clear hs; intro a w hs
  refine RL_extSet (i := 0) (b := b) (o := o) (u := .bool true) (new := .int .i32 1) (vs := [.pointer (some ⟨b, o, none⟩), .int .i32 0, .int .i32 1]) hs rfl rfl rfl ho (fun w h1 h2 => ?_) rfl (.free rfl) (by decide) ?_
  · obtain ⟨fn, q1, q2, q3, q4, q5⟩ := xCas.ex
    rw [hv] at h1
    exact run_call_cas_hit q1 q2 q3 q4 .i32 q5 h1 h2
  clear hs; intro a w hs
  refine RL_nil ?_
  replace hs : St _ _ _ (.blk b (.cells (cs.setIfInBounds o (.int .i32 1)) e (0, 0)) :: L) _ _ _ := hs
  have hcell : Cell f (.blk b (.cells (cs.setIfInBounds o (.int .i32 1)) e (0, 0)) :: L) b o (.int .i32 1) := Cell.blk (.head _) (by simp [ho])
  refine hK2 _ _ ?_; clear hK2
  refine W_condT hs rfl ?_
  refine W_seq fun K4 hK4 => ?_
  refine W_condT hs rfl ?_
  refine W_seq fun K5 hK5 => ?_
  refine W_region ?_
  refine sy hs (y_mark0 xEn rfl) ?_; clear hs; intro a w hs
  refine RL_nil ?_
  refine hK5 _ _ ?_; clear hK5
  refine W_region ?_
  refine sy hs (y_move rfl) ?_; clear hs; intro a w hs
  refine sy hs (y_toUnsafeO rfl Tryd.underlying131 Tryd.underlying93 ti75 (by decide) hcell) ?_; clear hs; intro a w hs
  refine sy hs (y_marked xAcq rfl rfl) ?_; clear hs; intro a w hs
  refine RL_nil ?_
  refine hK4 _ _ ?_; clear hK4
  refine W_ret ?_
  refine RtV0 hs rfl ?_
  exact ⟨_, f, [_], rfl, .refl _, hs.cw, rfl, rfl⟩
set_option maxRecDepth 20000 in
set_option maxHeartbeats 4000000 in
theorem lock_ok (h : cs[o]? = some (.int .i32 0)) : Does Tryd.prog 45 [.pointer (some ⟨b, o, none⟩)] f [.blk b (.cells cs e (0, 0))] (fun _ f' L' => f' = f ∧ L' = [.blk b (.cells (cs.setIfInBounds o (.int .i32 1)) e (0, 0))]) := by
  intro w0 L w hC
  replace hC : Cw w0 f (.blk b (.cells cs e (0, 0)) :: L) w := hC
  refine enter Tryd.func45 rfl Tryd.ntmps45 (by simp) hC fun a hs => ?_
  refine W_region ?_
  refine sy hs (y_move rfl) ?_; clear hs; intro a w hs
  refine sy hs (y_nilCheck rfl) ?_; clear hs; intro a w hs
  refine sy (v := .pointer (some ⟨b, o, none⟩)) hs (y_fieldAddr rfl (FO.of (off := 0) Tryd.underlying77 rfl rfl ti75 (by decide))) ?_; clear hs; intro a w hs
  refine RL_call (Lr := [.blk b (.cells cs e (0, 0))]) (Lf := L) hs rfl has54 rfl rfl (ilock_ok h) (.free rfl) (by decide) ?_; clear hs
  rintro _ _ _ a w _ ⟨rfl, rfl⟩ hs
  refine RL_nil ?_
  refine RtV0 hs rfl ?_
  exact ⟨_, _, [_], rfl, .refl _, hs.cw, rfl, rfl⟩
set_option maxRecDepth 20000 in
set_option maxHeartbeats 4000000 in
theorem iunlock_ok (h : cs[o]? = some (.int .i32 1)) : Does Tryd.prog 55 [.pointer (some ⟨b, o, none⟩)] f [.blk b (.cells cs e (0, 0))] (fun _ f' L' => f' = f ∧ L' = [.blk b (.cells (cs.setIfInBounds o (.int .i32 0)) e (0, 0))]) := by
  intro w0 L w hC
  obtain ⟨ho, hv⟩ := Array.getElem?_eq_some_iff.1 h
  replace hC : Cw w0 f (.blk b (.cells cs e (0, 0)) :: L) w := hC
  have hcell : Cell f (.blk b (.cells cs e (0, 0)) :: L) b o (.int .i32 1) := Cell.blk (.head _) h
  refine enter Tryd.func55 rfl Tryd.ntmps55 (by simp) hC fun a hs => ?_
  refine W_seq fun K1 hK1 => ?_
  refine W_condT hs rfl ?_
  refine W_seq fun K2 hK2 => ?_
  refine W_region ?_
  refine sy hs (y_move rfl) ?_; clear hs; intro a w hs
  refine sy hs (y_nilCheck rfl) ?_; clear hs; intro a w hs
  refine sy (v := .pointer (some ⟨b, o, none⟩)) hs (y_fieldAddr rfl (FO.of (off := 0) Tryd.underlying75 rfl rfl ti21 (by decide))) ?_; clear hs; intro a w hs
  refine sy hs (y_load rfl hcell Tryd.underlying21 rfl) ?_; clear hs; intro a w hs
  refine RL_nil ?_
  refine hK2 _ _ ?_; clear hK2
  refine W_seq fun K3 hK3 => ?_
  refine W_region ?_
  refine sy hs (y_move rfl) ?_; clear hs; intro a w hs
  refine sy hs (y_toUnsafeO rfl Tryd.underlying131 Tryd.underlying93 ti75 (by decide) hcell) ?_; clear hs; intro a w hs
  refine sy hs (y_marked xRel rfl rfl) ?_; clear hs; intro a w hs
  refine RL_nil ?_
  refine hK3 _ _ ?_; clear hK3
  refine W_region ?_
  refine sy hs (y_mark0 xDis rfl) ?_; clear hs; intro a w hs
  refine RL_nil ?_
  refine hK1 _ _ ?_; clear hK1
  refine W_seq fun K4 hK4 => ?_
  refine W_region ?_
  refine sy hs (y_move rfl) ?_; clear hs; intro a w hs
  refine sy hs (y_nilCheck rfl) ?_; clear hs; intro a w hs
  refine sy (v := .pointer (some ⟨b, o, none⟩)) hs (y_fieldAddr rfl (FO.of (off := 0) Tryd.underlying75 rfl rfl ti21 (by decide))) ?_; clear hs; intro a w hs
  refine RL_extSet (i := 0) (b := b) (o := o) (u := .int .i32 0) (new := .int .i32 0) (vs := [.pointer (some ⟨b, o, none⟩), .int .i32 (-1)]) hs rfl rfl rfl ho (fun w h1 h2 => ?_) rfl (.free rfl) (by decide) ?_
  · obtain ⟨fn, q1, q2, q3, q4, q5⟩ := xAdd.ex
    rw [hv] at h1
    exact run_call_add q1 q2 q3 q4 .i32 q5 (y := -1) (s := 0) h1 h2 (by simp [go_sem]; rfl)
  clear hs; intro a w hs
  refine sy (v := .int .i32 0) hs (y_assign rfl) ?_; clear hs; intro a w hs
  refine RL_nil ?_
  refine hK4 _ _ ?_; clear hK4
  refine W_seq fun K5 hK5 => ?_
  refine W_seq fun K6 hK6 => ?_
  refine W_region ?_
  refine sy (v := .int .i32 0) hs (y_move rfl) ?_; clear hs; intro a w hs
  refine sy hs (y_neq rfl rfl) ?_; clear hs; intro a w hs
  refine RL_nil ?_
  refine hK6 _ _ ?_; clear hK6
  refine W_condF hs rfl ?_
  refine W_skip ?_
  refine hK5 _ _ ?_; clear hK5
  refine W_region ?_
  refine sy hs (y_mark0 xEn rfl) ?_; clear hs; intro a w hs
  refine RL_nil ?_
  refine RtV0 hs rfl ?_
  exact ⟨_, f, [_], rfl, .refl _, hs.cw, rfl, rfl⟩
set_option maxRecDepth 20000 in
set_option maxHeartbeats 4000000 in
theorem unlock_d {u : FrameMode} (h : cs[o]? = some (.int .i32 1)) (hC : Cw w0 f (.blk b (.cells cs e (0, 0)) :: L) w) : CallsD Tryd.prog 46 [.pointer (some ⟨b, o, none⟩)].toArray u w fun e' u' w' => u' = u ∧ (e' = .returned (.tuple #[]) ∧ Cw w0 f (.blk b (.cells (cs.setIfInBounds o (.int .i32 0)) e (0, 0)) :: L) w') := by
  refine enterCD Tryd.func46 rfl Tryd.ntmps46 (by simp) hC fun a hs => ?_
  refine W_region ?_
  refine sy hs (y_move rfl) ?_; clear hs; intro a w hs
  refine sy hs (y_nilCheck rfl) ?_; clear hs; intro a w hs
  refine sy (v := .pointer (some ⟨b, o, none⟩)) hs (y_fieldAddr rfl (FO.of (off := 0) Tryd.underlying77 rfl rfl ti75 (by decide))) ?_; clear hs; intro a w hs
  refine RL_call (Lr := [.blk b (.cells cs e (0, 0))]) (Lf := L) hs rfl has55 rfl rfl (iunlock_ok h) (.free rfl) (by decide) ?_; clear hs
  rintro _ _ _ a w _ ⟨rfl, rfl⟩ hs
  refine RL_nil ?_
  refine RtV0 hs rfl ?_
  exact ⟨rfl, hs.cw⟩
theorem b32_ok : Gives Tryd.prog 57 [.bool true] f (.int .u32 1) := by
  intro w0 L w hC
  refine enter Tryd.func57 rfl Tryd.ntmps57 (by simp) hC fun a hs => ?_
  refine W_seq fun K1 hK1 => ?_
  refine W_region ?_
  refine sy (v := .int .u32 0) hs (y_assign rfl) ?_; clear hs; intro a w hs
  refine RL_nil ?_
  refine hK1 _ _ ?_; clear hK1
  refine W_seq fun K2 hK2 => ?_
  refine W_seq fun K3 hK3 => ?_
  refine W_region ?_
  refine sy (v := .bool true) hs (y_move rfl) ?_; clear hs; intro a w hs
  refine RL_nil ?_
  refine hK3 _ _ ?_; clear hK3
  refine W_condT hs rfl ?_
  refine W_seq fun K4 hK4 => ?_
  refine W_region ?_
  refine sy (v := .int .u32 1) hs (y_assign rfl) ?_; clear hs; intro a w hs
  refine RL_nil ?_
  refine hK4 _ _ ?_; clear hK4
  refine W_ret ?_
  refine RtV1 hs rfl (rv_t hs rfl) ?_
  exact ⟨rfl, hs.cw⟩
set_option maxRecDepth 20000 in
set_option maxHeartbeats 4000000 in
theorem bstore_d {u : FrameMode} {x : Value} (h : cs[o]? = some x) (hC : Cw w0 f (.blk b (.cells cs e (0, 0)) :: L) w) : CallsD Tryd.prog 47 [.pointer (some ⟨b, o, none⟩), .bool true].toArray u w fun e' u' w' => u' = u ∧ (e' = .returned (.tuple #[]) ∧ Cw w0 f (.blk b (.cells (cs.setIfInBounds o (.int .u32 1)) e (0, 0)) :: L) w') := by
  obtain ⟨ho, hv⟩ := Array.getElem?_eq_some_iff.1 h
  refine enterCD Tryd.func47 rfl Tryd.ntmps47 (by simp) hC fun a hs => ?_
  refine D_start hs ([]) [5] [(0, true), (1, true), (2, true), (3, true), (4, true), (5, false)] mixed (by kernel_rfl) ?_; clear hs; intro a he
  refine dy 0 he rfl (y_move rfl) ?_; clear he; intro a he
  refine dy 1 he rfl (y_nilCheck rfl) ?_; clear he; intro a he
  refine dy 2 he rfl (y_fieldAddr rfl (FO.of (off := 0) Tryd.underlying73 rfl rfl ti71 (by decide))) ?_; clear he; intro a he
  refine dy 3 he rfl (y_move rfl) ?_; clear he; intro a he
  refine dcall (v := .int .u32 1) 4 he rfl rfl has57 rfl (fun f' L' w h1 h2 hw => b32_ok _ _ _ hw) ?_; clear he; intro a he
  refine D_eff (i := 5) rfl he ?_; clear he; intro a w hs
  refine RL_extSet (i := 0) (b := b) (o := o) (u := .tuple #[]) (new := .int .u32 1) (vs := [.pointer (some ⟨b, o, none⟩), .int .u32 1]) hs rfl rfl rfl ho (fun w h1 h2 => ?_) rfl (.free rfl) (by decide) ?_
  · obtain ⟨fn, q1, q2, q3, q4, q5⟩ := xStore.ex
    exact run_call_store q1 q2 q3 q4 q5 h1 h2
  clear hs; intro a w hs
  refine dend hs ?_; clear hs; intro a he
  refine D_nil he ?_; clear he; intro w hs
  refine RtV0 hs rfl ?_
  exact ⟨rfl, hs.cw⟩
end
end Go.Proofs.YtklcdfnhdljkjaaDoor
namespace Go.Proofs.YtklcdfnhdljkjaaDoor
open Go.RowKit Go.Sl
section
variable {f : Fz} {L : List Ent} {w0 w : World} {b : Nat} {cs : Array Value} {e : TypeId}
set_option maxRecDepth 20000 in
set_option maxHeartbeats 4000000 in
theorem doSlow_ok {g : FuncId} {r : Value} {Q : Fz → Array Value → List Ent → Prop} (hg : Has Tryd.prog g) (h0 : cs[0]? = some (.int .u32 0)) (h1 : cs[1]? = some (.int .i32 0))
    (hp : Does Tryd.prog g [r] f [.blk b (.cells (cs.setIfInBounds 1 (.int .i32 1)) e (0, 0))] (fun _ f' L' => ∃ cs2 LX, L' = .blk b (.cells cs2 e (0, 0)) :: LX ∧ (∃ x, cs2[0]? = some x) ∧ cs2[1]? = some (.int .i32 1) ∧ Q f' cs2 LX)) :
    Does Tryd.prog 41 [.pointer (some ⟨b, 0, none⟩), .func (.func g) #[r] #[]] f [.blk b (.cells cs e (0, 0))] (fun _ f' L' => ∃ cs2 LX, L' = .blk b (.cells ((cs2.setIfInBounds 0 (.int .u32 1)).setIfInBounds 1 (.int .i32 0)) e (0, 0)) :: LX ∧ Q f' cs2 LX) := by
  intro w0 L w hC
  replace hC : Cw w0 f (.blk b (.cells cs e (0, 0)) :: L) w := hC
  refine enterDf Tryd.func41 rfl Tryd.ntmps41 (by simp) hC fun a hs => ?_
  refine WD_seq fun K1 hK1 => ?_
  refine W_region ?_
  refine sy hs (y_move rfl) ?_; clear hs; intro a w hs
  refine sy hs (y_nilCheck rfl) ?_; clear hs; intro a w hs
  refine sy (v := .pointer (some ⟨b, 1, none⟩)) hs (y_fieldAddr rfl (FO.of (off := 1) Tryd.underlying79 rfl rfl ti77 (by decide))) ?_; clear hs; intro a w hs
  refine RL_call (Lr := [.blk b (.cells cs e (0, 0))]) (Lf := L) hs rfl has45 rfl rfl (lock_ok h1) (.free rfl) (by decide) ?_; clear hs
  rintro _ _ _ a w _ ⟨rfl, rfl⟩ hs
  refine RL_nil ?_
  replace hs : St _ _ _ (.blk b (.cells (cs.setIfInBounds 1 (.int .i32 1)) e (0, 0)) :: L) _ _ _ := hs
  refine hK1 _ _ ?_; clear hK1
  refine WD_deferL rfl rfl rfl ?_
  refine sy hs (y_move rfl) ?_; clear hs; intro a w hs
  refine sy hs (y_nilCheck rfl) ?_; clear hs; intro a w hs
  refine sy (v := .pointer (some ⟨b, 1, none⟩)) hs (y_fieldAddr rfl (FO.of (off := 1) Tryd.underlying79 rfl rfl ti77 (by decide))) ?_; clear hs; intro a w hs
  refine RL_nil ?_
  refine ⟨_, resolve_fn hs.ev rfl rfl, ?_⟩
  refine WD_seq fun K2 hK2 => ?_
  refine W_region ?_
  refine sy hs (y_move rfl) ?_; clear hs; intro a w hs
  refine sy hs (y_nilCheck rfl) ?_; clear hs; intro a w hs
  refine sy (v := .pointer (some ⟨b, 0, none⟩)) hs (y_fieldAddr rfl (FO.of (off := 0) Tryd.underlying79 rfl rfl ti73 (by decide))) ?_; clear hs; intro a w hs
  refine sy hs (y_callC rfl has40 rfl (fun w hw => BLoad_ok (i := 0) (Cell.blk (.head _) (by rw [Array.getElem?_setIfInBounds]; simpa using h0)) hw)) ?_; clear hs; intro a w hs
  refine sy hs (y_not rfl) ?_; clear hs; intro a w hs
  refine RL_nil ?_
  refine hK2 _ _ ?_; clear hK2
  refine WD_condT hs rfl ?_
  refine WD_deferL rfl rfl rfl ?_
  refine sy hs (y_move rfl) ?_; clear hs; intro a w hs
  refine sy hs (y_nilCheck rfl) ?_; clear hs; intro a w hs
  refine sy (v := .pointer (some ⟨b, 0, none⟩)) hs (y_fieldAddr rfl (FO.of (off := 0) Tryd.underlying79 rfl rfl ti73 (by decide))) ?_; clear hs; intro a w hs
  refine RL_nil ?_
  refine ⟨_, resolve_fn hs.ev rfl rfl, ?_⟩
  refine WD_end ?_
  refine W_region ?_
  refine sy hs (y_move rfl) ?_; clear hs; intro a w hs
  refine RL_callF (fs := [r]) (vs := []) (Lr := [.blk b (.cells (cs.setIfInBounds 1 (.int .i32 1)) e (0, 0))]) (Lf := L) hs rfl hg rfl rfl hp (.free rfl) (by decide) ?_; clear hs
  rintro _ f2 _ a w hf2 ⟨cs2, LX, rfl, ⟨x, hx⟩, hm, hQ⟩ hs
  refine RL_nil ?_
  replace hs : St _ _ _ (.blk b (.cells cs2 e (0, 0)) :: (LX ++ L)) _ _ _ := hs
  refine leaves_cons (f := 47) (args := #[.pointer (some ⟨b, 0, none⟩), .bool true]) (by simp) (by simp [invoke, run_callFunc has47]) ?_
  refine CallsD.mono (bstore_d hx hs.cw) ?_
  rintro _ _ w ⟨rfl, rfl, hC⟩
  refine leaves_cons (f := 46) (args := #[.pointer (some ⟨b, 1, none⟩)]) (by simp [settle]) (by simp [invoke, run_callFunc has46]) ?_
  refine CallsD.mono (unlock_d (o := 1) (by rw [Array.getElem?_setIfInBounds]; simpa using hm) hC) ?_
  rintro _ _ w ⟨rfl, rfl, hC⟩
  exact ⟨_, results_none rfl _ _ _, _, f2, _, rfl, hf2, hC, cs2, LX, rfl, hQ⟩
set_option maxRecDepth 20000 in
set_option maxHeartbeats 4000000 in
theorem Do_ok {g : FuncId} {r : Value} {Q : Fz → Array Value → List Ent → Prop} (hg : Has Tryd.prog g) (h0 : cs[0]? = some (.int .u32 0)) (h1 : cs[1]? = some (.int .i32 0))
    (hp : Does Tryd.prog g [r] f [.blk b (.cells (cs.setIfInBounds 1 (.int .i32 1)) e (0, 0))] (fun _ f' L' => ∃ cs2 LX, L' = .blk b (.cells cs2 e (0, 0)) :: LX ∧ (∃ x, cs2[0]? = some x) ∧ cs2[1]? = some (.int .i32 1) ∧ Q f' cs2 LX)) :
    Does Tryd.prog 34 [.pointer (some ⟨b, 0, none⟩), .func (.func g) #[r] #[]] f [.blk b (.cells cs e (0, 0))] (fun _ f' L' => ∃ cs2 LX, L' = .blk b (.cells ((cs2.setIfInBounds 0 (.int .u32 1)).setIfInBounds 1 (.int .i32 0)) e (0, 0)) :: LX ∧ Q f' cs2 LX) := by
  intro w0 L w hC
  replace hC : Cw w0 f (.blk b (.cells cs e (0, 0)) :: L) w := hC
  refine enter Tryd.func34 rfl Tryd.ntmps34 (by simp) hC fun a hs => ?_
  refine W_seq fun K1 hK1 => ?_
  refine W_region ?_
  refine sy hs (y_move rfl) ?_; clear hs; intro a w hs
  refine sy hs (y_nilCheck rfl) ?_; clear hs; intro a w hs
  refine sy (v := .pointer (some ⟨b, 0, none⟩)) hs (y_fieldAddr rfl (FO.of (off := 0) Tryd.underlying79 rfl rfl ti73 (by decide))) ?_; clear hs; intro a w hs
  refine sy hs (y_callC rfl has40 rfl (fun w hw => BLoad_ok (i := 0) (Cell.blk (.head _) h0) hw)) ?_; clear hs; intro a w hs
  refine sy hs (y_not rfl) ?_; clear hs; intro a w hs
  refine RL_nil ?_
  refine hK1 _ _ ?_; clear hK1
  refine W_condT hs rfl ?_
  refine W_region ?_
  refine sy hs (y_move rfl) ?_; clear hs; intro a w hs
  refine sy hs (y_move rfl) ?_; clear hs; intro a w hs
  refine RL_call (Lr := [.blk b (.cells cs e (0, 0))]) (Lf := L) hs rfl has41 rfl rfl (doSlow_ok hg h0 h1 hp) (.free rfl) (by decide) ?_; clear hs
  rintro _ f2 _ a w hf2 ⟨cs2, LX, rfl, hQ⟩ hs
  refine RL_nil ?_
  refine RtV0 hs rfl ?_
  exact ⟨_, f2, _, rfl, hf2, hs.cw, cs2, LX, rfl, hQ⟩
end
end Go.Proofs.YtklcdfnhdljkjaaDoor
namespace Go.Proofs.YtklcdfnhdljkjaaDoor
open Go.RowKit Go.Sl
section
variable {f : Fz} {L : List Ent} {w0 w : World} {b nb : Nat} {gp : Value} {val : ByteArray} {pr : Int}
/-- A node of the trie. -/
abbrev node (v : ByteArray) (p : Int) (pre : ByteArray) (nx tb : Value) : Array Value := #[.string v, .int .i64 p, .string pre, nx, tb]
set_option maxRecDepth 20000 in
set_option maxHeartbeats 4000000 in
theorem add_nil {v0 pre : ByteArray} {nx tb : Value} : Does Tryd.prog 59 [.pointer (some ⟨nb, 0, none⟩), .string (bs []), .string val, .int .i64 pr, gp] f [.blk nb (.cells (node v0 0 pre nx tb) 125 (0, 0))] (fun _ f' L' => f' = f ∧ L' = [.blk nb (.cells (node val pr pre nx tb) 125 (0, 0))]) := by
  intro w0 L w hC
  replace hC : Cw w0 f (.blk nb (.cells (node v0 0 pre nx tb) 125 (0, 0)) :: L) w := hC
  refine enter Tryd.func59 rfl Tryd.ntmps59 (by simp) hC fun a hs => ?_
  refine W_seq fun K1 hK1 => ?_
  refine W_seq fun K2 hK2 => ?_
  refine W_region ?_
  refine sy hs (y_move rfl) ?_; clear hs; intro a w hs
  refine sy hs (y_seql rfl rfl) ?_; clear hs; intro a w hs
  refine RL_nil ?_
  rw [decide_eq_true (show bs [] = ⟨#[]⟩ from rfl)] at hs
  refine hK2 _ _ ?_; clear hK2
  refine W_condT hs rfl ?_
  refine W_seq fun K3 hK3 => ?_
  refine W_seq fun K4 hK4 => ?_
  refine W_region ?_
  refine sy hs (y_move rfl) ?_; clear hs; intro a w hs
  refine sy hs (y_nilCheck rfl) ?_; clear hs; intro a w hs
  refine sy (v := .pointer (some ⟨nb, 1, none⟩)) hs (y_fieldAddr rfl (FO.of (off := 1) Tryd.underlying125 rfl rfl ti3 (by decide))) ?_; clear hs; intro a w hs
  refine sy (v := .int .i64 0) hs (y_ld rfl Tryd.underlying3 rfl (Cell.blk (.head _) rfl)) ?_; clear hs; intro a w hs
  refine sy hs (y_eql rfl rfl) ?_; clear hs; intro a w hs
  refine RL_nil ?_
  refine hK4 _ _ ?_; clear hK4
  refine W_condT hs rfl ?_
  refine W_seq fun K5 hK5 => ?_
  refine W_region ?_
  refine sy hs (y_move rfl) ?_; clear hs; intro a w hs
  refine sy hs (y_move rfl) ?_; clear hs; intro a w hs
  refine sy hs (y_nilCheck rfl) ?_; clear hs; intro a w hs
  refine sy (v := .pointer (some ⟨nb, 0, none⟩)) hs (y_fieldAddr rfl (FO.of (off := 0) Tryd.underlying125 rfl rfl ti9 (by decide))) ?_; clear hs; intro a w hs
  refine RL_storeBlk (i := 0) (o := 0) (u := .string val) hs rfl rfl rfl ti9 rfl (by simp) rfl (.free rfl) ?_; clear hs; intro a w hs
  replace hs : St _ _ _ (.blk nb (.cells (node val 0 pre nx tb) 125 (0, 0)) :: L) _ _ _ := hs
  refine RL_nil ?_
  refine hK5 _ _ ?_; clear hK5
  refine W_region ?_
  refine sy hs (y_move rfl) ?_; clear hs; intro a w hs
  refine sy hs (y_move rfl) ?_; clear hs; intro a w hs
  refine sy hs (y_nilCheck rfl) ?_; clear hs; intro a w hs
  refine sy (v := .pointer (some ⟨nb, 1, none⟩)) hs (y_fieldAddr rfl (FO.of (off := 1) Tryd.underlying125 rfl rfl ti3 (by decide))) ?_; clear hs; intro a w hs
  refine RL_storeBlk (i := 0) (o := 1) (u := .int .i64 pr) hs rfl rfl rfl ti3 rfl (by simp) rfl (.free rfl) ?_; clear hs; intro a w hs
  replace hs : St _ _ _ (.blk nb (.cells (node val pr pre nx tb) 125 (0, 0)) :: L) _ _ _ := hs
  refine RL_nil ?_
  refine hK3 _ _ ?_; clear hK3
  refine W_ret ?_
  refine RtV0 hs rfl ?_
  exact ⟨_, f, [_], rfl, .refl _, hs.cw, rfl, rfl⟩
set_option maxRecDepth 20000 in
set_option maxHeartbeats 4000000 in
/-- A text of some bytes comes to a fresh node. -/
theorem add_one {key : ByteArray} (hk : key ≠ bs []) : Does Tryd.prog 59 [.pointer (some ⟨nb, 0, none⟩), .string key, .string val, .int .i64 pr, gp] f [.blk nb (.cells (node (bs []) 0 (bs []) (.pointer none) (.slice none 0 0)) 125 (0, 0))]
    (fun _ f' L' => f' = f ∧ ∃ n2, L' = [.blk n2 (.cells (node val pr (bs []) (.pointer none) (.slice none 0 0)) 125 (0, 0)), .blk nb (.cells (node (bs []) 0 key (.pointer (some ⟨n2, 0, none⟩)) (.slice none 0 0)) 125 (0, 0))]) := by
  intro w0 L w hC
  replace hC : Cw w0 f (.blk nb (.cells (node (bs []) 0 (bs []) (.pointer none) (.slice none 0 0)) 125 (0, 0)) :: L) w := hC
  refine enter Tryd.func59 rfl Tryd.ntmps59 (by simp) hC fun a hs => ?_
  refine W_seq fun K1 hK1 => ?_
  refine W_seq fun K2 hK2 => ?_
  refine W_region ?_
  refine sy hs (y_move rfl) ?_; clear hs; intro a w hs
  refine sy hs (y_seql rfl rfl) ?_; clear hs; intro a w hs
  refine RL_nil ?_
  rw [decide_eq_false (show ¬ key = ⟨#[]⟩ from hk)] at hs
  refine hK2 _ _ ?_; clear hK2
  refine W_condF hs rfl ?_
  refine W_skip ?_
  refine hK1 _ _ ?_; clear hK1
  refine W_seq fun K3 hK3 => ?_
  refine W_region ?_
  refine sy hs (y_move rfl) ?_; clear hs; intro a w hs
  refine sy hs (y_nilCheck rfl) ?_; clear hs; intro a w hs
  refine sy (v := .pointer (some ⟨nb, 2, none⟩)) hs (y_fieldAddr rfl (FO.of (off := 2) Tryd.underlying125 rfl rfl ti9 (by decide))) ?_; clear hs; intro a w hs
  refine sy (v := .string (bs [])) hs (y_ld rfl Tryd.underlying9 rfl (Cell.blk (.head _) rfl)) ?_; clear hs; intro a w hs
  refine sy hs (y_sneq rfl rfl) ?_; clear hs; intro a w hs
  refine RL_nil ?_
  rw [decide_eq_false (show ¬ bs [] ≠ ⟨#[]⟩ from fun h => h rfl)] at hs
  refine hK3 _ _ ?_; clear hK3
  refine W_condF hs rfl ?_
  refine W_seq fun K4 hK4 => ?_
  refine W_region ?_
  refine sy hs (y_move rfl) ?_; clear hs; intro a w hs
  refine sy hs (y_nilCheck rfl) ?_; clear hs; intro a w hs
  refine sy (v := .pointer (some ⟨nb, 4, none⟩)) hs (y_fieldAddr rfl (FO.of (off := 4) Tryd.underlying125 rfl rfl ti123 (by decide))) ?_; clear hs; intro a w hs
  refine sy (v := .slice none 0 0) hs (y_ld rfl Tryd.underlying123 rfl (Cell.blk (.head _) rfl)) ?_; clear hs; intro a w hs
  refine sy hs (y_slNeq rfl Tryd.underlying123) ?_; clear hs; intro a w hs
  refine RL_nil ?_
  refine hK4 _ _ ?_; clear hK4
  refine W_condF hs rfl ?_
  refine W_seq fun K5 hK5 => ?_
  refine W_region ?_
  refine sy hs (y_move rfl) ?_; clear hs; intro a w hs
  refine sy hs (y_move rfl) ?_; clear hs; intro a w hs
  refine sy hs (y_nilCheck rfl) ?_; clear hs; intro a w hs
  refine sy (v := .pointer (some ⟨nb, 2, none⟩)) hs (y_fieldAddr rfl (FO.of (off := 2) Tryd.underlying125 rfl rfl ti9 (by decide))) ?_; clear hs; intro a w hs
  refine RL_storeBlk (i := 0) (o := 2) (u := .string key) hs rfl rfl rfl ti9 rfl (by simp) rfl (.free rfl) ?_; clear hs; intro a w hs
  replace hs : St _ _ _ (.blk nb (.cells (node (bs []) 0 key (.pointer none) (.slice none 0 0)) 125 (0, 0)) :: L) _ _ _ := hs
  refine RL_nil ?_
  refine hK5 _ _ ?_; clear hK5
  refine W_seq fun K6 hK6 => ?_
  refine W_region ?_
  refine sy hs (y_move rfl) ?_; clear hs; intro a w hs
  refine RL_alloc hs ti125 (.free rfl) (by decide) ?_; clear hs; intro n2 a w hs
  replace hs : St _ _ _ (.blk n2 (.cells (node (bs []) 0 (bs []) (.pointer none) (.slice none 0 0)) 125 (0, 0)) :: .blk nb (.cells (node (bs []) 0 key (.pointer none) (.slice none 0 0)) 125 (0, 0)) :: L) _ _ _ := hs
  refine sy hs (y_nilCheck rfl) ?_; clear hs; intro a w hs
  refine sy (v := .pointer (some ⟨nb, 3, none⟩)) hs (y_fieldAddr rfl (FO.of (off := 3) Tryd.underlying125 rfl rfl ti122 (by decide))) ?_; clear hs; intro a w hs
  refine RL_storeBlk (i := 1) (o := 3) (u := .pointer (some ⟨n2, 0, none⟩)) hs rfl rfl rfl ti122 rfl (by simp) rfl (.free rfl) ?_; clear hs; intro a w hs
  replace hs : St _ _ _ (.blk n2 (.cells (node (bs []) 0 (bs []) (.pointer none) (.slice none 0 0)) 125 (0, 0)) :: .blk nb (.cells (node (bs []) 0 key (.pointer (some ⟨n2, 0, none⟩)) (.slice none 0 0)) 125 (0, 0)) :: L) _ _ _ := hs
  refine RL_nil ?_
  refine hK6 _ _ ?_; clear hK6
  refine W_region ?_
  refine sy hs (y_move rfl) ?_; clear hs; intro a w hs
  refine sy hs (y_nilCheck rfl) ?_; clear hs; intro a w hs
  refine sy (v := .pointer (some ⟨nb, 3, none⟩)) hs (y_fieldAddr rfl (FO.of (off := 3) Tryd.underlying125 rfl rfl ti122 (by decide))) ?_; clear hs; intro a w hs
  refine sy (v := .pointer (some ⟨n2, 0, none⟩)) hs (y_ld rfl Tryd.underlying122 rfl (Cell.blk (.tail _ (.head _)) rfl)) ?_; clear hs; intro a w hs
  refine sy hs (y_move rfl) ?_; clear hs; intro a w hs
  refine sy hs (y_move rfl) ?_; clear hs; intro a w hs
  refine sy hs (y_move rfl) ?_; clear hs; intro a w hs
  refine RL_call (Lr := [.blk n2 (.cells (node (bs []) 0 (bs []) (.pointer none) (.slice none 0 0)) 125 (0, 0))]) (Lf := .blk nb (.cells (node (bs []) 0 key (.pointer (some ⟨n2, 0, none⟩)) (.slice none 0 0)) 125 (0, 0)) :: L) hs rfl has59 rfl rfl (add_nil (nb := n2) (val := val) (pr := pr) (gp := gp)) (.free rfl) (by decide) ?_; clear hs
  rintro _ _ _ a w _ ⟨rfl, rfl⟩ hs
  refine RL_nil ?_
  refine RtV0 hs rfl ?_
  exact ⟨_, _, [_, _], rfl, .refl _, hs.cw, rfl, n2, rfl⟩
end
end Go.Proofs.YtklcdfnhdljkjaaDoor
namespace Go.Proofs.YtklcdfnhdljkjaaDoor
open Go.RowKit Go.Sl
section
variable {f : Fz} {L : List Ent} {w0 w : World} {b nb : Nat} {val : ByteArray} {pr : Int} {gc : Array Value}
set_option maxRecDepth 20000 in
set_option maxHeartbeats 8000000 in
/-- A text whose first byte has no node yet comes to the root. -/
theorem add_root {key rest : ByteArray} {tv : Value} {rows : List (List Value)} {c m : Nat} {Q : Nat → List Ent → Prop} (hk : key ≠ bs []) (hc : getS key 0 = some (c : Int)) (hcl : c < 256) (he0 : key.extract 1 key.size = rest) (h1 : 1 ≤ key.size)
    (h2 : gc[2]? = some (.string (bs []))) (h4 : gc[4]? = some tv) (hm : gc[6 + c * 1]? = some (.int .u8 m)) (hr : rows[m]? = some [.pointer none])
    (hp : ∀ n1, Does Tryd.prog 59 [.pointer (some ⟨n1, 0, none⟩), .string rest, .string val, .int .i64 pr, .pointer (some ⟨b, 0, none⟩)] f [.blk n1 (.cells (node (bs []) 0 (bs []) (.pointer none) (.slice none 0 0)) 125 (0, 0))] (fun _ f' L' => f' = f ∧ Q n1 L')) :
    Does Tryd.prog 59 [.pointer (some ⟨b, 0, none⟩), .string key, .string val, .int .i64 pr, .pointer (some ⟨b, 0, none⟩)] f [.blk b (.cells gc 127 (0, 0)), .row tv 122 1 rows]
    (fun _ f' L' => f' = f ∧ ∃ n1 LX, Q n1 LX ∧ L' = LX ++ [.blk b (.cells gc 127 (0, 0)), .row tv 122 1 (rows.set m [.pointer (some ⟨n1, 0, none⟩)])]) := by
  intro w0 L w hC
  replace hC : Cw w0 f (.blk b (.cells gc 127 (0, 0)) :: .row tv 122 1 rows :: L) w := hC
  have hmr : m < rows.length := (List.getElem?_eq_some_iff.1 hr).1
  refine enter Tryd.func59 rfl Tryd.ntmps59 (by simp) hC fun a hs => ?_
  obtain ⟨ad, cap, htv⟩ : ∃ ad cap, tv = .slice (some ad) rows.length cap := by
    obtain ⟨ao, cap, h, _, hn, _⟩ := (Rd.st hs (.tail _ (.head _))).val
    cases ao with
    | none => rw [hn rfl] at hmr; simp at hmr
    | some ad => exact ⟨ad, cap, h⟩
  refine W_seq fun K1 hK1 => ?_
  refine W_seq fun K2 hK2 => ?_
  refine W_region ?_
  refine sy hs (y_move rfl) ?_; clear hs; intro a w hs
  refine sy hs (y_seql rfl rfl) ?_; clear hs; intro a w hs
  refine RL_nil ?_
  rw [decide_eq_false (show ¬ key = ⟨#[]⟩ from hk)] at hs
  refine hK2 _ _ ?_; clear hK2
  refine W_condF hs rfl ?_
  refine W_skip ?_
  refine hK1 _ _ ?_; clear hK1
  refine W_seq fun K3 hK3 => ?_
  refine W_region ?_
  refine sy hs (y_move rfl) ?_; clear hs; intro a w hs
  refine sy hs (y_nilCheck rfl) ?_; clear hs; intro a w hs
  refine sy (v := .pointer (some ⟨b, 2, none⟩)) hs (y_fieldAddr rfl (FO.of (off := 2) Tryd.underlying125 rfl rfl ti9 (by decide))) ?_; clear hs; intro a w hs
  refine sy hs (y_ld rfl Tryd.underlying9 rfl (Cell.blk (.head _) h2)) ?_; clear hs; intro a w hs
  refine sy hs (y_sneq rfl rfl) ?_; clear hs; intro a w hs
  refine RL_nil ?_
  rw [decide_eq_false (show ¬ bs [] ≠ ⟨#[]⟩ from fun h => h rfl)] at hs
  refine hK3 _ _ ?_; clear hK3
  refine W_condF hs rfl ?_
  refine W_seq fun K4 hK4 => ?_
  refine W_region ?_
  refine sy hs (y_move rfl) ?_; clear hs; intro a w hs
  refine sy hs (y_nilCheck rfl) ?_; clear hs; intro a w hs
  refine sy (v := .pointer (some ⟨b, 4, none⟩)) hs (y_fieldAddr rfl (FO.of (off := 4) Tryd.underlying125 rfl rfl ti123 (by decide))) ?_; clear hs; intro a w hs
  refine sy hs (y_ld rfl Tryd.underlying123 rfl (Cell.blk (.head _) (htv ▸ h4))) ?_; clear hs; intro a w hs
  refine sy hs (y_slNeq rfl Tryd.underlying123) ?_; clear hs; intro a w hs
  refine RL_nil ?_
  refine hK4 _ _ ?_; clear hK4
  refine W_condT hs rfl ?_
  refine W_seq fun K5 hK5 => ?_
  refine W_draw hs mixed (by kernel_rfl) ?_; intro a he
  refine qy he (y_move rfl) ?_; clear he; intro a he
  refine qy he (y_move rfl) ?_; clear he; intro a he
  refine qy he (y_ixW rfl rfl Tryd.underlying9 hc) ?_; clear he; intro a he
  refine qy he (y_nilCheck rfl) ?_; clear he; intro a he
  refine qy (v := .pointer (some ⟨b, 6, none⟩)) he (y_fieldAddr rfl (FO.of (off := 6) Tryd.underlying127 rfl rfl ti87 (by decide))) ?_; clear he; intro a he
  refine qy he (y_ixArr (j := c) rfl rfl Tryd.underlying87 ti5 rfl hcl) ?_; clear he; intro a he
  refine qy he (y_ld rfl Tryd.underlying5 rfl (Cell.blk (.head _) hm)) ?_; clear he; intro a he
  refine qy he (y_assign rfl) ?_; clear he; intro a he
  refine QL_nil he ?_; clear he hs; intro a w hs
  refine hK5 _ _ ?_; clear hK5
  refine W_seq fun K6 hK6 => ?_
  refine W_seq fun K7 hK7 => ?_
  refine W_region ?_
  refine sy hs (y_move rfl) ?_; clear hs; intro a w hs
  refine sy hs (y_nilCheck rfl) ?_; clear hs; intro a w hs
  refine sy (v := .pointer (some ⟨b, 4, none⟩)) hs (y_fieldAddr rfl (FO.of (off := 4) Tryd.underlying125 rfl rfl ti123 (by decide))) ?_; clear hs; intro a w hs
  refine sy (v := tv) hs (y_ld rfl Tryd.underlying123 rfl (Cell.blk (.head _) h4)) ?_; clear hs; intro a w hs
  refine sy hs (y_move rfl) ?_; clear hs; intro a w hs
  refine sy hs (y_indexAddr (Rd.st hs (.tail _ (.head _))) rfl rfl rfl hmr Tryd.underlying123 ti122) ?_; clear hs; intro a w hs
  refine sy hs (y_loadE (i := m) (j := 0) (Rd.st hs (.tail _ (.head _))) rfl hr rfl Tryd.underlying122 rfl) ?_; clear hs; intro a w hs
  refine sy hs (y_pnn rfl rfl Tryd.underlying122) ?_; clear hs; intro a w hs
  refine RL_nil ?_
  refine hK7 _ _ ?_; clear hK7
  refine W_condT hs rfl ?_
  refine W_region ?_
  refine sy hs (y_move rfl) ?_; clear hs; intro a w hs
  refine sy hs (y_nilCheck rfl) ?_; clear hs; intro a w hs
  refine sy (v := .pointer (some ⟨b, 4, none⟩)) hs (y_fieldAddr rfl (FO.of (off := 4) Tryd.underlying125 rfl rfl ti123 (by decide))) ?_; clear hs; intro a w hs
  refine sy (v := tv) hs (y_ld rfl Tryd.underlying123 rfl (Cell.blk (.head _) h4)) ?_; clear hs; intro a w hs
  refine sy hs (y_move rfl) ?_; clear hs; intro a w hs
  refine RL_alloc hs ti125 (.free rfl) (by decide) ?_; clear hs; intro n1 a w hs
  replace hs : St _ _ _ (.blk n1 (.cells (node (bs []) 0 (bs []) (.pointer none) (.slice none 0 0)) 125 (0, 0)) :: .blk b (.cells gc 127 (0, 0)) :: .row tv 122 1 rows :: L) _ _ _ := hs
  refine sy hs (y_indexAddr (Rd.st hs (.tail _ (.tail _ (.head _)))) rfl rfl rfl hmr Tryd.underlying123 ti122) ?_; clear hs; intro a w hs
  refine sstoreRow (m := m) 2 hs rfl rfl rfl hr ti122 rfl ?_; clear hs; intro a w hs
  replace hs : St _ _ _ (.blk n1 (.cells (node (bs []) 0 (bs []) (.pointer none) (.slice none 0 0)) 125 (0, 0)) :: .blk b (.cells gc 127 (0, 0)) :: .row tv 122 1 (rows.set m [.pointer (some ⟨n1, 0, none⟩)]) :: L) _ _ _ := hs
  refine RL_nil ?_
  refine hK6 _ _ ?_; clear hK6
  have hRD : Rd f [.blk b (.cells gc 127 (0, 0)), .row tv 122 1 (rows.set m [.pointer (some ⟨n1, 0, none⟩)])] tv 1 (rows.set m [.pointer (some ⟨n1, 0, none⟩)]) := Rd.ofOwn (.tail _ (.head _)) (hs.cw.sub (.cons _ (.cons_cons _ (.cons_cons _ (List.nil_sublist _)))))
  have hmr2 : m < (rows.set m [.pointer (some ⟨n1, 0, none⟩)]).length := by simpa using hmr
  have hr2 : (rows.set m [.pointer (some ⟨n1, 0, none⟩)])[m]? = some [.pointer (some ⟨n1, 0, none⟩)] := List.getElem?_set_self hmr
  refine D_start hs ([.blk b (.cells gc 127 (0, 0)), .row tv 122 1 (rows.set m [.pointer (some ⟨n1, 0, none⟩)])]) [12] [(0, true), (1, true), (2, true), (3, true), (4, true), (5, true), (6, true), (7, true), (8, true), (9, true), (10, true), (11, true), (12, false)] mixed (by kernel_rfl) ?_; clear hs; intro a he
  refine dy 0 he rfl (y_move rfl) ?_; clear he; intro a he
  refine dy 1 he rfl (y_nilCheck rfl) ?_; clear he; intro a he
  refine dy (v := .pointer (some ⟨b, 4, none⟩)) 2 he rfl (y_fieldAddr rfl (FO.of (off := 4) Tryd.underlying125 rfl rfl ti123 (by decide))) ?_; clear he; intro a he
  refine dy (v := tv) 3 he rfl (y_ld rfl Tryd.underlying123 rfl (Cell.blk (.head _) h4)) ?_; clear he; intro a he
  refine dy 4 he rfl (y_move rfl) ?_; clear he; intro a he
  refine dy 5 he rfl (y_indexAddr hRD rfl rfl rfl hmr2 Tryd.underlying123 ti122) ?_; clear he; intro a he
  refine dy 6 he rfl (y_loadE (i := m) (j := 0) hRD rfl hr2 rfl Tryd.underlying122 rfl) ?_; clear he; intro a he
  refine dy 7 he rfl (y_move rfl) ?_; clear he; intro a he
  refine dy 8 he rfl (y_sliceSV (lo := 1) (hi := key.size) he0 rfl Tryd.underlying9 (.inr ⟨_, rfl, rfl⟩) (.inl ⟨rfl, rfl⟩) h1 (Nat.le_refl _)) ?_; clear he; intro a he
  refine dy 9 he rfl (y_move rfl) ?_; clear he; intro a he
  refine dy 10 he rfl (y_move rfl) ?_; clear he; intro a he
  refine dy 11 he rfl (y_move rfl) ?_; clear he; intro a he
  refine D_eff (i := 12) rfl he ?_; clear he; intro a w hs
  refine RL_call (Lr := [.blk n1 (.cells (node (bs []) 0 (bs []) (.pointer none) (.slice none 0 0)) 125 (0, 0))]) (Lf := .blk b (.cells gc 127 (0, 0)) :: .row tv 122 1 (rows.set m [.pointer (some ⟨n1, 0, none⟩)]) :: L) hs rfl has59 rfl rfl (hp n1) (.free rfl) (by decide) ?_; clear hs
  rintro _ _ LX a w _ ⟨rfl, hQ⟩ hs
  refine dend hs ?_; clear hs; intro a he
  refine D_nil he ?_; clear he; intro w hs
  refine RtV0 hs rfl ?_
  exact ⟨_, _, LX ++ [_, _], rfl, .refl _, by rw [List.append_assoc]; exact hs.cw, rfl, n1, LX, hQ, rfl⟩
end
end Go.Proofs.YtklcdfnhdljkjaaDoor
