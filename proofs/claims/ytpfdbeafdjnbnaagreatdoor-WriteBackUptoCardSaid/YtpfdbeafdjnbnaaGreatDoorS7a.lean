/-
  Walks and laws of this seat.
-/
import Derived.Test.YtpfdbeafdjnbnaaGreatDoorBash
import Derived.Test.YtpfdbeafdjnbnaaGreatDoorX0
import Derived.Test.YtpfdbeafdjnbnaaGreatDoorRows
namespace Go.Proofs.YtpfdbeafdjnbnaaGreatDoor
set_option linter.unusedVariables false
set_option linter.unusedSimpArgs false
set_option linter.unusedSectionVars false
open Go.RowKit Go.Sl
theorem xLoad : ExtF Tryz.prog 93 (Extern.Atomic.loadT (.int .u32)) := ⟨_, Tryz.func93, by kernel_rfl, by kernel_rfl, by kernel_rfl, by kernel_rfl⟩
theorem xStore : ExtF Tryz.prog 110 Extern.Atomic.storeT := ⟨_, Tryz.func110, by kernel_rfl, by kernel_rfl, by kernel_rfl, by kernel_rfl⟩
theorem xCas : ExtF Tryz.prog 122 (Extern.Atomic.casT (.int .i32)) := ⟨_, Tryz.func122, by kernel_rfl, by kernel_rfl, by kernel_rfl, by kernel_rfl⟩
theorem xAdd : ExtF Tryz.prog 127 (Extern.Atomic.update (Op.intArith .add) .i32 true) := ⟨_, Tryz.func127, by kernel_rfl, by kernel_rfl, by kernel_rfl, by kernel_rfl⟩
theorem xDis : ExtF Tryz.prog 121 (fun _ => do mark .disable; pure Extern.Race.none_) := ⟨_, Tryz.func121, by kernel_rfl, by kernel_rfl, by kernel_rfl, by kernel_rfl⟩
theorem xEn : ExtF Tryz.prog 123 (fun _ => do mark .enable; pure Extern.Race.none_) := ⟨_, Tryz.func123, by kernel_rfl, by kernel_rfl, by kernel_rfl, by kernel_rfl⟩
theorem xAcq : ExtF Tryz.prog 124 (Extern.Race.marked .acquire) := ⟨_, Tryz.func124, by kernel_rfl, by kernel_rfl, by kernel_rfl, by kernel_rfl⟩
theorem xRel : ExtF Tryz.prog 126 (Extern.Race.marked .releaseMerge) := ⟨_, Tryz.func126, by kernel_rfl, by kernel_rfl, by kernel_rfl, by kernel_rfl⟩
section
variable {f : Fz} {L : List Ent} {w0 w : World} {b o : Nat} {cs : Array Value} {e : TypeId} {i : Int}
set_option maxRecDepth 20000 in
set_option maxHeartbeats 4000000 in
theorem ztf (hc : Cell f L b o (.int .u32 i)) (hC : Cw w0 f L w) : Calls Tryz.prog 60 [pq b o].toArray w fun e w' => e = .returned (.bool (decide (i ≠ 0))) ∧ Cw w0 f L w' := by
  refine enter Tryz.func60 rfl Tryz.ntmps60 (by simp) hC fun a hs => ?_
  refine zai fun K1 hK1 => ?_
  refine za2 ?_
  refine sy hs (za9 rfl) ?_; clear hs; intro a w hs
  refine za0 ?_
  refine hK1 _ _ ?_; clear hK1
  refine zai fun K2 hK2 => ?_
  refine za2 ?_
  refine sy hs (za3 rfl) ?_; clear hs; intro a w hs
  refine sy hs (za5 rfl) ?_; clear hs; intro a w hs
  refine sy (v := pq b o) hs (za1 rfl (FO.of (off := 0) Tryz.underlying79 rfl rfl ti77 (by decide))) ?_; clear hs; intro a w hs
  refine sy hs (y_atLoad xLoad rfl rfl hc) ?_; clear hs; intro a w hs
  refine sy hs (zeo rfl rfl) ?_; clear hs; intro a w hs
  refine sy hs (za9 rfl) ?_; clear hs; intro a w hs
  refine za0 ?_
  refine hK2 _ _ ?_; clear hK2
  refine zax ?_
  refine RtV1 hs rfl (rv_t hs rfl) ?_
  exact ⟨rfl, hs.cw⟩
set_option maxRecDepth 20000 in
set_option maxHeartbeats 4000000 in
theorem ilock_ok (h : cs[o]? = some (.int .i32 0)) : Does Tryz.prog 108 [pq b o] f [.blk b (.cells cs e (0,0))] (fun _ f' L' => f' = f ∧ L' = [.blk b (.cells (cs.setIfInBounds o (.int .i32 1)) e (0,0))]) := by
  intro w0 L w hC
  obtain ⟨ho, hv⟩ := Array.getElem?_eq_some_iff.1 h
  replace hC : Cw w0 f (.blk b (.cells cs e (0,0)) :: L) w := hC
  refine enter Tryz.func108 rfl Tryz.ntmps108 (by simp) hC fun a hs => ?_
  refine zai fun K1 hK1 => ?_
  refine za2 ?_
  refine sy hs (zpi xDis rfl) ?_; clear hs; intro a w hs
  refine za0 ?_
  refine hK1 _ _ ?_; clear hK1
  refine zai fun K3 hK3 => ?_
  refine zai fun K2 hK2 => ?_
  refine za2 ?_
  refine sy hs (za3 rfl) ?_; clear hs; intro a w hs
  refine sy hs (za5 rfl) ?_; clear hs; intro a w hs
  refine sy (v := pq b o) hs (za1 rfl (FO.of (off := 0) U81 rfl rfl ti21 (by decide))) ?_; clear hs; intro a w hs
  refine zob (i := 0) (b := b) (o := o) (u := .bool true) (new := .int .i32 1) (vs := [pq b o, .int .i32 0, .int .i32 1]) hs rfl rfl rfl ho (fun w h1 h2 => ?_) rfl (.free rfl) (by decide) ?_
  · obtain ⟨fn, q1, q2, q3, q4, q5⟩ := xCas.ex
    rw [hv] at h1
    exact run_call_cas_hit q1 q2 q3 q4 .i32 q5 h1 h2
  clear hs; intro a w hs
  refine za0 ?_
  have hcell : Cell f (.blk b (.cells (cs.setIfInBounds o (.int .i32 1)) e (0,0)) :: L) b o (.int .i32 1) := Cell.blk (.head _) (by simp [ho])
  refine hK2 _ _ ?_; clear hK2
  refine zdq hs rfl ?_
  refine zai fun K4 hK4 => ?_
  refine zdq hs rfl ?_
  refine zai fun K5 hK5 => ?_
  refine za2 ?_
  refine sy hs (zpi xEn rfl) ?_; clear hs; intro a w hs
  refine za0 ?_
  refine hK5 _ _ ?_; clear hK5
  refine za2 ?_
  refine sy hs (za3 rfl) ?_; clear hs; intro a w hs
  refine sy hs (zng rfl Tryz.underlying188 U132 ti81 (by decide) hcell) ?_; clear hs; intro a w hs
  refine sy hs (zss xAcq rfl rfl) ?_; clear hs; intro a w hs
  refine za0 ?_
  refine hK4 _ _ ?_; clear hK4
  refine zax ?_
  refine RtV0 hs rfl ?_
  exact ⟨_, f,[_], rfl, .refl _, hs.cw, rfl, rfl⟩
set_option maxRecDepth 20000 in
set_option maxHeartbeats 4000000 in
theorem lock_ok (h : cs[o]? = some (.int .i32 0)) : Does Tryz.prog 94 [pq b o] f [.blk b (.cells cs e (0,0))] (fun _ f' L' => f' = f ∧ L' = [.blk b (.cells (cs.setIfInBounds o (.int .i32 1)) e (0,0))]) := by
  intro w0 L w hC
  replace hC : Cw w0 f (.blk b (.cells cs e (0,0)) :: L) w := hC
  refine enter Tryz.func94 rfl Tryz.ntmps94 (by simp) hC fun a hs => ?_
  refine za2 ?_
  refine sy hs (za3 rfl) ?_; clear hs; intro a w hs
  refine sy hs (za5 rfl) ?_; clear hs; intro a w hs
  refine sy (v := pq b o) hs (za1 rfl (FO.of (off := 0) Tryz.underlying83 rfl rfl ti81 (by decide))) ?_; clear hs; intro a w hs
  refine zbb (Lr := [.blk b (.cells cs e (0,0))]) (Lf := L) hs rfl has108 rfl rfl (ilock_ok h) (.free rfl) (by decide) ?_; clear hs
  rintro _ _ _ a w _ ⟨rfl, rfl⟩ hs
  refine za0 ?_
  refine RtV0 hs rfl ?_
  exact ⟨_, _,[_], rfl, .refl _, hs.cw, rfl, rfl⟩
set_option maxRecDepth 20000 in
set_option maxHeartbeats 4000000 in
theorem ztt (h : cs[o]? = some (.int .i32 1)) : Does Tryz.prog 109 [pq b o] f [.blk b (.cells cs e (0,0))] (fun _ f' L' => f' = f ∧ L' = [.blk b (.cells (cs.setIfInBounds o (.int .i32 0)) e (0,0))]) := by
  intro w0 L w hC
  obtain ⟨ho, hv⟩ := Array.getElem?_eq_some_iff.1 h
  replace hC : Cw w0 f (.blk b (.cells cs e (0,0)) :: L) w := hC
  have hcell : Cell f (.blk b (.cells cs e (0,0)) :: L) b o (.int .i32 1) := Cell.blk (.head _) h
  refine enter Tryz.func109 rfl Tryz.ntmps109 (by simp) hC fun a hs => ?_
  refine zai fun K1 hK1 => ?_
  refine zdq hs rfl ?_
  refine zai fun K2 hK2 => ?_
  refine za2 ?_
  refine sy hs (za3 rfl) ?_; clear hs; intro a w hs
  refine sy hs (za5 rfl) ?_; clear hs; intro a w hs
  refine sy (v := pq b o) hs (za1 rfl (FO.of (off := 0) U81 rfl rfl ti21 (by decide))) ?_; clear hs; intro a w hs
  refine sy hs (zu6 rfl hcell U21 rfl) ?_; clear hs; intro a w hs
  refine za0 ?_
  refine hK2 _ _ ?_; clear hK2
  refine zai fun K3 hK3 => ?_
  refine za2 ?_
  refine sy hs (za3 rfl) ?_; clear hs; intro a w hs
  refine sy hs (zng rfl Tryz.underlying188 U132 ti81 (by decide) hcell) ?_; clear hs; intro a w hs
  refine sy hs (zss xRel rfl rfl) ?_; clear hs; intro a w hs
  refine za0 ?_
  refine hK3 _ _ ?_; clear hK3
  refine za2 ?_
  refine sy hs (zpi xDis rfl) ?_; clear hs; intro a w hs
  refine za0 ?_
  refine hK1 _ _ ?_; clear hK1
  refine zai fun K4 hK4 => ?_
  refine za2 ?_
  refine sy hs (za3 rfl) ?_; clear hs; intro a w hs
  refine sy hs (za5 rfl) ?_; clear hs; intro a w hs
  refine sy (v := pq b o) hs (za1 rfl (FO.of (off := 0) U81 rfl rfl ti21 (by decide))) ?_; clear hs; intro a w hs
  refine zob (i := 0) (b := b) (o := o) (u := .int .i32 0) (new := .int .i32 0) (vs := [pq b o, .int .i32 (-1)]) hs rfl rfl rfl ho (fun w h1 h2 => ?_) rfl (.free rfl) (by decide) ?_
  · obtain ⟨fn, q1, q2, q3, q4, q5⟩ := xAdd.ex
    rw [hv] at h1
    exact run_call_add q1 q2 q3 q4 .i32 q5 (y := -1) (s := 0) h1 h2 (by simp [go_sem]; rfl)
  clear hs; intro a w hs
  refine sy hs (za9 rfl) ?_; clear hs; intro a w hs
  refine za0 ?_
  refine hK4 _ _ ?_; clear hK4
  refine zai fun K5 hK5 => ?_
  refine zai fun K6 hK6 => ?_
  refine za2 ?_
  refine sy hs (za3 rfl) ?_; clear hs; intro a w hs
  refine sy hs (zeo rfl rfl) ?_; clear hs; intro a w hs
  refine za0 ?_
  refine hK6 _ _ ?_; clear hK6
  refine zdj hs rfl ?_
  refine zaj ?_
  refine hK5 _ _ ?_; clear hK5
  refine za2 ?_
  refine sy hs (zpi xEn rfl) ?_; clear hs; intro a w hs
  refine za0 ?_
  refine RtV0 hs rfl ?_
  exact ⟨_, f,[_], rfl, .refl _, hs.cw, rfl, rfl⟩
set_option maxRecDepth 20000 in
set_option maxHeartbeats 4000000 in
theorem unlock_d {u : FrameMode} (h : cs[o]? = some (.int .i32 1)) (hC : Cw w0 f (.blk b (.cells cs e (0,0)) :: L) w) : CallsD Tryz.prog 95 [pq b o].toArray u w fun e' u' w' => u' = u ∧ (e' = .returned (.tuple #[]) ∧ Cw w0 f (.blk b (.cells (cs.setIfInBounds o (.int .i32 0)) e (0,0)) :: L) w') := by
  refine enterCD Tryz.func95 rfl Tryz.ntmps95 (by simp) hC fun a hs => ?_
  refine za2 ?_
  refine sy hs (za3 rfl) ?_; clear hs; intro a w hs
  refine sy hs (za5 rfl) ?_; clear hs; intro a w hs
  refine sy (v := pq b o) hs (za1 rfl (FO.of (off := 0) Tryz.underlying83 rfl rfl ti81 (by decide))) ?_; clear hs; intro a w hs
  refine zbb (Lr := [.blk b (.cells cs e (0,0))]) (Lf := L) hs rfl has109 rfl rfl (ztt h) (.free rfl) (by decide) ?_; clear hs
  rintro _ _ _ a w _ ⟨rfl, rfl⟩ hs
  refine za0 ?_
  refine RtV0 hs rfl ?_
  exact ⟨rfl, hs.cw⟩
theorem b32_ok : Gives Tryz.prog 111 [.bool true] f (.int .u32 1) := by
  intro w0 L w hC
  refine enter Tryz.func111 rfl Tryz.ntmps111 (by simp) hC fun a hs => ?_
  refine zai fun K1 hK1 => ?_
  refine za2 ?_
  refine sy hs (za9 rfl) ?_; clear hs; intro a w hs
  refine za0 ?_
  refine hK1 _ _ ?_; clear hK1
  refine zai fun K2 hK2 => ?_
  refine zai fun K3 hK3 => ?_
  refine za2 ?_
  refine sy hs (za3 rfl) ?_; clear hs; intro a w hs
  refine za0 ?_
  refine hK3 _ _ ?_; clear hK3
  refine zdq hs rfl ?_
  refine zai fun K4 hK4 => ?_
  refine za2 ?_
  refine sy hs (za9 rfl) ?_; clear hs; intro a w hs
  refine za0 ?_
  refine hK4 _ _ ?_; clear hK4
  refine zax ?_
  refine RtV1 hs rfl (rv_t hs rfl) ?_
  exact ⟨rfl, hs.cw⟩
set_option maxRecDepth 20000 in
set_option maxHeartbeats 4000000 in
theorem bstore_d {u : FrameMode} {x : Value} (h : cs[o]? = some x) (hC : Cw w0 f (.blk b (.cells cs e (0,0)) :: L) w) : CallsD Tryz.prog 96 [pq b o, .bool true].toArray u w fun e' u' w' => u' = u ∧ (e' = .returned (.tuple #[]) ∧ Cw w0 f (.blk b (.cells (cs.setIfInBounds o (.int .u32 1)) e (0,0)) :: L) w') := by
  obtain ⟨ho, hv⟩ := Array.getElem?_eq_some_iff.1 h
  refine enterCD Tryz.func96 rfl Tryz.ntmps96 (by simp) hC fun a hs => ?_
  refine zls hs ([]) [5] [(0, true),(1, true),(2, true),(3, true),(4, true),(5, false)] mixed (by kernel_rfl) ?_; clear hs; intro a he
  refine dy 0 he rfl (za3 rfl) ?_; clear he; intro a he
  refine dy 1 he rfl (za5 rfl) ?_; clear he; intro a he
  refine dy 2 he rfl (za1 rfl (FO.of (off := 0) Tryz.underlying79 rfl rfl ti77 (by decide))) ?_; clear he; intro a he
  refine dy 3 he rfl (za3 rfl) ?_; clear he; intro a he
  refine dcall (v := .int .u32 1) 4 he rfl rfl has111 rfl (fun f' L' w h1 h2 hw => b32_ok _ _ _ hw) ?_; clear he; intro a he
  refine zsp (i := 5) rfl he ?_; clear he; intro a w hs
  refine zob (i := 0) (b := b) (o := o) (u := .tuple #[]) (new := .int .u32 1) (vs := [pq b o, .int .u32 1]) hs rfl rfl rfl ho (fun w h1 h2 => ?_) rfl (.free rfl) (by decide) ?_
  · obtain ⟨fn, q1, q2, q3, q4, q5⟩ := xStore.ex
    exact run_call_store q1 q2 q3 q4 q5 h1 h2
  clear hs; intro a w hs
  refine dend hs ?_; clear hs; intro a he
  refine zso he ?_; clear he; intro w hs
  refine RtV0 hs rfl ?_
  exact ⟨rfl, hs.cw⟩
end
end Go.Proofs.YtpfdbeafdjnbnaaGreatDoor
