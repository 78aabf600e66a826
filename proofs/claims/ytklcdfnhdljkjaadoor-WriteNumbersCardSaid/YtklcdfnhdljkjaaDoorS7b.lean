/-
  Walks and laws of this seat; the base is the text Base.
-/
import Derived.Test.YtklcdfnhdljkjaaDoorS7a
namespace Go.Proofs.YtklcdfnhdljkjaaDoor
open Go.RowKit Go.Sl
section
variable {f : Fz} {L : List Ent} {w0 w : World} {b : Nat} {cs : Array Value} {e : TypeId}
set_option maxRecDepth 20000 in
set_option maxHeartbeats 4000000 in
theorem doSlow_ok {g : FuncId} {r : Value} {Q : Fz → Array Value → List Ent → Prop} (hg : Has Tryd.prog g) (h0 : cs[0]? = some (.int .u32 0)) (h1 : cs[1]? = some (.int .i32 0))
    (hp : Does Tryd.prog g [r] f [.blk b (.cells (cs.setIfInBounds 1 (.int .i32 1)) e (0, 0))] (fun _ f' L' => ∃ cs2 LX, L' = .blk b (.cells cs2 e (0, 0)) :: LX ∧ (∃ x, cs2[0]? = some x) ∧ cs2[1]? = some (.int .i32 1) ∧ Q f' cs2 LX)) :
    Does Tryd.prog 41 [.pointer (some ⟨b, 0, none⟩), .func (.func g) #[r] #[]] f [.blk b (.cells cs e (0, 0))] (fun _ f' L' => ∃ cs2 LX, L' = .blk b (.cells ((cs2.setIfInBounds 0 (.int .u32 1)).setIfInBounds 1 (.int .i32 0)) e (0, 0)) :: LX ∧ Q f' cs2 LX) := by
  intro w0 L w hC
  replace hC : Cw w0 f (.blk b (.cells cs e (0, 0)) :: L) w := hC
  refine enterDf Tryd.func41 rfl Tryd.ntmps41 (by simp) hC fun a hs => ?_
  refine WD_seq fun K1 hK1 => ?_
  refine W_region ?_
  refine sy hs (y_move rfl) ?_; clear hs; intro a w hs
  refine sy hs (y_nilCheck rfl) ?_; clear hs; intro a w hs
  refine sy (v := .pointer (some ⟨b, 1, none⟩)) hs (y_fieldAddr rfl (FO.of (off := 1) Tryd.underlying79 rfl rfl ti77 (by decide))) ?_; clear hs; intro a w hs
  refine RL_call (Lr := [.blk b (.cells cs e (0, 0))]) (Lf := L) hs rfl has45 rfl rfl (lock_ok h1) (.free rfl) (by decide) ?_; clear hs
  rintro _ _ _ a w _ ⟨rfl, rfl⟩ hs
  refine RL_nil ?_
  replace hs : St _ _ _ (.blk b (.cells (cs.setIfInBounds 1 (.int .i32 1)) e (0, 0)) :: L) _ _ _ := hs
  refine hK1 _ _ ?_; clear hK1
  refine WD_deferL rfl rfl rfl ?_
  refine sy hs (y_move rfl) ?_; clear hs; intro a w hs
  refine sy hs (y_nilCheck rfl) ?_; clear hs; intro a w hs
  refine sy (v := .pointer (some ⟨b, 1, none⟩)) hs (y_fieldAddr rfl (FO.of (off := 1) Tryd.underlying79 rfl rfl ti77 (by decide))) ?_; clear hs; intro a w hs
  refine RL_nil ?_
  refine ⟨_, resolve_fn hs.ev rfl rfl, ?_⟩
  refine WD_seq fun K2 hK2 => ?_
  refine W_region ?_
  refine sy hs (y_move rfl) ?_; clear hs; intro a w hs
  refine sy hs (y_nilCheck rfl) ?_; clear hs; intro a w hs
  refine sy (v := .pointer (some ⟨b, 0, none⟩)) hs (y_fieldAddr rfl (FO.of (off := 0) Tryd.underlying79 rfl rfl ti73 (by decide))) ?_; clear hs; intro a w hs
  refine sy hs (y_callC rfl has40 rfl (fun w hw => BLoad_ok (i := 0) (Cell.blk (.head _) (by rw [Array.getElem?_setIfInBounds]; simpa using h0)) hw)) ?_; clear hs; intro a w hs
  refine sy hs (y_not rfl) ?_; clear hs; intro a w hs
  refine RL_nil ?_
  refine hK2 _ _ ?_; clear hK2
  refine WD_condT hs rfl ?_
  refine WD_deferL rfl rfl rfl ?_
  refine sy hs (y_move rfl) ?_; clear hs; intro a w hs
  refine sy hs (y_nilCheck rfl) ?_; clear hs; intro a w hs
  refine sy (v := .pointer (some ⟨b, 0, none⟩)) hs (y_fieldAddr rfl (FO.of (off := 0) Tryd.underlying79 rfl rfl ti73 (by decide))) ?_; clear hs; intro a w hs
  refine RL_nil ?_
  refine ⟨_, resolve_fn hs.ev rfl rfl, ?_⟩
  refine WD_end ?_
  refine W_region ?_
  refine sy hs (y_move rfl) ?_; clear hs; intro a w hs
  refine RL_callF (fs := [r]) (vs := []) (Lr := [.blk b (.cells (cs.setIfInBounds 1 (.int .i32 1)) e (0, 0))]) (Lf := L) hs rfl hg rfl rfl hp (.free rfl) (by decide) ?_; clear hs
  rintro _ f2 _ a w hf2 ⟨cs2, LX, rfl, ⟨x, hx⟩, hm, hQ⟩ hs
  refine RL_nil ?_
  replace hs : St _ _ _ (.blk b (.cells cs2 e (0, 0)) :: (LX ++ L)) _ _ _ := hs
  refine leaves_cons (f := 47) (args := #[.pointer (some ⟨b, 0, none⟩), .bool true]) (by simp) (by simp [invoke, run_callFunc has47]) ?_
  refine CallsD.mono (bstore_d hx hs.cw) ?_
  rintro _ _ w ⟨rfl, rfl, hC⟩
  refine leaves_cons (f := 46) (args := #[.pointer (some ⟨b, 1, none⟩)]) (by simp [settle]) (by simp [invoke, run_callFunc has46]) ?_
  refine CallsD.mono (unlock_d (o := 1) (by rw [Array.getElem?_setIfInBounds]; simpa using hm) hC) ?_
  rintro _ _ w ⟨rfl, rfl, hC⟩
  exact ⟨_, results_none rfl _ _ _, _, f2, _, rfl, hf2, hC, cs2, LX, rfl, hQ⟩
set_option maxRecDepth 20000 in
set_option maxHeartbeats 4000000 in
theorem Do_ok {g : FuncId} {r : Value} {Q : Fz → Array Value → List Ent → Prop} (hg : Has Tryd.prog g) (h0 : cs[0]? = some (.int .u32 0)) (h1 : cs[1]? = some (.int .i32 0))
    (hp : Does Tryd.prog g [r] f [.blk b (.cells (cs.setIfInBounds 1 (.int .i32 1)) e (0, 0))] (fun _ f' L' => ∃ cs2 LX, L' = .blk b (.cells cs2 e (0, 0)) :: LX ∧ (∃ x, cs2[0]? = some x) ∧ cs2[1]? = some (.int .i32 1) ∧ Q f' cs2 LX)) :
    Does Tryd.prog 34 [.pointer (some ⟨b, 0, none⟩), .func (.func g) #[r] #[]] f [.blk b (.cells cs e (0, 0))] (fun _ f' L' => ∃ cs2 LX, L' = .blk b (.cells ((cs2.setIfInBounds 0 (.int .u32 1)).setIfInBounds 1 (.int .i32 0)) e (0, 0)) :: LX ∧ Q f' cs2 LX) := by
  intro w0 L w hC
  replace hC : Cw w0 f (.blk b (.cells cs e (0, 0)) :: L) w := hC
  refine enter Tryd.func34 rfl Tryd.ntmps34 (by simp) hC fun a hs => ?_
  refine W_seq fun K1 hK1 => ?_
  refine W_region ?_
  refine sy hs (y_move rfl) ?_; clear hs; intro a w hs
  refine sy hs (y_nilCheck rfl) ?_; clear hs; intro a w hs
  refine sy (v := .pointer (some ⟨b, 0, none⟩)) hs (y_fieldAddr rfl (FO.of (off := 0) Tryd.underlying79 rfl rfl ti73 (by decide))) ?_; clear hs; intro a w hs
  refine sy hs (y_callC rfl has40 rfl (fun w hw => BLoad_ok (i := 0) (Cell.blk (.head _) h0) hw)) ?_; clear hs; intro a w hs
  refine sy hs (y_not rfl) ?_; clear hs; intro a w hs
  refine RL_nil ?_
  refine hK1 _ _ ?_; clear hK1
  refine W_condT hs rfl ?_
  refine W_region ?_
  refine sy hs (y_move rfl) ?_; clear hs; intro a w hs
  refine sy hs (y_move rfl) ?_; clear hs; intro a w hs
  refine RL_call (Lr := [.blk b (.cells cs e (0, 0))]) (Lf := L) hs rfl has41 rfl rfl (doSlow_ok hg h0 h1 hp) (.free rfl) (by decide) ?_; clear hs
  rintro _ f2 _ a w hf2 ⟨cs2, LX, rfl, hQ⟩ hs
  refine RL_nil ?_
  refine RtV0 hs rfl ?_
  exact ⟨_, f2, _, rfl, hf2, hs.cw, cs2, LX, rfl, hQ⟩
end
end Go.Proofs.YtklcdfnhdljkjaaDoor
