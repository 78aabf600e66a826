/-
  Walks and laws of this seat.
-/
import Derived.Test.YteicdfkmpnmkmaaGreatS13a
import Derived.Test.YteicdfkmpnmkmaaGreatL13b
import Derived.Test.YteicdfkmpnmkmaaGreatRows
namespace Go.Proofs.YteicdfkmpnmkmaaGreat
set_option linter.unusedVariables false
set_option linter.unusedSimpArgs false
open Go.RowKit Go.Sl
def initS : Sty := [.int .i64 0, .int .i64 0, .int .i64 0, .int .i64 0, .int .i64 0, .int .i64 0, .int .i64 0, .int .i64 0, .int .i64 1, .int .i64 0, .int .i64 1, .int .i64 0, .int .i64 1, .int .i64 0, .int .i64 1, .int .i64 0, .int .i64 1, .int .i64 0, .int .i64 1, .int .i64 0, .int .i64 1, .int .i64 0, .int .i64 1, .int .i64 0, .int .i64 0, .int .i64 0, .int .i64 0, .int .i64 0, .int .i64 0, .int .i64 0, .int .i64 0, .int .i64 0, .int .i64 0, .int .i64 0, .int .i64 0, .int .i64 0, .int .u32 255, .int .u32 0, .int .i64 1024, .int .i64 (-1), .int .i64 0, .bool false, .bool false, .bool false, .bool false, .int .i64 0, .int .i64 1, .int .i64 0, .int .i64 0, .int .i64 4, .int .i64 0, .bool false]
theorem initS_one : ∀ x ∈ initS, x.oneCell' = true := by decide
def firstS (s : Sty) : Sty := (((((initS.set 36 (s.getD 36 undef)).set 38 (s.getD 38 undef)).set 39 (s.getD 39 undef)).set 40 (s.getD 40 undef)).set 41 (s.getD 41 undef)).set 42 (s.getD 42 undef)
theorem init_ok {f : Fz} : Gives Tryz.prog 143 [] f (.agg initS.toArray) := cascade_initial_ok 0 rfl
theorem init2_ok {f : Fz} : Gives Tryz.prog 82 [] f (.agg initS.toArray) := ref12_Initial_ok 0 rfl
section
variable {s : Sty}
theorem StyOK.at (h : StyOK s) {j : Nat} (hj : j < 52) : s.toArray[j]? = some (s.getD j undef) := by
  have := h.len
  rw [List.getElem?_toArray, List.getElem?_eq_getElem (by omega), List.getD_eq_getElem?_getD, List.getElem?_eq_getElem (by omega)]; rfl
theorem StyOK.one1 (h : StyOK s) {j : Nat} (hj : j < 52) : (s.getD j undef).oneCell' = true := by
  have := h.len
  rw [List.getD_eq_getElem?_getD, List.getElem?_eq_getElem (by omega)]
  exact h.one _ (List.getElem_mem _)
end
theorem first_one {s : Sty} (hS : StyOK s) : ∀ x ∈ firstS s, x.oneCell' = true := by
  have key : ∀ (l : Sty) (j : Nat) (v : Value), (∀ x ∈ l, x.oneCell' = true) → v.oneCell' = true → ∀ x ∈ l.set j v, x.oneCell' = true := fun l j v hl hv x hx => by
    rcases List.mem_or_eq_of_mem_set hx with h | h
    · exact hl x h
    · rw [h]; exact hv
  exact key _ _ _ (key _ _ _ (key _ _ _ (key _ _ _ (key _ _ _ (key _ _ _ initS_one (hS.one1 (by decide))) (hS.one1 (by decide))) (hS.one1 (by decide))) (hS.one1 (by decide))) (hS.one1 (by decide))) (hS.one1 (by decide))
set_option maxRecDepth 20000 in
set_option maxHeartbeats 8000000 in
theorem first_ok {f : Fz} {s : Sty} (hS : StyOK s) : Gives Tryz.prog 128 [.agg s.toArray, .bool false] f (.agg (firstS s).toArray) := by
  intro w0 L w hC
  refine enter Tryz.func128 rfl Tryz.ntmps128 (by simp) hC fun a hs => ?_
  refine W_seq fun K1 hK1 => ?_
  refine W_region ?_
  refine sbox hs rfl fun b2 _ _ hs => ?_
  refine RL_alloc hs ti28 (.free rfl) (by decide) fun b4 _ _ hs => ?_
  refine RL_nil ?_
  refine hK1 _ _ ?_; clear hK1
  refine W_seq fun K2 hK2 => ?_
  refine W_region ?_
  refine sy hs (y_call rfl has143 rfl init_ok) fun _ _ hs => ?_
  refine RL_alloc hs ti28 (.free rfl) (by decide) fun b5 _ _ hs => ?_
  refine RL_storeAll (i := 0) hs rfl rfl rfl ti28 ⟨rfl, rfl⟩ (Array.all_eq_true'.2 fun x hx => initS_one x (by simpa using hx)) (.free rfl) fun _ _ hs => ?_
  refine RL_nil ?_
  refine hK2 _ _ ?_; clear hK2
  refine W_seq fun K3 hK3 => ?_
  refine W_seq fun K4 hK4 => ?_
  refine W_region ?_
  refine sy hs (y_move rfl) fun _ _ hs => ?_
  refine sy hs (y_not rfl) fun _ _ hs => ?_
  refine RL_nil ?_
  refine hK4 _ _ ?_; clear hK4
  refine W_condT hs rfl ?_
  refine D_start hs ([.blk b2 (.cells s.toArray 28 (0, 0))]) [23] [(0, true), (1, true), (2, true), (3, true), (4, true), (5, true), (6, true), (7, true), (8, true), (9, true), (10, true), (11, true), (12, true), (13, false), (14, true), (15, false), (16, true), (17, false), (18, true), (19, false), (20, true), (21, false), (22, true), (23, false)] mixed (by kernel_rfl) fun _ he => ?_
  first | (refine dy 0 he rfl (y_fieldAddr rfl (FO.of (off := 36) Tryz.underlying28 rfl rfl ti26 (by decide))) ?_; clear he; (try clear a); intro a he) | (refine dy 0 he rfl (y_faE rfl (FO.of (off := 36) Tryz.underlying28 rfl rfl ti26 (by decide))) ?_; clear he; (try clear a); intro a he)
  refine dy 1 he rfl (y_ld (u := s.getD 36 undef) rfl Tryz.underlying26 rfl (Cell.blk (.head _) (hS.at (by decide)))) fun _ he => ?_
  first | (refine dy 2 he rfl (y_fieldAddr rfl (FO.of (off := 38) Tryz.underlying28 rfl rfl ti2 (by decide))) ?_; clear he; (try clear a); intro a he) | (refine dy 2 he rfl (y_faE rfl (FO.of (off := 38) Tryz.underlying28 rfl rfl ti2 (by decide))) ?_; clear he; (try clear a); intro a he)
  refine dy 3 he rfl (y_ld (u := s.getD 38 undef) rfl Tryz.underlying2 rfl (Cell.blk (.head _) (hS.at (by decide)))) fun _ he => ?_
  first | (refine dy 4 he rfl (y_fieldAddr rfl (FO.of (off := 39) Tryz.underlying28 rfl rfl ti2 (by decide))) ?_; clear he; (try clear a); intro a he) | (refine dy 4 he rfl (y_faE rfl (FO.of (off := 39) Tryz.underlying28 rfl rfl ti2 (by decide))) ?_; clear he; (try clear a); intro a he)
  refine dy 5 he rfl (y_ld (u := s.getD 39 undef) rfl Tryz.underlying2 rfl (Cell.blk (.head _) (hS.at (by decide)))) fun _ he => ?_
  first | (refine dy 6 he rfl (y_fieldAddr rfl (FO.of (off := 40) Tryz.underlying28 rfl rfl ti3 (by decide))) ?_; clear he; (try clear a); intro a he) | (refine dy 6 he rfl (y_faE rfl (FO.of (off := 40) Tryz.underlying28 rfl rfl ti3 (by decide))) ?_; clear he; (try clear a); intro a he)
  refine dy 7 he rfl (y_ld (u := s.getD 40 undef) rfl Tryz.underlying3 rfl (Cell.blk (.head _) (hS.at (by decide)))) fun _ he => ?_
  first | (refine dy 8 he rfl (y_fieldAddr rfl (FO.of (off := 41) Tryz.underlying28 rfl rfl ti4 (by decide))) ?_; clear he; (try clear a); intro a he) | (refine dy 8 he rfl (y_faE rfl (FO.of (off := 41) Tryz.underlying28 rfl rfl ti4 (by decide))) ?_; clear he; (try clear a); intro a he)
  refine dy 9 he rfl (y_ld (u := s.getD 41 undef) rfl Tryz.underlying4 rfl (Cell.blk (.head _) (hS.at (by decide)))) fun _ he => ?_
  first | (refine dy 10 he rfl (y_fieldAddr rfl (FO.of (off := 42) Tryz.underlying28 rfl rfl ti4 (by decide))) ?_; clear he; (try clear a); intro a he) | (refine dy 10 he rfl (y_faE rfl (FO.of (off := 42) Tryz.underlying28 rfl rfl ti4 (by decide))) ?_; clear he; (try clear a); intro a he)
  refine dy 11 he rfl (y_ld (u := s.getD 42 undef) rfl Tryz.underlying4 rfl (Cell.blk (.head _) (hS.at (by decide)))) fun _ he => ?_
  first | (refine dy 12 he rfl (y_fieldAddr rfl (FO.of (off := 36) Tryz.underlying28 rfl rfl ti26 (by decide))) ?_; clear he; (try clear a); intro a he) | (refine dy 12 he rfl (y_faE rfl (FO.of (off := 36) Tryz.underlying28 rfl rfl ti26 (by decide))) ?_; clear he; (try clear a); intro a he)
  refine D_eff (i := 13) rfl he ?_; clear he; (try clear a); intro a w hs
  refine RL_storeBlk (i := 0) (o := 36) (u := s.getD 36 undef) hs rfl rfl rfl ti26 (hS.one1 (by decide)) (by simp [initS]) (by rw [List.setIfInBounds_toArray]) (.free rfl) fun _ _ hs => ?_
  refine don hs fun _ he => ?_
  first | (refine dy 14 he rfl (y_fieldAddr rfl (FO.of (off := 38) Tryz.underlying28 rfl rfl ti2 (by decide))) ?_; clear he; (try clear a); intro a he) | (refine dy 14 he rfl (y_faE rfl (FO.of (off := 38) Tryz.underlying28 rfl rfl ti2 (by decide))) ?_; clear he; (try clear a); intro a he)
  refine D_eff (i := 15) rfl he ?_; clear he; (try clear a); intro a w hs
  refine RL_storeBlk (i := 0) (o := 38) (u := s.getD 38 undef) hs rfl rfl rfl ti2 (hS.one1 (by decide)) (by simp [initS]) (by rw [List.setIfInBounds_toArray]) (.free rfl) fun _ _ hs => ?_
  refine don hs fun _ he => ?_
  first | (refine dy 16 he rfl (y_fieldAddr rfl (FO.of (off := 39) Tryz.underlying28 rfl rfl ti2 (by decide))) ?_; clear he; (try clear a); intro a he) | (refine dy 16 he rfl (y_faE rfl (FO.of (off := 39) Tryz.underlying28 rfl rfl ti2 (by decide))) ?_; clear he; (try clear a); intro a he)
  refine D_eff (i := 17) rfl he ?_; clear he; (try clear a); intro a w hs
  refine RL_storeBlk (i := 0) (o := 39) (u := s.getD 39 undef) hs rfl rfl rfl ti2 (hS.one1 (by decide)) (by simp [initS]) (by rw [List.setIfInBounds_toArray]) (.free rfl) fun _ _ hs => ?_
  refine don hs fun _ he => ?_
  first | (refine dy 18 he rfl (y_fieldAddr rfl (FO.of (off := 40) Tryz.underlying28 rfl rfl ti3 (by decide))) ?_; clear he; (try clear a); intro a he) | (refine dy 18 he rfl (y_faE rfl (FO.of (off := 40) Tryz.underlying28 rfl rfl ti3 (by decide))) ?_; clear he; (try clear a); intro a he)
  refine D_eff (i := 19) rfl he ?_; clear he; (try clear a); intro a w hs
  refine RL_storeBlk (i := 0) (o := 40) (u := s.getD 40 undef) hs rfl rfl rfl ti3 (hS.one1 (by decide)) (by simp [initS]) (by rw [List.setIfInBounds_toArray]) (.free rfl) fun _ _ hs => ?_
  refine don hs fun _ he => ?_
  first | (refine dy 20 he rfl (y_fieldAddr rfl (FO.of (off := 41) Tryz.underlying28 rfl rfl ti4 (by decide))) ?_; clear he; (try clear a); intro a he) | (refine dy 20 he rfl (y_faE rfl (FO.of (off := 41) Tryz.underlying28 rfl rfl ti4 (by decide))) ?_; clear he; (try clear a); intro a he)
  refine D_eff (i := 21) rfl he ?_; clear he; (try clear a); intro a w hs
  refine RL_storeBlk (i := 0) (o := 41) (u := s.getD 41 undef) hs rfl rfl rfl ti4 (hS.one1 (by decide)) (by simp [initS]) (by rw [List.setIfInBounds_toArray]) (.free rfl) fun _ _ hs => ?_
  refine don hs fun _ he => ?_
  first | (refine dy 22 he rfl (y_fieldAddr rfl (FO.of (off := 42) Tryz.underlying28 rfl rfl ti4 (by decide))) ?_; clear he; (try clear a); intro a he) | (refine dy 22 he rfl (y_faE rfl (FO.of (off := 42) Tryz.underlying28 rfl rfl ti4 (by decide))) ?_; clear he; (try clear a); intro a he)
  refine D_eff (i := 23) rfl he ?_; clear he; (try clear a); intro a w hs
  refine RL_storeBlk (i := 0) (o := 42) (u := s.getD 42 undef) hs rfl rfl rfl ti4 (hS.one1 (by decide)) (by simp [initS]) (by rw [List.setIfInBounds_toArray]) (.free rfl) fun _ _ hs => ?_
  refine dend hs fun _ he => ?_
  refine D_nil he ?_; clear he; (try clear a); intro w hs
  refine hK3 _ _ ?_; clear hK3
  refine W_seq fun K5 hK5 => ?_
  refine W_region ?_
  refine sy hs (y_ldB rfl Tryz.underlying28 rfl ti28 (.head _) (by simp [initS])) fun _ _ hs => ?_
  refine RL_storeAll (i := 1) hs rfl rfl rfl ti28 ⟨rfl, by simp [initS]⟩ ?_ (.free rfl) ?_
  · refine Array.all_eq_true'.2 fun x hx => first_one hS x (by simpa [firstS] using hx)
  clear hs; (try clear a w); intro a w hs
  refine RL_nil ?_
  refine hK5 _ _ ?_; clear hK5
  refine W_ret ?_
  refine RtV1 hs rfl (rv_a hs rfl Tryz.underlying28 rfl ti28 (fun j u hj => Cell.blk (.tail _ (.head _)) hj) (by simp [initS])) ?_
  exact ⟨rfl, hs.cw.sub (.cons _ (.cons _ (.cons _ (List.Sublist.refl _))))⟩
set_option maxRecDepth 20000 in
set_option maxHeartbeats 8000000 in
theorem first2_ok {f : Fz} {s : Sty} (hS : StyOK s) : Gives Tryz.prog 77 [.agg s.toArray, .bool false] f (.agg (firstS s).toArray) := by
  intro w0 L w hC
  refine enter Tryz.func77 rfl Tryz.ntmps77 (by simp) hC fun a hs => ?_
  refine W_seq fun K1 hK1 => ?_
  refine W_region ?_
  refine sbox hs rfl fun b2 _ _ hs => ?_
  refine RL_alloc hs ti28 (.free rfl) (by decide) fun b4 _ _ hs => ?_
  refine RL_nil ?_
  refine hK1 _ _ ?_; clear hK1
  refine W_seq fun K2 hK2 => ?_
  refine W_region ?_
  refine sy hs (y_call rfl has82 rfl init2_ok) fun _ _ hs => ?_
  refine RL_alloc hs ti28 (.free rfl) (by decide) fun b5 _ _ hs => ?_
  refine RL_storeAll (i := 0) hs rfl rfl rfl ti28 ⟨rfl, rfl⟩ (Array.all_eq_true'.2 fun x hx => initS_one x (by simpa using hx)) (.free rfl) fun _ _ hs => ?_
  refine RL_nil ?_
  refine hK2 _ _ ?_; clear hK2
  refine W_seq fun K3 hK3 => ?_
  refine W_seq fun K4 hK4 => ?_
  refine W_region ?_
  refine sy hs (y_move rfl) fun _ _ hs => ?_
  refine sy hs (y_not rfl) fun _ _ hs => ?_
  refine RL_nil ?_
  refine hK4 _ _ ?_; clear hK4
  refine W_condT hs rfl ?_
  refine W_seq fun K5 hK5 => ?_
  refine W_region ?_
  first | (refine sy hs (y_fieldAddr rfl (FO.of (off := 36) Tryz.underlying28 rfl rfl ti26 (by decide))) ?_; clear hs; (try clear a w); intro a w hs) | (refine sy hs (y_faE rfl (FO.of (off := 36) Tryz.underlying28 rfl rfl ti26 (by decide))) ?_; clear hs; (try clear a w); intro a w hs)
  refine sy hs (y_ld (u := s.getD 36 undef) rfl Tryz.underlying26 rfl (Cell.blk (.tail _ (.tail _ (.head _))) (hS.at (by decide)))) fun _ _ hs => ?_
  first | (refine sy hs (y_fieldAddr rfl (FO.of (off := 36) Tryz.underlying28 rfl rfl ti26 (by decide))) ?_; clear hs; (try clear a w); intro a w hs) | (refine sy hs (y_faE rfl (FO.of (off := 36) Tryz.underlying28 rfl rfl ti26 (by decide))) ?_; clear hs; (try clear a w); intro a w hs)
  refine RL_storeBlk (i := 0) (o := 36) (u := s.getD 36 undef) hs rfl rfl rfl ti26 (hS.one1 (by decide)) (by simp [initS]) (by rw [List.setIfInBounds_toArray]) (.free rfl) fun _ _ hs => ?_
  refine RL_nil ?_
  refine hK5 _ _ ?_; clear hK5
  refine W_seq fun K6 hK6 => ?_
  refine W_region ?_
  first | (refine sy hs (y_fieldAddr rfl (FO.of (off := 38) Tryz.underlying28 rfl rfl ti2 (by decide))) ?_; clear hs; (try clear a w); intro a w hs) | (refine sy hs (y_faE rfl (FO.of (off := 38) Tryz.underlying28 rfl rfl ti2 (by decide))) ?_; clear hs; (try clear a w); intro a w hs)
  refine sy hs (y_ld (u := s.getD 38 undef) rfl Tryz.underlying2 rfl (Cell.blk (.tail _ (.tail _ (.head _))) (hS.at (by decide)))) fun _ _ hs => ?_
  first | (refine sy hs (y_fieldAddr rfl (FO.of (off := 38) Tryz.underlying28 rfl rfl ti2 (by decide))) ?_; clear hs; (try clear a w); intro a w hs) | (refine sy hs (y_faE rfl (FO.of (off := 38) Tryz.underlying28 rfl rfl ti2 (by decide))) ?_; clear hs; (try clear a w); intro a w hs)
  refine RL_storeBlk (i := 0) (o := 38) (u := s.getD 38 undef) hs rfl rfl rfl ti2 (hS.one1 (by decide)) (by simp [initS]) (by rw [List.setIfInBounds_toArray]) (.free rfl) fun _ _ hs => ?_
  refine RL_nil ?_
  refine hK6 _ _ ?_; clear hK6
  refine W_seq fun K7 hK7 => ?_
  refine W_region ?_
  first | (refine sy hs (y_fieldAddr rfl (FO.of (off := 39) Tryz.underlying28 rfl rfl ti2 (by decide))) ?_; clear hs; (try clear a w); intro a w hs) | (refine sy hs (y_faE rfl (FO.of (off := 39) Tryz.underlying28 rfl rfl ti2 (by decide))) ?_; clear hs; (try clear a w); intro a w hs)
  refine sy hs (y_ld (u := s.getD 39 undef) rfl Tryz.underlying2 rfl (Cell.blk (.tail _ (.tail _ (.head _))) (hS.at (by decide)))) fun _ _ hs => ?_
  first | (refine sy hs (y_fieldAddr rfl (FO.of (off := 39) Tryz.underlying28 rfl rfl ti2 (by decide))) ?_; clear hs; (try clear a w); intro a w hs) | (refine sy hs (y_faE rfl (FO.of (off := 39) Tryz.underlying28 rfl rfl ti2 (by decide))) ?_; clear hs; (try clear a w); intro a w hs)
  refine RL_storeBlk (i := 0) (o := 39) (u := s.getD 39 undef) hs rfl rfl rfl ti2 (hS.one1 (by decide)) (by simp [initS]) (by rw [List.setIfInBounds_toArray]) (.free rfl) fun _ _ hs => ?_
  refine RL_nil ?_
  refine hK7 _ _ ?_; clear hK7
  refine W_seq fun K8 hK8 => ?_
  refine W_region ?_
  first | (refine sy hs (y_fieldAddr rfl (FO.of (off := 40) Tryz.underlying28 rfl rfl ti3 (by decide))) ?_; clear hs; (try clear a w); intro a w hs) | (refine sy hs (y_faE rfl (FO.of (off := 40) Tryz.underlying28 rfl rfl ti3 (by decide))) ?_; clear hs; (try clear a w); intro a w hs)
  refine sy hs (y_ld (u := s.getD 40 undef) rfl Tryz.underlying3 rfl (Cell.blk (.tail _ (.tail _ (.head _))) (hS.at (by decide)))) fun _ _ hs => ?_
  first | (refine sy hs (y_fieldAddr rfl (FO.of (off := 40) Tryz.underlying28 rfl rfl ti3 (by decide))) ?_; clear hs; (try clear a w); intro a w hs) | (refine sy hs (y_faE rfl (FO.of (off := 40) Tryz.underlying28 rfl rfl ti3 (by decide))) ?_; clear hs; (try clear a w); intro a w hs)
  refine RL_storeBlk (i := 0) (o := 40) (u := s.getD 40 undef) hs rfl rfl rfl ti3 (hS.one1 (by decide)) (by simp [initS]) (by rw [List.setIfInBounds_toArray]) (.free rfl) fun _ _ hs => ?_
  refine RL_nil ?_
  refine hK8 _ _ ?_; clear hK8
  refine W_seq fun K9 hK9 => ?_
  refine W_region ?_
  first | (refine sy hs (y_fieldAddr rfl (FO.of (off := 41) Tryz.underlying28 rfl rfl ti4 (by decide))) ?_; clear hs; (try clear a w); intro a w hs) | (refine sy hs (y_faE rfl (FO.of (off := 41) Tryz.underlying28 rfl rfl ti4 (by decide))) ?_; clear hs; (try clear a w); intro a w hs)
  refine sy hs (y_ld (u := s.getD 41 undef) rfl Tryz.underlying4 rfl (Cell.blk (.tail _ (.tail _ (.head _))) (hS.at (by decide)))) fun _ _ hs => ?_
  first | (refine sy hs (y_fieldAddr rfl (FO.of (off := 41) Tryz.underlying28 rfl rfl ti4 (by decide))) ?_; clear hs; (try clear a w); intro a w hs) | (refine sy hs (y_faE rfl (FO.of (off := 41) Tryz.underlying28 rfl rfl ti4 (by decide))) ?_; clear hs; (try clear a w); intro a w hs)
  refine RL_storeBlk (i := 0) (o := 41) (u := s.getD 41 undef) hs rfl rfl rfl ti4 (hS.one1 (by decide)) (by simp [initS]) (by rw [List.setIfInBounds_toArray]) (.free rfl) fun _ _ hs => ?_
  refine RL_nil ?_
  refine hK9 _ _ ?_; clear hK9
  refine W_region ?_
  first | (refine sy hs (y_fieldAddr rfl (FO.of (off := 42) Tryz.underlying28 rfl rfl ti4 (by decide))) ?_; clear hs; (try clear a w); intro a w hs) | (refine sy hs (y_faE rfl (FO.of (off := 42) Tryz.underlying28 rfl rfl ti4 (by decide))) ?_; clear hs; (try clear a w); intro a w hs)
  refine sy hs (y_ld (u := s.getD 42 undef) rfl Tryz.underlying4 rfl (Cell.blk (.tail _ (.tail _ (.head _))) (hS.at (by decide)))) fun _ _ hs => ?_
  first | (refine sy hs (y_fieldAddr rfl (FO.of (off := 42) Tryz.underlying28 rfl rfl ti4 (by decide))) ?_; clear hs; (try clear a w); intro a w hs) | (refine sy hs (y_faE rfl (FO.of (off := 42) Tryz.underlying28 rfl rfl ti4 (by decide))) ?_; clear hs; (try clear a w); intro a w hs)
  refine RL_storeBlk (i := 0) (o := 42) (u := s.getD 42 undef) hs rfl rfl rfl ti4 (hS.one1 (by decide)) (by simp [initS]) (by rw [List.setIfInBounds_toArray]) (.free rfl) fun _ _ hs => ?_
  refine RL_nil ?_
  refine hK3 _ _ ?_; clear hK3
  refine W_seq fun K10 hK10 => ?_
  refine W_region ?_
  refine sy hs (y_ldB rfl Tryz.underlying28 rfl ti28 (.head _) (by simp [initS])) fun _ _ hs => ?_
  refine RL_storeAll (i := 1) hs rfl rfl rfl ti28 ⟨rfl, by simp [initS]⟩ ?_ (.free rfl) ?_
  · refine Array.all_eq_true'.2 fun x hx => first_one hS x (by simpa [firstS] using hx)
  clear hs; (try clear a w); intro a w hs
  refine RL_nil ?_
  refine hK10 _ _ ?_; clear hK10
  refine W_ret ?_
  refine RtV1 hs rfl (rv_a hs rfl Tryz.underlying28 rfl ti28 (fun j u hj => Cell.blk (.tail _ (.head _)) hj) (by simp [initS])) ?_
  exact ⟨rfl, hs.cw.sub (.cons _ (.cons _ (.cons _ (List.Sublist.refl _))))⟩
end Go.Proofs.YteicdfkmpnmkmaaGreat
