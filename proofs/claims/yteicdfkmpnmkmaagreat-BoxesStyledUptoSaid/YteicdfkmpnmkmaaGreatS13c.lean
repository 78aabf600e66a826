/-
  Walks and laws of this seat.
-/
import Derived.Test.YteicdfkmpnmkmaaGreatS13b
import Derived.Test.YteicdfkmpnmkmaaGreatRows
namespace Go.Proofs.YteicdfkmpnmkmaaGreat
set_option linter.unusedVariables false
set_option linter.unusedSimpArgs false
open Go.RowKit Go.Sl
def outerK (k : Int) : Bool := decide (k = 1) || (decide (k = 2) || decide (k = 3))
def innerK (k : Int) : Bool := !outerK k && (decide (k ≠ 4) && decide (k ≠ 5))
def flexK (k : Int) : Bool := decide (k = 7) || decide (k = 8)
def levelK (k : Int) : Bool := decide (k = 6) || (decide (k = 7) || decide (k = 8))
section
variable {f : Fz} {k n i : Int} {s : Sty} {t : ByteArray} {kv : Value}
set_option maxRecDepth 20000 in
theorem outer_ok : Gives Tryz.prog 25 [.agg (cB k n i s t kv).toArray] f (.bool (outerK k)) := by
  intro w0 L w hC
  refine enter Tryz.func25 rfl Tryz.ntmps25 (by simp) hC fun a hs => ?_
  refine W_seq fun K1 hK1 => ?_
  refine W_region ?_
  refine sbox hs rfl fun b1 _ _ hs => ?_
  refine sy hs (y_assign rfl) fun _ _ hs => ?_
  refine RL_nil ?_
  refine hK1 _ _ ?_; clear hK1
  refine W_seq fun K2 hK2 => ?_
  refine W_region ?_
  first | (refine sy hs (y_fieldAddr rfl (FO.of (off := 0) Tryz.underlying31 rfl rfl ti3 (by decide))) ?_; clear hs; (try clear a w); intro a w hs) | (refine sy hs (y_faE rfl (FO.of (off := 0) Tryz.underlying31 rfl rfl ti3 (by decide))) ?_; clear hs; (try clear a w); intro a w hs)
  first | (refine sy hs (y_ld rfl Tryz.underlying3 rfl) ?_; clear hs; (try clear a w); intro a w hs) | (refine sy hs (y_ldE rfl Tryz.underlying3 rfl) ?_; clear hs; (try clear a w); intro a w hs)
  refine sy hs (y_eql rfl rfl) fun _ _ hs => ?_
  refine sy hs (y_move rfl) fun _ _ hs => ?_
  first | refine St.splitP hs (t := 6) rfl (fun h1 hq => ?_) (fun h1 hq => ?_) | refine St.split hs (t := 6) rfl (fun h1 hq => ?_) (fun h1 hq => ?_)
  · clear hs; have hs := hq; clear hq
    refine sno hs fun _ _ hs => ?_
    refine sno hs fun _ _ hs => ?_
    refine sno hs fun _ _ hs => ?_
    refine sy hs (y_pick rfl rfl) fun _ _ hs => ?_
    refine sy hs (y_move rfl) fun _ _ hs => ?_
    refine sno hs fun _ _ hs => ?_
    refine sno hs fun _ _ hs => ?_
    refine sno hs fun _ _ hs => ?_
    refine sy hs (y_pick rfl rfl) fun _ _ hs => ?_
    refine sy hs (y_assign rfl) fun _ _ hs => ?_
    refine RL_nil ?_
    refine hK2 _ _ ?_; clear hK2
    refine W_ret ?_
    refine Rt_1 hs rfl rfl ?_
    exact ⟨by simp [outerK, h1], hs.cw.tail⟩
  · clear hs; have hs := hq; clear hq
    first | (refine syg hs (y_fieldAddr rfl (FO.of (off := 0) Tryz.underlying31 rfl rfl ti3 (by decide))) ?_; clear hs; (try clear a w); intro a w hs) | (refine syg hs (y_faE rfl (FO.of (off := 0) Tryz.underlying31 rfl rfl ti3 (by decide))) ?_; clear hs; (try clear a w); intro a w hs)
    first | (refine syg hs (y_ld rfl Tryz.underlying3 rfl) ?_; clear hs; (try clear a w); intro a w hs) | (refine syg hs (y_ldE rfl Tryz.underlying3 rfl) ?_; clear hs; (try clear a w); intro a w hs)
    refine syg hs (y_eql rfl rfl) fun _ _ hs => ?_
    refine sy hs (y_pick rfl rfl) fun _ _ hs => ?_
    refine sy hs (y_move rfl) fun _ _ hs => ?_
    first | refine St.splitP hs (t := 11) rfl (fun h2 hq => ?_) (fun h2 hq => ?_) | refine St.split hs (t := 11) rfl (fun h2 hq => ?_) (fun h2 hq => ?_)
    · clear hs; have hs := hq; clear hq
      refine sno hs fun _ _ hs => ?_
      refine sno hs fun _ _ hs => ?_
      refine sno hs fun _ _ hs => ?_
      refine sy hs (y_pick rfl rfl) fun _ _ hs => ?_
      refine sy hs (y_assign rfl) fun _ _ hs => ?_
      refine RL_nil ?_
      refine hK2 _ _ ?_; clear hK2
      refine W_ret ?_
      refine Rt_1 hs rfl rfl ?_
      exact ⟨by simp [outerK, h2], hs.cw.tail⟩
    · clear hs; have hs := hq; clear hq
      first | (refine syg hs (y_fieldAddr rfl (FO.of (off := 0) Tryz.underlying31 rfl rfl ti3 (by decide))) ?_; clear hs; (try clear a w); intro a w hs) | (refine syg hs (y_faE rfl (FO.of (off := 0) Tryz.underlying31 rfl rfl ti3 (by decide))) ?_; clear hs; (try clear a w); intro a w hs)
      first | (refine syg hs (y_ld rfl Tryz.underlying3 rfl) ?_; clear hs; (try clear a w); intro a w hs) | (refine syg hs (y_ldE rfl Tryz.underlying3 rfl) ?_; clear hs; (try clear a w); intro a w hs)
      refine syg hs (y_eql rfl rfl) fun _ _ hs => ?_
      refine sy hs (y_pick rfl rfl) fun _ _ hs => ?_
      refine sy hs (y_assign rfl) fun _ _ hs => ?_
      refine RL_nil ?_
      refine hK2 _ _ ?_; clear hK2
      refine W_ret ?_
      refine Rt_1 hs rfl rfl ?_
      exact ⟨by simp [outerK, h1, h2], hs.cw.tail⟩
set_option maxRecDepth 20000 in
theorem outer2_ok : Gives Tryz.prog 26 [.agg (cB k n i s t kv).toArray] f (.bool (outerK k)) := by
  intro w0 L w hC
  refine enter Tryz.func26 rfl Tryz.ntmps26 (by simp) hC fun a hs => ?_
  refine W_seq fun K1 hK1 => ?_
  refine W_region ?_
  refine sbox hs rfl fun b1 _ _ hs => ?_
  refine sy hs (y_assign rfl) fun _ _ hs => ?_
  refine RL_nil ?_
  refine hK1 _ _ ?_; clear hK1
  refine W_seq fun K2 hK2 => ?_
  refine W_region ?_
  first | (refine sy hs (y_fieldAddr rfl (FO.of (off := 0) Tryz.underlying44 rfl rfl ti3 (by decide))) ?_; clear hs; (try clear a w); intro a w hs) | (refine sy hs (y_faE rfl (FO.of (off := 0) Tryz.underlying44 rfl rfl ti3 (by decide))) ?_; clear hs; (try clear a w); intro a w hs)
  first | (refine sy hs (y_ld rfl Tryz.underlying3 rfl) ?_; clear hs; (try clear a w); intro a w hs) | (refine sy hs (y_ldE rfl Tryz.underlying3 rfl) ?_; clear hs; (try clear a w); intro a w hs)
  refine sy hs (y_eql rfl rfl) fun _ _ hs => ?_
  refine sy hs (y_move rfl) fun _ _ hs => ?_
  first | refine St.splitP hs (t := 6) rfl (fun h1 hq => ?_) (fun h1 hq => ?_) | refine St.split hs (t := 6) rfl (fun h1 hq => ?_) (fun h1 hq => ?_)
  · clear hs; have hs := hq; clear hq
    refine sno hs fun _ _ hs => ?_
    refine sno hs fun _ _ hs => ?_
    refine sno hs fun _ _ hs => ?_
    refine sy hs (y_pick rfl rfl) fun _ _ hs => ?_
    refine sy hs (y_move rfl) fun _ _ hs => ?_
    refine sno hs fun _ _ hs => ?_
    refine sno hs fun _ _ hs => ?_
    refine sno hs fun _ _ hs => ?_
    refine sy hs (y_pick rfl rfl) fun _ _ hs => ?_
    refine sy hs (y_assign rfl) fun _ _ hs => ?_
    refine RL_nil ?_
    refine hK2 _ _ ?_; clear hK2
    refine W_ret ?_
    refine Rt_1 hs rfl rfl ?_
    exact ⟨by simp [outerK, h1], hs.cw.tail⟩
  · clear hs; have hs := hq; clear hq
    first | (refine syg hs (y_fieldAddr rfl (FO.of (off := 0) Tryz.underlying44 rfl rfl ti3 (by decide))) ?_; clear hs; (try clear a w); intro a w hs) | (refine syg hs (y_faE rfl (FO.of (off := 0) Tryz.underlying44 rfl rfl ti3 (by decide))) ?_; clear hs; (try clear a w); intro a w hs)
    first | (refine syg hs (y_ld rfl Tryz.underlying3 rfl) ?_; clear hs; (try clear a w); intro a w hs) | (refine syg hs (y_ldE rfl Tryz.underlying3 rfl) ?_; clear hs; (try clear a w); intro a w hs)
    refine syg hs (y_eql rfl rfl) fun _ _ hs => ?_
    refine sy hs (y_pick rfl rfl) fun _ _ hs => ?_
    refine sy hs (y_move rfl) fun _ _ hs => ?_
    first | refine St.splitP hs (t := 11) rfl (fun h2 hq => ?_) (fun h2 hq => ?_) | refine St.split hs (t := 11) rfl (fun h2 hq => ?_) (fun h2 hq => ?_)
    · clear hs; have hs := hq; clear hq
      refine sno hs fun _ _ hs => ?_
      refine sno hs fun _ _ hs => ?_
      refine sno hs fun _ _ hs => ?_
      refine sy hs (y_pick rfl rfl) fun _ _ hs => ?_
      refine sy hs (y_assign rfl) fun _ _ hs => ?_
      refine RL_nil ?_
      refine hK2 _ _ ?_; clear hK2
      refine W_ret ?_
      refine Rt_1 hs rfl rfl ?_
      exact ⟨by simp [outerK, h2], hs.cw.tail⟩
    · clear hs; have hs := hq; clear hq
      first | (refine syg hs (y_fieldAddr rfl (FO.of (off := 0) Tryz.underlying44 rfl rfl ti3 (by decide))) ?_; clear hs; (try clear a w); intro a w hs) | (refine syg hs (y_faE rfl (FO.of (off := 0) Tryz.underlying44 rfl rfl ti3 (by decide))) ?_; clear hs; (try clear a w); intro a w hs)
      first | (refine syg hs (y_ld rfl Tryz.underlying3 rfl) ?_; clear hs; (try clear a w); intro a w hs) | (refine syg hs (y_ldE rfl Tryz.underlying3 rfl) ?_; clear hs; (try clear a w); intro a w hs)
      refine syg hs (y_eql rfl rfl) fun _ _ hs => ?_
      refine sy hs (y_pick rfl rfl) fun _ _ hs => ?_
      refine sy hs (y_assign rfl) fun _ _ hs => ?_
      refine RL_nil ?_
      refine hK2 _ _ ?_; clear hK2
      refine W_ret ?_
      refine Rt_1 hs rfl rfl ?_
      exact ⟨by simp [outerK, h1, h2], hs.cw.tail⟩
set_option maxRecDepth 20000 in
theorem level_ok : Gives Tryz.prog 129 [.agg (cB k n i s t kv).toArray] f (.bool (levelK k)) := by
  intro w0 L w hC
  refine enter Tryz.func129 rfl Tryz.ntmps129 (by simp) hC fun a hs => ?_
  refine W_seq fun K1 hK1 => ?_
  refine W_region ?_
  refine sbox hs rfl fun b1 _ _ hs => ?_
  refine sy hs (y_assign rfl) fun _ _ hs => ?_
  refine RL_nil ?_
  refine hK1 _ _ ?_; clear hK1
  refine W_seq fun K2 hK2 => ?_
  refine W_region ?_
  first | (refine sy hs (y_fieldAddr rfl (FO.of (off := 0) Tryz.underlying44 rfl rfl ti3 (by decide))) ?_; clear hs; (try clear a w); intro a w hs) | (refine sy hs (y_faE rfl (FO.of (off := 0) Tryz.underlying44 rfl rfl ti3 (by decide))) ?_; clear hs; (try clear a w); intro a w hs)
  first | (refine sy hs (y_ld rfl Tryz.underlying3 rfl) ?_; clear hs; (try clear a w); intro a w hs) | (refine sy hs (y_ldE rfl Tryz.underlying3 rfl) ?_; clear hs; (try clear a w); intro a w hs)
  refine sy hs (y_eql rfl rfl) fun _ _ hs => ?_
  refine sy hs (y_move rfl) fun _ _ hs => ?_
  first | refine St.splitP hs (t := 6) rfl (fun h1 hq => ?_) (fun h1 hq => ?_) | refine St.split hs (t := 6) rfl (fun h1 hq => ?_) (fun h1 hq => ?_)
  · clear hs; have hs := hq; clear hq
    refine sno hs fun _ _ hs => ?_
    refine sno hs fun _ _ hs => ?_
    refine sno hs fun _ _ hs => ?_
    refine sy hs (y_pick rfl rfl) fun _ _ hs => ?_
    refine sy hs (y_move rfl) fun _ _ hs => ?_
    refine sno hs fun _ _ hs => ?_
    refine sno hs fun _ _ hs => ?_
    refine sno hs fun _ _ hs => ?_
    refine sy hs (y_pick rfl rfl) fun _ _ hs => ?_
    refine sy hs (y_assign rfl) fun _ _ hs => ?_
    refine RL_nil ?_
    refine hK2 _ _ ?_; clear hK2
    refine W_ret ?_
    refine Rt_1 hs rfl rfl ?_
    exact ⟨by simp [levelK, h1], hs.cw.tail⟩
  · clear hs; have hs := hq; clear hq
    first | (refine syg hs (y_fieldAddr rfl (FO.of (off := 0) Tryz.underlying44 rfl rfl ti3 (by decide))) ?_; clear hs; (try clear a w); intro a w hs) | (refine syg hs (y_faE rfl (FO.of (off := 0) Tryz.underlying44 rfl rfl ti3 (by decide))) ?_; clear hs; (try clear a w); intro a w hs)
    first | (refine syg hs (y_ld rfl Tryz.underlying3 rfl) ?_; clear hs; (try clear a w); intro a w hs) | (refine syg hs (y_ldE rfl Tryz.underlying3 rfl) ?_; clear hs; (try clear a w); intro a w hs)
    refine syg hs (y_eql rfl rfl) fun _ _ hs => ?_
    refine sy hs (y_pick rfl rfl) fun _ _ hs => ?_
    refine sy hs (y_move rfl) fun _ _ hs => ?_
    first | refine St.splitP hs (t := 11) rfl (fun h2 hq => ?_) (fun h2 hq => ?_) | refine St.split hs (t := 11) rfl (fun h2 hq => ?_) (fun h2 hq => ?_)
    · clear hs; have hs := hq; clear hq
      refine sno hs fun _ _ hs => ?_
      refine sno hs fun _ _ hs => ?_
      refine sno hs fun _ _ hs => ?_
      refine sy hs (y_pick rfl rfl) fun _ _ hs => ?_
      refine sy hs (y_assign rfl) fun _ _ hs => ?_
      refine RL_nil ?_
      refine hK2 _ _ ?_; clear hK2
      refine W_ret ?_
      refine Rt_1 hs rfl rfl ?_
      exact ⟨by simp [levelK, h2], hs.cw.tail⟩
    · clear hs; have hs := hq; clear hq
      first | (refine syg hs (y_fieldAddr rfl (FO.of (off := 0) Tryz.underlying44 rfl rfl ti3 (by decide))) ?_; clear hs; (try clear a w); intro a w hs) | (refine syg hs (y_faE rfl (FO.of (off := 0) Tryz.underlying44 rfl rfl ti3 (by decide))) ?_; clear hs; (try clear a w); intro a w hs)
      first | (refine syg hs (y_ld rfl Tryz.underlying3 rfl) ?_; clear hs; (try clear a w); intro a w hs) | (refine syg hs (y_ldE rfl Tryz.underlying3 rfl) ?_; clear hs; (try clear a w); intro a w hs)
      refine syg hs (y_eql rfl rfl) fun _ _ hs => ?_
      refine sy hs (y_pick rfl rfl) fun _ _ hs => ?_
      refine sy hs (y_assign rfl) fun _ _ hs => ?_
      refine RL_nil ?_
      refine hK2 _ _ ?_; clear hK2
      refine W_ret ?_
      refine Rt_1 hs rfl rfl ?_
      exact ⟨by simp [levelK, h1, h2], hs.cw.tail⟩
set_option maxRecDepth 20000 in
theorem inner_ok (hS : s.length = 52) : Gives Tryz.prog 66 [.agg (cB k n i s t kv).toArray] f (.bool (innerK k)) := by
  intro w0 L w hC
  refine enter Tryz.func66 rfl Tryz.ntmps66 (by simp) hC fun a hs => ?_
  refine W_seq fun K1 hK1 => ?_
  refine W_region ?_
  refine sbox hs rfl fun b1 _ _ hs => ?_
  refine sy hs (y_assign rfl) fun _ _ hs => ?_
  refine RL_nil ?_
  refine hK1 _ _ ?_; clear hK1
  refine W_seq fun K2 hK2 => ?_
  refine W_region ?_
  refine sy hs (y_ldB rfl Tryz.underlying31 rfl ti31 (.head _) (by simp [cB, hS])) fun _ _ hs => ?_
  refine sy hs (y_call rfl has25 rfl outer_ok) fun _ _ hs => ?_
  refine sy hs (y_not rfl) fun _ _ hs => ?_
  refine sy hs (y_move rfl) fun _ _ hs => ?_
  first | refine St.splitP hs (t := 6) rfl (fun h1 hq => ?_) (fun h1 hq => ?_) | refine St.split hs (t := 6) rfl (fun h1 hq => ?_) (fun h1 hq => ?_)
  · clear hs; have hs := hq; clear hq
    first | (refine syg hs (y_fieldAddr rfl (FO.of (off := 0) Tryz.underlying31 rfl rfl ti3 (by decide))) ?_; clear hs; (try clear a w); intro a w hs) | (refine syg hs (y_faE rfl (FO.of (off := 0) Tryz.underlying31 rfl rfl ti3 (by decide))) ?_; clear hs; (try clear a w); intro a w hs)
    first | (refine syg hs (y_ld rfl Tryz.underlying3 rfl) ?_; clear hs; (try clear a w); intro a w hs) | (refine syg hs (y_ldE rfl Tryz.underlying3 rfl) ?_; clear hs; (try clear a w); intro a w hs)
    refine syg hs (y_neq rfl rfl) fun _ _ hs => ?_
    refine sy hs (y_pick rfl rfl) fun _ _ hs => ?_
    refine sy hs (y_move rfl) fun _ _ hs => ?_
    first | refine St.splitP hs (t := 11) rfl (fun h2 hq => ?_) (fun h2 hq => ?_) | refine St.split hs (t := 11) rfl (fun h2 hq => ?_) (fun h2 hq => ?_)
    · clear hs; have hs := hq; clear hq
      first | (refine syg hs (y_fieldAddr rfl (FO.of (off := 0) Tryz.underlying31 rfl rfl ti3 (by decide))) ?_; clear hs; (try clear a w); intro a w hs) | (refine syg hs (y_faE rfl (FO.of (off := 0) Tryz.underlying31 rfl rfl ti3 (by decide))) ?_; clear hs; (try clear a w); intro a w hs)
      first | (refine syg hs (y_ld rfl Tryz.underlying3 rfl) ?_; clear hs; (try clear a w); intro a w hs) | (refine syg hs (y_ldE rfl Tryz.underlying3 rfl) ?_; clear hs; (try clear a w); intro a w hs)
      refine syg hs (y_neq rfl rfl) fun _ _ hs => ?_
      refine sy hs (y_pick rfl rfl) fun _ _ hs => ?_
      refine sy hs (y_assign rfl) fun _ _ hs => ?_
      refine RL_nil ?_
      refine hK2 _ _ ?_; clear hK2
      refine W_ret ?_
      refine Rt_1 hs rfl rfl ?_
      exact ⟨by simp only [Bool.not_eq_true'] at h1; simp [innerK, h1, h2], hs.cw.tail⟩
    · clear hs; have hs := hq; clear hq
      refine sno hs fun _ _ hs => ?_
      refine sno hs fun _ _ hs => ?_
      refine sno hs fun _ _ hs => ?_
      refine sy hs (y_pick rfl rfl) fun _ _ hs => ?_
      refine sy hs (y_assign rfl) fun _ _ hs => ?_
      refine RL_nil ?_
      refine hK2 _ _ ?_; clear hK2
      refine W_ret ?_
      refine Rt_1 hs rfl rfl ?_
      exact ⟨by simp only [Bool.not_eq_true'] at h1; simp [innerK, h1, h2], hs.cw.tail⟩
  · clear hs; have hs := hq; clear hq
    refine sno hs fun _ _ hs => ?_
    refine sno hs fun _ _ hs => ?_
    refine sno hs fun _ _ hs => ?_
    refine sy hs (y_pick rfl rfl) fun _ _ hs => ?_
    refine sy hs (y_move rfl) fun _ _ hs => ?_
    refine sno hs fun _ _ hs => ?_
    refine sno hs fun _ _ hs => ?_
    refine sno hs fun _ _ hs => ?_
    refine sy hs (y_pick rfl rfl) fun _ _ hs => ?_
    refine sy hs (y_assign rfl) fun _ _ hs => ?_
    refine RL_nil ?_
    refine hK2 _ _ ?_; clear hK2
    refine W_ret ?_
    refine Rt_1 hs rfl rfl ?_
    exact ⟨by simp only [Bool.not_eq_false'] at h1; simp [innerK, h1], hs.cw.tail⟩
set_option maxRecDepth 20000 in
theorem fit1_ok : Gives Tryz.prog 64 [.agg (cB k n i s t kv).toArray] f (.bool (decide (k ≠ 4))) := by
  intro w0 L w hC
  refine enter Tryz.func64 rfl Tryz.ntmps64 (by simp) hC fun a hs => ?_
  refine W_seq fun K1 hK1 => ?_
  refine W_region ?_
  refine sbox hs rfl fun b1 _ _ hs => ?_
  refine sy hs (y_assign rfl) fun _ _ hs => ?_
  refine RL_nil ?_
  refine hK1 _ _ ?_; clear hK1
  refine W_seq fun K2 hK2 => ?_
  refine W_region ?_
  first | (refine sy hs (y_fieldAddr rfl (FO.of (off := 0) Tryz.underlying31 rfl rfl ti3 (by decide))) ?_; clear hs; (try clear a w); intro a w hs) | (refine sy hs (y_faE rfl (FO.of (off := 0) Tryz.underlying31 rfl rfl ti3 (by decide))) ?_; clear hs; (try clear a w); intro a w hs)
  first | (refine sy hs (y_ld rfl Tryz.underlying3 rfl) ?_; clear hs; (try clear a w); intro a w hs) | (refine sy hs (y_ldE rfl Tryz.underlying3 rfl) ?_; clear hs; (try clear a w); intro a w hs)
  refine sy hs (y_neq rfl rfl) fun _ _ hs => ?_
  refine sy hs (y_assign rfl) fun _ _ hs => ?_
  refine RL_nil ?_
  refine hK2 _ _ ?_; clear hK2
  refine W_ret ?_
  refine Rt_1 hs rfl rfl ?_
  exact ⟨rfl, hs.cw.tail⟩
set_option maxRecDepth 20000 in
theorem fit2_ok : Gives Tryz.prog 65 [.agg (cB k n i s t kv).toArray] f (.bool (decide (k ≠ 5))) := by
  intro w0 L w hC
  refine enter Tryz.func65 rfl Tryz.ntmps65 (by simp) hC fun a hs => ?_
  refine W_seq fun K1 hK1 => ?_
  refine W_region ?_
  refine sbox hs rfl fun b1 _ _ hs => ?_
  refine sy hs (y_assign rfl) fun _ _ hs => ?_
  refine RL_nil ?_
  refine hK1 _ _ ?_; clear hK1
  refine W_seq fun K2 hK2 => ?_
  refine W_region ?_
  first | (refine sy hs (y_fieldAddr rfl (FO.of (off := 0) Tryz.underlying31 rfl rfl ti3 (by decide))) ?_; clear hs; (try clear a w); intro a w hs) | (refine sy hs (y_faE rfl (FO.of (off := 0) Tryz.underlying31 rfl rfl ti3 (by decide))) ?_; clear hs; (try clear a w); intro a w hs)
  first | (refine sy hs (y_ld rfl Tryz.underlying3 rfl) ?_; clear hs; (try clear a w); intro a w hs) | (refine sy hs (y_ldE rfl Tryz.underlying3 rfl) ?_; clear hs; (try clear a w); intro a w hs)
  refine sy hs (y_neq rfl rfl) fun _ _ hs => ?_
  refine sy hs (y_assign rfl) fun _ _ hs => ?_
  refine RL_nil ?_
  refine hK2 _ _ ?_; clear hK2
  refine W_ret ?_
  refine Rt_1 hs rfl rfl ?_
  exact ⟨rfl, hs.cw.tail⟩
set_option maxRecDepth 20000 in
theorem fit3_ok : Gives Tryz.prog 67 [.agg (cB k n i s t kv).toArray] f (.bool (flexK k)) := by
  intro w0 L w hC
  refine enter Tryz.func67 rfl Tryz.ntmps67 (by simp) hC fun a hs => ?_
  refine W_seq fun K1 hK1 => ?_
  refine W_region ?_
  refine sbox hs rfl fun b1 _ _ hs => ?_
  refine sy hs (y_assign rfl) fun _ _ hs => ?_
  refine RL_nil ?_
  refine hK1 _ _ ?_; clear hK1
  refine W_seq fun K2 hK2 => ?_
  refine W_region ?_
  first | (refine sy hs (y_fieldAddr rfl (FO.of (off := 0) Tryz.underlying31 rfl rfl ti3 (by decide))) ?_; clear hs; (try clear a w); intro a w hs) | (refine sy hs (y_faE rfl (FO.of (off := 0) Tryz.underlying31 rfl rfl ti3 (by decide))) ?_; clear hs; (try clear a w); intro a w hs)
  first | (refine sy hs (y_ld rfl Tryz.underlying3 rfl) ?_; clear hs; (try clear a w); intro a w hs) | (refine sy hs (y_ldE rfl Tryz.underlying3 rfl) ?_; clear hs; (try clear a w); intro a w hs)
  refine sy hs (y_eql rfl rfl) fun _ _ hs => ?_
  refine sy hs (y_move rfl) fun _ _ hs => ?_
  first | refine St.splitP hs (t := 6) rfl (fun h1 hq => ?_) (fun h1 hq => ?_) | refine St.split hs (t := 6) rfl (fun h1 hq => ?_) (fun h1 hq => ?_)
  · clear hs; have hs := hq; clear hq
    refine sno hs fun _ _ hs => ?_
    refine sno hs fun _ _ hs => ?_
    refine sno hs fun _ _ hs => ?_
    refine sy hs (y_pick rfl rfl) fun _ _ hs => ?_
    refine sy hs (y_assign rfl) fun _ _ hs => ?_
    refine RL_nil ?_
    refine hK2 _ _ ?_; clear hK2
    refine W_ret ?_
    refine Rt_1 hs rfl rfl ?_
    exact ⟨by simp [flexK, h1], hs.cw.tail⟩
  · clear hs; have hs := hq; clear hq
    first | (refine syg hs (y_fieldAddr rfl (FO.of (off := 0) Tryz.underlying31 rfl rfl ti3 (by decide))) ?_; clear hs; (try clear a w); intro a w hs) | (refine syg hs (y_faE rfl (FO.of (off := 0) Tryz.underlying31 rfl rfl ti3 (by decide))) ?_; clear hs; (try clear a w); intro a w hs)
    first | (refine syg hs (y_ld rfl Tryz.underlying3 rfl) ?_; clear hs; (try clear a w); intro a w hs) | (refine syg hs (y_ldE rfl Tryz.underlying3 rfl) ?_; clear hs; (try clear a w); intro a w hs)
    refine syg hs (y_eql rfl rfl) fun _ _ hs => ?_
    refine sy hs (y_pick rfl rfl) fun _ _ hs => ?_
    refine sy hs (y_assign rfl) fun _ _ hs => ?_
    refine RL_nil ?_
    refine hK2 _ _ ?_; clear hK2
    refine W_ret ?_
    refine Rt_1 hs rfl rfl ?_
    exact ⟨by simp [flexK, h1], hs.cw.tail⟩
end
end Go.Proofs.YteicdfkmpnmkmaaGreat
