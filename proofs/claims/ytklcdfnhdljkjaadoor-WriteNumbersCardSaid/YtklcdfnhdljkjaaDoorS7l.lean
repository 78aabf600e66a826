/-
  Walks and laws of this seat; the base is the text Base.
-/
import Derived.Test.YtklcdfnhdljkjaaDoorS7k
import Derived.Test.YtklcdfnhdljkjaaDoorRows
namespace Go.Proofs.YtklcdfnhdljkjaaDoor
open Go.RowKit Go.Sl
theorem Rt_3 {P : Program} {f : Fz} {L : List Ent} {w0 w : World} {n : Nat} {E : List (Nat × Value)} {a : Act} {fn : Func} {R : Ending → World → Prop} {t t2 t3 : Nat} {v v2 v3 : Value} (hs : St n w0 f L E a w) (hr : fn.results = #[.tmp t, .tmp t2, .tmp t3]) (hv : Sl.look E t = some v) (hv2 : Sl.look E t2 = some v2) (hv3 : Sl.look E t3 = some v3) (h : R (.returned (.tuple #[v, v2, v3])) w) : Rt P fn R a w :=
  RtV3 hs hr (rv_t hs hv) (rv_t hs hv2) (rv_t hs hv3) h
/-- Does a text begin so? -/
def pfx (s p : ByteArray) : Bool := decide (p.size ≤ s.size) && decide (s.extract 0 p.size = p)
theorem pfx_true {s p : ByteArray} (h : pfx s p = true) : p.size ≤ s.size ∧ s.extract 0 p.size = p := by simpa [pfx] using h
set_option maxRecDepth 20000 in
theorem spfx_ok {f : Fz} {s p : ByteArray} : Gives Tryd.prog 79 [.string s, .string p] f (.bool (pfx s p)) := by
  intro w0 L w hC
  refine enter Tryd.func79 rfl Tryd.ntmps79 (by simp) hC fun a hs => ?_
  refine W_seq fun K1 hK1 => ?_
  refine W_region ?_
  refine sy hs (y_assign rfl) ?_; clear hs; (try clear a w); intro a w hs
  refine RL_nil ?_
  refine hK1 _ _ ?_; clear hK1
  refine W_seq fun K2 hK2 => ?_
  refine W_region ?_
  refine sy hs (y_move rfl) ?_; clear hs; (try clear a w); intro a w hs
  refine sy hs (y_lenS rfl Tryd.underlying9) ?_; clear hs; (try clear a w); intro a w hs
  refine sy hs (y_move rfl) ?_; clear hs; (try clear a w); intro a w hs
  refine sy hs (y_lenS rfl Tryd.underlying9) ?_; clear hs; (try clear a w); intro a w hs
  refine sy hs (y_geq rfl rfl) ?_; clear hs; (try clear a w); intro a w hs
  refine sy hs (y_move rfl) ?_; clear hs; (try clear a w); intro a w hs
  first | refine St.splitP hs (t := 10) rfl (fun hle hq => ?_) (fun hle hq => ?_) | refine St.split hs (t := 10) rfl (fun hle hq => ?_) (fun hle hq => ?_)
  · clear hs; have hs := hq; clear hq
    have hle' : p.size ≤ s.size := by
      have : ((p.size : Nat) : Int) ≤ ((s.size : Nat) : Int) := by simpa using hle
      omega
    refine syg hs (y_move rfl) ?_; clear hs; (try clear a w); intro a w hs
    refine syg hs (y_move rfl) ?_; clear hs; (try clear a w); intro a w hs
    refine syg hs (y_lenS rfl Tryd.underlying9) ?_; clear hs; (try clear a w); intro a w hs
    refine syg hs (y_sliceSV (lo := 0) (hi := p.size) rfl rfl Tryd.underlying9 (.inl ⟨rfl, rfl⟩) (.inr ⟨_, rfl, rfl⟩) (Nat.zero_le _) hle') ?_; clear hs; (try clear a w); intro a w hs
    refine syg hs (y_move rfl) ?_; clear hs; (try clear a w); intro a w hs
    refine syg hs (y_seql rfl rfl) ?_; clear hs; (try clear a w); intro a w hs
    refine sy hs (y_pick rfl rfl) ?_; clear hs; (try clear a w); intro a w hs
    refine sy hs (y_assign rfl) ?_; clear hs; (try clear a w); intro a w hs
    refine RL_nil ?_
    refine hK2 _ _ ?_; clear hK2
    refine W_ret ?_
    refine Rt_1 hs rfl rfl ?_
    exact ⟨by rw [pfx, decide_eq_true hle', Bool.true_and], hs.cw⟩
  · clear hs; have hs := hq; clear hq
    have hle' : ¬ p.size ≤ s.size := by
      have : ¬ ((p.size : Nat) : Int) ≤ ((s.size : Nat) : Int) := by simpa using hle
      omega
    refine sno hs ?_; clear hs; (try clear a w); intro a w hs
    refine sno hs ?_; clear hs; (try clear a w); intro a w hs
    refine sno hs ?_; clear hs; (try clear a w); intro a w hs
    refine sno hs ?_; clear hs; (try clear a w); intro a w hs
    refine sno hs ?_; clear hs; (try clear a w); intro a w hs
    refine sno hs ?_; clear hs; (try clear a w); intro a w hs
    refine sy hs (y_pick rfl rfl) ?_; clear hs; (try clear a w); intro a w hs
    refine sy hs (y_assign rfl) ?_; clear hs; (try clear a w); intro a w hs
    refine RL_nil ?_
    refine hK2 _ _ ?_; clear hK2
    refine W_ret ?_
    refine Rt_1 hs rfl rfl ?_
    exact ⟨by rw [pfx, decide_eq_false hle', Bool.false_and], hs.cw⟩
set_option maxRecDepth 20000 in
theorem pfx_ok {f : Fz} {s p : ByteArray} : Gives Tryd.prog 70 [.string s, .string p] f (.bool (pfx s p)) := by
  intro w0 L w hC
  refine enter Tryd.func70 rfl Tryd.ntmps70 (by simp) hC fun a hs => ?_
  refine W_seq fun K1 hK1 => ?_
  refine W_region ?_
  refine sy hs (y_assign rfl) ?_; clear hs; (try clear a w); intro a w hs
  refine RL_nil ?_
  refine hK1 _ _ ?_; clear hK1
  refine W_seq fun K2 hK2 => ?_
  refine W_region ?_
  refine sy hs (y_move rfl) ?_; clear hs; (try clear a w); intro a w hs
  refine sy hs (y_move rfl) ?_; clear hs; (try clear a w); intro a w hs
  refine sy hs (y_call rfl has79 rfl spfx_ok) ?_; clear hs; (try clear a w); intro a w hs
  refine sy hs (y_assign rfl) ?_; clear hs; (try clear a w); intro a w hs
  refine RL_nil ?_
  refine hK2 _ _ ?_; clear hK2
  refine W_ret ?_
  refine Rt_1 hs rfl rfl ?_
  exact ⟨rfl, hs.cw⟩
