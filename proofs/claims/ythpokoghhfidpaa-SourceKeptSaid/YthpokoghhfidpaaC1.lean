/-
  Walks and laws of this seat; the base is the text Base.
-/
import Derived.Test.YthpokoghhfidpaaBase
import Derived.Test.YthpokoghhfidpaaRows
import Derived.Test.YthpokoghhfidpaaT1
namespace Go.Proofs.Ythpokoghhfidpaa
open Go.RowKit Go.Sl

abbrev bl (xs : List Int) : List (List Value) := xs.map fun x => [.int .u8 x]

theorem Same_u8 {f : Fz} {v1 v2 : Value} {xs ys : List Int} (h1 : Rd f [] v1 1 (bl xs)) (h2 : Rd f [] v2 1 (bl ys)) (hm : xs.length ≤ 9223372036854775807) :
    Gives Try.prog 22 [v1, v2] f (.bool (decide (xs = ys))) := by
  intro w0 L w hC
  refine enter Try.func22 rfl Try.ntmps22 (by simp) hC fun a hs => ?_
  refine W_seq fun K1 hK1 => ?_
  refine W_region ?_
  refine sy hs (y_assign rfl) ?_; clear hs; (try clear a w); intro a w hs
  refine RL_nil ?_
  refine hK1 _ _ ?_; clear hK1
  refine W_seq fun K2 hK2 => ?_
  refine W_seq fun K3 hK3 => ?_
  refine W_region ?_
  refine sy hs (y_move rfl) ?_; clear hs; (try clear a w); intro a w hs
  first | (refine sy hs (y_lenM rfl Try.underlying22) ?_; clear hs; (try clear a w); intro a w hs) | (refine sy hs (y_lenR rfl Try.underlying22) ?_; clear hs; (try clear a w); intro a w hs) | (refine sy hs (y_len rfl Try.underlying22) ?_; clear hs; (try clear a w); intro a w hs)
  refine sy hs (y_move rfl) ?_; clear hs; (try clear a w); intro a w hs
  first | (refine sy hs (y_lenM rfl Try.underlying22) ?_; clear hs; (try clear a w); intro a w hs) | (refine sy hs (y_lenR rfl Try.underlying22) ?_; clear hs; (try clear a w); intro a w hs) | (refine sy hs (y_len rfl Try.underlying22) ?_; clear hs; (try clear a w); intro a w hs)
  refine sy hs (y_neq rfl rfl) ?_; clear hs; (try clear a w); intro a w hs
  refine RL_nil ?_
  refine hK3 _ _ ?_; clear hK3
  first | refine W_condP hs rfl (fun hc => ?_) (fun hc => ?_) | refine W_cond hs rfl (fun hc => ?_) (fun hc => ?_)
  · refine W_seq fun K4 hK4 => ?_
    refine W_region ?_
    refine sy hs (y_assign rfl) ?_; clear hs; (try clear a w); intro a w hs
    refine RL_nil ?_
    refine hK4 _ _ ?_; clear hK4
    refine W_ret ?_
    refine Rt_1 hs rfl rfl ?_
    exact ⟨by rw [decide_eq_false (fun e => hc (by rw [e]))], hs.cw⟩
  · refine W_skip ?_
    refine hK2 _ _ ?_; clear hK2
    refine W_seq fun K5 hK5 => ?_
    refine W_seq fun K6 hK6 => ?_
    refine W_region ?_
    refine sy hs (y_assign rfl) ?_; clear hs; (try clear a w); intro a w hs
    refine RL_nil ?_
    refine hK6 _ _ ?_; clear hK6
    refine W_block fun Qe7 hB7 hO7 => ?_
    have hl : xs.length = ys.length := by omega
    refine W_loop (fun (k : Nat) a w => k ≤ xs.length ∧ xs.take k = ys.take k ∧ St 26 w0 f L [(0, v1), (1, v2), (5, .int .i64 k)] a w) (fun k => xs.length - k) 0 ⟨by omega, rfl, hs.sub ⟨rfl, rfl, rfl, trivial⟩⟩ ?_
    clear hs; rintro k a w ⟨hk, ht, hs⟩ K hK
    refine W_seq fun K8 hK8 => ?_
    refine W_seq fun K9 hK9 => ?_
    refine W_region ?_
    refine sy hs (y_move rfl) ?_; clear hs; (try clear a w); intro a w hs
    refine sy hs (y_move rfl) ?_; clear hs; (try clear a w); intro a w hs
    first | (refine sy hs (y_lenM rfl Try.underlying22) ?_; clear hs; (try clear a w); intro a w hs) | (refine sy hs (y_lenR rfl Try.underlying22) ?_; clear hs; (try clear a w); intro a w hs) | (refine sy hs (y_len rfl Try.underlying22) ?_; clear hs; (try clear a w); intro a w hs)
    refine sy hs (y_lss rfl rfl) ?_; clear hs; (try clear a w); intro a w hs
    refine RL_nil ?_
    refine hK9 _ _ ?_; clear hK9
    first | refine W_condP hs rfl (fun hlt => ?_) (fun hlt => ?_) | refine W_cond hs rfl (fun hlt => ?_) (fun hlt => ?_)
    · obtain ⟨x, hx⟩ : ∃ x, xs[k]? = some x := ⟨_, List.getElem?_eq_getElem (by omega)⟩
      obtain ⟨y, hy⟩ : ∃ x, ys[k]? = some x := ⟨_, List.getElem?_eq_getElem (by omega)⟩
      refine W_skip ?_
      refine hK8 _ _ ?_; clear hK8
      refine W_seq fun K10 hK10 => ?_
      refine W_block fun Qe11 hB11 hO11 => ?_
      refine W_seq fun K12 hK12 => ?_
      refine W_draw hs mixed (by kernel_rfl) ?_; intro a he
      refine qy he (y_move rfl) ?_; clear he; (try clear a); intro a he
      refine qy he (y_move rfl) ?_; clear he; (try clear a); intro a he
      first | (refine qy he (y_ix rfl rfl Try.underlying22 ti5 rfl) ?_; clear he; (try clear a); intro a he) | (refine qy he (y_ix rfl rfl Try.underlying22 ti5 (ix_of (by omega))) ?_; clear he; (try clear a); intro a he)
      first | (refine qy he (y_ld rfl Try.underlying5 rfl) ?_; clear he; (try clear a); intro a he) | (refine qy he (y_ldE rfl Try.underlying5 rfl) ?_; clear he; (try clear a); intro a he)
      refine qy he (y_move rfl) ?_; clear he; (try clear a); intro a he
      refine qy he (y_move rfl) ?_; clear he; (try clear a); intro a he
      first | (refine qy he (y_ix rfl rfl Try.underlying22 ti5 rfl) ?_; clear he; (try clear a); intro a he) | (refine qy he (y_ix rfl rfl Try.underlying22 ti5 (ix_of (by omega))) ?_; clear he; (try clear a); intro a he)
      first | (refine qy he (y_ld rfl Try.underlying5 rfl) ?_; clear he; (try clear a); intro a he) | (refine qy he (y_ldE rfl Try.underlying5 rfl) ?_; clear he; (try clear a); intro a he)
      refine qy he (y_neq rfl rfl) ?_; clear he; (try clear a); intro a he
      refine QL_nil he ?_; clear he hs; intro a w hs
      refine hK12 _ _ ?_; clear hK12
      first | refine W_condP hs rfl (fun hne => ?_) (fun hne => ?_) | refine W_cond hs rfl (fun hne => ?_) (fun hne => ?_)
      · refine W_seq fun K13 hK13 => ?_
        refine W_region ?_
        refine sy hs (y_assign rfl) ?_; clear hs; (try clear a w); intro a w hs
        refine RL_nil ?_
        refine hK13 _ _ ?_; clear hK13
        refine W_ret ?_
        refine Rt_1 hs rfl rfl ?_
        exact ⟨by rw [decide_eq_false (fun e => hne (by rw [e, hy] at hx; cases hx; rfl))], hs.cw⟩
      · refine W_skip ?_
        refine hK10 _ _ ?_; clear hK10
        refine W_region ?_
        refine sy hs (y_move rfl) ?_; clear hs; (try clear a w); intro a w hs
        refine sy hs (y_add rfl rfl (wr_i64 (by omega))) ?_; clear hs; (try clear a w); intro a w hs
        refine sy hs (y_assign rfl) ?_; clear hs; (try clear a w); intro a w hs
        refine RL_nil ?_
        exact hK (k + 1) _ _ (by omega) ⟨by omega, take_eq_succ ht hx hy (by simpa using hne), hs.sub ⟨rfl, rfl, rfl, trivial⟩⟩
    · refine W_exit ?_
      refine hB7 _ _ ?_
      refine hK5 _ _ ?_; clear hK5
      refine W_seq fun K14 hK14 => ?_
      refine W_region ?_
      refine sy hs (y_assign rfl) ?_; clear hs; (try clear a w); intro a w hs
      refine RL_nil ?_
      refine hK14 _ _ ?_; clear hK14
      refine W_ret ?_
      refine Rt_1 hs rfl rfl ?_
      have : xs = ys := by
        rw [List.take_of_length_le (by omega), List.take_of_length_le (by omega)] at ht; exact ht
      exact ⟨by rw [decide_eq_true this], hs.cw⟩

