/-
  Walks and laws of this seat; the base is the text Base.
-/
import Derived.Test.YthpokoghhfidpaaBase
import Derived.Test.YthpokoghhfidpaaRows
import Derived.Test.YthpokoghhfidpaaT1
import Derived.Test.YthpokoghhfidpaaC1
import Derived.Test.YthpokoghhfidpaaC2
namespace Go.Proofs.Ythpokoghhfidpaa
open Go.RowKit Go.Sl

theorem Same_i32 {f : Fz} {v1 v2 : Value} {xs ys : List Int} (h1 : Rd f [] v1 1 (rl xs)) (h2 : Rd f [] v2 1 (rl ys)) (hm : xs.length ≤ 9223372036854775807) :
    Gives Try.prog 12 [v1, v2] f (.bool (decide (xs = ys))) := by
  intro w0 L w hC
  refine enter Try.func12 rfl Try.ntmps12 (by simp) hC fun a hs => ?_
  refine W_seq fun K1 hK1 => ?_
  refine W_region ?_
  refine sy hs (y_assign rfl) ?_; clear hs; (try clear a w); intro a w hs
  refine RL_nil ?_
  refine hK1 _ _ ?_; clear hK1
  refine W_seq fun K2 hK2 => ?_
  refine W_seq fun K3 hK3 => ?_
  refine W_region ?_
  refine sy hs (y_move rfl) ?_; clear hs; (try clear a w); intro a w hs
  first | (refine sy hs (y_lenM rfl Try.underlying24) ?_; clear hs; (try clear a w); intro a w hs) | (refine sy hs (y_lenR rfl Try.underlying24) ?_; clear hs; (try clear a w); intro a w hs) | (refine sy hs (y_len rfl Try.underlying24) ?_; clear hs; (try clear a w); intro a w hs)
  refine sy hs (y_move rfl) ?_; clear hs; (try clear a w); intro a w hs
  first | (refine sy hs (y_lenM rfl Try.underlying24) ?_; clear hs; (try clear a w); intro a w hs) | (refine sy hs (y_lenR rfl Try.underlying24) ?_; clear hs; (try clear a w); intro a w hs) | (refine sy hs (y_len rfl Try.underlying24) ?_; clear hs; (try clear a w); intro a w hs)
  refine sy hs (y_neq rfl rfl) ?_; clear hs; (try clear a w); intro a w hs
  refine RL_nil ?_
  refine hK3 _ _ ?_; clear hK3
  first | refine W_condP hs rfl (fun hc => ?_) (fun hc => ?_) | refine W_cond hs rfl (fun hc => ?_) (fun hc => ?_)
  · refine W_seq fun K4 hK4 => ?_
    refine W_region ?_
    refine sy hs (y_assign rfl) ?_; clear hs; (try clear a w); intro a w hs
    refine RL_nil ?_
    refine hK4 _ _ ?_; clear hK4
    refine W_ret ?_
    refine Rt_1 hs rfl rfl ?_
    exact ⟨by rw [decide_eq_false (fun e => hc (by rw [e]))], hs.cw⟩
  · refine W_skip ?_
    refine hK2 _ _ ?_; clear hK2
    refine W_seq fun K5 hK5 => ?_
    refine W_seq fun K6 hK6 => ?_
    refine W_region ?_
    refine sy hs (y_assign rfl) ?_; clear hs; (try clear a w); intro a w hs
    refine RL_nil ?_
    refine hK6 _ _ ?_; clear hK6
    refine W_block fun Qe7 hB7 hO7 => ?_
    have hl : xs.length = ys.length := by omega
    refine W_loop (fun (k : Nat) a w => k ≤ xs.length ∧ xs.take k = ys.take k ∧ St 26 w0 f L [(0, v1), (1, v2), (5, .int .i64 k)] a w) (fun k => xs.length - k) 0 ⟨by omega, rfl, hs.sub ⟨rfl, rfl, rfl, trivial⟩⟩ ?_
    clear hs; rintro k a w ⟨hk, ht, hs⟩ K hK
    refine W_seq fun K8 hK8 => ?_
    refine W_seq fun K9 hK9 => ?_
    refine W_region ?_
    refine sy hs (y_move rfl) ?_; clear hs; (try clear a w); intro a w hs
    refine sy hs (y_move rfl) ?_; clear hs; (try clear a w); intro a w hs
    first | (refine sy hs (y_lenM rfl Try.underlying24) ?_; clear hs; (try clear a w); intro a w hs) | (refine sy hs (y_lenR rfl Try.underlying24) ?_; clear hs; (try clear a w); intro a w hs) | (refine sy hs (y_len rfl Try.underlying24) ?_; clear hs; (try clear a w); intro a w hs)
    refine sy hs (y_lss rfl rfl) ?_; clear hs; (try clear a w); intro a w hs
    refine RL_nil ?_
    refine hK9 _ _ ?_; clear hK9
    first | refine W_condP hs rfl (fun hlt => ?_) (fun hlt => ?_) | refine W_cond hs rfl (fun hlt => ?_) (fun hlt => ?_)
    · obtain ⟨x, hx⟩ : ∃ x, xs[k]? = some x := ⟨_, List.getElem?_eq_getElem (by omega)⟩
      obtain ⟨y, hy⟩ : ∃ x, ys[k]? = some x := ⟨_, List.getElem?_eq_getElem (by omega)⟩
      refine W_skip ?_
      refine hK8 _ _ ?_; clear hK8
      refine W_seq fun K10 hK10 => ?_
      refine W_block fun Qe11 hB11 hO11 => ?_
      refine W_seq fun K12 hK12 => ?_
      refine W_draw hs mixed (by kernel_rfl) ?_; intro a he
      refine qy he (y_move rfl) ?_; clear he; (try clear a); intro a he
      refine qy he (y_move rfl) ?_; clear he; (try clear a); intro a he
      first | (refine qy he (y_ix rfl rfl Try.underlying24 ti21 rfl) ?_; clear he; (try clear a); intro a he) | (refine qy he (y_ix rfl rfl Try.underlying24 ti21 (ix_of (by omega))) ?_; clear he; (try clear a); intro a he)
      first | (refine qy he (y_ld rfl Try.underlying21 rfl) ?_; clear he; (try clear a); intro a he) | (refine qy he (y_ldE rfl Try.underlying21 rfl) ?_; clear he; (try clear a); intro a he)
      refine qy he (y_move rfl) ?_; clear he; (try clear a); intro a he
      refine qy he (y_move rfl) ?_; clear he; (try clear a); intro a he
      first | (refine qy he (y_ix rfl rfl Try.underlying24 ti21 rfl) ?_; clear he; (try clear a); intro a he) | (refine qy he (y_ix rfl rfl Try.underlying24 ti21 (ix_of (by omega))) ?_; clear he; (try clear a); intro a he)
      first | (refine qy he (y_ld rfl Try.underlying21 rfl) ?_; clear he; (try clear a); intro a he) | (refine qy he (y_ldE rfl Try.underlying21 rfl) ?_; clear he; (try clear a); intro a he)
      refine qy he (y_neq rfl rfl) ?_; clear he; (try clear a); intro a he
      refine QL_nil he ?_; clear he hs; intro a w hs
      refine hK12 _ _ ?_; clear hK12
      first | refine W_condP hs rfl (fun hne => ?_) (fun hne => ?_) | refine W_cond hs rfl (fun hne => ?_) (fun hne => ?_)
      · refine W_seq fun K13 hK13 => ?_
        refine W_region ?_
        refine sy hs (y_assign rfl) ?_; clear hs; (try clear a w); intro a w hs
        refine RL_nil ?_
        refine hK13 _ _ ?_; clear hK13
        refine W_ret ?_
        refine Rt_1 hs rfl rfl ?_
        exact ⟨by rw [decide_eq_false (fun e => hne (by rw [e, hy] at hx; cases hx; rfl))], hs.cw⟩
      · refine W_skip ?_
        refine hK10 _ _ ?_; clear hK10
        refine W_region ?_
        refine sy hs (y_move rfl) ?_; clear hs; (try clear a w); intro a w hs
        refine sy hs (y_add rfl rfl (wr_i64 (by omega))) ?_; clear hs; (try clear a w); intro a w hs
        refine sy hs (y_assign rfl) ?_; clear hs; (try clear a w); intro a w hs
        refine RL_nil ?_
        exact hK (k + 1) _ _ (by omega) ⟨by omega, take_eq_succ ht hx hy (by simpa using hne), hs.sub ⟨rfl, rfl, rfl, trivial⟩⟩
    · refine W_exit ?_
      refine hB7 _ _ ?_
      refine hK5 _ _ ?_; clear hK5
      refine W_seq fun K14 hK14 => ?_
      refine W_region ?_
      refine sy hs (y_assign rfl) ?_; clear hs; (try clear a w); intro a w hs
      refine RL_nil ?_
      refine hK14 _ _ ?_; clear hK14
      refine W_ret ?_
      refine Rt_1 hs rfl rfl ?_
      have : xs = ys := by
        rw [List.take_of_length_le (by omega), List.take_of_length_le (by omega)] at ht; exact ht
      exact ⟨by rw [decide_eq_true this], hs.cw⟩


theorem set_append_replicate {α : Type} (xs : List α) (k m : Nat) (z x : α) (h : k < m) : (xs ++ List.replicate k x ++ List.replicate (m - k) z).set (xs.length + k) x = xs ++ List.replicate (k + 1) x ++ List.replicate (m - (k + 1)) z := by
  rw [List.set_append_right _ _ (by simp), List.length_append, List.length_replicate, Nat.sub_self]
  obtain ⟨q, hq⟩ : ∃ q, m - k = q + 1 := ⟨m - k - 1, by omega⟩
  rw [hq, List.replicate_succ, List.set_cons_zero, show m - (k + 1) = q by omega, List.replicate_succ']
  simp

theorem Roomy_u8 {f : Fz} {v : Value} {xs : List Int} {m : Int} (h1 : Rd f [] v 1 (bl xs)) (hm : xs.length ≤ 140737488355328) :
    Does Try.prog 8 [v, .int .u8 m] f [] (fun r f' L' => f' = f ∧ L' = [.row r 5 1 (bl (xs ++ List.replicate 80 m))]) := by
  intro w0 L w hC
  replace hC : Cw w0 f L w := hC
  refine enter Try.func8 rfl Try.ntmps8 (by simp) hC fun a hs => ?_
  refine W_seq fun K1 hK1 => ?_
  refine W_region ?_
  refine sy hs (y_assign rfl) ?_; clear hs; (try clear a w); intro a w hs
  refine RL_nil ?_
  refine hK1 _ _ ?_; clear hK1
  refine W_seq fun K2 hK2 => ?_
  refine W_region ?_
  refine sy hs (y_move rfl) ?_; clear hs; (try clear a w); intro a w hs
  first | (refine sy hs (y_lenM rfl Try.underlying22) ?_; clear hs; (try clear a w); intro a w hs) | (refine sy hs (y_lenR rfl Try.underlying22) ?_; clear hs; (try clear a w); intro a w hs) | (refine sy hs (y_len rfl Try.underlying22) ?_; clear hs; (try clear a w); intro a w hs)
  refine sy hs (y_add rfl rfl (wr_i64 (by omega))) ?_; clear hs; (try clear a w); intro a w hs
  refine RL_make (m := xs.length + 80) hs rfl rfl Try.underlying22 ti5 (by decide) ⟨rfl, by simp [Value.cells, Value.oneCell']⟩ (by omega) ?_; clear hs; (try clear a w); intro vf a w hs
  refine sy hs (y_assign rfl) ?_; clear hs; (try clear a w); intro a w hs
  refine RL_nil ?_
  refine hK2 _ _ ?_; clear hK2
  refine W_seq fun K3 hK3 => ?_
  refine W_region ?_
  refine sy hs (y_move rfl) ?_; clear hs; (try clear a w); intro a w hs
  refine sy hs (y_move rfl) ?_; clear hs; (try clear a w); intro a w hs
  refine RL_copy (i := 0) hs rfl rfl rfl h1.up Try.underlying22 ti5 ?_; clear hs; (try clear a w); intro a w hs
  refine RL_nil ?_
  refine hK3 _ _ ?_; clear hK3
  have e1 : ((bl xs).take (List.replicate (xs.length + 80) (Value.int .u8 0).cells.toList).length ++ (List.replicate (xs.length + 80) (Value.int .u8 0).cells.toList).drop (bl xs).length) = bl (xs ++ List.replicate 0 m ++ List.replicate (80 - 0) 0) := by
    simp [Value.cells, List.take_of_length_le]
  simp only [List.set_cons_zero] at hs
  rw [e1] at hs
  clear e1
  refine W_seq fun K4 hK4 => ?_
  refine W_seq fun K5 hK5 => ?_
  refine W_region ?_
  refine sy hs (y_move rfl) ?_; clear hs; (try clear a w); intro a w hs
  first | (refine sy hs (y_lenM rfl Try.underlying22) ?_; clear hs; (try clear a w); intro a w hs) | (refine sy hs (y_lenR rfl Try.underlying22) ?_; clear hs; (try clear a w); intro a w hs) | (refine sy hs (y_len rfl Try.underlying22) ?_; clear hs; (try clear a w); intro a w hs)
  refine sy hs (y_assign rfl) ?_; clear hs; (try clear a w); intro a w hs
  refine RL_nil ?_
  refine hK5 _ _ ?_; clear hK5
  refine W_block fun Qe6 hB6 hO6 => ?_
  refine W_loop (fun (k : Nat) a w => k ≤ 80 ∧ St 27 w0 f (.row vf 5 1 (bl (xs ++ List.replicate k m ++ List.replicate (80 - k) 0)) :: L) [(1, .int .u8 m), (5, vf), (6, .int .i64 (xs.length + k : Nat))] a w) (fun k => 80 - k) 0 ⟨by omega, hs.sub ⟨rfl, rfl, rfl, trivial⟩⟩ ?_
  clear hs; rintro k a w ⟨hk, hs⟩ K hK
  have hlen : (xs ++ List.replicate k m ++ List.replicate (80 - k) 0).length = xs.length + 80 := by simp; omega
  refine W_seq fun K7 hK7 => ?_
  refine W_seq fun K8 hK8 => ?_
  refine W_region ?_
  refine sy hs (y_move rfl) ?_; clear hs; (try clear a w); intro a w hs
  refine sy hs (y_move rfl) ?_; clear hs; (try clear a w); intro a w hs
  first | (refine sy hs (y_lenM rfl Try.underlying22) ?_; clear hs; (try clear a w); intro a w hs) | (refine sy hs (y_lenR rfl Try.underlying22) ?_; clear hs; (try clear a w); intro a w hs) | (refine sy hs (y_len rfl Try.underlying22) ?_; clear hs; (try clear a w); intro a w hs)
  refine sy hs (y_lss rfl rfl) ?_; clear hs; (try clear a w); intro a w hs
  refine RL_nil ?_
  refine hK8 _ _ ?_; clear hK8
  first | refine W_condP hs rfl (fun hlt => ?_) (fun hlt => ?_) | refine W_cond hs rfl (fun hlt => ?_) (fun hlt => ?_)
  · refine W_skip ?_
    refine hK7 _ _ ?_; clear hK7
    refine W_seq fun K9 hK9 => ?_
    refine W_block fun Qe10 hB10 hO10 => ?_
    refine W_region ?_
    refine sy hs (y_move rfl) ?_; clear hs; (try clear a w); intro a w hs
    refine sy hs (y_move rfl) ?_; clear hs; (try clear a w); intro a w hs
    refine sy hs (y_move rfl) ?_; clear hs; (try clear a w); intro a w hs
    first | (refine sy hs (y_ix rfl rfl Try.underlying22 ti5 rfl) ?_; clear hs; (try clear a w); intro a w hs) | (refine sy hs (y_ix rfl rfl Try.underlying22 ti5 (ix_of (by omega))) ?_; clear hs; (try clear a w); intro a w hs)
    refine RL_storeRow (i := 0) (m := xs.length + k) (j := 0) (r := [.int .u8 ((xs ++ List.replicate k m ++ List.replicate (80 - k) 0)[xs.length + k]'(by omega))]) hs rfl rfl rfl (map_get (List.getElem?_eq_getElem (by omega))) (by decide) ti5 rfl (.free rfl) ?_; clear hs; (try clear a w); intro a w hs
    refine RL_nil ?_
    refine hK9 _ _ ?_; clear hK9
    refine W_region ?_
    refine sy hs (y_move rfl) ?_; clear hs; (try clear a w); intro a w hs
    refine sy hs (y_add rfl rfl (wr_i64 (by omega))) ?_; clear hs; (try clear a w); intro a w hs
    refine sy hs (y_assign rfl) ?_; clear hs; (try clear a w); intro a w hs
    refine RL_nil ?_
    have e1 : (bl (xs ++ List.replicate k m ++ List.replicate (80 - k) 0)).set (xs.length + k) ([Value.int .u8 ((xs ++ List.replicate k m ++ List.replicate (80 - k) 0)[xs.length + k]'(by omega))].set 0 (.int .u8 m)) = bl (xs ++ List.replicate (k + 1) m ++ List.replicate (80 - (k + 1)) 0) := by
      rw [← set_append_replicate xs k 80 0 m (by omega), List.set_cons_zero, ← List.map_set]
    simp only [List.set_cons_zero (a := Ent.row _ _ _ _)] at hs
    rw [e1] at hs
    exact hK (k + 1) _ _ (by omega) ⟨by omega, hs.sub ⟨rfl, rfl, rfl, trivial⟩⟩
  · refine W_exit ?_
    refine hB6 _ _ ?_
    refine hK4 _ _ ?_; clear hK4
    refine W_seq fun K11 hK11 => ?_
    refine W_region ?_
    refine sy hs (y_move rfl) ?_; clear hs; (try clear a w); intro a w hs
    refine sy hs (y_assign rfl) ?_; clear hs; (try clear a w); intro a w hs
    refine RL_nil ?_
    refine hK11 _ _ ?_; clear hK11
    refine W_ret ?_
    refine Rt_1 hs rfl rfl ?_
    obtain rfl : k = 80 := by omega
    exact ⟨_, f, [.row vf 5 1 _], rfl, .refl f, hs.cw, rfl, by simp⟩

