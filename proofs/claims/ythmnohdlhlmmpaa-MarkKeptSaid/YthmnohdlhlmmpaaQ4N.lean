/-
  Walks and laws of this seat; the base is the text Base.
-/
import Derived.Test.YthmnohdlhlmmpaaQ4M
namespace Go.Proofs.Ythmnohdlhlmmpaa
open Go.RowKit Go.Sl
variable {n : Nat} {pre r : List Int} {out : List mark_Token}
/-! Small letters. -/
def lowX (x : Int) : Int := bif (decide (65 ≤ x)) && (decide (x ≤ 90)) then x + 32 else x
def smallL (xs : List Int) : ByteArray := textOf (xs.map lowX)
theorem small_l2 (xs : List Int) (hb : xs.length ≤ 1000000000) : ∀ (d : Nat) (ys zs : List Int) (k : Nat), ys ++ zs = xs → zs.length = d → d + 1 ≤ k →
    mark_small_l2 xs k (ys.map lowX ++ zs) (ys.length : Int) = some (smallL xs)
  | 0, ys, zs, k, he, hd, hk => by
    obtain ⟨k, rfl⟩ : ∃ i, k = i + 1 := ⟨k - 1, by omega⟩
    obtain rfl : zs = [] := List.length_eq_zero_iff.1 hd
    rw [List.append_nil] at he
    subst he
    rw [mark_small_l2, dF (by omega), List.append_nil]; rfl
  | d + 1, ys, [], k, he, hd, hk => by simp at hd
  | d + 1, ys, x :: zs, k, he, hd, hk => by
    obtain ⟨k, rfl⟩ : ∃ i, k = i + 1 := ⟨k - 1, by omega⟩
    have hlen : ys.length + (zs.length + 1) = xs.length := by rw [← he]; simp
    have hg : geti (ys.map lowX ++ x :: zs) (ys.length : Int) = some x := by rw [geti_nat, List.getElem?_append_right (by simp)]; simp
    have ih := small_l2 xs hb d (ys ++ [x]) zs k (by simpa using he) (by simpa using hd) (by omega)
    simp only [List.map_append, List.map_cons, List.map_nil, List.append_assoc, List.singleton_append, List.length_append, List.length_singleton] at ih
    rw [mark_small_l2, dT (by omega), hg, Option.bind_some]
    unfold mark_small_k3
    cases hx : (decide (65 ≤ x)) && (decide (x ≤ 90)) with
    | true =>
      have hx2 := hx
      simp only [Bool.and_eq_true, decide_eq_true_eq] at hx2
      have hw : IntKind.i32.wrap (IntKind.i32.wrap (x + 97) - 65) = lowX x := by
        unfold lowX
        rw [hx, cond_true]
        have h1 : IntKind.i32.wrap (x + 97) = x + 97 := wr_i32 (by omega)
        rw [h1, wr_i32 (by omega)]; omega
      rw [cond_true, Option.bind_some, hw]
      have hs : seti (ys.map lowX ++ x :: zs) (ys.length : Int) (lowX x) = some (ys.map lowX ++ lowX x :: zs) := by
        unfold seti
        simp
      rw [hs, Option.bind_some, w64_succ (by omega)]
      exact ih
    | false =>
      have hw : lowX x = x := by unfold lowX; rw [hx, cond_false]
      rw [cond_false, w64_succ (by omega)]
      rw [hw] at ih
      exact ih
theorem mark_small_eq (xs : List Int) (hb : xs.length ≤ 1000000000) (hn : xs.length + 1 ≤ n) : mark_small n xs = some (smallL xs) := by
  unfold mark_small
  rw [appM_eq (by simp; omega), Option.bind_some, List.nil_append]
  exact small_l2 xs hb xs.length [] xs n rfl rfl hn
/-! Skipping. -/
def skipS (xs : List Int) : List Int → List Int
  | [] => []
  | x :: r => bif xs.isPrefixOf (x :: r) then (x :: r).drop xs.length else skipS xs r
theorem skip_l3 (p0 : mark_cutter) (xs : List Int) (hx : xs.length ≤ 1000) : ∀ (d j : Nat) (pre r : List Int) (k : Nat), j + d = xs.length → d + 1 ≤ k → pre.length + r.length ≤ 1000000000 →
    ∃ pre', pre' ++ r.drop d = pre ++ r ∧ mark_cutter_skip_l3 n p0 xs k (pre ++ r) (pre.length : Int) (j : Int) = some (ct pre' (r.drop d) p0.out)
  | 0, j, pre, r, k, hj, hk, hb => by
    obtain ⟨k, rfl⟩ : ∃ i, k = i + 1 := ⟨k - 1, by omega⟩
    refine ⟨pre, rfl, ?_⟩
    rw [mark_cutter_skip_l3, dF (by omega)]; rfl
  | d + 1, j, pre, [], k, hj, hk, hb => by
    obtain ⟨k, rfl⟩ : ∃ i, k = i + 1 := ⟨k - 1, by omega⟩
    obtain ⟨pre', h1, h2⟩ := skip_l3 p0 xs hx d (j + 1) pre [] k (by omega) (by omega) hb
    rw [List.drop_nil] at h1 h2 ⊢
    refine ⟨pre', h1, ?_⟩
    rw [mark_cutter_skip_l3, dT (by omega), cur_next_nil hb, Option.bind_some, w64_succ (by omega)]
    exact h2
  | d + 1, j, pre, x :: r, k, hj, hk, hb => by
    obtain ⟨k, rfl⟩ : ∃ i, k = i + 1 := ⟨k - 1, by omega⟩
    obtain ⟨pre', h1, h2⟩ := skip_l3 p0 xs hx d (j + 1) (pre ++ [x]) r k (by omega) (by omega) (by simp at hb ⊢; omega)
    refine ⟨pre', by simpa using h1, ?_⟩
    rw [mark_cutter_skip_l3, dT (by omega), cur_next hb, Option.bind_some, w64_succ (by omega)]
    exact h2
theorem skip_l4 (p0 : mark_cutter) {s : ByteArray} {xs : List Int} (hs : runesM s = some xs) (hx : 1 ≤ xs.length ∧ xs.length ≤ 1000) (hxn : xs.length + 1 ≤ n) : ∀ (r pre : List Int) (k : Nat), r.length + 1 ≤ k → pre.length + r.length ≤ 100000000 →
    ∃ pre', pre' ++ skipS xs r = pre ++ r ∧ mark_cutter_skip_l4 n p0 s k (pre ++ r) (pre.length : Int) = some (ct pre' (skipS xs r) p0.out)
  | [], pre, k, hk, hb => by
    obtain ⟨k, rfl⟩ : ∃ i, k = i + 1 := ⟨k - 1, by omega⟩
    obtain ⟨pre', h1, h2⟩ := skip_l3 (n := n) p0 xs hx.2 xs.length 0 pre [] n (by omega) hxn (by omega)
    rw [List.drop_nil] at h1 h2
    refine ⟨pre', h1, ?_⟩
    rw [mark_cutter_skip_l4, cur_left (by omega), Option.bind_some, dF (by simp)]
    unfold mark_cutter_skip_k5 mark_cutter_skip_k1
    rw [cond_false, hs, Option.bind_some]
    exact h2
  | x :: r, pre, k, hk, hb => by
    obtain ⟨k, rfl⟩ : ∃ i, k = i + 1 := ⟨k - 1, by omega⟩
    have hb' := hb
    simp only [List.length_cons] at hk hb
    rw [mark_cutter_skip_l4, cur_left (by omega), Option.bind_some, dT (by simp)]
    have h1 := ct_is (n := n) (pre := pre) (r := x :: r) (out := p0.out) hs hxn hx.2 (by omega) 0 (by omega)
    rw [show ((0 : Nat) : Int) = 0 from rfl, List.drop_zero] at h1
    rw [h1, Option.bind_some]
    unfold mark_cutter_skip_k5 mark_cutter_skip_k1 skipS
    cases hp : xs.isPrefixOf (x :: r) with
    | true =>
      obtain ⟨pre', h1, h2⟩ := skip_l3 (n := n) p0 xs hx.2 xs.length 0 pre (x :: r) n (by omega) hxn (by omega)
      refine ⟨pre', h1, ?_⟩
      rw [Bool.not_true, cond_false, cond_true, hs, Option.bind_some]
      exact h2
    | false =>
      obtain ⟨pre', h1, h2⟩ := skip_l4 p0 hs hx hxn r (pre ++ [x]) k (by omega) (by simp; omega)
      refine ⟨pre', by simpa using h1, ?_⟩
      rw [Bool.not_false, cond_true, cond_false, cur_next (by omega), Option.bind_some]
      exact h2
theorem ct_skip {s : ByteArray} {xs : List Int} (hs : runesM s = some xs) (hx : 1 ≤ xs.length ∧ xs.length ≤ 1000) (hxn : xs.length + 1 ≤ n) (hn : r.length + 1 ≤ n) (hb : pre.length + r.length ≤ 100000000) :
    ∃ pre', pre' ++ skipS xs r = pre ++ r ∧ mark_cutter_skip n (ct pre r out) s = some (ct pre' (skipS xs r) out) := by
  unfold mark_cutter_skip
  exact skip_l4 (ct pre r out) hs hx hxn r pre n hn hb
theorem skip4_l2 (p0 : mark_cutter) : ∀ (d j : Nat) (pre r : List Int) (k : Nat), j + d = 4 → d + 1 ≤ k → pre.length + r.length ≤ 1000000000 →
    ∃ pre', pre' ++ r.drop d = pre ++ r ∧ mark_cutter_skip4_l2 n p0 k (pre ++ r) (pre.length : Int) (j : Int) = some (ct pre' (r.drop d) p0.out)
  | 0, j, pre, r, k, hj, hk, hb => by
    obtain ⟨k, rfl⟩ : ∃ i, k = i + 1 := ⟨k - 1, by omega⟩
    refine ⟨pre, rfl, ?_⟩
    rw [mark_cutter_skip4_l2, dF (by omega)]; rfl
  | d + 1, j, pre, [], k, hj, hk, hb => by
    obtain ⟨k, rfl⟩ : ∃ i, k = i + 1 := ⟨k - 1, by omega⟩
    obtain ⟨pre', h1, h2⟩ := skip4_l2 p0 d (j + 1) pre [] k (by omega) (by omega) hb
    rw [List.drop_nil] at h1 h2 ⊢
    refine ⟨pre', h1, ?_⟩
    rw [mark_cutter_skip4_l2, dT (by omega), cur_next_nil hb, Option.bind_some, w64_succ (by omega)]
    exact h2
  | d + 1, j, pre, x :: r, k, hj, hk, hb => by
    obtain ⟨k, rfl⟩ : ∃ i, k = i + 1 := ⟨k - 1, by omega⟩
    obtain ⟨pre', h1, h2⟩ := skip4_l2 p0 d (j + 1) (pre ++ [x]) r k (by omega) (by omega) (by simp at hb ⊢; omega)
    refine ⟨pre', by simpa using h1, ?_⟩
    rw [mark_cutter_skip4_l2, dT (by omega), cur_next hb, Option.bind_some, w64_succ (by omega)]
    exact h2
theorem ct_skip4 (hn : 5 ≤ n) (hb : pre.length + r.length ≤ 1000000000) : ∃ pre', pre' ++ r.drop 4 = pre ++ r ∧ mark_cutter_skip4 n (ct pre r out) = some (ct pre' (r.drop 4) out) := by
  unfold mark_cutter_skip4
  exact skip4_l2 (ct pre r out) 4 0 pre r n (by omega) (by omega) hb
/-! Values. -/
def bareB (x : Int) : Bool := !blankB x && decide (x ≠ 62)
def valueS : List Int → Option (List Int × List Int)
  | q :: r => bif decide (q = 34) || decide (q = 39) then (match r.dropWhile (fun z => decide (z ≠ q)) with
      | [] => none
      | _ :: r' => some (r.takeWhile (fun z => decide (z ≠ q)), r')) else some ((q :: r).takeWhile bareB, (q :: r).dropWhile bareB)
  | [] => some ([], [])
theorem value1_eq (z : Int) : mark_cutter_value_1 n z = some (bareB z) := by
  unfold mark_cutter_value_1 mark_cutter_value_1_k1 mark_blank bareB blankB
  rw [Option.bind_some]
  cases ((decide (z = 9)) || ((decide (z = 10)) || ((decide (z = 12)) || (decide (z = 32))))) <;> rfl
theorem ct_value (hb : pre.length + r.length ≤ 1000000000) (hn : r.length + 1 ≤ n) : (∃ t b pre' r', valueS r = none ∧ b = false ∧ pre' ++ r' = pre ++ r ∧ mark_cutter_value n (ct pre r out) = some (t, b, ct pre' r' out)) ∨
    (∃ v r' pre', valueS r = some (v, r') ∧ pre' ++ r' = pre ++ r ∧ mark_cutter_value n (ct pre r out) = some (textOf v, true, ct pre' r' out)) := by
  unfold mark_cutter_value
  have h2 := ct_peek (n := n) (out := out) 0 (by omega) hb
  rw [show ((0 : Nat) : Int) = 0 from rfl] at h2
  rw [h2, Option.bind_some]
  cases r with
  | nil =>
    refine .inr ⟨[], [], pre, rfl, rfl, ?_⟩
    rw [ct_while (q := bareB) value1_eq hb hn, Option.bind_some]
    simp
  | cons q r =>
    simp only [List.getElem?_cons_zero, Option.getD_some]
    have hb' := hb
    simp only [List.length_cons] at hb hn
    have hv : valueS (q :: r) = bif decide (q = 34) || decide (q = 39) then (match r.dropWhile (fun z => decide (z ≠ q)) with
      | [] => none
      | _ :: r' => some (r.takeWhile (fun z => decide (z ≠ q)), r')) else some ((q :: r).takeWhile bareB, (q :: r).dropWhile bareB) := rfl
    rw [hv]
    cases hq : decide (q = 34) || decide (q = 39) with
    | false =>
      have : (decide (q ≠ 34) && decide (q ≠ 39)) = true := by simp at hq ⊢; exact hq
      rw [this, cond_true, cond_false]
      refine .inr ⟨_, _, pre ++ (q :: r).takeWhile bareB, rfl, by rw [List.append_assoc, List.takeWhile_append_dropWhile], ?_⟩
      rw [ct_while (q := bareB) value1_eq hb' (by simpa using hn), Option.bind_some]
    | true =>
      have : (decide (q ≠ 34) && decide (q ≠ 39)) = false := by
        simp only [Bool.or_eq_true, decide_eq_true_eq] at hq
        rcases hq with rfl | rfl <;> rfl
      rw [this, cond_false, cond_true, cur_next hb', Option.bind_some]
      have hw := ct_while (n := n) (pre := pre ++ [q]) (r := r) (out := out) (p := fun z => mark_cutter_value_2 n z q) (q := fun z => decide (z ≠ q)) (fun z => rfl) (by simp; omega) (by omega)
      simp only at hw ⊢
      rw [hw, Option.bind_some]
      have hcat : r.takeWhile (fun z => decide (z ≠ q)) ++ r.dropWhile (fun z => decide (z ≠ q)) = r := List.takeWhile_append_dropWhile
      have hlen := congrArg List.length hcat
      rw [List.length_append] at hlen
      generalize r.takeWhile (fun z => decide (z ≠ q)) = tk at hcat hlen ⊢
      cases hd : r.dropWhile (fun z => decide (z ≠ q)) with
      | nil =>
        rw [hd] at hlen hcat
        refine .inl ⟨textOf tk, false, pre ++ [q] ++ tk, [], rfl, rfl, by rw [← hcat]; simp, ?_⟩
        rw [cur_next_nil (by simp at hlen ⊢; omega)]; rfl
      | cons y r' =>
        rw [hd] at hlen hcat
        refine .inr ⟨tk, r', pre ++ [q] ++ tk ++ [y], rfl, by rw [← hcat]; simp, ?_⟩
        rw [cur_next (by simp at hlen ⊢; omega)]; rfl
end Go.Proofs.Ythmnohdlhlmmpaa
