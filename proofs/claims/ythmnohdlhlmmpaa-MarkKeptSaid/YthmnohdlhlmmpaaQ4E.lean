/-
  Walks and laws of this seat; the base is the text Base.
-/
import Derived.Test.YthmnohdlhlmmpaaQ4D
namespace Go.Proofs.Ythmnohdlhlmmpaa
open Go.RowKit Go.Sl
/-! The first ';'. -/
def semi : List UInt8 → Option Nat
  | [] => none
  | b :: t => if b = 59 then some 0 else (semi t).map (· + 1)
theorem semi_idx : ∀ l : List UInt8, Go.Lib.indexByte l 59 = match semi l with | none => -1 | some e => (e : Int)
  | [] => rfl
  | b :: t => by
    unfold Go.Lib.indexByte semi
    by_cases h : b = 59
    · subst h; rfl
    · rw [if_neg (by simpa using h), if_neg h, semi_idx t]
      cases semi t with
      | none => rfl
      | some e =>
        have : ¬ (((e : Int) == -1) = true) := by simp
        rw [if_neg this]; simp
theorem semi_lt : ∀ {l : List UInt8} {e : Nat}, semi l = some e → e < l.length ∧ l = l.take e ++ 59 :: l.drop (e + 1)
  | b :: t, e, h => by
    unfold semi at h
    split at h
    · cases h; rename_i hb; subst hb; simp
    · obtain ⟨e', h1, rfl⟩ := Option.map_eq_some_iff.1 h
      obtain ⟨h2, h3⟩ := semi_lt h1
      refine ⟨by simp; omega, ?_⟩
      simp only [List.take_succ_cons, List.drop_succ_cons, List.cons_append]
      rw [← h3]
theorem semi_take : ∀ (l : List UInt8) (m : Nat), semi (l.take m) = (semi l).filter (· < m)
  | [], m => by simp [semi]
  | b :: t, 0 => by
    simp only [List.take_zero]
    cases semi (b :: t) <;> simp [semi]
  | b :: t, m + 1 => by
    simp only [List.take_succ_cons]
    by_cases h : b = 59
    · simp [semi, h, Option.filter]
    · simp only [semi, if_neg h, semi_take t m]
      cases semi t with
      | none => rfl
      | some e => by_cases h : e < m <;> simp [Option.filter, h]
theorem semi_word {w r : List UInt8} (hw : ∀ b ∈ w, b ≠ 59) : semi (w ++ 59 :: r) = some w.length := by
  induction w with
  | nil => simp [semi]
  | cons b w ih =>
    rw [List.cons_append]
    unfold semi
    rw [if_neg (hw b (List.mem_cons_self ..)), ih fun x hx => hw x (List.mem_cons_of_mem _ hx)]
    simp
/-! Digits, read ahead. -/
def foldD (base : Int) : List UInt8 → Int → Option Int
  | [], v => some v
  | b :: t, v => if 0 ≤ dg base b then foldD base t (w64 (w64 (v * base) + dg base b)) else none
theorem numR_semi {base : Int} (hb : dg base 59 < 0) : ∀ (t : List UInt8) (c : Nat) (v : Int), numR base t c v = match semi t with
    | none => none
    | some e => if 1 ≤ c + e ∧ c + e ≤ 8 then (foldD base (t.take e) v).map (fun v => (v, t.drop (e + 1))) else none
  | [], c, v => rfl
  | b :: t, c, v => by
    unfold numR semi
    by_cases h59 : b = 59
    · subst h59
      rw [if_neg (by omega), if_pos rfl]
      simp only [Nat.add_zero, List.take_zero, List.drop_succ_cons, List.drop_zero, foldD, Option.map_some, true_and]
    · rw [if_neg h59]
      by_cases hd : 0 ≤ dg base b
      · rw [if_pos hd]
        by_cases h9 : c < 9
        · rw [if_pos h9, numR_semi hb t]
          cases semi t with
          | none => rfl
          | some e =>
            simp only [Option.map_some, List.take_succ_cons, List.drop_succ_cons, foldD, if_pos hd, show c + (e + 1) = c + 1 + e by omega]
        · rw [if_neg h9]
          cases semi t with
          | none => rfl
          | some e => simp only [Option.map_some]; rw [if_neg (by omega)]
      · rw [if_neg hd, if_neg (by simp [h59])]
        cases semi t with
        | none => rfl
        | some e =>
          simp only [Option.map_some, List.take_succ_cons, foldD, if_neg hd, Option.map_none]
          split <;> rfl
/-! mark's reader. -/
def numM (base : Int) (t : List UInt8) : List UInt8 := if t = [] ∨ 8 < t.length then [] else match foldD base t 0 with
  | none => []
  | some v => chr v
theorem mark_k1 (v : Int) : mark_numbered_k1 v = some (bs (chr v)) := by
  rw [bs_chr]
  unfold mark_numbered_k1 mark_numbered_k2 fixV
  cases ((decide (v = 0)) || ((decide (1114111 < v)) || ((decide (55296 ≤ v)) && (decide (v ≤ 57343))))) <;> rfl
theorem mark_l3 {base : Int} (hbase : ∀ b, (bif (decide (dm b < 0)) || (decide (base ≤ dm b)) then -1 else dm b) = dg base b) (hlo : ∀ b, 0 ≤ dm b ∨ dm b < 0) (n : Nat) (hn : 20 ≤ n) : ∀ (t pre : List UInt8) (v : Int) (k : Nat), (pre ++ t).length ≤ 1000 → t.length + 1 ≤ k →
    mark_numbered_l3 n (bs (pre ++ t)) base k v (pre.length : Int) = match foldD base t v with | none => some (bs []) | some v => some (bs (chr v))
  | [], pre, v, k, hl, hk => by
    obtain ⟨k, rfl⟩ : ∃ m, k = m + 1 := ⟨k - 1, by omega⟩
    rw [mark_numbered_l3, dF (by rw [bs_size]; simp)]
    exact mark_k1 v
  | b :: t, pre, v, k, hl, hk => by
    obtain ⟨k, rfl⟩ : ∃ m, k = m + 1 := ⟨k - 1, by omega⟩
    simp only [List.length_cons] at hk
    have hl2 := hl
    rw [List.length_append] at hl2
    obtain ⟨n', rfl⟩ : ∃ m, n = m + 2 := ⟨n - 2, by omega⟩
    rw [mark_numbered_l3, dT (by rw [bs_size]; simp; omega), getS_bs (b := b) (by simp), Option.bind_some]
    rw [show bs [48, 49, 50, 51, 52, 53, 54, 55, 56, 57, 97, 98, 99, 100, 101, 102] = bs hexes from rfl, mark_dig]
    have hb := hbase b
    unfold foldD
    cases hc : (decide (dm b < 0)) || (decide (base ≤ dm b)) with
    | true =>
      rw [hc, cond_true] at hb
      rw [cond_true, if_neg (by omega)]
    | false =>
      rw [hc, cond_false] at hb
      simp only [Bool.or_eq_false_iff, decide_eq_false_iff_not] at hc
      rw [cond_false, if_pos (by omega), w64_succ (by omega), hb]
      have := mark_l3 hbase hlo (n' + 2) hn t (pre ++ [b]) (w64 (w64 (v * base) + dg base b)) k (by simpa using hl) (by omega)
      rw [List.append_assoc, List.singleton_append, List.length_append, List.length_singleton] at this
      exact this
theorem mark_num {base : Int} (hbase : ∀ b, (bif (decide (dm b < 0)) || (decide (base ≤ dm b)) then -1 else dm b) = dg base b) (n : Nat) (hn : 20 ≤ n) (t : List UInt8) : mark_numbered n (bs t) base = some (bs (numM base t)) := by
  unfold mark_numbered numM
  by_cases h : t = [] ∨ 8 < t.length
  · rw [if_pos h]
    have : ((decide (bs t = bs [])) || (decide (8 < ((bs t).size : Int)))) = true := by
      rw [bs_size, Bool.or_eq_true, decide_eq_true_iff, decide_eq_true_iff, bs_inj]
      rcases h with h | h
      · exact .inl h
      · exact .inr (by omega)
    rw [this, cond_true]
  · rw [if_neg h]
    have : ((decide (bs t = bs [])) || (decide (8 < ((bs t).size : Int)))) = false := by
      rw [bs_size, Bool.or_eq_false_iff, decide_eq_false_iff_not, decide_eq_false_iff_not, bs_inj]
      exact ⟨fun e => h (.inl e), fun e => h (.inr (by omega))⟩
    rw [this, cond_false]
    have h2 : t.length ≤ 8 := by omega
    have := mark_l3 hbase (fun b => by omega) n hn t [] 0 n (by simpa using (by omega : t.length ≤ 1000)) (by omega)
    rw [List.nil_append] at this
    rw [show (0 : Int) = (([] : List UInt8).length : Int) from rfl] at *
    rw [this]
    cases foldD base t _ <;> rfl
end Go.Proofs.Ythmnohdlhlmmpaa
