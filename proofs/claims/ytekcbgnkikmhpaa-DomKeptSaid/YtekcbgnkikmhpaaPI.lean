/-
  Walks and laws of this seat; the base is the text Base.
-/
import Derived.Test.YtekcbgnkikmhpaaPH
namespace Go.Proofs.Ytekcbgnkikmhpaa
open Go.RowKit Go.Sl
/-! Parts: how large they are -/
mutual
def psize : dom_Part → Nat
  | ⟨_, _, _, ks⟩ => 1 + pssize ks
def pssize : List dom_Part → Nat
  | [] => 0
  | k :: ks => psize k + pssize ks
end
theorem psize_eq (p : dom_Part) : psize p = 1 + pssize p.Kids := by cases p; simp [psize]
theorem pssize_mem : ∀ {ks : List dom_Part} {k : dom_Part}, k ∈ ks → psize k ≤ pssize ks
  | a :: ks, k, h => by
    rcases List.mem_cons.1 h with rfl | h
    · simp [pssize]
    · have := pssize_mem h; simp only [pssize]; omega
theorem pssize_append : ∀ (xs ys : List dom_Part), pssize (xs ++ ys) = pssize xs + pssize ys
  | [], ys => by simp [pssize]
  | x :: xs, ys => by simp only [List.cons_append, pssize, pssize_append xs ys]; omega
theorem pssize_take_succ (ks : List dom_Part) {i : Nat} {k : dom_Part} (h : ks[i]? = some k) : pssize (ks.take (i + 1)) = pssize (ks.take i) + psize k := by
  rw [List.take_add_one, h, pssize_append]
  simp [pssize]
theorem pssize_len : ∀ ks : List dom_Part, ks.length ≤ pssize ks
  | [] => by simp
  | k :: ks => by
    have := pssize_len ks
    have := psize_eq k
    simp only [List.length_cons, pssize]; omega
theorem pssize_take_le (ks : List dom_Part) (i : Nat) : pssize (ks.take i) ≤ pssize ks := by
  have h := pssize_append (ks.take i) (ks.drop i)
  rw [List.take_append_drop] at h
  omega
theorem deep_eq : ∀ (c : Nat) (p : dom_Part) (d n : Nat), d + c = 601 → 2100 + c ≤ n → ∃ r : Int, law5_deep n p d = some r ∧ 1 ≤ r ∧ r ≤ 2000 * ((c : Int) + 1) ∧ (r < 2000 → r = psize p) := by
  intro c
  induction c with
  | zero =>
    intro p d n hd hn
    obtain ⟨m, rfl⟩ : ∃ m, n = m + 1 := ⟨n - 1, by omega⟩
    rw [law5_deep]
    unfold law5_deep_b
    obtain ⟨k, rfl⟩ : ∃ k, m = k + 1 := ⟨m - 1, by omega⟩
    rw [law5_deep_l2]
    by_cases h : (0 : Int) < (p.Kids.length : Int)
    · rw [show (decide ((0 : Int) < (p.Kids.length : Int)) && decide ((1 : Int) < 2000)) = true from by rw [decide_eq_true h]; rfl, cond_true, show decide ((600 : Int) < (d : Int)) = true from by simp; omega, cond_true]
      exact ⟨2000, rfl, by omega, by omega, by omega⟩
    · rw [show (decide ((0 : Int) < (p.Kids.length : Int)) && decide ((1 : Int) < 2000)) = false from by rw [decide_eq_false h]; rfl, cond_false]
      refine ⟨1, rfl, by omega, by omega, fun _ => ?_⟩
      have : p.Kids = [] := List.eq_nil_of_length_eq_zero (by omega)
      rw [psize_eq, this]
      simp [pssize]
  | succ c ih =>
    intro p d n hd hn
    obtain ⟨m, rfl⟩ : ∃ m, n = m + 1 := ⟨n - 1, by omega⟩
    rw [law5_deep]
    unfold law5_deep_b
    have loop : ∀ (k i : Nat) (y : Int), 2001 ≤ k + y → 1 ≤ y → y ≤ 2000 * ((c : Int) + 2) → i ≤ p.Kids.length → (y < 2000 → y = 1 + pssize (p.Kids.take i)) →
        ∃ r : Int, law5_deep_l2 p (d : Int) (law5_deep m) k y (i : Int) = some r ∧ 1 ≤ r ∧ r ≤ 2000 * ((c : Int) + 2) ∧ (r < 2000 → r = psize p) ∨ (2000 ≤ y ∧ k = 0) := by
      intro k
      induction k with
      | zero => intro i y h1 h2 h3 _ _; exact ⟨0, .inr ⟨by omega, rfl⟩⟩
      | succ k ihk =>
        intro i y h1 h2 h3 hi hy
        rw [law5_deep_l2]
        by_cases hc : i < p.Kids.length ∧ y < 2000
        · rw [show (decide ((i : Int) < (p.Kids.length : Int)) && decide (y < 2000)) = true from by simp [hc.2]; omega, cond_true, show decide ((600 : Int) < (d : Int)) = false from by simp; omega, cond_false]
          obtain ⟨q, hq⟩ : ∃ q, p.Kids[i]? = some q := ⟨_, List.getElem?_eq_getElem hc.1⟩
          rw [geti_nat, hq, Option.bind_some]
          obtain ⟨r, e1, e2, e3, e4⟩ := ih q (d + 1) m (by omega) (by omega)
          have hl : p.Kids.length ≤ 9223372036854775806 ∨ True := .inr trivial
          rw [w64_succ (by omega), e1, Option.bind_some, w64_id (by omega)]
          have hil : i ≤ 2000 := by
            have g1 := hy hc.2
            have g2 := pssize_len (p.Kids.take i)
            rw [List.length_take] at g2
            omega
          rw [w64_succ (by omega)]
          rcases Nat.eq_zero_or_pos k with h0 | h0
          · subst h0
            omega
          obtain ⟨r', h | h⟩ := ihk (i + 1) (y + r) (by omega) (by omega) (by omega) (by omega) (fun hlt => by
            have g1 := hy hc.2
            have g2 := e4 (by omega)
            rw [pssize_take_succ _ hq]
            omega)
          · exact ⟨r', .inl h⟩
          · omega
        · rw [show (decide ((i : Int) < (p.Kids.length : Int)) && decide (y < 2000)) = false from by
            by_cases g : i < p.Kids.length
            · have : ¬ y < 2000 := fun g2 => hc ⟨g, g2⟩
              simp [this]
            · have : ¬ (i : Int) < (p.Kids.length : Int) := by omega
              rw [decide_eq_false this]; rfl, cond_false]
          refine ⟨y, .inl ⟨rfl, h2, h3, fun hlt => ?_⟩⟩
          have : i = p.Kids.length := by
            rcases Nat.lt_or_ge i p.Kids.length with g | g
            · exact absurd ⟨g, hlt⟩ hc
            · omega
          rw [hy hlt, this, List.take_length, psize_eq]
          omega
    obtain ⟨r, h | h⟩ := loop m 0 1 (by omega) (by omega) (by omega) (by omega) (fun _ => by simp [pssize])
    · refine ⟨r, h.1, h.2.1, by have := h.2.2.1; omega, h.2.2.2⟩
    · omega
theorem deep_top (p : dom_Part) {n : Nat} (hn : 3000 ≤ n) : ∃ r : Int, law5_deep n p 0 = some r ∧ (r < 2000 → r = psize p) := by
  obtain ⟨r, h1, _, _, h2⟩ := deep_eq 601 p 0 n rfl (by omega)
  exact ⟨r, h1, h2⟩
/-! What comes in for the other side -/
mutual
def conv : dom_Part → ref5_Part
  | ⟨a, b, c, ks⟩ => ⟨a, b, c, convs ks⟩
def convs : List dom_Part → List ref5_Part
  | [] => []
  | k :: ks => conv k :: convs ks
end
theorem convs_map : ∀ ks : List dom_Part, convs ks = ks.map conv
  | [] => rfl
  | k :: ks => by simp only [convs, List.map_cons, convs_map ks]
theorem conv_eq (p : dom_Part) : conv p = ⟨p.Name, p.Text, p.Attrs, p.Kids.map conv⟩ := by cases p; simp [conv, convs_map]
theorem plain_eq : ∀ (s : Nat) (p : dom_Part) (n : Nat), psize p ≤ s → s ≤ 2000 → s + 2 ≤ n → law5_plain n p = some (conv p) := by
  intro s
  induction s with
  | zero => intro p n h; have := psize_eq p; omega
  | succ s ih =>
    intro p n h hs hn
    obtain ⟨m, rfl⟩ : ∃ m, n = m + 1 := ⟨n - 1, by omega⟩
    have hp := psize_eq p
    have hlen := pssize_len p.Kids
    rw [law5_plain]
    unfold law5_plain_b
    have loop : ∀ (k i : Nat), p.Kids.length < k + i → i ≤ p.Kids.length → law5_plain_l2 p (law5_plain m) k ((p.Kids.take i).map conv) (i : Int) = some (conv p) := by
      intro k
      induction k with
      | zero => intro i h1 h2; omega
      | succ k ihk =>
        intro i h1 h2
        rw [law5_plain_l2]
        by_cases hi : i < p.Kids.length
        · obtain ⟨q, hq⟩ : ∃ q, p.Kids[i]? = some q := ⟨_, List.getElem?_eq_getElem hi⟩
          have hqs := pssize_mem (List.mem_of_getElem? hq)
          rw [show decide ((i : Int) < (p.Kids.length : Int)) = true from by simpa using hi, cond_true, geti_nat, hq, Option.bind_some, ih q m (by omega) (by omega) (by omega), Option.bind_some]
          rw [appM_eq (by simp only [List.length_map, List.length_take, List.length_singleton]; omega), Option.bind_some, w64_succ (by omega)]
          have := ihk (i + 1) (by omega) (by omega)
          rw [List.take_add_one, hq] at this
          simpa using this
        · rw [show decide ((i : Int) < (p.Kids.length : Int)) = false from by simp; omega, cond_false]
          have : i = p.Kids.length := by omega
          subst this
          rw [List.take_length]
          unfold law5_plain_k1
          rw [conv_eq p]
    exact loop m 0 (by omega) (by omega)
end Go.Proofs.Ytekcbgnkikmhpaa
