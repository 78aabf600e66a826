/-
  Walks and laws of this seat; the base is the text Base.
-/
import Derived.Test.YtekcbgnkikmhpaaO5
import Derived.Test.YtekcbgnkikmhpaaL5g
namespace Go.Proofs.Ytekcbgnkikmhpaa
open Go.RowKit Go.Sl

/-! Plain facts on what the models are made of. -/
theorem geti_nat {α : Type} (xs : List α) (m : Nat) : geti xs (m : Int) = xs[m]? := by simp [geti]
theorem geti_neg {α : Type} (xs : List α) {i : Int} (h : i < 0) : geti xs i = none := by
  unfold geti
  rw [if_neg (by omega)]
theorem seti_nat {α : Type} (xs : List α) {m : Nat} (h : m < xs.length) (x : α) : seti xs (m : Int) x = some (xs.set m x) := by simp [seti, h]
theorem appM_eq {α : Type} {b : Nat} {xs ys : List α} (h : xs.length + ys.length ≤ 9223372036854775807 ∧ (xs.length + ys.length) * b ≤ 140737488355328) : appM b xs ys = some (xs ++ ys) := by
  simp [appM, roomB, h.1, h.2]
theorem repM_eq {α : Type} {b m : Nat} {x : α} (h : b * m ≤ 281474976710656 ∧ m ≤ 9223372036854775807) : repM b (m : Int) x = some (List.replicate m x) := by
  simp [repM, h.1, h.2]
theorem w64_id {i : Int} (h : -9223372036854775808 ≤ i ∧ i ≤ 9223372036854775807) : w64 i = i := wr_i64 h
theorem w64_succ {m : Nat} (h : m ≤ 9223372036854775806) : w64 ((m : Int) + 1) = ((m + 1 : Nat) : Int) := by
  rw [w64_id (by omega)]; omega
theorem cutM_last {α : Type} (xs : List α) (x : α) (h : xs.length ≤ 9223372036854775806) : cutM (xs ++ [x]) (0 : Int) (w64 (((xs ++ [x]).length : Int) - 1)) = some xs := by
  rw [w64_id (by simp; omega)]
  have : (((xs ++ [x]).length : Int) - 1) = (xs.length : Int) := by simp
  rw [this]
  have h2 : (xs.length : Int) ≤ xs.length + 1 := by omega
  simp [cutM, h2]
theorem geti_last {α : Type} (xs : List α) (x : α) (h : xs.length ≤ 9223372036854775806) : geti (xs ++ [x]) (w64 (((xs ++ [x]).length : Int) - 1)) = some x := by
  rw [w64_id (by simp; omega)]
  have : (((xs ++ [x]).length : Int) - 1) = (xs.length : Int) := by simp
  rw [this, geti_nat]
  simp

/-! # Trees: what their parents alone say -/
def zn : api_Node := {Kind := 0, Name := bs [], Text := bs [], Attrs := [], Parent := 0, First := 0, Last := 0, Prev := 0, Next := 0}
section
variable (ns : List api_Node)
def nd (i : Nat) : api_Node := ns.getD i zn
abbrev par (i : Nat) : Int := (nd ns i).Parent
/-- The last kid of p among 1 .. i. -/
def lastc : Nat → Int → Int
  | 0, _ => -1
  | i + 1, p => if par ns (i + 1) = p then ((i + 1 : Nat) : Int) else lastc i p
def firstc : Nat → Int → Int
  | 0, _ => -1
  | i + 1, p => if par ns (i + 1) = p ∧ lastc ns i p = -1 then ((i + 1 : Nat) : Int) else firstc i p
def nextc : Nat → Int → Int
  | 0, _ => -1
  | i + 1, m => if 0 ≤ m ∧ lastc ns i (par ns (i + 1)) = m then ((i + 1 : Nat) : Int) else nextc i m
/-- The elder sibling. -/
def prevc (i : Nat) : Int := lastc ns (i - 1) (par ns i)
def pop (p : Int) (l : List Int) : List Int := l.dropWhile fun x => decide (x ≠ p)
/-- The nodes above the place, itself first. -/
def row : Nat → List Int
  | 0 => [0]
  | i + 1 => ((i + 1 : Nat) : Int) :: pop (par ns (i + 1)) (row i)
def okS (i : Nat) : Prop := pop (par ns (i + 1)) (row ns i) ≠ [] ∧ (nd ns (par ns (i + 1)).toNat).Kind = 1

theorem nd_get {i : Nat} (h : i < ns.length) : ns[i]? = some (nd ns i) := by simp [nd, h]

theorem lastc_le : ∀ (i : Nat) (p : Int), lastc ns i p = -1 ∨ ∃ c : Nat, lastc ns i p = c ∧ 1 ≤ c ∧ c ≤ i ∧ par ns c = p
  | 0, _ => .inl rfl
  | i + 1, p => by
    unfold lastc
    split
    · rename_i h
      exact .inr ⟨i + 1, rfl, by omega, by omega, h⟩
    · rcases lastc_le i p with h | ⟨c, h1, h2, h3, h4⟩
      · exact .inl h
      · exact .inr ⟨c, h1, h2, by omega, h4⟩
theorem lastc_at : ∀ (i c : Nat), 1 ≤ c → c ≤ i → (c : Int) ≤ lastc ns i (par ns c)
  | 0, c, h1, h2 => by omega
  | i + 1, c, h1, h2 => by
    unfold lastc
    split
    · omega
    · rename_i h
      rcases Nat.lt_or_ge i c with h3 | h3
      · have : c = i + 1 := by omega
        subst this
        exact absurd rfl h
      · exact lastc_at i c h1 h3
theorem lastc_mono (p : Int) {i j : Nat} (h : i ≤ j) : lastc ns i p ≤ lastc ns j p := by
  induction h with
  | refl => exact Int.le_refl _
  | step h ih =>
    rename_i j
    have : lastc ns j p ≤ lastc ns (j + 1) p := by
      rw [show lastc ns (j + 1) p = if par ns (j + 1) = p then ((j + 1 : Nat) : Int) else lastc ns j p from rfl]
      split
      · rcases lastc_le ns j p with h | ⟨c, h1, _, h3, _⟩ <;> omega
      · exact Int.le_refl _
    exact Int.le_trans ih this
/-- A kid without an elder one is the first. -/
theorem firstc_of : ∀ (i c : Nat), 1 ≤ c → c ≤ i → prevc ns c = -1 → firstc ns i (par ns c) = c
  | 0, c, h1, h2, _ => by omega
  | i + 1, c, h1, h2, h => by
    unfold firstc
    rcases Nat.lt_or_ge i c with h3 | h3
    · have : c = i + 1 := by omega
      subst this
      rw [if_pos ⟨rfl, h⟩]
    · have := lastc_at ns i c h1 h3
      rw [if_neg (by rintro ⟨_, h5⟩; omega)]
      exact firstc_of i c h1 h3 h
theorem firstc_none : ∀ (i : Nat) (p : Int), lastc ns i p = -1 → firstc ns i p = -1
  | 0, _, _ => rfl
  | i + 1, p, h => by
    unfold lastc at h
    split at h
    · omega
    · rename_i h2
      unfold firstc
      rw [if_neg (by rintro ⟨h3, _⟩; exact h2 h3)]
      exact firstc_none i p h
theorem firstc_some : ∀ (i : Nat) (p : Int), lastc ns i p ≠ -1 → ∃ c : Nat, 1 ≤ c ∧ c ≤ i ∧ par ns c = p ∧ prevc ns c = -1
  | 0, _, h => absurd rfl h
  | i + 1, p, h => by
    by_cases h0 : lastc ns i p = -1
    · unfold lastc at h
      split at h
      · rename_i h1
        exact ⟨i + 1, by omega, by omega, h1, by unfold prevc; rw [h1]; exact h0⟩
      · exact absurd h0 h
    · obtain ⟨c, h1, h2, h3⟩ := firstc_some i p h0
      exact ⟨c, h1, by omega, h3⟩
/-- A kid's elder sibling has it as its next. -/
theorem nextc_of : ∀ (i c m : Nat), 1 ≤ c → c ≤ i → prevc ns c = m → nextc ns i m = c
  | 0, c, m, h1, h2, _ => by omega
  | i + 1, c, m, h1, h2, h => by
    unfold nextc
    rcases Nat.lt_or_ge i c with h3 | h3
    · have : c = i + 1 := by omega
      subst this
      rw [if_pos ⟨by omega, h⟩]
    · have hp : par ns m = par ns c := by
        rcases lastc_le ns (c - 1) (par ns c) with h4 | ⟨q, h4, _, _, h5⟩
        · unfold prevc at h; omega
        · unfold prevc at h
          have : q = m := by omega
          subst this; exact h5
      have hlt : m < c := by
        rcases lastc_le ns (c - 1) (par ns c) with h4 | ⟨q, h4, _, h6, h5⟩
        · unfold prevc at h; omega
        · unfold prevc at h; omega
      rw [if_neg]
      · exact nextc_of i c m h1 h3 h
      · rintro ⟨_, h5⟩
        have h6 := lastc_at ns i c h1 h3
        rcases lastc_le ns i (par ns (i + 1)) with h7 | ⟨q, h7, _, _, h8⟩
        · omega
        · have : q = m := by omega
          subst this
          rw [← hp, h8] at h6
          omega
theorem nextc_none : ∀ (i : Nat) (m : Int), (∀ c : Nat, 1 ≤ c → c ≤ i → prevc ns c ≠ m) → nextc ns i m = -1
  | 0, _, _ => rfl
  | i + 1, m, h => by
    unfold nextc
    rw [if_neg (by rintro ⟨_, h1⟩; exact h (i + 1) (by omega) (by omega) h1)]
    exact nextc_none i m fun c h1 h2 => h c h1 (by omega)
/-- One that is not its parent's last has a younger sibling. -/
theorem younger : ∀ (i m : Nat), 1 ≤ m → m ≤ i → lastc ns i (par ns m) ≠ m → ∃ c : Nat, 1 ≤ c ∧ c ≤ i ∧ prevc ns c = m
  | 0, m, h1, h2, _ => by omega
  | i + 1, m, h1, h2, h => by
    rcases Nat.lt_or_ge i m with h3 | h3
    · have : m = i + 1 := by omega
      subst this
      unfold lastc at h
      simp at h
    · by_cases h4 : lastc ns i (par ns m) = m
      · unfold lastc at h
        split at h
        · rename_i h5
          exact ⟨i + 1, by omega, by omega, by unfold prevc; rw [h5]; exact h4⟩
        · exact absurd h4 h
      · obtain ⟨c, h5, h6, h7⟩ := younger i m h1 h3 h4
        exact ⟨c, h5, by omega, h7⟩
end
end Go.Proofs.Ytekcbgnkikmhpaa
