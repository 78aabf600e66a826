/-
  Walks and laws of this seat; the base is the text Base.
-/
import Derived.Test.YtekcbgnkikmhpaaO5
import Derived.Test.YtekcbgnkikmhpaaL5g
namespace Go.Proofs.Ytekcbgnkikmhpaa
open Go.RowKit Go.Sl
/-! Plain facts on what the models are made of. -/
theorem geti_nat {α : Type} (xs : List α) (m : Nat) : geti xs (m : Int) = xs[m]? := by simp [geti]
theorem seti_nat {α : Type} (xs : List α) {m : Nat} (h : m < xs.length) (x : α) : seti xs (m : Int) x = some (xs.set m x) := by simp [seti, h]
theorem appM_eq {α : Type} {b : Nat} {xs ys : List α} (h : xs.length + ys.length ≤ 9223372036854775807 ∧ (xs.length + ys.length) * b ≤ 140737488355328) : appM b xs ys = some (xs ++ ys) := by
  simp [appM, roomB, h.1, h.2]
theorem repM_eq {α : Type} {b m : Nat} {x : α} (h : b * m ≤ 281474976710656 ∧ m ≤ 9223372036854775807) : repM b (m : Int) x = some (List.replicate m x) := by
  simp [repM, h.1, h.2]
theorem w64_id {i : Int} (h : -9223372036854775808 ≤ i ∧ i ≤ 9223372036854775807) : w64 i = i := wr_i64 h
theorem w64_succ {m : Nat} (h : m ≤ 9223372036854775806) : w64 ((m : Int) + 1) = ((m + 1 : Nat) : Int) := by
  rw [w64_id (by omega)]; omega
theorem cutM_last {α : Type} (xs : List α) (x : α) (h : xs.length ≤ 9223372036854775806) : cutM (xs ++ [x]) (0 : Int) (w64 (((xs ++ [x]).length : Int) - 1)) = some xs := by
  rw [w64_id (by simp; omega)]
  have : (((xs ++ [x]).length : Int) - 1) = (xs.length : Int) := by simp
  rw [this]
  have h2 : (xs.length : Int) ≤ xs.length + 1 := by omega
  simp [cutM, h2]
theorem geti_last {α : Type} (xs : List α) (x : α) (h : xs.length ≤ 9223372036854775806) : geti (xs ++ [x]) (w64 (((xs ++ [x]).length : Int) - 1)) = some x := by
  rw [w64_id (by simp; omega)]
  have : (((xs ++ [x]).length : Int) - 1) = (xs.length : Int) := by simp
  rw [this, geti_nat]
  simp
/-! # Trees: what their parents alone say -/
def zn : api_Node := {Kind := 0, Name := bs [], Text := bs [], Attrs := [], Parent := 0, First := 0, Last := 0, Prev := 0, Next := 0}
section
variable (ns : List api_Node)
def nd (i : Nat) : api_Node := ns.getD i zn
abbrev par (i : Nat) : Int := (nd ns i).Parent
/-- The last kid of p among 1 .. i. -/
def lastc : Nat → Int → Int
  | 0, _ => -1
  | i + 1, p => if par ns (i + 1) = p then ((i + 1 : Nat) : Int) else lastc i p
/-- The elder sibling. -/
def prevc (i : Nat) : Int := lastc ns (i - 1) (par ns i)
def pop (p : Int) (l : List Int) : List Int := l.dropWhile fun x => decide (x ≠ p)
/-- The nodes above the place, itself first. -/
def row : Nat → List Int
  | 0 => [0]
  | i + 1 => ((i + 1 : Nat) : Int) :: pop (par ns (i + 1)) (row i)
def okS (i : Nat) : Prop := pop (par ns (i + 1)) (row ns i) ≠ [] ∧ (nd ns (par ns (i + 1)).toNat).Kind = 1
theorem nd_get {i : Nat} (h : i < ns.length) : ns[i]? = some (nd ns i) := by simp [nd, h]
theorem lastc_le : ∀ (i : Nat) (p : Int), lastc ns i p = -1 ∨ ∃ c : Nat, lastc ns i p = c ∧ 1 ≤ c ∧ c ≤ i ∧ par ns c = p
  | 0, _ => .inl rfl
  | i + 1, p => by
    unfold lastc
    split
    · rename_i h
      exact .inr ⟨i + 1, rfl, by omega, by omega, h⟩
    · rcases lastc_le i p with h | ⟨c, h1, h2, h3, h4⟩
      · exact .inl h
      · exact .inr ⟨c, h1, h2, by omega, h4⟩
end
end Go.Proofs.Ytekcbgnkikmhpaa
