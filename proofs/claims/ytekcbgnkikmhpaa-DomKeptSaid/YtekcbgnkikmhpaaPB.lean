/-
  Walks and laws of this seat; the base is the text Base.
-/
import Derived.Test.YtekcbgnkikmhpaaPA
namespace Go.Proofs.Ytekcbgnkikmhpaa
open Go.RowKit Go.Sl
section
variable (ns : List api_Node)
/-- What the program asks of a node at its turn. -/
def stepP (j : Nat) : Prop := (nd ns j).Prev = prevc ns j ∧ ((nd ns j).Prev = -1 → (nd ns (par ns j).toNat).First = j) ∧ ((nd ns j).Prev ≠ -1 → (nd ns (nd ns j).Prev.toNat).Next = j)
/-- .. and in the end. -/
def endP (m : Nat) : Prop := (nd ns m).Last = lastc ns (ns.length - 1) m ∧ (lastc ns (ns.length - 1) m = -1 → (nd ns m).First = -1) ∧ (lastc ns (ns.length - 1) m ≠ -1 → (nd ns (lastc ns (ns.length - 1) m).toNat).Next = -1)
/-! The rows -/
/-- Of the row all but the top are elements ahead of it; each end of the row is a row. -/
def rowInv (i : Nat) : Prop := ∃ tl, row ns i = (i : Int) :: tl ∧ (∀ x ∈ tl, ∃ q : Nat, x = q ∧ q < i ∧ (nd ns q).Kind = 1) ∧ ∀ (p : Int) (l l' : List Int), row ns i = l' ++ p :: l → ∃ q : Nat, p = q ∧ q ≤ i ∧ p :: l = row ns q
theorem pop_split (p : Int) : ∀ l : List Int, pop p l = [] ∨ ∃ l' tl, l = l' ++ pop p l ∧ pop p l = p :: tl
  | [] => .inl rfl
  | x :: l => by
    unfold pop
    rw [List.dropWhile_cons]
    by_cases h : x = p
    · subst h
      right
      exact ⟨[], l, by simp, by simp⟩
    · rw [if_pos (by simpa using h)]
      rcases pop_split p l with h1 | ⟨l', tl, h1, h2⟩
      · exact .inl h1
      · refine .inr ⟨x :: l', tl, ?_, h2⟩
        rw [List.cons_append]
        congr 1
theorem rowInv_zero : rowInv ns 0 := ⟨[], rfl, by simp, fun p l l' h => by
  have h1 : row ns 0 = [0] := rfl
  rw [h1] at h
  cases l' with
  | nil => simp at h; exact ⟨0, by omega, by omega, by rw [h1, h.1, h.2]⟩
  | cons a l' => simp at h⟩
theorem rowInv_succ {i : Nat} (h : rowInv ns i) (_hk : i = 0 → (nd ns 0).Kind = 1) (ho : okS ns i) : rowInv ns (i + 1) := by
  obtain ⟨tl, h1, h2, h3⟩ := h
  obtain ⟨o1, o2⟩ := ho
  rcases pop_split (par ns (i + 1)) (row ns i) with h4 | ⟨l', tl', h4, h5⟩
  · exact absurd h4 o1
  · refine ⟨_, rfl, fun x hx => ?_, fun p l q hq => ?_⟩
    · rw [h5] at hx
      obtain ⟨z, hz, hz2, _⟩ := h3 (par ns (i + 1)) tl' l' (by rw [← h5]; exact h4)
      rcases List.mem_cons.1 hx with rfl | hx
      · refine ⟨z, hz, by omega, ?_⟩
        have := o2
        rw [hz] at this
        simpa using this
      · have : x ∈ tl := by
          have h6 : row ns i = l' ++ par ns (i + 1) :: tl' := by rw [← h5]; exact h4
          rw [h1] at h6
          cases l' with
          | nil => simp at h6; rw [h6.2]; exact hx
          | cons a l' => simp at h6; rw [h6.2]; simp [hx]
        obtain ⟨q, e1, e2, e3⟩ := h2 x this
        exact ⟨q, e1, by omega, e3⟩
    · cases q with
      | nil =>
        simp only [List.nil_append] at hq
        have hp : p = ((i + 1 : Nat) : Int) := by
          have : row ns (i + 1) = ((i + 1 : Nat) : Int) :: pop (par ns (i + 1)) (row ns i) := rfl
          rw [this] at hq
          exact (List.cons.inj hq).1.symm
        exact ⟨i + 1, hp, by omega, hq.symm⟩
      | cons a q =>
        have hr : row ns (i + 1) = ((i + 1 : Nat) : Int) :: pop (par ns (i + 1)) (row ns i) := rfl
        rw [hr, List.cons_append] at hq
        have h6 := (List.cons.inj hq).2
        obtain ⟨z, hz, hz2, hz3⟩ := h3 p l (l' ++ q) (by rw [h4, h6, List.append_assoc])
        exact ⟨z, hz, by omega, hz3⟩
/-- Of what is right up to here. -/
def good : Nat → Prop
  | 0 => (nd ns 0).Kind = 1
  | i + 1 => good i ∧ okS ns i
theorem good.inv : ∀ {i : Nat}, good ns i → rowInv ns i
  | 0, _ => rowInv_zero ns
  | _ + 1, h => rowInv_succ ns (good.inv h.1) (fun e => by subst e; exact h.1) h.2
theorem good.le {i j : Nat} (h : good ns j) (hij : i ≤ j) : good ns i := by
  induction hij with
  | refl => exact h
  | step _ ih => exact ih h.1
/-- The parent is one ahead; the row is the parent's, and the node. -/
theorem good.par {i : Nat} (h : good ns (i + 1)) : ∃ q : Nat, par ns (i + 1) = q ∧ q ≤ i ∧ (nd ns q).Kind = 1 ∧ row ns (i + 1) = ((i + 1 : Nat) : Int) :: row ns q := by
  obtain ⟨_, _, _, h3⟩ := good.inv ns h.1
  obtain ⟨o1, o2⟩ := h.2
  rcases pop_split (Proofs.Ytekcbgnkikmhpaa.par ns (i + 1)) (row ns i) with h4 | ⟨l', tl', h4, h5⟩
  · exact absurd h4 o1
  · obtain ⟨z, hz, hz2, hz3⟩ := h3 _ tl' l' (by rw [← h5]; exact h4)
    refine ⟨z, hz, hz2, ?_, ?_⟩
    · rw [hz] at o2; simpa using o2
    · rw [← hz3, ← h5]; rfl
end
end Go.Proofs.Ytekcbgnkikmhpaa
