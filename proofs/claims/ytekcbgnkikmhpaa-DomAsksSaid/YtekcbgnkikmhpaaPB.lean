/-
  Walks and laws of this seat; the base is the text Base.
-/
import Derived.Test.YtekcbgnkikmhpaaPA
namespace Go.Proofs.Ytekcbgnkikmhpaa
open Go.RowKit Go.Sl

section
variable (ns : List api_Node)
/-- What the program asks of a node at its turn. -/
def stepP (j : Nat) : Prop := (nd ns j).Prev = prevc ns j ∧ ((nd ns j).Prev = -1 → (nd ns (par ns j).toNat).First = j) ∧ ((nd ns j).Prev ≠ -1 → (nd ns (nd ns j).Prev.toNat).Next = j)
/-- .. and in the end. -/
def endP (m : Nat) : Prop := (nd ns m).Last = lastc ns (ns.length - 1) m ∧ (lastc ns (ns.length - 1) m = -1 → (nd ns m).First = -1) ∧ (lastc ns (ns.length - 1) m ≠ -1 → (nd ns (lastc ns (ns.length - 1) m).toNat).Next = -1)
/-- What the document asks in the end. -/
def refP (m : Nat) : Prop := (nd ns m).First = firstc ns (ns.length - 1) m ∧ (nd ns m).Last = lastc ns (ns.length - 1) m ∧ (nd ns m).Prev = (if m = 0 then -1 else prevc ns m) ∧ (nd ns m).Next = nextc ns (ns.length - 1) m

theorem links_iff (h0 : 0 < ns.length) (hprev : (nd ns 0).Prev = -1) (hnext : (nd ns 0).Next = -1) (hpar : ∀ j, 1 ≤ j → j < ns.length → 0 ≤ par ns j ∧ (par ns j).toNat < ns.length) :
    ((∀ j, 1 ≤ j → j < ns.length → stepP ns j) ∧ ∀ m, m < ns.length → endP ns m) ↔ ∀ m, m < ns.length → refP ns m := by
  have back : ∀ {j : Nat}, 1 ≤ j → j < ns.length → ((par ns j).toNat : Int) = par ns j := fun h1 h2 => by have := (hpar _ h1 h2).1; omega
  constructor
  · rintro ⟨hs, he⟩ m hm
    refine ⟨?_, (he m hm).1, ?_, ?_⟩
    · by_cases hl : lastc ns (ns.length - 1) m = -1
      · rw [(he m hm).2.1 hl, firstc_none ns _ _ hl]
      · obtain ⟨c, h1, h2, h3, h4⟩ := firstc_some ns _ _ hl
        have h5 := hs c h1 (by omega)
        have h6 := h5.2.1 (by rw [h5.1]; exact h4)
        rw [h3] at h6
        have h7 := firstc_of ns (ns.length - 1) c h1 (by omega) h4
        rw [h3] at h7
        rw [h7]; simpa using h6
    · split
      · rename_i e; subst e; exact hprev
      · exact (hs m (by omega) hm).1
    · by_cases hm0 : m = 0
      · subst hm0
        rw [hnext, nextc_none]
        intro c h1 h2 h3
        unfold prevc at h3
        rcases lastc_le ns (c - 1) (par ns c) with h4 | ⟨q, h4, h5, _⟩ <;> omega
      · by_cases hl : lastc ns (ns.length - 1) (par ns m) = m
        · have h1 := back (by omega) hm
          have h2 := he (par ns m).toNat (hpar m (by omega) hm).2
          rw [show nextc ns (ns.length - 1) m = -1 from ?_]
          · have h3 := h2.2.2
            rw [h1, hl] at h3
            simpa using h3 (by omega)
          · refine nextc_none ns _ _ fun c h3 h4 h5 => ?_
            have h6 : par ns m = par ns c := by
              unfold prevc at h5
              rcases lastc_le ns (c - 1) (par ns c) with h7 | ⟨q, h7, _, _, h8⟩
              · omega
              · have : q = m := by omega
                subst this; exact h8
            have h7 := lastc_at ns (ns.length - 1) c h3 (by omega)
            rw [← h6, hl] at h7
            unfold prevc at h5
            rcases lastc_le ns (c - 1) (par ns c) with h8 | ⟨q, h8, _, h9, _⟩ <;> omega
        · obtain ⟨c, h1, h2, h3⟩ := younger ns (ns.length - 1) m (by omega) (by omega) hl
          have h4 := hs c h1 (by omega)
          have h5 := h4.2.2 (by rw [h4.1, h3]; omega)
          rw [h4.1, h3] at h5
          rw [nextc_of ns _ c m h1 (by omega) h3]
          simpa using h5
  · intro h
    refine ⟨fun j h1 h2 => ?_, fun m hm => ?_⟩
    · have hj := h j h2
      have hp : (nd ns j).Prev = prevc ns j := by have := hj.2.2.1; rwa [if_neg (by omega)] at this
      refine ⟨hp, fun h3 => ?_, fun h3 => ?_⟩
      · have h4 := (h (par ns j).toNat (hpar j h1 h2).2).1
        rw [h4, back h1 h2]
        exact firstc_of ns _ j h1 (by omega) (by rw [← hp]; exact h3)
      · rw [hp] at h3
        rcases lastc_le ns (j - 1) (par ns j) with h4 | ⟨q, h4, h5, h6, _⟩
        · exact absurd h4 h3
        · have h7 : prevc ns j = q := h4
          rw [hp, h7]
          have h8 := (h q (by omega)).2.2.2
          rw [Int.toNat_natCast, h8]
          exact nextc_of ns _ j q h1 (by omega) h7
    · have hm' := h m hm
      refine ⟨hm'.2.1, fun h1 => by rw [hm'.1]; exact firstc_none ns _ _ h1, fun h1 => ?_⟩
      rcases lastc_le ns (ns.length - 1) m with h2 | ⟨q, h2, h3, h4, h5⟩
      · exact absurd h2 h1
      · rw [h2, Int.toNat_natCast, (h q (by omega)).2.2.2]
        refine nextc_none ns _ _ fun c h6 h7 h8 => ?_
        have h9 : par ns q = par ns c := by
          unfold prevc at h8
          rcases lastc_le ns (c - 1) (par ns c) with h10 | ⟨z, h10, _, _, h11⟩
          · omega
          · have : z = q := by omega
            subst this; exact h11
        have h10 := lastc_at ns (ns.length - 1) c h6 (by omega)
        rw [← h9, h5, h2] at h10
        unfold prevc at h8
        rcases lastc_le ns (c - 1) (par ns c) with h11 | ⟨z, h11, _, h12, _⟩ <;> omega

/-! The rows -/
/-- Of the row all but the top are elements ahead of it; each end of the row is a row. -/
def rowInv (i : Nat) : Prop := ∃ tl, row ns i = (i : Int) :: tl ∧ (∀ x ∈ tl, ∃ q : Nat, x = q ∧ q < i ∧ (nd ns q).Kind = 1) ∧ ∀ (p : Int) (l l' : List Int), row ns i = l' ++ p :: l → ∃ q : Nat, p = q ∧ q ≤ i ∧ p :: l = row ns q

theorem pop_split (p : Int) : ∀ l : List Int, pop p l = [] ∨ ∃ l' tl, l = l' ++ pop p l ∧ pop p l = p :: tl
  | [] => .inl rfl
  | x :: l => by
    unfold pop
    rw [List.dropWhile_cons]
    by_cases h : x = p
    · subst h
      right
      exact ⟨[], l, by simp, by simp⟩
    · rw [if_pos (by simpa using h)]
      rcases pop_split p l with h1 | ⟨l', tl, h1, h2⟩
      · exact .inl h1
      · refine .inr ⟨x :: l', tl, ?_, h2⟩
        rw [List.cons_append]
        congr 1

theorem rowInv_zero : rowInv ns 0 := ⟨[], rfl, by simp, fun p l l' h => by
  have h1 : row ns 0 = [0] := rfl
  rw [h1] at h
  cases l' with
  | nil => simp at h; exact ⟨0, by omega, by omega, by rw [h1, h.1, h.2]⟩
  | cons a l' => simp at h⟩

theorem rowInv_succ {i : Nat} (h : rowInv ns i) (_hk : i = 0 → (nd ns 0).Kind = 1) (ho : okS ns i) : rowInv ns (i + 1) := by
  obtain ⟨tl, h1, h2, h3⟩ := h
  obtain ⟨o1, o2⟩ := ho
  rcases pop_split (par ns (i + 1)) (row ns i) with h4 | ⟨l', tl', h4, h5⟩
  · exact absurd h4 o1
  · refine ⟨_, rfl, fun x hx => ?_, fun p l q hq => ?_⟩
    · rw [h5] at hx
      obtain ⟨z, hz, hz2, _⟩ := h3 (par ns (i + 1)) tl' l' (by rw [← h5]; exact h4)
      rcases List.mem_cons.1 hx with rfl | hx
      · refine ⟨z, hz, by omega, ?_⟩
        have := o2
        rw [hz] at this
        simpa using this
      · have : x ∈ tl := by
          have h6 : row ns i = l' ++ par ns (i + 1) :: tl' := by rw [← h5]; exact h4
          rw [h1] at h6
          cases l' with
          | nil => simp at h6; rw [h6.2]; exact hx
          | cons a l' => simp at h6; rw [h6.2]; simp [hx]
        obtain ⟨q, e1, e2, e3⟩ := h2 x this
        exact ⟨q, e1, by omega, e3⟩
    · cases q with
      | nil =>
        simp only [List.nil_append] at hq
        have hp : p = ((i + 1 : Nat) : Int) := by
          have : row ns (i + 1) = ((i + 1 : Nat) : Int) :: pop (par ns (i + 1)) (row ns i) := rfl
          rw [this] at hq
          exact (List.cons.inj hq).1.symm
        exact ⟨i + 1, hp, by omega, hq.symm⟩
      | cons a q =>
        have hr : row ns (i + 1) = ((i + 1 : Nat) : Int) :: pop (par ns (i + 1)) (row ns i) := rfl
        rw [hr, List.cons_append] at hq
        have h6 := (List.cons.inj hq).2
        obtain ⟨z, hz, hz2, hz3⟩ := h3 p l (l' ++ q) (by rw [h4, h6, List.append_assoc])
        exact ⟨z, hz, by omega, hz3⟩

/-- Of what is right up to here. -/
def good : Nat → Prop
  | 0 => (nd ns 0).Kind = 1
  | i + 1 => good i ∧ okS ns i
theorem good.inv : ∀ {i : Nat}, good ns i → rowInv ns i
  | 0, _ => rowInv_zero ns
  | _ + 1, h => rowInv_succ ns (good.inv h.1) (fun e => by subst e; exact h.1) h.2
theorem good.le {i j : Nat} (h : good ns j) (hij : i ≤ j) : good ns i := by
  induction hij with
  | refl => exact h
  | step _ ih => exact ih h.1
/-- The parent is one ahead; the row is the parent's, and the node. -/
theorem good.par {i : Nat} (h : good ns (i + 1)) : ∃ q : Nat, par ns (i + 1) = q ∧ q ≤ i ∧ (nd ns q).Kind = 1 ∧ row ns (i + 1) = ((i + 1 : Nat) : Int) :: row ns q := by
  obtain ⟨_, _, _, h3⟩ := good.inv ns h.1
  obtain ⟨o1, o2⟩ := h.2
  rcases pop_split (Proofs.Ytekcbgnkikmhpaa.par ns (i + 1)) (row ns i) with h4 | ⟨l', tl', h4, h5⟩
  · exact absurd h4 o1
  · obtain ⟨z, hz, hz2, hz3⟩ := h3 _ tl' l' (by rw [← h5]; exact h4)
    refine ⟨z, hz, hz2, ?_, ?_⟩
    · rw [hz] at o2; simpa using o2
    · rw [← hz3, ← h5]; rfl
end
end Go.Proofs.Ytekcbgnkikmhpaa
