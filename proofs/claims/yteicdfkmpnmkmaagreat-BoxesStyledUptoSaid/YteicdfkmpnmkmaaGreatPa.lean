/-
  Walks and laws of this seat.
-/
import Derived.Test.YteicdfkmpnmkmaaGreatL13r
namespace Go.Proofs.YteicdfkmpnmkmaaGreat
set_option linter.unusedVariables false
set_option linter.unusedSimpArgs false
open Go.RowKit Go.Sl
theorem geti_nat {α : Type} (xs : List α) (m : Nat) : geti xs (m : Int) = xs[m]? := by simp [geti]
theorem seti_nat {α : Type} (xs : List α) {m : Nat} (h : m < xs.length) (x : α) : seti xs (m : Int) x = some (xs.set m x) := by simp [seti, h]
theorem appM_eq {α : Type} {b : Nat} {xs ys : List α} (h : xs.length + ys.length ≤ 9223372036854775807 ∧ (xs.length + ys.length) * b ≤ 140737488355328) : appM b xs ys = some (xs ++ ys) := by
  simp [appM, roomB, h.1, h.2]
theorem repM_eq {α : Type} {b m : Nat} {x : α} (h : b * m ≤ 281474976710656 ∧ m ≤ 9223372036854775807) : repM b (m : Int) x = some (List.replicate m x) := by
  simp [repM, h.1, h.2]
theorem w64_id {i : Int} (h : -9223372036854775808 ≤ i ∧ i ≤ 9223372036854775807) : w64 i = i := wr_i64 h
theorem w64_succ {m : Nat} (h : m ≤ 9223372036854775806) : w64 ((m : Int) + 1) = ((m + 1 : Nat) : Int) := by
  rw [w64_id (by omega)]; omega
theorem cutM_last {α : Type} (xs : List α) (x : α) (h : xs.length ≤ 9223372036854775806) : cutM (xs ++ [x]) (0 : Int) (w64 (((xs ++ [x]).length : Int) - 1)) = some xs := by
  rw [w64_id (by simp; omega)]
  have : (((xs ++ [x]).length : Int) - 1) = (xs.length : Int) := by simp
  rw [this]
  have h2 : (xs.length : Int) ≤ xs.length + 1 := by omega
  simp [cutM, h2]
theorem geti_last {α : Type} (xs : List α) (x : α) (h : xs.length ≤ 9223372036854775806) : geti (xs ++ [x]) (w64 (((xs ++ [x]).length : Int) - 1)) = some x := by
  rw [w64_id (by simp; omega)]
  have : (((xs ++ [x]).length : Int) - 1) = (xs.length : Int) := by simp
  rw [this, geti_nat]
  simp
def zn : api_Node := {Kind := 0, Name := bs [], Text := bs [], Attrs := [], Parent := 0, First := 0, Last := 0, Prev := 0, Next := 0}
section
variable (ns : List api_Node)
def nd (i : Nat) : api_Node := ns.getD i zn
abbrev par (i : Nat) : Int := (nd ns i).Parent
def lastc : Nat → Int → Int
  | 0, _ => -1
  | i + 1, p => if par ns (i + 1) = p then ((i + 1 : Nat) : Int) else lastc i p
def firstc : Nat → Int → Int
  | 0, _ => -1
  | i + 1, p => if par ns (i + 1) = p ∧ lastc ns i p = -1 then ((i + 1 : Nat) : Int) else firstc i p
def nextc : Nat → Int → Int
  | 0, _ => -1
  | i + 1, m => if 0 ≤ m ∧ lastc ns i (par ns (i + 1)) = m then ((i + 1 : Nat) : Int) else nextc i m
def prevc (i : Nat) : Int := lastc ns (i - 1) (par ns i)
def pop (p : Int) (l : List Int) : List Int := l.dropWhile fun x => decide (x ≠ p)
def row : Nat → List Int
  | 0 => [0]
  | i + 1 => ((i + 1 : Nat) : Int) :: pop (par ns (i + 1)) (row i)
def okS (i : Nat) : Prop := pop (par ns (i + 1)) (row ns i) ≠ [] ∧ (nd ns (par ns (i + 1)).toNat).Kind = 1
theorem nd_get {i : Nat} (h : i < ns.length) : ns[i]? = some (nd ns i) := by simp [nd, h]
theorem lastc_le : ∀ (i : Nat) (p : Int), lastc ns i p = -1 ∨ ∃ c : Nat, lastc ns i p = c ∧ 1 ≤ c ∧ c ≤ i ∧ par ns c = p
  | 0, _ => .inl rfl
  | i + 1, p => by
    unfold lastc
    split
    · rename_i h
      exact .inr ⟨i + 1, rfl, by omega, by omega, h⟩
    · rcases lastc_le i p with h | ⟨c, h1, h2, h3, h4⟩
      · exact .inl h
      · exact .inr ⟨c, h1, h2, by omega, h4⟩
theorem lastc_at : ∀ (i c : Nat), 1 ≤ c → c ≤ i → (c : Int) ≤ lastc ns i (par ns c)
  | 0, c, h1, h2 => by omega
  | i + 1, c, h1, h2 => by
    unfold lastc
    split
    · omega
    · rename_i h
      rcases Nat.lt_or_ge i c with h3 | h3
      · have : c = i + 1 := by omega
        subst this
        exact absurd rfl h
      · exact lastc_at i c h1 h3
theorem firstc_of : ∀ (i c : Nat), 1 ≤ c → c ≤ i → prevc ns c = -1 → firstc ns i (par ns c) = c
  | 0, c, h1, h2, _ => by omega
  | i + 1, c, h1, h2, h => by
    unfold firstc
    rcases Nat.lt_or_ge i c with h3 | h3
    · have : c = i + 1 := by omega
      subst this
      rw [if_pos ⟨rfl, h⟩]
    · have := lastc_at ns i c h1 h3
      rw [if_neg (by rintro ⟨_, h5⟩; omega)]
      exact firstc_of i c h1 h3 h
theorem firstc_none : ∀ (i : Nat) (p : Int), lastc ns i p = -1 → firstc ns i p = -1
  | 0, _, _ => rfl
  | i + 1, p, h => by
    unfold lastc at h
    split at h
    · omega
    · rename_i h2
      unfold firstc
      rw [if_neg (by rintro ⟨h3, _⟩; exact h2 h3)]
      exact firstc_none i p h
theorem firstc_some : ∀ (i : Nat) (p : Int), lastc ns i p ≠ -1 → ∃ c : Nat, 1 ≤ c ∧ c ≤ i ∧ par ns c = p ∧ prevc ns c = -1
  | 0, _, h => absurd rfl h
  | i + 1, p, h => by
    by_cases h0 : lastc ns i p = -1
    · unfold lastc at h
      split at h
      · rename_i h1
        exact ⟨i + 1, by omega, by omega, h1, by unfold prevc; rw [h1]; exact h0⟩
      · exact absurd h0 h
    · obtain ⟨c, h1, h2, h3⟩ := firstc_some i p h0
      exact ⟨c, h1, by omega, h3⟩
theorem nextc_of : ∀ (i c m : Nat), 1 ≤ c → c ≤ i → prevc ns c = m → nextc ns i m = c
  | 0, c, m, h1, h2, _ => by omega
  | i + 1, c, m, h1, h2, h => by
    unfold nextc
    rcases Nat.lt_or_ge i c with h3 | h3
    · have : c = i + 1 := by omega
      subst this
      rw [if_pos ⟨by omega, h⟩]
    · have hp : par ns m = par ns c := by
        rcases lastc_le ns (c - 1) (par ns c) with h4 | ⟨q, h4, _, _, h5⟩
        · unfold prevc at h; omega
        · unfold prevc at h
          have : q = m := by omega
          subst this; exact h5
      have hlt : m < c := by
        rcases lastc_le ns (c - 1) (par ns c) with h4 | ⟨q, h4, _, h6, h5⟩
        · unfold prevc at h; omega
        · unfold prevc at h; omega
      rw [if_neg]
      · exact nextc_of i c m h1 h3 h
      · rintro ⟨_, h5⟩
        have h6 := lastc_at ns i c h1 h3
        rcases lastc_le ns i (par ns (i + 1)) with h7 | ⟨q, h7, _, _, h8⟩
        · omega
        · have : q = m := by omega
          subst this
          rw [← hp, h8] at h6
          omega
theorem nextc_none : ∀ (i : Nat) (m : Int), (∀ c : Nat, 1 ≤ c → c ≤ i → prevc ns c ≠ m) → nextc ns i m = -1
  | 0, _, _ => rfl
  | i + 1, m, h => by
    unfold nextc
    rw [if_neg (by rintro ⟨_, h1⟩; exact h (i + 1) (by omega) (by omega) h1)]
    exact nextc_none i m fun c h1 h2 => h c h1 (by omega)
theorem younger : ∀ (i m : Nat), 1 ≤ m → m ≤ i → lastc ns i (par ns m) ≠ m → ∃ c : Nat, 1 ≤ c ∧ c ≤ i ∧ prevc ns c = m
  | 0, m, h1, h2, _ => by omega
  | i + 1, m, h1, h2, h => by
    rcases Nat.lt_or_ge i m with h3 | h3
    · have : m = i + 1 := by omega
      subst this
      unfold lastc at h
      simp at h
    · by_cases h4 : lastc ns i (par ns m) = m
      · unfold lastc at h
        split at h
        · rename_i h5
          exact ⟨i + 1, by omega, by omega, by unfold prevc; rw [h5]; exact h4⟩
        · exact absurd h4 h
      · obtain ⟨c, h5, h6, h7⟩ := younger i m h1 h3 h4
        exact ⟨c, h5, by omega, h7⟩
end
end Go.Proofs.YteicdfkmpnmkmaaGreat
namespace Go.Proofs.YteicdfkmpnmkmaaGreat
set_option linter.unusedVariables false
set_option linter.unusedSimpArgs false
open Go.RowKit Go.Sl
section
variable (ns : List api_Node)
def stepP (j : Nat) : Prop := (nd ns j).Prev = prevc ns j ∧ ((nd ns j).Prev = -1 → (nd ns (par ns j).toNat).First = j) ∧ ((nd ns j).Prev ≠ -1 → (nd ns (nd ns j).Prev.toNat).Next = j)
def endP (m : Nat) : Prop := (nd ns m).Last = lastc ns (ns.length - 1) m ∧ (lastc ns (ns.length - 1) m = -1 → (nd ns m).First = -1) ∧ (lastc ns (ns.length - 1) m ≠ -1 → (nd ns (lastc ns (ns.length - 1) m).toNat).Next = -1)
def refP (m : Nat) : Prop := (nd ns m).First = firstc ns (ns.length - 1) m ∧ (nd ns m).Last = lastc ns (ns.length - 1) m ∧ (nd ns m).Prev = (if m = 0 then -1 else prevc ns m) ∧ (nd ns m).Next = nextc ns (ns.length - 1) m
theorem links_iff (h0 : 0 < ns.length) (hprev : (nd ns 0).Prev = -1) (hnext : (nd ns 0).Next = -1) (hpar : ∀ j, 1 ≤ j → j < ns.length → 0 ≤ par ns j ∧ (par ns j).toNat < ns.length) :
    ((∀ j, 1 ≤ j → j < ns.length → stepP ns j) ∧ ∀ m, m < ns.length → endP ns m) ↔ ∀ m, m < ns.length → refP ns m := by
  have back : ∀ {j : Nat}, 1 ≤ j → j < ns.length → ((par ns j).toNat : Int) = par ns j := fun h1 h2 => by have := (hpar _ h1 h2).1; omega
  constructor
  · rintro ⟨hs, he⟩ m hm
    refine ⟨?_, (he m hm).1, ?_, ?_⟩
    · by_cases hl : lastc ns (ns.length - 1) m = -1
      · rw [(he m hm).2.1 hl, firstc_none ns _ _ hl]
      · obtain ⟨c, h1, h2, h3, h4⟩ := firstc_some ns _ _ hl
        have h5 := hs c h1 (by omega)
        have h6 := h5.2.1 (by rw [h5.1]; exact h4)
        rw [h3] at h6
        have h7 := firstc_of ns (ns.length - 1) c h1 (by omega) h4
        rw [h3] at h7
        rw [h7]; simpa using h6
    · split
      · rename_i e; subst e; exact hprev
      · exact (hs m (by omega) hm).1
    · by_cases hm0 : m = 0
      · subst hm0
        rw [hnext, nextc_none]
        intro c h1 h2 h3
        unfold prevc at h3
        rcases lastc_le ns (c - 1) (par ns c) with h4 | ⟨q, h4, h5, _⟩ <;> omega
      · by_cases hl : lastc ns (ns.length - 1) (par ns m) = m
        · have h1 := back (by omega) hm
          have h2 := he (par ns m).toNat (hpar m (by omega) hm).2
          rw [show nextc ns (ns.length - 1) m = -1 from ?_]
          · have h3 := h2.2.2
            rw [h1, hl] at h3
            simpa using h3 (by omega)
          · refine nextc_none ns _ _ fun c h3 h4 h5 => ?_
            have h6 : par ns m = par ns c := by
              unfold prevc at h5
              rcases lastc_le ns (c - 1) (par ns c) with h7 | ⟨q, h7, _, _, h8⟩
              · omega
              · have : q = m := by omega
                subst this; exact h8
            have h7 := lastc_at ns (ns.length - 1) c h3 (by omega)
            rw [← h6, hl] at h7
            unfold prevc at h5
            rcases lastc_le ns (c - 1) (par ns c) with h8 | ⟨q, h8, _, h9, _⟩ <;> omega
        · obtain ⟨c, h1, h2, h3⟩ := younger ns (ns.length - 1) m (by omega) (by omega) hl
          have h4 := hs c h1 (by omega)
          have h5 := h4.2.2 (by rw [h4.1, h3]; omega)
          rw [h4.1, h3] at h5
          rw [nextc_of ns _ c m h1 (by omega) h3]
          simpa using h5
  · intro h
    refine ⟨fun j h1 h2 => ?_, fun m hm => ?_⟩
    · have hj := h j h2
      have hp : (nd ns j).Prev = prevc ns j := by have := hj.2.2.1; rwa [if_neg (by omega)] at this
      refine ⟨hp, fun h3 => ?_, fun h3 => ?_⟩
      · have h4 := (h (par ns j).toNat (hpar j h1 h2).2).1
        rw [h4, back h1 h2]
        exact firstc_of ns _ j h1 (by omega) (by rw [← hp]; exact h3)
      · rw [hp] at h3
        rcases lastc_le ns (j - 1) (par ns j) with h4 | ⟨q, h4, h5, h6, _⟩
        · exact absurd h4 h3
        · have h7 : prevc ns j = q := h4
          rw [hp, h7]
          have h8 := (h q (by omega)).2.2.2
          rw [Int.toNat_natCast, h8]
          exact nextc_of ns _ j q h1 (by omega) h7
    · have hm' := h m hm
      refine ⟨hm'.2.1, fun h1 => by rw [hm'.1]; exact firstc_none ns _ _ h1, fun h1 => ?_⟩
      rcases lastc_le ns (ns.length - 1) m with h2 | ⟨q, h2, h3, h4, h5⟩
      · exact absurd h2 h1
      · rw [h2, Int.toNat_natCast, (h q (by omega)).2.2.2]
        refine nextc_none ns _ _ fun c h6 h7 h8 => ?_
        have h9 : par ns q = par ns c := by
          unfold prevc at h8
          rcases lastc_le ns (c - 1) (par ns c) with h10 | ⟨z, h10, _, _, h11⟩
          · omega
          · have : z = q := by omega
            subst this; exact h11
        have h10 := lastc_at ns (ns.length - 1) c h6 (by omega)
        rw [← h9, h5, h2] at h10
        unfold prevc at h8
        rcases lastc_le ns (c - 1) (par ns c) with h11 | ⟨z, h11, _, h12, _⟩ <;> omega
def rowInv (i : Nat) : Prop := ∃ tl, row ns i = (i : Int) :: tl ∧ (∀ x ∈ tl, ∃ q : Nat, x = q ∧ q < i ∧ (nd ns q).Kind = 1) ∧ ∀ (p : Int) (l l' : List Int), row ns i = l' ++ p :: l → ∃ q : Nat, p = q ∧ q ≤ i ∧ p :: l = row ns q
theorem pop_split (p : Int) : ∀ l : List Int, pop p l = [] ∨ ∃ l' tl, l = l' ++ pop p l ∧ pop p l = p :: tl
  | [] => .inl rfl
  | x :: l => by
    unfold pop
    rw [List.dropWhile_cons]
    by_cases h : x = p
    · subst h
      right
      exact ⟨[], l, by simp, by simp⟩
    · rw [if_pos (by simpa using h)]
      rcases pop_split p l with h1 | ⟨l', tl, h1, h2⟩
      · exact .inl h1
      · refine .inr ⟨x :: l', tl, ?_, h2⟩
        rw [List.cons_append]
        congr 1
theorem rowInv_zero : rowInv ns 0 := ⟨[], rfl, by simp, fun p l l' h => by
  have h1 : row ns 0 = [0] := rfl
  rw [h1] at h
  cases l' with
  | nil => simp at h; exact ⟨0, by omega, by omega, by rw [h1, h.1, h.2]⟩
  | cons a l' => simp at h⟩
theorem rowInv_succ {i : Nat} (h : rowInv ns i) (_hk : i = 0 → (nd ns 0).Kind = 1) (ho : okS ns i) : rowInv ns (i + 1) := by
  obtain ⟨tl, h1, h2, h3⟩ := h
  obtain ⟨o1, o2⟩ := ho
  rcases pop_split (par ns (i + 1)) (row ns i) with h4 | ⟨l', tl', h4, h5⟩
  · exact absurd h4 o1
  · refine ⟨_, rfl, fun x hx => ?_, fun p l q hq => ?_⟩
    · rw [h5] at hx
      obtain ⟨z, hz, hz2, _⟩ := h3 (par ns (i + 1)) tl' l' (by rw [← h5]; exact h4)
      rcases List.mem_cons.1 hx with rfl | hx
      · refine ⟨z, hz, by omega, ?_⟩
        have := o2
        rw [hz] at this
        simpa using this
      · have : x ∈ tl := by
          have h6 : row ns i = l' ++ par ns (i + 1) :: tl' := by rw [← h5]; exact h4
          rw [h1] at h6
          cases l' with
          | nil => simp at h6; rw [h6.2]; exact hx
          | cons a l' => simp at h6; rw [h6.2]; simp [hx]
        obtain ⟨q, e1, e2, e3⟩ := h2 x this
        exact ⟨q, e1, by omega, e3⟩
    · cases q with
      | nil =>
        simp only [List.nil_append] at hq
        have hp : p = ((i + 1 : Nat) : Int) := by
          have : row ns (i + 1) = ((i + 1 : Nat) : Int) :: pop (par ns (i + 1)) (row ns i) := rfl
          rw [this] at hq
          exact (List.cons.inj hq).1.symm
        exact ⟨i + 1, hp, by omega, hq.symm⟩
      | cons a q =>
        have hr : row ns (i + 1) = ((i + 1 : Nat) : Int) :: pop (par ns (i + 1)) (row ns i) := rfl
        rw [hr, List.cons_append] at hq
        have h6 := (List.cons.inj hq).2
        obtain ⟨z, hz, hz2, hz3⟩ := h3 p l (l' ++ q) (by rw [h4, h6, List.append_assoc])
        exact ⟨z, hz, by omega, hz3⟩
def good : Nat → Prop
  | 0 => (nd ns 0).Kind = 1
  | i + 1 => good i ∧ okS ns i
theorem good.inv : ∀ {i : Nat}, good ns i → rowInv ns i
  | 0, _ => rowInv_zero ns
  | _ + 1, h => rowInv_succ ns (good.inv h.1) (fun e => by subst e; exact h.1) h.2
theorem good.le {i j : Nat} (h : good ns j) (hij : i ≤ j) : good ns i := by
  induction hij with
  | refl => exact h
  | step _ ih => exact ih h.1
theorem good.par {i : Nat} (h : good ns (i + 1)) : ∃ q : Nat, par ns (i + 1) = q ∧ q ≤ i ∧ (nd ns q).Kind = 1 ∧ row ns (i + 1) = ((i + 1 : Nat) : Int) :: row ns q := by
  obtain ⟨_, _, _, h3⟩ := good.inv ns h.1
  obtain ⟨o1, o2⟩ := h.2
  rcases pop_split (Proofs.YteicdfkmpnmkmaaGreat.par ns (i + 1)) (row ns i) with h4 | ⟨l', tl', h4, h5⟩
  · exact absurd h4 o1
  · obtain ⟨z, hz, hz2, hz3⟩ := h3 _ tl' l' (by rw [← h5]; exact h4)
    refine ⟨z, hz, hz2, ?_, ?_⟩
    · rw [hz] at o2; simpa using o2
    · rw [← hz3, ← h5]; rfl
end
end Go.Proofs.YteicdfkmpnmkmaaGreat
namespace Go.Proofs.YteicdfkmpnmkmaaGreat
set_option linter.unusedVariables false
set_option linter.unusedSimpArgs false
open Go.RowKit Go.Sl
theorem mgetM_mputM {α : Type} (k q : ByteArray) (v : α) : ∀ m : List (ByteArray × α), mgetM (mputM m k v) q = if k = q then some v else mgetM m q
  | [] => by
    by_cases h : k = q <;> simp [mgetM, mputM, h]
  | p :: m => by
    have ih := mgetM_mputM k q v m
    unfold mputM
    by_cases h1 : p.1 = k
    · rw [if_pos h1]
      by_cases h2 : k = q <;> simp [mgetM, h1, h2]
    · rw [if_neg h1]
      by_cases h2 : p.1 = q
      · have : ¬ k = q := fun e => h1 (h2.trans e.symm)
        simp [mgetM, h2, this]
      · simp only [mgetM, List.find?_cons, h2, decide_false] at ih ⊢
        exact ih
def attP (l : List api_Attr) (i : Nat) : Prop := ∀ a, l[i]? = some a → a.Name ≠ bs [] ∧ ∀ j, j < i → ∀ b, l[j]? = some b → b.Name ≠ a.Name
theorem alone_loop (x : api_Node) (hl : x.Attrs.length ≤ 64) : ∀ (k m : Nat) (M : List (ByteArray × Int)), x.Attrs.length < k + m → m ≤ x.Attrs.length →
    (∀ q, (mgetM M q).getD 0 = 0 ∧ (∀ j, j < m → ∀ b, x.Attrs[j]? = some b → b.Name ≠ q) ∨ (mgetM M q).getD 0 = 1 ∧ ∃ j, j < m ∧ ∃ b, x.Attrs[j]? = some b ∧ b.Name = q) →
    ∃ b, dom_alone_l2 x k M (m : Int) = some b ∧ (b = true ↔ ∀ i, m ≤ i → attP x.Attrs i)
  | 0, m, M, hk, hm, _ => by omega
  | k + 1, m, M, hk, hm, hM => by
    rw [dom_alone_l2]
    by_cases h : m < x.Attrs.length
    · obtain ⟨a, ha⟩ : ∃ a, x.Attrs[m]? = some a := ⟨_, List.getElem?_eq_getElem h⟩
      have e1 : decide ((m : Int) < (x.Attrs.length : Int)) = true := by simpa using h
      rw [e1, cond_true, geti_nat, ha, Option.bind_some]
      by_cases hn : a.Name = bs []
      · refine ⟨false, by simp [hn, dom_alone_k3], by simp; exact ⟨m, Nat.le_refl _, fun hh => (hh a ha).1 hn⟩⟩
      · rw [decide_eq_false hn, cond_false]
        rcases hM a.Name with ⟨h0, h1⟩ | ⟨h0, j, h1, b, h2, h3⟩
        · obtain ⟨b, e2, e3⟩ := alone_loop x hl k (m + 1) (mputM M a.Name (w64 (((mgetM M a.Name).getD 0) + 1))) (by omega) (by omega) (fun q => by
            rw [mgetM_mputM]
            by_cases hq : a.Name = q
            · right
              rw [if_pos hq]
              exact ⟨by simp [h0]; decide, m, by omega, a, ha, hq⟩
            · rw [if_neg hq]
              rcases hM q with ⟨g0, g1⟩ | ⟨g0, j, g1, b, g2, g3⟩
              · left
                refine ⟨g0, fun j hj b hb => ?_⟩
                rcases Nat.lt_or_ge j m with g2 | g2
                · exact g1 j g2 b hb
                · have : j = m := by omega
                  subst this
                  rw [ha] at hb; cases hb; exact hq
              · exact .inr ⟨g0, j, by omega, b, g2, g3⟩)
          refine ⟨b, ?_, ?_⟩
          · rw [show decide (0 < ((mgetM M a.Name).getD 0)) = false from by rw [h0]; rfl]
            unfold dom_alone_k3
            rw [cond_false, w64_succ (by omega)]
            exact e2
          · rw [e3]
            constructor
            · intro hh i hi
              rcases Nat.eq_or_lt_of_le hi with e | e
              · subst e
                intro a' ha'
                rw [ha] at ha'; cases ha'
                exact ⟨hn, h1⟩
              · exact hh i e
            · intro hh i hi
              exact hh i (by omega)
        · refine ⟨false, by rw [h0]; simp [dom_alone_k3], by simp; exact ⟨m, Nat.le_refl _, fun hh => (hh a ha).2 j h1 b h2 h3⟩⟩
    · have e1 : decide ((m : Int) < (x.Attrs.length : Int)) = false := by simp; omega
      rw [e1, cond_false]
      refine ⟨true, rfl, by simp; intro i hi a ha; have := (List.getElem?_eq_some_iff.1 ha).1; omega⟩
def aloneP (x : api_Node) : Prop := (x.Kind = 2 ∧ x.Name = bs [] ∧ x.Text ≠ bs [] ∧ x.Attrs.length = 0 ∧ x.First = -1 ∧ x.Last = -1) ∨ (x.Kind = 1 ∧ x.Name ≠ bs [] ∧ x.Text = bs [] ∧ x.Attrs.length ≤ 64 ∧ ∀ i, attP x.Attrs i)
theorem dom_alone_eq (x : api_Node) {n : Nat} (hn : 66 ≤ n) : ∃ b, dom_alone n x = some b ∧ (b = true ↔ aloneP x) := by
  unfold dom_alone
  by_cases hk : x.Kind = 2
  · refine ⟨_, by rw [decide_eq_true hk, cond_true], ?_⟩
    simp only [aloneP, hk, Bool.and_eq_true, decide_eq_true_eq]
    simp
  · rw [decide_eq_false hk, cond_false]
    by_cases hb : x.Kind ≠ 1 ∨ x.Name = bs [] ∨ x.Text ≠ bs [] ∨ 64 < x.Attrs.length
    · refine ⟨false, ?_, ?_⟩
      · rw [show (decide (x.Kind ≠ 1) || (decide (x.Name = bs []) || (decide (x.Text ≠ bs []) || decide (64 < (x.Attrs.length : Int))))) = true from ?_, cond_true]
        simp only [Bool.or_eq_true, decide_eq_true_eq]
        rcases hb with h | h | h | h
        · exact .inl h
        · exact .inr (.inl h)
        · exact .inr (.inr (.inl h))
        · exact .inr (.inr (.inr (by omega)))
      · simp only [aloneP, hk, false_and, false_or, Bool.false_eq_true, false_iff]
        rintro ⟨h1, h2, h3, h4, _⟩
        rcases hb with h | h | h | h
        · exact h h1
        · exact h2 h
        · exact h h3
        · omega
    · have h1 : x.Kind = 1 := Decidable.byContradiction fun h => hb (.inl h)
      have h2 : x.Name ≠ bs [] := fun h => hb (.inr (.inl h))
      have h3 : x.Text = bs [] := Decidable.byContradiction fun h => hb (.inr (.inr (.inl h)))
      have h4 : x.Attrs.length ≤ 64 := Nat.le_of_not_lt fun h => hb (.inr (.inr (.inr h)))
      have e1 : (decide (x.Kind ≠ 1) || (decide (x.Name = bs []) || (decide (x.Text ≠ bs []) || decide (64 < (x.Attrs.length : Int))))) = false := by
        simp [h1, h2, h3]; omega
      rw [e1, cond_false]
      obtain ⟨b, e2, e3⟩ := alone_loop x h4 n 0 [] (by omega) (by omega) (fun q => .inl ⟨rfl, fun j hj => by omega⟩)
      refine ⟨b, e2, ?_⟩
      rw [e3]
      simp [aloneP, h1, h2, h3, h4]
theorem attrs_inner (l : List api_Attr) (m : Nat) (a : api_Attr) (ha : l[m]? = some a) (lp : Int → Option Bool) (hm : m ≤ 9223372036854775806) : ∀ (k j : Nat), m < k + j → j ≤ m →
    ((∃ i, j ≤ i ∧ i < m ∧ ∃ b, l[i]? = some b ∧ b.Name = a.Name) ∧ ref5_attrs_l4 l (m : Int) lp k (j : Int) = some false) ∨
    ((∀ i, j ≤ i → i < m → ∀ b, l[i]? = some b → b.Name ≠ a.Name) ∧ ref5_attrs_l4 l (m : Int) lp k (j : Int) = lp ((m + 1 : Nat) : Int))
  | 0, j, hk, hj => by omega
  | k + 1, j, hk, hj => by
    have hlm := (List.getElem?_eq_some_iff.1 ha).1
    rw [ref5_attrs_l4]
    by_cases h : j < m
    · obtain ⟨b, hb⟩ : ∃ b, l[j]? = some b := ⟨_, List.getElem?_eq_getElem (by omega)⟩
      rw [show decide ((j : Int) < (m : Int)) = true from by simpa using h, cond_true, geti_nat, hb, Option.bind_some, geti_nat, ha, Option.bind_some]
      by_cases hn : b.Name = a.Name
      · left
        exact ⟨⟨j, Nat.le_refl _, h, b, hb, hn⟩, by rw [decide_eq_true hn, cond_true]⟩
      · rw [decide_eq_false hn, cond_false, w64_succ (by omega)]
        rcases attrs_inner l m a ha lp hm k (j + 1) (by omega) (by omega) with ⟨⟨i, h1, h2⟩, h3⟩ | ⟨h1, h2⟩
        · exact .inl ⟨⟨i, by omega, h2⟩, h3⟩
        · refine .inr ⟨fun i hi hi2 c hc => ?_, h2⟩
          rcases Nat.eq_or_lt_of_le hi with e | e
          · subst e; rw [hb] at hc; cases hc; exact hn
          · exact h1 i e hi2 c hc
    · right
      rw [show decide ((j : Int) < (m : Int)) = false from by simp; omega, cond_false]
      refine ⟨fun i h1 h2 => by omega, ?_⟩
      unfold ref5_attrs_k3
      rw [w64_succ hm]
theorem attrs_loop (n : Nat) (l : List api_Attr) (hn : l.length < n) (hl : l.length ≤ 9223372036854775806) : ∀ (k m : Nat), l.length < k + m → m ≤ l.length →
    ∃ b, ref5_attrs_l2 n l k (m : Int) = some b ∧ (b = true ↔ (∀ i, m ≤ i → attP l i) ∧ l.length ≤ 64)
  | 0, m, hk, hm => by omega
  | k + 1, m, hk, hm => by
    rw [ref5_attrs_l2]
    by_cases h : m < l.length
    · obtain ⟨a, ha⟩ : ∃ a, l[m]? = some a := ⟨_, List.getElem?_eq_getElem h⟩
      rw [show decide ((m : Int) < (l.length : Int)) = true from by simpa using h, cond_true, geti_nat, ha, Option.bind_some]
      by_cases hn2 : a.Name = bs []
      · refine ⟨false, by rw [decide_eq_true hn2, cond_true], ?_⟩
        simp only [Bool.false_eq_true, false_iff]
        rintro ⟨hh, _⟩
        exact (hh m (Nat.le_refl _) a ha).1 hn2
      · rw [decide_eq_false hn2, cond_false]
        rcases attrs_inner l m a ha (ref5_attrs_l2 n l k) (by omega) n 0 (by omega) (by omega) with ⟨⟨i, _, h2, b, h3, h4⟩, h5⟩ | ⟨h1, h2⟩
        · refine ⟨false, h5, ?_⟩
          simp only [Bool.false_eq_true, false_iff]
          rintro ⟨hh, _⟩
          exact (hh m (Nat.le_refl _) a ha).2 i h2 b h3 h4
        · obtain ⟨b, e1, e2⟩ := attrs_loop n l hn hl k (m + 1) (by omega) (by omega)
          refine ⟨b, (by have := h2; simp only [Int.ofNat_zero] at this; rw [← e1]; exact this), ?_⟩
          rw [e2]
          constructor
          · rintro ⟨hh, hl⟩
            refine ⟨fun i hi => ?_, hl⟩
            rcases Nat.eq_or_lt_of_le hi with e | e
            · subst e
              intro a' ha'
              rw [ha] at ha'; cases ha'
              exact ⟨hn2, fun j hj b hb => h1 j (by omega) hj b hb⟩
            · exact hh i e
          · rintro ⟨hh, hl⟩
            exact ⟨fun i hi => hh i (by omega), hl⟩
    · rw [show decide ((m : Int) < (l.length : Int)) = false from by simp; omega, cond_false]
      refine ⟨_, rfl, ?_⟩
      simp only [decide_eq_true_eq]
      constructor
      · intro h1
        exact ⟨fun i hi a ha => by have := (List.getElem?_eq_some_iff.1 ha).1; omega, by omega⟩
      · rintro ⟨_, h1⟩; omega
theorem ref5_plain_eq (x : api_Node) {n : Nat} (hn : x.Attrs.length < n) (hl : x.Attrs.length ≤ 9223372036854775806) : ∃ b, ref5_plain n x = some b ∧ (b = true ↔ aloneP x) := by
  unfold ref5_plain
  by_cases hk : x.Kind = 1
  · rw [decide_eq_true hk, cond_true]
    by_cases h2 : x.Name = bs []
    · exact ⟨false, by simp [h2, ref5_plain_k1], by simp [aloneP, hk, h2]⟩
    · rw [decide_eq_true h2, cond_true]
      by_cases h3 : x.Text = bs []
      · rw [decide_eq_true h3, cond_true]
        obtain ⟨b, e1, e2⟩ := attrs_loop n x.Attrs hn hl n 0 (by omega) (by omega)
        refine ⟨b, by unfold ref5_attrs; rw [show (0 : Int) = ((0 : Nat) : Int) from rfl, e1]; rfl, ?_⟩
        rw [e2]
        simp [aloneP, hk, h2, h3, and_comm]
      · exact ⟨false, by simp [h3, ref5_plain_k1], by simp [aloneP, hk, h3]⟩
  · rw [decide_eq_false hk, cond_false]
    refine ⟨_, rfl, ?_⟩
    simp only [aloneP, hk, false_and, or_false, Bool.and_eq_true, decide_eq_true_eq]
    simp
end Go.Proofs.YteicdfkmpnmkmaaGreat
namespace Go.Proofs.YteicdfkmpnmkmaaGreat
set_option linter.unusedVariables false
set_option linter.unusedSimpArgs false
open Go.RowKit Go.Sl
section
variable (ns : List api_Node)
def opn (i : Nat) : List Int := if (nd ns i).Kind = 1 then row ns i else (row ns i).tail
theorem pop_nil_iff (p : Int) : ∀ l : List Int, p ∉ l → pop p l = []
  | [], _ => rfl
  | x :: l, h => by
    simp only [List.mem_cons, not_or] at h
    unfold pop
    rw [List.dropWhile_cons, if_pos (by simpa using fun e => h.1 e.symm)]
    exact pop_nil_iff p l h.2
theorem pop_cons_ne {p x : Int} (l : List Int) (h : x ≠ p) : pop p (x :: l) = pop p l := by
  unfold pop
  rw [List.dropWhile_cons, if_pos (by simpa using h)]
theorem pop_cons_eq (p : Int) (l : List Int) : pop p (p :: l) = p :: l := by
  unfold pop
  rw [List.dropWhile_cons, if_neg (by simp)]
theorem opn_pop {i : Nat} (h : good ns i) : (okS ns i ∧ pop (par ns (i + 1)) (opn ns i) = pop (par ns (i + 1)) (row ns i)) ∨ (¬ okS ns i ∧ pop (par ns (i + 1)) (opn ns i) = []) := by
  obtain ⟨tl, h1, h2, _⟩ := good.inv ns h
  unfold opn
  by_cases hk : (nd ns i).Kind = 1
  · rw [if_pos hk]
    by_cases h0 : pop (par ns (i + 1)) (row ns i) = []
    · exact .inr ⟨fun ho => ho.1 h0, h0⟩
    · refine .inl ⟨⟨h0, ?_⟩, rfl⟩
      rcases pop_split (par ns (i + 1)) (row ns i) with h4 | ⟨l', tl', h4, h5⟩
      · exact absurd h4 h0
      · have hm : par ns (i + 1) ∈ row ns i := by rw [h4, h5]; simp
        rw [h1] at hm
        rcases List.mem_cons.1 hm with e | e
        · rw [e]; simpa using hk
        · obtain ⟨q, e1, _, e3⟩ := h2 _ e
          rw [e1]; simpa using e3
  · rw [if_neg hk, h1, List.tail_cons]
    by_cases hp : par ns (i + 1) = i
    · right
      refine ⟨fun ho => hk ?_, pop_nil_iff _ _ fun hm => ?_⟩
      · have := ho.2
        rw [hp] at this
        simpa using this
      · obtain ⟨q, e1, e2, _⟩ := h2 _ hm
        omega
    · rw [pop_cons_ne _ (fun e => hp e.symm)]
      by_cases h0 : pop (par ns (i + 1)) tl = []
      · refine .inr ⟨fun ho => ho.1 ?_, h0⟩
        rw [h1, pop_cons_ne _ (fun e => hp e.symm)]; exact h0
      · refine .inl ⟨⟨?_, ?_⟩, rfl⟩
        · rw [h1, pop_cons_ne _ (fun e => hp e.symm)]; exact h0
        · rcases pop_split (par ns (i + 1)) tl with h4 | ⟨l', tl', h4, h5⟩
          · exact absurd h4 h0
          · have hm : par ns (i + 1) ∈ tl := by rw [h4, h5]; simp
            obtain ⟨q, e1, _, e3⟩ := h2 _ hm
            rw [e1]; simpa using e3
theorem lastc_succ (i : Nat) (p : Int) : lastc ns (i + 1) p = if par ns (i + 1) = p then ((i + 1 : Nat) : Int) else lastc ns i p := rfl
theorem opn_succ {i : Nat} : opn ns (i + 1) = if (nd ns (i + 1)).Kind = 1 then ((i + 1 : Nat) : Int) :: pop (par ns (i + 1)) (row ns i) else pop (par ns (i + 1)) (row ns i) := rfl
theorem row_length : ∀ i, (row ns i).length ≤ i + 1
  | 0 => Nat.le_refl _
  | i + 1 => by
    have := row_length i
    have h2 : (pop (par ns (i + 1)) (row ns i)).length ≤ (row ns i).length := (List.dropWhile_sublist _).length_le
    simp only [row, List.length_cons]
    omega
theorem opn_length (i : Nat) : (opn ns i).length ≤ i + 1 := by
  have := row_length ns i
  unfold opn
  split
  · exact this
  · simp; omega
theorem good.lastc_none : ∀ {i : Nat}, good ns i → ∀ j, i ≤ j → lastc ns i (j : Int) = -1
  | 0, _, _, _ => rfl
  | i + 1, h, j, hj => by
    obtain ⟨q, h1, h2, _⟩ := good.par ns h
    unfold lastc
    rw [if_neg (by omega)]
    exact good.lastc_none h.1 j (by omega)
end
section
variable (ns : List api_Node)
theorem linked_pop (m : Int) (lp : List Int → List Int → Int → Option Bool) (x : api_Node) (ls : List Int) : ∀ (k : Nat) (L : List Int), L.length < k → L.length ≤ 4097 →
    dom_linked_l11 ⟨ns⟩ m lp x ls k L.reverse = dom_linked_k7 ⟨ns⟩ m lp x ls (pop x.Parent L).reverse
  | 0, L, h, _ => by omega
  | k + 1, [], h, _ => by
    rw [dom_linked_l11]
    rfl
  | k + 1, a :: l, h, hl => by
    simp only [List.length_cons] at h hl
    rw [dom_linked_l11, List.reverse_cons]
    rw [show decide ((0 : Int) < ((l.reverse ++ [a]).length : Int)) = true from by simp, cond_true, geti_last _ _ (by simp; omega), Option.bind_some]
    unfold dom_linked_k12
    by_cases ha : a = x.Parent
    · rw [show decide (a ≠ x.Parent) = false from by simp [ha], cond_false]
      subst ha
      rw [pop_cons_eq, List.reverse_cons]
    · rw [show decide (a ≠ x.Parent) = true from by simp [ha], cond_true, cutM_last _ _ (by simp; omega), Option.bind_some, linked_pop m lp x ls k l (by omega) (by omega), pop_cons_ne _ ha]
theorem par_lt {i j : Nat} (h : good ns i) (h1 : 1 ≤ j) (h2 : j ≤ i) : ∃ q : Nat, par ns j = q ∧ q < j ∧ (nd ns q).Kind = 1 := by
  obtain ⟨c, rfl⟩ : ∃ c, j = c + 1 := ⟨j - 1, by omega⟩
  obtain ⟨q, e1, e2, e3, _⟩ := good.par ns (good.le ns h h2)
  exact ⟨q, e1, by omega, e3⟩
variable (hN : ns.length ≤ 4096)
include hN
theorem linked_end (ls : List Int) (hls : ∀ j, j < ns.length → ls[j]? = some (lastc ns (ns.length - 1) j)) (hr : ∀ j, j < ns.length → lastc ns (ns.length - 1) j ≠ -1 → (lastc ns (ns.length - 1) j).toNat < ns.length ∧ 0 ≤ lastc ns (ns.length - 1) j) :
    ∀ (k m : Nat), ns.length < k + m → m ≤ ns.length → ∃ b, dom_linked_l3 ⟨ns⟩ ls k (m : Int) = some b ∧ (b = true ↔ ∀ j, m ≤ j → j < ns.length → endP ns j)
  | 0, m, hk, hm => by omega
  | k + 1, m, hk, hm => by
    rw [dom_linked_l3]
    by_cases h : m < ns.length
    · have hm2 := hls m h
      rw [show decide ((m : Int) < (ns.length : Int)) = true from by simpa using h, cond_true]
      simp only [geti_nat, nd_get ns h, hm2, Option.bind_some]
      obtain ⟨b, e1, e2⟩ := linked_end ls hls hr k (m + 1) (by omega) (by omega)
      have bad : ¬ endP ns m → ∃ b, dom_linked_k4 (m : Int) (dom_linked_l3 ⟨ns⟩ ls k) true = some b ∧ (b = true ↔ ∀ j, m ≤ j → j < ns.length → endP ns j) := fun hb =>
        ⟨false, rfl, by simp only [Bool.false_eq_true, false_iff]; exact fun hh => hb (hh m (Nat.le_refl _) h)⟩
      have fine : endP ns m → ∃ b, dom_linked_k4 (m : Int) (dom_linked_l3 ⟨ns⟩ ls k) false = some b ∧ (b = true ↔ ∀ j, m ≤ j → j < ns.length → endP ns j) := fun hb => by
        refine ⟨b, ?_, ?_⟩
        · unfold dom_linked_k4
          rw [cond_false, w64_succ (by omega)]; exact e1
        · rw [e2]
          constructor
          · intro hh j hj hj2
            rcases Nat.eq_or_lt_of_le hj with e | e
            · subst e; exact hb
            · exact hh j e hj2
          · intro hh j hj hj2
            exact hh j (by omega) hj2
      by_cases h1 : (nd ns m).Last = lastc ns (ns.length - 1) m
      · rw [show decide ((nd ns m).Last ≠ lastc ns (ns.length - 1) m) = false from decide_eq_false (not_not_intro h1), cond_false]
        by_cases h2 : lastc ns (ns.length - 1) m = -1
        · rw [decide_eq_true h2, cond_true]
          by_cases h3 : (nd ns m).First = -1
          · rw [show decide ((nd ns m).First ≠ -1) = false from decide_eq_false (not_not_intro h3), cond_false, show decide (lastc ns (ns.length - 1) m ≠ -1) = false from decide_eq_false (not_not_intro h2), cond_false]
            exact fine ⟨h1, fun _ => h3, fun hh => absurd h2 hh⟩
          · rw [show decide ((nd ns m).First ≠ -1) = true from decide_eq_true h3, cond_true]
            exact bad fun hh => h3 (hh.2.1 h2)
        · rw [decide_eq_false h2, cond_false, show decide (lastc ns (ns.length - 1) m ≠ -1) = true from decide_eq_true h2, cond_true]
          obtain ⟨h4, h5⟩ := hr m h h2
          have h6 : geti ns (lastc ns (ns.length - 1) m) = some (nd ns (lastc ns (ns.length - 1) m).toNat) := by
            have : lastc ns (ns.length - 1) m = ((lastc ns (ns.length - 1) m).toNat : Int) := by omega
            rw [this, geti_nat, Int.toNat_natCast, nd_get ns h4]
          rw [h6, Option.bind_some]
          by_cases h7 : (nd ns (lastc ns (ns.length - 1) m).toNat).Next = -1
          · rw [show decide ((nd ns (lastc ns (ns.length - 1) m).toNat).Next ≠ -1) = false from decide_eq_false (not_not_intro h7)]
            exact fine ⟨h1, fun hh => absurd hh h2, fun _ => h7⟩
          · rw [show decide ((nd ns (lastc ns (ns.length - 1) m).toNat).Next ≠ -1) = true from decide_eq_true h7]
            exact bad fun hh => h7 (hh.2.2 h2)
      · rw [show decide ((nd ns m).Last ≠ lastc ns (ns.length - 1) m) = true from decide_eq_true h1, cond_true]
        exact bad fun hh => h1 hh.1
    · rw [show decide ((m : Int) < (ns.length : Int)) = false from by simp; omega, cond_false]
      exact ⟨true, rfl, by simp; intro j h1 h2; omega⟩
theorem linked_loop {n : Nat} (hn : 5000 ≤ n) : ∀ (k i : Nat) (ls : List Int), ns.length < k + (i + 1) → i + 1 ≤ ns.length → good ns i → ls.length = ns.length → (∀ j, j ≤ i → ls[j]? = some (lastc ns i j)) →
    ∃ b, dom_linked_l5 n ⟨ns⟩ k (opn ns i).reverse ls ((i + 1 : Nat) : Int) = some b ∧ (b = true ↔ (∀ j, i < j → j < ns.length → aloneP (nd ns j) ∧ okS ns (j - 1) ∧ stepP ns j) ∧ ∀ j, j < ns.length → endP ns j)
  | 0, i, ls, hk, hi, _, _, _ => by omega
  | k + 1, i, ls, hk, hi, hg, hll, hls => by
    rw [dom_linked_l5]
    by_cases h : i + 1 < ns.length
    · rw [show decide (((i + 1 : Nat) : Int) < (ns.length : Int)) = true from by simp; omega, cond_true]
      have hx := nd_get ns h
      have hlx : ∃ z, ls[i + 1]? = some z := ⟨_, List.getElem?_eq_getElem (by omega)⟩
      obtain ⟨z, hz⟩ := hlx
      simp only [geti_nat, hx, hz, Option.bind_some]
      rw [seti_nat ls (by omega), Option.bind_some]
      obtain ⟨b, e1, e2⟩ := dom_alone_eq (nd ns (i + 1)) (n := n) (by omega)
      rw [e1, Option.bind_some]
      have bad : ¬ (aloneP (nd ns (i + 1)) ∧ okS ns i ∧ stepP ns (i + 1)) → (false = true ↔ (∀ j, i < j → j < ns.length → aloneP (nd ns j) ∧ okS ns (j - 1) ∧ stepP ns j) ∧ ∀ j, j < ns.length → endP ns j) := fun hb => by
        simp only [Bool.false_eq_true, false_iff]
        rintro ⟨hh, _⟩
        exact hb (hh (i + 1) (by omega) h)
      cases b with
      | false =>
        refine ⟨false, rfl, bad fun hh => ?_⟩
        have := e2.2 hh.1
        cases this
      | true =>
        rw [show (!true) = false from rfl, cond_false, show decide (((i + 1 : Nat) : Int) = 0) = false from by simp; omega, cond_false]
        have hal := e2.1 rfl
        rw [linked_pop ns _ _ _ _ n (opn ns i) (by have := opn_length ns i; omega) (by have := opn_length ns i; omega)]
        rcases opn_pop ns hg with ⟨ho, hp⟩ | ⟨ho, hp⟩
        · rw [hp]
          have hg2 : good ns (i + 1) := ⟨hg, ho⟩
          obtain ⟨q, q1, q2, q3, q4⟩ := good.par ns hg2
          -- the pops' rest is not empty
          have hne : (pop (par ns (i + 1)) (row ns i)).reverse.length ≠ 0 := by
            have := ho.1
            rw [List.length_reverse]
            intro e
            exact this (List.eq_nil_of_length_eq_zero e)
          unfold dom_linked_k7
          rw [show decide (((pop (par ns (i + 1)) (row ns i)).reverse.length : Int) = 0) = false from by simp only [decide_eq_false_iff_not]; omega, cond_false]
          have hq1 : (nd ns (i + 1)).Parent = (q : Int) := q1
          have hlq : (ls.set (i + 1) (-1))[q]? = some (lastc ns i q) := by
            rw [List.getElem?_set_ne (by omega)]
            exact hls q q2
          rw [hq1, geti_nat, hlq, Option.bind_some]
          have hprev : prevc ns (i + 1) = lastc ns i q := by unfold prevc; rw [q1]; rfl
          -- what goes on, where all is as it should be
          have go : ((nd ns (i + 1)).Prev = prevc ns (i + 1) → stepP ns (i + 1) → ∃ b, dom_linked_k9 ((i + 1 : Nat) : Int) (dom_linked_l5 n ⟨ns⟩ k) (nd ns (i + 1)) (ls.set (i + 1) (-1)) (pop (par ns (i + 1)) (row ns i)).reverse false = some b ∧ (b = true ↔ (∀ j, i < j → j < ns.length → aloneP (nd ns j) ∧ okS ns (j - 1) ∧ stepP ns j) ∧ ∀ j, j < ns.length → endP ns j)) := by
            intro _ hst
            obtain ⟨b, g1, g2⟩ := linked_loop hn k (i + 1) ((ls.set (i + 1) (-1)).set q ((i + 1 : Nat) : Int)) (by omega) (by omega) hg2 (by simp [hll]) (fun j hj => by
              by_cases hjq : q = j
              · subst hjq
                rw [List.getElem?_set_self (by simp; omega)]
                rw [show lastc ns (i + 1) (q : Int) = ((i + 1 : Nat) : Int) from by rw [lastc_succ, if_pos q1]]
              · rw [List.getElem?_set_ne hjq]
                rw [show lastc ns (i + 1) (j : Int) = lastc ns i j from by rw [lastc_succ, if_neg (by omega)]]
                by_cases hji : j = i + 1
                · subst hji
                  rw [List.getElem?_set_self (by omega), good.lastc_none ns hg _ (by omega)]
                · rw [List.getElem?_set_ne (by omega)]
                  exact hls j (by omega))
            refine ⟨b, ?_, ?_⟩
            · unfold dom_linked_k9
              rw [cond_false, hq1, geti_nat, hlq, Option.bind_some, seti_nat _ (by simp; omega), Option.bind_some]
              by_cases hkd : (nd ns (i + 1)).Kind = 1
              · rw [decide_eq_true hkd, cond_true, appM_eq (by
                  have := row_length ns i
                  have h2 : (pop (par ns (i + 1)) (row ns i)).length ≤ (row ns i).length := (List.dropWhile_sublist _).length_le
                  simp only [List.length_reverse, List.length_singleton]
                  omega), Option.bind_some]
                unfold dom_linked_k10 dom_linked_k6
                rw [w64_succ (by omega), ← List.reverse_cons]
                rw [← g1]
                congr 1
                rw [opn_succ, if_pos hkd]
              · rw [decide_eq_false hkd, cond_false]
                unfold dom_linked_k10 dom_linked_k6
                rw [w64_succ (by omega), ← g1]
                congr 1
                rw [opn_succ, if_neg hkd]
            · rw [g2]
              constructor
              · rintro ⟨hh, he⟩
                refine ⟨fun j hj hj2 => ?_, he⟩
                rcases Nat.eq_or_lt_of_le (show i + 1 ≤ j by omega) with e | e
                · subst e; exact ⟨hal, ho, hst⟩
                · exact hh j e hj2
              · rintro ⟨hh, he⟩
                exact ⟨fun j hj hj2 => hh j (by omega) hj2, he⟩
          have stop : ¬ stepP ns (i + 1) → ∃ b, some false = some b ∧ (b = true ↔ (∀ j, i < j → j < ns.length → aloneP (nd ns j) ∧ okS ns (j - 1) ∧ stepP ns j) ∧ ∀ j, j < ns.length → endP ns j) := fun hb => ⟨false, rfl, bad fun hh => hb hh.2.2⟩
          unfold dom_linked_k8
          by_cases h1 : (nd ns (i + 1)).Prev = lastc ns i q
          · rw [show decide ((nd ns (i + 1)).Prev ≠ lastc ns i q) = false from decide_eq_false (not_not_intro h1), cond_false]
            by_cases h2 : (nd ns (i + 1)).Prev = -1
            · rw [decide_eq_true h2, cond_true, hq1, geti_nat, nd_get ns (by omega), Option.bind_some]
              by_cases h3 : (nd ns q).First = ((i + 1 : Nat) : Int)
              · rw [show decide ((nd ns q).First ≠ ((i + 1 : Nat) : Int)) = false from decide_eq_false (not_not_intro h3), cond_false, show decide ((nd ns (i + 1)).Prev ≠ -1) = false from decide_eq_false (not_not_intro h2), cond_false]
                exact go (by rw [h1, hprev]) ⟨by rw [h1, hprev], fun _ => by rw [q1]; simpa using h3, fun hh => absurd h2 hh⟩
              · rw [show decide ((nd ns q).First ≠ ((i + 1 : Nat) : Int)) = true from decide_eq_true h3, cond_true]
                exact stop fun hh => h3 (by have := hh.2.1 h2; rw [q1] at this; simpa using this)
            · rw [decide_eq_false h2, cond_false, show decide ((nd ns (i + 1)).Prev ≠ -1) = true from decide_eq_true h2, cond_true]
              rcases lastc_le ns i q with h4 | ⟨c, h4, c1, c2, _⟩
              · rw [h4] at h1; exact absurd h1 h2
              · rw [h1, h4, geti_nat, nd_get ns (by omega), Option.bind_some]
                by_cases h3 : (nd ns c).Next = ((i + 1 : Nat) : Int)
                · rw [show decide ((nd ns c).Next ≠ ((i + 1 : Nat) : Int)) = false from decide_eq_false (not_not_intro h3)]
                  exact go (by rw [h1, hprev]) ⟨by rw [h1, hprev], fun hh => absurd hh h2, fun _ => by rw [h1, h4]; simpa using h3⟩
                · rw [show decide ((nd ns c).Next ≠ ((i + 1 : Nat) : Int)) = true from decide_eq_true h3]
                  exact stop fun hh => h3 (by have := hh.2.2 h2; rw [h1, h4] at this; simpa using this)
          · rw [show decide ((nd ns (i + 1)).Prev ≠ lastc ns i q) = true from decide_eq_true h1, cond_true]
            exact stop fun hh => h1 (by rw [hh.1, hprev])
        · rw [hp]
          exact ⟨false, rfl, bad fun hh => ho hh.2.1⟩
    · rw [show decide (((i + 1 : Nat) : Int) < (ns.length : Int)) = false from by simp; omega, cond_false]
      have hlen : ns.length - 1 = i := by omega
      obtain ⟨b, e1, e2⟩ := linked_end ns hN ls (fun j hj => by rw [hlen]; exact hls j (by omega)) (fun j hj hl => by
        rcases lastc_le ns (ns.length - 1) j with h4 | ⟨c, h4, c1, c2, _⟩
        · exact absurd h4 hl
        · rw [h4]; simp; omega) n 0 (by omega) (by omega)
      refine ⟨b, e1, ?_⟩
      rw [e2]
      constructor
      · intro hh
        exact ⟨fun j h1 h2 => by omega, fun j hj => hh j (by omega) hj⟩
      · rintro ⟨_, hh⟩ j _ hj
        exact hh j hj
def linkedP : Prop := (nd ns 0).Kind = 1 ∧ (nd ns 0).Parent = -1 ∧ (nd ns 0).Prev = -1 ∧ (nd ns 0).Next = -1 ∧ aloneP (nd ns 0) ∧ (∀ j, 0 < j → j < ns.length → aloneP (nd ns j) ∧ okS ns (j - 1) ∧ stepP ns j) ∧ ∀ j, j < ns.length → endP ns j
theorem dom_linked_eq (h0 : 0 < ns.length) {n : Nat} (hn : 5000 ≤ n) : ∃ b, dom_linked n ⟨ns⟩ = some b ∧ (b = true ↔ linkedP ns) := by
  unfold dom_linked
  rw [show geti ns (0 : Int) = some (nd ns 0) from by rw [show (0 : Int) = ((0 : Nat) : Int) from rfl, geti_nat, nd_get ns h0], Option.bind_some]
  by_cases hr : (nd ns 0).Kind = 1 ∧ (nd ns 0).Parent = -1 ∧ (nd ns 0).Prev = -1 ∧ (nd ns 0).Next = -1
  · obtain ⟨r1, r2, r3, r4⟩ := hr
    rw [show (decide ((nd ns 0).Kind ≠ 1) || (decide ((nd ns 0).Parent ≠ -1) || (decide ((nd ns 0).Prev ≠ -1) || decide ((nd ns 0).Next ≠ -1)))) = false from by simp [r1, r2, r3, r4], cond_false]
    rw [repM_eq (by show 8 * ns.length ≤ _ ∧ ns.length ≤ _; omega), Option.bind_some]
    obtain ⟨k, rfl⟩ : ∃ k, n = k + 1 := ⟨n - 1, by omega⟩
    rw [dom_linked_l5]
    rw [show decide ((0 : Int) < (ns.length : Int)) = true from by simp; omega, cond_true]
    have e0 : (0 : Int) = ((0 : Nat) : Int) := rfl
    rw [show geti ns (0 : Int) = some (nd ns 0) from by rw [e0, geti_nat, nd_get ns h0], Option.bind_some]
    rw [show geti (List.replicate ns.length (0 : Int)) (0 : Int) = some 0 from by rw [e0, geti_nat]; simp [h0], Option.bind_some]
    rw [show seti (List.replicate ns.length (0 : Int)) (0 : Int) (-1) = some ((List.replicate ns.length (0 : Int)).set 0 (-1)) from by rw [e0, seti_nat _ (by simpa using h0)], Option.bind_some]
    obtain ⟨b, e1, e2⟩ := dom_alone_eq (nd ns 0) (n := k + 1) (by omega)
    rw [e1, Option.bind_some]
    cases b with
    | false =>
      refine ⟨false, rfl, ?_⟩
      simp only [Bool.false_eq_true, false_iff]
      intro hh
      have := e2.2 hh.2.2.2.2.1
      cases this
    | true =>
      rw [show (!true) = false from rfl, cond_false, show decide ((0 : Int) = 0) = true from rfl, cond_true, appM_eq (by simp), Option.bind_some]
      unfold dom_linked_k6
      obtain ⟨b, g1, g2⟩ := linked_loop ns hN (n := k + 1) hn k 0 ((List.replicate ns.length (0 : Int)).set 0 (-1)) (by omega) (by omega) r1 (by simp) (fun j hj => by
        have : j = 0 := by omega
        subst this
        rw [List.getElem?_set_self (by simpa using h0)]; rfl)
      refine ⟨b, ?_, ?_⟩
      · rw [← g1]
        have : (opn ns 0).reverse = [] ++ [0] := by unfold opn; rw [if_pos r1]; rfl
        rw [this]; rfl
      · rw [g2]
        unfold linkedP
        constructor
        · rintro ⟨h1, h2⟩
          exact ⟨r1, r2, r3, r4, e2.1 rfl, h1, h2⟩
        · rintro ⟨_, _, _, _, _, h1, h2⟩
          exact ⟨h1, h2⟩
  · refine ⟨false, ?_, ?_⟩
    · rw [show (decide ((nd ns 0).Kind ≠ 1) || (decide ((nd ns 0).Parent ≠ -1) || (decide ((nd ns 0).Prev ≠ -1) || decide ((nd ns 0).Next ≠ -1)))) = true from ?_, cond_true]
      simp only [Bool.or_eq_true, decide_eq_true_eq]
      by_cases r1 : (nd ns 0).Kind = 1
      · by_cases r2 : (nd ns 0).Parent = -1
        · by_cases r3 : (nd ns 0).Prev = -1
          · exact .inr (.inr (.inr fun r4 => hr ⟨r1, r2, r3, r4⟩))
          · exact .inr (.inr (.inl r3))
        · exact .inr (.inl r2)
      · exact .inl r1
    · simp only [Bool.false_eq_true, false_iff]
      intro hh
      exact hr ⟨hh.1, hh.2.1, hh.2.2.1, hh.2.2.2.1⟩
end
end Go.Proofs.YteicdfkmpnmkmaaGreat
namespace Go.Proofs.YteicdfkmpnmkmaaGreat
set_option linter.unusedVariables false
set_option linter.unusedSimpArgs false
open Go.RowKit Go.Sl
section
variable (ns : List api_Node)
def deepP : Prop := ∃ j, j < ns.length ∧ 256 < (row ns j).length
theorem depth_loop (hN : ns.length ≤ 4096) (hg : good ns (ns.length - 1)) : ∀ (k m : Nat) (ds : List Int), ns.length < k + m → m ≤ ns.length → ds.length = ns.length → (∀ j, j < m → ds[j]? = some ((row ns j).length : Int)) →
    (dom_Right_l2 ⟨ns⟩ k ds (m : Int) = some 5 ∧ ∃ j, m ≤ j ∧ j < ns.length ∧ 256 < (row ns j).length) ∨ (dom_Right_l2 ⟨ns⟩ k ds (m : Int) = some 0 ∧ ∀ j, m ≤ j → j < ns.length → (row ns j).length ≤ 256)
  | 0, m, ds, hk, hm, _, _ => by omega
  | k + 1, m, ds, hk, hm, hl, hd => by
    rw [dom_Right_l2]
    by_cases h : m < ns.length
    · rw [show decide ((m : Int) < (ns.length : Int)) = true from by simpa using h, cond_true]
      obtain ⟨z, hz⟩ : ∃ z, ds[m]? = some z := ⟨_, List.getElem?_eq_getElem (by omega)⟩
      simp only [geti_nat, nd_get ns h, hz, Option.bind_some]
      rw [seti_nat ds (by omega), Option.bind_some]
      have go : ∀ ds' : List Int, ds'.length = ns.length → (∀ j, j < m + 1 → ds'[j]? = some ((row ns j).length : Int)) →
          (dom_Right_k3 (m : Int) (dom_Right_l2 ⟨ns⟩ k) ds' = some 5 ∧ ∃ j, m ≤ j ∧ j < ns.length ∧ 256 < (row ns j).length) ∨ (dom_Right_k3 (m : Int) (dom_Right_l2 ⟨ns⟩ k) ds' = some 0 ∧ ∀ j, m ≤ j → j < ns.length → (row ns j).length ≤ 256) := fun ds' hl' hd' => by
        unfold dom_Right_k3
        rw [geti_nat, hd' m (by omega), Option.bind_some]
        by_cases h2 : 256 < (row ns m).length
        · left
          exact ⟨by rw [show decide ((256 : Int) < ((row ns m).length : Int)) = true from by simp; omega, cond_true], m, Nat.le_refl _, h, h2⟩
        · rw [show decide ((256 : Int) < ((row ns m).length : Int)) = false from by simp; omega, cond_false, w64_succ (by omega)]
          rcases depth_loop hN hg k (m + 1) ds' (by omega) (by omega) hl' hd' with ⟨e1, j, e2, e3, e4⟩ | ⟨e1, e2⟩
          · exact .inl ⟨e1, j, by omega, e3, e4⟩
          · refine .inr ⟨e1, fun j hj hj2 => ?_⟩
            rcases Nat.eq_or_lt_of_le hj with e | e
            · subst e; omega
            · exact e2 j e hj2
      by_cases h0 : m = 0
      · subst h0
        rw [show decide ((0 : Int) < ((0 : Nat) : Int)) = false from rfl, cond_false]
        refine go _ (by simpa using hl) fun j hj => ?_
        have : j = 0 := by omega
        subst this
        rw [List.getElem?_set_self (by omega)]; rfl
      · rw [show decide ((0 : Int) < (m : Int)) = true from by simp; omega, cond_true]
        obtain ⟨c, rfl⟩ : ∃ c, m = c + 1 := ⟨m - 1, by omega⟩
        obtain ⟨q, q1, q2, q3, q4⟩ := good.par ns (good.le ns hg (show c + 1 ≤ ns.length - 1 by omega))
        have hq1 : (nd ns (c + 1)).Parent = (q : Int) := q1
        rw [hq1, geti_nat, List.getElem?_set_ne (by omega), hd q (by omega), Option.bind_some, List.getElem?_set_self (by omega), Option.bind_some]
        rw [seti_nat _ (by simp; omega), Option.bind_some]
        have hrl := row_length ns q
        refine go _ (by simpa using hl) fun j hj => ?_
        by_cases hj2 : j = c + 1
        · subst hj2
          rw [List.getElem?_set_self (by simp; omega), q4, List.length_cons, w64_succ (by omega)]
        · rw [List.getElem?_set_ne (by omega), List.getElem?_set_ne (by omega)]
          exact hd j (by omega)
    · right
      rw [show decide ((m : Int) < (ns.length : Int)) = false from by simp; omega, cond_false]
      exact ⟨rfl, fun j h1 h2 => by omega⟩
theorem linkedP.good (h : linkedP ns) : ∀ i, i < ns.length → good ns i
  | 0, _ => h.1
  | i + 1, hi => ⟨linkedP.good h i (by omega), (h.2.2.2.2.2.1 (i + 1) (by omega) hi).2.1⟩
def rightR (r : Int) : Prop := (ns.length = 0 ∧ r = 10) ∨ (4096 < ns.length ∧ r = 4) ∨ (0 < ns.length ∧ ns.length ≤ 4096 ∧ ((¬ linkedP ns ∧ r = 10) ∨ (linkedP ns ∧ deepP ns ∧ r = 5) ∨ (linkedP ns ∧ ¬ deepP ns ∧ r = 0)))
theorem rightR.uniq {r s : Int} (h : rightR ns r) (h2 : rightR ns s) : r = s := by
  unfold rightR at h h2
  rcases h with h | h | ⟨h, h', h''⟩ <;> rcases h2 with g | g | ⟨g, g', g''⟩ <;> try omega
  rcases h'' with ⟨a, b⟩ | ⟨a, b, c⟩ | ⟨a, b, c⟩ <;> rcases g'' with ⟨a', b'⟩ | ⟨a', b', c'⟩ | ⟨a', b', c'⟩ <;> first | omega | exact absurd ‹linkedP ns› ‹¬ linkedP ns› | exact absurd ‹deepP ns› ‹¬ deepP ns›
theorem dom_Right_eq {n : Nat} (hn : 5000 ≤ n) : ∃ r, dom_Right n ⟨ns⟩ = some r ∧ rightR ns r := by
  unfold dom_Right
  by_cases h0 : ns.length = 0
  · exact ⟨10, by rw [show decide (((⟨ns⟩ : api_Tree).Nodes.length : Int) = 0) = true from by simpa using h0]; rfl, .inl ⟨h0, rfl⟩⟩
  · rw [show decide (((⟨ns⟩ : api_Tree).Nodes.length : Int) = 0) = false from by simpa using h0, cond_false]
    by_cases h1 : 4096 < ns.length
    · exact ⟨4, by rw [show decide ((4096 : Int) < ((⟨ns⟩ : api_Tree).Nodes.length : Int)) = true from by simp; omega]; rfl, .inr (.inl ⟨h1, rfl⟩)⟩
    · rw [show decide ((4096 : Int) < ((⟨ns⟩ : api_Tree).Nodes.length : Int)) = false from by simp; omega, cond_false]
      obtain ⟨b, e1, e2⟩ := dom_linked_eq ns (by omega) (by omega) hn
      rw [e1, Option.bind_some]
      cases b with
      | false => exact ⟨10, rfl, .inr (.inr ⟨by omega, by omega, .inl ⟨fun hh => by simpa using e2.2 hh, rfl⟩⟩)⟩
      | true =>
        have hl := e2.1 rfl
        rw [show (!true) = false from rfl, cond_false, repM_eq (by show 8 * ns.length ≤ _ ∧ ns.length ≤ _; omega), Option.bind_some]
        rcases depth_loop ns (by omega) (linkedP.good ns hl _ (by omega)) n 0 (List.replicate ns.length 0) (by omega) (by omega) (by simp) (fun j hj => by omega) with ⟨g1, j, _, g3, g4⟩ | ⟨g1, g2⟩
        · exact ⟨5, g1, .inr (.inr ⟨by omega, by omega, .inr (.inl ⟨hl, ⟨j, g3, g4⟩, rfl⟩)⟩)⟩
        · exact ⟨0, g1, .inr (.inr ⟨by omega, by omega, .inr (.inr ⟨hl, fun ⟨j, h2, h3⟩ => by have := g2 j (by omega) h2; omega, rfl⟩)⟩)⟩
end
end Go.Proofs.YteicdfkmpnmkmaaGreat
namespace Go.Proofs.YteicdfkmpnmkmaaGreat
set_option linter.unusedVariables false
set_option linter.unusedSimpArgs false
open Go.RowKit Go.Sl
section
variable (ns : List api_Node)
def wn (i j : Nat) : api_Node := {Kind := 0, Name := bs [], Text := bs [], Attrs := [], Parent := if j = 0 then -1 else par ns j, First := firstc ns i j, Last := lastc ns i j, Prev := if j = 0 then -1 else prevc ns j, Next := nextc ns i j}
theorem firstc_succ (i : Nat) (p : Int) : firstc ns (i + 1) p = if par ns (i + 1) = p ∧ lastc ns i p = -1 then ((i + 1 : Nat) : Int) else firstc ns i p := rfl
theorem nextc_succ (i : Nat) (m : Int) : nextc ns (i + 1) m = if 0 ≤ m ∧ lastc ns i (par ns (i + 1)) = m then ((i + 1 : Nat) : Int) else nextc ns i m := rfl
theorem row_succ (i : Nat) : row ns (i + 1) = ((i + 1 : Nat) : Int) :: pop (par ns (i + 1)) (row ns i) := rfl
theorem lastc_lt (i : Nat) (p : Int) : lastc ns i p ≤ i := by
  rcases lastc_le ns i p with h | ⟨c, h, _, h2, _⟩ <;> omega
theorem wn_other {i j q c : Nat} (hq : par ns (i + 1) = q) (hjq : j ≠ q) (hc : lastc ns i q = c ∧ j ≠ c ∨ lastc ns i q = -1) : wn ns (i + 1) j = wn ns i j := by
  have e1 : ¬ ((q : Int) = (j : Int) ∧ lastc ns i j = -1) := by rintro ⟨h, _⟩; omega
  have e2 : ¬ (q : Int) = (j : Int) := by omega
  have e3 : ¬ (0 ≤ (j : Int) ∧ lastc ns i (q : Int) = (j : Int)) := by omega
  simp only [wn, firstc_succ, lastc_succ, nextc_succ, hq, if_neg e1, if_neg e2, if_neg e3]
theorem wn_next {i q c : Nat} (hq : par ns (i + 1) = q) (hc : lastc ns i q = c) (hcq : c ≠ q) : wn ns (i + 1) c = { wn ns i c with Next := ((i + 1 : Nat) : Int) } := by
  have e1 : ¬ ((q : Int) = (c : Int) ∧ lastc ns i c = -1) := by rintro ⟨h, _⟩; omega
  have e2 : ¬ (q : Int) = (c : Int) := by omega
  have e3 : 0 ≤ (c : Int) ∧ lastc ns i (q : Int) = (c : Int) := ⟨by omega, hc⟩
  simp only [wn, firstc_succ, lastc_succ, nextc_succ, hq, if_neg e1, if_neg e2, if_pos e3]
theorem wn_par1 {i q c : Nat} (hq : par ns (i + 1) = q) (hc : lastc ns i q = c) (hcq : c ≠ q) : wn ns (i + 1) q = { wn ns i q with Last := ((i + 1 : Nat) : Int) } := by
  simp only [wn, firstc_succ, lastc_succ, nextc_succ, hq, api_Node.mk.injEq, true_and]
  grind
theorem wn_par0 {i q : Nat} (hq : par ns (i + 1) = q) (hc : lastc ns i q = -1) : wn ns (i + 1) q = { wn ns i q with First := ((i + 1 : Nat) : Int), Last := ((i + 1 : Nat) : Int) } := by
  simp only [wn, firstc_succ, lastc_succ, nextc_succ, hq, api_Node.mk.injEq, true_and]
  grind
theorem wn_new {i q : Nat} (hg : good ns i) (hq : par ns (i + 1) = q) (hqi : q ≤ i) : wn ns (i + 1) (i + 1) = {Kind := 0, Name := bs [], Text := bs [], Attrs := [], Parent := (q : Int), First := -1, Last := -1, Prev := lastc ns i q, Next := -1} := by
  have h1 : lastc ns i ((i + 1 : Nat) : Int) = -1 := good.lastc_none ns hg _ (by omega)
  have e0 : ¬ i + 1 = 0 := by omega
  have e2 : ¬ (q : Int) = ((i + 1 : Nat) : Int) := by omega
  have e3 : ¬ (0 ≤ ((i + 1 : Nat) : Int) ∧ lastc ns i (q : Int) = ((i + 1 : Nat) : Int)) := by have := lastc_lt ns i q; omega
  have h2 := firstc_none ns i _ h1
  have h3 : nextc ns i ((i + 1 : Nat) : Int) = -1 := nextc_none ns i _ (fun c h2 h3 h4 => by
    have := lastc_lt ns (c - 1) (par ns c)
    unfold prevc at h4; omega)
  have h4 : prevc ns (i + 1) = lastc ns i q := by unfold prevc; rw [hq]; rfl
  simp only [wn, firstc_succ, lastc_succ, nextc_succ, hq, h1, h2, h3, h4, api_Node.mk.injEq, true_and]
  grind
theorem ref_pop (W : List api_Node) (dp m : Int) (lp : List api_Node → Int → List Int → Int → Option Int) (x : api_Node) : ∀ (k : Nat) (L : List Int), L.length < k → L.length ≤ 4097 →
    ref5_Right_l12 ⟨ns⟩ W dp m lp x k L.reverse = ref5_Right_k8 ⟨ns⟩ W dp m lp x (pop x.Parent L).reverse
  | 0, L, h, _ => by omega
  | k + 1, [], h, _ => by
    rw [ref5_Right_l12]
    rfl
  | k + 1, a :: l, h, hl => by
    simp only [List.length_cons] at h hl
    rw [ref5_Right_l12, List.reverse_cons]
    rw [show decide ((0 : Int) < ((l.reverse ++ [a]).length : Int)) = true from by simp, cond_true, geti_last _ _ (by simp; omega), Option.bind_some]
    unfold ref5_Right_k13
    by_cases ha : a = x.Parent
    · rw [show decide (a ≠ x.Parent) = false from decide_eq_false (not_not_intro ha), cond_false]
      subst ha
      rw [pop_cons_eq, List.reverse_cons]
    · rw [show decide (a ≠ x.Parent) = true from decide_eq_true ha, cond_true, cutM_last _ _ (by simp; omega), Option.bind_some, ref_pop W dp m lp x k l (by omega) (by omega), pop_cons_ne _ ha]
variable (hN : ns.length ≤ 4096)
include hN
theorem ref_end (W : List api_Node) (dp : Int) (hW : ∀ j, j < ns.length → W[j]? = some (wn ns (ns.length - 1) j)) : ∀ (k m : Nat), ns.length < k + m → m ≤ ns.length →
    (ref5_Right_l4 ⟨ns⟩ W dp k (m : Int) = some 10 ∧ ¬ ∀ j, m ≤ j → j < ns.length → refP ns j) ∨ (ref5_Right_l4 ⟨ns⟩ W dp k (m : Int) = ref5_Right_k3 dp ∧ ∀ j, m ≤ j → j < ns.length → refP ns j)
  | 0, m, hk, hm => by omega
  | k + 1, m, hk, hm => by
    rw [ref5_Right_l4]
    by_cases h : m < ns.length
    · rw [show decide ((m : Int) < (ns.length : Int)) = true from by simpa using h, cond_true]
      simp only [geti_nat, nd_get ns h, hW m h, Option.bind_some]
      have bad : ¬ refP ns m → (ref5_Right_k5 (m : Int) (ref5_Right_l4 ⟨ns⟩ W dp k) true = some 10 ∧ ¬ ∀ j, m ≤ j → j < ns.length → refP ns j) ∨ (ref5_Right_k5 (m : Int) (ref5_Right_l4 ⟨ns⟩ W dp k) true = ref5_Right_k3 dp ∧ ∀ j, m ≤ j → j < ns.length → refP ns j) := fun hb =>
        .inl ⟨rfl, fun hh => hb (hh m (Nat.le_refl _) h)⟩
      by_cases h1 : (nd ns m).First = (wn ns (ns.length - 1) m).First
      · rw [show decide ((nd ns m).First ≠ (wn ns (ns.length - 1) m).First) = false from decide_eq_false (not_not_intro h1), cond_false]
        by_cases h2 : (nd ns m).Last = (wn ns (ns.length - 1) m).Last
        · rw [show decide ((nd ns m).Last ≠ (wn ns (ns.length - 1) m).Last) = false from decide_eq_false (not_not_intro h2), cond_false]
          by_cases h3 : (nd ns m).Prev = (wn ns (ns.length - 1) m).Prev
          · rw [show decide ((nd ns m).Prev ≠ (wn ns (ns.length - 1) m).Prev) = false from decide_eq_false (not_not_intro h3), cond_false]
            by_cases h4 : (nd ns m).Next = (wn ns (ns.length - 1) m).Next
            · rw [show decide ((nd ns m).Next ≠ (wn ns (ns.length - 1) m).Next) = false from decide_eq_false (not_not_intro h4)]
              unfold ref5_Right_k5
              rw [cond_false, w64_succ (by omega)]
              rcases ref_end W dp hW k (m + 1) (by omega) (by omega) with ⟨e1, e2⟩ | ⟨e1, e2⟩
              · exact .inl ⟨e1, fun hh => e2 fun j hj => hh j (by omega)⟩
              · refine .inr ⟨e1, fun j hj hj2 => ?_⟩
                rcases Nat.eq_or_lt_of_le hj with e | e
                · subst e; exact ⟨h1, h2, h3, h4⟩
                · exact e2 j e hj2
            · rw [show decide ((nd ns m).Next ≠ (wn ns (ns.length - 1) m).Next) = true from decide_eq_true h4]
              exact bad fun hh => h4 hh.2.2.2
          · rw [show decide ((nd ns m).Prev ≠ (wn ns (ns.length - 1) m).Prev) = true from decide_eq_true h3, cond_true]
            exact bad fun hh => h3 hh.2.2.1
        · rw [show decide ((nd ns m).Last ≠ (wn ns (ns.length - 1) m).Last) = true from decide_eq_true h2, cond_true]
          exact bad fun hh => h2 hh.2.1
      · rw [show decide ((nd ns m).First ≠ (wn ns (ns.length - 1) m).First) = true from decide_eq_true h1, cond_true]
        exact bad fun hh => h1 hh.1
    · right
      rw [show decide ((m : Int) < (ns.length : Int)) = false from by simp; omega, cond_false]
      exact ⟨rfl, fun j h1 h2 => by omega⟩
theorem ref_bind {i q : Nat} (W : List api_Node) (dp : Int) (lp : List api_Node → Int → List Int → Int → Option Int) (rw' : List Int) (hg : good ns i) (hq : par ns (i + 1) = q) (hqi : q ≤ i) (hi : i + 1 < ns.length) (hl : W.length = ns.length) (hW : ∀ j, j ≤ i → W[j]? = some (wn ns i j)) :
    ∃ W', W'.length = ns.length ∧ (∀ j, j ≤ i + 1 → W'[j]? = some (wn ns (i + 1) j)) ∧ ref5_Right_k10 W ((i + 1 : Nat) : Int) lp (nd ns (i + 1)) rw' dp = lp W' dp rw' ((i + 1 + 1 : Nat) : Int) := by
  have hq1 : (nd ns (i + 1)).Parent = (q : Int) := hq
  obtain ⟨z, hz⟩ : ∃ z, W[i + 1]? = some z := ⟨_, List.getElem?_eq_getElem (by omega)⟩
  unfold ref5_Right_k10
  rw [hq1]
  simp only [geti_nat, hW q hqi, hz, Option.bind_some]
  rw [seti_nat W (by omega), Option.bind_some, List.getElem?_set_ne (by omega), hW q hqi, Option.bind_some]
  have hlast : (wn ns i q).Last = lastc ns i q := rfl
  have hnew := wn_new ns hg hq hqi
  rcases lastc_le ns i q with h0 | ⟨c, h0, c1, c2, c3⟩
  · rw [show decide (0 ≤ (wn ns i q).Last) = false from by rw [hlast, h0]; rfl, cond_false]
    rw [Option.bind_some, seti_nat _ (by simp; omega), Option.bind_some]
    unfold ref5_Right_k11
    rw [hq1, geti_nat, List.getElem?_set_self (by simp; omega), Option.bind_some, seti_nat _ (by simp; omega), Option.bind_some]
    unfold ref5_Right_k7
    rw [w64_succ (by omega)]
    refine ⟨_, by simpa using hl, fun j hj => ?_, rfl⟩
    by_cases hjq : q = j
    · subst hjq
      rw [List.getElem?_set_self (by simp; omega), wn_par0 ns hq h0]
    · rw [List.getElem?_set_ne hjq, List.getElem?_set_ne hjq]
      by_cases hji : j = i + 1
      · subst hji
        rw [List.getElem?_set_self (by omega), hnew, hlast]
      · rw [List.getElem?_set_ne (by omega), hW j (by omega), wn_other ns hq (by omega) (c := 0) (.inr h0)]
  · have hcq : c ≠ q := fun e => by
      subst e
      obtain ⟨q', e1, e2, _⟩ := par_lt ns hg c1 c2
      omega
    rw [show decide (0 ≤ (wn ns i q).Last) = true from by rw [hlast, h0]; simp, cond_true, Option.bind_some, hlast, h0, geti_nat, List.getElem?_set_ne (by omega), hW c c2, Option.bind_some, seti_nat _ (by simp; omega), Option.bind_some]
    unfold ref5_Right_k11
    rw [hq1, geti_nat, List.getElem?_set_ne hcq, List.getElem?_set_ne (by omega), hW q hqi, Option.bind_some, seti_nat _ (by simp; omega), Option.bind_some]
    unfold ref5_Right_k7
    rw [w64_succ (by omega)]
    refine ⟨_, by simpa using hl, fun j hj => ?_, rfl⟩
    by_cases hjq : q = j
    · subst hjq
      rw [List.getElem?_set_self (by simp; omega), wn_par1 ns hq h0 hcq]
    · rw [List.getElem?_set_ne hjq]
      by_cases hjc : c = j
      · subst hjc
        rw [List.getElem?_set_self (by simp; omega), wn_next ns hq h0 hcq]
      · rw [List.getElem?_set_ne hjc]
        by_cases hji : j = i + 1
        · subst hji
          rw [List.getElem?_set_self (by omega), hnew, h0]
        · rw [List.getElem?_set_ne (by omega), hW j (by omega), wn_other ns hq (by omega) (.inl ⟨h0, by omega⟩)]
end
end Go.Proofs.YteicdfkmpnmkmaaGreat
namespace Go.Proofs.YteicdfkmpnmkmaaGreat
set_option linter.unusedVariables false
set_option linter.unusedSimpArgs false
open Go.RowKit Go.Sl
section
variable (ns : List api_Node) (hN : ns.length ≤ 4096)
include hN
theorem ref_loop {n : Nat} (hn : 5000 ≤ n) (hA : ∀ j, j < ns.length → (nd ns j).Attrs.length < n ∧ (nd ns j).Attrs.length ≤ 9223372036854775806) : ∀ (k i : Nat) (W : List api_Node) (dp : Int), ns.length < k + (i + 1) → i + 1 ≤ ns.length → good ns i → W.length = ns.length → (∀ j, j ≤ i → W[j]? = some (wn ns i j)) →
    (256 < dp ↔ ∃ j, j ≤ i ∧ 256 < (row ns j).length) →
    (ref5_Right_l6 n ⟨ns⟩ k W dp (row ns i).reverse ((i + 1 : Nat) : Int) = some 10 ∧ ¬ ((∀ j, i < j → j < ns.length → aloneP (nd ns j) ∧ okS ns (j - 1)) ∧ ∀ j, j < ns.length → refP ns j)) ∨
    (((∀ j, i < j → j < ns.length → aloneP (nd ns j) ∧ okS ns (j - 1)) ∧ ∀ j, j < ns.length → refP ns j) ∧ ((ref5_Right_l6 n ⟨ns⟩ k W dp (row ns i).reverse ((i + 1 : Nat) : Int) = some 5 ∧ deepP ns) ∨ (ref5_Right_l6 n ⟨ns⟩ k W dp (row ns i).reverse ((i + 1 : Nat) : Int) = some 0 ∧ ¬ deepP ns)))
  | 0, i, W, dp, hk, hi, _, _, _, _ => by omega
  | k + 1, i, W, dp, hk, hi, hg, hl, hW, hdp => by
    rw [ref5_Right_l6]
    by_cases h : i + 1 < ns.length
    · rw [show decide (((i + 1 : Nat) : Int) < (ns.length : Int)) = true from by simp; omega, cond_true]
      have hx := nd_get ns h
      simp only [geti_nat, hx, Option.bind_some]
      obtain ⟨b, e1, e2⟩ := ref5_plain_eq (nd ns (i + 1)) (hA (i + 1) h).1 (hA (i + 1) h).2
      rw [e1, Option.bind_some]
      have bad : ¬ (aloneP (nd ns (i + 1)) ∧ okS ns i) → ¬ ((∀ j, i < j → j < ns.length → aloneP (nd ns j) ∧ okS ns (j - 1)) ∧ ∀ j, j < ns.length → refP ns j) := fun hb hh =>
        hb (hh.1 (i + 1) (by omega) h)
      cases b with
      | false => exact .inl ⟨rfl, bad fun hh => by simpa using e2.2 hh.1⟩
      | true =>
        have hal := e2.1 rfl
        rw [show (!true) = false from rfl, cond_false, show decide (((i + 1 : Nat) : Int) = 0) = false from by simp; omega, cond_false]
        have hrl := row_length ns i
        rw [ref_pop ns _ _ _ _ _ n (row ns i) (by omega) (by omega)]
        unfold ref5_Right_k8
        have hpl : (pop (nd ns (i + 1)).Parent (row ns i)).length ≤ (row ns i).length := (List.dropWhile_sublist _).length_le
        by_cases h0 : pop (par ns (i + 1)) (row ns i) = []
        · left
          rw [show pop (nd ns (i + 1)).Parent (row ns i) = [] from h0]
          exact ⟨rfl, bad fun hh => hh.2.1 h0⟩
        · have hlen : (pop (nd ns (i + 1)).Parent (row ns i)).length ≠ 0 := fun e => h0 (List.eq_nil_of_length_eq_zero e)
          rw [show decide (((pop (nd ns (i + 1)).Parent (row ns i)).reverse.length : Int) = 0) = false from by simp only [List.length_reverse, decide_eq_false_iff_not]; omega, cond_false]
          -- the parent is a node ahead
          obtain ⟨q, q1, q2⟩ : ∃ q : Nat, par ns (i + 1) = q ∧ q ≤ i := by
            obtain ⟨_, _, _, h3⟩ := good.inv ns hg
            rcases pop_split (par ns (i + 1)) (row ns i) with h4 | ⟨l', tl', h4, h5⟩
            · exact absurd h4 h0
            · obtain ⟨z, hz, hz2, _⟩ := h3 _ tl' l' (by rw [← h5]; exact h4)
              exact ⟨z, hz, hz2⟩
          have hq1 : (nd ns (i + 1)).Parent = (q : Int) := q1
          rw [hq1, geti_nat, nd_get ns (by omega), Option.bind_some]
          unfold ref5_Right_k9
          by_cases hk1 : (nd ns q).Kind = 1
          · rw [show decide ((nd ns q).Kind ≠ 1) = false from decide_eq_false (not_not_intro hk1), cond_false]
            have ho : okS ns i := ⟨h0, by rw [q1]; simpa using hk1⟩
            have hg2 : good ns (i + 1) := ⟨hg, ho⟩
            rw [← hq1, appM_eq (by simp only [List.length_reverse, List.length_singleton]; omega), Option.bind_some]
            have hrow : (pop (nd ns (i + 1)).Parent (row ns i)).reverse ++ [((i + 1 : Nat) : Int)] = (row ns (i + 1)).reverse := by rw [row_succ, List.reverse_cons]
            rw [hrow]
            have go : ∀ dp' : Int, (256 < dp' ↔ ∃ j, j ≤ i + 1 ∧ 256 < (row ns j).length) →
                (ref5_Right_k10 W ((i + 1 : Nat) : Int) (ref5_Right_l6 n ⟨ns⟩ k) (nd ns (i + 1)) (row ns (i + 1)).reverse dp' = some 10 ∧ ¬ ((∀ j, i < j → j < ns.length → aloneP (nd ns j) ∧ okS ns (j - 1)) ∧ ∀ j, j < ns.length → refP ns j)) ∨
                (((∀ j, i < j → j < ns.length → aloneP (nd ns j) ∧ okS ns (j - 1)) ∧ ∀ j, j < ns.length → refP ns j) ∧ ((ref5_Right_k10 W ((i + 1 : Nat) : Int) (ref5_Right_l6 n ⟨ns⟩ k) (nd ns (i + 1)) (row ns (i + 1)).reverse dp' = some 5 ∧ deepP ns) ∨ (ref5_Right_k10 W ((i + 1 : Nat) : Int) (ref5_Right_l6 n ⟨ns⟩ k) (nd ns (i + 1)) (row ns (i + 1)).reverse dp' = some 0 ∧ ¬ deepP ns))) := fun dp' hd' => by
              obtain ⟨W', w1, w2, w3⟩ := ref_bind ns hN W dp' (ref5_Right_l6 n ⟨ns⟩ k) (row ns (i + 1)).reverse hg q1 q2 h hl hW
              rw [w3]
              have same : ((∀ j, i < j → j < ns.length → aloneP (nd ns j) ∧ okS ns (j - 1)) ∧ ∀ j, j < ns.length → refP ns j) ↔ ((∀ j, i + 1 < j → j < ns.length → aloneP (nd ns j) ∧ okS ns (j - 1)) ∧ ∀ j, j < ns.length → refP ns j) := by
                constructor
                · rintro ⟨g1, g2⟩
                  exact ⟨fun j g3 g4 => g1 j (by omega) g4, g2⟩
                · rintro ⟨g1, g2⟩
                  refine ⟨fun j g3 g4 => ?_, g2⟩
                  rcases Nat.eq_or_lt_of_le (show i + 1 ≤ j by omega) with e | e
                  · subst e; exact ⟨hal, ho⟩
                  · exact g1 j e g4
              rw [same]
              exact ref_loop hn hA k (i + 1) W' dp' (by omega) (by omega) hg2 w1 w2 hd'
            have hrl2 := row_length ns (i + 1)
            by_cases hd : dp < ((row ns (i + 1)).reverse.length : Int)
            · rw [decide_eq_true hd, cond_true]
              refine go _ ?_
              simp only [List.length_reverse] at hd ⊢
              constructor
              · intro g
                exact ⟨i + 1, Nat.le_refl _, by omega⟩
              · rintro ⟨j, g1, g2⟩
                rcases Nat.eq_or_lt_of_le g1 with e | e
                · subst e; omega
                · have := hdp.2 ⟨j, by omega, g2⟩
                  omega
            · rw [decide_eq_false hd, cond_false]
              refine go _ ?_
              simp only [List.length_reverse] at hd
              rw [hdp]
              constructor
              · rintro ⟨j, g1, g2⟩
                exact ⟨j, by omega, g2⟩
              · rintro ⟨j, g1, g2⟩
                rcases Nat.eq_or_lt_of_le g1 with e | e
                · subst e
                  exact hdp.1 (by omega)
                · exact ⟨j, by omega, g2⟩
          · rw [show decide ((nd ns q).Kind ≠ 1) = true from decide_eq_true hk1, cond_true]
            exact .inl ⟨rfl, bad fun hh => hk1 (by have := hh.2.2; rw [q1] at this; simpa using this)⟩
    · rw [show decide (((i + 1 : Nat) : Int) < (ns.length : Int)) = false from by simp; omega, cond_false]
      have hlen : ns.length - 1 = i := by omega
      unfold ref5_Right_k2
      rcases ref_end ns hN W dp (fun j hj => by rw [hlen]; exact hW j (by omega)) n 0 (by omega) (by omega) with ⟨e1, e2⟩ | ⟨e1, e2⟩
      · exact .inl ⟨e1, fun hh => e2 fun j _ hj => hh.2 j hj⟩
      · right
        refine ⟨⟨fun j h1 h2 => by omega, fun j hj => e2 j (by omega) hj⟩, ?_⟩
        rw [show (0 : Int) = ((0 : Nat) : Int) from rfl, e1]
        have hdd : (256 < dp ↔ deepP ns) := by
          rw [hdp]
          constructor
          · rintro ⟨j, g1, g2⟩; exact ⟨j, by omega, g2⟩
          · rintro ⟨j, g1, g2⟩; exact ⟨j, by omega, g2⟩
        unfold ref5_Right_k3
        by_cases hd : 256 < dp
        · exact .inl ⟨by rw [decide_eq_true hd]; rfl, hdd.1 hd⟩
        · exact .inr ⟨by rw [decide_eq_false hd]; rfl, fun hh => hd (hdd.2 hh)⟩
end
theorem linked_iff (ns : List api_Node) (h0 : 0 < ns.length) : linkedP ns ↔ ((nd ns 0).Kind = 1 ∧ (nd ns 0).Parent = -1 ∧ (nd ns 0).Prev = -1 ∧ (nd ns 0).Next = -1 ∧ aloneP (nd ns 0) ∧ (∀ j, 0 < j → j < ns.length → aloneP (nd ns j) ∧ okS ns (j - 1)) ∧ ∀ j, j < ns.length → refP ns j) := by
  have key : (nd ns 0).Kind = 1 → (∀ j, 0 < j → j < ns.length → aloneP (nd ns j) ∧ okS ns (j - 1)) → ∀ j, 1 ≤ j → j < ns.length → 0 ≤ par ns j ∧ (par ns j).toNat < ns.length := fun hk hok => by
    have hg : ∀ i, i < ns.length → good ns i := by
      intro i
      induction i with
      | zero => intro _; exact hk
      | succ i ih => intro hi; exact ⟨ih (by omega), (hok (i + 1) (by omega) hi).2⟩
    intro j h1 h2
    obtain ⟨q, e1, e2, _⟩ := par_lt ns (hg j h2) h1 (Nat.le_refl _)
    rw [e1]
    simp
    omega
  unfold linkedP
  constructor
  · rintro ⟨a1, a2, a3, a4, a5, a6, a7⟩
    have hok : ∀ j, 0 < j → j < ns.length → aloneP (nd ns j) ∧ okS ns (j - 1) := fun j h1 h2 => ⟨(a6 j h1 h2).1, (a6 j h1 h2).2.1⟩
    exact ⟨a1, a2, a3, a4, a5, hok, (links_iff ns h0 a3 a4 (key a1 hok)).1 ⟨fun j h1 h2 => (a6 j h1 h2).2.2, a7⟩⟩
  · rintro ⟨a1, a2, a3, a4, a5, a6, a7⟩
    obtain ⟨b1, b2⟩ := (links_iff ns h0 a3 a4 (key a1 a6)).2 a7
    exact ⟨a1, a2, a3, a4, a5, fun j h1 h2 => ⟨(a6 j h1 h2).1, (a6 j h1 h2).2, b1 j h1 h2⟩, b2⟩
theorem ref5_Right_eq (ns : List api_Node) {n : Nat} (hn : 5000 ≤ n) (hA : ∀ j, j < ns.length → (nd ns j).Attrs.length < n ∧ (nd ns j).Attrs.length ≤ 9223372036854775806) : ∃ r, ref5_Right n ⟨ns⟩ = some r ∧ rightR ns r := by
  unfold ref5_Right
  by_cases h0 : ns.length = 0
  · exact ⟨10, by rw [show decide (((⟨ns⟩ : api_Tree).Nodes.length : Int) = 0) = true from by simpa using h0]; rfl, .inl ⟨h0, rfl⟩⟩
  rw [show decide (((⟨ns⟩ : api_Tree).Nodes.length : Int) = 0) = false from by simpa using h0, cond_false]
  by_cases h1 : 4096 < ns.length
  · exact ⟨4, by rw [show decide ((4096 : Int) < ((⟨ns⟩ : api_Tree).Nodes.length : Int)) = true from by simp; omega]; rfl, .inr (.inl ⟨h1, rfl⟩)⟩
  rw [show decide ((4096 : Int) < ((⟨ns⟩ : api_Tree).Nodes.length : Int)) = false from by simp; omega, cond_false]
  have hN : ns.length ≤ 4096 := by omega
  have h00 : 0 < ns.length := by omega
  have e0 : geti ns (0 : Int) = some (nd ns 0) := by rw [show (0 : Int) = ((0 : Nat) : Int) from rfl, geti_nat, nd_get ns h00]
  have bad : ¬ ((nd ns 0).Kind = 1 ∧ (nd ns 0).Parent = -1 ∧ (nd ns 0).Prev = -1 ∧ (nd ns 0).Next = -1) → rightR ns 10 := fun hb => .inr (.inr ⟨h00, hN, .inl ⟨fun hh => hb ⟨hh.1, hh.2.1, hh.2.2.1, hh.2.2.2.1⟩, rfl⟩⟩)
  simp only [e0, Option.bind_some]
  by_cases r1 : (nd ns 0).Kind = 1
  · rw [show decide ((nd ns 0).Kind ≠ 1) = false from decide_eq_false (not_not_intro r1), cond_false]
    by_cases r2 : (nd ns 0).Parent = -1
    · rw [show decide ((nd ns 0).Parent ≠ -1) = false from decide_eq_false (not_not_intro r2), cond_false]
      by_cases r3 : (nd ns 0).Prev = -1
      · rw [show decide ((nd ns 0).Prev ≠ -1) = false from decide_eq_false (not_not_intro r3), cond_false]
        by_cases r4 : (nd ns 0).Next = -1
        · rw [show decide ((nd ns 0).Next ≠ -1) = false from decide_eq_false (not_not_intro r4)]
          unfold ref5_Right_k1
          rw [cond_false, repM_eq (by show 104 * ns.length ≤ _ ∧ ns.length ≤ _; omega), Option.bind_some]
          have ez : (0 : Int) = ((0 : Nat) : Int) := rfl
          rw [show ∀ z : api_Node, geti (List.replicate ns.length z) (0 : Int) = some z from fun z => by rw [ez, geti_nat]; simp [h00], Option.bind_some]
          rw [show ∀ z y : api_Node, seti (List.replicate ns.length z) (0 : Int) y = some ((List.replicate ns.length z).set 0 y) from fun z y => by rw [ez, seti_nat _ (by simpa using h00)], Option.bind_some]
          obtain ⟨k, rfl⟩ : ∃ k, n = k + 1 := ⟨n - 1, by omega⟩
          rw [ref5_Right_l6]
          rw [show decide ((0 : Int) < ((⟨ns⟩ : api_Tree).Nodes.length : Int)) = true from by simp; omega, cond_true]
          rw [show geti (⟨ns⟩ : api_Tree).Nodes (0 : Int) = some (nd ns 0) from e0, Option.bind_some]
          obtain ⟨b, e1, e2⟩ := ref5_plain_eq (nd ns 0) (hA 0 h00).1 (hA 0 h00).2
          rw [e1, Option.bind_some]
          cases b with
          | false => exact ⟨10, rfl, .inr (.inr ⟨h00, hN, .inl ⟨fun hh => by simpa using e2.2 hh.2.2.2.2.1, rfl⟩⟩)⟩
          | true =>
            have hal := e2.1 rfl
            rw [show (!true) = false from rfl, cond_false, show decide ((0 : Int) = 0) = true from rfl, cond_true]
            unfold ref5_Right_k7
            have hl2 := ref_loop ns hN (n := k + 1) hn hA k 0 ((List.replicate ns.length zn).set 0 ({Kind := 0, Name := bs [], Text := bs [], Attrs := [], Parent := -1, First := -1, Last := -1, Prev := -1, Next := -1} : api_Node)) 1 (by omega) (by omega) r1 (by simp) (fun j hj => by
              have : j = 0 := by omega
              subst this
              rw [List.getElem?_set_self (by simpa using h00)]; rfl) (by
              constructor
              · intro h; omega
              · rintro ⟨j, g1, g2⟩
                have : j = 0 := by omega
                subst this
                simp [row] at g2)
            have er : (row ns 0).reverse = [0] := rfl
            rw [er] at hl2
            have es : w64 ((0 : Int) + 1) = ((0 + 1 : Nat) : Int) := rfl
            rw [es]
            rcases hl2 with ⟨g1, g2⟩ | ⟨g1, ⟨g2, g3⟩ | ⟨g2, g3⟩⟩
            · exact ⟨10, g1, .inr (.inr ⟨h00, hN, .inl ⟨fun hh => g2 ⟨((linked_iff ns h00).1 hh).2.2.2.2.2.1, ((linked_iff ns h00).1 hh).2.2.2.2.2.2⟩, rfl⟩⟩)⟩
            · exact ⟨5, g2, .inr (.inr ⟨h00, hN, .inr (.inl ⟨(linked_iff ns h00).2 ⟨r1, r2, r3, r4, hal, g1.1, g1.2⟩, g3, rfl⟩)⟩)⟩
            · exact ⟨0, g2, .inr (.inr ⟨h00, hN, .inr (.inr ⟨(linked_iff ns h00).2 ⟨r1, r2, r3, r4, hal, g1.1, g1.2⟩, g3, rfl⟩)⟩)⟩
        · rw [show decide ((nd ns 0).Next ≠ -1) = true from decide_eq_true r4]
          exact ⟨10, rfl, bad fun hh => r4 hh.2.2.2⟩
      · rw [show decide ((nd ns 0).Prev ≠ -1) = true from decide_eq_true r3, cond_true]
        exact ⟨10, rfl, bad fun hh => r3 hh.2.2.1⟩
    · rw [show decide ((nd ns 0).Parent ≠ -1) = true from decide_eq_true r2, cond_true]
      exact ⟨10, rfl, bad fun hh => r2 hh.2.1⟩
  · rw [show decide ((nd ns 0).Kind ≠ 1) = true from decide_eq_true r1, cond_true]
    exact ⟨10, rfl, bad fun hh => r1 hh.1⟩
end Go.Proofs.YteicdfkmpnmkmaaGreat
namespace Go.Proofs.YteicdfkmpnmkmaaGreat
set_option linter.unusedVariables false
set_option linter.unusedSimpArgs false
open Go.RowKit Go.Sl
theorem appM_small {α : Type} {b : Nat} (xs : List α) (y : α) (h : xs.length ≤ 5000) (hb : b ≤ 1000) : appM b xs [y] = some (xs ++ [y]) := by
  refine appM_eq ⟨by simp only [List.length_singleton]; omega, ?_⟩
  have h1 : (xs.length + [y].length) * b ≤ 5001 * 1000 := Nat.mul_le_mul (by simp only [List.length_singleton]; omega) hb
  omega
section
variable {ns : List api_Node}
/-- What of a right tree is wanted here. -/
structure RT (ns : List api_Node) : Prop where
  pos : 0 < ns.length
  small : ns.length ≤ 4096
  linked : linkedP ns
theorem RT.good (h : RT ns) {i : Nat} (hi : i < ns.length) : good ns i := linkedP.good ns h.linked i hi
theorem RT.parq (h : RT ns) {j : Nat} (h1 : 1 ≤ j) (hj : j < ns.length) : ∃ q : Nat, par ns j = q ∧ q < j ∧ (nd ns q).Kind = 1 ∧ row ns j = (j : Int) :: row ns q := by
  obtain ⟨i, rfl⟩ : ∃ i, j = i + 1 := ⟨j - 1, by omega⟩
  obtain ⟨q, h1, h2, h3, h4⟩ := good.par ns (h.good hj)
  exact ⟨q, h1, by omega, h3, h4⟩
theorem RT.ref (h : RT ns) : ∀ m, m < ns.length → refP ns m := ((linked_iff ns h.pos).1 h.linked).2.2.2.2.2.2
theorem nextc_inv : ∀ (n : Nat) (m : Int), nextc ns n m = -1 ∨ ∃ c : Nat, nextc ns n m = c ∧ 1 ≤ c ∧ c ≤ n ∧ prevc ns c = m ∧ 0 ≤ m
  | 0, _ => .inl rfl
  | n + 1, m => by
    rw [nextc_succ]
    by_cases e : 0 ≤ m ∧ lastc ns n (par ns (n + 1)) = m
    · rw [if_pos e]; exact .inr ⟨n + 1, rfl, by omega, Nat.le_refl _, e.2, e.1⟩
    · rw [if_neg e]
      rcases nextc_inv n m with h | ⟨c, h1, h2, h3, h4⟩
      · exact .inl h
      · exact .inr ⟨c, h1, h2, by omega, h4⟩
theorem firstc_inv : ∀ (n : Nat) (p : Int), firstc ns n p = -1 ∨ ∃ c : Nat, firstc ns n p = c ∧ 1 ≤ c ∧ c ≤ n ∧ par ns c = p ∧ prevc ns c = -1
  | 0, _ => .inl rfl
  | n + 1, p => by
    rw [firstc_succ]
    by_cases e : par ns (n + 1) = p ∧ lastc ns n p = -1
    · rw [if_pos e]; exact .inr ⟨n + 1, rfl, by omega, Nat.le_refl _, e.1, by unfold prevc; rw [e.1]; exact e.2⟩
    · rw [if_neg e]
      rcases firstc_inv n p with h | ⟨c, h1, h2, h3, h4⟩
      · exact .inl h
      · exact .inr ⟨c, h1, h2, by omega, h4⟩
theorem RT.next (h : RT ns) {m : Nat} (hm : m < ns.length) : (nd ns m).Next = -1 ∨ ∃ c : Nat, (nd ns m).Next = c ∧ m < c ∧ c < ns.length ∧ par ns c = par ns m ∧ (nd ns c).Prev = m ∧ 1 ≤ m := by
  have h1 := (h.ref m hm).2.2.2
  rw [h1]
  rcases nextc_inv (ns := ns) (ns.length - 1) m with e | ⟨c, e1, e2, e3, e4, _⟩
  · exact .inl e
  · have hc : c < ns.length := by omega
    rcases lastc_le ns (c - 1) (par ns c) with e | ⟨d, d1, d2, d3, d4⟩
    · unfold prevc at e4; rw [e] at e4; omega
    · have : d = m := by unfold prevc at e4; rw [d1] at e4; omega
      subst this
      exact .inr ⟨c, e1, by omega, hc, d4.symm, by rw [(h.ref c hc).2.2.1, if_neg (by omega)]; exact e4, d2⟩
theorem RT.first (h : RT ns) {m : Nat} (hm : m < ns.length) : (nd ns m).First = -1 ∨ ∃ c : Nat, (nd ns m).First = c ∧ 1 ≤ c ∧ c < ns.length ∧ par ns c = m ∧ (nd ns c).Prev = -1 := by
  rw [(h.ref m hm).1]
  rcases firstc_inv (ns := ns) (ns.length - 1) m with e | ⟨c, e1, e2, e3, e4, e5⟩
  · exact .inl e
  · exact .inr ⟨c, e1, e2, by omega, e4, by rw [(h.ref c (by omega)).2.2.1, if_neg (by omega)]; exact e5⟩
theorem has_in (n : Nat) {i : Nat} (hi : i < ns.length) : dom_has n ⟨ns⟩ (i : Int) = some true := by
  unfold dom_has
  rw [decide_eq_true (show (0 : Int) ≤ (i : Int) by omega), decide_eq_true (show (i : Int) < (((⟨ns⟩ : api_Tree).Nodes.length : Nat) : Int) from by simp only; omega)]; rfl
theorem has_out (n : Nat) {p : Int} (h : ¬ (0 ≤ p ∧ p < ns.length)) : dom_has n ⟨ns⟩ p = some false := by
  unfold dom_has
  congr 1
  simp only [Bool.and_eq_false_iff, decide_eq_false_iff_not]
  omega
theorem get_nd {i : Nat} (hi : i < ns.length) : geti (⟨ns⟩ : api_Tree).Nodes (i : Int) = some (nd ns i) := by rw [geti_nat]; exact nd_get ns hi
inductive Chain (ns : List api_Node) : Int → List Int → Prop
  | nil : Chain ns (-1) []
  | cons {m : Nat} {l : List Int} : 1 ≤ m → m < ns.length → Chain ns (nd ns m).Next l → Chain ns m ((m : Int) :: l)
theorem kids_chain (h : RT ns) (n : Nat) : ∀ (d : Nat) (c : Int) (y : List Int), (c = -1 ∨ ∃ m : Nat, c = m ∧ 1 ≤ m ∧ m < ns.length ∧ ns.length - m ≤ d ∧ y.length ≤ m) →
    ∃ l : List Int, Chain ns c l ∧ (∀ k, d + 2 ≤ k → dom_Kids_l2 n ⟨ns⟩ k y c = some (y ++ l)) ∧ ∀ k, d + 2 ≤ k → ref5_Kids_l2 ⟨ns⟩ k y c = some (y ++ l) := by
  intro d
  induction d with
  | zero =>
    rintro c y (rfl | ⟨m, rfl, h1, h2, h3, h4⟩)
    · refine ⟨[], .nil, fun k hk => ?_, fun k hk => ?_⟩
      · obtain ⟨k, rfl⟩ : ∃ k', k = k' + 1 := ⟨k - 1, by omega⟩
        rw [dom_Kids_l2, has_out n (by omega), Option.bind_some, cond_false, List.append_nil]; rfl
      · obtain ⟨k, rfl⟩ : ∃ k', k = k' + 1 := ⟨k - 1, by omega⟩
        rw [ref5_Kids_l2, List.append_nil]; rfl
    · omega
  | succ d ih =>
    rintro c y (rfl | ⟨m, rfl, h1, h2, h3, h4⟩)
    · refine ⟨[], .nil, fun k hk => ?_, fun k hk => ?_⟩
      · obtain ⟨k, rfl⟩ : ∃ k', k = k' + 1 := ⟨k - 1, by omega⟩
        rw [dom_Kids_l2, has_out n (by omega), Option.bind_some, cond_false, List.append_nil]; rfl
      · obtain ⟨k, rfl⟩ : ∃ k', k = k' + 1 := ⟨k - 1, by omega⟩
        rw [ref5_Kids_l2, List.append_nil]; rfl
    · have hs := h.small
      obtain ⟨l, l1, l2, l3⟩ := ih (nd ns m).Next (y ++ [(m : Int)]) (by
        rcases h.next h2 with e | ⟨c, e1, e2, e3, _⟩
        · exact .inl e
        · exact .inr ⟨c, e1, by omega, e3, by omega, by simp only [List.length_append, List.length_singleton]; omega⟩)
      refine ⟨(m : Int) :: l, .cons h1 h2 l1, fun k hk => ?_, fun k hk => ?_⟩
      · obtain ⟨k, rfl⟩ : ∃ k', k = k' + 1 := ⟨k - 1, by omega⟩
        rw [dom_Kids_l2, has_in n h2, Option.bind_some, cond_true, decide_eq_true (show (y.length : Int) < (((⟨ns⟩ : api_Tree).Nodes.length : Nat) : Int) from by simp only; omega)]
        unfold dom_Kids_k3
        rw [cond_true, appM_small y _ (by omega) (by omega), Option.bind_some, get_nd h2, Option.bind_some, l2 k (by omega), List.append_assoc]; rfl
      · obtain ⟨k, rfl⟩ : ∃ k', k = k' + 1 := ⟨k - 1, by omega⟩
        rw [ref5_Kids_l2, decide_eq_true (show (0 : Int) ≤ (m : Int) by omega), cond_true, appM_small y _ (by omega) (by omega), Option.bind_some, get_nd h2, Option.bind_some, l3 k (by omega), List.append_assoc]; rfl
theorem Kids_in (h : RT ns) {n i : Nat} (hn : 5000 ≤ n) (hi : i < ns.length) : ∃ l, Chain ns (nd ns i).First l ∧ dom_Kids n ⟨ns⟩ (i : Int) = some l ∧ ref5_Kids n ⟨ns⟩ (i : Int) = some l := by
  have hs := h.small
  obtain ⟨l, l1, l2, l3⟩ := kids_chain h n ns.length (nd ns i).First [] (by
    rcases h.first hi with e | ⟨c, e1, e2, e3, _⟩
    · exact .inl e
    · exact .inr ⟨c, e1, e2, e3, by omega, by simp⟩)
  refine ⟨l, l1, ?_, ?_⟩
  · unfold dom_Kids
    rw [has_in n hi, Option.bind_some, Bool.not_true, cond_false, get_nd hi, Option.bind_some, l2 n (by omega), List.nil_append]
  · unfold ref5_Kids
    rw [decide_eq_false (show ¬ (i : Int) < 0 by omega), decide_eq_false (show ¬ ((((⟨ns⟩ : api_Tree).Nodes.length : Nat) : Int) ≤ (i : Int)) from by simp only; omega), Bool.or_false, cond_false, get_nd hi, Option.bind_some, l3 n (by omega), List.nil_append]
theorem RT.of {ns : List api_Node} {r : Int} (h : rightR ns r) (hr : r = 0) : RT ns := by
  rcases h with ⟨_, e⟩ | ⟨_, e⟩ | ⟨h1, h2, ⟨_, e⟩ | ⟨_, _, e⟩ | ⟨h3, _, _⟩⟩
  · omega
  · omega
  · omega
  · omega
  · exact ⟨h1, h2, h3⟩
def kd (ns : List api_Node) (i : Nat) : List Int := (dom_Kids 5000 ⟨ns⟩ (i : Int)).getD []
theorem kd_eq (h : RT ns) {i : Nat} (hi : i < ns.length) : dom_Kids 5000 ⟨ns⟩ (i : Int) = some (kd ns i) ∧ ref5_Kids 5000 ⟨ns⟩ (i : Int) = some (kd ns i) ∧ (kd ns i).length ≤ ns.length ∧ ∀ c ∈ kd ns i, ∃ m : Nat, c = m ∧ i < m ∧ m < ns.length := by
  obtain ⟨l, l1, l2, l3⟩ := Kids_in h (n := 5000) (by omega) hi
  have e : kd ns i = l := by rw [kd, l2]; rfl
  rw [e]
  refine ⟨l2, l3, ?_⟩
  have key : ∀ (c : Int) (l : List Int), Chain ns c l → ∀ b : Nat, (∀ m : Nat, c = m → b ≤ m) → b ≤ ns.length → b + l.length ≤ ns.length ∧ ∀ x ∈ l, ∃ m : Nat, x = m ∧ b ≤ m ∧ m < ns.length := by
    intro c l hc
    induction hc with
    | nil => intro b _ hb; exact ⟨by simpa using hb, by simp⟩
    | cons h1 h2 h3 ih =>
      rename_i m l
      intro b hb _
      have hm := hb m rfl
      obtain ⟨i1, i2⟩ := ih (m + 1) (fun q hq => by
        rcases h.next h2 with e | ⟨c, e1, e2, _⟩ <;> omega) (by omega)
      refine ⟨by simp only [List.length_cons]; omega, fun x hx => ?_⟩
      rcases List.mem_cons.1 hx with rfl | hx
      · exact ⟨m, rfl, hm, h2⟩
      · obtain ⟨q, q1, q2, q3⟩ := i2 x hx
        exact ⟨q, q1, by omega, q3⟩
  obtain ⟨k1, k2⟩ := key _ l l1 (i + 1) (fun m hm => by
    rcases h.first hi with e | ⟨c, e1, e2, e3, e4, _⟩
    · omega
    · obtain ⟨q, q1, q2, _⟩ := h.parq e2 e3
      have : q = i := by omega
      omega) (by omega)
  refine ⟨by omega, fun c hc => ?_⟩
  obtain ⟨m, m1, m2, m3⟩ := k2 c hc
  exact ⟨m, m1, by omega, m3⟩
end
end Go.Proofs.YteicdfkmpnmkmaaGreat
