/-
  Walks and laws of this seat.
-/
import Derived.Test.YtpfdbeafdjnbnaaGreatDoorX0
import Derived.Test.YtpfdbeafdjnbnaaGreatDoorX25
namespace Go.Proofs.YtpfdbeafdjnbnaaGreatDoor
set_option linter.unusedVariables false
set_option linter.unusedSimpArgs false
set_option linter.unusedSectionVars false
section
open Go.RowKit Go.Sl
theorem zbr {α : Type} (xs : List α) (m : Nat) : geti xs (m : Int) = xs[m]? := by simp [geti]
theorem zi0 {α : Type} (xs : List α) {m : Nat} (h : m < xs.length) (x : α) : seti xs (m : Int) x = some (xs.set m x) := by simp [seti, h]
theorem zk9 {α : Type} {b : Nat} {xs ys : List α} (h : xs.length + ys.length ≤ 9223372036854775807 ∧ (xs.length + ys.length) * b ≤ 140737488355328) : appM b xs ys = some (xs ++ ys) := by
  simp [appM, roomB, h.1, h.2]
theorem zs7 {α : Type} {b m : Nat} {x : α} (h : b * m ≤ 281474976710656 ∧ m ≤ 9223372036854775807) : repM b (m : Int) x = some (List.replicate m x) := by
  simp [repM, h.1, h.2]
theorem zub {i : Int} (h : -9223372036854775808 ≤ i ∧ i ≤ 9223372036854775807) : w64 i = i := zg4 h
theorem zgb {m : Nat} (h : m ≤ 9223372036854775806) : w64 ((m : Int) + 1) = ((m + 1 : Nat) : Int) := by
  rw [zub (by omega)]; omega
theorem zvj {α : Type} (xs : List α) (x : α) (h : xs.length ≤ 9223372036854775806) : cutM (xs ++ [x]) (0 : Int) (w64 (((xs ++ [x]).length : Int) - 1)) = some xs := by
  rw [zub (by simp; omega)]
  have : (((xs ++ [x]).length : Int) - 1) = (xs.length : Int) := by simp
  rw [this]
  have h2 : (xs.length : Int) ≤ xs.length + 1 := by omega
  simp [cutM, h2]
theorem zvb {α : Type} (xs : List α) (x : α) (h : xs.length ≤ 9223372036854775806) : geti (xs ++ [x]) (w64 (((xs ++ [x]).length : Int) - 1)) = some x := by
  rw [zub (by simp; omega)]
  have : (((xs ++ [x]).length : Int) - 1) = (xs.length : Int) := by simp
  rw [this, zbr]
  simp
def zn : zae := {Kind := 0, Name := bs [], Text := bs [], Attrs := [], Parent := 0, First := 0, Last := 0, Prev := 0, Next := 0}
section
variable (ns : List zae)
def nd (i : Nat) : zae := ns.getD i zn
abbrev par (i : Nat) : Int := (nd ns i).Parent
def lastc : Nat → Int → Int
  | 0, _ => -1
  | i + 1, p => if par ns (i + 1) = p then ((i + 1 : Nat) : Int) else lastc i p
def firstc : Nat → Int → Int
  | 0, _ => -1
  | i + 1, p => if par ns (i + 1) = p ∧ lastc ns i p = -1 then ((i + 1 : Nat) : Int) else firstc i p
def nextc : Nat → Int → Int
  | 0, _ => -1
  | i + 1, m => if 0 ≤ m ∧ lastc ns i (par ns (i + 1)) = m then ((i + 1 : Nat) : Int) else nextc i m
def prevc (i : Nat) : Int := lastc ns (i - 1) (par ns i)
def pop (p : Int) (l : List Int) : List Int := l.dropWhile fun x => decide (x ≠ p)
def row : Nat → List Int
  | 0 => [0]
  | i + 1 => ((i + 1 : Nat) : Int) :: pop (par ns (i + 1)) (row i)
def okS (i : Nat) : Prop := pop (par ns (i + 1)) (row ns i) ≠ [] ∧ (nd ns (par ns (i + 1)).toNat).Kind = 1
theorem zii {i : Nat} (h : i < ns.length) : ns[i]? = some (nd ns i) := by simp [nd, h]
theorem zfm : ∀ (i : Nat) (p : Int), lastc ns i p = -1 ∨ ∃ c : Nat, lastc ns i p = c ∧ 1 ≤ c ∧ c ≤ i ∧ par ns c = p
  | 0, _ => .inl rfl
  | i + 1, p => by
    unfold lastc
    split
    · rename_i h
      exact .inr ⟨i + 1, rfl, by omega, by omega, h⟩
    · rcases zfm i p with h | ⟨c, h1, h2, h3, h4⟩
      · exact .inl h
      · exact .inr ⟨c, h1, h2, by omega, h4⟩
theorem zm4 : ∀ (i c : Nat),1 ≤ c → c ≤ i → (c : Int) ≤ lastc ns i (par ns c)
  | 0, c, h1, h2 => by omega
  | i + 1, c, h1, h2 => by
    unfold lastc
    split
    · omega
    · rename_i h
      rcases Nat.lt_or_ge i c with h3 | h3
      · have : c = i + 1 := by omega
        subst this
        exact absurd rfl h
      · exact zm4 i c h1 h3
theorem zm5 : ∀ (i c : Nat),1 ≤ c → c ≤ i → prevc ns c = -1 → firstc ns i (par ns c) = c
  | 0, c, h1, h2, _ => by omega
  | i + 1, c, h1, h2, h => by
    unfold firstc
    rcases Nat.lt_or_ge i c with h3 | h3
    · have : c = i + 1 := by omega
      subst this
      rw [if_pos ⟨rfl, h⟩]
    · have := zm4 ns i c h1 h3
      rw [if_neg (by rintro ⟨_, h5⟩; omega)]
      exact zm5 i c h1 h3 h
theorem zk4 : ∀ (i : Nat) (p : Int), lastc ns i p = -1 → firstc ns i p = -1
  | 0, _, _ => rfl
  | i + 1, p, h => by
    unfold lastc at h
    split at h
    · omega
    · rename_i h2
      unfold firstc
      rw [if_neg (by rintro ⟨h3, _⟩; exact h2 h3)]
      exact zk4 i p h
theorem znz : ∀ (i : Nat) (p : Int), lastc ns i p ≠ -1 → ∃ c : Nat,1 ≤ c ∧ c ≤ i ∧ par ns c = p ∧ prevc ns c = -1
  | 0, _, h => absurd rfl h
  | i + 1, p, h => by
    by_cases h0 : lastc ns i p = -1
    · unfold lastc at h
      split at h
      · rename_i h1
        exact ⟨i + 1, by omega, by omega, h1, by unfold prevc; rw [h1]; exact h0⟩
      · exact absurd h0 h
    · obtain ⟨c, h1, h2, h3⟩ := znz i p h0
      exact ⟨c, h1, by omega, h3⟩
theorem znb : ∀ (i c m : Nat),1 ≤ c → c ≤ i → prevc ns c = m → nextc ns i m = c
  | 0, c, m, h1, h2, _ => by omega
  | i + 1, c, m, h1, h2, h => by
    unfold nextc
    rcases Nat.lt_or_ge i c with h3 | h3
    · have : c = i + 1 := by omega
      subst this
      rw [if_pos ⟨by omega, h⟩]
    · have hp : par ns m = par ns c := by
        rcases zfm ns (c - 1) (par ns c) with h4 | ⟨q, h4, _, _, h5⟩
        · unfold prevc at h; omega
        · unfold prevc at h
          have : q = m := by omega
          subst this; exact h5
      have hlt : m < c := by
        rcases zfm ns (c - 1) (par ns c) with h4 | ⟨q, h4, _, h6, h5⟩
        · unfold prevc at h; omega
        · unfold prevc at h; omega
      rw [if_neg]
      · exact znb i c m h1 h3 h
      · rintro ⟨_, h5⟩
        have h6 := zm4 ns i c h1 h3
        rcases zfm ns i (par ns (i + 1)) with h7 | ⟨q, h7, _, _, h8⟩
        · omega
        · have : q = m := by omega
          subst this
          rw [← hp, h8] at h6
          omega
theorem zjo : ∀ (i : Nat) (m : Int),(∀ c : Nat,1 ≤ c → c ≤ i → prevc ns c ≠ m) → nextc ns i m = -1
  | 0, _, _ => rfl
  | i + 1, m, h => by
    unfold nextc
    rw [if_neg (by rintro ⟨_, h1⟩; exact h (i + 1) (by omega) (by omega) h1)]
    exact zjo i m fun c h1 h2 => h c h1 (by omega)
theorem younger : ∀ (i m : Nat),1 ≤ m → m ≤ i → lastc ns i (par ns m) ≠ m → ∃ c : Nat,1 ≤ c ∧ c ≤ i ∧ prevc ns c = m
  | 0, m, h1, h2, _ => by omega
  | i + 1, m, h1, h2, h => by
    rcases Nat.lt_or_ge i m with h3 | h3
    · have : m = i + 1 := by omega
      subst this
      unfold lastc at h
      simp at h
    · by_cases h4 : lastc ns i (par ns m) = m
      · unfold lastc at h
        split at h
        · rename_i h5
          exact ⟨i + 1, by omega, by omega, by unfold prevc; rw [h5]; exact h4⟩
        · exact absurd h4 h
      · obtain ⟨c, h5, h6, h7⟩ := younger i m h1 h3 h4
        exact ⟨c, h5, by omega, h7⟩
end
end
section
open Go.RowKit Go.Sl
section
variable (ns : List zae)
def stepP (j : Nat) : Prop := (nd ns j).Prev = prevc ns j ∧ ((nd ns j).Prev = -1 → (nd ns (par ns j).toNat).First = j) ∧ ((nd ns j).Prev ≠ -1 → (nd ns (nd ns j).Prev.toNat).Next = j)
def endP (m : Nat) : Prop := (nd ns m).Last = lastc ns (ns.length - 1) m ∧ (lastc ns (ns.length - 1) m = -1 → (nd ns m).First = -1) ∧ (lastc ns (ns.length - 1) m ≠ -1 → (nd ns (lastc ns (ns.length - 1) m).toNat).Next = -1)
def refP (m : Nat) : Prop := (nd ns m).First = firstc ns (ns.length - 1) m ∧ (nd ns m).Last = lastc ns (ns.length - 1) m ∧ (nd ns m).Prev = (if m = 0 then -1 else prevc ns m) ∧ (nd ns m).Next = nextc ns (ns.length - 1) m
theorem zr9 (h0 : 0 < ns.length) (hprev : (nd ns 0).Prev = -1) (hnext : (nd ns 0).Next = -1) (hpar : ∀ j,1 ≤ j → j < ns.length → 0 ≤ par ns j ∧ (par ns j).toNat < ns.length) :
    ((∀ j,1 ≤ j → j < ns.length → stepP ns j) ∧ ∀ m, m < ns.length → endP ns m) ↔ ∀ m, m < ns.length → refP ns m := by
  have back : ∀ {j : Nat}, 1 ≤ j → j < ns.length → ((par ns j).toNat : Int) = par ns j := fun h1 h2 => by have := (hpar _ h1 h2).1; omega
  constructor
  · rintro ⟨hs, he⟩ m hm
    refine ⟨?_,(he m hm).1, ?_, ?_⟩
    · by_cases hl : lastc ns (ns.length - 1) m = -1
      · rw [(he m hm).2.1 hl, zk4 ns _ _ hl]
      · obtain ⟨c, h1, h2, h3, h4⟩ := znz ns _ _ hl
        have h5 := hs c h1 (by omega)
        have h6 := h5.2.1 (by rw [h5.1]; exact h4)
        rw [h3] at h6
        have h7 := zm5 ns (ns.length - 1) c h1 (by omega) h4
        rw [h3] at h7
        rw [h7]; simpa using h6
    · split
      · rename_i e; subst e; exact hprev
      · exact (hs m (by omega) hm).1
    · by_cases hm0 : m = 0
      · subst hm0
        rw [hnext, zjo]
        intro c h1 h2 h3
        unfold prevc at h3
        rcases zfm ns (c - 1) (par ns c) with h4 | ⟨q, h4, h5, _⟩ <;> omega
      · by_cases hl : lastc ns (ns.length - 1) (par ns m) = m
        · have h1 := back (by omega) hm
          have h2 := he (par ns m).toNat (hpar m (by omega) hm).2
          rw [show nextc ns (ns.length - 1) m = -1 from ?_]
          · have h3 := h2.2.2
            rw [h1, hl] at h3
            simpa using h3 (by omega)
          · refine zjo ns _ _ fun c h3 h4 h5 => ?_
            have h6 : par ns m = par ns c := by
              unfold prevc at h5
              rcases zfm ns (c - 1) (par ns c) with h7 | ⟨q, h7, _, _, h8⟩
              · omega
              · have : q = m := by omega
                subst this; exact h8
            have h7 := zm4 ns (ns.length - 1) c h3 (by omega)
            rw [← h6, hl] at h7
            unfold prevc at h5
            rcases zfm ns (c - 1) (par ns c) with h8 | ⟨q, h8, _, h9, _⟩ <;> omega
        · obtain ⟨c, h1, h2, h3⟩ := younger ns (ns.length - 1) m (by omega) (by omega) hl
          have h4 := hs c h1 (by omega)
          have h5 := h4.2.2 (by rw [h4.1, h3]; omega)
          rw [h4.1, h3] at h5
          rw [znb ns _ c m h1 (by omega) h3]
          simpa using h5
  · intro h
    refine ⟨fun j h1 h2 => ?_, fun m hm => ?_⟩
    · have hj := h j h2
      have hp : (nd ns j).Prev = prevc ns j := by have := hj.2.2.1; rwa [if_neg (by omega)] at this
      refine ⟨hp, fun h3 => ?_, fun h3 => ?_⟩
      · have h4 := (h (par ns j).toNat (hpar j h1 h2).2).1
        rw [h4, back h1 h2]
        exact zm5 ns _ j h1 (by omega) (by rw [← hp]; exact h3)
      · rw [hp] at h3
        rcases zfm ns (j - 1) (par ns j) with h4 | ⟨q, h4, h5, h6, _⟩
        · exact absurd h4 h3
        · have h7 : prevc ns j = q := h4
          rw [hp, h7]
          have h8 := (h q (by omega)).2.2.2
          rw [Int.toNat_natCast, h8]
          exact znb ns _ j q h1 (by omega) h7
    · have hm' := h m hm
      refine ⟨hm'.2.1, fun h1 => by rw [hm'.1]; exact zk4 ns _ _ h1, fun h1 => ?_⟩
      rcases zfm ns (ns.length - 1) m with h2 | ⟨q, h2, h3, h4, h5⟩
      · exact absurd h2 h1
      · rw [h2, Int.toNat_natCast,(h q (by omega)).2.2.2]
        refine zjo ns _ _ fun c h6 h7 h8 => ?_
        have h9 : par ns q = par ns c := by
          unfold prevc at h8
          rcases zfm ns (c - 1) (par ns c) with h10 | ⟨z, h10, _, _, h11⟩
          · omega
          · have : z = q := by omega
            subst this; exact h11
        have h10 := zm4 ns (ns.length - 1) c h6 (by omega)
        rw [← h9, h5, h2] at h10
        unfold prevc at h8
        rcases zfm ns (c - 1) (par ns c) with h11 | ⟨z, h11, _, h12, _⟩ <;> omega
def rowInv (i : Nat) : Prop := ∃ tl, row ns i = (i : Int) :: tl ∧ (∀ x ∈ tl, ∃ q : Nat, x = q ∧ q < i ∧ (nd ns q).Kind = 1) ∧ ∀ (p : Int) (l l' : List Int), row ns i = l' ++ p :: l → ∃ q : Nat, p = q ∧ q ≤ i ∧ p :: l = row ns q
theorem zkn (p : Int) : ∀ l : List Int, pop p l = [] ∨ ∃ l' tl, l = l' ++ pop p l ∧ pop p l = p :: tl
  | [] => .inl rfl
  | x :: l => by
    unfold pop
    rw [List.dropWhile_cons]
    by_cases h : x = p
    · subst h
      right
      exact ⟨[], l, by simp, by simp⟩
    · rw [if_pos (by simpa using h)]
      rcases zkn p l with h1 | ⟨l', tl, h1, h2⟩
      · exact .inl h1
      · refine .inr ⟨x :: l', tl, ?_, h2⟩
        rw [List.cons_append]
        congr 1
theorem zs5 : rowInv ns 0 := ⟨[], rfl, by simp, fun p l l' h => by
  have h1 : row ns 0 = [0] := rfl
  rw [h1] at h
  cases l' with
  | nil => simp at h; exact ⟨0, by omega, by omega, by rw [h1, h.1, h.2]⟩
  | cons a l' => simp at h⟩
theorem zs6 {i : Nat} (h : rowInv ns i) (_hk : i = 0 → (nd ns 0).Kind = 1) (ho : okS ns i) : rowInv ns (i + 1) := by
  obtain ⟨tl, h1, h2, h3⟩ := h
  obtain ⟨o1, o2⟩ := ho
  rcases zkn (par ns (i + 1)) (row ns i) with h4 | ⟨l', tl', h4, h5⟩
  · exact absurd h4 o1
  · refine ⟨_, rfl, fun x hx => ?_, fun p l q hq => ?_⟩
    · rw [h5] at hx
      obtain ⟨z, hz, hz2, _⟩ := h3 (par ns (i + 1)) tl' l' (by rw [← h5]; exact h4)
      rcases List.mem_cons.1 hx with rfl | hx
      · refine ⟨z, hz, by omega, ?_⟩
        have := o2
        rw [hz] at this
        simpa using this
      · have : x ∈ tl := by
          have h6 : row ns i = l' ++ par ns (i + 1) :: tl' := by rw [← h5]; exact h4
          rw [h1] at h6
          cases l' with
          | nil => simp at h6; rw [h6.2]; exact hx
          | cons a l' => simp at h6; rw [h6.2]; simp [hx]
        obtain ⟨q, e1, e2, e3⟩ := h2 x this
        exact ⟨q, e1, by omega, e3⟩
    · cases q with
      | nil =>
        simp only [List.nil_append] at hq
        have hp : p = ((i + 1 : Nat) : Int) := by
          have : row ns (i + 1) = ((i + 1 : Nat) : Int) :: pop (par ns (i + 1)) (row ns i) := rfl
          rw [this] at hq
          exact (List.cons.inj hq).1.symm
        exact ⟨i + 1, hp, by omega, hq.symm⟩
      | cons a q =>
        have hr : row ns (i + 1) = ((i + 1 : Nat) : Int) :: pop (par ns (i + 1)) (row ns i) := rfl
        rw [hr, List.cons_append] at hq
        have h6 := (List.cons.inj hq).2
        obtain ⟨z, hz, hz2, hz3⟩ := h3 p l (l' ++ q) (by rw [h4, h6, List.append_assoc])
        exact ⟨z, hz, by omega, hz3⟩
def good : Nat → Prop
  | 0 => (nd ns 0).Kind = 1
  | i + 1 => good i ∧ okS ns i
theorem good.inv : ∀ {i : Nat}, good ns i → rowInv ns i
  | 0, _ => zs5 ns
  | _ + 1, h => zs6 ns (good.inv h.1) (fun e => by subst e; exact h.1) h.2
theorem good.le {i j : Nat} (h : good ns j) (hij : i ≤ j) : good ns i := by
  induction hij with
  | refl => exact h
  | step _ ih => exact ih h.1
theorem good.par {i : Nat} (h : good ns (i + 1)) : ∃ q : Nat, par ns (i + 1) = q ∧ q ≤ i ∧ (nd ns q).Kind = 1 ∧ row ns (i + 1) = ((i + 1 : Nat) : Int) :: row ns q := by
  obtain ⟨_, _, _, h3⟩ := good.inv ns h.1
  obtain ⟨o1, o2⟩ := h.2
  rcases zkn (Proofs.YtpfdbeafdjnbnaaGreatDoor.par ns (i + 1)) (row ns i) with h4 | ⟨l', tl', h4, h5⟩
  · exact absurd h4 o1
  · obtain ⟨z, hz, hz2, hz3⟩ := h3 _ tl' l' (by rw [← h5]; exact h4)
    refine ⟨z, hz, hz2, ?_, ?_⟩
    · rw [hz] at o2; simpa using o2
    · rw [← hz3, ← h5]; rfl
end
end
section
open Go.RowKit Go.Sl
theorem zns {α : Type} (k q : ByteArray) (v : α) : ∀ m : List (ByteArray × α), mgetM (mputM m k v) q = if k = q then some v else mgetM m q
  | [] => by
    by_cases h : k = q <;> simp [mgetM, mputM, h]
  | p :: m => by
    have ih := zns k q v m
    unfold mputM
    by_cases h1 : p.1 = k
    · rw [if_pos h1]
      by_cases h2 : k = q <;> simp [mgetM, h1, h2]
    · rw [if_neg h1]
      by_cases h2 : p.1 = q
      · have : ¬ k = q := fun e => h1 (h2.trans e.symm)
        simp [mgetM, h2, this]
      · simp only [mgetM, List.find?_cons, h2, decide_false] at ih ⊢
        exact ih
def attP (l : List zab) (i : Nat) : Prop := ∀ a, l[i]? = some a → a.Name ≠ bs [] ∧ ∀ j, j < i → ∀ b, l[j]? = some b → b.Name ≠ a.Name
theorem zpf (x : zae) (hl : x.Attrs.length ≤ 64) : ∀ (k m : Nat) (M : List (ByteArray × Int)), x.Attrs.length < k + m → m ≤ x.Attrs.length →
    (∀ q,(mgetM M q).getD 0 = 0 ∧ (∀ j, j < m → ∀ b, x.Attrs[j]? = some b → b.Name ≠ q) ∨ (mgetM M q).getD 0 = 1 ∧ ∃ j, j < m ∧ ∃ b, x.Attrs[j]? = some b ∧ b.Name = q) →
    ∃ b, zew x k M (m : Int) = some b ∧ (b = true ↔ ∀ i, m ≤ i → attP x.Attrs i)
  | 0, m, M, hk, hm, _ => by omega
  | k + 1, m, M, hk, hm, hM => by
    rw [zew]
    by_cases h : m < x.Attrs.length
    · obtain ⟨a, ha⟩ : ∃ a, x.Attrs[m]? = some a := ⟨_, List.getElem?_eq_getElem h⟩
      have e1 : decide ((m : Int) < (x.Attrs.length : Int)) = true := by simpa using h
      rw [e1, cond_true, zbr, ha, Option.bind_some]
      by_cases hn : a.Name = bs []
      · refine ⟨false, by simp [hn, zge], by simp; exact ⟨m, Nat.le_refl _, fun hh => (hh a ha).1 hn⟩⟩
      · rw [decide_eq_false hn, cond_false]
        rcases hM a.Name with ⟨h0, h1⟩ | ⟨h0, j, h1, b, h2, h3⟩
        · obtain ⟨b, e2, e3⟩ := zpf x hl k (m + 1) (mputM M a.Name (w64 (((mgetM M a.Name).getD 0) + 1))) (by omega) (by omega) (fun q => by
            rw [zns]
            by_cases hq : a.Name = q
            · right
              rw [if_pos hq]
              exact ⟨by simp [h0]; decide, m, by omega, a, ha, hq⟩
            · rw [if_neg hq]
              rcases hM q with ⟨g0, g1⟩ | ⟨g0, j, g1, b, g2, g3⟩
              · left
                refine ⟨g0, fun j hj b hb => ?_⟩
                rcases Nat.lt_or_ge j m with g2 | g2
                · exact g1 j g2 b hb
                · have : j = m := by omega
                  subst this
                  rw [ha] at hb; cases hb; exact hq
              · exact .inr ⟨g0, j, by omega, b, g2, g3⟩)
          refine ⟨b, ?_, ?_⟩
          · rw [show decide (0 < ((mgetM M a.Name).getD 0)) = false from by rw [h0]; rfl]
            unfold zge
            rw [cond_false, zgb (by omega)]
            exact e2
          · rw [e3]
            constructor
            · intro hh i hi
              rcases Nat.eq_or_lt_of_le hi with e | e
              · subst e
                intro a' ha'
                rw [ha] at ha'; cases ha'
                exact ⟨hn, h1⟩
              · exact hh i e
            · intro hh i hi
              exact hh i (by omega)
        · refine ⟨false, by rw [h0]; simp [zge], by simp; exact ⟨m, Nat.le_refl _, fun hh => (hh a ha).2 j h1 b h2 h3⟩⟩
    · have e1 : decide ((m : Int) < (x.Attrs.length : Int)) = false := by simp; omega
      rw [e1, cond_false]
      refine ⟨true, rfl, by simp; intro i hi a ha; have := (List.getElem?_eq_some_iff.1 ha).1; omega⟩
def aloneP (x : zae) : Prop := (x.Kind = 2 ∧ x.Name = bs [] ∧ x.Text ≠ bs [] ∧ x.Attrs.length = 0 ∧ x.First = -1 ∧ x.Last = -1) ∨ (x.Kind = 1 ∧ x.Name ≠ bs [] ∧ x.Text = bs [] ∧ x.Attrs.length ≤ 64 ∧ ∀ i, attP x.Attrs i)
theorem zn0 (x : zae) {n : Nat} (hn : 66 ≤ n) : ∃ b, zks n x = some b ∧ (b = true ↔ aloneP x) := by
  unfold zks
  by_cases hk : x.Kind = 2
  · refine ⟨_, by rw [decide_eq_true hk, cond_true], ?_⟩
    simp only [aloneP, hk, Bool.and_eq_true, decide_eq_true_eq]
    simp
  · rw [decide_eq_false hk, cond_false]
    by_cases hb : x.Kind ≠ 1 ∨ x.Name = bs [] ∨ x.Text ≠ bs [] ∨ 64 < x.Attrs.length
    · refine ⟨false, ?_, ?_⟩
      · rw [show (decide (x.Kind ≠ 1) || (decide (x.Name = bs []) || (decide (x.Text ≠ bs []) || decide (64 < (x.Attrs.length : Int))))) = true from ?_, cond_true]
        simp only [Bool.or_eq_true, decide_eq_true_eq]
        rcases hb with h | h | h | h
        · exact .inl h
        · exact .inr (.inl h)
        · exact .inr (.inr (.inl h))
        · exact .inr (.inr (.inr (by omega)))
      · simp only [aloneP, hk, false_and, false_or, Bool.false_eq_true, false_iff]
        rintro ⟨h1, h2, h3, h4, _⟩
        rcases hb with h | h | h | h
        · exact h h1
        · exact h2 h
        · exact h h3
        · omega
    · have h1 : x.Kind = 1 := Decidable.byContradiction fun h => hb (.inl h)
      have h2 : x.Name ≠ bs [] := fun h => hb (.inr (.inl h))
      have h3 : x.Text = bs [] := Decidable.byContradiction fun h => hb (.inr (.inr (.inl h)))
      have h4 : x.Attrs.length ≤ 64 := Nat.le_of_not_lt fun h => hb (.inr (.inr (.inr h)))
      have e1 : (decide (x.Kind ≠ 1) || (decide (x.Name = bs []) || (decide (x.Text ≠ bs []) || decide (64 < (x.Attrs.length : Int))))) = false := by
        simp [h1, h2, h3]; omega
      rw [e1, cond_false]
      obtain ⟨b, e2, e3⟩ := zpf x h4 n 0 [] (by omega) (by omega) (fun q => .inl ⟨rfl, fun j hj => by omega⟩)
      refine ⟨b, e2, ?_⟩
      rw [e3]
      simp [aloneP, h1, h2, h3, h4]
end
end Go.Proofs.YtpfdbeafdjnbnaaGreatDoor
