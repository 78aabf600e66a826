/-
  Walks and laws of this seat.
-/
import Derived.Test.YtklcdfnhdljkjaaL6d
namespace Go.Proofs.Ytklcdfnhdljkjaa
set_option linter.unusedVariables false
set_option linter.unusedSimpArgs false
open Go.RowKit Go.Sl
theorem zb1 {α : Type} (xs : List α) (m : Nat) : geti xs (m : Int) = xs[m]? := by simp [geti]
theorem zjg {α : Type} (xs : List α) {m : Nat} (h : m < xs.length) (x : α) : seti xs (m : Int) x = some (xs.set m x) := by simp [seti, h]
theorem zew {α : Type} {b : Nat} {xs ys : List α} (h : xs.length + ys.length ≤ 9223372036854775807 ∧ (xs.length + ys.length) * b ≤ 140737488355328) : appM b xs ys = some (xs ++ ys) := by
  simp [appM, roomB, h.1, h.2]
theorem repM_eq {α : Type} {b m : Nat} {x : α} (h : b * m ≤ 281474976710656 ∧ m ≤ 9223372036854775807) : repM b (m : Int) x = some (List.replicate m x) := by
  simp [repM, h.1, h.2]
theorem zi4 {i : Int} (h : -9223372036854775808 ≤ i ∧ i ≤ 9223372036854775807) : w64 i = i := wr_i64 h
theorem zb5 {m : Nat} (h : m ≤ 9223372036854775806) : w64 ((m : Int) + 1) = ((m + 1 : Nat) : Int) := by
  rw [zi4 (by omega)]; omega
theorem cutM_last {α : Type} (xs : List α) (x : α) (h : xs.length ≤ 9223372036854775806) : cutM (xs ++ [x]) (0 : Int) (w64 (((xs ++ [x]).length : Int) - 1)) = some xs := by
  rw [zi4 (by simp; omega)]
  have : (((xs ++ [x]).length : Int) - 1) = (xs.length : Int) := by simp
  rw [this]
  have h2 : (xs.length : Int) ≤ xs.length + 1 := by omega
  simp [cutM, h2]
theorem geti_last {α : Type} (xs : List α) (x : α) (h : xs.length ≤ 9223372036854775806) : geti (xs ++ [x]) (w64 (((xs ++ [x]).length : Int) - 1)) = some x := by
  rw [zi4 (by simp; omega)]
  have : (((xs ++ [x]).length : Int) - 1) = (xs.length : Int) := by simp
  rw [this, zb1]
  simp
def zn : zac := {Kind := 0, Name := bs [], Text := bs [], Attrs := [], Parent := 0, First := 0, Last := 0, Prev := 0, Next := 0}
section
variable (ns : List zac)
def nd (i : Nat) : zac := ns.getD i zn
abbrev par (i : Nat) : Int := (nd ns i).Parent
def lastc : Nat → Int → Int
  | 0, _ => -1
  | i + 1, p => if par ns (i + 1) = p then ((i + 1 : Nat) : Int) else lastc i p
def prevc (i : Nat) : Int := lastc ns (i - 1) (par ns i)
def pop (p : Int) (l : List Int) : List Int := l.dropWhile fun x => decide (x ≠ p)
def row : Nat → List Int
  | 0 => [0]
  | i + 1 => ((i + 1 : Nat) : Int) :: pop (par ns (i + 1)) (row i)
def okS (i : Nat) : Prop := pop (par ns (i + 1)) (row ns i) ≠ [] ∧ (nd ns (par ns (i + 1)).toNat).Kind = 1
theorem zkk {i : Nat} (h : i < ns.length) : ns[i]? = some (nd ns i) := by simp [nd, h]
theorem zrs : ∀ (i : Nat) (p : Int), lastc ns i p = -1 ∨ ∃ c : Nat, lastc ns i p = c ∧ 1 ≤ c ∧ c ≤ i ∧ par ns c = p
  | 0, _ => .inl rfl
  | i + 1, p => by
    unfold lastc
    split
    · rename_i h
      exact .inr ⟨i + 1, rfl, by omega, by omega, h⟩
    · rcases zrs i p with h | ⟨c, h1, h2, h3, h4⟩
      · exact .inl h
      · exact .inr ⟨c, h1, h2, by omega, h4⟩
end
end Go.Proofs.Ytklcdfnhdljkjaa
namespace Go.Proofs.Ytklcdfnhdljkjaa
set_option linter.unusedVariables false
set_option linter.unusedSimpArgs false
open Go.RowKit Go.Sl
section
variable (ns : List zac)
def stepP (j : Nat) : Prop := (nd ns j).Prev = prevc ns j ∧ ((nd ns j).Prev = -1 → (nd ns (par ns j).toNat).First = j) ∧ ((nd ns j).Prev ≠ -1 → (nd ns (nd ns j).Prev.toNat).Next = j)
def endP (m : Nat) : Prop := (nd ns m).Last = lastc ns (ns.length - 1) m ∧ (lastc ns (ns.length - 1) m = -1 → (nd ns m).First = -1) ∧ (lastc ns (ns.length - 1) m ≠ -1 → (nd ns (lastc ns (ns.length - 1) m).toNat).Next = -1)
def rowInv (i : Nat) : Prop := ∃ tl, row ns i = (i : Int) :: tl ∧ (∀ x ∈ tl, ∃ q : Nat, x = q ∧ q < i ∧ (nd ns q).Kind = 1) ∧ ∀ (p : Int) (l l' : List Int), row ns i = l' ++ p :: l → ∃ q : Nat, p = q ∧ q ≤ i ∧ p :: l = row ns q
theorem zls (p : Int) : ∀ l : List Int, pop p l = [] ∨ ∃ l' tl, l = l' ++ pop p l ∧ pop p l = p :: tl
  | [] => .inl rfl
  | x :: l => by
    unfold pop
    rw [List.dropWhile_cons]
    by_cases h : x = p
    · subst h
      right
      exact ⟨[], l, by simp, by simp⟩
    · rw [if_pos (by simpa using h)]
      rcases zls p l with h1 | ⟨l', tl, h1, h2⟩
      · exact .inl h1
      · refine .inr ⟨x :: l', tl, ?_, h2⟩
        rw [List.cons_append]
        congr 1
theorem rowInv_zero : rowInv ns 0 := ⟨[], rfl, by simp, fun p l l' h => by
  have h1 : row ns 0 = [0] := rfl
  rw [h1] at h
  cases l' with
  | nil => simp at h; exact ⟨0, by omega, by omega, by rw [h1, h.1, h.2]⟩
  | cons a l' => simp at h⟩
theorem rowInv_succ {i : Nat} (h : rowInv ns i) (_hk : i = 0 → (nd ns 0).Kind = 1) (ho : okS ns i) : rowInv ns (i + 1) := by
  obtain ⟨tl, h1, h2, h3⟩ := h
  obtain ⟨o1, o2⟩ := ho
  rcases zls (par ns (i + 1)) (row ns i) with h4 | ⟨l', tl', h4, h5⟩
  · exact absurd h4 o1
  · refine ⟨_, rfl, fun x hx => ?_, fun p l q hq => ?_⟩
    · rw [h5] at hx
      obtain ⟨z, hz, hz2, _⟩ := h3 (par ns (i + 1)) tl' l' (by rw [← h5]; exact h4)
      rcases List.mem_cons.1 hx with rfl | hx
      · refine ⟨z, hz, by omega, ?_⟩
        have := o2
        rw [hz] at this
        simpa using this
      · have : x ∈ tl := by
          have h6 : row ns i = l' ++ par ns (i + 1) :: tl' := by rw [← h5]; exact h4
          rw [h1] at h6
          cases l' with
          | nil => simp at h6; rw [h6.2]; exact hx
          | cons a l' => simp at h6; rw [h6.2]; simp [hx]
        obtain ⟨q, e1, e2, e3⟩ := h2 x this
        exact ⟨q, e1, by omega, e3⟩
    · cases q with
      | nil =>
        simp only [List.nil_append] at hq
        have hp : p = ((i + 1 : Nat) : Int) := by
          have : row ns (i + 1) = ((i + 1 : Nat) : Int) :: pop (par ns (i + 1)) (row ns i) := rfl
          rw [this] at hq
          exact (List.cons.inj hq).1.symm
        exact ⟨i + 1, hp, by omega, hq.symm⟩
      | cons a q =>
        have hr : row ns (i + 1) = ((i + 1 : Nat) : Int) :: pop (par ns (i + 1)) (row ns i) := rfl
        rw [hr, List.cons_append] at hq
        have h6 := (List.cons.inj hq).2
        obtain ⟨z, hz, hz2, hz3⟩ := h3 p l (l' ++ q) (by rw [h4, h6, List.append_assoc])
        exact ⟨z, hz, by omega, hz3⟩
def good : Nat → Prop
  | 0 => (nd ns 0).Kind = 1
  | i + 1 => good i ∧ okS ns i
theorem good.inv : ∀ {i : Nat}, good ns i → rowInv ns i
  | 0, _ => rowInv_zero ns
  | _ + 1, h => rowInv_succ ns (good.inv h.1) (fun e => by subst e; exact h.1) h.2
theorem good.le {i j : Nat} (h : good ns j) (hij : i ≤ j) : good ns i := by
  induction hij with
  | refl => exact h
  | step _ ih => exact ih h.1
theorem good.par {i : Nat} (h : good ns (i + 1)) : ∃ q : Nat, par ns (i + 1) = q ∧ q ≤ i ∧ (nd ns q).Kind = 1 ∧ row ns (i + 1) = ((i + 1 : Nat) : Int) :: row ns q := by
  obtain ⟨_, _, _, h3⟩ := good.inv ns h.1
  obtain ⟨o1, o2⟩ := h.2
  rcases zls (Proofs.Ytklcdfnhdljkjaa.par ns (i + 1)) (row ns i) with h4 | ⟨l', tl', h4, h5⟩
  · exact absurd h4 o1
  · obtain ⟨z, hz, hz2, hz3⟩ := h3 _ tl' l' (by rw [← h5]; exact h4)
    refine ⟨z, hz, hz2, ?_, ?_⟩
    · rw [hz] at o2; simpa using o2
    · rw [← hz3, ← h5]; rfl
end
end Go.Proofs.Ytklcdfnhdljkjaa
namespace Go.Proofs.Ytklcdfnhdljkjaa
set_option linter.unusedVariables false
set_option linter.unusedSimpArgs false
open Go.RowKit Go.Sl
theorem zpj {α : Type} (k q : ByteArray) (v : α) : ∀ m : List (ByteArray × α), mgetM (mputM m k v) q = if k = q then some v else mgetM m q
  | [] => by
    by_cases h : k = q <;> simp [mgetM, mputM, h]
  | p :: m => by
    have ih := zpj k q v m
    unfold mputM
    by_cases h1 : p.1 = k
    · rw [if_pos h1]
      by_cases h2 : k = q <;> simp [mgetM, h1, h2]
    · rw [if_neg h1]
      by_cases h2 : p.1 = q
      · have : ¬ k = q := fun e => h1 (h2.trans e.symm)
        simp [mgetM, h2, this]
      · simp only [mgetM, List.find?_cons, h2, decide_false] at ih ⊢
        exact ih
def attP (l : List za9) (i : Nat) : Prop := ∀ a, l[i]? = some a → a.Name ≠ bs [] ∧ ∀ j, j < i → ∀ b, l[j]? = some b → b.Name ≠ a.Name
theorem zr3 (x : zac) (hl : x.Attrs.length ≤ 64) : ∀ (k m : Nat) (M : List (ByteArray × Int)), x.Attrs.length < k + m → m ≤ x.Attrs.length →
    (∀ q, (mgetM M q).getD 0 = 0 ∧ (∀ j, j < m → ∀ b, x.Attrs[j]? = some b → b.Name ≠ q) ∨ (mgetM M q).getD 0 = 1 ∧ ∃ j, j < m ∧ ∃ b, x.Attrs[j]? = some b ∧ b.Name = q) →
    ∃ b, zfw x k M (m : Int) = some b ∧ (b = true ↔ ∀ i, m ≤ i → attP x.Attrs i)
  | 0, m, M, hk, hm, _ => by omega
  | k + 1, m, M, hk, hm, hM => by
    rw [zfw]
    by_cases h : m < x.Attrs.length
    · obtain ⟨a, ha⟩ : ∃ a, x.Attrs[m]? = some a := ⟨_, List.getElem?_eq_getElem h⟩
      have e1 : decide ((m : Int) < (x.Attrs.length : Int)) = true := by simpa using h
      rw [e1, cond_true, zb1, ha, Option.bind_some]
      by_cases hn : a.Name = bs []
      · refine ⟨false, by simp [hn, zh8], by simp; exact ⟨m, Nat.le_refl _, fun hh => (hh a ha).1 hn⟩⟩
      · rw [decide_eq_false hn, cond_false]
        rcases hM a.Name with ⟨h0, h1⟩ | ⟨h0, j, h1, b, h2, h3⟩
        · obtain ⟨b, e2, e3⟩ := zr3 x hl k (m + 1) (mputM M a.Name (w64 (((mgetM M a.Name).getD 0) + 1))) (by omega) (by omega) (fun q => by
            rw [zpj]
            by_cases hq : a.Name = q
            · right
              rw [if_pos hq]
              exact ⟨by simp [h0]; decide, m, by omega, a, ha, hq⟩
            · rw [if_neg hq]
              rcases hM q with ⟨g0, g1⟩ | ⟨g0, j, g1, b, g2, g3⟩
              · left
                refine ⟨g0, fun j hj b hb => ?_⟩
                rcases Nat.lt_or_ge j m with g2 | g2
                · exact g1 j g2 b hb
                · have : j = m := by omega
                  subst this
                  rw [ha] at hb; cases hb; exact hq
              · exact .inr ⟨g0, j, by omega, b, g2, g3⟩)
          refine ⟨b, ?_, ?_⟩
          · rw [show decide (0 < ((mgetM M a.Name).getD 0)) = false from by rw [h0]; rfl]
            unfold zh8
            rw [cond_false, zb5 (by omega)]
            exact e2
          · rw [e3]
            constructor
            · intro hh i hi
              rcases Nat.eq_or_lt_of_le hi with e | e
              · subst e
                intro a' ha'
                rw [ha] at ha'; cases ha'
                exact ⟨hn, h1⟩
              · exact hh i e
            · intro hh i hi
              exact hh i (by omega)
        · refine ⟨false, by rw [h0]; simp [zh8], by simp; exact ⟨m, Nat.le_refl _, fun hh => (hh a ha).2 j h1 b h2 h3⟩⟩
    · have e1 : decide ((m : Int) < (x.Attrs.length : Int)) = false := by simp; omega
      rw [e1, cond_false]
      refine ⟨true, rfl, by simp; intro i hi a ha; have := (List.getElem?_eq_some_iff.1 ha).1; omega⟩
def aloneP (x : zac) : Prop := (x.Kind = 2 ∧ x.Name = bs [] ∧ x.Text ≠ bs [] ∧ x.Attrs.length = 0 ∧ x.First = -1 ∧ x.Last = -1) ∨ (x.Kind = 1 ∧ x.Name ≠ bs [] ∧ x.Text = bs [] ∧ x.Attrs.length ≤ 64 ∧ ∀ i, attP x.Attrs i)
theorem zol (x : zac) {n : Nat} (hn : 66 ≤ n) : ∃ b, zly n x = some b ∧ (b = true ↔ aloneP x) := by
  unfold zly
  by_cases hk : x.Kind = 2
  · refine ⟨_, by rw [decide_eq_true hk, cond_true], ?_⟩
    simp only [aloneP, hk, Bool.and_eq_true, decide_eq_true_eq]
    simp
  · rw [decide_eq_false hk, cond_false]
    by_cases hb : x.Kind ≠ 1 ∨ x.Name = bs [] ∨ x.Text ≠ bs [] ∨ 64 < x.Attrs.length
    · refine ⟨false, ?_, ?_⟩
      · rw [show (decide (x.Kind ≠ 1) || (decide (x.Name = bs []) || (decide (x.Text ≠ bs []) || decide (64 < (x.Attrs.length : Int))))) = true from ?_, cond_true]
        simp only [Bool.or_eq_true, decide_eq_true_eq]
        rcases hb with h | h | h | h
        · exact .inl h
        · exact .inr (.inl h)
        · exact .inr (.inr (.inl h))
        · exact .inr (.inr (.inr (by omega)))
      · simp only [aloneP, hk, false_and, false_or, Bool.false_eq_true, false_iff]
        rintro ⟨h1, h2, h3, h4, _⟩
        rcases hb with h | h | h | h
        · exact h h1
        · exact h2 h
        · exact h h3
        · omega
    · have h1 : x.Kind = 1 := Decidable.byContradiction fun h => hb (.inl h)
      have h2 : x.Name ≠ bs [] := fun h => hb (.inr (.inl h))
      have h3 : x.Text = bs [] := Decidable.byContradiction fun h => hb (.inr (.inr (.inl h)))
      have h4 : x.Attrs.length ≤ 64 := Nat.le_of_not_lt fun h => hb (.inr (.inr (.inr h)))
      have e1 : (decide (x.Kind ≠ 1) || (decide (x.Name = bs []) || (decide (x.Text ≠ bs []) || decide (64 < (x.Attrs.length : Int))))) = false := by
        simp [h1, h2, h3]; omega
      rw [e1, cond_false]
      obtain ⟨b, e2, e3⟩ := zr3 x h4 n 0 [] (by omega) (by omega) (fun q => .inl ⟨rfl, fun j hj => by omega⟩)
      refine ⟨b, e2, ?_⟩
      rw [e3]
      simp [aloneP, h1, h2, h3, h4]
end Go.Proofs.Ytklcdfnhdljkjaa
namespace Go.Proofs.Ytklcdfnhdljkjaa
set_option linter.unusedVariables false
set_option linter.unusedSimpArgs false
open Go.RowKit Go.Sl
section
variable (ns : List zac)
def opn (i : Nat) : List Int := if (nd ns i).Kind = 1 then row ns i else (row ns i).tail
theorem zpe (p : Int) : ∀ l : List Int, p ∉ l → pop p l = []
  | [], _ => rfl
  | x :: l, h => by
    simp only [List.mem_cons, not_or] at h
    unfold pop
    rw [List.dropWhile_cons, if_pos (by simpa using fun e => h.1 e.symm)]
    exact zpe p l h.2
theorem zju {p x : Int} (l : List Int) (h : x ≠ p) : pop p (x :: l) = pop p l := by
  unfold pop
  rw [List.dropWhile_cons, if_pos (by simpa using h)]
theorem zpf (p : Int) (l : List Int) : pop p (p :: l) = p :: l := by
  unfold pop
  rw [List.dropWhile_cons, if_neg (by simp)]
theorem opn_pop {i : Nat} (h : good ns i) : (okS ns i ∧ pop (par ns (i + 1)) (opn ns i) = pop (par ns (i + 1)) (row ns i)) ∨ (¬ okS ns i ∧ pop (par ns (i + 1)) (opn ns i) = []) := by
  obtain ⟨tl, h1, h2, _⟩ := good.inv ns h
  unfold opn
  by_cases hk : (nd ns i).Kind = 1
  · rw [if_pos hk]
    by_cases h0 : pop (par ns (i + 1)) (row ns i) = []
    · exact .inr ⟨fun ho => ho.1 h0, h0⟩
    · refine .inl ⟨⟨h0, ?_⟩, rfl⟩
      rcases zls (par ns (i + 1)) (row ns i) with h4 | ⟨l', tl', h4, h5⟩
      · exact absurd h4 h0
      · have hm : par ns (i + 1) ∈ row ns i := by rw [h4, h5]; simp
        rw [h1] at hm
        rcases List.mem_cons.1 hm with e | e
        · rw [e]; simpa using hk
        · obtain ⟨q, e1, _, e3⟩ := h2 _ e
          rw [e1]; simpa using e3
  · rw [if_neg hk, h1, List.tail_cons]
    by_cases hp : par ns (i + 1) = i
    · right
      refine ⟨fun ho => hk ?_, zpe _ _ fun hm => ?_⟩
      · have := ho.2
        rw [hp] at this
        simpa using this
      · obtain ⟨q, e1, e2, _⟩ := h2 _ hm
        omega
    · rw [zju _ (fun e => hp e.symm)]
      by_cases h0 : pop (par ns (i + 1)) tl = []
      · refine .inr ⟨fun ho => ho.1 ?_, h0⟩
        rw [h1, zju _ (fun e => hp e.symm)]; exact h0
      · refine .inl ⟨⟨?_, ?_⟩, rfl⟩
        · rw [h1, zju _ (fun e => hp e.symm)]; exact h0
        · rcases zls (par ns (i + 1)) tl with h4 | ⟨l', tl', h4, h5⟩
          · exact absurd h4 h0
          · have hm : par ns (i + 1) ∈ tl := by rw [h4, h5]; simp
            obtain ⟨q, e1, _, e3⟩ := h2 _ hm
            rw [e1]; simpa using e3
theorem zma (i : Nat) (p : Int) : lastc ns (i + 1) p = if par ns (i + 1) = p then ((i + 1 : Nat) : Int) else lastc ns i p := rfl
theorem opn_succ {i : Nat} : opn ns (i + 1) = if (nd ns (i + 1)).Kind = 1 then ((i + 1 : Nat) : Int) :: pop (par ns (i + 1)) (row ns i) else pop (par ns (i + 1)) (row ns i) := rfl
theorem zm6 : ∀ i, (row ns i).length ≤ i + 1
  | 0 => Nat.le_refl _
  | i + 1 => by
    have := zm6 i
    have h2 : (pop (par ns (i + 1)) (row ns i)).length ≤ (row ns i).length := (List.dropWhile_sublist _).length_le
    simp only [row, List.length_cons]
    omega
theorem zqp (i : Nat) : (opn ns i).length ≤ i + 1 := by
  have := zm6 ns i
  unfold opn
  split
  · exact this
  · simp; omega
theorem good.lastc_none : ∀ {i : Nat}, good ns i → ∀ j, i ≤ j → lastc ns i (j : Int) = -1
  | 0, _, _, _ => rfl
  | i + 1, h, j, hj => by
    obtain ⟨q, h1, h2, _⟩ := good.par ns h
    unfold lastc
    rw [if_neg (by omega)]
    exact good.lastc_none h.1 j (by omega)
end
section
variable (ns : List zac)
theorem zqr (m : Int) (lp : List Int → List Int → Int → Option Bool) (x : zac) (ls : List Int) : ∀ (k : Nat) (L : List Int), L.length < k → L.length ≤ 4097 →
    zdi ⟨ns⟩ m lp x ls k L.reverse = zin ⟨ns⟩ m lp x ls (pop x.Parent L).reverse
  | 0, L, h, _ => by omega
  | k + 1, [], h, _ => by
    rw [zdi]
    rfl
  | k + 1, a :: l, h, hl => by
    simp only [List.length_cons] at h hl
    rw [zdi, List.reverse_cons]
    rw [show decide ((0 : Int) < ((l.reverse ++ [a]).length : Int)) = true from by simp, cond_true, geti_last _ _ (by simp; omega), Option.bind_some]
    unfold zhw
    by_cases ha : a = x.Parent
    · rw [show decide (a ≠ x.Parent) = false from by simp [ha], cond_false]
      subst ha
      rw [zpf, List.reverse_cons]
    · rw [show decide (a ≠ x.Parent) = true from by simp [ha], cond_true, cutM_last _ _ (by simp; omega), Option.bind_some, zqr m lp x ls k l (by omega) (by omega), zju _ ha]
theorem par_lt {i j : Nat} (h : good ns i) (h1 : 1 ≤ j) (h2 : j ≤ i) : ∃ q : Nat, par ns j = q ∧ q < j ∧ (nd ns q).Kind = 1 := by
  obtain ⟨c, rfl⟩ : ∃ c, j = c + 1 := ⟨j - 1, by omega⟩
  obtain ⟨q, e1, e2, e3, _⟩ := good.par ns (good.le ns h h2)
  exact ⟨q, e1, by omega, e3⟩
variable (hN : ns.length ≤ 4096)
include hN
theorem zqs (ls : List Int) (hls : ∀ j, j < ns.length → ls[j]? = some (lastc ns (ns.length - 1) j)) (hr : ∀ j, j < ns.length → lastc ns (ns.length - 1) j ≠ -1 → (lastc ns (ns.length - 1) j).toNat < ns.length ∧ 0 ≤ lastc ns (ns.length - 1) j) :
    ∀ (k m : Nat), ns.length < k + m → m ≤ ns.length → ∃ b, zc8 ⟨ns⟩ ls k (m : Int) = some b ∧ (b = true ↔ ∀ j, m ≤ j → j < ns.length → endP ns j)
  | 0, m, hk, hm => by omega
  | k + 1, m, hk, hm => by
    rw [zc8]
    by_cases h : m < ns.length
    · have hm2 := hls m h
      rw [show decide ((m : Int) < (ns.length : Int)) = true from by simpa using h, cond_true]
      simp only [zb1, zkk ns h, hm2, Option.bind_some]
      obtain ⟨b, e1, e2⟩ := zqs ls hls hr k (m + 1) (by omega) (by omega)
      have bad : ¬ endP ns m → ∃ b, zdt (m : Int) (zc8 ⟨ns⟩ ls k) true = some b ∧ (b = true ↔ ∀ j, m ≤ j → j < ns.length → endP ns j) := fun hb =>
        ⟨false, rfl, by simp only [Bool.false_eq_true, false_iff]; exact fun hh => hb (hh m (Nat.le_refl _) h)⟩
      have fine : endP ns m → ∃ b, zdt (m : Int) (zc8 ⟨ns⟩ ls k) false = some b ∧ (b = true ↔ ∀ j, m ≤ j → j < ns.length → endP ns j) := fun hb => by
        refine ⟨b, ?_, ?_⟩
        · unfold zdt
          rw [cond_false, zb5 (by omega)]; exact e1
        · rw [e2]
          constructor
          · intro hh j hj hj2
            rcases Nat.eq_or_lt_of_le hj with e | e
            · subst e; exact hb
            · exact hh j e hj2
          · intro hh j hj hj2
            exact hh j (by omega) hj2
      by_cases h1 : (nd ns m).Last = lastc ns (ns.length - 1) m
      · rw [show decide ((nd ns m).Last ≠ lastc ns (ns.length - 1) m) = false from decide_eq_false (not_not_intro h1), cond_false]
        by_cases h2 : lastc ns (ns.length - 1) m = -1
        · rw [decide_eq_true h2, cond_true]
          by_cases h3 : (nd ns m).First = -1
          · rw [show decide ((nd ns m).First ≠ -1) = false from decide_eq_false (not_not_intro h3), cond_false, show decide (lastc ns (ns.length - 1) m ≠ -1) = false from decide_eq_false (not_not_intro h2), cond_false]
            exact fine ⟨h1, fun _ => h3, fun hh => absurd h2 hh⟩
          · rw [show decide ((nd ns m).First ≠ -1) = true from decide_eq_true h3, cond_true]
            exact bad fun hh => h3 (hh.2.1 h2)
        · rw [decide_eq_false h2, cond_false, show decide (lastc ns (ns.length - 1) m ≠ -1) = true from decide_eq_true h2, cond_true]
          obtain ⟨h4, h5⟩ := hr m h h2
          have h6 : geti ns (lastc ns (ns.length - 1) m) = some (nd ns (lastc ns (ns.length - 1) m).toNat) := by
            have : lastc ns (ns.length - 1) m = ((lastc ns (ns.length - 1) m).toNat : Int) := by omega
            rw [this, zb1, Int.toNat_natCast, zkk ns h4]
          rw [h6, Option.bind_some]
          by_cases h7 : (nd ns (lastc ns (ns.length - 1) m).toNat).Next = -1
          · rw [show decide ((nd ns (lastc ns (ns.length - 1) m).toNat).Next ≠ -1) = false from decide_eq_false (not_not_intro h7)]
            exact fine ⟨h1, fun hh => absurd hh h2, fun _ => h7⟩
          · rw [show decide ((nd ns (lastc ns (ns.length - 1) m).toNat).Next ≠ -1) = true from decide_eq_true h7]
            exact bad fun hh => h7 (hh.2.2 h2)
      · rw [show decide ((nd ns m).Last ≠ lastc ns (ns.length - 1) m) = true from decide_eq_true h1, cond_true]
        exact bad fun hh => h1 hh.1
    · rw [show decide ((m : Int) < (ns.length : Int)) = false from by simp; omega, cond_false]
      exact ⟨true, rfl, by simp; intro j h1 h2; omega⟩
theorem zpm {n : Nat} (hn : 5000 ≤ n) : ∀ (k i : Nat) (ls : List Int), ns.length < k + (i + 1) → i + 1 ≤ ns.length → good ns i → ls.length = ns.length → (∀ j, j ≤ i → ls[j]? = some (lastc ns i j)) →
    ∃ b, zbf n ⟨ns⟩ k (opn ns i).reverse ls ((i + 1 : Nat) : Int) = some b ∧ (b = true ↔ (∀ j, i < j → j < ns.length → aloneP (nd ns j) ∧ okS ns (j - 1) ∧ stepP ns j) ∧ ∀ j, j < ns.length → endP ns j)
  | 0, i, ls, hk, hi, _, _, _ => by omega
  | k + 1, i, ls, hk, hi, hg, hll, hls => by
    rw [zbf]
    by_cases h : i + 1 < ns.length
    · rw [show decide (((i + 1 : Nat) : Int) < (ns.length : Int)) = true from by simp; omega, cond_true]
      have hx := zkk ns h
      have hlx : ∃ z, ls[i + 1]? = some z := ⟨_, List.getElem?_eq_getElem (by omega)⟩
      obtain ⟨z, hz⟩ := hlx
      simp only [zb1, hx, hz, Option.bind_some]
      rw [zjg ls (by omega), Option.bind_some]
      obtain ⟨b, e1, e2⟩ := zol (nd ns (i + 1)) (n := n) (by omega)
      rw [e1, Option.bind_some]
      have bad : ¬ (aloneP (nd ns (i + 1)) ∧ okS ns i ∧ stepP ns (i + 1)) → (false = true ↔ (∀ j, i < j → j < ns.length → aloneP (nd ns j) ∧ okS ns (j - 1) ∧ stepP ns j) ∧ ∀ j, j < ns.length → endP ns j) := fun hb => by
        simp only [Bool.false_eq_true, false_iff]
        rintro ⟨hh, _⟩
        exact hb (hh (i + 1) (by omega) h)
      cases b with
      | false =>
        refine ⟨false, rfl, bad fun hh => ?_⟩
        have := e2.2 hh.1
        cases this
      | true =>
        rw [show (!true) = false from rfl, cond_false, show decide (((i + 1 : Nat) : Int) = 0) = false from by simp; omega, cond_false]
        have hal := e2.1 rfl
        rw [zqr ns _ _ _ _ n (opn ns i) (by have := zqp ns i; omega) (by have := zqp ns i; omega)]
        rcases opn_pop ns hg with ⟨ho, hp⟩ | ⟨ho, hp⟩
        · rw [hp]
          have hg2 : good ns (i + 1) := ⟨hg, ho⟩
          obtain ⟨q, q1, q2, q3, q4⟩ := good.par ns hg2
          -- the pops' rest is not empty
          have hne : (pop (par ns (i + 1)) (row ns i)).reverse.length ≠ 0 := by
            have := ho.1
            rw [List.length_reverse]
            intro e
            exact this (List.eq_nil_of_length_eq_zero e)
          unfold zin
          rw [show decide (((pop (par ns (i + 1)) (row ns i)).reverse.length : Int) = 0) = false from by simp only [decide_eq_false_iff_not]; omega, cond_false]
          have hq1 : (nd ns (i + 1)).Parent = (q : Int) := q1
          have hlq : (ls.set (i + 1) (-1))[q]? = some (lastc ns i q) := by
            rw [List.getElem?_set_ne (by omega)]
            exact hls q q2
          rw [hq1, zb1, hlq, Option.bind_some]
          have hprev : prevc ns (i + 1) = lastc ns i q := by unfold prevc; rw [q1]; rfl
          -- what goes on, where all is as it should be
          have go : ((nd ns (i + 1)).Prev = prevc ns (i + 1) → stepP ns (i + 1) → ∃ b, zev ((i + 1 : Nat) : Int) (zbf n ⟨ns⟩ k) (nd ns (i + 1)) (ls.set (i + 1) (-1)) (pop (par ns (i + 1)) (row ns i)).reverse false = some b ∧ (b = true ↔ (∀ j, i < j → j < ns.length → aloneP (nd ns j) ∧ okS ns (j - 1) ∧ stepP ns j) ∧ ∀ j, j < ns.length → endP ns j)) := by
            intro _ hst
            obtain ⟨b, g1, g2⟩ := zpm hn k (i + 1) ((ls.set (i + 1) (-1)).set q ((i + 1 : Nat) : Int)) (by omega) (by omega) hg2 (by simp [hll]) (fun j hj => by
              by_cases hjq : q = j
              · subst hjq
                rw [List.getElem?_set_self (by simp; omega)]
                rw [show lastc ns (i + 1) (q : Int) = ((i + 1 : Nat) : Int) from by rw [zma, if_pos q1]]
              · rw [List.getElem?_set_ne hjq]
                rw [show lastc ns (i + 1) (j : Int) = lastc ns i j from by rw [zma, if_neg (by omega)]]
                by_cases hji : j = i + 1
                · subst hji
                  rw [List.getElem?_set_self (by omega), good.lastc_none ns hg _ (by omega)]
                · rw [List.getElem?_set_ne (by omega)]
                  exact hls j (by omega))
            refine ⟨b, ?_, ?_⟩
            · unfold zev
              rw [cond_false, hq1, zb1, hlq, Option.bind_some, zjg _ (by simp; omega), Option.bind_some]
              by_cases hkd : (nd ns (i + 1)).Kind = 1
              · rw [decide_eq_true hkd, cond_true, zew (by
                  have := zm6 ns i
                  have h2 : (pop (par ns (i + 1)) (row ns i)).length ≤ (row ns i).length := (List.dropWhile_sublist _).length_le
                  simp only [List.length_reverse, List.length_singleton]
                  omega), Option.bind_some]
                unfold zgt zgg
                rw [zb5 (by omega), ← List.reverse_cons]
                rw [← g1]
                congr 1
                rw [opn_succ, if_pos hkd]
              · rw [decide_eq_false hkd, cond_false]
                unfold zgt zgg
                rw [zb5 (by omega), ← g1]
                congr 1
                rw [opn_succ, if_neg hkd]
            · rw [g2]
              constructor
              · rintro ⟨hh, he⟩
                refine ⟨fun j hj hj2 => ?_, he⟩
                rcases Nat.eq_or_lt_of_le (show i + 1 ≤ j by omega) with e | e
                · subst e; exact ⟨hal, ho, hst⟩
                · exact hh j e hj2
              · rintro ⟨hh, he⟩
                exact ⟨fun j hj hj2 => hh j (by omega) hj2, he⟩
          have stop : ¬ stepP ns (i + 1) → ∃ b, some false = some b ∧ (b = true ↔ (∀ j, i < j → j < ns.length → aloneP (nd ns j) ∧ okS ns (j - 1) ∧ stepP ns j) ∧ ∀ j, j < ns.length → endP ns j) := fun hb => ⟨false, rfl, bad fun hh => hb hh.2.2⟩
          unfold zim
          by_cases h1 : (nd ns (i + 1)).Prev = lastc ns i q
          · rw [show decide ((nd ns (i + 1)).Prev ≠ lastc ns i q) = false from decide_eq_false (not_not_intro h1), cond_false]
            by_cases h2 : (nd ns (i + 1)).Prev = -1
            · rw [decide_eq_true h2, cond_true, hq1, zb1, zkk ns (by omega), Option.bind_some]
              by_cases h3 : (nd ns q).First = ((i + 1 : Nat) : Int)
              · rw [show decide ((nd ns q).First ≠ ((i + 1 : Nat) : Int)) = false from decide_eq_false (not_not_intro h3), cond_false, show decide ((nd ns (i + 1)).Prev ≠ -1) = false from decide_eq_false (not_not_intro h2), cond_false]
                exact go (by rw [h1, hprev]) ⟨by rw [h1, hprev], fun _ => by rw [q1]; simpa using h3, fun hh => absurd h2 hh⟩
              · rw [show decide ((nd ns q).First ≠ ((i + 1 : Nat) : Int)) = true from decide_eq_true h3, cond_true]
                exact stop fun hh => h3 (by have := hh.2.1 h2; rw [q1] at this; simpa using this)
            · rw [decide_eq_false h2, cond_false, show decide ((nd ns (i + 1)).Prev ≠ -1) = true from decide_eq_true h2, cond_true]
              rcases zrs ns i q with h4 | ⟨c, h4, c1, c2, _⟩
              · rw [h4] at h1; exact absurd h1 h2
              · rw [h1, h4, zb1, zkk ns (by omega), Option.bind_some]
                by_cases h3 : (nd ns c).Next = ((i + 1 : Nat) : Int)
                · rw [show decide ((nd ns c).Next ≠ ((i + 1 : Nat) : Int)) = false from decide_eq_false (not_not_intro h3)]
                  exact go (by rw [h1, hprev]) ⟨by rw [h1, hprev], fun hh => absurd hh h2, fun _ => by rw [h1, h4]; simpa using h3⟩
                · rw [show decide ((nd ns c).Next ≠ ((i + 1 : Nat) : Int)) = true from decide_eq_true h3]
                  exact stop fun hh => h3 (by have := hh.2.2 h2; rw [h1, h4] at this; simpa using this)
          · rw [show decide ((nd ns (i + 1)).Prev ≠ lastc ns i q) = true from decide_eq_true h1, cond_true]
            exact stop fun hh => h1 (by rw [hh.1, hprev])
        · rw [hp]
          exact ⟨false, rfl, bad fun hh => ho hh.2.1⟩
    · rw [show decide (((i + 1 : Nat) : Int) < (ns.length : Int)) = false from by simp; omega, cond_false]
      have hlen : ns.length - 1 = i := by omega
      obtain ⟨b, e1, e2⟩ := zqs ns hN ls (fun j hj => by rw [hlen]; exact hls j (by omega)) (fun j hj hl => by
        rcases zrs ns (ns.length - 1) j with h4 | ⟨c, h4, c1, c2, _⟩
        · exact absurd h4 hl
        · rw [h4]; simp; omega) n 0 (by omega) (by omega)
      refine ⟨b, e1, ?_⟩
      rw [e2]
      constructor
      · intro hh
        exact ⟨fun j h1 h2 => by omega, fun j hj => hh j (by omega) hj⟩
      · rintro ⟨_, hh⟩ j _ hj
        exact hh j hj
def linkedP : Prop := (nd ns 0).Kind = 1 ∧ (nd ns 0).Parent = -1 ∧ (nd ns 0).Prev = -1 ∧ (nd ns 0).Next = -1 ∧ aloneP (nd ns 0) ∧ (∀ j, 0 < j → j < ns.length → aloneP (nd ns j) ∧ okS ns (j - 1) ∧ stepP ns j) ∧ ∀ j, j < ns.length → endP ns j
theorem zru (h0 : 0 < ns.length) {n : Nat} (hn : 5000 ≤ n) : ∃ b, zko n ⟨ns⟩ = some b ∧ (b = true ↔ linkedP ns) := by
  unfold zko
  rw [show geti ns (0 : Int) = some (nd ns 0) from by rw [show (0 : Int) = ((0 : Nat) : Int) from rfl, zb1, zkk ns h0], Option.bind_some]
  by_cases hr : (nd ns 0).Kind = 1 ∧ (nd ns 0).Parent = -1 ∧ (nd ns 0).Prev = -1 ∧ (nd ns 0).Next = -1
  · obtain ⟨r1, r2, r3, r4⟩ := hr
    rw [show (decide ((nd ns 0).Kind ≠ 1) || (decide ((nd ns 0).Parent ≠ -1) || (decide ((nd ns 0).Prev ≠ -1) || decide ((nd ns 0).Next ≠ -1)))) = false from by simp [r1, r2, r3, r4], cond_false]
    rw [repM_eq (by show 8 * ns.length ≤ _ ∧ ns.length ≤ _; omega), Option.bind_some]
    obtain ⟨k, rfl⟩ : ∃ k, n = k + 1 := ⟨n - 1, by omega⟩
    rw [zbf]
    rw [show decide ((0 : Int) < (ns.length : Int)) = true from by simp; omega, cond_true]
    have e0 : (0 : Int) = ((0 : Nat) : Int) := rfl
    rw [show geti ns (0 : Int) = some (nd ns 0) from by rw [e0, zb1, zkk ns h0], Option.bind_some]
    rw [show geti (List.replicate ns.length (0 : Int)) (0 : Int) = some 0 from by rw [e0, zb1]; simp [h0], Option.bind_some]
    rw [show seti (List.replicate ns.length (0 : Int)) (0 : Int) (-1) = some ((List.replicate ns.length (0 : Int)).set 0 (-1)) from by rw [e0, zjg _ (by simpa using h0)], Option.bind_some]
    obtain ⟨b, e1, e2⟩ := zol (nd ns 0) (n := k + 1) (by omega)
    rw [e1, Option.bind_some]
    cases b with
    | false =>
      refine ⟨false, rfl, ?_⟩
      simp only [Bool.false_eq_true, false_iff]
      intro hh
      have := e2.2 hh.2.2.2.2.1
      cases this
    | true =>
      rw [show (!true) = false from rfl, cond_false, show decide ((0 : Int) = 0) = true from rfl, cond_true, zew (by simp), Option.bind_some]
      unfold zgg
      obtain ⟨b, g1, g2⟩ := zpm ns hN (n := k + 1) hn k 0 ((List.replicate ns.length (0 : Int)).set 0 (-1)) (by omega) (by omega) r1 (by simp) (fun j hj => by
        have : j = 0 := by omega
        subst this
        rw [List.getElem?_set_self (by simpa using h0)]; rfl)
      refine ⟨b, ?_, ?_⟩
      · rw [← g1]
        have : (opn ns 0).reverse = [] ++ [0] := by unfold opn; rw [if_pos r1]; rfl
        rw [this]; rfl
      · rw [g2]
        unfold linkedP
        constructor
        · rintro ⟨h1, h2⟩
          exact ⟨r1, r2, r3, r4, e2.1 rfl, h1, h2⟩
        · rintro ⟨_, _, _, _, _, h1, h2⟩
          exact ⟨h1, h2⟩
  · refine ⟨false, ?_, ?_⟩
    · rw [show (decide ((nd ns 0).Kind ≠ 1) || (decide ((nd ns 0).Parent ≠ -1) || (decide ((nd ns 0).Prev ≠ -1) || decide ((nd ns 0).Next ≠ -1)))) = true from ?_, cond_true]
      simp only [Bool.or_eq_true, decide_eq_true_eq]
      by_cases r1 : (nd ns 0).Kind = 1
      · by_cases r2 : (nd ns 0).Parent = -1
        · by_cases r3 : (nd ns 0).Prev = -1
          · exact .inr (.inr (.inr fun r4 => hr ⟨r1, r2, r3, r4⟩))
          · exact .inr (.inr (.inl r3))
        · exact .inr (.inl r2)
      · exact .inl r1
    · simp only [Bool.false_eq_true, false_iff]
      intro hh
      exact hr ⟨hh.1, hh.2.1, hh.2.2.1, hh.2.2.2.1⟩
end
end Go.Proofs.Ytklcdfnhdljkjaa
namespace Go.Proofs.Ytklcdfnhdljkjaa
set_option linter.unusedVariables false
set_option linter.unusedSimpArgs false
open Go.RowKit Go.Sl
section
variable (ns : List zac)
def deepP : Prop := ∃ j, j < ns.length ∧ 256 < (row ns j).length
theorem zqy (hN : ns.length ≤ 4096) (hg : good ns (ns.length - 1)) : ∀ (k m : Nat) (ds : List Int), ns.length < k + m → m ≤ ns.length → ds.length = ns.length → (∀ j, j < m → ds[j]? = some ((row ns j).length : Int)) →
    (ze1 ⟨ns⟩ k ds (m : Int) = some 5 ∧ ∃ j, m ≤ j ∧ j < ns.length ∧ 256 < (row ns j).length) ∨ (ze1 ⟨ns⟩ k ds (m : Int) = some 0 ∧ ∀ j, m ≤ j → j < ns.length → (row ns j).length ≤ 256)
  | 0, m, ds, hk, hm, _, _ => by omega
  | k + 1, m, ds, hk, hm, hl, hd => by
    rw [ze1]
    by_cases h : m < ns.length
    · rw [show decide ((m : Int) < (ns.length : Int)) = true from by simpa using h, cond_true]
      obtain ⟨z, hz⟩ : ∃ z, ds[m]? = some z := ⟨_, List.getElem?_eq_getElem (by omega)⟩
      simp only [zb1, zkk ns h, hz, Option.bind_some]
      rw [zjg ds (by omega), Option.bind_some]
      have go : ∀ ds' : List Int, ds'.length = ns.length → (∀ j, j < m + 1 → ds'[j]? = some ((row ns j).length : Int)) →
          (zh9 (m : Int) (ze1 ⟨ns⟩ k) ds' = some 5 ∧ ∃ j, m ≤ j ∧ j < ns.length ∧ 256 < (row ns j).length) ∨ (zh9 (m : Int) (ze1 ⟨ns⟩ k) ds' = some 0 ∧ ∀ j, m ≤ j → j < ns.length → (row ns j).length ≤ 256) := fun ds' hl' hd' => by
        unfold zh9
        rw [zb1, hd' m (by omega), Option.bind_some]
        by_cases h2 : 256 < (row ns m).length
        · left
          exact ⟨by rw [show decide ((256 : Int) < ((row ns m).length : Int)) = true from by simp; omega, cond_true], m, Nat.le_refl _, h, h2⟩
        · rw [show decide ((256 : Int) < ((row ns m).length : Int)) = false from by simp; omega, cond_false, zb5 (by omega)]
          rcases zqy hN hg k (m + 1) ds' (by omega) (by omega) hl' hd' with ⟨e1, j, e2, e3, e4⟩ | ⟨e1, e2⟩
          · exact .inl ⟨e1, j, by omega, e3, e4⟩
          · refine .inr ⟨e1, fun j hj hj2 => ?_⟩
            rcases Nat.eq_or_lt_of_le hj with e | e
            · subst e; omega
            · exact e2 j e hj2
      by_cases h0 : m = 0
      · subst h0
        rw [show decide ((0 : Int) < ((0 : Nat) : Int)) = false from rfl, cond_false]
        refine go _ (by simpa using hl) fun j hj => ?_
        have : j = 0 := by omega
        subst this
        rw [List.getElem?_set_self (by omega)]; rfl
      · rw [show decide ((0 : Int) < (m : Int)) = true from by simp; omega, cond_true]
        obtain ⟨c, rfl⟩ : ∃ c, m = c + 1 := ⟨m - 1, by omega⟩
        obtain ⟨q, q1, q2, q3, q4⟩ := good.par ns (good.le ns hg (show c + 1 ≤ ns.length - 1 by omega))
        have hq1 : (nd ns (c + 1)).Parent = (q : Int) := q1
        rw [hq1, zb1, List.getElem?_set_ne (by omega), hd q (by omega), Option.bind_some, List.getElem?_set_self (by omega), Option.bind_some]
        rw [zjg _ (by simp; omega), Option.bind_some]
        have hrl := zm6 ns q
        refine go _ (by simpa using hl) fun j hj => ?_
        by_cases hj2 : j = c + 1
        · subst hj2
          rw [List.getElem?_set_self (by simp; omega), q4, List.length_cons, zb5 (by omega)]
        · rw [List.getElem?_set_ne (by omega), List.getElem?_set_ne (by omega)]
          exact hd j (by omega)
    · right
      rw [show decide ((m : Int) < (ns.length : Int)) = false from by simp; omega, cond_false]
      exact ⟨rfl, fun j h1 h2 => by omega⟩
theorem linkedP.good (h : linkedP ns) : ∀ i, i < ns.length → good ns i
  | 0, _ => h.1
  | i + 1, hi => ⟨linkedP.good h i (by omega), (h.2.2.2.2.2.1 (i + 1) (by omega) hi).2.1⟩
def rightR (r : Int) : Prop := (ns.length = 0 ∧ r = 10) ∨ (4096 < ns.length ∧ r = 4) ∨ (0 < ns.length ∧ ns.length ≤ 4096 ∧ ((¬ linkedP ns ∧ r = 10) ∨ (linkedP ns ∧ deepP ns ∧ r = 5) ∨ (linkedP ns ∧ ¬ deepP ns ∧ r = 0)))
theorem dom_Right_eq {n : Nat} (hn : 5000 ≤ n) : ∃ r, zjy n ⟨ns⟩ = some r ∧ rightR ns r := by
  unfold zjy
  by_cases h0 : ns.length = 0
  · exact ⟨10, by rw [show decide (((⟨ns⟩ : zae).Nodes.length : Int) = 0) = true from by simpa using h0]; rfl, .inl ⟨h0, rfl⟩⟩
  · rw [show decide (((⟨ns⟩ : zae).Nodes.length : Int) = 0) = false from by simpa using h0, cond_false]
    by_cases h1 : 4096 < ns.length
    · exact ⟨4, by rw [show decide ((4096 : Int) < ((⟨ns⟩ : zae).Nodes.length : Int)) = true from by simp; omega]; rfl, .inr (.inl ⟨h1, rfl⟩)⟩
    · rw [show decide ((4096 : Int) < ((⟨ns⟩ : zae).Nodes.length : Int)) = false from by simp; omega, cond_false]
      obtain ⟨b, e1, e2⟩ := zru ns (by omega) (by omega) hn
      rw [e1, Option.bind_some]
      cases b with
      | false => exact ⟨10, rfl, .inr (.inr ⟨by omega, by omega, .inl ⟨fun hh => by simpa using e2.2 hh, rfl⟩⟩)⟩
      | true =>
        have hl := e2.1 rfl
        rw [show (!true) = false from rfl, cond_false, repM_eq (by show 8 * ns.length ≤ _ ∧ ns.length ≤ _; omega), Option.bind_some]
        rcases zqy ns (by omega) (linkedP.good ns hl _ (by omega)) n 0 (List.replicate ns.length 0) (by omega) (by omega) (by simp) (fun j hj => by omega) with ⟨g1, j, _, g3, g4⟩ | ⟨g1, g2⟩
        · exact ⟨5, g1, .inr (.inr ⟨by omega, by omega, .inr (.inl ⟨hl, ⟨j, g3, g4⟩, rfl⟩)⟩)⟩
        · exact ⟨0, g1, .inr (.inr ⟨by omega, by omega, .inr (.inr ⟨hl, fun ⟨j, h2, h3⟩ => by have := g2 j (by omega) h2; omega, rfl⟩)⟩)⟩
end
end Go.Proofs.Ytklcdfnhdljkjaa
namespace Go.Proofs.Ytklcdfnhdljkjaa
set_option linter.unusedVariables false
set_option linter.unusedSimpArgs false
open Go.RowKit Go.Sl
mutual
def psize : zad → Nat
  | ⟨_, _, _, ks⟩ => 1 + pssize ks
def pssize : List zad → Nat
  | [] => 0
  | k :: ks => psize k + pssize ks
end
theorem zoy (p : zad) : psize p = 1 + pssize p.Kids := by cases p; simp [psize]
theorem zqn : ∀ {ks : List zad} {k : zad}, k ∈ ks → psize k ≤ pssize ks
  | a :: ks, k, h => by
    rcases List.mem_cons.1 h with rfl | h
    · simp [pssize]
    · have := zqn h; simp only [pssize]; omega
theorem zkz : ∀ (xs ys : List zad), pssize (xs ++ ys) = pssize xs + pssize ys
  | [], ys => by simp [pssize]
  | x :: xs, ys => by simp only [List.cons_append, pssize, zkz xs ys]; omega
theorem zoq (ks : List zad) {i : Nat} {k : zad} (h : ks[i]? = some k) : pssize (ks.take (i + 1)) = pssize (ks.take i) + psize k := by
  rw [List.take_add_one, h, zkz]
  simp [pssize]
theorem zqo : ∀ ks : List zad, ks.length ≤ pssize ks
  | [] => by simp
  | k :: ks => by
    have := zqo ks
    have := zoy k
    simp only [List.length_cons, pssize]; omega
theorem zmp (ks : List zad) (i : Nat) : pssize (ks.take i) ≤ pssize ks := by
  have h := zkz (ks.take i) (ks.drop i)
  rw [List.take_append_drop] at h
  omega
end Go.Proofs.Ytklcdfnhdljkjaa
namespace Go.Proofs.Ytklcdfnhdljkjaa
set_option linter.unusedVariables false
set_option linter.unusedSimpArgs false
open Go.RowKit Go.Sl
end Go.Proofs.Ytklcdfnhdljkjaa
namespace Go.Proofs.Ytklcdfnhdljkjaa
set_option linter.unusedVariables false
set_option linter.unusedSimpArgs false
open Go.RowKit Go.Sl
mutual
def nsz : zad → Nat
  | ⟨nm, _, _, ks⟩ => if nm = bs [] then 1 else 1 + nszs ks
def nszs : List zad → Nat
  | [] => 0
  | k :: ks => nsz k + nszs ks
end
def lastOf : List zad → Nat → Int → Int
  | [], _, pr => pr
  | k :: ks, b, _ => lastOf ks (b + nsz k) (b : Int)
def tnode (tx : ByteArray) (pa pr nx : Int) : zac := {Kind := 2, Name := bs [], Text := tx, Attrs := [], Parent := pa, First := -1, Last := -1, Prev := pr, Next := nx}
def enode (nm : ByteArray) (at_ : List za9) (pa fi la pr nx : Int) : zac := {Kind := 1, Name := nm, Text := bs [], Attrs := at_, Parent := pa, First := fi, Last := la, Prev := pr, Next := nx}
mutual
def lay : zad → Nat → Int → Int → Int → List zac
  | ⟨nm, tx, at_, ks⟩, b, pa, pr, nx => if nm = bs [] then [tnode tx pa pr nx] else enode nm at_ pa (if ks.length = 0 then -1 else ((b + 1 : Nat) : Int)) (lastOf ks (b + 1) (-1)) pr nx :: lays ks (b + 1) (b : Int) (-1) (-1)
def lays : List zad → Nat → Int → Int → Int → List zac
  | [], _, _, _, _ => []
  | k :: ks, b, pa, pr, nx => lay k b pa pr (if ks.length = 0 then nx else ((b + nsz k : Nat) : Int)) ++ lays ks (b + nsz k) pa (b : Int) nx
end
theorem zm8 {p : zad} (h : p.Name = bs []) (b : Nat) (pa pr nx : Int) : lay p b pa pr nx = [tnode p.Text pa pr nx] := by cases p; simp only at h; simp [lay, h]
theorem zl4 {p : zad} (h : p.Name ≠ bs []) (b : Nat) (pa pr nx : Int) : lay p b pa pr nx = enode p.Name p.Attrs pa (if p.Kids.length = 0 then -1 else ((b + 1 : Nat) : Int)) (lastOf p.Kids (b + 1) (-1)) pr nx :: lays p.Kids (b + 1) (b : Int) (-1) (-1) := by
  cases p; simp only at h; simp only [lay, if_neg h]
theorem nsz_text {p : zad} (h : p.Name = bs []) : nsz p = 1 := by cases p; simp only at h; simp [nsz, h]
theorem nsz_elem {p : zad} (h : p.Name ≠ bs []) : nsz p = 1 + nszs p.Kids := by cases p; simp only at h; simp only [nsz, if_neg h]
mutual
theorem zl3 : ∀ (p : zad) (b : Nat) (pa pr nx : Int), (lay p b pa pr nx).length = nsz p
  | ⟨nm, tx, at_, ks⟩, b, pa, pr, nx => by
    unfold lay nsz
    split
    · rfl
    · rw [List.length_cons, znh ks]; omega
theorem znh : ∀ (ks : List zad) (b : Nat) (pa pr nx : Int), (lays ks b pa pr nx).length = nszs ks
  | [], _, _, _, _ => rfl
  | k :: ks, b, pa, pr, nx => by
    unfold lays nszs
    rw [List.length_append, zl3 k, znh ks]
end
theorem zo0 (p : zad) : 1 ≤ nsz p := by
  by_cases h : p.Name = bs []
  · rw [nsz_text h]; omega
  · rw [nsz_elem h]; omega
mutual
theorem zoj : ∀ p : zad, nsz p ≤ psize p
  | ⟨nm, tx, at_, ks⟩ => by
    unfold nsz psize
    have := zrp ks
    split <;> omega
theorem zrp : ∀ ks : List zad, nszs ks ≤ pssize ks
  | [] => Nat.le_refl _
  | k :: ks => by
    unfold nszs pssize
    have := zoj k
    have := zrp ks
    omega
end
theorem zpi : ∀ (xs ys : List zad), nszs (xs ++ ys) = nszs xs + nszs ys
  | [], ys => by simp [nszs]
  | x :: xs, ys => by simp only [List.cons_append, nszs, zpi xs ys]; omega
theorem zl6 : ∀ (xs : List zad) (k : zad) (b : Nat) (pr : Int), lastOf (xs ++ [k]) b pr = ((b + nszs xs : Nat) : Int)
  | [], k, b, pr => by simp [lastOf, nszs]
  | x :: xs, k, b, pr => by
    simp only [List.cons_append, lastOf, nszs, zl6 xs k]
    congr 1
    omega
theorem zkm : ∀ (xs : List zad) (k : zad) (b : Nat) (pa pr nx : Int), lays (xs ++ [k]) b pa pr nx = lays xs b pa pr ((b + nszs xs : Nat) : Int) ++ lay k (b + nszs xs) pa (lastOf xs b pr) nx
  | [], k, b, pa, pr, nx => by simp [lays, lastOf, nszs]
  | x :: xs, k, b, pa, pr, nx => by
    simp only [List.cons_append, lays, lastOf, nszs, zkm xs k, List.append_assoc]
    have e1 : ¬ (xs ++ [k]).length = 0 := by simp
    rw [if_neg e1]
    have e2 : b + nsz x + nszs xs = b + (nsz x + nszs xs) := by omega
    rw [e2]
    congr 2
    by_cases h : xs.length = 0
    · have : xs = [] := List.eq_nil_of_length_eq_zero h
      subst this
      simp [nszs]
    · rw [if_neg h]
theorem lay_head (p : zad) (b : Nat) (pa pr nx : Int) : ∃ x, (lay p b pa pr nx)[0]? = some x ∧ ∀ nx', (lay p b pa pr nx).set 0 { x with Next := nx' } = lay p b pa pr nx' := by
  by_cases h : p.Name = bs []
  · exact ⟨tnode p.Text pa pr nx, by rw [zm8 h]; rfl, fun nx' => by rw [zm8 h, zm8 h]; rfl⟩
  · exact ⟨_, by rw [zl4 h]; rfl, fun nx' => by rw [zl4 h, zl4 h]; rfl⟩
theorem lays_next (xs : List zad) (k : zad) (b : Nat) (pa pr nx : Int) : ∃ x, (lays (xs ++ [k]) b pa pr nx)[nszs xs]? = some x ∧ ∀ nx', (lays (xs ++ [k]) b pa pr nx).set (nszs xs) { x with Next := nx' } = lays (xs ++ [k]) b pa pr nx' := by
  obtain ⟨x, h1, h2⟩ := lay_head k (b + nszs xs) pa (lastOf xs b pr) nx
  have hl := znh xs b pa pr ((b + nszs xs : Nat) : Int)
  refine ⟨x, ?_, fun nx' => ?_⟩
  · rw [zkm, List.getElem?_append_right (by omega), hl, Nat.sub_self]; exact h1
  · rw [zkm, zkm, List.set_append_right _ _ (by omega), hl, Nat.sub_self, h2]
mutual
def okP : zad → Prop
  | ⟨_, _, at_, ks⟩ => at_.length * 32 ≤ reachBytes ∧ okPs ks
def okPs : List zad → Prop
  | [] => True
  | k :: ks => okP k ∧ okPs ks
end
theorem okPs_mem : ∀ {ks : List zad} {k : zad}, okPs ks → k ∈ ks → okP k
  | a :: ks, k, h, hk => by
    simp only [okPs] at h
    rcases List.mem_cons.1 hk with rfl | hk
    · exact h.1
    · exact okPs_mem h.2 hk
theorem okPs_of : ∀ {ks : List zad}, (∀ k ∈ ks, okP k) → okPs ks
  | [], _ => trivial
  | k :: ks, h => by
    simp only [okPs]
    exact ⟨h k (by simp), okPs_of fun q hq => h q (by simp [hq])⟩
theorem okP_eq (p : zad) : okP p ↔ p.Attrs.length * 32 ≤ reachBytes ∧ okPs p.Kids := by cases p; simp [okP]
theorem okP_at {p : zad} (h : okP p) : p.Attrs.length * 32 ≤ reachBytes ∧ ∀ k ∈ p.Kids, okP k := by
  rw [okP_eq] at h
  exact ⟨h.1, fun k hk => okPs_mem h.2 hk⟩
theorem make_lay : ∀ (s : Nat) (p : zad) (n : Nat) (nodes : List zac) (pa pr : Int), psize p ≤ s → s + 10 ≤ n → okP p → nodes.length + psize p ≤ 4096 →
    zhl n p pa pr ⟨nodes⟩ = some ((nodes.length : Int), ⟨nodes ++ lay p nodes.length pa pr (-1)⟩) := by
  intro s
  induction s with
  | zero => intro p n nodes pa pr h; have := zoy p; omega
  | succ s ih =>
    intro p n nodes pa pr h hn hS hsz
    obtain ⟨n, rfl⟩ : ∃ k, n = k + 1 := ⟨n - 1, by omega⟩
    obtain ⟨hat, hkids⟩ := okP_at hS
    have hp := zoy p
    have hlen := zqo p.Kids
    have hre : reachBytes = 140737488351232 := rfl
    rw [zhl]
    unfold zk5 zi6
    have eA : appM 32 ([] : List za9) p.Attrs = some p.Attrs := by
      rw [zew (by simp only [List.length_nil, Nat.zero_add]; omega), List.nil_append]
    rw [eA, Option.bind_some]
    unfold zjn
    by_cases hname : p.Name = bs []
    · rw [decide_eq_true hname, cond_true]
      unfold zhk
      rw [zew (by simp only [List.length_singleton]; omega), Option.bind_some, decide_eq_true hname, Bool.or_true, cond_true, zm8 hname, hname]
      rfl
    · rw [decide_eq_false hname, cond_false]
      unfold zhk
      rw [zew (by simp only [List.length_singleton]; omega), Option.bind_some, decide_eq_false hname, Bool.or_false]
      rw [show decide ((4096 : Int) < (((nodes ++ [({Kind := 1, Name := p.Name, Text := bs [], Attrs := p.Attrs, Parent := pa, First := -1, Last := -1, Prev := pr, Next := -1} : zac)]).length : Nat) : Int)) = false from by simp; omega, cond_false]
      have loop : ∀ (k i : Nat), p.Kids.length < k + i → i ≤ p.Kids.length →
          zef p ⟨nodes⟩ (zhl n) k (nodes ++ enode p.Name p.Attrs pa (if i = 0 then -1 else ((nodes.length + 1 : Nat) : Int)) (-1) pr (-1) :: lays (p.Kids.take i) (nodes.length + 1) (nodes.length : Int) (-1) (-1)) (lastOf (p.Kids.take i) (nodes.length + 1) (-1)) (i : Int) = some ((nodes.length : Int), ⟨nodes ++ lay p nodes.length pa pr (-1)⟩) := by
        intro k
        induction k with
        | zero => intro i h1 h2; omega
        | succ k ihk =>
          intro i h1 h2
          rw [zef]
          have htl := zrp (p.Kids.take i)
          have htk2 := zmp p.Kids i
          have hll := znh (p.Kids.take i) (nodes.length + 1) (nodes.length : Int) (-1) (-1)
          by_cases hi : i < p.Kids.length
          · obtain ⟨q, hq⟩ : ∃ q, p.Kids[i]? = some q := ⟨_, List.getElem?_eq_getElem hi⟩
            have hqm := List.mem_of_getElem? hq
            have hqs := zqn hqm
            have htk := zoq p.Kids hq
            have htk3 := zmp p.Kids (i + 1)
            have hnq := zoj q
            rw [show decide ((i : Int) < (p.Kids.length : Int)) = true from by simpa using hi, cond_true, zb1, hq, Option.bind_some]
            have hcur : (nodes ++ enode p.Name p.Attrs pa (if i = 0 then -1 else ((nodes.length + 1 : Nat) : Int)) (-1) pr (-1) :: lays (p.Kids.take i) (nodes.length + 1) (nodes.length : Int) (-1) (-1)).length = nodes.length + 1 + nszs (p.Kids.take i) := by
              rw [List.length_append, List.length_cons, hll]; omega
            have g := ih q n (nodes ++ enode p.Name p.Attrs pa (if i = 0 then -1 else ((nodes.length + 1 : Nat) : Int)) (-1) pr (-1) :: lays (p.Kids.take i) (nodes.length + 1) (nodes.length : Int) (-1) (-1)) (nodes.length : Int) (lastOf (p.Kids.take i) (nodes.length + 1) (-1)) (by omega) (by omega) (hkids q hqm) (by rw [hcur]; omega)
            rw [hcur] at g
            dsimp only
            rw [g, Option.bind_some]
            have hts : p.Kids.take (i + 1) = p.Kids.take i ++ [q] := by rw [List.take_add_one, hq]; rfl
            -- what the list is behind the binding
            have go : ∀ l : List zac, l = nodes ++ enode p.Name p.Attrs pa ((nodes.length + 1 : Nat) : Int) (-1) pr (-1) :: lays (p.Kids.take (i + 1)) (nodes.length + 1) (nodes.length : Int) (-1) (-1) →
                zhj ⟨nodes⟩ (i : Int) (zef p ⟨nodes⟩ (zhl n) k) (((nodes.length + 1 + nszs (p.Kids.take i) : Nat) : Int), ⟨(nodes ++ enode p.Name p.Attrs pa (if i = 0 then -1 else ((nodes.length + 1 : Nat) : Int)) (-1) pr (-1) :: lays (p.Kids.take i) (nodes.length + 1) (nodes.length : Int) (-1) (-1)) ++ lay q (nodes.length + 1 + nszs (p.Kids.take i)) (nodes.length : Int) (lastOf (p.Kids.take i) (nodes.length + 1) (-1)) (-1)⟩) l = some ((nodes.length : Int), ⟨nodes ++ lay p nodes.length pa pr (-1)⟩) := fun l hl => by
              subst hl
              unfold zhj
              have hlen2 := zrp (p.Kids.take (i + 1))
              rw [show decide ((4096 : Int) < ((nodes ++ enode p.Name p.Attrs pa ((nodes.length + 1 : Nat) : Int) (-1) pr (-1) :: lays (p.Kids.take (i + 1)) (nodes.length + 1) (nodes.length : Int) (-1) (-1)).length : Int)) = false from decide_eq_false (by rw [List.length_append, List.length_cons, znh]; omega), cond_false, zb5 (by omega)]
              have := ihk (i + 1) (by omega) (by omega)
              rw [if_neg (by omega), hts, zl6, ← hts] at this
              exact this
            by_cases h0 : i = 0
            · subst h0
              rw [show decide (lastOf (p.Kids.take 0) (nodes.length + 1) (-1) = -1) = true from rfl, cond_true]
              rw [zb1, List.append_assoc, List.getElem?_append_right (Nat.le_refl _), Nat.sub_self]
              rw [show ((enode p.Name p.Attrs pa (if 0 = 0 then -1 else ((nodes.length + 1 : Nat) : Int)) (-1) pr (-1) :: lays (p.Kids.take 0) (nodes.length + 1) (nodes.length : Int) (-1) (-1)) ++ lay q (nodes.length + 1 + nszs (p.Kids.take 0)) (nodes.length : Int) (lastOf (p.Kids.take 0) (nodes.length + 1) (-1)) (-1))[0]? = some (enode p.Name p.Attrs pa (-1) (-1) pr (-1)) from rfl, Option.bind_some]
              rw [zjg _ (by simp), Option.bind_some, ← List.append_assoc]
              refine go _ ?_
              rw [List.append_assoc, List.set_append_right _ _ (Nat.le_refl _), Nat.sub_self, hts, zkm]
              rfl
            · obtain ⟨xs, k', hxs⟩ : ∃ xs k', p.Kids.take i = xs ++ [k'] := by
                have hne : p.Kids.take i ≠ [] := by
                  intro e
                  have := congrArg List.length e
                  rw [List.length_take, List.length_nil] at this
                  omega
                exact ⟨_, _, (List.dropLast_concat_getLast hne).symm⟩
              have hlo : lastOf (p.Kids.take i) (nodes.length + 1) (-1) = ((nodes.length + 1 + nszs xs : Nat) : Int) := by rw [hxs, zl6]
              obtain ⟨x, x1, x2⟩ := lays_next xs k' (nodes.length + 1) (nodes.length : Int) (-1) (-1)
              rw [← hxs] at x1 x2
              have hxl : nszs xs < nszs (p.Kids.take i) := by
                rw [hxs, zpi]
                have := zo0 k'
                simp only [nszs]; omega
              rw [if_neg h0] at go ⊢
              have hix : (nodes ++ enode p.Name p.Attrs pa ((nodes.length + 1 : Nat) : Int) (-1) pr (-1) :: lays (p.Kids.take i) (nodes.length + 1) (nodes.length : Int) (-1) (-1) ++ lay q (nodes.length + 1 + nszs (p.Kids.take i)) (nodes.length : Int) (lastOf (p.Kids.take i) (nodes.length + 1) (-1)) (-1))[nodes.length + 1 + nszs xs]? = some x := by
                rw [List.append_assoc, List.getElem?_append_right (by omega), show nodes.length + 1 + nszs xs - nodes.length = nszs xs + 1 by omega, List.cons_append, List.getElem?_cons_succ, List.getElem?_append_left (by rw [hll]; exact hxl)]
                exact x1
              rw [show decide (lastOf (p.Kids.take i) (nodes.length + 1) (-1) = -1) = false from decide_eq_false (by rw [hlo]; omega), cond_false]
              rw [show geti (nodes ++ enode p.Name p.Attrs pa ((nodes.length + 1 : Nat) : Int) (-1) pr (-1) :: lays (p.Kids.take i) (nodes.length + 1) (nodes.length : Int) (-1) (-1) ++ lay q (nodes.length + 1 + nszs (p.Kids.take i)) (nodes.length : Int) (lastOf (p.Kids.take i) (nodes.length + 1) (-1)) (-1)) (lastOf (p.Kids.take i) (nodes.length + 1) (-1)) = some x from by
                conv => lhs; arg 2; rw [hlo]
                rw [zb1]; exact hix, Option.bind_some]
              rw [show ∀ y, seti (nodes ++ enode p.Name p.Attrs pa ((nodes.length + 1 : Nat) : Int) (-1) pr (-1) :: lays (p.Kids.take i) (nodes.length + 1) (nodes.length : Int) (-1) (-1) ++ lay q (nodes.length + 1 + nszs (p.Kids.take i)) (nodes.length : Int) (lastOf (p.Kids.take i) (nodes.length + 1) (-1)) (-1)) (lastOf (p.Kids.take i) (nodes.length + 1) (-1)) y = some ((nodes ++ enode p.Name p.Attrs pa ((nodes.length + 1 : Nat) : Int) (-1) pr (-1) :: lays (p.Kids.take i) (nodes.length + 1) (nodes.length : Int) (-1) (-1) ++ lay q (nodes.length + 1 + nszs (p.Kids.take i)) (nodes.length : Int) (lastOf (p.Kids.take i) (nodes.length + 1) (-1)) (-1)).set (nodes.length + 1 + nszs xs) y) from fun y => by
                conv => lhs; arg 2; rw [hlo]
                rw [zjg _ (List.getElem?_eq_some_iff.1 hix).1], Option.bind_some]
              refine go _ ?_
              rw [List.append_assoc, List.set_append_right _ _ (by omega), show nodes.length + 1 + nszs xs - nodes.length = nszs xs + 1 by omega, List.cons_append, List.set_cons_succ, List.set_append_left _ _ (by rw [hll]; exact hxl), x2, hts, zkm]
          · have hie : i = p.Kids.length := by omega
            subst hie
            rw [show decide ((p.Kids.length : Int) < (p.Kids.length : Int)) = false from by simp, cond_false]
            unfold zio
            dsimp only
            rw [List.take_length, zb1, List.getElem?_append_right (Nat.le_refl _), Nat.sub_self]
            rw [show ∀ (y : zac) (l : List zac), (y :: l)[0]? = some y from fun _ _ => rfl, Option.bind_some, zjg _ (by simp), Option.bind_some, List.set_append_right _ _ (Nat.le_refl _), Nat.sub_self, zl4 hname]
            rfl
      exact loop n 0 (by omega) (by omega)
end Go.Proofs.Ytklcdfnhdljkjaa
