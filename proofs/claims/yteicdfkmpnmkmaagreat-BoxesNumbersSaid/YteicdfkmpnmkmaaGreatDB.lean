/-
  Walks and laws of this seat; the base is the text Base.
-/
import Derived.Test.YteicdfkmpnmkmaaGreatDA
import Derived.Test.YteicdfkmpnmkmaaGreatBase
namespace Go.D
open Go.RowKit Go.Sl
/-! ## Tries -/
section
variable {α β γ : Type}

theorem nn {r : α} {p : Prop} (h : (none : Option α) = some r) : p := by cases h
theorem Tr.get_e (k : Nat) : (Tr.e : Tr γ).get k = none := rfl
theorem Tr.get_0 (v : Option γ) (l r : Tr γ) : (Tr.n v l r).get 0 = v := rfl
theorem Tr.get_s (v : Option γ) (l r : Tr γ) (k : Nat) : (Tr.n v l r).get (k + 1) = if k % 2 = 0 then l.get (k / 2) else r.get (k / 2) := by
  show (Bool.rec (r.get (k / 2)) (l.get (k / 2)) (Nat.beq (k % 2) 0) : Option γ) = _
  split
  · rename_i h; rw [h]; rfl
  · rename_i h
    cases e : Nat.beq (k % 2) 0 with
    | true => exact absurd (Nat.eq_of_beq_eq_true e) h
    | false => rfl

theorem Tr.putF_inv (x : γ) : ∀ (f : Nat) (t : Tr γ) (k : Nat) (c : Tr γ → Option α) (r : α), Tr.putF x f t k c = some r → ∃ t', (∀ j, t'.get j = if j = k then some x else t.get j) ∧ c t' = some r
  | 0, t, k, c, r, h => nn h
  | f + 1, t, k, c, r, h => by
    cases t with
    | e => cases k with
      | zero => exact ⟨_, fun j => by cases j <;> simp [Tr.get_0, Tr.get_s, Tr.get_e], h⟩
      | succ k =>
        have h' : (Bool.rec (Tr.putF x f .e (k / 2) fun u => c (.n none .e u)) (Tr.putF x f .e (k / 2) fun u => c (.n none u .e)) (Nat.beq (k % 2) 0) : Option α) = some r := h
        cases e : Nat.beq (k % 2) 0 with
        | true =>
          rw [e] at h'
          have e := Nat.eq_of_beq_eq_true e
          obtain ⟨t', h1, h2⟩ := Tr.putF_inv x f _ _ _ _ h'
          refine ⟨_, fun j => ?_, h2⟩
          cases j with
          | zero => simp [Tr.get_0, Tr.get_e]
          | succ j =>
            rw [Tr.get_s, Tr.get_e]
            by_cases hj : j % 2 = 0
            · rw [if_pos hj, h1, Tr.get_e]
              have : (j / 2 = k / 2) ↔ j + 1 = k + 1 := by omega
              simp [this, Tr.get_e]
            · rw [if_neg hj, Tr.get_e, if_neg (by omega)]
        | false =>
          rw [e] at h'
          have e : k % 2 ≠ 0 := fun q => by rw [q] at e; simp at e
          obtain ⟨t', h1, h2⟩ := Tr.putF_inv x f _ _ _ _ h'
          refine ⟨_, fun j => ?_, h2⟩
          cases j with
          | zero => simp [Tr.get_0, Tr.get_e]
          | succ j =>
            rw [Tr.get_s, Tr.get_e]
            by_cases hj : j % 2 = 0
            · rw [if_pos hj, Tr.get_e, if_neg (by omega)]
            · rw [if_neg hj, h1, Tr.get_e]
              have : (j / 2 = k / 2) ↔ j + 1 = k + 1 := by omega
              simp [this, Tr.get_e]
    | n v l rr => cases k with
      | zero => exact ⟨_, fun j => by cases j <;> simp [Tr.get_0, Tr.get_s], h⟩
      | succ k =>
        have h' : (Bool.rec (Tr.putF x f rr (k / 2) fun u => c (.n v l u)) (Tr.putF x f l (k / 2) fun u => c (.n v u rr)) (Nat.beq (k % 2) 0) : Option α) = some r := h
        cases e : Nat.beq (k % 2) 0 with
        | true =>
          rw [e] at h'
          have e := Nat.eq_of_beq_eq_true e
          obtain ⟨t', h1, h2⟩ := Tr.putF_inv x f _ _ _ _ h'
          refine ⟨_, fun j => ?_, h2⟩
          cases j with
          | zero => simp [Tr.get_0]
          | succ j =>
            rw [Tr.get_s, Tr.get_s]
            by_cases hj : j % 2 = 0
            · rw [if_pos hj, if_pos hj, h1]
              have : (j / 2 = k / 2) ↔ j + 1 = k + 1 := by omega
              simp [this]
            · rw [if_neg hj, if_neg hj, if_neg (by omega)]
        | false =>
          rw [e] at h'
          have e : k % 2 ≠ 0 := fun q => by rw [q] at e; simp at e
          obtain ⟨t', h1, h2⟩ := Tr.putF_inv x f _ _ _ _ h'
          refine ⟨_, fun j => ?_, h2⟩
          cases j with
          | zero => simp [Tr.get_0]
          | succ j =>
            rw [Tr.get_s, Tr.get_s]
            by_cases hj : j % 2 = 0
            · rw [if_pos hj, if_pos hj, if_neg (by omega)]
            · rw [if_neg hj, if_neg hj, h1]
              have : (j / 2 = k / 2) ↔ j + 1 = k + 1 := by omega
              simp [this]
theorem Tr.putK_inv {x : γ} {t : Tr γ} {k : Nat} {c : Tr γ → Option α} {r : α} (h : Tr.putK x t k c = some r) : ∃ t', (∀ j, t'.get j = if j = k then some x else t.get j) ∧ c t' = some r := Tr.putF_inv x _ _ _ _ _ h

/-! ## Continuations -/
theorem oc_inv {x : Option β} {k : β → Option α} {r : α} (h : oc x k = some r) : ∃ y, x = some y ∧ k y = some r := by
  cases x with
  | none => exact nn h
  | some y => exact ⟨y, rfl, h⟩
theorem fN_eq (n : Nat) (k : Nat → Option α) : fN n k = k n := by cases n <;> rfl
theorem fI_eq (n : Int) (k : Int → Option α) : fI n k = k n := by cases n <;> simp [fI, fN_eq]
theorem fB_eq (b : Bool) (k : Bool → Option α) : fB b k = k b := by cases b <;> rfl
theorem iff_inv {b : Bool} {k : Option α} {r : α} (h : iff b k = some r) : b = true ∧ k = some r := by
  cases b with
  | false => exact nn h
  | true => exact ⟨rfl, h⟩
theorem ble_iff {m n : Nat} (h : Nat.ble m n = true) : m ≤ n := Nat.le_of_ble_eq_true h
theorem ble_not {m n : Nat} (h : Nat.ble m n = false) : n < m := by
  rcases Nat.lt_or_ge n m with hl | hl
  · exact hl
  · rw [Nat.ble_eq_true_of_le hl] at h; exact absurd h (by simp)
theorem blt_iff {m n : Nat} (h : Nat.blt m n = true) : m < n := Nat.le_of_ble_eq_true h
theorem beq_iff' {m n : Nat} (h : Nat.beq m n = true) : m = n := Nat.eq_of_beq_eq_true h
theorem beq_not {m n : Nat} (h : Nat.beq m n = false) : m ≠ n := fun e => by rw [e, Nat.beq_refl] at h; exact absurd h (by simp)

theorem cK_inv {v : V} {k : C → Option α} {r : α} (h : cK v k = some r) : ∃ x, v = .c x ∧ k x = some r := by
  cases v <;> first | exact ⟨_, rfl, h⟩ | exact nn h
theorem ptrK_inv {v : V} {k : Nat → Nat → Option α} {r : α} (h : ptrK v k = some r) : ∃ b o, v = .c (.p b o) ∧ k b o = some r := by
  obtain ⟨x, rfl, h⟩ := cK_inv h
  cases x <;> first | exact ⟨_, _, rfl, h⟩ | exact nn h
theorem intK_inv {v : V} {k : IntKind → Int → Option α} {r : α} (h : intK v k = some r) : ∃ kd n, v = .c (.i kd n) ∧ k kd n = some r := by
  obtain ⟨x, rfl, h⟩ := cK_inv h
  cases x <;> first | exact ⟨_, _, rfl, h⟩ | exact nn h
theorem natK_inv {v : V} {k : Nat → Option α} {r : α} (h : natK v k = some r) : ∃ (kd : IntKind) (n : Nat), v = .c (.i kd (n : Int)) ∧ k n = some r := by
  obtain ⟨kd, n, rfl, h⟩ := intK_inv h
  cases n with
  | ofNat n => exact ⟨kd, n, rfl, h⟩
  | negSucc n => exact nn h
theorem boolK_inv {v : V} {k : Bool → Option α} {r : α} (h : boolK v k = some r) : ∃ b, v = .c (.b b) ∧ k b = some r := by
  obtain ⟨x, rfl, h⟩ := cK_inv h
  cases x <;> first | exact ⟨_, rfl, h⟩ | exact nn h
theorem strK_inv {v : V} {k : List Nat → Option α} {r : α} (h : strK v k = some r) : ∃ s, v = .c (.s s) ∧ k s = some r := by
  obtain ⟨x, rfl, h⟩ := cK_inv h
  cases x <;> first | exact ⟨_, rfl, h⟩ | exact nn h
theorem fnK_inv {v : V} {k : Nat → List (Nat × Nat) → List (Nat × Nat) → Option α} {r : α} (h : fnK v k = some r) : ∃ f a b, v = .c (.fn f a b) ∧ k f a b = some r := by
  obtain ⟨x, rfl, h⟩ := cK_inv h
  cases x <;> first | exact ⟨_, _, _, rfl, h⟩ | exact nn h
theorem mapK_inv {v : V} {k : Nat → Option α} {r : α} (h : mapK v k = some r) : ∃ m, v = .c (.m m) ∧ k m = some r := by
  obtain ⟨x, rfl, h⟩ := cK_inv h
  cases x <;> first | exact ⟨_, rfl, h⟩ | exact nn h
theorem slK_inv {v : V} {z : Option α} {k : Nat → Nat → Nat → Nat → Option α} {r : α} (h : slK v z k = some r) : (v = .c .sn ∧ z = some r) ∨ ∃ b o l c, v = .c (.sl b o l c) ∧ k b o l c = some r := by
  obtain ⟨x, rfl, h⟩ := cK_inv h
  cases x <;> first | exact .inl ⟨rfl, h⟩ | exact .inr ⟨_, _, _, _, rfl, h⟩ | exact nn h
theorem tupK_inv {v : V} {k : List U → Option α} {r : α} (h : tupK v k = some r) : ∃ l, v = .t l ∧ k l = some r := by
  cases v <;> first | exact ⟨_, rfl, h⟩ | exact nn h
theorem vcells_inv {v : V} {k : List C → Option α} {r : α} (h : vcells v k = some r) : ∃ l, ((∃ x, v = .c x ∧ l = [x]) ∨ v = .a l) ∧ k l = some r := by
  cases v with
  | c x => exact ⟨_, .inl ⟨x, rfl, rfl⟩, h⟩
  | a l => exact ⟨l, .inr rfl, h⟩
  | t l => exact nn h
theorem cellsK_inv {o : AO} {K : Nat → Tr (List C) → Nat → TypeId → Bool → Option α} {r : α} (h : cellsK o K = some r) : ∃ k c l e x, o = .cells k c l e x ∧ K k c l e x = some r := by
  cases o <;> first | exact ⟨_, _, _, _, _, rfl, h⟩ | exact nn h

theorem takeK_inv : ∀ (n : Nat) (l : List C) (k : List C → Option α) (r : α), takeK n l k = some r → n ≤ l.length ∧ k (l.take n) = some r
  | 0, l, k, r, h => ⟨Nat.zero_le _, h⟩
  | n + 1, [], k, r, h => nn h
  | n + 1, v :: l, k, r, h => by
    obtain ⟨h1, h2⟩ := takeK_inv n l (fun r => k (v :: r)) r h
    exact ⟨by simp; omega, by simpa using h2⟩
theorem dropK_inv : ∀ (n : Nat) (l : List C) (k : List C → Option α) (r : α), dropK n l k = some r → n ≤ l.length ∧ k (l.drop n) = some r
  | 0, l, k, r, h => ⟨Nat.zero_le _, h⟩
  | n + 1, [], k, r, h => nn h
  | n + 1, v :: l, k, r, h => by
    obtain ⟨h1, h2⟩ := dropK_inv n l k r h
    exact ⟨by simp; omega, by simpa using h2⟩
theorem takeN_inv : ∀ (n : Nat) (l : List Nat) (k : List Nat → Option α) (r : α), takeN n l k = some r → n ≤ l.length ∧ k (l.take n) = some r
  | 0, l, k, r, h => ⟨Nat.zero_le _, h⟩
  | n + 1, [], k, r, h => nn h
  | n + 1, v :: l, k, r, h => by
    obtain ⟨h1, h2⟩ := takeN_inv n l (fun r => k (v :: r)) r h
    exact ⟨by simp; omega, by simpa using h2⟩
theorem dropN_inv : ∀ (n : Nat) (l : List Nat) (k : List Nat → Option α) (r : α), dropN n l k = some r → n ≤ l.length ∧ k (l.drop n) = some r
  | 0, l, k, r, h => ⟨Nat.zero_le _, h⟩
  | n + 1, [], k, r, h => nn h
  | n + 1, v :: l, k, r, h => by
    obtain ⟨h1, h2⟩ := dropN_inv n l k r h
    exact ⟨by simp; omega, by simpa using h2⟩
theorem layK_inv (xs : List C) : ∀ (n : Nat) (l : List C) (k : List C → Option α) (r : α), layK xs n l k = some r → n + xs.length ≤ l.length ∧ k (l.take n ++ xs ++ l.drop (n + xs.length)) = some r
  | 0, l, k, r, h => by
    have h : (List.rec (fun l k => k l) (fun x _ ih l k => List.rec none (fun _ l _ => ih l fun r => k (x :: r)) l) xs : List C → (List C → Option α) → Option α) l k = some r := h
    suffices ∀ (xs l : List C) (k : List C → Option α), (List.rec (fun l k => k l) (fun x _ ih l k => List.rec none (fun _ l _ => ih l fun r => k (x :: r)) l) xs : List C → (List C → Option α) → Option α) l k = some r → xs.length ≤ l.length ∧ k (xs ++ l.drop xs.length) = some r by
      have := this xs l k h
      simpa using this
    intro xs
    induction xs with
    | nil => intro l k h; exact ⟨Nat.zero_le _, by simpa using h⟩
    | cons x xs ih =>
      intro l k h
      cases l with
      | nil => exact nn h
      | cons y l =>
        obtain ⟨h1, h2⟩ := ih l (fun r => k (x :: r)) h
        exact ⟨by simp; omega, by simpa using h2⟩
  | n + 1, [], k, r, h => nn h
  | n + 1, v :: l, k, r, h => by
    obtain ⟨h1, h2⟩ := layK_inv xs n l (fun r => k (v :: r)) r h
    refine ⟨by simp; omega, ?_⟩
    have : n + 1 + xs.length = n + xs.length + 1 := by omega
    rw [this]
    simpa using h2
theorem nthK_inv : ∀ (i : Nat) (l : List γ) (k : γ → Option α) (r : α), nthK l i k = some r → ∃ x, l[i]? = some x ∧ k x = some r
  | 0, [], k, r, h => nn h
  | 0, x :: l, k, r, h => ⟨x, rfl, h⟩
  | i + 1, [], k, r, h => nn h
  | i + 1, x :: l, k, r, h => by
    obtain ⟨y, h1, h2⟩ := nthK_inv i l k r h
    exact ⟨y, by simpa using h1, h2⟩
theorem lenN_eq (l : List γ) (K : Nat → Option α) : lenN l K = K l.length := by
  suffices ∀ (l : List γ) (n : Nat), (List.rec (fun n => K n) (fun _ _ ih n => fN (Nat.succ n) ih) l : Nat → Option α) n = K (n + l.length) by
    have := this l 0
    simpa [lenN] using this
  intro l
  induction l with
  | nil => intro n; rfl
  | cons x l ih =>
    intro n
    show fN (Nat.succ n) _ = _
    rw [fN_eq, ih]
    congr 1
    simp; omega
theorem appN_eq (a b : List Nat) (k : List Nat → Option α) : appN a b k = k (a ++ b) := by
  induction a generalizing k with
  | nil => rfl
  | cons x a ih => exact ih _
theorem appV_eq (a b : List V) (k : List V → Option α) : appV a b k = k (a ++ b) := by
  induction a generalizing k with
  | nil => rfl
  | cons x a ih => exact ih _
theorem ptrVs_eq (l : List (Nat × Nat)) (b : List V) (k : List V → Option α) : ptrVs l b k = k (l.map (fun p => V.c (.p p.1 p.2)) ++ b) := by
  induction l generalizing k with
  | nil => rfl
  | cons x l ih =>
    obtain ⟨u, v⟩ := x
    exact ih _
theorem ptrs_inv : ∀ (l : List V) (k : List (Nat × Nat) → Option α) (r : α), ptrs l k = some r → ∃ ps, l = ps.map (fun p => V.c (.p p.1 p.2)) ∧ k ps = some r
  | [], k, r, h => ⟨[], rfl, h⟩
  | v :: l, k, r, h => by
    obtain ⟨b, o, rfl, h⟩ := ptrK_inv (h : ptrK v (fun b o => ptrs l fun r => k ((b, o) :: r)) = some r)
    obtain ⟨ps, e, h1⟩ := ptrs_inv l _ _ h
    exact ⟨(b, o) :: ps, by rw [e]; rfl, h1⟩
theorem byteL_eq (l : List UInt8) (k : List Nat → Option α) : byteL l k = k (l.map UInt8.toNat) := by
  induction l generalizing k with
  | nil => rfl
  | cons c l ih =>
    show byteL l _ = _
    rw [ih, fN_eq]
    rfl
theorem bytesC_eq (kd : IntKind) (l : List Nat) (k : List (List C) → Option α) : bytesC kd l k = k (l.map fun c => [C.i kd (.ofNat c)]) := by
  induction l generalizing k with
  | nil => rfl
  | cons c l ih => exact ih _
theorem rows_inv (c : Tr (List C)) : ∀ (m i : Nat) (K : List (List C) → Option α) (r : α), rows c m i K = some r → ∃ l, l.length = m ∧ (∀ j, j < m → l[j]? = c.get (i + j)) ∧ K l = some r
  | 0, i, K, r, h => ⟨[], rfl, fun j hj => by omega, h⟩
  | m + 1, i, K, r, h => by
    obtain ⟨y, h1, h⟩ := oc_inv (h : oc (c.get i) (fun r => fN (Nat.succ i) fun i => rows c m i fun l => K (r :: l)) = some r)
    rw [fN_eq] at h
    obtain ⟨l, h2, h3, h4⟩ := rows_inv c m _ _ _ h
    refine ⟨y :: l, by simp [h2], fun j hj => ?_, h4⟩
    cases j with
    | zero => simp [h1]
    | succ j =>
      rw [List.getElem?_cons_succ, h3 j (by omega)]
      congr 1; omega
theorem putRows_inv : ∀ (l : List (List C)) (t : Tr (List C)) (i : Nat) (K : Tr (List C) → Option α) (r : α), putRows l t i K = some r → ∃ t', (∀ j, t'.get j = if i ≤ j ∧ j < i + l.length then l[j - i]? else t.get j) ∧ K t' = some r
  | [], t, i, K, r, h => ⟨t, fun j => by rw [if_neg (by simp only [List.length_nil]; omega)], h⟩
  | y :: l, t, i, K, r, h => by
    obtain ⟨t1, h1, h⟩ := Tr.putK_inv (h : Tr.putK y t i (fun t => fN (Nat.succ i) fun i => putRows l t i K) = some r)
    rw [fN_eq] at h
    obtain ⟨t2, h2, h3⟩ := putRows_inv l _ _ _ _ h
    refine ⟨t2, fun j => ?_, h3⟩
    rw [h2, h1]
    by_cases e : j = i
    · subst e; rw [if_neg (by omega), if_pos rfl, if_pos (by simp)]; simp
    · by_cases e2 : i + 1 ≤ j ∧ j < i + 1 + l.length
      · rw [if_pos e2, if_pos (by simp; omega)]
        have : j - i = j - (i + 1) + 1 := by omega
        rw [this]; simp
      · rw [if_neg e2, if_neg e, if_neg (by simp; omega)]
theorem repRows_inv (z : List C) : ∀ (n : Nat) (t : Tr (List C)) (i : Nat) (K : Tr (List C) → Option α) (r : α), repRows z n t i K = some r → ∃ t', (∀ j, t'.get j = if i ≤ j ∧ j < i + n then some z else t.get j) ∧ K t' = some r
  | 0, t, i, K, r, h => ⟨t, fun j => by rw [if_neg (by omega)], h⟩
  | n + 1, t, i, K, r, h => by
    obtain ⟨t1, h1, h⟩ := Tr.putK_inv (h : Tr.putK z t i (fun t => fN (Nat.succ i) fun i => repRows z n t i K) = some r)
    rw [fN_eq] at h
    obtain ⟨t2, h2, h3⟩ := repRows_inv z n _ _ _ _ h
    refine ⟨t2, fun j => ?_, h3⟩
    rw [h2, h1]
    by_cases e : j = i
    · subst e; rw [if_neg (by omega), if_pos rfl, if_pos (by omega)]
    · by_cases e2 : i + 1 ≤ j ∧ j < i + 1 + n
      · rw [if_pos e2, if_pos (by omega)]
      · rw [if_neg e2, if_neg e, if_neg (by omega)]
end
end Go.D
