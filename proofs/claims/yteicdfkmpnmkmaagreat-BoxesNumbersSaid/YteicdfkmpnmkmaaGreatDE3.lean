/-
  Walks and laws of this seat; the base is the text Base.
-/
import Derived.Test.YteicdfkmpnmkmaaGreatDE2
namespace Go.D
open Go.RowKit Go.Sl
section
variable {α : Type} {P : Program} {E : Env} {m : Nat} {t : Tr V} {lc : Ls} {h : H} {n : Nat} {k : KO α} {r : α}

theorem mkV_inv {ag : Bool} {l : List C} {K : V → Option α} {r : α} (e : mkV ag l K = some r) : (ag = true ∧ K (.a l) = some r) ∨ (ag = false ∧ ∃ x r', l = x :: r' ∧ K (.c x) = some r) := by
  cases ag with
  | true => exact .inl ⟨rfl, e⟩
  | false =>
    cases l with
    | nil => exact nn e
    | cons x l => exact .inr ⟨rfl, x, l, rfl, e⟩

theorem opExtract_ok {x : Operand} {i : Nat} (e : opExtract x i E m t lc h n k = some r) : Done P (.extract x i) (opT m t lc) h.get n k r := by
  obtain ⟨v, hv, e⟩ := opd_inv e
  obtain ⟨l, rfl, e⟩ := tupK_inv e
  obtain ⟨u, hu, e⟩ := nthK_inv _ _ _ _ e
  have fin : ∀ v, (∀ σ q, CU σ u q → CV σ v q) → k v [] [] n = some r → Done P (.extract x i) (opT m t lc) h.get n k r := fun v hq e =>
    ⟨v, [], [], n, e, .ofPure fun N σ T2 a w ht hs => by
      obtain ⟨cs, h1, h2⟩ := evO hv (by simp [Op.operands]) ht hs
      obtain ⟨q, h3, h4⟩ := h2.get hu
      exact ⟨q, hq _ _ h4, fun o' q' => by simp [execOp, q', h1, Instr.extract, h3]⟩⟩
  cases u with
  | c x => exact fin (.c x) (fun σ q hq => hq) e
  | a l => exact fin (.a l) (fun σ q hq => hq) e

theorem arr_map {β γ : Type} (f : β → γ) (xs : Array β) : xs.map f = (xs.toList.map f).toArray := by
  apply Array.ext'
  simp
theorem opMakeFunc_ok {f : Fn} {fs cs : Array Operand} (e : opMakeFunc f fs cs E m t lc h n k = some r) : Done P (.makeFunc f fs cs) (opT m t lc) h.get n k r := by
  obtain ⟨vs, hv, e1⟩ := opdL_inv e
  obtain ⟨ps, rfl, e2⟩ := ptrs_inv _ _ _ e1
  obtain ⟨us, hu, e3⟩ := opdL_inv e2
  obtain ⟨qs, rfl, e4⟩ := ptrs_inv _ _ _ e3
  cases f <;> first | exact nn e4 | skip
  rename_i f
  refine ⟨_, [], [], n, e4, .ofPure fun N σ T2 a w ht hs => ?_⟩
  have h1 := (evOs hv (fun x hx => by simp [Op.operands, hx]) ht hs).pl
  have h2 := (evOs hu (fun x hx => by simp [Op.operands, hx]) ht hs).pl
  exact ⟨.func (.func f) (fs.map a.eval) (cs.map a.eval), ⟨_, _, h1, h2, by rw [arr_map, arr_map]⟩, fun o' q => by simp [execOp, q, Instr.makeFunc]⟩

theorem opMakeMap_ok {ty : TypeId} {x : Option Operand} (e : opMakeMap ty x E m t lc h n k = some r) : Done P (.makeMap ty x) (opT m t lc) h.get n k r := by
  cases x with
  | some x => exact nn e
  | none =>
    refine ⟨_, [], _, n + 1, e, .ofNew fun N σ T2 a w ht hs hn => ?_⟩
    refine ⟨.map (some w.heap.size), w.alloc (.map #[] 0), w.heap.size, 0, Grew.alloc w _ none, Nat.le_refl _, by simp, ⟨_, _, sgSet_at, rfl⟩, ⟨rfl, #[], 0, [], heap_alloc_new w _, rfl, trivial⟩, fun o' q => by simp [execOp, q, Instr.makeMap]⟩

theorem opRange_ok (hE : ∀ t ti, E.tt.get t = some ti → TIok P t ti) {ty : TypeId} {x : Operand} (e : opRange ty x E m t lc h n k = some r) : Done P (.range ty x) (opT m t lc) h.get n k r := by
  obtain ⟨v, hv, e⟩ := opd_inv e
  obtain ⟨ti, h1, e⟩ := oc_inv e
  obtain ⟨d, it, z, q1, q2, q3, q4, q5, q6, q7, _⟩ := (hE _ _ h1).ok
  revert e q7
  cases ti.d <;> intro e q7 <;> first | exact nn e | skip
  have q7 : d = .string := q7
  subst q7
  obtain ⟨s, rfl, e⟩ := strK_inv e
  refine ⟨_, [], _, n + 1, e, .ofNew fun N σ T2 a w ht hs hn => ?_⟩
  obtain ⟨b, g1, g2⟩ := evO hv (by simp [Op.operands]) ht hs
  exact ⟨.pointer (some ⟨w.heap.size, 0, none⟩), w.alloc (.stringIter b 0), w.heap.size, 0, Grew.alloc w _ none, Nat.le_refl _, by simp, ⟨_, _, sgSet_at, rfl⟩, ⟨rfl, b, heap_alloc_new w _, by simpa using g2⟩, fun o' q => by
    simp [execOp, q, g1, Instr.range, run_underlying q1]⟩

/-! Numbers -/
theorem wrap_small (k : IntKind) {m : Nat} (h : m < 128) : k.wrap (m : Int) = m := by
  cases k <;> simp [IntKind.wrap, IntKind.bits, IntKind.signed] <;> omega
theorem wrapK_eq (k : IntKind) (i : Int) (K : Int → Option α) : wrapK k i K = K (k.wrap i) := by
  cases i with
  | ofNat j =>
    have h0 : wrapK k (Int.ofNat j) K = fN j (fun m => Bool.rec (fI (k.wrap (.ofNat m)) K) (K (.ofNat m)) (Nat.blt m 128)) := rfl
    rw [h0, fN_eq]
    cases q : Nat.blt j 128 with
    | true =>
      show K (Int.ofNat j) = _
      rw [show Int.ofNat j = (j : Int) from rfl, wrap_small k (blt_iff q)]
    | false =>
      show fI (k.wrap (Int.ofNat j)) K = _
      rw [fI_eq]
  | negSucc j =>
    have h0 : wrapK k (Int.negSucc j) K = fI (k.wrap (.negSucc j)) K := rfl
    rw [h0, fI_eq]
theorem ltI_eq (a b : Int) : ltI a b = decide (a < b) := by
  have hb : ∀ x y : Nat, Nat.blt x y = decide (x < y) := fun x y => by
    cases q : Nat.blt x y with
    | true => exact (decide_eq_true (blt_iff q)).symm
    | false => exact (decide_eq_false (fun hlt => by have := ble_not (m := x + 1) (n := y) q; omega)).symm
  cases a <;> cases b
  · rename_i a b
    show Nat.blt a b = _
    rw [hb]
    by_cases q : a < b
    · rw [decide_eq_true q, decide_eq_true (by show (a : Int) < (b : Int); omega)]
    · rw [decide_eq_false q, decide_eq_false (by show ¬ (a : Int) < (b : Int); omega)]
  · rename_i a b
    exact (decide_eq_false (by show ¬ (a : Int) < Int.negSucc b; omega)).symm
  · rename_i a b
    exact (decide_eq_true (by show Int.negSucc a < (b : Int); omega)).symm
  · rename_i a b
    show Nat.blt b a = _
    rw [hb]
    by_cases q : b < a
    · rw [decide_eq_true q, decide_eq_true (by omega)]
    · rw [decide_eq_false q, decide_eq_false (by omega)]
theorem eqI_eq (a b : Int) : eqI a b = decide (a = b) := by
  have hb : ∀ x y : Nat, Nat.beq x y = decide (x = y) := fun x y => by
    cases q : Nat.beq x y with
    | true => exact (decide_eq_true (beq_iff' q)).symm
    | false => exact (decide_eq_false (beq_not q)).symm
  cases a <;> cases b
  · rename_i a b
    show Nat.beq a b = _
    rw [hb]
    by_cases q : a = b
    · rw [decide_eq_true q, decide_eq_true (by rw [q])]
    · rw [decide_eq_false q, decide_eq_false (fun e => q (Int.ofNat.inj e))]
  · rename_i a b
    exact (decide_eq_false (fun e => by cases e)).symm
  · rename_i a b
    exact (decide_eq_false (fun e => by cases e)).symm
  · rename_i a b
    show Nat.beq a b = _
    rw [hb]
    by_cases q : a = b
    · rw [decide_eq_true q, decide_eq_true (by rw [q])]
    · rw [decide_eq_false q, decide_eq_false (fun e => q (Int.negSucc.inj e))]

theorem rec_t {β : Type} {x y : Option β} {b : Bool} {r : β} (e : (Bool.rec x y b : Option β) = some r) : (b = true ∧ y = some r) ∨ (b = false ∧ x = some r) := by
  cases b with
  | true => exact .inl ⟨rfl, e⟩
  | false => exact .inr ⟨rfl, e⟩

theorem intOp_inv {o : BinOp} {kd : IntKind} {a b : Int} {K : C → Option α} {r : α} (e : intOp o kd a b K = some r) : ∃ c, K c = some r ∧ ∀ (P : Program) (ty : TypeId) (x y : Operand) (w : World) (σ : Sg), ∃ u, CC σ c u ∧
    (do eqGuard o ty x y (.int kd a) (.int kd b); binOp o ty (.int kd a) (.int kd b)).run P w = .ok u w := by
  unfold intOp at e
  split at e
  · rw [wrapK_eq] at e
    exact ⟨_, e, fun P ty x y w σ => ⟨_, rfl, by simp [eqGuard, binOp, Op.intArith]⟩⟩
  · rw [wrapK_eq] at e
    exact ⟨_, e, fun P ty x y w σ => ⟨_, rfl, by simp [eqGuard, binOp, Op.intArith]; rfl⟩⟩
  · rw [wrapK_eq] at e
    exact ⟨_, e, fun P ty x y w σ => ⟨_, rfl, by simp [eqGuard, binOp, Op.intArith]⟩⟩
  · rcases rec_t e with ⟨q, e⟩ | ⟨q, e⟩
    · exact nn e
    · rw [wrapK_eq] at e
      rw [eqI_eq] at q
      have q := of_decide_eq_false q
      exact ⟨_, e, fun P ty x y w σ => ⟨_, rfl, by simp [eqGuard, binOp, Op.intDiv, q]⟩⟩
  · rcases rec_t e with ⟨q, e⟩ | ⟨q, e⟩
    · exact nn e
    · rw [fI_eq] at e
      rw [eqI_eq] at q
      have q := of_decide_eq_false q
      exact ⟨_, e, fun P ty x y w σ => ⟨_, rfl, by simp [eqGuard, binOp, Op.intDiv, q]⟩⟩
  · rw [fB_eq, ltI_eq] at e
    exact ⟨_, e, fun P ty x y w σ => ⟨_, rfl, by simp [eqGuard, binOp, Op.intCmp]⟩⟩
  · rw [fB_eq, ltI_eq] at e
    exact ⟨_, e, fun P ty x y w σ => ⟨_, rfl, by simp [eqGuard, binOp, Op.intCmp, ← decide_not]⟩⟩
  · rw [fB_eq, ltI_eq] at e
    exact ⟨_, e, fun P ty x y w σ => ⟨_, rfl, by simp [eqGuard, binOp, Op.intCmp]⟩⟩
  · rw [fB_eq, ltI_eq] at e
    exact ⟨_, e, fun P ty x y w σ => ⟨_, rfl, by simp [eqGuard, binOp, Op.intCmp, ← decide_not]⟩⟩
  · rw [fB_eq, eqI_eq] at e
    exact ⟨_, e, fun P ty x y w σ => ⟨_, rfl, by simp [eqGuard, binOp, Op.intCmp]; rfl⟩⟩
  · rw [fB_eq, eqI_eq] at e
    exact ⟨_, e, fun P ty x y w σ => ⟨_, rfl, by simp [eqGuard, binOp, Op.intCmp, bne]; rfl⟩⟩
  · exact nn e
end
end Go.D
