/-
  Walks and laws of this seat; the base is the text Base.
-/
import Derived.Test.YteicdfkmpnmkmaaGreatDE6
import Derived.Great.FillDense
import Derived.Great.BuildSlice
namespace Go.D
open Go.RowKit Go.Sl
section
variable {α : Type} {P : Program} {E : Env} {m : Nat} {t : Tr V} {lc : Ls} {h : H} {n : Nat} {k : KO α} {r : α}
variable (hE : ∀ t ti, E.tt.get t = some ti → TIok P t ti)

/-- Rows of one kind, side by side. -/
theorem zrow {z : Array Value} {k n q r : Nat} (hz : z.size = k) (h1 : q * k + r < n) (h2 : r < k) : ((Array.range n).map (fun i => z[i % z.size]!))[q * k + r]? = z[r]? := by
  have hm : (q * k + r) % k = r := by
    rw [Nat.add_comm, Nat.add_mul_mod_self_right, Nat.mod_eq_of_lt h2]
  have hlt : r < z.size := by omega
  simp [h1, hz, hm]
  rw [getElem!_pos z r hlt, Array.getElem?_eq_getElem hlt]

theorem i64_small {j : Nat} (h : j ≤ 65536) : IntKind.i64.wrap (j : Int) = j := by
  simp [IntKind.wrap, IntKind.bits, IntKind.signed]; omega

include hE in
theorem opMakeSlice_ok {ty : TypeId} {x y : Operand} (e : opMakeSlice ty x y E m t lc h n k = some r) : Done P (.makeSlice ty x y) (opT m t lc) h.get n k r := by
  obtain ⟨v, hv, e⟩ := opd_inv e
  obtain ⟨kd, l, rfl, e1⟩ := natK_inv e
  obtain ⟨v2, hv2, e2⟩ := opd_inv e1
  obtain ⟨kd2, c, rfl, e3⟩ := natK_inv e2
  obtain ⟨h1, e4⟩ := iff_inv e3
  obtain ⟨h2, e5⟩ := iff_inv e4
  obtain ⟨el, i, z, q1, q2, q3, q4, zl, q5, q6, e6⟩ := elemK_inv hE e5
  obtain ⟨h3, e7⟩ := iff_inv e6
  obtain ⟨c', h4, e8⟩ := repRows_inv _ _ _ _ _ _ e7
  have h1 := ble_iff h1
  have h2 := ble_iff h2
  have h3 := ble_iff h3
  refine ⟨_, [], _, n + 1, e8, .ofNew fun N σ T2 a w ht hs hn => ?_⟩
  have hl : a.eval x = .int kd (l : Int) := evO hv (by simp [Op.operands]) ht hs
  have hc : a.eval y = .int kd2 (c : Int) := evO hv2 (by simp [Op.operands]) ht hs
  have hz := (q5 σ).len
  have hz : z.cells.size = i.size := by simp at hz; omega
  have hmul : i.bytes * c ≤ 65536 * 65536 := Nat.mul_le_mul h3 h2
  have hmul2 : c * i.bytes ≤ 65536 * 65536 := Nat.mul_le_mul h2 h3
  refine ⟨.slice (some ⟨w.heap.size, 0, none⟩) l c, w.alloc (.cells ((Array.range (c * i.size)).map (fun j => z.cells[j % z.cells.size]!)) el), w.heap.size, 0, Grew.alloc w _ none, Nat.le_refl _, by simp, ⟨_, _, sgSet_at, .inl rfl⟩,
    BR.ofCells (heap_alloc_new w _) (.inl rfl) (by simp) (fun _ => rfl) (fun q row hq hr => ?_), fun o' q => ?_⟩
  · rw [h4, if_pos ⟨Nat.zero_le _, by omega⟩] at hr
    cases hr
    refine ⟨q6, z.cells.toList, q5 _, fun j v hj => ?_⟩
    have hj' : j < i.size := by
      have := (List.getElem?_eq_some_iff.1 hj).1
      simp at this; omega
    have : (q + 1) * i.size ≤ c * i.size := Nat.mul_le_mul_right _ hq
    rw [Nat.succ_mul] at this
    rw [zrow hz (by omega) hj']
    simpa using hj
  · have w1 := i64_small (j := l) (by omega)
    have w2 := i64_small (j := c) h2
    have t1 : ¬ ((c : Int) < 0) := by omega
    have t2 : ¬ ((281474976710656 : Int) < (i.bytes : Int) * (c : Int)) := by
      have : ((i.bytes * c : Nat) : Int) ≤ 65536 * 65536 := by omega
      rw [Int.natCast_mul] at this
      omega
    have t3 : ¬ ((l : Int) < 0) := by omega
    have t4 : ¬ ((c : Int) < (l : Int)) := by omega
    have t5 : ¬ (140737488355328 < c * i.bytes) := by omega
    by_cases hz0 : c * i.size = 0
    · have : c = 0 := by
        rcases Nat.mul_eq_zero.1 hz0 with h | h
        · exact h
        · omega
      subst this
      obtain rfl : l = 0 := by omega
      have hr0 : Array.range 0 = #[] := by simp [Array.range]
      have w0 : IntKind.i64.wrap 0 = 0 := i64_small (j := 0) (by omega)
      simp [execOp, q, hl, hc, Instr.makeSlice, run_underlying q1, asInt, asIntOf, typeInfo, q2, w0, askRoom, sizeOf, newRow, hr0]
    · simp [execOp, q, hl, hc, Instr.makeSlice, run_underlying q1, asInt, asIntOf, typeInfo, q2, w1, w2, t1, t2, t3, t4, askRoom, roomBytes, sizeOf, hz0, zeroValue, q3, newRow]

/-- A row put into cells. -/
def RowsR (σ : Sg) (sz len : Nat) (c : Tr (List C)) (cells : Array Value) : Prop := cells.size = len * sz ∧ ∀ q row, q < len → c.get q = some row → row.length = sz ∧ ∃ vs, CL σ row vs ∧ ∀ r v, vs[r]? = some v → cells[q * sz + r]? = some v
theorem fill_step {place : Nat → Option (Nat × Nat)} {i off : Nat} {v : Value} {rest : List (Nat × Value)} {cells : Array Value} (hp : place i = some (off, v.cells.size)) (h : off + v.cells.size ≤ cells.size) :
    ∃ cells', Instr.fill place cells ((i, v) :: rest) = Instr.fill place cells' rest ∧ cells'.size = cells.size ∧ ∀ j, cells'[j]? = if off ≤ j ∧ j < off + v.cells.size then v.cells[j - off]? else cells[j]? := by
  obtain ⟨g1, g2⟩ := Great.foldl_set off v.cells.toList 0 cells
  refine ⟨_, ?_, g1, fun j => ?_⟩
  · conv => lhs; unfold Instr.fill
    simp only [hp]
    rw [if_neg (by simp; omega)]
    congr 1
    rw [← Array.foldl_toList, Array.toList_zipIdx]
  · rw [g2 j]
    simp only [Nat.add_zero, Array.length_toList]
    by_cases hh : off ≤ j ∧ j < off + v.cells.size
    · rw [if_pos ⟨hh.1, hh.2, by omega⟩, if_pos hh]; simp
    · rw [if_neg (by omega), if_neg hh]

theorem partRows_inv {o : Op} (len sz : Nat) : ∀ (ps : List (Nat × Operand)) (c : Tr (List C)) (K : Tr (List C) → Option α) (r : α), (∀ p ∈ ps, p.2 ∈ o.operands.toList) → partRows m t lc len sz ps c K = some r →
    ∃ c', K c' = some r ∧ ∀ (N : Nat) (σ : Sg) (T2 : Nat → Option V) (a : Act) (cells : Array Value), Tm o (opT m t lc) T2 → SL N σ T2 a → RowsR σ sz len c cells →
      ∃ cells', Instr.fill (fun i => some (i * sz, sz)) cells (ps.map fun p => (p.1, a.eval p.2)) = some cells' ∧ RowsR σ sz len c' cells'
  | [], c, K, r, _, e => ⟨c, e, fun N σ T2 a cells _ _ hR => ⟨cells, rfl, hR⟩⟩
  | (i, x) :: ps, c, K, r, hm, e => by
    obtain ⟨v, hv, e1⟩ := opd_inv (e : opd m t lc x (fun v => vcells v fun xs => lenN xs fun L => iff (Nat.beq L sz) (iff (Nat.blt i len) (Tr.putK xs c i fun c => partRows m t lc len sz ps c K))) = some r)
    obtain ⟨xs, hx, e2⟩ := vcells_inv e1
    rw [lenN_eq] at e2
    obtain ⟨h1, e3⟩ := iff_inv e2
    obtain ⟨h2, e4⟩ := iff_inv e3
    obtain ⟨c1, h3, e5⟩ := Tr.putK_inv e4
    have h1 := beq_iff' h1
    have h2 := blt_iff h2
    obtain ⟨c', e6, H⟩ := partRows_inv (o := o) len sz ps c1 K r (fun p hp => hm p (by simp [hp])) e5
    refine ⟨c', e6, fun N σ T2 a cells ht hs hR => ?_⟩
    have hu := (evO (a := a) hv (hm (i, x) (by simp)) ht hs).cells hx
    have hz := hu.len
    have hz : (a.eval x).cells.size = sz := by simp at hz; omega
    have hle : (i + 1) * sz ≤ len * sz := Nat.mul_le_mul_right _ h2
    rw [Nat.succ_mul] at hle
    obtain ⟨cells1, g1, g2, g3⟩ := fill_step (place := fun i => some (i * sz, sz)) (i := i) (off := i * sz) (v := a.eval x) (rest := ps.map fun p => (p.1, a.eval p.2)) (cells := cells) (by rw [hz]) (by rw [hR.1, hz]; exact hle)
    obtain ⟨cells', g4, g5⟩ := H N σ T2 a cells1 ht hs ⟨g2.trans hR.1, fun q row hq hr => by
      rw [h3] at hr
      by_cases eq : q = i
      · rw [if_pos eq] at hr
        cases hr
        subst eq
        refine ⟨h1, _, hu, fun r v hv => ?_⟩
        have hr' : r < sz := by
          have := (List.getElem?_eq_some_iff.1 hv).1
          simp at this; omega
        rw [g3, if_pos ⟨by omega, by omega⟩, show q * sz + r - q * sz = r by omega]
        simpa using hv
      · rw [if_neg eq] at hr
        obtain ⟨f1, vs, f2, f3⟩ := hR.2 q row hq hr
        refine ⟨f1, vs, f2, fun r v hv => ?_⟩
        have hr' : r < sz := by
          have := (List.getElem?_eq_some_iff.1 hv).1
          have := f2.len
          omega
        rw [g3, if_neg ?_]
        · exact f3 r v hv
        · rcases Nat.lt_or_ge q i with hlt | hge
          · have : (q + 1) * sz ≤ i * sz := Nat.mul_le_mul_right _ hlt
            rw [Nat.succ_mul] at this
            omega
          · have : (i + 1) * sz ≤ q * sz := Nat.mul_le_mul_right _ (by omega)
            rw [Nat.succ_mul] at this
            omega⟩
    exact ⟨cells', by rw [List.map_cons, g1, g4], g5⟩

include hE in
theorem opBuildSlice_ok {ty : TypeId} {len : Nat} {ps : Array (Nat × Operand)} (e : opBuildSlice ty len ps E m t lc h n k = some r) : Done P (.buildSlice ty len ps) (opT m t lc) h.get n k r := by
  obtain ⟨el, i, z, q1, q2, q3, q4, zl, q5, q6, e1⟩ := elemK_inv hE e
  obtain ⟨h1, e2⟩ := iff_inv e1
  have h1 : len * i.size ≤ 65536 := ble_iff h1
  obtain ⟨c0, h2, e3⟩ := repRows_inv _ _ _ _ _ _ e2
  obtain ⟨c', e4, H⟩ := partRows_inv (o := .buildSlice ty len ps) len i.size ps.toList c0 _ _ (fun p hp => by simp [Op.operands]; exact ⟨p.1, by simpa using hp⟩) e3
  refine ⟨_, [], _, n + 1, e4, .ofNew fun N σ T2 a w ht hs hn => ?_⟩
  have hz := (q5 σ).len
  have hz : z.cells.size = i.size := by simp at hz; omega
  obtain ⟨cells, g1, g2⟩ := H N σ T2 a ((Array.range (len * i.size)).map (fun j => z.cells[j % z.cells.size]!)) ht hs ⟨by simp, fun q row hq hr => by
    rw [h2, if_pos ⟨Nat.zero_le _, by omega⟩] at hr
    cases hr
    refine ⟨q6, z.cells.toList, q5 _, fun j v hj => ?_⟩
    have hj' : j < i.size := by
      have := (List.getElem?_eq_some_iff.1 hj).1
      simp at this; omega
    have : (q + 1) * i.size ≤ len * i.size := Nat.mul_le_mul_right _ hq
    rw [Nat.succ_mul] at this
    rw [zrow hz (by omega) hj']
    simpa using hj⟩
  have hps : (ps.map fun (i, x) => (i, a.eval x)).toList = ps.toList.map fun p => (p.1, a.eval p.2) := by simp
  have hrun : (Instr.buildSlice ty len (ps.map fun (i, x) => (i, a.eval x))).run P w = .ok (.slice (some ⟨w.heap.size, 0, none⟩) len len) (w.alloc (.cells cells el)) := by
    by_cases h0 : len * i.size = 0
    · have hl : len = 0 := by
        rcases Nat.mul_eq_zero.1 h0 with h | h
        · exact h
        · omega
      subst hl
      have hr0 : Array.range 0 = #[] := by simp [Array.range]
      have g1 : Instr.fill (fun i_1 => some (i_1 * i.size, i.size)) #[] (ps.toList.map fun p => (p.1, a.eval p.2)) = some cells := by
        simpa [hr0] using g1
      simp [Instr.buildSlice, run_underlying q1, sizeOf, typeInfo, q2, newRow, hr0, g1]
    · exact run_buildSlice (P := P) w ty el len _ cells i z q1 q2 q3 (by omega) h0 (by rw [hps]; exact g1)
  refine ⟨.slice (some ⟨w.heap.size, 0, none⟩) len len, w.alloc (.cells cells el), w.heap.size, 0, Grew.alloc w _ none, Nat.le_refl _, by simp, ⟨_, _, sgSet_at, .inl rfl⟩,
    BR.ofCells (heap_alloc_new w _) (.inl rfl) (by rw [g2.1]; simp) (fun _ => rfl) (fun q row hq hr => ?_), fun o' q => ?_⟩
  · obtain ⟨f1, vs, f2, f3⟩ := g2.2 q row hq hr
    exact ⟨f1, vs, f2.le (sgSet_le hn), f3⟩
  · simp only [execOp, q, Sem.run_bind, hrun, Result.andThen_ok, Sem.run_pure]
end
end Go.D
