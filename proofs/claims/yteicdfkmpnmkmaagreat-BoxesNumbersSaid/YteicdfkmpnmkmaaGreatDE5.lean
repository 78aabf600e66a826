/-
  Walks and laws of this seat; the base is the text Base.
-/
import Derived.Test.YteicdfkmpnmkmaaGreatDE4
import Derived.Test.YteicdfkmpnmkmaaGreatBasf
namespace Go.D
open Go.RowKit Go.Sl
section
variable {α : Type} {P : Program} {E : Env} {m : Nat} {t : Tr V} {lc : Ls} {h : H} {n : Nat} {k : KO α} {r : α}
variable (hE : ∀ t ti, E.tt.get t = some ti → TIok P t ti)

theorem boolOp_inv {o : BinOp} {b : Bool} {K : C → Option α} {r : α} (e : boolOp o b K = some r) : (o = .eql ∧ K (.b b) = some r) ∨ (o = .neq ∧ K (.b (!b)) = some r) := by
  unfold boolOp at e
  split at e
  · exact .inl ⟨rfl, e⟩
  · exact .inr ⟨rfl, e⟩
  · exact nn e
theorem slEq {ty el : TypeId} {ao bo : Option Addr} {l c l' c' : Nat} {w : World} (hu : P.underlying ty = some (.slice el)) (hn : ao = none ∨ bo = none) (x y : Operand) {o : BinOp} (ho : o = .eql ∨ o = .neq) :
    (do eqGuard o ty x y (.slice ao l c) (.slice bo l' c'); binOp o ty (.slice ao l c) (.slice bo l' c')).run P w = .ok (.bool (if o = .eql then (ao.isNone && bo.isNone) else !(ao.isNone && bo.isNone))) w := by
  have h : (Op.equal ty (.slice ao l c) (.slice bo l' c')).run P w = .ok (ao.isNone && bo.isNone) w := by
    unfold Op.equal
    refine equal_deep (fun d => ?_) rfl
    rcases hn with rfl | rfl
    · simp [Op.equalIn, run_underlying hu]
    · cases ao <;> simp [Op.equalIn, run_underlying hu]
  rcases ho with rfl | rfl <;> simp [eqGuard, binOp, h]

include hE in
theorem opBin_ok {o : BinOp} {ty ty' : TypeId} {x y : Operand} (e : opBin o ty x y ty' E m t lc h n k = some r) : Done P (.binOp o ty x y ty') (opT m t lc) h.get n k r := by
  obtain ⟨va, hva, e⟩ := opd_inv e
  obtain ⟨vb, hvb, e⟩ := opd_inv e
  obtain ⟨a', rfl, e1⟩ := cK_inv e
  obtain ⟨b', rfl, e2⟩ := cK_inv e1
  clear e e1
  have e := e2
  clear e2
  have fin : ∀ c, k (.c c) [] [] n = some r → (∀ (w : World) (σ : Sg) u v, CC σ a' u → CC σ b' v → ∃ q, CC σ c q ∧ (do eqGuard o ty x y u v; binOp o ty u v).run P w = .ok q w) → Done P (.binOp o ty x y ty') (opT m t lc) h.get n k r := fun c e H =>
    ⟨_, [], [], n, e, .ofPure fun N σ T2 a w ht hs => by
      have h1 := evO hva (by simp [Op.operands]) ht hs
      have h2 := evO hvb (by simp [Op.operands]) ht hs
      obtain ⟨q, h3, h4⟩ := H w σ _ _ h1 h2
      refine ⟨q, h3, fun o' q' => ?_⟩
      simp only [execOp, q']
      rw [Sem.run_bind, h4]
      rfl⟩
  have slc : ∀ K : Option α, (oc (E.tt.get ty) fun ti => sliceE ti.d fun _ => K) = some r → (∃ el, P.underlying ty = some (.slice el)) ∧ K = some r := fun K e => by
    obtain ⟨ti, h1, e⟩ := oc_inv e
    obtain ⟨el, h2, e⟩ := sliceE_inv e
    obtain ⟨d, it, z, q1, q2, q3, q4, q5, q6, q7, _⟩ := (hE _ _ h1).ok
    rw [h2] at q7
    have q7 : d = .slice el := q7
    subst q7
    exact ⟨⟨el, q1⟩, e⟩
  cases a' with
  | b _ => exact nn e
  | pn => exact nn e
  | p _ _ => exact nn e
  | mn => exact nn e
  | m _ => exact nn e
  | nf => exact nn e
  | fn _ _ _ => exact nn e
  | i kd i =>
    obtain ⟨kd', j, hb, e1⟩ := intK_inv (e : intK (.c b') (fun k' b => iff (decide (kd = k')) (intOp o kd i b fun v => k (.c v) [] [] n)) = some r)
    cases hb
    obtain ⟨hk, e2⟩ := iff_inv e1
    have hk := of_decide_eq_true hk
    subst hk
    obtain ⟨c, e3, H⟩ := intOp_inv e2
    exact fin c e3 fun w σ u v hu hv => by
      have hu : u = .int kd i := hu
      have hv : v = .int kd j := hv
      subst hu hv
      exact H P ty x y w σ
  | s s =>
    obtain ⟨s', hb, e1⟩ := strK_inv (e : strK (.c b') (fun b => strOp o s b fun v => k (.c v) [] [] n) = some r)
    cases hb
    obtain ⟨c, e3, H⟩ := strOp_inv e1
    exact fin c e3 fun w σ u v ⟨s1, hu, hu2⟩ ⟨s2, hv, hv2⟩ => by
      subst hu hv
      exact H P ty x y w σ s1 s2 hu2 hv2
  | sn =>
    obtain ⟨⟨el, q1⟩, e1⟩ := slc _ e
    cases b' <;> first | exact nn e1 | skip
    · have e1 : boolOp o true (fun v => k (.c v) [] [] n) = some r := e1
      rcases boolOp_inv e1 with ⟨rfl, e2⟩ | ⟨rfl, e2⟩
      · exact fin _ e2 fun w σ u v hu hv => ⟨_, rfl, by
          have hu : u = .slice none 0 0 := hu
          have hv : v = .slice none 0 0 := hv
          subst hu hv
          rw [slEq q1 (.inl rfl) x y (.inl rfl)]; rfl⟩
      · exact fin _ e2 fun w σ u v hu hv => ⟨_, rfl, by
          have hu : u = .slice none 0 0 := hu
          have hv : v = .slice none 0 0 := hv
          subst hu hv
          rw [slEq q1 (.inl rfl) x y (.inr rfl)]; rfl⟩
    · have e1 : boolOp o false (fun v => k (.c v) [] [] n) = some r := e1
      rcases boolOp_inv e1 with ⟨rfl, e2⟩ | ⟨rfl, e2⟩
      · exact fin _ e2 fun w σ u v hu hv => ⟨_, rfl, by
          have hu : u = .slice none 0 0 := hu
          obtain ⟨_, _, _, rfl | ⟨_, _, _, rfl⟩⟩ := hv <;> subst hu <;> (rw [slEq q1 (.inl rfl) x y (.inl rfl)]; rfl)⟩
      · exact fin _ e2 fun w σ u v hu hv => ⟨_, rfl, by
          have hu : u = .slice none 0 0 := hu
          obtain ⟨_, _, _, rfl | ⟨_, _, _, rfl⟩⟩ := hv <;> subst hu <;> (rw [slEq q1 (.inl rfl) x y (.inr rfl)]; rfl)⟩
  | sl _ _ _ _ =>
    obtain ⟨⟨el, q1⟩, e1⟩ := slc _ e
    cases b' <;> first | exact nn e1 | skip
    have e1 : boolOp o false (fun v => k (.c v) [] [] n) = some r := e1
    rcases boolOp_inv e1 with ⟨rfl, e2⟩ | ⟨rfl, e2⟩
    · exact fin _ e2 fun w σ u v hu hv => ⟨_, rfl, by
        have hv : v = .slice none 0 0 := hv
        obtain ⟨_, _, _, rfl | ⟨_, _, _, rfl⟩⟩ := hu <;> subst hv <;> (rw [slEq q1 (.inr rfl) x y (.inl rfl)]; rfl)⟩
    · exact fin _ e2 fun w σ u v hu hv => ⟨_, rfl, by
        have hv : v = .slice none 0 0 := hv
        obtain ⟨_, _, _, rfl | ⟨_, _, _, rfl⟩⟩ := hu <;> subst hv <;> (rw [slEq q1 (.inr rfl) x y (.inr rfl)]; rfl)⟩

theorem opUn_ok {o : UnOp} {ty : TypeId} {x : Operand} (e : opUn o ty x E m t lc h n k = some r) : Done P (.unOp o ty x) (opT m t lc) h.get n k r := by
  obtain ⟨va, hva, e⟩ := opd_inv e
  revert e
  cases o <;> intro e <;> first | exact nn e | skip
  all_goals first
    | (obtain ⟨b, rfl, e⟩ := boolK_inv e
       exact ⟨_, [], [], n, e, .ofPure fun N σ T2 a w ht hs => by
         have h1 : a.eval x = .bool b := evO hva (by simp [Op.operands]) ht hs
         exact ⟨_, rfl, fun o' q' => by simp [execOp, q', h1, Op.unary]⟩⟩)
    | (obtain ⟨kd, i, rfl, e1⟩ := intK_inv e
       rw [wrapK_eq] at e1
       exact ⟨_, [], [], n, e1, .ofPure fun N σ T2 a w ht hs => by
         have h1 : a.eval x = .int kd i := evO hva (by simp [Op.operands]) ht hs
         exact ⟨_, rfl, fun o' q' => by simp [execOp, q', h1, Op.unary, Op.intArith, show Int.sub 0 i = -i from Int.zero_sub i]⟩⟩)

include hE in
theorem opAlloc_ok {ty : TypeId} (e : opAlloc ty E m t lc h n k = some r) : Done P (.alloc ty) (opT m t lc) h.get n k r := by
  obtain ⟨ti, h1, e⟩ := oc_inv e
  obtain ⟨d, it, z, q1, q2, q3, q4, q5, q6, q7, q8, q9, q10, q11⟩ := (hE _ _ h1).ok
  refine ⟨_, [], _, n + 1, e, .ofNew fun N σ T2 a w ht hs hn => ?_⟩
  have hz := (q8 (sgSet σ n w.heap.size 0)).len
  refine ⟨.pointer (some ⟨w.heap.size, 0, none⟩), w.alloc (.cells z.cells ty), w.heap.size, 0, Grew.alloc w _ none, Nat.le_refl _, by simp, ⟨_, _, sgSet_at, rfl⟩,
    BR.ofCells (heap_alloc_new w _) (.inl rfl) (by simp at hz ⊢; omega) (fun _ => rfl) (fun q row hq hr => ?_), fun o' q => by simp [execOp, q, Instr.alloc, zeroValue, typeInfo, q2, q5, newVar, newRow]⟩
  obtain rfl : q = 0 := by omega
  cases hr
  exact ⟨q9, z.cells.toList, q8 _, fun r v hv => by simpa using hv⟩

theorem opBox_ok {ty : TypeId} {x : Operand} (e : opBox ty x E m t lc h n k = some r) : Done P (.box ty x) (opT m t lc) h.get n k r := by
  obtain ⟨v, hv, e⟩ := opd_inv e
  obtain ⟨ti, h1, e⟩ := oc_inv e
  obtain ⟨xs, hx, e⟩ := vcells_inv e
  rw [lenN_eq] at e
  obtain ⟨hl, e⟩ := iff_inv e
  have hl := beq_iff' hl
  refine ⟨_, [], _, n + 1, e, .ofNew fun N σ T2 a w ht hs hn => ?_⟩
  have hu := (evO hv (by simp [Op.operands]) ht hs).cells hx
  have hz := hu.len
  refine ⟨.pointer (some ⟨w.heap.size, 0, none⟩), w.alloc (.cells (a.eval x).cells ty), w.heap.size, 0, Grew.alloc w _ none, Nat.le_refl _, by simp, ⟨_, _, sgSet_at, rfl⟩,
    BR.ofCells (heap_alloc_new w _) (.inl rfl) (by simp at hz ⊢; omega) (fun _ => rfl) (fun q row hq hr => ?_), fun o' q => by simp [execOp, q, Instr.box, newVar, newRow]⟩
  obtain rfl : q = 0 := by omega
  cases hr
  exact ⟨hl, _, hu.le (sgSet_le hn), fun r v hv => by simpa using hv⟩

include hE in
theorem opLoad_ok {ty : TypeId} {x : Operand} (e : opLoad ty x E m t lc h n k = some r) : Done P (.load ty x) (opT m t lc) h.get n k r := by
  obtain ⟨v, hv, e⟩ := opd_inv e
  obtain ⟨b, o, rfl, e⟩ := ptrK_inv e
  obtain ⟨ti, h1, e⟩ := oc_inv e
  obtain ⟨d, it, z, q1, q2, q3, q4, q5, q6, q7, q8, q9, q10, q11⟩ := (hE _ _ h1).ok
  obtain ⟨ob, h2, e⟩ := oc_inv (e : oc (h.get b) _ = some r)
  obtain ⟨kk, c, len, el, ex, rfl, e⟩ := cellsK_inv e
  obtain ⟨row, l, h3, h4, h5, e⟩ := rdC_inv e
  rcases mkV_inv e with ⟨hag, e⟩ | ⟨hag, y, r', hl, e⟩
  · refine ⟨_, _, _, n, e, .ofRead h2 (by simp) fun N σ T2 a w b' x' ht hs hb hB => ?_⟩
    obtain ⟨b2, x2, g1, g2⟩ := evO hv (by simp [Op.operands]) ht hs
    rw [hb] at g1; cases g1
    obtain ⟨us, c1, c2, c3⟩ := hB.rd h3 h4 h5
    have hl := run_loadCells_list (P := P) w ⟨b', o, none⟩ us (fun j u hj => by rw [Sl.add_lit]; exact c3 j u hj)
    rw [c2, ← q3] at hl
    refine ⟨.agg us.toArray, ⟨us, rfl, c1⟩, fun o' q => ?_⟩
    rw [hag] at q6
    cases d <;> first | (simp [Agg] at q6; done) | simp [execOp, q, g2, Instr.loadAt, Instr.sureAddr, loadVar, isAgg, run_underlying q1, sizeOf, typeInfo, q2, hl]
  · refine ⟨_, _, _, n, e, .ofRead h2 (by simp) fun N σ T2 a w b' x' ht hs hb hB => ?_⟩
    obtain ⟨b2, x2, g1, g2⟩ := evO hv (by simp [Op.operands]) ht hs
    rw [hb] at g1; cases g1
    obtain ⟨us, c1, c2, c3⟩ := hB.rd h3 h4 h5
    subst hl
    cases us with
    | nil => exact c1.elim
    | cons u us =>
      have hc : w.cell? ⟨b', o, none⟩ = some u := c3 0 u rfl
      refine ⟨u, c1.1, fun o' q => ?_⟩
      rw [hag] at q6
      cases d <;> first | (simp [Agg] at q6; done) | simp [execOp, q, g2, Instr.loadAt, Instr.sureAddr, loadVar, isAgg, run_underlying q1, hc]

include hE in
theorem opStore_ok {ty : TypeId} {x y : Operand} (e : opStore ty x y E m t lc h n k = some r) : Done P (.store ty x y) (opT m t lc) h.get n k r := by
  obtain ⟨v, hv, e⟩ := opd_inv e
  obtain ⟨b, o, rfl, e⟩ := ptrK_inv e
  obtain ⟨v2, hv2, e⟩ := opd_inv e
  obtain ⟨ti, h1, e⟩ := oc_inv e
  obtain ⟨d, it, z, q1, q2, q3, q4, q5, q6, q7, q8, q9, q10, q11⟩ := (hE _ _ h1).ok
  obtain ⟨xs, hx, e⟩ := vcells_inv e
  obtain ⟨ob, h2, e⟩ := oc_inv e
  obtain ⟨kk, c, len, el, ex, rfl, e1⟩ := cellsK_inv e
  clear e
  have e := e1
  clear e1
  rw [lenN_eq] at e
  obtain ⟨hl, e⟩ := iff_inv e
  have hl := beq_iff' hl
  obtain ⟨h3, e⟩ := iff_inv e
  have h3 := blt_iff h3
  obtain ⟨row, h4, e⟩ := oc_inv e
  obtain ⟨h5, e⟩ := layK_inv _ _ _ _ _ e
  obtain ⟨c', h6, e⟩ := Tr.putK_inv e
  refine ⟨_, _, _, n, e, .ofWrite h2 (by simp) fun N σ T2 a w b' x' ht hs hb hB hlt => ?_⟩
  obtain ⟨b2, x2, g1, g2⟩ := evO hv (by simp [Op.operands]) ht hs
  rw [hb] at g1; cases g1
  have hu := (evO hv2 (by simp [Op.operands]) ht hs).cells hx
  have hz := hu.len
  have hk : 0 < kk := by
    obtain ⟨_, _, hr⟩ := hB
    have := (hr _ row h3 h4).1
    have h5 : o % kk + xs.length ≤ row.length := h5
    omega
  obtain ⟨f1, f2⟩ := hB.wr h3 h4 hk h5 hu h6
  refine ⟨undef, w.setCells b' o (a.eval y).cells.toList, Grew.setCells _ _ _ _, CV_undef, f2, fun o' q => .inr ⟨?_, rfl⟩⟩
  have hst := run_storeCells_cells (P := P) b' o (a.eval y).cells.toList 0 w (by simpa using fun j hj => (f1 j (by simpa using hj)).1) (by simpa using fun j hj => (f1 j (by simpa using hj)).2) hu.one
  simp only [Nat.add_zero] at hst
  have hsz : (a.eval y).cells.size = it.size := by simp at hz; omega
  simp [execOp, q, g2, Instr.storeAt, Instr.sureAddr, storeVar, sizeOf, typeInfo, q2, hsz, hst]
end
end Go.D
