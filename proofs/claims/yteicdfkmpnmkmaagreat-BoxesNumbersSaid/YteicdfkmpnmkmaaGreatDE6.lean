/-
  Walks and laws of this seat; the base is the text Base.
-/
import Derived.Test.YteicdfkmpnmkmaaGreatDE5
namespace Go.D
open Go.RowKit Go.Sl
section
variable {α : Type} {P : Program} {E : Env} {m : Nat} {t : Tr V} {lc : Ls} {h : H} {n : Nat} {k : KO α} {r : α}
variable (hE : ∀ t ti, E.tt.get t = some ti → TIok P t ti)

/-- A part of a struct or an array that is a value. -/
theorem run_part {tf : TypeId} {tj : TI} (ht : TIok P tf tj) {cs : List C} {vs : List Value} {off : Nat} {v : V} {σ : Sg} {w : World} (hc : CL σ cs vs) (_h1 : off + tj.sz ≤ cs.length)
    (hv : (tj.ag = true ∧ v = .a ((cs.drop off).take tj.sz)) ∨ (tj.ag = false ∧ ∃ x r', (cs.drop off).take tj.sz = x :: r' ∧ v = .c x)) : ∃ u, CV σ v u ∧ (part tf vs.toArray off).run P w = .ok u w := by
  obtain ⟨d, i, z, q1, q2, q3, q4, q5, q6, q7, q8, q9, q10, q11⟩ := ht.ok
  have hl := hc.len
  have hd := (hc.drop off).take tj.sz
  rcases hv with ⟨hag, rfl⟩ | ⟨hag, x, r', hx, rfl⟩
  · refine ⟨.agg ((vs.drop off).take tj.sz).toArray, ⟨_, rfl, hd⟩, ?_⟩
    rw [hag] at q6
    cases d <;> first | (simp [Agg] at q6; done) | simp [part, isAgg, run_underlying q1, sizeOf, typeInfo, q2, q3]
  · rw [hx] at hd
    cases q : (vs.drop off).take tj.sz with
    | nil => rw [q] at hd; exact hd.elim
    | cons u us =>
      rw [q] at hd
      refine ⟨u, hd.1, ?_⟩
      have hu : vs[off]? = some u := by
        have h2 : ((vs.drop off).take tj.sz)[0]? = some u := by rw [q]; rfl
        rw [List.getElem?_take_of_lt q11, List.getElem?_drop] at h2
        simpa using h2
      rw [hag] at q6
      cases d <;> first | (simp [Agg] at q6; done) | simp [part, isAgg, run_underlying q1, hu]

theorem mkV_inv2 {ag : Bool} {l : List C} {K : V → Option α} {r : α} (e : mkV ag l K = some r) : ∃ v, K v = some r ∧ ((ag = true ∧ v = .a l) ∨ (ag = false ∧ ∃ x r', l = x :: r' ∧ v = .c x)) := by
  rcases mkV_inv e with ⟨h1, e⟩ | ⟨h1, x, r', h2, e⟩
  · exact ⟨_, e, .inl ⟨h1, rfl⟩⟩
  · exact ⟨_, e, .inr ⟨h1, x, r', h2, rfl⟩⟩

include hE in
theorem opField_ok {ty : TypeId} {x : Operand} {i : Nat} (e : opField ty x i E m t lc h n k = some r) : Done P (.field ty x i) (opT m t lc) h.get n k r := by
  obtain ⟨v, hv, e⟩ := opd_inv e
  obtain ⟨ti, h1, e⟩ := oc_inv e
  obtain ⟨fs, p, h2, h3, e⟩ := fieldE_inv e
  obtain ⟨te, h4, e⟩ := oc_inv e
  obtain ⟨d, it, z, q1, q2, q3, q4, q5, q6, q7, _⟩ := (hE _ _ h1).ok
  rw [h2] at q7
  obtain ⟨Fs, rfl, _, q7⟩ := q7
  obtain ⟨fd, c1, c2, c3, _⟩ := q7 i p h3
  cases v with
  | c _ => exact nn e
  | t _ => exact nn e
  | a cs =>
    obtain ⟨h5, e⟩ := dropK_inv _ _ _ _ e
    obtain ⟨h6, e⟩ := takeK_inv _ _ _ _ e
    obtain ⟨v, e, h7⟩ := mkV_inv2 e
    rw [List.length_drop] at h6
    refine ⟨v, [], [], n, e, .ofPure fun N σ T2 a w ht hs => ?_⟩
    obtain ⟨vs, g1, g2⟩ := evO hv (by simp [Op.operands]) ht hs
    obtain ⟨u, g3, g4⟩ := run_part (w := w) (hE _ _ h4) g2 (off := p.1) (by omega) h7
    exact ⟨u, g3, fun o' q => by simp [execOp, q, g1, Instr.field, run_underlying q1, c1, asAgg, c2, c3, g4]⟩

theorem byl_get {s : ByteArray} {i c : Nat} (h : (byl s)[i]? = some c) : ∃ b : UInt8, s[i]? = some b ∧ b.toNat = c := by
  unfold byl at h
  rw [List.getElem?_map] at h
  cases q : s.data.toList[i]? with
  | none => rw [q] at h; cases h
  | some b =>
    rw [q] at h
    cases h
    refine ⟨b, ?_, rfl⟩
    have hlt : i < s.data.toList.length := (List.getElem?_eq_some_iff.1 q).1
    have hlt2 : i < s.size := by simpa using hlt
    rw [getElem?_pos s i hlt2]
    congr 1
    rw [List.getElem?_eq_getElem hlt] at q
    cases q
    rfl

include hE in
theorem opIndex_ok {ty : TypeId} {x ix : Operand} (e : opIndex ty x ix E m t lc h n k = some r) : Done P (.index ty x ix) (opT m t lc) h.get n k r := by
  obtain ⟨v, hv, e⟩ := opd_inv e
  obtain ⟨w', hw, e⟩ := opd_inv e
  obtain ⟨kd, i, rfl, e1⟩ := natK_inv e
  clear e
  obtain ⟨ti, h1, e⟩ := oc_inv e1
  clear e1
  obtain ⟨d, it, z, q1, q2, q3, q4, q5, q6, q7, _⟩ := (hE _ _ h1).ok
  revert e q7
  cases ti.d <;> intro e q7 <;> first | exact nn e | skip
  · have q7 : d = .string := q7
    subst q7
    obtain ⟨s, rfl, e1⟩ := strK_inv e
    obtain ⟨c, h2, e2⟩ := nthK_inv _ _ _ _ e1
    refine ⟨_, [], [], n, e2, .ofPure fun N σ T2 a w ht hs => ?_⟩
    obtain ⟨b, g1, g2⟩ := evO hv (by simp [Op.operands]) ht hs
    have hi : a.eval ix = .int kd (i : Int) := evO hw (by simp [Op.operands]) ht hs
    rw [← g2] at h2
    obtain ⟨u, h3, h4⟩ := byl_get h2
    exact ⟨.int .u8 c, rfl, fun o' q => by simp [execOp, q, g1, hi, Instr.index, asIntOf, run_underlying q1, h3, h4]⟩
  · rename_i len el
    have q7 : d = .array len el := q7.1
    subst q7
    obtain ⟨te, h2, e⟩ := oc_inv e
    cases v with
    | c _ => exact nn e
    | t _ => exact nn e
    | a cs =>
      obtain ⟨hlt, e⟩ := iff_inv e
      obtain ⟨h5, e⟩ := dropK_inv _ _ _ _ e
      obtain ⟨h6, e⟩ := takeK_inv _ _ _ _ e
      obtain ⟨v, e, h7⟩ := mkV_inv2 e
      have hlt := blt_iff hlt
      rw [List.length_drop] at h6
      refine ⟨v, [], [], n, e, .ofPure fun N σ T2 a w ht hs => ?_⟩
      obtain ⟨vs, g1, g2⟩ := evO hv (by simp [Op.operands]) ht hs
      have hi : a.eval ix = .int kd (i : Int) := evO hw (by simp [Op.operands]) ht hs
      have h5 : i * te.sz ≤ cs.length := h5
      have h6 : te.sz ≤ cs.length - i * te.sz := h6
      obtain ⟨u, g3, g4⟩ := run_part (w := w) (hE _ _ h2) g2 (off := i * te.sz) (by omega) h7
      obtain ⟨d', i', z', c1, c2, c3, _⟩ := (hE _ _ h2).ok
      exact ⟨u, g3, fun o' q => by simp [execOp, q, g1, hi, Instr.index, asIntOf, run_underlying q1, hlt, sizeOf, typeInfo, c2, c3, g4]⟩

theorem optN_inv {x : Option Operand} {d : Nat} {K : Nat → Option α} {r : α} (e : optN m t lc x d K = some r) : ∃ j, K j = some r ∧ ((x = none ∧ j = d) ∨ ∃ x0 kd, x = some x0 ∧ opF (opT m t lc) x0 (.c (.i kd (j : Int)))) := by
  cases x with
  | none => exact ⟨d, e, .inl ⟨rfl, rfl⟩⟩
  | some x =>
    obtain ⟨v, hv, e⟩ := opd_inv (e : opd m t lc x (fun v => natK v K) = some r)
    obtain ⟨kd, j, rfl, e1⟩ := natK_inv e
    exact ⟨j, e1, .inr ⟨x, kd, rfl, hv⟩⟩
/-- What a bound is at the run. -/
def OptV (x : Option Value) (d j : Nat) : Prop := (x = none ∧ j = d) ∨ ∃ kd, x = some (.int kd (j : Int))
theorem optV {o : Op} {N : Nat} {σ : Sg} {T T2 : Nat → Option V} {a : Act} {x : Option Operand} {d j : Nat} (h : (x = none ∧ j = d) ∨ ∃ x0 kd, x = some x0 ∧ opF T x0 (.c (.i kd (j : Int)))) (hm : ∀ y, x = some y → y ∈ o.operands.toList) (ht : Tm o T T2) (hs : SL N σ T2 a) :
    OptV (x.map a.eval) d j := by
  rcases h with ⟨rfl, rfl⟩ | ⟨x0, kd, rfl, h⟩
  · exact .inl ⟨rfl, rfl⟩
  · have h1 : a.eval x0 = .int kd (j : Int) := evO h (hm x0 rfl) ht hs
    exact .inr ⟨kd, by simp [h1]⟩
theorem run_bounds {isSl : Bool} {len cap lo hi : Nat} {x y : Option Value} {w : World} (hx : OptV x 0 lo) (hy : OptV y len hi) (h1 : hi ≤ cap) (h2 : lo ≤ hi) : (Instr.sliceBounds isSl len cap x y none).run P w = .ok (lo, hi, cap) w := by
  rcases hx with ⟨rfl, rfl⟩ | ⟨kd, rfl⟩ <;> rcases hy with ⟨rfl, rfl⟩ | ⟨kd', rfl⟩ <;> simp [Instr.sliceBounds, Instr.sliceBound, asIntOf, h1, h2]

theorem byl_extract (s : ByteArray) (lo hi : Nat) : byl (s.extract lo hi) = ((byl s).drop lo).take (hi - lo) := by
  unfold byl
  rw [← List.map_drop, ← List.map_take]
  congr 1
  rw [ByteArray.data_extract]
  simp [List.take_drop, List.extract]

include hE in
theorem opSlice_ok {ty : TypeId} {x : Operand} {lo hi mx : Option Operand} (e : opSlice ty x lo hi mx E m t lc h n k = some r) : Done P (.slice ty x lo hi mx) (opT m t lc) h.get n k r := by
  cases mx with
  | some _ => exact nn e
  | none =>
  obtain ⟨v, hv, e⟩ := opd_inv (e : opd m t lc x _ = some r)
  obtain ⟨ti, h1, e⟩ := oc_inv e
  obtain ⟨d, it, z, q1, q2, q3, q4, q5, q6, q7, _⟩ := (hE _ _ h1).ok
  have ml : ∀ y, lo = some y → y ∈ (Op.slice ty x lo hi none).operands.toList := fun y hy => by simp [Op.operands, hy]
  have mh : ∀ y, hi = some y → y ∈ (Op.slice ty x lo hi none).operands.toList := fun y hy => by simp [Op.operands, hy]
  revert e q7
  cases ti.d <;> intro e q7 <;> first | exact nn e | skip
  · have q7 : d = .string := q7
    subst q7
    obtain ⟨s, rfl, e1⟩ := strK_inv e
    clear e
    rw [lenN_eq] at e1
    obtain ⟨j, e, hj⟩ := optN_inv e1
    obtain ⟨i, e, hi'⟩ := optN_inv e
    obtain ⟨h2, e⟩ := iff_inv e
    obtain ⟨h3, e⟩ := iff_inv e
    have h2 := ble_iff h2
    have h3 := ble_iff h3
    obtain ⟨h4, e⟩ := dropN_inv _ _ _ _ e
    rw [fN_eq] at e
    obtain ⟨h5, e⟩ := takeN_inv _ _ _ _ e
    refine ⟨_, [], [], n, e, .ofPure fun N σ T2 a w ht hs => ?_⟩
    obtain ⟨b, g1, g2⟩ := evO hv (by simp [Op.operands]) ht hs
    have hb : s.length = b.size := by rw [← g2, byl_len]
    have hB := run_bounds (P := P) (w := w) (isSl := false) (optV hi' ml ht hs) (optV hj mh ht hs) (by omega) h3 (cap := b.size)
    rw [hb] at hB
    exact ⟨.string (b.extract i j), ⟨_, rfl, by rw [byl_extract, g2]; rfl⟩, fun o' q => by simp [execOp, q, g1, Instr.sliceAt, Instr.slice, run_underlying q1, hB]⟩
  · rename_i el
    have q7 : d = .slice el := q7
    subst q7
    obtain ⟨te, h2, e⟩ := oc_inv e
    obtain ⟨d', i', z', c1, c2, c3, _⟩ := (hE _ _ h2).ok
    rcases slK_inv e with ⟨rfl, e1⟩ | ⟨b, o, len, cap, rfl, e1⟩
    · obtain ⟨j, e2, hj⟩ := optN_inv e1
      obtain ⟨i, e3, hi'⟩ := optN_inv e2
      obtain ⟨h3, e4⟩ := iff_inv e3
      obtain ⟨h4, e5⟩ := iff_inv e4
      obtain rfl := beq_iff' h3
      obtain rfl := beq_iff' h4
      refine ⟨_, [], [], n, e5, .ofPure fun N σ T2 a w ht hs => ?_⟩
      have g1 : a.eval x = .slice none 0 0 := evO hv (by simp [Op.operands]) ht hs
      have hB := run_bounds (P := P) (w := w) (isSl := true) (optV hi' ml ht hs) (optV hj mh ht hs) (Nat.le_refl _) (Nat.le_refl _) (cap := 0)
      exact ⟨.slice none 0 0, rfl, fun o' q => by simp [execOp, q, g1, Instr.sliceAt, Instr.slice, run_underlying q1, hB, sizeOf, typeInfo, c2]⟩
    · obtain ⟨j, e2, hj⟩ := optN_inv e1
      obtain ⟨i, e3, hi'⟩ := optN_inv e2
      obtain ⟨h3, e4⟩ := iff_inv e3
      obtain ⟨h4, e5⟩ := iff_inv e4
      have h3 := ble_iff h3
      have h4 := ble_iff h4
      rw [fN_eq, fN_eq, fN_eq] at e5
      refine ⟨_, [], [], n, e5, .ofPure fun N σ T2 a w ht hs => ?_⟩
      obtain ⟨b', y, g1, g2 | ⟨rfl, rfl, o2, g2⟩⟩ := evO hv (by simp [Op.operands]) ht hs
      · have hB := run_bounds (P := P) (w := w) (isSl := true) (optV hi' ml ht hs) (optV hj mh ht hs) (Nat.le_trans h3 (Nat.le_add_right cap y)) h4
        by_cases hm : cap + y = i
        · refine ⟨.slice (some ⟨b', o, none⟩) 0 0, ⟨b', y, g1, .inr ⟨by show j - i = 0; omega, by show cap - i = 0; omega, o, rfl⟩⟩, fun o' q => ?_⟩
          have hz : j - i = 0 := by omega
          rw [hm] at hB
          simp [execOp, q, g2, Instr.sliceAt, Instr.slice, run_underlying q1, hB, sizeOf, typeInfo, c2, hm, hz]
        · refine ⟨.slice (some ⟨b', o + i * te.sz, none⟩) (j - i) (cap - i + y), ⟨b', y, g1, .inl rfl⟩, fun o' q => ?_⟩
          have hz : cap + y - i = cap - i + y := by omega
          simp [execOp, q, g2, Instr.sliceAt, Instr.slice, run_underlying q1, hB, sizeOf, typeInfo, c2, c3, hm, hz, Sl.add_lit]
      · obtain rfl : j = 0 := by omega
        obtain rfl : i = 0 := by omega
        have hB := run_bounds (P := P) (w := w) (isSl := true) (optV hi' ml ht hs) (optV hj mh ht hs) (Nat.le_refl _) (Nat.le_refl _) (cap := 0)
        exact ⟨.slice (some ⟨b', o2, none⟩) 0 0, ⟨b', y, g1, .inr ⟨rfl, rfl, o2, rfl⟩⟩, fun o' q => by simp [execOp, q, g2, Instr.sliceAt, Instr.slice, run_underlying q1, hB, sizeOf, typeInfo, c2]⟩
end
end Go.D
