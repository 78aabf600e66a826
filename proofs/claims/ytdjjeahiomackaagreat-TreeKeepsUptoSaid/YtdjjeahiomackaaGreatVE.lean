/-
  Walks and laws of this seat.
-/
import Derived.Test.YtdjjeahiomackaaGreatVD
import Derived.Test.YtdjjeahiomackaaGreatBash
namespace Go.V
set_option linter.unusedVariables false
set_option linter.unusedSimpArgs false
set_option linter.unusedSectionVars false
attribute [local irreducible] opd opr
open Go.RowKit Go.Sl
variable [F0]
section
variable {α : Type} {P : Program} {T : Nat → Option TD} {sl : List (Nat × V)} {ob : List Ob} {r : α}
theorem vcs_inv {v : V} {K : List C → Option α} (h : vcs v K = some r) : ∃ cs, K cs = some r ∧ ∀ (f : Fz) (N : Nm) u, VR f N v u → (∀ c ∈ cs, c ≠ .u) → CLR f N cs u.cells.toList := by
  unfold vcs at h
  split at h
  · rename_i x
    refine ⟨_, h, fun f N u hu hn => ?_⟩
    have := CR.one (f := f) (N := N) hu (hn x (by simp))
    have e : u.cells = #[u] := by cases u <;> first | rfl | simp [Value.oneCell'] at this
    rw [e]
    exact ⟨hu, trivial⟩
  · refine ⟨_, h, fun f N u hu _ => ?_⟩
    obtain ⟨vs, rfl, h2⟩ := hu
    exact h2
  · cases h
theorem places {P : Program} : ∀ (Fl : List Field),(∀ f ∈ Fl, ∃ i, P.info? f.type = some i) → ∃ pl, Fl.mapM (fun f => (P.info? f.type).map fun i => (f.offset, i.size)) = some pl ∧ ∀ (j : Nat) (f : Field), Fl[j]? = some f → ∃ i, P.info? f.type = some i ∧ pl[j]? = some (f.offset, i.size)
  | [], _ => ⟨[], by simp, fun j f hj => by simp at hj⟩
  | f :: Fl, h => by
    obtain ⟨i, hi⟩ := h f (by simp)
    obtain ⟨pl, h1, h2⟩ := places Fl (fun g hg => h g (by simp [hg]))
    refine ⟨(f.offset, i.size) :: pl, by simp [List.mapM_cons, hi, h1], fun j g hj => ?_⟩
    cases j with
    | zero => cases hj; exact ⟨i, hi, rfl⟩
    | succ j =>
      obtain ⟨i', g1, g2⟩ := h2 j g (by simpa using hj)
      exact ⟨i', g1, by simpa using g2⟩
theorem zvm {place : Nat → Option (Nat × Nat)} {i off : Nat} {v : Value} {rest : List (Nat × Value)} {cells : Array Value} (hp : place i = some (off, v.cells.size)) (h : off + v.cells.size ≤ cells.size) :
    ∃ cells', Instr.fill place cells ((i, v) :: rest) = Instr.fill place cells' rest ∧ cells'.size = cells.size ∧ ∀ j, cells'[j]? = if off ≤ j ∧ j < off + v.cells.size then v.cells[j - off]? else cells[j]? := by
  obtain ⟨g1, g2⟩ := Great.foldl_set off v.cells.toList 0 cells
  refine ⟨_, ?_, g1, fun j => ?_⟩
  · conv => lhs; unfold Instr.fill
    simp only [hp]
    rw [if_neg (by simp; omega)]
    congr 1
    rw [← Array.foldl_toList, Array.toList_zipIdx]
  · rw [g2 j]
    simp only [Nat.add_zero, Array.length_toList]
    by_cases hh : off ≤ j ∧ j < off + v.cells.size
    · rw [if_pos ⟨hh.1, hh.2, by omega⟩, if_pos hh]; simp
    · rw [if_neg (by omega), if_neg hh]
theorem zpx {place : Nat → Option (Nat × Nat)} {i off : Nat} {v : Value} {rest : List (Nat × Value)} {cells : Array Value} (hp : place i = some (off, v.cells.size)) (hb : off + v.cells.size ≤ cells.size) :
    Instr.fill place cells ((i, v) :: rest) = Instr.fill place (cells.toList.take off ++ v.cells.toList ++ cells.toList.drop (off + v.cells.size)).toArray rest := by
  obtain ⟨cells1, g1, g2, g3⟩ := zvm (place := place) (i := i) (off := off) (v := v) (rest := rest) (cells := cells) hp hb
  rw [g1]
  congr 1
  apply Array.ext'
  show cells1.toList = _
  apply List.ext_getElem?
  intro j
  rw [Array.getElem?_toList, g3 j]
  have hl1 : (cells.toList.take off).length = off := by simp; omega
  by_cases c1 : j < off
  · rw [if_neg (by omega), List.append_assoc, List.getElem?_append_left (by omega), List.getElem?_take_of_lt c1, Array.getElem?_toList]
  · by_cases c2 : j < off + v.cells.size
    · rw [if_pos ⟨by omega, c2⟩, List.append_assoc, List.getElem?_append_right (by omega), hl1, List.getElem?_append_left (by simp; omega), Array.getElem?_toList]
    · rw [if_neg (by omega), List.getElem?_append_right (by simp; omega)]
      have : (cells.toList.take off ++ v.cells.toList).length = off + v.cells.size := by simp; omega
      rw [this, List.getElem?_drop, Array.getElem?_toList]
      congr 1; omega
theorem zqz (hT : TOk P T) {t : TypeId} {place : Nat → Option (Nat × Nat)} (hp : ∀ i off ft j, PlaceOk P t i off ft → P.info? ft = some j → place i = some (off, j.size)) :
    ∀ (ps : List (Nat × Operand)) (l : List C) (K : List C → Option α), parts T sl t ps l K = some r → ∃ l', K l' = some r ∧ ∀ (f : Fz) (N : Nm) (E : List (Nat × Value)) (cells : Array Value), SlR f N sl E → CLR f N l cells.toList →
      ∃ cells' vs,(ps.mapM fun p => (opv E p.2).map fun v => (p.1, v)) = some vs ∧ Instr.fill place cells vs = some cells' ∧ CLR f N l' cells'.toList
  | [], l, K, h => ⟨l, h, fun f N E cells _ hR => ⟨cells,[], rfl, rfl, hR⟩⟩
  | (i, x) :: ps, l, K, h => by
    obtain ⟨off, ft, h1, hPl⟩ := plc_inv hT (h : plc T t i _ = some r)
    obtain ⟨td, h2, h3⟩ := zaa h1
    obtain ⟨v, h4, hx⟩ := zba h3
    obtain ⟨xs, h5, hv⟩ := vcs_inv h4
    obtain ⟨hl, h6⟩ := zb0 h5
    obtain ⟨hn, h6⟩ := zb0 h6
    have hl := Nat.eq_of_beq_eq_true hl
    obtain ⟨hb, h6⟩ := zb0 h6
    have hb := Nat.le_of_ble_eq_true hb
    obtain ⟨l', h7, H⟩ := zqz hT hp ps _ K h6
    refine ⟨l', h7, fun f N E cells hS hR => ?_⟩
    obtain ⟨u, e1, e2⟩ := hx f N E hS
    have hu := hv f N u e2 (fun c hc e => by
      subst e
      have := List.all_eq_true.1 hn _ hc
      simp [isU] at this)
    have hlen := hu.len
    obtain ⟨d, it, z, q1, q2, q3, q4⟩ := (hT _ _ h2).ok
    have hsz : u.cells.size = td.sz := by simp at hlen; omega
    have hpl := hp i off ft it hPl q2
    rw [q3, ← hsz] at hpl
    have hcl := hR.len
    have hcl : cells.size = l.length := by simpa using hcl
    have hnew : CLR f N (lay l xs off) (cells.toList.take off ++ u.cells.toList ++ cells.toList.drop (off + xs.length)) := ((hR.take _).app hu).app (hR.drop _)
    obtain ⟨cells', vs, g1, g2, g3⟩ := H f N E (cells.toList.take off ++ u.cells.toList ++ cells.toList.drop (off + xs.length)).toArray hS (by simpa using hnew)
    refine ⟨cells', (i, u) :: vs, by simp [List.mapM_cons, e1, g1], ?_, g3⟩
    rw [zpx hpl (by omega), ← g2]
    have : xs.length = u.cells.size := by omega
    rw [this]
theorem build_ok (hT : TOk P T) {t : TypeId} {ps : Array (Nat × Operand)} {K : V → Option α} (h : qop T (.build t ps) sl ob K = some r) : ∃ v, K v = some r ∧ QOk P (.build t ps) sl ob v := by
  obtain ⟨td, h1, h2⟩ := zaa (h : (T t).bind _ = some r)
  obtain ⟨hag, h2⟩ := zb0 h2
  obtain ⟨d, it, z, q1, q2, q3, q4, q5, q6, q7, q8, q9, q10⟩ := (hT _ _ h1).ok
  have hb : ∃ place : Nat → Option (Nat × Nat),(∀ i off ft j, PlaceOk P t i off ft → P.info? ft = some j → place i = some (off, j.size)) ∧ ∀ parts cells, Instr.fill place z.cells parts = some cells → P.built t parts = some cells := by
    cases d with
    | struct F =>
      have hinf : ∀ f ∈ F.toList, ∃ i, P.info? f.type = some i := by
        cases hd : td.d with
        | struct fs =>
          rw [hd] at q7
          obtain ⟨F', e, c1, c2⟩ := q7
          cases e
          intro f hf
          obtain ⟨j, hj, rfl⟩ := List.mem_iff_getElem.1 hf
          have hj2 : j < fs.length := by simpa [c1] using hj
          obtain ⟨f, f1, _, f3, i, f4, _⟩ := c2 j fs[j] (by simp)
          have : f = F.toList[j] := by
            rw [← Array.getElem?_toList, List.getElem?_eq_getElem hj] at f1
            exact (Option.some.inj f1).symm
          rw [← this]
          exact ⟨i, f4⟩
        | other => rw [hd] at hag; cases hag
        | _ => rw [hd] at q7; first | (obtain ⟨q7, _⟩ := q7; cases q7; done) | (cases q7; done)
      obtain ⟨pl, g1, g2⟩ := places (P := P) F.toList hinf
      refine ⟨(pl.toArray[·]?), fun i off ft j hP hj => ?_, fun parts cells hf => ?_⟩
      · rcases hP with ⟨fs, fd, u1, u2, u3, u4⟩ | ⟨n, ie, u1, _⟩
        · rw [q1] at u1
          cases u1
          obtain ⟨j', g3, g4⟩ := g2 i fd (by rw [Array.getElem?_toList]; exact u2)
          rw [u4, hj] at g3
          cases g3
          rw [← u3]; simpa using g4
        · rw [q1] at u1; cases u1
      · unfold Program.built
        simp only [q2, q1, q5, g1]
        exact hf
    | array m e =>
      by_cases hie : ∃ ie, P.info? e = some ie
      · obtain ⟨ie, hie⟩ := hie
        refine ⟨fun i => some (i * ie.size, ie.size), fun i off ft j hP hj => ?_, fun parts cells hf => ?_⟩
        · rcases hP with ⟨fs, fd, u1, _⟩ | ⟨n, ie', u1, u2, u3⟩
          · rw [q1] at u1; cases u1
          · rw [q1] at u1
            cases u1
            rw [hie] at hj u2
            cases hj
            cases u2
            rw [u3]
        · unfold Program.built
          simp only [q2, q1, q5, hie]
          exact hf
      · exfalso
        cases hd : td.d with
        | array n' e' =>
          rw [hd] at q7
          obtain ⟨q7, q8'⟩ := q7
          cases q7
          exact hie q8'
        | other => rw [hd] at hag; cases hag
        | _ => rw [hd] at q7; first | (obtain ⟨F', q7, _⟩ := q7; cases q7; done) | (obtain ⟨q7, _⟩ := q7; cases q7; done) | (cases q7; done)
    | _ =>
      exfalso
      cases hd : td.d <;> rw [hd] at hag q7 <;> first | (cases hag; done) | (obtain ⟨_, q7, _⟩ := q7; cases q7; done) | (obtain ⟨q7, _⟩ := q7; cases q7; done)
  obtain ⟨place, hp, hbuilt⟩ := hb
  obtain ⟨l', h3, H⟩ := zqz hT (t := t) hp ps.toList _ _ h2
  refine ⟨_, h3, fun f N E L w0 w hS hO hC => ?_⟩
  obtain ⟨cells, vs, k1, k2, k3⟩ := H f N E z.cells hS (q8 f N)
  refine ⟨.agg cells, ⟨cells.toList, by simp, k3⟩, fun n d' ty pos af g => ?_⟩
  have := zuj (P := P) (C := Cw w0 f L) (n := n) (d := d') (ty := ty) (pos := pos) (af := af) (g := g) (t := t) k1 (hbuilt _ _ k2)
  simpa using this
theorem EqIs.str {P : Program} {dp : Nat} {t : TypeId} {a b : ByteArray} (hu : P.underlying t = some .string) : EqIs P (dp + 1) t (.string a) (.string b) (decide (a = b)) := fun w => by
  rw [run_equalIn_string w dp t a b hu]
  congr 1
  by_cases e : a = b
  · simp [e]
  · simp only [e, decide_false]
    rw [beq_eq_false_iff_ne]
    exact fun h => e (zm2 h)
def vof (c : TC) (r : List Value) : Value := if c.ag then .agg r.toArray else r.headD undef
theorem zpl {t : TypeId} {c : TC} {xs r : List Value} {o : Nat} {i : TypeInfo} {n : Nat} (h : eqT P n t c = true) (hi : P.info? t = some i) (hs : i.size = c.k) (hr : (xs.drop o).take c.k = r) (hl : r.length = c.k) : PartIs P t xs.toArray o (vof c r) := by
  cases n with
  | zero => simp [eqT] at h
  | succ n =>
    unfold eqT at h
    have one : c.k = 1 → ∀ d, P.underlying t = some d → (match d with | .struct _ => true | .array _ _ => true | _ => false) = false → c.ag = false → PartIs P t xs.toArray o (vof c r) := fun hk d hu hd ha => by
      rw [hk] at hl hr
      match r, hl with
      | [v], _ =>
        have hx : xs.toArray[o]? = some v := by
          have : ((xs.drop o).take 1)[0]? = some v := by rw [hr]; rfl
          rw [List.getElem?_take] at this
          simpa using this
        unfold vof
        rw [ha]
        exact PartIs.one hu hx (by cases d <;> first | rfl | cases hd)
    have agg : ∀ d, P.underlying t = some d → (match d with | .struct _ => true | .array _ _ => true | _ => false) = true → c.ag = true → PartIs P t xs.toArray o (vof c r) := fun d hu hd ha w => by
      have hc : xs.toArray.extract o (o + c.k) = r.toArray := by
        have : c.k = o + c.k - o := by omega
        simp only [List.extract_toArray, List.extract_eq_take_drop, ← this, hr]
      unfold vof
      rw [ha]
      cases d <;> first | (cases hd; done) | (simp only [part, isAgg, run_underlying hu, Sem.run_bind, Result.andThen_ok, Sem.run_pure, sizeOf, typeInfo]; done) | (simp [part, isAgg, run_underlying hu, sizeOf, typeInfo, hi, hs]; exact hr)
    split at h
    · rename_i hu; exact one rfl _ hu rfl rfl
    · rename_i hu; exact one rfl _ hu rfl rfl
    · rename_i hu; exact one rfl _ hu rfl rfl
    · rename_i hu; exact agg _ hu rfl rfl
    · rename_i hu; exact agg _ hu rfl rfl
    · cases h
mutual
theorem zvo : ∀ (n : Nat) {t : TypeId} {c : TC}, eqT P n t c = true → ∀ (dp : Nat) (f : Fz) (r s : List Value) (x y : c.T), n ≤ dp → c.R f r x → c.R f s y → EqIs P dp t (vof c r) (vof c s) (c.beq x y)
  | 0, _, _, h => by simp [eqT] at h
  | n + 1, t, c, h => fun dp f r s x y hd hx hy => by
    obtain ⟨dq, rfl⟩ : ∃ dq, dp = dq + 1 := ⟨dp - 1, by omega⟩
    unfold eqT at h
    split at h
    · rename_i hu
      simp only [decide_eq_true_eq] at h
      subst h
      obtain rfl := (hx : r = _)
      obtain rfl := (hy : s = _)
      exact EqIs.int hu
    · rename_i hu
      obtain rfl := (hx : r = _)
      obtain rfl := (hy : s = _)
      have e : ((TC.bool).beq x y) = ((x : Bool) == y) := by
        show decide ((x : Bool) = y) = _
        cases (x : Bool) <;> cases (y : Bool) <;> rfl
      rw [e]
      exact EqIs.bool hu
    · rename_i hu
      obtain rfl := (hx : r = _)
      obtain rfl := (hy : s = _)
      exact EqIs.str hu
    · rename_i fs l hu
      simp only [Bool.and_eq_true, Bool.not_eq_true'] at h
      exact EqIs.st hu h.1 (eqF_ok n h.2 dq f r s x y (by omega) (hx : l.R f r x) (hy : l.R f s y))
    · rename_i m e l hu
      split at h
      · rename_i i hi
        simp only [Bool.and_eq_true] at h
        have := eqA_ok n h.2 dq f r s 0 r s x y (by omega) (by simp) (by simp) (hx : l.R f r x) (hy : l.R f s y) hi rfl
        intro w
        have hk : P.cellsOf e = i.size := by simp [Program.cellsOf, hi]
        show (Op.equalIn (dq + 1) t (.agg r.toArray) (.agg s.toArray)).run P w = _
        rw [run_equalIn_array w dq r.toArray s.toArray hu hi, hk, List.range_eq_range']
        exact this w
      · cases h
    · cases h
theorem eqF_ok : ∀ (n : Nat) {fs : List Field} {o : Nat} {l : TL}, eqF P n fs o l = true → ∀ (dp : Nat) (f : Fz) (xs ys : List Value) (x y : l.T), n ≤ dp → l.R f (xs.drop o) x → l.R f (ys.drop o) y → EqFs P dp xs.toArray ys.toArray fs (l.beq x y)
  | 0, _, _, _, h => by simp [eqF] at h
  | n + 1,[], o, .nil, h => fun dp f xs ys x y hd hx hy => EqFs.nil
  | n + 1, fd :: fs, o, .cons c l, h => fun dp f xs ys x y hd hx hy => by
    unfold eqF at h
    simp only [Bool.and_eq_true, Bool.not_eq_true', beq_iff_eq] at h
    obtain ⟨⟨⟨⟨h1, h2⟩, h3⟩, h4⟩, h5⟩ := h
    split at h3
    · rename_i i hi
      simp only [beq_iff_eq] at h3
      obtain ⟨r1, r2, e1, e2, e3⟩ := hx
      obtain ⟨s1, s2, e4, e5, e6⟩ := hy
      have l1 := (c.oneR e2).1
      have l2 := (c.oneR e5).1
      have d1 : xs.drop (o + c.k) = r2 := by rw [← List.drop_drop, e1, ← l1]; simp
      have d2 : ys.drop (o + c.k) = s2 := by rw [← List.drop_drop, e4, ← l2]; simp
      subst h2
      exact EqFs.cons h1 (zpl h4 hi h3 (by rw [e1, ← l1]; simp) l1) (zpl h4 hi h3 (by rw [e4, ← l2]; simp) l2) (zvo n h4 dp f r1 s1 x.1 y.1 (by omega) e2 e5) (eqF_ok n h5 dp f xs ys x.2 y.2 (by omega) (by rw [d1]; exact e3) (by rw [d2]; exact e6))
    · cases h3
  | n + 1,[], o, .cons _ _, h => by simp [eqF] at h
  | n + 1, _ :: _, o, .nil, h => by simp [eqF] at h
theorem eqA_ok : ∀ (n : Nat) {e : TypeId} {k m : Nat} {l : TL}, eqA P n e k m l = true → ∀ (dp : Nat) (f : Fz) (xs ys : List Value) (j : Nat) (r s : List Value) (x y : l.T), n ≤ dp → xs.drop (j * k) = r → ys.drop (j * k) = s → l.R f r x → l.R f s y → ∀ {i : TypeInfo}, P.info? e = some i → i.size = k → EqEs P dp e k xs.toArray ys.toArray (List.range' j m) (l.beq x y)
  | 0, _, _, _, _, h => by simp [eqA] at h
  | n + 1, e, k,0, .nil, h => fun dp f xs ys j r s x y hd hr hs hx hy i hi hk => EqEs.nil
  | n + 1, e, k, m + 1, .cons c l, h => fun dp f xs ys j r s x y hd hr hs hx hy i hi hk => by
    unfold eqA at h
    simp only [Bool.and_eq_true, beq_iff_eq] at h
    obtain ⟨⟨h1, h4⟩, h5⟩ := h
    subst hr hs
    obtain ⟨r1, r2, e1, e2, e3⟩ := hx
    obtain ⟨s1, s2, e4, e5, e6⟩ := hy
    have l1 := (c.oneR e2).1
    have l2 := (c.oneR e5).1
    have d1 : xs.drop ((j + 1) * k) = r2 := by rw [Nat.succ_mul, ← List.drop_drop, e1, h1, ← l1]; simp
    have d2 : ys.drop ((j + 1) * k) = s2 := by rw [Nat.succ_mul, ← List.drop_drop, e4, h1, ← l2]; simp
    exact EqEs.cons (zpl h4 hi (by omega) (by rw [e1, ← l1]; simp) l1) (zpl h4 hi (by omega) (by rw [e4, ← l2]; simp) l2) (zvo n h4 dp f r1 s1 x.1 y.1 (by omega) e2 e5) (eqA_ok n h5 dp f xs ys (j + 1) r2 s2 x.2 y.2 (by omega) d1 d2 e3 e6 hi hk)
  | n + 1, e, k,0, .cons _ _, h => by simp [eqA] at h
  | n + 1, e, k, m + 1, .nil, h => by simp [eqA] at h
end
theorem binOp_ok (hT : TOk P T) {o : BinOp} {t t' : TypeId} {x y : Operand} {v w : V} {K : C → Option α} (hx : Opn sl x v) (hy : Opn sl y w) (h : binOp T o t v w K = some r) : ∃ c, K c = some r ∧ QOk P (.binOp o t x y t') sl ob (.c c) := by
  unfold binOp at h
  split at h
  · rename_i a b
    have hX : ∀ f N E, SlR f N sl E → opv E x = some (.bool a) := fun f N E hS => by obtain ⟨u, e1, e2⟩ := hx f N E hS; rw [e1]; exact congrArg some e2
    have hY : ∀ f N E, SlR f N sl E → opv E y = some (.bool b) := fun f N E hS => by obtain ⟨u, e1, e2⟩ := hy f N E hS; rw [e1]; exact congrArg some e2
    obtain ⟨td, h1, h2⟩ := zaa (h : (T t).bind _ = some r)
    obtain ⟨d, z, g1, g2, g3, g4, _⟩ := zhv (hT _ _ h1)
    split at h2
    · rename_i hd
      rw [hd] at g4
      have g4 : d = .bool := g4
      subst g4
      have e : decide (a = b) = (a == b) := by cases a <;> cases b <;> rfl
      rw [e] at h2
      unfold eqB at h2
      split at h2
      · exact ⟨_, h2, fun f N E L w0 w hS hO hC => ⟨_, rfl, fun n d ty pos af g => y_beql (hX f N E hS) (hY f N E hS) g1⟩⟩
      · exact ⟨_, h2, fun f N E L w0 w hS hO hC => ⟨_, rfl, fun n d ty pos af g => y_bneq (hX f N E hS) (hY f N E hS) g1⟩⟩
      · cases h2
    · cases h2
  · rename_i xs ys
    obtain ⟨td, h1, h2⟩ := zaa (h : (T t).bind _ = some r)
    obtain ⟨he, h3⟩ := zb0 h2
    simp only [Bool.and_eq_true] at he
    obtain ⟨hag, he⟩ := he
    obtain ⟨a, h4, hal, ha⟩ := TC.mkA_inv h3
    obtain ⟨b, h5, hbl, hb⟩ := TC.mkA_inv h4
    obtain ⟨e1, e2, e3⟩ := (hT _ _ h1).eq (Nat.blt_eq.mp he)
    have key : ∀ f N E, SlR f N sl E → ∃ r s, opv E x = some (.agg r) ∧ opv E y = some (.agg s) ∧ EqIs P 10000 t (.agg r) (.agg s) (td.c.beq a b) := fun f N E hS => by
      obtain ⟨u, m1, vs, rfl, m2⟩ := hx f N E hS
      obtain ⟨u2, m3, vs2, rfl, m4⟩ := hy f N E hS
      have := zvo td.eq e2 10000 f vs vs2 a b e1 (ha f N vs m2) (hb f N vs2 m4)
      unfold vof at this
      rw [hag] at this
      exact ⟨_, _, m1, m3, this⟩
    unfold eqB at h5
    split at h5
    · exact ⟨_, h5, fun f N E L w0 w hS hO hC => ⟨_, rfl, fun n d ty pos af g => by obtain ⟨r, s, k1, k2, k3⟩ := key f N E hS; exact y_deql k1 k2 e3 k3⟩⟩
    · exact ⟨_, h5, fun f N E L w0 w hS hO hC => ⟨_, rfl, fun n d ty pos af g => by obtain ⟨r, s, k1, k2, k3⟩ := key f N E hS; exact y_dneq k1 k2 e3 k3⟩⟩
    · cases h5
  · rename_i k a k' b
    obtain ⟨hk, h1⟩ := zb0 h
    have hk := zvd hk
    subst hk
    have hX : ∀ f N E, SlR f N sl E → opv E x = some (.int k a) := fun f N E hS => by obtain ⟨u, e1, e2⟩ := hx f N E hS; rw [e1]; exact congrArg some e2
    have hY : ∀ f N E, SlR f N sl E → opv E y = some (.int k b) := fun f N E hS => by obtain ⟨u, e1, e2⟩ := hy f N E hS; rw [e1]; exact congrArg some e2
    unfold intOp at h1
    split at h1
    · exact ⟨_, h1, fun f N E L w0 w hS hO hC => ⟨_, rfl, fun n d ty pos af g => zga (hX f N E hS) (hY f N E hS) rfl⟩⟩
    · exact ⟨_, h1, fun f N E L w0 w hS hO hC => ⟨_, rfl, fun n d ty pos af g => zlz (hX f N E hS) (hY f N E hS) rfl⟩⟩
    · exact ⟨_, h1, fun f N E L w0 w hS hO hC => ⟨_, rfl, fun n d ty pos af g => y_mul (hX f N E hS) (hY f N E hS) rfl⟩⟩
    · exact ⟨_, h1, fun f N E L w0 w hS hO hC => ⟨_, rfl, fun n d ty pos af g => zhw (hX f N E hS) (hY f N E hS)⟩⟩
    · exact ⟨_, h1, fun f N E L w0 w hS hO hC => ⟨_, rfl, fun n d ty pos af g => zui (hX f N E hS) (hY f N E hS)⟩⟩
    · exact ⟨_, h1, fun f N E L w0 w hS hO hC => ⟨_, rfl, fun n d ty pos af g => zm0 (hX f N E hS) (hY f N E hS)⟩⟩
    · exact ⟨_, h1, fun f N E L w0 w hS hO hC => ⟨_, rfl, fun n d ty pos af g => zqi (hX f N E hS) (hY f N E hS)⟩⟩
    · exact ⟨_, h1, fun f N E L w0 w hS hO hC => ⟨_, rfl, fun n d ty pos af g => zh5 (hX f N E hS) (hY f N E hS)⟩⟩
    · exact ⟨_, h1, fun f N E L w0 w hS hO hC => ⟨_, rfl, fun n d ty pos af g => zje (hX f N E hS) (hY f N E hS)⟩⟩
    · obtain ⟨hk, h2⟩ := zb0 h1
      have hk := zvd hk
      subst hk
      obtain ⟨z, h3, h4⟩ := zaa h2
      exact ⟨_, h4, fun f N E L w0 w hS hO hC => ⟨_, rfl, fun n d ty pos af g => y_quoW (hX f N E hS) (hY f N E hS) h3⟩⟩
    · obtain ⟨hk, h2⟩ := zb0 h1
      have hk := zvd hk
      subst hk
      obtain ⟨z, h3, h4⟩ := zaa h2
      exact ⟨_, h4, fun f N E L w0 w hS hO hC => ⟨_, rfl, fun n d ty pos af g => y_remW (hX f N E hS) (hY f N E hS) h3⟩⟩
    · cases h1
  · rename_i a b
    have hX : ∀ f N E, SlR f N sl E → opv E x = some (.string a) := fun f N E hS => by obtain ⟨u, e1, e2⟩ := hx f N E hS; rw [e1]; exact congrArg some e2
    have hY : ∀ f N E, SlR f N sl E → opv E y = some (.string b) := fun f N E hS => by obtain ⟨u, e1, e2⟩ := hy f N E hS; rw [e1]; exact congrArg some e2
    unfold strOp at h
    split at h
    · obtain ⟨z, h3, h4⟩ := zaa h
      obtain ⟨q1, q2⟩ := zrt h3
      exact ⟨_, h4, fun f N E L w0 w hS hO hC => ⟨_, rfl, fun n d ty pos af g => zue (hX f N E hS) (hY f N E hS) q1 q2⟩⟩
    · exact ⟨_, h, fun f N E L w0 w hS hO hC => ⟨_, rfl, fun n d ty pos af g => zfr (hX f N E hS) (hY f N E hS)⟩⟩
    · exact ⟨_, h, fun f N E L w0 w hS hO hC => ⟨_, rfl, fun n d ty pos af g => zn8 (hX f N E hS) (hY f N E hS)⟩⟩
    · cases h
  · cases h
theorem zw0 (hT : TOk P T) {s d : TypeId} {sd dd : TD} {x : Operand} {v : V} {K : C → Option α} (hx : Opn sl x v) (h1 : T s = some sd) (h2 : T d = some dd) (h : conv ob sd dd v K = some r) : ∃ c, K c = some r ∧ QOk P (.convert s d x) sl ob (.c c) := by
  obtain ⟨d1, z1, g1, _, _, g2, _⟩ := zhv (hT _ _ h1)
  obtain ⟨d2, z2, g3, _, _, g4, _⟩ := zhv (hT _ _ h2)
  unfold conv at h
  split at h
  · rename_i k0 k' k n hs hd
    rw [hd] at g4
    have g4 : d2 = .int k' := g4
    subst g4
    refine ⟨_, h, fun f N E L w0 w hS hO hC => ?_⟩
    obtain ⟨u, e1, e2⟩ := hx f N E hS
    have e2 : u = .int k n := e2
    subst e2
    exact ⟨_, rfl, fun n d ty pos af g => y_i2i e1 (by rw [g1]; rfl) g3 rfl⟩
  · cases h
theorem zt2 : ∀ {l : List Operand} {K : List C → Option α}, opdC sl l K = some r → ∃ cs, K cs = some r ∧ ∀ (f : Fz) (N : Nm) (E : List (Nat × Value)), SlR f N sl E → ∃ vs, l.mapM (opv E) = some vs ∧ CLR f N cs vs
  | [], K, h => ⟨[], h, fun f N E hS => ⟨[], rfl, trivial⟩⟩
  | x :: l, K, h => by
    obtain ⟨v, h1, hx⟩ := zpn (h : opr sl x _ = some r)
    obtain ⟨c, hc, h2⟩ := zou h1
    subst hc
    obtain ⟨us, h3, H⟩ := zt2 h2
    refine ⟨c :: us, h3, fun f N E hS => ?_⟩
    obtain ⟨u, e1, e2⟩ := hx f N E hS
    obtain ⟨vs, e3, e4⟩ := H f N E hS
    exact ⟨u :: vs, by simp [List.mapM_cons, e1, e3], e2, e4⟩
theorem zux (hT : TOk P T) {o : Op} {K : V → Option α} (h : qop T o sl ob K = some r) : ∃ v, K v = some r ∧ QOk P o sl ob v := by
  cases o with
  | move x =>
    obtain ⟨v, h1, hx⟩ := zpn (h : opr sl x K = some r)
    exact ⟨v, h1, fun f N E L w0 w hS hO hC => by
      obtain ⟨u, e1, e2⟩ := hx f N E hS
      exact ⟨u, e2, fun n d ty pos af g => za9 e1⟩⟩
  | assign x =>
    obtain ⟨v, h1, hx⟩ := zpn (h : opr sl x K = some r)
    exact ⟨v, h1, fun f N E L w0 w hS hO hC => by
      obtain ⟨u, e1, e2⟩ := hx f N E hS
      exact ⟨u, e2, fun n d ty pos af g => zb2 e1⟩⟩
  | pick c x y =>
    obtain ⟨v, h1, hc⟩ := zba (h : opd sl c _ = some r)
    obtain ⟨q, hq, h2⟩ := vB_inv h1
    subst hq
    have hcv : ∀ f N E, SlR f N sl E → opv E c = some (.bool q) := fun f N E hS => by obtain ⟨u, e1, e2⟩ := hc f N E hS; rw [e1]; exact congrArg some e2
    rcases zdv h2 with ⟨rfl, h3⟩ | ⟨rfl, h3⟩
    · obtain ⟨v, h4, hx⟩ := zba h3
      exact ⟨v, h4, fun f N E L w0 w hS hO hC => by
        obtain ⟨u, e1, e2⟩ := hx f N E hS
        exact ⟨u, e2, fun n d ty pos af g => zdf (b := true) (hcv f N E hS) e1⟩⟩
    · obtain ⟨v, h4, hx⟩ := zba h3
      exact ⟨v, h4, fun f N E L w0 w hS hO hC => by
        obtain ⟨u, e1, e2⟩ := hx f N E hS
        exact ⟨u, e2, fun n d ty pos af g => zdf (b := false) (hcv f N E hS) e1⟩⟩
  | nilCheck x =>
    obtain ⟨v, h1, hx⟩ := zba (h : opd sl x _ = some r)
    obtain ⟨cs, o, h2, hp⟩ := vP_inv h1
    exact ⟨v, h2, fun f N E L w0 w hS hO hC => by
      obtain ⟨u, e1, e2⟩ := hx f N E hS
      obtain ⟨b, base, vs, rfl, _⟩ := hp f N L w0 w hO hC u e2
      exact ⟨_, e2, fun n d ty pos af g => za6 e1⟩⟩
  | load t x => exact load_ok hT h
  | fieldAddr t x i => exact zrg hT h
  | field t x i => exact field_ok hT h
  | indexAddr t x i => exact zr7 hT h
  | index t x ix =>
    obtain ⟨v, h1, hx⟩ := zba (h : opd sl x _ = some r)
    obtain ⟨v2, h2, hix⟩ := zba h1
    obtain ⟨k, n, hn, h3⟩ := zql h2
    obtain ⟨s, hs, h4⟩ := zqk h3
    obtain ⟨h5, g1⟩ := zn2 hT h4
    obtain ⟨b, h6, h7⟩ := zaa h5
    subst hn hs
    refine ⟨_, h7, fun f N E L w0 w hS hO hC => ?_⟩
    obtain ⟨u, e1, e2⟩ := hx f N E hS
    obtain ⟨u2, e3, e4⟩ := hix f N E hS
    have e2 : u = .string s := e2
    have e4 : u2 = .int k n := e4
    subst e2 e4
    exact ⟨_, rfl, fun n d ty pos af g => y_ixW e1 e3 g1 h6⟩
  | extract x i =>
    obtain ⟨v, h1, hx⟩ := zba (h : opd sl x _ = some r)
    split at h1
    · rename_i l
      obtain ⟨y, h2, h3⟩ := zaa h1
      have key : ∀ v', (∀ f N u, UR f N y u → VR f N v' u) → QOk P (.extract x i) sl ob v' := fun v' hv f N E L w0 w hS hO hC => by
        obtain ⟨u, e1, vs, rfl, e2⟩ := hx f N E hS
        obtain ⟨u', k1, k2⟩ := zul e2 h2
        exact ⟨u', hv f N u' k2, fun n d ty pos af g => zan e1 k1⟩
      cases y with
      | c z => exact ⟨_, h3, key _ fun f N u hu => hu⟩
      | a z => exact ⟨_, h3, key _ fun f N u hu => hu⟩
    · cases h1
  | build t ps => exact build_ok hT h
  | binOp o t x y t' =>
    rcases zdv (h : cond _ _ _ = some r) with ⟨hc, h⟩ | ⟨_, h⟩
    · have hc : o = .neq ∧ y = .const (.slice none 0 0) := by
        unfold isNN at hc
        split at hc
        · split at hc
          · simp only [Bool.and_eq_true, beq_iff_eq] at hc
            obtain ⟨rfl, rfl⟩ := hc
            exact ⟨rfl, rfl⟩
          · cases hc
        · cases hc
      obtain ⟨rfl, rfl⟩ := hc
      obtain ⟨v, h1, hx⟩ := zpn h
      unfold nnv at h1
      split at h1
      · rename_i xs
        obtain ⟨e, k, by_, z, h2, g1, g2, g3⟩ := zj5 hT h1
        refine ⟨_, h2, fun f N E L w0 w hS hO hC => ?_⟩
        obtain ⟨u, e1, ⟨rows, e2, e3⟩, e4⟩ := hx f N E hS
        obtain ⟨_, ao, cap, rfl, q2, q3, q4⟩ := e2.1
        have : ao.isSome = !xs.isEmpty := by
          cases xs with
          | nil =>
            have := e4 rfl
            injection this with a1 a2 a3
            subst a1
            rfl
          | cons y ys =>
            cases ao with
            | none => rw [q3 rfl] at e3; exact e3.elim
            | some _ => rfl
        rw [← this]
        exact ⟨_, rfl, fun n d ty pos af g => y_slNeq e1 g1⟩
      · cases h1
    obtain ⟨v, h1, hx⟩ := zba h
    obtain ⟨w, h2, hy⟩ := zba h1
    obtain ⟨c, h3, h4⟩ := binOp_ok (P := P) (ob := ob) (t' := t') hT hx hy h2
    exact ⟨_, h3, h4⟩
  | unOp o t x =>
    obtain ⟨v, h1, hx⟩ := zba (h : opd sl x _ = some r)
    unfold un at h1
    split at h1
    · refine ⟨_, h1, fun f N E L w0 w hS hO hC => ?_⟩
      obtain ⟨u, e1, e2⟩ := hx f N E hS
      have e2 : u = .bool _ := e2
      subst e2
      exact ⟨_, rfl, fun n d ty pos af g => zku e1⟩
    · refine ⟨_, h1, fun f N E L w0 w hS hO hC => ?_⟩
      obtain ⟨u, e1, e2⟩ := hx f N E hS
      have e2 : u = .int _ _ := e2
      subst e2
      exact ⟨_, rfl, fun n d ty pos af g => y_neg e1 rfl⟩
    · cases h1
  | convert s d x =>
    obtain ⟨v, h1, hx⟩ := zba (h : opd sl x _ = some r)
    obtain ⟨sd, h2, h3⟩ := zaa h1
    obtain ⟨dd, h4, h5⟩ := zaa h3
    obtain ⟨c, h6, h7⟩ := zw0 hT hx h2 h4 h5
    exact ⟨_, h6, h7⟩
  | slice t x lo hi mx =>
    cases mx with
    | none => exact slice_ok hT h
    | some _ => cases h
  | makeFunc fn first cs =>
    simp only [qop] at h
    split at h
    · rename_i gn hf
      obtain ⟨l, h1, H⟩ := zt2 h
      have e1 : first = #[] := by apply Array.ext'; simpa using hf
      subst e1
      refine ⟨_, h1, fun f N E L w0 w hS hO hC => ?_⟩
      obtain ⟨vs, q1, q2⟩ := H f N E hS
      refine ⟨.func (.func gn) #[] vs.toArray, ?_, fun n d ty pos af g => by have := zos (P := P) (C := Cw w0 f L) (n := n) (d := d) (ty := ty) (pos := pos) (af := af) (g := g) (gn := gn) q1; simpa using this⟩
      split
      · match vs, q2 with
        | [], _ => rfl
      · exact ⟨vs, rfl, q2⟩
    · cases h
  | call c =>
    obtain ⟨callee, args, ats⟩ := c
    simp only [qop] at h
    split at h
    · rename_i x t ha ht
      obtain ⟨v, h1, hx⟩ := zba h
      obtain ⟨n, h2, h3⟩ := len_ok hT hx h1
      have e1 : args = #[x] := by apply Array.ext'; simpa using ha
      have e2 : ats = #[t] := by apply Array.ext'; simpa using ht
      subst e1 e2
      exact ⟨_, h2, h3⟩
    · cases h
  | _ => cases h
end
end Go.V
