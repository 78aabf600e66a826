/-
  Walks and laws of this seat.
-/
import Derived.Test.YtdjjeahiomackaaGreatVB
namespace Go.V
set_option linter.unusedVariables false
set_option linter.unusedSimpArgs false
set_option linter.unusedSectionVars false
open Go.RowKit Go.Sl
variable [F0]
def DsOk (P : Program) : Ds → TypeDesc → Prop
  | .int k, d => d = .int k
  | .bool, d => d = .bool
  | .str, d => d = .string
  | .slice e, d => d = .slice e
  | .struct fs, d => ∃ F : Array Field, d = .struct F ∧ F.size = fs.length ∧ ∀ (i : Nat) (p : Nat × TypeId), fs[i]? = some p → ∃ f : Field, F[i]? = some f ∧ f.offset = p.1 ∧ f.type = p.2 ∧ ∃ i, P.info? f.type = some i ∧ i.size ≠ 0
  | .array n e, d => d = .array n e ∧ ∃ i, P.info? e = some i
  | .other, _ => True
mutual
/-- Are values of a type held against each other as its code's data? -/
def eqT (P : Program) : Nat → TypeId → TC → Bool
  | 0, _, _ => false
  | n + 1, t, c => match P.underlying t, c with
    | some (.int k), .int k' => decide (k = k')
    | some .bool, .bool => true
    | some .string, .str => true
    | some (.struct fs), .st l => !P.stoodInHeld t && eqF P n fs.toList 0 l
    | some (.array m e), .st l => match P.info? e with
      | some i => Nat.blt 0 i.size && eqA P n e i.size m l
      | none => false
    | _, _ => false
def eqF (P : Program) : Nat → List Field → Nat → TL → Bool
  | 0, _, _, _ => false
  | _ + 1,[], _, .nil => true
  | n + 1, fd :: fs, o, .cons c l => !(fd.name == "_") && fd.offset == o && (match P.info? fd.type with
    | some i => i.size == c.k
    | none => false) && eqT P n fd.type c && eqF P n fs (o + c.k) l
  | _ + 1, _, _, _ => false
def eqA (P : Program) : Nat → TypeId → Nat → Nat → TL → Bool
  | 0, _, _, _, _ => false
  | _ + 1, _, _,0, .nil => true
  | n + 1, e, k, m + 1, .cons c l => k == c.k && eqT P n e c && eqA P n e k m l
  | _ + 1, _, _, _, _ => false
end
structure TDok (P : Program) (t : TypeId) (td : TD) : Prop where
  eq : 0 < td.eq → td.eq ≤ 10000 ∧ eqT P td.eq t td.c = true ∧ P.eqGuardType P.depth t = false
  ok : ∃ d i z, P.underlying t = some d ∧ P.info? t = some i ∧ i.size = td.sz ∧ i.bytes = td.by_ ∧ i.zero = some z ∧ Agg d = td.ag ∧ DsOk P td.d d ∧ (∀ f N, CLR f N td.z z.cells.toList) ∧ td.z.length = td.sz ∧ 0 < td.sz ∧ td.c.ag = td.ag ∧ td.c.k = td.sz ∧ z.cells.size = td.sz ∧ (∀ x ∈ z.cells.toList, x.oneCell' = true)
def TOk (P : Program) (T : Nat → Option TD) : Prop := ∀ t td, T t = some td → TDok P t td
def zB : C → Value → Bool
  | .b x, .bool y => x == y
  | .i k n, .int k' n' => decide (k = k') && decide (n = n')
  | .s x, .string y => x.data.toList.isEmpty && y.data.toList.isEmpty
  | .nl, .slice none l c => l == 0 && c == 0
  | .nf, .nilFunc => true
  | _, _ => false
def zsB : List C → List Value → Bool
  | [],[] => true
  | c :: l, v :: r => zB c v && v.oneCell' && zsB l r
  | _, _ => false
theorem zB_ok {f : Fz} {N : Nm} {c : C} {v : Value} (h : zB c v = true) : CR f N c v := by
  unfold zB at h
  split at h
  · simp only [beq_iff_eq] at h; subst h; rfl
  · simp only [Bool.and_eq_true, decide_eq_true_eq] at h; obtain ⟨rfl, rfl⟩ := h; rfl
  · rename_i x y
    simp only [Bool.and_eq_true, List.isEmpty_iff] at h
    have hx : x = y := by
      obtain ⟨⟨x⟩⟩ := x
      obtain ⟨⟨y⟩⟩ := y
      simp at h
      obtain ⟨rfl, rfl⟩ := h
      rfl
    subst hx; rfl
  · simp only [Bool.and_eq_true, beq_iff_eq] at h; obtain ⟨rfl, rfl⟩ := h; rfl
  · rfl
  · cases h
theorem zub {f : Fz} {N : Nm} : ∀ {l : List C} {r : List Value}, zsB l r = true → CLR f N l r ∧ ∀ x ∈ r, x.oneCell' = true
  | [],[], _ => ⟨trivial, by simp⟩
  | c :: l, v :: r, h => by
    simp only [zsB, Bool.and_eq_true] at h
    obtain ⟨h1, h2⟩ := zub (f := f) (N := N) h.2
    exact ⟨⟨zB_ok h.1.1, h1⟩, fun x hx => by
      rcases List.mem_cons.1 hx with rfl | hx
      · exact h.1.2
      · exact h2 x hx⟩
  | [], _ :: _, h => by cases h
  | _ :: _,[], h => by cases h
def fsB (P : Program) : List (Nat × TypeId) → List Field → Bool
  | [],[] => true
  | p :: l, f :: r => f.offset == p.1 && f.type == p.2 && (match P.info? f.type with | some i => !(i.size == 0) | none => false) && fsB P l r
  | _, _ => false
theorem fsB_ok {P : Program} : ∀ {l : List (Nat × TypeId)} {r : List Field}, fsB P l r = true → r.length = l.length ∧ ∀ (i : Nat) (p : Nat × TypeId), l[i]? = some p → ∃ f : Field, r[i]? = some f ∧ f.offset = p.1 ∧ f.type = p.2 ∧ ∃ i, P.info? f.type = some i ∧ i.size ≠ 0
  | [],[], _ => ⟨rfl, fun i p h => by simp at h⟩
  | p :: l, f :: r, h => by
    simp only [fsB, Bool.and_eq_true, beq_iff_eq] at h
    obtain ⟨⟨⟨h1, h2⟩, h3⟩, h4⟩ := h
    obtain ⟨g1, g2⟩ := fsB_ok h4
    refine ⟨by simp [g1], fun i q hq => ?_⟩
    cases i with
    | zero =>
      simp only [List.getElem?_cons_zero, Option.some.injEq] at hq
      subst hq
      refine ⟨f, rfl, h1, h2, ?_⟩
      split at h3
      · rename_i i hi; exact ⟨i, hi, by simpa using h3⟩
      · cases h3
    | succ i => simpa using g2 i q (by simpa using hq)
  | [], _ :: _, h => by cases h
  | _ :: _,[], h => by cases h
def dsB (P : Program) : Ds → TypeDesc → Bool
  | .int k, .int k' => decide (k' = k)
  | .bool, .bool => true
  | .str, .string => true
  | .slice e, .slice e' => e' == e
  | .struct fs, .struct F => fsB P fs F.toList
  | .array n e, .array n' e' => n' == n && e' == e && (P.info? e).isSome
  | .other, _ => true
  | _, _ => false
theorem dsB_ok {P : Program} {x : Ds} {d : TypeDesc} (h : dsB P x d = true) : DsOk P x d := by
  unfold dsB at h
  split at h
  · simp only [decide_eq_true_eq] at h; subst h; rfl
  · rfl
  · rfl
  · simp only [beq_iff_eq] at h; subst h; rfl
  · obtain ⟨g1, g2⟩ := fsB_ok h
    exact ⟨_, rfl, by simpa using g1, fun i p hp => by simpa using g2 i p hp⟩
  · simp only [Bool.and_eq_true, beq_iff_eq] at h
    obtain ⟨⟨rfl, rfl⟩, h3⟩ := h
    exact ⟨rfl, Option.isSome_iff_exists.mp h3⟩
  · trivial
  · cases h
def aggB : TypeDesc → Bool
  | .struct _ => true
  | .array _ _ => true
  | _ => false
theorem aggB_eq (d : TypeDesc) : Agg d = aggB d := by cases d <;> simp [Agg, aggB]
def tdB (P : Program) (p : Nat × TD) : Bool := match P.underlying p.1, P.info? p.1 with
  | some d, some i => match i.zero with
    | some z => i.size == p.2.sz && i.bytes == p.2.by_ && aggB d == p.2.ag && dsB P p.2.d d && zsB p.2.z z.cells.toList && p.2.z.length == p.2.sz && p.2.c.ag == p.2.ag && p.2.c.k == p.2.sz && z.cells.size == p.2.sz && Nat.blt 0 p.2.sz && (p.2.eq == 0 || (Nat.ble p.2.eq 10000 && eqT P p.2.eq p.1 p.2.c && !P.eqGuardType P.depth p.1))
    | none => false
  | _, _ => false
theorem tdB_ok {P : Program} {t : Nat} {td : TD} (h : tdB P (t, td) = true) : TDok P t td := by
  unfold tdB at h
  split at h
  · rename_i d i h1 h2
    split at h
    · rename_i z h3
      simp only [Bool.and_eq_true, beq_iff_eq] at h
      obtain ⟨⟨⟨⟨⟨⟨⟨⟨⟨⟨e1, e2⟩, e3⟩, e4⟩, e5⟩, e6⟩, e7⟩, e8⟩, e9⟩, e10⟩, e11⟩ := h
      refine ⟨fun h0 => ?_, d, i, z, h1, h2, e1, e2, h3,(aggB_eq d).trans e3, dsB_ok e4, fun f N => (zub e5).1, e6, Nat.blt_eq.mp e10, e7, e8, e9,(zub (f := fun _ => none) (N := fun _ => none) e5).2⟩
      simp only [Bool.or_eq_true, Bool.and_eq_true, beq_iff_eq, Bool.not_eq_true'] at e11
      rcases e11 with e11 | ⟨⟨e11, e12⟩, e13⟩
      · rw [e11] at h0; cases h0
      · exact ⟨Nat.le_of_ble_eq_true e11, e12, e13⟩
    · cases h
  · cases h
def tOf : List (Nat × TD) → Nat → Option TD
  | [], _ => none
  | p :: r, t => cond (Nat.beq p.1 t) (some p.2) (tOf r t)
theorem zdl {P : Program} : ∀ {l : List (Nat × TD)}, l.all (tdB P) = true → TOk P (tOf l)
  | [], _, t, td, h => by cases h
  | p :: l, hl, t, td, h => by
    simp only [List.all_cons, Bool.and_eq_true] at hl
    simp only [tOf] at h
    cases q : Nat.beq p.1 t with
    | true =>
      rw [q] at h
      obtain rfl := Option.some.inj h
      have := Nat.eq_of_beq_eq_true q
      subst this
      exact tdB_ok hl.1
    | false => rw [q] at h; exact zdl hl.2 t td h
def OR (f : Fz) (N : Nm) (j : Nat) : Ob → Ent → Prop
  | .bx cs, e => ∃ b vs t, N j = some (.pointer (some ⟨b,0, none⟩)) ∧ e = .blk b (.cells (List.toArray vs) t) ∧ CLR f N cs vs
  | .ow et c xs, e => ∃ v rows, N j = some v ∧ e = .row v et c.k rows ∧ RW c.ty f rows xs
  | .fz c xs, _ => ∃ v, N j = some v ∧ TS c f v xs
  | .it s p, e => ∃ b, N j = some (.pointer (some ⟨b,0, none⟩)) ∧ e = .blk b (.stringIter s p)
  | .fb cs, _ => ∃ b vs t, N j = some (.pointer (some ⟨b,0, none⟩)) ∧ f b = some (.cells (List.toArray vs) t) ∧ CLR f N cs vs
  | .me g l, _ => ∃ b vs t cv, N j = some (.pointer (some ⟨b,0, none⟩)) ∧ f b = some (.cells #[cv] t) ∧ cv = .func (.func g) #[] (List.toArray (vs ++ [.pointer (some ⟨b,0, none⟩)])) ∧ CLR f N l vs
  | .no, _ => True
def OLR (f : Fz) (N : Nm) : List Ob → List Ent → Prop
  | [], _ => Fz.le f00 f
  | x :: r, e :: L => OR f N r.length x e ∧ OLR f N r L
  | _, _ => False
section
variable {f f' : Fz} {N M : Nm}
theorem OR.le (hf : Fz.le f f') (hN : Nm.le N M) {j : Nat} {x : Ob} {e : Ent} (h : OR f N j x e) : OR f' M j x e := by
  cases x with
  | bx cs => obtain ⟨b, vs, t, h1, h2, h3⟩ := h; exact ⟨b, vs, t, hN _ _ h1, h2, h3.le hf hN⟩
  | ow et c xs => obtain ⟨v, rows, h1, h2, h3⟩ := h; exact ⟨v, rows, hN _ _ h1, h2, h3.le hf⟩
  | fz c xs => obtain ⟨v, h1, h2⟩ := h; exact ⟨v, hN _ _ h1, h2.le hf⟩
  | it s p => obtain ⟨b, h1, h2⟩ := h; exact ⟨b, hN _ _ h1, h2⟩
  | fb cs => obtain ⟨b, vs, t, h1, h2, h3⟩ := h; exact ⟨b, vs, t, hN _ _ h1, hf _ _ h2, h3.le hf hN⟩
  | me g l => obtain ⟨b, vs, t, cv, h1, h2, h3, h4⟩ := h; exact ⟨b, vs, t, cv, hN _ _ h1, hf _ _ h2, h3, h4.le hf hN⟩
  | no => trivial
theorem OLR.f0 : ∀ {ob : List Ob} {L : List Ent}, OLR f N ob L → Fz.le f00 f
  | [], _, h => h
  | _ :: _, _ :: _, ⟨_, h⟩ => OLR.f0 h
theorem OLR.le (hf : Fz.le f f') (hN : Nm.le N M) : ∀ {ob : List Ob} {L : List Ent}, OLR f N ob L → OLR f' M ob L
  | [], _, h => Fz.le.trans h hf
  | _ :: _, _ :: _, ⟨h1, h2⟩ => ⟨h1.le hf hN, OLR.le hf hN h2⟩
theorem OLR.len : ∀ {ob : List Ob} {L : List Ent}, OLR f N ob L → ob.length ≤ L.length
  | [], _, _ => Nat.zero_le _
  | _ :: _, _ :: _, ⟨_, h2⟩ => by simpa using OLR.len h2
theorem OLR.get : ∀ {ob : List Ob} {L : List Ent} {j : Nat} {x : Ob}, OLR f N ob L → og ob j = some x → j < ob.length ∧ ∃ e, L[ob.length - 1 - j]? = some e ∧ OR f N j x e
  | y :: r, e :: L, j, x, ⟨h1, h2⟩, h => by
    simp only [og] at h
    cases q : Nat.beq r.length j with
    | true =>
      rw [q] at h
      obtain rfl := Option.some.inj h
      have := Nat.eq_of_beq_eq_true q
      subst this
      exact ⟨by simp, e, by simp, h1⟩
    | false =>
      rw [q] at h
      obtain ⟨g1, e', g2, g3⟩ := OLR.get h2 h
      refine ⟨by simp; omega, e', ?_, g3⟩
      have : (y :: r).length - 1 - j = (r.length - 1 - j) + 1 := by simp; omega
      rw [this]; simpa using g2
  | [], _, _, _, _, h => by cases h
  | _ :: _,[], _, _, h, _ => h.elim
theorem zao : ∀ (ob : List Ob) (j : Nat) (x : Ob),(oset ob j x).length = ob.length
  | [], _, _ => rfl
  | y :: r, j, x => by
    simp only [oset]
    cases Nat.beq r.length j <;> simp [zao]
theorem OLR.set : ∀ {ob : List Ob} {L : List Ent} {j : Nat} {x : Ob} {e : Ent}, OLR f N ob L → OR f N j x e → OLR f N (oset ob j x) (L.set (ob.length - 1 - j) e) ∨ ob.length ≤ j
  | [], _, j, x, e, _, _ => .inr (by simp)
  | y :: r, d :: L, j, x, e, ⟨h1, h2⟩, h => by
    simp only [oset]
    cases q : Nat.beq r.length j with
    | true =>
      have := Nat.eq_of_beq_eq_true q
      subst this
      refine .inl ?_
      simp only [cond_true, List.length_cons, Nat.add_sub_cancel, Nat.sub_self, List.set_cons_zero]
      exact ⟨h, h2⟩
    | false =>
      have hne : r.length ≠ j := fun e => by rw [e] at q; simp at q
      rcases OLR.set h2 h with g | g
      · by_cases hj : r.length ≤ j
        · exact .inr (by simp; omega)
        · refine .inl ?_
          have : (y :: r).length - 1 - j = (r.length - 1 - j) + 1 := by simp; omega
          rw [this]
          exact ⟨by rw [zao]; exact h1, g⟩
      · exact .inr (by simp; omega)
theorem OLR.put {ob : List Ob} {L : List Ent} {j : Nat} {x : Ob} {e : Ent} (h : OLR f N ob L) (hj : j < ob.length) (hx : OR f N j x e) : OLR f N (oset ob j x) (L.set (ob.length - 1 - j) e) := by
  rcases h.set hx with g | g
  · exact g
  · omega
theorem OLR.say : ∀ {ob : List Ob} {L : List Ent} {j : Nat} {x : Ob}, OLR f N ob L → (∀ e, L[ob.length - 1 - j]? = some e → OR f N j x e) → OLR f N (oset ob j x) L
  | [], _, j, x, h, _ => h
  | y :: r, d :: L, j, x, ⟨h1, h2⟩, h => by
    simp only [oset]
    cases q : Nat.beq r.length j with
    | true =>
      have := Nat.eq_of_beq_eq_true q
      subst this
      exact ⟨h d (by simp), h2⟩
    | false =>
      have hne : r.length ≠ j := fun e => by rw [e] at q; simp at q
      refine ⟨by rw [zao]; exact h1, ?_⟩
      by_cases hj : r.length < j
      · have : oset r j x = r := by
          clear h h1 h2 q hne
          induction r with
          | nil => rfl
          | cons z r ih =>
            simp only [oset]
            have : Nat.beq r.length j = false := nbeq (by simp at hj; omega)
            rw [this]
            show z :: oset r j x = z :: r
            rw [ih (by simp at hj; omega)]
        rw [this]; exact h2
      · refine OLR.say h2 fun e he => h e ?_
        have : (y :: r).length - 1 - j = (r.length - 1 - j) + 1 := by simp; omega
        rw [this]; simpa using he
def SlR (f : Fz) (N : Nm) (sl : List (Nat × V)) (E : List (Nat × Value)) : Prop := ∀ t v, lk sl t = some v → ∃ u, Sl.look E t = some u ∧ VR f N v u
theorem SlR.le (hf : Fz.le f f') (hN : Nm.le N M) {sl : List (Nat × V)} {E : List (Nat × Value)} (h : SlR f N sl E) : SlR f' M sl E := fun t v hv => by
  obtain ⟨u, h1, h2⟩ := h t v hv
  exact ⟨u, h1, h2.le hf hN⟩
theorem SlR.cons {sl : List (Nat × V)} {E : List (Nat × Value)} {d : Nat} {v : V} {u : Value} (h : SlR f N sl E) (hv : VR f N v u) : SlR f N ((d, v) :: sl) ((d, u) :: E) := fun t w hw => by
  simp only [lk] at hw
  cases q : Nat.beq d t with
  | true =>
    rw [q] at hw
    obtain rfl := Option.some.inj hw
    exact ⟨u, by simp [Sl.look, q], hv⟩
  | false =>
    rw [q] at hw
    obtain ⟨u', h1, h2⟩ := h t w hw
    exact ⟨u', by simp [Sl.look, q, h1], h2⟩
theorem SlR.say {sl : List (Nat × V)} {E : List (Nat × Value)} {d : Nat} {v : V} {u : Value} (h : SlR f N sl E) (hd : Sl.look E d = some u) (hv : VR f N v u) : SlR f N ((d, v) :: sl) E := fun t w hw => by
  simp only [lk] at hw
  cases q : Nat.beq d t with
  | true =>
    rw [q] at hw
    obtain rfl := Option.some.inj hw
    have := Nat.eq_of_beq_eq_true q
    subst this
    exact ⟨u, hd, hv⟩
  | false => rw [q] at hw; exact h t w hw
theorem zaa {α β : Type} {x : Option α} {K : α → Option β} {r : β} (h : x.bind K = some r) : ∃ y, x = some y ∧ K y = some r := Option.bind_eq_some_iff.1 h
theorem zvz {v : Value} {c : C} (h : cst1 v = some c) : CR f N c v := by
  unfold cst1 at h
  split at h <;> first | (cases h; done) | (obtain rfl := Option.some.inj h; rfl)
theorem zvy : ∀ {l : List Value} {cs : List C}, cstL l = some cs → CLR f N cs l
  | [], cs, h => by obtain rfl := Option.some.inj h; trivial
  | v :: l, cs, h => by
    obtain ⟨c, h1, h2⟩ := zaa (h : (cst1 v).bind _ = some cs)
    obtain ⟨r, h3, h4⟩ := zaa h2
    obtain rfl := Option.some.inj h4
    exact ⟨zvz h1, zvy h3⟩
theorem cst_ok {v : Value} {c : V} (h : cst v = some c) : VR f N c v := by
  unfold cst at h
  split at h
  · rename_i cs
    obtain ⟨l, h1, h2⟩ := zaa h
    obtain rfl := Option.some.inj h2
    exact ⟨cs.toList, by simp, zvy h1⟩
  · obtain ⟨c, h1, h2⟩ := zaa h
    obtain rfl := Option.some.inj h2
    exact zvz h1
variable {α : Type}
def Opn (sl : List (Nat × V)) (x : Operand) (v : V) : Prop := ∀ (f : Fz) (N : Nm) (E : List (Nat × Value)), SlR f N sl E → ∃ u, opv E x = some u ∧ VR f N v u
theorem zpn {sl : List (Nat × V)} {x : Operand} {K : V → Option α} {r : α} (h : opr sl x K = some r) : ∃ v, K v = some r ∧ Opn sl x v := by
  cases x with
  | tmp t =>
    obtain ⟨v, h1, h2⟩ := zaa (h : (lk sl t).bind K = some r)
    exact ⟨v, h2, fun f N E hs => hs t v h1⟩
  | const c =>
    obtain ⟨v, h1, h2⟩ := zaa (h : (cst c).bind K = some r)
    exact ⟨v, h2, fun f N E hs => ⟨c, rfl, cst_ok h1⟩⟩
  | global g => cases h
  | func g => exact ⟨_, h, fun f N E hs => ⟨_, rfl, rfl⟩⟩
theorem nsn_ok {v : V} {u : Value} (h : VR f N v u) : VR f N (nsn v) u := by
  unfold nsn
  split
  · exact (h : CR f N (.sn _ _) u).1
  · exact h
theorem zba {sl : List (Nat × V)} {x : Operand} {K : V → Option α} {r : α} (h : opd sl x K = some r) : ∃ v, K v = some r ∧ Opn sl x v := by
  cases x with
  | tmp t =>
    obtain ⟨v, h1, h2⟩ := zaa (h : (lk sl t).bind (fun v => K (nsn v)) = some r)
    exact ⟨_, h2, fun f N E hs => by
      obtain ⟨u, e1, e2⟩ := hs t v h1
      exact ⟨u, e1, nsn_ok e2⟩⟩
  | const c =>
    obtain ⟨v, h1, h2⟩ := zaa (h : (cst c).bind K = some r)
    exact ⟨v, h2, fun f N E hs => ⟨c, rfl, cst_ok h1⟩⟩
  | global g => cases h
  | func g => exact ⟨_, h, fun f N E hs => ⟨_, rfl, rfl⟩⟩
theorem zql {v : V} {K : IntKind → Int → Option α} {r : α} (h : vI v K = some r) : ∃ k n, v = .c (.i k n) ∧ K k n = some r := by
  unfold vI at h; split at h
  · exact ⟨_, _, rfl, h⟩
  · cases h
theorem vB_inv {v : V} {K : Bool → Option α} {r : α} (h : vB v K = some r) : ∃ q, v = .c (.b q) ∧ K q = some r := by
  unfold vB at h; split at h
  · exact ⟨_, rfl, h⟩
  · cases h
theorem zqk {v : V} {K : ByteArray → Option α} {r : α} (h : vS v K = some r) : ∃ q, v = .c (.s q) ∧ K q = some r := by
  unfold vS at h; split at h
  · exact ⟨_, rfl, h⟩
  · cases h
theorem zou {v : V} {K : C → Option α} {r : α} (h : vC v K = some r) : ∃ q, v = .c q ∧ K q = some r := by
  unfold vC at h; split at h
  · exact ⟨_, rfl, h⟩
  · cases h
theorem zm1 {ag : Bool} {v : V} {K : List C → Option α} {r : α} (h : vag ag v K = some r) : ∃ cs, K cs = some r ∧ ((ag = true ∧ v = .a cs) ∨ (ag = false ∧ ∃ x, v = .c x ∧ cs = [x])) := by
  unfold vag at h
  split at h
  · exact ⟨_, h, .inl ⟨rfl, rfl⟩⟩
  · exact ⟨_, h, .inr ⟨rfl, _, rfl, rfl⟩⟩
  · cases h
theorem zdv {c : Bool} {x y : Option α} {r : α} (h : cond c x y = some r) : (c = true ∧ x = some r) ∨ (c = false ∧ y = some r) := by
  cases c with
  | true => exact .inl ⟨rfl, h⟩
  | false => exact .inr ⟨rfl, h⟩
theorem zb0 {c : Bool} {x : Option α} {r : α} (h : cond c x none = some r) : c = true ∧ x = some r := by
  rcases zdv h with h | ⟨_, h⟩
  · exact h
  · cases h
end
end Go.V
