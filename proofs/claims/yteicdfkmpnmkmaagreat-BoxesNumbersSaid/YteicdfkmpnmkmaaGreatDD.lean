/-
  Walks and laws of this seat; the base is the text Base.
-/
import Derived.Test.YteicdfkmpnmkmaaGreatDC
namespace Go.D
open Go.RowKit Go.Sl
/-! ## Slots and operands -/
structure SL (N : Nat) (σ : Sg) (T : Nat → Option V) (a : Act) : Prop where
  size : a.tmps.size = N
  defers : a.defers = []
  at_ : ∀ t v, T t = some v → ∃ u, a.tmps[t]? = some u ∧ CV σ v u
theorem SL.le {N : Nat} {σ τ : Sg} {T : Nat → Option V} {a : Act} (h : SL N σ T a) (hl : σ.le τ) : SL N τ T a := ⟨h.size, h.defers, fun t v e => by
  obtain ⟨u, h1, h2⟩ := h.at_ t v e
  exact ⟨u, h1, h2.le hl⟩⟩
def setT (T : Nat → Option V) (d : Option Tmp) (v : V) : Nat → Option V := fun t => if some t = d then some v else T t
theorem SL.put {N : Nat} {σ : Sg} {T : Nat → Option V} {a : Act} {d : Option Tmp} {v : V} {u : Value} (h : SL N σ T a) (hd : ∀ t, d = some t → t < N) (hv : CV σ v u) : SL N σ (setT T d v) (a.put d u) := by
  cases d with
  | none => exact ⟨h.size, h.defers, fun t w e => h.at_ t w (by simpa [setT] using e)⟩
  | some d =>
    refine ⟨by simp [Act.put, h.size], h.defers, fun t w e => ?_⟩
    have hlt := hd d rfl
    unfold setT at e
    by_cases q : some t = some d
    · rw [if_pos q] at e
      cases q; cases e
      exact ⟨u, by simp [Act.put, h.size, hlt], hv⟩
    · rw [if_neg q] at e
      obtain ⟨u', h1, h2⟩ := h.at_ t w e
      refine ⟨u', ?_, h2⟩
      have : d ≠ t := fun q' => q (by rw [q'])
      simp [Act.put, this, h1]
theorem CV_undef {σ : Sg} : CV σ unit undef := ⟨[], rfl, trivial⟩

/-- A constant's value. -/
def KV (c : Value) (v : V) : Prop := ∀ σ, CV σ v c
def opF (T : Nat → Option V) (x : Operand) (v : V) : Prop := match x with
  | .tmp t => T t = some v
  | .const c => KV c v
  | .func f => v = .c (.fn f [] [])
  | .global _ => False

section
variable {α : Type}
theorem const1_inv {c : Value} {k : C → Option α} {r : α} (h : const1 c k = some r) : ∃ x, (∀ σ, CC σ x c) ∧ k x = some r := by
  unfold const1 at h
  split at h
  · rw [fB_eq] at h; exact ⟨.b _, fun _ => rfl, h⟩
  · rw [fI_eq] at h; exact ⟨.i _ _, fun _ => rfl, h⟩
  · rw [byteL_eq] at h; exact ⟨.s _, fun _ => ⟨_, rfl, rfl⟩, h⟩
  · exact ⟨.pn, fun _ => rfl, h⟩
  · exact ⟨.sn, fun _ => rfl, h⟩
  · exact ⟨.mn, fun _ => rfl, h⟩
  · exact ⟨.nf, fun _ => rfl, h⟩
  · exact nn h
theorem constL_inv : ∀ (cs : List Value) (k : List C → Option α) (r : α), (List.rec (fun k => k []) (fun c _ ih k => const1 c fun v => ih fun l => k (v :: l)) cs : (List C → Option α) → Option α) k = some r → ∃ l, (∀ σ, CL σ l cs) ∧ k l = some r
  | [], k, r, h => ⟨[], fun _ => trivial, h⟩
  | c :: cs, k, r, h => by
    obtain ⟨x, h1, h⟩ := const1_inv (h : const1 c _ = some r)
    obtain ⟨l, h2, h3⟩ := constL_inv cs _ _ h
    exact ⟨x :: l, fun σ => ⟨h1 σ, h2 σ⟩, h3⟩
theorem constK_inv {c : Value} {k : V → Option α} {r : α} (h : constK c k = some r) : ∃ v, KV c v ∧ k v = some r := by
  unfold constK at h
  split at h
  · rename_i cs
    obtain ⟨l, h1, h2⟩ := constL_inv cs.toList _ _ h
    exact ⟨.a l, fun σ => ⟨cs.toList, rfl, h1 σ⟩, h2⟩
  · obtain ⟨x, h1, h2⟩ := const1_inv h
    exact ⟨.c x, fun σ => h1 σ, h2⟩
theorem opd_inv {m : Nat} {t : Tr V} {lc : Ls} {x : Operand} {k : V → Option α} {r : α} (h : opd m t lc x k = some r) : ∃ v, opF (opT m t lc) x v ∧ k v = some r := by
  cases x with
  | tmp x => obtain ⟨v, h1, h2⟩ := oc_inv (h : oc (opT m t lc x) k = some r); exact ⟨v, h1, h2⟩
  | const c => exact constK_inv h
  | global g => exact nn h
  | func f => exact ⟨_, rfl, h⟩
/-- Operands, one by one. -/
def opFs (T : Nat → Option V) : List Operand → List V → Prop
  | [], [] => True
  | x :: l, v :: r => opF T x v ∧ opFs T l r
  | _, _ => False
theorem opdL_inv {m : Nat} {t : Tr V} {lc : Ls} : ∀ {l : List Operand} {k : List V → Option α} {r : α}, opdL m t lc l k = some r → ∃ vs, opFs (opT m t lc) l vs ∧ k vs = some r
  | [], k, r, h => ⟨[], trivial, h⟩
  | x :: l, k, r, h => by
    obtain ⟨v, h1, h⟩ := opd_inv (h : opd m t lc x (fun v => opdL m t lc l fun vs => k (v :: vs)) = some r)
    obtain ⟨vs, h2, h3⟩ := opdL_inv h
    exact ⟨v :: vs, ⟨h1, h2⟩, h3⟩
end
def tmpsOf (x : Operand) : List Nat := match x with
  | .tmp t => [t]
  | _ => []
def opTmps (o : Op) : List Nat := o.operands.toList.flatMap tmpsOf
theorem opF.mono {T T2 : Nat → Option V} {x : Operand} {v : V} (h : opF T x v) (ht : ∀ t ∈ tmpsOf x, T2 t = T t) : opF T2 x v := by
  cases x with
  | tmp t => exact (ht t (by simp [tmpsOf])).trans h
  | _ => exact h
theorem opF.ev {N : Nat} {σ : Sg} {T : Nat → Option V} {a : Act} {x : Operand} {v : V} (h : opF T x v) (hs : SL N σ T a) : CV σ v (a.eval x) := by
  cases x with
  | tmp t =>
    obtain ⟨u, h1, h2⟩ := hs.at_ t v h
    have : a.eval (.tmp t) = u := by simp [Act.eval, Array.getD_eq_getD_getElem?, h1]
    rw [this]; exact h2
  | const c => exact h σ
  | global g => exact h.elim
  | func f =>
    have h : v = .c (.fn f [] []) := h
    subst h
    exact ⟨[], [], trivial, trivial, rfl⟩
/-- The temporaries of an operation hold what they held. -/
def Tm (o : Op) (T T2 : Nat → Option V) : Prop := ∀ t ∈ opTmps o, T2 t = T t
theorem evO {o : Op} {N : Nat} {σ : Sg} {T T2 : Nat → Option V} {a : Act} {x : Operand} {v : V} (h : opF T x v) (hm : x ∈ o.operands.toList) (ht : Tm o T T2) (hs : SL N σ T2 a) : CV σ v (a.eval x) :=
  (h.mono fun t hh => ht t (List.mem_flatMap.2 ⟨x, hm, hh⟩)).ev hs
theorem evOs {o : Op} {N : Nat} {σ : Sg} {T T2 : Nat → Option V} {a : Act} : ∀ {l : List Operand} {vs : List V}, opFs T l vs → (∀ x ∈ l, x ∈ o.operands.toList) → Tm o T T2 → SL N σ T2 a → VL σ vs (l.map a.eval)
  | [], [], _, _, _, _ => trivial
  | x :: l, v :: vs, ⟨h1, h2⟩, hm, ht, hs => ⟨evO h1 (hm x (by simp)) ht hs, evOs h2 (fun y hy => hm y (by simp [hy])) ht hs⟩

/-! ## The tables -/
def DsOk (P : Program) : Ds → TypeDesc → Prop
  | .int k, d => d = .int k
  | .str, d => d = .string
  | .slice e, d => d = .slice e
  | .struct fs, d => ∃ F : Array Field, d = .struct F ∧ F.size = fs.length ∧ ∀ (i : Nat) (p : Nat × TypeId), fs[i]? = some p → ∃ f : Field, F[i]? = some f ∧ f.offset = p.1 ∧ f.type = p.2 ∧ ∃ i, P.info? f.type = some i ∧ i.size ≠ 0
  | .array n e, d => d = .array n e ∧ ∃ i, P.info? e = some i
  | .map k v, d => d = .map k v
  | .other, _ => True
structure TIok (P : Program) (t : TypeId) (ti : TI) : Prop where
  ok : ∃ d i z, P.underlying t = some d ∧ P.info? t = some i ∧ i.size = ti.sz ∧ i.bytes = ti.by_ ∧ i.zero = some z ∧ Agg d = ti.ag ∧ DsOk P ti.d d ∧ (∀ σ, CL σ ti.z z.cells.toList) ∧ ti.z.length = ti.sz ∧ (ti.ag = false → z.oneCell' = true) ∧ 0 < ti.sz

/-! ## What an operation does -/
def upd (us : List (Nat × AO)) (h : Nat → Option AO) : Nat → Option AO := us.foldl (fun h p => set1 h p.1 p.2) h
/-- What an operation that calls no function does: whatever else lies there. -/
structure SSem (P : Program) (o : Op) (T : Nat → Option V) (h : Nat → Option AO) (n : Nat) (v : V) (rs : List Nat) (us : List (Nat × AO)) (n' : Nat) : Prop where
  le : n ≤ n'
  new : ∀ p ∈ us, p.1 ∈ rs ∨ (n ≤ p.1 ∧ p.1 < n')
  rd : ∀ b ∈ rs, ∃ o, h b = some o
  sem : ∀ (w0 : World) (Φ : Fz) (N : Nat) (σ : Sg) (T2 : Nat → Option V) (h2 : Nat → Option AO) (a : Act) (w : World), Tm o T T2 → (∀ b ∈ rs, h2 b = h b) →
    (∀ b, n ≤ b → b < n' → σ b = none) → SL N σ T2 a → HR w0 Φ σ h2 w →
    ∃ u w' σ', σ.le σ' ∧ (∀ b, (b < n ∨ n' ≤ b) → σ' b = σ b) ∧ CV σ' v u ∧ HR w0 Φ σ' (upd us h2) w' ∧
      ∀ o' : Oper, o'.op = o → (execOp a.eval o').run P w = .ok (.value u) w' ∨ ((execOp a.eval o').run P w = .ok .skip w' ∧ u = undef)
def Done {α : Type} (P : Program) (o : Op) (T : Nat → Option V) (h : Nat → Option AO) (n : Nat) (k : KO α) (r : α) : Prop := ∃ v rs us n', k v rs us n' = some r ∧ SSem P o T h n v rs us n'

section
variable {P : Program} {o : Op} {T : Nat → Option V} {h : Nat → Option AO} {n : Nat} {v : V}
theorem SSem.ofPure (H : ∀ (N : Nat) (σ : Sg) (T2 : Nat → Option V) (a : Act) (w : World), Tm o T T2 → SL N σ T2 a → ∃ u, CV σ v u ∧ ∀ o' : Oper, o'.op = o → (execOp a.eval o').run P w = .ok (.value u) w) : SSem P o T h n v [] [] n :=
  ⟨Nat.le_refl _, fun p hp => by simp at hp, fun b hb => by simp at hb, fun w0 Φ N σ T2 h2 a w h1 _ _ h5 h6 => by
    obtain ⟨u, hu, hr⟩ := H N σ T2 a w h1 h5
    exact ⟨u, w, σ, Sg.le.refl σ, fun _ _ => rfl, hu, h6, fun o' e => .inl (hr o' e)⟩⟩
theorem SSem.ofRead {b : Nat} {ob : AO} (hb : h b = some ob) (hd : ob ≠ .dead)
    (H : ∀ (N : Nat) (σ : Sg) (T2 : Nat → Option V) (a : Act) (w : World) (b' x : Nat), Tm o T T2 → SL N σ T2 a → σ b = some (b', x) → BR w σ b' x ob → ∃ u, CV σ v u ∧ ∀ o' : Oper, o'.op = o → (execOp a.eval o').run P w = .ok (.value u) w) : SSem P o T h n v [b] [] n :=
  ⟨Nat.le_refl _, fun p hp => by simp at hp, fun c hc => by simp at hc; subst hc; exact ⟨_, hb⟩, fun w0 Φ N σ T2 h2 a w h1 h3 _ h5 h6 => by
    obtain ⟨b', x, g1, g2, g3, g4⟩ := h6.live b ob ((h3 b (by simp)).trans hb) hd
    obtain ⟨u, hu, hr⟩ := H N σ T2 a w b' x h1 h5 g1 g4
    exact ⟨u, w, σ, Sg.le.refl σ, fun _ _ => rfl, hu, h6, fun o' e => .inl (hr o' e)⟩⟩
/-- A new block. -/
theorem SSem.ofNew {ao : AO} (H : ∀ (N : Nat) (σ : Sg) (T2 : Nat → Option V) (a : Act) (w : World), Tm o T T2 → SL N σ T2 a → σ n = none → ∃ u w' b x, Grew w w' none ∧ w.heap.size ≤ b ∧ b < w'.heap.size ∧ CV (sgSet σ n b x) v u ∧ BR w' (sgSet σ n b x) b x ao ∧
      ∀ o' : Oper, o'.op = o → (execOp a.eval o').run P w = .ok (.value u) w') : SSem P o T h n v [] [(n, ao)] (n + 1) :=
  ⟨Nat.le_succ _, fun p hp => by simp at hp; subst hp; exact .inr ⟨Nat.le_refl _, Nat.lt_succ_self _⟩, fun b hb => by simp at hb, fun w0 Φ N σ T2 h2 a w h1 _ h4 h5 h6 => by
    have hn := h4 n (Nat.le_refl _) (Nat.lt_succ_self _)
    obtain ⟨u, w', b, x, g1, g2, g3, g4, g5, hr⟩ := H N σ T2 a w h1 h5 hn
    exact ⟨u, w', sgSet σ n b x, sgSet_le hn, fun c hc => by
      unfold sgSet; rw [if_neg (by omega)], g4, h6.alloc hn g1 g2 g3 g5, fun o' e => .inl (hr o' e)⟩⟩
/-- A block turned. -/
theorem SSem.ofWrite {b : Nat} {ob ao : AO} (hb : h b = some ob) (hd : ob ≠ .dead)
    (H : ∀ (N : Nat) (σ : Sg) (T2 : Nat → Option V) (a : Act) (w : World) (b' x : Nat), Tm o T T2 → SL N σ T2 a → σ b = some (b', x) → BR w σ b' x ob → b' < w.heap.size → ∃ u w', Grew w w' (some b') ∧ CV σ v u ∧ BR w' σ b' x ao ∧
      ∀ o' : Oper, o'.op = o → (execOp a.eval o').run P w = .ok (.value u) w' ∨ ((execOp a.eval o').run P w = .ok .skip w' ∧ u = undef)) : SSem P o T h n v [b] [(b, ao)] n :=
  ⟨Nat.le_refl _, fun p hp => by simp at hp; subst hp; exact .inl (by simp), fun c hc => by simp at hc; subst hc; exact ⟨_, hb⟩, fun w0 Φ N σ T2 h2 a w h1 h3 _ h5 h6 => by
    have hb2 := (h3 b (by simp)).trans hb
    obtain ⟨b', x, g1, g2, g3, g4⟩ := h6.live b ob hb2 hd
    obtain ⟨u, w', q1, q2, q3, hr⟩ := H N σ T2 a w b' x h1 h5 g1 g4 g3
    exact ⟨u, w', σ, Sg.le.refl σ, fun _ _ => rfl, q2, h6.write hb2 hd g1 q1 q3, hr⟩⟩
end
end Go.D
