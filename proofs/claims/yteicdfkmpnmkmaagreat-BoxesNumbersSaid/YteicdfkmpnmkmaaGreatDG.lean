/-
  Walks and laws of this seat; the base is the text Base.
-/
import Derived.Test.YteicdfkmpnmkmaaGreatDF
import Derived.Test.YteicdfkmpnmkmaaGreatBasg
import Derived.LoopNIn
namespace Go.D
open Go.RowKit Go.Sl
def Free (σ : Sg) (n n' : Nat) : Prop := ∀ b, n ≤ b → b < n' → σ b = none
def Out (σ σ' : Sg) (n n' : Nat) : Prop := σ.le σ' ∧ ∀ b, (b < n ∨ n' ≤ b) → σ' b = σ b
def Kp (lim n' : Nat) (h h' : Nat → Option AO) : Prop := ∀ a, (a < lim ∨ n' ≤ a) → h' a = h a
def Nn (n : Nat) (h : Nat → Option AO) : Prop := ∀ a, n ≤ a → h a = none
theorem Out.refl (σ : Sg) (n n' : Nat) : Out σ σ n n' := ⟨Sg.le.refl σ, fun _ _ => rfl⟩
theorem Out.trans {σ σ1 σ2 : Sg} {n n1 n2 : Nat} (h : Out σ σ1 n n1) (g : Out σ1 σ2 n1 n2) (h1 : n ≤ n1) (h2 : n1 ≤ n2) : Out σ σ2 n n2 :=
  ⟨h.1.trans g.1, fun b hb => by rw [g.2 b (by omega), h.2 b (by omega)]⟩
theorem Free.after {σ σ1 : Sg} {n n1 n2 : Nat} (h : Free σ n n2) (g : Out σ σ1 n n1) (h1 : n ≤ n1) : Free σ1 n1 n2 := fun b hb hb2 => by rw [g.2 b (.inr hb)]; exact h b (by omega) hb2
theorem Free.less {σ : Sg} {n n1 n2 : Nat} (h : Free σ n n2) (h1 : n1 ≤ n2) : Free σ n n1 := fun b hb hb2 => h b hb (by omega)
theorem Kp.trans {lim n1 n2 : Nat} {h h1 h2 : Nat → Option AO} (a : Kp lim n1 h h1) (b : Kp lim n2 h1 h2) (hn : n1 ≤ n2) : Kp lim n2 h h2 := fun c hc => by rw [b c hc, a c (by omega)]

/-- What a call does. -/
structure CallR (P : Program) (lim n n' f : Nat) (av : List V) (h h' : Nat → Option AO) (v : V) : Prop where
  le : n ≤ n'
  keep : Kp lim n' h h'
  nn : Nn n' h'
  sem : ∀ (w0 : World) (Φ : Fz) (σ : Sg) (w : World) (args : List Value), Free σ n n' → VL σ av args → HR w0 Φ σ h w →
    Calls P f args.toArray w fun e w' => ∃ u σ', e = .returned u ∧ Out σ σ' n n' ∧ CV σ' v u ∧ HR w0 Φ σ' h' w'
def CallOK {α : Type} (P : Program) (call : CallT α) : Prop := ∀ (lim f : Nat) (av : List V) (h : H) (n : Nat) (k : V → H → Nat → Option α) (r : α), Nn n h.get → call lim f av h n k = some r → ∃ v h' n', k v h' n' = some r ∧ CallR P lim n n' f av h.get h'.get v ∧ Has P f

def ExR : Ex → Exit → Prop
  | .normal, e => e = .normal
  | .exit i, e => e = .exit i
  | .goto l, e => e = .goto l
  | .ret, e => e = .ret
def QS (ex : Ex) (S : AP) : Exit → AP := fun e a w => ExR ex e ∧ S a w
/-- What code does. -/
structure XR (P : Program) (N m lim : Nat) (c : Code) (t t' : Tr V) (h h' : H) (n n' : Nat) (ex : Ex) : Prop where
  le : n ≤ n'
  keep : Kp lim n' h.get h'.get
  nn : Nn n' h'.get
  sem : ∀ (w0 : World) (Φ : Fz) (σ : Sg) (a : Act) (w : World), Free σ n n' → SL N σ (opT m t []) a → HR w0 Φ σ h.get w →
    cwp P c (QS ex fun a' w' => ∃ σ', Out σ σ' n n' ∧ SL N σ' (opT m t' []) a' ∧ HR w0 Φ σ' h'.get w') a w

section
variable {α : Type} {P : Program} {E : Env} {m : Nat}
theorem opT_put {t t' : Tr V} {lc : Ls} {d : Nat} {v : V} (hk : kept m d = true) (ht : ∀ j, t'.get j = if j = d then some v else t.get j) : opT m t' lc = setT (opT m t lc) (some d) v := by
  funext x
  show (Bool.rec (lookL lc x) (t'.get x) (kept m x) : Option V) = if some x = some d then some v else (Bool.rec (lookL lc x) (t.get x) (kept m x) : Option V)
  by_cases e : x = d
  · subst e
    rw [hk, if_pos rfl]
    show t'.get x = _
    rw [ht, if_pos rfl]
  · rw [if_neg (fun q => e (Option.some.inj q))]
    cases kept m x with
    | false => rfl
    | true => show t'.get x = t.get x; rw [ht, if_neg e]
theorem lookL_cons (d x : Nat) (v : V) (lc : Ls) : lookL ((d, v) :: lc) x = if x = d then some v else lookL lc x := by
  show (Bool.rec (lookL lc x) (some v) (Nat.beq d x) : Option V) = _
  cases q : Nat.beq d x with
  | true => have := beq_iff' q; subst this; rw [if_pos rfl]
  | false => have := beq_not q; rw [if_neg (fun e => this e.symm)]
theorem putO_inv {d : Option Tmp} {v : V} {t : Tr V} {lc : Ls} {k : Tr V → Ls → Option α} {r : α} (e : putO m d v t lc k = some r) : ∃ t' lc', opT m t' lc' = setT (opT m t lc) d v ∧ k t' lc' = some r := by
  cases d with
  | none => exact ⟨t, lc, by funext x; simp [setT], e⟩
  | some d =>
    have e : (Bool.rec (k t ((d, v) :: lc)) (Tr.putK v t d fun t => k t lc) (kept m d) : Option α) = some r := e
    rcases rec_t e with ⟨hk, e1⟩ | ⟨hk, e1⟩
    · obtain ⟨t', h1, e2⟩ := Tr.putK_inv e1
      exact ⟨t', lc, opT_put hk h1, e2⟩
    · refine ⟨t, _, ?_, e1⟩
      funext x
      show (Bool.rec (lookL ((d, v) :: lc) x) (t.get x) (kept m x) : Option V) = if some x = some d then some v else (Bool.rec (lookL lc x) (t.get x) (kept m x) : Option V)
      by_cases q : x = d
      · subst q
        rw [hk, if_pos rfl]
        show lookL _ x = _
        rw [lookL_cons, if_pos rfl]
      · rw [if_neg (fun e => q (Option.some.inj e))]
        cases kept m x with
        | true => rfl
        | false => show lookL _ x = lookL lc x; rw [lookL_cons, if_neg q]
theorem SL.forget {N : Nat} {σ : Sg} {t : Tr V} {lc : Ls} {a : Act} (h : SL N σ (opT m t lc) a) : SL N σ (opT m t []) a := ⟨h.size, h.defers, fun x v e => h.at_ x v (by
  have e : (Bool.rec (lookL [] x) (t.get x) (kept m x) : Option V) = some v := e
  show (Bool.rec (lookL lc x) (t.get x) (kept m x) : Option V) = some v
  rcases rec_t e with ⟨hk, e⟩ | ⟨hk, e⟩
  · rw [hk]; exact e
  · exact nn e)⟩

theorem puts_inv {lim : Nat} : ∀ {us : List (Nat × AO)} {h : H} {k : H → Option α} {r : α}, puts lim us h k = some r → (∀ p ∈ us, lim ≤ p.1) ∧ ∃ h' : H, h'.get = upd us h.get ∧ k h' = some r
  | [], h, k, r, e => ⟨fun _ hp => by simp at hp, h, rfl, e⟩
  | (b, o) :: us, h, k, r, e => by
    obtain ⟨h1, e1⟩ := iff_inv (e : iff (Nat.ble lim b) (Tr.putK o h b fun h => puts lim us h k) = some r)
    obtain ⟨h2, g1, e2⟩ := Tr.putK_inv e1
    obtain ⟨h3, h4, g2, e3⟩ := puts_inv e2
    refine ⟨fun p hp => ?_, h4, ?_, e3⟩
    · rcases List.mem_cons.1 hp with rfl | hp
      · exact ble_iff h1
      · exact h3 p hp
    · rw [g2]
      show upd us h2.get = upd us (set1 h.get b o)
      congr 1
      funext j
      rw [g1]; rfl
theorem upd_out : ∀ {us : List (Nat × AO)} {h : Nat → Option AO} {a : Nat}, (∀ p ∈ us, p.1 ≠ a) → upd us h a = h a
  | [], _, _, _ => rfl
  | (b, o) :: us, h, a, hp => by
    show upd us (set1 h b o) a = h a
    rw [upd_out (fun p hp' => hp p (by simp [hp']))]
    have := hp (b, o) (by simp)
    show (if a = b then some o else h a) = h a
    rw [if_neg (fun e => this e.symm)]
/-- Names of an operation that calls nothing. -/
theorem SSem.names {o : Op} {T : Nat → Option V} {h : Nat → Option AO} {n n' : Nat} {v : V} {rs : List Nat} {us : List (Nat × AO)} (H : SSem P o T h n v rs us n') (hN : Nn n h) : (∀ p ∈ us, p.1 < n') ∧ (∀ b ∈ rs, b < n) := by
  have h2 : ∀ b ∈ rs, b < n := fun b hb => by
    obtain ⟨ob, ho⟩ := H.rd b hb
    rcases Nat.lt_or_ge b n with h | h
    · exact h
    · rw [hN b h] at ho; cases ho
  refine ⟨fun p hp => ?_, h2⟩
  rcases H.new p hp with h | h
  · exact Nat.lt_of_lt_of_le (h2 _ h) H.le
  · exact h.2
theorem SSem.kp {o : Op} {T : Nat → Option V} {h : Nat → Option AO} {n n' lim : Nat} {v : V} {rs : List Nat} {us : List (Nat × AO)} (H : SSem P o T h n v rs us n') (hN : Nn n h) (hl : ∀ p ∈ us, lim ≤ p.1) : Kp lim n' h (upd us h) ∧ Nn n' (upd us h) := by
  have h1 := (H.names hN).1
  have key : ∀ a, (a < lim ∨ n' ≤ a) → upd us h a = h a := fun a ha => upd_out fun p hp e => by
    subst e
    have := h1 p hp
    have := hl p hp
    omega
  exact ⟨key, fun a ha => by rw [key a (.inr ha)]; exact hN a (Nat.le_trans H.le ha)⟩

/-! ## Guards, callees -/
theorem guardC_inv {w : Bool} {x : C} {K : Bool → Option α} {r : α} (e : guardC w x K = some r) : (∃ b, x = .b b ∧ K (b == w) = some r) ∨ ((∀ b, x ≠ .b b) ∧ K false = some r) := by
  cases x with
  | b b => exact .inl ⟨b, rfl, by cases w <;> cases b <;> exact e⟩
  | _ => exact .inr ⟨fun b h => (by cases h), e⟩
/-- The slot that a guard looks at. -/
def gslot (all : List Oper) (g : Option (Nat × Bool)) : List Nat := match g with
  | none => []
  | some (j, _) => match all[j]? with
    | none => []
    | some o => o.dst.toList
theorem wants_inv {t : Tr V} {lc : Ls} {all : List Oper} {g : Option (Nat × Bool)} {K : Bool → Option α} {r : α} (e : wants m t lc all g K = some r) : ∃ b, K b = some r ∧ ∀ (N : Nat) (σ : Sg) (T2 : Nat → Option V) (a : Act) (o : Oper), o.guard = g → (∀ x ∈ gslot all g, T2 x = opT m t lc x) → SL N σ T2 a → Region.wanted o (yielded all.toArray a.tmps) = b := by
  cases g with
  | none => exact ⟨true, e, fun N σ T2 a o hg _ _ => by simp [Region.wanted, hg]⟩
  | some p =>
    obtain ⟨j, w⟩ := p
    obtain ⟨oj, h1, e1⟩ := nthK_inv _ _ _ _ (e : nthK all j (fun o => oc o.dst fun d => oc (opT m t lc d) fun v => V.rec (fun x => guardC w x K) (fun _ => K false) (fun _ => K false) v) = some r)
    obtain ⟨d, h2, e2⟩ := oc_inv e1
    obtain ⟨v, h3, e3⟩ := oc_inv e2
    have fin : ∀ b : Bool, K b = some r → (∀ σ u, CV σ v u → (((match some u with | some (Value.bool b) => some b | _ => none) == some w) = true ↔ b = true)) → ∃ b, K b = some r ∧ ∀ (N : Nat) (σ : Sg) (T2 : Nat → Option V) (a : Act) (o : Oper), o.guard = some (j, w) → (∀ x ∈ gslot all (some (j, w)), T2 x = opT m t lc x) → SL N σ T2 a → Region.wanted o (yielded all.toArray a.tmps) = b := fun b hb H =>
      ⟨b, hb, fun N σ T2 a o hg hT hs => by
        have hT := hT d (by simp [gslot, h1, h2])
        obtain ⟨u, g1, g2⟩ := hs.at_ d v (hT.trans h3)
        have := H σ u g2
        simp only [Region.wanted, hg]
        have hy : yielded all.toArray a.tmps j = (match some u with | some (Value.bool b) => some b | _ => none) := by
          simp [yielded, h1, h2, g1]
          cases u <;> rfl
        rw [hy]
        cases b with
        | true => exact this.2 rfl
        | false =>
          cases q : ((match some u with | some (Value.bool b) => some b | _ => none) == some w) with
          | false => rfl
          | true => exact absurd (this.1 q) (by simp)⟩
    cases v with
    | c x =>
      rcases guardC_inv (e3 : guardC w x K = some r) with ⟨b, rfl, e4⟩ | ⟨hx, e4⟩
      · refine fin _ e4 fun σ u hu => ?_
        have hu : u = .bool b := hu
        subst hu
        cases b <;> cases w <;> simp
      · refine fin _ e4 fun σ u hu => ?_
        have hu : CC σ x u := hu
        have : ∀ b, u ≠ .bool b := fun b e => by
          subst e
          cases x <;> simp only [CC] at hu
          all_goals first
            | (exact absurd rfl (hx _))
            | (cases hu; done)
            | (obtain ⟨_, h, _⟩ := hu; cases h; done)
            | (obtain ⟨_, _, _, h⟩ := hu; cases h; done)
            | (obtain ⟨_, _, _, h | ⟨_, _, _, h⟩⟩ := hu <;> cases h; done)
            | (obtain ⟨_, _, _, _, h⟩ := hu; cases h; done)
        cases u <;> first | exact absurd rfl (this _) | simp
    | a l =>
      refine fin _ e3 fun σ u hu => ?_
      obtain ⟨cs, rfl, _⟩ := hu
      simp
    | t l =>
      refine fin _ e3 fun σ u hu => ?_
      obtain ⟨cs, rfl, _⟩ := hu
      simp

theorem isCall_inv {o : Op} {k : Operand → Array Operand → Option α} {z : Option α} {r : α} (e : isCall o k z = some r) : (∃ x ars ats, o = .call ⟨.value x, ars, ats⟩ ∧ k x ars = some r) ∨ z = some r := by
  cases o with
  | call c =>
    obtain ⟨callee, ars, ats⟩ := c
    cases callee with
    | value x => exact .inl ⟨x, ars, ats, rfl, e⟩
    | invoke _ _ => exact .inr e
    | builtin _ => exact .inr e
  | _ => exact .inr e
theorem calleeK_inv {t : Tr V} {lc : Ls} {x : Operand} {ars : Array Operand} {ats : Array TypeId} {k : Nat → List V → Option α} {r : α} (e : calleeK m t lc x ars k = some r) : ∃ g av, k g av = some r ∧ ∀ (N : Nat) (σ : Sg) (T2 : Nat → Option V) (a : Act) (w : World), Tm (.call ⟨.value x, ars, ats⟩) (opT m t lc) T2 → SL N σ T2 a → Has P g →
    ∃ args : List Value, VL σ av args ∧ ∀ o' : Oper, o'.op = .call ⟨.value x, ars, ats⟩ → (execOp a.eval o').run P w = .ok (.enter g args.toArray) w := by
  obtain ⟨vs, hv, e1⟩ := opdL_inv e
  obtain ⟨fv, hf, e2⟩ := opd_inv e1
  obtain ⟨g, fs, cs, rfl, e3⟩ := fnK_inv e2
  rw [ptrVs_eq, appV_eq, ptrVs_eq] at e3
  refine ⟨g, _, e3, fun N σ T2 a w ht hs hg => ?_⟩
  have h1 := evOs hv (fun y hy => by simp [Op.operands, Call.operands, hy]) ht hs
  obtain ⟨A, B, h2, h3, h4⟩ := evO hf (by simp [Op.operands, Call.operands]) ht hs
  refine ⟨A ++ (ars.toList.map a.eval ++ (B ++ [])), h2.vl.append (h1.append (h3.vl.append trivial)), fun o' q => ?_⟩
  simp [execOp, q, resolve, h4, Deferred.ofValue, invoke, Sl.run_callFunc hg]

/-! ## A region in the text's order -/
theorem RLd_mono {ops : Array Oper} {K K' : AP} (hk : ∀ a w, K a w → K' a w) : ∀ {l : List Oper} {a : Act} {w : World}, RLd P ops l K a w → RLd P ops l K' a w
  | [], _, _, h => hk _ _ h
  | o :: l, a, w, h => by
    unfold RLd at h ⊢
    split
    · rename_i q; rw [if_pos q] at h; exact opS_mono (fun a w h => RLd_mono hk h) h
    · rename_i q; rw [if_neg q] at h; exact RLd_mono hk h
theorem runOps_ok {call : CallT α} (hE : ∀ t ti, E.tt.get t = some ti → TIok P t ti) (hc : CallOK P call) {N lim : Nat} {all : List Oper} : ∀ (l : List Oper) (t : Tr V) (lc : Ls) (h : H) (n : Nat) (k : Tr V → H → Nat → Option α) (r : α), (∀ o ∈ l, ∀ d, o.dst = some d → d < N) → Nn n h.get → runOps call E m lim all l t lc h n k = some r →
    ∃ t' h' n', k t' h' n' = some r ∧ n ≤ n' ∧ Kp lim n' h.get h'.get ∧ Nn n' h'.get ∧ ∀ (w0 : World) (Φ : Fz) (σ : Sg) (a : Act) (w : World), Free σ n n' → SL N σ (opT m t lc) a → HR w0 Φ σ h.get w →
      RL P all.toArray l (fun a' w' => ∃ σ', Out σ σ' n n' ∧ SL N σ' (opT m t' []) a' ∧ HR w0 Φ σ' h'.get w') a w
  | [], t, lc, h, n, k, r, _, hN, e => ⟨t, h, n, e, Nat.le_refl _, fun _ _ => rfl, hN, fun w0 Φ σ a w _ hs H => RL_nil ⟨σ, Out.refl σ n n, hs.forget, H⟩⟩
  | ⟨dst, op, ty, pos, af, g⟩ :: l, t, lc, h, n, k, r, hd, hN, e => by
    have hdl := hd ⟨dst, op, ty, pos, af, g⟩ (by simp)
    obtain ⟨b, e1, hw⟩ := wants_inv (e : wants m t lc all g _ = some r)
    rcases rec_t e1 with ⟨hb, e2⟩ | ⟨hb, e2⟩
    · subst hb
      rcases isCall_inv e2 with ⟨x, ars, ats, rfl, e3⟩ | e3
      · obtain ⟨f, av, e4, hx⟩ := calleeK_inv (P := P) (ats := ats) e3
        obtain ⟨v, h1, n1, e5, hR, hF⟩ := hc _ _ _ _ _ _ _ hN e4
        obtain ⟨t1, lc1, ht1, e6⟩ := putO_inv e5
        obtain ⟨t', h', n', e7, q1, q2, q3, q4⟩ := runOps_ok hE hc l t1 lc1 h1 n1 k r (fun o ho => hd o (by simp [ho])) hR.nn e6
        refine ⟨t', h', n', e7, Nat.le_trans hR.le q1, hR.keep.trans q2 q1, q3, fun w0 Φ σ a w hf hs H => RL_step fun K' hK' => ?_⟩
        rw [if_pos (hw N σ _ a _ rfl (fun _ _ => rfl) hs)]
        obtain ⟨args, g1, g2⟩ := hx N σ _ a w (fun _ _ => rfl) hs hF
        unfold Sl.opS
        rw [g2 _ rfl]
        refine (hR.sem w0 Φ σ w args (hf.less q1) g1 H).mono ?_
        rintro e w' ⟨u, σ', rfl, f1, f2, f3⟩
        refine ⟨u, rfl, hK' _ _ ?_⟩
        have hs' := (hs.le f1.1).put (d := dst) (u := u) hdl f2
        rw [← ht1] at hs'
        obtain ⟨hd⟩ := q4 w0 Φ σ' _ w' (hf.after f1 hR.le) hs' f3
        refine RL.mk (RLd_mono (fun a w ⟨σ2, p1, p2, p3⟩ => ⟨σ2, f1.trans p1 hR.le q1, p2, p3⟩) hd)
      · obtain ⟨v, rs, us, n1, e4, hS⟩ := simple_ok (P := P) hE e3
        obtain ⟨hl, h1, hh, e5⟩ := puts_inv e4
        obtain ⟨t1, lc1, ht1, e6⟩ := putO_inv e5
        obtain ⟨k1, k2⟩ := hS.kp hN hl
        rw [← hh] at k1 k2
        obtain ⟨t', h', n', e7, q1, q2, q3, q4⟩ := runOps_ok hE hc l t1 lc1 h1 n1 k r (fun o ho => hd o (by simp [ho])) k2 e6
        refine ⟨t', h', n', e7, Nat.le_trans hS.le q1, k1.trans q2 q1, q3, fun w0 Φ σ a w hf hs H => RL_step fun K' hK' => ?_⟩
        rw [if_pos (hw N σ _ a _ rfl (fun _ _ => rfl) hs)]
        refine SSem.opS (o := ⟨dst, op, ty, pos, af, g⟩) hS (fun _ _ => rfl) (fun _ _ => rfl) (hf.less q1) hs H fun u w' σ' f1 f2 f3 f4 => hK' _ _ ?_
        have fo : Out σ σ' n n1 := ⟨f1, f2⟩
        have hs' := (hs.le f1).put (d := dst) (u := u) hdl f3
        rw [← ht1] at hs'
        rw [← hh] at f4
        obtain ⟨hd⟩ := q4 w0 Φ σ' _ w' (hf.after fo hS.le) hs' f4
        refine RL.mk (RLd_mono (fun a w ⟨σ2, p1, p2, p3⟩ => ⟨σ2, fo.trans p1 hS.le q1, p2, p3⟩) hd)
    · subst hb
      obtain ⟨t1, lc1, ht1, e3⟩ := putO_inv e2
      obtain ⟨t', h', n', e4, q1, q2, q3, q4⟩ := runOps_ok hE hc l t1 lc1 h n k r (fun o ho => hd o (by simp [ho])) hN e3
      refine ⟨t', h', n', e4, q1, q2, q3, fun w0 Φ σ a w hf hs H => RL_step fun K' hK' => ?_⟩
      rw [if_neg (by rw [hw N σ _ a _ rfl (fun _ _ => rfl) hs]; simp)]
      refine hK' _ _ ?_
      have hs' := hs.put (d := dst) (v := unit) (u := undef) hdl CV_undef
      rw [← ht1] at hs'
      exact q4 w0 Φ σ _ w hf hs' H
end
end Go.D
