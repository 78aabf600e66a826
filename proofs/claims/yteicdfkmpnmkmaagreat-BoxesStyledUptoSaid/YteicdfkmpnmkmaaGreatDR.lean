/-
  Walks and laws of this seat.
-/
import Derived.Test.YteicdfkmpnmkmaaGreatDQ
import Derived.Test.YteicdfkmpnmkmaaGreatBasg
import Derived.LoopNIn
namespace Go.D
set_option linter.unusedVariables false
set_option linter.unusedSimpArgs false
open Go.RowKit Go.Sl
section
variable {α : Type} {P : Program} {E : Env} {m : Nat} {t : Tr V} {lc : Ls} {h : H} {n : Nat} {k : KO α} {r : α}
theorem opBuiltin_ok (hE : ∀ t ti, E.tt.get t = some ti → TIok P t ti) {c : Call} (e : opBuiltin c E m t lc h n k = some r) : Done P (.call c) (opT m t lc) h.get n k r := by
  obtain ⟨callee, ars, ats⟩ := c
  cases callee with
  | value _ => exact nn e
  | invoke _ _ => exact nn e
  | builtin b =>
    obtain ⟨vs, hv, e1⟩ := opdL_inv (e : opdL m t lc ars.toList (fun av => builtinK b ats.toList av E h n k) = some r)
    have fin : Done P (.call ⟨.builtin b, ars.toList.toArray, ats.toList.toArray⟩) (opT m t lc) h.get n k r := by
      cases b <;> first | exact nn e1 | exact len_ok hE hv e1 | exact append_ok hE hv e1
    simpa using fin
theorem simple_ok (hE : ∀ t ti, E.tt.get t = some ti → TIok P t ti) {o : Op} (e : simple o E m t lc h n k = some r) : Done P o (opT m t lc) h.get n k r := by
  cases o with
  | move _ => exact opMove_ok (E := E) e
  | assign _ => exact opAssign_ok (E := E) e
  | pick _ _ _ => exact opPick_ok (E := E) e
  | alloc _ => exact opAlloc_ok hE e
  | box _ _ => exact opBox_ok e
  | build _ _ => exact opBuild_ok hE e
  | buildSlice _ _ _ => exact opBuildSlice_ok hE e
  | insert _ _ _ _ => exact (opMapUpd_ok hE e).2
  | load _ _ => exact opLoad_ok hE e
  | store _ _ _ => exact opStore_ok hE e
  | nilCheck _ => exact opNil_ok (E := E) e
  | binOp _ _ _ _ _ => exact opBin_ok hE e
  | unOp _ _ _ => exact opUn_ok (E := E) e
  | convert _ _ _ => exact opConv_ok hE e
  | makeFunc _ _ _ => exact opMakeFunc_ok (E := E) e
  | makeMap _ _ => exact opMakeMap_ok (E := E) e
  | makeSlice _ _ _ => exact opMakeSlice_ok hE e
  | slice _ _ _ _ _ => exact opSlice_ok hE e
  | fieldAddr _ _ _ => exact opFieldAddr_ok hE e
  | field _ _ _ => exact opField_ok hE e
  | indexAddr _ _ _ => exact opIndexAddr_ok hE e
  | index _ _ _ => exact opIndex_ok hE e
  | lookup _ _ _ _ => exact opLookup_ok hE e
  | mapUpdate _ _ _ _ => exact (opMapUpd_ok hE e).1
  | range _ _ => exact opRange_ok hE e
  | next _ _ => exact opNext_ok (E := E) e
  | extract _ _ => exact opExtract_ok (E := E) e
  | call _ => exact opBuiltin_ok hE e
  | _ => exact nn e
end
theorem SSem.opS {P : Program} {o : Oper} {T T2 : Nat → Option V} {h h2 : Nat → Option AO} {n n' N : Nat} {v : V} {rs : List Nat} {us : List (Nat × AO)} {w0 w : World} {Φ : Fz} {σ : Sg} {a : Act} {K : AP} (H : SSem P o.op T h n v rs us n') (h1 : Tm o.op T T2) (h3 : ∀ b ∈ rs, h2 b = h b)
    (h4 : ∀ b, n ≤ b → b < n' → σ b = none) (h5 : SL N σ T2 a) (h6 : HR w0 Φ σ h2 w)
    (hK : ∀ u w' σ', σ.le σ' → (∀ b, (b < n ∨ n' ≤ b) → σ' b = σ b) → CV σ' v u → HR w0 Φ σ' (upd us h2) w' → K (a.put o.dst u) w') : Sl.opS P o a w K := by
  obtain ⟨u, w', σ', g1, g2, g3, g4, g5⟩ := H.sem w0 Φ N σ T2 h2 a w h1 h3 h4 h5 h6
  unfold Sl.opS
  rcases g5 o rfl with g7 | ⟨g7, hu⟩
  · rw [g7]; exact hK u w' σ' g1 g2 g3 g4
  · subst hu
    rw [g7]; exact hK undef w' σ' g1 g2 g3 g4
end Go.D
namespace Go.D
set_option linter.unusedVariables false
set_option linter.unusedSimpArgs false
open Go.RowKit Go.Sl
def Free (σ : Sg) (n n' : Nat) : Prop := ∀ b, n ≤ b → b < n' → σ b = none
def Out (σ σ' : Sg) (n n' : Nat) : Prop := σ.le σ' ∧ ∀ b, (b < n ∨ n' ≤ b) → σ' b = σ b
def Kp (lim n' : Nat) (h h' : Nat → Option AO) : Prop := ∀ a, (a < lim ∨ n' ≤ a) → h' a = h a
def Nn (n : Nat) (h : Nat → Option AO) : Prop := ∀ a, n ≤ a → h a = none
theorem Out.refl (σ : Sg) (n n' : Nat) : Out σ σ n n' := ⟨Sg.le.refl σ, fun _ _ => rfl⟩
theorem Out.trans {σ σ1 σ2 : Sg} {n n1 n2 : Nat} (h : Out σ σ1 n n1) (g : Out σ1 σ2 n1 n2) (h1 : n ≤ n1) (h2 : n1 ≤ n2) : Out σ σ2 n n2 :=
  ⟨h.1.trans g.1, fun b hb => by rw [g.2 b (by omega), h.2 b (by omega)]⟩
theorem Free.after {σ σ1 : Sg} {n n1 n2 : Nat} (h : Free σ n n2) (g : Out σ σ1 n n1) (h1 : n ≤ n1) : Free σ1 n1 n2 := fun b hb hb2 => by rw [g.2 b (.inr hb)]; exact h b (by omega) hb2
theorem Free.less {σ : Sg} {n n1 n2 : Nat} (h : Free σ n n2) (h1 : n1 ≤ n2) : Free σ n n1 := fun b hb hb2 => h b hb (by omega)
theorem Kp.trans {lim n1 n2 : Nat} {h h1 h2 : Nat → Option AO} (a : Kp lim n1 h h1) (b : Kp lim n2 h1 h2) (hn : n1 ≤ n2) : Kp lim n2 h h2 := fun c hc => by rw [b c hc, a c (by omega)]
/-- What a call does. -/
structure CallR (P : Program) (lim n n' f : Nat) (av : List V) (h h' : Nat → Option AO) (v : V) : Prop where
  le : n ≤ n'
  keep : Kp lim n' h h'
  nn : Nn n' h'
  sem : ∀ (w0 : World) (Φ : Fz) (σ : Sg) (w : World) (args : List Value), Free σ n n' → VL σ av args → HR w0 Φ σ h w →
    Calls P f args.toArray w fun e w' => ∃ u σ', e = .returned u ∧ Out σ σ' n n' ∧ CV σ' v u ∧ HR w0 Φ σ' h' w'
def CallOK {α : Type} (P : Program) (call : CallT α) : Prop := ∀ (lim f : Nat) (av : List V) (h : H) (n : Nat) (k : V → H → Nat → Option α) (r : α), Nn n h.get → call lim f av h n k = some r → ∃ v h' n', k v h' n' = some r ∧ CallR P lim n n' f av h.get h'.get v ∧ Has P f
def ExR : Ex → Exit → Prop
  | .normal, e => e = .normal
  | .exit i, e => e = .exit i
  | .goto l, e => e = .goto l
  | .ret, e => e = .ret
def QS (ex : Ex) (S : AP) : Exit → AP := fun e a w => ExR ex e ∧ S a w
/-- What code does. -/
structure XR (P : Program) (N m lim : Nat) (c : Code) (t t' : Tr V) (h h' : H) (n n' : Nat) (ex : Ex) : Prop where
  le : n ≤ n'
  keep : Kp lim n' h.get h'.get
  nn : Nn n' h'.get
  sem : ∀ (w0 : World) (Φ : Fz) (σ : Sg) (a : Act) (w : World), Free σ n n' → SL N σ (opT m t []) a → HR w0 Φ σ h.get w →
    cwp P c (QS ex fun a' w' => ∃ σ', Out σ σ' n n' ∧ SL N σ' (opT m t' []) a' ∧ HR w0 Φ σ' h'.get w') a w
section
variable {α : Type} {P : Program} {E : Env} {m : Nat}
theorem opT_put {t t' : Tr V} {lc : Ls} {d : Nat} {v : V} (hk : kept m d = true) (ht : ∀ j, t'.get j = if j = d then some v else t.get j) : opT m t' lc = setT (opT m t lc) (some d) v := by
  funext x
  show (Bool.rec (lookL lc x) (t'.get x) (kept m x) : Option V) = if some x = some d then some v else (Bool.rec (lookL lc x) (t.get x) (kept m x) : Option V)
  by_cases e : x = d
  · subst e
    rw [hk, if_pos rfl]
    show t'.get x = _
    rw [ht, if_pos rfl]
  · rw [if_neg (fun q => e (Option.some.inj q))]
    cases kept m x with
    | false => rfl
    | true => show t'.get x = t.get x; rw [ht, if_neg e]
theorem lookL_cons (d x : Nat) (v : V) (lc : Ls) : lookL ((d, v) :: lc) x = if x = d then some v else lookL lc x := by
  show (Bool.rec (lookL lc x) (some v) (Nat.beq d x) : Option V) = _
  cases q : Nat.beq d x with
  | true => have := beq_iff' q; subst this; rw [if_pos rfl]
  | false => have := beq_not q; rw [if_neg (fun e => this e.symm)]
theorem putO_inv {d : Option Tmp} {v : V} {t : Tr V} {lc : Ls} {k : Tr V → Ls → Option α} {r : α} (e : putO m d v t lc k = some r) : ∃ t' lc', opT m t' lc' = setT (opT m t lc) d v ∧ k t' lc' = some r := by
  cases d with
  | none => exact ⟨t, lc, by funext x; simp [setT], e⟩
  | some d =>
    have e : (Bool.rec (k t ((d, v) :: lc)) (Tr.putK v t d fun t => k t lc) (kept m d) : Option α) = some r := e
    rcases rec_t e with ⟨hk, e1⟩ | ⟨hk, e1⟩
    · obtain ⟨t', h1, e2⟩ := Tr.putK_inv e1
      exact ⟨t', lc, opT_put hk h1, e2⟩
    · refine ⟨t, _, ?_, e1⟩
      funext x
      show (Bool.rec (lookL ((d, v) :: lc) x) (t.get x) (kept m x) : Option V) = if some x = some d then some v else (Bool.rec (lookL lc x) (t.get x) (kept m x) : Option V)
      by_cases q : x = d
      · subst q
        rw [hk, if_pos rfl]
        show lookL _ x = _
        rw [lookL_cons, if_pos rfl]
      · rw [if_neg (fun e => q (Option.some.inj e))]
        cases kept m x with
        | true => rfl
        | false => show lookL _ x = lookL lc x; rw [lookL_cons, if_neg q]
theorem SL.forget {N : Nat} {σ : Sg} {t : Tr V} {lc : Ls} {a : Act} (h : SL N σ (opT m t lc) a) : SL N σ (opT m t []) a := ⟨h.size, h.defers, fun x v e => h.at_ x v (by
  have e : (Bool.rec (lookL [] x) (t.get x) (kept m x) : Option V) = some v := e
  show (Bool.rec (lookL lc x) (t.get x) (kept m x) : Option V) = some v
  rcases rec_t e with ⟨hk, e⟩ | ⟨hk, e⟩
  · rw [hk]; exact e
  · exact nn e)⟩
theorem puts_inv {lim : Nat} : ∀ {us : List (Nat × AO)} {h : H} {k : H → Option α} {r : α}, puts lim us h k = some r → (∀ p ∈ us, lim ≤ p.1) ∧ ∃ h' : H, h'.get = upd us h.get ∧ k h' = some r
  | [], h, k, r, e => ⟨fun _ hp => by simp at hp, h, rfl, e⟩
  | (b, o) :: us, h, k, r, e => by
    obtain ⟨h1, e1⟩ := iff_inv (e : iff (Nat.ble lim b) (Tr.putK o h b fun h => puts lim us h k) = some r)
    obtain ⟨h2, g1, e2⟩ := Tr.putK_inv e1
    obtain ⟨h3, h4, g2, e3⟩ := puts_inv e2
    refine ⟨fun p hp => ?_, h4, ?_, e3⟩
    · rcases List.mem_cons.1 hp with rfl | hp
      · exact ble_iff h1
      · exact h3 p hp
    · rw [g2]
      show upd us h2.get = upd us (set1 h.get b o)
      congr 1
      funext j
      rw [g1]; rfl
theorem upd_out : ∀ {us : List (Nat × AO)} {h : Nat → Option AO} {a : Nat}, (∀ p ∈ us, p.1 ≠ a) → upd us h a = h a
  | [], _, _, _ => rfl
  | (b, o) :: us, h, a, hp => by
    show upd us (set1 h b o) a = h a
    rw [upd_out (fun p hp' => hp p (by simp [hp']))]
    have := hp (b, o) (by simp)
    show (if a = b then some o else h a) = h a
    rw [if_neg (fun e => this e.symm)]
theorem SSem.names {o : Op} {T : Nat → Option V} {h : Nat → Option AO} {n n' : Nat} {v : V} {rs : List Nat} {us : List (Nat × AO)} (H : SSem P o T h n v rs us n') (hN : Nn n h) : (∀ p ∈ us, p.1 < n') ∧ (∀ b ∈ rs, b < n) := by
  have h2 : ∀ b ∈ rs, b < n := fun b hb => by
    obtain ⟨ob, ho⟩ := H.rd b hb
    rcases Nat.lt_or_ge b n with h | h
    · exact h
    · rw [hN b h] at ho; cases ho
  refine ⟨fun p hp => ?_, h2⟩
  rcases H.new p hp with h | h
  · exact Nat.lt_of_lt_of_le (h2 _ h) H.le
  · exact h.2
theorem SSem.kp {o : Op} {T : Nat → Option V} {h : Nat → Option AO} {n n' lim : Nat} {v : V} {rs : List Nat} {us : List (Nat × AO)} (H : SSem P o T h n v rs us n') (hN : Nn n h) (hl : ∀ p ∈ us, lim ≤ p.1) : Kp lim n' h (upd us h) ∧ Nn n' (upd us h) := by
  have h1 := (H.names hN).1
  have key : ∀ a, (a < lim ∨ n' ≤ a) → upd us h a = h a := fun a ha => upd_out fun p hp e => by
    subst e
    have := h1 p hp
    have := hl p hp
    omega
  exact ⟨key, fun a ha => by rw [key a (.inr ha)]; exact hN a (Nat.le_trans H.le ha)⟩
theorem guardC_inv {w : Bool} {x : C} {K : Bool → Option α} {r : α} (e : guardC w x K = some r) : (∃ b, x = .b b ∧ K (b == w) = some r) ∨ ((∀ b, x ≠ .b b) ∧ K false = some r) := by
  cases x with
  | b b => exact .inl ⟨b, rfl, by cases w <;> cases b <;> exact e⟩
  | _ => exact .inr ⟨fun b h => (by cases h), e⟩
def gslot (all : List Oper) (g : Option (Nat × Bool)) : List Nat := match g with
  | none => []
  | some (j, _) => match all[j]? with
    | none => []
    | some o => o.dst.toList
theorem wants_inv {t : Tr V} {lc : Ls} {all : List Oper} {g : Option (Nat × Bool)} {K : Bool → Option α} {r : α} (e : wants m t lc all g K = some r) : ∃ b, K b = some r ∧ ∀ (N : Nat) (σ : Sg) (T2 : Nat → Option V) (a : Act) (o : Oper), o.guard = g → (∀ x ∈ gslot all g, T2 x = opT m t lc x) → SL N σ T2 a → Region.wanted o (yielded all.toArray a.tmps) = b := by
  cases g with
  | none => exact ⟨true, e, fun N σ T2 a o hg _ _ => by simp [Region.wanted, hg]⟩
  | some p =>
    obtain ⟨j, w⟩ := p
    obtain ⟨oj, h1, e1⟩ := nthK_inv _ _ _ _ (e : nthK all j (fun o => oc o.dst fun d => oc (opT m t lc d) fun v => V.rec (fun x => guardC w x K) (fun _ => K false) (fun _ => K false) v) = some r)
    obtain ⟨d, h2, e2⟩ := oc_inv e1
    obtain ⟨v, h3, e3⟩ := oc_inv e2
    have fin : ∀ b : Bool, K b = some r → (∀ σ u, CV σ v u → (((match some u with | some (Value.bool b) => some b | _ => none) == some w) = true ↔ b = true)) → ∃ b, K b = some r ∧ ∀ (N : Nat) (σ : Sg) (T2 : Nat → Option V) (a : Act) (o : Oper), o.guard = some (j, w) → (∀ x ∈ gslot all (some (j, w)), T2 x = opT m t lc x) → SL N σ T2 a → Region.wanted o (yielded all.toArray a.tmps) = b := fun b hb H =>
      ⟨b, hb, fun N σ T2 a o hg hT hs => by
        have hT := hT d (by simp [gslot, h1, h2])
        obtain ⟨u, g1, g2⟩ := hs.at_ d v (hT.trans h3)
        have := H σ u g2
        simp only [Region.wanted, hg]
        have hy : yielded all.toArray a.tmps j = (match some u with | some (Value.bool b) => some b | _ => none) := by
          simp [yielded, h1, h2, g1]
          cases u <;> rfl
        rw [hy]
        cases b with
        | true => exact this.2 rfl
        | false =>
          cases q : ((match some u with | some (Value.bool b) => some b | _ => none) == some w) with
          | false => rfl
          | true => exact absurd (this.1 q) (by simp)⟩
    cases v with
    | c x =>
      rcases guardC_inv (e3 : guardC w x K = some r) with ⟨b, rfl, e4⟩ | ⟨hx, e4⟩
      · refine fin _ e4 fun σ u hu => ?_
        have hu : u = .bool b := hu
        subst hu
        cases b <;> cases w <;> simp
      · refine fin _ e4 fun σ u hu => ?_
        have hu : CC σ x u := hu
        have : ∀ b, u ≠ .bool b := fun b e => by
          subst e
          cases x <;> simp only [CC] at hu
          all_goals first
            | (exact absurd rfl (hx _))
            | (cases hu; done)
            | (obtain ⟨_, h, _⟩ := hu; cases h; done)
            | (obtain ⟨_, _, _, h⟩ := hu; cases h; done)
            | (obtain ⟨_, _, _, h | ⟨_, _, _, h⟩⟩ := hu <;> cases h; done)
            | (obtain ⟨_, _, _, _, h⟩ := hu; cases h; done)
        cases u <;> first | exact absurd rfl (this _) | simp
    | a l =>
      refine fin _ e3 fun σ u hu => ?_
      obtain ⟨cs, rfl, _⟩ := hu
      simp
    | t l =>
      refine fin _ e3 fun σ u hu => ?_
      obtain ⟨cs, rfl, _⟩ := hu
      simp
theorem isCall_inv {o : Op} {k : Operand → Array Operand → Option α} {z : Option α} {r : α} (e : isCall o k z = some r) : (∃ x ars ats, o = .call ⟨.value x, ars, ats⟩ ∧ k x ars = some r) ∨ z = some r := by
  cases o with
  | call c =>
    obtain ⟨callee, ars, ats⟩ := c
    cases callee with
    | value x => exact .inl ⟨x, ars, ats, rfl, e⟩
    | invoke _ _ => exact .inr e
    | builtin _ => exact .inr e
  | _ => exact .inr e
theorem calleeK_inv {t : Tr V} {lc : Ls} {x : Operand} {ars : Array Operand} {ats : Array TypeId} {k : Nat → List V → Option α} {r : α} (e : calleeK m t lc x ars k = some r) : ∃ g av, k g av = some r ∧ ∀ (N : Nat) (σ : Sg) (T2 : Nat → Option V) (a : Act) (w : World), Tm (.call ⟨.value x, ars, ats⟩) (opT m t lc) T2 → SL N σ T2 a → Has P g →
    ∃ args : List Value, VL σ av args ∧ ∀ o' : Oper, o'.op = .call ⟨.value x, ars, ats⟩ → (execOp a.eval o').run P w = .ok (.enter g args.toArray) w := by
  obtain ⟨vs, hv, e1⟩ := opdL_inv e
  obtain ⟨fv, hf, e2⟩ := opd_inv e1
  obtain ⟨g, fs, cs, rfl, e3⟩ := fnK_inv e2
  rw [ptrVs_eq, appV_eq, ptrVs_eq] at e3
  refine ⟨g, _, e3, fun N σ T2 a w ht hs hg => ?_⟩
  have h1 := evOs hv (fun y hy => by simp [Op.operands, Call.operands, hy]) ht hs
  obtain ⟨A, B, h2, h3, h4⟩ := evO hf (by simp [Op.operands, Call.operands]) ht hs
  refine ⟨A ++ (ars.toList.map a.eval ++ (B ++ [])), h2.vl.append (h1.append (h3.vl.append trivial)), fun o' q => ?_⟩
  simp [execOp, q, resolve, h4, Deferred.ofValue, invoke, Sl.run_callFunc hg]
theorem RLd_mono {ops : Array Oper} {K K' : AP} (hk : ∀ a w, K a w → K' a w) : ∀ {l : List Oper} {a : Act} {w : World}, RLd P ops l K a w → RLd P ops l K' a w
  | [], _, _, h => hk _ _ h
  | o :: l, a, w, h => by
    unfold RLd at h ⊢
    split
    · rename_i q; rw [if_pos q] at h; exact opS_mono (fun a w h => RLd_mono hk h) h
    · rename_i q; rw [if_neg q] at h; exact RLd_mono hk h
theorem runOps_ok {call : CallT α} (hE : ∀ t ti, E.tt.get t = some ti → TIok P t ti) (hc : CallOK P call) {N lim : Nat} {all : List Oper} : ∀ (l : List Oper) (t : Tr V) (lc : Ls) (h : H) (n : Nat) (k : Tr V → H → Nat → Option α) (r : α), (∀ o ∈ l, ∀ d, o.dst = some d → d < N) → Nn n h.get → runOps call E m lim all l t lc h n k = some r →
    ∃ t' h' n', k t' h' n' = some r ∧ n ≤ n' ∧ Kp lim n' h.get h'.get ∧ Nn n' h'.get ∧ ∀ (w0 : World) (Φ : Fz) (σ : Sg) (a : Act) (w : World), Free σ n n' → SL N σ (opT m t lc) a → HR w0 Φ σ h.get w →
      RL P all.toArray l (fun a' w' => ∃ σ', Out σ σ' n n' ∧ SL N σ' (opT m t' []) a' ∧ HR w0 Φ σ' h'.get w') a w
  | [], t, lc, h, n, k, r, _, hN, e => ⟨t, h, n, e, Nat.le_refl _, fun _ _ => rfl, hN, fun w0 Φ σ a w _ hs H => RL_nil ⟨σ, Out.refl σ n n, hs.forget, H⟩⟩
  | ⟨dst, op, ty, pos, af, g⟩ :: l, t, lc, h, n, k, r, hd, hN, e => by
    have hdl := hd ⟨dst, op, ty, pos, af, g⟩ (by simp)
    obtain ⟨b, e1, hw⟩ := wants_inv (e : wants m t lc all g _ = some r)
    rcases rec_t e1 with ⟨hb, e2⟩ | ⟨hb, e2⟩
    · subst hb
      rcases isCall_inv e2 with ⟨x, ars, ats, rfl, e3⟩ | e3
      · obtain ⟨f, av, e4, hx⟩ := calleeK_inv (P := P) (ats := ats) e3
        obtain ⟨v, h1, n1, e5, hR, hF⟩ := hc _ _ _ _ _ _ _ hN e4
        obtain ⟨t1, lc1, ht1, e6⟩ := putO_inv e5
        obtain ⟨t', h', n', e7, q1, q2, q3, q4⟩ := runOps_ok hE hc l t1 lc1 h1 n1 k r (fun o ho => hd o (by simp [ho])) hR.nn e6
        refine ⟨t', h', n', e7, Nat.le_trans hR.le q1, hR.keep.trans q2 q1, q3, fun w0 Φ σ a w hf hs H => RL_step fun K' hK' => ?_⟩
        rw [if_pos (hw N σ _ a _ rfl (fun _ _ => rfl) hs)]
        obtain ⟨args, g1, g2⟩ := hx N σ _ a w (fun _ _ => rfl) hs hF
        unfold Sl.opS
        rw [g2 _ rfl]
        refine (hR.sem w0 Φ σ w args (hf.less q1) g1 H).mono ?_
        rintro e w' ⟨u, σ', rfl, f1, f2, f3⟩
        refine ⟨u, rfl, hK' _ _ ?_⟩
        have hs' := (hs.le f1.1).put (d := dst) (u := u) hdl f2
        rw [← ht1] at hs'
        obtain ⟨hd⟩ := q4 w0 Φ σ' _ w' (hf.after f1 hR.le) hs' f3
        refine RL.mk (RLd_mono (fun a w ⟨σ2, p1, p2, p3⟩ => ⟨σ2, f1.trans p1 hR.le q1, p2, p3⟩) hd)
      · obtain ⟨v, rs, us, n1, e4, hS⟩ := simple_ok (P := P) hE e3
        obtain ⟨hl, h1, hh, e5⟩ := puts_inv e4
        obtain ⟨t1, lc1, ht1, e6⟩ := putO_inv e5
        obtain ⟨k1, k2⟩ := hS.kp hN hl
        rw [← hh] at k1 k2
        obtain ⟨t', h', n', e7, q1, q2, q3, q4⟩ := runOps_ok hE hc l t1 lc1 h1 n1 k r (fun o ho => hd o (by simp [ho])) k2 e6
        refine ⟨t', h', n', e7, Nat.le_trans hS.le q1, k1.trans q2 q1, q3, fun w0 Φ σ a w hf hs H => RL_step fun K' hK' => ?_⟩
        rw [if_pos (hw N σ _ a _ rfl (fun _ _ => rfl) hs)]
        refine SSem.opS (o := ⟨dst, op, ty, pos, af, g⟩) hS (fun _ _ => rfl) (fun _ _ => rfl) (hf.less q1) hs H fun u w' σ' f1 f2 f3 f4 => hK' _ _ ?_
        have fo : Out σ σ' n n1 := ⟨f1, f2⟩
        have hs' := (hs.le f1).put (d := dst) (u := u) hdl f3
        rw [← ht1] at hs'
        rw [← hh] at f4
        obtain ⟨hd⟩ := q4 w0 Φ σ' _ w' (hf.after fo hS.le) hs' f4
        refine RL.mk (RLd_mono (fun a w ⟨σ2, p1, p2, p3⟩ => ⟨σ2, fo.trans p1 hS.le q1, p2, p3⟩) hd)
    · subst hb
      obtain ⟨t1, lc1, ht1, e3⟩ := putO_inv e2
      obtain ⟨t', h', n', e4, q1, q2, q3, q4⟩ := runOps_ok hE hc l t1 lc1 h n k r (fun o ho => hd o (by simp [ho])) hN e3
      refine ⟨t', h', n', e4, q1, q2, q3, fun w0 Φ σ a w hf hs H => RL_step fun K' hK' => ?_⟩
      rw [if_neg (by rw [hw N σ _ a _ rfl (fun _ _ => rfl) hs]; simp)]
      refine hK' _ _ ?_
      have hs' := hs.put (d := dst) (v := unit) (u := undef) hdl CV_undef
      rw [← ht1] at hs'
      exact q4 w0 Φ σ _ w hf hs' H
end
end Go.D
namespace Go.D
set_option linter.unusedVariables false
set_option linter.unusedSimpArgs false
open Go.RowKit Go.Sl
abbrev TS := Nat → Option V
abbrev HS := Nat → Option AO
structure Eff where
  rt : List Nat
  tv : TS
  d : Option Tmp
  v : V
  dom : Nat → Prop
  g : HS
  g' : HS
structure Step (e : Eff) (T : TS) (h : HS) (T' : TS) (h' : HS) : Prop where
  rd : ∀ t ∈ e.rt, T t = e.tv t
  pre : ∀ a, e.dom a → h a = e.g a
  slots : T' = setT T e.d e.v
  post : ∀ a, e.dom a → h' a = e.g' a
  out : ∀ a, ¬ e.dom a → h' a = h a
structure Compat (e f : Eff) : Prop where
  s1 : ∀ t ∈ f.rt, e.d ≠ some t
  s2 : ∀ t ∈ e.rt, f.d ≠ some t
  s3 : ∀ t, e.d = some t → f.d ≠ some t
  h : ∀ a, e.dom a → f.dom a → e.g a = e.g' a ∧ f.g a = f.g' a
open Classical in
theorem swap {e f : Eff} {T T1 T2 : TS} {h h1 h2 : HS} (he : Step e T h T1 h1) (hf : Step f T1 h1 T2 h2) (hc : Compat e f) : ∃ T' h', Step f T h T' h' ∧ Step e T' h' T2 h2 := by
  have hr : ∀ t, e.d ≠ some t → T1 t = T t := fun t ht => by rw [he.slots, setT, if_neg (fun q => ht q.symm)]
  have hsame : ∀ a, f.dom a → h1 a = h a := fun a ha => by
    by_cases hd : e.dom a
    · rw [he.post a hd, he.pre a hd, (hc.h a hd ha).1]
    · exact he.out a hd
  refine ⟨setT T f.d f.v, fun a => if f.dom a then f.g' a else h a, ⟨fun t ht => ?_, fun a ha => ?_, rfl, fun a ha => if_pos ha, fun a ha => if_neg ha⟩, ⟨fun t ht => ?_, fun a ha => ?_, ?_, fun a ha => ?_, fun a ha => ?_⟩⟩
  · rw [← hr t (hc.s1 t ht)]; exact hf.rd t ht
  · rw [← hsame a ha]; exact hf.pre a ha
  · rw [setT, if_neg (fun q => hc.s2 t ht q.symm)]; exact he.rd t ht
  · show (if f.dom a then f.g' a else h a) = e.g a
    split
    · rename_i hfd
      rw [← (hc.h a ha hfd).2, ← hf.pre a hfd, hsame a hfd, he.pre a ha]
    · exact he.pre a ha
  · rw [hf.slots, he.slots]
    funext t
    simp only [setT]
    by_cases c1 : some t = f.d
    · have : ¬ some t = e.d := fun c2 => hc.s3 t c2.symm c1.symm
      rw [if_pos c1, if_neg this, if_pos c1]
    · rw [if_neg c1, if_neg c1]
  · by_cases hfd : f.dom a
    · rw [hf.post a hfd, ← (hc.h a ha hfd).2, ← hf.pre a hfd, he.post a ha]
    · rw [hf.out a hfd, he.post a ha]
  · show h2 a = if f.dom a then f.g' a else h a
    split
    · rename_i hfd; exact hf.post a hfd
    · rename_i hfd; rw [hf.out a hfd, he.out a ha]
/-- An operation of the region: its number, what it waits for, its effect, its names. -/
structure En where
  idx : Nat
  wt : Nat
  eff : Eff
  lo : Nat
  hi : Nat
def RunE : List En → TS → HS → TS → HS → Prop
  | [], T, h, Te, he => T = Te ∧ h = he
  | e :: L, T, h, Te, he => ∃ T1 h1, Step e.eff T h T1 h1 ∧ RunE L T1 h1 Te he
theorem bubble {e : En} {L2 : List En} {Te : TS} {he : HS} : ∀ {L1 : List En} {T : TS} {h : HS}, RunE (L1 ++ e :: L2) T h Te he → (∀ f ∈ L1, Compat f.eff e.eff) → ∃ T1 h1, Step e.eff T h T1 h1 ∧ RunE (L1 ++ L2) T1 h1 Te he
  | [], _, _, hr, _ => hr
  | f :: L1, T, h, ⟨Ta, ha, hs, hr⟩, hc => by
    obtain ⟨Tb, hb, h1, h2⟩ := bubble hr (fun g hg => hc g (by simp [hg]))
    obtain ⟨Tc, hc', h3, h4⟩ := swap hs h1 (hc f (by simp))
    exact ⟨Tc, hc', h3, Tb, hb, h4, h2⟩
def Dj (e f : En) : Prop := ∀ b, ¬ ((e.lo ≤ b ∧ b < e.hi) ∧ (f.lo ≤ b ∧ b < f.hi))
def OpE (P : Program) (ops : Array Oper) (N : Nat) (e : En) : Prop :=
  ∀ (w0 : World) (Φ : Fz) (σ : Sg) (T : TS) (h : HS) (T' : TS) (h' : HS) (a : Act) (w : World) (K : AP), Step e.eff T h T' h' → Free σ e.lo e.hi → SL N σ T a → HR w0 Φ σ h w →
    (∀ a' w' σ', Out σ σ' e.lo e.hi → SL N σ' T' a' → HR w0 Φ σ' h' w' → K a' w') → wpOpS P ops e.idx K a w
structure PW (f e : En) : Prop where
  lt : f.idx < e.idx
  co : kept e.wt f.idx = false → Compat f.eff e.eff
  dj : Dj f e
theorem any_ok {P : Program} {ops : Array Oper} {N : Nat} {w0 : World} {Φ : Fz} {Te : TS} {he : HS} {K : AP} {ms : Nat → Nat}
    (hedge : ∀ i o, ops[i]? = some o → ∀ e ∈ o.after, Region.binds .any e = true → e.on < i)
    (hmask : ∀ i o j, ops[i]? = some o → kept (ms i) j = true → ∃ e ∈ o.after, Region.binds .any e = true ∧ (e.on = j ∨ kept (ms e.on) j = true)) :
    ∀ (m : Nat) (R : List En) (listed : Array Bool) (T : TS) (h : HS) (σ : Sg) (a : Act) (w : World), R.length = m → listed.size = ops.size → (∀ i, i < ops.size → (listed.getD i false = false ↔ ∃ e ∈ R, e.idx = i)) → (∀ e ∈ R, e.idx < ops.size ∧ e.wt = ms e.idx ∧ OpE P ops N e ∧ Free σ e.lo e.hi) →
      R.Pairwise PW → (∀ i j, listed.getD i false = true → kept (ms i) j = true → listed.getD j false = true) → RunE R T h Te he → SL N σ T a → HR w0 Φ σ h w →
      (∀ a w σ', σ.le σ' → (∀ b, (∀ e ∈ R, ¬ (e.lo ≤ b ∧ b < e.hi)) → σ' b = σ b) → SL N σ' Te a → HR w0 Φ σ' he w → K a w) → anyS P ops K m listed a w
  | m, R, listed, T, h, σ, a, w, hlen, hsz, hmem, hall, hpw, hcl, hrun, hs, H, hK => by
    have hempty : Region.ready .any ops listed = [] → R = [] := fun hr => by
      cases R with
      | nil => rfl
      | cons e R =>
        exfalso
        have hlt := (hall e (by simp)).1
        have hun : listed.getD e.idx false = false := (hmem e.idx hlt).2 ⟨e, by simp, rfl⟩
        have : e.idx ∈ Region.ready .any ops listed := by
          rw [mem_ready]
          refine ⟨by simpa [Array.getD_eq_getD_getElem?, hsz, hlt] using hun, ops[e.idx], by simp [hlt], fun ed hed hb => ?_⟩
          have h1 := hedge e.idx ops[e.idx] (by simp [hlt]) ed hed hb
          cases q : listed.getD ed.on false with
          | true => rfl
          | false =>
            obtain ⟨f, hf, hfi⟩ := (hmem ed.on (by omega)).1 q
            rcases List.mem_cons.1 hf with rfl | hf
            · omega
            · have := (List.pairwise_cons.1 hpw).1 f hf
              have := this.lt
              omega
        rw [hr] at this
        cases this
    have hdone : R = [] → K a w := fun hR => by
      subst hR
      obtain ⟨rfl, rfl⟩ := hrun
      exact hK a w σ (Sg.le.refl σ) (fun _ _ => rfl) hs H
    cases m with
    | zero =>
      have hR : R = [] := List.eq_nil_of_length_eq_zero hlen
      refine ⟨?_, hdone hR⟩
      cases q : Region.ready .any ops listed with
      | nil => rfl
      | cons i l =>
        exfalso
        have hi : i ∈ Region.ready .any ops listed := by rw [q]; simp
        obtain ⟨h1, o, h2, _⟩ := mem_ready.1 hi
        have hlt : i < ops.size := (Array.getElem?_eq_some_iff.1 h2).1
        have hun : listed.getD i false = false := by simpa [Array.getD_eq_getD_getElem?, hsz, hlt] using h1
        obtain ⟨e, he, _⟩ := (hmem i hlt).1 hun
        rw [hR] at he
        cases he
    | succ m =>
      refine ⟨fun hr => hdone (hempty hr), fun i hi => ?_⟩
      obtain ⟨h1, o, h2, hedges⟩ := mem_ready.1 hi
      have hlt : i < ops.size := (Array.getElem?_eq_some_iff.1 h2).1
      have hun : listed.getD i false = false := by simpa [Array.getD_eq_getD_getElem?, hsz, hlt] using h1
      obtain ⟨e, heR, hei⟩ := (hmem i hlt).1 hun
      obtain ⟨L1, L2, hsplit⟩ := List.append_of_mem heR
      subst hsplit
      obtain ⟨g1, g2, g3, g4⟩ := hall e heR
      rw [List.pairwise_append, List.pairwise_cons] at hpw
      obtain ⟨p1, ⟨p2, p3⟩, p4⟩ := hpw
      have hmk : ∀ j, kept (ms i) j = true → listed.getD j false = true := fun j hj => by
        obtain ⟨ed, hed, hb, hor⟩ := hmask i o j h2 hj
        have := hedges ed hed hb
        rcases hor with rfl | hor
        · exact this
        · exact hcl _ _ this hor
      have hco : ∀ f ∈ L1, Compat f.eff e.eff := fun f hf => by
        refine (p4 f hf e (by simp)).co ?_
        cases q : kept e.wt f.idx with
        | false => rfl
        | true =>
          rw [g2, hei] at q
          have h3 := hmk _ q
          have h4 := (hmem f.idx (hall f (by simp [hf])).1).2 ⟨f, by simp [hf], rfl⟩
          rw [h4] at h3
          cases h3
      obtain ⟨T1, h1', hst, hrun'⟩ := bubble hrun hco
      have hset : ∀ j, (listed.setIfInBounds i true).getD j false = if j = i then true else listed.getD j false := fun j => by
        by_cases q : j = i
        · subst q; simp [Array.getD_eq_getD_getElem?, hsz, hlt]
        · have : i ≠ j := fun e => q e.symm
          simp [Array.getD_eq_getD_getElem?, q, this]
      have hL : ∀ f, f ∈ L1 ++ L2 → f.idx ≠ i ∧ f ∈ L1 ++ e :: L2 ∧ Dj f e := fun f hf => by
        rcases List.mem_append.1 hf with hf | hf
        · have := p4 f hf e (by simp)
          exact ⟨by have := this.lt; omega, by simp [hf], this.dj⟩
        · have := p2 f hf
          exact ⟨by have := this.lt; omega, by simp [hf], fun b hb => this.dj b ⟨hb.2, hb.1⟩⟩
      rw [← hei]
      refine g3 w0 Φ σ T h T1 h1' a w _ hst g4 hs H fun a' w' σ' ho hs' H' => ?_
      rw [hei]
      refine any_ok hedge hmask m (L1 ++ L2) (listed.setIfInBounds i true) T1 h1' σ' a' w' (by simp at hlen ⊢; omega) (by simp [hsz]) (fun j hj => ?_) (fun f hf => ?_) ?_ (fun p q hp hq => ?_) hrun' hs' H' (fun a w σ2 k1 k2 k3 k4 => hK a w σ2 (ho.1.trans k1) (fun b hb => ?_) k3 k4)
      · rw [hset]
        by_cases q : j = i
        · subst q
          rw [if_pos rfl]
          exact ⟨fun h => (by cases h), fun ⟨f, hf, hfi⟩ => absurd hfi (hL f hf).1⟩
        · rw [if_neg q, hmem j hj]
          constructor
          · rintro ⟨f, hf, hfi⟩
            rcases List.mem_append.1 hf with hf | hf
            · exact ⟨f, by simp [hf], hfi⟩
            · rcases List.mem_cons.1 hf with rfl | hf
              · exact absurd (hfi.symm.trans hei) q
              · exact ⟨f, by simp [hf], hfi⟩
          · rintro ⟨f, hf, hfi⟩
            exact ⟨f, (hL f hf).2.1, hfi⟩
      · obtain ⟨_, q2, q3⟩ := hL f hf
        obtain ⟨r1, r2, r3, r4⟩ := hall f q2
        refine ⟨r1, r2, r3, fun b hb hb2 => ?_⟩
        have hd := q3 b
        rw [ho.2 b (by omega)]
        exact r4 b hb hb2
      · rw [List.pairwise_append]
        exact ⟨p1, p3, fun f hf g hg => p4 f hf g (by simp [hg])⟩
      · rw [hset] at hp ⊢
        by_cases q' : q = i
        · rw [if_pos q']
        · rw [if_neg q']
          by_cases p' : p = i
          · subst p'; exact hmk q hq
          · rw [if_neg p'] at hp; exact hcl p q hp hq
      · rw [k2 b (fun f hf => hb f (hL f hf).2.1), ho.2 b (by
          have := hb e (by simp)
          omega)]
end Go.D
namespace Go.D
set_option linter.unusedVariables false
set_option linter.unusedSimpArgs false
open Go.RowKit Go.Sl
section
variable {α : Type}
theorem memN_spec : ∀ {l : List Nat} {a : Nat}, memN l a = false → a ∉ l
  | [], _, _ => by simp
  | b :: l, a, h => by
    have h : (Bool.rec (memN l a) true (Nat.beq a b) : Bool) = false := h
    cases q : Nat.beq a b with
    | true => rw [q] at h; cases h
    | false =>
      rw [q] at h
      simp [beq_not q, memN_spec (show memN l a = false from h)]
theorem disj_spec : ∀ {l r : List Nat}, disj l r = true → ∀ a ∈ l, a ∉ r
  | [], _, _, _, h => by simp at h
  | b :: l, r, h, a, ha => by
    have h : (Bool.rec (disj l r) false (memN r b) : Bool) = true := h
    cases q : memN r b with
    | true => rw [q] at h; cases h
    | false =>
      rw [q] at h
      rcases List.mem_cons.1 ha with rfl | ha
      · exact memN_spec q
      · exact disj_spec (show disj l r = true from h) a ha
theorem allGe_spec {n : Nat} : ∀ {l : List Nat}, allGe n l = true → ∀ a ∈ l, n ≤ a
  | [], _, _, h => by simp at h
  | b :: l, h, a, ha => by
    have h : (Bool.rec false (allGe n l) (Nat.ble n b) : Bool) = true := h
    cases q : Nat.ble n b with
    | false => rw [q] at h; cases h
    | true =>
      rw [q] at h
      rcases List.mem_cons.1 ha with rfl | ha
      · exact ble_iff q
      · exact allGe_spec (show allGe n l = true from h) a ha
theorem allLt_spec {n : Nat} : ∀ {l : List Nat}, allLt n l = true → ∀ a ∈ l, a < n
  | [], _, _, h => by simp at h
  | b :: l, h, a, ha => by
    have h : (Bool.rec false (allLt n l) (Nat.blt b n) : Bool) = true := h
    cases q : Nat.blt b n with
    | false => rw [q] at h; cases h
    | true =>
      rw [q] at h
      rcases List.mem_cons.1 ha with rfl | ha
      · exact blt_iff q
      · exact allLt_spec (show allLt n l = true from h) a ha
theorem apartK_inv {mk n : Nat} {rs ws : List Nat} {k : Option α} {r : α} : ∀ {past : Past}, apartK mk rs ws n past k = some r → k = some r ∧ ∀ p ∈ past, kept mk p.1 = false → fpOk rs ws n p.2 = true
  | [], h => ⟨h, fun _ hp => by simp at hp⟩
  | (j, fp) :: past, h => by
    have h : (Bool.rec (iff (fpOk rs ws n fp) (apartK mk rs ws n past k)) (apartK mk rs ws n past k) (kept mk j) : Option α) = some r := h
    rcases rec_t h with ⟨q, h⟩ | ⟨q, h⟩
    · obtain ⟨h1, h2⟩ := apartK_inv h
      refine ⟨h1, fun p hp hk => ?_⟩
      rcases List.mem_cons.1 hp with rfl | hp
      · rw [q] at hk; cases hk
      · exact h2 p hp hk
    · obtain ⟨h0, h⟩ := iff_inv h
      obtain ⟨h1, h2⟩ := apartK_inv h
      refine ⟨h1, fun p hp hk => ?_⟩
      rcases List.mem_cons.1 hp with rfl | hp
      · exact h0
      · exact h2 p hp hk
theorem callK_inv {mk : Nat} {x : Bool} {k : Option α} {r : α} : ∀ {past : Past}, callK mk x past k = some r → k = some r ∧ ∀ p ∈ past, kept mk p.1 = false → x = false ∧ noWs p.2 = true
  | [], h => ⟨h, fun _ hp => by simp at hp⟩
  | (j, fp) :: past, h => by
    have h : (Bool.rec (Bool.rec (iff (noWs fp) (callK mk x past k)) none x) (callK mk x past k) (kept mk j) : Option α) = some r := h
    rcases rec_t h with ⟨q, h⟩ | ⟨q, h⟩
    · obtain ⟨h1, h2⟩ := callK_inv h
      refine ⟨h1, fun p hp hk => ?_⟩
      rcases List.mem_cons.1 hp with rfl | hp
      · rw [q] at hk; cases hk
      · exact h2 p hp hk
    · rcases rec_t h with ⟨_, h⟩ | ⟨hx, h⟩
      · exact nn h
      · obtain ⟨h0, h⟩ := iff_inv h
        obtain ⟨h1, h2⟩ := callK_inv h
        refine ⟨h1, fun p hp hk => ?_⟩
        rcases List.mem_cons.1 hp with rfl | hp
        · exact ⟨hx, h0⟩
        · exact h2 p hp hk
theorem syOk_inv {sy : Bool} {pend : Pend} {k : Option α} {r : α} (h : syOk sy pend k = some r) : k = some r ∧ (sy = true → pend = []) := by
  cases sy with
  | false => exact ⟨h, fun h => by cases h⟩
  | true =>
    cases pend with
    | nil => exact ⟨h, fun _ => rfl⟩
    | cons _ _ => exact nn h
theorem unames_eq (us : List (Nat × AO)) (k : List Nat → Option α) : unames us k = k (us.map (·.1)) := by
  induction us generalizing k with
  | nil => rfl
  | cons p us ih => obtain ⟨b, o⟩ := p; exact ih _
theorem sort_inv {rs : List Nat} {us : List (Nat × AO)} {n : Nat} {z : Option α} {a : Nat → AO → Option α} {k : Option α} {r : α} (h : sort rs us n z a k = some r) : (rs = [] ∧ us = [] ∧ z = some r) ∨ (∃ b o, rs = [] ∧ us = [(b, o)] ∧ b = n ∧ a b o = some r) ∨ k = some r := by
  cases rs with
  | cons _ _ => exact .inr (.inr h)
  | nil =>
    cases us with
    | nil => exact .inl ⟨rfl, rfl, h⟩
    | cons p us =>
      obtain ⟨b, o⟩ := p
      cases us with
      | cons _ _ => exact .inr (.inr h)
      | nil =>
        rcases rec_t (h : (Bool.rec k (a b o) (Nat.beq b n) : Option α) = some r) with ⟨q, h⟩ | ⟨_, h⟩
        · exact .inr (.inl ⟨b, o, rfl, rfl, beq_iff' q, h⟩)
        · exact .inr (.inr h)
/-- The heap, and what waits to be laid. -/
structure HT (cur : HS) (pend : Pend) (ht : HS) (n : Nat) : Prop where
  pe : ∀ p ∈ pend, ht p.2.1 = some p.2.2 ∧ cur p.2.1 = none ∧ p.2.1 < n
  eq : ∀ a, (∀ p ∈ pend, p.2.1 ≠ a) → ht a = cur a
  nd : pend.Pairwise fun p q => p.2.1 ≠ q.2.1
theorem HT.perm {cur ht : HS} {n : Nat} {p q : Pend} (h : HT cur p ht n) (hp : p.Perm q) : HT cur q ht n :=
  ⟨fun x hx => h.pe x (hp.mem_iff.2 hx), fun a ha => h.eq a fun x hx => ha x (hp.mem_iff.1 hx), (hp.pairwise_iff (fun h => h.symm)).1 h.nd⟩
theorem HT.lay {cur ht : HS} {n j b : Nat} {o : AO} {p : Pend} (h : HT cur ((j, b, o) :: p) ht n) : HT (set1 cur b o) p ht n := by
  have hnd := List.pairwise_cons.1 h.nd
  refine ⟨fun x hx => ?_, fun a ha => ?_, hnd.2⟩
  · obtain ⟨h1, h2, h3⟩ := h.pe x (by simp [hx])
    have := hnd.1 x hx
    exact ⟨h1, by rw [set1, if_neg (fun e => this e.symm)]; exact h2, h3⟩
  · rw [set1]
    split
    · rename_i e; subst e; exact (h.pe (j, _, o) (by simp)).1
    · rename_i e
      refine h.eq a fun x hx => ?_
      rcases List.mem_cons.1 hx with rfl | hx
      · exact fun q => e q.symm
      · exact ha x hx
theorem laid_inv {mk n : Nat} {ht : HS} : ∀ {pend : Pend} {h : H} {r : Pend} {q : Past} {k : H → Pend → Past → Option α} {x : α}, HT h.get (pend ++ r) ht n → Nn n h.get → (∀ p ∈ r, kept mk p.1 = false) → laid mk pend h r q k = some x →
    ∃ h' pend' past', k h' pend' past' = some x ∧ HT h'.get pend' ht n ∧ Nn n h'.get ∧ (∀ p ∈ pend', kept mk p.1 = false) ∧ (∀ p ∈ q, p ∈ past') ∧ ∀ p ∈ pend ++ r, p ∈ pend' ∨ (p.1, Fp.s [] [p.2.1]) ∈ past'
  | [], h, r, q, k, x, hT, hN, hr, e => ⟨h, r, q, e, hT, hN, hr, fun _ hp => hp, fun p hp => .inl (by simpa using hp)⟩
  | (j, b, o) :: pend, h, r, q, k, x, hT, hN, hr, e => by
    have e : (Bool.rec (laid mk pend h ((j, b, o) :: r) q k) (Tr.putK o h b fun h => laid mk pend h r ((j, .s [] [b]) :: q) k) (kept mk j) : Option α) = some x := e
    rcases rec_t e with ⟨hk, e⟩ | ⟨hk, e⟩
    · obtain ⟨h1, g1, e⟩ := Tr.putK_inv e
      have hg : h1.get = set1 h.get b o := by funext a; rw [g1]; rfl
      have hb := (hT.pe (j, b, o) (by simp)).2.2
      obtain ⟨h', pend', past', e, p1, p2, p3, p4, p5⟩ := laid_inv (h := h1) (by rw [hg]; exact hT.lay) (fun a ha => by rw [hg, set1, if_neg (by have : b < n := hb; omega)]; exact hN a ha) hr e
      refine ⟨h', pend', past', e, p1, p2, p3, fun p hp => p4 p (by simp [hp]), fun p hp => ?_⟩
      rcases List.mem_cons.1 hp with rfl | hp
      · exact .inr (p4 _ (by simp))
      · exact p5 p hp
    · obtain ⟨h', pend', past', e, p1, p2, p3, p4, p5⟩ := laid_inv (h := h) (r := (j, b, o) :: r) (hT.perm (by simpa using List.perm_middle.symm)) hN (fun p hp => by
        rcases List.mem_cons.1 hp with rfl | hp
        · exact hk
        · exact hr p hp) e
      refine ⟨h', pend', past', e, p1, p2, p3, p4, fun p hp => p5 p ?_⟩
      rcases List.mem_cons.1 hp with rfl | hp
      · simp
      · rcases List.mem_append.1 hp with hp | hp <;> simp [hp]
theorem ends_inv {n : Nat} {ht : HS} : ∀ {pend : Pend} {h : H} {k : H → Option α} {x : α}, HT h.get pend ht n → ends pend h k = some x → ∃ h' : H, h'.get = ht ∧ k h' = some x
  | [], h, k, x, hT, e => ⟨h, by funext a; exact (hT.eq a (fun _ hp => by simp at hp)).symm, e⟩
  | (j, b, o) :: pend, h, k, x, hT, e => by
    obtain ⟨h1, g1, e⟩ := Tr.putK_inv (e : Tr.putK o h b (fun h => ends pend h k) = some x)
    have hg : h1.get = set1 h.get b o := by funext a; rw [g1]; rfl
    exact ends_inv (h := h1) (by rw [hg]; exact hT.lay) e
def Cov (past : Past) (pend : Pend) (n j : Nat) (e : Eff) : Prop := (∀ a, e.dom a → a < n) ∧
  ((∀ a, ¬ e.dom a) ∨ (∃ rs ws, (j, Fp.s rs ws) ∈ past ∧ (∀ a, e.dom a → a ∈ rs ∨ a ∈ ws) ∧ ∀ a, e.dom a → a ∉ ws → e.g a = e.g' a) ∨ (∃ b o, (j, b, o) ∈ pend ∧ ∀ a, e.dom a → a = b) ∨
    ∃ lo x, (j, Fp.c lo x) ∈ past ∧ lo ≤ n ∧ (x = false → ∀ a, e.dom a → a < lo → e.g a = e.g' a))
theorem Cov.mono {past past' : Past} {pend pend' : Pend} {n n' j : Nat} {e : Eff} (h : Cov past pend n j e) (hn : n ≤ n') (hp : ∀ p ∈ past, p ∈ past') (hq : ∀ p ∈ pend, p ∈ pend' ∨ (p.1, Fp.s [] [p.2.1]) ∈ past') : Cov past' pend' n' j e := by
  obtain ⟨h0, h⟩ := h
  refine ⟨fun a ha => Nat.lt_of_lt_of_le (h0 a ha) hn, ?_⟩
  rcases h with h | ⟨rs, ws, h1, h2, h3⟩ | ⟨b, o, h1, h2⟩ | ⟨lo, x, h1, h2, h3⟩
  · exact .inl h
  · exact .inr (.inl ⟨rs, ws, hp _ h1, h2, h3⟩)
  · rcases hq _ h1 with h4 | h4
    · exact .inr (.inr (.inl ⟨b, o, h4, h2⟩))
    · exact .inr (.inl ⟨[], [b], h4, fun a ha => .inr (by simp [h2 a ha]), fun a ha hb => absurd (by simp [h2 a ha]) hb⟩)
  · exact .inr (.inr (.inr ⟨lo, x, hp _ h1, Nat.le_trans h2 hn, h3⟩))
theorem Cov.simple {past : Past} {pend : Pend} {n n' j mk : Nat} {e f : Eff} {rs ws : List Nat} {cur ht : HS} (h : Cov past pend n j e) (hk : kept mk j = false) (hfp : ∀ p ∈ past, kept mk p.1 = false → fpOk rs ws n p.2 = true) (hT : HT cur pend ht n)
    (hf : ∀ a, f.dom a → a ∈ rs ∨ a ∈ ws) (hro : ∀ a, f.dom a → a ∉ ws → f.g a = f.g' a) (hrs : ∀ a ∈ rs, ∃ o, cur a = some o) (hws : ∀ a ∈ ws, a ∈ rs ∨ (n ≤ a ∧ a < n')) : ∀ a, e.dom a → f.dom a → e.g a = e.g' a ∧ f.g a = f.g' a := fun a ha hb => by
  obtain ⟨h0, h⟩ := h
  rcases h with h | ⟨rs', ws', h1, h2, h3⟩ | ⟨b, o, h1, h2⟩ | ⟨lo, x, h1, h2, h3⟩
  · exact absurd ha (h a)
  · have h4 := hfp _ h1 hk
    have h4 : (Bool.rec false (Bool.rec false (disj ws rs') (disj ws' ws)) (disj ws' rs) : Bool) = true := h4
    cases c1 : disj ws' rs with
    | false => rw [c1] at h4; cases h4
    | true =>
      rw [c1] at h4
      cases c2 : disj ws' ws with
      | false => rw [c2] at h4; cases h4
      | true =>
        rw [c2] at h4
        have c3 : disj ws rs' = true := h4
        have n1 : a ∉ ws' := fun q => (hf a hb).elim (disj_spec c1 a q) (disj_spec c2 a q)
        have n2 : a ∈ rs' := (h2 a ha).resolve_right n1
        have n3 : a ∉ ws := fun q => disj_spec c3 a q n2
        exact ⟨h3 a ha n1, hro a hb n3⟩
  · exfalso
    have hab := h2 a ha
    obtain ⟨_, h4, h5⟩ := hT.pe _ h1
    subst hab
    have : a ∈ rs := by
      rcases hf a hb with q | q
      · exact q
      · rcases hws a q with q | q
        · exact q
        · have h5 : a < n := h5
          omega
    obtain ⟨o', ho'⟩ := hrs a this
    have h4 : cur a = none := h4
    rw [h4] at ho'
    cases ho'
  · have h4 := hfp _ h1 hk
    have h4 : (Bool.rec (Bool.rec false (allLt lo rs) (allGe n ws)) false x : Bool) = true := h4
    cases x with
    | true => cases h4
    | false =>
      cases c1 : allGe n ws with
      | false => simp only [c1] at h4; cases h4
      | true =>
        simp only [c1] at h4
        have han := h0 a ha
        have n3 : a ∉ ws := fun q => by
          have := allGe_spec c1 a q
          omega
        have n2 : a ∈ rs := (hf a hb).resolve_right n3
        exact ⟨h3 rfl a ha (allLt_spec h4 a n2), hro a hb n3⟩
theorem Cov.call {past : Past} {pend : Pend} {n j mk : Nat} {x : Bool} {e f : Eff} (h : Cov past pend n j e) (hk : kept mk j = false) (hfp : ∀ p ∈ past, kept mk p.1 = false → x = false ∧ noWs p.2 = true) (_hx : x = true → pend = [])
    (hf : ∀ a, f.dom a → ∀ p ∈ pend, p.2.1 ≠ a) (hro : x = false → ∀ a, f.dom a → a < n → f.g a = f.g' a) : ∀ a, e.dom a → f.dom a → e.g a = e.g' a ∧ f.g a = f.g' a := fun a ha hb => by
  obtain ⟨h0, h⟩ := h
  rcases h with h | ⟨rs', ws', h1, h2, h3⟩ | ⟨b, o, h1, h2⟩ | ⟨lo, y, h1, h2, h3⟩
  · exact absurd ha (h a)
  · obtain ⟨hx0, h4⟩ := hfp _ h1 hk
    have n1 : ws' = [] := by
      cases ws' with
      | nil => rfl
      | cons _ _ => cases h4
    subst n1
    exact ⟨h3 a ha (by simp), hro hx0 a hb (h0 a ha)⟩
  · exact absurd (h2 a ha).symm (hf a hb _ h1)
  · obtain ⟨_, h4⟩ := hfp _ h1 hk
    cases h4
end
end Go.D
namespace Go.D
set_option linter.unusedVariables false
set_option linter.unusedSimpArgs false
open Go.RowKit Go.Sl
open Classical in
theorem HR.frame {w0 w : World} {Φ : Fz} {σ : Sg} {h cur : HS} (H : HR w0 Φ σ h w) (D : Nat → Prop) (h1 : ∀ a, D a → h a = cur a) (h2 : ∀ a, ¬ D a → cur a = none) :
    ∃ Φ' : Fz, HR w0 Φ' σ cur w ∧ ∀ σ' cur' w' h', σ.le σ' → HR w0 Φ' σ' cur' w' → (∀ a, ¬ D a → cur' a = none) → (∀ a, D a → h' a = cur' a) → (∀ a, ¬ D a → h' a = h a) → HR w0 Φ σ' h' w' := by
  -- the blocks that are set aside
  let X : Nat → Prop := fun b => ∃ a o x, ¬ D a ∧ h a = some o ∧ o ≠ .dead ∧ σ a = some (b, x)
  have hcur : ∀ a o, cur a = some o → D a ∧ h a = some o := fun a o ha => by
    by_cases hd : D a
    · exact ⟨hd, (h1 a hd).trans ha⟩
    · rw [h2 a hd] at ha; cases ha
  have hX : ∀ b, X b → Φ b = none ∧ b < w.heap.size := fun b ⟨a, o, x, _, g1, g2, g3⟩ => by
    obtain ⟨b', x', f1, f2, f3, _⟩ := H.live a o g1 g2
    rw [g3] at f1; cases f1
    exact ⟨f2, f3⟩
  have hsep : ∀ a o b x, cur a = some o → o ≠ .dead → σ a = some (b, x) → ¬ X b := fun a o b x ha ho hs ⟨a', o', x', g0, g1, g2, g3⟩ => by
    obtain ⟨hd, ha⟩ := hcur a o ha
    have := H.sep a a' o o' b x x' ha g1 ho g2 hs g3
    subst this
    exact g0 hd
  refine ⟨fun b => if X b then w.heap[b]? else Φ b, ⟨⟨H.cw.os, H.cw.tape, H.cw.output, H.cw.size, fun b o hb => ?_, fun e he => by simp at he, fun e he => by simp at he, fun i j x y hi => by simp at hi⟩, fun a o ha ho => ?_, fun a a' o o' b x x' ha ha' => H.sep a a' o o' b x x' (hcur a o ha).2 (hcur a' o' ha').2⟩, fun σ' cur' w' h' hle H' hn hp1 hp2 => ⟨⟨H'.cw.os, H'.cw.tape, H'.cw.output, H'.cw.size, fun b o hb => ?_, fun e he => by simp at he, fun e he => by simp at he, fun i j x y hi => by simp at hi⟩, fun a o ha ho => ?_, fun a a' o o' b x x' ha ha' ho ho' hs hs' => ?_⟩⟩
  · by_cases hx : X b
    · simpa [hx] using hb
    · simp only [hx, if_false] at hb; exact H.cw.frz b o hb
  · obtain ⟨hd, hh⟩ := hcur a o ha
    obtain ⟨b, x, f1, f2, f3, f4⟩ := H.live a o hh ho
    refine ⟨b, x, f1, ?_, f3, f4⟩
    simp only [hsep a o b x ha ho f1, if_false]
    exact f2
  · have hx : ¬ X b := fun hx => by rw [(hX b hx).1] at hb; cases hb
    exact H'.cw.frz b o (by simp only [hx, if_false]; exact hb)
  · by_cases hd : D a
    · rw [hp1 a hd] at ha
      obtain ⟨b, x, f1, f2, f3, f4⟩ := H'.live a o ha ho
      refine ⟨b, x, f1, ?_, f3, f4⟩
      by_cases hx : X b
      · exact (hX b hx).1
      · simpa only [hx, if_false] using f2
    · rw [hp2 a hd] at ha
      obtain ⟨b, x, f1, f2, f3, f4⟩ := H.live a o ha ho
      have hx : X b := ⟨a, o, x, hd, ha, ho, f1⟩
      obtain ⟨ob, hob⟩ : ∃ ob, w.heap[b]? = some ob := ⟨w.heap[b], by simp [f3]⟩
      have hk := H'.cw.frz b ob (by simp only [hx, if_true]; exact hob)
      exact ⟨b, x, hle _ _ f1, f2, (Array.getElem?_eq_some_iff.1 hk).1, (f4.same (hk.trans hob.symm)).le hle⟩
  · have key : ∀ a o a' o' b x x', D a → ¬ D a' → cur' a = some o → h a' = some o' → o ≠ .dead → o' ≠ .dead → σ' a = some (b, x) → σ' a' = some (b, x') → False := fun a o a' o' b x x' hd hd' ha ha' ho ho' hs hs' => by
      obtain ⟨b1, x1, f1, f2, _⟩ := H'.live a o ha ho
      rw [hs] at f1; cases f1
      obtain ⟨b2, x2, g1, _, g3, _⟩ := H.live a' o' ha' ho'
      have := hle _ _ g1
      rw [hs'] at this; cases this
      have hx : X b := ⟨a', o', x', hd', ha', ho', g1⟩
      simp only [hx, if_true] at f2
      have h3 : b < w.heap.size := g3
      rw [Array.getElem?_eq_getElem h3] at f2
      cases f2
    by_cases hd : D a <;> by_cases hd' : D a'
    · rw [hp1 a hd] at ha
      rw [hp1 a' hd'] at ha'
      exact H'.sep a a' o o' b x x' ha ha' ho ho' hs hs'
    · rw [hp1 a hd] at ha
      rw [hp2 a' hd'] at ha'
      exact (key a o a' o' b x x' hd hd' ha ha' ho ho' hs hs').elim
    · rw [hp2 a hd] at ha
      rw [hp1 a' hd'] at ha'
      exact (key a' o' a o b x' x hd' hd ha' ha ho' ho hs' hs).elim
    · rw [hp2 a hd] at ha
      rw [hp2 a' hd'] at ha'
      obtain ⟨b1, x1, f1, _⟩ := H.live a o ha ho
      obtain ⟨b2, x2, g1, _⟩ := H.live a' o' ha' ho'
      have q1 := hle _ _ f1
      have q2 := hle _ _ g1
      rw [hs] at q1; cases q1
      rw [hs'] at q2; cases q2
      exact H.sep a a' o o' b x x' ha ha' ho ho' f1 g1
def rtOf (all : List Oper) (o : Oper) : List Nat := opTmps o.op ++ gslot all o.guard
def mkOf (ms : List (Nat × Bool)) (i : Nat) : Nat := match ms[i]? with
  | some p => p.1
  | none => 0
/-- A region's masks. -/
structure RegOk (N : Nat) (all : List Oper) (ms : List (Nat × Bool)) : Prop where
  dst : ∀ o ∈ all, ∀ d, o.dst = some d → d < N
  edge : ∀ i o, all[i]? = some o → ∀ e ∈ o.after, Region.binds .any e = true → e.on < i
  mask : ∀ i o j, all[i]? = some o → kept (mkOf ms i) j = true → ∃ e ∈ o.after, Region.binds .any e = true ∧ (e.on = j ∨ kept (mkOf ms e.on) j = true)
  slots : ∀ i j oi oj, all[i]? = some oi → all[j]? = some oj → j < i → kept (mkOf ms i) j = false → (∀ d ∈ rtOf all oi, oj.dst ≠ some d) ∧ (∀ d ∈ rtOf all oj, oi.dst ≠ some d) ∧ ∀ d, oj.dst = some d → oi.dst ≠ some d
theorem upd_in : ∀ {us : List (Nat × AO)} {h h2 : HS} {a : Nat}, (∃ p ∈ us, p.1 = a) → upd us h a = upd us h2 a
  | [], _, _, _, ⟨_, hp, _⟩ => by simp at hp
  | (b, o) :: us, h, h2, a, ⟨p, hp, e⟩ => by
    show upd us (set1 h b o) a = upd us (set1 h2 b o) a
    by_cases q : ∃ p ∈ us, p.1 = a
    · exact upd_in q
    · have hq : ∀ p ∈ us, p.1 ≠ a := fun p hp e => q ⟨p, hp, e⟩
      rw [upd_out hq, upd_out hq]
      rcases List.mem_cons.1 hp with rfl | hp
      · subst e; simp [set1]
      · exact absurd e (hq p hp)
section
variable {α : Type} {P : Program} {E : Env} {m : Nat}
/-- What is said of the operations from number i on. -/
structure DR (P : Program) (N m : Nat) (all : List Oper) (ms : List (Nat × Bool)) (lim i ln : Nat) (PE : List (Nat × Eff)) (t t' : Tr V) (lc : Ls) (ht he : HS) (n n' : Nat) (L : List En) : Prop where
  le : n ≤ n'
  keep : Kp lim n' ht he
  nn : Nn n' he
  run : ∃ lce, RunE L (opT m t lc) ht (opT m t' lce) he
  len : L.length = ln
  idx : ∀ q, (∃ e ∈ L, e.idx = q) ↔ (i ≤ q ∧ q < i + ln)
  ok : ∀ e ∈ L, e.wt = mkOf ms e.idx ∧ OpE P all.toArray N e ∧ n ≤ e.lo ∧ e.hi ≤ n' ∧ e.lo ≤ e.hi
  pw : L.Pairwise PW
  past : ∀ j e, (j, e) ∈ PE → ∀ f ∈ L, kept f.wt j = false → Compat e f.eff
theorem DR.cons {N : Nat} {all : List Oper} {ms : List (Nat × Bool)} {lim i len : Nat} {PE : List (Nat × Eff)} {t t' t1 : Tr V} {lc lc1 : Ls} {ht ht1 he : HS} {n n1 n' : Nat} {L : List En} {e : Eff}
    (H : DR P N m all ms lim (i + 1) len ((i, e) :: PE) t1 t' lc1 ht1 he n1 n' L) (hle : n ≤ n1) (hk : Kp lim n1 ht ht1) (hs : Step e (opT m t lc) ht (opT m t1 lc1) ht1) (ho : OpE P all.toArray N ⟨i, mkOf ms i, e, n, n1⟩) (hc : ∀ j f, (j, f) ∈ PE → kept (mkOf ms i) j = false → Compat f e) :
    DR P N m all ms lim i (len + 1) PE t t' lc ht he n n' (⟨i, mkOf ms i, e, n, n1⟩ :: L) := by
  obtain ⟨lce, hr⟩ := H.run
  refine ⟨Nat.le_trans hle H.le, hk.trans H.keep H.le, H.nn, ⟨lce, _, _, hs, hr⟩, by simp [H.len], fun q => ?_, fun f hf => ?_, List.pairwise_cons.2 ⟨fun f hf => ⟨?_, fun hq => H.past i e (by simp) f hf hq, fun b hb => ?_⟩, H.pw⟩, fun j f hj g hg hq => ?_⟩
  · have hi := H.idx q
    constructor
    · rintro ⟨f, hf, hfi⟩
      rcases List.mem_cons.1 hf with rfl | hf
      · have : i = q := hfi
        omega
      · have := hi.1 ⟨f, hf, hfi⟩
        omega
    · intro hq
      by_cases c : q = i
      · exact ⟨⟨i, mkOf ms i, e, n, n1⟩, by simp, c.symm⟩
      · obtain ⟨f, hf, hfi⟩ := hi.2 (by omega)
        exact ⟨f, by simp [hf], hfi⟩
  · rcases List.mem_cons.1 hf with rfl | hf
    · exact ⟨rfl, ho, Nat.le_refl _, H.le, hle⟩
    · obtain ⟨q1, q2, q3, q4, q5⟩ := H.ok f hf
      exact ⟨q1, q2, Nat.le_trans hle q3, q4, q5⟩
  · have := (H.idx f.idx).1 ⟨f, hf, rfl⟩
    show i < f.idx
    omega
  · obtain ⟨_, _, q3, _⟩ := H.ok f hf
    have h1 : b < n1 := hb.1.2
    have h2 : f.lo ≤ b := hb.2.1
    omega
  · rcases List.mem_cons.1 hg with rfl | hg
    · exact hc j f hj hq
    · exact H.past j f (by simp [hj]) g hg hq
open Classical in
theorem runDrawn_ok {call : CallT α} (hE : ∀ t ti, E.tt.get t = some ti → TIok P t ti) (hc : CallOK P call) {N lim : Nat} {all : List Oper} {msA : List (Nat × Bool)} (hreg : RegOk N all msA) : ∀ (l : List Oper) (ms : List (Nat × Bool)) (i : Nat) (past : Past) (pend : Pend) (t : Tr V) (lc : Ls) (h : H) (n : Nat) (k : KD α) (r : α) (ht : HS) (PE : List (Nat × Eff)),
    (∀ q, all[i + q]? = l[q]?) → (∀ q, msA[i + q]? = ms[q]?) → HT h.get pend ht n → Nn n h.get → Nn n ht → (∀ j e, (j, e) ∈ PE → Cov past pend n j e ∧ j < i ∧ ∃ oj, all[j]? = some oj ∧ e.rt = rtOf all oj ∧ e.d = oj.dst) →
    runDrawn call E m lim all l ms i past pend t lc h n k = some r → ∃ L t' h' n', k t' h' n' = some r ∧ DR P N m all msA lim i l.length PE t t' lc ht h'.get n n' L
  | [], ms, i, past, pend, t, lc, h, n, k, r, ht, PE, hall, hms, hT, hN, hNt, hPE, e => by
    obtain ⟨h', h1, e1⟩ := ends_inv hT e
    exact ⟨[], t, h', n, e1, ⟨Nat.le_refl _, fun _ _ => by rw [h1], by rw [h1]; exact hNt, ⟨lc, rfl, h1.symm⟩, rfl, fun q => ⟨fun ⟨_, h, _⟩ => by simp at h, fun hq => by simp at hq; omega⟩, fun _ h => by simp at h, .nil, fun _ _ _ _ h => by simp at h⟩⟩
  | o :: l, [], i, past, pend, t, lc, h, n, k, r, ht, PE, hall, hms, hT, hN, hNt, hPE, e => nn e
  | ⟨dst, op, ty, pos, af, g⟩ :: l, (mk, sy) :: ms, i, past, pend, t, lc, h, n, k, r, ht, PE, hall, hms, hT, hN, hNt, hPE, e => by
    generalize hoo : (⟨dst, op, ty, pos, af, g⟩ : Oper) = oo at hall
    have hai : all[i]? = some oo := by simpa using hall 0
    have hmi : mkOf msA i = mk := by
      have := hms 0
      simp at this
      simp [mkOf, this]
    have hd : ∀ d, dst = some d → d < N := fun d hdd => hreg.dst oo (List.mem_of_getElem? hai) d (by rw [← hoo]; exact hdd)
    have hall' : ∀ q, all[i + 1 + q]? = l[q]? := fun q => by
      have := hall (q + 1)
      rw [show i + 1 + q = i + (q + 1) by omega, this]; simp
    have hms' : ∀ q, msA[i + 1 + q]? = ms[q]? := fun q => by
      have := hms (q + 1)
      rw [show i + 1 + q = i + (q + 1) by omega, this]; simp
    have hat : (all.toArray : Array Oper)[i]? = some oo := by simpa using hai
    -- the slots' side of what may be swapped
    have slots : ∀ j f (e : Eff), (j, f) ∈ PE → kept mk j = false → e.rt = rtOf all oo → e.d = dst → (∀ a, f.dom a → e.dom a → f.g a = f.g' a ∧ e.g a = e.g' a) → Compat f e := fun j f e hj hk hert hed hh => by
      obtain ⟨_, hji, oj, hoj, hfr, hfd⟩ := hPE j f hj
      obtain ⟨s1, s2, s3⟩ := hreg.slots i j oo oj hai hoj hji (by rw [hmi]; exact hk)
      have hod : oo.dst = dst := by rw [← hoo]
      rw [hod] at s2 s3
      exact ⟨fun d hd => by rw [hfd]; exact s1 d (by rw [← hert]; exact hd), fun d hd => by rw [hed]; exact s2 d (by rw [← hfr]; exact hd), fun d hd => by rw [hed]; exact s3 d (by rw [← hfd]; exact hd), hh⟩
    -- what is known of the past, with this one
    have PE' : ∀ (e : Eff) (past' : Past) (pend' : Pend) (n1 : Nat), n ≤ n1 → e.rt = rtOf all oo → e.d = dst → (∀ p ∈ past, p ∈ past') → (∀ p ∈ pend, p ∈ pend' ∨ (p.1, Fp.s [] [p.2.1]) ∈ past') → Cov past' pend' n1 i e →
        ∀ j f, (j, f) ∈ (i, e) :: PE → Cov past' pend' n1 j f ∧ j < i + 1 ∧ ∃ oj, all[j]? = some oj ∧ f.rt = rtOf all oj ∧ f.d = oj.dst := fun e past' pend' n1 hn hert hed hp hq hcov j f hj => by
      rcases List.mem_cons.1 hj with hj | hj
      · cases hj
        exact ⟨hcov, Nat.lt_succ_self _, oo, hai, hert, by rw [hed, ← hoo]⟩
      · obtain ⟨c1, c2, c3⟩ := hPE j f hj
        exact ⟨c1.mono hn hp hq, by omega, c3⟩
    have e0 : fN (Nat.succ i) (fun i' => wants m t lc all g (fun b => Bool.rec
      (putO m dst unit t lc fun t lc => runDrawn call E m lim all l ms i' past pend t lc h n k)
      (laid mk pend h [] past fun h pend past => isCall op
        (fun x ars => calleeK m t lc x ars fun g av => callK mk sy past (syOk sy pend (iff (Nat.ble lim n) (call (Bool.rec n lim sy) g av h n fun v h n' => putO m dst v t lc fun t lc => runDrawn call E m lim all l ms i' ((i, .c n sy) :: past) pend t lc h n' k))))
        (simple op E m t lc h n fun v rs us n' => sort rs us n
          (putO m dst v t lc fun t lc => runDrawn call E m lim all l ms i' past pend t lc h n' k)
          (fun b o => iff (Nat.ble lim b) (putO m dst v t lc fun t lc => runDrawn call E m lim all l ms i' past ((i, b, o) :: pend) t lc h n' k))
          (unames us fun ws => apartK mk rs ws n past (puts lim us h fun h => putO m dst v t lc fun t lc => runDrawn call E m lim all l ms i' ((i, .s rs ws) :: past) pend t lc h n' k)))) b)) = some r := e
    rw [fN_eq] at e0
    obtain ⟨b, e1, hw⟩ := wants_inv e0
    have hgd : oo.guard = g := by rw [← hoo]
    have hop : oo.op = op := by rw [← hoo]
    have hod : oo.dst = dst := by rw [← hoo]
    have hwant : ∀ (σ : Sg) (T : TS) (a : Act), (∀ x ∈ rtOf all oo, T x = opT m t lc x) → SL N σ T a → Region.wanted oo (yielded all.toArray a.tmps) = b := fun σ T a hT hs => hw N σ T a oo hgd (fun x hx => hT x (by simp [rtOf, hgd, hx])) hs
    have htm : ∀ T : TS, (∀ x ∈ rtOf all oo, T x = opT m t lc x) → Tm op (opT m t lc) T := fun T hT x hx => hT x (by simp [rtOf, hop, hx])
    rcases rec_t e1 with ⟨hb, e2⟩ | ⟨hb, e2⟩
    · subst hb
      obtain ⟨h1, pend1, past1, e3, hT1, hN1, hk1, hp1, hq1⟩ := laid_inv (r := []) (by simpa using hT) hN (fun _ hp => by simp at hp) e2
      have hq1 : ∀ p ∈ pend, p ∈ pend1 ∨ (p.1, Fp.s [] [p.2.1]) ∈ past1 := fun p hp => hq1 p (by simp [hp])
      have hcov1 : ∀ j f, (j, f) ∈ PE → Cov past1 pend1 n j f := fun j f hj => (hPE j f hj).1.mono (Nat.le_refl _) hp1 hq1
      rcases isCall_inv e3 with ⟨x, ars, ats, hopx, e4⟩ | e4
      · -- a call
        subst hopx
        obtain ⟨f, av, e5, hx⟩ := calleeK_inv (P := P) (ats := ats) e4
        obtain ⟨e6, hcall⟩ := callK_inv e5
        obtain ⟨e7, hsy⟩ := syOk_inv e6
        obtain ⟨hlim, e8⟩ := iff_inv e7
        have hlim := ble_iff hlim
        obtain ⟨v, h2, n1, e9, hR, hF⟩ := hc _ _ _ _ _ _ _ hN1 e8
        obtain ⟨t1, lc1, ht1, e10⟩ := putO_inv e9
        have hpn : ∀ p ∈ pend1, h2.get p.2.1 = none := fun p hp => by
          obtain ⟨_, q2, q3⟩ := hT1.pe p hp
          cases sy with
          | true => rw [hsy rfl] at hp; cases hp
          | false => rw [hR.keep p.2.1 (.inl q3)]; exact q2
        let D : Nat → Prop := fun a => a < n1 ∧ ∀ p ∈ pend1, p.2.1 ≠ a
        let eff : Eff := ⟨rtOf all oo, opT m t lc, dst, v, D, h1.get, h2.get⟩
        let htn : HS := fun a => if D a then h2.get a else ht a
        have hstep : Step eff (opT m t lc) ht (opT m t1 lc1) htn := ⟨fun _ _ => rfl, fun a ha => hT1.eq a ha.2, ht1, fun a ha => if_pos ha, fun a ha => if_neg ha⟩
        have hnotD : ∀ a, ¬ D a → n1 ≤ a ∨ ∃ p ∈ pend1, p.2.1 = a := fun a ha => by
          rcases Nat.lt_or_ge a n1 with hl | hl
          · right
            refine Classical.byContradiction fun hno => ha ⟨hl, fun p hp e => hno ⟨p, hp, e⟩⟩
          · exact .inl hl
        have hopE : OpE P all.toArray N ⟨i, mkOf msA i, eff, n, n1⟩ := fun w0 Φ σ T h0 T' h0' a w K hst hf hs H hK => by
          have hT : ∀ x ∈ rtOf all oo, T x = opT m t lc x := hst.rd
          unfold wpOpS
          simp only [hat]
          rw [if_pos (hwant σ T a hT hs)]
          obtain ⟨args, g1, g2⟩ := hx N σ T a w (by rw [← hop]; exact hop ▸ htm T hT) hs hF
          obtain ⟨Φ', hH, hback⟩ := H.frame D (cur := h1.get) (fun a ha => hst.pre a ha) (fun a ha => by
            rcases hnotD a ha with hl | ⟨p, hp, rfl⟩
            · exact hN1 a (Nat.le_trans hR.le hl)
            · exact (hT1.pe p hp).2.1)
          unfold Sl.opS
          rw [g2 oo hop]
          refine (hR.sem w0 Φ' σ w args hf g1 hH).mono ?_
          rintro e w' ⟨u, σ', rfl, f1, f2, f3⟩
          refine ⟨u, rfl, ?_⟩
          have hH' := hback σ' h2.get w' h0' f1.1 f3 (fun a ha => by
            rcases hnotD a ha with hl | ⟨p, hp, rfl⟩
            · exact hR.nn a hl
            · exact hpn p hp) hst.post hst.out
          have hs' := (hs.le f1.1).put (d := dst) (u := u) hd f2
          rw [hod]
          exact hK _ _ σ' f1 (by rw [hst.slots]; exact hs') hH'
        have hT2 : HT h2.get pend1 htn n1 := ⟨fun p hp => by
          obtain ⟨q1, _, q3⟩ := hT1.pe p hp
          have : ¬ D p.2.1 := fun hd => hd.2 p hp rfl
          exact ⟨by show (if D p.2.1 then h2.get p.2.1 else ht p.2.1) = _; rw [if_neg this]; exact q1, hpn p hp, Nat.lt_of_lt_of_le q3 hR.le⟩, fun a ha => by
          show (if D a then h2.get a else ht a) = _
          by_cases hl : a < n1
          · rw [if_pos ⟨hl, ha⟩]
          · rw [if_neg (fun hd => hl hd.1), hNt a (by have := hR.le; omega), hR.nn a (by omega)], hT1.nd⟩
        have hN2 : Nn n1 htn := fun a ha => by
          show (if D a then h2.get a else ht a) = _
          rw [if_neg (fun hd => by have := hd.1; omega)]
          exact hNt a (Nat.le_trans hR.le ha)
        have hkp : Kp lim n1 ht htn := fun a ha => by
          show (if D a then h2.get a else ht a) = _
          by_cases hd : D a
          · rw [if_pos hd]
            have hal : a < lim := by have := hd.1; omega
            rw [hT1.eq a hd.2]
            refine hR.keep a (.inl ?_)
            cases sy with
            | true => exact hal
            | false => show a < n; omega
          · rw [if_neg hd]
        have hro : sy = false → ∀ a, D a → a < n → h1.get a = h2.get a := fun hs0 a _ ha => by
          subst hs0
          exact (hR.keep a (.inl ha)).symm
        obtain ⟨L, t', h', n', e11, hDR⟩ := runDrawn_ok hE hc hreg l ms (i + 1) ((i, .c n sy) :: past1) pend1 t1 lc1 h2 n1 k r htn ((i, eff) :: PE) hall' hms' hT2 hR.nn hN2
          (PE' eff _ pend1 n1 hR.le rfl rfl (fun p hp => by simp [hp1 p hp]) (fun p hp => (hq1 p hp).imp id (fun h => by simp [h])) ⟨fun a ha => ha.1, .inr (.inr (.inr ⟨n, sy, by simp, hR.le, hro⟩))⟩) e10
        refine ⟨_, t', h', n', e11, hDR.cons hR.le hkp hstep hopE fun j f hj hk => ?_⟩
        rw [hmi] at hk
        exact slots j f eff hj hk rfl rfl ((hcov1 j f hj).call hk hcall hsy (fun a ha => ha.2) hro)
      · -- no call
        obtain ⟨v, rs, us, n1, e5, hS⟩ := simple_ok (P := P) hE e4
        have hnm := hS.names hN1
        let D : Nat → Prop := fun a => a ∈ rs ∨ ∃ p ∈ us, p.1 = a
        let eff : Eff := ⟨rtOf all oo, opT m t lc, dst, v, D, ht, upd us ht⟩
        have hrs : ∀ a ∈ rs, ht a = h1.get a := fun a ha => hT1.eq a fun p hp e => by
          obtain ⟨ob, ho⟩ := hS.rd a ha
          have := (hT1.pe p hp).2.1
          rw [e, ho] at this
          cases this
        have hout : ∀ (h0 : HS) a, (¬ ∃ p ∈ us, p.1 = a) → upd us h0 a = h0 a := fun h0 a hno => upd_out fun p hp e => hno ⟨p, hp, e⟩
        have hstep : ∀ (t1 : Tr V) (lc1 : Ls), opT m t1 lc1 = setT (opT m t lc) dst v → Step eff (opT m t lc) ht (opT m t1 lc1) (upd us ht) := fun t1 lc1 ht1 => ⟨fun _ _ => rfl, fun _ _ => rfl, ht1, fun _ _ => rfl, fun a ha => hout ht a fun h => ha (.inr h)⟩
        have hopE : OpE P all.toArray N ⟨i, mkOf msA i, eff, n, n1⟩ := fun w0 Φ σ T h0 T' h0' a w K hst hf hs H hK => by
          have hT : ∀ x ∈ rtOf all oo, T x = opT m t lc x := hst.rd
          unfold wpOpS
          simp only [hat]
          rw [if_pos (hwant σ T a hT hs)]
          refine SSem.opS (o := oo) (by rw [hop]; exact hS) (by rw [hop]; exact htm T hT) (fun b hb => (hst.pre b (.inl hb)).trans (hrs b hb)) hf hs H fun u w' σ' f1 f2 f3 f4 => ?_
          have hfun : upd us h0 = h0' := by
            funext a
            by_cases hd : D a
            · rw [hst.post a hd]
              by_cases hu : ∃ p ∈ us, p.1 = a
              · exact upd_in hu
              · show upd us h0 a = upd us ht a
                rw [hout h0 a hu, hout ht a hu]
                exact hst.pre a hd
            · rw [hst.out a hd]
              exact hout h0 a fun h => hd (.inr h)
          rw [hfun] at f4
          have hs' := (hs.le f1).put (d := dst) (u := u) hd f3
          rw [hod]
          exact hK _ _ σ' ⟨f1, f2⟩ (by rw [hst.slots]; exact hs') f4
        have hNt1 : Nn n1 (upd us ht) := fun a ha => by
          rw [hout ht a fun ⟨p, hp, e⟩ => by have := hnm.1 p hp; omega]
          exact hNt a (Nat.le_trans hS.le ha)
        have hkp : (∀ p ∈ us, lim ≤ p.1) → Kp lim n1 ht (upd us ht) := fun hl a ha => hout ht a fun ⟨p, hp, e⟩ => by
          have := hnm.1 p hp
          have := hl p hp
          omega
        have hDn : ∀ a, D a → a < n1 := fun a ha => by
          rcases ha with ha | ⟨p, hp, rfl⟩
          · exact Nat.lt_of_lt_of_le (hnm.2 a ha) hS.le
          · exact hnm.1 p hp
        rcases sort_inv e5 with ⟨hrs0, hus0, e6⟩ | ⟨b, o, hrs0, hus0, hbn, e6⟩ | e6
        · -- nothing
          obtain ⟨t1, lc1, ht1, e7⟩ := putO_inv e6
          have hD0 : ∀ a, ¬ D a := fun a ha => by
            rcases ha with ha | ⟨p, hp, _⟩
            · rw [hrs0] at ha; cases ha
            · rw [hus0] at hp; cases hp
          have hu0 : upd us ht = ht := by rw [hus0]; rfl
          rw [hu0] at hNt1
          obtain ⟨L, t', h', n', e8, hDR⟩ := runDrawn_ok hE hc hreg l ms (i + 1) past1 pend1 t1 lc1 h1 n1 k r ht ((i, eff) :: PE) hall' hms'
            ⟨fun p hp => by obtain ⟨q1, q2, q3⟩ := hT1.pe p hp; exact ⟨q1, q2, Nat.lt_of_lt_of_le q3 hS.le⟩, hT1.eq, hT1.nd⟩ (fun a ha => hN1 a (Nat.le_trans hS.le ha)) hNt1
            (PE' eff _ pend1 n1 hS.le rfl rfl hp1 hq1 ⟨hDn, .inl hD0⟩) e7
          have hst := hstep t1 lc1 ht1
          have hkp := hkp (fun p hp => by rw [hus0] at hp; cases hp)
          rw [hu0] at hst hkp
          refine ⟨_, t', h', n', e8, hDR.cons hS.le hkp hst hopE fun j f hj hk => ?_⟩
          rw [hmi] at hk
          exact slots j f eff hj hk rfl rfl fun a _ ha => absurd ha (hD0 a)
        · -- a new block that waits
          subst hbn
          obtain ⟨hl, e7⟩ := iff_inv e6
          obtain ⟨t1, lc1, ht1, e8⟩ := putO_inv e7
          have hbn1 : b < n1 := hnm.1 (b, o) (by rw [hus0]; simp)
          have hu0 : upd us ht = set1 ht b o := by rw [hus0]; rfl
          have hDb : ∀ a, D a → a = b := fun a ha => by
            rcases ha with ha | ⟨p, hp, rfl⟩
            · rw [hrs0] at ha; cases ha
            · rw [hus0] at hp; simp at hp; rw [hp]
          have hT2 : HT h1.get ((i, b, o) :: pend1) (upd us ht) n1 := by
            rw [hu0]
            refine ⟨fun p hp => ?_, fun a ha => ?_, List.pairwise_cons.2 ⟨fun p hp e => ?_, hT1.nd⟩⟩
            · rcases List.mem_cons.1 hp with rfl | hp
              · exact ⟨by simp [set1], hN1 b (Nat.le_refl _), hbn1⟩
              · obtain ⟨q1, q2, q3⟩ := hT1.pe p hp
                exact ⟨by rw [set1, if_neg (by omega)]; exact q1, q2, by omega⟩
            · rw [set1, if_neg (fun e => ha (i, b, o) (by simp) e.symm)]
              exact hT1.eq a fun p hp => ha p (by simp [hp])
            · have := (hT1.pe p hp).2.2
              have e : b = p.2.1 := e
              omega
          obtain ⟨L, t', h', n', e9, hDR⟩ := runDrawn_ok hE hc hreg l ms (i + 1) past1 ((i, b, o) :: pend1) t1 lc1 h1 n1 k r (upd us ht) ((i, eff) :: PE) hall' hms' hT2 (fun a ha => hN1 a (Nat.le_trans hS.le ha)) hNt1
            (PE' eff _ _ n1 hS.le rfl rfl hp1 (fun p hp => (hq1 p hp).imp (fun h => by simp [h]) id) ⟨hDn, .inr (.inr (.inl ⟨b, o, by simp, hDb⟩))⟩) e8
          refine ⟨_, t', h', n', e9, hDR.cons hS.le (hkp (fun p hp => by rw [hus0] at hp; simp at hp; rw [hp]; exact ble_iff hl)) (hstep t1 lc1 ht1) hopE fun j f hj hk => ?_⟩
          rw [hmi] at hk
          exact slots j f eff hj hk rfl rfl fun a ha hb => by
            have h1 := (hcov1 j f hj).1 a ha
            have h2 := hDb a hb
            omega
        · -- all else
          rw [unames_eq] at e6
          obtain ⟨e7, hfp⟩ := apartK_inv e6
          obtain ⟨hl, h2, hh2, e8⟩ := puts_inv e7
          obtain ⟨t1, lc1, ht1, e9⟩ := putO_inv e8
          have hws : ∀ a, a ∈ us.map (·.1) ↔ ∃ p ∈ us, p.1 = a := fun a => List.mem_map
          have hpu : ∀ p ∈ pend1, ¬ ∃ q ∈ us, q.1 = p.2.1 := fun p hp ⟨q, hq, e⟩ => by
            obtain ⟨_, q2, q3⟩ := hT1.pe p hp
            rcases hS.new q hq with hr | hr
            · obtain ⟨ob, ho⟩ := hS.rd _ hr
              rw [e, q2] at ho
              cases ho
            · omega
          have hT2 : HT h2.get pend1 (upd us ht) n1 := by
            rw [hh2]
            refine ⟨fun p hp => ?_, fun a ha => ?_, hT1.nd⟩
            · obtain ⟨q1, q2, q3⟩ := hT1.pe p hp
              rw [hout _ _ (hpu p hp), hout _ _ (hpu p hp)]
              exact ⟨q1, q2, Nat.lt_of_lt_of_le q3 hS.le⟩
            · by_cases hu : ∃ p ∈ us, p.1 = a
              · exact upd_in hu
              · rw [hout _ _ hu, hout _ _ hu]
                exact hT1.eq a ha
          have hk2 := (hS.kp hN1 hl).2
          rw [← hh2] at hk2
          have hro : ∀ a, D a → a ∉ us.map (·.1) → ht a = upd us ht a := fun a _ ha => (hout ht a fun h => ha ((hws a).2 h)).symm
          have hDw : ∀ a, D a → a ∈ rs ∨ a ∈ us.map (·.1) := fun a ha => ha.imp id (hws a).2
          obtain ⟨L, t', h', n', e10, hDR⟩ := runDrawn_ok hE hc hreg l ms (i + 1) ((i, .s rs (us.map (·.1))) :: past1) pend1 t1 lc1 h2 n1 k r (upd us ht) ((i, eff) :: PE) hall' hms' hT2 hk2 hNt1
            (PE' eff _ pend1 n1 hS.le rfl rfl (fun p hp => by simp [hp1 p hp]) (fun p hp => (hq1 p hp).imp id (fun h => by simp [h])) ⟨hDn, .inr (.inl ⟨rs, us.map (·.1), by simp, hDw, hro⟩)⟩) e9
          refine ⟨_, t', h', n', e10, hDR.cons hS.le (hkp hl) (hstep t1 lc1 ht1) hopE fun j f hj hk => ?_⟩
          rw [hmi] at hk
          exact slots j f eff hj hk rfl rfl ((hcov1 j f hj).simple (n' := n1) hk hfp hT1 hDw hro hS.rd (fun a ha => by
            obtain ⟨p, hp, rfl⟩ := (hws a).1 ha
            exact hS.new p hp))
    · -- not carried out
      subst hb
      obtain ⟨t1, lc1, ht1, e3⟩ := putO_inv e2
      let eff : Eff := ⟨rtOf all oo, opT m t lc, dst, unit, fun _ => False, ht, ht⟩
      obtain ⟨L, t', h', n', e4, hDR⟩ := runDrawn_ok hE hc hreg l ms (i + 1) past pend t1 lc1 h n k r ht ((i, eff) :: PE) hall' hms' hT hN hNt
        (PE' eff past pend n (Nat.le_refl _) rfl rfl (fun _ h => h) (fun _ h => .inl h) ⟨fun _ h => h.elim, .inl fun _ h => h⟩) e3
      refine ⟨_, t', h', n', e4, hDR.cons (Nat.le_refl _) (fun _ _ => rfl) ⟨fun _ _ => rfl, fun _ h => h.elim, ht1, fun _ h => h.elim, fun _ _ => rfl⟩ (fun w0 Φ σ T h0 T' h0' a w K hst hf hs H hK => ?_) fun j f hj hk => ?_⟩
      · unfold wpOpS
        simp only [hat]
        rw [if_neg (by rw [hwant σ T a hst.rd hs]; simp), hod]
        have hh : h0' = h0 := by funext a; exact hst.out a (fun h => h)
        subst hh
        exact hK _ _ σ (Out.refl σ n n) (by rw [hst.slots]; exact hs.put hd CV_undef) H
      · rw [hmi] at hk
        exact slots j f eff hj hk rfl rfl fun _ _ h => h.elim
end
end Go.D
namespace Go.D
set_option linter.unusedVariables false
set_option linter.unusedSimpArgs false
open Go.RowKit Go.Sl
def CodeOk (N : Nat) (fi : FI) : Code → Prop
  | .region id ops d => (∀ o ∈ ops.toList, ∀ t, o.dst = some t → t < N) ∧ (d = true → ∀ ms, fi.dm.get id = some ms → RegOk N ops.toList ms)
  | .seq a b => CodeOk N fi a ∧ CodeOk N fi b
  | .cond _ a b => CodeOk N fi a ∧ CodeOk N fi b
  | .block _ a => CodeOk N fi a
  | .loop a => CodeOk N fi a
  | .scope a => CodeOk N fi a
  | _ => True
def crounds (P : Program) (c : Code) (Q : Exit → AP) (m : Nat) : AP := fun a w => ∀ (r : Option Nat) (M : List Deferred), Code.roundsIn (wideR r) 0 P c (upM M Q) m (withM M a) w
theorem crounds_succ {P : Program} {c : Code} {Q : Exit → AP} {m : Nat} {a : Act} {w : World} (h : cwp P c (Exit.then (crounds P c Q m) Q) a w) : crounds P c Q (m + 1) a w := fun r M => by
  show c.wpIn (wideR r) 0 P (Exit.then (Code.roundsIn (wideR r) 0 P c (upM M Q) m) (upM M Q)) (withM M a) w
  refine wpIn_mono (h r M) ?_
  rintro e a' w' ⟨b, rfl, h2⟩
  cases e with
  | normal => exact h2 r M
  | _ => exact ⟨b, rfl, h2⟩
theorem cwp_loop {P : Program} {c : Code} {Q : Exit → AP} {m : Nat} {a : Act} {w : World} (h : crounds P c Q m a w) : cwp P (.loop c) Q a w := fun r M => wpIn_loop_rounds m (h r M)
theorem then_QS {K : AP} {Q : Exit → AP} {ex : Ex} {S : AP} {e : Exit} {a : Act} {w : World} (h : QS ex S e a w) (hn : ex = .normal → S a w → K a w) (ho : ex ≠ .normal → S a w → Q e a w) : Exit.then K Q e a w := by
  obtain ⟨h1, h2⟩ := h
  cases ex <;> simp only [ExR] at h1 <;> subst h1
  · exact hn rfl h2
  · exact ho (by simp) h2
  · exact ho (by simp) h2
  · exact ho (by simp) h2
section
variable {α : Type} {P : Program} {E : Env}
def XOK (P : Program) (E : Env) (run : Code → X α) : Prop := ∀ (c : Code) (fi : FI) (N lim : Nat) (t : Tr V) (h : H) (n : Nat) (k : KX α) (r : α), CodeOk N fi c → Nn n h.get → run c E fi lim t h n k = some r → ∃ ex t' h' n', k ex t' h' n' = some r ∧ XR P N fi.mask lim c t t' h h' n n' ex
theorem Ex_rec {ex : Ex} {a : Option α} {b c : Nat → Option α} {d : Option α} {r : α} (h : (Ex.rec a b c d ex : Option α) = some r) : (ex = .normal ∧ a = some r) ∨ (∃ i, ex = .exit i ∧ b i = some r) ∨ (∃ l, ex = .goto l ∧ c l = some r) ∨ (ex = .ret ∧ d = some r) := by
  cases ex with
  | normal => exact .inl ⟨rfl, h⟩
  | exit i => exact .inr (.inl ⟨i, rfl, h⟩)
  | goto l => exact .inr (.inr (.inl ⟨l, rfl, h⟩))
  | ret => exact .inr (.inr (.inr ⟨rfl, h⟩))
theorem XR.refl {N m lim : Nat} {c : Code} {t : Tr V} {h : H} {n : Nat} {ex : Ex} (hN : Nn n h.get) (H : ∀ (S : AP) a w, S a w → cwp P c (QS ex S) a w) : XR P N m lim c t t h h n n ex :=
  ⟨Nat.le_refl _, fun _ _ => rfl, hN, fun _w0 _Φ σ a w _ hs hH => H _ a w ⟨σ, Out.refl σ n n, hs, hH⟩⟩
theorem XR.seq {N m lim : Nat} {x y c : Code} {t t1 t2 : Tr V} {h h1 h2 : H} {n n1 n2 : Nat} {ex : Ex} (A : XR P N m lim x t t1 h h1 n n1 .normal) (B : XR P N m lim y t1 t2 h1 h2 n1 n2 ex)
    (hc : ∀ (Q : Exit → AP) a w, cwp P x (Exit.then (cwp P y Q) Q) a w → cwp P c Q a w) : XR P N m lim c t t2 h h2 n n2 ex :=
  ⟨Nat.le_trans A.le B.le, A.keep.trans B.keep B.le, B.nn, fun w0 Φ σ a w hf hs H => hc _ a w (cwp_mono (A.sem w0 Φ σ a w (hf.less B.le) hs H) fun _e a1 w1 hq => then_QS hq (fun _ ⟨σ1, o1, s1, H1⟩ => cwp_mono (B.sem w0 Φ σ1 a1 w1 (hf.after o1 A.le) s1 H1) fun _e _a2 _w2 ⟨he, σ2, o2, s2, H2⟩ => ⟨he, σ2, o1.trans o2 A.le B.le, s2, H2⟩) (fun h => absurd rfl h))⟩
theorem XR.leave {N m lim : Nat} {x y c : Code} {t t1 : Tr V} {h h1 : H} {n n1 : Nat} {ex : Ex} (A : XR P N m lim x t t1 h h1 n n1 ex) (hex : ex ≠ .normal) (hc : ∀ (Q : Exit → AP) a w, cwp P x (Exit.then (cwp P y Q) Q) a w → cwp P c Q a w) : XR P N m lim c t t1 h h1 n n1 ex :=
  ⟨A.le, A.keep, A.nn, fun w0 Φ σ a w hf hs H => hc _ a w (cwp_mono (A.sem w0 Φ σ a w hf hs H) fun _e _a1 _w1 hq => then_QS hq (fun h => absurd h hex) (fun _ hS => ⟨hq.1, hS⟩))⟩
theorem layArgs_inv : ∀ {l : List V} {t : Tr V} {i : Nat} {k : Tr V → Option α} {r : α}, layArgs l t i k = some r → ∃ t', (∀ j, t'.get j = if i ≤ j ∧ j < i + l.length then l[j - i]? else t.get j) ∧ k t' = some r
  | [], t, i, k, r, h => ⟨t, fun j => by rw [if_neg (by simp only [List.length_nil]; omega)], h⟩
  | v :: l, t, i, k, r, h => by
    obtain ⟨t1, h1, h⟩ := Tr.putK_inv (h : Tr.putK v t i (fun t => fN (Nat.succ i) fun i => layArgs l t i k) = some r)
    rw [fN_eq] at h
    obtain ⟨t2, h2, h3⟩ := layArgs_inv h
    refine ⟨t2, fun j => ?_, h3⟩
    rw [h2, h1]
    by_cases e : j = i
    · subst e; rw [if_neg (by omega), if_pos rfl, if_pos (by simp)]; simp
    · by_cases e2 : i + 1 ≤ j ∧ j < i + 1 + l.length
      · rw [if_pos e2, if_pos (by simp; omega)]
        have : j - i = j - (i + 1) + 1 := by omega
        rw [this]; simp
      · rw [if_neg e2, if_neg e, if_neg (by simp; omega)]
theorem VL.len : ∀ {σ : Sg} {l : List V} {r : List Value}, VL σ l r → r.length = l.length
  | _, [], [], _ => rfl
  | _, _ :: _, _ :: _, ⟨_, h2⟩ => by simp [VL.len h2]
theorem VL.get : ∀ {σ : Sg} {l : List V} {r : List Value} {i : Nat} {c : V}, VL σ l r → l[i]? = some c → ∃ v, r[i]? = some v ∧ CV σ c v
  | _, _ :: _, _ :: _, 0, c, ⟨h1, _⟩, h => by simp at h; subst h; exact ⟨_, rfl, h1⟩
  | _, _ :: _, _ :: _, i + 1, c, ⟨_, h2⟩, h => by
    obtain ⟨v, h3, h4⟩ := VL.get (i := i) h2 (by simpa using h)
    exact ⟨v, by simpa using h3, h4⟩
theorem resK_inv (hE : ∀ t ti, E.tt.get t = some ti → TIok P t ti) {t : Tr V} {h : H} {x : ResultVar} {k : V → Option α} {r : α} (e : resK E t h x k = some r) {m : Nat} (hm : ∀ y, (x = .tmp y ∨ ∃ ty, x = .cell y ty) → kept m y = true) : ∃ v, k v = some r ∧ ∀ (N : Nat) (w0 : World) (Φ : Fz) (σ : Sg) (a : Act) (w : World), SL N σ (opT m t []) a → HR w0 Φ σ h.get w → ∃ u, CV σ v u ∧ ResV P a w x u := by
  have hT : ∀ y v, kept m y = true → t.get y = some v → opT m t [] y = some v := fun y v hk hv => by
    show (Bool.rec (lookL [] y) (t.get y) (kept m y) : Option V) = some v
    rw [hk]; exact hv
  cases x with
  | tmp y =>
    obtain ⟨v, h1, e1⟩ := oc_inv e
    refine ⟨v, e1, fun N w0 Φ σ a w hs H => ?_⟩
    obtain ⟨u, g1, g2⟩ := hs.at_ y v (hT y v (hm y (.inl rfl)) h1)
    exact ⟨u, g2, by show a.tmps.getD y undef = u; simp [Array.getD_eq_getD_getElem?, g1]⟩
  | cell y ty =>
    obtain ⟨v, h1, e1⟩ := oc_inv e
    obtain ⟨b, o, rfl, e2⟩ := ptrK_inv e1
    obtain ⟨ti, h2, e3⟩ := oc_inv e2
    obtain ⟨ob, h3, e4⟩ := oc_inv e3
    obtain ⟨kk, c, len, el, ex, rfl, e5⟩ := cellsK_inv e4
    obtain ⟨row, l, f1, f2, f3, e6⟩ := rdC_inv e5
    obtain ⟨v, e7, hv⟩ := mkV_inv2 e6
    obtain ⟨d, it, z, q1, q2, q3, q4, q5, q6, q7, q8, q9, q10, q11⟩ := (hE _ _ h2).ok
    refine ⟨v, e7, fun N w0 Φ σ a w hs H => ?_⟩
    obtain ⟨u, g1, b', x', g2, g3⟩ := hs.at_ y _ (hT y _ (hm y (.inr ⟨ty, rfl⟩)) h1)
    obtain ⟨b2, x2, p1, _, _, hB⟩ := H.live b _ h3 (by simp)
    rw [g2] at p1; cases p1
    obtain ⟨us, c1, c2, c3⟩ := hB.rd f1 f2 f3
    have hd : a.tmps.getD y undef = .pointer (some ⟨b', o, none⟩) := by simp [Array.getD_eq_getD_getElem?, g1, g3]
    rcases hv with ⟨hag, rfl⟩ | ⟨hag, x0, r', rfl, rfl⟩
    · have hl := run_loadCells_list (P := P) w ⟨b', o, none⟩ us (fun j u hj => by rw [Sl.add_lit]; exact c3 j u hj)
      rw [c2, ← q3] at hl
      refine ⟨.agg us.toArray, ⟨us, rfl, c1⟩, _, hd, ?_⟩
      rw [hag] at q6
      cases d <;> first | (simp [Agg] at q6; done) | simp [loadVar, isAgg, run_underlying q1, sizeOf, typeInfo, q2, hl]
    · cases us with
      | nil => exact c1.elim
      | cons u0 us =>
        have hc : w.cell? ⟨b', o, none⟩ = some u0 := c3 0 u0 rfl
        refine ⟨u0, c1.1, _, hd, ?_⟩
        rw [hag] at q6
        cases d <;> first | (simp [Agg] at q6; done) | simp [loadVar, isAgg, run_underlying q1, hc]
def RVs (P : Program) (a : Act) (w : World) : List ResultVar → List Value → Prop
  | [], [] => True
  | x :: l, v :: r => ResV P a w x v ∧ RVs P a w l r
  | _, _ => False
theorem resL_inv (hE : ∀ t ti, E.tt.get t = some ti → TIok P t ti) {t : Tr V} {h : H} {m : Nat} : ∀ {l : List ResultVar} {k : List V → Option α} {r : α}, resL E t h l k = some r → (∀ x ∈ l, ∀ y, (x = .tmp y ∨ ∃ ty, x = .cell y ty) → kept m y = true) → ∃ vs, k vs = some r ∧ vs.length = l.length ∧ ∀ (N : Nat) (w0 : World) (Φ : Fz) (σ : Sg) (a : Act) (w : World), SL N σ (opT m t []) a → HR w0 Φ σ h.get w → ∃ us, VL σ vs us ∧ RVs P a w l us
  | [], k, r, e, _ => ⟨[], e, rfl, fun _ _ _ _ _ _ _ _ => ⟨[], trivial, trivial⟩⟩
  | x :: l, k, r, e, hm => by
    obtain ⟨v, e1, h1⟩ := resK_inv hE (e : resK E t h x (fun v => resL E t h l fun vs => k (v :: vs)) = some r) (hm x (by simp))
    obtain ⟨vs, e2, h2, h3⟩ := resL_inv hE e1 (fun y hy => hm y (by simp [hy]))
    refine ⟨v :: vs, e2, by simp [h2], fun N w0 Φ σ a w hs H => ?_⟩
    obtain ⟨u, g1, g2⟩ := h1 N w0 Φ σ a w hs H
    obtain ⟨us, g3, g4⟩ := h3 N w0 Φ σ a w hs H
    exact ⟨u :: us, ⟨g1, g3⟩, g2, g4⟩
theorem toU_inv : ∀ {l : List V} {k : List U → Option α} {r : α}, toU l k = some r → ∃ us, k us = some r ∧ ∀ σ ws, VL σ l ws → UL σ us ws
  | [], k, r, e => ⟨[], e, fun σ ws h => by cases ws with | nil => trivial | cons _ _ => exact h.elim⟩
  | .c x :: l, k, r, e => by
    have e' : toU l (fun r => k (.c x :: r)) = some r := e
    obtain ⟨us, e1, h1⟩ := toU_inv e'
    exact ⟨.c x :: us, e1, fun σ ws h => by cases ws with | nil => exact h.elim | cons w ws => exact ⟨h.1, h1 σ ws h.2⟩⟩
  | .a x :: l, k, r, e => by
    have e' : toU l (fun r => k (.a x :: r)) = some r := e
    obtain ⟨us, e1, h1⟩ := toU_inv e'
    exact ⟨.a x :: us, e1, fun σ ws h => by cases ws with | nil => exact h.elim | cons w ws => exact ⟨h.1, h1 σ ws h.2⟩⟩
  | .t x :: l, k, r, e => nn e
theorem run_results {a : Act} {w : World} : ∀ {l : List ResultVar} {us : List Value}, RVs P a w l us → (l.mapM (resRun a)).run P w = .ok us w
  | [], [], _ => by simp [Sem.run_pure]
  | x :: l, u :: us, ⟨h1, h2⟩ => by
    simp [List.mapM_cons, run_res h1, run_results h2]
theorem results_eq (fn : Func) (a : Act) : results fn a.tmps = (do let vs ← fn.results.toList.mapM (resRun a); pure (if h : vs.toArray.size = 1 then vs.toArray[0] else .tuple vs.toArray)) := by
  unfold results
  rw [Array.mapM_eq_mapM_toList]
  simp only [bind_assoc, map_eq_pure_bind, pure_bind]
  refine congrArg (fun f : ResultVar → Sem Value => (do let x ← List.mapM f fn.results.toList; pure (if h : x.toArray.size = 1 then x.toArray[0] else Value.tuple x.toArray) : Sem Value)) ?_
  funext x
  cases x <;> rfl
theorem ended_inv (hE : ∀ t ti, E.tt.get t = some ti → TIok P t ti) {fn : Func} {t : Tr V} {h : H} {n m : Nat} {k : V → H → Nat → Option α} {r : α} (e : ended E fn.results.toList t h n k = some r) (hm : ∀ x ∈ fn.results.toList, ∀ y, (x = .tmp y ∨ ∃ ty, x = .cell y ty) → kept m y = true) :
    ∃ v, k v h n = some r ∧ ∀ (N : Nat) (w0 : World) (Φ : Fz) (σ : Sg) (a : Act) (w : World), SL N σ (opT m t []) a → HR w0 Φ σ h.get w → ∃ u, CV σ v u ∧ (results fn a.tmps).run P w = .ok u w := by
  obtain ⟨vs, e1, h1, h2⟩ := resL_inv hE e hm
  cases vs with
  | nil =>
    refine ⟨_, e1, fun N w0 Φ σ a w hs H => ?_⟩
    obtain ⟨us, g1, g2⟩ := h2 N w0 Φ σ a w hs H
    cases us with
    | cons _ _ => exact g1.elim
    | nil => exact ⟨.tuple #[], ⟨[], rfl, trivial⟩, by rw [results_eq]; simp [run_results g2]⟩
  | cons v vs =>
    cases vs with
    | nil =>
      refine ⟨v, e1, fun N w0 Φ σ a w hs H => ?_⟩
      obtain ⟨us, g1, g2⟩ := h2 N w0 Φ σ a w hs H
      cases us with
      | nil => exact g1.elim
      | cons u us =>
        cases us with
        | cons _ _ => exact g1.2.elim
        | nil => exact ⟨u, g1.1, by rw [results_eq]; simp [run_results g2]⟩
    | cons v2 vs =>
      obtain ⟨us', e2, h3⟩ := toU_inv e1
      refine ⟨_, e2, fun N w0 Φ σ a w hs H => ?_⟩
      obtain ⟨us, g1, g2⟩ := h2 N w0 Φ σ a w hs H
      have hl := VL.len g1
      refine ⟨.tuple us.toArray, ⟨us, rfl, h3 σ us g1⟩, ?_⟩
      rw [results_eq]
      have : ¬ us.length = 1 := by simp at hl; omega
      simp [run_results g2, this]
end
end Go.D
namespace Go.D
set_option linter.unusedVariables false
set_option linter.unusedSimpArgs false
open Go.RowKit Go.Sl
def Still (P : Program) (f : Nat) (ss : List (List Nat)) (c : C) : Prop := Has P f ∧ ∀ (w : World) (args : List Value), VL (fun _ => none) (ss.map fun l => .c (.s l)) args →
  Calls P f args.toArray w fun e w' => ∃ u, e = .returned u ∧ (∀ σ, CC σ c u) ∧ w'.os = w.os ∧ w'.tape = w.tape ∧ w'.output = w.output ∧ w.heap.size ≤ w'.heap.size ∧ ∀ b < w.heap.size, w'.heap[b]? = w.heap[b]?
theorem eqNs_ok : ∀ {a b : List Nat}, eqNs a b = true → a = b
  | [], [], _ => rfl
  | [], _ :: _, h => by cases h
  | _ :: _, [], h => by cases h
  | x :: a, y :: b, h => by
    have h : (Bool.rec false (eqNs a b) (Nat.beq x y) : Bool) = true := h
    cases q : Nat.beq x y with
    | false => rw [q] at h; cases h
    | true => rw [q] at h; rw [Nat.eq_of_beq_eq_true q, eqNs_ok (h : eqNs a b = true)]
theorem isS_ok {s : List Nat} {v : V} (h : isS s v = true) : v = .c (.s s) := by
  cases v with
  | c x => cases x with
    | s l => rw [eqNs_ok (h : eqNs s l = true)]
    | _ => cases h
  | _ => cases h
theorem avB_ok : ∀ {ss : List (List Nat)} {av : List V}, avB ss av = true → av = ss.map fun l => .c (.s l)
  | [], [], _ => rfl
  | [], _ :: _, h => by cases h
  | _ :: _, [], h => by cases h
  | s :: ss, v :: av, h => by
    have h : (Bool.rec false (avB ss av) (isS s v) : Bool) = true := h
    cases q : isS s v with
    | false => rw [q] at h; cases h
    | true => rw [q] at h; rw [isS_ok q, avB_ok (h : avB ss av = true)]; rfl
theorem memoK_inv {α : Type} {f : Nat} {av : List V} {K : C → Option α} {z : Option α} {r : α} : ∀ {mm : List (Nat × List (List Nat) × C)}, memoK mm f av K z = some r → z = some r ∨ ∃ ss c, (f, ss, c) ∈ mm ∧ av = (ss.map fun l => .c (.s l)) ∧ K c = some r
  | [], h => .inl h
  | (g, ss, c) :: mm, h => by
    have h : (Bool.rec (memoK mm f av K z) (Bool.rec (memoK mm f av K z) (K c) (avB ss av)) (Nat.beq g f) : Option α) = some r := h
    have go : memoK mm f av K z = some r → z = some r ∨ ∃ ss' c', (f, ss', c') ∈ (g, ss, c) :: mm ∧ av = (ss'.map fun l => .c (.s l)) ∧ K c' = some r := fun h => by
      rcases memoK_inv h with h1 | ⟨s1, c1, m1, e1, k1⟩
      · exact .inl h1
      · exact .inr ⟨s1, c1, List.mem_cons_of_mem _ m1, e1, k1⟩
    rcases rec_t h with ⟨q1, h1⟩ | ⟨_, h1⟩
    · rcases rec_t h1 with ⟨q2, h2⟩ | ⟨_, h2⟩
      · exact .inr ⟨ss, c, by simp [Nat.eq_of_beq_eq_true q1], avB_ok q2, h2⟩
      · exact go h2
    · exact go h1
/-- The tables say what is so. -/
structure EnvOk (P : Program) (E : Env) : Prop where
  mm : ∀ f ss c, (f, ss, c) ∈ E.mm → Still P f ss c
  tt : ∀ t ti, E.tt.get t = some ti → TIok P t ti
  ft : ∀ f fi, E.ft.get f = some fi → P.funcs[f]? = some fi.fn ∧ (fi.fn.name == "runtime.NumGoroutine") = false ∧ (∀ c, fi.fn.body = some c → CodeOk fi.fn.ntmps fi c) ∧ ∀ x ∈ fi.fn.results.toList, ∀ y, (x = .tmp y ∨ ∃ ty, x = .cell y ty) → kept fi.mask y = true
  mixed : P.follows .mixedOrders = true
theorem HR.drew {w0 w : World} {Φ : Fz} {σ : Sg} {h : HS} (H : HR w0 Φ σ h w) : HR w0 Φ σ h { w with drawn := w.drawn + 1 } :=
  ⟨H.cw.drew, fun a o ha ho => by
    obtain ⟨b, x, h1, h2, h3, h4⟩ := H.live a o ha ho
    exact ⟨b, x, h1, h2, h3, h4.same rfl⟩, H.sep⟩
theorem strs_any {σ τ : Sg} : ∀ {ss : List (List Nat)} {vs : List Value}, VL σ (ss.map fun l => .c (.s l)) vs → VL τ (ss.map fun l => .c (.s l)) vs
  | [], [], _ => trivial
  | _ :: _, _ :: _, ⟨h1, h2⟩ => ⟨h1, strs_any h2⟩
  | [], _ :: _, h => h.elim
  | _ :: _, [], h => h.elim
theorem Cw_more {w0 w w' : World} {Φ : Fz} (H : Cw w0 Φ [] w) (h1 : w'.os = w.os) (h2 : w'.tape = w.tape) (h3 : w'.output = w.output) (h4 : w.heap.size ≤ w'.heap.size) (h5 : ∀ b < w.heap.size, w'.heap[b]? = w.heap[b]?) : Cw w0 Φ [] w' :=
  ⟨h1.trans H.os, h2.trans H.tape, h3.trans H.output, Nat.le_trans H.size h4, fun b o hb => by
    have := H.frz b o hb
    rw [h5 b (Array.getElem?_eq_some_iff.1 this).1]
    exact this, fun e he => by simp at he, fun e he => by simp at he, fun i j x y hi => by simp at hi⟩
theorem HR.more {w0 w w' : World} {Φ : Fz} {σ : Sg} {h : HS} (H : HR w0 Φ σ h w) (h1 : w'.os = w.os) (h2 : w'.tape = w.tape) (h3 : w'.output = w.output) (h4 : w.heap.size ≤ w'.heap.size) (h5 : ∀ b < w.heap.size, w'.heap[b]? = w.heap[b]?) : HR w0 Φ σ h w' :=
  ⟨Cw_more H.cw h1 h2 h3 h4 h5, fun a o ha ho => by
    obtain ⟨b, x, g1, g2, g3, g4⟩ := H.live a o ha ho
    exact ⟨b, x, g1, g2, Nat.lt_of_lt_of_le g3 h4, g4.same (h5 b g3)⟩, H.sep⟩
section
variable {α : Type} {P : Program} {E : Env}
theorem callBy_ok (hE : EnvOk P E) {run : Code → X α} (hx : XOK P E run) : CallOK P (callBy run E) := fun lim f av h n k r hN e => by
  rcases memoK_inv e with e | ⟨ss, c, hm, rfl, hk⟩
  case inr =>
    obtain ⟨hs, hc⟩ := hE.mm f ss c hm
    refine ⟨_, h, n, hk, ⟨Nat.le_refl _, fun _ _ => rfl, hN, fun w0 Φ σ w args hfree ha H => ?_⟩, hs⟩
    refine (hc w args (strs_any ha)).mono ?_
    rintro e w' ⟨u, rfl, hu, h1, h2, h3, h4, h5⟩
    exact ⟨u, σ, rfl, Out.refl _ _ _, hu σ, H.more h1 h2 h3 h4 h5⟩
  obtain ⟨fi, h1, e1⟩ := oc_inv e
  obtain ⟨b, h2, e2⟩ := oc_inv e1
  rw [lenN_eq] at e2
  obtain ⟨h3, e3⟩ := iff_inv e2
  have h3 : av.length ≤ fi.fn.ntmps := ble_iff h3
  obtain ⟨t, h4, e4⟩ := layArgs_inv e3
  obtain ⟨hf, hname, hcode, hres⟩ := hE.ft f fi h1
  obtain ⟨ex, t', h', n', e5, hR⟩ := hx b fi fi.fn.ntmps lim t h n _ r (hcode b h2) hN e4
  have hend : (ex = .normal ∨ ex = .ret) ∧ ended E fi.fn.results.toList t' h' n' k = some r := by
    rcases Ex_rec e5 with ⟨rfl, e6⟩ | ⟨i, rfl, e6⟩ | ⟨l, rfl, e6⟩ | ⟨rfl, e6⟩
    · exact ⟨.inl rfl, e6⟩
    · exact nn e6
    · exact nn e6
    · exact ⟨.inr rfl, e6⟩
  obtain ⟨hex, e6⟩ := hend
  obtain ⟨v, e7, hv⟩ := ended_inv hE.tt (m := fi.mask) e6 hres
  refine ⟨v, h', n', e7, ⟨hR.le, hR.keep, hR.nn, fun w0 Φ σ w args hfree ha H => ?_⟩, ⟨fi.fn, hf, by simp [h2], hname⟩⟩
  have hal := ha.len
  refine calls_of_wp hf h2 (wpIn_wide (n := 0).1 (wpIn_mono (hR.sem w0 Φ σ { tmps := args.toArray ++ Array.replicate (fi.fn.ntmps - args.toArray.size) undef, defers := [] } w hfree ⟨?_, rfl, fun x u hx => ?_⟩ H none []) fun e a w q => ?_))
  · simp; omega
  · have hx : (Bool.rec (lookL [] x) (t.get x) (kept fi.mask x) : Option V) = some u := hx
    rcases rec_t hx with ⟨_, hx⟩ | ⟨_, hx⟩
    · rw [h4] at hx
      by_cases hh : 0 ≤ x ∧ x < 0 + av.length
      · rw [if_pos hh, Nat.sub_zero] at hx
        obtain ⟨w, g1, g2⟩ := ha.get hx
        have hlt : x < args.length := (List.getElem?_eq_some_iff.1 g1).1
        refine ⟨w, ?_, g2⟩
        rw [Array.getElem?_append_left (by simpa using hlt)]
        simpa using g1
      · rw [if_neg hh] at hx
        exact nn hx
    · exact nn hx
  · obtain ⟨b, rfl, he, σ', ho, hs, H'⟩ := q
    obtain ⟨u, g1, g2⟩ := hv _ w0 Φ σ' b w hs H'
    rcases hex with rfl | rfl
    · have he : e = .normal := he
      subst he
      exact ⟨rfl, u, g2, u, σ', rfl, ho, g1, H'⟩
    · have he : e = .ret := he
      subst he
      exact ⟨rfl, u, g2, u, σ', rfl, ho, g1, H'⟩
/-- What a loop does. -/
structure LR (P : Program) (N m lim : Nat) (b : Code) (t t' : Tr V) (h h' : H) (n n' : Nat) (ex : Ex) : Prop where
  le : n ≤ n'
  keep : Kp lim n' h.get h'.get
  nn : Nn n' h'.get
  sem : ∃ q, ∀ (w0 : World) (Φ : Fz) (σ : Sg) (a : Act) (w : World), Free σ n n' → SL N σ (opT m t []) a → HR w0 Φ σ h.get w →
    crounds P b (QS ex fun a' w' => ∃ σ', Out σ σ' n n' ∧ SL N σ' (opT m t' []) a' ∧ HR w0 Φ σ' h'.get w') q a w
theorem crounds_mono {c : Code} {Q Q' : Exit → AP} (hq : ∀ e a w, Q e a w → Q' e a w) : ∀ {m : Nat} {a : Act} {w : World}, crounds P c Q m a w → crounds P c Q' m a w
  | 0, a, w, h => (h none []).elim
  | m + 1, a, w, h => fun r M => by
    have key : ∀ m a w, Code.roundsIn (wideR r) 0 P c (upM M Q) m a w → Code.roundsIn (wideR r) 0 P c (upM M Q') m a w := by
      intro m
      induction m with
      | zero => intro a w h; exact h
      | succ m ih =>
        intro a w h
        refine wpIn_mono (show c.wpIn (wideR r) 0 P (Exit.then (Code.roundsIn (wideR r) 0 P c (upM M Q) m) (upM M Q)) a w from h) fun e a w q => ?_
        cases e with
        | normal => exact ih a w q
        | _ => obtain ⟨b, h1, h2⟩ := q; exact ⟨b, h1, hq _ _ _ h2⟩
    exact key _ _ _ (h r M)
theorem region_ok (hE : EnvOk P E) {call : CallT α} (hc : CallOK P call) {fi : FI} {N lim id : Nat} {ops : Array Oper} {d : Bool} {t : Tr V} {h : H} {n : Nat} {k : KX α} {r : α} (hok : CodeOk N fi (.region id ops d)) (hN : Nn n h.get)
    (e : (Bool.rec (runOps call E fi.mask lim ops.toList ops.toList t [] h n fun t h n => k .normal t h n) (oc (fi.dm.get id) fun ms => runDrawn call E fi.mask lim ops.toList ops.toList ms 0 [] [] t [] h n fun t h n => k .normal t h n) d : Option α) = some r) :
    ∃ t' h' n', k .normal t' h' n' = some r ∧ XR P N fi.mask lim (.region id ops d) t t' h h' n n' .normal := by
  obtain ⟨l⟩ := ops
  rcases rec_t e with ⟨rfl, e1⟩ | ⟨rfl, e1⟩
  · obtain ⟨ms, h1, e2⟩ := oc_inv e1
    have hreg := hok.2 rfl ms h1
    obtain ⟨L, t', h', n', e3, hD⟩ := runDrawn_ok hE.tt hc hreg l ms 0 [] [] t [] h n _ r h.get [] (fun q => by simp) (fun q => by simp) ⟨fun _ hp => by simp at hp, fun _ _ => rfl, .nil⟩ hN hN (fun _ _ hp => by simp at hp) e2
    refine ⟨t', h', n', e3, hD.le, hD.keep, hD.nn, fun w0 Φ σ a w hf hs H => ?_⟩
    obtain ⟨lce, hrun⟩ := hD.run
    have hW : W P (.region id ⟨l⟩ true) (fun a' w' => ∃ σ', Out σ σ' n n' ∧ SL N σ' (opT fi.mask t' []) a' ∧ HR w0 Φ σ' h'.get w') (fun _ _ _ => False) (fun _ _ => False) (fun _ _ _ => False) a w := by
      refine W_any hE.mixed (any_ok (ms := mkOf ms) (fun i o ho => hreg.edge i o (by simpa using ho)) (fun i o j ho => hreg.mask i o j (by simpa using ho)) _ L _ (opT fi.mask t []) h.get σ a _ (by simpa using hD.len) (by simp) (fun i hi => ?_) (fun e he => ?_) hD.pw (fun i j hi _ => ?_) hrun hs H.drew (fun a w σ' k1 k2 k3 k4 => ⟨σ', ⟨k1, fun b hb => k2 b fun e he => ?_⟩, k3.forget, k4⟩))
      · have hi' : i < l.length := by simpa using hi
        have := (hD.idx i).2 ⟨Nat.zero_le _, by omega⟩
        constructor
        · intro _; exact this
        · intro _; simp [Array.getD_eq_getD_getElem?, hi']
      · obtain ⟨q1, q2, q3, q4, q5⟩ := hD.ok e he
        have := (hD.idx e.idx).1 ⟨e, he, rfl⟩
        exact ⟨by simp; omega, q1, q2, fun b hb hb2 => hf b (by omega) (by omega)⟩
      · exfalso
        by_cases hl : i < l.length
        · simp [Array.getD_eq_getD_getElem?, hl] at hi
        · simp [Array.getD_eq_getD_getElem?, hl] at hi
      · obtain ⟨q1, q2, q3, q4, q5⟩ := hD.ok e he
        omega
    exact cwp_mono hW fun e a w q => by cases e <;> first | exact ⟨rfl, q⟩ | exact q.elim
  · obtain ⟨t', h', n', e2, q1, q2, q3, q4⟩ := runOps_ok hE.tt hc (N := N) l t [] h n _ r hok.1 hN e1
    refine ⟨t', h', n', e2, q1, q2, q3, fun w0 Φ σ a w hf hs H => ?_⟩
    have hW := W_region (id := id) (Qe := fun _ _ _ => False) (Qr := fun _ _ => False) (Qg := fun _ _ _ => False) (q4 w0 Φ σ a w hf hs H)
    exact cwp_mono hW fun e a w q => by cases e <;> first | exact ⟨rfl, q⟩ | exact q.elim
theorem exec_ok (hE : EnvOk P E) : ∀ n : Nat, XOK (α := α) P E (exec n) ∧ ∀ (b : Code) (fi : FI) (N lim : Nat) (t : Tr V) (h : H) (nn : Nat) (k : KX α) (r : α), CodeOk N fi b → Nn nn h.get → exec n (.loop b) E fi lim t h nn k = some r → ∃ ex t' h' n', k ex t' h' n' = some r ∧ LR P N fi.mask lim b t t' h h' nn n' ex
  | 0 => ⟨fun c fi N lim t h n k r _ _ e => nn e, fun b fi N lim t h n k r _ _ e => nn e⟩
  | f + 1 => by
    obtain ⟨ih, ihl⟩ := exec_ok hE f
    have hloop : ∀ (b : Code) (fi : FI) (N lim : Nat) (t : Tr V) (h : H) (n : Nat) (k : KX α) (r : α), CodeOk N fi b → Nn n h.get → exec (f + 1) (.loop b) E fi lim t h n k = some r → ∃ ex t' h' n', k ex t' h' n' = some r ∧ LR P N fi.mask lim b t t' h h' n n' ex := fun b fi N lim t h n k r hok hN e => by
      obtain ⟨ex, t1, h1, n1, e1, A⟩ := ih b fi N lim t h n _ r hok hN (e : exec f b E fi lim t h n _ = some r)
      have leave : ex ≠ .normal → k ex t1 h1 n1 = some r → ∃ ex t' h' n', k ex t' h' n' = some r ∧ LR P N fi.mask lim b t t' h h' n n' ex := fun hex e2 =>
        ⟨ex, t1, h1, n1, e2, A.le, A.keep, A.nn, 1, fun w0 Φ σ a w hf hs H => crounds_succ (cwp_mono (A.sem w0 Φ σ a w hf hs H) fun e a1 w1 hq => then_QS hq (fun h => absurd h hex) (fun _ hS => ⟨hq.1, hS⟩))⟩
      rcases Ex_rec e1 with ⟨rfl, e2⟩ | ⟨i, rfl, e2⟩ | ⟨l, rfl, e2⟩ | ⟨rfl, e2⟩
      · obtain ⟨ex, t2, h2, n2, e3, B⟩ := ihl b fi N lim t1 h1 n1 k r hok A.nn e2
        obtain ⟨q, hq⟩ := B.sem
        exact ⟨ex, t2, h2, n2, e3, Nat.le_trans A.le B.le, A.keep.trans B.keep B.le, B.nn, q + 1, fun w0 Φ σ a w hf hs H => crounds_succ (cwp_mono (A.sem w0 Φ σ a w (hf.less B.le) hs H) fun e a1 w1 hq1 => then_QS hq1
          (fun _ ⟨σ1, o1, s1, H1⟩ => crounds_mono (fun e a2 w2 ⟨he, σ2, o2, s2, H2⟩ => ⟨he, σ2, o1.trans o2 A.le B.le, s2, H2⟩) (hq w0 Φ σ1 a1 w1 (hf.after o1 A.le) s1 H1)) (fun h => absurd rfl h))⟩
      · exact leave (by simp) e2
      · exact leave (by simp) e2
      · exact leave (by simp) e2
    refine ⟨fun c fi N lim t h n k r hok hN e => ?_, hloop⟩
    cases c with
    | skip => exact ⟨.normal, t, h, n, e, XR.refl hN fun S a w hS _ _ => wpIn_skip ⟨_, rfl, rfl, hS⟩⟩
    | label l => exact ⟨.normal, t, h, n, e, XR.refl hN fun S a w hS _ _ => wpIn_label ⟨_, rfl, rfl, hS⟩⟩
    | exit i => exact ⟨.exit i, t, h, n, e, XR.refl hN fun S a w hS _ _ => wpIn_exit ⟨_, rfl, rfl, hS⟩⟩
    | goto l => exact ⟨.goto l, t, h, n, e, XR.refl hN fun S a w hS _ _ => wpIn_goto ⟨_, rfl, rfl, hS⟩⟩
    | ret => exact ⟨.ret, t, h, n, e, XR.refl hN fun S a w hS _ _ => wpIn_ret ⟨_, rfl, rfl, hS⟩⟩
    | refuse _ => exact nn e
    | rangeFunc _ _ _ _ => exact nn e
    | region id ops d =>
      obtain ⟨t', h', n', e1, H⟩ := region_ok hE (callBy_ok hE ih) hok hN e
      exact ⟨_, t', h', n', e1, H⟩
    | seq x y =>
      obtain ⟨ex, t1, h1, n1, e1, A⟩ := ih x fi N lim t h n _ r hok.1 hN (e : exec f x E fi lim t h n _ = some r)
      have hs : ∀ (Q : Exit → AP) a w, cwp P x (Exit.then (cwp P y Q) Q) a w → cwp P (.seq x y) Q a w := fun Q a w h => cwp_seq h
      rcases Ex_rec e1 with ⟨rfl, e2⟩ | ⟨i, rfl, e2⟩ | ⟨l, rfl, e2⟩ | ⟨rfl, e2⟩
      · obtain ⟨ex, t2, h2, n2, e3, B⟩ := ih y fi N lim t1 h1 n1 k r hok.2 A.nn e2
        exact ⟨ex, t2, h2, n2, e3, A.seq B hs⟩
      · exact ⟨_, t1, h1, n1, e2, A.leave (by simp) hs⟩
      · exact ⟨_, t1, h1, n1, e2, A.leave (by simp) hs⟩
      · exact ⟨_, t1, h1, n1, e2, A.leave (by simp) hs⟩
    | cond c x y =>
      obtain ⟨v, hv, e1⟩ := opd_inv (e : opd fi.mask t [] c _ = some r)
      obtain ⟨q, rfl, e2⟩ := boolK_inv e1
      have hev : ∀ (σ : Sg) (a : Act), SL N σ (opT fi.mask t []) a → a.eval c = .bool q := fun σ a hs => hv.ev hs
      rcases rec_t e2 with ⟨rfl, e3⟩ | ⟨rfl, e3⟩
      · obtain ⟨ex, t1, h1, n1, e4, A⟩ := ih x fi N lim t h n k r hok.1 hN e3
        exact ⟨ex, t1, h1, n1, e4, A.le, A.keep, A.nn, fun w0 Φ σ a w hf hs H r M => wpIn_cond_split (a := withM M a) (t := true) (hev σ a hs) (fun _ => A.sem w0 Φ σ a w hf hs H r M) (fun h => by cases h)⟩
      · obtain ⟨ex, t1, h1, n1, e4, A⟩ := ih y fi N lim t h n k r hok.2 hN e3
        exact ⟨ex, t1, h1, n1, e4, A.le, A.keep, A.nn, fun w0 Φ σ a w hf hs H r M => wpIn_cond_split (a := withM M a) (t := false) (hev σ a hs) (fun h => by cases h) (fun _ => A.sem w0 Φ σ a w hf hs H r M)⟩
    | block id b =>
      obtain ⟨ex, t1, h1, n1, e1, A⟩ := ih b fi N lim t h n _ r hok hN (e : exec f b E fi lim t h n _ = some r)
      have fin : ∀ ex', k ex' t1 h1 n1 = some r → (∀ e, ExR ex e → ExR ex' (match e with | .exit i => if i = id then .normal else .exit i | e => e)) → ∃ ex t' h' n', k ex t' h' n' = some r ∧ XR P N fi.mask lim (.block id b) t t' h h' n n' ex := fun ex' e2 hx =>
        ⟨ex', t1, h1, n1, e2, A.le, A.keep, A.nn, fun w0 Φ σ a w hf hs H r M => by
          refine wpIn_block (wpIn_mono (A.sem w0 Φ σ a w hf hs H r M) ?_)
          rintro e a w ⟨b', rfl, q, hS⟩
          have := hx e q
          cases e <;> simp only [Exit.inBlock] at this ⊢ <;> first | exact ⟨b', rfl, this, hS⟩ | skip
          split
          · rename_i hi; rw [if_pos hi] at this; exact ⟨b', rfl, this, hS⟩
          · rename_i hi; rw [if_neg hi] at this; exact ⟨b', rfl, this, hS⟩⟩
      rcases Ex_rec e1 with ⟨rfl, e2⟩ | ⟨i, rfl, e2⟩ | ⟨l, rfl, e2⟩ | ⟨rfl, e2⟩
      · exact fin _ e2 fun e he => by have he : e = .normal := he; subst he; rfl
      · rcases rec_t e2 with ⟨hi, e3⟩ | ⟨hi, e3⟩
        · have hi := beq_iff' hi
          exact fin _ e3 fun e he => by have he : e = .exit i := he; subst he; simp [hi, ExR]
        · have hi := beq_not hi
          exact fin _ e3 fun e he => by have he : e = .exit i := he; subst he; simp [hi, ExR]
      · exact fin _ e2 fun e he => by have he : e = .goto l := he; subst he; rfl
      · exact fin _ e2 fun e he => by have he : e = .ret := he; subst he; rfl
    | loop b =>
      obtain ⟨ex, t', h', n', e1, A⟩ := hloop b fi N lim t h n k r hok hN e
      obtain ⟨q, hq⟩ := A.sem
      exact ⟨ex, t', h', n', e1, A.le, A.keep, A.nn, fun w0 Φ σ a w hf hs H => cwp_loop (hq w0 Φ σ a w hf hs H)⟩
    | scope b =>
      obtain ⟨ex, t1, h1, n1, e1, A⟩ := ih b fi N lim t h n _ r hok hN (e : exec f b E fi lim t h n _ = some r)
      have fin : (∀ l, ex ≠ .goto l) → k ex t1 h1 n1 = some r → ∃ ex t' h' n', k ex t' h' n' = some r ∧ XR P N fi.mask lim (.scope b) t t' h h' n n' ex := fun hx e2 =>
        ⟨ex, t1, h1, n1, e2, A.le, A.keep, A.nn, fun w0 Φ σ a w hf hs H => by
          have hA := A.sem w0 Φ σ a w hf hs H
          generalize (fun a' w' => ∃ σ', Out σ σ' n n1 ∧ SL N σ' (opT fi.mask t1 []) a' ∧ HR w0 Φ σ' h1.get w') = S at hA ⊢
          have hW : W P (.scope b) (fun a w => ex = .normal ∧ S a w) (fun i a w => ex = .exit i ∧ S a w) (fun a w => ex = .ret ∧ S a w) (fun _ _ _ => False) a w :=
            W_scope (fun _ _ _ _ => False) (fun G _ _ => cwp_mono hA fun e a w ⟨he, hS⟩ => by
              cases ex <;> simp only [ExR] at he <;> subst he
              · exact ⟨rfl, hS⟩
              · exact ⟨rfl, hS⟩
              · exact absurd rfl (hx _)
              · exact ⟨rfl, hS⟩) (fun l k a w rest _ hJ => hJ.elim)
          exact cwp_mono hW fun e a w q => by
            cases e with
            | normal => obtain ⟨rfl, hS⟩ := q; exact ⟨rfl, hS⟩
            | exit i => obtain ⟨rfl, hS⟩ := q; exact ⟨rfl, hS⟩
            | ret => obtain ⟨rfl, hS⟩ := q; exact ⟨rfl, hS⟩
            | _ => exact q.elim⟩
      rcases Ex_rec e1 with ⟨rfl, e2⟩ | ⟨i, rfl, e2⟩ | ⟨l, rfl, e2⟩ | ⟨rfl, e2⟩
      · exact fin (fun l h => by cases h) e2
      · exact fin (fun l h => by cases h) e2
      · exact nn e2
      · exact fin (fun l h => by cases h) e2
theorem run_still (hE : EnvOk P E) {f fuel : Nat} {ss : List (List Nat)} {c : C} {ok : V → H → Nat → Option Unit} (hok : ∀ v h n, ok v h n = some () → v = .c c) (hc : ∀ σ τ v, CC σ c v → CC τ c v) (e : run fuel E 0 f (ss.map fun l => .c (.s l)) .e 0 ok = some ()) : Still P f ss c := by
  obtain ⟨v, h', n', e1, hR, hH⟩ := callBy_ok hE (exec_ok hE fuel).1 0 f _ .e 0 ok () (fun _ _ => rfl) e
  have hv := hok _ _ _ e1
  subst hv
  refine ⟨hH, fun w args ha => ?_⟩
  refine (hR.sem w (fun b => w.heap[b]?) (fun _ => none) w args (fun _ _ _ => rfl) ha ⟨⟨rfl, rfl, rfl, Nat.le_refl _, fun b o h => h, fun e he => by simp at he, fun e he => by simp at he, fun i j x y hi => by simp at hi⟩, fun a o ha => (by cases ha), fun a a' o o' b x x' ha => (by cases ha)⟩).mono ?_
  rintro e w' ⟨u', σ', rfl, _, h2, h3⟩
  refine ⟨u', rfl, fun σ => hc _ _ _ h2, h3.cw.os, h3.cw.tape, h3.cw.output, h3.cw.size, fun k hk => ?_⟩
  rw [h3.cw.frz k w.heap[k] (by simp [hk])]
  simp [hk]
end
theorem Still.gives {P : Program} {f : Nat} {c : C} (h : Still P f [] c) {u : Value} (hu : ∀ σ v, CC σ c v → v = u) (fz : Fz) : Gives P f [] fz u := fun w0 L w hC => by
  refine (h.2 w [] trivial).mono ?_
  rintro e w' ⟨u', rfl, h2, h3, h4, h5, h6, h7⟩
  rw [hu _ u' (h2 fun _ => none)]
  exact ⟨rfl, hC.step ⟨h3, h4, h5, h6, fun k hk _ => by rw [h7 k hk]⟩⟩
end Go.D
namespace Go.D
set_option linter.unusedVariables false
set_option linter.unusedSimpArgs false
open Go.RowKit Go.Sl
def Tr.toL {γ : Type} (g : Nat → Nat) : Tr γ → List (Nat × γ)
  | .e => []
  | .n v l r => (match v with | some x => [(g 0, x)] | none => []) ++ (l.toL (fun k => g (2 * k + 1)) ++ r.toL (fun k => g (2 * k + 2)))
theorem Tr.mem_toL {γ : Type} : ∀ (t : Tr γ) (g : Nat → Nat) (k : Nat) (x : γ), t.get k = some x → (g k, x) ∈ t.toL g
  | .e, g, k, x, h => by cases h
  | .n v l r, g, 0, x, h => by
    have h : v = some x := h
    subst h
    simp [Tr.toL]
  | .n v l r, g, k + 1, x, h => by
    have h : (Bool.rec (r.get (k / 2)) (l.get (k / 2)) (Nat.beq (k % 2) 0) : Option γ) = some x := h
    rcases rec_t h with ⟨hb, h⟩ | ⟨hb, h⟩
    · have := mem_toL l (fun k => g (2 * k + 1)) _ x h
      have e : 2 * (k / 2) + 1 = k + 1 := by
        have : k % 2 = 0 := Nat.eq_of_beq_eq_true hb
        omega
      simp only [e] at this
      simp [Tr.toL, this]
    · have := mem_toL r (fun k => g (2 * k + 2)) _ x h
      have e : 2 * (k / 2) + 2 = k + 1 := by
        have : k % 2 ≠ 0 := fun e => by rw [e] at hb; cases hb
        omega
      simp only [e] at this
      simp [Tr.toL, this]
def zB : C → Value → Bool
  | .b x, .bool y => x == y
  | .i k n, .int k' n' => decide (k = k') && decide (n = n')
  | .s [], .string s => s.data.toList.isEmpty
  | .pn, .pointer none => true
  | .sn, .slice none l c => l == 0 && c == 0
  | .mn, .map none => true
  | .nf, .nilFunc => true
  | _, _ => false
def zsB : List C → List Value → Bool
  | [], [] => true
  | c :: l, v :: r => zB c v && zsB l r
  | _, _ => false
theorem zB_ok {σ : Sg} {c : C} {v : Value} (h : zB c v = true) : CC σ c v := by
  unfold zB at h
  split at h
  · simp only [beq_iff_eq] at h; subst h; rfl
  · simp only [Bool.and_eq_true, decide_eq_true_eq] at h; obtain ⟨rfl, rfl⟩ := h; rfl
  · simp only [List.isEmpty_iff] at h
    exact ⟨_, rfl, by simp [byl, h]⟩
  · rfl
  · simp only [Bool.and_eq_true, beq_iff_eq] at h; obtain ⟨rfl, rfl⟩ := h; rfl
  · rfl
  · rfl
  · cases h
theorem zsB_ok {σ : Sg} : ∀ {l : List C} {r : List Value}, zsB l r = true → CL σ l r
  | [], [], _ => trivial
  | c :: l, v :: r, h => by
    simp only [zsB, Bool.and_eq_true] at h
    exact ⟨zB_ok h.1, zsB_ok h.2⟩
  | [], _ :: _, h => by cases h
  | _ :: _, [], h => by cases h
def fsB (P : Program) : List (Nat × TypeId) → List Field → Bool
  | [], [] => true
  | p :: l, f :: r => f.offset == p.1 && f.type == p.2 && (match P.info? f.type with | some i => !(i.size == 0) | none => false) && fsB P l r
  | _, _ => false
theorem fsB_ok {P : Program} : ∀ {l : List (Nat × TypeId)} {r : List Field}, fsB P l r = true → r.length = l.length ∧ ∀ (i : Nat) (p : Nat × TypeId), l[i]? = some p → ∃ f : Field, r[i]? = some f ∧ f.offset = p.1 ∧ f.type = p.2 ∧ ∃ i, P.info? f.type = some i ∧ i.size ≠ 0
  | [], [], _ => ⟨rfl, fun i p h => by simp at h⟩
  | p :: l, f :: r, h => by
    simp only [fsB, Bool.and_eq_true, beq_iff_eq] at h
    obtain ⟨⟨⟨h1, h2⟩, h3⟩, h4⟩ := h
    obtain ⟨g1, g2⟩ := fsB_ok h4
    refine ⟨by simp [g1], fun i q hq => ?_⟩
    cases i with
    | zero =>
      simp only [List.getElem?_cons_zero, Option.some.injEq] at hq
      subst hq
      refine ⟨f, rfl, h1, h2, ?_⟩
      split at h3
      · rename_i i hi; exact ⟨i, hi, by simpa using h3⟩
      · cases h3
    | succ i => simpa using g2 i q (by simpa using hq)
  | [], _ :: _, h => by cases h
  | _ :: _, [], h => by cases h
def dsB (P : Program) : Ds → TypeDesc → Bool
  | .int k, .int k' => decide (k' = k)
  | .str, .string => true
  | .slice e, .slice e' => e' == e
  | .struct fs, .struct F => fsB P fs F.toList
  | .array n e, .array n' e' => n' == n && e' == e && (P.info? e).isSome
  | .map k v, .map k' v' => k' == k && v' == v
  | .other, _ => true
  | _, _ => false
theorem dsB_ok {P : Program} {x : Ds} {d : TypeDesc} (h : dsB P x d = true) : DsOk P x d := by
  unfold dsB at h
  split at h
  · simp only [decide_eq_true_eq] at h; subst h; rfl
  · rfl
  · simp only [beq_iff_eq] at h; subst h; rfl
  · obtain ⟨g1, g2⟩ := fsB_ok h
    exact ⟨_, rfl, by simpa using g1, fun i p hp => by simpa using g2 i p hp⟩
  · simp only [Bool.and_eq_true, beq_iff_eq] at h
    obtain ⟨⟨rfl, rfl⟩, h3⟩ := h
    exact ⟨rfl, Option.isSome_iff_exists.mp h3⟩
  · simp only [Bool.and_eq_true, beq_iff_eq] at h
    obtain ⟨rfl, rfl⟩ := h
    rfl
  · trivial
  · cases h
def aggB : TypeDesc → Bool
  | .struct _ => true
  | .array _ _ => true
  | _ => false
def tiB (P : Program) (p : Nat × TI) : Bool := match P.underlying p.1, P.info? p.1 with
  | some d, some i => match i.zero with
    | some z => i.size == p.2.sz && i.bytes == p.2.by_ && aggB d == p.2.ag && dsB P p.2.d d && zsB p.2.z z.cells.toList && p.2.z.length == p.2.sz && (p.2.ag || z.oneCell') && Nat.blt 0 p.2.sz
    | none => false
  | _, _ => false
theorem aggB_eq (d : TypeDesc) : Agg d = aggB d := by cases d <;> simp [Agg, aggB]
theorem tiB_ok {P : Program} {t : Nat} {ti : TI} (h : tiB P (t, ti) = true) : TIok P t ti := by
  unfold tiB at h
  split at h
  · rename_i d i h1 h2
    split at h
    · rename_i z h3
      simp only [Bool.and_eq_true, beq_iff_eq, Bool.or_eq_true] at h
      obtain ⟨⟨⟨⟨⟨⟨⟨e1, e2⟩, e3⟩, e4⟩, e5⟩, e6⟩, e7⟩, e8⟩ := h
      exact ⟨d, i, z, h1, h2, e1, e2, h3, (aggB_eq d).trans e3, dsB_ok e4, fun σ => zsB_ok e5, e6, fun e => by simpa [e] using e7, Nat.blt_eq.mp e8⟩
    · cases h
  · cases h
end Go.D
namespace Go.D
set_option linter.unusedVariables false
set_option linter.unusedSimpArgs false
open Go.RowKit Go.Sl
theorem kept_tb (m j : Nat) : kept m j = m.testBit j := by
  have h : kept m j = Nat.beq ((m >>> j) % 2) 1 := rfl
  rw [h, Nat.testBit_eq_decide_div_mod_eq, Nat.shiftRight_eq_div_pow]
  by_cases q : m / 2 ^ j % 2 = 1
  · simp [q]
  · have : Nat.beq (m / 2 ^ j % 2) 1 = false := by
      cases e : Nat.beq (m / 2 ^ j % 2) 1 with
      | false => rfl
      | true => exact absurd (Nat.eq_of_beq_eq_true e) q
    simp [q, this]
def edgesM (ms : List (Nat × Bool)) : List Edge → Nat
  | [] => 0
  | e :: l => bif Region.binds .any e then (2 ^ e.on ||| mkOf ms e.on) ||| edgesM ms l else edgesM ms l
theorem edgesM_ok {ms : List (Nat × Bool)} {j : Nat} : ∀ {l : List Edge}, (edgesM ms l).testBit j = true → ∃ e ∈ l, Region.binds .any e = true ∧ (e.on = j ∨ kept (mkOf ms e.on) j = true)
  | [], h => by simp [edgesM] at h
  | e :: l, h => by
    simp only [edgesM] at h
    cases hb : Region.binds .any e with
    | false =>
      rw [hb] at h
      obtain ⟨e', h1, h2⟩ := edgesM_ok (l := l) h
      exact ⟨e', by simp [h1], h2⟩
    | true =>
      rw [hb] at h
      simp only [cond_true, Nat.testBit_or, Bool.or_eq_true, Nat.testBit_two_pow] at h
      rcases h with (h | h) | h
      · exact ⟨e, by simp, hb, .inl (by simpa using h)⟩
      · exact ⟨e, by simp, hb, .inr (by rw [kept_tb]; exact h)⟩
      · obtain ⟨e', h1, h2⟩ := edgesM_ok (l := l) h
        exact ⟨e', by simp [h1], h2⟩
def mem1 (x : Nat) : List Nat → Bool
  | [] => false
  | y :: l => bif Nat.beq y x then true else mem1 x l
theorem mem1_false {x : Nat} : ∀ {l : List Nat}, mem1 x l = false → ∀ d ∈ l, d ≠ x
  | [], _, d, h => by simp at h
  | y :: l, h, d, hd => by
    simp only [mem1] at h
    cases q : Nat.beq y x with
    | true => rw [q] at h; cases h
    | false =>
      rw [q] at h
      simp only [List.mem_cons] at hd
      rcases hd with rfl | hd
      · exact fun e => by subst e; simp at q
      · exact mem1_false h d hd
def noD (d : Option Nat) (l : List Nat) : Bool := match d with
  | none => true
  | some x => !mem1 x l
theorem noD_ok {d : Option Nat} {l : List Nat} (h : noD d l = true) : ∀ x ∈ l, d ≠ some x := fun x hx e => by
  subst e
  exact mem1_false (x := x) (l := l) (by simpa [noD] using h) x hx rfl
abbrev Bf := List (Nat × Option Nat × List Nat)
def pairB (mk : Nat) (d : Option Nat) (rt : List Nat) : Bf → Bool
  | [] => true
  | (j, dj, rj) :: l => (kept mk j || (noD dj rt && (noD d rj && (match d with | none => true | some x => noD dj [x])))) && pairB mk d rt l
def regB (N : Nat) (all : List Oper) (msA : List (Nat × Bool)) : List Oper → List (Nat × Bool) → Nat → Bf → Bool
  | [], _, _, _ => true
  | o :: l, m :: ms, i, bf => (match o.dst with | none => true | some d => Nat.blt d N) && (o.after.toList.all (fun e => !(Region.binds .any e) || Nat.blt e.on i) && (Nat.beq m.1 (edgesM msA o.after.toList) && (pairB m.1 o.dst (rtOf all o) bf && regB N all msA l ms (i + 1) ((i, o.dst, rtOf all o) :: bf))))
  | _ :: _, [], _, _ => false
theorem pairB_ok {mk : Nat} {d : Option Nat} {rt : List Nat} : ∀ {bf : Bf}, pairB mk d rt bf = true → ∀ p ∈ bf, kept mk p.1 = false → (∀ x ∈ rt, p.2.1 ≠ some x) ∧ (∀ x ∈ p.2.2, d ≠ some x) ∧ ∀ x, p.2.1 = some x → d ≠ some x
  | [], _, p, hp => by simp at hp
  | (j, dj, rj) :: l, h, p, hp => fun hk => by
    simp only [pairB, Bool.and_eq_true, Bool.or_eq_true] at h
    simp only [List.mem_cons] at hp
    rcases hp with rfl | hp
    · rcases h.1 with h1 | ⟨h1, h2, h3⟩
      · rw [hk] at h1; cases h1
      · refine ⟨noD_ok h1, noD_ok h2, fun x hx e => ?_⟩
        subst e
        exact noD_ok h3 x (by simp) hx
    · exact pairB_ok h.2 p hp hk
structure RegP (N : Nat) (all : List Oper) (ms : List (Nat × Bool)) (i : Nat) (o : Oper) : Prop where
  dst : ∀ d, o.dst = some d → d < N
  edge : ∀ e ∈ o.after, Region.binds .any e = true → e.on < i
  mask : mkOf ms i = edgesM ms o.after.toList
  slots : ∀ j oj, all[j]? = some oj → j < i → kept (mkOf ms i) j = false → (∀ d ∈ rtOf all o, oj.dst ≠ some d) ∧ (∀ d ∈ rtOf all oj, o.dst ≠ some d) ∧ ∀ d, oj.dst = some d → o.dst ≠ some d
theorem regB_ok {N : Nat} {all : List Oper} {msA : List (Nat × Bool)} : ∀ (l : List Oper) (ms : List (Nat × Bool)) (i : Nat) (bf : Bf), (∀ q, all[i + q]? = l[q]?) → (∀ q, msA[i + q]? = ms[q]?) → (∀ j oj, all[j]? = some oj → j < i → (j, oj.dst, rtOf all oj) ∈ bf) → regB N all msA l ms i bf = true → ∀ q o, l[q]? = some o → RegP N all msA (i + q) o
  | [], _, _, _, _, _, _, _, q, o, hq => by simp at hq
  | _ :: _, [], _, _, _, _, _, h, _, _, _ => by cases h
  | o :: l, m :: ms, i, bf, ha, hm, hb, h, q, o', hq => by
    simp only [regB, Bool.and_eq_true] at h
    obtain ⟨h1, h2, h3, h4, h5⟩ := h
    have hmk : mkOf msA i = m.1 := by
      have := hm 0
      simp only [Nat.add_zero, List.getElem?_cons_zero] at this
      simp [mkOf, this]
    have hoi : all[i]? = some o := by simpa using ha 0
    cases q with
    | zero =>
      simp only [List.getElem?_cons_zero, Option.some.injEq] at hq
      subst hq
      refine ⟨fun d hd => ?_, fun e he hbe => ?_, ?_, fun j oj hj hji hk => ?_⟩
      · rw [hd] at h1; exact Nat.blt_eq.mp h1
      · have := List.all_eq_true.mp h2 e (by simpa using he)
        simp only [hbe, Bool.not_true, Bool.false_or] at this
        exact Nat.blt_eq.mp this
      · exact hmk.trans (Nat.eq_of_beq_eq_true h3)
      · rw [Nat.add_zero, hmk] at hk
        exact pairB_ok h4 _ (hb j oj hj hji) hk
    | succ q =>
      have := regB_ok l ms (i + 1) _ (fun q => by have := ha (q + 1); simpa [Nat.add_assoc, Nat.add_comm 1 q] using this) (fun q => by have := hm (q + 1); simpa [Nat.add_assoc, Nat.add_comm 1 q] using this)
        (fun j oj hj hji => by
          by_cases e : j = i
          · subst e
            rw [hoi] at hj; cases hj
            simp
          · exact List.mem_cons_of_mem _ (hb j oj hj (by omega))) h5 q o' (by simpa using hq)
      rw [Nat.add_assoc, Nat.add_comm 1 q] at this
      exact this
theorem RegOk_of {N : Nat} {all : List Oper} {ms : List (Nat × Bool)} (h : regB N all ms all ms 0 [] = true) : RegOk N all ms :=
  have H := regB_ok all ms 0 [] (fun q => by simp) (fun q => by simp) (fun _ _ _ h => by omega) h
  ⟨fun o ho d hd => by
    obtain ⟨i, hi⟩ := List.getElem?_of_mem ho
    exact (H i o hi).dst d hd,
  fun i o ho => by have := (H i o ho).edge; simpa using this,
  fun i o j ho hk => by
    have := (H i o ho).mask
    simp only [Nat.zero_add] at this
    obtain ⟨e, he, h⟩ := edgesM_ok (ms := ms) (j := j) (l := o.after.toList) (by rw [← this, ← kept_tb]; exact hk)
    exact ⟨e, by simpa using he, h⟩,
  fun i j oi oj hi hj hji hk => by have := (H i oi hi).slots j oj hj; simp only [Nat.zero_add] at this; exact this hji hk⟩
def dstsB (N : Nat) (l : List Oper) : Bool := l.all fun o => match o.dst with | none => true | some d => Nat.blt d N
noncomputable def codeB (N : Nat) (fi : FI) : Code → Bool
  | .region id ops d => dstsB N ops.toList && (!d || match fi.dm.get id with | none => true | some ms => regB N ops.toList ms ops.toList ms 0 [])
  | .seq a b => codeB N fi a && codeB N fi b
  | .cond _ a b => codeB N fi a && codeB N fi b
  | .block _ a => codeB N fi a
  | .loop a => codeB N fi a
  | .scope a => codeB N fi a
  | _ => true
theorem codeB_ok {N : Nat} {fi : FI} : ∀ (c : Code), codeB N fi c = true → CodeOk N fi c := fun c => by
  induction c with
  | region id ops d =>
    intro h
    simp only [codeB, Bool.and_eq_true, Bool.or_eq_true] at h
    refine ⟨fun o ho t ht => ?_, fun hd ms hms => ?_⟩
    · have := List.all_eq_true.mp h.1 o ho
      simp only [ht] at this
      exact Nat.blt_eq.mp this
    · rcases h.2 with h2 | h2
      · rw [hd] at h2; cases h2
      · rw [hms] at h2; exact RegOk_of h2
  | seq a b iha ihb => exact fun h => by simp only [codeB, Bool.and_eq_true] at h; exact ⟨iha h.1, ihb h.2⟩
  | cond x a b iha ihb => exact fun h => by simp only [codeB, Bool.and_eq_true] at h; exact ⟨iha h.1, ihb h.2⟩
  | block l a ih => exact fun h => ih h
  | loop a ih => exact fun h => ih h
  | scope a ih => exact fun h => ih h
  | _ => exact fun _ => trivial
def resB (m : Nat) : List ResultVar → Bool
  | [] => true
  | .tmp y :: l => kept m y && resB m l
  | .cell y _ :: l => kept m y && resB m l
theorem resB_ok {m : Nat} : ∀ {l : List ResultVar}, resB m l = true → ∀ x ∈ l, ∀ y, (x = .tmp y ∨ ∃ ty, x = .cell y ty) → kept m y = true
  | [], _, x, hx => by simp at hx
  | .tmp z :: l, h, x, hx => fun y hy => by
    simp only [resB, Bool.and_eq_true] at h
    simp only [List.mem_cons] at hx
    rcases hx with rfl | hx
    · rcases hy with hy | ⟨_, hy⟩ <;> cases hy
      exact h.1
    · exact resB_ok h.2 x hx y hy
  | .cell z t :: l, h, x, hx => fun y hy => by
    simp only [resB, Bool.and_eq_true] at h
    simp only [List.mem_cons] at hx
    rcases hx with rfl | hx
    · rcases hy with hy | ⟨_, hy⟩ <;> cases hy
      exact h.1
    · exact resB_ok h.2 x hx y hy
noncomputable def fiB (fi : FI) : Bool := !(fi.fn.name == "runtime.NumGoroutine") && (resB fi.mask fi.fn.results.toList && match fi.fn.body with | none => true | some c => codeB fi.fn.ntmps fi c)
theorem env_ok {P : Program} {E : Env} (hM : ∀ f ss c, (f, ss, c) ∈ E.mm → Still P f ss c) (ht : (E.tt.toL id).all (tiB P) = true) (hf : (E.ft.toL id).map (fun p => some p.2.fn) = (E.ft.toL id).map (fun p => P.funcs[p.1]?)) (hc : (E.ft.toL id).all (fun p => fiB p.2) = true) (hm : P.follows .mixedOrders = true) : EnvOk P E :=
  ⟨hM, fun t ti h => tiB_ok (List.all_eq_true.mp ht _ (E.tt.mem_toL id t ti h)),
  fun f fi h => by
    have hmem := E.ft.mem_toL id f fi h
    have h1 := (List.map_inj_left.mp hf _ hmem).symm
    have h2 := List.all_eq_true.mp hc _ hmem
    simp only [fiB, Bool.and_eq_true] at h2
    obtain ⟨h3, h4, h5⟩ := h2
    refine ⟨h1, by simpa using h3, fun c hb => ?_, resB_ok h4⟩
    rw [hb] at h5
    exact codeB_ok c h5, hm⟩
end Go.D
