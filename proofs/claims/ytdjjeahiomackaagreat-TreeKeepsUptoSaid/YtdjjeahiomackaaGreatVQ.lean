/-
  Walks and laws of this seat.
-/
import Derived.Test.YtdjjeahiomackaaGreatVM
namespace Go.V
set_option linter.unusedVariables false
set_option linter.unusedSimpArgs false
set_option linter.unusedSectionVars false
open Go.RowKit Go.Sl
variable [F0]
theorem zh2 (K : List Nat) : ∀ ob : List Ob,(dropO K ob).length = ob.length
  | [] => rfl
  | x :: r => by simp [dropO, zh2 K r]
theorem znw (K : List Nat) : ∀ ob : List Ob,(keepO K ob).length = ob.length
  | [] => rfl
  | x :: r => by simp [keepO, znw K r]
theorem zgm (K : List Nat) (old : List Ob) : ∀ ob : List Ob,(mergeO K old ob).length = ob.length
  | [] => rfl
  | x :: r => by simp [mergeO, zgm K old r]
theorem ztf (K : List Nat) : ∀ {ob : List Ob} {j : Nat}, memN K j = true → j < ob.length → og (dropO K ob) j = some .no
  | x :: r, j, h, hl => by
    simp only [dropO, og, zh2]
    cases q : Nat.beq r.length j with
    | true =>
      have := Nat.eq_of_beq_eq_true q
      subst this
      rw [h]; rfl
    | false => exact ztf      K h (by have : r.length ≠ j := fun e => by rw [e] at q; simp at q
                                      simp at hl; omega)
  | [], _, _, hl => by simp at hl
variable {f f' f0 : Fz} {N N' N0 : Nm} {w0 : World} {L0 Lk : List Ent} {ob0 : List Ob} {K : List Nat}
theorem OLR.dropK (K : List Nat) : ∀ {ob : List Ob} {L : List Ent}, OLR f N ob L → OLR f N (dropO K ob) L
  | [], _, h => h
  | x :: r, e :: L, ⟨h1, h2⟩ => by
    refine ⟨?_, OLR.dropK K h2⟩
    rw [zh2]
    cases memN K r.length with
    | true => exact trivial
    | false => exact h1
def kL (K : List Nat) : List Ob → List Ent → List Ent
  | x :: r, e :: L => cond (memN K r.length) e ph :: kL K r L
  | _, _ => []
theorem zt9 (K : List Nat) : ∀ {ob : List Ob} {L : List Ent} {p : Nat} {x : Ent}, (kL K ob L)[p]? = some x → p < ob.length ∧ (x = ph ∨ (memN K (ob.length - 1 - p) = true ∧ L[p]? = some x))
  | y :: r, e :: L,0, x, h => by
    simp only [kL, List.getElem?_cons_zero, Option.some.injEq] at h
    refine ⟨by simp, ?_⟩
    cases q : memN K r.length with
    | true => rw [q] at h; exact .inr ⟨by simpa using q, by simpa using h⟩
    | false => rw [q] at h; exact .inl h.symm
  | y :: r, e :: L, p + 1, x, h => by
    obtain ⟨h1, h2⟩ := zt9 K (ob := r) (L := L) (p := p) (x := x) (by simpa [kL] using h)
    refine ⟨by simp; omega, ?_⟩
    rw [show (y :: r).length - 1 - (p + 1) = r.length - 1 - p by simp; omega]
    simpa using h2
  | [], _, p, x, h => by simp [kL] at h
  | _ :: _,[], p, x, h => by simp [kL] at h
theorem OLR.keepK (K : List Nat) : ∀ {ob : List Ob} {L : List Ent}, OLR f N ob L → OLR f N (keepO K ob) (kL K ob L)
  | [], _, h => h
  | x :: r, e :: L, ⟨h1, h2⟩ => by
    refine ⟨?_, OLR.keepK K h2⟩
    rw [znw]
    cases memN K r.length with
    | true => exact h1
    | false => exact trivial
def KR (K : List Nat) (ob0 : List Ob) (L0 : List Ent) (ob : List Ob) (L : List Ent) : Prop := ∀ j, memN K j = true → j < ob0.length → j < ob.length ∧ L[ob.length - 1 - j]? = L0[ob0.length - 1 - j]?
theorem KR.cw {ob : List Ob} {L : List Ent} (h : KR K ob0 L0 ob L) {w : World} (hf : Fz.le f0 f) (hC : Cw w0 f L w) : Cw w0 f0 (kL K ob0 L0) w := by
  refine Cw.re (hC.weak hf) (fun p => ob.length - 1 - (ob0.length - 1 - p)) (fun p x hp => ?_) (fun p q x y hp hq hx hy hpq => ?_)
  · obtain ⟨h1, h2⟩ := zt9 K hp
    rcases h2 with rfl | ⟨h2, h3⟩
    · exact .inl ⟨zil, ph_holds⟩
    · refine .inr ?_
      rw [(h _ h2 (by omega)).2, ← h3]
      congr 1
      omega
  · obtain ⟨h1, h1'⟩ := zt9 K hp
    obtain ⟨h2, h2'⟩ := zt9 K hq
    rcases h1' with rfl | ⟨h1', _⟩
    · exact absurd zil hx
    rcases h2' with rfl | ⟨h2', _⟩
    · exact absurd zil hy
    have k1 := (h _ h1' (by omega)).1
    have k2 := (h _ h2' (by omega)).1
    omega
theorem OLR.mergeK {ob : List Ob} {L : List Ent} (hO : OLR f N ob L) (hf : Fz.le f f') (hN : Nm.le N N') : ∀ {ob' : List Ob} {L' : List Ent}, OLR f' N' ob' L' → (∀ j, memN K j = true → j < ob.length → j < ob'.length → L'[ob'.length - 1 - j]? = L[ob.length - 1 - j]?) → OLR f' N' (mergeO K ob ob') L'
  | [], _, h, _ => h
  | x :: r, e :: L', ⟨h1, h2⟩, hk => by
    refine ⟨?_, OLR.mergeK hO hf hN h2 fun j a b c => ?_⟩
    · rw [zgm]
      cases q : (memN K r.length && Nat.blt r.length ob.length) with
      | false => exact h1
      | true =>
        rw [Bool.and_eq_true] at q
        have hlt : r.length < ob.length := Nat.blt_eq.mp q.2
        have := hk r.length q.1 hlt (by simp)
        cases ho : og ob r.length with
        | none => exact trivial
        | some y =>
          obtain ⟨_, en, g1, g2⟩ := hO.get ho
          rw [g1] at this
          simp at this
          subst this
          exact g2.le hf hN
    · have := hk j a b (by simp; omega)
      rw [show (x :: r).length - 1 - j = (r.length - 1 - j) + 1 by simp; omega] at this
      simpa using this
section
variable {α : Type} {r : α} {P : Program} {E : Env} {n : Nat} {ops : Array Oper} {Q : AP} {Lf : List Ent}
def EndK (r : α) (n : Nat) (w0 : World) (f0 : Fz) (ops : Array Oper) (Es0 : List (Nat × Value)) (Lf : List Ent) (k : List (Nat × V) → List Ob → Option α) (Q : AP) : Prop := ∀ sl' ob' f' N' E' L' a' w', k sl' ob' = some r → Fz.le f0 f' → SlR f' N' sl' E' → OLR f' N' ob' L' → Nb N' ob' → L'.drop ob'.length = Lf → (∀ t,(∀ o ∈ ops.toList, o.dst ≠ some t) → Sl.look E' t = Sl.look Es0 t) → St n w0 f' L' E' a' w' → Q a' w'
def Lks (ops : Array Oper) (Es0 Es : List (Nat × Value)) : Prop := ∀ t,(∀ o ∈ ops.toList, o.dst ≠ some t) → Sl.look Es t = Sl.look Es0 t
theorem Lks.put {Es0 Es : List (Nat × Value)} {i : Nat} {o : Oper} (h : Lks ops Es0 Es) (hi : ops.toList[i]? = some o) {u : Value} : Lks ops Es0 (E1 o.dst u Es) := fun t ht => (zoa (ht o (List.mem_of_getElem? hi))).trans (h t ht)
theorem zvr (hE : EnvOk P E) {i : Nat} {o : Oper} (hi : ops.toList[i]? = some o) {sl : List (Nat × V)} {obE : List Ob} {yes : V → List Ob → List (Nat × V) → Option α} {no : List (Nat × V) → Option α} (hd : ∀ t, o.dst = some t → t < n)
    (h : guarded ops.toList o.guard sl (fun sl => op1 E o.op o.dst sl obE fun v ob' => yes v ob' sl) no = some r) {f : Fz} {N : Nm} {Es : List (Nat × Value)} {L : List Ent} (hS : SlR f N sl Es) (hO : OLR f N obE L) (hn : Nb N obE) {K' : AP} {a : Act} {w : World} (hs : St n w0 f L Es a w)
    (hY : ∀ sl1 v ob' f' N' u L' a' w', yes v ob' sl1 = some r → (∀ t, lk sl t = none → lk sl1 t = none) → SlR f N sl1 Es → Fz.le f f' → Nm.le N N' → Nb N' ob' → OLR f' N' ob' L' → VR f' N' v u → Fm obE L ob' L' → St n w0 f' L' (E1 o.dst u Es) a' w' → K' a' w')
    (hN : ∀ sl1 a' w', no sl1 = some r → (∀ t, lk sl t = none → lk sl1 t = none) → SlR f N sl1 Es → St n w0 f L (E1 o.dst undef Es) a' w' → K' a' w') : RL P ops [o] K' a w := by
  obtain ⟨dst, op, ty, pos, af, g⟩ := o
  have yes' : ∀ sl1,(∀ t, lk sl t = none → lk sl1 t = none) → SlR f N sl1 Es → op1 E op dst sl1 obE (fun v ob' => yes v ob' sl1) = some r → RL P ops [⟨dst, op, ty, pos, af, none⟩] K' a w := fun sl1 hx hS h => by
    obtain ⟨v, ob', h1, h2⟩ := op1_ok hE h
    exact h2 f N Es L w0 n a w hS hO hn hs ty pos af ops [] K' hd fun f' N' u L' a' w' hf hN hn' hO' hv hfm hs' => za1 (hY sl1 v ob' f' N' u L' a' w' h1 hx hS hf hN hn' hO' hv hfm hs')
  have no' : ∀ sl1,(∀ t, lk sl t = none → lk sl1 t = none) → SlR f N sl1 Es → Want ops Es ⟨dst, op, ty, pos, af, g⟩ false → no sl1 = some r → RL P ops [⟨dst, op, ty, pos, af, g⟩] K' a w := fun sl1 hx hS hw h => by
    refine zqd (E' := E1 dst undef Es) hs hw ?_ fun a w hs => za1 (hN sl1 a w h hx hS hs)
    cases dst with
    | none => exact .drop rfl
    | some t => exact .to rfl (hd t rfl)
  cases g with
  | none => exact yes' sl (fun _ h => h) hS h
  | some p =>
    obtain ⟨j, want⟩ := p
    obtain ⟨gd, h1, h2⟩ := zaa (h : (dstOf ops.toList j).bind _ = some r)
    obtain ⟨v, h3, h4⟩ := zaa h2
    have hgd : (ops[j]?).bind (·.dst) = some gd := by simpa [dstOf] using h1
    obtain ⟨u, e1, e2⟩ := hS gd v h3
    split at h4
    · rename_i q
      have e2 : u = .bool q := e2
      subst e2
      have hS' : SlR f N ((gd, .c (.b q)) :: sl) Es := hS.say e1 rfl
      have hx : ∀ t, lk sl t = none → lk ((gd, .c (.b q)) :: sl) t = none := fun t ht => by
        have hne : gd ≠ t := fun e => by rw [e, ht] at h3; cases h3
        simp only [lk]
        rw [nbeq hne]; exact ht
      cases q with
      | true =>
        cases want with
        | true => exact zln hs hgd e1 (yes' _ hx hS' h4)
        | false => exact no' _ hx hS' (.no rfl hgd e1) h4
      | false =>
        cases want with
        | true => exact no' _ hx hS' (.no rfl hgd e1) h4
        | false => exact zln hs hgd e1 (yes' _ hx hS' h4)
    · have e2 : u = undef := e2
      subst e2
      exact no' _ (fun _ h => h) hS (.un rfl hgd e1) h4
    · cases h4
theorem zg7 {d : Option Tmp} {v : V} {u : Value} {sl : List (Nat × V)} {Es : List (Nat × Value)} (h : SlR f N sl Es) (hv : VR f N v u) : SlR f N (putS d v sl) (E1 d u Es) := by
  cases d with
  | none => exact h
  | some t => exact h.cons hv
theorem rm_SlR {t : Nat} {u : Value} : ∀ {sl : List (Nat × V)} {Es : List (Nat × Value)}, SlR f N sl Es → SlR f N (rm t sl) ((t, u) :: Es) := fun {sl Es} h s v hs => by
  have key : ∀ {sl : List (Nat × V)}, lk (rm t sl) s = if s = t then none else lk sl s := by
    intro sl
    induction sl with
    | nil => simp [rm, lk]
    | cons p sl ih =>
      simp only [rm]
      cases q : Nat.beq p.1 t with
      | true =>
        have := Nat.eq_of_beq_eq_true q
        rw [cond_true, ih]
        by_cases e : s = t
        · rw [if_pos e, if_pos e]
        · rw [if_neg e, if_neg e]
          simp only [lk]
          rw [nbeq (by rw [this]; exact Ne.symm e)]; rfl
      | false =>
        rw [cond_false]
        simp only [lk]
        have hne : p.1 ≠ t := fun e => by rw [e] at q; simp at q
        cases q2 : Nat.beq p.1 s with
        | true =>
          have := Nat.eq_of_beq_eq_true q2
          rw [if_neg (by rw [← this]; exact hne)]; rfl
        | false => exact ih
  rw [key] at hs
  split at hs
  · cases hs
  · rename_i e
    obtain ⟨u', h1, h2⟩ := h s v hs
    exact ⟨u', by simp only [Sl.look]; rw [nbeq (Ne.symm e)]; exact h1, h2⟩
theorem zqb {d : Option Tmp} {v : V} {u : Value} {slL : List (Nat × V)} {Es : List (Nat × Value)} (h : SlR f0 N0 slL Es) (hv : VR f N v u) : SlR f0 N0 (addL d v slL) (E1 d u Es) := by
  cases d with
  | none => exact h
  | some t =>
    simp only [addL]
    cases q : scV v with
    | false => exact rm_SlR h
    | true =>
      refine h.cons ?_
      cases v with
      | c x => cases x <;> first | (cases q; done) | exact hv
      | _ => cases q
theorem zmk {F : (World → Prop) → Prop} {brk : List Nat} {t : PT} {K' : AP} {a : Act} {X : World → Prop} (h : (match t with | .done => false | _ => true) = true) : DT P ops F brk 0 t K' a X := fun _ _ _ _ _ hp => by
  cases t <;> first | (cases h; done) | simp [planN] at hp
def Sp (P : Program) (ops : Array Oper) (f : Fz) (N : Nm) (Es : List (Nat × Value)) (p : List (Nat × Nat)) (x j : Nat) (y : Ob) (e : Ent) : Prop := ∃ t a v ty pos af b o ws tt u by_ z cs c,
  ops[x]? = some ⟨none, .store t a v, ty, pos, af, none⟩ ∧ opv Es a = some (.pointer (some ⟨b, o, none⟩)) ∧ opv Es v = some u ∧ TI P t 1 by_ z ∧ u.oneCell' = true ∧ o < ws.length ∧ e = .blk b (.cells (List.toArray ws) tt (0,0)) ∧
  N j = some (.pointer (some ⟨b,0, none⟩)) ∧ CLR f N cs ws ∧ CR f N c u ∧ y = .bx (cs.set o c) ∧ opnS ops.toList p [a, v] = true
theorem opnS_tl {all : List Oper} {q : Nat × Nat} {p : List (Nat × Nat)} {xs : List Operand} (h : opnS all (q :: p) xs = true) : opnS all p xs = true := by
  unfold opnS at h ⊢
  rw [List.all_cons, Bool.and_eq_true] at h
  exact h.2
theorem zv2 {all : List Oper} {q : Nat × Nat} {p : List (Nat × Nat)} {xs : List Operand} (h : opnS all (q :: p) xs = true) {t : Nat} (ht : dstOf all (pidx q.1) = some t) {x : Operand} (hx : x ∈ xs) : x ≠ .tmp t := by
  unfold opnS at h
  rw [List.all_cons, Bool.and_eq_true, ht] at h
  have := (List.all_eq_true.1 h.1) x hx
  intro e
  rw [e] at this
  simp at this
theorem zt0 {Es : List (Nat × Value)} {d : Option Tmp} {u : Value} {x : Operand} (h : ∀ t, d = some t → x ≠ .tmp t) : opv (E1 d u Es) x = opv Es x := by
  cases d with
  | none => rfl
  | some t =>
    cases x with
    | tmp s => simp only [opv, E1, Sl.look]; rw [nbeq (fun e => h t rfl (by rw [e]))]; rfl
    | _ => rfl
theorem zsa {i : Nat} (h : Nat.blt i 1000 = true) : pidx i = i := by unfold pidx; rw [h]; rfl
theorem pidx_bg {x : Nat} : pidx (x + 1000) = x := by
  unfold pidx
  have : Nat.blt (x + 1000) 1000 = false := by
    cases h : Nat.blt (x + 1000) 1000 with
    | false => rfl
    | true => have := Nat.blt_eq.mp h; omega
  rw [this, cond_false]
  exact Nat.add_sub_cancel x 1000
theorem mem_ins1 {i x z : Nat} : z ∈ ins i [x] → z = i ∨ z = x := by
  simp only [ins]
  cases Nat.blt i x <;> simp <;> intro h <;> rcases h with h | h <;> simp [h]
theorem Sp.next {f f' : Fz} {N N' : Nm} {Es : List (Nat × Value)} {i q : Nat} {p : List (Nat × Nat)} {x j : Nat} {y : Ob} {e : Ent} (h : Sp P ops f N Es ((i, q) :: p) x j y e) (hf : Fz.le f f') (hN : Nm.le N N') (hi : Nat.blt i 1000 = true) {o : Oper} (ho : ops.toList[i]? = some o) {u : Value} : Sp P ops f' N' (E1 o.dst u Es) p x j y e := by
  obtain ⟨t, a, v, ty, pos, af, b, o', ws, tt, u', by_, z, cs, c, h1, h2, h3, h4, h5, h6, h7, h8, h9, h10, h11, h12⟩ := h
  have hd : dstOf ops.toList (pidx i) = o.dst := by rw [zsa hi]; simp [dstOf, ho]
  refine ⟨t, a, v, ty, pos, af, b, o', ws, tt, u', by_, z, cs, c, h1, ?_, ?_, h4, h5, h6, h7, hN _ _ h8, h9.le hf hN, h10.le hf hN, h11, opnS_tl h12⟩
  · rw [zt0 fun t ht => zv2 h12 (hd.trans ht) (by simp)]; exact h2
  · rw [zt0 fun t ht => zv2 h12 (hd.trans ht) (by simp)]; exact h3
def PdOk (P : Program) (ops : Array Oper) (f : Fz) (N : Nm) (Es : List (Nat × Value)) (p : List (Nat × Nat)) (ob : List Ob) (L : List Ent) : Option (Nat × Nat × Ob) → List Nat → List Nat → Prop
  | none, o, d => o = [] ∧ d = []
  | some (x, j, y), o, d => og ob j = some .no ∧ (∃ q ∈ p, q.1 = x + 1000) ∧ ∃ e, L[ob.length - 1 - j]? = some e ∧ ((o = [x] ∧ d = [] ∧ Sp P ops f N Es p x j y e) ∨ (o = [] ∧ d = [x] ∧ OR f N j y e))
theorem zuu (hE : EnvOk P E) (hd : ∀ o ∈ ops.toList, ∀ t, o.dst = some t → t < n) {F : (World → Prop) → Prop} {brk : List Nat} {Es0 : List (Nat × Value)} {k : List (Nat × V) → List Ob → Option α} (hK : EndK r n w0 f0 ops Es0 Lf k Q) :
    ∀ (fl : Nat) {p : List (Nat × Nat)} {pd : Option (Nat × Nat × Ob)} {o d : List Nat} {sl : List (Nat × V)} {ob : List Ob}, runB E ops.toList p pd sl ob k = some r → (∀ q ∈ p, pidx q.1 ∈ brk) → ∀ (m : Nat),2 * p.length + o.length ≤ fl → ∀ (f : Fz) (N : Nm) (Es : List (Nat × Value)) (L : List Ent) (a : Act), PdOk P ops f N Es p ob L pd o d → Ev n Es a → Fz.le f0 f → SlR f N sl Es → OLR f N ob L → Nb N ob → L.drop ob.length = Lf → Lks ops Es0 Es →
    DT P ops F brk m (toPT fl p o d) Q a (Cw w0 f L) := by
  have fin : ∀ {pd : Option (Nat × Nat × Ob)} {sl : List (Nat × V)} {ob : List Ob}, runB E ops.toList [] pd sl ob k = some r → ∀ (m : Nat) (f : Fz) (N : Nm) (Es : List (Nat × Value)) (L : List Ent) (a : Act), Ev n Es a → Fz.le f0 f → SlR f N sl Es → OLR f N ob L → Nb N ob → L.drop ob.length = Lf → Lks ops Es0 Es → DT P ops F brk m .done Q a (Cw w0 f L) := fun {pd sl ob} h m f N Es L a he hf hS hO hn hL hk => by
    cases pd with
    | none => exact zst fun w hw => hK sl ob f N Es L a w h hf hS hO hn hL hk ⟨he, hw⟩
    | some _ => cases h
  intro fl
  induction fl with
  | zero =>
    intro p pd o d sl ob h hb m hfl f N Es L a hp he hf hS hO hn hL hk
    have e : p = [] := List.eq_nil_of_length_eq_zero (by omega)
    subst e
    exact fin h m f N Es L a he hf hS hO hn hL hk
  | succ fl ih =>
    intro p pd o d sl ob h hb m hfl f N Es L a hp he hf hS hO hn hL hk
    -- the pending store is made now
    have now : ∀ {m : Nat} {p' : List (Nat × Nat)} {x j : Nat} {y : Ob} {e : Ent} {T : PT}, Sp P ops f N Es p' x j y e → (x ∈ brk) → L[ob.length - 1 - j]? = some e → og ob j = some .no → (∀ (L' : List Ent) (a' : Act) (e' : Ent), L'[ob.length - 1 - j]? = some e' → OR f N j y e' → Ev n Es a' → OLR f N ob L' → L'.drop ob.length = Lf → DT P ops F brk m T Q a' (Cw w0 f L')) →
        ∃ oo, ops[x]? = some oo ∧ ∀ w, Cw w0 f L w → RL P ops [oo] (DKT P ops F brk x m T Q) a w := fun {m p' x j y e T} hs hx hl hno IH => by
      obtain ⟨t, av, v, ty, pos, af, b, o', ws, tt, u', by_, z, cs, c, h1, h2, h3, h4, h5, h6, rfl, h8, h9, h10, rfl, h12⟩ := hs
      have hlt := zky hno
      have hlen := hO.len
      refine ⟨_, h1, fun w hw => zl5 ⟨he, hw⟩ hl h2 h3 h4 h5 (by simpa using h6) (cs' := (ws.set o' u').toArray) (by simp) (.free rfl) fun a' w' hs' => za1 ⟨_, hs'.cw, .inr hx, IH _ a' (.blk b (.cells (ws.set o' u').toArray tt (0,0))) (by rw [List.getElem?_set_self (by omega)]) ⟨b, _, tt, h8, rfl, h9.set h10⟩ hs'.ev (hO.no (by simp) fun i hi => ?_) ?_⟩⟩
      · by_cases q : i < ob.length
        · exact .inl (by rw [List.getElem?_set_ne (by intro e; exact hi (by rw [show i = j by omega]; exact hno))])
        · exact .inr (by omega)
      · rw [zkc (by omega)]; exact hL
    match p, h, hb, hfl, hp with
    | [], h, hb, hfl, hp => exact fin h m f N Es L a he hf hS hO hn hL hk
    | (i,0) :: p, h, hb, hfl, hp =>
      have hb' : ∀ q ∈ p, pidx q.1 ∈ brk := fun q hq => hb q (by simp [hq])
      cases pd with
      | some _ => cases h
      | none =>
        obtain ⟨rfl, rfl⟩ := hp
        obtain ⟨hi, h⟩ : Nat.blt i 1000 = false ∧ _ = some r := by
          rcases zdv (h : cond _ none _ = some r) with ⟨_, h⟩ | h
          · cases h
          · exact h
        obtain ⟨x, rfl⟩ : ∃ x, i = x + 1000 := ⟨i - 1000, by
          have : ¬ i < 1000 := fun h => by rw [Nat.blt_eq.mpr h] at hi; cases hi
          omega⟩
        have hsub : Nat.sub (x + 1000) 1000 = x := Nat.add_sub_cancel x 1000
        rw [hsub] at h
        unfold stB at h
        split at h
        · rename_i t av v ty pos af hx
          obtain ⟨w1, h2, hw1⟩ := zba h
          obtain ⟨u1, h3, hu1⟩ := zba h2
          obtain ⟨td, h4, h5⟩ := zaa h3
          obtain ⟨dd, z, g1, g2, g3, g4, g5, g6, _⟩ := zhv (hE.T _ _ h4)
          split at h5
          · rename_i j o c
            obtain ⟨hc, h6⟩ := zb0 h5
            simp only [Bool.and_eq_true] at hc
            obtain ⟨⟨⟨⟨hag, hsz⟩, hcu⟩, hop⟩, hany⟩ := hc
            obtain ⟨yy, k1, k2⟩ := zaa h6
            split at k2
            · rename_i cs
              obtain ⟨ko, k3⟩ := zb0 k2
              obtain ⟨u, e1, b, q1, rfl⟩ := hw1 f N Es hS
              obtain ⟨u2, e3, e4⟩ := hu1 f N Es hS
              obtain ⟨hlt, en, q2, b', ws, tt, q3, q4, q5⟩ := hO.get k1
              subst q4
              rw [q1] at q3
              cases q3
              have e4 : CR f N c u2 := e4
              have hs1 := Nat.eq_of_beq_eq_true hsz
              rw [hs1] at g2
              have hlen := hO.len
              simp only [toPT, hi, cond_false, hsub, ins]
              have hit : ∃ q ∈ p, q.1 = x + 1000 := by
                obtain ⟨q, q1, q2⟩ := List.any_eq_true.1 hany
                exact ⟨q, q1, Nat.eq_of_beq_eq_true q2⟩
              refine ih k3 hb' m (by simp only [List.length_cons, List.length_nil] at hfl ⊢; omega) f N Es L a ⟨by rw [zpp (by omega)], hit, _, by rw [zao]; exact q2, .inl ⟨rfl, rfl, t, av, v, ty, pos, af, b, o, ws, tt, u2, _, z, cs, c, by simpa using hx, e1, e3, g2, e4.one (allU (show [c].all isU = true by simpa using hcu) c (by simp)), by have := Nat.blt_eq.mp ko; have := q5.len; omega, rfl, q1, q5, e4, rfl, hop⟩⟩ he hf hS (hO.say fun _ _ => trivial) (hn.len (zao _ _ _)) (by rw [zao]; exact hL) hk
            · cases k2
          · cases h5
        · cases h
    | (i, q + 1) :: p, h, hb, hfl, hp =>
      have hbi : pidx i ∈ brk := hb (i, q + 1) (by simp)
      have hb' : ∀ q ∈ p, pidx q.1 ∈ brk := fun q hq => hb q (by simp [hq])
      have hfl' : 2 * p.length + o.length + 2 ≤ fl + 1 := by simp only [List.length_cons] at hfl; omega
      have hbx : ∀ {x j : Nat} {y : Ob}, pd = some (x, j, y) → x ∈ brk := fun {x j y} e => by
        subst e
        obtain ⟨_, ⟨q, q1, q2⟩, _⟩ := hp
        have := hb q q1
        rw [q2, pidx_bg] at this
        exact this
      rcases zdv (h : cond _ _ _ = some r) with ⟨hi, h'⟩ | ⟨hi, h'⟩
      · simp only [toPT, hi, cond_true]
        cases m with
        | zero => exact zmk rfl
        | succ m =>
        obtain ⟨oo, h1, h2⟩ := zaa h'
        rw [zsa hi] at hbi
        refine zp5 fun z hz => ?_
        cases qz : Nat.beq z i with
        | true =>
          have := Nat.eq_of_beq_eq_true qz
          subst this
          refine ⟨oo, by simpa using h1, fun w hw => ?_⟩
          have nxt : ∀ {f' N' ob' L' u}, Fz.le f f' → Nm.le N N' → (∀ j, og ob j = some .no → og ob' j = some .no ∧ L'[ob'.length - 1 - j]? = L[ob.length - 1 - j]?) → PdOk P ops f' N' (E1 oo.dst u Es) p ob' L' pd o d := fun {f' N' ob' L' u} hf' hN' hfm => by
            cases pd with
            | none => exact hp
            | some pj =>
              obtain ⟨x, j, y⟩ := pj
              obtain ⟨p1, ⟨qq, q1, q2⟩, e, p2, p3⟩ := hp
              obtain ⟨c1, c2⟩ := hfm j p1
              have hit : ∃ q ∈ p, q.1 = x + 1000 := by
                rcases List.mem_cons.1 q1 with rfl | q1
                · have := Nat.blt_eq.mp hi
                  simp only at q2; omega
                · exact ⟨qq, q1, q2⟩
              refine ⟨c1, hit, e, c2.trans p2, ?_⟩
              rcases p3 with ⟨g1, g2, g3⟩ | ⟨g1, g2, g3⟩
              · exact .inl ⟨g1, g2, g3.next hf' hN' hi h1⟩
              · exact .inr ⟨g1, g2, g3.le hf' hN'⟩
          refine zvr hE h1 (hd oo (List.mem_of_getElem? h1)) h2 hS hO hn ⟨he, hw⟩ (fun sl1 v ob' f' N' u L' a' w' k1 kx k2 k3 k4 k5 k6 k7 k8 k9 => ?_) (fun sl1 a' w' k1 kx k2 k3 => ?_)
          · exact ⟨Cw w0 f' L', k9.cw, .inr hbi, by simp only [cond_true]; exact ih k1 hb' m (by omega) f' N' (E1 oo.dst u Es) L' a' (nxt k3 k4 k8.1) k9.ev (hf.trans k3) (zg7 (k2.le k3 k4) k7) k6 k5 (k8.2.trans hL) (hk.put h1)⟩
          · exact ⟨Cw w0 f L, k3.cw, .inr hbi, by simp only [cond_true]; exact ih k1 hb' m (by omega) f N (E1 oo.dst undef Es) L a' (nxt (.refl f) (.refl N) fun j hj => ⟨hj, rfl⟩) k3.ev hf (zg7 k2 rfl) hO hn hL (hk.put h1)⟩
        | false =>
          simp only [cond_false]
          cases pd with
          | none =>
            obtain ⟨rfl, rfl⟩ := hp
            simp only [ins, List.mem_singleton] at hz
            rw [hz] at qz
            simp at qz
          | some pj =>
            obtain ⟨x, j, y⟩ := pj
            have hx := hbx rfl
            obtain ⟨p1, p1', e, p2, p3⟩ := hp
            rcases p3 with ⟨rfl, rfl, g3⟩ | ⟨rfl, rfl, g3⟩
            · have hzx : z = x := by
                rcases mem_ins1 hz with hz | hz
                · rw [hz] at qz; simp at qz
                · exact hz
              subst hzx
              have ed : del z [z] = [] := by simp [del]
              rw [ed]
              exact now g3 hx p2 p1 fun L' a' e' c1 c2 c3 c4 c5 => ih h hb m (by simp only [List.length_cons, List.length_nil] at hfl ⊢; omega) f N Es L' a' ⟨p1, p1', e', c1, .inr ⟨rfl, rfl, c2⟩⟩ c3 hf hS c4 hn c5 hk
            · simp only [ins, List.mem_singleton] at hz
              rw [hz] at qz
              simp at qz
      · obtain ⟨x, rfl⟩ : ∃ x, i = x + 1000 := ⟨i - 1000, by
          have : ¬ i < 1000 := fun h => by rw [Nat.blt_eq.mpr h] at hi; cases hi
          omega⟩
        have hsub : Nat.sub (x + 1000) 1000 = x := Nat.add_sub_cancel x 1000
        rw [hsub] at h'
        cases pd with
        | none => cases h'
        | some pj =>
          obtain ⟨x', j, y⟩ := pj
          obtain ⟨hxx, h2'⟩ := zb0 (h' : cond _ _ none = some r)
          have hxx := Nat.eq_of_beq_eq_true hxx
          subst hxx
          have hx := hbx rfl
          simp only [toPT, hi, cond_false, hsub]
          obtain ⟨p1, p1', e, p2, p3⟩ := hp
          have done : ∀ {m : Nat} {L' : List Ent} {a' : Act} {e' : Ent}, L'[ob.length - 1 - j]? = some e' → OR f N j y e' → Ev n Es a' → OLR f N ob L' → L'.drop ob.length = Lf → DT P ops F brk m (toPT fl p [] []) Q a' (Cw w0 f L') := fun {m L' a' e'} c1 c2 c3 c4 c5 =>
            ih h2' hb' m (by simp only [List.length_nil] at hfl' ⊢; omega) f N Es L' a' ⟨rfl, rfl⟩ c3 hf hS (c4.say fun e he => by rw [c1] at he; cases he; exact c2) (hn.len (zao _ _ _)) (by rw [zao]; exact c5) hk
          rcases p3 with ⟨rfl, rfl, g3⟩ | ⟨rfl, rfl, g3⟩
          · have em : memN [] x = false := rfl
            rw [em, cond_false]
            cases m with
            | zero => exact zmk rfl
            | succ m =>
            refine zp5 fun z hz => ?_
            simp only [List.mem_singleton] at hz
            subst hz
            have ez : Nat.beq z z = true := by simp
            have ed : del z [z] = [] := by simp [del]
            rw [ez, cond_true, ed]
            exact now g3 hx p2 p1 fun L' a' e' c1 c2 c3 c4 c5 => done c1 c2 c3 c4 c5
          · have em : memN [x] x = true := by simp [memN]
            have ed : del x [x] = [] := by simp [del]
            rw [em, cond_true, ed]
            exact done p2 g3 he hO hL
theorem exOp_ok {α : Type} {r : α} {P : Program} {o : Op} {sl : List (Nat × V)} {K : V → Option α} (h : exOp o sl K = some r) : ∃ v, K v = some r ∧ ∀ f N Es, SlR f N sl Es → ∃ u, VR f N v u ∧ ∀ (C : World → Prop) n d ty pos af g, Y P C n Es ⟨d, o, ty, pos, af, g⟩ u := by
  unfold exOp at h
  split at h
  · rename_i t i
    obtain ⟨v, h1, h⟩ := zaa h
    split at h
    · rename_i l
      obtain ⟨y, h2, h3⟩ := zaa h
      have key : ∀ v', (∀ f N u, UR f N y u → VR f N v' u) → ∀ f N Es, SlR f N sl Es → ∃ u, VR f N v' u ∧ ∀ (C : World → Prop) n d ty pos af g, Y P C n Es ⟨d, .extract (.tmp t) i, ty, pos, af, g⟩ u := fun v' hv f N E hS => by
        obtain ⟨u, e1, vs, rfl, e2⟩ := hS t _ h1
        obtain ⟨u', k1, k2⟩ := zul e2 h2
        exact ⟨u', hv f N u' k2, fun C n d ty pos af g => zan e1 k1⟩
      cases y with
      | c z => exact ⟨_, h3, key _ fun f N u hu => hu⟩
      | a z => exact ⟨_, h3, key _ fun f N u hu => hu⟩
    · cases h
  · cases h
def Bs (P : Program) (ops : Array Oper) (n : Nat) (Es : List (Nat × Value)) (x dd : Nat) (e : TypeId) (k : Nat) (rows : List (List Value)) (ps : List (Nat × Operand)) : Prop :=
  ∃ t len ty pos af by_ z vs, ops[x]? = some ⟨some dd, .buildSlice t len ps.toArray, ty, pos, af, none⟩ ∧ dd < n ∧ P.underlying t = some (.slice e) ∧ TI P e k by_ z ∧ (ps.mapM fun p => (opv Es p.2).map fun v => (p.1, v)) = some vs ∧ rows.length = len ∧ (∀ r ∈ rows, OneRow k r) ∧
    ((len = 0 ∧ ps = []) ∨ (0 < k ∧ 0 < len ∧ len * k ≤ 16777216 ∧ (Instr.fill (fun i => some (i * k, k)) ((Array.range (len * k)).map (z.cells[· % z.cells.size]!)) vs).map (·.toList) = some rows.flatten))
def Fre (ops : Array Oper) (p : List (Nat × Nat)) (x dd : Nat) (ps : List (Nat × Operand)) (slL sl : List (Nat × V)) : Prop :=
  lk sl dd = none ∧ lk slL dd = none ∧ (∀ q ∈ p, q.1 ≠ x + 1000 → ∀ t, dstOf ops.toList (pidx q.1) = some t → t ≠ dd ∧ ∀ y ∈ ps, y.2 ≠ .tmp t) ∧ ∀ y ∈ ps, y.2 ≠ .tmp dd
theorem opv_put {Es : List (Nat × Value)} {d : Option Tmp} {u : Value} {x : Operand} (h : ∀ t, d = some t → x ≠ .tmp t) : opv (E1 d u Es) x = opv Es x := by
  cases d with
  | none => rfl
  | some t =>
    cases x with
    | tmp s => simp only [opv, E1, Sl.look]; rw [nbeq (fun e => h t rfl (by rw [e]))]; rfl
    | _ => rfl
theorem Bs.put {Es : List (Nat × Value)} {x dd : Nat} {e : TypeId} {k : Nat} {rows : List (List Value)} {ps : List (Nat × Operand)} (h : Bs P ops n Es x dd e k rows ps) {d : Option Tmp} {u : Value} (hd : ∀ t, d = some t → ∀ y ∈ ps, y.2 ≠ .tmp t) : Bs P ops n (E1 d u Es) x dd e k rows ps := by
  obtain ⟨t, len, ty, pos, af, by_, z, vs, h1, h2, h3, h4, h5, h6⟩ := h
  refine ⟨t, len, ty, pos, af, by_, z, vs, h1, h2, h3, h4, ?_, h6⟩
  rw [← h5]
  have key : ∀ l : List (Nat × Operand),(∀ y ∈ l, y ∈ ps) → (l.mapM fun p => (opv (E1 d u Es) p.2).map fun v => (p.1, v)) = l.mapM fun p => (opv Es p.2).map fun v => (p.1, v) := by
    intro l
    induction l with
    | nil => intro _; rfl
    | cons y l ih =>
      intro hl
      rw [List.mapM_cons, List.mapM_cons, ih fun y hy => hl y (by simp [hy]), opv_put fun t ht => hd t ht y (hl y (by simp))]
  exact key ps fun _ h => h
theorem Fre.tl {q : Nat × Nat} {p : List (Nat × Nat)} {x dd : Nat} {ps : List (Nat × Operand)} {slL sl slL' sl' : List (Nat × V)} (h : Fre ops (q :: p) x dd ps slL sl) (h1 : lk sl' dd = none) (h2 : lk slL' dd = none) : Fre ops p x dd ps slL' sl' := ⟨h1, h2, fun y hy => h.2.2.1 y (by simp [hy]), h.2.2.2⟩
theorem zl0 {d : Option Tmp} {v : V} {sl : List (Nat × V)} {t : Nat} (h : lk sl t = none) (hd : d ≠ some t) : lk (putS d v sl) t = none := by
  cases d with
  | none => exact h
  | some s => simp only [putS, lk]; rw [nbeq (fun e => hd (by rw [e]))]; exact h
theorem lk_rm {s t : Nat} : ∀ {sl : List (Nat × V)}, lk sl t = none → lk (rm s sl) t = none
  | [], h => h
  | p :: sl, h => by
    simp only [lk] at h
    cases q : Nat.beq p.1 t with
    | true => rw [q] at h; cases h
    | false =>
      rw [q] at h
      simp only [rm]
      cases Nat.beq p.1 s with
      | true => exact lk_rm h
      | false => simp only [cond_false, lk, q]; exact lk_rm h
theorem zsd {d : Option Tmp} {v : V} {sl : List (Nat × V)} {t : Nat} (h : lk sl t = none) (hd : d ≠ some t) : lk (addL d v sl) t = none := by
  cases d with
  | none => exact h
  | some s =>
    simp only [addL]
    cases scV v with
    | true => simp only [cond_true, lk]; rw [nbeq (fun e => hd (by rw [e]))]; exact h
    | false => exact lk_rm h
theorem zsc {s t : Nat} {v : V} {sl : List (Nat × V)} (h : lk sl t = none) (hs : s ≠ t) : lk ((s, v) :: sl) t = none := by
  simp only [lk]; rw [nbeq hs]; exact h
theorem zn4 {l : List Nat} {x : Nat} : memN l x = true ↔ x ∈ l := by
  unfold memN
  rw [List.any_eq_true]
  constructor
  · rintro ⟨y, h1, h2⟩
    have := Nat.eq_of_beq_eq_true h2
    subst this; exact h1
  · exact fun h => ⟨x, h, by simp⟩
theorem zi8 {i x : Nat} : ∀ {l : List Nat}, x ∈ ins i l ↔ x = i ∨ x ∈ l
  | [] => by simp [ins]
  | j :: l => by
    simp only [ins]
    cases Nat.blt i j with
    | true => simp
    | false => simp only [cond_false, List.mem_cons, zi8 (l := l)]; exact ⟨fun h => by rcases h with h | h | h <;> simp [h], fun h => by rcases h with h | h | h <;> simp [h]⟩
theorem zvg {i : Nat} : ∀ {l : List Nat}, (ins i l).length = l.length + 1
  | [] => rfl
  | j :: l => by
    simp only [ins]
    cases Nat.blt i j with
    | true => rfl
    | false => simp [zvg (l := l)]
theorem zfe {i x : Nat} : ∀ {l : List Nat}, x ∈ del i l ↔ x ∈ l ∧ x ≠ i
  | [] => by simp [del]
  | j :: l => by
    simp only [del]
    cases q : Nat.beq j i with
    | true =>
      have := Nat.eq_of_beq_eq_true q
      subst this
      simp only [cond_true, zfe (l := l), List.mem_cons]
      exact ⟨fun ⟨h1, h2⟩ => ⟨.inr h1, h2⟩, fun ⟨h1, h2⟩ => ⟨h1.resolve_left h2, h2⟩⟩
    | false =>
      have hne : j ≠ i := fun e => by rw [e] at q; simp at q
      simp only [cond_false, List.mem_cons, zfe (l := l)]
      constructor
      · rintro (rfl | ⟨h1, h2⟩)
        · exact ⟨.inl rfl, hne⟩
        · exact ⟨.inr h1, h2⟩
      · rintro ⟨rfl | h1, h2⟩
        · exact .inl rfl
        · exact .inr ⟨h1, h2⟩
theorem zvt {i : Nat} : ∀ {l : List Nat}, (del i l).length ≤ l.length ∧ (i ∈ l → (del i l).length + 1 ≤ l.length)
  | [] => ⟨Nat.le_refl _, by simp⟩
  | j :: l => by
    obtain ⟨h1, h2⟩ := zvt (i := i) (l := l)
    simp only [del]
    cases q : Nat.beq j i with
    | true => exact ⟨by simp; omega, fun _ => by simp; omega⟩
    | false =>
      have hne : j ≠ i := fun e => by rw [e] at q; simp at q
      refine ⟨by simpa using h1, fun h => ?_⟩
      rcases List.mem_cons.1 h with h | h
      · exact absurd h.symm hne
      · simpa using h2 h
theorem zrh {i : Nat} : ∀ {l : List Nat}, l.Nodup → (del i l).Nodup ∧ l.length ≤ (del i l).length + 1
  | [], _ => ⟨List.nodup_nil, by simp⟩
  | j :: l, h => by
    rw [List.nodup_cons] at h
    obtain ⟨h1, h2⟩ := zrh (i := i) h.2
    simp only [del]
    cases q : Nat.beq j i with
    | true =>
      have := Nat.eq_of_beq_eq_true q
      subst this
      have e : del j l = l := by
        have key : ∀ l : List Nat, j ∉ l → del j l = l := by
          intro l
          induction l with
          | nil => intro _; rfl
          | cons y l ih =>
            intro hy
            simp only [List.mem_cons, not_or] at hy
            simp only [del]
            rw [nbeq (Ne.symm hy.1), cond_false, ih hy.2]
        exact key l h.1
      rw [cond_true, e]
      exact ⟨h.2, by simp⟩
    | false =>
      rw [cond_false, List.nodup_cons]
      exact ⟨⟨fun hm => h.1 (zfe.1 hm).1, h1⟩, by simpa using h2⟩
theorem zvk : ∀ {cs : List C} {K : List C → List Ob → Option α}, frz [] cs K = some r → ∃ cs', K cs' [] = some r ∧ ∀ (f : Fz) (N : Nm) vs, CLR f N cs vs → CLR f N cs' vs
  | [], K, h => ⟨[], h, fun f N vs h => h⟩
  | c :: cs, K, h => by
    simp only [frz] at h
    have plain : frz [] cs (fun r ob => K (c :: r) ob) = some r → ∃ cs', K cs' [] = some r ∧ ∀ (f : Fz) (N : Nm) vs, CLR f N (c :: cs) vs → CLR f N cs' vs := fun h => by
      obtain ⟨cs', h1, H⟩ := zvk h
      refine ⟨c :: cs', h1, fun f N vs hv => ?_⟩
      match vs, hv with
      | v :: vs, ⟨k1, k2⟩ => exact ⟨k1, H f N vs k2⟩
    split at h
    · obtain ⟨y, h1, _⟩ := zaa h
      cases h1
    · obtain ⟨y, h1, _⟩ := zaa h
      cases h1
    · exact plain h
theorem zsw {te : TC} {z : te.T} {sl : List (Nat × V)} : ∀ {ps : List (Nat × Operand)} {xs : List te.T} {K : List te.T → List Ob → Option α}, rows te z sl ps xs [] K = some r → ∃ xs', K xs' [] = some r ∧ xs'.length = xs.length ∧ ∀ (f : Fz) (N : Nm) (E : List (Nat × Value)), SlR f N sl E →
    ∃ vs,(ps.mapM fun p => (opv E p.2).map fun v => (p.1, v)) = some vs ∧
      ∀ (rs : List (List Value)), RW te.ty f rs xs → 0 < te.k → (∀ r ∈ rs, OneRow te.k r) → ∃ rs' : List (List Value),(Instr.fill (fun i => some (i * te.k, te.k)) rs.flatten.toArray vs).map (·.toList) = some rs'.flatten ∧ rs'.length = rs.length ∧ RW te.ty f rs' xs' ∧ ∀ r ∈ rs', OneRow te.k r
  | [], xs, K, h => ⟨xs, h, rfl, fun f N E hS => ⟨[], rfl, fun rs hR h0 h1 => ⟨rs, rfl, rfl, hR, h1⟩⟩⟩
  | (i, x) :: ps, xs, K, h => by
    obtain ⟨v, h1, hx⟩ := zba (h : opd sl x _ = some r)
    obtain ⟨hi, h1⟩ := zb0 h1
    have hi : i < xs.length := Nat.blt_eq.mp hi
    obtain ⟨cs, h2, hc⟩ := zm1 h1
    obtain ⟨hu, h2⟩ := zb0 h2
    obtain ⟨cs1, h3, hv⟩ := zvk h2
    obtain ⟨y, h4, _, hy⟩ := TC.mkA_inv h3
    obtain ⟨xs', h5, hl, H⟩ := zsw h4
    refine ⟨xs', h5, by rw [hl]; simp, fun f N E hS => ?_⟩
    obtain ⟨u, e1, e2⟩ := hx f N E hS
    obtain ⟨vs, e3, H2⟩ := H f N E hS
    refine ⟨(i, u) :: vs, by simp [List.mapM_cons, e1, e3], fun rs hR h0 h1 => ?_⟩
    have hcs : CLR f N cs u.cells.toList := by
      rcases hc with ⟨_, rfl⟩ | ⟨_, y, rfl, rfl⟩
      · obtain ⟨vs, rfl, h⟩ := e2
        exact h
      · have := CR.one (f := f) (N := N) e2 (allU hu y (by simp))
        have e : u.cells = #[u] := by cases u <;> first | rfl | simp [Value.oneCell'] at this
        rw [e]
        exact ⟨e2, trivial⟩
    have hrow := hy f N _ (hv f N _ hcs)
    have hone := te.oneR hrow
    have hsz : u.cells.size = te.k := by simpa using hone.1
    have hlr := hR.len
    have hlen : ∀ r ∈ rs, r.length = te.k := fun r hr => (h1 r hr).1
    have hfl := zbg hlen
    have hle : i * te.k + te.k ≤ rs.length * te.k := by
      have := Nat.mul_le_mul_right te.k (show i + 1 ≤ rs.length by omega)
      rw [Nat.succ_mul] at this; exact this
    obtain ⟨r0, hr0⟩ : ∃ r0, rs[i]? = some r0 := ⟨rs[i], by simp [hlr, hi]⟩
    have hset := zis (k := te.k) hlen hr0 hone.1
    obtain ⟨rs', k1, k2, k3, k4⟩ := H2 (rs.set i u.cells.toList) (hR.set hrow) h0 (fun r hr => by
      rcases List.mem_or_eq_of_mem_set hr with hr | rfl
      · exact h1 r hr
      · exact hone)
    refine ⟨rs', ?_, by rw [k2]; simp, k3, k4⟩
    rw [zpx (place := fun i => some (i * te.k, te.k)) (off := i * te.k) (by rw [hsz]) (by simp only [List.size_toArray]; rw [hfl, hsz]; exact hle), ← k1, hset, hsz]
theorem bs_open (hE : EnvOk P E) {x : Nat} {t : TypeId} {len : Nat} {ps : Array (Nat × Operand)} {dd : Nat} {ty : TypeId} {pos : String} {af : Array Edge} (hx : ops[x]? = some ⟨some dd, .buildSlice t len ps, ty, pos, af, none⟩) (hdd : dd < n) {sl : List (Nat × V)} {K' : V → List Ob → Option α}
    (h : op1 E (.buildSlice t len ps) (some dd) sl [] K' = some r) : ∃ (e : TypeId) (te : TC) (xs : List te.T), K' (.c (.os 0)) [.ow e te xs] = some r ∧ ∀ (f : Fz) (N : Nm) (Es : List (Nat × Value)), SlR f N sl Es →
      ∃ rows, Bs P ops n Es x dd e te.k rows ps.toList ∧ (∀ dd2 e2 k2 rows2 ps2, Bs P ops n Es x dd2 e2 k2 rows2 ps2 → dd2 = dd ∧ e2 = e ∧ k2 = te.k ∧ ps2 = ps.toList ∧ rows2 = rows) ∧ RW te.ty f rows xs := by
  obtain ⟨e, te, td, z, h2, g1, g1', g2, g3, g4, g5, g6, g7⟩ := zjz hE (h : elemT E t _ = some r)
  obtain ⟨zx, h3, hzl, hz⟩ := TC.mkA_inv h2
  have hps : ps = ps.toList.toArray := by simp
  have uniq : ∀ {k : Nat} {A B : List (List Value)}, (∀ r ∈ A, OneRow k r) → (∀ r ∈ B, OneRow k r) → A.length = B.length → A.flatten = B.flatten → A = B := by
    intro k A
    induction A with
    | nil => intro B _ _ hl _; exact (List.eq_nil_of_length_eq_zero (by simpa using hl.symm)).symm
    | cons a A ih =>
      intro B hA hB hl hf
      cases B with
      | nil => simp at hl
      | cons b B =>
        simp only [List.flatten_cons] at hf
        obtain ⟨q1, q2⟩ := List.append_inj hf (by rw [(hA a (by simp)).1,(hB b (by simp)).1])
        rw [q1, ih (fun r hr => hA r (by simp [hr])) (fun r hr => hB r (by simp [hr])) (by simpa using hl) q2]
  have same : ∀ {Es : List (Nat × Value)} {dd2 e2 k2 : Nat} {rows2 : List (List Value)} {ps2 : List (Nat × Operand)}, Bs P ops n Es x dd2 e2 k2 rows2 ps2 → dd2 = dd ∧ e2 = e ∧ k2 = te.c.k ∧ ps2 = ps.toList ∧ rows2.length = len ∧ (∀ r ∈ rows2, OneRow te.c.k r) ∧
      ((len = 0 ∧ ps2 = []) ∨ ∀ vs,(ps.toList.mapM fun p => (opv Es p.2).map fun v => (p.1, v)) = some vs → (Instr.fill (fun i => some (i * te.c.k, te.c.k)) ((Array.range (len * te.c.k)).map (z.cells[· % z.cells.size]!)) vs).map (·.toList) = some rows2.flatten) := by
    rintro Es dd2 e2 k2 rows2 ps2 ⟨t', len', ty', pos', af', by_', z', vs', q1, _, q3, q4, q5, q2, q6, q7⟩
    rw [hx] at q1
    have q8 : dd = dd2 ∧ t = t' ∧ len = len' ∧ ps = ps2.toArray := by
      simp only [Option.some.injEq, Oper.mk.injEq, Op.buildSlice.injEq] at q1
      exact ⟨q1.1, q1.2.1.1, q1.2.1.2.1, q1.2.1.2.2⟩
    obtain ⟨rfl, rfl, rfl, rfl⟩ := q8
    rw [g1] at q3
    cases q3
    obtain ⟨i1, a1, a2, a3⟩ := id q4
    obtain ⟨i2, b1, b2, b3⟩ := id g2
    rw [a1] at b1
    cases b1
    rw [a2] at b2
    cases b2
    have hk : k2 = te.c.k := by
      first
      | exact a3.symm.trans b3
      | exact a3.1.symm.trans b3.1
      | omega
    subst hk
    refine ⟨rfl, rfl, rfl, by simp, q2, q6, ?_⟩
    rcases q7 with q7 | ⟨_, _, _, q7⟩
    · exact .inl q7
    · exact .inr fun vs hv => by
        simp only at hv
        rw [q5] at hv
        cases hv
        exact q7
  rcases zdv h3 with ⟨h0, h3⟩ | ⟨_, h3⟩
  · have h0 := Nat.eq_of_beq_eq_true h0
    subst h0
    split at h3
    · rename_i hp
      refine ⟨e, te.c,[], h3, fun f N Es hS => ⟨[], ?_, ?_, trivial⟩⟩
      · exact ⟨t,0, ty, pos, af, te.by_, z,[], by rw [← hps]; exact hx, hdd, g1, g2, by rw [hp]; rfl, rfl, by simp, .inl ⟨rfl, hp⟩⟩
      · intro dd2 e2 k2 rows2 ps2 hB
        obtain ⟨c1, c2, c3, c4, c5, _⟩ := same hB
        exact ⟨c1, c2, c3, c4, List.eq_nil_of_length_eq_zero c5⟩
    · cases h3
  · obtain ⟨hl, h3⟩ := zb0 h3
    simp only [Bool.and_eq_true] at hl
    have hl0 : 0 < len := Nat.blt_eq.mp hl.1
    have hl1 : len * te.c.k ≤ 16777216 := Nat.le_of_ble_eq_true hl.2
    obtain ⟨xs, h4, hxl, H⟩ := zsw h3
    refine ⟨e, te.c, xs, h4, fun f N Es hS => ?_⟩
    obtain ⟨vs, e3, HR⟩ := H f N Es hS
    have hzR : te.c.R f z.cells.toList zx := hz f N _ (g5 f N)
    have hz1 := te.c.oneR hzR
    obtain ⟨rs', k1, k2, k3, k4⟩ := HR (List.replicate len z.cells.toList) (RW.rep (t := te.c.ty) hzR len) g3 (fun r hr => by rw [List.eq_of_mem_replicate hr]; exact hz1)
    have hf : (Instr.fill (fun i => some (i * te.c.k, te.c.k)) ((Array.range (len * te.c.k)).map (z.cells[· % z.cells.size]!)) vs).map (·.toList) = some rs'.flatten := by
      have := zrowF hz1.1 g3 len
      simp only [Array.toArray_toList] at this
      rw [this]
      exact k1
    have hrl : rs'.length = len := by rw [k2]; simp
    refine ⟨rs', ⟨t, len, ty, pos, af, te.by_, z, vs, by rw [← hps]; exact hx, hdd, g1, g2, e3, hrl, k4, .inr ⟨g3, hl0, hl1, hf⟩⟩, ?_, k3⟩
    intro dd2 e2 k2' rows2 ps2 hB
    obtain ⟨c1, c2, c3, c4, c5, c6, c7⟩ := same hB
    refine ⟨c1, c2, c3, c4, ?_⟩
    rcases c7 with ⟨c7, _⟩ | c7
    · omega
    · have := c7 vs e3
      rw [hf] at this
      exact uniq c6 k4 (by omega) (Option.some.inj this).symm
theorem bs_run {Es : List (Nat × Value)} {x dd : Nat} {e : TypeId} {k : Nat} {rows : List (List Value)} {ps : List (Nat × Operand)} (h : Bs P ops n Es x dd e k rows ps) : ∃ o, ops[x]? = some o ∧ o.dst = some dd ∧ ∀ {f : Fz} {L : List Ent} {K' : AP} {a : Act} {w : World}, St n w0 f L Es a w → (∀ v a' w', St n w0 f (.row v e k rows :: L) ((dd, v) :: Es) a' w' → K' a' w') → RL P ops [o] K' a w := by
  obtain ⟨t, len, ty, pos, af, by_, z, vs, h1, h2, h3, h4, h5, h6, h7, h8⟩ := h
  refine ⟨_, h1, rfl, fun {f L K' a w} hs hK => ?_⟩
  rcases h8 with ⟨rfl, rfl⟩ | ⟨g3, hl0, hl1, hf⟩
  · have hr : rows = [] := List.eq_nil_of_length_eq_zero h6
    subst hr
    exact ztp hs h3 h4 (fun v a w hs => za1 (hK v a w hs)) h2
  · exact zhf hs h5 h3 h4 ⟨g3, hl0, hl1⟩ hf h6 h7 (.free rfl) h2 fun v a w hs => za1 (hK v a w hs)
inductive Sh where
  | row (e : TypeId) (k : Nat) (rows : List (List Value))
  | blk (z : Array Value) (t : TypeId)
def Sh.ent : Sh → Value → Ent
  | .row e k rows, v => .row v e k rows
  | .blk z t, .pointer (some ⟨b,0, none⟩) => .blk b (.cells z t)
  | .blk _ _, _ => ph
def Sh.ok : Sh → Value → Prop
  | .row _ _ _, _ => True
  | .blk _ _, v => ∃ b, v = .pointer (some ⟨b,0, none⟩)
def Bn (P : Program) (ops : Array Oper) (n : Nat) (Es : List (Nat × Value)) (x dd : Nat) (s : Sh) (ps : List (Nat × Operand)) : Prop := match s with
  | .row e k rows => Bs P ops n Es x dd e k rows ps
  | .blk z t => ps = [] ∧ dd < n ∧ ∃ ty pos af k by_ zv, ops[x]? = some ⟨some dd, .alloc t, ty, pos, af, none⟩ ∧ TI P t k by_ zv ∧ z = zv.cells
theorem Bn.put {Es : List (Nat × Value)} {x dd : Nat} {s : Sh} {ps : List (Nat × Operand)} (h : Bn P ops n Es x dd s ps) {d : Option Tmp} {u : Value} (hd : ∀ t, d = some t → ∀ y ∈ ps, y.2 ≠ .tmp t) : Bn P ops n (E1 d u Es) x dd s ps := by
  cases s with
  | row e k rows => exact Bs.put h hd
  | blk z t => exact h
theorem zw5 {Es : List (Nat × Value)} {x dd : Nat} {s : Sh} {ps : List (Nat × Operand)} (h : Bn P ops n Es x dd s ps) : ∃ o, ops[x]? = some o ∧ o.dst = some dd ∧ ∀ {f : Fz} {L : List Ent} {K' : AP} {a : Act} {w : World}, St n w0 f L Es a w → (∀ v a' w', s.ok v → v.oneCell' = true → St n w0 f (s.ent v :: L) ((dd, v) :: Es) a' w' → K' a' w') → RL P ops [o] K' a w := by
  cases s with
  | row e k rows =>
    obtain ⟨o, h1, h2, H⟩ := bs_run (w0 := w0) h
    exact ⟨o, h1, h2, fun hs hK => H hs fun v a' w' hs' => hK v a' w' trivial (St.one hs' (i := 0) rfl) hs'⟩
  | blk z t =>
    obtain ⟨_, hd, ty, pos, af, k, by_, zv, h1, h2, rfl⟩ := h
    exact ⟨_, h1, rfl, fun hs hK => zd3 hs h2 (.free rfl) hd fun b a w hs' => za1 (hK _ a w ⟨b, rfl⟩ rfl hs')⟩
theorem bn_at {Es : List (Nat × Value)} {x dd : Nat} {s : Sh} {ps : List (Nat × Operand)} (h : Bn P ops n Es x dd s ps) : dd < n ∧ ∃ op ty pos af, ops[x]? = some ⟨some dd, op, ty, pos, af, none⟩ ∧ erO op = some ps := by
  cases s with
  | row e k rows =>
    obtain ⟨t, len, ty, pos, af, by_, z, vs, h1, h2, _⟩ := h
    exact ⟨h2, _, ty, pos, af, h1, by simp [erO]⟩
  | blk z t =>
    obtain ⟨rfl, hd, ty, pos, af, k, by_, zv, h1, h2, _⟩ := h
    exact ⟨hd, _, ty, pos, af, h1, rfl⟩
theorem zw6 (hE : EnvOk P E) {x : Nat} {op : Op} {dd : Nat} {ty : TypeId} {pos : String} {af : Array Edge} {ps : List (Nat × Operand)} (hx : ops[x]? = some ⟨some dd, op, ty, pos, af, none⟩) (hp : erO op = some ps) (hdd : dd < n) {sl : List (Nat × V)} {K' : V → List Ob → Option α}
    (h : op1 E op (some dd) sl [] K' = some r) : ∃ vv y, K' vv [y] = some r ∧ (vv = .c (.os 0) ∨ vv = .c (.bp 0 0)) ∧ ∀ (f : Fz) (N : Nm) (Es : List (Nat × Value)), SlR f N sl Es →
      ∃ s, Bn P ops n Es x dd s ps ∧ (∀ dd2 s2 ps2, Bn P ops n Es x dd2 s2 ps2 → dd2 = dd ∧ s2 = s ∧ ps2 = ps) ∧ ∀ (v : Value) (M : Nm) (j : Nat), s.ok v → v.oneCell' = true → M j = some v → OR f M j y (s.ent v) ∧ VR f M (reV j vv) v := by
  unfold erO at hp
  split at hp
  · rename_i t len pa
    have hp := Option.some.inj hp
    subst hp
    obtain ⟨e, te, xs, h1, H⟩ := bs_open hE hx hdd h
    refine ⟨_, _, h1, .inl rfl, fun f N Es hS => ?_⟩
    obtain ⟨rows, hB, hun, hW⟩ := H f N Es hS
    refine ⟨.row e te.k rows, hB, fun dd2 s2 ps2 h2 => ?_, fun v M j _ h1 hM => ⟨⟨v, rows, hM, rfl, hW⟩, hM, h1⟩⟩
    cases s2 with
    | row e2 k2 rows2 =>
      obtain ⟨rfl, rfl, rfl, rfl, rfl⟩ := hun _ _ _ _ _ h2
      exact ⟨rfl, rfl, rfl⟩
    | blk z t2 =>
      obtain ⟨_, _, _, _, _, _, _, _, q, _⟩ := h2
      rw [hx] at q
      cases q
  · rename_i t
    have hp := Option.some.inj hp
    subst hp
    obtain ⟨td, h2, h3⟩ := zaa (show (E.T t).bind (fun td => K' (.c (.bp 0 0)) [.bx td.z]) = some r from h)
    obtain ⟨d, z, g1, g2, g3, g4, g5, g6, _⟩ := zhv (hE.T _ _ h2)
    refine ⟨_, _, h3, .inr rfl, fun f N Es hS => ⟨.blk z.cells t, ⟨rfl, hdd, ty, pos, af, _, _, z, hx, g2, rfl⟩, fun dd2 s2 ps2 h2 => ?_, ?_⟩⟩
    · cases s2 with
      | row e2 k2 rows2 =>
        obtain ⟨_, _, _, _, _, _, _, _, q, _⟩ := h2
        rw [hx] at q
        cases q
      | blk z2 t2 =>
        obtain ⟨rfl, _, _, _, _, _, _, zv, q, q2, rfl⟩ := h2
        rw [hx] at q
        cases q
        obtain ⟨i1, a1, a2, _⟩ := q2
        obtain ⟨i2, b1, b2, _⟩ := g2
        rw [a1] at b1
        cases b1
        rw [a2] at b2
        cases b2
        exact ⟨rfl, rfl, rfl⟩
    · rintro v M j ⟨b, rfl⟩ _ hM
      exact ⟨⟨b, z.cells.toList, t, hM, by simp [Sh.ent], g5 f M⟩, b, hM, rfl⟩
  · cases hp
structure RSt (P : Program) (E : Env) (n : Nat) (w0 : World) (f0 : Fz) (N0 : Nm) (ops : Array Oper) (K : List Nat) (ob0 : List Ob) (L0 Lf : List Ent) (Es0 : List (Nat × Value)) (p : List (Nat × Nat)) (op o d : List Nat) (slL sl : List (Nat × V)) (ob : List Ob) (f : Fz) (N : Nm) (Es : List (Nat × Value)) (L : List Ent) (a : Act) (J : Nat → Nat) : Prop where
  he : Ev n Es a
  hf : Fz.le f0 f
  hSL : SlR f0 N0 slL Es
  hS : SlR f N sl Es
  hO : OLR f N ob L
  hn : Nb N ob
  hL : L.drop ob.length = Lf
  hk : Lks ops Es0 Es
  hR : KR K ob0 L0 ob L
  hNN : Nm.le N0 N
  hop : ∀ x, x ∈ op ↔ x ∈ o ∨ x ∈ d
  hod : ∀ x ∈ o, x ∉ d
  hdd : d.Nodup
  hJ : ∀ x ∈ op, ob0.length ≤ J x ∧ J x < ob.length ∧ og ob (J x) = some .no
  hJi : ∀ x ∈ op, ∀ y ∈ op, J x = J y → x = y
  ho : ∀ x ∈ o, ∃ dd s ps, Bn P ops n Es x dd s ps ∧ Fre ops p x dd ps slL sl
  hd : ∀ x ∈ d, ∃ dd s ps v, Bn P ops n Es x dd s ps ∧ Fre ops p x dd ps slL sl ∧ L[ob.length - 1 - J x]? = some (s.ent v) ∧ Sl.look Es dd = some v ∧ v.oneCell' = true ∧ s.ok v
theorem SlR.skip {sl : List (Nat × V)} {Es : List (Nat × Value)} {d : Nat} {u : Value} (h : SlR f N sl Es) (hd : lk sl d = none) : SlR f N sl ((d, u) :: Es) := fun t v ht => by
  obtain ⟨u', h1, h2⟩ := h t v ht
  refine ⟨u', ?_, h2⟩
  simp only [Sl.look]
  rw [nbeq (fun e => by rw [e, ht] at hd; cases hd)]; exact h1
theorem zsy {x : Nat} : pidx (x + 1000) = x := by
  unfold pidx
  have : Nat.blt (x + 1000) 1000 = false := by
    cases h : Nat.blt (x + 1000) 1000 with
    | false => rfl
    | true => have := Nat.blt_eq.mp h; omega
  rw [this, cond_false]
  exact Nat.add_sub_cancel x 1000
theorem ztw {i : Nat} (h : Nat.blt i 1000 = true) : pidx i = i := by unfold pidx; rw [h]; rfl
section
variable {brk : List Nat} {Es0 : List (Nat × Value)} {p : List (Nat × Nat)} {op o d : List Nat} {slL sl : List (Nat × V)} {ob : List Ob} {Es : List (Nat × Value)} {L : List Ent} {a : Act} {J : Nat → Nat}
theorem early {m fl x : Nat} (S : RSt P E n w0 f0 N0 ops K ob0 L0 Lf Es0 p op o d slL sl ob f N Es L a J) (hit : ∀ x ∈ op, ∃ q ∈ p, q.1 = x + 1000) (hx : x ∈ o)
    (IH : ∀ Es' L' a', RSt P E n w0 f0 N0 ops K ob0 L0 Lf Es0 p op (del x o) (x :: d) slL sl ob f N Es' L' a' J → DT P ops (FamK w0 f0 (kL K ob0 L0)) brk m (toPT fl p (del x o) (x :: d)) Q a' (Cw w0 f L')) :
    ∃ oo, ops[x]? = some oo ∧ ∀ w, Cw w0 f L w → RL P ops [oo] (DKT P ops (FamK w0 f0 (kL K ob0 L0)) brk x m (toPT fl p (del x o) (x :: d)) Q) a w := by
  obtain ⟨dd, s, ps, hB, hF⟩ := S.ho x hx
  obtain ⟨oo, h1, h2, H⟩ := zw5 hB
  have hxop : x ∈ op := (S.hop x).2 (.inl hx)
  obtain ⟨j1, j2, j3⟩ := S.hJ x hxop
  have hlen := S.hO.len
  obtain ⟨qx, hq1, hq2⟩ := hit x hxop
  have hdx : dstOf ops.toList (pidx qx.1) = some dd := by
    rw [hq2, zsy]
    simp [dstOf, h1, h2]
  refine ⟨oo, h1, fun w hw => H ⟨S.he, hw⟩ fun v a' w' hok hone hs => ?_⟩
  have hC : Cw w0 f (L.set (ob.length - 1 - J x) (s.ent v)) w' := by
    have := Cw.putAt (X := []) (M := L) (p := ob.length - 1 - J x) hs.cw (by omega)
    simpa using this
  have hR : KR K ob0 L0 ob (L.set (ob.length - 1 - J x) (s.ent v)) := fun j hj hl => by
    obtain ⟨c1, c2⟩ := S.hR j hj hl
    exact ⟨c1, by rw [List.getElem?_set_ne (by omega)]; exact c2⟩
  have hO : OLR f N ob (L.set (ob.length - 1 - J x) (s.ent v)) := S.hO.no (by simp) fun j hj => by
    by_cases e : j = J x
    · subst e; exact absurd j3 hj
    · by_cases hl : j < ob.length
      · exact .inl (by rw [List.getElem?_set_ne (by omega)])
      · exact .inr (by omega)
  refine ⟨_, hC, .inl ⟨f, _, rfl, S.hf, fun w hw => hR.cw S.hf hw⟩, IH _ _ _ ⟨hs.ev, S.hf, S.hSL.skip hF.2.1, S.hS.skip hF.1, hO, S.hn, ?_, ?_, hR, S.hNN, fun y => ?_, fun y hy => ?_, ?_, S.hJ, S.hJi, fun y hy => ?_, fun y hy => ?_⟩⟩
  · rw [zkc (by omega)]; exact S.hL
  · have := S.hk.put (o := oo) (u := v) (i := x) (by simpa using h1)
    rw [h2] at this
    exact this
  · rw [S.hop, zfe, List.mem_cons]
    constructor
    · rintro (h | h)
      · by_cases e : y = x
        · exact .inr (.inl e)
        · exact .inl ⟨h, e⟩
      · exact .inr (.inr h)
    · rintro (⟨h, _⟩ | rfl | h)
      · exact .inl h
      · exact .inl hx
      · exact .inr h
  · rw [zfe] at hy
    simp only [List.mem_cons, not_or]
    exact ⟨hy.2, S.hod y hy.1⟩
  · rw [List.nodup_cons]; exact ⟨S.hod x hx, S.hdd⟩
  · rw [zfe] at hy
    obtain ⟨dd', s', ps', q1, q2⟩ := S.ho y hy.1
    have := q2.2.2.1 qx hq1 (by rw [hq2]; omega) dd hdx
    exact ⟨dd', s', ps', Bn.put (d := some dd) q1 (fun t ht z hz => by cases ht; exact this.2 z hz), q2⟩
  · rcases List.mem_cons.1 hy with rfl | hy
    · exact ⟨dd, s, ps, v, Bn.put (d := some dd) hB (fun t ht z hz => by
        cases ht; exact hF.2.2.2 z hz), hF, by rw [List.getElem?_set_self (by omega)], by simp [Sl.look], hone, hok⟩
    · obtain ⟨dd', s', ps', v', q1, q2, q3, q4, q5⟩ := S.hd y hy
      have hne : y ≠ x := fun e => S.hod x hx (e ▸ hy)
      have hyop : y ∈ op := (S.hop y).2 (.inr hy)
      have := q2.2.2.1 qx hq1 (by rw [hq2]; omega) dd hdx
      have hjj : J y ≠ J x := fun e => hne (S.hJi y hyop x hxop e)
      have := S.hJ y hyop
      exact ⟨dd', s', ps', v', Bn.put (d := some dd) q1 (fun t ht z hz => by cases ht; exact (q2.2.2.1 qx hq1 (by rw [hq2]; omega) dd hdx).2 z hz), q2, by rw [List.getElem?_set_ne (by omega)]; exact q3, by simp only [Sl.look]; rw [nbeq (q2.2.2.1 qx hq1 (by rw [hq2]; omega) dd hdx).1]; exact q4, q5⟩
end
section
variable {brk : List Nat} {Es0 : List (Nat × Value)} {p : List (Nat × Nat)} {op o d : List Nat} {slL sl slL' sl' : List (Nat × V)} {ob ob' : List Ob} {Es : List (Nat × Value)} {L L' : List Ent} {a a' : Act} {J : Nat → Nat}
theorem RSt.next {i q : Nat} {oo : Oper} {u : Value} (S : RSt P E n w0 f0 N0 ops K ob0 L0 Lf Es0 ((i, q) :: p) op o d slL sl ob f N Es L a J) (hi : Nat.blt i 1000 = true) (h1 : ops.toList[i]? = some oo)
    (he : Ev n (E1 oo.dst u Es) a') (hf : Fz.le f f') (hSL : SlR f0 N0 slL' (E1 oo.dst u Es)) (hS : SlR f' N' sl' (E1 oo.dst u Es)) (hO : OLR f' N' ob' L') (hn : Nb N' ob') (hL : L'.drop ob'.length = L.drop ob.length) (hR : KR K ob0 L0 ob' L') (hN : Nm.le N N')
    (hJ : ∀ j, og ob j = some .no → og ob' j = some .no ∧ L'[ob'.length - 1 - j]? = L[ob.length - 1 - j]?)
    (hl : ∀ t, oo.dst ≠ some t → lk slL t = none → lk sl t = none → lk sl' t = none ∧ lk slL' t = none) :
    RSt P E n w0 f0 N0 ops K ob0 L0 Lf Es0 p op o d slL' sl' ob' f' N' (E1 oo.dst u Es) L' a' J := by
  have hdst : dstOf ops.toList (pidx i) = oo.dst := by rw [ztw hi]; simp [dstOf, h1]
  have hne : ∀ x : Nat, i ≠ x + 1000 := fun x e => by
    have := Nat.blt_eq.mp hi
    omega
  have fre : ∀ {x dd : Nat} {ps : List (Nat × Operand)}, Fre ops ((i, q) :: p) x dd ps slL sl → Fre ops p x dd ps slL' sl' ∧ (∀ t, oo.dst = some t → t ≠ dd ∧ ∀ y ∈ ps, y.2 ≠ .tmp t) := fun {x dd ps} h => by
    have h3 : ∀ t, oo.dst = some t → t ≠ dd ∧ ∀ y ∈ ps, y.2 ≠ .tmp t := fun t ht => h.2.2.1 (i, q) (by simp) (hne x) t (by rw [hdst]; exact ht)
    have hd' : oo.dst ≠ some dd := fun e => (h3 dd e).1 rfl
    obtain ⟨c1, c2⟩ := hl dd hd' h.2.1 h.1
    exact ⟨h.tl c1 c2, h3⟩
  refine ⟨he, S.hf.trans hf, hSL, hS, hO, hn, hL.trans S.hL, S.hk.put h1, hR, S.hNN.trans hN, S.hop, S.hod, S.hdd, fun x hx => ?_, S.hJi, fun x hx => ?_, fun x hx => ?_⟩
  · obtain ⟨j1, j2, j3⟩ := S.hJ x hx
    exact ⟨j1, zky (hJ _ j3).1,(hJ _ j3).1⟩
  · obtain ⟨dd, s, ps, q1, q2⟩ := S.ho x hx
    obtain ⟨q3, q4⟩ := fre q2
    exact ⟨dd, s, ps, q1.put fun t ht => (q4 t ht).2, q3⟩
  · obtain ⟨dd, s, ps, v, q1, q2, q5, q6, q7⟩ := S.hd x hx
    obtain ⟨q3, q4⟩ := fre q2
    obtain ⟨j1, j2, j3⟩ := S.hJ x ((S.hop x).2 (.inr hx))
    exact ⟨dd, s, ps, v, q1.put fun t ht => (q4 t ht).2, q3, by rw [(hJ _ j3).2]; exact q5, by rw [zoa fun e => (q4 dd e).1 rfl]; exact q6, q7⟩
theorem cw_ph {w0 : World} {f : Fz} {L : List Ent} : Cw w0 f L = Cw w0 f (ph :: L) := by
  funext w
  refine propext ⟨fun h => zvx h [ph] (by simp), fun h => h.sub (List.sublist_cons_self _ _)⟩
theorem hit_tl {i q : Nat} (hit : ∀ x ∈ op, ∃ y ∈ (i, q) :: p, y.1 = x + 1000) (hi : ∀ x ∈ op, i ≠ x + 1000) : ∀ x ∈ op, ∃ y ∈ p, y.1 = x + 1000 := fun x hx => by
  obtain ⟨y, h1, h2⟩ := hit x hx
  rcases List.mem_cons.1 h1 with rfl | h1
  · exact absurd h2 (hi x hx)
  · exact ⟨y, h1, h2⟩
end
theorem zpr {t s : Nat} : ∀ {sl : List (Nat × V)}, lk (rm t sl) s = if s = t then none else lk sl s
  | [] => by simp [rm, lk]
  | p :: sl => by
    simp only [rm]
    cases q : Nat.beq p.1 t with
    | true =>
      have := Nat.eq_of_beq_eq_true q
      rw [cond_true, zpr]
      by_cases e : s = t
      · rw [if_pos e, if_pos e]
      · rw [if_neg e, if_neg e]
        simp only [lk]
        rw [nbeq (by rw [this]; exact Ne.symm e)]; rfl
    | false =>
      rw [cond_false]
      simp only [lk]
      have hne : p.1 ≠ t := fun e => by rw [e] at q; simp at q
      cases q2 : Nat.beq p.1 s with
      | true =>
        have := Nat.eq_of_beq_eq_true q2
        rw [if_neg (by rw [← this]; exact hne)]; rfl
      | false => exact zpr
theorem zte (K : List Nat) : ∀ {ob : List Ob} {j : Nat}, og ob j = some .no → og (dropO K ob) j = some .no
  | x :: r, j, h => by
    simp only [dropO, og, zh2] at h ⊢
    cases q : Nat.beq r.length j with
    | true =>
      rw [q] at h
      simp only [cond_true, Option.some.injEq] at h ⊢
      subst h
      cases memN K r.length <;> rfl
    | false =>
      rw [q] at h
      exact zte K h
  | [], _, h => by cases h
theorem zr4 (K : List Nat) {old : List Ob} {j : Nat} (ho : og old j = some .no) : ∀ {ob : List Ob}, og ob j = some .no → og (mergeO K old ob) j = some .no
  | x :: r, h => by
    simp only [mergeO, og, zgm] at h ⊢
    cases q : Nat.beq r.length j with
    | true =>
      rw [q] at h
      have := Nat.eq_of_beq_eq_true q
      simp only [cond_true, Option.some.injEq] at h ⊢
      subst this
      rw [ho, h]
      cases (memN K r.length && Nat.blt r.length old.length) <;> rfl
    | false =>
      rw [q] at h
      exact zr4 K ho h
  | [], h => by cases h
section
variable {brk : List Nat} {Es0 Es' : List (Nat × Value)} {p : List (Nat × Nat)} {op o d o' d' : List Nat} {slL sl : List (Nat × V)} {ob : List Ob} {Es : List (Nat × Value)} {L L1 : List Ent} {a a' : Act} {J : Nat → Nat}
theorem RSt.take {x dd : Nat} {v : Value} {s : Sh} {yo : Ob} {vv : V} {ps : List (Nat × Operand)} (S : RSt P E n w0 f0 N0 ops K ob0 L0 Lf Es0 ((x + 1000,1) :: p) op o d slL sl ob f N Es L a J) (hx : x ∈ op)
    (hB : Bn P ops n Es x dd s ps) (he : Ev n Es' a') (hEs : Es' = Es ∨ Es' = (dd, v) :: Es) (hv : Sl.look Es' dd = some v) (hW : ∀ (M : Nm) (j : Nat), M j = some v → OR f M j yo (s.ent v) ∧ VR f M (reV j vv) v) (hL1 : L1.length = L.length)
    (hL2 : ∀ j, j < ob.length → j ≠ J x → L1[ob.length - 1 - j]? = L[ob.length - 1 - j]?) (hL3 : L1.drop ob.length = L.drop ob.length)
    (hop : ∀ y, y ∈ del x op ↔ y ∈ o' ∨ y ∈ d') (hod : ∀ y ∈ o', y ∉ d') (hdd : d'.Nodup) (ho' : ∀ y ∈ o', y ∈ o) (hd' : ∀ y ∈ d', y ∈ d) :
    RSt P E n w0 f0 N0 ops K ob0 L0 Lf Es0 p (del x op) o' d' (rm dd slL) ((dd, reV ob.length vv) :: sl) (yo :: ob) f (nset N ob.length v) Es' (s.ent v :: L1) a' J := by
  obtain ⟨oo, g1, g2⟩ : ∃ oo, ops[x]? = some oo ∧ oo.dst = some dd := by
    obtain ⟨oo, g1, g2, _⟩ := zw5 (w0 := w0) hB
    exact ⟨oo, g1, g2⟩
  have hoth : ∀ t, t ≠ dd → Sl.look Es' t = Sl.look Es t := fun t ht => by
    rcases hEs with h | h
    · rw [h]
    · rw [h]; exact zoa (d := some dd) fun e => ht (Option.some.inj e).symm
  have hput : ∀ {y dd' : Nat} {s' : Sh} {ps' : List (Nat × Operand)}, Bn P ops n Es y dd' s' ps' → (∀ z ∈ ps', z.2 ≠ .tmp dd) → Bn P ops n Es' y dd' s' ps' := fun h hz => by
    rcases hEs with q | q
    · rw [q]; exact h
    · rw [q]; exact h.put (d := some dd) fun t ht => by cases ht; exact hz
  have hdx : dstOf ops.toList (pidx (x + 1000)) = some dd := by
    rw [zsy]
    simp [dstOf, g1, g2]
  obtain ⟨jx1, jx2, jx3⟩ := S.hJ x hx
  have hlen := S.hO.len
  have hO2 : OLR f N ob L1 := S.hO.no hL1 fun j hj => by
    by_cases hl : j < ob.length
    · exact .inl (hL2 j hl fun e => hj (e ▸ jx3))
    · exact .inr (by omega)
  have up := Up.push (x := yo) (e := s.ent v) (v := v) hO2 S.hn fun M hM hv => (hW _ _ hv).1
  have hvR : VR f (nset N ob.length v) (reV ob.length vv) v := (hW _ _ zd6).2
  have fre : ∀ {y dd' : Nat} {s' : Sh} {ps' : List (Nat × Operand)}, y ≠ x → Bn P ops n Es y dd' s' ps' → Fre ops ((x + 1000,1) :: p) y dd' ps' slL sl → dd ≠ dd' ∧ Bn P ops n Es' y dd' s' ps' ∧ Fre ops p y dd' ps' (rm dd slL) ((dd, reV ob.length vv) :: sl) := fun {y dd' s' ps'} hne h1 h2 => by
    obtain ⟨q1, q2⟩ := h2.2.2.1 (x + 1000,1) (by simp) (by simp only; omega) dd hdx
    exact ⟨q1, hput h1 q2, h2.tl (zsc h2.1 q1) (lk_rm h2.2.1)⟩
  have hme : ∀ {y}, y ∈ del x op → y ∈ op ∧ y ≠ x := fun h => zfe.1 h
  have hJy : ∀ y ∈ del x op, J y ≠ J x ∧ J y < ob.length ∧ (yo :: ob).length - 1 - J y = (ob.length - 1 - J y) + 1 := fun y hy => by
    obtain ⟨q1, q2⟩ := hme hy
    obtain ⟨_, j2, _⟩ := S.hJ y q1
    exact ⟨fun e => q2 (S.hJi y q1 x hx e), j2, by simp only [List.length_cons]; omega⟩
  refine ⟨he, S.hf, fun t w ht => ?_, fun t w ht => ?_, up.ol, up.nb, ?_, fun t ht => ?_, fun j hj hl => ?_, S.hNN.trans up.le, hop, hod, hdd, fun y hy => ?_, fun y hy z hz => S.hJi y (hme hy).1 z (hme hz).1, fun y hy => ?_, fun y hy => ?_⟩
  · rw [zpr] at ht
    split at ht
    · cases ht
    · rename_i hne
      obtain ⟨u, c1, c2⟩ := S.hSL t w ht
      exact ⟨u,(hoth t hne).trans c1, c2⟩
  · simp only [lk] at ht
    cases q : Nat.beq dd t with
    | true =>
      rw [q] at ht
      obtain rfl := Option.some.inj ht
      have := Nat.eq_of_beq_eq_true q
      subst this
      exact ⟨v, hv, hvR⟩
    | false =>
      rw [q] at ht
      have hne : t ≠ dd := fun e => by rw [e] at q; simp at q
      obtain ⟨u, c1, c2⟩ := S.hS t w ht
      exact ⟨u,(hoth t hne).trans c1, c2.le (.refl f) up.le⟩
  · simp only [List.length_cons, List.drop_succ_cons]
    rw [hL3]; exact S.hL
  · rw [hoth t fun e => ht oo (List.mem_of_getElem? (by simpa using g1)) (by rw [g2, e])]
    exact S.hk t ht
  · obtain ⟨c1, c2⟩ := S.hR j hj hl
    refine ⟨by simp; omega, ?_⟩
    rw [show (yo :: ob).length - 1 - j = (ob.length - 1 - j) + 1 by simp only [List.length_cons]; omega, List.getElem?_cons_succ, hL2 j c1 (by omega)]
    exact c2
  · obtain ⟨j1, j2, j3⟩ := S.hJ y (hme hy).1
    exact ⟨j1, by simp; omega, by rw [znm j2]; exact j3⟩
  · obtain ⟨dd', s', ps', q1, q2⟩ := S.ho y (ho' y hy)
    obtain ⟨_, c1, c2⟩ := fre (hme ((hop y).2 (.inl hy))).2 q1 q2
    exact ⟨dd', s', ps', c1, c2⟩
  · obtain ⟨dd', s', ps', v', q1, q2, q3, q4, q5⟩ := S.hd y (hd' y hy)
    have hyd := (hop y).2 (.inr hy)
    obtain ⟨c0, c1, c2⟩ := fre (hme hyd).2 q1 q2
    obtain ⟨c3, c4, c5⟩ := hJy y hyd
    exact ⟨dd', s', ps', v', c1, c2, by rw [c5, List.getElem?_cons_succ, hL2 _ c4 c3]; exact q3,(hoth _ (Ne.symm c0)).trans q4, q5⟩
theorem RSt.mark {x dd : Nat} {s : Sh} {ps : List (Nat × Operand)} (S : RSt P E n w0 f0 N0 ops K ob0 L0 Lf Es0 ((x + 1000,0) :: p) op o d slL sl ob f N Es L a J) (hx : x ∉ op) (hob : ob0.length ≤ ob.length)
    (hB : Bn P ops n Es x dd s ps) (hF : Fre ops p x dd ps slL sl) :
    RSt P E n w0 f0 N0 ops K ob0 L0 Lf Es0 p (ins x op) (ins x o) d slL sl (.no :: ob) f N Es (ph :: L) a (fun y => if y = x then ob.length else J y) := by
  have hxo : x ∉ o := fun h => hx ((S.hop x).2 (.inl h))
  have hxd : x ∉ d := fun h => hx ((S.hop x).2 (.inr h))
  have hne : ∀ {y}, y ∈ op → y ≠ x := fun h e => hx (e ▸ h)
  refine ⟨S.he, S.hf, S.hSL, S.hS, ⟨trivial, S.hO⟩, fun j hj => S.hn j (by simp at hj; omega), by simpa using S.hL, S.hk, fun j hj hl => ?_, S.hNN, fun y => ?_, fun y hy => ?_, S.hdd, fun y hy => ?_, fun y hy z hz => ?_, fun y hy => ?_, fun y hy => ?_⟩
  · obtain ⟨c1, c2⟩ := S.hR j hj hl
    refine ⟨by simp; omega, ?_⟩
    rw [show (Ob.no :: ob).length - 1 - j = (ob.length - 1 - j) + 1 by simp only [List.length_cons]; omega, List.getElem?_cons_succ]
    exact c2
  · rw [zi8, zi8, S.hop, or_assoc]
  · rcases zi8.1 hy with rfl | hy
    · exact hxd
    · exact S.hod y hy
  · rcases zi8.1 hy with rfl | hy
    · rw [if_pos rfl]
      exact ⟨hob, by simp, og_top⟩
    · rw [if_neg (hne hy)]
      obtain ⟨j1, j2, j3⟩ := S.hJ y hy
      exact ⟨j1, by simp; omega, by rw [znm j2]; exact j3⟩
  · rcases zi8.1 hy with q | hy <;> rcases zi8.1 hz with q' | hz
    · exact fun _ => q.trans q'.symm
    · rw [if_pos q, if_neg (hne hz)]
      have := (S.hJ z hz).2.1
      intro e; omega
    · rw [if_pos q', if_neg (hne hy)]
      have := (S.hJ y hy).2.1
      intro e; omega
    · rw [if_neg (hne hy), if_neg (hne hz)]
      exact S.hJi y hy z hz
  · rcases zi8.1 hy with rfl | hy
    · exact ⟨dd, s, ps, hB, hF⟩
    · obtain ⟨dd', s', ps', q1, q2⟩ := S.ho y hy
      exact ⟨dd', s', ps', q1, q2.tl q2.1 q2.2.1⟩
  · obtain ⟨dd', s', ps', v', q1, q2, q3, q4, q5⟩ := S.hd y hy
    have hyo := (S.hop y).2 (.inr hy)
    have := (S.hJ y hyo).2.1
    refine ⟨dd', s', ps', v', q1, q2.tl q2.1 q2.2.1, ?_, q4, q5⟩
    show (ph :: L)[(Ob.no :: ob).length - 1 - (if y = x then ob.length else J y)]? = _
    rw [if_neg (hne hyo), show (Ob.no :: ob).length - 1 - J y = (ob.length - 1 - J y) + 1 by simp only [List.length_cons]; omega, List.getElem?_cons_succ]
    exact q3
theorem cw_top {w0 : World} {f : Fz} {L : List Ent} {i : Nat} {e : Ent} (h : L[i]? = some e) : Cw w0 f L = Cw w0 f (e :: L.set i ph) := by
  have hi : i < L.length := by
    rcases Nat.lt_or_ge i L.length with h1 | h1
    · exact h1
    · rw [List.getElem?_eq_none h1] at h; cases h
  have e1 : L = L.set i e := by
    apply List.ext_getElem?
    intro p
    rw [List.getElem?_set]
    split
    · rename_i q
      subst q
      rw [h]
    · rfl
  funext w
  refine propext ⟨fun hw => Cw.toTop (e1 ▸ hw) hi, fun hw => ?_⟩
  refine Cw.re hw (fun p => if p = i then 0 else p + 1) (fun p x hp => ?_) (fun p q x y hp hq hx hy hpq => ?_)
  · refine .inr ?_
    split
    · rename_i q
      subst q
      rw [List.getElem?_cons_zero, ← h, hp]
    · rename_i q
      rw [List.getElem?_cons_succ, List.getElem?_set_ne (Ne.symm q)]
      exact hp
  · split <;> split <;> omega
end
theorem runD_ok (hE : EnvOk P E) (hd : ∀ o ∈ ops.toList, ∀ t, o.dst = some t → t < n) {brk : List Nat} {Es0 : List (Nat × Value)} {k : List (Nat × V) → List Ob → Option α} (hK : EndK r n w0 f0 ops Es0 Lf k Q) (hLk : OLR f0 N0 (keepO K ob0) (kL K ob0 L0)) (hw0 : ∃ w, Cw w0 f0 (kL K ob0 L0) w) :
    ∀ (fl : Nat) {p : List (Nat × Nat)} {op o d : List Nat} {slL sl : List (Nat × V)} {ob : List Ob}, runD E ops.toList K (keepO K ob0) p op slL sl ob k = some r → (∀ (A : List (Nat × Nat)) i q B, p = A ++ (i, q + 2) :: B → ∀ x ∈ (i, q + 2) :: B, pidx x.1 ∈ brk) → (∀ x ∈ op, ∃ q ∈ p, q.1 = x + 1000) → 2 * p.length + o.length ≤ fl →
    ∀ (m : Nat) (f : Fz) (N : Nm) (Es : List (Nat × Value)) (L : List Ent) (a : Act) (J : Nat → Nat), RSt P E n w0 f0 N0 ops K ob0 L0 Lf Es0 p op o d slL sl ob f N Es L a J → DT P ops (FamK w0 f0 (kL K ob0 L0)) brk m (toPT fl p o d) Q a (Cw w0 f L) := by
  have fin : ∀ {op o d : List Nat} {slL sl : List (Nat × V)} {ob : List Ob} (m : Nat) (f : Fz) (N : Nm) (Es : List (Nat × Value)) (L : List Ent) (a : Act) (J : Nat → Nat), runD E ops.toList K (keepO K ob0) [] op slL sl ob k = some r → RSt P E n w0 f0 N0 ops K ob0 L0 Lf Es0 [] op o d slL sl ob f N Es L a J → DT P ops (FamK w0 f0 (kL K ob0 L0)) brk m .done Q a (Cw w0 f L) := fun {op o d slL sl ob} m f N Es L a J h S => by
    obtain ⟨_, h2⟩ := zb0 (h : cond _ _ none = some r)
    exact zst fun w hw => hK sl ob f N Es L a w h2 S.hf S.hS S.hO S.hn S.hL S.hk ⟨S.he, hw⟩
  intro fl
  induction fl with
  | zero =>
    intro p op o d slL sl ob h hb hit hfl m f N Es L a J S
    have hp : p = [] := List.eq_nil_of_length_eq_zero (by omega)
    subst hp
    exact fin m f N Es L a J h S
  | succ fl ih =>
    intro p op o d slL sl ob h hb hit hfl m f N Es L a J S
    match p, h, hb, hit, hfl, S with
    | [], h, hb, hit, hfl, S => exact fin m f N Es L a J h S
    | (i,0) :: p, h, hb, hit, hfl, S =>
      have hb' : ∀ (A : List (Nat × Nat)) i q B, p = A ++ (i, q + 2) :: B → ∀ x ∈ (i, q + 2) :: B, pidx x.1 ∈ brk := fun A j q B e => hb ((i,0) :: A) j q B (by rw [e]; rfl)
      have hfl' : 2 * p.length + o.length + 2 ≤ fl + 1 := by simp only [List.length_cons] at hfl; omega
      rcases zdv (h : cond _ _ _ = some r) with ⟨hi, h⟩ | ⟨hi, h⟩
      · -- a look
        have hni : ∀ x ∈ op, i ≠ x + 1000 := fun x _ e => by have := Nat.blt_eq.mp hi; omega
        have hit' := hit_tl hit hni
        simp only [toPT, hi, cond_true]
        cases m with
        | zero => exact zmk rfl
        | succ m =>
        obtain ⟨o', h1, h2⟩ := zaa h
        have hX : FamK w0 f0 (kL K ob0 L0) (Cw w0 f L) := ⟨f, L, rfl, S.hf, fun w hw => S.hR.cw S.hf hw⟩
        have hdo := hd o' (List.mem_of_getElem? h1)
        have h1' := h1
        obtain ⟨dst, op1', ty, pos, af, g⟩ := o'
        have hia : ops[i]? = some ⟨dst, op1', ty, pos, af, g⟩ := by simpa using h1
        have put : ∀ {u : Value}, Ev n (E1 dst u Es) (a.put dst u) := fun {u} => by
          cases dst with
          | none => exact S.he.put_none u
          | some t => exact S.he.put (hdo t rfl) u
        have nxt : ∀ {u : Value} {slL' sl' : List (Nat × V)}, SlR f0 N0 slL' (E1 dst u Es) → SlR f N sl' (E1 dst u Es) → (∀ t, dst ≠ some t → lk slL t = none → lk sl t = none → lk sl' t = none ∧ lk slL' t = none) → RSt P E n w0 f0 N0 ops K ob0 L0 Lf Es0 p op o d slL' sl' ob f N (E1 dst u Es) L (a.put dst u) J := fun {u slL' sl'} hSL hS hl => S.next (q := 0) (oo := ⟨dst, op1', ty, pos, af, g⟩) hi h1 put (.refl f) hSL hS S.hO S.hn rfl S.hR (.refl N) (fun j hj => ⟨hj, rfl⟩) hl
        have yes : ∀ slL1 sl1, SlR f0 N0 slL1 Es → SlR f N sl1 Es → (∀ t, lk slL t = none → lk sl t = none → lk sl1 t = none ∧ lk slL1 t = none) → Region.wanted (⟨dst, op1', ty, pos, af, g⟩ : Oper) (yielded ops a.tmps) = true → (cond (isEx op1' slL1) (exOp op1' sl1 fun v => runD E ops.toList K (keepO K ob0) p op (addL dst v slL1) (putS dst v sl1) ob k) <| preS E.T op1' slL1 fun pr => lookOp E op1' (pr ++ slL1) (keepO K ob0) (fun v => runD E ops.toList K (keepO K ob0) p op (putS dst v (pr ++ slL1)) (putS dst v (pr ++ sl1)) ob k)) = some r → DT P ops (FamK w0 f0 (kL K ob0 L0)) brk (m + 1) (.look i (toPT fl p o d)) Q a (Cw w0 f L) := fun slL1 sl1 hSL hS hl1 hw h => by
          rcases zdv h with ⟨_, h⟩ | ⟨_, h⟩
          · obtain ⟨v, g1, g2⟩ := exOp_ok (P := P) h
            obtain ⟨u, g3, g4⟩ := g2 f N Es hS
            refine zob hia hX (.inl ⟨hw, fun X hX w hXw => g4 X n dst ty pos af g a S.he w hXw⟩) ?_
            exact ih g1 hb' hit' (by omega) m f N (E1 dst u Es) L _ J (nxt (zqb hSL g3) (zg7 hS g3) fun t ht c1 c2 => ⟨zl0 (hl1 t c1 c2).1 ht, zsd (hl1 t c1 c2).2 ht⟩)
          obtain ⟨pr, h, hX', hpr⟩ := zsx h
          have hS1 := hX' _ _ _ hSL _ _ _ hS
          have hSL1 := hX' _ _ _ hSL _ _ _ hSL
          obtain ⟨v, g1, g2⟩ := zv5 (n := n) hE hLk hw0 h
          obtain ⟨u, g3, g4⟩ := g2 Es hSL1
          refine zob hia hX (.inl ⟨hw, fun X hX w hXw => g4 dst ty pos af g a S.he X hX w hXw⟩) ?_
          exact ih g1 hb' hit' (by omega) m f N (E1 dst u Es) L _ J (nxt (zg7 hSL1 g3) (zg7 hS1 (g3.le S.hf S.hNN)) fun t ht c1 c2 => ⟨zl0 (hpr t (hl1 t c1 c2).2 _ (hl1 t c1 c2).1) ht, zl0 (hpr t (hl1 t c1 c2).2 _ (hl1 t c1 c2).2) ht⟩)
        have no : ∀ slL1 sl1, SlR f0 N0 slL1 Es → SlR f N sl1 Es → (∀ t, lk slL t = none → lk sl t = none → lk sl1 t = none ∧ lk slL1 t = none) → Region.wanted (⟨dst, op1', ty, pos, af, g⟩ : Oper) (yielded ops a.tmps) = false → runD E ops.toList K (keepO K ob0) p op (putS dst (.c .u) slL1) (putS dst (.c .u) sl1) ob k = some r → DT P ops (FamK w0 f0 (kL K ob0 L0)) brk (m + 1) (.look i (toPT fl p o d)) Q a (Cw w0 f L) := fun slL1 sl1 hSL hS hl1 hw h => by
          refine zob (v := undef) hia hX (.inr ⟨hw, rfl⟩) ?_
          exact ih h hb' hit' (by omega) m f N (E1 dst undef Es) L _ J (nxt (zg7 hSL rfl) (zg7 hS rfl) fun t ht c1 c2 => ⟨zl0 (hl1 t c1 c2).1 ht, zl0 (hl1 t c1 c2).2 ht⟩)
        cases g with
        | none => exact yes slL sl S.hSL S.hS (fun t c1 c2 => ⟨c2, c1⟩) (Want.wanted S.he (.free rfl)) h2
        | some pg =>
          obtain ⟨j, want⟩ := pg
          obtain ⟨gd, q1, q2⟩ := zaa (h2 : (dstOf ops.toList j).bind _ = some r)
          obtain ⟨v, q3, q4⟩ := zaa q2
          have hgd : (ops[j]?).bind (·.dst) = some gd := by simpa [dstOf] using q1
          obtain ⟨u, e1, e2⟩ := S.hSL gd v q3
          split at q4
          · rename_i qq
            have e2 : u = .bool qq := e2
            subst e2
            have hSL' : SlR f0 N0 ((gd, .c (.b qq)) :: slL) Es := S.hSL.say e1 rfl
            have hS' : SlR f N ((gd, .c (.b qq)) :: sl) Es := S.hS.say e1 rfl
            have hl1 : ∀ t, lk slL t = none → lk sl t = none → lk ((gd, .c (.b qq)) :: sl) t = none ∧ lk ((gd, .c (.b qq)) :: slL) t = none := fun t c1 c2 => by
              have : gd ≠ t := fun e => by rw [e, c1] at q3; cases q3
              exact ⟨zsc c2 this, zsc c1 this⟩
            cases qq with
            | true =>
              cases want with
              | true => exact yes _ _ hSL' hS' hl1 (Want.wanted S.he (.yes rfl hgd e1)) q4
              | false => exact no _ _ hSL' hS' hl1 (Want.wanted S.he (.no rfl hgd e1)) q4
            | false =>
              cases want with
              | true => exact no _ _ hSL' hS' hl1 (Want.wanted S.he (.no rfl hgd e1)) q4
              | false => exact yes _ _ hSL' hS' hl1 (Want.wanted S.he (.yes rfl hgd e1)) q4
          · have e2 : u = undef := e2
            subst e2
            exact no _ _ S.hSL S.hS (fun t c1 c2 => ⟨c2, c1⟩) (Want.wanted S.he (.un rfl hgd e1)) q4
          · cases q4
      · -- a new slice may be made from here on
        obtain ⟨x, rfl⟩ : ∃ x, i = x + 1000 := ⟨i - 1000, by
          have : ¬ i < 1000 := fun h => by rw [Nat.blt_eq.mpr h] at hi; cases hi
          omega⟩
        obtain ⟨hc, h⟩ := zb0 h
        have hsub : Nat.sub (x + 1000) 1000 = x := Nat.add_sub_cancel x 1000
        rw [hsub] at hc h
        simp only [Bool.and_eq_true] at hc
        have hxop : x ∉ op := fun e => by rw [zn4.2 e] at hc; simp at hc
        have hopn := hc.1.1
        unfold opnB at hopn
        split at hopn
        · rename_i dd op' ty pos af hx
          split at hopn
          · rename_i ps hps
            simp only [Bool.and_eq_true] at hopn
            obtain ⟨⟨⟨⟨c1, c2⟩, c3⟩, c4⟩, c5⟩ := hopn
            rw [hx, Option.bind_some] at h
            have hx' : ops[x]? = some ⟨some dd, op', ty, pos, af, none⟩ := by simpa using hx
            obtain ⟨_, _, h1, _, H⟩ := zw6 hE hx' hps (hd _ (List.mem_of_getElem? hx) dd rfl) (h : op1 E _ _ sl [] _ = some r)
            obtain ⟨s, hB, _, _⟩ := H f N Es S.hS
            have hF : Fre ops p x dd ps slL sl := by
              refine ⟨by simpa using c1, by simpa using c2, fun q hq hqx t ht => ?_, fun y hy e => ?_⟩
              · have := (List.all_eq_true.1 c3) q hq
                rw [nbeq (fun e => hqx (by simpa using e)), ht, Bool.false_or, Bool.and_eq_true] at this
                obtain ⟨k1, k2⟩ := this
                refine ⟨fun e => by rw [e] at k1; simp at k1, fun y hy e => ?_⟩
                have := (List.all_eq_true.1 k2) y.2 (List.mem_map_of_mem hy)
                rw [e] at this
                simp at this
              · have := (List.all_eq_true.1 c4) y hy
                rw [e] at this
                simp at this
            have S' := S.mark hxop (by have := Nat.le_of_ble_eq_true hc.2; rw [znw] at this; exact this) hB hF
            have := ih h1 hb' (fun y hy => by
              rcases zi8.1 hy with rfl | hy
              · obtain ⟨q, q1, q2⟩ := List.any_eq_true.1 c5
                exact ⟨q, q1, Nat.eq_of_beq_eq_true q2⟩
              · obtain ⟨q, q1, q2⟩ := hit y hy
                rcases List.mem_cons.1 q1 with rfl | q1
                · have : y = x := by simp only at q2; omega
                  exact absurd (this ▸ hy) hxop
                · exact ⟨q, q1, q2⟩) (by rw [zvg]; omega) m f N Es (ph :: L) a _ S'
            rw [cw_ph]
            simp only [toPT, hi, cond_false, hsub]
            exact this
          · cases hopn
        · cases hopn
    | (i,1) :: p, h, hb, hit, hfl, S =>
      have hb' : ∀ (A : List (Nat × Nat)) i q B, p = A ++ (i, q + 2) :: B → ∀ x ∈ (i, q + 2) :: B, pidx x.1 ∈ brk := fun A j q B e => hb ((i,1) :: A) j q B (by rw [e]; rfl)
      have hfl' : 2 * p.length + o.length + 2 ≤ fl + 1 := by simp only [List.length_cons] at hfl; omega
      have later : ∀ {m y : Nat}, y ∈ o → ∃ oo, ops[y]? = some oo ∧ ∀ w, Cw w0 f L w → RL P ops [oo] (DKT P ops (FamK w0 f0 (kL K ob0 L0)) brk y m (toPT fl ((i,1) :: p) (del y o) (y :: d)) Q) a w := fun {m y} hy => early S hit hy fun Es' L' a' S' => ih h hb hit (by have := (zvt (i := y) (l := o)).2 hy; omega) m f N Es' L' a' J S'
      rcases zdv (h : cond _ _ _ = some r) with ⟨hi, h'⟩ | ⟨hi, h'⟩
      · have hni : ∀ x ∈ op, i ≠ x + 1000 := fun x _ e => by have := Nat.blt_eq.mp hi; omega
        have hit' := hit_tl hit hni
        simp only [toPT, hi, cond_true]
        cases m with
        | zero => exact zmk rfl
        | succ m =>
        obtain ⟨oo, h1, h2⟩ := zaa h'
        refine zp5 fun j hj => ?_
        cases q : Nat.beq j i with
        | true =>
          have := Nat.eq_of_beq_eq_true q
          subst this
          refine ⟨oo, by simpa using h1, fun w hw => ?_⟩
          refine zvr hE h1 (hd oo (List.mem_of_getElem? h1)) h2 S.hS (S.hO.dropK K) (S.hn.len (zh2 K ob)) ⟨S.he, hw⟩ (fun sl1 v ob' f' N' u L' a' w' k1 kx k2 k3 k4 k5 k6 k7 k8 k9 => ?_) (fun sl1 a' w' k1 kx k2 k3 => ?_)
          · have hlt : ∀ j, memN K j = true → j < ob.length → og ob' j = some .no ∧ L'[ob'.length - 1 - j]? = L[ob.length - 1 - j]? := fun j a b => by
              have := k8.1 j (ztf K a b)
              rw [zh2] at this
              exact this
            have hR' : KR K ob0 L0 (mergeO K ob ob') L' := by
              intro j a b
              have h1 := S.hR j a b
              have h2 := hlt j a h1.1
              rw [zgm]
              exact ⟨zky h2.1, h2.2.trans h1.2⟩
            have hO' : OLR f' N' (mergeO K ob ob') L' := S.hO.mergeK k3 k4 k6 fun j a b c => (hlt j a b).2
            have S' : RSt P E n w0 f0 N0 ops K ob0 L0 Lf Es0 p op o d (addL oo.dst v slL) (putS oo.dst v sl1) (mergeO K ob ob') f' N' (E1 oo.dst u Es) L' a' J := by
              refine S.next hi h1 k9.ev k3 (zqb S.hSL k7) (zg7 (k2.le k3 k4) k7) hO' (k5.len (zgm K ob ob')) (by rw [zgm]; have := k8.2; rw [zh2] at this; exact this) hR' k4 (fun j hj => ?_) (fun t ht c1 c2 => ?_)
              · have := k8.1 j (zte K hj)
                rw [zh2] at this
                rw [zgm]
                exact ⟨zr4 K hj this.1, this.2⟩
              · exact ⟨zl0 (kx t c2) ht, zsd c1 ht⟩
            exact ⟨Cw w0 f' L', k9.cw, .inl ⟨f', L', rfl, S.hf.trans k3, fun w hw => hR'.cw (S.hf.trans k3) hw⟩, by simp only [cond_true]; exact ih k1 hb' hit' (by omega) m f' N' _ L' a' J S'⟩
          · have S' : RSt P E n w0 f0 N0 ops K ob0 L0 Lf Es0 p op o d (addL oo.dst (.c .u) slL) (putS oo.dst (.c .u) sl1) ob f N (E1 oo.dst undef Es) L a' J := by
              refine S.next hi h1 k3.ev (.refl f) (zqb (f := f) (N := N) (v := .c .u) S.hSL rfl) (zg7 k2 rfl) S.hO S.hn rfl S.hR (.refl N) (fun j hj => ⟨hj, rfl⟩) (fun t ht c1 c2 => ⟨zl0 (kx t c2) ht, zsd c1 ht⟩)
            exact ⟨Cw w0 f L, k3.cw, .inl ⟨f, L, rfl, S.hf, fun w hw => S.hR.cw S.hf hw⟩, by simp only [cond_true]; exact ih k1 hb' hit' (by omega) m f N _ L a' J S'⟩
        | false =>
          have hj' : j ∈ o := (zi8.1 hj).resolve_left fun e => by rw [e] at q; simp at q
          simp only [cond_false]
          exact later hj'
      · obtain ⟨x, rfl⟩ : ∃ x, i = x + 1000 := ⟨i - 1000, by
          have : ¬ i < 1000 := fun h => by rw [Nat.blt_eq.mpr h] at hi; cases hi
          omega⟩
        obtain ⟨hx, h'⟩ := zb0 h'
        have hsub : Nat.sub (x + 1000) 1000 = x := Nat.add_sub_cancel x 1000
        rw [hsub] at hx h'
        have hxop : x ∈ op := zn4.1 hx
        have hit' : ∀ y ∈ del x op, ∃ q ∈ p, q.1 = y + 1000 := fun y hy => by
          obtain ⟨y1, y2⟩ := zfe.1 hy
          obtain ⟨q, q1, q2⟩ := hit y y1
          rcases List.mem_cons.1 q1 with rfl | q1
          · exact absurd (by simp only at q2; omega) y2
          · exact ⟨q, q1, q2⟩
        simp only [toPT, hi, cond_false, hsub]
        -- what is wanted
        have hBx : ∃ dd s ps, Bn P ops n Es x dd s ps ∧ Fre ops ((x + 1000,1) :: p) x dd ps slL sl := by
          rcases (S.hop x).1 hxop with h | h
          · exact S.ho x h
          · obtain ⟨dd, s, ps, v, q1, q2, _⟩ := S.hd x h
            exact ⟨dd, s, ps, q1, q2⟩
        obtain ⟨dd, s, ps, hB, hF⟩ := hBx
        obtain ⟨hdd, op', ty, pos, af, hx', hps⟩ := bn_at hB
        rw [show ops.toList[x]? = some _ from by simpa using hx', Option.bind_some] at h'
        obtain ⟨vv, yo, h1, hvv, H⟩ := zw6 hE hx' hps hdd (h' : op1 E _ _ sl [] _ = some r)
        obtain ⟨s1, hB1, hun, hW⟩ := H f N Es S.hS
        obtain ⟨_, rfl, _⟩ := hun _ _ _ hB
        have hsc : addL (some dd) (reV ob.length vv) slL = rm dd slL := by
          rcases hvv with rfl | rfl <;> rfl
        have h1 : runD E ops.toList K (keepO K ob0) p (del x op) (addL (some dd) (reV ob.length vv) slL) ((dd, reV ob.length vv) :: sl) (yo :: ob) k = some r := h1
        rw [hsc] at h1
        obtain ⟨jx1, jx2, jx3⟩ := S.hJ x hxop
        have hlen := S.hO.len
        cases hm : memN d x with
        | true =>
          have hxd := zn4.1 hm
          obtain ⟨dd', s', ps', v, q1, q2, q3, q4, q5, q6⟩ := S.hd x hxd
          obtain ⟨rfl, rfl, _⟩ := hun _ _ _ q1
          have hxo : x ∉ o := fun h => S.hod x h hxd
          have S' := S.take (o' := o) (d' := del x d) hxop hB S.he (.inl rfl) q4 (fun M j hM => hW v M j q6 q5 hM) (L1 := L.set (ob.length - 1 - J x) ph) (by simp) (fun j hj hne => by rw [List.getElem?_set_ne (by omega)]) (zkc (by omega)) (fun y => by
            rw [zfe, zfe, S.hop]
            constructor
            · rintro ⟨h | h, hne⟩
              · exact .inl h
              · exact .inr ⟨h, hne⟩
            · rintro (h | ⟨h, hne⟩)
              · exact ⟨.inl h, fun e => hxo (e ▸ h)⟩
              · exact ⟨.inr h, hne⟩) (fun y hy hy' => S.hod y hy (zfe.1 hy').1) (zrh S.hdd).1 (fun _ h => h) (fun y hy => (zfe.1 hy).1)
          rw [cw_top q3]
          exact ih h1 hb' hit' (by omega) m f _ Es _ a J S'
        | false =>
          have hxo : x ∈ o := ((S.hop x).1 hxop).resolve_right fun h => by rw [zn4.2 h] at hm; cases hm
          have hxd : x ∉ d := S.hod x hxo
          simp only [cond_false]
          cases m with
          | zero => exact zmk rfl
          | succ m =>
          refine zp5 fun j hj => ?_
          cases q : Nat.beq j x with
          | true =>
            have := Nat.eq_of_beq_eq_true q
            subst this
            obtain ⟨oo, g1, g2, HR⟩ := zw5 hB
            refine ⟨oo, g1, fun w hw => HR ⟨S.he, hw⟩ fun v a' w' hok hone hs => ?_⟩
            have S' := S.take (o' := del j o) (d' := d) hxop hB hs.ev (.inr rfl) (by simp [Sl.look]) (fun M j hM => hW v M j hok hone hM) (L1 := L) rfl (fun j hj hne => rfl) rfl (fun y => by
              rw [zfe, zfe, S.hop]
              constructor
              · rintro ⟨h | h, hne⟩
                · exact .inl ⟨h, hne⟩
                · exact .inr h
              · rintro (⟨h, hne⟩ | h)
                · exact ⟨.inl h, hne⟩
                · exact ⟨.inr h, fun e => hxd (e ▸ h)⟩) (fun y hy => S.hod y (zfe.1 hy).1) S.hdd (fun y hy => (zfe.1 hy).1) (fun _ h => h)
            refine ⟨_, hs.cw, .inl ⟨f, _, rfl, S.hf, fun w hw => S'.hR.cw S.hf hw⟩, ?_⟩
            simp only [cond_true]
            exact ih h1 hb' hit' (by have := (zvt (i := j) (l := o)).1; omega) m f _ _ _ a' J S'
          | false =>
            simp only [cond_false]
            exact later hj
    | (i, q + 2) :: p, h, hb, hit, hfl, S =>
      obtain ⟨hc, h⟩ := zb0 (h : cond _ _ none = some r)
      rw [Bool.and_eq_true] at hc
      obtain ⟨hc1, hi⟩ := hc
      have hop : op = [] := by simpa using hc1
      have ho : o = [] := List.eq_nil_iff_forall_not_mem.2 fun x hx => by
        have := (S.hop x).2 (.inl hx)
        rw [hop] at this; cases this
      have hdn : d = [] := List.eq_nil_iff_forall_not_mem.2 fun x hx => by
        have := (S.hop x).2 (.inr hx)
        rw [hop] at this; cases this
      subst ho hdn
      obtain ⟨oo, h1, h2⟩ := zaa h
      have hbi : i ∈ brk := by
        have := hb [] i q p rfl (i, q + 2) (by simp)
        rw [zsa hi] at this; exact this
      have hb' : ∀ x ∈ p, pidx x.1 ∈ brk := fun x hx => hb [] i q p rfl x (by simp [hx])
      have hfl' : 2 * p.length + ([] : List Nat).length ≤ fl := by simp only [List.length_cons, List.length_nil] at hfl ⊢; omega
      simp only [toPT, hi, cond_true, ins]
      cases m with
      | zero => exact zmk rfl
      | succ m =>
      refine zp5 fun j hj => ?_
      simp only [List.mem_singleton] at hj
      subst hj
      have ej : Nat.beq j j = true := by simp
      rw [ej]
      refine ⟨oo, by simpa using h1, fun w hw => ?_⟩
      refine zvr hE h1 (hd oo (List.mem_of_getElem? h1)) h2 S.hS S.hO S.hn ⟨S.he, hw⟩ (fun sl1 v ob' f' N' u L' a' w' k1 kx k2 k3 k4 k5 k6 k7 k8 k9 => ?_) (fun sl1 a' w' k1 kx k2 k3 => ?_)
      · exact ⟨Cw w0 f' L', k9.cw, .inr hbi, zuu hE hd hK fl k1 hb' m hfl' f' N' (E1 oo.dst u Es) L' a' ⟨rfl, rfl⟩ k9.ev (S.hf.trans k3) (zg7 (k2.le k3 k4) k7) k6 k5 (k8.2.trans S.hL) (S.hk.put h1)⟩
      · exact ⟨Cw w0 f L, k3.cw, .inr hbi, zuu hE hd hK fl k1 hb' m hfl' f N (E1 oo.dst undef Es) L a' ⟨rfl, rfl⟩ k3.ev S.hf (zg7 k2 rfl) S.hO S.hn S.hL (S.hk.put h1)⟩
theorem zw2 : ∀ {p A : List (Nat × Nat)} {i q : Nat} {B : List (Nat × Nat)}, p = A ++ (i, q + 2) :: B → ∀ x ∈ (i, q + 2) :: B, pidx x.1 ∈ brks p
  | _,[], i, q, B, rfl, x, hx => by
    have e : brks ((i, q + 2) :: B) = pidx i :: B.map (fun x => pidx x.1) := by
      have : Nat.blt 1 (q + 2) = true := Nat.blt_eq.mpr (by omega)
      simp only [brks, this, cond_true]
    show pidx x.1 ∈ brks ((i, q + 2) :: B)
    rw [e]
    rcases List.mem_cons.1 hx with rfl | hx
    · simp
    · exact List.mem_cons_of_mem _ (List.mem_map_of_mem (f := fun x : Nat × Nat => pidx x.1) hx)
  | _,(j, k) :: A, i, q, B, rfl, x, hx => by
    show pidx x.1 ∈ brks ((j, k) :: (A ++ (i, q + 2) :: B))
    simp only [brks]
    cases Nat.blt 1 k with
    | true => exact List.mem_cons_of_mem _ (List.mem_map_of_mem (f := fun x : Nat × Nat => pidx x.1) (List.mem_append_right _ hx))
    | false => exact zw2 rfl x hx
theorem ztg (hE : EnvOk P E) {pl : List (Nat × List (Nat × Nat) × List Nat)} {id : Nat} {sl : List (Nat × V)} {ob : List Ob} {k : List (Nat × V) → List Ob → Option α} (h : drawn E pl id ops sl ob k = some r) (hd : ∀ o ∈ ops.toList, ∀ t, o.dst = some t → t < n)
    {f : Fz} {N : Nm} {Es : List (Nat × Value)} {L : List Ent} {a : Act} {w : World} (hS : SlR f N sl Es) (hO : OLR f N ob L) (hn : Nb N ob) (hs : St n w0 f L Es a w) {Qe : Nat → AP} {Qr : AP} {Qg : Nat → AP}
    (hK : EndK r n w0 f ops Es (L.drop ob.length) k Q) : W P (.region id ops true) Q Qe Qr Qg a w := by
  obtain ⟨p, _, h1⟩ := zaa h
  obtain ⟨h2, h3⟩ := zb0 h1
  have h2 : (Region.noSelect ops && planN ops (masksN ops) (brks p.1) ops.size (toPT (2 * p.1.length) p.1 [] []) 0) = true := h2
  have hR0 : KR (ptd sl ob p.2) ob L ob L := fun j _ hj => ⟨hj, rfl⟩
  refine zsv (F := FamK w0 f (kL (ptd sl ob p.2) ob L)) (toPT (2 * p.1.length) p.1 [] []) hE.mixed h2 hs.cw.drew ?_
  exact runD_ok hE hd hK (hO.keepK _) ⟨w, hR0.cw (.refl f) hs.cw⟩ _ h3 (fun A i q B e => zw2 e) (by simp) (by simp) _ f N Es L a (fun _ => 0) ⟨hs.ev, .refl f, hS, hS, hO, hn, rfl, fun _ _ => rfl, hR0, .refl N, by simp, by simp, List.nodup_nil, by simp, by simp, by simp, by simp⟩
end
end Go.V
