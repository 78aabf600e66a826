/-
  Walks and laws of this seat; the base is the text Base.
-/
import Derived.Test.YteicdfkmpnmkmaaGreatDK
namespace Go.D
open Go.RowKit Go.Sl
/-- What a known call does: it answers so, and leaves what there was. -/
def Still (P : Program) (f : Nat) (ss : List (List Nat)) (c : C) : Prop := Has P f ∧ ∀ (w : World) (args : List Value), VL (fun _ => none) (ss.map fun l => .c (.s l)) args →
  Calls P f args.toArray w fun e w' => ∃ u, e = .returned u ∧ (∀ σ, CC σ c u) ∧ w'.os = w.os ∧ w'.tape = w.tape ∧ w'.output = w.output ∧ w.heap.size ≤ w'.heap.size ∧ ∀ b < w.heap.size, w'.heap[b]? = w.heap[b]?
theorem eqNs_ok : ∀ {a b : List Nat}, eqNs a b = true → a = b
  | [], [], _ => rfl
  | [], _ :: _, h => by cases h
  | _ :: _, [], h => by cases h
  | x :: a, y :: b, h => by
    have h : (Bool.rec false (eqNs a b) (Nat.beq x y) : Bool) = true := h
    cases q : Nat.beq x y with
    | false => rw [q] at h; cases h
    | true => rw [q] at h; rw [Nat.eq_of_beq_eq_true q, eqNs_ok (h : eqNs a b = true)]
theorem isS_ok {s : List Nat} {v : V} (h : isS s v = true) : v = .c (.s s) := by
  cases v with
  | c x => cases x with
    | s l => rw [eqNs_ok (h : eqNs s l = true)]
    | _ => cases h
  | _ => cases h
theorem avB_ok : ∀ {ss : List (List Nat)} {av : List V}, avB ss av = true → av = ss.map fun l => .c (.s l)
  | [], [], _ => rfl
  | [], _ :: _, h => by cases h
  | _ :: _, [], h => by cases h
  | s :: ss, v :: av, h => by
    have h : (Bool.rec false (avB ss av) (isS s v) : Bool) = true := h
    cases q : isS s v with
    | false => rw [q] at h; cases h
    | true => rw [q] at h; rw [isS_ok q, avB_ok (h : avB ss av = true)]; rfl
theorem memoK_inv {α : Type} {f : Nat} {av : List V} {K : C → Option α} {z : Option α} {r : α} : ∀ {mm : List (Nat × List (List Nat) × C)}, memoK mm f av K z = some r → z = some r ∨ ∃ ss c, (f, ss, c) ∈ mm ∧ av = (ss.map fun l => .c (.s l)) ∧ K c = some r
  | [], h => .inl h
  | (g, ss, c) :: mm, h => by
    have h : (Bool.rec (memoK mm f av K z) (Bool.rec (memoK mm f av K z) (K c) (avB ss av)) (Nat.beq g f) : Option α) = some r := h
    have go : memoK mm f av K z = some r → z = some r ∨ ∃ ss' c', (f, ss', c') ∈ (g, ss, c) :: mm ∧ av = (ss'.map fun l => .c (.s l)) ∧ K c' = some r := fun h => by
      rcases memoK_inv h with h1 | ⟨s1, c1, m1, e1, k1⟩
      · exact .inl h1
      · exact .inr ⟨s1, c1, List.mem_cons_of_mem _ m1, e1, k1⟩
    rcases rec_t h with ⟨q1, h1⟩ | ⟨_, h1⟩
    · rcases rec_t h1 with ⟨q2, h2⟩ | ⟨_, h2⟩
      · exact .inr ⟨ss, c, by simp [Nat.eq_of_beq_eq_true q1], avB_ok q2, h2⟩
      · exact go h2
    · exact go h1

/-- The tables say what is so. -/
structure EnvOk (P : Program) (E : Env) : Prop where
  mm : ∀ f ss c, (f, ss, c) ∈ E.mm → Still P f ss c
  tt : ∀ t ti, E.tt.get t = some ti → TIok P t ti
  ft : ∀ f fi, E.ft.get f = some fi → P.funcs[f]? = some fi.fn ∧ (fi.fn.name == "runtime.NumGoroutine") = false ∧ (∀ c, fi.fn.body = some c → CodeOk fi.fn.ntmps fi c) ∧ ∀ x ∈ fi.fn.results.toList, ∀ y, (x = .tmp y ∨ ∃ ty, x = .cell y ty) → kept fi.mask y = true
  mixed : P.follows .mixedOrders = true

theorem HR.drew {w0 w : World} {Φ : Fz} {σ : Sg} {h : HS} (H : HR w0 Φ σ h w) : HR w0 Φ σ h { w with drawn := w.drawn + 1 } :=
  ⟨H.cw.drew, fun a o ha ho => by
    obtain ⟨b, x, h1, h2, h3, h4⟩ := H.live a o ha ho
    exact ⟨b, x, h1, h2, h3, h4.same rfl⟩, H.sep⟩

theorem strs_any {σ τ : Sg} : ∀ {ss : List (List Nat)} {vs : List Value}, VL σ (ss.map fun l => .c (.s l)) vs → VL τ (ss.map fun l => .c (.s l)) vs
  | [], [], _ => trivial
  | _ :: _, _ :: _, ⟨h1, h2⟩ => ⟨h1, strs_any h2⟩
  | [], _ :: _, h => h.elim
  | _ :: _, [], h => h.elim
theorem Cw_more {w0 w w' : World} {Φ : Fz} (H : Cw w0 Φ [] w) (h1 : w'.os = w.os) (h2 : w'.tape = w.tape) (h3 : w'.output = w.output) (h4 : w.heap.size ≤ w'.heap.size) (h5 : ∀ b < w.heap.size, w'.heap[b]? = w.heap[b]?) : Cw w0 Φ [] w' :=
  ⟨h1.trans H.os, h2.trans H.tape, h3.trans H.output, Nat.le_trans H.size h4, fun b o hb => by
    have := H.frz b o hb
    rw [h5 b (Array.getElem?_eq_some_iff.1 this).1]
    exact this, fun e he => by simp at he, fun e he => by simp at he, fun i j x y hi => by simp at hi⟩
theorem HR.more {w0 w w' : World} {Φ : Fz} {σ : Sg} {h : HS} (H : HR w0 Φ σ h w) (h1 : w'.os = w.os) (h2 : w'.tape = w.tape) (h3 : w'.output = w.output) (h4 : w.heap.size ≤ w'.heap.size) (h5 : ∀ b < w.heap.size, w'.heap[b]? = w.heap[b]?) : HR w0 Φ σ h w' :=
  ⟨Cw_more H.cw h1 h2 h3 h4 h5, fun a o ha ho => by
    obtain ⟨b, x, g1, g2, g3, g4⟩ := H.live a o ha ho
    exact ⟨b, x, g1, g2, Nat.lt_of_lt_of_le g3 h4, g4.same (h5 b g3)⟩, H.sep⟩

section
variable {α : Type} {P : Program} {E : Env}
theorem callBy_ok (hE : EnvOk P E) {run : Code → X α} (hx : XOK P E run) : CallOK P (callBy run E) := fun lim f av h n k r hN e => by
  rcases memoK_inv e with e | ⟨ss, c, hm, rfl, hk⟩
  case inr =>
    obtain ⟨hs, hc⟩ := hE.mm f ss c hm
    refine ⟨_, h, n, hk, ⟨Nat.le_refl _, fun _ _ => rfl, hN, fun w0 Φ σ w args hfree ha H => ?_⟩, hs⟩
    refine (hc w args (strs_any ha)).mono ?_
    rintro e w' ⟨u, rfl, hu, h1, h2, h3, h4, h5⟩
    exact ⟨u, σ, rfl, Out.refl _ _ _, hu σ, H.more h1 h2 h3 h4 h5⟩
  obtain ⟨fi, h1, e1⟩ := oc_inv e
  obtain ⟨b, h2, e2⟩ := oc_inv e1
  rw [lenN_eq] at e2
  obtain ⟨h3, e3⟩ := iff_inv e2
  have h3 : av.length ≤ fi.fn.ntmps := ble_iff h3
  obtain ⟨t, h4, e4⟩ := layArgs_inv e3
  obtain ⟨hf, hname, hcode, hres⟩ := hE.ft f fi h1
  obtain ⟨ex, t', h', n', e5, hR⟩ := hx b fi fi.fn.ntmps lim t h n _ r (hcode b h2) hN e4
  have hend : (ex = .normal ∨ ex = .ret) ∧ ended E fi.fn.results.toList t' h' n' k = some r := by
    rcases Ex_rec e5 with ⟨rfl, e6⟩ | ⟨i, rfl, e6⟩ | ⟨l, rfl, e6⟩ | ⟨rfl, e6⟩
    · exact ⟨.inl rfl, e6⟩
    · exact nn e6
    · exact nn e6
    · exact ⟨.inr rfl, e6⟩
  obtain ⟨hex, e6⟩ := hend
  obtain ⟨v, e7, hv⟩ := ended_inv hE.tt (m := fi.mask) e6 hres
  refine ⟨v, h', n', e7, ⟨hR.le, hR.keep, hR.nn, fun w0 Φ σ w args hfree ha H => ?_⟩, ⟨fi.fn, hf, by simp [h2], hname⟩⟩
  have hal := ha.len
  refine calls_of_wp hf h2 (wpIn_wide (n := 0).1 (wpIn_mono (hR.sem w0 Φ σ { tmps := args.toArray ++ Array.replicate (fi.fn.ntmps - args.toArray.size) undef, defers := [] } w hfree ⟨?_, rfl, fun x u hx => ?_⟩ H none []) fun e a w q => ?_))
  · simp; omega
  · have hx : (Bool.rec (lookL [] x) (t.get x) (kept fi.mask x) : Option V) = some u := hx
    rcases rec_t hx with ⟨_, hx⟩ | ⟨_, hx⟩
    · rw [h4] at hx
      by_cases hh : 0 ≤ x ∧ x < 0 + av.length
      · rw [if_pos hh, Nat.sub_zero] at hx
        obtain ⟨w, g1, g2⟩ := ha.get hx
        have hlt : x < args.length := (List.getElem?_eq_some_iff.1 g1).1
        refine ⟨w, ?_, g2⟩
        rw [Array.getElem?_append_left (by simpa using hlt)]
        simpa using g1
      · rw [if_neg hh] at hx
        exact nn hx
    · exact nn hx
  · obtain ⟨b, rfl, he, σ', ho, hs, H'⟩ := q
    obtain ⟨u, g1, g2⟩ := hv _ w0 Φ σ' b w hs H'
    rcases hex with rfl | rfl
    · have he : e = .normal := he
      subst he
      exact ⟨rfl, u, g2, u, σ', rfl, ho, g1, H'⟩
    · have he : e = .ret := he
      subst he
      exact ⟨rfl, u, g2, u, σ', rfl, ho, g1, H'⟩

/-- What a loop does. -/
structure LR (P : Program) (N m lim : Nat) (b : Code) (t t' : Tr V) (h h' : H) (n n' : Nat) (ex : Ex) : Prop where
  le : n ≤ n'
  keep : Kp lim n' h.get h'.get
  nn : Nn n' h'.get
  sem : ∃ q, ∀ (w0 : World) (Φ : Fz) (σ : Sg) (a : Act) (w : World), Free σ n n' → SL N σ (opT m t []) a → HR w0 Φ σ h.get w →
    crounds P b (QS ex fun a' w' => ∃ σ', Out σ σ' n n' ∧ SL N σ' (opT m t' []) a' ∧ HR w0 Φ σ' h'.get w') q a w
theorem crounds_mono {c : Code} {Q Q' : Exit → AP} (hq : ∀ e a w, Q e a w → Q' e a w) : ∀ {m : Nat} {a : Act} {w : World}, crounds P c Q m a w → crounds P c Q' m a w
  | 0, a, w, h => (h none []).elim
  | m + 1, a, w, h => fun r M => by
    have key : ∀ m a w, Code.roundsIn (wideR r) 0 P c (upM M Q) m a w → Code.roundsIn (wideR r) 0 P c (upM M Q') m a w := by
      intro m
      induction m with
      | zero => intro a w h; exact h
      | succ m ih =>
        intro a w h
        refine wpIn_mono (show c.wpIn (wideR r) 0 P (Exit.then (Code.roundsIn (wideR r) 0 P c (upM M Q) m) (upM M Q)) a w from h) fun e a w q => ?_
        cases e with
        | normal => exact ih a w q
        | _ => obtain ⟨b, h1, h2⟩ := q; exact ⟨b, h1, hq _ _ _ h2⟩
    exact key _ _ _ (h r M)

theorem region_ok (hE : EnvOk P E) {call : CallT α} (hc : CallOK P call) {fi : FI} {N lim id : Nat} {ops : Array Oper} {d : Bool} {t : Tr V} {h : H} {n : Nat} {k : KX α} {r : α} (hok : CodeOk N fi (.region id ops d)) (hN : Nn n h.get)
    (e : (Bool.rec (runOps call E fi.mask lim ops.toList ops.toList t [] h n fun t h n => k .normal t h n) (oc (fi.dm.get id) fun ms => runDrawn call E fi.mask lim ops.toList ops.toList ms 0 [] [] t [] h n fun t h n => k .normal t h n) d : Option α) = some r) :
    ∃ t' h' n', k .normal t' h' n' = some r ∧ XR P N fi.mask lim (.region id ops d) t t' h h' n n' .normal := by
  obtain ⟨l⟩ := ops
  rcases rec_t e with ⟨rfl, e1⟩ | ⟨rfl, e1⟩
  · obtain ⟨ms, h1, e2⟩ := oc_inv e1
    have hreg := hok.2 rfl ms h1
    obtain ⟨L, t', h', n', e3, hD⟩ := runDrawn_ok hE.tt hc hreg l ms 0 [] [] t [] h n _ r h.get [] (fun q => by simp) (fun q => by simp) ⟨fun _ hp => by simp at hp, fun _ _ => rfl, .nil⟩ hN hN (fun _ _ hp => by simp at hp) e2
    refine ⟨t', h', n', e3, hD.le, hD.keep, hD.nn, fun w0 Φ σ a w hf hs H => ?_⟩
    obtain ⟨lce, hrun⟩ := hD.run
    have hW : W P (.region id ⟨l⟩ true) (fun a' w' => ∃ σ', Out σ σ' n n' ∧ SL N σ' (opT fi.mask t' []) a' ∧ HR w0 Φ σ' h'.get w') (fun _ _ _ => False) (fun _ _ => False) (fun _ _ _ => False) a w := by
      refine W_any hE.mixed (any_ok (ms := mkOf ms) (fun i o ho => hreg.edge i o (by simpa using ho)) (fun i o j ho => hreg.mask i o j (by simpa using ho)) _ L _ (opT fi.mask t []) h.get σ a _ (by simpa using hD.len) (by simp) (fun i hi => ?_) (fun e he => ?_) hD.pw (fun i j hi _ => ?_) hrun hs H.drew (fun a w σ' k1 k2 k3 k4 => ⟨σ', ⟨k1, fun b hb => k2 b fun e he => ?_⟩, k3.forget, k4⟩))
      · have hi' : i < l.length := by simpa using hi
        have := (hD.idx i).2 ⟨Nat.zero_le _, by omega⟩
        constructor
        · intro _; exact this
        · intro _; simp [Array.getD_eq_getD_getElem?, hi']
      · obtain ⟨q1, q2, q3, q4, q5⟩ := hD.ok e he
        have := (hD.idx e.idx).1 ⟨e, he, rfl⟩
        exact ⟨by simp; omega, q1, q2, fun b hb hb2 => hf b (by omega) (by omega)⟩
      · exfalso
        by_cases hl : i < l.length
        · simp [Array.getD_eq_getD_getElem?, hl] at hi
        · simp [Array.getD_eq_getD_getElem?, hl] at hi
      · obtain ⟨q1, q2, q3, q4, q5⟩ := hD.ok e he
        omega
    exact cwp_mono hW fun e a w q => by cases e <;> first | exact ⟨rfl, q⟩ | exact q.elim
  · obtain ⟨t', h', n', e2, q1, q2, q3, q4⟩ := runOps_ok hE.tt hc (N := N) l t [] h n _ r hok.1 hN e1
    refine ⟨t', h', n', e2, q1, q2, q3, fun w0 Φ σ a w hf hs H => ?_⟩
    have hW := W_region (id := id) (Qe := fun _ _ _ => False) (Qr := fun _ _ => False) (Qg := fun _ _ _ => False) (q4 w0 Φ σ a w hf hs H)
    exact cwp_mono hW fun e a w q => by cases e <;> first | exact ⟨rfl, q⟩ | exact q.elim

theorem exec_ok (hE : EnvOk P E) : ∀ n : Nat, XOK (α := α) P E (exec n) ∧ ∀ (b : Code) (fi : FI) (N lim : Nat) (t : Tr V) (h : H) (nn : Nat) (k : KX α) (r : α), CodeOk N fi b → Nn nn h.get → exec n (.loop b) E fi lim t h nn k = some r → ∃ ex t' h' n', k ex t' h' n' = some r ∧ LR P N fi.mask lim b t t' h h' nn n' ex
  | 0 => ⟨fun c fi N lim t h n k r _ _ e => nn e, fun b fi N lim t h n k r _ _ e => nn e⟩
  | f + 1 => by
    obtain ⟨ih, ihl⟩ := exec_ok hE f
    have hloop : ∀ (b : Code) (fi : FI) (N lim : Nat) (t : Tr V) (h : H) (n : Nat) (k : KX α) (r : α), CodeOk N fi b → Nn n h.get → exec (f + 1) (.loop b) E fi lim t h n k = some r → ∃ ex t' h' n', k ex t' h' n' = some r ∧ LR P N fi.mask lim b t t' h h' n n' ex := fun b fi N lim t h n k r hok hN e => by
      obtain ⟨ex, t1, h1, n1, e1, A⟩ := ih b fi N lim t h n _ r hok hN (e : exec f b E fi lim t h n _ = some r)
      have leave : ex ≠ .normal → k ex t1 h1 n1 = some r → ∃ ex t' h' n', k ex t' h' n' = some r ∧ LR P N fi.mask lim b t t' h h' n n' ex := fun hex e2 =>
        ⟨ex, t1, h1, n1, e2, A.le, A.keep, A.nn, 1, fun w0 Φ σ a w hf hs H => crounds_succ (cwp_mono (A.sem w0 Φ σ a w hf hs H) fun e a1 w1 hq => then_QS hq (fun h => absurd h hex) (fun _ hS => ⟨hq.1, hS⟩))⟩
      rcases Ex_rec e1 with ⟨rfl, e2⟩ | ⟨i, rfl, e2⟩ | ⟨l, rfl, e2⟩ | ⟨rfl, e2⟩
      · obtain ⟨ex, t2, h2, n2, e3, B⟩ := ihl b fi N lim t1 h1 n1 k r hok A.nn e2
        obtain ⟨q, hq⟩ := B.sem
        exact ⟨ex, t2, h2, n2, e3, Nat.le_trans A.le B.le, A.keep.trans B.keep B.le, B.nn, q + 1, fun w0 Φ σ a w hf hs H => crounds_succ (cwp_mono (A.sem w0 Φ σ a w (hf.less B.le) hs H) fun e a1 w1 hq1 => then_QS hq1
          (fun _ ⟨σ1, o1, s1, H1⟩ => crounds_mono (fun e a2 w2 ⟨he, σ2, o2, s2, H2⟩ => ⟨he, σ2, o1.trans o2 A.le B.le, s2, H2⟩) (hq w0 Φ σ1 a1 w1 (hf.after o1 A.le) s1 H1)) (fun h => absurd rfl h))⟩
      · exact leave (by simp) e2
      · exact leave (by simp) e2
      · exact leave (by simp) e2
    refine ⟨fun c fi N lim t h n k r hok hN e => ?_, hloop⟩
    cases c with
    | skip => exact ⟨.normal, t, h, n, e, XR.refl hN fun S a w hS _ _ => wpIn_skip ⟨_, rfl, rfl, hS⟩⟩
    | label l => exact ⟨.normal, t, h, n, e, XR.refl hN fun S a w hS _ _ => wpIn_label ⟨_, rfl, rfl, hS⟩⟩
    | exit i => exact ⟨.exit i, t, h, n, e, XR.refl hN fun S a w hS _ _ => wpIn_exit ⟨_, rfl, rfl, hS⟩⟩
    | goto l => exact ⟨.goto l, t, h, n, e, XR.refl hN fun S a w hS _ _ => wpIn_goto ⟨_, rfl, rfl, hS⟩⟩
    | ret => exact ⟨.ret, t, h, n, e, XR.refl hN fun S a w hS _ _ => wpIn_ret ⟨_, rfl, rfl, hS⟩⟩
    | refuse _ => exact nn e
    | rangeFunc _ _ _ _ => exact nn e
    | region id ops d =>
      obtain ⟨t', h', n', e1, H⟩ := region_ok hE (callBy_ok hE ih) hok hN e
      exact ⟨_, t', h', n', e1, H⟩
    | seq x y =>
      obtain ⟨ex, t1, h1, n1, e1, A⟩ := ih x fi N lim t h n _ r hok.1 hN (e : exec f x E fi lim t h n _ = some r)
      have hs : ∀ (Q : Exit → AP) a w, cwp P x (Exit.then (cwp P y Q) Q) a w → cwp P (.seq x y) Q a w := fun Q a w h => cwp_seq h
      rcases Ex_rec e1 with ⟨rfl, e2⟩ | ⟨i, rfl, e2⟩ | ⟨l, rfl, e2⟩ | ⟨rfl, e2⟩
      · obtain ⟨ex, t2, h2, n2, e3, B⟩ := ih y fi N lim t1 h1 n1 k r hok.2 A.nn e2
        exact ⟨ex, t2, h2, n2, e3, A.seq B hs⟩
      · exact ⟨_, t1, h1, n1, e2, A.leave (by simp) hs⟩
      · exact ⟨_, t1, h1, n1, e2, A.leave (by simp) hs⟩
      · exact ⟨_, t1, h1, n1, e2, A.leave (by simp) hs⟩
    | cond c x y =>
      obtain ⟨v, hv, e1⟩ := opd_inv (e : opd fi.mask t [] c _ = some r)
      obtain ⟨q, rfl, e2⟩ := boolK_inv e1
      have hev : ∀ (σ : Sg) (a : Act), SL N σ (opT fi.mask t []) a → a.eval c = .bool q := fun σ a hs => hv.ev hs
      rcases rec_t e2 with ⟨rfl, e3⟩ | ⟨rfl, e3⟩
      · obtain ⟨ex, t1, h1, n1, e4, A⟩ := ih x fi N lim t h n k r hok.1 hN e3
        exact ⟨ex, t1, h1, n1, e4, A.le, A.keep, A.nn, fun w0 Φ σ a w hf hs H r M => wpIn_cond_split (a := withM M a) (t := true) (hev σ a hs) (fun _ => A.sem w0 Φ σ a w hf hs H r M) (fun h => by cases h)⟩
      · obtain ⟨ex, t1, h1, n1, e4, A⟩ := ih y fi N lim t h n k r hok.2 hN e3
        exact ⟨ex, t1, h1, n1, e4, A.le, A.keep, A.nn, fun w0 Φ σ a w hf hs H r M => wpIn_cond_split (a := withM M a) (t := false) (hev σ a hs) (fun h => by cases h) (fun _ => A.sem w0 Φ σ a w hf hs H r M)⟩
    | block id b =>
      obtain ⟨ex, t1, h1, n1, e1, A⟩ := ih b fi N lim t h n _ r hok hN (e : exec f b E fi lim t h n _ = some r)
      have fin : ∀ ex', k ex' t1 h1 n1 = some r → (∀ e, ExR ex e → ExR ex' (match e with | .exit i => if i = id then .normal else .exit i | e => e)) → ∃ ex t' h' n', k ex t' h' n' = some r ∧ XR P N fi.mask lim (.block id b) t t' h h' n n' ex := fun ex' e2 hx =>
        ⟨ex', t1, h1, n1, e2, A.le, A.keep, A.nn, fun w0 Φ σ a w hf hs H r M => by
          refine wpIn_block (wpIn_mono (A.sem w0 Φ σ a w hf hs H r M) ?_)
          rintro e a w ⟨b', rfl, q, hS⟩
          have := hx e q
          cases e <;> simp only [Exit.inBlock] at this ⊢ <;> first | exact ⟨b', rfl, this, hS⟩ | skip
          split
          · rename_i hi; rw [if_pos hi] at this; exact ⟨b', rfl, this, hS⟩
          · rename_i hi; rw [if_neg hi] at this; exact ⟨b', rfl, this, hS⟩⟩
      rcases Ex_rec e1 with ⟨rfl, e2⟩ | ⟨i, rfl, e2⟩ | ⟨l, rfl, e2⟩ | ⟨rfl, e2⟩
      · exact fin _ e2 fun e he => by have he : e = .normal := he; subst he; rfl
      · rcases rec_t e2 with ⟨hi, e3⟩ | ⟨hi, e3⟩
        · have hi := beq_iff' hi
          exact fin _ e3 fun e he => by have he : e = .exit i := he; subst he; simp [hi, ExR]
        · have hi := beq_not hi
          exact fin _ e3 fun e he => by have he : e = .exit i := he; subst he; simp [hi, ExR]
      · exact fin _ e2 fun e he => by have he : e = .goto l := he; subst he; rfl
      · exact fin _ e2 fun e he => by have he : e = .ret := he; subst he; rfl
    | loop b =>
      obtain ⟨ex, t', h', n', e1, A⟩ := hloop b fi N lim t h n k r hok hN e
      obtain ⟨q, hq⟩ := A.sem
      exact ⟨ex, t', h', n', e1, A.le, A.keep, A.nn, fun w0 Φ σ a w hf hs H => cwp_loop (hq w0 Φ σ a w hf hs H)⟩
    | scope b =>
      obtain ⟨ex, t1, h1, n1, e1, A⟩ := ih b fi N lim t h n _ r hok hN (e : exec f b E fi lim t h n _ = some r)
      have fin : (∀ l, ex ≠ .goto l) → k ex t1 h1 n1 = some r → ∃ ex t' h' n', k ex t' h' n' = some r ∧ XR P N fi.mask lim (.scope b) t t' h h' n n' ex := fun hx e2 =>
        ⟨ex, t1, h1, n1, e2, A.le, A.keep, A.nn, fun w0 Φ σ a w hf hs H => by
          have hA := A.sem w0 Φ σ a w hf hs H
          generalize (fun a' w' => ∃ σ', Out σ σ' n n1 ∧ SL N σ' (opT fi.mask t1 []) a' ∧ HR w0 Φ σ' h1.get w') = S at hA ⊢
          have hW : W P (.scope b) (fun a w => ex = .normal ∧ S a w) (fun i a w => ex = .exit i ∧ S a w) (fun a w => ex = .ret ∧ S a w) (fun _ _ _ => False) a w :=
            W_scope (fun _ _ _ _ => False) (fun G _ _ => cwp_mono hA fun e a w ⟨he, hS⟩ => by
              cases ex <;> simp only [ExR] at he <;> subst he
              · exact ⟨rfl, hS⟩
              · exact ⟨rfl, hS⟩
              · exact absurd rfl (hx _)
              · exact ⟨rfl, hS⟩) (fun l k a w rest _ hJ => hJ.elim)
          exact cwp_mono hW fun e a w q => by
            cases e with
            | normal => obtain ⟨rfl, hS⟩ := q; exact ⟨rfl, hS⟩
            | exit i => obtain ⟨rfl, hS⟩ := q; exact ⟨rfl, hS⟩
            | ret => obtain ⟨rfl, hS⟩ := q; exact ⟨rfl, hS⟩
            | _ => exact q.elim⟩
      rcases Ex_rec e1 with ⟨rfl, e2⟩ | ⟨i, rfl, e2⟩ | ⟨l, rfl, e2⟩ | ⟨rfl, e2⟩
      · exact fin (fun l h => by cases h) e2
      · exact fin (fun l h => by cases h) e2
      · exact nn e2
      · exact fin (fun l h => by cases h) e2

/-- A closed run: what the executor says, the program does. -/
theorem run_still (hE : EnvOk P E) {f fuel : Nat} {ss : List (List Nat)} {c : C} {ok : V → H → Nat → Option Unit} (hok : ∀ v h n, ok v h n = some () → v = .c c) (hc : ∀ σ τ v, CC σ c v → CC τ c v) (e : run fuel E 0 f (ss.map fun l => .c (.s l)) .e 0 ok = some ()) : Still P f ss c := by
  obtain ⟨v, h', n', e1, hR, hH⟩ := callBy_ok hE (exec_ok hE fuel).1 0 f _ .e 0 ok () (fun _ _ => rfl) e
  have hv := hok _ _ _ e1
  subst hv
  refine ⟨hH, fun w args ha => ?_⟩
  refine (hR.sem w (fun b => w.heap[b]?) (fun _ => none) w args (fun _ _ _ => rfl) ha ⟨⟨rfl, rfl, rfl, Nat.le_refl _, fun b o h => h, fun e he => by simp at he, fun e he => by simp at he, fun i j x y hi => by simp at hi⟩, fun a o ha => (by cases ha), fun a a' o o' b x x' ha => (by cases ha)⟩).mono ?_
  rintro e w' ⟨u', σ', rfl, _, h2, h3⟩
  refine ⟨u', rfl, fun σ => hc _ _ _ h2, h3.cw.os, h3.cw.tape, h3.cw.output, h3.cw.size, fun k hk => ?_⟩
  rw [h3.cw.frz k w.heap[k] (by simp [hk])]
  simp [hk]
end
theorem Still.gives {P : Program} {f : Nat} {c : C} (h : Still P f [] c) {u : Value} (hu : ∀ σ v, CC σ c v → v = u) (fz : Fz) : Gives P f [] fz u := fun w0 L w hC => by
  refine (h.2 w [] trivial).mono ?_
  rintro e w' ⟨u', rfl, h2, h3, h4, h5, h6, h7⟩
  rw [hu _ u' (h2 fun _ => none)]
  exact ⟨rfl, hC.step ⟨h3, h4, h5, h6, fun k hk _ => by rw [h7 k hk]⟩⟩
end Go.D
