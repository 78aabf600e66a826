/-
  Walks and laws of this seat.
-/
import Derived.Test.YteicdfkmpnmkmaaGreatVQ
namespace Go.V
set_option linter.unusedVariables false
set_option linter.unusedSimpArgs false
set_option linter.unusedSectionVars false
attribute [local irreducible] opd opr
open Go.RowKit Go.Sl
variable [F0]
def DOk (nt : Nat) (fz : List Nat) : Code → Prop
  | .region _ ops _ => ∀ o ∈ ops.toList, ∀ t, o.dst = some t → t < nt ∧ t ∉ fz
  | .seq a b => DOk nt fz a ∧ DOk nt fz b
  | .cond _ a b => DOk nt fz a ∧ DOk nt fz b
  | .block _ a => DOk nt fz a
  | .loop a => DOk nt fz a
  | _ => True
def dB (nt : Nat) (fz : List Nat) : Code → Bool
  | .region _ ops _ => ops.toList.all fun o => match o.dst with
    | some t => Nat.blt t nt && fz.all fun s => !Nat.beq s t
    | none => true
  | .seq a b => dB nt fz a && dB nt fz b
  | .cond _ a b => dB nt fz a && dB nt fz b
  | .block _ a => dB nt fz a
  | .loop a => dB nt fz a
  | _ => true
theorem ycd {nt : Nat} {fz : List Nat} : ∀ {c : Code}, dB nt fz c = true → DOk nt fz c
  | .region _ ops _, h => fun o ho t ht => by
    have := List.all_eq_true.1 h o ho
    simp only [ht, Bool.and_eq_true] at this
    refine ⟨Nat.blt_eq.mp this.1, fun hm => ?_⟩
    have := List.all_eq_true.1 this.2 t hm
    simp at this
  | .seq a b, h => by simp only [dB, Bool.and_eq_true] at h; exact ⟨ycd h.1, ycd h.2⟩
  | .cond _ a b, h => by simp only [dB, Bool.and_eq_true] at h; exact ⟨ycd h.1, ycd h.2⟩
  | .block _ a, h => ycd (c := a) h
  | .loop a, h => ycd (c := a) h
  | .skip, _ => trivial
  | .rangeFunc _ _ _ _, _ => trivial
  | .exit _, _ => trivial
  | .scope _, _ => trivial
  | .label _, _ => trivial
  | .goto _, _ => trivial
  | .ret, _ => trivial
  | .refuse _, _ => trivial
def CtxOk (body : Code) : List Fr → Prop
  | [] => True
  | .seq b p :: r => at_ body p = some (b, r) ∧ CtxOk body r
  | .block _ :: r => CtxOk body r
  | .loop b p :: r => at_ body p = some (b, .loop b p :: r) ∧ CtxOk body r
theorem zu3 {body : Code} {d : Nat} {p : List Nat} {c c' : Code} {ctx ctx' : List Fr} (h : at_ body p = some (c, ctx)) (hs : into c d p ctx = some (c', ctx')) : at_ body (d :: p) = some (c', ctx') := by
  unfold at_
  rw [h]
  exact hs
theorem at_ok {body : Code} {nt : Nat} {fz : List Nat} (hd : DOk nt fz body) : ∀ {p : List Nat} {c : Code} {ctx : List Fr}, at_ body p = some (c, ctx) → DOk nt fz c ∧ CtxOk body ctx
  | [], c, ctx, h => by
    simp only [at_, Option.some.injEq, Prod.mk.injEq] at h
    obtain ⟨rfl, rfl⟩ := h
    exact ⟨hd, trivial⟩
  | d :: p, c, ctx, h => by
    have h0 := h
    unfold at_ at h
    obtain ⟨⟨c1, ctx1⟩, h1, h2⟩ := zab h
    obtain ⟨g1, g2⟩ := at_ok hd h1
    change into c1 d p ctx1 = some (c, ctx) at h2
    unfold into at h2
    split at h2 <;> first | (cases h2; done) | skip
    all_goals
      simp only [Option.some.injEq, Prod.mk.injEq] at h2
      obtain ⟨rfl, rfl⟩ := h2
    · exact ⟨g1.1, zu3 h1 rfl, g2⟩
    · exact ⟨g1.2, g2⟩
    · exact ⟨g1.1, g2⟩
    · exact ⟨g1.2, g2⟩
    · exact ⟨g1, g2⟩
    · exact ⟨g1, h0, g2⟩
theorem ygq : ∀ {a b : List Nat}, eqNs a b = true → a = b
  | [],[], _ => rfl
  | x :: a, y :: b, h => by
    simp only [eqNs, Bool.and_eq_true] at h
    rw [Nat.eq_of_beq_eq_true h.1, ygq h.2]
  | [], _ :: _, h => by cases h
  | _ :: _,[], h => by cases h
theorem fnd_ok {X : Type} : ∀ {l : List (Cut X)} {i : Nat} {c : Cut X}, fnd l i = some c → c ∈ l
  | [], _, _, h => by cases h
  | x :: l, i, c, h => by
    simp only [fnd] at h
    cases q : Nat.beq x.rid i with
    | true => rw [q] at h; obtain rfl := Option.some.inj h; simp
    | false => rw [q] at h; exact List.mem_cons_of_mem _ (fnd_ok h)
section
variable {P : Program} {E : Env} {x : Fx} {body : Code} {nt : Nat} {w0 : World} {f0 : Fz} {Lf : List Ent} {pv : List (Nat × Value)} {F : AP} {r : Pr Md.T x.F.ms}
def Stt (nt : Nat) (w0 : World) (f0 : Fz) (Lf : List Ent) (pv : List (Nat × Value)) (sl : List (Nat × V)) (ob : List Ob) (a : Act) (w : World) : Prop :=
  ∃ f N Es L, Fz.le f0 f ∧ SlR f N sl Es ∧ OLR f N ob L ∧ Nb N ob ∧ L.drop ob.length = Lf ∧ (∀ p ∈ pv, Sl.look Es p.1 = some p.2) ∧ St nt w0 f L Es a w
theorem yfz : ∀ {ts : List Nat} {sl : List (Nat × V)} {α : Type} {K : List V → Option α} {r : α}, lks sl ts K = some r → ∃ vs, K vs = some r ∧ vs.length = ts.length ∧ ∀ (f : Fz) (N : Nm) (Es : List (Nat × Value)), SlR f N sl Es → ∃ us, VLR f N vs us ∧ ∀ (i t : Nat), ts[i]? = some t → ∃ u, us[i]? = some u ∧ Sl.look Es t = some u
  | [], sl, α, K, r, h => ⟨[], h, rfl, fun f N Es hS => ⟨[], trivial, by simp⟩⟩
  | t :: ts, sl, α, K, r, h => by
    obtain ⟨v, h1, h2⟩ := zab (h : (lk sl t).bind _ = some r)
    obtain ⟨vs, h3, hl, H⟩ := yfz h2
    refine ⟨v :: vs, h3, by simp [hl], fun f N Es hS => ?_⟩
    obtain ⟨u, e1, e2⟩ := hS t v h1
    obtain ⟨us, e3, e4⟩ := H f N Es hS
    refine ⟨u :: us, ⟨e2, e3⟩, fun i s hi => ?_⟩
    cases i with
    | zero => simp at hi; subst hi; exact ⟨u, rfl, e1⟩
    | succ i => simpa using e4 i s (by simpa using hi)
theorem ybe {f : Fz} {N : Nm} {Es : List (Nat × Value)} : ∀ {ts : List Nat} {vs : List V} {us : List Value}, VLR f N vs us → (∀ (i t : Nat), ts[i]? = some t → ∀ u, us[i]? = some u → Sl.look Es t = some u) → SlR f N (ts.zip vs) Es
  | [], _, _, _, _ => fun t v h => by cases h
  | _ :: _,[], _, _, _ => fun t v h => by cases h
  | t :: ts, v :: vs, u :: us, ⟨h1, h2⟩, h => by
    have ih := ybe (ts := ts) h2 fun i t hi u hu => h (i + 1) t (by simpa using hi) u (by simpa using hu)
    exact ih.say (h 0 t rfl u rfl) h1
theorem sam_ok {f f' : Fz} {N N' : Nm} {sl sl' : List (Nat × V)} {Es : List (Nat × Value)} (hS : SlR f N sl Es) (hS' : SlR f' N' sl' Es) : ∀ {l : List C} {ts : List Nat} {l' : List C} {us : List Value}, samB sl l ts = true → clsC sl' ts = some l' → CLR f N l us → CLR f' N' l' us
  | [],[], l', us, _, h, hu => by
    obtain rfl := Option.some.inj h
    cases us with | nil => trivial | cons _ _ => exact hu.elim
  | c :: l, t :: ts, l', us, h1, h2, hu => by
    obtain ⟨j, rfl⟩ : ∃ j, c = .bp j 0 := by
      unfold samB at h1
      split at h1
      · rename_i h _; cases h
      · rename_i h _; cases h; exact ⟨_, rfl⟩
      · cases h1
    match us, hu with
    | u :: us, ⟨hu, hus⟩ =>
      simp only [samB, Bool.and_eq_true] at h1
      obtain ⟨h1, h1'⟩ := h1
      unfold clsC at h2
      split at h2
      · rename_i x hx
        obtain ⟨l2, h3, rfl⟩ := Option.map_eq_some_iff.1 h2
        refine ⟨?_, sam_ok hS hS' h1' h3 hus⟩
        split at h1
        · rename_i i hi
          have := Nat.eq_of_beq_eq_true h1
          subst this
          obtain ⟨u1, e1, b, e2, e3⟩ := hS t _ hi
          obtain ⟨u2, e4, e5⟩ := hS' t _ hx
          obtain ⟨b', e6, e7⟩ := hu
          rw [e2] at e6
          cases e6
          rw [e1] at e4
          cases e4
          rw [e7, ← e3]
          exact e5
        · cases h1
      · cases h2
  | [], _ :: _, _, _, h, _, _ => by simp [samB] at h
  | _ :: _,[], _, _, h, _, _ => by simp [samB] at h
theorem cls_ok {f f' : Fz} {N N' : Nm} {sl sl' : List (Nat × V)} {Es : List (Nat × Value)} : ∀ {cl : List (Nat × Nat × List Nat)}, clsB sl cl = true → SlR f N sl Es → SlR f' N' sl' Es → SlR f' N' (clsV sl' cl) Es
  | [], _, _, h => h
  | (s, g, ts) :: r, hb, hS, hS' => by
    simp only [clsB, Bool.and_eq_true] at hb
    obtain ⟨hb, hb'⟩ := hb
    have ih := cls_ok hb' hS hS'
    unfold clsV
    split
    · rename_i l' hl'
      split at hb
      · rename_i g' l hl
        rw [Bool.and_eq_true] at hb
        have := Nat.eq_of_beq_eq_true hb.1
        subst this
        obtain ⟨u, e1, us, e2, e3⟩ := hS s _ hl
        exact ih.say e1 ⟨us, e2, sam_ok hS hS' hb.2 hl' e3⟩
      · cases hb
    · exact ih
structure Sd (P : Program) (E : Env) (x : Fx) (body : Code) (nt : Nat) (w0 : World) (f0 : Fz) (Lf : List Ent) (pv : List (Nat × Value)) (F : AP) (r : Pr Md.T x.F.ms) (n k : Nat) : Prop where
  hE : EnvOk P E
  fin : ∀ sl ob a w, finK E x.F sl ob = some r → Stt nt w0 f0 Lf pv sl ob a w → F a w
  dk : DOk nt (pv.map (·.1)) body
  jump : ∀ c ∈ x.cuts, ∀ y, c.jump n y = some r → ∀ q, at_ body c.path = some q → ∀ a w, Stt nt w0 f0 Lf pv (slC c y) (encL c.ms y []).2 a w → WC P F k q.1 q.2 a w
theorem WC_le {F : AP} {n m : Nat} (h : n ≤ m) {c : Code} {ctx : List Fr} {a : Act} {w : World} (g : WC P F n c ctx a w) : WC P F m c ctx a w := by
  induction h with
  | refl => exact g
  | step _ ih => exact yeq ih
theorem ev_ok {n k : Nat} (S : Sd P E x body nt w0 f0 Lf pv F r n k) : ∀ (m : Nat),
    (∀ ctx p sl ob a w, ev E x n m .skip ctx p sl ob = some r → CtxOk body ctx → Stt nt w0 f0 Lf pv sl ob a w → (cN P F (k + m) ctx).1 a w) ∧
    (∀ i ctx p sl ob a w, ev E x n m (.exit i) ctx p sl ob = some r → CtxOk body ctx → Stt nt w0 f0 Lf pv sl ob a w → (cN P F (k + m) ctx).2 i a w) ∧
    (∀ c ctx p sl ob a w, ev E x n m c ctx p sl ob = some r → at_ body p = some (c, ctx) → Stt nt w0 f0 Lf pv sl ob a w → WC P F (k + m) c ctx a w)
  | 0 => ⟨fun _ _ _ _ _ _ h => (by cases h), fun _ _ _ _ _ _ _ h => (by cases h), fun _ _ _ _ _ _ _ h => (by cases h)⟩
  | m + 1 => by
    obtain ⟨ihS, ihX, ihG⟩ := ev_ok S m
    have hS : ∀ ctx p sl ob a w, ev E x n (m + 1) .skip ctx p sl ob = some r → CtxOk body ctx → Stt nt w0 f0 Lf pv sl ob a w → (cN P F (k + (m + 1)) ctx).1 a w := fun ctx p sl ob a w h hc hs => by
      match ctx, h, hc with
      | [], h, hc => exact S.fin sl ob a w h hs
      | .seq b q :: c, h, hc => exact yeq (ihG b c q sl ob a w h hc.1 hs)
      | .block i :: c, h, hc => exact (zro c).1 a w (ihS c [] sl ob a w h hc hs)
      | .loop b q :: c, h, hc => exact yfx (ihG b (.loop b q :: c) q sl ob a w h hc.1 hs)
    have hX : ∀ i ctx p sl ob a w, ev E x n (m + 1) (.exit i) ctx p sl ob = some r → CtxOk body ctx → Stt nt w0 f0 Lf pv sl ob a w → (cN P F (k + (m + 1)) ctx).2 i a w := fun i ctx p sl ob a w h hc hs => by
      match ctx, h, hc with
      | [], h, hc => cases h
      | .seq b q :: c, h, hc => exact (zro c).2 i a w (ihX i c [] sl ob a w h hc.2 hs)
      | .block j :: c, h, hc =>
        have h : cond (Nat.beq j i) (ev E x n m .skip c [] sl ob) (ev E x n m (.exit i) c [] sl ob) = some r := h
        rcases zdq h with ⟨e, h1⟩ | ⟨e, h1⟩
        · have e := Nat.eq_of_beq_eq_true e
          subst e
          show (if j = j then (cN P F (k + (m + 1)) c).1 else (cN P F (k + (m + 1)) c).2 j) a w
          rw [if_pos rfl]
          exact (zro c).1 a w (ihS c [] sl ob a w h1 hc hs)
        · have e : i ≠ j := fun q => by rw [q] at e; simp at e
          show (if i = j then (cN P F (k + (m + 1)) c).1 else (cN P F (k + (m + 1)) c).2 i) a w
          rw [if_neg e]
          exact (zro c).2 i a w (ihX i c [] sl ob a w h1 hc hs)
      | .loop b q :: c, h, hc => exact (zro c).2 i a w (ihX i c [] sl ob a w h hc.2 hs)
    refine ⟨hS, hX, fun c ctx p sl ob a w h hp hs => ?_⟩
    obtain ⟨hdk, hctx⟩ := at_ok S.dk hp
    cases c with
    | skip => exact zo3 (hS ctx p sl ob a w h hctx hs)
    | exit i => exact ybb (hX i ctx p sl ob a w h hctx hs)
    | ret => exact zrv (S.fin sl ob a w h hs)
    | seq c1 c2 => exact yh0 (zt3 (yeq (ihG c1 _ _ sl ob a w h (zu3 hp rfl) hs)) fun e a w q => by cases e <;> exact q)
    | cond y c1 c2 =>
      obtain ⟨v, h1, hy⟩ := zb3 (h : opd sl y _ = some r)
      obtain ⟨q, hq, h2⟩ := vB_inv h1
      subst hq
      obtain ⟨f, N, Es, L, g1, g2, g3, g4, g5, g6, g7⟩ := hs
      obtain ⟨u, e1, e2⟩ := hy f N Es g2
      have e2 : u = .bool q := e2
      subst e2
      have hs' : Stt nt w0 f0 Lf pv sl ob a w := ⟨f, N, Es, L, g1, g2, g3, g4, g5, g6, g7⟩
      refine zm3 g7 e1 (fun e => ?_) (fun e => ?_)
      · subst e
        exact yeq (ihG c1 _ _ sl ob a w h2 (zu3 hp rfl) hs')
      · subst e
        exact yeq (ihG c2 _ _ sl ob a w h2 (zu3 hp rfl) hs')
    | block i b =>
      have ih := yeq (ihG b _ _ sl ob a w h (zu3 hp rfl) hs)
      refine znp fun Qe' q1 q2 => W.mono ih (fun _ _ h => h) (fun j a w hj => ?_) (fun _ _ h => h) (fun _ _ _ h => h)
      simp only [cN] at hj
      split at hj
      · rename_i e; subst e; exact q1 a w hj
      · rename_i e; exact q2 j (nbeq e) a w hj
    | loop b =>
      have ih := yfx (ihG b _ _ sl ob a w h (zu3 hp rfl) hs)
      exact zt3 (cwp_loop ih) fun e a w q => by cases e <;> first | exact q | exact q.elim
    | region id ops d =>
      have h : (match fnd x.cuts id with
        | some c => cond (eqNs c.path p && clsB sl c.cl) (lks sl c.slots fun vs => decL c.ms vs ob fun y _ => c.jump n y) none
        | none => spl x.pl id sl fun pr => cond d (drawn E x.pl id ops (pr ++ sl) ob fun sl ob => ev E x n m .skip ctx [] sl ob) (runOps E ops.toList ops.toList (pr ++ sl) ob fun sl ob => ev E x n m .skip ctx [] sl ob)) = some r := h
      split at h
      · rename_i c hc
        obtain ⟨hpath, h1⟩ := zar h
        rw [Bool.and_eq_true] at hpath
        obtain ⟨hpath, hcl⟩ := hpath
        have hpath := ygq hpath
        obtain ⟨vs, h2, hl, HL⟩ := yfz h1
        obtain ⟨y, ob1, h3, HD⟩ := zzd h2
        obtain ⟨f, N, Es, L, g1, g2, g3, g4, g5, g6, g7⟩ := hs
        obtain ⟨us, e1, e2⟩ := HL f N Es g2
        obtain ⟨f1, L1, es, k1, k2⟩ := HD f N L w0 w g3 g7.cw us e1
        obtain ⟨N', up, k3⟩ := yc9 (N := fun _ => none) (ob := []) (L := L.drop ob.length) k1 k2.mv.ol.f0 (fun _ _ => rfl)
        have hal := k2.alone
        have := S.jump c (fnd_ok hc) y h3 (.region id ops d, ctx) (by rw [hpath]; exact hp) a w ⟨f1, N', Es, _, g1.trans k2.mv.le, cls_ok hcl g2 (ybe k3 (fun i t hi u hu => by
          obtain ⟨u', q1, q2⟩ := e2 i t hi
          rw [hu] at q1
          cases q1
          exact q2)), up.ol, up.nb, ?_, g6, g7.ev, hal⟩
        · exact WC_le (by omega) this
        · rw [← g5]
          have := up.fm.2
          simpa using this
      · obtain ⟨pr, h, hX⟩ := yf9 h
        cases d with
        | true =>
          obtain ⟨f, N, Es, L, g1, g2, g3, g4, g5, g6, g7⟩ := hs
          have g2 := hX _ _ _ g2
          refine ydf S.hE (h : drawn E x.pl id ops (pr ++ sl) ob _ = some r) (fun o ho t ht => (hdk o ho t ht).1) g2 g3 g4 g7 fun sl' ob' f' N' E' L' a' w' k1 k2 k3 k4 k5 k6 k8 k7 => ?_
          exact (zro ctx).1 a' w' (ihS ctx [] sl' ob' a' w' k1 hctx ⟨f', N', E', L', g1.trans k2, k3, k4, k5, k6.trans g5, fun p hp => (k8 p.1 fun o ho e => (hdk o ho p.1 e).2 (List.mem_map_of_mem hp)).trans (g6 p hp), k7⟩)
        | false =>
          obtain ⟨f, N, Es, L, g1, g2, g3, g4, g5, g6, g7⟩ := hs
          have g2 := hX _ _ _ g2
          have e : ops = ops.toList.toArray := by simp
          rw [e]
          refine zad ?_
          refine zs6 S.hE (h : runOps E ops.toList ops.toList (pr ++ sl) ob _ = some r) (fun o ho t ht => (hdk o ho t ht).1) f N Es L a w g2 g3 g4 g7 fun sl' ob' f' N' E' L' a' w' k1 k2 k3 k4 k5 k6 k8 k7 => ?_
          exact (zro ctx).1 a' w' (ihS ctx [] sl' ob' a' w' k1 hctx ⟨f', N', E', L', g1.trans k2, k3, k4, k5, k6.trans g5, fun p hp => (k8 p.1 fun o ho e => (hdk o ho p.1 e).2 (List.mem_map_of_mem hp)).trans (g6 p hp), k7⟩)
    | _ => cases h
end
end Go.V
