/-
  Walks and laws of this seat.
-/
import Derived.Test.YtdjjeahiomackaaGreatVQ
namespace Go.V
set_option linter.unusedVariables false
set_option linter.unusedSimpArgs false
set_option linter.unusedSectionVars false
section
attribute [local irreducible] opd opr
open Go.RowKit Go.Sl
variable [F0]
def DOk (nt : Nat) (fz : List Nat) : Code → Prop
  | .region _ ops _ => ∀ o ∈ ops.toList, ∀ t, o.dst = some t → t < nt ∧ t ∉ fz
  | .seq a b => DOk nt fz a ∧ DOk nt fz b
  | .cond _ a b => DOk nt fz a ∧ DOk nt fz b
  | .block _ a => DOk nt fz a
  | .loop a => DOk nt fz a
  | _ => True
def dB (nt : Nat) (fz : List Nat) : Code → Bool
  | .region _ ops _ => ops.toList.all fun o => match o.dst with
    | some t => Nat.blt t nt && fz.all fun s => !Nat.beq s t
    | none => true
  | .seq a b => dB nt fz a && dB nt fz b
  | .cond _ a b => dB nt fz a && dB nt fz b
  | .block _ a => dB nt fz a
  | .loop a => dB nt fz a
  | _ => true
theorem zsn {nt : Nat} {fz : List Nat} : ∀ {c : Code}, dB nt fz c = true → DOk nt fz c
  | .region _ ops _, h => fun o ho t ht => by
    have := List.all_eq_true.1 h o ho
    simp only [ht, Bool.and_eq_true] at this
    refine ⟨Nat.blt_eq.mp this.1, fun hm => ?_⟩
    have := List.all_eq_true.1 this.2 t hm
    simp at this
  | .seq a b, h => by simp only [dB, Bool.and_eq_true] at h; exact ⟨zsn h.1, zsn h.2⟩
  | .cond _ a b, h => by simp only [dB, Bool.and_eq_true] at h; exact ⟨zsn h.1, zsn h.2⟩
  | .block _ a, h => zsn (c := a) h
  | .loop a, h => zsn (c := a) h
  | .skip, _ => trivial
  | .rangeFunc _ _ _ _, _ => trivial
  | .exit _, _ => trivial
  | .scope _, _ => trivial
  | .label _, _ => trivial
  | .goto _, _ => trivial
  | .ret, _ => trivial
  | .refuse _, _ => trivial
def CtxOk (body : Code) : List Fr → Prop
  | [] => True
  | .seq b p :: r => at_ body p = some (b, r) ∧ CtxOk body r
  | .block _ :: r => CtxOk body r
  | .loop b p :: r => at_ body p = some (b, .loop b p :: r) ∧ CtxOk body r
theorem zmi {body : Code} {d : Nat} {p : List Nat} {c c' : Code} {ctx ctx' : List Fr} (h : at_ body p = some (c, ctx)) (hs : into c d p ctx = some (c', ctx')) : at_ body (d :: p) = some (c', ctx') := by
  unfold at_
  rw [h]
  exact hs
theorem at_ok {body : Code} {nt : Nat} {fz : List Nat} (hd : DOk nt fz body) : ∀ {p : List Nat} {c : Code} {ctx : List Fr}, at_ body p = some (c, ctx) → DOk nt fz c ∧ CtxOk body ctx
  | [], c, ctx, h => by
    simp only [at_, Option.some.injEq, Prod.mk.injEq] at h
    obtain ⟨rfl, rfl⟩ := h
    exact ⟨hd, trivial⟩
  | d :: p, c, ctx, h => by
    have h0 := h
    unfold at_ at h
    obtain ⟨⟨c1, ctx1⟩, h1, h2⟩ := zaa h
    obtain ⟨g1, g2⟩ := at_ok hd h1
    change into c1 d p ctx1 = some (c, ctx) at h2
    unfold into at h2
    split at h2 <;> first | (cases h2; done) | skip
    all_goals
      simp only [Option.some.injEq, Prod.mk.injEq] at h2
      obtain ⟨rfl, rfl⟩ := h2
    · exact ⟨g1.1, zmi h1 rfl, g2⟩
    · exact ⟨g1.2, g2⟩
    · exact ⟨g1.1, g2⟩
    · exact ⟨g1.2, g2⟩
    · exact ⟨g1, g2⟩
    · exact ⟨g1, h0, g2⟩
theorem zvp : ∀ {a b : List Nat}, eqNs a b = true → a = b
  | [],[], _ => rfl
  | x :: a, y :: b, h => by
    simp only [eqNs, Bool.and_eq_true] at h
    rw [Nat.eq_of_beq_eq_true h.1, zvp h.2]
  | [], _ :: _, h => by cases h
  | _ :: _,[], h => by cases h
theorem fnd_ok {X : Type} : ∀ {l : List (Cut X)} {i : Nat} {c : Cut X}, fnd l i = some c → c ∈ l
  | [], _, _, h => by cases h
  | x :: l, i, c, h => by
    simp only [fnd] at h
    cases q : Nat.beq x.rid i with
    | true => rw [q] at h; obtain rfl := Option.some.inj h; simp
    | false => rw [q] at h; exact List.mem_cons_of_mem _ (fnd_ok h)
section
variable {P : Program} {E : Env} {x : Fx} {body : Code} {nt : Nat} {w0 : World} {f0 : Fz} {Lf : List Ent} {pv : List (Nat × Value)} {F : AP} {r : Pr Md.T x.F.ms}
def Stt (nt : Nat) (w0 : World) (f0 : Fz) (Lf : List Ent) (pv : List (Nat × Value)) (sl : List (Nat × V)) (ob : List Ob) (a : Act) (w : World) : Prop :=
  ∃ f N Es L, Fz.le f0 f ∧ SlR f N sl Es ∧ OLR f N ob L ∧ Nb N ob ∧ L.drop ob.length = Lf ∧ (∀ p ∈ pv, Sl.look Es p.1 = some p.2) ∧ St nt w0 f L Es a w
theorem zv6 : ∀ {ts : List Nat} {sl : List (Nat × V)} {α : Type} {K : List V → Option α} {r : α}, lks sl ts K = some r → ∃ vs, K vs = some r ∧ vs.length = ts.length ∧ ∀ (f : Fz) (N : Nm) (Es : List (Nat × Value)), SlR f N sl Es → ∃ us, VLR f N vs us ∧ ∀ (i t : Nat), ts[i]? = some t → ∃ u, us[i]? = some u ∧ Sl.look Es t = some u
  | [], sl, α, K, r, h => ⟨[], h, rfl, fun f N Es hS => ⟨[], trivial, by simp⟩⟩
  | t :: ts, sl, α, K, r, h => by
    obtain ⟨v, h1, h2⟩ := zaa (h : (lk sl t).bind _ = some r)
    obtain ⟨vs, h3, hl, H⟩ := zv6 h2
    refine ⟨v :: vs, h3, by simp [hl], fun f N Es hS => ?_⟩
    obtain ⟨u, e1, e2⟩ := hS t v h1
    obtain ⟨us, e3, e4⟩ := H f N Es hS
    refine ⟨u :: us, ⟨e2, e3⟩, fun i s hi => ?_⟩
    cases i with
    | zero => simp at hi; subst hi; exact ⟨u, rfl, e1⟩
    | succ i => simpa using e4 i s (by simpa using hi)
theorem zrw {f : Fz} {N : Nm} {Es : List (Nat × Value)} : ∀ {ts : List Nat} {vs : List V} {us : List Value}, VLR f N vs us → (∀ (i t : Nat), ts[i]? = some t → ∀ u, us[i]? = some u → Sl.look Es t = some u) → SlR f N (ts.zip vs) Es
  | [], _, _, _, _ => fun t v h => by cases h
  | _ :: _,[], _, _, _ => fun t v h => by cases h
  | t :: ts, v :: vs, u :: us, ⟨h1, h2⟩, h => by
    have ih := zrw (ts := ts) h2 fun i t hi u hu => h (i + 1) t (by simpa using hi) u (by simpa using hu)
    exact ih.say (h 0 t rfl u rfl) h1
theorem sam_ok {f f' : Fz} {N N' : Nm} {sl sl' : List (Nat × V)} {Es : List (Nat × Value)} (hS : SlR f N sl Es) (hS' : SlR f' N' sl' Es) : ∀ {l : List C} {ts : List Nat} {l' : List C} {us : List Value}, samB sl l ts = true → clsC sl' ts = some l' → CLR f N l us → CLR f' N' l' us
  | [],[], l', us, _, h, hu => by
    obtain rfl := Option.some.inj h
    cases us with | nil => trivial | cons _ _ => exact hu.elim
  | c :: l, t :: ts, l', us, h1, h2, hu => by
    obtain ⟨j, rfl⟩ : ∃ j, c = .bp j 0 := by
      unfold samB at h1
      split at h1
      · rename_i h _; cases h
      · rename_i h _; cases h; exact ⟨_, rfl⟩
      · cases h1
    match us, hu with
    | u :: us, ⟨hu, hus⟩ =>
      simp only [samB, Bool.and_eq_true] at h1
      obtain ⟨h1, h1'⟩ := h1
      unfold clsC at h2
      split at h2
      · rename_i x hx
        obtain ⟨l2, h3, rfl⟩ := Option.map_eq_some_iff.1 h2
        refine ⟨?_, sam_ok hS hS' h1' h3 hus⟩
        split at h1
        · rename_i i hi
          have := Nat.eq_of_beq_eq_true h1
          subst this
          obtain ⟨u1, e1, b, e2, e3⟩ := hS t _ hi
          obtain ⟨u2, e4, e5⟩ := hS' t _ hx
          obtain ⟨b', e6, e7⟩ := hu
          rw [e2] at e6
          cases e6
          rw [e1] at e4
          cases e4
          rw [e7, ← e3]
          exact e5
        · cases h1
      · cases h2
  | [], _ :: _, _, _, h, _, _ => by simp [samB] at h
  | _ :: _,[], _, _, h, _, _ => by simp [samB] at h
theorem cls_ok {f f' : Fz} {N N' : Nm} {sl sl' : List (Nat × V)} {Es : List (Nat × Value)} : ∀ {cl : List (Nat × Nat × List Nat)}, clsB sl cl = true → SlR f N sl Es → SlR f' N' sl' Es → SlR f' N' (clsV sl' cl) Es
  | [], _, _, h => h
  | (s, g, ts) :: r, hb, hS, hS' => by
    simp only [clsB, Bool.and_eq_true] at hb
    obtain ⟨hb, hb'⟩ := hb
    have ih := cls_ok hb' hS hS'
    unfold clsV
    split
    · rename_i l' hl'
      split at hb
      · rename_i g' l hl
        rw [Bool.and_eq_true] at hb
        have := Nat.eq_of_beq_eq_true hb.1
        subst this
        obtain ⟨u, e1, us, e2, e3⟩ := hS s _ hl
        exact ih.say e1 ⟨us, e2, sam_ok hS hS' hb.2 hl' e3⟩
      · cases hb
    · exact ih
structure Sd (P : Program) (E : Env) (x : Fx) (body : Code) (nt : Nat) (w0 : World) (f0 : Fz) (Lf : List Ent) (pv : List (Nat × Value)) (F : AP) (r : Pr Md.T x.F.ms) (n k : Nat) : Prop where
  hE : EnvOk P E
  fin : ∀ sl ob a w, finK E x.F sl ob = some r → Stt nt w0 f0 Lf pv sl ob a w → F a w
  dk : DOk nt (pv.map (·.1)) body
  jump : ∀ c ∈ x.cuts, ∀ y, c.jump n y = some r → ∀ q, at_ body c.path = some q → ∀ a w, Stt nt w0 f0 Lf pv (slC c y) (encL c.ms y []).2 a w → WC P F k q.1 q.2 a w
theorem WC_le {F : AP} {n m : Nat} (h : n ≤ m) {c : Code} {ctx : List Fr} {a : Act} {w : World} (g : WC P F n c ctx a w) : WC P F m c ctx a w := by
  induction h with
  | refl => exact g
  | step _ ih => exact zu9 ih
theorem ev_ok {n k : Nat} (S : Sd P E x body nt w0 f0 Lf pv F r n k) : ∀ (m : Nat),
    (∀ ctx p sl ob a w, ev E x n m .skip ctx p sl ob = some r → CtxOk body ctx → Stt nt w0 f0 Lf pv sl ob a w → (cN P F (k + m) ctx).1 a w) ∧
    (∀ i ctx p sl ob a w, ev E x n m (.exit i) ctx p sl ob = some r → CtxOk body ctx → Stt nt w0 f0 Lf pv sl ob a w → (cN P F (k + m) ctx).2 i a w) ∧
    (∀ c ctx p sl ob a w, ev E x n m c ctx p sl ob = some r → at_ body p = some (c, ctx) → Stt nt w0 f0 Lf pv sl ob a w → WC P F (k + m) c ctx a w)
  | 0 => ⟨fun _ _ _ _ _ _ h => (by cases h), fun _ _ _ _ _ _ _ h => (by cases h), fun _ _ _ _ _ _ _ h => (by cases h)⟩
  | m + 1 => by
    obtain ⟨ihS, ihX, ihG⟩ := ev_ok S m
    have hS : ∀ ctx p sl ob a w, ev E x n (m + 1) .skip ctx p sl ob = some r → CtxOk body ctx → Stt nt w0 f0 Lf pv sl ob a w → (cN P F (k + (m + 1)) ctx).1 a w := fun ctx p sl ob a w h hc hs => by
      match ctx, h, hc with
      | [], h, hc => exact S.fin sl ob a w h hs
      | .seq b q :: c, h, hc => exact zu9 (ihG b c q sl ob a w h hc.1 hs)
      | .block i :: c, h, hc => exact (zl3 c).1 a w (ihS c [] sl ob a w h hc hs)
      | .loop b q :: c, h, hc => exact zv4 (ihG b (.loop b q :: c) q sl ob a w h hc.1 hs)
    have hX : ∀ i ctx p sl ob a w, ev E x n (m + 1) (.exit i) ctx p sl ob = some r → CtxOk body ctx → Stt nt w0 f0 Lf pv sl ob a w → (cN P F (k + (m + 1)) ctx).2 i a w := fun i ctx p sl ob a w h hc hs => by
      match ctx, h, hc with
      | [], h, hc => cases h
      | .seq b q :: c, h, hc => exact (zl3 c).2 i a w (ihX i c [] sl ob a w h hc.2 hs)
      | .block j :: c, h, hc =>
        have h : cond (Nat.beq j i) (ev E x n m .skip c [] sl ob) (ev E x n m (.exit i) c [] sl ob) = some r := h
        rcases zdv h with ⟨e, h1⟩ | ⟨e, h1⟩
        · have e := Nat.eq_of_beq_eq_true e
          subst e
          show (if j = j then (cN P F (k + (m + 1)) c).1 else (cN P F (k + (m + 1)) c).2 j) a w
          rw [if_pos rfl]
          exact (zl3 c).1 a w (ihS c [] sl ob a w h1 hc hs)
        · have e : i ≠ j := fun q => by rw [q] at e; simp at e
          show (if i = j then (cN P F (k + (m + 1)) c).1 else (cN P F (k + (m + 1)) c).2 i) a w
          rw [if_neg e]
          exact (zl3 c).2 i a w (ihX i c [] sl ob a w h1 hc hs)
      | .loop b q :: c, h, hc => exact (zl3 c).2 i a w (ihX i c [] sl ob a w h hc.2 hs)
    refine ⟨hS, hX, fun c ctx p sl ob a w h hp hs => ?_⟩
    obtain ⟨hdk, hctx⟩ := at_ok S.dk hp
    cases c with
    | skip => exact zak (hS ctx p sl ob a w h hctx hs)
    | exit i => exact ze8 (hX i ctx p sl ob a w h hctx hs)
    | ret => exact zbl (S.fin sl ob a w h hs)
    | seq c1 c2 => exact zvw (zlu (zu9 (ihG c1 _ _ sl ob a w h (zmi hp rfl) hs)) fun e a w q => by cases e <;> exact q)
    | cond y c1 c2 =>
      obtain ⟨v, h1, hy⟩ := zba (h : opd sl y _ = some r)
      obtain ⟨q, hq, h2⟩ := vB_inv h1
      subst hq
      obtain ⟨f, N, Es, L, g1, g2, g3, g4, g5, g6, g7⟩ := hs
      obtain ⟨u, e1, e2⟩ := hy f N Es g2
      have e2 : u = .bool q := e2
      subst e2
      have hs' : Stt nt w0 f0 Lf pv sl ob a w := ⟨f, N, Es, L, g1, g2, g3, g4, g5, g6, g7⟩
      refine zag g7 e1 (fun e => ?_) (fun e => ?_)
      · subst e
        exact zu9 (ihG c1 _ _ sl ob a w h2 (zmi hp rfl) hs')
      · subst e
        exact zu9 (ihG c2 _ _ sl ob a w h2 (zmi hp rfl) hs')
    | block i b =>
      have ih := zu9 (ihG b _ _ sl ob a w h (zmi hp rfl) hs)
      refine zas fun Qe' q1 q2 => W.mono ih (fun _ _ h => h) (fun j a w hj => ?_) (fun _ _ h => h) (fun _ _ _ h => h)
      simp only [cN] at hj
      split at hj
      · rename_i e; subst e; exact q1 a w hj
      · rename_i e; exact q2 j (nbeq e) a w hj
    | loop b =>
      have ih := zv4 (ihG b _ _ sl ob a w h (zmi hp rfl) hs)
      exact zlu (cwp_loop ih) fun e a w q => by cases e <;> first | exact q | exact q.elim
    | region id ops d =>
      have h : (match fnd x.cuts id with
        | some c => cond (eqNs c.path p && clsB sl c.cl) (lks sl c.slots fun vs => decL c.ms vs ob fun y _ => c.jump n y) none
        | none => spl x.pl id sl fun pr => cond d (drawn E x.pl id ops (pr ++ sl) ob fun sl ob => ev E x n m .skip ctx [] sl ob) (runOps E ops.toList ops.toList (pr ++ sl) ob fun sl ob => ev E x n m .skip ctx [] sl ob)) = some r := h
      split at h
      · rename_i c hc
        obtain ⟨hpath, h1⟩ := zb0 h
        rw [Bool.and_eq_true] at hpath
        obtain ⟨hpath, hcl⟩ := hpath
        have hpath := zvp hpath
        obtain ⟨vs, h2, hl, HL⟩ := zv6 h1
        obtain ⟨y, ob1, h3, HD⟩ := zq3 h2
        obtain ⟨f, N, Es, L, g1, g2, g3, g4, g5, g6, g7⟩ := hs
        obtain ⟨us, e1, e2⟩ := HL f N Es g2
        obtain ⟨f1, L1, es, k1, k2⟩ := HD f N L w0 w g3 g7.cw us e1
        obtain ⟨N', up, k3⟩ := zsi (N := fun _ => none) (ob := []) (L := L.drop ob.length) k1 k2.mv.ol.f0 (fun _ _ => rfl)
        have hal := k2.alone
        have := S.jump c (fnd_ok hc) y h3 (.region id ops d, ctx) (by rw [hpath]; exact hp) a w ⟨f1, N', Es, _, g1.trans k2.mv.le, cls_ok hcl g2 (zrw k3 (fun i t hi u hu => by
          obtain ⟨u', q1, q2⟩ := e2 i t hi
          rw [hu] at q1
          cases q1
          exact q2)), up.ol, up.nb, ?_, g6, g7.ev, hal⟩
        · exact WC_le (by omega) this
        · rw [← g5]
          have := up.fm.2
          simpa using this
      · obtain ⟨pr, h, hX⟩ := zuo h
        cases d with
        | true =>
          obtain ⟨f, N, Es, L, g1, g2, g3, g4, g5, g6, g7⟩ := hs
          have g2 := hX _ _ _ g2
          refine ztg S.hE (h : drawn E x.pl id ops (pr ++ sl) ob _ = some r) (fun o ho t ht => (hdk o ho t ht).1) g2 g3 g4 g7 fun sl' ob' f' N' E' L' a' w' k1 k2 k3 k4 k5 k6 k8 k7 => ?_
          exact (zl3 ctx).1 a' w' (ihS ctx [] sl' ob' a' w' k1 hctx ⟨f', N', E', L', g1.trans k2, k3, k4, k5, k6.trans g5, fun p hp => (k8 p.1 fun o ho e => (hdk o ho p.1 e).2 (List.mem_map_of_mem hp)).trans (g6 p hp), k7⟩)
        | false =>
          obtain ⟨f, N, Es, L, g1, g2, g3, g4, g5, g6, g7⟩ := hs
          have g2 := hX _ _ _ g2
          have e : ops = ops.toList.toArray := by simp
          rw [e]
          refine za5 ?_
          refine zlg S.hE (h : runOps E ops.toList ops.toList (pr ++ sl) ob _ = some r) (fun o ho t ht => (hdk o ho t ht).1) f N Es L a w g2 g3 g4 g7 fun sl' ob' f' N' E' L' a' w' k1 k2 k3 k4 k5 k6 k8 k7 => ?_
          exact (zl3 ctx).1 a' w' (ihS ctx [] sl' ob' a' w' k1 hctx ⟨f', N', E', L', g1.trans k2, k3, k4, k5, k6.trans g5, fun p hp => (k8 p.1 fun o ho e => (hdk o ho p.1 e).2 (List.mem_map_of_mem hp)).trans (g6 p hp), k7⟩)
    | _ => cases h
end
end
section
open Go.RowKit Go.Sl
variable [F0]
def pslots : Nat → List Md → List Nat
  | _,[] => []
  | i, .p _ :: r => i :: pslots (i + 1) r
  | i, _ :: r => pslots (i + 1) r
abbrev Out (ps rs : List Md) : Type := Pr Md.T (rs ++ ps.filter isP)
def mkX (fn : Func) (ps rs : List Md) (cuts : List (Cut (Out ps rs))) (pl : List (Nat × List (Nat × Nat) × List Nat)) : Fx := ⟨⟨fn.results.toList, pslots 0 ps, rs ++ ps.filter isP⟩, cuts, pl⟩
section
variable {P : Program} {E : Env}
def RVs (P : Program) (a : Act) (w : World) : List ResultVar → List Value → Prop
  | [],[] => True
  | x :: l, v :: r => ResV P a w x v ∧ RVs P a w l r
  | _, _ => False
theorem zhy {a : Act} {w : World} : ∀ {l : List ResultVar} {us : List Value}, RVs P a w l us → (l.mapM (resRun a)).run P w = .ok us w
  | [],[], _ => by simp [Sem.run_pure]
  | x :: l, u :: us, ⟨h1, h2⟩ => by
    simp [List.mapM_cons, zpd h1, zhy h2]
theorem zs6 (fn : Func) (a : Act) : results fn a.tmps = (do let vs ← fn.results.toList.mapM (resRun a); pure (if h : vs.toArray.size = 1 then vs.toArray[0] else .tuple vs.toArray)) := by
  unfold results
  rw [Array.mapM_eq_mapM_toList]
  simp only [bind_assoc, map_eq_pure_bind, pure_bind]
  refine congrArg (fun f : ResultVar → Sem Value => (do let x ← List.mapM f fn.results.toList; pure (if h : x.toArray.size = 1 then x.toArray[0] else Value.tuple x.toArray) : Sem Value)) ?_
  funext x
  cases x <;> rfl
theorem zs5 {fn : Func} {a : Act} {w : World} {us : List Value} (h : RVs P a w fn.results.toList us) : (results fn a.tmps).run P w = .ok (oneV us) w := by
  rw [zs6]
  match us, h with
  | [], h => simp [zhy h, oneV]
  | [v], h => simp [zhy h, oneV]
  | _ :: _ :: _, h => simp [zhy h, oneV]
theorem zpe (hE : EnvOk P E) {ob : List Ob} {sl : List (Nat × V)} {α : Type} : ∀ {l : List ResultVar} {K : List V → Option α} {r : α}, resV E ob sl l K = some r → ∃ vs, K vs = some r ∧ vs.length = l.length ∧ ∀ (f : Fz) (N : Nm) (Es : List (Nat × Value)) (L : List Ent) (n : Nat) (w0 : World) (a : Act) (w : World), SlR f N sl Es → OLR f N ob L → St n w0 f L Es a w →
    ∃ us, VLR f N vs us ∧ RVs P a w l us
  | [], K, r, h => ⟨[], h, rfl, fun f N Es L n w0 a w hS hO hs => ⟨[], trivial, trivial⟩⟩
  | .tmp t :: l, K, r, h => by
    obtain ⟨v, h1, h2⟩ := zaa (h : (lk sl t).bind _ = some r)
    obtain ⟨vs, h3, hl, H⟩ := zpe hE h2
    refine ⟨v :: vs, h3, by simp [hl], fun f N Es L n w0 a w hS hO hs => ?_⟩
    obtain ⟨u, e1, e2⟩ := hS t v h1
    obtain ⟨us, e3, e4⟩ := H f N Es L n w0 a w hS hO hs
    exact ⟨u :: us, ⟨e2, e3⟩, rv_t hs e1, e4⟩
  | .cell t ty :: l, K, r, h => by
    obtain ⟨v, h1, h2⟩ := zaa (h : (lk sl t).bind _ = some r)
    obtain ⟨td, h3, h4⟩ := zaa h2
    obtain ⟨d, z, g1, g2, g3, g4, _⟩ := zhv (hE.T _ _ h3)
    clear h h2
    split at h4
    · rename_i j
      obtain ⟨y, h5, h6⟩ := zaa h4
      clear h4
      split at h6
      · rename_i cs
        rcases zdv h6 with ⟨ha, h7⟩ | ⟨ha, h7⟩
        · obtain ⟨hl0, h8⟩ := zb0 h7
          have hl0 := Nat.eq_of_beq_eq_true hl0
          obtain ⟨vs, h9, hl, H⟩ := zpe hE h8
          refine ⟨.a cs :: vs, h9, by simp [hl], fun f N Es L n w0 a w hS hO hs => ?_⟩
          obtain ⟨u, e1, b, e2, e2'⟩ := hS t _ h1
          subst e2'
          obtain ⟨us, e3, e4⟩ := H f N Es L n w0 a w hS hO hs
          obtain ⟨_, en, q1, b', ws, tt, q2, q3, q4⟩ := hO.get h5
          subst q3
          rw [e2] at q2
          cases q2
          refine ⟨.agg ws.toArray :: us, ⟨⟨ws, rfl, q4⟩, e3⟩, rv_a hs e1 g1 (g3.trans ha) g2 (fun j u hj => Cell.blk (List.mem_of_getElem? q1) hj) ?_, e4⟩
          have := q4.len
          simp; omega
        · obtain ⟨c, h7', h8⟩ := zaa h7
          obtain ⟨vs, h9, hl, H⟩ := zpe hE h8
          refine ⟨.c c :: vs, h9, by simp [hl], fun f N Es L n w0 a w hS hO hs => ?_⟩
          obtain ⟨u, e1, b, e2, e2'⟩ := hS t _ h1
          subst e2'
          obtain ⟨us, e3, e4⟩ := H f N Es L n w0 a w hS hO hs
          obtain ⟨_, en, q1, b', ws, tt, q2, q3, q4⟩ := hO.get h5
          subst q3
          rw [e2] at q2
          cases q2
          obtain ⟨u', m1, m2⟩ := q4.get h7'
          exact ⟨u' :: us, ⟨m2, e3⟩, rv_c hs e1 g1 (g3.trans ha) (Cell.blk (List.mem_of_getElem? q1) (by simpa using m1)), e4⟩
      · cases h6
    · cases h4
theorem zqx : ∀ {ps : List Md} {k : Nat} {vs : List Value}, vs.length = ps.length → (pslots k ps).length = (pvals ps vs).length ∧ (pslots k ps).length = (ps.filter isP).length ∧ ∀ (i s : Nat),(pslots k ps)[i]? = some s → ∃ u,(pvals ps vs)[i]? = some u ∧ k ≤ s ∧ vs[s - k]? = some u
  | [], k,[], _ => ⟨rfl, rfl, by simp [pslots]⟩
  | m :: ps, k, v :: vs, h => by
    have h' : vs.length = ps.length := by simpa using h
    obtain ⟨h1, h2, h3⟩ := zqx (k := k + 1) h'
    cases hm : isP m with
    | false =>
      have e : (m :: ps).filter isP = ps.filter isP := by simp [hm]
      have key : (pslots (k + 1) ps).length = (pvals ps vs).length ∧ (pslots (k + 1) ps).length = (ps.filter isP).length ∧ ∀ (i s : Nat),(pslots (k + 1) ps)[i]? = some s → ∃ u,(pvals ps vs)[i]? = some u ∧ k ≤ s ∧ (v :: vs)[s - k]? = some u := ⟨h1, h2, fun i s hs => by
        obtain ⟨u, g1, g2, g3⟩ := h3 i s hs
        refine ⟨u, g1, by omega, ?_⟩
        rw [show s - k = (s - (k + 1)) + 1 by omega]; simpa using g3⟩
      rw [e]
      cases m <;> first | (cases hm; done) | exact key
    | true =>
      have e : (m :: ps).filter isP = m :: ps.filter isP := by simp [hm]
      rw [e]
      cases m <;> first | (cases hm; done) | skip
      refine ⟨by simpa [pslots, pvals] using h1, by simpa [pslots] using h2, fun i s hs => ?_⟩
      cases i with
      | zero => simp [pslots] at hs; subst hs; exact ⟨v, rfl, Nat.le_refl _, by simp⟩
      | succ i =>
        obtain ⟨u, g1, g2, g3⟩ := h3 i s (by simpa [pslots] using hs)
        refine ⟨u, by simpa [pvals] using g1, by omega, ?_⟩
        rw [show s - k = (s - (k + 1)) + 1 by omega]; simpa using g3
  | [], k, _ :: _, h => by simp at h
  | _ :: _, k,[], h => by simp at h
theorem zl4 : ∀ (vs : List Value) (i t : Nat) (v : Value), i ≤ t → vs[t - i]? = some v → Sl.look (argEnv i vs) t = some v
  | [], _, _, _, _, h => by simp at h
  | u :: vs, i, t, v, hle, h => by
    by_cases e : i = t
    · subst e; simp at h; subst h; simp [argEnv, Sl.look]
    · simp only [argEnv, Sl.look]
      rw [nbeq e]
      rw [show t - i = (t - (i + 1)) + 1 by omega] at h
      exact zl4 vs (i + 1) t v (by omega) (by simpa using h)
def CutsOk (E : Env) (x : Fx) (body : Code) (M : Nat) : List (Cut (Pr Md.T x.F.ms)) → Prop
  | [] => True
  | c :: r => ((∀ y, c.jump 0 y = none) ∧ ∀ n y, frag E x body c M n y = c.jump (n + 1) y) ∧ CutsOk E x body M r
theorem CutsOk.at {x : Fx} {body : Code} {M : Nat} : ∀ {l : List (Cut (Pr Md.T x.F.ms))}, CutsOk E x body M l → ∀ c ∈ l,(∀ y, c.jump 0 y = none) ∧ ∀ n y, frag E x body c M n y = c.jump (n + 1) y
  | [], _, c, hc => by simp at hc
  | d :: r, ⟨h1, h2⟩, c, hc => by
    rcases List.mem_cons.1 hc with rfl | hc
    · exact h1
    · exact CutsOk.at h2 c hc
theorem zcf (hE : EnvOk P E) {g : Nat} {fn : Func} {body : Code} {ps rs : List Md} {cuts : List (Cut (Out ps rs))} {pl : List (Nat × List (Nat × Nat) × List Nat)} {M : Nat} {entry : Nat → Pr Md.T ps → Option (Out ps rs)}
    (hf : P.funcs[g]? = some fn) (hb : fn.body = some body) (hname : (fn.name == "runtime.NumGoroutine") = false) (hd : (dB fn.ntmps (pslots 0 ps) body && Nat.ble ps.length fn.ntmps) = true)
    (hc : CutsOk E (mkX fn ps rs cuts pl) body M cuts) (he : ∀ n y, head E (mkX fn ps rs cuts pl) body ps M n y = entry n y) (n : Nat) : ConOk P g ⟨ps, rs, entry n⟩ := by
  simp only [Bool.and_eq_true] at hd
  have hlen : ps.length ≤ fn.ntmps := Nat.le_of_ble_eq_true hd.2
  refine ⟨⟨fn, hf, by simp [hb], hname⟩, fun x0 y hm f vs es hf0 hM w0 L w hC => ?_⟩
  have hM : MLR f ps x0 vs es := hM
  have hvl : vs.length = ps.length := hM.len
  obtain ⟨hp1, hp2, hp3⟩ := zqx (ps := ps) (k := 0) hvl
  obtain ⟨X, hX⟩ : ∃ X, X = mkX fn ps rs cuts pl := ⟨_, rfl⟩
  have hdk : DOk fn.ntmps (((pslots 0 ps).zip (pvals ps vs)).map (·.1)) body := by
    rw [List.map_fst_zip (by omega)]
    exact zsn hd.1
  have hfin : ∀ sl ob a w, finK E (mkX fn ps rs cuts pl).F sl ob = some y → Stt fn.ntmps w0 f L ((pslots 0 ps).zip (pvals ps vs)) sl ob a w → Rt P fn (fun e w' => ∃ v f' L', e = .returned v ∧ Fz.le f f' ∧ Cw w0 f' (L' ++ L) w' ∧ ∃ us rvs, us = rvs ++ pvals ps vs ∧ v = oneV rvs ∧ rvs.length = rs.length ∧ MLR f' (rs ++ ps.filter isP) y us L') a w := fun sl ob a w h hs => by
    obtain ⟨rv, h1, hl1, HR⟩ := zpe hE (h : resV E ob sl fn.results.toList _ = some y)
    obtain ⟨pvv, h2, hl2, HP⟩ := zv6 h1
    obtain ⟨y', ob', h3, HD⟩ := zq3 h2
    obtain rfl := Option.some.inj h3
    obtain ⟨f1, N, Es, L1, g1, g2, g3, g4, g5, g6, g7⟩ := hs
    obtain ⟨us, e1, e2⟩ := HR f1 N Es L1 _ w0 a w g2 g3 g7
    obtain ⟨us2, e3, e4⟩ := HP f1 N Es g2
    have e5 : us2 = pvals ps vs := by
      have hl3 : us2.length = pvv.length := by
        clear e4 HD h3 h2
        revert e3
        generalize pvv = A
        intro e3
        induction A generalizing us2 with
        | nil => cases us2 with | nil => rfl | cons _ _ => exact e3.elim
        | cons a A ih => cases us2 with | nil => exact e3.elim | cons u us2 => simp [ih _ e3.2]
      apply List.ext_getElem?
      intro i
      by_cases hi : i < (pslots 0 ps).length
      · obtain ⟨s, hs⟩ : ∃ s,(pslots 0 ps)[i]? = some s := ⟨(pslots 0 ps)[i], by simp [hi]⟩
        obtain ⟨u, q1, q2⟩ := e4 i s hs
        obtain ⟨u', q3, _, _⟩ := hp3 i s hs
        have hz : ((pslots 0 ps).zip (pvals ps vs))[i]? = some (s, u') := by
          rw [List.getElem?_zip_eq_some]; exact ⟨hs, q3⟩
        have := g6 (s, u') (List.mem_of_getElem? hz)
        rw [q2] at this
        rw [q1, q3]
        exact this
      · have hl4 : pvv.length = (pslots 0 ps).length := hl2
        rw [List.getElem?_eq_none (by omega), List.getElem?_eq_none (by omega)]
    subst e5
    obtain ⟨f2, L2, es', k1, k2⟩ := HD f1 N L1 w0 w g3 g7.cw (us ++ pvals ps vs) (VLR.app e1 e3)
    refine ⟨g7.ev.defers, oneV us, zs5 e2, oneV us, f2, es', rfl, g1.trans k2.mv.le, ?_, us ++ pvals ps vs, us, rfl, rfl, ?_, k1⟩
    · have := k2.alone
      rw [g5] at this
      exact this.perm (List.Perm.append_right _ (List.reverse_perm _))
    · have := k1.len
      simp only [List.length_append] at this
      have h5 : (mkX fn ps rs cuts pl).F.ms.length = rs.length + (ps.filter isP).length := by simp [mkX]
      simp only [mkX] at this
      simp only [List.length_append] at this
      omega
  have hcs := hc.at
  have jump : ∀ n, ∀ c ∈ cuts, ∀ y', c.jump n y' = some y → ∀ q, at_ body c.path = some q → ∀ a w, Stt fn.ntmps w0 f L ((pslots 0 ps).zip (pvals ps vs)) (slC c y') (encL c.ms y' []).2 a w →
      WC P (Rt P fn (fun e w' => ∃ v f' L', e = .returned v ∧ Fz.le f f' ∧ Cw w0 f' (L' ++ L) w' ∧ ∃ us rvs, us = rvs ++ pvals ps vs ∧ v = oneV rvs ∧ rvs.length = rs.length ∧ MLR f' (rs ++ ps.filter isP) y us L')) (n * (M + 1)) q.1 q.2 a w := by
    intro n
    induction n with
    | zero => intro c hcm y' hj; rw [(hcs c hcm).1] at hj; cases hj
    | succ n ih =>
      intro c hcm y' hj q hq a w hs
      rw [← (hcs c hcm).2] at hj
      have S : Sd P E (mkX fn ps rs cuts pl) body fn.ntmps w0 f L ((pslots 0 ps).zip (pvals ps vs)) _ y n (n * (M + 1)) := ⟨hE, hfin, hdk, ih⟩
      obtain ⟨q', hq', h1⟩ := zaa (hj : (at_ body c.path).bind _ = some y)
      rw [hq] at hq'
      obtain rfl := Option.some.inj hq'
      obtain ⟨hdq, hcx⟩ := at_ok hdk hq
      obtain ⟨code, ctx⟩ := q
      simp only at h1 hdq hcx ⊢
      cases code with
      | region id ops d =>
        obtain ⟨pr, h1, hX⟩ := zuo (h1 : spl _ id _ _ = some y)
        cases d with
        | true =>
          obtain ⟨f1, N, Es, L1, g1, g2, g3, g4, g5, g6, g7⟩ := hs
          have g2 := hX _ _ _ g2
          refine ztg hE (h1 : drawn E _ id ops _ _ _ = some y) (fun o ho t ht => (hdq o ho t ht).1) g2 g3 g4 g7 fun sl' ob' f' N' E' L' a' w' k1 k2 k3 k4 k5 k6 k8 k7 => ?_
          have := (ev_ok S M).1 ctx [] sl' ob' a' w' k1 hcx ⟨f', N', E', L', g1.trans k2, k3, k4, k5, k6.trans g5, fun p hp => (k8 p.1 fun o ho e => (hdq o ho p.1 e).2 (List.mem_map_of_mem hp)).trans (g6 p hp), k7⟩
          rw [show (n + 1) * (M + 1) = (n * (M + 1) + M) + 1 by rw [Nat.succ_mul]; omega]
          exact (zl3 ctx).1 a' w' this
        | false =>
          obtain ⟨f1, N, Es, L1, g1, g2, g3, g4, g5, g6, g7⟩ := hs
          have g2 := hX _ _ _ g2
          have e : ops = ops.toList.toArray := by simp
          rw [e]
          refine za5 ?_
          refine zlg hE (h1 : runOps E ops.toList ops.toList _ _ _ = some y) (fun o ho t ht => (hdq o ho t ht).1) f1 N Es L1 a w g2 g3 g4 g7 fun sl' ob' f' N' E' L' a' w' k1 k2 k3 k4 k5 k6 k8 k7 => ?_
          have := (ev_ok S M).1 ctx [] sl' ob' a' w' k1 hcx ⟨f', N', E', L', g1.trans k2, k3, k4, k5, k6.trans g5, fun p hp => (k8 p.1 fun o ho e => (hdq o ho p.1 e).2 (List.mem_map_of_mem hp)).trans (g6 p hp), k7⟩
          rw [show (n + 1) * (M + 1) = (n * (M + 1) + M) + 1 by rw [Nat.succ_mul]; omega]
          exact (zl3 ctx).1 a' w' this
      | _ => cases h1
  have S : Sd P E (mkX fn ps rs cuts pl) body fn.ntmps w0 f L ((pslots 0 ps).zip (pvals ps vs)) _ y n (n * (M + 1)) := ⟨hE, hfin, hdk, jump n⟩
  refine enter hf hb rfl (by omega) hC fun a hs => ?_
  obtain ⟨N', up, k3⟩ := zsi (N := fun _ => none) (ob := []) (L := L) hM hf0 (fun _ _ => rfl)
  have hev : ev E (mkX fn ps rs cuts pl) n M body [] [] ((List.range ps.length).zip (encL ps x0 []).1) (encL ps x0 []).2 = some y := (he n x0).trans hm
  refine (ev_ok S M).2.2 body [] [] _ _ a w hev rfl ⟨f, N', argEnv 0 vs, es.reverse ++ L, .refl f, zrw k3 (fun i t hi u hu => ?_), up.ol, up.nb, ?_, fun p hp => ?_, hs.ev, hC.perm (List.Perm.append_right _ (List.reverse_perm _).symm)⟩
  · have : t = i := by
      have h1 := (List.getElem?_eq_some_iff.1 hi)
      obtain ⟨h2, h3⟩ := h1
      simp at h3; exact h3.symm
    subst this
    exact zl4 vs 0 t u (Nat.zero_le _) (by simpa using hu)
  · have := up.fm.2
    simpa using this
  · obtain ⟨i, hi⟩ := List.getElem?_of_mem hp
    obtain ⟨h1, h2⟩ := List.getElem?_zip_eq_some.1 hi
    obtain ⟨u, q1, q2, q3⟩ := hp3 i p.1 h1
    rw [h2] at q1
    cases q1
    exact zl4 vs 0 p.1 p.2 (Nat.zero_le _) (by simpa using q3)
end
theorem con0 [F0] {P : Go.Program} {g : Nat} {ps rs : List Md} (h : Has P g) : ConOk P g ⟨ps, rs, fun _ => none⟩ := ⟨h, fun _ _ h => by cases h⟩
def gOf : List (Nat × Con) → Nat → Option Con
  | [], _ => none
  | p :: r, g => cond (Nat.beq p.1 g) (some p.2) (gOf r g)
def AllG (P : Go.Program) : List (Nat × Con) → Prop
  | [] => True
  | (g, c) :: r => ConOk P (g % 10000) c ∧ AllG P r
theorem zdm {P : Go.Program} : ∀ {l : List (Nat × Con)}, AllG P l → ∀ g c, gOf l g = some c → ConOk P (g % 10000) c
  | [], _, _, _, h => by cases h
  | (g', c') :: l, ⟨h1, h2⟩, g, c, h => by
    simp only [gOf] at h
    cases q : Nat.beq g' g with
    | true =>
      rw [q] at h
      obtain rfl := Option.some.inj h
      have := Nat.eq_of_beq_eq_true q
      subst this
      exact h1
    | false => rw [q] at h; exact zdm h2 g c h
end
end Go.V
