/-
  Walks and laws of this seat.
-/
import Derived.Test.YtdjjeahiomackaaGreatVL
import Derived.LoopNIn
namespace Go.V
set_option linter.unusedVariables false
set_option linter.unusedSimpArgs false
set_option linter.unusedSectionVars false
section
open Go.RowKit Go.Sl
variable [F0]
theorem zln {P : Program} {f : Fz} {L : List Ent} {w0 w : World} {n : Nat} {E : List (Nat × Value)} {a : Act} {ops : Array Oper} {rest : List Oper} {K : AP} {d : Option Tmp} {ty : TypeId} {pos : String} {af : Array Edge} {j gd : Nat} {b : Bool} {op : Op} (hs : St n w0 f L E a w) (hg : (ops[j]?).bind (·.dst) = some gd) (hl : Sl.look E gd = some (.bool b))
    (h : RL P ops (⟨d, op, ty, pos, af, none⟩ :: rest) K a w) : RL P ops (⟨d, op, ty, pos, af, some (j, b)⟩ :: rest) K a w := by
  have h' := h.d
  refine ⟨?_⟩
  unfold RLd at h' ⊢
  have w1 : Region.wanted (⟨d, op, ty, pos, af, some (j, b)⟩ : Oper) (yielded ops a.tmps) = true := Want.wanted hs.ev (.yes rfl hg hl)
  have w2 : Region.wanted (⟨d, op, ty, pos, af, none⟩ : Oper) (yielded ops a.tmps) = true := Want.wanted hs.ev (.free rfl)
  rw [if_pos w2] at h'
  rw [if_pos w1]
  exact h'
theorem zoa {d : Option Tmp} {u : Value} {Es : List (Nat × Value)} {t : Nat} (h : d ≠ some t) : Sl.look (E1 d u Es) t = Sl.look Es t := by
  cases d with
  | none => rfl
  | some d => simp only [E1, Sl.look]; rw [nbeq (fun e => h (by rw [e]))]; rfl
section
variable {α : Type} {r : α} {P : Program} {E : Env}
theorem zsx {T : Nat → Option TD} {o : Op} {sl : List (Nat × V)} {K : List (Nat × V) → Option α} (h : preS T o sl K = some r) : ∃ pr, K pr = some r ∧ (∀ f0 N0 E, SlR f0 N0 sl E → ∀ f N sx, SlR f N sx E → SlR f N (pr ++ sx) E) ∧ ∀ t, lk sl t = none → ∀ sx, lk sx t = none → lk (pr ++ sx) t = none := by
  have nil : (∀ f0 N0 E, SlR f0 N0 sl E → ∀ f N sx, SlR f N sx E → SlR f N ([] ++ sx) E) ∧ ∀ t, lk sl t = none → ∀ sx, lk sx t = none → lk ([] ++ sx) t = none := ⟨fun _ _ _ _ _ _ _ h => h, fun _ _ _ h => h⟩
  unfold preS at h
  split at h
  · obtain ⟨td, h1, h⟩ := zaa h
    split at h
    · obtain ⟨v, h2, h⟩ := zaa h
      split at h
      · obtain ⟨q, h3, _, h5⟩ := zmc h
        subst h5
        refine ⟨_, h3, fun f0 N0 E hS f N sx hX => ?_, fun t ht sx hx => ?_⟩
        · obtain ⟨u, e1, e2⟩ := hS _ _ h2
          exact hX.say e1 e2
        · simp only [List.cons_append, List.nil_append, lk]
          rw [nbeq (fun e => by rw [e, ht] at h2; cases h2)]
          exact hx
      · cases h
    · exact ⟨_, h, nil⟩
  · exact ⟨_, h, nil⟩
theorem zuo {pl : List (Nat × List (Nat × Nat) × List Nat)} {id : Nat} {sl : List (Nat × V)} {K : List (Nat × V) → Option α} (h : spl pl id sl K = some r) : ∃ pr, K pr = some r ∧ ∀ f N E, SlR f N sl E → SlR f N (pr ++ sl) E := by
  unfold spl at h
  split at h
  · obtain ⟨v, h2, h⟩ := zaa h
    split at h
    · obtain ⟨q, h3, _, h5⟩ := zmc h
      subst h5
      refine ⟨_, h3, fun f N E hS => ?_⟩
      obtain ⟨u, e1, e2⟩ := hS _ _ h2
      exact hS.say e1 e2
    · cases h
  · exact ⟨_, h, fun _ _ _ h => h⟩
theorem zlg (hE : EnvOk P E) {n : Nat} {w0 : World} {all : List Oper} {Q : AP} : ∀ {l : List Oper} {sl : List (Nat × V)} {ob : List Ob} {K : List (Nat × V) → List Ob → Option α}, runOps E all l sl ob K = some r → (∀ o ∈ l, ∀ t, o.dst = some t → t < n) →
    ∀ (f : Fz) (N : Nm) (Es : List (Nat × Value)) (L : List Ent) (a : Act) (w : World), SlR f N sl Es → OLR f N ob L → Nb N ob → St n w0 f L Es a w →
    (∀ sl' ob' f' N' E' L' a' w', K sl' ob' = some r → Fz.le f f' → SlR f' N' sl' E' → OLR f' N' ob' L' → Nb N' ob' → L'.drop ob'.length = L.drop ob.length → (∀ t,(∀ o ∈ l, o.dst ≠ some t) → Sl.look E' t = Sl.look Es t) → St n w0 f' L' E' a' w' → Q a' w') → RL P all.toArray l Q a w
  | [], sl, ob, K, h, hd, f, N, Es, L, a, w, hS, hO, hn, hs, hK => za1 (hK sl ob f N Es L a w h (.refl f) hS hO hn rfl (fun _ _ => rfl) hs)
  | o :: l, sl, ob, K, h, hd, f, N, Es, L, a, w, hS, hO, hn, hs, hK => by
    obtain ⟨dst, op, ty, pos, af, g⟩ := o
    have hdl : ∀ o ∈ l, ∀ t, o.dst = some t → t < n := fun o ho => hd o (by simp [ho])
    have hd0 : ∀ t, dst = some t → t < n := hd _ (List.mem_cons_self ..)
    have yes : ∀ sl, SlR f N sl Es → (preS E.T op sl fun pr => op1 E op dst (pr ++ sl) ob (fun v ob => runOps E all l (putS dst v (pr ++ sl)) ob K)) = some r → RL P all.toArray (⟨dst, op, ty, pos, af, none⟩ :: l) Q a w := fun sl hS h => by
      obtain ⟨pr, h, hX, _⟩ := zsx h
      have hS := hX _ _ _ hS _ _ _ hS
      obtain ⟨v, ob', h1, h2⟩ := op1_ok hE h
      refine h2 f N Es L w0 n a w hS hO hn hs ty pos af _ l Q hd0 fun f' N' u L' a' w' hf hN hn' hO' hv hfm hs' => ?_
      refine zlg hE h1 hdl f' N' (E1 dst u Es) L' a' w' ?_ hO' hn' hs' fun sl' ob'' f'' N'' E'' L'' a'' w'' k1 k2 k3 k4 k5 k6 k8 k7 => hK sl' ob'' f'' N'' E'' L'' a'' w'' k1 (hf.trans k2) k3 k4 k5 (k6.trans hfm.2) (fun t ht => (k8 t fun o ho => ht o (List.mem_cons_of_mem _ ho)).trans (zoa fun e => ht _ (List.mem_cons_self ..) e)) k7
      cases dst with
      | none => exact hS.le hf hN
      | some t => exact (hS.le hf hN).cons hv
    have no : ∀ sl, SlR f N sl Es → Want all.toArray Es ⟨dst, op, ty, pos, af, g⟩ false → runOps E all l (putS dst (.c .u) sl) ob K = some r → RL P all.toArray (⟨dst, op, ty, pos, af, g⟩ :: l) Q a w := fun sl hS hw h => by
      refine zqd (E' := E1 dst undef Es) hs hw ?_ fun a w hs => ?_
      · cases dst with
        | none => exact .drop rfl
        | some t => exact .to rfl (hd0 t rfl)
      · refine zlg hE h hdl f N (E1 dst undef Es) L a w ?_ hO hn hs fun sl' ob'' f'' N'' E'' L'' a'' w'' k1 k2 k3 k4 k5 k6 k8 k7 => hK sl' ob'' f'' N'' E'' L'' a'' w'' k1 k2 k3 k4 k5 k6 (fun t ht => (k8 t fun o ho => ht o (List.mem_cons_of_mem _ ho)).trans (zoa fun e => ht _ (List.mem_cons_self ..) e)) k7
        cases dst with
        | none => exact hS
        | some t => exact hS.cons (rfl : undef = undef)
    cases g with
    | none => exact yes sl hS h
    | some p =>
      obtain ⟨j, want⟩ := p
      obtain ⟨gd, h1, h2⟩ := zaa (h : (dstOf all j).bind _ = some r)
      obtain ⟨v, h3, h4⟩ := zaa h2
      have hgd : (all.toArray[j]?).bind (·.dst) = some gd := by simpa [dstOf] using h1
      obtain ⟨u, e1, e2⟩ := hS gd v h3
      split at h4
      · rename_i q
        have e2 : u = .bool q := e2
        subst e2
        have hS' : SlR f N ((gd, .c (.b q)) :: sl) Es := hS.say e1 rfl
        cases q with
        | true =>
          cases want with
          | true => exact zln hs hgd e1 (yes _ hS' h4)
          | false => exact no _ hS' (.no rfl hgd e1) h4
        | false =>
          cases want with
          | true => exact no _ hS' (.no rfl hgd e1) h4
          | false => exact zln hs hgd e1 (yes _ hS' h4)
      · have e2 : u = undef := e2
        subst e2
        exact no _ hS (.un rfl hgd e1) h4
      · cases h4
end
def crounds (P : Program) (c : Code) (Q : Exit → AP) (m : Nat) : AP := fun a w => ∀ (r : Option Nat) (M : List Deferred), Code.roundsIn (wideR r) 0 P c (upM M Q) m (withM M a) w
section
variable {P : Program}
theorem zrj {c : Code} {Q : Exit → AP} {m : Nat} {a : Act} {w : World} (h : cwp P c (Exit.then (crounds P c Q m) Q) a w) : crounds P c Q (m + 1) a w := fun r M => by
  show c.wpIn (wideR r) 0 P (Exit.then (Code.roundsIn (wideR r) 0 P c (upM M Q) m) (upM M Q)) (withM M a) w
  refine wpIn_mono (h r M) ?_
  rintro e a' w' ⟨b, rfl, h2⟩
  cases e with
  | normal => exact h2 r M
  | _ => exact ⟨b, rfl, h2⟩
theorem cwp_loop {c : Code} {Q : Exit → AP} {m : Nat} {a : Act} {w : World} (h : crounds P c Q m a w) : cwp P (.loop c) Q a w := fun r M => wpIn_loop_rounds m (h r M)
theorem zu4 {c : Code} {Q Q' : Exit → AP} (hq : ∀ e a w, Q e a w → Q' e a w) {m : Nat} {a : Act} {w : World} (h : crounds P c Q m a w) : crounds P c Q' (m + 1) a w := fun r M => by
  have key : ∀ m a w, Code.roundsIn (wideR r) 0 P c (upM M Q) m a w → Code.roundsIn (wideR r) 0 P c (upM M Q') (m + 1) a w := by
    intro m
    induction m with
    | zero => intro a w h; exact h.elim
    | succ m ih =>
      intro a w h
      refine wpIn_mono (show c.wpIn (wideR r) 0 P (Exit.then (Code.roundsIn (wideR r) 0 P c (upM M Q) m) (upM M Q)) a w from h) fun e a w q => ?_
      cases e with
      | normal => exact ih a w q
      | _ => obtain ⟨b, h1, h2⟩ := q; exact ⟨b, h1, hq _ _ _ h2⟩
  exact key _ _ _ (h r M)
def noG : Nat → AP := fun _ _ _ => False
def cN (P : Program) (F : AP) (n : Nat) : List Fr → AP × (Nat → AP)
  | [] => (F, fun _ _ _ => False)
  | .seq b _ :: c => (fun a w => W P b (cN P F n c).1 (cN P F n c).2 F noG a w,(cN P F n c).2)
  | .block i :: c => ((cN P F n c).1, fun j => if j = i then (cN P F n c).1 else (cN P F n c).2 j)
  | .loop b _ :: c => (crounds P b (Post (fun _ _ => False) (cN P F n c).2 F noG) n,(cN P F n c).2)
abbrev WC (P : Program) (F : AP) (n : Nat) (c : Code) (ctx : List Fr) : AP := W P c (cN P F n ctx).1 (cN P F n ctx).2 F noG
theorem zl3 {F : AP} {n : Nat} : ∀ (ctx : List Fr),(∀ a w,(cN P F n ctx).1 a w → (cN P F (n + 1) ctx).1 a w) ∧ ∀ i a w,(cN P F n ctx).2 i a w → (cN P F (n + 1) ctx).2 i a w
  | [] => ⟨fun _ _ h => h, fun _ _ _ h => h⟩
  | .seq b p :: c => by
    obtain ⟨h1, h2⟩ := zl3 (F := F) (n := n) c
    exact ⟨fun a w h => W.mono h h1 h2 (fun _ _ h => h) (fun _ _ _ h => h), h2⟩
  | .block i :: c => by
    obtain ⟨h1, h2⟩ := zl3 (F := F) (n := n) c
    refine ⟨h1, fun j a w h => ?_⟩
    simp only [cN] at h ⊢
    split
    · rename_i e; rw [if_pos e] at h; exact h1 a w h
    · rename_i e; rw [if_neg e] at h; exact h2 j a w h
  | .loop b p :: c => by
    obtain ⟨h1, h2⟩ := zl3 (F := F) (n := n) c
    refine ⟨fun a w h => zu4 (fun e a w hq => ?_) h, h2⟩
    cases e <;> first | exact hq | exact h2 _ a w hq
theorem zu9 {F : AP} {n : Nat} {c : Code} {ctx : List Fr} {a : Act} {w : World} (h : WC P F n c ctx a w) : WC P F (n + 1) c ctx a w :=
  W.mono h (zl3 ctx).1 (zl3 ctx).2 (fun _ _ h => h) (fun _ _ _ h => h)
theorem zv4 {F : AP} {n : Nat} {b : Code} {p : List Nat} {ctx : List Fr} {a : Act} {w : World} (h : WC P F n b (.loop b p :: ctx) a w) : (cN P F (n + 1) (.loop b p :: ctx)).1 a w := by
  have h' : crounds P b (Post (fun _ _ => False) (cN P F n ctx).2 F noG) (n + 1) a w := zrj (zlu h fun e a w q => by cases e <;> exact q)
  have key : ∀ {m a w}, crounds P b (Post (fun _ _ => False) (cN P F n ctx).2 F noG) m a w → crounds P b (Post (fun _ _ => False) (cN P F (n + 1) ctx).2 F noG) m a w := by
    intro m a w h r M
    have key : ∀ m a w, Code.roundsIn (wideR r) 0 P b (upM M (Post (fun _ _ => False) (cN P F n ctx).2 F noG)) m a w → Code.roundsIn (wideR r) 0 P b (upM M (Post (fun _ _ => False) (cN P F (n + 1) ctx).2 F noG)) m a w := by
      intro m
      induction m with
      | zero => intro a w h; exact h
      | succ m ih =>
        intro a w h
        refine wpIn_mono (show b.wpIn (wideR r) 0 P (Exit.then (Code.roundsIn (wideR r) 0 P b (upM M (Post (fun _ _ => False) (cN P F n ctx).2 F noG)) m) (upM M (Post (fun _ _ => False) (cN P F n ctx).2 F noG))) a w from h) fun e a w q => ?_
        cases e with
        | normal => exact ih a w q
        | exit i => obtain ⟨c, h1, h2⟩ := q; exact ⟨c, h1,(zl3 ctx).2 i _ _ h2⟩
        | _ => obtain ⟨c, h1, h2⟩ := q; exact ⟨c, h1, h2⟩
    exact key _ _ _ (h r M)
  exact key h'
end
end
section
attribute [local irreducible] opd opr
open Go.RowKit Go.Sl
variable [F0]
section
variable {α : Type} {r : α}
variable {P : Program} {E : Env} {n : Nat} {w0 : World} {f0 : Fz} {N0 : Nm} {Lk : List Ent}
def FamK (w0 : World) (f0 : Fz) (Lk : List Ent) (X : World → Prop) : Prop := ∃ f' L', X = Cw w0 f' L' ∧ Fz.le f0 f' ∧ ∀ w, Cw w0 f' L' w → Cw w0 f0 Lk w
def LOk (P : Program) (w0 : World) (f0 : Fz) (N0 : Nm) (Lk : List Ent) (n : Nat) (o : Op) (slL : List (Nat × V)) (v : V) : Prop := ∀ (Es : List (Nat × Value)), SlR f0 N0 slL Es → ∃ u, VR f0 N0 v u ∧ ∀ (d : Option Tmp) ty pos af g (a : Act), Ev n Es a → ∀ X, FamK w0 f0 Lk X → ∀ w, X w → (⟨d, o, ty, pos, af, g⟩ : Oper).quietAt P a X w u
theorem zv5 (hE : EnvOk P E) {slL : List (Nat × V)} {obK : List Ob} (hO : OLR f0 N0 obK Lk) (hw : ∃ w, Cw w0 f0 Lk w) {o : Op} {K : V → Option α} (h : lookOp E o slL obK K = some r) : ∃ v, K v = some r ∧ LOk P w0 f0 N0 Lk n o slL v := by
  have q : ∀ o, cond (looks o) (qop E.T o slL obK K) none = some r → ∃ v, K v = some r ∧ LOk P w0 f0 N0 Lk n o slL v := fun o h => by
    obtain ⟨hl, h1⟩ := zb0 h
    obtain ⟨v, h2, hq⟩ := zux hE.T h1
    refine ⟨v, h2, fun Es hS => ?_⟩
    obtain ⟨w1, hw1⟩ := hw
    obtain ⟨u, g1, g2⟩ := hq f0 N0 Es Lk w0 w1 hS hO hw1
    refine ⟨u, g1, fun d ty pos af g a he X hX w hXw => ?_⟩
    obtain ⟨f', L', rfl, _, hK⟩ := hX
    have hy' := g2 n d ty pos af g a he w (hK w hXw)
    unfold Oper.quietAt at hy' ⊢
    cases hr : (execOp a.eval ⟨d, o, ty, pos, af, g⟩).run P w with
    | ok x w' =>
      rw [hr] at hy'
      cases x <;> simp only [Oper.quietUpon] at hy' ⊢ <;> try exact hy'
      exact absurd hr (znp hl)
    | halt x w' => rw [hr] at hy'; exact hy'
  cases o with
  | call c =>
    obtain ⟨callee, args, ats⟩ := c
    cases callee with
    | value fo =>
      obtain ⟨fv, h1, hf⟩ := zba (h : opd slL fo _ = some r)
      clear h
      obtain ⟨avs0, h2, hA⟩ := zpo h1
      obtain ⟨g, avs, h3, HC⟩ := ztk h2
      obtain ⟨c, hcon, h5⟩ := zrk hE h3
      obtain ⟨hlc, h6⟩ := zb0 h5
      obtain ⟨v, u, h7, hvu, H⟩ := znr hcon hlc h6
      refine ⟨v, h7, fun Es hS => ?_⟩
      obtain ⟨fu, e1, e2⟩ := hf f0 N0 Es hS
      obtain ⟨vs, e3, e4⟩ := hA f0 N0 Es hS
      obtain ⟨cap, rfl, e5⟩ := HC f0 N0 Lk hO fu vs e2 e4
      refine ⟨u, hvu f0 N0, fun d ty pos af gg a he X hX w hXw => ?_⟩
      obtain ⟨f', L', rfl, hle, hK⟩ := hX
      have hargs : args = args.toList.toArray := by simp
      rw [hargs]
      unfold Oper.quietAt
      rw [zg2 he e1 hcon.has e3]
      refine ⟨rfl, ?_⟩
      have := H f0 N0 Lk w0 w hO (hK w hXw) _ e5
      rw [show vs.toArray ++ cap.toArray = (vs ++ cap).toArray from by simp]
      exact this.mono fun e w' ⟨q1, q2⟩ => ⟨q1, cw_of hXw q2⟩
    | builtin b => exact q _ h
    | _ => exact q _ h
  | _ => exact q _ h
end
end
end Go.V
