/-
  Walks and laws of this seat.
-/
import Derived.Test.YteicdfkmpnmkmaaGreatBasg
import Derived.ChangeArms
import Derived.Lib.Builder
import Derived.Lib.UnsafeStr
import Derived.Laws.Externs
import Derived.Laws.LoneSync
import Derived.Defers
import Derived.ChangeKeysEq
import Derived.Test.YteicdfkmpnmkmaaGreatBasf
namespace Go.Sl
open Go.RowKit Go.ChangeShapes Go.WideShapes Go.ChangeAt
section
variable {α : Type} {P : Program}
def Sint (k : IntKind) (i : Int) : Prop := (Lit.int k i).wf = true
theorem ygd {β : Type} {Q : Nat → β → Prop} : ∀ (len : Nat),(∀ i, i < len → ∃ p, Q i p) → ∃ l : List β, l.length = len ∧ ∀ (i : Nat) p, l[i]? = some p → Q i p
  | 0, _ => ⟨[], rfl, by simp⟩
  | len + 1, h => by
    obtain ⟨l, h1, h2⟩ := ygd len (fun i hi => h i (by omega))
    obtain ⟨p, hp⟩ := h len (by omega)
    refine ⟨l ++ [p], by simp [h1], fun i q hq => ?_⟩
    rw [List.getElem?_append] at hq
    split at hq
    · exact h2 i q hq
    · have : i = len := by
        have := (List.getElem?_eq_some_iff.1 hq).1
        simp at this; omega
      subst this
      simp [h1] at hq
      subst hq
      exact hp
theorem yeu {w : World} {r : Reach} {base : Nat} {T : TypeId} {v : Value} {fs : Array Field} (ht : P.underlying T = some (.struct fs)) (h : Value.okWide P w r base T v) : ∃ cs : List Value, v = .agg cs.toArray := by
  simp only [Value.okWide, ht] at h
  cases v <;> simp_all
  exact ⟨_, rfl⟩
end
end Go.Sl
namespace Go.Sl
open Go.RowKit
def W0 (P : Program) (c : Code) (M : List Deferred) (Q : List Deferred → Exit → AP) : AP := fun a w => c.wpIn (wideR none) 0 P (fun e a w => ∃ M' b, a = withM M' b ∧ Q M' e b w) (withM M a) w
section
variable {P : Program} {M : List Deferred} {Q Q' : List Deferred → Exit → AP} {a : Act} {w : World}
theorem W0.mono {c : Code} (h : W0 P c M Q a w) (hq : ∀ M e a w, Q M e a w → Q' M e a w) : W0 P c M Q' a w :=
  wpIn_mono h fun _ _ _ ⟨M', b, h1, h2⟩ => ⟨M', b, h1, hq _ _ _ _ h2⟩
theorem W0_of {c : Code} (h : W P c (Q M .normal) (fun i => Q M (.exit i)) (Q M .ret) (fun i => Q M (.goto i)) a w) : W0 P c M Q a w :=
  wpIn_mono (h none M) fun e _ _ ⟨b, h1, h2⟩ => ⟨M, b, h1, by cases e <;> first | exact h2 | exact (h2 : False).elim⟩
theorem W0_seq {x y : Code} (h : W0 P x M (fun M' e => match e with | .normal => W0 P y M' Q | e => Q M' e) a w) : W0 P (.seq x y) M Q a w := by
  refine wpIn_seq (wpIn_mono h ?_)
  rintro e a w ⟨M', b, rfl, h⟩
  cases e <;> first | exact h | exact ⟨M', b, rfl, h⟩
theorem W0_block {id : Nat} {c : Code} (h : W0 P c M (fun M' e => match e with | .exit i => if i = id then Q M' .normal else Q M' (.exit i) | e => Q M' e) a w) : W0 P (.block id c) M Q a w := by
  refine wpIn_block (wpIn_mono h ?_)
  rintro e a w ⟨M', b, rfl, h⟩
  cases e <;> simp only [Exit.inBlock] at h ⊢ <;> first | exact ⟨M', b, rfl, h⟩ | skip
  split
  · rename_i hi; rw [if_pos hi] at h; exact ⟨M', b, rfl, h⟩
  · rename_i hi; rw [if_neg hi] at h; exact ⟨M', b, rfl, h⟩
theorem yhu {n w0 f L E} {c : Operand} {x y : Code} {b : Bool} (hs : St n w0 f L E a w) (hc : opv E c = some (.bool b))
    (ht : b = true → W0 P x M Q a w) (hf : b = false → W0 P y M Q a w) : W0 P (.cond c x y) M Q a w :=
  wpIn_cond_split (a := withM M a) (hs.ev.eval hc) ht hf
open Classical in
theorem W0_loop {c : Code} {G : Type} (I : G → List Deferred → AP) (m : G → Nat) (g0 : G) (h0 : I g0 M a w)
    (round : ∀ g M a w, I g M a w → ∀ K : List Deferred → AP,(∀ g' M' a' w', m g' < m g → I g' M' a' w' → K M' a' w') → W0 P c M (fun M' e => match e with | .normal => K M' | e => Q M' e) a w) : W0 P (.loop c) M Q a w := by
  refine wpIn_loop_ghost (fun k a w => ∃ M b, a = withM M b ∧ ∃ g, m g = k ∧ I g M b w) (m g0) ⟨M, a, rfl, g0, rfl, h0⟩ ?_
  rintro k a w ⟨M, b, rfl, g, rfl, hI⟩
  refine wpIn_mono (round g M b w hI (fun M' a' w' => ∃ n', n' < m g ∧ ∃ g, m g = n' ∧ I g M' a' w') (fun g' M' a' w' hlt hI' => ⟨m g', hlt, g', rfl, hI'⟩)) ?_
  rintro e a w ⟨M', b', rfl, q⟩
  cases e with
  | normal => obtain ⟨n', h1, h2⟩ := q; exact ⟨n', h1, M', b', rfl, h2⟩
  | _ => exact ⟨M', b', rfl, q⟩
def markOf (D : Nat) : Deferred := { target := .collected D, args := #[] }
def Marks (f0 f : Fz) (M : List Deferred) : Prop := ∃ Ds : List Nat, M = Ds.map markOf ∧ Ds.Nodup ∧ ∀ D ∈ Ds, f D = some (.deferred (some [])) ∧ f0 D = none
def RtM (P : Program) (fn : Func) (R : Ending → World → Prop) (f0 : Fz) (M : List Deferred) : AP := fun a w =>
  ∃ n w0 f L E, St n w0 f L E a w ∧ Fz.le f0 f ∧ Marks f0 f M ∧ ∀ w', St n w0 f0 L E a w' → Rt P fn R a w'
theorem Cw.take {w0 : World} {f : Fz} {L : List Ent} {D : Nat} {o o' : Obj} (h : Cw w0 f L w) (hD : f D = some o) : Cw w0 (fun b => if b = D then none else f b) L (w.putObj D o') := by
  have hother : ∀ b, b ≠ D → (w.putObj D o').heap[b]? = w.heap[b]? := fun b hb => World.putObj_heap_other hb
  have hL : ∀ e ∈ L, e.key ≠ some D := fun e he hk => by have := h.apart e he D hk; rw [hD] at this; cases this
  refine ⟨h.os, h.tape, h.output, by simpa using h.size, fun b o hb => ?_, fun e he => ?_, fun e he b hb => ?_, h.sep⟩
  · by_cases e : b = D
    · rw [if_pos e] at hb; cases hb
    · rw [if_neg e] at hb
      rw [hother b e]; exact h.frz b o hb
  · have hh := h.live e he
    exact Ent.kept hh (fun b hb => hother b (fun e' => hL e he (by rw [hb, e'])))
  · by_cases e2 : b = D
    · exact if_pos e2
    · rw [if_neg e2]; exact h.apart e he b hb
theorem zup {fn : Func} {R : Ending → World → Prop} {n : Nat} {w0 : World} {f0 : Fz} {L : List Ent} {E : List (Nat × Value)} (a : Act) (hR : ∀ w', St n w0 f0 L E a w' → Rt P fn R a w') :
    ∀ (Ds : List Nat) (f : Fz) (w : World), Ds.Nodup → (∀ D ∈ Ds, f D = some (.deferred (some [])) ∧ f0 D = none) → Fz.le f0 f → Ev n E a → Cw w0 f L w → LeavesInM (wideR none) 0 P fn a.tmps R (Ds.map markOf) .returning w
  | [], f, w, _, _, hle, hev, hC => by
    obtain ⟨_, v, h1, h2⟩ := hR w ⟨hev, hC.weak hle⟩
    exact ⟨v, h1, h2⟩
  | D :: Ds, f, w, hn, hD, hle, hev, hC => by
    have hn := List.nodup_cons.1 hn
    have hd := hD D (by simp)
    refine ⟨by simp, .inl ⟨D, _, rfl, run_takeDeferred (hC.frz _ _ hd.1), ?_⟩⟩
    refine zup a hR Ds _ _ hn.2 (fun D' hD' => ?_) (fun b o hb => ?_) hev (hC.take hd.1)
    · have hne : D' ≠ D := fun e => hn.1 (e ▸ hD')
      exact ⟨by rw [if_neg hne]; exact (hD D' (by simp [hD'])).1,(hD D' (by simp [hD'])).2⟩
    · have hne : b ≠ D := fun e => by subst e; rw [hd.2] at hb; cases hb
      rw [if_neg hne]; exact hle b o hb
theorem enter0 {n : Nat} {w0 : World} {f : Fz} {L : List Ent} {gn : FuncId} {fn : Func} {c : Code} {args : List Value} {R : Ending → World → Prop} (hf : P.funcs[gn]? = some fn) (hb : fn.body = some c) (hn : fn.ntmps = n) (hl : args.length ≤ n) (hC : Cw w0 f L w)
    (h : ∀ a, St n w0 f L (argEnv 0 args) a w → W0 P c [] (fun M e a w => match e with | .normal => RtM P fn R f M a w | .ret => RtM P fn R f M a w | _ => False) a w) : Calls P gn args.toArray w R := by
  refine callsIn_wide (n := 0).1 (callsIn_of_wp_marks (F := wideR none) hf hb trivial (wpIn_mono (h { tmps := args.toArray ++ Array.replicate (fn.ntmps - args.toArray.size) undef, defers := [] } ⟨⟨?_, rfl, ?_⟩, hC⟩) fun e a w q => ?_))
  · simp; omega
  · intro t v ht
    obtain ⟨_, h2⟩ := zrl args 0 t v ht
    simp only [Nat.sub_zero] at h2
    have hlt : t < args.length := (List.getElem?_eq_some_iff.1 h2).1
    rw [Array.getElem?_append_left (by simpa using hlt)]
    simpa using h2
  · obtain ⟨M, b, rfl, q⟩ := q
    have fin : RtM P fn R f M b w → LeavesInM (wideR none) 0 P fn b.tmps R M .returning w := by
      rintro ⟨n, w0, f', L, E, hs, hle, ⟨Ds, rfl, h1, h2⟩, hR⟩
      exact zup b hR Ds f' w h1 h2 hle hs.ev hs.cw
    cases e <;> first | exact fin q | exact q.elim
end
end Go.Sl
namespace Go.Sl
open Go.RowKit
section
variable {P : Program} {f f' : Fz} {L L' : List Ent} {w0 w w' : World} {n : Nat} {E E' : List (Nat × Value)} {a : Act}
theorem Cw.turn {A B : List Ent} {b : Nat} {o o' : Obj} (h : Cw w0 f (A ++ .blk b o :: B) w) : Cw w0 f (A ++ .blk b o' :: B) (w.putObj b o') := by
  have hi : (A ++ .blk b o :: B)[A.length]? = some (.blk b o) := by simp
  have hh : w.heap[b]? = some o := h.live (.blk b o) (by simp)
  have hlt : b < w.heap.size := (Array.getElem?_eq_some_iff.1 hh).1
  have := h.repl (w' := w.putObj b o') (y := .blk b o') hi ⟨rfl, rfl, rfl, by simp, fun k _ hk => World.putObj_heap_other (fun e => hk (by rw [e]; rfl))⟩ (World.putObj_heap_same hlt) (fun c hc => .inl hc)
  rwa [List.set_append_right _ _ (Nat.le_refl _), Nat.sub_self] at this
theorem Cw.sink {x : Ent} {A B : List Ent} (h : Cw w0 f (x :: (A ++ B)) w) : Cw w0 f (A ++ x :: B) w := by
  refine h.places (fun i => if i < A.length then i + 1 else if i = A.length then 0 else i) (fun i j hij e => ?_) (fun i y hi => ?_)
  · have e := e
    split at e <;> split at e <;> (try split at e) <;> (try split at e) <;> omega
  · skip
    by_cases h1 : i < A.length
    · rw [if_pos h1, List.getElem?_cons_succ, List.getElem?_append_left h1]
      rwa [List.getElem?_append_left h1] at hi
    · rw [if_neg h1]
      rw [List.getElem?_append_right (by omega)] at hi
      by_cases h2 : i = A.length
      · rw [if_pos h2]
        rw [h2, Nat.sub_self] at hi
        exact hi
      · rw [if_neg h2]
        obtain ⟨j, rfl⟩ : ∃ j, i = j + 1 := ⟨i - 1, by omega⟩
        rw [List.getElem?_cons_succ, List.getElem?_append_right (by omega)]
        rw [show j + 1 - A.length = (j - A.length) + 1 by omega, List.getElem?_cons_succ] at hi
        exact hi
def Iter {α : Type} (P : Program) (g : FuncId) (lb : List Value) (f : Fz) (xs : List α) (enc : α → Value) : Prop :=
  ∀ (l : Nat) (w0 : World) (f' : Fz) (J : List α → List Ent → Prop) (Jx : List Ent → Prop) (L : List Ent) (w : World), Fz.le f f' → Cw w0 f' L w → J xs L →
    (∀ x rem L T f'' w, Fz.le f' f'' → Cw w0 f'' (L ++ T) w → J (x :: rem) L → YieldAt Fence.wide 0 P l #[enc x] w fun e w' => ∃ L', Cw w0 f'' (L' ++ T) w' ∧ ((e = .returned (.bool true) ∧ J rem L') ∨ (e = .returned (.bool false) ∧ Jx L'))) →
    Calls P g (#[.func (.yield l) #[] #[]] ++ lb.toArray) w fun e w' => ∃ v L', e = .returned v ∧ Cw w0 f' L' w' ∧ (J [] L' ∨ Jx L')
end
end Go.Sl
namespace Go.Sl
open Go.RowKit
section
variable {P : Program} {f f' : Fz} {L L' : List Ent} {w0 w w' : World} {n : Nat} {E E' : List (Nat × Value)} {a : Act}
variable {ops : Array Oper} {rest : List Oper} {K : AP} {ty : TypeId} {pos : String} {af : Array Edge} {g : Option (Nat × Bool)}
theorem Cw.comm {A B : List Ent} (h : Cw w0 f (A ++ B) w) : Cw w0 f (B ++ A) w := by
  refine h.places (fun i => if i < B.length then A.length + i else if i - B.length < A.length then i - B.length else i) (fun i j hij e => ?_) (fun i y hi => ?_)
  · have e := e
    split at e <;> split at e <;> (try split at e) <;> (try split at e) <;> omega
  · have hl := (List.getElem?_eq_some_iff.1 hi).1
    rw [List.length_append] at hl
    by_cases h1 : i < B.length
    · rw [if_pos h1, List.getElem?_append_right (by omega), show A.length + i - A.length = i by omega]
      rwa [List.getElem?_append_left h1] at hi
    · rw [if_neg h1, if_pos (by omega), List.getElem?_append_left (by omega)]
      rwa [List.getElem?_append_right (by omega)] at hi
theorem RL_yield {ents : List Ent} {l : Nat} {x : Operand} {as : List Operand} {vs : List Value} {ats : Array TypeId} {R : Value → List Ent → Prop} (hs : St n w0 f (ents ++ L) E a w) {dd : Nat}
    (hx : opv E x = some (.func (.yield l) #[] #[])) (hv : as.mapM (opv E) = some vs)
    (hy : ∀ w, Cw w0 f (L ++ ents) w → YieldAt Fence.wide 0 P l vs.toArray w fun e w' => ∃ v L', e = .returned v ∧ Cw w0 f (L' ++ ents) w' ∧ R v L')
    (hw : Want ops E ⟨some dd, .call { callee := .value x, args := as.toArray, argTypes := ats }, ty, pos, af, g⟩ true) (hd : dd < n)
    (h : ∀ v L' a w, R v L' → St n w0 f (ents ++ L') ((dd, v) :: E) a w → RL P ops rest K a w) :
    RL P ops (⟨some dd, .call { callee := .value x, args := as.toArray, argTypes := ats }, ty, pos, af, g⟩ :: rest) K a w := by
  refine zpq fun K' hK' => ?_
  rw [if_pos (hw.wanted hs.ev)]
  unfold opS
  obtain ⟨fn, tmps, assign, body, h1, h2⟩ := hy w hs.cw.comm
  have e1 : as.toArray.map a.eval = vs.toArray := by simp [evalArgs hs.ev hv]
  have : (execOp a.eval (⟨some dd, .call { callee := .value x, args := as.toArray, argTypes := ats }, ty, pos, af, g⟩ : Oper)).run P w = .ok (.round l fn tmps assign body) w := by
    simp [execOp, resolve, hs.ev.eval hx, Deferred.ofValue, invoke, e1, h1]
  rw [this]
  refine RoundIn.mono h2 ?_
  rintro e w' ⟨v, L', rfl, h3, h4⟩
  exact ⟨v, rfl, hK' _ _ (h v L' _ _ h4 ⟨hs.ev.put hd v, h3.comm⟩)⟩
end
end Go.Sl
namespace Go.Sl
open Go.RowKit
abbrev MP := List Deferred → AP
def W1 (P : Program) (c : Code) (M : List Deferred) (Qn : MP) (Qe : Nat → MP) (Qr : MP) (Qg : Nat → MP) : AP :=
  W0 P c M fun M' e => Post (Qn M') (fun i => Qe i M') (Qr M') (fun i => Qg i M') e
section
variable {P : Program} {f f' f0 : Fz} {L L' : List Ent} {w0 w w' : World} {n : Nat} {E E' : List (Nat × Value)} {a : Act}
variable {M : List Deferred} {Qn : MP} {Qe : Nat → MP} {Qr : MP} {Qg : Nat → MP}
theorem W1.mono {c : Code} {Qn' : MP} {Qe' : Nat → MP} {Qr' : MP} {Qg' : Nat → MP} (h : W1 P c M Qn Qe Qr Qg a w) (hn : ∀ M a w, Qn M a w → Qn' M a w) (he : ∀ i M a w, Qe i M a w → Qe' i M a w)
    (hr : ∀ M a w, Qr M a w → Qr' M a w) (hg : ∀ i M a w, Qg i M a w → Qg' i M a w) : W1 P c M Qn' Qe' Qr' Qg' a w :=
  W0.mono h fun M e a w q => by cases e <;> first | exact hn _ _ _ q | exact he _ _ _ _ q | exact hr _ _ _ q | exact hg _ _ _ _ q | exact q
theorem zh6 {c : Code} (h : W P c (Qn M) (fun i => Qe i M) (Qr M) (fun i => Qg i M) a w) : W1 P c M Qn Qe Qr Qg a w := W0_of h
theorem zdt {x y : Code} (h : ∀ K : MP,(∀ M a w, W1 P y M Qn Qe Qr Qg a w → K M a w) → W1 P x M K Qe Qr Qg a w) : W1 P (.seq x y) M Qn Qe Qr Qg a w :=
  W0_seq (W0.mono (h _ fun _ _ _ h => h) fun M e a w q => by cases e <;> exact q)
theorem yaa {id : Nat} {c : Code} (h : ∀ Qe' : Nat → MP,(∀ M a w, Qn M a w → Qe' id M a w) → (∀ i, Nat.beq i id = false → ∀ M a w, Qe i M a w → Qe' i M a w) → W1 P c M Qn Qe' Qr Qg a w) :
    W1 P (.block id c) M Qn Qe Qr Qg a w := by
  refine W0_block (W0.mono (h (fun i => if i = id then Qn else Qe i) (fun M a w h => by simpa using h) (fun i hi M a w h => by
    have : i ≠ id := by intro e; subst e; simp at hi
    simpa [this] using h)) ?_)
  rintro M e a w q
  cases e <;> simp only [Post] at q ⊢ <;> first | exact q | skip
  split
  · rename_i hi; rw [if_pos hi] at q; exact q
  · rename_i hi; rw [if_neg hi] at q; exact q
theorem yhs {c : Operand} {x y : Code} {b : Bool} (hs : St n w0 f L E a w) (hc : opv E c = some (.bool b))
    (ht : b = true → W1 P x M Qn Qe Qr Qg a w) (hf : b = false → W1 P y M Qn Qe Qr Qg a w) : W1 P (.cond c x y) M Qn Qe Qr Qg a w := yhu hs hc ht hf
theorem ya9 {c : Operand} {x y : Code} (hs : St n w0 f L E a w) (hc : opv E c = some (.bool false)) (ht : W1 P y M Qn Qe Qr Qg a w) : W1 P (.cond c x y) M Qn Qe Qr Qg a w := yhu hs hc (fun h => by cases h) (fun _ => ht)
theorem W1_loop {c : Code} {G : Type} (I : G → MP) (m : G → Nat) (g0 : G) (h0 : I g0 M a w)
    (round : ∀ g M a w, I g M a w → ∀ K : MP,(∀ g' M' a' w', m g' < m g → I g' M' a' w' → K M' a' w') → W1 P c M K Qe Qr Qg a w) : W1 P (.loop c) M Qn Qe Qr Qg a w :=
  W0_loop I m g0 h0 fun g M a w hI K hK => W0.mono (round g M a w hI K hK) fun M e a w q => by cases e <;> exact q
theorem W1_post (I : MP) {c : Code} (h1 : ∀ M a w, I M a w → Qn M a w) (h2 : W1 P c M I Qe Qr Qg a w) : W1 P c M Qn Qe Qr Qg a w :=
  h2.mono h1 (fun _ _ _ _ h => h) (fun _ _ _ h => h) (fun _ _ _ _ h => h)
theorem Marks.le {f0 f f' : Fz} {M : List Deferred} (h : Marks f0 f M) (hf : Fz.le f f') : Marks f0 f' M := by
  obtain ⟨Ds, h1, h2, h3⟩ := h
  exact ⟨Ds, h1, h2, fun D hD => ⟨hf _ _ (h3 D hD).1,(h3 D hD).2⟩⟩
theorem Marks.nil {f0 f : Fz} : Marks f0 f [] := ⟨[], rfl, List.nodup_nil, fun _ h => by simp at h⟩
theorem Marks.cons {f0 f f' : Fz} {M : List Deferred} {D : Nat} (h : Marks f0 f M) (hle : Fz.le f0 f) (hf : Fz.le f f') (h1 : f D = none) (h2 : f' D = some (.deferred (some []))) : Marks f0 f' (markOf D :: M) := by
  obtain ⟨Ds, rfl, hn, h3⟩ := h
  refine ⟨D :: Ds, rfl, List.nodup_cons.2 ⟨fun hD => ?_, hn⟩, fun D' hD' => ?_⟩
  · have := (h3 D hD).1; rw [h1] at this; cases this
  · rcases List.mem_cons.1 hD' with rfl | hD'
    · refine ⟨h2, ?_⟩
      cases e : f0 D' with
      | none => rfl
      | some o => have := hle _ _ e; rw [h1] at this; cases this
    · exact ⟨hf _ _ (h3 D' hD').1,(h3 D' hD').2⟩
theorem enter1 {gn : FuncId} {fn : Func} {c : Code} {args : List Value} {R : Ending → World → Prop} (hf : P.funcs[gn]? = some fn) (hb : fn.body = some c) (hn : fn.ntmps = n) (hl : args.length ≤ n) (hC : Cw w0 f L w)
    (h : ∀ a, St n w0 f L (argEnv 0 args) a w → W1 P c [] (fun M => RtM P fn R f M) (fun _ _ _ _ => False) (fun M => RtM P fn R f M) (fun _ _ _ _ => False) a w) : Calls P gn args.toArray w R :=
  enter0 hf hb hn hl hC fun a hs => W0.mono (h a hs) fun M e a w q => by cases e <;> exact q
theorem RtM_of {fn : Func} {R : Ending → World → Prop} (hs : St n w0 f L E a w) (hle : Fz.le f0 f) (hM : Marks f0 f M) (h : ∀ w', St n w0 f0 L E a w' → Rt P fn R a w') : RtM P fn R f0 M a w :=
  ⟨n, w0, f, L, E, hs, hle, hM, h⟩
section
variable {ops : Array Oper} {rest : List Oper} {K : AP} {ty : TypeId} {pos : String} {af : Array Edge}
end
section
variable {C : World → Prop} {d : Option Tmp} {ty : TypeId} {pos : String} {af : Array Edge} {g : Option (Nat × Bool)}
theorem yfb {t : TypeId} {x : Operand} {ol oh : Option Operand} {s u : ByteArray} {lo hi : Nat} (he : s.extract lo hi = u) (hx : opv E x = some (.string s)) (ht : P.underlying t = some .string)
    (hlo : (ol = none ∧ lo = 0) ∨ ∃ y, ol = some y ∧ opv E y = some (.int .i64 (lo : Int))) (hhi : (oh = none ∧ hi = s.size) ∨ ∃ y, oh = some y ∧ opv E y = some (.int .i64 (hi : Int))) (h1 : lo ≤ hi) (h2 : hi ≤ s.size) :
    Y P C n E ⟨d, .slice t x ol oh none, ty, pos, af, g⟩ (.string u) := by subst he; exact y_sliceS hx ht hlo hhi h1 h2
end
end
end Go.Sl
namespace Go.Sl
open Go.RowKit
end Go.Sl
namespace Go.Sl
open Go.RowKit
section
variable {P : Program} {f f' f0 : Fz} {L L' Lc : List Ent} {w0 w w' : World} {n m i : Nat} {E E' : List (Nat × Value)} {a : Act}
variable {ops : Array Oper} {rest : List Oper} {o : Oper} {K : AP} {C : World → Prop} {op : Op}
variable {d : Option Tmp} {ty : TypeId} {pos : String} {af : Array Edge} {g : Option (Nat × Bool)} {brk : List Nat} {p : PT} {v : Value}
def Apart (x y : Ent) : Prop := ∀ k, x.key = some k → y.key = some k → False
theorem zub {L : List Ent} : (∀ (i j : Nat) (x y : Ent), L[i]? = some x → L[j]? = some y → i ≠ j → ∀ k, x.key = some k → y.key = some k → False) ↔ L.Pairwise Apart := by
  rw [List.pairwise_iff_getElem]
  constructor
  · intro h i j hi hj hij k h1 h2
    exact h i j _ _ (List.getElem?_eq_getElem hi) (List.getElem?_eq_getElem hj) (by omega) k h1 h2
  · intro h i j x y hi hj hij k h1 h2
    obtain ⟨hi', rfl⟩ := List.getElem?_eq_some_iff.1 hi
    obtain ⟨hj', rfl⟩ := List.getElem?_eq_some_iff.1 hj
    rcases Nat.lt_or_gt_of_ne hij with hlt | hlt
    · exact h i j hi' hj' hlt k h1 h2
    · exact h j i hj' hi' hlt k h2 h1
theorem Cw.perm (h : Cw w0 f L w) (hp : L.Perm L') : Cw w0 f L' w := by
  refine ⟨h.os, h.tape, h.output, h.size, h.frz, fun e he => h.live e (hp.mem_iff.2 he), fun e he => h.apart e (hp.mem_iff.2 he), ?_⟩
  rw [zub]
  exact (List.Perm.pairwise_iff (fun {x y} (hxy : Apart x y) k h1 h2 => hxy k h2 h1) hp).1 (zub.1 h.sep)
theorem RW.ints {k : IntKind} {rows : List (List Value)} {xs : List Int} (h : RW (tInt k) f rows xs) : rows = xs.map fun x => [.int k x] := RW.map (fun _ _ h => h) h
theorem y_r2sW {t u e : TypeId} {x : Operand} {v : Value} {rows : List (List Value)} {xs : List Int} (hx : opv E x = some v) (ht : P.underlying t = some (.slice e)) (he : P.underlying e = some (.int .i32)) (hu : P.underlying u = some .string) (hR : Rd f L v 1 rows) (hW : RW (tInt .i32) f' rows xs) :
    Y P (Cw w0 f L) n E ⟨d, .convert t u x, ty, pos, af, g⟩ (.string (textOf xs)) := y_r2s hx ht he hu (hW.ints ▸ hR)
theorem y_b2sW {t u e : TypeId} {x : Operand} {v : Value} {rows : List (List Value)} {xs : List Int} (hx : opv E x = some v) (ht : P.underlying t = some (.slice e)) (he : P.underlying e = some (.int .u8)) (hu : P.underlying u = some .string) (hR : Rd f L v 1 rows) (hW : RW (tInt .u8) f' rows xs) :
    Y P (Cw w0 f L) n E ⟨d, .convert t u x, ty, pos, af, g⟩ (.string (bytesOf xs)) := y_b2s hx ht he hu (hW.ints ▸ hR)
def runesM (s : ByteArray) : Option (List Int) := bif decide (s.size ≤ 70368744177664) then some (runesIn s) else none
theorem yc4 {s : ByteArray} {xs : List Int} (h : runesM s = some xs) : s.size ≤ 70368744177664 ∧ runesIn s = xs := by
  unfold runesM at h
  by_cases hs : s.size ≤ 70368744177664
  · rw [decide_eq_true hs] at h; exact ⟨hs, Option.some.inj h⟩
  · rw [decide_eq_false hs] at h; cases h
theorem RW.ofInts {k : IntKind} : ∀ xs : List Int, RW (tInt k) f (xs.map fun x => [.int k x]) xs
  | [] => trivial
  | _ :: xs => ⟨rfl, RW.ofInts xs⟩
theorem RL_s2rW {t u e : TypeId} {x : Operand} {s : ByteArray} {xs : List Int} {dd : Nat} (hm : runesM s = some xs) (hs : St n w0 f L E a w) (hx : opv E x = some (.string s)) (ht : P.underlying t = some .string) (hu : P.underlying u = some (.slice e)) (he : P.underlying e = some (.int .i32))
    (h : ∀ v rows a w, RW (tInt .i32) f rows xs → St n w0 f (.row v e 1 rows :: L) ((dd, v) :: E) a w → RL P ops rest K a w) (hd : dd < n := by decide) :
    RL P ops (⟨some dd, .convert t u x, ty, pos, af, none⟩ :: rest) K a w := by
  obtain ⟨h1, rfl⟩ := yc4 hm
  exact RL_s2r hs hx ht hu he h1 (fun v a w hs => h v _ a w (RW.ofInts _) hs) hd
def bytesM (s : ByteArray) : Option (List Int) := bif decide (s.size ≤ 70368744177664) then some (bytesIn s) else none
end
section
variable {P : Program} {f f' f0 : Fz} {L L' Lc : List Ent} {w0 w w' : World} {n m i : Nat} {E E' : List (Nat × Value)} {a : Act}
variable {ops : Array Oper} {K : AP} {ty : TypeId} {pos : String} {af : Array Edge} {brk : List Nat} {p : PT} {v : Value} {dd : Nat} {j gd : Nat} {b : Bool}
end
end Go.Sl
namespace Go.Sl
open Go.RowKit
section
variable {P : Program} {f f' f0 : Fz} {L L' Lc : List Ent} {w0 w w' : World} {n m i : Nat} {E E' : List (Nat × Value)} {a : Act}
variable {d : Option Tmp} {ty : TypeId} {pos : String} {af : Array Edge} {g : Option (Nat × Bool)} {r v : Value}
theorem y_callCK {gn : FuncId} {x : Operand} {cap : List Value} {as : List Operand} {vs : List Value} {ats : Array TypeId} (hx : opv E x = some (.func (.func gn) #[] cap.toArray)) (hg : Has P gn) (hv : as.mapM (opv E) = some vs)
    (hp : ∀ w, Cw w0 f L w → Calls P gn (vs ++ cap).toArray w fun e w' => e = .returned v ∧ Cw w0 f L w') :
    Y P (Cw w0 f L) n E ⟨d, .call { callee := .value x, args := as.toArray, argTypes := ats }, ty, pos, af, g⟩ v := by
  intro a ha w hw
  unfold Oper.quietAt
  rw [zps ha hx hg hv]
  refine ⟨rfl, ?_⟩
  have := hp w hw
  rw [List.append_toArray] at *
  simpa using this
end
section
variable {P : Program} {Qn : AP} {Qe : Nat → AP} {Qr : AP} {Qg : Nat → AP} {a : Act} {w : World} {c : Code}
end
end Go.Sl
namespace Go.Sl
open Go.RowKit
section
variable {P : Program} {f f' f0 : Fz} {L L' : List Ent} {w0 w w' : World} {n : Nat} {E E' : List (Nat × Value)} {a : Act}
variable {ops : Array Oper} {rest : List Oper} {o : Oper} {K : AP} {C : World → Prop}
variable {d : Option Tmp} {ty : TypeId} {pos : String} {af : Array Edge} {g : Option (Nat × Bool)}
def Obj.free : Obj → Bool
  | .cells _ _ (0,0) => true
  | _ => false
def fy (f0 f : Fz) : Fz := fun b => match f0 b, f b with
  | none, some o => if Obj.free o = true then some o else none
  | _, _ => none
theorem zpb {b : Nat} {o : Obj} : fy f0 f b = some o ↔ f0 b = none ∧ f b = some o ∧ Obj.free o = true := by
  unfold fy
  cases h0 : f0 b with
  | some _ => simp
  | none =>
    cases h1 : f b with
    | none => simp
    | some u =>
      simp only
      split
      · rename_i h; constructor
        · intro e; cases e; exact ⟨trivial, rfl, h⟩
        · rintro ⟨_, e, _⟩; exact e
      · rename_i h
        constructor
        · intro e; cases e
        · rintro ⟨_, e, h2⟩; cases e; exact absurd h2 h
theorem fy_le : Fz.le (fy f0 f) f := fun _ _ h => (zpb.1 h).2.1
theorem fyl (h : Fz.le f f') : Fz.le (fy f0 f) (fy f0 f') := fun b o hb => by
  obtain ⟨h1, h2, h3⟩ := zpb.1 hb
  exact zpb.2 ⟨h1, h b o h2, h3⟩
theorem zze {b : Nat} (h : Fz.le f0 f) (hb : f b = none) : f0 b = none := by
  cases e : f0 b with
  | none => rfl
  | some o => rw [h b o e] at hb; cases hb
theorem yd0 {t : TypeId} {x y : Operand} {b o : Nat} {i : Nat} {k : Nat} {cs : Array Value} {r' : List Value} {e : TypeId} {by_ : Nat} {z : Value} (hs : St n w0 f L E a w) (hi : L[i]? = some (.blk b (.cells cs e (0,0))))
    (hx : opv E x = some (.pointer (some ⟨b, o, none⟩))) (hy : opv E y = some (.agg r'.toArray)) (hT : TI P t k by_ z) (hu : OneRow k r') (ho : o + k ≤ cs.size) (hw : Want ops E ⟨none, .store t x y, ty, pos, af, g⟩ true)
    (h : ∀ a w, St n w0 f (L.set i (.blk b (.cells (cs.toList.take o ++ r' ++ cs.toList.drop (o + r'.length)).toArray e (0,0)))) E a w → RL P ops rest K a w) : RL P ops (⟨none, .store t x y, ty, pos, af, g⟩ :: rest) K a w := by
  have hlive : w.heap[b]? = some (.cells cs e (0,0)) := hs.cw.live _ (List.mem_of_getElem? hi)
  obtain ⟨it, hit, _, hk', _⟩ := hT
  have hst := run_storeCells_at P b o e r' 0 cs w hlive (by simpa [hu.1] using ho) hu.2
  simp only [Nat.add_zero] at hst
  refine RL_u hs hw (.drop rfl) (w' := w.setRow b (cs.toList.take o ++ r' ++ cs.toList.drop (o + r'.length)).toArray) (f' := f) (L' := L.set i (.blk b (.cells (cs.toList.take o ++ r' ++ cs.toList.drop (o + r'.length)).toArray e (0,0)))) ?_ ?_ h
  · simp [execOp, hs.ev.eval hx, hs.ev.eval hy, Instr.storeAt, Instr.sureAddr, storeVar, sizeOf, typeInfo, hit, Value.cells, hu.1, hk', hst]
  · exact hs.cw.repl hi (Grew.setRow w b _) (setRow_heap w b cs _ e _ hlive) (fun b' hb => .inl hb)
end
end Go.Sl
namespace Go.Sl
open Go.RowKit
end Go.Sl
namespace Go.Sl
open Go.RowKit
section
variable {P : Program} {f f' : Fz} {L L' : List Ent} {w0 w w' : World} {n : Nat} {E E' : List (Nat × Value)} {a : Act}
variable {ops : Array Oper} {rest : List Oper} {o : Oper} {K : AP} {C : World → Prop}
variable {d : Option Tmp} {ty : TypeId} {pos : String} {af : Array Edge} {g : Option (Nat × Bool)}
end
end Go.Sl
namespace Go.Sl
open Go.RowKit
section
variable {P : Program} {f f' f0 : Fz} {L L' Lc : List Ent} {w0 w w' : World} {n m i : Nat} {E E' : List (Nat × Value)} {a : Act}
variable {ops : Array Oper} {rest : List Oper} {K : AP} {C : World → Prop}
variable {d : Option Tmp} {ty : TypeId} {pos : String} {af : Array Edge} {g : Option (Nat × Bool)} {v : Value} {dd : Nat}
end
end Go.Sl
namespace Go.Sl
open Go.RowKit
section
variable {P : Program} {f : Fz} {L : List Ent} {w0 w : World} {n : Nat} {E : List (Nat × Value)} {a : Act}
variable {ops : Array Oper} {rest : List Oper} {K : AP} {d : Option Tmp} {ty : TypeId} {pos : String} {af : Array Edge}
end
end Go.Sl
namespace Go.Sl
open Go.RowKit
section
variable {P : Program} {f f' f0 : Fz} {L L' Lc : List Ent} {w0 w w' : World} {n m i : Nat} {E E' : List (Nat × Value)} {a : Act}
variable {ops : Array Oper} {rest : List Oper} {K : AP} {C : World → Prop}
variable {d : Option Tmp} {ty : TypeId} {pos : String} {af : Array Edge} {g : Option (Nat × Bool)} {v : Value} {dd : Nat}
end
end Go.Sl
namespace Go.Sl
open Go.RowKit
section
variable {P : Program} {f f' : Fz} {L : List Ent} {w0 w : World} {n : Nat} {E : List (Nat × Value)} {a : Act} {fn : Func} {R : Ending → World → Prop} {M : List Deferred} {K : AP}
variable {ops : Array Oper} {rest : List Oper} {ty : TypeId} {pos : String} {af : Array Edge} {g : Option (Nat × Bool)} {dd : Nat}
end
end Go.Sl
namespace Go.Sl
open Go.RowKit
section
variable {P : Program} {C : World → Prop} {n : Nat} {E : List (Nat × Value)} {d : Option Tmp} {ty : TypeId} {pos : String} {af : Array Edge} {g : Option (Nat × Bool)}
theorem y_slNeq {t t' e : TypeId} {x : Operand} {ao : Option Addr} {m c : Nat} (hx : opv E x = some (.slice ao m c)) (ht : P.underlying t = some (.slice e)) : Y P C n E ⟨d, .binOp .neq t x (.const (.slice none 0 0)) t', ty, pos, af, g⟩ (.bool ao.isSome) :=
  .of fun a ha w _ => by
    have h : (Op.equal t (.slice ao m c) (.slice none 0 0)).run P w = .ok ao.isNone w := zu1 (fun d => by cases ao <;> simp [Op.equalIn, run_underlying ht]) rfl
    have e : a.eval (.const (.slice none 0 0)) = .slice none 0 0 := rfl
    simp [execOp, ha.eval hx, e, eqGuard, binOp, h]
end
end Go.Sl
namespace Go.Sl
open Go.RowKit
section
variable {P : Program} {n : Nat} {E : List (Nat × Value)} {C : World → Prop}
variable {d : Option Tmp} {ty : TypeId} {pos : String} {af : Array Edge} {g : Option (Nat × Bool)}
def PartIs (P : Program) (t : TypeId) (xs : Array Value) (off : Nat) (v : Value) : Prop := ∀ w,(part t xs off).run P w = .ok v w
theorem PartIs.one {t : TypeId} {xs : Array Value} {off : Nat} {v : Value} {dsc : TypeDesc} (hu : P.underlying t = some dsc) (hx : xs[off]? = some v) (ha : (match dsc with | .struct _ => true | .array _ _ => true | _ => false) = false := by rfl) : PartIs P t xs off v := fun w => by
  cases dsc <;> first | (simp at ha; done) | simp [part, isAgg, run_underlying hu, hx]
def EqIs (P : Program) (dp : Nat) (t : TypeId) (a b : Value) (c : Bool) : Prop := ∀ w,(Op.equalIn dp t a b).run P w = .ok c w
def EqFs (P : Program) (dp : Nat) (xs ys : Array Value) (fs : List Field) (c : Bool) : Prop := ∀ w,(Op.eqFields dp xs ys fs).run P w = .ok c w
def EqEs (P : Program) (dp : Nat) (e : TypeId) (k : Nat) (xs ys : Array Value) (is : List Nat) (c : Bool) : Prop := ∀ w,(Op.eqItems dp e k xs ys is).run P w = .ok c w
variable {dp : Nat} {xs ys : Array Value} {fd : Field} {fs : List Field} {c c0 : Bool} {t e : TypeId} {a b : Value}
theorem EqIs.int {k : IntKind} {i j : Int} (hu : P.underlying t = some (.int k)) : EqIs P (dp + 1) t (.int k i) (.int k j) (decide (i = j)) := fun w => by
  by_cases e : i = j <;> simp [run_equalIn_int _ _ _ k k _ _ hu, e]
theorem EqIs.bool {i j : Bool} (hu : P.underlying t = some .bool) : EqIs P (dp + 1) t (.bool i) (.bool j) (i == j) := fun w => by
  cases i <;> cases j <;> simp [run_equalIn_bool' _ _ _ _ _ hu]
theorem EqFs.nil : EqFs P dp xs ys [] true := fun w => by simp [Op.eqFields]
theorem EqFs.cons (hn : (fd.name == "_") = false) (pa : PartIs P fd.type xs fd.offset a) (pb : PartIs P fd.type ys fd.offset b) (h0 : EqIs P dp fd.type a b c0) (h : EqFs P dp xs ys fs c) : EqFs P dp xs ys (fd :: fs) (c0 && c) := fun w => by
  have hn' : fd.name ≠ "_" := by simpa using hn
  cases c0 <;> simp [Op.eqFields, hn', pa w, pb w, h0 w, h w]
theorem EqEs.nil {k : Nat} : EqEs P dp e k xs ys [] true := fun w => by simp [Op.eqItems]
theorem EqEs.cons {k i : Nat} {is : List Nat} (pa : PartIs P e xs (i * k) a) (pb : PartIs P e ys (i * k) b) (h0 : EqIs P dp e a b c0) (h : EqEs P dp e k xs ys is c) : EqEs P dp e k xs ys (i :: is) (c0 && c) := fun w => by
  cases c0 <;> simp [Op.eqItems, pa w, pb w, h0 w, h w]
theorem EqIs.st {fs : Array Field} (ht : P.underlying t = some (.struct fs)) (hp : P.stoodInHeld t = false) (h : EqFs P dp xs ys fs.toList c) : EqIs P (dp + 1) t (.agg xs) (.agg ys) c := fun w => by
  have e1 := run_equalIn_agg (P := P) w dp t xs ys (by rw [zwd ht]; exact ht) hp
  rw [zwd ht, h w] at e1
  exact e1
theorem y_deql {x y : Operand} {t' : TypeId} (hx : opv E x = some (.agg xs)) (hy : opv E y = some (.agg ys)) (hg : P.eqGuardType P.depth t = false) (h : EqIs P 10000 t (.agg xs) (.agg ys) c) : Y P C n E ⟨d, .binOp .eql t x y t', ty, pos, af, g⟩ (.bool c) :=
  .of fun a ha w _ => by
    simp only [execOp, ha.eval hx, ha.eval hy, Sem.run_bind, run_eqGuard_agg w .eql t x y xs ys hg, run_eql_struct, h w, Result.andThen_ok, Sem.run_pure]
theorem y_dneq {x y : Operand} {t' : TypeId} (hx : opv E x = some (.agg xs)) (hy : opv E y = some (.agg ys)) (hg : P.eqGuardType P.depth t = false) (h : EqIs P 10000 t (.agg xs) (.agg ys) c) : Y P C n E ⟨d, .binOp .neq t x y t', ty, pos, af, g⟩ (.bool (!c)) :=
  .of fun a ha w _ => by
    simp only [execOp, ha.eval hx, ha.eval hy, Sem.run_bind, run_eqGuard_agg w .neq t x y xs ys hg, run_neq_struct, h w, Result.andThen_ok, Sem.run_pure]
end
end Go.Sl
namespace Go.Sl
open Go.RowKit
section
variable {P : Program} {n : Nat} {E : List (Nat × Value)} {C : World → Prop}
variable {d : Option Tmp} {ty : TypeId} {pos : String} {af : Array Edge} {g : Option (Nat × Bool)}
def setAt (off : Nat) : List Value → List Value → List Value
  | [], cs => cs
  | c :: l, cs => setAt (off + 1) l (cs.set off c)
theorem zwa : ∀ (l : List Value) (k off : Nat) (cs : List Value),(l.zipIdx k).foldl (fun (cs : Array Value) (p : Value × Nat) => cs.setIfInBounds (off + p.2) p.1) cs.toArray = (setAt (off + k) l cs).toArray
  | [], _, _, _ => rfl
  | c :: l, k, off, cs => by
    simp only [List.zipIdx_cons, List.foldl_cons, setAt, List.setIfInBounds_toArray]
    rw [zwa l (k + 1) off]
    rfl
def CellsAre : List (Nat × Value) → List (Nat × List Value) → Prop
  | [],[] => True
  | (i, v) :: r,(j, l) :: s => i = j ∧ v.cells = l.toArray ∧ CellsAre r s
  | _, _ => False
def putN (place : Nat → Option (Nat × Nat)) : List (Nat × List Value) → List Value → Option (List Value)
  | [], cs => some cs
  | (i, l) :: r, cs => match place i with
    | some (off, k) => if l.length = k ∧ off + k ≤ cs.length then putN place r (setAt off l cs) else none
    | none => none
theorem ybg {place : Nat → Option (Nat × Nat)} : ∀ (vs : List (Nat × Value)) (ls : List (Nat × List Value)) (cs cs' : List Value), CellsAre vs ls → putN place ls cs = some cs' → Instr.fill place cs.toArray vs = some cs'.toArray
  | [],[], cs, cs', _, h => by simp [putN] at h; subst h; rfl
  | (i, v) :: r,(j, l) :: s, cs, cs', ⟨hij, hv, hr⟩, h => by
    subst hij
    simp only [putN] at h
    split at h
    · rename_i off k hp
      split at h
      · rename_i hk
        have ih := ybg r s _ cs' hr h
        have hb : ¬ ((decide (v.cells.size ≠ k) || decide (off + v.cells.size > cs.toArray.size)) = true) := by
          simp [hv, hk.1, hk.2]
        have e : v.cells.zipIdx.foldl (fun (cs : Array Value) (p : Value × Nat) => cs.setIfInBounds (off + p.2) p.1) cs.toArray = (setAt off l cs).toArray := by
          rw [hv, ← Array.foldl_toList, Array.toList_zipIdx]
          exact zwa l 0 off cs
        simp only [Instr.fill, hp]
        rw [if_neg hb, ← ih, ← e]
      · cases h
    · cases h
  | [], _ :: _, _, _, h, _ => h.elim
  | _ :: _,[], _, _, h, _ => h.elim
theorem zrz {t : TypeId} {parts : List (Nat × Operand)} {vs : List (Nat × Value)} {ls : List (Nat × List Value)} {zl cs : List Value} {fs : Array Field} {k by_ : Nat} {places : List (Nat × Nat)} (hv : parts.mapM (fun p => (opv E p.2).map fun v => (p.1, v)) = some vs)
    (ht : P.underlying t = some (.struct fs)) (hT : TI P t k by_ (.agg zl.toArray)) (hp : fs.toList.mapM (fun f => (P.info? f.type).map fun i => (f.offset, i.size)) = some places)
    (hl : CellsAre vs ls) (hc : putN (places.toArray[·]?) ls zl = some cs) : Y P C n E ⟨d, .build t parts.toArray, ty, pos, af, g⟩ (.agg cs.toArray) := by
  refine yff hv ?_
  obtain ⟨i, hi, hz, _, _⟩ := hT
  simp only [Program.built, hi, ht, hz, hp]
  exact ybg vs ls zl cs hl hc
end
end Go.Sl
