/-
  Walks and laws of this seat.
-/
import Derived.Test.YteicdfkmpnmkmaaGreatBash
namespace Go.Sl
set_option linter.unusedVariables false
set_option linter.unusedSimpArgs false
set_option linter.unusedSectionVars false
open Go.RowKit
section
variable {P : Program} {f f' : Fz} {L L' : List Ent} {w0 w w' : World} {n : Nat} {E E' : List (Nat × Value)} {a : Act}
theorem yht {α β : Type} {M : List Deferred} {Q : List Deferred → Exit → AP} {g : Operand} {p : Tmp} {assign body : Code} {xs : List α} {enc : α → Value} {gf : FuncId} {lb : List Value} {fi : Fz} {ents : List Ent}
    (hs : St n w0 f (ents ++ L) E a w) (hg : opv E g = some (.func (.func gf) #[] lb.toArray)) (hh : Has P gf) (hit : Iter P gf lb fi xs enc) (hfi : Fz.le fi f) (hp : p < n)
    (Ea : α → β → List (Nat × Value)) (A : α → β → Fz → Prop) (I : List α → List Ent → Prop) (X : Code → List Ent → Prop) (h0 : I xs ents)
    (hassign : ∀ x f' L a w, Fz.le f f' → (∃ rem ents, I (x :: rem) ents) → St n w0 f' L ((p, enc x) :: E) a w → ∀ K : AP,(∀ y f'' a w, Fz.le f' f'' → A x y f'' → St n w0 f'' L (Ea x y) a w → K a w) → W P assign K (fun _ _ _ => False) (fun _ _ => False) (fun _ _ _ => False) a w)
    (hbody : ∀ x y rem ents T f' a w, Fz.le f f' → A x y f' → I (x :: rem) ents → St n w0 f' (ents ++ T) (Ea x y) a w →
      W P body (fun _ w' => ∃ f'' ents', Fz.le f' f'' ∧ I rem ents' ∧ Cw w0 f'' (ents' ++ T) w') (fun i _ w' => ∃ f'' ents', Fz.le f' f'' ∧ X (.exit i) ents' ∧ Cw w0 f'' (ents' ++ T) w')
        (fun _ w' => ∃ f'' ents', Fz.le f' f'' ∧ X .ret ents' ∧ Cw w0 f'' (ents' ++ T) w') (fun i _ w' => ∃ f'' ents', Fz.le f' f'' ∧ X (.goto i) ents' ∧ Cw w0 f'' (ents' ++ T) w') a w)
    (hdone : ∀ f' D ents w', Fz.le f f' → f D = none → f' D = some (.deferred (some [])) → I [] ents → St n w0 f' (ents ++ L) E a w' → Q (markOf D :: M) .normal a w')
    (hstop : ∀ c f' D ents w', Fz.le f f' → f D = none → f' D = some (.deferred (some [])) → X c ents → St n w0 f' (ents ++ L) E a w' → W0 P c (markOf D :: M) Q a w') :
    W0 P (.rangeFunc g #[p] assign body) M Q a w := by
  refine wpIn_rangeFunc fun fn _ => ?_
  obtain ⟨rec, hrec⟩ : ∃ rec : LoopState → Option Code → Loop, rec = fun st pe => { state := st, pending := pe, fn, tmps := a.tmps, params := #[p], assign, body, defers := w.heap.size } := ⟨_, rfl⟩
  obtain ⟨W1, hW1⟩ : ∃ W1,(w.alloc (.deferred (some []))).alloc (.loop (rec .ready none)) = W1 := ⟨_, rfl⟩
  have hD : f w.heap.size = none := by
    cases e : f w.heap.size with
    | none => rfl
    | some o => exact absurd (hs.cw.fz_lt e) (Nat.lt_irrefl _)
  -- the new blocks: the rounds' deferred calls (frozen), the record (live)
  obtain ⟨f1, hle1, hC1, hf1, _⟩ := ((hs.cw.alloc (.deferred (some []))).alloc (.loop (rec .ready none))).swap.freeze
  rw [World.size_alloc] at hC1
  rw [hW1] at hC1
  have hD1 : f1 w.heap.size = some (.deferred (some [])) := by
    rw [hf1 w.heap.size rfl, hW1, ← hW1]
    exact (Below.heap_alloc _ _ _ (by simp)).trans (World.alloc_heap_new w _)
  have hC1 : Cw w0 f1 (ents ++ .blk (w.heap.size + 1) (.loop (rec .ready none)) :: L) W1 := hC1.sink
  refine ⟨w.heap.size + 1,[markOf w.heap.size], W1, { target := .fn (.func gf) lb.toArray, args := #[.func (.yield (w.heap.size + 1)) #[] #[]] }, W1, gf,
    #[.func (.yield (w.heap.size + 1)) #[] #[]] ++ lb.toArray, W1, ?_, ?_, fun _ _ => trivial, ?_, fun hh => by simp [wideR, Fence.wide] at hh, ?_⟩
  · rw [← hW1, hrec]; exact run_enterLoop_outer _ _ _ _ _
  · have : (withM M a).eval g = .func (.func gf) #[] lb.toArray := hs.ev.eval hg
    simp only [resolve, this]
    simp [go_sem]
  · exact zuc hh
  · refine zwh ((hit (w.heap.size + 1) w0 f1 (fun rem Lc => ∃ ents, I rem ents ∧ Lc = ents ++ .blk (w.heap.size + 1) (.loop (rec .ready none)) :: L)
      (fun Lc => ∃ c ents, X c ents ∧ Lc = ents ++ .blk (w.heap.size + 1) (.loop (rec .done (some c))) :: L) _ W1 (hfi.trans hle1) hC1 ⟨ents, h0, rfl⟩ ?_).mono ?_)
    · -- one round
      rintro x rem Lc T f2 w1 hle2 hCw ⟨ents1, hI, rfl⟩
      rw [List.append_assoc, List.cons_append] at hCw
      have hl : w1.heap[w.heap.size + 1]? = some (.loop (rec .ready none)) := hCw.live (.blk _ _) (by simp)
      have hy := run_yield (P := P) (args := #[enc x]) hl (by rw [hrec]; rfl)
      rw [hrec] at hy
      refine ⟨fn, a.tmps.setIfInBounds p (enc x), assign, body, by simpa using hy, roundIn_of_wpIn trivial ?_⟩
      have hst : St n w0 f2 (ents1 ++ .blk (w.heap.size + 1) (.loop (rec .ready none)) :: (L ++ T)) ((p, enc x) :: E) { tmps := a.tmps.setIfInBounds p (enc x), defers := [] } w1 := by
        refine ⟨?_, hCw⟩
        have := (hs.ev).put hp (enc x)
        exact ⟨this.size, rfl, this.slots⟩
      have ha := hassign x f2 _ _ w1 (hle1.trans hle2) ⟨rem, ents1, hI⟩ hst (fun a' w' => ∃ w₂,(Instr.beginRound (w.heap.size + 1)).run P w' = .ok () w₂ ∧ body.wpIn (Fence.wide.inRound (w.heap.size + 1)) 0 P (roundPost P (w.heap.size + 1) fun e w' => ∃ L', Cw w0 f2 (L' ++ T) w' ∧
        ((e = .returned (.bool true) ∧ ∃ ents, I rem ents ∧ L' = ents ++ .blk (w.heap.size + 1) (.loop (rec .ready none)) :: L) ∨ (e = .returned (.bool false) ∧ ∃ c ents, X c ents ∧ L' = ents ++ .blk (w.heap.size + 1) (.loop (rec .done (some c))) :: L))) (withM [] a') w₂) (fun y f3 a2 w2 hle3 hA hs2 => ?_)
      · refine wpIn_mono (ha (some (w.heap.size + 1)) []) ?_
        rintro e a3 w3 ⟨b, rfl, q⟩
        cases e <;> first | exact (q : False).elim | exact q
      · have hl2 : w2.heap[w.heap.size + 1]? = some (.loop (rec .ready none)) := hs2.cw.live (.blk _ _) (by simp)
        refine ⟨_, run_beginRound hl2 (by rw [hrec]), ?_⟩
        have hs3 : St n w0 f3 (ents1 ++ .blk (w.heap.size + 1) (.loop { rec .ready none with state := .busy }) :: (L ++ T)) (Ea x y) a2 (w2.putObj (w.heap.size + 1) (.loop { rec .ready none with state := .busy })) := ⟨hs2.ev, hs2.cw.turn⟩
        have hb := hbody x y rem ents1 _ f3 a2 _ ((hle1.trans hle2).trans hle3) hA hI hs3 (some (w.heap.size + 1)) []
        refine wpIn_mono hb ?_
        rintro e a3 w3 ⟨b, rfl, q⟩
        have fin : ∀ (jump : Option Code) {ents' : List Ent} {f'' : Fz}, Fz.le f2 f'' → Cw w0 f'' (ents' ++ .blk (w.heap.size + 1) (.loop { rec .ready none with state := .busy }) :: (L ++ T)) w3 →
            ∃ w4,(Instr.endRound (w.heap.size + 1) jump).run P w3 = .ok (.bool jump.isNone) w4 ∧ Cw w0 f2 ((ents' ++ .blk (w.heap.size + 1) (.loop (rec (if jump.isNone then .ready else .done) jump)) :: L) ++ T) w4 := fun jump ents' f'' hle hC => by
          have hl3 : w3.heap[w.heap.size + 1]? = some (.loop { rec .ready none with state := .busy }) := hC.live (.blk _ _) (by simp)
          have := run_endRound (P := P) jump hl3
          refine ⟨_, this, ?_⟩
          have h4 := (hC.weak hle).turn (o' := .loop { ({ rec .ready none with state := .busy } : Loop) with state := if jump.isNone then .ready else .done, pending := jump })
          rw [hrec] at h4 ⊢
          rw [List.append_assoc, List.cons_append]
          exact h4
        cases e with
        | normal =>
          obtain ⟨f'', ents', h1, h2, h3⟩ := q
          obtain ⟨w4, h4, h5⟩ := fin none (hle3.trans h1) h3
          exact ⟨_, w4, h4, _, h5, .inl ⟨rfl, ents', h2, rfl⟩⟩
        | ret =>
          obtain ⟨f'', ents', h1, h2, h3⟩ := q
          obtain ⟨w4, h4, h5⟩ := fin (some .ret) (hle3.trans h1) h3
          exact ⟨_, w4, h4, _, h5, .inr ⟨rfl, _, ents', h2, rfl⟩⟩
        | exit i =>
          obtain ⟨f'', ents', h1, h2, h3⟩ := q
          obtain ⟨w4, h4, h5⟩ := fin (some (.exit i)) (hle3.trans h1) h3
          exact ⟨_, w4, h4, _, h5, .inr ⟨rfl, _, ents', h2, rfl⟩⟩
        | goto i =>
          obtain ⟨f'', ents', h1, h2, h3⟩ := q
          obtain ⟨w4, h4, h5⟩ := fin (some (.goto i)) (hle3.trans h1) h3
          exact ⟨_, w4, h4, _, h5, .inr ⟨rfl, _, ents', h2, rfl⟩⟩
        | panic c => exact (q : False).elim
        | outgrown => exact (q : False).elim
    · -- behind the iterator
      rintro e w2 ⟨v, L', rfl, hC2,(⟨ents2, hI, rfl⟩ | ⟨c, ents2, hX, rfl⟩)⟩
      · have hl : w2.heap[w.heap.size + 1]? = some (.loop (rec .ready none)) := hC2.live (.blk _ _) (by simp)
        refine ⟨none, _, by have := run_endLoop (P := P) hl (by rw [hrec]; simp); rw [hrec] at this; exact this, ?_⟩
        refine ⟨markOf w.heap.size :: M, a, rfl, hdone f1 w.heap.size ents2 _ hle1 hD hD1 hI ⟨hs.ev, ?_⟩⟩
        exact hC2.turn.sub (by simp)
      · have hl : w2.heap[w.heap.size + 1]? = some (.loop (rec .done (some c))) := hC2.live (.blk _ _) (by simp)
        refine ⟨some c, _, by have := run_endLoop (P := P) hl (by rw [hrec]; simp); rw [hrec] at this; exact this, ?_⟩
        refine hstop c f1 w.heap.size ents2 _ hle1 hD hD1 hX ⟨hs.ev, ?_⟩
        exact hC2.turn.sub (by simp)
theorem yhr {α β : Type} {M : List Deferred} {Qn : MP} {Qe : Nat → MP} {Qr : MP} {Qg : Nat → MP} {g : Operand} {p : Tmp} {assign body : Code} {xs : List α} {enc : α → Value} {gf : FuncId} {lb : List Value} {ents : List Ent}
    (hs : St n w0 f (ents ++ L) E a w) (hg : opv E g = some (.func (.func gf) #[] lb.toArray)) (hh : Has P gf) (hit : Iter P gf lb f xs enc) (hp : p < n)
    (Ea : α → β → List (Nat × Value)) (A : α → β → Fz → Prop) (I : List α → List Ent → Prop) (X : Code → List Ent → Prop) (h0 : I xs ents)
    (hassign : ∀ x f' L a w, Fz.le f f' → (∃ rem ents, I (x :: rem) ents) → St n w0 f' L ((p, enc x) :: E) a w → ∀ K : AP,(∀ y f'' a w, Fz.le f' f'' → A x y f'' → St n w0 f'' L (Ea x y) a w → K a w) → W P assign K (fun _ _ _ => False) (fun _ _ => False) (fun _ _ _ => False) a w)
    (hbody : ∀ x y rem ents T f' a w, Fz.le f f' → A x y f' → I (x :: rem) ents → St n w0 f' (ents ++ T) (Ea x y) a w →
      W P body (fun _ w' => ∃ f'' ents', Fz.le f' f'' ∧ I rem ents' ∧ Cw w0 f'' (ents' ++ T) w') (fun i _ w' => ∃ f'' ents', Fz.le f' f'' ∧ X (.exit i) ents' ∧ Cw w0 f'' (ents' ++ T) w')
        (fun _ w' => ∃ f'' ents', Fz.le f' f'' ∧ X .ret ents' ∧ Cw w0 f'' (ents' ++ T) w') (fun i _ w' => ∃ f'' ents', Fz.le f' f'' ∧ X (.goto i) ents' ∧ Cw w0 f'' (ents' ++ T) w') a w)
    (hdone : ∀ f' D ents w', Fz.le f f' → f D = none → f' D = some (.deferred (some [])) → I [] ents → St n w0 f' (ents ++ L) E a w' → Qn (markOf D :: M) a w')
    (hstop : ∀ c f' D ents w', Fz.le f f' → f D = none → f' D = some (.deferred (some [])) → X c ents → St n w0 f' (ents ++ L) E a w' → W1 P c (markOf D :: M) Qn Qe Qr Qg a w') :
    W1 P (.rangeFunc g #[p] assign body) M Qn Qe Qr Qg a w :=
  yht hs hg hh hit (Fz.le.refl _) hp Ea A I X h0 hassign hbody (fun f' D ents w' h1 h2 h3 h4 h5 => hdone f' D ents w' h1 h2 h3 h4 h5) hstop
end
section
variable {P : Program} {f f' : Fz} {L L' : List Ent} {w0 w w' : World} {n : Nat} {E E' : List (Nat × Value)} {a : Act} {ops : Array Oper} {rest : List Oper} {K : AP} {ty : TypeId} {pos : String} {af : Array Edge} {g : Option (Nat × Bool)}
theorem yek {gn : FuncId} {x : Operand} {cap : Array Value} {as : List Operand} {vs : List Value} {ats : Array TypeId} {R : Value → List Ent → Prop} (hs : St n w0 f L E a w) {dd : Nat}
    (hx : opv E x = some (.func (.func gn) #[] cap)) (hg : Has P gn) (hv : as.mapM (opv E) = some vs) (hp : ∀ w, Cw w0 f L w → Calls P gn (vs ++ cap.toList).toArray w fun e w' => ∃ v L', e = .returned v ∧ Cw w0 f L' w' ∧ R v L')
    (hw : Want ops E ⟨some dd, .call { callee := .value x, args := as.toArray, argTypes := ats }, ty, pos, af, g⟩ true) (hd : dd < n)
    (h : ∀ v L' a w, R v L' → St n w0 f L' ((dd, v) :: E) a w → RL P ops rest K a w) :
    RL P ops (⟨some dd, .call { callee := .value x, args := as.toArray, argTypes := ats }, ty, pos, af, g⟩ :: rest) K a w := by
  refine zpq fun K' hK' => ?_
  rw [if_pos (hw.wanted hs.ev)]
  unfold opS
  rw [zps hs.ev hx hg hv]
  have := hp w hs.cw
  rw [show (vs ++ cap.toList).toArray = vs.toArray ++ cap from by simp] at this
  refine this.mono ?_
  rintro e w' ⟨v, L', rfl, h2, h3⟩
  exact ⟨v, rfl, hK' _ _ (h v L' _ _ h3 ⟨hs.ev.put hd v, h2⟩)⟩
theorem yhy {α : Type} {enc : α → Value} {ents : List Ent} {l : Nat} {x : Operand} {y : α} {rem : List α} {as : List Operand} {ats : Array TypeId} {J : List α → List Ent → Prop} {Jx : List Ent → Prop}
    (hY : ∀ x rem L T f'' w, Fz.le f f'' → Cw w0 f'' (L ++ T) w → J (x :: rem) L → YieldAt Fence.wide 0 P l #[enc x] w fun e w' => ∃ L', Cw w0 f'' (L' ++ T) w' ∧ ((e = .returned (.bool true) ∧ J rem L') ∨ (e = .returned (.bool false) ∧ Jx L')))
    (hle : Fz.le f f') (hs : St n w0 f' (ents ++ L) E a w) {dd : Nat} (hx : opv E x = some (.func (.yield l) #[] #[])) (hv : as.mapM (opv E) = some [enc y]) (hJ : J (y :: rem) L)
    (h : ∀ v L a w,((v = .bool true ∧ J rem L) ∨ (v = .bool false ∧ Jx L)) → St n w0 f' (ents ++ L) ((dd, v) :: E) a w → RL P ops rest K a w)
    (hd : dd < n := by decide) :
    RL P ops (⟨some dd, .call { callee := .value x, args := as.toArray, argTypes := ats }, ty, pos, af, none⟩ :: rest) K a w := by
  refine RL_yield (R := fun v L' => (v = .bool true ∧ J rem L') ∨ (v = .bool false ∧ Jx L')) hs hx hv (fun w hw => ?_) (.free rfl) hd fun v L' a w h1 h2 => h v L' a w h1 h2
  obtain ⟨fn, tmps, assign, body, h1, h2⟩ := hY y rem L ents f' w hle hw hJ
  refine ⟨fn, tmps, assign, body, h1, RoundIn.mono h2 ?_⟩
  rintro e w' ⟨L', h3,(⟨rfl, h4⟩ | ⟨rfl, h4⟩)⟩
  · exact ⟨_, L', rfl, h3, .inl ⟨rfl, h4⟩⟩
  · exact ⟨_, L', rfl, h3, .inr ⟨rfl, h4⟩⟩
end
end Go.Sl
