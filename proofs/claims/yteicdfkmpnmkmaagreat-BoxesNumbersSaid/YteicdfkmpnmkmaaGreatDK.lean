/-
  Walks and laws of this seat; the base is the text Base.
-/
import Derived.Test.YteicdfkmpnmkmaaGreatDJ
namespace Go.D
open Go.RowKit Go.Sl
/-! ## Code -/
/-- Every region of the code is as the executor takes it. -/
def CodeOk (N : Nat) (fi : FI) : Code → Prop
  | .region id ops d => (∀ o ∈ ops.toList, ∀ t, o.dst = some t → t < N) ∧ (d = true → ∀ ms, fi.dm.get id = some ms → RegOk N ops.toList ms)
  | .seq a b => CodeOk N fi a ∧ CodeOk N fi b
  | .cond _ a b => CodeOk N fi a ∧ CodeOk N fi b
  | .block _ a => CodeOk N fi a
  | .loop a => CodeOk N fi a
  | .scope a => CodeOk N fi a
  | _ => True

/-- Rounds of a loop. -/
def crounds (P : Program) (c : Code) (Q : Exit → AP) (m : Nat) : AP := fun a w => ∀ (r : Option Nat) (M : List Deferred), Code.roundsIn (wideR r) 0 P c (upM M Q) m (withM M a) w
theorem crounds_succ {P : Program} {c : Code} {Q : Exit → AP} {m : Nat} {a : Act} {w : World} (h : cwp P c (Exit.then (crounds P c Q m) Q) a w) : crounds P c Q (m + 1) a w := fun r M => by
  show c.wpIn (wideR r) 0 P (Exit.then (Code.roundsIn (wideR r) 0 P c (upM M Q) m) (upM M Q)) (withM M a) w
  refine wpIn_mono (h r M) ?_
  rintro e a' w' ⟨b, rfl, h2⟩
  cases e with
  | normal => exact h2 r M
  | _ => exact ⟨b, rfl, h2⟩
theorem cwp_loop {P : Program} {c : Code} {Q : Exit → AP} {m : Nat} {a : Act} {w : World} (h : crounds P c Q m a w) : cwp P (.loop c) Q a w := fun r M => wpIn_loop_rounds m (h r M)
theorem then_QS {K : AP} {Q : Exit → AP} {ex : Ex} {S : AP} {e : Exit} {a : Act} {w : World} (h : QS ex S e a w) (hn : ex = .normal → S a w → K a w) (ho : ex ≠ .normal → S a w → Q e a w) : Exit.then K Q e a w := by
  obtain ⟨h1, h2⟩ := h
  cases ex <;> simp only [ExR] at h1 <;> subst h1
  · exact hn rfl h2
  · exact ho (by simp) h2
  · exact ho (by simp) h2
  · exact ho (by simp) h2

section
variable {α : Type} {P : Program} {E : Env}
/-- The executor's run of code is sound. -/
def XOK (P : Program) (E : Env) (run : Code → X α) : Prop := ∀ (c : Code) (fi : FI) (N lim : Nat) (t : Tr V) (h : H) (n : Nat) (k : KX α) (r : α), CodeOk N fi c → Nn n h.get → run c E fi lim t h n k = some r → ∃ ex t' h' n', k ex t' h' n' = some r ∧ XR P N fi.mask lim c t t' h h' n n' ex

theorem Ex_rec {ex : Ex} {a : Option α} {b c : Nat → Option α} {d : Option α} {r : α} (h : (Ex.rec a b c d ex : Option α) = some r) : (ex = .normal ∧ a = some r) ∨ (∃ i, ex = .exit i ∧ b i = some r) ∨ (∃ l, ex = .goto l ∧ c l = some r) ∨ (ex = .ret ∧ d = some r) := by
  cases ex with
  | normal => exact .inl ⟨rfl, h⟩
  | exit i => exact .inr (.inl ⟨i, rfl, h⟩)
  | goto l => exact .inr (.inr (.inl ⟨l, rfl, h⟩))
  | ret => exact .inr (.inr (.inr ⟨rfl, h⟩))

theorem XR.refl {N m lim : Nat} {c : Code} {t : Tr V} {h : H} {n : Nat} {ex : Ex} (hN : Nn n h.get) (H : ∀ (S : AP) a w, S a w → cwp P c (QS ex S) a w) : XR P N m lim c t t h h n n ex :=
  ⟨Nat.le_refl _, fun _ _ => rfl, hN, fun _w0 _Φ σ a w _ hs hH => H _ a w ⟨σ, Out.refl σ n n, hs, hH⟩⟩

/-- One piece of code behind another. -/
theorem XR.seq {N m lim : Nat} {x y c : Code} {t t1 t2 : Tr V} {h h1 h2 : H} {n n1 n2 : Nat} {ex : Ex} (A : XR P N m lim x t t1 h h1 n n1 .normal) (B : XR P N m lim y t1 t2 h1 h2 n1 n2 ex)
    (hc : ∀ (Q : Exit → AP) a w, cwp P x (Exit.then (cwp P y Q) Q) a w → cwp P c Q a w) : XR P N m lim c t t2 h h2 n n2 ex :=
  ⟨Nat.le_trans A.le B.le, A.keep.trans B.keep B.le, B.nn, fun w0 Φ σ a w hf hs H => hc _ a w (cwp_mono (A.sem w0 Φ σ a w (hf.less B.le) hs H) fun _e a1 w1 hq => then_QS hq (fun _ ⟨σ1, o1, s1, H1⟩ => cwp_mono (B.sem w0 Φ σ1 a1 w1 (hf.after o1 A.le) s1 H1) fun _e _a2 _w2 ⟨he, σ2, o2, s2, H2⟩ => ⟨he, σ2, o1.trans o2 A.le B.le, s2, H2⟩) (fun h => absurd rfl h))⟩
/-- What leaves. -/
theorem XR.leave {N m lim : Nat} {x y c : Code} {t t1 : Tr V} {h h1 : H} {n n1 : Nat} {ex : Ex} (A : XR P N m lim x t t1 h h1 n n1 ex) (hex : ex ≠ .normal) (hc : ∀ (Q : Exit → AP) a w, cwp P x (Exit.then (cwp P y Q) Q) a w → cwp P c Q a w) : XR P N m lim c t t1 h h1 n n1 ex :=
  ⟨A.le, A.keep, A.nn, fun w0 Φ σ a w hf hs H => hc _ a w (cwp_mono (A.sem w0 Φ σ a w hf hs H) fun _e _a1 _w1 hq => then_QS hq (fun h => absurd h hex) (fun _ hS => ⟨hq.1, hS⟩))⟩

/-! ## Calls -/
theorem layArgs_inv : ∀ {l : List V} {t : Tr V} {i : Nat} {k : Tr V → Option α} {r : α}, layArgs l t i k = some r → ∃ t', (∀ j, t'.get j = if i ≤ j ∧ j < i + l.length then l[j - i]? else t.get j) ∧ k t' = some r
  | [], t, i, k, r, h => ⟨t, fun j => by rw [if_neg (by simp only [List.length_nil]; omega)], h⟩
  | v :: l, t, i, k, r, h => by
    obtain ⟨t1, h1, h⟩ := Tr.putK_inv (h : Tr.putK v t i (fun t => fN (Nat.succ i) fun i => layArgs l t i k) = some r)
    rw [fN_eq] at h
    obtain ⟨t2, h2, h3⟩ := layArgs_inv h
    refine ⟨t2, fun j => ?_, h3⟩
    rw [h2, h1]
    by_cases e : j = i
    · subst e; rw [if_neg (by omega), if_pos rfl, if_pos (by simp)]; simp
    · by_cases e2 : i + 1 ≤ j ∧ j < i + 1 + l.length
      · rw [if_pos e2, if_pos (by simp; omega)]
        have : j - i = j - (i + 1) + 1 := by omega
        rw [this]; simp
      · rw [if_neg e2, if_neg e, if_neg (by simp; omega)]
theorem VL.len : ∀ {σ : Sg} {l : List V} {r : List Value}, VL σ l r → r.length = l.length
  | _, [], [], _ => rfl
  | _, _ :: _, _ :: _, ⟨_, h2⟩ => by simp [VL.len h2]
theorem VL.get : ∀ {σ : Sg} {l : List V} {r : List Value} {i : Nat} {c : V}, VL σ l r → l[i]? = some c → ∃ v, r[i]? = some v ∧ CV σ c v
  | _, _ :: _, _ :: _, 0, c, ⟨h1, _⟩, h => by simp at h; subst h; exact ⟨_, rfl, h1⟩
  | _, _ :: _, _ :: _, i + 1, c, ⟨_, h2⟩, h => by
    obtain ⟨v, h3, h4⟩ := VL.get (i := i) h2 (by simpa using h)
    exact ⟨v, by simpa using h3, h4⟩

theorem resK_inv (hE : ∀ t ti, E.tt.get t = some ti → TIok P t ti) {t : Tr V} {h : H} {x : ResultVar} {k : V → Option α} {r : α} (e : resK E t h x k = some r) {m : Nat} (hm : ∀ y, (x = .tmp y ∨ ∃ ty, x = .cell y ty) → kept m y = true) : ∃ v, k v = some r ∧ ∀ (N : Nat) (w0 : World) (Φ : Fz) (σ : Sg) (a : Act) (w : World), SL N σ (opT m t []) a → HR w0 Φ σ h.get w → ∃ u, CV σ v u ∧ ResV P a w x u := by
  have hT : ∀ y v, kept m y = true → t.get y = some v → opT m t [] y = some v := fun y v hk hv => by
    show (Bool.rec (lookL [] y) (t.get y) (kept m y) : Option V) = some v
    rw [hk]; exact hv
  cases x with
  | tmp y =>
    obtain ⟨v, h1, e1⟩ := oc_inv e
    refine ⟨v, e1, fun N w0 Φ σ a w hs H => ?_⟩
    obtain ⟨u, g1, g2⟩ := hs.at_ y v (hT y v (hm y (.inl rfl)) h1)
    exact ⟨u, g2, by show a.tmps.getD y undef = u; simp [Array.getD_eq_getD_getElem?, g1]⟩
  | cell y ty =>
    obtain ⟨v, h1, e1⟩ := oc_inv e
    obtain ⟨b, o, rfl, e2⟩ := ptrK_inv e1
    obtain ⟨ti, h2, e3⟩ := oc_inv e2
    obtain ⟨ob, h3, e4⟩ := oc_inv e3
    obtain ⟨kk, c, len, el, ex, rfl, e5⟩ := cellsK_inv e4
    obtain ⟨row, l, f1, f2, f3, e6⟩ := rdC_inv e5
    obtain ⟨v, e7, hv⟩ := mkV_inv2 e6
    obtain ⟨d, it, z, q1, q2, q3, q4, q5, q6, q7, q8, q9, q10, q11⟩ := (hE _ _ h2).ok
    refine ⟨v, e7, fun N w0 Φ σ a w hs H => ?_⟩
    obtain ⟨u, g1, b', x', g2, g3⟩ := hs.at_ y _ (hT y _ (hm y (.inr ⟨ty, rfl⟩)) h1)
    obtain ⟨b2, x2, p1, _, _, hB⟩ := H.live b _ h3 (by simp)
    rw [g2] at p1; cases p1
    obtain ⟨us, c1, c2, c3⟩ := hB.rd f1 f2 f3
    have hd : a.tmps.getD y undef = .pointer (some ⟨b', o, none⟩) := by simp [Array.getD_eq_getD_getElem?, g1, g3]
    rcases hv with ⟨hag, rfl⟩ | ⟨hag, x0, r', rfl, rfl⟩
    · have hl := run_loadCells_list (P := P) w ⟨b', o, none⟩ us (fun j u hj => by rw [Sl.add_lit]; exact c3 j u hj)
      rw [c2, ← q3] at hl
      refine ⟨.agg us.toArray, ⟨us, rfl, c1⟩, _, hd, ?_⟩
      rw [hag] at q6
      cases d <;> first | (simp [Agg] at q6; done) | simp [loadVar, isAgg, run_underlying q1, sizeOf, typeInfo, q2, hl]
    · cases us with
      | nil => exact c1.elim
      | cons u0 us =>
        have hc : w.cell? ⟨b', o, none⟩ = some u0 := c3 0 u0 rfl
        refine ⟨u0, c1.1, _, hd, ?_⟩
        rw [hag] at q6
        cases d <;> first | (simp [Agg] at q6; done) | simp [loadVar, isAgg, run_underlying q1, hc]
/-- Results, one by one. -/
def RVs (P : Program) (a : Act) (w : World) : List ResultVar → List Value → Prop
  | [], [] => True
  | x :: l, v :: r => ResV P a w x v ∧ RVs P a w l r
  | _, _ => False
theorem resL_inv (hE : ∀ t ti, E.tt.get t = some ti → TIok P t ti) {t : Tr V} {h : H} {m : Nat} : ∀ {l : List ResultVar} {k : List V → Option α} {r : α}, resL E t h l k = some r → (∀ x ∈ l, ∀ y, (x = .tmp y ∨ ∃ ty, x = .cell y ty) → kept m y = true) → ∃ vs, k vs = some r ∧ vs.length = l.length ∧ ∀ (N : Nat) (w0 : World) (Φ : Fz) (σ : Sg) (a : Act) (w : World), SL N σ (opT m t []) a → HR w0 Φ σ h.get w → ∃ us, VL σ vs us ∧ RVs P a w l us
  | [], k, r, e, _ => ⟨[], e, rfl, fun _ _ _ _ _ _ _ _ => ⟨[], trivial, trivial⟩⟩
  | x :: l, k, r, e, hm => by
    obtain ⟨v, e1, h1⟩ := resK_inv hE (e : resK E t h x (fun v => resL E t h l fun vs => k (v :: vs)) = some r) (hm x (by simp))
    obtain ⟨vs, e2, h2, h3⟩ := resL_inv hE e1 (fun y hy => hm y (by simp [hy]))
    refine ⟨v :: vs, e2, by simp [h2], fun N w0 Φ σ a w hs H => ?_⟩
    obtain ⟨u, g1, g2⟩ := h1 N w0 Φ σ a w hs H
    obtain ⟨us, g3, g4⟩ := h3 N w0 Φ σ a w hs H
    exact ⟨u :: us, ⟨g1, g3⟩, g2, g4⟩
theorem toU_inv : ∀ {l : List V} {k : List U → Option α} {r : α}, toU l k = some r → ∃ us, k us = some r ∧ ∀ σ ws, VL σ l ws → UL σ us ws
  | [], k, r, e => ⟨[], e, fun σ ws h => by cases ws with | nil => trivial | cons _ _ => exact h.elim⟩
  | .c x :: l, k, r, e => by
    have e' : toU l (fun r => k (.c x :: r)) = some r := e
    obtain ⟨us, e1, h1⟩ := toU_inv e'
    exact ⟨.c x :: us, e1, fun σ ws h => by cases ws with | nil => exact h.elim | cons w ws => exact ⟨h.1, h1 σ ws h.2⟩⟩
  | .a x :: l, k, r, e => by
    have e' : toU l (fun r => k (.a x :: r)) = some r := e
    obtain ⟨us, e1, h1⟩ := toU_inv e'
    exact ⟨.a x :: us, e1, fun σ ws h => by cases ws with | nil => exact h.elim | cons w ws => exact ⟨h.1, h1 σ ws h.2⟩⟩
  | .t x :: l, k, r, e => nn e
theorem run_results {a : Act} {w : World} : ∀ {l : List ResultVar} {us : List Value}, RVs P a w l us → (l.mapM (resRun a)).run P w = .ok us w
  | [], [], _ => by simp [Sem.run_pure]
  | x :: l, u :: us, ⟨h1, h2⟩ => by
    simp [List.mapM_cons, run_res h1, run_results h2]
theorem results_eq (fn : Func) (a : Act) : results fn a.tmps = (do let vs ← fn.results.toList.mapM (resRun a); pure (if h : vs.toArray.size = 1 then vs.toArray[0] else .tuple vs.toArray)) := by
  unfold results
  rw [Array.mapM_eq_mapM_toList]
  simp only [bind_assoc, map_eq_pure_bind, pure_bind]
  refine congrArg (fun f : ResultVar → Sem Value => (do let x ← List.mapM f fn.results.toList; pure (if h : x.toArray.size = 1 then x.toArray[0] else Value.tuple x.toArray) : Sem Value)) ?_
  funext x
  cases x <;> rfl
theorem ended_inv (hE : ∀ t ti, E.tt.get t = some ti → TIok P t ti) {fn : Func} {t : Tr V} {h : H} {n m : Nat} {k : V → H → Nat → Option α} {r : α} (e : ended E fn.results.toList t h n k = some r) (hm : ∀ x ∈ fn.results.toList, ∀ y, (x = .tmp y ∨ ∃ ty, x = .cell y ty) → kept m y = true) :
    ∃ v, k v h n = some r ∧ ∀ (N : Nat) (w0 : World) (Φ : Fz) (σ : Sg) (a : Act) (w : World), SL N σ (opT m t []) a → HR w0 Φ σ h.get w → ∃ u, CV σ v u ∧ (results fn a.tmps).run P w = .ok u w := by
  obtain ⟨vs, e1, h1, h2⟩ := resL_inv hE e hm
  cases vs with
  | nil =>
    refine ⟨_, e1, fun N w0 Φ σ a w hs H => ?_⟩
    obtain ⟨us, g1, g2⟩ := h2 N w0 Φ σ a w hs H
    cases us with
    | cons _ _ => exact g1.elim
    | nil => exact ⟨.tuple #[], ⟨[], rfl, trivial⟩, by rw [results_eq]; simp [run_results g2]⟩
  | cons v vs =>
    cases vs with
    | nil =>
      refine ⟨v, e1, fun N w0 Φ σ a w hs H => ?_⟩
      obtain ⟨us, g1, g2⟩ := h2 N w0 Φ σ a w hs H
      cases us with
      | nil => exact g1.elim
      | cons u us =>
        cases us with
        | cons _ _ => exact g1.2.elim
        | nil => exact ⟨u, g1.1, by rw [results_eq]; simp [run_results g2]⟩
    | cons v2 vs =>
      obtain ⟨us', e2, h3⟩ := toU_inv e1
      refine ⟨_, e2, fun N w0 Φ σ a w hs H => ?_⟩
      obtain ⟨us, g1, g2⟩ := h2 N w0 Φ σ a w hs H
      have hl := VL.len g1
      refine ⟨.tuple us.toArray, ⟨us, rfl, h3 σ us g1⟩, ?_⟩
      rw [results_eq]
      have : ¬ us.length = 1 := by simp at hl; omega
      simp [run_results g2, this]
end
end Go.D
