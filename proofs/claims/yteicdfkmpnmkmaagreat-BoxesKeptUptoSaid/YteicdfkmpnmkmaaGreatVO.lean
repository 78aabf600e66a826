/-
  Walks and laws of this seat.
-/
import Derived.Test.YteicdfkmpnmkmaaGreatVN
namespace Go.V
set_option linter.unusedVariables false
set_option linter.unusedSimpArgs false
set_option linter.unusedSectionVars false
open Go.RowKit Go.Sl
variable [F0]
def pslots : Nat → List Md → List Nat
  | _,[] => []
  | i, .p _ :: r => i :: pslots (i + 1) r
  | i, _ :: r => pslots (i + 1) r
abbrev Out (ps rs : List Md) : Type := Pr Md.T (rs ++ ps.filter isP)
def mkX (fn : Func) (ps rs : List Md) (cuts : List (Cut (Out ps rs))) (pl : List (Nat × List (Nat × Nat) × List Nat)) : Fx := ⟨⟨fn.results.toList, pslots 0 ps, rs ++ ps.filter isP⟩, cuts, pl⟩
section
variable {P : Program} {E : Env}
def RVs (P : Program) (a : Act) (w : World) : List ResultVar → List Value → Prop
  | [],[] => True
  | x :: l, v :: r => ResV P a w x v ∧ RVs P a w l r
  | _, _ => False
theorem zlk {a : Act} {w : World} : ∀ {l : List ResultVar} {us : List Value}, RVs P a w l us → (l.mapM (resRun a)).run P w = .ok us w
  | [],[], _ => by simp [Sem.run_pure]
  | x :: l, u :: us, ⟨h1, h2⟩ => by
    simp [List.mapM_cons, zy4 h1, zlk h2]
theorem ybp (fn : Func) (a : Act) : results fn a.tmps = (do let vs ← fn.results.toList.mapM (resRun a); pure (if h : vs.toArray.size = 1 then vs.toArray[0] else .tuple vs.toArray)) := by
  unfold results
  rw [Array.mapM_eq_mapM_toList]
  simp only [bind_assoc, map_eq_pure_bind, pure_bind]
  refine congrArg (fun f : ResultVar → Sem Value => (do let x ← List.mapM f fn.results.toList; pure (if h : x.toArray.size = 1 then x.toArray[0] else Value.tuple x.toArray) : Sem Value)) ?_
  funext x
  cases x <;> rfl
theorem ybo {fn : Func} {a : Act} {w : World} {us : List Value} (h : RVs P a w fn.results.toList us) : (results fn a.tmps).run P w = .ok (oneV us) w := by
  rw [ybp]
  match us, h with
  | [], h => simp [zlk h, oneV]
  | [v], h => simp [zlk h, oneV]
  | _ :: _ :: _, h => simp [zlk h, oneV]
theorem zy5 (hE : EnvOk P E) {ob : List Ob} {sl : List (Nat × V)} {α : Type} : ∀ {l : List ResultVar} {K : List V → Option α} {r : α}, resV E ob sl l K = some r → ∃ vs, K vs = some r ∧ vs.length = l.length ∧ ∀ (f : Fz) (N : Nm) (Es : List (Nat × Value)) (L : List Ent) (n : Nat) (w0 : World) (a : Act) (w : World), SlR f N sl Es → OLR f N ob L → St n w0 f L Es a w →
    ∃ us, VLR f N vs us ∧ RVs P a w l us
  | [], K, r, h => ⟨[], h, rfl, fun f N Es L n w0 a w hS hO hs => ⟨[], trivial, trivial⟩⟩
  | .tmp t :: l, K, r, h => by
    obtain ⟨v, h1, h2⟩ := zab (h : (lk sl t).bind _ = some r)
    obtain ⟨vs, h3, hl, H⟩ := zy5 hE h2
    refine ⟨v :: vs, h3, by simp [hl], fun f N Es L n w0 a w hS hO hs => ?_⟩
    obtain ⟨u, e1, e2⟩ := hS t v h1
    obtain ⟨us, e3, e4⟩ := H f N Es L n w0 a w hS hO hs
    exact ⟨u :: us, ⟨e2, e3⟩, rv_t hs e1, e4⟩
  | .cell t ty :: l, K, r, h => by
    obtain ⟨v, h1, h2⟩ := zab (h : (lk sl t).bind _ = some r)
    obtain ⟨td, h3, h4⟩ := zab h2
    obtain ⟨d, z, g1, g2, g3, g4, _⟩ := zli (hE.T _ _ h3)
    clear h h2
    split at h4
    · rename_i j
      obtain ⟨y, h5, h6⟩ := zab h4
      clear h4
      split at h6
      · rename_i cs
        rcases zdq h6 with ⟨ha, h7⟩ | ⟨ha, h7⟩
        · obtain ⟨hl0, h8⟩ := zar h7
          have hl0 := Nat.eq_of_beq_eq_true hl0
          obtain ⟨vs, h9, hl, H⟩ := zy5 hE h8
          refine ⟨.a cs :: vs, h9, by simp [hl], fun f N Es L n w0 a w hS hO hs => ?_⟩
          obtain ⟨u, e1, b, e2, e2'⟩ := hS t _ h1
          subst e2'
          obtain ⟨us, e3, e4⟩ := H f N Es L n w0 a w hS hO hs
          obtain ⟨_, en, q1, b', ws, tt, q2, q3, q4⟩ := hO.get h5
          subst q3
          rw [e2] at q2
          cases q2
          refine ⟨.agg ws.toArray :: us, ⟨⟨ws, rfl, q4⟩, e3⟩, rv_a hs e1 g1 (g3.trans ha) g2 (fun j u hj => Cell.blk (List.mem_of_getElem? q1) hj) ?_, e4⟩
          have := q4.len
          simp; omega
        · obtain ⟨c, h7', h8⟩ := zab h7
          obtain ⟨vs, h9, hl, H⟩ := zy5 hE h8
          refine ⟨.c c :: vs, h9, by simp [hl], fun f N Es L n w0 a w hS hO hs => ?_⟩
          obtain ⟨u, e1, b, e2, e2'⟩ := hS t _ h1
          subst e2'
          obtain ⟨us, e3, e4⟩ := H f N Es L n w0 a w hS hO hs
          obtain ⟨_, en, q1, b', ws, tt, q2, q3, q4⟩ := hO.get h5
          subst q3
          rw [e2] at q2
          cases q2
          obtain ⟨u', m1, m2⟩ := q4.get h7'
          exact ⟨u' :: us, ⟨m2, e3⟩, rv_c hs e1 g1 (g3.trans ha) (Cell.blk (List.mem_of_getElem? q1) (by simpa using m1)), e4⟩
      · cases h6
    · cases h4
theorem yah : ∀ {ps : List Md} {k : Nat} {vs : List Value}, vs.length = ps.length → (pslots k ps).length = (pvals ps vs).length ∧ (pslots k ps).length = (ps.filter isP).length ∧ ∀ (i s : Nat),(pslots k ps)[i]? = some s → ∃ u,(pvals ps vs)[i]? = some u ∧ k ≤ s ∧ vs[s - k]? = some u
  | [], k,[], _ => ⟨rfl, rfl, by simp [pslots]⟩
  | m :: ps, k, v :: vs, h => by
    have h' : vs.length = ps.length := by simpa using h
    obtain ⟨h1, h2, h3⟩ := yah (k := k + 1) h'
    cases hm : isP m with
    | false =>
      have e : (m :: ps).filter isP = ps.filter isP := by simp [hm]
      have key : (pslots (k + 1) ps).length = (pvals ps vs).length ∧ (pslots (k + 1) ps).length = (ps.filter isP).length ∧ ∀ (i s : Nat),(pslots (k + 1) ps)[i]? = some s → ∃ u,(pvals ps vs)[i]? = some u ∧ k ≤ s ∧ (v :: vs)[s - k]? = some u := ⟨h1, h2, fun i s hs => by
        obtain ⟨u, g1, g2, g3⟩ := h3 i s hs
        refine ⟨u, g1, by omega, ?_⟩
        rw [show s - k = (s - (k + 1)) + 1 by omega]; simpa using g3⟩
      rw [e]
      cases m <;> first | (cases hm; done) | exact key
    | true =>
      have e : (m :: ps).filter isP = m :: ps.filter isP := by simp [hm]
      rw [e]
      cases m <;> first | (cases hm; done) | skip
      refine ⟨by simpa [pslots, pvals] using h1, by simpa [pslots] using h2, fun i s hs => ?_⟩
      cases i with
      | zero => simp [pslots] at hs; subst hs; exact ⟨v, rfl, Nat.le_refl _, by simp⟩
      | succ i =>
        obtain ⟨u, g1, g2, g3⟩ := h3 i s (by simpa [pslots] using hs)
        refine ⟨u, by simpa [pvals] using g1, by omega, ?_⟩
        rw [show s - k = (s - (k + 1)) + 1 by omega]; simpa using g3
  | [], k, _ :: _, h => by simp at h
  | _ :: _, k,[], h => by simp at h
theorem zru : ∀ (vs : List Value) (i t : Nat) (v : Value), i ≤ t → vs[t - i]? = some v → Sl.look (argEnv i vs) t = some v
  | [], _, _, _, _, h => by simp at h
  | u :: vs, i, t, v, hle, h => by
    by_cases e : i = t
    · subst e; simp at h; subst h; simp [argEnv, Sl.look]
    · simp only [argEnv, Sl.look]
      rw [nbeq e]
      rw [show t - i = (t - (i + 1)) + 1 by omega] at h
      exact zru vs (i + 1) t v (by omega) (by simpa using h)
def CutsOk (E : Env) (x : Fx) (body : Code) (M : Nat) : List (Cut (Pr Md.T x.F.ms)) → Prop
  | [] => True
  | c :: r => ((∀ y, c.jump 0 y = none) ∧ ∀ n y, frag E x body c M n y = c.jump (n + 1) y) ∧ CutsOk E x body M r
theorem CutsOk.at {x : Fx} {body : Code} {M : Nat} : ∀ {l : List (Cut (Pr Md.T x.F.ms))}, CutsOk E x body M l → ∀ c ∈ l,(∀ y, c.jump 0 y = none) ∧ ∀ n y, frag E x body c M n y = c.jump (n + 1) y
  | [], _, c, hc => by simp at hc
  | d :: r, ⟨h1, h2⟩, c, hc => by
    rcases List.mem_cons.1 hc with rfl | hc
    · exact h1
    · exact CutsOk.at h2 c hc
theorem za7 (hE : EnvOk P E) {g : Nat} {fn : Func} {body : Code} {ps rs : List Md} {cuts : List (Cut (Out ps rs))} {pl : List (Nat × List (Nat × Nat) × List Nat)} {M : Nat} {entry : Nat → Pr Md.T ps → Option (Out ps rs)}
    (hf : P.funcs[g]? = some fn) (hb : fn.body = some body) (hname : (fn.name == "runtime.NumGoroutine") = false) (hd : (dB fn.ntmps (pslots 0 ps) body && Nat.ble ps.length fn.ntmps) = true)
    (hc : CutsOk E (mkX fn ps rs cuts pl) body M cuts) (he : ∀ n y, head E (mkX fn ps rs cuts pl) body ps M n y = entry n y) (n : Nat) : ConOk P g ⟨ps, rs, entry n⟩ := by
  simp only [Bool.and_eq_true] at hd
  have hlen : ps.length ≤ fn.ntmps := Nat.le_of_ble_eq_true hd.2
  refine ⟨⟨fn, hf, by simp [hb], hname⟩, fun x0 y hm f vs es hf0 hM w0 L w hC => ?_⟩
  have hM : MLR f ps x0 vs es := hM
  have hvl : vs.length = ps.length := hM.len
  obtain ⟨hp1, hp2, hp3⟩ := yah (ps := ps) (k := 0) hvl
  obtain ⟨X, hX⟩ : ∃ X, X = mkX fn ps rs cuts pl := ⟨_, rfl⟩
  have hdk : DOk fn.ntmps (((pslots 0 ps).zip (pvals ps vs)).map (·.1)) body := by
    rw [List.map_fst_zip (by omega)]
    exact ycd hd.1
  have hfin : ∀ sl ob a w, finK E (mkX fn ps rs cuts pl).F sl ob = some y → Stt fn.ntmps w0 f L ((pslots 0 ps).zip (pvals ps vs)) sl ob a w → Rt P fn (fun e w' => ∃ v f' L', e = .returned v ∧ Fz.le f f' ∧ Cw w0 f' (L' ++ L) w' ∧ ∃ us rvs, us = rvs ++ pvals ps vs ∧ v = oneV rvs ∧ rvs.length = rs.length ∧ MLR f' (rs ++ ps.filter isP) y us L') a w := fun sl ob a w h hs => by
    obtain ⟨rv, h1, hl1, HR⟩ := zy5 hE (h : resV E ob sl fn.results.toList _ = some y)
    obtain ⟨pvv, h2, hl2, HP⟩ := yfz h1
    obtain ⟨y', ob', h3, HD⟩ := zzd h2
    obtain rfl := Option.some.inj h3
    obtain ⟨f1, N, Es, L1, g1, g2, g3, g4, g5, g6, g7⟩ := hs
    obtain ⟨us, e1, e2⟩ := HR f1 N Es L1 _ w0 a w g2 g3 g7
    obtain ⟨us2, e3, e4⟩ := HP f1 N Es g2
    have e5 : us2 = pvals ps vs := by
      have hl3 : us2.length = pvv.length := by
        clear e4 HD h3 h2
        revert e3
        generalize pvv = A
        intro e3
        induction A generalizing us2 with
        | nil => cases us2 with | nil => rfl | cons _ _ => exact e3.elim
        | cons a A ih => cases us2 with | nil => exact e3.elim | cons u us2 => simp [ih _ e3.2]
      apply List.ext_getElem?
      intro i
      by_cases hi : i < (pslots 0 ps).length
      · obtain ⟨s, hs⟩ : ∃ s,(pslots 0 ps)[i]? = some s := ⟨(pslots 0 ps)[i], by simp [hi]⟩
        obtain ⟨u, q1, q2⟩ := e4 i s hs
        obtain ⟨u', q3, _, _⟩ := hp3 i s hs
        have hz : ((pslots 0 ps).zip (pvals ps vs))[i]? = some (s, u') := by
          rw [List.getElem?_zip_eq_some]; exact ⟨hs, q3⟩
        have := g6 (s, u') (List.mem_of_getElem? hz)
        rw [q2] at this
        rw [q1, q3]
        exact this
      · have hl4 : pvv.length = (pslots 0 ps).length := hl2
        rw [List.getElem?_eq_none (by omega), List.getElem?_eq_none (by omega)]
    subst e5
    obtain ⟨f2, L2, es', k1, k2⟩ := HD f1 N L1 w0 w g3 g7.cw (us ++ pvals ps vs) (VLR.app e1 e3)
    refine ⟨g7.ev.defers, oneV us, ybo e2, oneV us, f2, es', rfl, g1.trans k2.mv.le, ?_, us ++ pvals ps vs, us, rfl, rfl, ?_, k1⟩
    · have := k2.alone
      rw [g5] at this
      exact this.perm (List.Perm.append_right _ (List.reverse_perm _))
    · have := k1.len
      simp only [List.length_append] at this
      have h5 : (mkX fn ps rs cuts pl).F.ms.length = rs.length + (ps.filter isP).length := by simp [mkX]
      simp only [mkX] at this
      simp only [List.length_append] at this
      omega
  have hcs := hc.at
  have jump : ∀ n, ∀ c ∈ cuts, ∀ y', c.jump n y' = some y → ∀ q, at_ body c.path = some q → ∀ a w, Stt fn.ntmps w0 f L ((pslots 0 ps).zip (pvals ps vs)) (slC c y') (encL c.ms y' []).2 a w →
      WC P (Rt P fn (fun e w' => ∃ v f' L', e = .returned v ∧ Fz.le f f' ∧ Cw w0 f' (L' ++ L) w' ∧ ∃ us rvs, us = rvs ++ pvals ps vs ∧ v = oneV rvs ∧ rvs.length = rs.length ∧ MLR f' (rs ++ ps.filter isP) y us L')) (n * (M + 1)) q.1 q.2 a w := by
    intro n
    induction n with
    | zero => intro c hcm y' hj; rw [(hcs c hcm).1] at hj; cases hj
    | succ n ih =>
      intro c hcm y' hj q hq a w hs
      rw [← (hcs c hcm).2] at hj
      have S : Sd P E (mkX fn ps rs cuts pl) body fn.ntmps w0 f L ((pslots 0 ps).zip (pvals ps vs)) _ y n (n * (M + 1)) := ⟨hE, hfin, hdk, ih⟩
      obtain ⟨q', hq', h1⟩ := zab (hj : (at_ body c.path).bind _ = some y)
      rw [hq] at hq'
      obtain rfl := Option.some.inj hq'
      obtain ⟨hdq, hcx⟩ := at_ok hdk hq
      obtain ⟨code, ctx⟩ := q
      simp only at h1 hdq hcx ⊢
      cases code with
      | region id ops d =>
        obtain ⟨pr, h1, hX⟩ := yf9 (h1 : spl _ id _ _ = some y)
        cases d with
        | true =>
          obtain ⟨f1, N, Es, L1, g1, g2, g3, g4, g5, g6, g7⟩ := hs
          have g2 := hX _ _ _ g2
          refine ydf hE (h1 : drawn E _ id ops _ _ _ = some y) (fun o ho t ht => (hdq o ho t ht).1) g2 g3 g4 g7 fun sl' ob' f' N' E' L' a' w' k1 k2 k3 k4 k5 k6 k8 k7 => ?_
          have := (ev_ok S M).1 ctx [] sl' ob' a' w' k1 hcx ⟨f', N', E', L', g1.trans k2, k3, k4, k5, k6.trans g5, fun p hp => (k8 p.1 fun o ho e => (hdq o ho p.1 e).2 (List.mem_map_of_mem hp)).trans (g6 p hp), k7⟩
          rw [show (n + 1) * (M + 1) = (n * (M + 1) + M) + 1 by rw [Nat.succ_mul]; omega]
          exact (zro ctx).1 a' w' this
        | false =>
          obtain ⟨f1, N, Es, L1, g1, g2, g3, g4, g5, g6, g7⟩ := hs
          have g2 := hX _ _ _ g2
          have e : ops = ops.toList.toArray := by simp
          rw [e]
          refine zad ?_
          refine zs6 hE (h1 : runOps E ops.toList ops.toList _ _ _ = some y) (fun o ho t ht => (hdq o ho t ht).1) f1 N Es L1 a w g2 g3 g4 g7 fun sl' ob' f' N' E' L' a' w' k1 k2 k3 k4 k5 k6 k8 k7 => ?_
          have := (ev_ok S M).1 ctx [] sl' ob' a' w' k1 hcx ⟨f', N', E', L', g1.trans k2, k3, k4, k5, k6.trans g5, fun p hp => (k8 p.1 fun o ho e => (hdq o ho p.1 e).2 (List.mem_map_of_mem hp)).trans (g6 p hp), k7⟩
          rw [show (n + 1) * (M + 1) = (n * (M + 1) + M) + 1 by rw [Nat.succ_mul]; omega]
          exact (zro ctx).1 a' w' this
      | _ => cases h1
  have S : Sd P E (mkX fn ps rs cuts pl) body fn.ntmps w0 f L ((pslots 0 ps).zip (pvals ps vs)) _ y n (n * (M + 1)) := ⟨hE, hfin, hdk, jump n⟩
  refine enter hf hb rfl (by omega) hC fun a hs => ?_
  obtain ⟨N', up, k3⟩ := yc9 (N := fun _ => none) (ob := []) (L := L) hM hf0 (fun _ _ => rfl)
  have hev : ev E (mkX fn ps rs cuts pl) n M body [] [] ((List.range ps.length).zip (encL ps x0 []).1) (encL ps x0 []).2 = some y := (he n x0).trans hm
  refine (ev_ok S M).2.2 body [] [] _ _ a w hev rfl ⟨f, N', argEnv 0 vs, es.reverse ++ L, .refl f, ybe k3 (fun i t hi u hu => ?_), up.ol, up.nb, ?_, fun p hp => ?_, hs.ev, hC.perm (List.Perm.append_right _ (List.reverse_perm _).symm)⟩
  · have : t = i := by
      have h1 := (List.getElem?_eq_some_iff.1 hi)
      obtain ⟨h2, h3⟩ := h1
      simp at h3; exact h3.symm
    subst this
    exact zru vs 0 t u (Nat.zero_le _) (by simpa using hu)
  · have := up.fm.2
    simpa using this
  · obtain ⟨i, hi⟩ := List.getElem?_of_mem hp
    obtain ⟨h1, h2⟩ := List.getElem?_zip_eq_some.1 hi
    obtain ⟨u, q1, q2, q3⟩ := hp3 i p.1 h1
    rw [h2] at q1
    cases q1
    exact zru vs 0 p.1 p.2 (Nat.zero_le _) (by simpa using q3)
end
theorem con0 [F0] {P : Go.Program} {g : Nat} {ps rs : List Md} (h : Has P g) : ConOk P g ⟨ps, rs, fun _ => none⟩ := ⟨h, fun _ _ h => by cases h⟩
def gOf : List (Nat × Con) → Nat → Option Con
  | [], _ => none
  | p :: r, g => cond (Nat.beq p.1 g) (some p.2) (gOf r g)
def AllG (P : Go.Program) : List (Nat × Con) → Prop
  | [] => True
  | (g, c) :: r => ConOk P (g % 10000) c ∧ AllG P r
theorem zaa {P : Go.Program} : ∀ {l : List (Nat × Con)}, AllG P l → ∀ g c, gOf l g = some c → ConOk P (g % 10000) c
  | [], _, _, _, h => by cases h
  | (g', c') :: l, ⟨h1, h2⟩, g, c, h => by
    simp only [gOf] at h
    cases q : Nat.beq g' g with
    | true =>
      rw [q] at h
      obtain rfl := Option.some.inj h
      have := Nat.eq_of_beq_eq_true q
      subst this
      exact h1
    | false => rw [q] at h; exact zaa h2 g c h
end Go.V
