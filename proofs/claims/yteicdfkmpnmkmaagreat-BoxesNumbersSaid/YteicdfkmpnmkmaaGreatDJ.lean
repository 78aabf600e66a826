/-
  Walks and laws of this seat; the base is the text Base.
-/
import Derived.Test.YteicdfkmpnmkmaaGreatDI
namespace Go.D
open Go.RowKit Go.Sl
open Classical in
/-- A call sees a part of the heap; the rest stays. -/
theorem HR.frame {w0 w : World} {Φ : Fz} {σ : Sg} {h cur : HS} (H : HR w0 Φ σ h w) (D : Nat → Prop) (h1 : ∀ a, D a → h a = cur a) (h2 : ∀ a, ¬ D a → cur a = none) :
    ∃ Φ' : Fz, HR w0 Φ' σ cur w ∧ ∀ σ' cur' w' h', σ.le σ' → HR w0 Φ' σ' cur' w' → (∀ a, ¬ D a → cur' a = none) → (∀ a, D a → h' a = cur' a) → (∀ a, ¬ D a → h' a = h a) → HR w0 Φ σ' h' w' := by
  -- the blocks that are set aside
  let X : Nat → Prop := fun b => ∃ a o x, ¬ D a ∧ h a = some o ∧ o ≠ .dead ∧ σ a = some (b, x)
  have hcur : ∀ a o, cur a = some o → D a ∧ h a = some o := fun a o ha => by
    by_cases hd : D a
    · exact ⟨hd, (h1 a hd).trans ha⟩
    · rw [h2 a hd] at ha; cases ha
  have hX : ∀ b, X b → Φ b = none ∧ b < w.heap.size := fun b ⟨a, o, x, _, g1, g2, g3⟩ => by
    obtain ⟨b', x', f1, f2, f3, _⟩ := H.live a o g1 g2
    rw [g3] at f1; cases f1
    exact ⟨f2, f3⟩
  have hsep : ∀ a o b x, cur a = some o → o ≠ .dead → σ a = some (b, x) → ¬ X b := fun a o b x ha ho hs ⟨a', o', x', g0, g1, g2, g3⟩ => by
    obtain ⟨hd, ha⟩ := hcur a o ha
    have := H.sep a a' o o' b x x' ha g1 ho g2 hs g3
    subst this
    exact g0 hd
  refine ⟨fun b => if X b then w.heap[b]? else Φ b, ⟨⟨H.cw.os, H.cw.tape, H.cw.output, H.cw.size, fun b o hb => ?_, fun e he => by simp at he, fun e he => by simp at he, fun i j x y hi => by simp at hi⟩, fun a o ha ho => ?_, fun a a' o o' b x x' ha ha' => H.sep a a' o o' b x x' (hcur a o ha).2 (hcur a' o' ha').2⟩, fun σ' cur' w' h' hle H' hn hp1 hp2 => ⟨⟨H'.cw.os, H'.cw.tape, H'.cw.output, H'.cw.size, fun b o hb => ?_, fun e he => by simp at he, fun e he => by simp at he, fun i j x y hi => by simp at hi⟩, fun a o ha ho => ?_, fun a a' o o' b x x' ha ha' ho ho' hs hs' => ?_⟩⟩
  · by_cases hx : X b
    · simpa [hx] using hb
    · simp only [hx, if_false] at hb; exact H.cw.frz b o hb
  · obtain ⟨hd, hh⟩ := hcur a o ha
    obtain ⟨b, x, f1, f2, f3, f4⟩ := H.live a o hh ho
    refine ⟨b, x, f1, ?_, f3, f4⟩
    simp only [hsep a o b x ha ho f1, if_false]
    exact f2
  · have hx : ¬ X b := fun hx => by rw [(hX b hx).1] at hb; cases hb
    exact H'.cw.frz b o (by simp only [hx, if_false]; exact hb)
  · by_cases hd : D a
    · rw [hp1 a hd] at ha
      obtain ⟨b, x, f1, f2, f3, f4⟩ := H'.live a o ha ho
      refine ⟨b, x, f1, ?_, f3, f4⟩
      by_cases hx : X b
      · exact (hX b hx).1
      · simpa only [hx, if_false] using f2
    · rw [hp2 a hd] at ha
      obtain ⟨b, x, f1, f2, f3, f4⟩ := H.live a o ha ho
      have hx : X b := ⟨a, o, x, hd, ha, ho, f1⟩
      obtain ⟨ob, hob⟩ : ∃ ob, w.heap[b]? = some ob := ⟨w.heap[b], by simp [f3]⟩
      have hk := H'.cw.frz b ob (by simp only [hx, if_true]; exact hob)
      exact ⟨b, x, hle _ _ f1, f2, (Array.getElem?_eq_some_iff.1 hk).1, (f4.same (hk.trans hob.symm)).le hle⟩
  · have key : ∀ a o a' o' b x x', D a → ¬ D a' → cur' a = some o → h a' = some o' → o ≠ .dead → o' ≠ .dead → σ' a = some (b, x) → σ' a' = some (b, x') → False := fun a o a' o' b x x' hd hd' ha ha' ho ho' hs hs' => by
      obtain ⟨b1, x1, f1, f2, _⟩ := H'.live a o ha ho
      rw [hs] at f1; cases f1
      obtain ⟨b2, x2, g1, _, g3, _⟩ := H.live a' o' ha' ho'
      have := hle _ _ g1
      rw [hs'] at this; cases this
      have hx : X b := ⟨a', o', x', hd', ha', ho', g1⟩
      simp only [hx, if_true] at f2
      have h3 : b < w.heap.size := g3
      rw [Array.getElem?_eq_getElem h3] at f2
      cases f2
    by_cases hd : D a <;> by_cases hd' : D a'
    · rw [hp1 a hd] at ha
      rw [hp1 a' hd'] at ha'
      exact H'.sep a a' o o' b x x' ha ha' ho ho' hs hs'
    · rw [hp1 a hd] at ha
      rw [hp2 a' hd'] at ha'
      exact (key a o a' o' b x x' hd hd' ha ha' ho ho' hs hs').elim
    · rw [hp2 a hd] at ha
      rw [hp1 a' hd'] at ha'
      exact (key a' o' a o b x' x hd' hd ha' ha ho' ho hs' hs).elim
    · rw [hp2 a hd] at ha
      rw [hp2 a' hd'] at ha'
      obtain ⟨b1, x1, f1, _⟩ := H.live a o ha ho
      obtain ⟨b2, x2, g1, _⟩ := H.live a' o' ha' ho'
      have q1 := hle _ _ f1
      have q2 := hle _ _ g1
      rw [hs] at q1; cases q1
      rw [hs'] at q2; cases q2
      exact H.sep a a' o o' b x x' ha ha' ho ho' f1 g1

def rtOf (all : List Oper) (o : Oper) : List Nat := opTmps o.op ++ gslot all o.guard
def mkOf (ms : List (Nat × Bool)) (i : Nat) : Nat := match ms[i]? with
  | some p => p.1
  | none => 0
/-- A region's masks. -/
structure RegOk (N : Nat) (all : List Oper) (ms : List (Nat × Bool)) : Prop where
  dst : ∀ o ∈ all, ∀ d, o.dst = some d → d < N
  edge : ∀ i o, all[i]? = some o → ∀ e ∈ o.after, Region.binds .any e = true → e.on < i
  mask : ∀ i o j, all[i]? = some o → kept (mkOf ms i) j = true → ∃ e ∈ o.after, Region.binds .any e = true ∧ (e.on = j ∨ kept (mkOf ms e.on) j = true)
  slots : ∀ i j oi oj, all[i]? = some oi → all[j]? = some oj → j < i → kept (mkOf ms i) j = false → (∀ d ∈ rtOf all oi, oj.dst ≠ some d) ∧ (∀ d ∈ rtOf all oj, oi.dst ≠ some d) ∧ ∀ d, oj.dst = some d → oi.dst ≠ some d

theorem upd_in : ∀ {us : List (Nat × AO)} {h h2 : HS} {a : Nat}, (∃ p ∈ us, p.1 = a) → upd us h a = upd us h2 a
  | [], _, _, _, ⟨_, hp, _⟩ => by simp at hp
  | (b, o) :: us, h, h2, a, ⟨p, hp, e⟩ => by
    show upd us (set1 h b o) a = upd us (set1 h2 b o) a
    by_cases q : ∃ p ∈ us, p.1 = a
    · exact upd_in q
    · have hq : ∀ p ∈ us, p.1 ≠ a := fun p hp e => q ⟨p, hp, e⟩
      rw [upd_out hq, upd_out hq]
      rcases List.mem_cons.1 hp with rfl | hp
      · subst e; simp [set1]
      · exact absurd e (hq p hp)

section
variable {α : Type} {P : Program} {E : Env} {m : Nat}
/-- What is said of the operations from number i on. -/
structure DR (P : Program) (N m : Nat) (all : List Oper) (ms : List (Nat × Bool)) (lim i ln : Nat) (PE : List (Nat × Eff)) (t t' : Tr V) (lc : Ls) (ht he : HS) (n n' : Nat) (L : List En) : Prop where
  le : n ≤ n'
  keep : Kp lim n' ht he
  nn : Nn n' he
  run : ∃ lce, RunE L (opT m t lc) ht (opT m t' lce) he
  len : L.length = ln
  idx : ∀ q, (∃ e ∈ L, e.idx = q) ↔ (i ≤ q ∧ q < i + ln)
  ok : ∀ e ∈ L, e.wt = mkOf ms e.idx ∧ OpE P all.toArray N e ∧ n ≤ e.lo ∧ e.hi ≤ n' ∧ e.lo ≤ e.hi
  pw : L.Pairwise PW
  past : ∀ j e, (j, e) ∈ PE → ∀ f ∈ L, kept f.wt j = false → Compat e f.eff

/-- One operation ahead of the others. -/
theorem DR.cons {N : Nat} {all : List Oper} {ms : List (Nat × Bool)} {lim i len : Nat} {PE : List (Nat × Eff)} {t t' t1 : Tr V} {lc lc1 : Ls} {ht ht1 he : HS} {n n1 n' : Nat} {L : List En} {e : Eff}
    (H : DR P N m all ms lim (i + 1) len ((i, e) :: PE) t1 t' lc1 ht1 he n1 n' L) (hle : n ≤ n1) (hk : Kp lim n1 ht ht1) (hs : Step e (opT m t lc) ht (opT m t1 lc1) ht1) (ho : OpE P all.toArray N ⟨i, mkOf ms i, e, n, n1⟩) (hc : ∀ j f, (j, f) ∈ PE → kept (mkOf ms i) j = false → Compat f e) :
    DR P N m all ms lim i (len + 1) PE t t' lc ht he n n' (⟨i, mkOf ms i, e, n, n1⟩ :: L) := by
  obtain ⟨lce, hr⟩ := H.run
  refine ⟨Nat.le_trans hle H.le, hk.trans H.keep H.le, H.nn, ⟨lce, _, _, hs, hr⟩, by simp [H.len], fun q => ?_, fun f hf => ?_, List.pairwise_cons.2 ⟨fun f hf => ⟨?_, fun hq => H.past i e (by simp) f hf hq, fun b hb => ?_⟩, H.pw⟩, fun j f hj g hg hq => ?_⟩
  · have hi := H.idx q
    constructor
    · rintro ⟨f, hf, hfi⟩
      rcases List.mem_cons.1 hf with rfl | hf
      · have : i = q := hfi
        omega
      · have := hi.1 ⟨f, hf, hfi⟩
        omega
    · intro hq
      by_cases c : q = i
      · exact ⟨⟨i, mkOf ms i, e, n, n1⟩, by simp, c.symm⟩
      · obtain ⟨f, hf, hfi⟩ := hi.2 (by omega)
        exact ⟨f, by simp [hf], hfi⟩
  · rcases List.mem_cons.1 hf with rfl | hf
    · exact ⟨rfl, ho, Nat.le_refl _, H.le, hle⟩
    · obtain ⟨q1, q2, q3, q4, q5⟩ := H.ok f hf
      exact ⟨q1, q2, Nat.le_trans hle q3, q4, q5⟩
  · have := (H.idx f.idx).1 ⟨f, hf, rfl⟩
    show i < f.idx
    omega
  · obtain ⟨_, _, q3, _⟩ := H.ok f hf
    have h1 : b < n1 := hb.1.2
    have h2 : f.lo ≤ b := hb.2.1
    omega
  · rcases List.mem_cons.1 hg with rfl | hg
    · exact hc j f hj hq
    · exact H.past j f (by simp [hj]) g hg hq

open Classical in
theorem runDrawn_ok {call : CallT α} (hE : ∀ t ti, E.tt.get t = some ti → TIok P t ti) (hc : CallOK P call) {N lim : Nat} {all : List Oper} {msA : List (Nat × Bool)} (hreg : RegOk N all msA) : ∀ (l : List Oper) (ms : List (Nat × Bool)) (i : Nat) (past : Past) (pend : Pend) (t : Tr V) (lc : Ls) (h : H) (n : Nat) (k : KD α) (r : α) (ht : HS) (PE : List (Nat × Eff)),
    (∀ q, all[i + q]? = l[q]?) → (∀ q, msA[i + q]? = ms[q]?) → HT h.get pend ht n → Nn n h.get → Nn n ht → (∀ j e, (j, e) ∈ PE → Cov past pend n j e ∧ j < i ∧ ∃ oj, all[j]? = some oj ∧ e.rt = rtOf all oj ∧ e.d = oj.dst) →
    runDrawn call E m lim all l ms i past pend t lc h n k = some r → ∃ L t' h' n', k t' h' n' = some r ∧ DR P N m all msA lim i l.length PE t t' lc ht h'.get n n' L
  | [], ms, i, past, pend, t, lc, h, n, k, r, ht, PE, hall, hms, hT, hN, hNt, hPE, e => by
    obtain ⟨h', h1, e1⟩ := ends_inv hT e
    exact ⟨[], t, h', n, e1, ⟨Nat.le_refl _, fun _ _ => by rw [h1], by rw [h1]; exact hNt, ⟨lc, rfl, h1.symm⟩, rfl, fun q => ⟨fun ⟨_, h, _⟩ => by simp at h, fun hq => by simp at hq; omega⟩, fun _ h => by simp at h, .nil, fun _ _ _ _ h => by simp at h⟩⟩
  | o :: l, [], i, past, pend, t, lc, h, n, k, r, ht, PE, hall, hms, hT, hN, hNt, hPE, e => nn e
  | ⟨dst, op, ty, pos, af, g⟩ :: l, (mk, sy) :: ms, i, past, pend, t, lc, h, n, k, r, ht, PE, hall, hms, hT, hN, hNt, hPE, e => by
    generalize hoo : (⟨dst, op, ty, pos, af, g⟩ : Oper) = oo at hall
    have hai : all[i]? = some oo := by simpa using hall 0
    have hmi : mkOf msA i = mk := by
      have := hms 0
      simp at this
      simp [mkOf, this]
    have hd : ∀ d, dst = some d → d < N := fun d hdd => hreg.dst oo (List.mem_of_getElem? hai) d (by rw [← hoo]; exact hdd)
    have hall' : ∀ q, all[i + 1 + q]? = l[q]? := fun q => by
      have := hall (q + 1)
      rw [show i + 1 + q = i + (q + 1) by omega, this]; simp
    have hms' : ∀ q, msA[i + 1 + q]? = ms[q]? := fun q => by
      have := hms (q + 1)
      rw [show i + 1 + q = i + (q + 1) by omega, this]; simp
    have hat : (all.toArray : Array Oper)[i]? = some oo := by simpa using hai
    -- the slots' side of what may be swapped
    have slots : ∀ j f (e : Eff), (j, f) ∈ PE → kept mk j = false → e.rt = rtOf all oo → e.d = dst → (∀ a, f.dom a → e.dom a → f.g a = f.g' a ∧ e.g a = e.g' a) → Compat f e := fun j f e hj hk hert hed hh => by
      obtain ⟨_, hji, oj, hoj, hfr, hfd⟩ := hPE j f hj
      obtain ⟨s1, s2, s3⟩ := hreg.slots i j oo oj hai hoj hji (by rw [hmi]; exact hk)
      have hod : oo.dst = dst := by rw [← hoo]
      rw [hod] at s2 s3
      exact ⟨fun d hd => by rw [hfd]; exact s1 d (by rw [← hert]; exact hd), fun d hd => by rw [hed]; exact s2 d (by rw [← hfr]; exact hd), fun d hd => by rw [hed]; exact s3 d (by rw [← hfd]; exact hd), hh⟩
    -- what is known of the past, with this one
    have PE' : ∀ (e : Eff) (past' : Past) (pend' : Pend) (n1 : Nat), n ≤ n1 → e.rt = rtOf all oo → e.d = dst → (∀ p ∈ past, p ∈ past') → (∀ p ∈ pend, p ∈ pend' ∨ (p.1, Fp.s [] [p.2.1]) ∈ past') → Cov past' pend' n1 i e →
        ∀ j f, (j, f) ∈ (i, e) :: PE → Cov past' pend' n1 j f ∧ j < i + 1 ∧ ∃ oj, all[j]? = some oj ∧ f.rt = rtOf all oj ∧ f.d = oj.dst := fun e past' pend' n1 hn hert hed hp hq hcov j f hj => by
      rcases List.mem_cons.1 hj with hj | hj
      · cases hj
        exact ⟨hcov, Nat.lt_succ_self _, oo, hai, hert, by rw [hed, ← hoo]⟩
      · obtain ⟨c1, c2, c3⟩ := hPE j f hj
        exact ⟨c1.mono hn hp hq, by omega, c3⟩
    have e0 : fN (Nat.succ i) (fun i' => wants m t lc all g (fun b => Bool.rec
      (putO m dst unit t lc fun t lc => runDrawn call E m lim all l ms i' past pend t lc h n k)
      (laid mk pend h [] past fun h pend past => isCall op
        (fun x ars => calleeK m t lc x ars fun g av => callK mk sy past (syOk sy pend (iff (Nat.ble lim n) (call (Bool.rec n lim sy) g av h n fun v h n' => putO m dst v t lc fun t lc => runDrawn call E m lim all l ms i' ((i, .c n sy) :: past) pend t lc h n' k))))
        (simple op E m t lc h n fun v rs us n' => sort rs us n
          (putO m dst v t lc fun t lc => runDrawn call E m lim all l ms i' past pend t lc h n' k)
          (fun b o => iff (Nat.ble lim b) (putO m dst v t lc fun t lc => runDrawn call E m lim all l ms i' past ((i, b, o) :: pend) t lc h n' k))
          (unames us fun ws => apartK mk rs ws n past (puts lim us h fun h => putO m dst v t lc fun t lc => runDrawn call E m lim all l ms i' ((i, .s rs ws) :: past) pend t lc h n' k)))) b)) = some r := e
    rw [fN_eq] at e0
    obtain ⟨b, e1, hw⟩ := wants_inv e0
    have hgd : oo.guard = g := by rw [← hoo]
    have hop : oo.op = op := by rw [← hoo]
    have hod : oo.dst = dst := by rw [← hoo]
    have hwant : ∀ (σ : Sg) (T : TS) (a : Act), (∀ x ∈ rtOf all oo, T x = opT m t lc x) → SL N σ T a → Region.wanted oo (yielded all.toArray a.tmps) = b := fun σ T a hT hs => hw N σ T a oo hgd (fun x hx => hT x (by simp [rtOf, hgd, hx])) hs
    have htm : ∀ T : TS, (∀ x ∈ rtOf all oo, T x = opT m t lc x) → Tm op (opT m t lc) T := fun T hT x hx => hT x (by simp [rtOf, hop, hx])
    rcases rec_t e1 with ⟨hb, e2⟩ | ⟨hb, e2⟩
    · subst hb
      obtain ⟨h1, pend1, past1, e3, hT1, hN1, hk1, hp1, hq1⟩ := laid_inv (r := []) (by simpa using hT) hN (fun _ hp => by simp at hp) e2
      have hq1 : ∀ p ∈ pend, p ∈ pend1 ∨ (p.1, Fp.s [] [p.2.1]) ∈ past1 := fun p hp => hq1 p (by simp [hp])
      have hcov1 : ∀ j f, (j, f) ∈ PE → Cov past1 pend1 n j f := fun j f hj => (hPE j f hj).1.mono (Nat.le_refl _) hp1 hq1
      rcases isCall_inv e3 with ⟨x, ars, ats, hopx, e4⟩ | e4
      · -- a call
        subst hopx
        obtain ⟨f, av, e5, hx⟩ := calleeK_inv (P := P) (ats := ats) e4
        obtain ⟨e6, hcall⟩ := callK_inv e5
        obtain ⟨e7, hsy⟩ := syOk_inv e6
        obtain ⟨hlim, e8⟩ := iff_inv e7
        have hlim := ble_iff hlim
        obtain ⟨v, h2, n1, e9, hR, hF⟩ := hc _ _ _ _ _ _ _ hN1 e8
        obtain ⟨t1, lc1, ht1, e10⟩ := putO_inv e9
        have hpn : ∀ p ∈ pend1, h2.get p.2.1 = none := fun p hp => by
          obtain ⟨_, q2, q3⟩ := hT1.pe p hp
          cases sy with
          | true => rw [hsy rfl] at hp; cases hp
          | false => rw [hR.keep p.2.1 (.inl q3)]; exact q2
        let D : Nat → Prop := fun a => a < n1 ∧ ∀ p ∈ pend1, p.2.1 ≠ a
        let eff : Eff := ⟨rtOf all oo, opT m t lc, dst, v, D, h1.get, h2.get⟩
        let htn : HS := fun a => if D a then h2.get a else ht a
        have hstep : Step eff (opT m t lc) ht (opT m t1 lc1) htn := ⟨fun _ _ => rfl, fun a ha => hT1.eq a ha.2, ht1, fun a ha => if_pos ha, fun a ha => if_neg ha⟩
        have hnotD : ∀ a, ¬ D a → n1 ≤ a ∨ ∃ p ∈ pend1, p.2.1 = a := fun a ha => by
          rcases Nat.lt_or_ge a n1 with hl | hl
          · right
            refine Classical.byContradiction fun hno => ha ⟨hl, fun p hp e => hno ⟨p, hp, e⟩⟩
          · exact .inl hl
        have hopE : OpE P all.toArray N ⟨i, mkOf msA i, eff, n, n1⟩ := fun w0 Φ σ T h0 T' h0' a w K hst hf hs H hK => by
          have hT : ∀ x ∈ rtOf all oo, T x = opT m t lc x := hst.rd
          unfold wpOpS
          simp only [hat]
          rw [if_pos (hwant σ T a hT hs)]
          obtain ⟨args, g1, g2⟩ := hx N σ T a w (by rw [← hop]; exact hop ▸ htm T hT) hs hF
          obtain ⟨Φ', hH, hback⟩ := H.frame D (cur := h1.get) (fun a ha => hst.pre a ha) (fun a ha => by
            rcases hnotD a ha with hl | ⟨p, hp, rfl⟩
            · exact hN1 a (Nat.le_trans hR.le hl)
            · exact (hT1.pe p hp).2.1)
          unfold Sl.opS
          rw [g2 oo hop]
          refine (hR.sem w0 Φ' σ w args hf g1 hH).mono ?_
          rintro e w' ⟨u, σ', rfl, f1, f2, f3⟩
          refine ⟨u, rfl, ?_⟩
          have hH' := hback σ' h2.get w' h0' f1.1 f3 (fun a ha => by
            rcases hnotD a ha with hl | ⟨p, hp, rfl⟩
            · exact hR.nn a hl
            · exact hpn p hp) hst.post hst.out
          have hs' := (hs.le f1.1).put (d := dst) (u := u) hd f2
          rw [hod]
          exact hK _ _ σ' f1 (by rw [hst.slots]; exact hs') hH'
        have hT2 : HT h2.get pend1 htn n1 := ⟨fun p hp => by
          obtain ⟨q1, _, q3⟩ := hT1.pe p hp
          have : ¬ D p.2.1 := fun hd => hd.2 p hp rfl
          exact ⟨by show (if D p.2.1 then h2.get p.2.1 else ht p.2.1) = _; rw [if_neg this]; exact q1, hpn p hp, Nat.lt_of_lt_of_le q3 hR.le⟩, fun a ha => by
          show (if D a then h2.get a else ht a) = _
          by_cases hl : a < n1
          · rw [if_pos ⟨hl, ha⟩]
          · rw [if_neg (fun hd => hl hd.1), hNt a (by have := hR.le; omega), hR.nn a (by omega)], hT1.nd⟩
        have hN2 : Nn n1 htn := fun a ha => by
          show (if D a then h2.get a else ht a) = _
          rw [if_neg (fun hd => by have := hd.1; omega)]
          exact hNt a (Nat.le_trans hR.le ha)
        have hkp : Kp lim n1 ht htn := fun a ha => by
          show (if D a then h2.get a else ht a) = _
          by_cases hd : D a
          · rw [if_pos hd]
            have hal : a < lim := by have := hd.1; omega
            rw [hT1.eq a hd.2]
            refine hR.keep a (.inl ?_)
            cases sy with
            | true => exact hal
            | false => show a < n; omega
          · rw [if_neg hd]
        have hro : sy = false → ∀ a, D a → a < n → h1.get a = h2.get a := fun hs0 a _ ha => by
          subst hs0
          exact (hR.keep a (.inl ha)).symm
        obtain ⟨L, t', h', n', e11, hDR⟩ := runDrawn_ok hE hc hreg l ms (i + 1) ((i, .c n sy) :: past1) pend1 t1 lc1 h2 n1 k r htn ((i, eff) :: PE) hall' hms' hT2 hR.nn hN2
          (PE' eff _ pend1 n1 hR.le rfl rfl (fun p hp => by simp [hp1 p hp]) (fun p hp => (hq1 p hp).imp id (fun h => by simp [h])) ⟨fun a ha => ha.1, .inr (.inr (.inr ⟨n, sy, by simp, hR.le, hro⟩))⟩) e10
        refine ⟨_, t', h', n', e11, hDR.cons hR.le hkp hstep hopE fun j f hj hk => ?_⟩
        rw [hmi] at hk
        exact slots j f eff hj hk rfl rfl ((hcov1 j f hj).call hk hcall hsy (fun a ha => ha.2) hro)
      · -- no call
        obtain ⟨v, rs, us, n1, e5, hS⟩ := simple_ok (P := P) hE e4
        have hnm := hS.names hN1
        let D : Nat → Prop := fun a => a ∈ rs ∨ ∃ p ∈ us, p.1 = a
        let eff : Eff := ⟨rtOf all oo, opT m t lc, dst, v, D, ht, upd us ht⟩
        have hrs : ∀ a ∈ rs, ht a = h1.get a := fun a ha => hT1.eq a fun p hp e => by
          obtain ⟨ob, ho⟩ := hS.rd a ha
          have := (hT1.pe p hp).2.1
          rw [e, ho] at this
          cases this
        have hout : ∀ (h0 : HS) a, (¬ ∃ p ∈ us, p.1 = a) → upd us h0 a = h0 a := fun h0 a hno => upd_out fun p hp e => hno ⟨p, hp, e⟩
        have hstep : ∀ (t1 : Tr V) (lc1 : Ls), opT m t1 lc1 = setT (opT m t lc) dst v → Step eff (opT m t lc) ht (opT m t1 lc1) (upd us ht) := fun t1 lc1 ht1 => ⟨fun _ _ => rfl, fun _ _ => rfl, ht1, fun _ _ => rfl, fun a ha => hout ht a fun h => ha (.inr h)⟩
        have hopE : OpE P all.toArray N ⟨i, mkOf msA i, eff, n, n1⟩ := fun w0 Φ σ T h0 T' h0' a w K hst hf hs H hK => by
          have hT : ∀ x ∈ rtOf all oo, T x = opT m t lc x := hst.rd
          unfold wpOpS
          simp only [hat]
          rw [if_pos (hwant σ T a hT hs)]
          refine SSem.opS (o := oo) (by rw [hop]; exact hS) (by rw [hop]; exact htm T hT) (fun b hb => (hst.pre b (.inl hb)).trans (hrs b hb)) hf hs H fun u w' σ' f1 f2 f3 f4 => ?_
          have hfun : upd us h0 = h0' := by
            funext a
            by_cases hd : D a
            · rw [hst.post a hd]
              by_cases hu : ∃ p ∈ us, p.1 = a
              · exact upd_in hu
              · show upd us h0 a = upd us ht a
                rw [hout h0 a hu, hout ht a hu]
                exact hst.pre a hd
            · rw [hst.out a hd]
              exact hout h0 a fun h => hd (.inr h)
          rw [hfun] at f4
          have hs' := (hs.le f1).put (d := dst) (u := u) hd f3
          rw [hod]
          exact hK _ _ σ' ⟨f1, f2⟩ (by rw [hst.slots]; exact hs') f4
        have hNt1 : Nn n1 (upd us ht) := fun a ha => by
          rw [hout ht a fun ⟨p, hp, e⟩ => by have := hnm.1 p hp; omega]
          exact hNt a (Nat.le_trans hS.le ha)
        have hkp : (∀ p ∈ us, lim ≤ p.1) → Kp lim n1 ht (upd us ht) := fun hl a ha => hout ht a fun ⟨p, hp, e⟩ => by
          have := hnm.1 p hp
          have := hl p hp
          omega
        have hDn : ∀ a, D a → a < n1 := fun a ha => by
          rcases ha with ha | ⟨p, hp, rfl⟩
          · exact Nat.lt_of_lt_of_le (hnm.2 a ha) hS.le
          · exact hnm.1 p hp
        rcases sort_inv e5 with ⟨hrs0, hus0, e6⟩ | ⟨b, o, hrs0, hus0, hbn, e6⟩ | e6
        · -- nothing
          obtain ⟨t1, lc1, ht1, e7⟩ := putO_inv e6
          have hD0 : ∀ a, ¬ D a := fun a ha => by
            rcases ha with ha | ⟨p, hp, _⟩
            · rw [hrs0] at ha; cases ha
            · rw [hus0] at hp; cases hp
          have hu0 : upd us ht = ht := by rw [hus0]; rfl
          rw [hu0] at hNt1
          obtain ⟨L, t', h', n', e8, hDR⟩ := runDrawn_ok hE hc hreg l ms (i + 1) past1 pend1 t1 lc1 h1 n1 k r ht ((i, eff) :: PE) hall' hms'
            ⟨fun p hp => by obtain ⟨q1, q2, q3⟩ := hT1.pe p hp; exact ⟨q1, q2, Nat.lt_of_lt_of_le q3 hS.le⟩, hT1.eq, hT1.nd⟩ (fun a ha => hN1 a (Nat.le_trans hS.le ha)) hNt1
            (PE' eff _ pend1 n1 hS.le rfl rfl hp1 hq1 ⟨hDn, .inl hD0⟩) e7
          have hst := hstep t1 lc1 ht1
          have hkp := hkp (fun p hp => by rw [hus0] at hp; cases hp)
          rw [hu0] at hst hkp
          refine ⟨_, t', h', n', e8, hDR.cons hS.le hkp hst hopE fun j f hj hk => ?_⟩
          rw [hmi] at hk
          exact slots j f eff hj hk rfl rfl fun a _ ha => absurd ha (hD0 a)
        · -- a new block that waits
          subst hbn
          obtain ⟨hl, e7⟩ := iff_inv e6
          obtain ⟨t1, lc1, ht1, e8⟩ := putO_inv e7
          have hbn1 : b < n1 := hnm.1 (b, o) (by rw [hus0]; simp)
          have hu0 : upd us ht = set1 ht b o := by rw [hus0]; rfl
          have hDb : ∀ a, D a → a = b := fun a ha => by
            rcases ha with ha | ⟨p, hp, rfl⟩
            · rw [hrs0] at ha; cases ha
            · rw [hus0] at hp; simp at hp; rw [hp]
          have hT2 : HT h1.get ((i, b, o) :: pend1) (upd us ht) n1 := by
            rw [hu0]
            refine ⟨fun p hp => ?_, fun a ha => ?_, List.pairwise_cons.2 ⟨fun p hp e => ?_, hT1.nd⟩⟩
            · rcases List.mem_cons.1 hp with rfl | hp
              · exact ⟨by simp [set1], hN1 b (Nat.le_refl _), hbn1⟩
              · obtain ⟨q1, q2, q3⟩ := hT1.pe p hp
                exact ⟨by rw [set1, if_neg (by omega)]; exact q1, q2, by omega⟩
            · rw [set1, if_neg (fun e => ha (i, b, o) (by simp) e.symm)]
              exact hT1.eq a fun p hp => ha p (by simp [hp])
            · have := (hT1.pe p hp).2.2
              have e : b = p.2.1 := e
              omega
          obtain ⟨L, t', h', n', e9, hDR⟩ := runDrawn_ok hE hc hreg l ms (i + 1) past1 ((i, b, o) :: pend1) t1 lc1 h1 n1 k r (upd us ht) ((i, eff) :: PE) hall' hms' hT2 (fun a ha => hN1 a (Nat.le_trans hS.le ha)) hNt1
            (PE' eff _ _ n1 hS.le rfl rfl hp1 (fun p hp => (hq1 p hp).imp (fun h => by simp [h]) id) ⟨hDn, .inr (.inr (.inl ⟨b, o, by simp, hDb⟩))⟩) e8
          refine ⟨_, t', h', n', e9, hDR.cons hS.le (hkp (fun p hp => by rw [hus0] at hp; simp at hp; rw [hp]; exact ble_iff hl)) (hstep t1 lc1 ht1) hopE fun j f hj hk => ?_⟩
          rw [hmi] at hk
          exact slots j f eff hj hk rfl rfl fun a ha hb => by
            have h1 := (hcov1 j f hj).1 a ha
            have h2 := hDb a hb
            omega
        · -- all else
          rw [unames_eq] at e6
          obtain ⟨e7, hfp⟩ := apartK_inv e6
          obtain ⟨hl, h2, hh2, e8⟩ := puts_inv e7
          obtain ⟨t1, lc1, ht1, e9⟩ := putO_inv e8
          have hws : ∀ a, a ∈ us.map (·.1) ↔ ∃ p ∈ us, p.1 = a := fun a => List.mem_map
          have hpu : ∀ p ∈ pend1, ¬ ∃ q ∈ us, q.1 = p.2.1 := fun p hp ⟨q, hq, e⟩ => by
            obtain ⟨_, q2, q3⟩ := hT1.pe p hp
            rcases hS.new q hq with hr | hr
            · obtain ⟨ob, ho⟩ := hS.rd _ hr
              rw [e, q2] at ho
              cases ho
            · omega
          have hT2 : HT h2.get pend1 (upd us ht) n1 := by
            rw [hh2]
            refine ⟨fun p hp => ?_, fun a ha => ?_, hT1.nd⟩
            · obtain ⟨q1, q2, q3⟩ := hT1.pe p hp
              rw [hout _ _ (hpu p hp), hout _ _ (hpu p hp)]
              exact ⟨q1, q2, Nat.lt_of_lt_of_le q3 hS.le⟩
            · by_cases hu : ∃ p ∈ us, p.1 = a
              · exact upd_in hu
              · rw [hout _ _ hu, hout _ _ hu]
                exact hT1.eq a ha
          have hk2 := (hS.kp hN1 hl).2
          rw [← hh2] at hk2
          have hro : ∀ a, D a → a ∉ us.map (·.1) → ht a = upd us ht a := fun a _ ha => (hout ht a fun h => ha ((hws a).2 h)).symm
          have hDw : ∀ a, D a → a ∈ rs ∨ a ∈ us.map (·.1) := fun a ha => ha.imp id (hws a).2
          obtain ⟨L, t', h', n', e10, hDR⟩ := runDrawn_ok hE hc hreg l ms (i + 1) ((i, .s rs (us.map (·.1))) :: past1) pend1 t1 lc1 h2 n1 k r (upd us ht) ((i, eff) :: PE) hall' hms' hT2 hk2 hNt1
            (PE' eff _ pend1 n1 hS.le rfl rfl (fun p hp => by simp [hp1 p hp]) (fun p hp => (hq1 p hp).imp id (fun h => by simp [h])) ⟨hDn, .inr (.inl ⟨rs, us.map (·.1), by simp, hDw, hro⟩)⟩) e9
          refine ⟨_, t', h', n', e10, hDR.cons hS.le (hkp hl) (hstep t1 lc1 ht1) hopE fun j f hj hk => ?_⟩
          rw [hmi] at hk
          exact slots j f eff hj hk rfl rfl ((hcov1 j f hj).simple (n' := n1) hk hfp hT1 hDw hro hS.rd (fun a ha => by
            obtain ⟨p, hp, rfl⟩ := (hws a).1 ha
            exact hS.new p hp))
    · -- not carried out
      subst hb
      obtain ⟨t1, lc1, ht1, e3⟩ := putO_inv e2
      let eff : Eff := ⟨rtOf all oo, opT m t lc, dst, unit, fun _ => False, ht, ht⟩
      obtain ⟨L, t', h', n', e4, hDR⟩ := runDrawn_ok hE hc hreg l ms (i + 1) past pend t1 lc1 h n k r ht ((i, eff) :: PE) hall' hms' hT hN hNt
        (PE' eff past pend n (Nat.le_refl _) rfl rfl (fun _ h => h) (fun _ h => .inl h) ⟨fun _ h => h.elim, .inl fun _ h => h⟩) e3
      refine ⟨_, t', h', n', e4, hDR.cons (Nat.le_refl _) (fun _ _ => rfl) ⟨fun _ _ => rfl, fun _ h => h.elim, ht1, fun _ h => h.elim, fun _ _ => rfl⟩ (fun w0 Φ σ T h0 T' h0' a w K hst hf hs H hK => ?_) fun j f hj hk => ?_⟩
      · unfold wpOpS
        simp only [hat]
        rw [if_neg (by rw [hwant σ T a hst.rd hs]; simp), hod]
        have hh : h0' = h0 := by funext a; exact hst.out a (fun h => h)
        subst hh
        exact hK _ _ σ (Out.refl σ n n) (by rw [hst.slots]; exact hs.put hd CV_undef) H
      · rw [hmi] at hk
        exact slots j f eff hj hk rfl rfl fun _ _ h => h.elim
end
end Go.D
