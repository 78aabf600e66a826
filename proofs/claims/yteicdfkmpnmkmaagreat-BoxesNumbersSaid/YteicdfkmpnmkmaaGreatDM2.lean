/-
  Walks and laws of this seat; the base is the text Base.
-/
import Derived.Test.YteicdfkmpnmkmaaGreatDM
namespace Go.D
open Go.RowKit Go.Sl
theorem kept_tb (m j : Nat) : kept m j = m.testBit j := by
  have h : kept m j = Nat.beq ((m >>> j) % 2) 1 := rfl
  rw [h, Nat.testBit_eq_decide_div_mod_eq, Nat.shiftRight_eq_div_pow]
  by_cases q : m / 2 ^ j % 2 = 1
  · simp [q]
  · have : Nat.beq (m / 2 ^ j % 2) 1 = false := by
      cases e : Nat.beq (m / 2 ^ j % 2) 1 with
      | false => rfl
      | true => exact absurd (Nat.eq_of_beq_eq_true e) q
    simp [q, this]

def edgesM (ms : List (Nat × Bool)) : List Edge → Nat
  | [] => 0
  | e :: l => bif Region.binds .any e then (2 ^ e.on ||| mkOf ms e.on) ||| edgesM ms l else edgesM ms l
theorem edgesM_ok {ms : List (Nat × Bool)} {j : Nat} : ∀ {l : List Edge}, (edgesM ms l).testBit j = true → ∃ e ∈ l, Region.binds .any e = true ∧ (e.on = j ∨ kept (mkOf ms e.on) j = true)
  | [], h => by simp [edgesM] at h
  | e :: l, h => by
    simp only [edgesM] at h
    cases hb : Region.binds .any e with
    | false =>
      rw [hb] at h
      obtain ⟨e', h1, h2⟩ := edgesM_ok (l := l) h
      exact ⟨e', by simp [h1], h2⟩
    | true =>
      rw [hb] at h
      simp only [cond_true, Nat.testBit_or, Bool.or_eq_true, Nat.testBit_two_pow] at h
      rcases h with (h | h) | h
      · exact ⟨e, by simp, hb, .inl (by simpa using h)⟩
      · exact ⟨e, by simp, hb, .inr (by rw [kept_tb]; exact h)⟩
      · obtain ⟨e', h1, h2⟩ := edgesM_ok (l := l) h
        exact ⟨e', by simp [h1], h2⟩

def mem1 (x : Nat) : List Nat → Bool
  | [] => false
  | y :: l => bif Nat.beq y x then true else mem1 x l
theorem mem1_false {x : Nat} : ∀ {l : List Nat}, mem1 x l = false → ∀ d ∈ l, d ≠ x
  | [], _, d, h => by simp at h
  | y :: l, h, d, hd => by
    simp only [mem1] at h
    cases q : Nat.beq y x with
    | true => rw [q] at h; cases h
    | false =>
      rw [q] at h
      simp only [List.mem_cons] at hd
      rcases hd with rfl | hd
      · exact fun e => by subst e; simp at q
      · exact mem1_false h d hd
def noD (d : Option Nat) (l : List Nat) : Bool := match d with
  | none => true
  | some x => !mem1 x l
theorem noD_ok {d : Option Nat} {l : List Nat} (h : noD d l = true) : ∀ x ∈ l, d ≠ some x := fun x hx e => by
  subst e
  exact mem1_false (x := x) (l := l) (by simpa [noD] using h) x hx rfl
/-- What came before: its index, its destination, what it takes. -/
abbrev Bf := List (Nat × Option Nat × List Nat)
def pairB (mk : Nat) (d : Option Nat) (rt : List Nat) : Bf → Bool
  | [] => true
  | (j, dj, rj) :: l => (kept mk j || (noD dj rt && (noD d rj && (match d with | none => true | some x => noD dj [x])))) && pairB mk d rt l
def regB (N : Nat) (all : List Oper) (msA : List (Nat × Bool)) : List Oper → List (Nat × Bool) → Nat → Bf → Bool
  | [], _, _, _ => true
  | o :: l, m :: ms, i, bf => (match o.dst with | none => true | some d => Nat.blt d N) && (o.after.toList.all (fun e => !(Region.binds .any e) || Nat.blt e.on i) && (Nat.beq m.1 (edgesM msA o.after.toList) && (pairB m.1 o.dst (rtOf all o) bf && regB N all msA l ms (i + 1) ((i, o.dst, rtOf all o) :: bf))))
  | _ :: _, [], _, _ => false
theorem pairB_ok {mk : Nat} {d : Option Nat} {rt : List Nat} : ∀ {bf : Bf}, pairB mk d rt bf = true → ∀ p ∈ bf, kept mk p.1 = false → (∀ x ∈ rt, p.2.1 ≠ some x) ∧ (∀ x ∈ p.2.2, d ≠ some x) ∧ ∀ x, p.2.1 = some x → d ≠ some x
  | [], _, p, hp => by simp at hp
  | (j, dj, rj) :: l, h, p, hp => fun hk => by
    simp only [pairB, Bool.and_eq_true, Bool.or_eq_true] at h
    simp only [List.mem_cons] at hp
    rcases hp with rfl | hp
    · rcases h.1 with h1 | ⟨h1, h2, h3⟩
      · rw [hk] at h1; cases h1
      · refine ⟨noD_ok h1, noD_ok h2, fun x hx e => ?_⟩
        subst e
        exact noD_ok h3 x (by simp) hx
    · exact pairB_ok h.2 p hp hk
structure RegP (N : Nat) (all : List Oper) (ms : List (Nat × Bool)) (i : Nat) (o : Oper) : Prop where
  dst : ∀ d, o.dst = some d → d < N
  edge : ∀ e ∈ o.after, Region.binds .any e = true → e.on < i
  mask : mkOf ms i = edgesM ms o.after.toList
  slots : ∀ j oj, all[j]? = some oj → j < i → kept (mkOf ms i) j = false → (∀ d ∈ rtOf all o, oj.dst ≠ some d) ∧ (∀ d ∈ rtOf all oj, o.dst ≠ some d) ∧ ∀ d, oj.dst = some d → o.dst ≠ some d
theorem regB_ok {N : Nat} {all : List Oper} {msA : List (Nat × Bool)} : ∀ (l : List Oper) (ms : List (Nat × Bool)) (i : Nat) (bf : Bf), (∀ q, all[i + q]? = l[q]?) → (∀ q, msA[i + q]? = ms[q]?) → (∀ j oj, all[j]? = some oj → j < i → (j, oj.dst, rtOf all oj) ∈ bf) → regB N all msA l ms i bf = true → ∀ q o, l[q]? = some o → RegP N all msA (i + q) o
  | [], _, _, _, _, _, _, _, q, o, hq => by simp at hq
  | _ :: _, [], _, _, _, _, _, h, _, _, _ => by cases h
  | o :: l, m :: ms, i, bf, ha, hm, hb, h, q, o', hq => by
    simp only [regB, Bool.and_eq_true] at h
    obtain ⟨h1, h2, h3, h4, h5⟩ := h
    have hmk : mkOf msA i = m.1 := by
      have := hm 0
      simp only [Nat.add_zero, List.getElem?_cons_zero] at this
      simp [mkOf, this]
    have hoi : all[i]? = some o := by simpa using ha 0
    cases q with
    | zero =>
      simp only [List.getElem?_cons_zero, Option.some.injEq] at hq
      subst hq
      refine ⟨fun d hd => ?_, fun e he hbe => ?_, ?_, fun j oj hj hji hk => ?_⟩
      · rw [hd] at h1; exact Nat.blt_eq.mp h1
      · have := List.all_eq_true.mp h2 e (by simpa using he)
        simp only [hbe, Bool.not_true, Bool.false_or] at this
        exact Nat.blt_eq.mp this
      · exact hmk.trans (Nat.eq_of_beq_eq_true h3)
      · rw [Nat.add_zero, hmk] at hk
        exact pairB_ok h4 _ (hb j oj hj hji) hk
    | succ q =>
      have := regB_ok l ms (i + 1) _ (fun q => by have := ha (q + 1); simpa [Nat.add_assoc, Nat.add_comm 1 q] using this) (fun q => by have := hm (q + 1); simpa [Nat.add_assoc, Nat.add_comm 1 q] using this)
        (fun j oj hj hji => by
          by_cases e : j = i
          · subst e
            rw [hoi] at hj; cases hj
            simp
          · exact List.mem_cons_of_mem _ (hb j oj hj (by omega))) h5 q o' (by simpa using hq)
      rw [Nat.add_assoc, Nat.add_comm 1 q] at this
      exact this
theorem RegOk_of {N : Nat} {all : List Oper} {ms : List (Nat × Bool)} (h : regB N all ms all ms 0 [] = true) : RegOk N all ms :=
  have H := regB_ok all ms 0 [] (fun q => by simp) (fun q => by simp) (fun _ _ _ h => by omega) h
  ⟨fun o ho d hd => by
    obtain ⟨i, hi⟩ := List.getElem?_of_mem ho
    exact (H i o hi).dst d hd,
  fun i o ho => by have := (H i o ho).edge; simpa using this,
  fun i o j ho hk => by
    have := (H i o ho).mask
    simp only [Nat.zero_add] at this
    obtain ⟨e, he, h⟩ := edgesM_ok (ms := ms) (j := j) (l := o.after.toList) (by rw [← this, ← kept_tb]; exact hk)
    exact ⟨e, by simpa using he, h⟩,
  fun i j oi oj hi hj hji hk => by have := (H i oi hi).slots j oj hj; simp only [Nat.zero_add] at this; exact this hji hk⟩

def dstsB (N : Nat) (l : List Oper) : Bool := l.all fun o => match o.dst with | none => true | some d => Nat.blt d N
noncomputable def codeB (N : Nat) (fi : FI) : Code → Bool
  | .region id ops d => dstsB N ops.toList && (!d || match fi.dm.get id with | none => true | some ms => regB N ops.toList ms ops.toList ms 0 [])
  | .seq a b => codeB N fi a && codeB N fi b
  | .cond _ a b => codeB N fi a && codeB N fi b
  | .block _ a => codeB N fi a
  | .loop a => codeB N fi a
  | .scope a => codeB N fi a
  | _ => true
theorem codeB_ok {N : Nat} {fi : FI} : ∀ (c : Code), codeB N fi c = true → CodeOk N fi c := fun c => by
  induction c with
  | region id ops d =>
    intro h
    simp only [codeB, Bool.and_eq_true, Bool.or_eq_true] at h
    refine ⟨fun o ho t ht => ?_, fun hd ms hms => ?_⟩
    · have := List.all_eq_true.mp h.1 o ho
      simp only [ht] at this
      exact Nat.blt_eq.mp this
    · rcases h.2 with h2 | h2
      · rw [hd] at h2; cases h2
      · rw [hms] at h2; exact RegOk_of h2
  | seq a b iha ihb => exact fun h => by simp only [codeB, Bool.and_eq_true] at h; exact ⟨iha h.1, ihb h.2⟩
  | cond x a b iha ihb => exact fun h => by simp only [codeB, Bool.and_eq_true] at h; exact ⟨iha h.1, ihb h.2⟩
  | block l a ih => exact fun h => ih h
  | loop a ih => exact fun h => ih h
  | scope a ih => exact fun h => ih h
  | _ => exact fun _ => trivial

def resB (m : Nat) : List ResultVar → Bool
  | [] => true
  | .tmp y :: l => kept m y && resB m l
  | .cell y _ :: l => kept m y && resB m l
theorem resB_ok {m : Nat} : ∀ {l : List ResultVar}, resB m l = true → ∀ x ∈ l, ∀ y, (x = .tmp y ∨ ∃ ty, x = .cell y ty) → kept m y = true
  | [], _, x, hx => by simp at hx
  | .tmp z :: l, h, x, hx => fun y hy => by
    simp only [resB, Bool.and_eq_true] at h
    simp only [List.mem_cons] at hx
    rcases hx with rfl | hx
    · rcases hy with hy | ⟨_, hy⟩ <;> cases hy
      exact h.1
    · exact resB_ok h.2 x hx y hy
  | .cell z t :: l, h, x, hx => fun y hy => by
    simp only [resB, Bool.and_eq_true] at h
    simp only [List.mem_cons] at hx
    rcases hx with rfl | hx
    · rcases hy with hy | ⟨_, hy⟩ <;> cases hy
      exact h.1
    · exact resB_ok h.2 x hx y hy
noncomputable def fiB (fi : FI) : Bool := !(fi.fn.name == "runtime.NumGoroutine") && (resB fi.mask fi.fn.results.toList && match fi.fn.body with | none => true | some c => codeB fi.fn.ntmps fi c)
theorem env_ok {P : Program} {E : Env} (hM : ∀ f ss c, (f, ss, c) ∈ E.mm → Still P f ss c) (ht : (E.tt.toL id).all (tiB P) = true) (hf : (E.ft.toL id).map (fun p => some p.2.fn) = (E.ft.toL id).map (fun p => P.funcs[p.1]?)) (hc : (E.ft.toL id).all (fun p => fiB p.2) = true) (hm : P.follows .mixedOrders = true) : EnvOk P E :=
  ⟨hM, fun t ti h => tiB_ok (List.all_eq_true.mp ht _ (E.tt.mem_toL id t ti h)),
  fun f fi h => by
    have hmem := E.ft.mem_toL id f fi h
    have h1 := (List.map_inj_left.mp hf _ hmem).symm
    have h2 := List.all_eq_true.mp hc _ hmem
    simp only [fiB, Bool.and_eq_true] at h2
    obtain ⟨h3, h4, h5⟩ := h2
    refine ⟨h1, by simpa using h3, fun c hb => ?_, resB_ok h4⟩
    rw [hb] at h5
    exact codeB_ok c h5, hm⟩
end Go.D
