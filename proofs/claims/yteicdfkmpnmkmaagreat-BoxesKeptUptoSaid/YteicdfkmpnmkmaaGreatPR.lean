/-
  Walks and laws of this seat.
-/
import Derived.Test.YteicdfkmpnmkmaaGreatPJ
import Derived.Test.YteicdfkmpnmkmaaGreatM5
namespace Go.V
set_option linter.unusedVariables false
set_option linter.unusedSimpArgs false
set_option linter.unusedSectionVars false
set_option maxRecDepth 100000
open Go.RowKit Go.Sl
mutual
theorem TC.beq_rf : ∀ (c : TC), c.sc = true → ∀ a, c.beq a a = true
  | .int _, _, a => decide_eq_true rfl
  | .bool, _, a => decide_eq_true rfl
  | .str, _, a => decide_eq_true rfl
  | .st l, hc, a => TL.beq_rf l hc a
  | .sl _, hc, _ => by cases hc
  | .nsl _, hc, _ => by cases hc
  | .tr _, hc, _ => by cases hc
  | .tn _, hc, _ => by cases hc
theorem TL.beq_rf : ∀ (l : TL), l.sc = true → ∀ a, l.beq a a = true
  | .nil, _, _ => rfl
  | .cons c l, hc, a => by
    simp only [TL.sc, Bool.and_eq_true] at hc
    show (c.beq a.1 a.1 && l.beq a.2 a.2) = true
    rw [TC.beq_rf c hc.1, TL.beq_rf l hc.2]; rfl
end
theorem zz3 {y : Bool} {s : StyT} {a : Int} (h : D6 s) (h2 : s.1 ≠ 2) : zgi y s a = zem y s a := by
  have : s.1 = 0 ∨ s.1 = 1 ∨ s.1 = 3 ∨ s.1 = 4 ∨ s.1 = 5 ∨ s.1 = 6 := by have := h.1; have := h.2; omega
  unfold zgi zem
  rcases this with e | e | e | e | e | e <;> rw [e]
  · cases y
    · by_cases c : a = 2
      · simp [c]
      · simp [c]
    · simp
  all_goals simp
theorem kd_eq {s : StyT} {a : Int} (h : D6 s) (h2 : s.1 ≠ 2) : kdP s a = kdR s a := by
  unfold kdP kdR zhw zk9 zhr
  congr 1
  by_cases c0 : a = 0
  · subst c0
    simp [zz3 h h2]
  · by_cases c2 : s.2.1 = 2
    · simp [c0, c2, zz3 h h2]
    · by_cases c3 : s.2.1 = 3
      · simp [c0, c3, zz3 h h2]
      · simp [c0, c2, c3, zz3 h h2]
def K8 (x : BoxT) : Prop := 1 ≤ x.x.1 ∧ x.x.1 ≤ 8
theorem ygc {x : BoxT} (h : K8 x) : isInn x = isLev x := by
  obtain ⟨h1, h2⟩ := h
  unfold isInn isLev isOut
  have : x.x.1 = 1 ∨ x.x.1 = 2 ∨ x.x.1 = 3 ∨ x.x.1 = 4 ∨ x.x.1 = 5 ∨ x.x.1 = 6 ∨ x.x.1 = 7 ∨ x.x.1 = 8 := by omega
  rcases this with e | e | e | e | e | e | e | e <;> rw [e] <;> rfl
theorem zs0 {p q : BoxT → Bool} {plain : Bool} {an an' : List BoxT → BoxT} (hp : ∀ x, K8 x → p x = q x) (ha : ∀ r,(∀ x ∈ r, K8 x) → an r = an' r) : ∀ {l out run : List BoxT}, (∀ x ∈ l, K8 x) → (∀ x ∈ run, K8 x) → wrapP p plain an l out run = wrapP q plain an' l out run := by
  have hE : ∀ {out run : List BoxT}, (∀ x ∈ run, K8 x) → endP plain an out run = endP plain an' out run := fun {out run} h => by
    unfold endP
    rw [ha run h]
  intro l
  induction l with
  | nil => intro out run _ h; rw [wrapP, wrapP]; exact hE h
  | cons x xs ih =>
    intro out run h1 h2
    have hx := h1 x (.head _)
    have hxs : ∀ y ∈ xs, K8 y := fun y hy => h1 y (.tail _ hy)
    rw [wrapP, wrapP, hp x hx]
    split
    · exact ih hxs fun y hy => by
        rcases List.mem_append.1 hy with hy | hy
        · exact h2 y hy
        · rw [List.mem_singleton.1 hy]; exact hx
    · rw [hE h2]
      exact ih hxs (by simp)
section
variable {s : StyT}
theorem an5_eq {run : List BoxT} (h : ∀ x ∈ run, K8 x) : an5 isInn s run = an5 isLev s run := by
  unfold an5
  split
  · rw [zs0 (fun x hx => ygc hx) (fun r _ => rfl) h (by simp)]
  · rfl
theorem an4_eq {run : List BoxT} (h : ∀ x ∈ run, K8 x) : an4 isInn s run = an4 isLev s run := by
  unfold an4
  rw [zs0 (fun x _ => rfl) (fun r hr => an5_eq hr) h (by simp)]
theorem fitL_eq {k : Int} {l : List BoxT} (h : ∀ x ∈ l, K8 x) : fitL isInn k s l = fitL isLev k s l := by
  unfold fitL
  rw [zs0 (p := fun b => decide (b.x.1 ≠ 4)) (fun x _ => rfl) (fun r hr => an4_eq hr) h (by simp), zs0 (p := fun b => decide (b.x.1 ≠ 5)) (fun x _ => rfl) (fun r hr => an5_eq hr) h (by simp), zs0 (p := isInn) (q := isLev) (fun x hx => ygc hx) (fun r _ => rfl) h (by simp)]
end
theorem yha {pI : BoxT → Bool} {kd : StyT → Int → Int} (hkd : ∀ s a,1 ≤ kd s a ∧ kd s a ≤ 6) {ns : List NodT} {ss : List StyT} {m n : Nat} {a h : Int} {b : BoxT} (hb : buildP pI kd ns ss m n a h = some b) : K8 b := by
  cases m with
  | zero => cases hb
  | succ m =>
    rw [buildP] at hb
    split at hb
    · rename_i x s0 hx hs
      split at hb
      · cases hb; exact ⟨show (1 : Int) ≤ 7 by decide, show (7 : Int) ≤ 8 by decide⟩
      · split at hb
        · cases hb
        · split at hb
          · cases hb; exact ⟨show (1 : Int) ≤ 8 by decide, show (8 : Int) ≤ 8 by decide⟩
          · cases hb
            have := hkd (styP s0 a h) a
            have h1 : 1 ≤ kinP (kd (styP s0 a h) a) h ∧ kinP (kd (styP s0 a h) a) h ≤ 6 := by unfold kinP; split <;> omega
            have h2 : ∀ l,1 ≤ fitK (kinP (kd (styP s0 a h) a) h) l ∧ fitK (kinP (kd (styP s0 a h) a) h) l ≤ 6 := fun l => by unfold fitK; split <;> omega
            exact ⟨(h2 _).1, by have := (h2 ((kidsN ns n 0).filterMap fun c => buildP pI kd ns ss m c (kinP (kd (styP s0 a h) a) h) (heaP (kinP (kd (styP s0 a h) a) h) (styP s0 a h).2.1 h))).2; exact Int.le_trans this (by decide)⟩
    · cases hb
theorem yb8 {ns : List NodT} {ss : List StyT} (hd : ∀ s ∈ ss, D6 s) : ∀ {m n : Nat} {a h : Int}, buildP isInn kdP ns ss m n a h = buildP isLev kdR ns ss m n a h
  | 0, _, _, _ => rfl
  | m + 1, n, a, h => by
    rw [buildP, buildP]
    split
    · rename_i x s0 hx hs
      have hs6 := hd s0 (List.mem_of_getElem? hs)
      by_cases c1 : x.1 = 2
      · rw [if_pos c1, if_pos c1]
      rw [if_neg c1, if_neg c1]
      by_cases c2 : s0.1 = 2
      · rw [if_pos c2, if_pos c2]
      rw [if_neg c2, if_neg c2]
      by_cases c3 : x.2.1 = bs [98,114]
      · rw [if_pos c3, if_pos c3]
      rw [if_neg c3, if_neg c3]
      have hk : kdP (styP s0 a h) a = kdR (styP s0 a h) a := kd_eq (s := styP s0 a h) hs6 c2
      simp only [hk]
      have hf : ∀ k h', (fun c => buildP isInn kdP ns ss m c k h') = fun c => buildP isLev kdR ns ss m c k h' := fun k h' => funext fun c => yb8 hd
      rw [hf, fitL_eq]
      intro y hy
      obtain ⟨c, _, hc⟩ := List.mem_filterMap.1 hy
      exact yha (fun s a => yas.2) hc
    · rfl
theorem same_TE : ∀ (m : Nat) (b : BoxT), szT b ≤ m → szT b ≤ 100000 → T (fun k _ => zc7 k b b) (· = true) := by
  intro m
  induction m with
  | zero => intro b h; have := yf6 (b := b); omega
  | succ m ih =>
    intro b h h2
    refine T.stepK ?_
    unfold zc7
    refine T.diag (F := fun k n => zj8 k (fun a0 a1 => zc7 k a0 a1) n b b) ?_
    unfold zj8
    have hl := yf7 (l := b.kids)
    have hs : szT b = 1 + szL b.kids := by cases b; rw [zs2]; rfl
    have key : ∀ (m2 i : Nat), b.kids.length - i ≤ m2 → i ≤ b.kids.length → T (fun k n => zf8 k (fun a0 a1 => zc7 k a0 a1) n b b (i : Int)) (· = true) := by
      intro m2
      induction m2 with
      | zero =>
        intro i e1 e2
        refine T.step ?_
        unfold zf8
        exact T.dec (fun _ => by omega) fun _ => T.some rfl
      | succ m2 ih2 =>
        intro i e1 e2
        refine T.step ?_
        unfold zf8
        rw [show w64 ((i : Int) + 1) = ((i + 1 : Nat) : Int) by rw [w64i (by omega)]; omega]
        simp only [Tr.eta]
        refine T.dec (fun hi => T.get (by omega) hi fun x hx => T.get (by omega) hi fun y hy => ?_) fun _ => T.some rfl
        rw [hx] at hy; cases hy
        have hx : b.kids[i]? = some x := by simpa using hx
        have hsz := szL_at hx
        exact T.bindE (ih x (by omega) (by omega)) (T.bif (fun h => by cases h) fun _ => ih2 (i + 1) (by omega) (by omega))
    have hbeq : cStyT.beq b.x.2.2.2.1 b.x.2.2.2.1 = true := TC.beq_rf _ rfl _
    refine T.dec (fun h => absurd rfl h) fun _ => T.dec (fun h => absurd rfl h) fun _ => T.dec (fun h => absurd rfl h) fun _ => T.bif (fun h => by rw [hbeq] at h; cases h) fun _ => T.dec (fun h => absurd rfl h) fun _ => T.dec (fun h => absurd rfl h) fun _ => ?_
    simp only [Tr.eta]
    exact key _ 0 (Nat.le_refl _) (Nat.zero_le _)
end Go.V
