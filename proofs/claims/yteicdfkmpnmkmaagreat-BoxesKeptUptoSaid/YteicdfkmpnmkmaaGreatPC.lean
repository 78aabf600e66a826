/-
  Walks and laws of this seat.
-/
import Derived.Test.YteicdfkmpnmkmaaGreatPB
namespace Go.V
set_option linter.unusedVariables false
set_option linter.unusedSimpArgs false
set_option linter.unusedSectionVars false
set_option maxRecDepth 100000
open Go.RowKit Go.Sl
theorem yhh {r : Nat} : zc5 (r : Int) = some (blR r) := by
  unfold zc5 blR
  have e : ∀ m : Nat, decide ((r : Int) = (m : Int)) = decide (r = m) := fun m => by
    by_cases h : r = m
    · simp [h]
    · rw [decide_eq_false h, decide_eq_false (by omega)]
  rw [show (9 : Int) = ((9 : Nat) : Int) from rfl, show (10 : Int) = ((10 : Nat) : Int) from rfl, show (12 : Int) = ((12 : Nat) : Int) from rfl, show (32 : Int) = ((32 : Nat) : Int) from rfl, e, e, e, e]
  cases decide (r = 9) <;> cases decide (r = 10) <;> cases decide (r = 12) <;> rfl
theorem ztt {b : BoxT} : ziq b = some (isOut b) := by
  unfold ziq isOut
  cases decide (b.x.1 = 1) <;> cases decide (b.x.1 = 2) <;> rfl
theorem zxq {b : BoxT} : zl1 b = some (isLev b) := by
  unfold zl1 isLev
  cases decide (b.x.1 = 6) <;> cases decide (b.x.1 = 7) <;> rfl
theorem ybj {b : BoxT} : zd4 b 1 false = some (isLev b) := by
  unfold zd4
  rw [Tr.eta, zxq]
  cases isLev b <;> rfl
theorem ybi {b : BoxT} : zd4 b 1 true = some (isTxt b) := by
  unfold zd4
  rw [Tr.eta, zxq]
  unfold isLev isTxt
  by_cases h6 : b.x.1 = 6
  · simp [h6]
  · simp [h6]
    cases decide (b.x.1 = 7) <;> cases decide (b.x.1 = 8) <;> rfl
theorem zv8 {b : BoxT} {g : Int} (hg : g ≠ 1) : zd4 b g false = some (decide (b.x.1 ≠ g)) := by
  unfold zd4
  rw [decide_eq_false hg]; rfl
theorem yen {l : List BoxT} (hl : (l.length : Int) ≤ 1000000000) {p : Bool} : T (fun k _ => zrd k l p) (· = l.all (blkB p)) := by
  have k2 : ∀ (m : Nat) (i : Nat), l.length - i ≤ m → i ≤ l.length → T (fun _ n => zeo n l p i) (· = (l.drop i).all (blkB p)) := by
    intro m
    induction m with
    | zero =>
      intro i h h1
      refine T.step ?_
      unfold zeo
      exact T.dec (fun _ => by omega) fun _ => T.some (by rw [List.drop_eq_nil_of_le (by omega)]; rfl)
    | succ m ih =>
      intro i h h1
      refine T.step ?_
      unfold zeo
      refine T.dec (fun hi => ?_) fun _ => T.some (by rw [List.drop_eq_nil_of_le (by omega)]; rfl)
      have hlt : i < l.length := by omega
      rw [List.drop_eq_getElem_cons hlt, List.all_cons]
      have k7 : ∀ (s : ByteArray) (m2 : Nat) (e : Nat), s.size - e < m2 → T (fun _ n => zen n l p i (s, e)) (· = (blAt m2 s e && (l.drop (i + 1)).all (blkB p))) := by
        intro s m2
        have up : T (fun _ n => zeo n l p (w64 ((i : Int) + 1))) (· = (l.drop (i + 1)).all (blkB p)) := by
          rw [w64i (by omega)]
          exact ih (i + 1) (by omega) (by omega)
        induction m2 with
        | zero => intro e h2; omega
        | succ m2 ih2 =>
          intro e h2
          have hd := zji s e
          refine T.step ?_
          unfold zen
          rw [blAt]
          refine T.dec (fun h5 => ?_) fun h5 => ?_
          · simp only at h5
            rw [if_pos h5]
            refine T.bindE (T.ofE yhh) ?_
            cases hb : blR (Utf8.decode s e).1 with
            | false => exact T.some rfl
            | true => exact T.mono (ih2 _ (by simp only; omega)) fun r h => by rw [h]; rfl
          · simp only at h5
            rw [if_neg h5]
            exact up.mono fun r h => by rw [h]; rfl
      have geq : ∀ r, l[(i : Int).toNat]? = some r → l[i] = r := fun r hr => by
        rw [Int.toNat_natCast, List.getElem?_eq_getElem hlt] at hr
        exact Option.some.inj hr
      refine T.get (by omega) hi fun r hr => T.dec (fun h7 => T.some ?_) fun h7 => ?_
      · rw [geq r hr]; simp [blkB, h7]
      have h7 := Classical.byContradiction h7
      have fin : ∀ (b : Bool),(p && preB l[i]) = b → b = false → T (fun k n => zen n l p i (r.x.2.2.2.2.1,0)) (· = (blkB p l[i] && (l.drop (i + 1)).all (blkB p))) := fun b hb hf => by
        refine (k7 _ _ 0 (Nat.lt_succ_self _)).mono fun r' h => ?_
        rw [h, geq r hr]
        unfold blkB blankS
        rw [geq r hr] at hb
        rw [hb, hf, h7]; rfl
      refine T.bif (fun hp => T.get (by omega) hi fun r2 hr2 => T.bif (fun hpre => T.some ?_) fun hpre => T.get (by omega) hi fun r3 hr3 => ?_) fun hp => T.get (by omega) hi fun r3 hr3 => ?_
      · rw [geq r2 hr2]
        unfold blkB
        rw [hp, show preB r2 = true from hpre]; simp
      · have e := (geq r3 hr3).symm.trans (geq r hr)
        subst e
        refine fin _ rfl ?_
        rw [geq r2 hr2, show preB r2 = false from hpre, Bool.and_false]
      · have e := (geq r3 hr3).symm.trans (geq r hr)
        subst e
        exact fin _ rfl (by rw [hp, Bool.false_and])
  exact T.diag (F := fun _ n => zng n l p) (by have := k2 _ 0 (Nat.le_refl _) (by omega); rw [List.drop_zero] at this; exact this)
theorem endP_nil {plain : Bool} {an : List BoxT → BoxT} {out : List BoxT} : endP plain an out [] = out := rfl
theorem zzy {l : List BoxT} (hl : (l.length : Int) ≤ 1000000) {s : StyT} {g : Int} {f : Bool} {p : BoxT → Bool} {an : List BoxT → BoxT} (hp : ∀ b, zd4 b g f = some (p b)) (hA : ∀ run : List BoxT, run.length ≤ l.length → (∀ x ∈ run, p x = true) → T (fun k _ => zag k g s run) (· = an run)) :
    T (fun k _ => zax k l s g f) (· = wrapP p (decide (g = 1)) an l [] []) := by
  refine T.stepK ?_
  unfold zax
  refine T.diag (F := fun k n => zlv k (zag k) (zaj k) (zax k) n l s g f) ?_
  unfold zlv
  have key : ∀ (m : Nat) (v w : List BoxT) (i : Nat), l.length + 1 - i ≤ m → i ≤ l.length + 1 → v.length + w.length ≤ i → v.length + w.length ≤ l.length → (∀ x ∈ w, p x = true) → T (fun k n => zcw k (zag k) (zaj k) (zax k) n l g f s v w (i : Int)) (· = if i ≤ l.length then wrapP p (decide (g = 1)) an (l.drop i) v w else v) := by
    intro m
    induction m with
    | zero =>
      intro v w i h h1 h2 h3 hw
      refine T.step ?_
      unfold zcw
      exact T.dec (fun _ => by omega) fun _ => T.some (by rw [if_neg (by omega)])
    | succ m ih =>
      intro v w i h h1 h2 h3 hw
      refine T.step ?_
      unfold zcw
      refine T.dec (fun hi => ?_) fun _ => T.some (by rw [if_neg (by omega)])
      rw [if_pos (by omega)]
      have ew : w64 ((i : Int) + 1) = ((i + 1 : Nat) : Int) := by rw [w64i (by omega)]; omega
      have k1 : ∀ (y : List BoxT), y.length ≤ i → y.length ≤ l.length → T (fun k n => zfo k (zag k) (zaj k) (zax k) (zcw k (zag k) (zaj k) (zax k) n) y (i : Int) l g f s) (· = match l[i]? with | some x => wrapP p (decide (g = 1)) an (l.drop (i + 1)) (y ++ [x]) [] | none => y) := fun y hy hy2 => by
        unfold zfo
        rw [ew]
        refine T.dec (fun hlt => T.get (by omega) hlt fun r9 h9 => T.app (by simp; omega) (by simp; omega) ?_) fun hlt => ?_
        · have h9 : l[i]? = some r9 := by simpa using h9
          refine (ih _ _ _ (by omega) (by omega) (by simp; omega) (by simp; omega) (by simp)).mono fun r h => ?_
          rw [h, h9, if_pos (by omega), Tr.eta]
        · refine (ih _ _ _ (by omega) (by omega) (by simp; omega) (by simp; omega) (by simp)).mono fun r h => ?_
          rw [h, if_neg (by omega), List.getElem?_eq_none (by omega)]
      have k0 : T (fun k n => zi7 k (zag k) (zaj k) (zax k) (zcw k (zag k) (zaj k) (zax k) n) w g s v (i : Int) l f) (· = match l[i]? with | some x => wrapP p (decide (g = 1)) an (l.drop (i + 1)) (endP (decide (g = 1)) an v w ++ [x]) [] | none => endP (decide (g = 1)) an v w) := by
        unfold zi7
        refine T.dec (fun hw0 => T.bindE (yen (by omega)) ?_) fun hw0 => ?_
        · unfold endP
          cases hb : w.all (blkB (decide (g = 1))) with
          | true => exact k1 v (by omega) (by omega)
          | false =>
            refine T.bindE (hA w (by omega) hw) (T.app (by simp; omega) (by simp; omega) ?_)
            rw [Tr.eta]
            exact k1 _ (by simp; omega) (by simp; omega)
        · have : w = [] := List.eq_nil_of_length_eq_zero (by omega)
          subst this
          rw [endP_nil]
          exact k1 v (by omega) (by omega)
      refine T.dec (fun hlt => T.get (by omega) hlt fun r1 h1' => ?_) fun hlt => ?_
      · have h1' : l[i]? = some r1 := by simpa using h1'
        have hlt' : i < l.length := by omega
        have e1 : l[i] = r1 := by rw [List.getElem?_eq_getElem hlt'] at h1'; exact Option.some.inj h1'
        rw [List.drop_eq_getElem_cons hlt', e1]
        rw [h1'] at k0
        rw [Tr.eta]
        refine T.bindE (T.ofE (hp r1)) ?_
        rw [wrapP]
        cases hpr : p r1 with
        | false => exact k0
        | true =>
          refine T.get (by omega) hlt fun r3 h3' => T.app (by simp; omega) (by simp; omega) ?_
          have h3' : l[i]? = some r3 := by simpa using h3'
          rw [h1'] at h3'; cases h3'
          rw [ew, Tr.eta]
          refine (ih _ _ _ (by omega) (by omega) (by simp; omega) (by simp; omega) fun x hx => ?_).mono fun r h => ?_
          · rcases List.mem_append.1 hx with hx | hx
            · exact hw x hx
            · rw [List.mem_singleton.1 hx]; exact hpr
          · rw [h, if_pos (by omega)]; rfl
      · rw [List.getElem?_eq_none (by omega)] at k0
        rw [List.drop_eq_nil_of_le (by omega), wrapP]
        exact k0
  simpa using key _ [] [] 0 (Nat.le_refl _) (by omega) (by simp) (by simp) (by simp)
theorem zv9 {l : List BoxT} (hl : (l.length : Int) ≤ 1000000) {s : StyT} {g : Int} {p : BoxT → Bool} {an : List BoxT → BoxT} (hp : ∀ b, zd4 b g false = some (p b)) (hA : ∀ run : List BoxT, run.length ≤ l.length → (∀ x ∈ run, p x = true) → T (fun k _ => zag k g s run) (· = an run)) :
    T (fun k _ => zaj k l s g) (· = wrapP p (decide (g = 1)) an l [] []) := by
  refine T.stepK ?_
  unfold zaj
  unfold zol
  exact T.bindE (zzy hl hp hA) (T.some rfl)
theorem zxw {l : List BoxT} (hl : (l.length : Int) ≤ 1000000) {g : Int} {st : StyT} {r : List BoxT} (h5 : g = 5 → T (fun k _ => zaj k l st 1) (· = r)) : ∀ (m i : Nat) (a d : BoxT), l.length - i ≤ m → i ≤ l.length → T (fun k n => zbo k (zag k) (zaj k) (zax k) n g l a st d (i : Int)) (· = if g = 5 ∧ (l.drop i).any isOut = true then .mk d.x r else d) := by
  intro m
  induction m with
  | zero =>
    intro i a d h h1
    refine T.step ?_
    unfold zbo
    refine T.dec (fun _ => by omega) fun _ => T.some ?_
    rw [List.drop_eq_nil_of_le (by omega), if_neg (by simp), Tr.eta]
  | succ m ih =>
    intro i a d h h1
    refine T.step ?_
    unfold zbo
    rw [show w64 ((i : Int) + 1) = ((i + 1 : Nat) : Int) by rw [w64i (by omega)]; omega]
    refine T.dec (fun hi => T.dec (fun e5 => T.get (by omega) hi fun x hx => ?_) fun e5 => T.some (by rw [if_neg (fun h => e5 h.1), Tr.eta])) fun hi => T.some (by rw [List.drop_eq_nil_of_le (by omega), if_neg (by simp), Tr.eta])
    have hlt : i < l.length := by omega
    have hx : l[i] = x := by
      rw [Int.toNat_natCast, List.getElem?_eq_getElem hlt] at hx
      exact Option.some.inj hx
    rw [Tr.eta]
    refine T.bindE (T.ofE ztt) ?_
    rw [List.drop_eq_getElem_cons hlt, List.any_cons, hx]
    cases ho : isOut x with
    | true =>
      refine T.bindE (h5 e5) (T.some ?_)
      rw [if_pos ⟨e5, by simp⟩]
    | false =>
      refine T.mono (ih (i + 1) (Tr.mk a.x a.kids) (Tr.mk d.x d.kids) (by omega) (by omega)) fun r' h => ?_
      rw [h, Tr.eta, Bool.false_or]
theorem zrt {l : List BoxT} (hl : (l.length : Int) ≤ 1000000) {s : StyT} {g d : Int} {kids : List BoxT} (hg : (g = 1 ∧ d = 1) ∨ (g = 4 ∧ d = 5) ∨ (g = 5 ∧ d = 6)) (h4 : g = 4 → T (fun k _ => zaj k l (zc2 (firstP s) 5) 5) (· = kids)) (h5 : g = 5 → l.any isOut = true → T (fun k _ => zaj k l (zc2 (firstP s) 6) 1) (· = kids)) (h0 : g = 1 ∨ (g = 5 ∧ l.any isOut = false) → kids = l) :
    T (fun k _ => zag k g s l) (· = .mk (g, -1,0, zc2 (firstP s) d, bs [],()) kids) := by
  refine T.stepK ?_
  unfold zag
  refine T.diag (F := fun k n => zj0 k (zag k) (zaj k) (zax k) n g s l) ?_
  unfold zj0
  refine T.bindE (T.ofE first_eq) ?_
  have hb : 0 ≤ g ∧ g < 6 := by omega
  have hd : ∀ r,([0,1,0,0,5,6] : List Int)[g.toNat]? = some r → r = d := fun r hr => by
    rcases hg with ⟨rfl, rfl⟩ | ⟨rfl, rfl⟩ | ⟨rfl, rfl⟩ <;> simpa using hr.symm
  have k0 : ∀ (y : List BoxT), y = (if g = 4 then kids else l) → T (fun k n => zi8 k (zag k) (zaj k) (zax k) (zbo k (zag k) (zaj k) (zax k) n) y g l (firstP s) d) (· = .mk (g, -1,0, zc2 (firstP s) d, bs [],()) kids) := fun y hy => by
    unfold zi8
    by_cases ho : g = 5 ∧ l.any isOut = true
    · obtain ⟨e5, ho⟩ := ho
      have e6 : d = 6 := by omega
      subst e6
      refine (zxw hl (st := zc2 (firstP s) 6) (fun _ => h5 e5 ho) _ 0 _ _ (Nat.le_refl _) (by omega)).mono fun r h => ?_
      rw [h, List.drop_zero, if_pos ⟨e5, ho⟩]; rfl
    · have e : y = kids := by
        rw [hy]
        split
        · rfl
        · refine (h0 ?_).symm
          rename_i h4n
          rcases hg with ⟨h, _⟩ | ⟨h, _⟩ | ⟨h, _⟩
          · exact .inl h
          · exact absurd h h4n
          · refine .inr ⟨h, ?_⟩
            cases hany : l.any isOut with
            | false => rfl
            | true => exact absurd ⟨h, hany⟩ ho
      by_cases e5 : g = 5
      · have hno : l.any isOut = false := by
          cases h : l.any isOut with
          | false => rfl
          | true => exact absurd ⟨e5, h⟩ ho
        -- there is none: the loop's call is never made
        have key : ∀ (m i : Nat) (a b : BoxT), l.length - i ≤ m → i ≤ l.length → T (fun k n => zbo k (zag k) (zaj k) (zax k) n g l a (zc2 (firstP s) d) b (i : Int)) (· = b) := by
          intro m
          induction m with
          | zero =>
            intro i a b h h1
            refine T.step ?_
            unfold zbo
            exact T.dec (fun _ => by omega) fun _ => T.some (Tr.eta b)
          | succ m ih =>
            intro i a b h h1
            refine T.step ?_
            unfold zbo
            rw [show w64 ((i : Int) + 1) = ((i + 1 : Nat) : Int) by rw [w64i (by omega)]; omega]
            refine T.dec (fun hi => T.dec (fun e5 => T.get (by omega) hi fun x hx => ?_) fun e5 => T.some (Tr.eta b)) fun hi => T.some (Tr.eta b)
            rw [Tr.eta]
            refine T.bindE (T.ofE ztt) ?_
            have hx2 : isOut x = false := by
              rw [List.any_eq_false] at hno
              simpa using hno x (List.mem_of_getElem? hx)
            rw [hx2]
            exact T.mono (ih (i + 1) (Tr.mk a.x a.kids) (Tr.mk b.x b.kids) (by omega) (by omega)) fun r h => by rw [h, Tr.eta]
        have := key _ 0 (Tr.mk (0,0,0,(0,0,0,0,(0,0,()),(0,0,()),((0,0,()),(0,0,()),(0,0,()),(0,0,()),()),((0,0,()),(0,0,()),(0,0,()),(0,0,()),()),((0,0,()),(0,0,()),(0,0,()),(0,0,()),()),(0,0,0,0,()),0,0,0,0,0, false, false, false, false,0,0,0,0,0,0, false,()),(bs []),()) ([])) (.mk (g, -1,0, zc2 (firstP s) d, bs [],()) y) (Nat.le_refl _) (by omega)
        rw [e] at this ⊢
        exact this
      · refine (zxw hl (st := zc2 (firstP s) d) (r := []) (fun h => absurd h e5) _ 0 _ _ (Nat.le_refl _) (by omega)).mono fun r h => ?_
        rw [h, if_neg (fun h => e5 h.1), e]
  refine T.get hb.1 (by simp; omega) fun r2 _ => T.get hb.1 (by simp; omega) fun r3 h3 => ?_
  obtain rfl := hd r3 h3
  refine T.dec (fun e4 => T.bindE (T.ex (a := kids) ?_ rfl) ?_) fun e4 => k0 l (by rw [if_neg e4])
  · have e5 : r3 = 5 := by omega
    subst e5
    exact h4 e4
  · exact k0 kids (by rw [if_pos e4])
section
variable {l : List BoxT} (hl : (l.length : Int) ≤ 1000000) {s : StyT}
include hl
theorem zxx : T (fun k _ => zag k 1 s l) (· = an1 s l) := zrt hl (.inl ⟨rfl, rfl⟩) (fun h => by omega) (fun h => by omega) fun _ => rfl
theorem yct : T (fun k _ => zaj k l s 1) (· = wrapP isLev true (an1 s) l [] []) := zv9 hl (fun b => ybj) fun run h _ => zxx (by omega)
theorem wrapF_TE : T (fun k _ => zax k l s 1 true) (· = wrapP isTxt true (an1 s) l [] []) := zzy hl (fun b => ybi) fun run h _ => zxx (by omega)
theorem yeo : T (fun k _ => zag k 5 s l) (· = an5 isLev s l) := by
  unfold an5
  refine zrt hl (.inr (.inr ⟨rfl, rfl⟩)) (fun h => by omega) (fun _ ho => ?_) fun h => ?_
  · rw [if_pos ho]; exact yct hl
  · rcases h with h | ⟨_, h⟩
    · omega
    · rw [if_neg (by rw [h]; simp)]
theorem ycs : T (fun k _ => zaj k l s 5) (· = wrapP (fun b => decide (b.x.1 ≠ 5)) false (an5 isLev s) l [] []) := zv9 hl (fun b => zv8 (by decide)) fun run h _ => yeo (by omega)
theorem yep : T (fun k _ => zag k 4 s l) (· = an4 isLev s l) := by
  unfold an4
  exact zrt hl (.inr (.inl ⟨rfl, rfl⟩)) (fun _ => ycs hl) (fun h => by omega) fun h => by omega
theorem runs4_TE : T (fun k _ => zaj k l s 4) (· = wrapP (fun b => decide (b.x.1 ≠ 4)) false (an4 isLev s) l [] []) := zv9 hl (fun b => zv8 (by decide)) fun run h _ => yep (by omega)
end
end Go.V
