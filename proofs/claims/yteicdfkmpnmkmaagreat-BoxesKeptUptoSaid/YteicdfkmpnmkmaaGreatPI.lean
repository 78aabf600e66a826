/-
  Walks and laws of this seat.
-/
import Derived.Test.YteicdfkmpnmkmaaGreatPc
import Derived.Test.YteicdfkmpnmkmaaGreatPb
namespace Go.V
set_option linter.unusedVariables false
set_option linter.unusedSimpArgs false
set_option linter.unusedSectionVars false
set_option maxRecDepth 100000
open Go.RowKit Go.Sl
def isInn (b : BoxT) : Bool := !isOut b && (decide (b.x.1 ≠ 4) && decide (b.x.1 ≠ 5))
theorem yak {b : BoxT} : zix b = some (isOut b) := by
  unfold zix isOut
  cases decide (b.x.1 = 1) <;> cases decide (b.x.1 = 2) <;> rfl
theorem inner_eq {b : BoxT} : zlg b = some (isInn b) := by
  unfold zlg isInn
  rw [Tr.eta, yak]
  cases isOut b <;> cases decide (b.x.1 ≠ 4) <;> rfl
theorem such3_eq {b : BoxT} : zlf b = some (isTxt b) := by
  unfold zlf isTxt
  cases decide (b.x.1 = 7) <;> rfl
theorem ygb {b : BoxT} (h : isOut b = true) : isInn b = false := by unfold isInn; rw [h]; rfl
theorem dni {r m : Nat} : decide ((r : Int) ≠ (m : Int)) = !decide (r = m) := by
  by_cases h : r = m
  · simp [h]
  · rw [decide_eq_true (by omega), decide_eq_false h]; rfl
theorem yhg {b : BoxT} {p : Bool} : T (fun k _ => zrs k b p) (· = blkB p b) := by
  have k4 : ∀ (s : ByteArray) (m e : Nat), s.size - e < m → T (fun _ n => zcf n (s, e)) (· = blAt m s e) := by
    intro s m
    induction m with
    | zero => intro e h; omega
    | succ m ih =>
      intro e h
      have hd := zji s e
      refine T.step ?_
      unfold zcf
      rw [blAt]
      refine T.dec (fun h5 => ?_) fun h5 => ?_
      · simp only at h5
        rw [if_pos h5]
        have up : T (fun _ n => zcf n (s, e + (Utf8.decode s e).2)) (· = blAt m s (e + (Utf8.decode s e).2)) := ih _ (by omega)
        unfold blR
        simp only [show (9 : Int) = ((9 : Nat) : Int) from rfl, show (10 : Int) = ((10 : Nat) : Int) from rfl, show (12 : Int) = ((12 : Nat) : Int) from rfl, show (32 : Int) = ((32 : Nat) : Int) from rfl, dni]
        cases decide ((Utf8.decode s e).1 = 9) with
        | true => simpa using up
        | false => cases decide ((Utf8.decode s e).1 = 10) with
          | true => simpa using up
          | false => cases decide ((Utf8.decode s e).1 = 12) with
            | true => simpa using up
            | false => cases decide ((Utf8.decode s e).1 = 32) with
              | true => simpa using up
              | false => exact T.some rfl
      · simp only at h5
        rw [if_neg h5]
        exact T.some rfl
  refine T.diag (F := fun _ n => zka n b p) ?_
  unfold zka blkB
  refine T.dec (fun h => T.some (by rw [decide_eq_false h]; rfl)) fun h => ?_
  rw [decide_eq_true (Classical.byContradiction h)]
  have := k4 b.x.2.2.2.2.1 (b.x.2.2.2.2.1.size + 1) 0 (by omega)
  refine T.bif (fun hp => T.bif (fun hq => T.some ?_) fun hq => this.mono fun r e => ?_) fun hp => this.mono fun r e => ?_
  · rw [hp, show preB b = true from hq]; rfl
  · rw [hp, show preB b = false from hq, e]; rfl
  · rw [hp, e]; rfl
theorem zs3 {α : Type} {l : List α} {z x : α} : (l ++ [z]).set (l.length : Int).toNat x = l ++ [x] := by
  rw [Int.toNat_natCast, List.set_append_right _ _ (Nat.le_refl _), Nat.sub_self]; rfl
section
variable {b : BoxT} {g : Int} {p : Bool} {an : List BoxT → BoxT}
theorem zpf {run out : List BoxT} (hr : (run.length : Int) ≤ 1000000) (ho : (out.length : Int) ≤ 1000000) (hA : T (fun k _ => za5 k g b.x.2.2.2.1 run) (· = an run)) : T (fun k _ => za6 k run p out g b) (· = ([], endP p an out run)) := by
  refine T.stepK ?_
  unfold za6
  refine T.diag (F := fun k n => zgh k (za8 k) (za2 k) (za1 k) (za3 k) (za0 k) (za6 k) (za5 k) n run p out g b) ?_
  unfold zgh
  have key : ∀ (m i : Nat) (v : Bool), run.length - i ≤ m → i ≤ run.length → T (fun k n => zc8 k (za8 k) (za2 k) (za1 k) (za3 k) (za0 k) (za6 k) (za5 k) n run p out g b v run (run.length : Int) (i : Int)) (· = ([], if (v && (run.drop i).all (blkB p)) = true then out else out ++ [an run])) := by
    intro m
    have fin : ∀ v : Bool, T (fun k n => bif (!v) then ((za5 k g b.x.2.2.2.1 run).bind fun r4 => (appM 448 out ([(Tr.mk (0,0,0,(0,0,0,0,(0,0,()),(0,0,()),((0,0,()),(0,0,()),(0,0,()),(0,0,()),()),((0,0,()),(0,0,()),(0,0,()),(0,0,()),()),((0,0,()),(0,0,()),(0,0,()),(0,0,()),()),(0,0,0,0,()),0,0,0,0,0, false, false, false, false,0,0,0,0,0,0, false,()),(bs []),()) ([]))])).bind fun r5 => (geti r5 (out.length : Int)).bind fun r6 => (geti r5 (out.length : Int)).bind fun r7 => (some (([] : List BoxT),(r5.set (out.length : Int).toNat (Tr.mk r4.x r4.kids))))) else some ([], out)) (· = ([], if v = true then out else out ++ [an run])) := fun v => by
      cases v with
      | true => exact T.some rfl
      | false =>
        refine T.bindE hA (T.app (by simp; omega) (by simp; omega) (T.get (by omega) (by simp; omega) fun _ _ => T.get (by omega) (by simp; omega) fun _ _ => T.some ?_))
        rw [zs3, Tr.eta]; rfl
    induction m with
    | zero =>
      intro i v h h1
      refine T.step ?_
      unfold zc8
      refine T.dec (fun _ => by omega) fun _ => ?_
      rw [List.drop_eq_nil_of_le (by omega), List.all_nil, Bool.and_true]
      exact fin v
    | succ m ih =>
      intro i v h h1
      refine T.step ?_
      unfold zc8
      rw [show w64 ((i : Int) + 1) = ((i + 1 : Nat) : Int) by rw [w64i (by omega)]; omega]
      refine T.dec (fun hi => T.get (by omega) hi fun x hx => ?_) fun hi => ?_
      · have hx : run[i]? = some x := by simpa using hx
        have hl := (List.getElem?_eq_some_iff.1 hx).1
        rw [List.drop_eq_getElem_cons hl,(List.getElem?_eq_some_iff.1 hx).2, List.all_cons]
        simp only [Tr.eta]
        refine T.bif (fun hv => T.bindE yhg ?_) fun hv => ?_
        · rw [hv, Bool.true_and]
          exact ih (i + 1) _ (by omega) (by omega)
        · rw [hv, Bool.false_and]
          exact (ih (i + 1) false (by omega) (by omega)).mono fun r e => by rw [e, Bool.false_and]
      · rw [List.drop_eq_nil_of_le (by omega), List.all_nil, Bool.and_true]
        exact fin v
  simp only [Tr.eta]
  refine (key _ 0 true (Nat.le_refl _) (by omega)).mono fun r e => ?_
  rw [e, List.drop_zero, Bool.true_and]; rfl
theorem yc7 (hl : (b.kids.length : Int) ≤ 1000000) (hA : ∀ run : List BoxT, run.length ≤ b.kids.length → (∀ x ∈ run,(fun b => decide (b.x.1 ≠ 4)) x = true) → T (fun k _ => za5 k g b.x.2.2.2.1 run) (· = an run)) : T (fun k _ => za2 k b g p ()) (· = wrapP (fun b => decide (b.x.1 ≠ 4)) p an b.kids [] []) := by
  refine T.stepK ?_
  unfold za2
  refine T.diag (F := fun k n => zcl k (za8 k) (za2 k) (za1 k) (za3 k) (za0 k) (za6 k) (za5 k) n b g p ()) ?_
  unfold zcl
  have key : ∀ (m i : Nat) (out run : List BoxT), b.kids.length - i ≤ m → i ≤ b.kids.length → out.length + run.length ≤ i → (∀ x ∈ run,(fun b => decide (b.x.1 ≠ 4)) x = true) → T (fun k n => zb1 k (za8 k) (za2 k) (za1 k) (za3 k) (za0 k) (za6 k) (za5 k) n () (Tr.mk b.x b.kids) g p out run b.kids (b.kids.length : Int) (i : Int)) (· = wrapP (fun b => decide (b.x.1 ≠ 4)) p an (b.kids.drop i) out run) := by
    intro m
    simp only [Tr.eta]
    have fin : ∀ (i : Nat) (out run : List BoxT), i = b.kids.length → out.length + run.length ≤ i → (∀ x ∈ run,(fun b => decide (b.x.1 ≠ 4)) x = true) → T (fun k n => (za6 k run p out g b).bind fun r12 => some r12.2) (· = wrapP (fun b => decide (b.x.1 ≠ 4)) p an (b.kids.drop i) out run) := fun i out run hi h2 hw => by
      rw [List.drop_eq_nil_of_le (by omega), wrapP]
      exact T.bindE (zpf (by omega) (by omega) (hA run (by omega) hw)) (T.some rfl)
    induction m with
    | zero =>
      intro i out run h h1 h2 hw
      refine T.step ?_
      unfold zb1
      simp only [Tr.eta]
      exact T.dec (fun _ => by omega) fun _ => fin i out run (by omega) h2 hw
    | succ m ih =>
      intro i out run h h1 h2 hw
      refine T.step ?_
      unfold zb1
      simp only [Tr.eta]
      rw [show w64 ((i : Int) + 1) = ((i + 1 : Nat) : Int) by rw [w64i (by omega)]; omega]
      refine T.dec (fun hi => T.get (by omega) hi fun x hx => T.bindE (T.ofE rfl) ?_) fun hi => fin i out run (by omega) h2 hw
      have hx : b.kids[i]? = some x := by simpa using hx
      have hlt := (List.getElem?_eq_some_iff.1 hx).1
      rw [List.drop_eq_getElem_cons hlt,(List.getElem?_eq_some_iff.1 hx).2, wrapP]
      refine T.bif (fun hp => ?_) fun hp => ?_
      · rw [if_pos hp]
        refine T.app (by simp; omega) (by simp; omega) (T.get (by omega) (by simp; omega) fun _ _ => T.get (by omega) (by simp; omega) fun _ _ => ?_)
        rw [zs3]
        refine ih (i + 1) _ _ (by omega) (by omega) (by simp; omega) fun y hy => ?_
        rcases List.mem_append.1 hy with hy | hy
        · exact hw y hy
        · rw [List.mem_singleton.1 hy]; exact hp
      · rw [if_neg (by rw [hp]; simp)]
        refine T.bindE (zpf (by omega) (by omega) (hA run (by omega) hw)) ?_
        have hle : (endP p an out run).length ≤ i := by
          unfold endP
          split
          · omega
          · have : run ≠ [] := fun e => by subst e; simp_all
            have := List.length_pos_iff.2 this
            simp; omega
        refine T.app (by simp; omega) (by simp; omega) (T.get (by omega) (by simp; omega) fun _ _ => T.get (by omega) (by simp; omega) fun _ _ => ?_)
        simp only [zs3]
        exact ih (i + 1) _ _ (by omega) (by omega) (by simp; omega) fun y hy => by cases hy
  simpa using key _ 0 [] [] (Nat.le_refl _) (by omega) (by simp) (by simp)
theorem yc6 (hl : (b.kids.length : Int) ≤ 1000000) (hA : ∀ run : List BoxT, run.length ≤ b.kids.length → (∀ x ∈ run,(fun b => decide (b.x.1 ≠ 5)) x = true) → T (fun k _ => za5 k g b.x.2.2.2.1 run) (· = an run)) : T (fun k _ => za1 k b g p ()) (· = wrapP (fun b => decide (b.x.1 ≠ 5)) p an b.kids [] []) := by
  refine T.stepK ?_
  unfold za1
  refine T.diag (F := fun k n => zck k (za8 k) (za2 k) (za1 k) (za3 k) (za0 k) (za6 k) (za5 k) n b g p ()) ?_
  unfold zck
  have key : ∀ (m i : Nat) (out run : List BoxT), b.kids.length - i ≤ m → i ≤ b.kids.length → out.length + run.length ≤ i → (∀ x ∈ run,(fun b => decide (b.x.1 ≠ 5)) x = true) → T (fun k n => zb0 k (za8 k) (za2 k) (za1 k) (za3 k) (za0 k) (za6 k) (za5 k) n () (Tr.mk b.x b.kids) g p out run b.kids (b.kids.length : Int) (i : Int)) (· = wrapP (fun b => decide (b.x.1 ≠ 5)) p an (b.kids.drop i) out run) := by
    intro m
    simp only [Tr.eta]
    have fin : ∀ (i : Nat) (out run : List BoxT), i = b.kids.length → out.length + run.length ≤ i → (∀ x ∈ run,(fun b => decide (b.x.1 ≠ 5)) x = true) → T (fun k n => (za6 k run p out g b).bind fun r12 => some r12.2) (· = wrapP (fun b => decide (b.x.1 ≠ 5)) p an (b.kids.drop i) out run) := fun i out run hi h2 hw => by
      rw [List.drop_eq_nil_of_le (by omega), wrapP]
      exact T.bindE (zpf (by omega) (by omega) (hA run (by omega) hw)) (T.some rfl)
    induction m with
    | zero =>
      intro i out run h h1 h2 hw
      refine T.step ?_
      unfold zb0
      simp only [Tr.eta]
      exact T.dec (fun _ => by omega) fun _ => fin i out run (by omega) h2 hw
    | succ m ih =>
      intro i out run h h1 h2 hw
      refine T.step ?_
      unfold zb0
      simp only [Tr.eta]
      rw [show w64 ((i : Int) + 1) = ((i + 1 : Nat) : Int) by rw [w64i (by omega)]; omega]
      refine T.dec (fun hi => T.get (by omega) hi fun x hx => T.bindE (T.ofE rfl) ?_) fun hi => fin i out run (by omega) h2 hw
      have hx : b.kids[i]? = some x := by simpa using hx
      have hlt := (List.getElem?_eq_some_iff.1 hx).1
      rw [List.drop_eq_getElem_cons hlt,(List.getElem?_eq_some_iff.1 hx).2, wrapP]
      refine T.bif (fun hp => ?_) fun hp => ?_
      · rw [if_pos hp]
        refine T.app (by simp; omega) (by simp; omega) (T.get (by omega) (by simp; omega) fun _ _ => T.get (by omega) (by simp; omega) fun _ _ => ?_)
        rw [zs3]
        refine ih (i + 1) _ _ (by omega) (by omega) (by simp; omega) fun y hy => ?_
        rcases List.mem_append.1 hy with hy | hy
        · exact hw y hy
        · rw [List.mem_singleton.1 hy]; exact hp
      · rw [if_neg (by rw [hp]; simp)]
        refine T.bindE (zpf (by omega) (by omega) (hA run (by omega) hw)) ?_
        have hle : (endP p an out run).length ≤ i := by
          unfold endP
          split
          · omega
          · have : run ≠ [] := fun e => by subst e; simp_all
            have := List.length_pos_iff.2 this
            simp; omega
        refine T.app (by simp; omega) (by simp; omega) (T.get (by omega) (by simp; omega) fun _ _ => T.get (by omega) (by simp; omega) fun _ _ => ?_)
        simp only [zs3]
        exact ih (i + 1) _ _ (by omega) (by omega) (by simp; omega) fun y hy => by cases hy
  simpa using key _ 0 [] [] (Nat.le_refl _) (by omega) (by simp) (by simp)
theorem inner_TE (hl : (b.kids.length : Int) ≤ 1000000) (hA : ∀ run : List BoxT, run.length ≤ b.kids.length → (∀ x ∈ run, isInn x = true) → T (fun k _ => za5 k g b.x.2.2.2.1 run) (· = an run)) : T (fun k _ => za3 k b g p ()) (· = wrapP isInn p an b.kids [] []) := by
  refine T.stepK ?_
  unfold za3
  refine T.diag (F := fun k n => zdr k (za8 k) (za2 k) (za1 k) (za3 k) (za0 k) (za6 k) (za5 k) n b g p ()) ?_
  unfold zdr
  have key : ∀ (m i : Nat) (out run : List BoxT), b.kids.length - i ≤ m → i ≤ b.kids.length → out.length + run.length ≤ i → (∀ x ∈ run, isInn x = true) → T (fun k n => zbe k (za8 k) (za2 k) (za1 k) (za3 k) (za0 k) (za6 k) (za5 k) n () (Tr.mk b.x b.kids) g p out run b.kids (b.kids.length : Int) (i : Int)) (· = wrapP isInn p an (b.kids.drop i) out run) := by
    intro m
    simp only [Tr.eta]
    have fin : ∀ (i : Nat) (out run : List BoxT), i = b.kids.length → out.length + run.length ≤ i → (∀ x ∈ run, isInn x = true) → T (fun k n => (za6 k run p out g b).bind fun r12 => some r12.2) (· = wrapP isInn p an (b.kids.drop i) out run) := fun i out run hi h2 hw => by
      rw [List.drop_eq_nil_of_le (by omega), wrapP]
      exact T.bindE (zpf (by omega) (by omega) (hA run (by omega) hw)) (T.some rfl)
    induction m with
    | zero =>
      intro i out run h h1 h2 hw
      refine T.step ?_
      unfold zbe
      simp only [Tr.eta]
      exact T.dec (fun _ => by omega) fun _ => fin i out run (by omega) h2 hw
    | succ m ih =>
      intro i out run h h1 h2 hw
      refine T.step ?_
      unfold zbe
      simp only [Tr.eta]
      rw [show w64 ((i : Int) + 1) = ((i + 1 : Nat) : Int) by rw [w64i (by omega)]; omega]
      refine T.dec (fun hi => T.get (by omega) hi fun x hx => T.bindE (T.ofE inner_eq) ?_) fun hi => fin i out run (by omega) h2 hw
      have hx : b.kids[i]? = some x := by simpa using hx
      have hlt := (List.getElem?_eq_some_iff.1 hx).1
      rw [List.drop_eq_getElem_cons hlt,(List.getElem?_eq_some_iff.1 hx).2, wrapP]
      refine T.bif (fun hp => ?_) fun hp => ?_
      · rw [if_pos hp]
        refine T.app (by simp; omega) (by simp; omega) (T.get (by omega) (by simp; omega) fun _ _ => T.get (by omega) (by simp; omega) fun _ _ => ?_)
        rw [zs3]
        refine ih (i + 1) _ _ (by omega) (by omega) (by simp; omega) fun y hy => ?_
        rcases List.mem_append.1 hy with hy | hy
        · exact hw y hy
        · rw [List.mem_singleton.1 hy]; exact hp
      · rw [if_neg (by rw [hp]; simp)]
        refine T.bindE (zpf (by omega) (by omega) (hA run (by omega) hw)) ?_
        have hle : (endP p an out run).length ≤ i := by
          unfold endP
          split
          · omega
          · have : run ≠ [] := fun e => by subst e; simp_all
            have := List.length_pos_iff.2 this
            simp; omega
        refine T.app (by simp; omega) (by simp; omega) (T.get (by omega) (by simp; omega) fun _ _ => T.get (by omega) (by simp; omega) fun _ _ => ?_)
        simp only [zs3]
        exact ih (i + 1) _ _ (by omega) (by omega) (by simp; omega) fun y hy => by cases hy
  simpa using key _ 0 [] [] (Nat.le_refl _) (by omega) (by simp) (by simp)
theorem yc5 (hl : (b.kids.length : Int) ≤ 1000000) (hA : ∀ run : List BoxT, run.length ≤ b.kids.length → (∀ x ∈ run, isTxt x = true) → T (fun k _ => za5 k g b.x.2.2.2.1 run) (· = an run)) : T (fun k _ => za0 k b g p ()) (· = wrapP isTxt p an b.kids [] []) := by
  refine T.stepK ?_
  unfold za0
  refine T.diag (F := fun k n => zcj k (za8 k) (za2 k) (za1 k) (za3 k) (za0 k) (za6 k) (za5 k) n b g p ()) ?_
  unfold zcj
  have key : ∀ (m i : Nat) (out run : List BoxT), b.kids.length - i ≤ m → i ≤ b.kids.length → out.length + run.length ≤ i → (∀ x ∈ run, isTxt x = true) → T (fun k n => zaz k (za8 k) (za2 k) (za1 k) (za3 k) (za0 k) (za6 k) (za5 k) n () (Tr.mk b.x b.kids) g p out run b.kids (b.kids.length : Int) (i : Int)) (· = wrapP isTxt p an (b.kids.drop i) out run) := by
    intro m
    simp only [Tr.eta]
    have fin : ∀ (i : Nat) (out run : List BoxT), i = b.kids.length → out.length + run.length ≤ i → (∀ x ∈ run, isTxt x = true) → T (fun k n => (za6 k run p out g b).bind fun r12 => some r12.2) (· = wrapP isTxt p an (b.kids.drop i) out run) := fun i out run hi h2 hw => by
      rw [List.drop_eq_nil_of_le (by omega), wrapP]
      exact T.bindE (zpf (by omega) (by omega) (hA run (by omega) hw)) (T.some rfl)
    induction m with
    | zero =>
      intro i out run h h1 h2 hw
      refine T.step ?_
      unfold zaz
      simp only [Tr.eta]
      exact T.dec (fun _ => by omega) fun _ => fin i out run (by omega) h2 hw
    | succ m ih =>
      intro i out run h h1 h2 hw
      refine T.step ?_
      unfold zaz
      simp only [Tr.eta]
      rw [show w64 ((i : Int) + 1) = ((i + 1 : Nat) : Int) by rw [w64i (by omega)]; omega]
      refine T.dec (fun hi => T.get (by omega) hi fun x hx => T.bindE (T.ofE such3_eq) ?_) fun hi => fin i out run (by omega) h2 hw
      have hx : b.kids[i]? = some x := by simpa using hx
      have hlt := (List.getElem?_eq_some_iff.1 hx).1
      rw [List.drop_eq_getElem_cons hlt,(List.getElem?_eq_some_iff.1 hx).2, wrapP]
      refine T.bif (fun hp => ?_) fun hp => ?_
      · rw [if_pos hp]
        refine T.app (by simp; omega) (by simp; omega) (T.get (by omega) (by simp; omega) fun _ _ => T.get (by omega) (by simp; omega) fun _ _ => ?_)
        rw [zs3]
        refine ih (i + 1) _ _ (by omega) (by omega) (by simp; omega) fun y hy => ?_
        rcases List.mem_append.1 hy with hy | hy
        · exact hw y hy
        · rw [List.mem_singleton.1 hy]; exact hp
      · rw [if_neg (by rw [hp]; simp)]
        refine T.bindE (zpf (by omega) (by omega) (hA run (by omega) hw)) ?_
        have hle : (endP p an out run).length ≤ i := by
          unfold endP
          split
          · omega
          · have : run ≠ [] := fun e => by subst e; simp_all
            have := List.length_pos_iff.2 this
            simp; omega
        refine T.app (by simp; omega) (by simp; omega) (T.get (by omega) (by simp; omega) fun _ _ => T.get (by omega) (by simp; omega) fun _ _ => ?_)
        simp only [zs3]
        exact ih (i + 1) _ _ (by omega) (by omega) (by simp; omega) fun y hy => by cases hy
  simpa using key _ 0 [] [] (Nat.le_refl _) (by omega) (by simp) (by simp)
end
theorem yd9 {b : BoxT} {K : List BoxT} (hl : (b.kids.length : Int) ≤ 1000000)
    (h3 : fitK b.x.1 b.kids = 3 → T (fun k _ => za2 k (.mk (fitK b.x.1 b.kids, b.x.2) b.kids) 4 false ()) (· = K))
    (h4 : fitK b.x.1 b.kids = 4 → T (fun k _ => za1 k (.mk (fitK b.x.1 b.kids, b.x.2) b.kids) 5 false ()) (· = K))
    (h1 : (fitK b.x.1 b.kids = 1 ∨ fitK b.x.1 b.kids = 5) → b.kids.any isOut = true → T (fun k _ => za3 k (.mk (fitK b.x.1 b.kids, b.x.2) b.kids) 1 true ()) (· = K))
    (h2 : fitK b.x.1 b.kids = 2 → T (fun k _ => za0 k (.mk (fitK b.x.1 b.kids, b.x.2) b.kids) 1 true ()) (· = K))
    (h0 : fitK b.x.1 b.kids ≠ 3 → fitK b.x.1 b.kids ≠ 4 → fitK b.x.1 b.kids ≠ 2 → ((fitK b.x.1 b.kids = 1 ∨ fitK b.x.1 b.kids = 5) → b.kids.any isOut = false) → K = b.kids) :
    T (fun k _ => za8 k b) (· = .mk (fitK b.x.1 b.kids, b.x.2) K) := by
  refine T.stepK ?_
  unfold za8
  refine T.diag (F := fun k n => zja k (za8 k) (za2 k) (za1 k) (za3 k) (za0 k) (za6 k) (za5 k) n b) ?_
  unfold zja
  generalize hy : fitK b.x.1 b.kids = y at *
  have c1 : T (fun k n => zbw k (za8 k) (za2 k) (za1 k) (za3 k) (za0 k) (za6 k) (za5 k) y b (b.kids.any isOut)) (· = .mk (y, b.x.2) K) := by
    have k2 : (y = 1 ∨ y = 5) → b.kids.any isOut = true → T (fun k n => zgj k (za8 k) (za2 k) (za1 k) (za3 k) (za0 k) (za6 k) (za5 k) y b) (· = .mk (y, b.x.2) K) := fun a c => by
      unfold zgj
      exact T.bindE (h1 a c) (T.some rfl)
    have k3 : y ≠ 3 → y ≠ 4 → ((y = 1 ∨ y = 5) → b.kids.any isOut = false) → T (fun k n => ze7 k (za8 k) (za2 k) (za1 k) (za3 k) (za0 k) (za6 k) (za5 k) y b) (· = .mk (y, b.x.2) K) := fun n3 n4 a => by
      unfold ze7
      refine T.dec (fun e => T.bindE (h2 e) (T.some rfl)) fun n2 => T.some ?_
      rw [h0 n3 n4 n2 a]
    unfold zbw
    refine T.dec (fun e => T.bindE (h3 e) (T.some rfl)) fun n3 => T.dec (fun e => T.bindE (h4 e) (T.some rfl)) fun n4 => T.dec (fun e1 => T.bif (fun ho => k2 (.inl e1) ho) fun ho => k3 n3 n4 fun _ => ho) fun n1 => T.dec (fun e5 => T.bif (fun ho => k2 (.inr e5) ho) fun ho => k3 n3 n4 fun _ => ho) fun n5 => k3 n3 n4 fun h => absurd h (by omega)
  have key : ∀ (m i : Nat) (z : BoxT) (v : Bool), b.kids.length - i ≤ m → i ≤ b.kids.length → v = (b.kids.take i).any isOut → T (fun k n => zdx k (za8 k) (za2 k) (za1 k) (za3 k) (za0 k) (za6 k) (za5 k) n b z v b.kids (b.kids.length : Int) (i : Int)) (· = .mk (y, b.x.2) K) := by
    intro m
    have fin : ∀ (i : Nat) (v : Bool), i = b.kids.length → v = (b.kids.take i).any isOut → T (fun k n => (bif decide (b.x.1 = 6) then (bif v then (zbw k (za8 k) (za2 k) (za1 k) (za3 k) (za0 k) (za6 k) (za5 k) 1 b v) else (zbw k (za8 k) (za2 k) (za1 k) (za3 k) (za0 k) (za6 k) (za5 k) b.x.1 b v)) else (zbw k (za8 k) (za2 k) (za1 k) (za3 k) (za0 k) (za6 k) (za5 k) b.x.1 b v))) (· = .mk (y, b.x.2) K) := fun i v hi hv => by
      rw [List.take_of_length_le (by omega)] at hv
      subst hv
      unfold fitK at hy
      refine T.dec (fun c6 => T.bif (fun ho => ?_) fun ho => ?_) fun c6 => ?_
      · rw [if_pos ⟨c6, ho⟩] at hy
        rw [hy]; exact c1
      · rw [if_neg (fun h => by rw [ho] at h; cases h.2)] at hy
        rw [hy]; exact c1
      · rw [if_neg (fun h => c6 h.1)] at hy
        rw [hy]; exact c1
    induction m with
    | zero =>
      intro i z v h h1 hv
      refine T.step ?_
      unfold zdx
      exact T.dec (fun _ => by omega) fun _ => fin i v (by omega) hv
    | succ m ih =>
      intro i z v h h1 hv
      refine T.step ?_
      unfold zdx
      simp only [Tr.eta]
      rw [show w64 ((i : Int) + 1) = ((i + 1 : Nat) : Int) by rw [w64i (by omega)]; omega]
      refine T.dec (fun hi => T.get (by omega) hi fun x hx => ?_) fun _ => fin i v (by omega) hv
      have hx : b.kids[i]? = some x := by simpa using hx
      have e : (b.kids.take (i + 1)).any isOut = (v || isOut x) := by
        rw [List.take_add_one, hx, List.any_append, ← hv]
        simp
      refine T.bif (fun hv1 => ih (i + 1) _ _ (by omega) (by omega) (by rw [e, hv1]; rfl)) fun hv1 => T.bindE (T.ofE yak) (ih (i + 1) _ _ (by omega) (by omega) (by rw [e, hv1]; rfl))
  simp only [Tr.eta]
  exact key _ 0 _ false (Nat.le_refl _) (by omega) (by simp)
section
variable {s : StyT} {run : List BoxT} (hl : (run.length : Int) ≤ 1000000)
theorem ycg {g d : Int} {B : BoxT} (hg : (g = 1 ∧ d = 1) ∨ (g = 4 ∧ d = 5) ∨ (g = 5 ∧ d = 6)) (hF : T (fun k _ => za8 k (.mk (g, -1,0, zc2 (firstP s) d, bs [],()) run)) (· = B)) : T (fun k _ => za5 k g s run) (· = B) := by
  refine T.stepK ?_
  unfold za5
  unfold ziw
  refine T.bindE (T.ofE ygm) ?_
  have k0 : T (fun k _ => zcm k (za8 k) (za2 k) (za1 k) (za3 k) (za0 k) (za6 k) (za5 k) d g (firstP s) run) (· = B) := by
    unfold zcm
    exact T.bindE hF (T.some (Tr.eta B))
  rcases hg with ⟨rfl, rfl⟩ | ⟨rfl, rfl⟩ | ⟨rfl, rfl⟩
  · exact T.dec (fun _ => k0) fun h => absurd rfl h
  · exact T.dec (fun h => absurd h (by decide)) fun _ => T.dec (fun _ => k0) fun h => absurd rfl h
  · exact T.dec (fun h => absurd h (by decide)) fun _ => T.dec (fun h => absurd h (by decide)) fun _ => T.dec (fun _ => k0) fun h => absurd rfl h
include hl
theorem ydk (ho : ∀ x ∈ run, isOut x = false) : T (fun k _ => za5 k 1 s run) (· = an1 s run) := by
  refine ycg (.inl ⟨rfl, rfl⟩) ?_
  have e : fitK 1 run = 1 := by unfold fitK; rw [if_neg (by omega)]
  have ha : run.any isOut = false := by rw [List.any_eq_false]; exact fun x hx => by rw [ho x hx]; simp
  refine (yd9 (b := .mk (1, -1,0, zc2 (firstP s) 1, bs [],()) run) (K := run) hl ?_ ?_ ?_ ?_ fun _ _ _ _ => rfl).mono fun r h => ?_
  · show fitK 1 run = 3 → _
    intro h; omega
  · show fitK 1 run = 4 → _
    intro h; omega
  · intro _ h
    rw [show run.any isOut = true from h] at ha; cases ha
  · show fitK 1 run = 2 → _
    intro h; omega
  · rw [h]
    show Tr.mk (fitK 1 run, _) _ = _
    rw [e]; rfl
theorem ycn {b : BoxT} (hb : b.kids = run) : T (fun k _ => za3 k b 1 true ()) (· = wrapP isInn true (an1 b.x.2.2.2.1) run [] []) := by
  subst hb
  exact inner_TE hl fun r h hp => ydk (by omega) fun x hx => by
    have := hp x hx
    cases ho : isOut x with
    | true => rw [ygb ho] at this; cases this
    | false => rfl
theorem wrapT_TE {b : BoxT} (hb : b.kids = run) : T (fun k _ => za0 k b 1 true ()) (· = wrapP isTxt true (an1 b.x.2.2.2.1) run [] []) := by
  subst hb
  exact yc5 hl fun r h hp => ydk (by omega) fun x hx => by
    have := hp x hx
    unfold isTxt at this
    unfold isOut
    simp only [Bool.or_eq_true, decide_eq_true_eq] at this
    rw [decide_eq_false (by omega), decide_eq_false (by omega), decide_eq_false (by omega)]; rfl
theorem anon5_TE : T (fun k _ => za5 k 5 s run) (· = an5 isInn s run) := by
  refine ycg (.inr (.inr ⟨rfl, rfl⟩)) ?_
  have e : fitK 5 run = 5 := by unfold fitK; rw [if_neg (by omega)]
  refine (yd9 (b := .mk (5, -1,0, zc2 (firstP s) 6, bs [],()) run) (K := if run.any isOut then wrapP isInn true (an1 (zc2 (firstP s) 6)) run [] [] else run) hl ?_ ?_ ?_ ?_ ?_).mono fun r h => ?_
  · show fitK 5 run = 3 → _
    intro h; omega
  · show fitK 5 run = 4 → _
    intro h; omega
  · intro _ ho
    rw [if_pos (show run.any isOut = true from ho)]
    exact ycn hl rfl
  · show fitK 5 run = 2 → _
    intro h; omega
  · intro _ _ _ h
    have := h (.inr e)
    rw [if_neg (by rw [show run.any isOut = false from this]; simp)]; rfl
  · rw [h]
    show Tr.mk (fitK 5 run, _) _ = _
    rw [e]; rfl
theorem ycm {b : BoxT} (hb : b.kids = run) : T (fun k _ => za1 k b 5 false ()) (· = wrapP (fun b => decide (b.x.1 ≠ 5)) false (an5 isInn b.x.2.2.2.1) run [] []) := by
  subst hb
  exact yc6 hl fun r h hp => anon5_TE (by omega)
theorem anon4_TE : T (fun k _ => za5 k 4 s run) (· = an4 isInn s run) := by
  refine ycg (.inr (.inl ⟨rfl, rfl⟩)) ?_
  have e : fitK 4 run = 4 := by unfold fitK; rw [if_neg (by omega)]
  refine (yd9 (b := .mk (4, -1,0, zc2 (firstP s) 5, bs [],()) run) (K := wrapP (fun b => decide (b.x.1 ≠ 5)) false (an5 isInn (zc2 (firstP s) 5)) run [] []) hl ?_ ?_ ?_ ?_ ?_).mono fun r h => ?_
  · show fitK 4 run = 3 → _
    intro h; omega
  · intro _
    exact ycm hl rfl
  · show fitK 4 run = 1 ∨ fitK 4 run = 5 → _
    intro h; omega
  · show fitK 4 run = 2 → _
    intro h; omega
  · intro _ h
    exact absurd e h
  · rw [h]
    show Tr.mk (fitK 4 run, _) _ = _
    rw [e]; rfl
theorem wrap4_TE {b : BoxT} (hb : b.kids = run) : T (fun k _ => za2 k b 4 false ()) (· = wrapP (fun b => decide (b.x.1 ≠ 4)) false (an4 isInn b.x.2.2.2.1) run [] []) := by
  subst hb
  exact yc7 hl fun r h hp => anon4_TE (by omega)
end
theorem ygl {b : BoxT} (hl : (b.kids.length : Int) ≤ 1000000) : T (fun k _ => za8 k b) (· = .mk (fitK b.x.1 b.kids, b.x.2) (fitL isInn (fitK b.x.1 b.kids) b.x.2.2.2.1 b.kids)) := by
  unfold fitL
  refine yd9 hl (fun h => ?_) (fun h => ?_) (fun h ho => ?_) (fun h => ?_) fun h3 h4 h2 h => ?_
  · rw [if_pos h]
    exact wrap4_TE hl rfl
  · rw [if_neg (by omega), if_pos h]
    exact ycm hl rfl
  · rw [if_neg (by omega), if_neg (by omega), if_pos ⟨h, ho⟩]
    exact ycn hl rfl
  · rw [if_neg (by omega), if_neg (by omega), if_neg (fun h' => by omega), if_pos h]
    exact wrapT_TE hl rfl
  · rw [if_neg h3, if_neg h4, if_neg (fun h' => by rw [h h'.1] at h'; cases h'.2), if_neg h2]
end Go.V
