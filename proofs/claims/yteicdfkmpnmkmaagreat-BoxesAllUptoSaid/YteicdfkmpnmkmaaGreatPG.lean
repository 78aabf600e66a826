/-
  Walks and laws of this seat.
-/
import Derived.Test.YteicdfkmpnmkmaaGreatPD
import Derived.Test.YteicdfkmpnmkmaaGreatPb
import Derived.Test.YteicdfkmpnmkmaaGreatM5
namespace Go.V
set_option linter.unusedVariables false
set_option linter.unusedSimpArgs false
set_option linter.unusedSectionVars false
set_option maxRecDepth 100000
open Go.RowKit Go.Sl
mutual
def allT : BoxT → List BoxT
  | .mk x ks => .mk x ks :: allL ks
def allL : List BoxT → List BoxT
  | [] => []
  | b :: r => allT b ++ allL r
end
theorem ya4 {x} {ks : List BoxT} : allT (.mk x ks) = .mk x ks :: allL ks := by rw [allT]
theorem zq1 : allL [] = [] := by rw [allL]
theorem zmo {b : BoxT} {r : List BoxT} : allL (b :: r) = allT b ++ allL r := by rw [allL]
theorem ye1 {l : List BoxT} : ∀ {k : List BoxT}, allL (k ++ l) = allL k ++ allL l
  | [] => by simp [zq1]
  | b :: k => by rw [List.cons_append, zmo, zmo, ye1, List.append_assoc]
mutual
theorem zta : ∀ (b : BoxT),(allT b).length = szT b
  | .mk x ks => by rw [ya4, zl5, List.length_cons, ya5 ks]; omega
theorem ya5 : ∀ (l : List BoxT),(allL l).length = szL l
  | [] => by rw [zq1, zj6]; rfl
  | b :: r => by rw [zmo, zgg, List.length_append, zta b, ya5 r]
end
mutual
theorem yck : ∀ (b : BoxT) (n : Int), szT (numB b n).1 = szT b
  | .mk x ks, n => by rw [ztw, zl5, zl5, yg6 ks]
theorem yg6 : ∀ (l : List BoxT) (n : Int), szL (numL l n).1 = szL l
  | [], n => by rw [zv4]
  | b :: r, n => by rw [zw0, zgg, zgg, yck b, yg6 r]
end
mutual
theorem ydj : ∀ (b : BoxT) (n : Nat), n + szT b ≤ 1000000000 → (numB b n).2 = ((n + szT b : Nat) : Int) ∧ ∀ (i : Nat) x,(allT (numB b n).1)[i]? = some x → x.x.2.2.1 = ((n + i : Nat) : Int)
  | .mk x ks, n, h => by
    rw [zl5] at h
    have e : w64 ((n : Int) + 1) = ((n + 1 : Nat) : Int) := by rw [w64i (by omega)]; omega
    obtain ⟨h1, h2⟩ := ydi ks (n + 1) (by omega)
    rw [ztw, e, zl5]
    refine ⟨by rw [h1]; congr 1; omega, fun i y hy => ?_⟩
    rw [ya4] at hy
    cases i with
    | zero => simp at hy; subst hy; rfl
    | succ i =>
      have := h2 i y (by simpa using hy)
      rw [this]; congr 1; omega
theorem ydi : ∀ (l : List BoxT) (n : Nat), n + szL l ≤ 1000000000 → (numL l n).2 = ((n + szL l : Nat) : Int) ∧ ∀ (i : Nat) x,(allL (numL l n).1)[i]? = some x → x.x.2.2.1 = ((n + i : Nat) : Int)
  | [], n, h => by rw [zv4, zj6]; exact ⟨rfl, by simp [zq1]⟩
  | b :: r, n, h => by
    rw [zgg] at h
    obtain ⟨h1, h2⟩ := ydj b n (by omega)
    obtain ⟨h3, h4⟩ := ydi r (n + szT b) (by omega)
    rw [zw0, zgg, h1]
    refine ⟨by rw [h3]; congr 1; omega, fun i y hy => ?_⟩
    rw [zmo, List.getElem?_append, zta, yck] at hy
    split at hy
    · exact h2 i y hy
    · have := h4 _ y hy
      rw [this]; congr 1; omega
end
theorem yhp {l : List BoxT} {j : Nat} {x : BoxT} (h : l[j]? = some x) : allL (l.take (j + 1)) = allL (l.take j) ++ allT x := by
  rw [List.take_add_one, h, ye1]
  show _ ++ allL [x] = _
  rw [zmo, zq1, List.append_nil]
theorem szL_take {l : List BoxT} {j : Nat} : szL (l.take j) ≤ szL l := by
  have : szL l = szL (l.take j) + szL (l.drop j) := by rw [← ztg, List.take_append_drop]
  omega
theorem yfm {l : List BoxT} {j : Nat} {x : BoxT} (h : l[j]? = some x) : szL (l.take j) + szT x ≤ szL l := by
  have h1 : szL (l.take (j + 1)) = szL (l.take j) + szT x := by
    rw [List.take_add_one, h, ztg]
    show _ + szL [x] = _
    rw [zyh]
  have := szL_take (l := l) (j := j + 1)
  omega
theorem all_TE : ∀ (m : Nat) (b : BoxT), szT b ≤ m → szT b ≤ 100000 → T (fun k _ => zgb k b) (· = allT b) := by
  intro m
  induction m with
  | zero => intro b h; have := yc3 (b := b); omega
  | succ m ih =>
    intro b h hb
    cases b with
    | mk x ks =>
      rw [zl5] at h hb
      refine T.stepK ?_
      unfold zgb
      refine T.diag (F := fun k n => zna k (fun a0 => zgb k a0) n (.mk x ks)) ?_
      unfold zna
      have hkl := zyi (l := ks)
      have key : ∀ (m2 j : Nat), ks.length - j ≤ m2 → j ≤ ks.length → T (fun k n => zia k (fun a0 => zgb k a0) n (.mk x ks) (.mk x ks :: allL (ks.take j)) (j : Int)) (· = allT (.mk x ks)) := by
        intro m2
        have fin : ∀ j, j = ks.length → Tr.mk x ks :: allL (ks.take j) = allT (.mk x ks) := fun j hj => by rw [hj, List.take_length, ya4]
        induction m2 with
        | zero =>
          intro j e1 e2
          refine T.step ?_
          unfold zia
          exact T.dec (fun h => by simp only [Tr.kids] at h; omega) fun _ => T.some (fin j (by omega))
        | succ m2 ih2 =>
          intro j e1 e2
          refine T.step ?_
          unfold zia
          refine T.dec (fun hj => T.get (by omega) hj fun y hy => ?_) fun hj => T.some (fin j (by simp only [Tr.kids] at hj; omega))
          have hy : ks[j]? = some y := by have hy := hy; rwa [Int.toNat_natCast] at hy
          have hsz := yfm hy
          have hj2 := (List.getElem?_eq_some_iff.1 hy).1
          have hlt := ya5 (ks.take j)
          simp only [Tr.eta]
          refine T.bindE (ih y (by omega) (by omega)) (T.app (by rw [List.length_cons, hlt, zta]; omega) (by rw [List.length_cons, hlt, zta]; omega) ?_)
          rw [show w64 ((j : Int) + 1) = ((j + 1 : Nat) : Int) by rw [w64i (by omega)]; omega, List.cons_append, ← yhp hy]
          exact ih2 (j + 1) (by omega) (by omega)
      have := key _ 0 (Nat.le_refl _) (Nat.zero_le _)
      rw [List.take_zero, zq1] at this
      exact this
theorem box_TE : ∀ (m : Nat) (b : BoxT), szT b ≤ m → szT b ≤ 100000 → T (fun k _ => ziu k b) (· = b) := by
  intro m
  induction m with
  | zero => intro b h; have := yc3 (b := b); omega
  | succ m ih =>
    intro b h hb
    cases b with
    | mk x ks =>
      rw [zl5] at h hb
      refine T.stepK ?_
      unfold ziu
      refine T.diag (F := fun k n => zpz k (fun a0 => ziu k a0) n (.mk x ks)) ?_
      unfold zpz
      have hkl := zyi (l := ks)
      have key : ∀ (m2 j : Nat) (z : Int × Int × Int × StyT × ByteArray × List BoxT), ks.length - j ≤ m2 → j ≤ ks.length → T (fun k n => zk2 k (fun a0 => ziu k a0) n (.mk x ks) z (x.1, x.2.1, x.2.2.1, x.2.2.2.1, x.2.2.2.2.1, ks.take j) (j : Int)) (· = .mk x ks) := by
        intro m2
        have fin : ∀ j, j = ks.length → Tr.mk (x.1, x.2.1, x.2.2.1, x.2.2.2.1, x.2.2.2.2.1,()) (ks.take j) = (Tr.mk x ks : BoxT) := fun j hj => by rw [hj, List.take_length]
        induction m2 with
        | zero =>
          intro j z e1 e2
          refine T.step ?_
          unfold zk2
          exact T.dec (fun h => by simp only [Tr.kids] at h; omega) fun _ => T.some (fin j (by omega))
        | succ m2 ih2 =>
          intro j z e1 e2
          refine T.step ?_
          unfold zk2
          refine T.dec (fun hj => T.get (by omega) hj fun y hy => ?_) fun hj => T.some (fin j (by simp only [Tr.kids] at hj; omega))
          have hy : ks[j]? = some y := by have hy := hy; rwa [Int.toNat_natCast] at hy
          have hsz := yfm hy
          have hj2 := (List.getElem?_eq_some_iff.1 hy).1
          simp only [Tr.eta]
          refine T.bindE (ih y (by omega) (by omega)) (T.app (by simp; omega) (by simp; omega) ?_)
          rw [show w64 ((j : Int) + 1) = ((j + 1 : Nat) : Int) by rw [w64i (by omega)]; omega]
          have e : ks.take j ++ [y] = ks.take (j + 1) := by rw [List.take_add_one, hy]; rfl
          simp only [e]
          exact ih2 (j + 1) _ (by omega) (by omega)
      exact key _ 0 _ (Nat.le_refl _) (Nat.zero_le _)
theorem ksmall_T {l : List StyT} (hl : (l.length : Int) ≤ 1000000) : T (fun k _ => zty k l) fun _ => True := by
  have key : ∀ (m i : Nat), l.length - i ≤ m → i ≤ l.length → T (fun _ n => zds n l (i : Int)) fun _ => True := by
    intro m
    induction m with
    | zero =>
      intro i h1 h2
      refine T.step ?_
      unfold zds
      exact T.dec (fun _ => by omega) fun _ => T.some trivial
    | succ m ih =>
      intro i h1 h2
      by_cases hi : i < l.length
      · have k7 : ∀ (m2 j : Nat) (s : StyT) (b : Bool),4 - j ≤ m2 → j ≤ 4 → T (fun _ n => za9 n l (i : Int) s b (j : Int)) fun _ => True := by
          intro m2
          have up : ∀ b : Bool, T (fun _ n => bif (!b) then some false else zds n l (w64 ((i : Int) + 1))) fun _ => True := fun b => by
            rw [show w64 ((i : Int) + 1) = ((i + 1 : Nat) : Int) by rw [w64i (by omega)]; omega]
            exact T.bif (fun _ => T.some trivial) fun _ => ih (i + 1) (by omega) (by omega)
          induction m2 with
          | zero =>
            intro j s b e1 e2
            refine T.step ?_
            unfold za9
            exact T.dec (fun _ => by omega) fun _ => up b
          | succ m2 ih2 =>
            intro j s b e1 e2
            have nx : ∀ (j' : Int) (b : Bool),(j : Int) = j' → j < 4 → T (fun _ n => za9 n l (i : Int) s b (w64 (j' + 1))) fun _ => True := fun j' b e hj => by
              rw [← e, show w64 ((j : Int) + 1) = ((j + 1 : Nat) : Int) by rw [w64i (by omega)]; omega]
              exact ih2 (j + 1) s b (by omega) (by omega)
            have one : ∀ (j' : Int) (x y z : LenT) (c : Int),(j : Int) = j' → j < 4 → T (fun _ n => bif b then (zbk x).bind fun r => bif r then (zbk y).bind fun r => bif r then (zbk z).bind fun r => bif r then bif decide (c < 65536) then za9 n l (i : Int) s (decide ((-65536) < c)) (w64 (j' + 1)) else za9 n l (i : Int) s false (w64 (j' + 1)) else za9 n l (i : Int) s false (w64 (j' + 1)) else za9 n l (i : Int) s false (w64 (j' + 1)) else za9 n l (i : Int) s false (w64 (j' + 1)) else za9 n l (i : Int) s false (w64 (j' + 1))) fun _ => True := fun j' x y z c e hj =>
              T.bif (fun _ => T.bind yb8 fun _ _ => T.bif (fun _ => T.bind yb8 fun _ _ => T.bif (fun _ => T.bind yb8 fun _ _ => T.bif (fun _ => T.dec (fun _ => nx _ _ e hj) fun _ => nx _ _ e hj) fun _ => nx _ _ e hj) fun _ => nx _ _ e hj) fun _ => nx _ _ e hj) fun _ => nx _ _ e hj
            refine T.step ?_
            unfold za9
            exact T.dec (fun h4 => T.dec (fun e => one _ _ _ _ _ e (by omega)) fun n3 => T.dec (fun e => one _ _ _ _ _ e (by omega)) fun n2 => T.dec (fun e => one _ _ _ _ _ e (by omega)) fun n1 => T.dec (fun e => one _ _ _ _ _ e (by omega)) fun n0 => by omega) fun _ => up b
        have z : ∀ (s : StyT) (b : Bool), T (fun _ n => za9 n l (i : Int) s b 0) fun _ => True := fun s b => k7 _ 0 s b (Nat.le_refl _) (by omega)
        refine T.step ?_
        unfold zds
        refine T.dec (fun hi => T.get (by omega) hi fun r _ => ?_) fun _ => T.some trivial
        exact T.bind yb8 fun _ _ => T.bif (fun _ => T.bind yb8 fun _ _ => T.bif (fun _ => T.dec (fun _ => T.dec (fun _ => T.dec (fun _ => z _ _) fun _ => z _ _) fun _ => z _ _) fun _ => z _ _) fun _ => z _ _) fun _ => z _ _
      · refine T.step ?_
        unfold zds
        exact T.dec (fun _ => by omega) fun _ => T.some trivial
  exact T.diag (F := fun _ n => zp9 n l) (key _ 0 (Nat.le_refl _) (Nat.zero_le _))
theorem yge {b : BoxT} (h : isOut b = true) : isLev b = false := by
  unfold isOut at h
  unfold isLev
  simp only [Bool.or_eq_true, decide_eq_true_eq] at h
  rw [decide_eq_false (by omega), decide_eq_false (by omega), decide_eq_false (by omega)]; rfl
theorem yca {t : TreT} (ht : TrOK t) (h0 : 0 < t.1.length) (hk : TrK t) {ss : List StyT} (hs : ss.length = t.1.length) : T (fun k _ => ref13_Build k t ss) (· = outP ((buildP isLev kdR t.1 ss t.1.length 0 0 0).map fun b => (numB b 0).1)) := by
  have := yf2 ht hk hs t.1.length 0 0 0 (Nat.le_refl _) h0 (Int.le_refl _) (Int.le_refl _)
  unfold ref13_Build Go.Proofs.YteicdfkmpnmkmaaGreat.ref13_Build
  refine T.bindE this ?_
  cases hb : buildP isLev kdR t.1 ss t.1.length 0 0 0 with
  | none => exact T.some rfl
  | some b =>
    have hI := zt6 ht hk (fun b => yge) h0 (e := t.1.length) (fun y hy => by
      obtain ⟨h1, r, hr⟩ := hy.pos
      have := (List.getElem?_eq_some_iff.1 hr).1
      omega) (by omega) hb
    have hn : (ndT b).Nodup := hI.srt.imp fun h e => by omega
    have ha : apartB b = true := decide_eq_true (ky_T b hI.gd hn).1
    show T (fun _ _ => bif apartB b then _ else _) _
    rw [ha]
    exact T.some rfl
def BoxesOK (r : BoxT × Bool) : Prop := r.2 = true → szT r.1 ≤ 1000 ∧ ∀ (i : Nat) x,(allT r.1)[i]? = some x → x.x.2.2.1 = (i : Int)
theorem boxes_T {t : TreT} (hb : BulkT t) {s : ByteArray} : T (fun k _ => zk1 k t s) BoxesOK := by
  have z0 : ∀ k, zju k = some (zBox, false) := fun _ => rfl
  have z1 : ∀ k, zne k = some (zBox, false) := fun _ => rfl
  have no : T (fun _ _ => some (zBox, false)) BoxesOK := T.some (fun h => by cases h)
  unfold zk1
  simp only [z0, z1]
  refine T.dec (fun _ => no) fun hl => T.bind (whole_TT hb) fun r1 hr1 => T.bif (fun _ => no) fun hw => ?_
  obtain ⟨ht, h0, hk⟩ := hr1 (by simpa using hw)
  refine T.bind (brief_T ht.len) fun _ _ => T.bif (fun _ => no) fun _ => T.bind (few_T (by decide)) fun r3 h3 => T.bind (ygg ht (by omega)) fun r4 h4 => T.bif (fun _ => no) fun h4b => ?_
  have hs := h4 (by simpa using h4b)
  refine T.bind (ksmall_T (by omega)) fun _ _ => T.bif (fun _ => no) fun _ => T.bindE (yca ht h0 hk hs) (T.some ?_)
  rw [Tr.eta]
  cases hb : buildP isLev kdR t.1 r4.1 t.1.length 0 0 0 with
  | none => exact fun h => by cases h
  | some b =>
    have hI := zt6 ht hk (fun b => yge) h0 (e := t.1.length) (fun y hy => by
      obtain ⟨h1, r, hr⟩ := hy.pos
      have := (List.getElem?_eq_some_iff.1 hr).1
      omega) (by omega) hb
    have hsz := hI.sz
    intro _
    show szT (numB b 0).1 ≤ 1000 ∧ ∀ (i : Nat) x,(allT (numB b 0).1)[i]? = some x → x.x.2.2.1 = (i : Int)
    refine ⟨by rw [yck]; omega, fun i x hx => ?_⟩
    have := (ydj b 0 (by omega)).2 i x hx
    simpa using this
end Go.V
