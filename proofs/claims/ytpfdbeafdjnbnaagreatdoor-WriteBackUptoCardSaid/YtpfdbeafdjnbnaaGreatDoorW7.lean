/-
  Walks and laws of this seat.
-/
import Derived.Test.YtpfdbeafdjnbnaaGreatDoorW6
namespace Go.Proofs.YtpfdbeafdjnbnaaGreatDoor
set_option linter.unusedVariables false
set_option linter.unusedSimpArgs false
set_option linter.unusedSectionVars false
open Go.RowKit Go.Sl
open Go.V (T)
def blkR (z : Int) : Bool := (decide (z = 9)) || ((decide (z = 10)) || ((decide (z = 12)) || (decide (z = 32))))
def nmR (z : Int) : Bool := (decide (97 ≤ z) && decide (z ≤ 122)) || ((decide (48 ≤ z) && decide (z ≤ 57)) || decide (z = 45))
theorem zr8 {z : Int} (h : nmR z = true) : blkR z = false ∧ z ≠ 47 ∧ z ≠ 61 ∧ z ≠ 62 ∧ ¬ (65 ≤ z ∧ z ≤ 90) := by
  unfold nmR at h
  unfold blkR
  simp only [Bool.or_eq_true, Bool.and_eq_true, decide_eq_true_eq] at h
  refine ⟨?_, by omega, by omega, by omega, by omega⟩
  simp only [Bool.or_eq_false_iff, decide_eq_false_iff_not]; omega
theorem tag1_eq (k : Nat) (z : Int) : zea k z = some (!blkR z && (decide (z ≠ 47) && decide (z ≠ 62))) := by
  unfold zea zdc
  show (bif !blkR z then _ else _) = _
  cases blkR z <;> cases decide (z ≠ 47) <;> rfl
theorem tag2_eq (k : Nat) (z : Int) : ze9 k z = some (!blkR z && (decide (z ≠ 61) && (decide (z ≠ 47) && decide (z ≠ 62)))) := by
  unfold ze9 zcj
  show (bif !blkR z then _ else _) = _
  cases blkR z <;> cases decide (z ≠ 61) <;> cases decide (z ≠ 47) <;> rfl
theorem zum {a : List Int} (ha : ∀ z ∈ a, ¬ (65 ≤ z ∧ z ≤ 90)) (hl : a.length ≤ 100000) : T (fun k _ => zhv k a) (· = textOf a) := by
  have key : ∀ (m j : Nat), a.length - j ≤ m → T (fun _ n => zd8 a n a (j : Int)) (· = textOf a) := by
    intro m
    induction m with
    | zero =>
      intro j h
      refine T.step ?_
      unfold zd8 zhg
      exact T.dec (fun _ => by omega) fun _ => T.some rfl
    | succ m ih =>
      intro j h
      refine T.step ?_
      unfold zd8 zhg zhf
      refine T.dec (fun hj => ?_) fun _ => T.some rfl
      have hj : j < a.length := by omega
      have hz := ha _ (List.getElem_mem hj)
      refine T.getN (List.getElem?_eq_getElem hj) (T.bif (fun h => ?_) fun _ => ?_)
      · simp only [Bool.and_eq_true, decide_eq_true_eq] at h; exact absurd h hz
      · rw [zfd (by omega)]
        exact ih (j + 1) (by omega)
  unfold zhv
  refine T.app (by simp; omega) (by simp; omega) ?_
  rw [List.nil_append]
  exact T.diag (F := fun _ n => zd8 a n a 0) (key _ 0 (Nat.le_refl _))
theorem has_T {al : List zab} {nm : ByteArray} (hl : al.length ≤ 100000) (h : ∀ a ∈ al, a.Name ≠ nm) : T (fun k _ => znc k al nm) (· = false) := by
  have key : ∀ (m j : Nat), al.length - j ≤ m → T (fun _ n => zfk al nm n (j : Int)) (· = false) := by
    intro m
    induction m with
    | zero =>
      intro j h
      refine T.step ?_
      unfold zfk zit
      exact T.dec (fun _ => by omega) fun _ => T.some rfl
    | succ m ih =>
      intro j h'
      refine T.step ?_
      unfold zfk zit
      refine T.dec (fun hj => ?_) fun _ => T.some rfl
      have hj : j < al.length := by omega
      refine T.getN (List.getElem?_eq_getElem hj) (T.dec (fun e => absurd e (h _ (List.getElem_mem hj))) fun _ => ?_)
      rw [zfd (by omega)]
      exact ih (j + 1) (by omega)
  exact T.diag (F := fun _ n => zfk al nm n 0) (key _ 0 (Nat.le_refl _))
structure AtW where
  nm : List Int
  ev : List Int
  val : ByteArray
def AtW.run (a : AtW) : List Int := 32 :: a.nm ++ (61 :: 34 :: a.ev ++ [34])
def AtW.at_ (a : AtW) : zab := { Name := textOf a.nm, Value := a.val }
structure AtW.OK (a : AtW) : Prop where
  ne : a.nm ≠ []
  nm : ∀ z ∈ a.nm, nmR z = true
  ev : ∀ z ∈ a.ev, z ≠ 34
  un : T (fun k _ => zdl k (textOf a.ev)) (· = a.val)
section
variable {l : List Int} {out : List za6} (hl : l.length ≤ 100000)
include hl
omit hl in
theorem dpAt {i : Nat} {x : Int} {r : List Int} (h : l.drop i = x :: r) : l[i]? = some x ∧ l.drop (i + 1) = r ∧ i < l.length := by
  have h1 : (l.drop i)[0]? = some x := by rw [h]; rfl
  rw [List.getElem?_drop] at h1
  refine ⟨h1, ?_,(List.getElem?_eq_some_iff.1 h1).1⟩
  have := congrArg (List.drop 1) h
  rw [List.drop_drop] at this
  exact this
omit hl in
theorem dpApp {i : Nat} {a r : List Int} (h : l.drop i = a ++ r) (hi : i ≤ l.length) : l.drop (i + a.length) = r ∧ i + a.length ≤ l.length := by
  have h1 := congrArg (List.drop a.length) h
  rw [List.drop_drop, List.drop_left] at h1
  refine ⟨h1, ?_⟩
  have := congrArg List.length h
  rw [List.length_drop, List.length_append] at this; omega
theorem value_T {i : Nat} {v r : List Int} (h : l.drop i = 34 :: v ++ 34 :: r) (hv : ∀ z ∈ v, z ≠ 34) : T (fun k _ => zf6 k (ctr l i out)) (· = (textOf v, true, ctr l (i + v.length + 2) out)) := by
  obtain ⟨h1, h2, h3⟩ := dpAt (r := v ++ 34 :: r) h
  unfold zf6
  refine T.bind (P := (· = 34)) (T.all fun k n => by have := zj6 (out := out) hl (by omega) k 0 (by omega) (i := i); rw [show ((0 : Nat) : Int) = 0 from rfl] at this; rw [this]; unfold pk; rw [Nat.add_zero, h1]) fun q hq => ?_
  subst hq
  refine T.bif (fun h => by simp at h) fun _ => T.bind (P := (· = ((34 : Int), true, cur l (i + 1)))) (T.all fun k n => zir hl (by omega) k h1) fun q hq => ?_
  subst hq
  refine T.bind (znj (i := i + 1) (out := out) (p := fun z => decide (z ≠ 34)) (f := fun k z => zfl k z 34) hl (by omega) (fun k z => rfl) h2 (fun z hz => decide_eq_true (hv z hz)) (fun x hx => by cases hx; rfl)) fun q hq => ?_
  subst hq
  obtain ⟨h4, h5⟩ := dpApp h2 (by omega)
  obtain ⟨h6, h7, h8⟩ := dpAt h4
  refine T.bind (P := (· = ((34 : Int), true, cur l (i + 1 + v.length + 1)))) (T.all fun k n => zir hl (by omega) k h6) fun q hq => ?_
  subst hq
  refine T.some ?_
  rw [show i + v.length + 2 = i + 1 + v.length + 1 by omega]
def tgT (kind : Int) (nm : ByteArray) (al : List zab) : za6 := { Kind := kind, Name := nm, Text := bs [], Attrs := al, Closed := false }
omit hl in
theorem T.ev {α : Type} {F G : Nat → Nat → Option α} {Q : α → Prop} (h : ∀ k n,2 ≤ k → F k n = G k n) (g : T G Q) : T F Q := by
  obtain ⟨r, h1, K, h2⟩ := g
  exact ⟨r, h1, K + 2, fun k n hk hn => by rw [h k n (by omega)]; exact h2 k n (by omega) (by omega)⟩
section
variable {n : Nat} {nm : ByteArray} {al : List zab} {g0 : (List Int) → Int → (List za6) → ByteArray → (List zab) → Bool → zab → Option (za6 × Bool × zag)} {g1 : ByteArray → (List zab) → Bool → (List Int) → Int → (List za6) → Option (za6 × Bool × zag)} {i m : Nat} {c : Bool} {z : Int}
omit hl in
theorem l6_end (h1 : blkR z = false) (h2 : z ≠ 47) : zbf n out nm al g0 g1 (m + 1) l (i : Int) c z = zcl n out nm al g0 g1 l (i : Int) c := by
  unfold zbf zdy
  show (bif blkR z then _ else _) = _
  rw [h1, cond_false, decide_eq_false h2, cond_false]
theorem l6_blank (hx : l[i]? = some 32) : zbf n out nm al g0 g1 (m + 1) l (i : Int) c 32 = zbf n out nm al g0 g1 m l ((i + 1 : Nat) : Int) false (pk l (i + 1)).1 := by
  have hi := (List.getElem?_eq_some_iff.1 hx).1
  rw [zbf]
  unfold zdy
  show (zar n (cur l i)).bind _ = _
  rw [zir hl (by omega) n hx, Option.bind_some]
  have := zj6 (out := out) hl (i := i + 1) (by omega) n 0 (by omega)
  show (zbg n (ctr l (i + 1) out) 0).bind _ = _
  rw [show (0 : Int) = ((0 : Nat) : Int) from rfl, this, Option.bind_some]
  rfl
end
theorem zuq {i : Nat} (hi : i ≤ l.length) {x : Int} (h1 : l[i]? = some x) : T (fun k _ => zbg k (ctr l i out) 0) (· = x) := T.all fun k n => by
  have := zj6 (out := out) hl hi k 0 (by omega)
  rw [show ((0 : Nat) : Int) = 0 from rfl] at this
  rw [this]; unfold pk; rw [Nat.add_zero, h1]
theorem attrs_T {kind : Int} (hk : kind = 2 ∨ kind = 3) {nm : ByteArray} {r : List Int} : ∀ (ws : List AtW) (i : Nat) (al : List zab) (c0 : Bool) (a0 : zab), l.drop i = ws.flatMap AtW.run ++ 62 :: r → i ≤ l.length → (∀ a ∈ ws, a.OK) → al.length + ws.length ≤ 64 → (al ++ ws.map AtW.at_).Pairwise (fun a b => a.Name ≠ b.Name) → (kind = 3 → al = [] ∧ ws = []) →
    T (fun k n => zau k kind n l (i : Int) out nm al c0 a0) (· = (tgT kind nm (al ++ ws.map AtW.at_), true, ctr l (i + (ws.flatMap AtW.run).length + 1) out)) := by
  intro ws
  induction ws with
  | nil =>
    intro i al c0 a0 h hi _ _ _ h3
    obtain ⟨h1, h2, h4⟩ := dpAt (r := r) h
    refine T.step ?_
    unfold zau
    refine T.bind (zuq hl hi h1) fun q hq => ?_
    subst hq
    refine T.ev (G := fun k n => zcl k out nm al (zau k kind n) (zbe k kind n) l (i : Int) false) (fun k n hk => by obtain ⟨m, rfl⟩ : ∃ m, k = m + 1 := ⟨k - 1, by omega⟩; exact l6_end rfl (by decide)) ?_
    unfold zcl
    refine T.bind (P := (· = ((62 : Int), true, cur l (i + 1)))) (T.all fun k n => zir hl hi k h1) fun q hq => ?_
    subst hq
    refine T.bif (fun h => by simp at h) fun _ => T.dec (fun _ => T.step ?_) fun h => absurd rfl h
    unfold zbe
    simp only [List.map_nil, List.append_nil, List.flatMap_nil, List.length_nil, Nat.add_zero]
    refine T.dec (fun e => T.some ?_) fun e => T.some rfl
    obtain ⟨e2, _⟩ := h3 e
    subst e e2; rfl
  | cons a ws ih =>
    intro i al c0 a0 h hi hok hlen hpw h3
    have ha := hok a (List.mem_cons_self ..)
    have hk2 : kind ≠ 3 := fun e => by have := (h3 e).2; cases this
    obtain ⟨z, nm', hnm⟩ : ∃ z nm', a.nm = z :: nm' := by
      cases e : a.nm with
      | nil => exact absurd e ha.ne
      | cons z nm' => exact ⟨z, nm', rfl⟩
    have hz := zr8 (ha.nm z (by rw [hnm]; exact List.mem_cons_self ..))
    have e0 : l.drop i = 32 :: (z :: nm' ++ (61 :: 34 :: a.ev ++ 34 :: (ws.flatMap AtW.run ++ 62 :: r))) := by
      rw [h, List.flatMap_cons]; unfold AtW.run; rw [hnm]; simp
    obtain ⟨h1, h2, h4⟩ := dpAt e0
    obtain ⟨h5, h6, h7⟩ := dpAt (x := z) (r := nm' ++ (61 :: 34 :: a.ev ++ 34 :: (ws.flatMap AtW.run ++ 62 :: r))) h2
    refine T.step ?_
    unfold zau
    refine T.bind (zuq hl hi h1) fun q hq => ?_
    subst hq
    refine T.ev (G := fun k n => zcl k out nm al (zau k kind n) (zbe k kind n) l ((i + 1 : Nat) : Int) false) (fun k n hk => by
      obtain ⟨m, rfl⟩ : ∃ m, k = m + 2 := ⟨k - 2, by omega⟩
      rw [l6_blank hl h1]
      have e : (pk l (i + 1)).1 = z := by unfold pk; rw [h5]
      rw [e]
      exact l6_end hz.1 hz.2.1) ?_
    unfold zcl
    refine T.bind (P := (· = (z, true, cur l (i + 1 + 1)))) (T.all fun k n => zir hl (by omega) k h5) fun q hq => ?_
    subst hq
    refine T.bif (fun h => by simp at h) fun _ => T.dec (fun e => absurd e hz.2.2.2.1) fun _ => ?_
    have hnm' : ∀ y ∈ nm', nmR y = true := fun y hy => ha.nm y (by rw [hnm]; exact List.mem_cons_of_mem _ hy)
    refine T.bind (znj (i := i + 1 + 1) (out := out) (p := fun z => !blkR z && (decide (z ≠ 61) && (decide (z ≠ 47) && decide (z ≠ 62)))) (f := fun k z => ze9 k z) hl (by omega) (fun k z => tag2_eq k z) h6 (fun y hy => ?_) (fun x hx => by cases hx; rfl)) fun q hq => ?_
    · have := zr8 (hnm' y hy)
      simp only [this.1, Bool.not_false, Bool.true_and, Bool.and_eq_true, decide_eq_true_eq]
      exact ⟨this.2.2.1, this.2.1, this.2.2.2.1⟩
    subst hq
    obtain ⟨h8, h9⟩ := dpApp h6 (by omega)
    obtain ⟨g1, g2, g3⟩ := dpAt (x := 61) (r := 34 :: a.ev ++ 34 :: (ws.flatMap AtW.run ++ 62 :: r)) h8
    refine T.app (by simp; omega) (by simp; omega) ?_
    rw [show [z] ++ nm' = a.nm by rw [hnm]; rfl]
    have hnl : a.nm.length = nm'.length + 1 := by rw [hnm]; rfl
    refine T.bind (zum (fun y hy => (zr8 (ha.nm y hy)).2.2.2.2) (by omega)) fun q hq => ?_
    subst hq
    refine T.bind (znj (i := i + 1 + 1 + nm'.length) (out := out) (p := blkR) (f := fun k z => zgi k z) (a := []) hl h9 (fun k z => rfl) h8 (by simp) (fun x hx => by cases hx; rfl)) fun q hq => ?_
    subst hq
    refine T.bind (is1_T (i := i + 1 + 1 + nm'.length) (out := out) (c := 61) hl h9 (by decide)) fun q hq => ?_
    subst hq
    refine T.bif (fun _ => ?_) fun h => by
      rw [show decide (l[i + 1 + 1 + nm'.length]? = some ((61 : UInt8).toNat : Int)) = true from decide_eq_true g1] at h; cases h
    refine T.bind (P := (· = ((61 : Int), true, cur l (i + 1 + 1 + nm'.length + 1)))) (T.all fun k n => zir hl h9 k g1) fun q hq => ?_
    subst hq
    refine T.bind (znj (i := i + 1 + 1 + nm'.length + 1) (out := out) (p := blkR) (f := fun k z => zgi k z) (a := []) hl (by omega) (fun k z => rfl) g2 (by simp) (fun x hx => by cases hx; rfl)) fun q hq => ?_
    subst hq
    refine T.bind (value_T (i := i + 1 + 1 + nm'.length + 1) (out := out) hl g2 ha.ev) fun q hq => ?_
    subst hq
    refine T.bif (fun h => by simp at h) fun _ => T.bind ha.un fun q hq => ?_
    subst hq
    unfold zev zeu zet
    have hal : al.length < 64 := by simp at hlen; omega
    have hnew : ∀ b ∈ al, b.Name ≠ textOf a.nm := fun b hb => (List.pairwise_append.1 hpw).2.2 b hb a.at_ (by simp)
    refine T.dec (fun _ => T.bind (has_T (by omega) hnew) fun q hq => ?_) fun h => absurd (show (al.length : Int) < 64 by omega) h
    subst hq
    refine T.bif (fun _ => T.app (by simp; omega) (by simp; omega) ?_) fun h => by simp at h
    obtain ⟨k1, k2⟩ := dpApp (a := 34 :: a.ev ++ [34]) (r := ws.flatMap AtW.run ++ 62 :: r) (by rw [g2]; simp) (show i + 1 + 1 + nm'.length + 1 ≤ l.length by omega)
    have e1 : i + 1 + 1 + nm'.length + 1 + (34 :: a.ev ++ [34]).length = i + 1 + 1 + nm'.length + 1 + a.ev.length + 2 := by simp; omega
    rw [e1] at k1 k2
    refine (ih (i + 1 + 1 + nm'.length + 1 + a.ev.length + 2) (al ++ [a.at_]) false { Name := textOf a.nm, Value := a.val } k1 k2 (fun b hb => hok b (List.mem_cons_of_mem _ hb)) (by simp at hlen ⊢; omega) (by simpa using hpw) (fun e => absurd e hk2)).mono fun q hq => ?_
    rw [hq]
    have e2 : (a.run).length = a.nm.length + a.ev.length + 4 := by unfold AtW.run; simp; omega
    rw [List.flatMap_cons, List.length_append, e2, List.map_cons]
    rw [show al ++ [a.at_] ++ ws.map AtW.at_ = al ++ a.at_ :: ws.map AtW.at_ by simp]
    rw [show i + 1 + 1 + nm'.length + 1 + a.ev.length + 2 + (ws.flatMap AtW.run).length + 1 = i + (a.nm.length + a.ev.length + 4 + (ws.flatMap AtW.run).length) + 1 by omega]
theorem tag_T {kind : Int} (hk : kind = 2 ∨ kind = 3) {nr r : List Int} {ws : List AtW} {i : Nat} (h : l.drop i = nr ++ (ws.flatMap AtW.run ++ 62 :: r)) (hi : i ≤ l.length) (hn : ∀ z ∈ nr, nmR z = true) (hok : ∀ a ∈ ws, a.OK) (hlen : ws.length ≤ 64) (hpw : (ws.map AtW.at_).Pairwise (fun a b => a.Name ≠ b.Name)) (h3 : kind = 3 → ws = []) :
    T (fun k _ => zf7 k (ctr l i out) kind) (· = (tgT kind (textOf nr) (ws.map AtW.at_), true, ctr l (i + nr.length + (ws.flatMap AtW.run).length + 1) out)) := by
  unfold zf7
  refine T.bind (znj (out := out) (p := fun z => !blkR z && (decide (z ≠ 47) && decide (z ≠ 62))) (f := fun k z => zea k z) hl hi (fun k z => tag1_eq k z) h (fun y hy => ?_) (fun x hx => ?_)) fun q hq => ?_
  · have := zr8 (hn y hy)
    simp only [this.1, Bool.not_false, Bool.true_and, Bool.and_eq_true, decide_eq_true_eq]
    exact ⟨this.2.1, this.2.2.2.1⟩
  · cases ws with
    | nil => cases hx; rfl
    | cons a ws => cases hx; rfl
  subst hq
  obtain ⟨h8, h9⟩ := dpApp h hi
  refine T.bind (zum (fun y hy => (zr8 (hn y hy)).2.2.2.2) (by show nr.length ≤ _; omega)) fun q hq => ?_
  subst hq
  have := attrs_T (out := out) hl hk (nm := textOf nr) ws (i + nr.length) [] false { Name := bs [], Value := bs [] } h8 h9 hok (by simpa using hlen) (by simpa using hpw) (fun e => ⟨rfl, h3 e⟩)
  exact T.diag (F := fun k n => zau k kind n l ((i + nr.length : Nat) : Int) out (textOf nr) [] false { Name := bs [], Value := bs [] }) this
end
end Go.Proofs.YtpfdbeafdjnbnaaGreatDoor
