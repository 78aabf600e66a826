/-
  Walks and laws of this seat.
-/
import Derived.Test.YtdjjeahiomackaaGreatTc
namespace Go.V
set_option linter.unusedVariables false
set_option linter.unusedSimpArgs false
set_option linter.unusedSectionVars false
section
open Go.RowKit Go.Sl
theorem T.bindE {α β : Type} {m : Nat → Nat → Option α} {a : α} {G : Nat → Nat → α → Option β} {Q : β → Prop} (h : T m (· = a)) (g : T (fun k n => G k n a) Q) : T (fun k n => (m k n).bind fun r => G k n r) Q := T.bind h fun r e => e ▸ g
theorem T.ofE {α : Type} {m : Option α} {a : α} (h : m = Option.some a) : T (fun _ _ => m) (· = a) := T.of h rfl
theorem zkw : ∀ (xs : List Int) (s : ByteArray), xs.foldl (fun s r => s ++ Utf8.encode r) s = s ++ textOf xs
  | [], s => by simp [textOf]
  | x :: xs, s => by
    rw [textOf, List.foldl_cons, List.foldl_cons, zkw xs, zkw xs]
    simp [ByteArray.append_assoc]
theorem zrj (x : Int) (xs : List Int) : textOf (x :: xs) = Utf8.encode x ++ textOf xs := by
  rw [textOf, List.foldl_cons, zkw]
  simp
theorem zsp (x : Int) : (Utf8.encode x).size ≤ 4 := by
  simp only [Utf8.encode]
  repeat' split
  all_goals simp [ByteArray.size]
theorem zu2 {l : List Int} (hl : (l.length : Int) ≤ 1000000000) : T (fun k _ => zgq k l) fun _ => True := by
  have key : ∀ (m : Nat) (i : Int) (v : List Int), l.length - i.toNat ≤ m → 0 ≤ i → i ≤ l.length → (v.length : Int) ≤ i → T (fun _ n => zcc n l v i) fun _ => True := by
    intro m
    induction m with
    | zero =>
      intro i v h h0 h1 hv
      refine T.step ?_
      unfold zcc
      refine T.dec (fun _ => ?_) (fun _ => T.some trivial)
      omega
    | succ m ih =>
      intro i v h h0 h1 hv
      refine T.step ?_
      unfold zcc
      refine T.dec (fun _ => ?_) (fun _ => T.some trivial)
      rw [w64i (by omega)]
      have nx : ∀ x : Int, T (fun _ n => (appM 4 v [x]).bind fun r => zcc n l r (i + 1)) fun _ => True := fun x =>
        T.app (by simp; omega) (by simp; omega) (ih _ _ (by omega) (by omega) (by omega) (by simp; omega))
      refine T.get h0 (by omega) fun r _ => T.dec (fun _ => T.dec (fun _ => nx _) fun _ => nx _) fun _ => nx _
  exact T.diag (key _ 0 [] (Nat.le_refl _) (by omega) (by omega) (by simp))
theorem zkd {r : Int} : T (fun _ _ => zer r) fun _ => True := by
  unfold zer
  exact T.dec (fun _ => T.some trivial) fun _ => T.dec (fun _ => T.some trivial) fun _ => T.dec (fun _ => T.some trivial) fun _ => T.some trivial
end
section
set_option maxRecDepth 100000
open Go.RowKit Go.Sl
theorem znn {r : Int} : T (fun _ _ => zfw r) fun _ => True := by
  unfold zfw
  exact T.dec (fun _ => T.dec (fun _ => T.some trivial) fun _ => T.dec (fun _ => T.some trivial) fun _ => T.some trivial) fun _ => T.dec (fun _ => T.some trivial) fun _ => T.some trivial
theorem zr8 {l : List Int} (hl : (l.length : Int) ≤ 1000000000) {i : Int} (h0 : 0 ≤ i) (h1 : i ≤ l.length) : T (fun k _ => zj4 k l i) fun j => i ≤ j ∧ j ≤ l.length := by
  have key : ∀ (m : Nat) (j : Int), l.length - j.toNat ≤ m → i ≤ j → j ≤ l.length → T (fun _ n => zfa n l j) fun r => i ≤ r ∧ r ≤ l.length := by
    intro m
    induction m with
    | zero =>
      intro j h g0 g1
      refine T.step ?_
      unfold zfa
      exact T.dec (fun _ => by omega) fun _ => T.some ⟨g0, g1⟩
    | succ m ih =>
      intro j h g0 g1
      refine T.step ?_
      unfold zfa
      rw [w64i (by omega)]
      exact T.dec (fun hj => T.get (by omega) hj fun _ _ => T.bind zkd fun _ _ => T.bif (fun _ => ih _ (by omega) (by omega) (by omega)) fun _ => T.some ⟨g0, g1⟩) fun _ => T.some ⟨g0, g1⟩
  exact T.diag (F := fun _ n => zj3 n l i) (key _ i (Nat.le_refl _) (Int.le_refl _) h1)
theorem is4_T {l : List Int} (hl : (l.length : Int) ≤ 1000000000) {i : Int} (h0 : 0 ≤ i) (h1 : i ≤ l.length) {s : ByteArray} (hs : s.size ≤ 1000000000) : T (fun k _ => znf k l i s) fun b => b = true → i + s.size ≤ l.length := by
  have key : ∀ (m : Nat) (j : Int), s.size - j.toNat ≤ m → 0 ≤ j → j ≤ s.size → i + j ≤ l.length → T (fun _ n => zir n l i s j) fun b => b = true → i + s.size ≤ l.length := by
    intro m
    induction m with
    | zero =>
      intro j h g0 g1 g2
      refine T.step ?_
      unfold zir
      exact T.dec (fun _ => by omega) fun _ => T.some fun _ => by omega
    | succ m ih =>
      intro j h g0 g1 g2
      refine T.step ?_
      unfold zir
      rw [w64i (i := i + j) (by omega), w64i (i := j + 1) (by omega)]
      refine T.dec (fun hj => T.dec (fun _ => T.some (by simp)) fun h3 => T.get (by omega) (by omega) fun _ _ => ?_) fun _ => T.some fun _ => by omega
      unfold getS
      exact T.get g0 (by rw [zbi]; exact hj) fun _ _ => T.dec (fun _ => T.some (by simp)) fun _ => ih _ (by omega) (by omega) (by omega) (by omega)
  exact T.diag (F := fun _ n => zne n l i s) (key _ 0 (Nat.le_refl _) (by omega) (by omega) (by omega))
theorem zr9 {l : List Int} (hl : (l.length : Int) ≤ 1000000000) {i : Int} (h0 : 0 ≤ i) (h1 : i ≤ l.length) {s : ByteArray} (hs : s.size ≤ 1000000000) : T (fun k _ => zj6 k l i s) fun j => i ≤ j ∧ j ≤ l.length ∧ (1 ≤ s.size → i < l.length → i < j) := by
  have key : ∀ (m : Nat) (j : Int), l.length - j.toNat ≤ m → i ≤ j → j ≤ l.length → T (fun k n => zfb k n l j s) fun r => i ≤ r ∧ r ≤ l.length ∧ (1 ≤ s.size → i < l.length → i < r) := by
    intro m
    induction m with
    | zero =>
      intro j h g0 g1
      refine T.step ?_
      unfold zfb
      exact T.dec (fun _ => by omega) fun _ => T.some ⟨by omega, by omega, fun _ _ => by omega⟩
    | succ m ih =>
      intro j h g0 g1
      refine T.step ?_
      unfold zfb
      refine T.dec (fun hj => T.bind (is4_T hl (by omega) g1 hs) fun b hb => T.bif (fun e => T.some ?_) fun _ => ?_) fun _ => T.some ⟨by omega, by omega, fun _ _ => by omega⟩
      · have := hb e
        rw [w64i (by omega)]; exact ⟨by omega, by omega, fun _ _ => by omega⟩
      · rw [w64i (by omega)]
        exact ih _ (by omega) (by omega) (by omega)
  exact T.diag (F := fun k n => zj5 k n l i s) (key _ i (Nat.le_refl _) (Int.le_refl _) h1)
theorem zra {l : List Int} (hl : (l.length : Int) ≤ 1000000000) {i : Int} (h0 : 0 ≤ i) (h1 : i < l.length) : T (fun _ _ => zfx l i) fun b => b = true → i + 1 < l.length := by
  unfold zfx
  refine T.get h0 h1 fun _ _ => T.dec (fun _ => T.some (by simp)) fun _ => ?_
  rw [w64i (by omega)]
  refine T.dec (fun _ => T.some (by simp)) fun h2 => T.get (by omega) (by omega) fun _ _ => T.bind znn fun _ _ => ?_
  exact T.bif (fun _ => T.some fun _ => by omega) fun _ => T.dec (fun _ => T.some fun _ => by omega) fun _ => T.dec (fun _ => T.some fun _ => by omega) fun _ => T.some fun _ => by omega
theorem add4_T {l : List AttT} (hl : (l.length : Int) ≤ 64) {x : AttT} : T (fun k _ => zpb k l x) fun r => (r.length : Int) ≤ 64 := by
  have key : ∀ (m : Nat) (j : Int), l.length - j.toNat ≤ m → 0 ≤ j → j ≤ l.length → T (fun _ n => zhp n l x j) fun r => (r.length : Int) ≤ 64 := by
    intro m
    have fin : T (fun _ _ => bif decide (64 ≤ (l.length : Int)) then some l else ((appM 32 l ([x])).bind fun r3 => some r3)) fun r => (r.length : Int) ≤ 64 := T.dec (fun _ => T.some hl) fun h => T.app (by simp; omega) (by simp; omega) (T.some (by simp; omega))
    induction m with
    | zero =>
      intro j h g0 g1
      refine T.step ?_
      unfold zhp
      exact T.dec (fun _ => by omega) fun _ => fin
    | succ m ih =>
      intro j h g0 g1
      refine T.step ?_
      unfold zhp
      rw [w64i (by omega)]
      exact T.dec (fun hj => T.get g0 hj fun _ _ => T.get g0 hj fun _ _ => T.dec (fun _ => T.some hl) fun _ => ih _ (by omega) (by omega) (by omega)) fun _ => fin
  exact T.diag (F := fun _ n => zm6 n l x) (key _ 0 (Nat.le_refl _) (by omega) (by omega))
theorem zsu {a b : Int} : T (fun _ _ => zho a b) fun _ => True := by
  have k1 : ∀ y, T (fun _ _ => zga y a b) fun _ => True := fun y => by
    unfold zga
    exact T.dec (fun _ => T.dec (fun _ => T.dec (fun _ => T.some trivial) fun _ => T.some trivial) fun _ => T.dec (fun _ => T.some trivial) fun _ => T.some trivial) fun _ => T.dec (fun _ => T.some trivial) fun _ => T.some trivial
  have k0 : ∀ y, T (fun _ _ => zgb y a b) fun _ => True := fun y => by
    unfold zgb
    exact T.dec (fun _ => T.dec (fun _ => k1 _) fun _ => k1 _) fun _ => k1 _
  unfold zho
  exact T.dec (fun _ => T.dec (fun _ => k0 _) fun _ => k0 _) fun _ => k0 _
end
section
set_option maxRecDepth 100000
open Go.RowKit Go.Sl
theorem T.getSb {s : ByteArray} {i : Int} {β : Type} {G : Nat → Nat → Int → Option β} {Q : β → Prop} (h0 : 0 ≤ i) (h1 : i < s.size) (g : ∀ r, T (fun k n => G k n r) Q) : T (fun k n => (getS s i).bind fun r => G k n r) Q := by
  unfold getS
  exact T.get h0 (by rw [zbi]; exact h1) fun r _ => g r
theorem T.cutSb {s : ByteArray} {a b : Int} {β : Type} {G : Nat → Nat → ByteArray → Option β} {Q : β → Prop} (h0 : 0 ≤ a) (h1 : a ≤ b) (h2 : b ≤ s.size) (g : ∀ r : ByteArray, r.size = (b - a).toNat → T (fun k n => G k n r) Q) : T (fun k n => (cutS s a b).bind fun r => G k n r) Q := by
  have e : cutS s a b = Option.some (s.extract a.toNat b.toNat) := by
    have q : (decide ((0 : Int) ≤ a) && decide (a ≤ b) && decide (b ≤ (s.size : Int))) = true := by
      rw [decide_eq_true h0, decide_eq_true h1, decide_eq_true h2]; rfl
    unfold cutS
    rw [q]; rfl
  refine T.bind (T.of (P := fun r => r.size = (b - a).toNat) e ?_) g
  rw [ByteArray.size_extract]; omega
def RefOK (s : ByteArray) (i : Int) (r : ByteArray × Int) : Prop := 0 < r.2 → i < r.2 ∧ r.2 ≤ s.size ∧ r.1.size ≤ 4
theorem textOf1 {x : Int} : (textOf [x]).size ≤ 4 := by
  have : textOf [x] = Utf8.encode x := by
    show ByteArray.empty ++ Utf8.encode x = _
    simp
  rw [this]
  simp only [Utf8.encode]
  repeat' split
  all_goals simp [ByteArray.size]
theorem zqg {s : ByteArray} (hs : (s.size : Int) ≤ 1000000000) {i : Int} (h0 : 0 ≤ i) (h1 : i < s.size) : T (fun k _ => zie k s i) (RefOK s i) := by
  have no : RefOK s i (bs [],0) := fun h => absurd h (by decide)
  have c0 : ∀ p q v : Int, i < p → p ≤ s.size → T (fun _ _ => zdc p q s v) (RefOK s i) := fun p q v hp hp2 => by
    unfold zdc
    rw [w64i (i := p + 1) (by omega)]
    have ok : ∀ x : Int, p < s.size → RefOK s i (textOf [x], p + 1) := fun x h _ => ⟨by show i < p + 1; omega, by show p + 1 ≤ s.size; omega, textOf1⟩
    refine T.dec (fun _ => T.some no) fun _ => T.dec (fun _ => T.some no) fun _ => T.dec (fun _ => T.some no) fun h3 => T.getSb (by omega) (by omega) fun _ => T.dec (fun _ => T.some no) fun _ => ?_
    exact T.dec (fun _ => T.some (ok _ (by omega))) fun _ => T.dec (fun _ => T.some (ok _ (by omega))) fun _ => T.dec (fun _ => T.dec (fun _ => T.some (ok _ (by omega))) fun _ => T.some (ok _ (by omega))) fun _ => T.some (ok _ (by omega))
  have k17 : ∀ (m : Nat) (p b q v : Int), s.size - p.toNat ≤ m → i < p → p ≤ s.size → T (fun _ n => zay n s p b q v) (RefOK s i) := by
    intro m
    induction m with
    | zero =>
      intro p b q v h hp hp2
      refine T.step ?_
      unfold zay
      exact T.dec (fun _ => by omega) fun _ => c0 _ _ _ hp hp2
    | succ m ih =>
      intro p b q v h hp hp2
      refine T.step ?_
      unfold zay
      rw [w64i (i := p + 1) (by omega)]
      exact T.dec (fun hl => T.getSb (by omega) hl fun _ => T.bind zsu fun _ _ => T.dec (fun _ => T.dec (fun _ => T.getSb (by omega) hl fun _ => T.bind zsu fun _ _ => ih _ _ _ _ (by omega) (by omega) (by omega)) fun _ => c0 _ _ _ hp hp2) fun _ => c0 _ _ _ hp hp2) fun _ => c0 _ _ _ hp hp2
  have k4 : ∀ (u v : List ByteArray), u.length = v.length → u.length ≤ 10 → (∀ x ∈ u,1 ≤ x.size ∧ x.size ≤ 10) → (∀ x ∈ v, x.size ≤ 4) → ∀ (m : Nat) (j : Int), u.length - j.toNat ≤ m → 0 ≤ j → j ≤ u.length → T (fun _ n => zd8 n s i u v j) (RefOK s i) := by
    intro u v hl hl2 hu hv m
    have fin : ∀ j, ¬ j < (u.length : Int) → T (fun _ n => bif decide ((s.size : Int) ≤ (w64 (i + 1))) then some (bs [],0) else (getS s (w64 (i + 1))).bind fun r7 => bif decide (r7 ≠ 35) then some (bs [],0) else bif decide ((w64 (i + 2)) < (s.size : Int)) then (getS s (w64 (i + 2))).bind fun r8 => bif decide (r8 = 120) then zay n s (w64 ((w64 (i + 2)) + 1)) 16 (w64 ((w64 (i + 2)) + 1)) 0 else (getS s (w64 (i + 2))).bind fun r9 => bif decide (r9 = 88) then zay n s (w64 ((w64 (i + 2)) + 1)) 16 (w64 ((w64 (i + 2)) + 1)) 0 else zay n s (w64 (i + 2)) 10 (w64 (i + 2)) 0 else zay n s (w64 (i + 2)) 10 (w64 (i + 2)) 0) (RefOK s i) := fun j _ => by
      rw [w64i (i := i + 1) (by omega), w64i (i := i + 2) (by omega), w64i (i := i + 2 + 1) (by omega)]
      exact T.dec (fun _ => T.some no) fun h2 => T.getSb (by omega) (by omega) fun _ => T.dec (fun _ => T.some no) fun _ => T.dec (fun h3 => T.getSb (by omega) h3 fun _ => T.dec (fun _ => k17 _ _ _ _ _ (Nat.le_refl _) (by omega) (by omega)) fun _ => T.getSb (by omega) h3 fun _ => T.dec (fun _ => k17 _ _ _ _ _ (Nat.le_refl _) (by omega) (by omega)) fun _ => k17 _ _ _ _ _ (Nat.le_refl _) (by omega) (by omega)) fun _ => k17 _ _ _ _ _ (Nat.le_refl _) (by omega) (by omega)
    induction m with
    | zero =>
      intro j h g0 g1
      refine T.step ?_
      unfold zd8
      exact T.dec (fun _ => by omega) fun hj => fin j hj
    | succ m ih =>
      intro j h g0 g1
      refine T.step ?_
      unfold zd8
      refine T.dec (fun hj => ?_) fun hj => fin j hj
      rw [w64i (i := j + 1) (by omega), w64i (i := (s.size : Int) - i) (by omega)]
      have nx := ih (j + 1) (by omega) (by omega) (by omega)
      refine T.get g0 hj fun x hx => T.dec (fun hx2 => T.get g0 hj fun y hy => ?_) fun _ => nx
      rw [hx] at hy; cases hy
      have hxs := hu x (List.mem_of_getElem? hx)
      rw [w64i (by omega)]
      refine T.cutSb h0 (by omega) (by omega) fun _ _ => T.get g0 hj fun _ _ => T.dec (fun _ => T.get g0 (by omega) fun z hz => T.get g0 hj fun y hy => ?_) fun _ => nx
      rw [hx] at hy; cases hy
      rw [w64i (by omega)]
      exact T.some fun _ => ⟨by show i < i + (x.size : Int); omega, by show i + (x.size : Int) ≤ s.size; omega, hv z (List.mem_of_getElem? hz)⟩
  refine T.diag (F := fun _ n => zfo n s i) ?_
  unfold zfo
  exact k4 _ _ (by decide) (by decide) (by decide) (by decide) _ 0 (Nat.le_refl _) (by omega) (by decide)
theorem zn9 {s : ByteArray} (hs : (s.size : Int) ≤ 100000000) : T (fun k _ => zef k s) fun r => r.size ≤ 4 * s.size := by
  have key : ∀ (m : Nat) (v : List Int) (j : Int), s.size - j.toNat ≤ m → 0 ≤ j → j ≤ s.size → (v.length : Int) ≤ 4 * j → T (fun k n => zcl k n s v j) fun r => r.size ≤ 4 * s.size := by
    intro m
    have fin : ∀ (v : List Int) (j : Int), j ≤ s.size → (v.length : Int) ≤ 4 * j → (bytesOf v).size ≤ 4 * s.size := fun v j h1 h2 => by
      have : (bytesOf v).size = v.length := by simp [bytesOf, ByteArray.size]
      rw [this]; omega
    induction m with
    | zero =>
      intro v j h g0 g1 hv
      refine T.step ?_
      unfold zcl
      exact T.dec (fun _ => by omega) fun _ => T.some (fin v j g1 hv)
    | succ m ih =>
      intro v j h g0 g1 hv
      refine T.step ?_
      unfold zcl
      refine T.dec (fun hj => ?_) fun _ => T.some (fin v j g1 hv)
      have c0 : T (fun k n => zeu k (zcl k n) s j v) fun r => r.size ≤ 4 * s.size := by
        unfold zeu
        rw [w64i (by omega)]
        exact T.getSb g0 hj fun _ => T.app (by simp; omega) (by simp; omega) (ih _ _ (by omega) (by omega) (by omega) (by simp; omega))
      refine T.getSb g0 hj fun _ => T.dec (fun _ => T.bind (zqg (by omega) g0 hj) fun r hr => T.dec (fun hr2 => ?_) fun _ => c0) fun _ => c0
      obtain ⟨r1, r2, r3⟩ := hr hr2
      have hbl := zbi r.1
      exact T.app (by rw [hbl]; omega) (by rw [hbl]; omega) (ih _ _ (by omega) (by omega) (by omega) (by rw [List.length_append, hbl]; omega))
  exact T.diag (F := fun k n => zi1 k n s) (key _ [] 0 (Nat.le_refl _) (by omega) (by omega) (by simp))
end
end Go.V
