/-
  Walks and laws of this seat.
-/
import Derived.Test.YteicdfkmpnmkmaaGreatTb
namespace Go.V
set_option linter.unusedVariables false
set_option linter.unusedSimpArgs false
set_option linter.unusedSectionVars false
set_option maxRecDepth 100000
open Go.RowKit Go.Sl
theorem T.addS {s t : ByteArray} {β : Type} {G : Nat → Nat → ByteArray → Option β} {Q : β → Prop} (h : s.size + t.size ≤ 9223372036854775807) (g : T (fun k n => G k n (s ++ t)) Q) : T (fun k n => (Go.Sl.addS s t).bind fun r => G k n r) Q := by
  have e : Go.Sl.addS s t = .some (s ++ t) := by simp [Go.Sl.addS, h]
  rw [e]; exact g
theorem T.rep {α β : Type} {b : Nat} {m : Int} {x : α} {G : Nat → Nat → List α → Option β} {Q : β → Prop} (h0 : 0 ≤ m) (h : b * m.toNat ≤ 281474976710656) (h2 : m.toNat ≤ 9223372036854775807) (g : ∀ r : List α, r = List.replicate m.toNat x → r.length = m.toNat → T (fun k n => G k n r) Q) : T (fun k n => (repM b m x).bind fun r => G k n r) Q := by
  have e : repM b m x = .some (List.replicate m.toNat x) := by simp [repM, h0, h, h2]
  rw [e]; exact g _ rfl (by simp)
inductive UpR (ns : List NodT) : Int → Int → Prop
  | one {y : Int} {r : NodT} (h0 : 0 < y) (h : ns[y.toNat]? = some r) : UpR ns y r.2.2.2.2.1
  | more {y a : Int} {r : NodT} (h0 : 0 < y) (h : ns[y.toNat]? = some r) (g : UpR ns r.2.2.2.2.1 a) : UpR ns y a
structure TrOK (t : TreT) : Prop where
  len : (t.1.length : Int) ≤ 1000000
  par : ∀ (i : Nat) r, t.1[i]? = some r → r.2.2.2.2.1 < i
  par0 : ∀ (i : Nat) r,0 < i → t.1[i]? = some r → 0 ≤ r.2.2.2.2.1
  prev : ∀ (i : Nat) r, t.1[i]? = some r → r.2.2.2.2.2.2.2.1 < i
  next : ∀ (i : Nat) r, t.1[i]? = some r → r.2.2.2.2.2.2.2.2.1 < 0 ∨ ((i : Int) < r.2.2.2.2.2.2.2.2.1 ∧ r.2.2.2.2.2.2.2.2.1 < t.1.length)
  fst : ∀ (i : Nat) r, t.1[i]? = some r → r.2.2.2.2.2.1 < 0 ∨ ((i : Int) < r.2.2.2.2.2.1 ∧ r.2.2.2.2.2.1 < t.1.length)
  doc : ∀ y a, UpR t.1 y a → ∀ r, t.1[a.toNat]? = some r → r.2.2.2.2.2.2.2.2.1 < 0 ∨ y < r.2.2.2.2.2.2.2.2.1
  att : ∀ (i : Nat) r, t.1[i]? = some r → (r.2.2.2.1.length : Int) ≤ 1000000000 ∧ ∀ a ∈ r.2.2.2.1, a.2.1.size ≤ 100000000
theorem ydj {t : TreT} (ht : TrOK t) {i : Int} {x : ByteArray} : T (fun k _ => zkx k t i x) fun r => r.1.size ≤ 100000000 := by
  have key : ∀ (ls : List AttT),(ls.length : Int) ≤ 1000000000 → (∀ a ∈ ls, a.2.1.size ≤ 100000000) → ∀ (m : Nat) (j : Int), ls.length - j.toNat ≤ m → 0 ≤ j → j ≤ ls.length → T (fun _ n => zin n x ls j) fun r => r.1.size ≤ 100000000 := by
    intro ls ha hs m
    induction m with
    | zero =>
      intro j h h0 h1
      refine T.step ?_
      unfold zin
      exact T.dec (fun _ => by omega) fun _ => T.some (by decide)
    | succ m ih =>
      intro j h h0 h1
      refine T.step ?_
      unfold zin
      rw [w64i (by omega)]
      exact T.dec (fun h3 => T.get h0 h3 fun r hr => T.dec (fun _ => T.get h0 h3 fun r hr => T.some (hs r (List.mem_of_getElem? hr))) fun _ => ih _ (by omega) (by omega) (by omega)) fun _ => T.some (by decide)
  refine T.diag (F := fun _ n => zn6 n t i x) ?_
  unfold zn6
  refine T.dec (fun _ => T.some (by decide)) fun _ => T.dec (fun _ => T.some (by decide)) fun _ => T.get (by omega) (by omega) fun r hr => ?_
  have := ht.att _ r hr
  exact key _ this.1 this.2 _ 0 (Nat.le_refl _) (by omega) (by omega)
theorem yge {t : TreT} (ht : TrOK t) {i : Int} : T (fun k _ => zpv k t i) fun _ => True := by
  have key : ∀ (m : Nat) (c j : Int), j < t.1.length → (j + 1).toNat ≤ m → T (fun _ n => zfk n t c j) fun _ => True := by
    intro m
    induction m with
    | zero =>
      intro c j h1 h
      refine T.step ?_
      unfold zfk
      exact T.dec (fun _ => by omega) fun _ => T.some trivial
    | succ m ih =>
      intro c j h1 h
      refine T.step ?_
      unfold zfk
      refine T.dec (fun h0 => T.get h0 h1 fun _ _ => T.dec (fun _ => T.get h0 h1 fun r hr => ?_) fun _ => T.get h0 h1 fun r hr => ?_) fun _ => T.some trivial <;>
      · have := ht.prev _ r hr
        exact ih _ _ (by omega) (by omega)
  refine T.diag (F := fun _ n => zls n t i) ?_
  unfold zls
  refine T.dec (fun _ => T.some trivial) fun _ => T.dec (fun _ => T.some trivial) fun _ => T.get (by omega) (by omega) fun _ _ => T.dec (fun _ => T.some trivial) fun _ => T.get (by omega) (by omega) fun r hr => ?_
  have := ht.prev _ r hr
  exact key _ _ _ (by omega) (Nat.le_refl _)
theorem word_T {s x : ByteArray} (hs : s.size ≤ 100000000) : T (fun k _ => ztr k s x) fun _ => True := by
  have key : ∀ (s : ByteArray), s.size ≤ 200000000 → ∀ (m : Nat) (v : List Int) (p : Nat), s.size - p ≤ m → v.length ≤ p → T (fun k n => zdm k n x v (s, p)) fun _ => True := by
    intro s hs m
    induction m with
    | zero =>
      intro v p h hv
      refine T.step ?_
      unfold zdm
      exact T.dec (fun h2 => by simp only at h2; omega) fun _ => T.some trivial
    | succ m ih =>
      intro v p h hv
      have hw := zji s p
      have nx : ∀ w : List Int, w.length ≤ p + 1 → T (fun k n => zdm k n x w (s, p + (Utf8.decode s p).2)) fun _ => True := fun w hw2 => ih _ _ (by omega) (by omega)
      refine T.step ?_
      unfold zdm
      refine T.dec (fun h2 => T.bind ydh fun _ _ => T.bif (fun _ => T.app (by simp at h2 ⊢; omega) (by simp at h2 ⊢; omega) (nx _ (by simp; omega))) fun _ => T.dec (fun _ => T.bind (zy2 (by simp at h2; omega)) fun _ _ => T.dec (fun _ => T.some trivial) fun _ => nx _ (by simp)) fun _ => nx _ (by simp)) fun _ => T.some trivial
  refine T.diag (F := fun k n => zly k n s x) ?_
  unfold zly
  have e : (bs [32]).size = 1 := rfl
  exact T.addS (by omega) (key _ (by rw [ByteArray.size_append]; omega) _ [] 0 (Nat.le_refl _) (by simp))
section
variable {t : TreT} (ht : TrOK t) {i : Int} (h0 : 0 ≤ i) (h1 : i < t.1.length)
include ht h0 h1
theorem holds_T {x : TesT} : T (fun k _ => ref10_holds k t i x) fun _ => True := by
  have key : ∀ (m : Nat) (j : Int), j < t.1.length → t.1.length - j.toNat ≤ m → T (fun k n => zcx k n t j) fun _ => True := by
    intro m
    induction m with
    | zero =>
      intro j h1 h
      refine T.step ?_
      unfold zcx
      exact T.dec (fun _ => by omega) fun _ => T.some trivial
    | succ m ih =>
      intro j h1 h
      refine T.step ?_
      unfold zcx
      refine T.dec (fun h0 => T.get h0 h1 fun _ _ => T.dec (fun _ => T.some trivial) fun _ => T.get h0 h1 fun r hr => ?_) fun _ => T.some trivial
      rcases ht.next _ r hr with h2 | h2
      · refine T.step ?_
        unfold zcx
        exact T.dec (fun _ => by omega) fun _ => T.some trivial
      · exact ih _ h2.2 (by omega)
  refine T.diag (F := fun k n => zk3 k n t i x) ?_
  unfold zk3
  refine T.bind (ydj ht) fun r1 a1 => T.bind (ydj ht) fun r2 a2 => T.bind (ydj ht) fun r3 a3 => T.dec (fun _ => T.bif (fun _ => T.some trivial) fun _ => T.some trivial) fun _ => T.dec (fun _ => T.bind (word_T a2) fun _ _ => T.some trivial) fun _ => T.dec (fun _ => T.some trivial) fun _ => T.dec (fun _ => T.bif (fun _ => T.some trivial) fun _ => T.some trivial) fun _ => T.dec (fun _ => T.bind (yge ht) fun _ _ => T.some trivial) fun _ => T.dec (fun _ => T.get h0 h1 fun r hr => ?_) fun _ => T.dec (fun _ => T.bind (yge ht) fun _ _ => T.some trivial) fun _ => T.some trivial
  rcases ht.next _ r hr with h2 | h2
  · refine T.step ?_
    unfold zcx
    exact T.dec (fun _ => by omega) fun _ => T.some trivial
  · exact key _ _ h2.2 (Nat.le_refl _)
theorem yfv {s : SteT} (hs : okSt 1000000000 s) : T (fun k _ => zni k t i s) fun _ => True := by
  have hs' : (s.2.2.1.length : Int) ≤ 1000000000 := hs
  have key : ∀ (m : Nat) (j : Int),0 ≤ j → j ≤ s.2.2.1.length → s.2.2.1.length - j.toNat ≤ m → T (fun k n => zep k n i t s j) fun _ => True := by
    intro m
    induction m with
    | zero =>
      intro j h0 h1 h
      refine T.step ?_
      unfold zep
      exact T.dec (fun _ => by omega) fun _ => T.some trivial
    | succ m ih =>
      intro j a0 a1 h
      refine T.step ?_
      unfold zep
      rw [w64i (by omega)]
      exact T.dec (fun h3 => T.get a0 h3 fun _ _ => T.bind (holds_T ht h0 h1) fun _ _ => T.bif (fun _ => T.some trivial) fun _ => ih _ (by omega) (by omega) (by omega)) fun _ => T.some trivial
  refine T.diag (F := fun k n => zk2 k n t i s) ?_
  unfold zk2
  have e := key _ 0 (by omega) (by omega) (Nat.le_refl _)
  exact T.get h0 h1 fun _ _ => T.dec (fun _ => T.some trivial) fun _ => T.dec (fun _ => T.get h0 h1 fun _ _ => T.dec (fun _ => T.some trivial) fun _ => e) fun _ => e
theorem ahead_T {c : Int} : T (fun k _ => zrh k t i c) fun r => (r.length : Int) ≤ t.1.length ∧ ∀ x ∈ r,0 ≤ x ∧ x < t.1.length := by
  have hl := ht.len
  have k6 : ∀ (m : Nat) (v : List Int) (j : Int), j < t.1.length → (j + 1).toNat ≤ m → (v.length : Int) + (j + 1).toNat ≤ t.1.length → (∀ x ∈ v,0 ≤ x ∧ x < (t.1.length : Int)) → T (fun _ n => zdn n c t v j) fun r => (r.length : Int) ≤ t.1.length ∧ ∀ x ∈ r,0 ≤ x ∧ x < t.1.length := by
    intro m
    induction m with
    | zero =>
      intro v j a1 h hv h5
      refine T.step ?_
      unfold zdn
      exact T.dec (fun _ => by omega) fun _ => T.some ⟨by omega, h5⟩
    | succ m ih =>
      intro v j a1 h hv h5
      refine T.step ?_
      unfold zdn
      refine T.dec (fun a0 => T.app (by simp; omega) (by simp; omega) (T.dec (fun _ => T.some ⟨by simp; omega, zhe h5 ⟨a0, a1⟩⟩) fun _ => T.get a0 a1 fun r hr => ?_)) fun _ => T.some ⟨by omega, h5⟩
      have := ht.par _ r hr
      exact ih _ _ (by omega) (by omega) (by simp; omega) (zhe h5 ⟨a0, a1⟩)
  have k14 : ∀ (m : Nat) (v : List Int) (j : Int), j < t.1.length → (j + 1).toNat ≤ m → (v.length : Int) + (j + 1).toNat ≤ t.1.length → (∀ x ∈ v,0 ≤ x ∧ x < (t.1.length : Int)) → T (fun _ n => zby n c t v j) fun r => (r.length : Int) ≤ t.1.length ∧ ∀ x ∈ r,0 ≤ x ∧ x < t.1.length := by
    intro m
    induction m with
    | zero =>
      intro v j a1 h hv h5
      refine T.step ?_
      unfold zby
      exact T.dec (fun _ => by omega) fun _ => T.some ⟨by omega, h5⟩
    | succ m ih =>
      intro v j a1 h hv h5
      refine T.step ?_
      unfold zby
      refine T.dec (fun a0 => T.get a0 a1 fun _ _ => T.dec (fun _ => T.get a0 a1 fun r hr => ?_) fun _ => T.app (by simp; omega) (by simp; omega) (T.dec (fun _ => T.some ⟨by simp; omega, zhe h5 ⟨a0, a1⟩⟩) fun _ => T.get a0 a1 fun r hr => ?_)) fun _ => T.some ⟨by omega, h5⟩
      · have := ht.prev _ r hr
        exact ih _ _ (by omega) (by omega) (by omega) h5
      · have := ht.prev _ r hr
        exact ih _ _ (by omega) (by omega) (by simp; omega) (zhe h5 ⟨a0, a1⟩)
  refine T.diag (F := fun _ n => zk4 n t i c) ?_
  unfold zk4
  have e6 : T (fun _ n => (geti t.1 i).bind fun r1 => zdn n c t [] r1.2.2.2.2.1) fun r => (r.length : Int) ≤ t.1.length ∧ ∀ x ∈ r,0 ≤ x ∧ x < t.1.length := T.get h0 h1 fun r hr => by
    have := ht.par _ r hr
    exact k6 _ [] _ (by omega) (Nat.le_refl _) (by simp; omega) (by simp)
  have e14 : T (fun _ n => (geti t.1 i).bind fun r1 => zby n c t [] r1.2.2.2.2.2.2.2.1) fun r => (r.length : Int) ≤ t.1.length ∧ ∀ x ∈ r,0 ≤ x ∧ x < t.1.length := T.get h0 h1 fun r hr => by
    have := ht.prev _ r hr
    exact k14 _ [] _ (by omega) (Nat.le_refl _) (by simp; omega) (by simp)
  have ek : T (fun _ n => zj6 (zby n) c t i) fun r => (r.length : Int) ≤ t.1.length ∧ ∀ x ∈ r,0 ≤ x ∧ x < t.1.length := by
    unfold zj6
    exact T.dec (fun _ => T.dec (fun _ => e14) fun _ => T.some (by simp)) fun _ => T.dec (fun _ => e14) fun _ => T.some (by simp)
  exact T.dec (fun _ => T.dec (fun _ => e6) fun _ => ek) fun _ => T.dec (fun _ => e6) fun _ => ek
end
end Go.V
namespace Go.V
set_option linter.unusedVariables false
set_option linter.unusedSimpArgs false
set_option linter.unusedSectionVars false
set_option maxRecDepth 100000
open Go.RowKit Go.Sl
theorem match_T {t : TreT} (ht : TrOK t) {i : Int} {s : SelT} (hs : okSel s) : T (fun k _ => zrj k t i s) fun _ => True := by
  have hl := ht.len
  have hs1 := hs.1
  refine T.diag (F := fun k n => zk5 k n t i s) ?_
  unfold zk5
  refine T.dec (fun _ => T.some trivial) fun hne => T.dec (fun _ => T.some trivial) fun a0 => T.dec (fun _ => T.some trivial) fun a1 => T.rep (by omega) (by omega) (by omega) fun r0 _ hr0 => ?_
  have k9 : ∀ (m : Nat) (q : Int) (v : List Bool), s.1.length - q.toNat ≤ m → 0 ≤ q → q ≤ s.1.length → v.length = t.1.length → T (fun k n => zer k n i t s v q) fun _ => True := by
    have fin : ∀ (v : List Bool), v.length = t.1.length → T (fun _ _ => (geti v i).bind fun r7 => some r7) fun _ => True := fun v hv => T.get (by omega) (by omega) fun _ _ => T.some trivial
    intro m
    induction m with
    | zero =>
      intro q v h h0 h1 hv
      refine T.step ?_
      unfold zer
      exact T.dec (fun _ => by omega) fun _ => fin v hv
    | succ m ih =>
      intro q v h h0 h1 hv
      refine T.step ?_
      unfold zer
      refine T.dec (fun hq => ?_) fun _ => fin v hv
      have k13 : ∀ (m2 : Nat) (w : List Bool) (j : Int), t.1.length - j.toNat ≤ m2 → 0 ≤ j → j ≤ t.1.length → w.length = t.1.length → T (fun k n => zcy k n i t s v q w j) fun _ => True := by
        have up : ∀ (w : List Bool), w.length = t.1.length → T (fun k n => zer k n i t s w (w64 (q + 1))) fun _ => True := fun w hw => by
          rw [w64i (by omega)]
          exact ih _ _ (by omega) (by omega) (by omega) hw
        intro m2
        induction m2 with
        | zero =>
          intro w j b h0 h1 hw
          refine T.step ?_
          unfold zcy
          exact T.dec (fun _ => by omega) fun _ => up w hw
        | succ m2 ih2 =>
          intro w j b c0 c1 hw
          refine T.step ?_
          unfold zcy
          refine T.dec (fun hj => T.get h0 hq fun st hst => T.bind (yfv ht c0 hj (hs.2 st (List.mem_of_getElem? hst))) fun _ _ => T.bif (fun _ => ?_) fun _ => T.get h0 hq fun _ _ => T.bind (ahead_T ht c0 hj) fun l hal => ?_) fun _ => up w hw
          · rw [w64i (by omega)]
            exact ih2 _ _ (by omega) (by omega) (by omega) hw
          · have k18 : ∀ (m3 : Nat) (w : List Bool) (p : Int), l.length - p.toNat ≤ m3 → 0 ≤ p → p ≤ l.length → w.length = t.1.length → T (fun k n => zdv k n i t s v q w j l p) fun _ => True := by
              have up2 : ∀ (w : List Bool), w.length = t.1.length → T (fun k n => zcy k n i t s v q w (w64 (j + 1))) fun _ => True := fun w hw => by
                rw [w64i (by omega)]
                exact ih2 _ _ (by omega) (by omega) (by omega) hw
              intro m3
              induction m3 with
              | zero =>
                intro w p b d0 d1 hw
                refine T.step ?_
                unfold zdv
                exact T.dec (fun _ => by omega) fun _ => up2 w hw
              | succ m3 ih3 =>
                intro w p b d0 d1 hw
                have hll := hal.1
                refine T.step ?_
                unfold zdv
                rw [w64i (i := p + 1) (by omega)]
                refine T.dec (fun hp => T.get c0 (by omega) fun _ _ => T.get c0 (by omega) fun _ _ => T.bif (fun _ => T.get c0 (by omega) fun _ _ => T.get c0 (by omega) fun _ _ => ih3 _ _ (by omega) (by omega) (by omega) (by simpa using hw)) fun _ => T.get d0 hp fun x hx => ?_) fun _ => up2 w hw
                have hx2 := hal.2 x (List.mem_of_getElem? hx)
                exact T.get hx2.1 (by omega) fun _ _ => T.get c0 (by omega) fun _ _ => T.get c0 (by omega) fun _ _ => ih3 _ _ (by omega) (by omega) (by omega) (by simpa using hw)
            exact k18 _ _ 0 (Nat.le_refl _) (by omega) (by omega) hw
      exact T.rep (by omega) (by omega) (by omega) fun r _ hr => k13 _ _ 0 (Nat.le_refl _) (by omega) (by omega) (by omega)
  have k5 : ∀ (m : Nat) (v : List Bool) (j : Int), t.1.length - j.toNat ≤ m → 0 ≤ j → j ≤ t.1.length → v.length = t.1.length → T (fun k n => zgg k n i t s v j) fun _ => True := by
    intro m
    induction m with
    | zero =>
      intro v j h h0 h1 hv
      refine T.step ?_
      unfold zgg
      exact T.dec (fun _ => by omega) fun _ => k9 _ 1 _ (Nat.le_refl _) (by omega) (by omega) hv
    | succ m ih =>
      intro v j h h0 h1 hv
      refine T.step ?_
      unfold zgg
      rw [w64i (by omega)]
      exact T.dec (fun hj => T.get (by omega) (by omega) fun st hst => T.bind (yfv ht h0 hj (hs.2 st (List.mem_of_getElem? hst))) fun _ _ => T.get h0 (by omega) fun _ _ => T.get h0 (by omega) fun _ _ => ih _ _ (by omega) (by omega) (by omega) (by simpa using hv)) fun _ => k9 _ 1 _ (Nat.le_refl _) (by omega) (by omega) hv
  exact k5 _ _ 0 (Nat.le_refl _) (by omega) (by omega) (by omega)
theorem weigh_T {s : SelT} (hs : okSel s) : T (fun k _ => zri k s) fun _ => True := by
  have hs1 := hs.1
  have k3 : ∀ (m : Nat) (a b : WeiT) (j : Int), s.1.length - j.toNat ≤ m → 0 ≤ j → j ≤ s.1.length → T (fun _ n => zeq n s a b j) fun _ => True := by
    intro m
    induction m with
    | zero =>
      intro a b j h h0 h1
      refine T.step ?_
      unfold zeq
      exact T.dec (fun _ => by omega) fun _ => T.some trivial
    | succ m ih =>
      intro a b j h h0 h1
      refine T.step ?_
      unfold zeq
      refine T.dec (fun hj => T.get h0 hj fun st hst => ?_) fun _ => T.some trivial
      have hst2 : (st.2.2.1.length : Int) ≤ 1000000000 := hs.2 st (List.mem_of_getElem? hst)
      have k8 : ∀ (m2 : Nat) (a b : WeiT) (p : Int), st.2.2.1.length - p.toNat ≤ m2 → 0 ≤ p → p ≤ st.2.2.1.length → T (fun _ n => zdo n s a b j p) fun _ => True := by
        have up : ∀ (a b : WeiT), T (fun _ n => zeq n s a b (w64 (j + 1))) fun _ => True := fun a b => by
          rw [w64i (by omega)]
          exact ih _ _ _ (by omega) (by omega) (by omega)
        intro m2
        induction m2 with
        | zero =>
          intro a b p h2 d0 d1
          refine T.step ?_
          unfold zdo
          refine T.get h0 hj fun st2 hst3 => ?_
          rw [hst] at hst3; cases hst3
          exact T.dec (fun _ => by omega) fun _ => up _ _
        | succ m2 ih2 =>
          intro a b p h2 d0 d1
          refine T.step ?_
          unfold zdo
          refine T.get h0 hj fun st2 hst3 => ?_
          rw [hst] at hst3; cases hst3
          rw [w64i (i := p + 1) (by omega)]
          refine T.dec (fun hp => T.get h0 hj fun st2 hst3 => ?_) fun _ => up _ _
          rw [hst] at hst3; cases hst3
          exact T.get d0 hp fun _ _ => T.dec (fun _ => ih2 _ _ _ (by omega) (by omega) (by omega)) fun _ => ih2 _ _ _ (by omega) (by omega) (by omega)
      exact T.dec (fun _ => k8 _ _ _ 0 (Nat.le_refl _) (by omega) (by omega)) fun _ => k8 _ _ _ 0 (Nat.le_refl _) (by omega) (by omega)
  exact T.diag (F := fun _ n => znj n s) (k3 _ _ _ 0 (Nat.le_refl _) (by omega) (by omega))
theorem less_T {a b : WeiT} : T (fun _ _ => zkd a b) fun _ => True := by
  unfold zkd
  repeat' (first | exact trivial | assumption | refine T.some ?_ | refine T.get ?_ ?_ fun _ _ => ?_ | refine T.app ?_ ?_ ?_ | refine T.cut ?_ ?_ ?_ fun _ _ _ => ?_ | refine T.dec (fun _ => ?_) (fun _ => ?_) | refine T.bif (fun _ => ?_) (fun _ => ?_))
theorem best_T {t : TreT} (ht : TrOK t) {i : Int} {l : List SelT} (hl : (l.length : Int) ≤ 2000000000) (hs : ∀ x ∈ l, okSel x) : T (fun k _ => zts k t i l) fun _ => True := by
  have key : ∀ (m : Nat) (a b : WeiT) (c : Bool) (j : Int), l.length - j.toNat ≤ m → 0 ≤ j → j ≤ l.length → T (fun k n => zcz k n i l t a b c j) fun _ => True := by
    intro m
    induction m with
    | zero =>
      intro a b c j h h0 h1
      refine T.step ?_
      unfold zcz
      exact T.dec (fun _ => by omega) fun _ => T.some trivial
    | succ m ih =>
      intro a b c j h h0 h1
      refine T.step ?_
      unfold zcz
      rw [w64i (by omega)]
      have nx : j < l.length → ∀ a b c, T (fun k n => zcz k n i l t a b c (j + 1)) fun _ => True := fun hj a b c => ih _ _ _ _ (by omega) (by omega) (by omega)
      exact T.dec (fun hj => T.get h0 hj fun x hx => T.bind (match_T ht (hs x (List.mem_of_getElem? hx))) fun _ _ => T.bif (fun _ => nx hj _ _ _) fun _ => T.get h0 hj fun y hy => T.bind (weigh_T (hs y (List.mem_of_getElem? hy))) fun _ _ => T.bif (fun _ => nx hj _ _ _) fun _ => T.bind less_T fun _ _ => T.bif (fun _ => nx hj _ _ _) fun _ => nx hj _ _ _) fun _ => T.some trivial
  exact T.diag (F := fun k n => zp7 k n t i l) (key _ _ _ _ 0 (Nat.le_refl _) (by omega) (by omega))
theorem decode_T {a : List Int} (ha : (a.length : Int) ≤ 100000000) : T (fun k _ => zrc k a) fun r => r.length ≤ a.length := by
  have k8 : ∀ (v : List Int),(v.length : Int) ≤ 100000000 → ∀ (m : Nat) (w : List Int) (j : Int), v.length - j.toNat ≤ m → 0 ≤ j → j ≤ v.length → (w.length : Int) ≤ j → T (fun _ n => zc0 n v w j) fun r => r.length ≤ v.length := by
    intro v hv m
    induction m with
    | zero =>
      intro w j h h0 h1 hw
      refine T.step ?_
      unfold zc0
      exact T.dec (fun _ => by omega) fun _ => T.some (by omega)
    | succ m ih =>
      intro w j h h0 h1 hw
      refine T.step ?_
      unfold zc0
      refine T.dec (fun hj => ?_) fun _ => T.some (by omega)
      rw [w64i (i := j + 1) (by omega)]
      have nx : ∀ x : Int, T (fun _ n => zc0 n v (w ++ [x]) (j + 1)) fun r => r.length ≤ v.length := fun x => ih _ _ (by omega) (by omega) (by omega) (by simp; omega)
      refine T.get h0 hj fun _ _ => T.dec (fun _ => T.app (by simp; omega) (by simp; omega) (T.dec (fun h2 => T.get (by omega) h2 fun _ _ => T.dec (fun _ => ?_) fun _ => nx _) fun _ => nx _)) fun _ => T.get h0 hj fun _ _ => T.dec (fun _ => T.app (by simp; omega) (by simp; omega) (nx _)) fun _ => T.get h0 hj fun _ _ => T.app (by simp; omega) (by simp; omega) (nx _)
      rw [w64i (by omega)]
      exact ih _ _ (by omega) (by omega) (by omega) (by simp; omega)
  have k3 : ∀ (s : ByteArray), s.size ≤ 100000000 → ∀ (m : Nat) (v : List Int) (p : Nat), s.size - p ≤ m → v.length ≤ p → v.length ≤ s.size → T (fun _ n => zg4 n v (s, p)) fun r => r.length ≤ s.size := by
    intro s hs m
    induction m with
    | zero =>
      intro v p h hv hv2
      refine T.step ?_
      unfold zg4
      exact T.dec (fun h2 => by simp only at h2; omega) fun _ => (k8 v (by omega) _ [] 0 (Nat.le_refl _) (by omega) (by omega) (by simp)).mono fun r hr => by omega
    | succ m ih =>
      intro v p h hv hv2
      have hw := zji s p
      refine T.step ?_
      unfold zg4
      refine T.dec (fun h2 => ?_) fun _ => (k8 v (by omega) _ [] 0 (Nat.le_refl _) (by omega) (by omega) (by simp)).mono fun r hr => by omega
      simp only at h2
      exact T.app (by simp; omega) (by simp; omega) (ih _ _ (by simp only; omega) (by simp; omega) (by simp; omega))
  refine T.diag (F := fun _ n => znf n a) ?_
  have e : (bytesOf a).size = a.length := by simp [bytesOf, ByteArray.size]
  rw [← e]
  exact k3 (bytesOf a) (by omega) _ [] 0 (Nat.le_refl _) (by simp) (by simp)
end Go.V
namespace Go.V
set_option linter.unusedVariables false
set_option linter.unusedSimpArgs false
set_option linter.unusedSectionVars false
set_option maxRecDepth 100000
open Go.RowKit Go.Sl
theorem zz0 {t : Token} {a b : Bool} : T (fun _ _ => zed t a b) fun _ => True := by
  unfold zed
  repeat' (first | exact trivial | assumption | refine T.some ?_ | refine T.get ?_ ?_ fun _ _ => ?_ | refine T.app ?_ ?_ ?_ | refine T.cut ?_ ?_ ?_ fun _ _ _ => ?_ | refine T.dec (fun _ => ?_) (fun _ => ?_) | refine T.bif (fun _ => ?_) (fun _ => ?_))
theorem hex_T {a : Int} : T (fun _ _ => zoz a) fun _ => True := by
  unfold zoz zoy zox
  repeat' (first | exact trivial | assumption | refine T.some ?_ | refine T.get ?_ ?_ fun _ _ => ?_ | refine T.app ?_ ?_ ?_ | refine T.cut ?_ ?_ ?_ fun _ _ _ => ?_ | refine T.dec (fun _ => ?_) (fun _ => ?_) | refine T.bif (fun _ => ?_) (fun _ => ?_))
theorem getS_T {s : ByteArray} {i : Int} (h0 : 0 ≤ i) (h1 : i < s.size) : T (fun _ _ => getS s i) fun _ => True := by
  have e : (bytesIn s).length = s.size := by rw [bytesIn, List.length_map, Array.length_toList]; rfl
  have hl : i.toNat < (bytesIn s).length := by omega
  exact T.of (r := (bytesIn s)[i.toNat]) (by simp [getS, geti, h0, hl]) trivial
theorem color_T {l : List Token} : T (fun k _ => zrg k l) fun _ => True := by
  have k8 : ∀ (s : ByteArray) (ns : List ByteArray) (cs : List Int), ns.length = cs.length → ns.length ≤ 100 → ∀ (m : Nat) (i : Int), ns.length - i.toNat ≤ m → 0 ≤ i → i ≤ ns.length → T (fun _ n => zgf n s ns cs i) fun _ => True := by
    intro s ns cs he hn m
    induction m with
    | zero =>
      intro i h h0 h1
      refine T.step ?_
      unfold zgf
      exact T.dec (fun _ => by omega) fun _ => T.some trivial
    | succ m ih =>
      intro i h h0 h1
      refine T.step ?_
      unfold zgf
      rw [w64i (by omega)]
      exact T.dec (fun h3 => T.get h0 h3 fun _ _ => T.dec (fun _ => T.get h0 (by omega) fun _ _ => T.some trivial) fun _ => ih _ (by omega) (by omega) (by omega)) fun _ => T.some trivial
  have k17 : ∀ (s : ByteArray), s.size ≤ 100 → ∀ (m : Nat) (c i : Int), s.size - i.toNat ≤ m → 0 ≤ i → i ≤ s.size → T (fun _ n => zcd n s c i) fun _ => True := by
    intro s hs m
    induction m with
    | zero =>
      intro c i h h0 h1
      refine T.step ?_
      unfold zcd
      exact T.dec (fun _ => by omega) fun _ => T.some trivial
    | succ m ih =>
      intro c i h h0 h1
      refine T.step ?_
      unfold zcd
      rw [w64i (by omega)]
      exact T.dec (fun h3 => T.bind (getS_T h0 h3) fun _ _ => T.bind hex_T fun _ _ => T.dec (fun _ => T.some trivial) fun _ => T.dec (fun _ => ih _ _ (by omega) (by omega) (by omega)) fun _ => ih _ _ (by omega) (by omega) (by omega)) fun _ => T.some trivial
  refine T.diag (F := fun _ n => zk1 n l) ?_
  unfold zk1
  refine T.dec (fun _ => T.some trivial) fun h => T.get (by omega) (by omega) fun r _ => T.get (by omega) (by omega) fun _ _ => T.dec (fun _ => k8 _ _ _ rfl (by decide) _ 0 (Nat.le_refl _) (by omega) (by omega)) fun _ => T.get (by omega) (by omega) fun _ _ => T.dec (fun _ => T.some trivial) fun _ => ?_
  have e : r.2.1.size ≤ 100 → T (fun _ n => zcd n r.2.1 0 0) fun _ => True := fun h => k17 _ h _ _ 0 (Nat.le_refl _) (by omega) (by omega)
  exact T.dec (fun _ => T.dec (fun _ => T.some trivial) fun _ => e (by omega)) fun _ => e (by omega)
theorem words_T {a : ByteArray} : T (fun _ _ => zl6 a) fun r => r.1.length ≤ r.2.length ∧ r.1.length ≤ 10 ∧ ∀ x ∈ r.2,0 ≤ x ∧ x ≤ 6 := by
  unfold zl6
  repeat' (first | exact T.some (by decide) | refine T.dec (fun _ => ?_) (fun _ => ?_))
theorem zu2 {a b : ByteArray} : T (fun _ _ => zft a b) fun _ => True := by
  unfold zft
  refine T.dec (fun h => ?_) fun _ => T.some trivial
  have e : cutS a 0 (b.size : Int) = some (a.extract (0 : Int).toNat (b.size : Int).toNat) := by
    have q : (decide ((0 : Int) ≤ 0) && decide ((0 : Int) ≤ (b.size : Int)) && decide ((b.size : Int) ≤ (a.size : Int))) = true := by
      rw [decide_eq_true h, decide_eq_true (by omega : (0 : Int) ≤ (b.size : Int))]; rfl
    unfold cutS
    rw [q]; rfl
  exact T.bind (T.of (P := fun _ => True) e trivial) fun _ _ => T.some trivial
theorem ybh {t : Token} {a b : Int} : T (fun _ _ => zhl t a b) fun _ => True := by
  unfold zhl
  refine T.bind (yfj (by decide)) fun _ _ => ?_
  repeat' (first | exact trivial | assumption | refine T.some ?_ | refine T.get ?_ ?_ fun _ _ => ?_ | refine T.app ?_ ?_ ?_ | refine T.cut ?_ ?_ ?_ fun _ _ _ => ?_ | refine T.dec (fun _ => ?_) (fun _ => ?_) | refine T.bif (fun _ => ?_) (fun _ => ?_))
def W6 (x : ValT) : Prop := 0 ≤ x.2.2.1 ∧ x.2.2.1 ≤ 6
theorem w60 : W6 ((bs []),0,0,(0,0,()),0,0,()) := ⟨by decide, by decide⟩
theorem w61 {a : ByteArray} : W6 (a,1,0,(0,0,()),0,0,()) := ⟨Int.le_refl 0, show (0 : Int) ≤ 6 by decide⟩
theorem one11_T {a : ByteArray} {t : Token} : T (fun k _ => zvo k a t) fun r => W6 r.1 := by
  have k10 : ∀ b x1 x2 x3 x4 x5 v,0 ≤ x1 ∧ x1 ≤ 6 → T (fun k _ => zal k b x1 x2 x3 x4 x5 v) fun r => W6 r.1 := fun b x1 x2 x3 x4 x5 v hx => by
    unfold zal
    exact T.bif (fun _ => T.some w60) fun _ => T.some hx
  have k3 : ∀ v, W6 v → T (fun k _ => zj5 k a t v) fun r => W6 r.1 := fun v hv => by
    unfold zj5
    exact T.dec (fun _ => T.bind zz0 fun _ _ => k10 _ _ _ _ _ _ _ (by first | exact hv | decide)) fun _ => T.bind zz0 fun _ _ => k10 _ _ _ _ _ _ _ (by first | exact hv | decide)
  have k2 : ∀ b v, W6 v → T (fun k _ => zf7 k b t v a) fun r => W6 r.1 := fun b v hv => by
    unfold zf7
    exact T.bif (fun _ => T.dec (fun _ => T.some hv) fun _ => k3 v hv) fun _ => k3 v hv
  have k5 : ∀ v, W6 v → T (fun k _ => zgy k t a v) fun r => W6 r.1 := fun v hv => by
    unfold zgy
    refine T.bind zz0 fun _ _ => ?_
    repeat' (first | exact k10 _ _ _ _ _ _ _ (by first | exact hv | decide) | refine T.dec (fun _ => ?_) (fun _ => ?_) | refine T.bif (fun _ => ?_) (fun _ => ?_))
  have k4 : ∀ b v, W6 v → T (fun k _ => zgz k a b t v) fun r => W6 r.1 := fun b v hv => by
    unfold zgz
    exact T.dec (fun _ => T.bif (fun _ => T.dec (fun _ => T.some hv) fun _ => k5 v hv) fun _ => k5 v hv) fun _ => k5 v hv
  have k7 : ∀ v, W6 v → T (fun k _ => zj4 k t v) fun r => W6 r.1 := fun v hv => by
    unfold zj4
    exact T.bind color_T fun _ _ => k10 _ _ _ _ _ _ _ (by first | exact hv | decide)
  have k8 : ∀ v, W6 v → T (fun k _ => zj3 k t v) fun r => W6 r.1 := fun v hv => by
    unfold zj3
    exact T.bind ybh fun _ _ => k10 _ _ _ _ _ _ _ (by first | exact hv | decide)
  have k9 : ∀ v, W6 v → T (fun k _ => zj2 k t v) fun r => W6 r.1 := fun v hv => by
    unfold zj2
    exact T.bind ybh fun _ _ => k10 _ _ _ _ _ _ _ (by first | exact hv | decide)
  have k6 : ∀ b v, W6 v → T (fun k _ => zgx k a t v b) fun r => W6 r.1 := fun b v hv => by
    unfold zgx
    refine T.dec (fun _ => k7 v hv) fun _ => T.dec (fun _ => k7 v hv) fun _ => T.dec (fun _ => k8 v hv) fun _ => T.dec (fun _ => k8 v hv) fun _ => T.dec (fun _ => T.bind ybh fun _ _ => k10 _ _ _ _ _ _ _ (by first | exact hv | decide)) fun _ => T.dec (fun _ => T.bif (fun _ => T.dec (fun _ => T.some hv) fun _ => k9 v hv) fun _ => k9 v hv) fun _ => k10 _ _ _ _ _ _ _ (by first | exact hv | decide)
  have k1 : ∀ y b v, W6 v → T (fun k _ => zbx k y a b t v) fun r => W6 r.1 := fun y b v hv => by
    unfold zbx
    refine T.dec (fun _ => k2 b v hv) fun _ => T.dec (fun _ => k2 b v hv) fun _ => T.bif (fun _ => k2 b v hv) fun _ => T.bind zu2 fun _ _ => T.bif (fun _ => k2 b v hv) fun _ => T.bind zu2 fun _ _ => T.bif (fun _ => T.bind zz0 fun _ _ => k10 _ _ _ _ _ _ _ (by first | exact hv | decide)) fun _ => T.bind zu2 fun _ _ => T.bif (fun _ => T.bif (fun _ => k4 b v hv) fun _ => k6 b v hv) fun _ => T.dec (fun _ => T.dec (fun _ => k4 b v hv) fun _ => k6 b v hv) fun _ => T.dec (fun _ => k4 b v hv) fun _ => k6 b v hv
  have key : ∀ (u v : ValT) (b : Bool) (ws : List ByteArray) (ns : List Int), W6 v → (∀ x ∈ ns,0 ≤ x ∧ x ≤ 6) → ws.length ≤ ns.length → ws.length ≤ 10 → ∀ (m : Nat) (i : Int), ws.length - i.toNat ≤ m → 0 ≤ i → i ≤ ws.length → T (fun k n => zhm k n a t u v b ws ns i) fun r => W6 r.1 := by
    intro u v b ws ns hv hns hw hw2
    have fin : T (fun k _ => bif (!ws.isEmpty) then some ((((bs []),0,0,(0,0,()),0,0,()) : ValT), false) else bif decide (a = (bs [116,111,112])) then zbx k true a b t v else bif decide (a = (bs [114,105,103,104,116])) then zbx k true a b t v else bif decide (a = (bs [98,111,116,116,111,109])) then zbx k true a b t v else zbx k (decide (a = (bs [108,101,102,116]))) a b t v) fun r => W6 r.1 :=
      T.bif (fun _ => T.some w60) fun _ => T.dec (fun _ => k1 _ _ _ hv) fun _ => T.dec (fun _ => k1 _ _ _ hv) fun _ => T.dec (fun _ => k1 _ _ _ hv) fun _ => k1 _ _ _ hv
    intro m
    induction m with
    | zero =>
      intro i h h0 h1
      refine T.step ?_
      unfold zhm
      exact T.dec (fun _ => by omega) fun _ => fin
    | succ m ih =>
      intro i h h0 h1
      refine T.step ?_
      unfold zhm
      rw [w64i (by omega)]
      refine T.dec (fun h3 => ?_) fun _ => fin
      have nx := ih (i + 1) (by omega) (by omega) (by omega)
      exact T.bif (fun _ => T.get h0 h3 fun _ _ => T.dec (fun _ => T.get h0 (by omega) fun x hx => T.some (hns x (List.mem_of_getElem? hx))) fun _ => nx) fun _ => nx
  refine T.diag (F := fun k n => znh k n a t) ?_
  unfold znh
  exact T.bind words_T fun r hr => key _ _ _ _ _ w61 hr.2.2 hr.1 hr.2.1 _ 0 (Nat.le_refl _) (by omega) (by omega)
theorem yg6 {a : ByteArray} : T (fun k _ => zrf k a) fun _ => True := by
  have key : ∀ (ws : List ByteArray), ws.length ≤ 100 → ∀ (m : Nat) (i : Int), ws.length - i.toNat ≤ m → 0 ≤ i → i ≤ ws.length → T (fun _ n => zgc n a ws i) fun _ => True := by
    intro ws hw m
    induction m with
    | zero =>
      intro i h h0 h1
      refine T.step ?_
      unfold zgc
      exact T.dec (fun _ => by omega) fun _ => T.some trivial
    | succ m ih =>
      intro i h h0 h1
      refine T.step ?_
      unfold zgc
      rw [w64i (by omega)]
      exact T.dec (fun h3 => T.get h0 h3 fun _ _ => T.dec (fun _ => T.some trivial) fun _ => ih _ (by omega) (by omega) (by omega)) fun _ => T.some trivial
  refine T.diag (F := fun _ n => zjz n a) ?_
  unfold zjz
  have hp : T (fun _ _ => zl7) fun r => r.length ≤ 100 := by
    unfold zl7
    exact T.some (by decide)
  exact T.bind hp fun r hr => key r hr _ 0 (Nat.le_refl _) (by omega) (by omega)
theorem wapp {v : List ValT} {x : ValT} (h : ∀ y ∈ v, W6 y) (g : W6 x) : ∀ y ∈ v ++ [x], W6 y := fun y hy => by
  rcases List.mem_append.1 hy with hy | hy
  · exact h y hy
  · rw [List.mem_singleton.1 hy]; exact g
theorem read_T {a : ByteArray} {l : List Token} : T (fun k _ => ztq k a l) fun r => r.1.length ≤ 4 ∧ ∀ x ∈ r.1, W6 x := by
  have k16 : ∀ (ns : List ByteArray) (w : Int) (fr : List Int), ns.length ≤ fr.length → ns.length ≤ 4 → (∀ x ∈ fr,0 ≤ x ∧ x < l.length) → ∀ (m : Nat) (v : List ValT) (i : Int), ns.length - i.toNat ≤ m → 0 ≤ i → i ≤ ns.length → (v.length : Int) ≤ i → (∀ x ∈ v, W6 x) → T (fun k n => zbb k n l ns w fr v i) fun r => r.1.length ≤ 4 ∧ ∀ x ∈ r.1, W6 x := by
    intro ns w fr h1 h2 h3 m
    induction m with
    | zero =>
      intro v i h a0 a1 hv hw
      refine T.step ?_
      unfold zbb
      exact T.dec (fun _ => by omega) fun _ => T.some ⟨by simp only; omega, hw⟩
    | succ m ih =>
      intro v i h a0 a1 hv hw
      refine T.step ?_
      unfold zbb
      rw [w64i (by omega)]
      refine T.dec (fun hi => T.dec (fun _ => T.get a0 hi fun _ _ => T.app (by simp; omega) (by simp; omega) (ih _ _ (by omega) (by omega) (by omega) (by simp; omega) (wapp hw ⟨Int.le_refl 0, show (0 : Int) ≤ 6 by decide⟩))) fun _ => T.get a0 hi fun _ _ => T.get a0 (by omega) fun x hx => ?_) fun _ => T.some ⟨by simp only; omega, hw⟩
      have hx2 := h3 x (List.mem_of_getElem? hx)
      exact T.get hx2.1 hx2.2 fun _ _ => T.bind one11_T fun _ hone => T.bif (fun _ => T.some (by simp)) fun _ => T.app (by simp; omega) (by simp; omega) (ih _ _ (by omega) (by omega) (by omega) (by simp; omega) (wapp hw hone))
  have k4 : ∀ (ns : List ByteArray) (w : Int), ns.length ≤ 4 → 0 < l.length → l.length ≤ 4 → T (fun k n => zgd k (zbb k n) w l ns) fun r => r.1.length ≤ 4 ∧ ∀ x ∈ r.1, W6 x := by
    intro ns w hn h0 h1
    unfold zgd
    rw [w64i (by omega)]
    refine T.get (by omega) (by simp; omega) fun r hr => T.get (by omega) (by simp; omega) fun fr hfr => ?_
    have hf : fr.length = 4 ∧ ∀ x ∈ fr,0 ≤ x ∧ x < (l.length : Int) := by
      have : l.length = 1 ∨ l.length = 2 ∨ l.length = 3 ∨ l.length = 4 := by omega
      rcases this with e | e | e | e <;> rw [e] at hfr ⊢ <;> · cases hfr; exact ⟨rfl, by decide⟩
    exact k16 ns w fr (by omega) hn hf.2 _ [] 0 (Nat.le_refl _) (by omega) (by omega) (by simp) (by simp)
  have k3 : ∀ (ns : List ByteArray) (w : Int), ns.length ≤ 4 → 0 < l.length → l.length ≤ 4 → T (fun k n => zge k (zbb k n) w l ns) fun r => r.1.length ≤ 4 ∧ ∀ x ∈ r.1, W6 x := by
    intro ns w hn h0 h1
    unfold zge
    exact T.dec (fun _ => T.get (by omega) (by omega) fun _ _ => T.dec (fun _ => T.get (by omega) (by omega) fun _ _ => T.dec (fun _ => k4 _ _ hn h0 h1) fun _ => k4 _ _ hn h0 h1) fun _ => k4 _ _ hn h0 h1) fun _ => k4 _ _ hn h0 h1
  have k1 : ∀ (ns : List ByteArray), ns.length ≤ 4 → T (fun k n => zk0 k (zbb k n) ns l) fun r => r.1.length ≤ 4 ∧ ∀ x ∈ r.1, W6 x := by
    intro ns hn
    unfold zk0
    refine T.dec (fun _ => T.some (by simp)) fun _ => T.dec (fun _ => T.some (by simp)) fun _ => ?_
    have h0 : 0 < l.length := by omega
    have h1 : l.length ≤ 4 := by omega
    exact T.dec (fun _ => T.get (by omega) (by omega) fun _ _ => T.dec (fun _ => T.get (by omega) (by omega) fun _ _ => T.dec (fun _ => k3 _ _ hn h0 h1) fun _ => k3 _ _ hn h0 h1) fun _ => k3 _ _ hn h0 h1) fun _ => k3 _ _ hn h0 h1
  have k0 : a.size ≤ 100 → T (fun k n => zia k (zbb k n) a l) fun r => r.1.length ≤ 4 ∧ ∀ x ∈ r.1, W6 x := by
    intro ha
    unfold zia
    have e : ∀ x : ByteArray, x.size ≤ 100 → a.size + x.size ≤ 9223372036854775807 := fun x hx => by omega
    exact T.addS (e _ (by decide)) (T.addS (e _ (by decide)) (T.addS (e _ (by decide)) (T.addS (e _ (by decide)) (k1 _ (by simp)))))
  refine T.diag (F := fun k n => zlx k n a l) ?_
  unfold zlx
  exact T.dec (fun h => k0 (by rw [h]; decide)) fun _ => T.dec (fun h => k0 (by rw [h]; decide)) fun _ => T.dec (fun h => k0 (by rw [h]; decide)) fun _ => T.bind yg6 fun _ _ => T.bif (fun _ => T.some (by simp)) fun _ => k1 _ (by simp)
end Go.V
namespace Go.V
set_option linter.unusedVariables false
set_option linter.unusedSimpArgs false
set_option linter.unusedSectionVars false
set_option maxRecDepth 100000
open Go.RowKit Go.Sl
theorem zu6 {a b : ByteArray} (hb : b.size ≤ 100) : T (fun k _ => zf6 k a b) fun _ => True := by
  have key : ∀ (ws : List ByteArray), ws.length = 4 → (∀ x ∈ ws, x.size ≤ 100) → ∀ (m : Nat) (i : Int),4 - i.toNat ≤ m → 0 ≤ i → i ≤ 4 → T (fun _ n => zhs n a b ws i) fun _ => True := by
    intro ws hw hs m
    induction m with
    | zero =>
      intro i h h0 h1
      refine T.step ?_
      unfold zhs
      exact T.dec (fun _ => by omega) fun _ => T.some trivial
    | succ m ih =>
      intro i h h0 h1
      refine T.step ?_
      unfold zhs
      rw [w64i (by omega)]
      refine T.dec (fun h3 => T.get h0 (by omega) fun r hr => ?_) fun _ => T.some trivial
      have := hs r (List.mem_of_getElem? hr)
      exact T.addS (by omega) (T.dec (fun _ => T.some trivial) fun _ => ih _ (by omega) (by omega) (by omega))
  exact T.diag (F := fun _ n => zor n a b) (key _ rfl (by decide) _ 0 (Nat.le_refl _) (by omega) (by omega))
def D6 (s : StyT) : Prop := 0 ≤ s.1 ∧ s.1 ≤ 6
theorem yf5 {s f : StyT} {a : ByteArray} (hs : D6 s) (hf : D6 f) : T (fun k _ => zmo k s f a) fun r => D6 r := by
  have t56 : ∀ s v, D6 s → T (fun k n => zaf k n s v) fun r => D6 r := fun s v hs => by
    refine T.step ?_
    unfold zaf
    exact T.some hs
  have key : ∀ (m : Nat) (s v : StyT) (i : Int),(4 - i).toNat ≤ m → 0 ≤ i → i ≤ 4 → D6 s → T (fun k n => zfp k n a s f v i) fun r => D6 r := by
    intro m
    induction m with
    | zero =>
      intro s v i h h0 h1 hs
      refine T.step ?_
      unfold zfp
      refine T.dec (fun _ => by omega) fun _ => ?_
      repeat' (first | exact t56 _ _ hs | exact t56 _ _ hf | refine T.dec (fun _ => ?_) (fun _ => ?_))
    | succ m ih =>
      intro s v i h h0 h1 hs
      by_cases h4 : i < 4
      · have t3 : ∀ s v, D6 s → T (fun k n => zea k n a s f v i) fun r => D6 r := fun s v hs => by
          refine T.step ?_
          unfold zea
          rw [w64i (by omega)]
          exact ih _ _ _ (by omega) (by omega) (by omega) hs
        have t10 : ∀ s v, D6 s → T (fun k n => zdl k n a s f v i) fun r => D6 r := fun s v hs => by
          refine T.step ?_
          unfold zdl
          refine T.bind (zu6 (by decide)) fun _ _ => T.dec (fun _ => T.dec (fun e => e ▸ t3 _ _ hs) fun _ => T.dec (fun e => e ▸ t3 _ _ hs) fun _ => T.dec (fun e => e ▸ t3 _ _ hs) fun _ => T.dec (fun e => e ▸ t3 _ _ hs) fun _ => by omega) fun _ => t3 _ _ hs
        have t8 : ∀ s v, D6 s → T (fun k n => ze8 k n a s f v i) fun r => D6 r := fun s v hs => by
          refine T.step ?_
          unfold ze8
          refine T.bind (zu6 (by decide)) fun _ _ => T.dec (fun _ => T.dec (fun e => e ▸ t10 _ _ hs) fun _ => T.dec (fun e => e ▸ t10 _ _ hs) fun _ => T.dec (fun e => e ▸ t10 _ _ hs) fun _ => T.dec (fun e => e ▸ t10 _ _ hs) fun _ => by omega) fun _ => t10 _ _ hs
        have t6 : ∀ s v, D6 s → T (fun k n => ze9 k n a s f v i) fun r => D6 r := fun s v hs => by
          refine T.step ?_
          unfold ze9
          refine T.bind (zu6 (by decide)) fun _ _ => T.dec (fun _ => T.dec (fun e => e ▸ t8 _ _ hs) fun _ => T.dec (fun e => e ▸ t8 _ _ hs) fun _ => T.dec (fun e => e ▸ t8 _ _ hs) fun _ => T.dec (fun e => e ▸ t8 _ _ hs) fun _ => by omega) fun _ => t8 _ _ hs
        refine T.step ?_
        unfold zfp
        refine T.dec (fun _ => T.bind (zu6 (by decide)) fun _ _ => T.dec (fun _ => T.dec (fun e => e ▸ t6 _ _ hs) fun _ => T.dec (fun e => e ▸ t6 _ _ hs) fun _ => T.dec (fun e => e ▸ t6 _ _ hs) fun _ => T.dec (fun e => e ▸ t6 _ _ hs) fun _ => by omega) fun _ => t6 _ _ hs) fun h => absurd h4 h
      · refine T.step ?_
        unfold zfp
        refine T.dec (fun h => absurd h h4) fun _ => ?_
        repeat' (first | exact t56 _ _ hs | exact t56 _ _ hf | refine T.dec (fun _ => ?_) (fun _ => ?_))
  exact T.diag (F := fun k n => zoq k n s f a) (key _ _ _ 0 (Nat.le_refl _) (by omega) (by omega) hs)
theorem set_T {s : StyT} {x : ValT} (hs : D6 s) (hf : W6 x) : T (fun k _ => zvl k s x) fun r => D6 r := by
  have t57 : ∀ s v, D6 s → T (fun k n => zai k n s v) fun r => D6 r := fun s v hs => by
    refine T.step ?_
    unfold zai
    exact T.some hs
  have key : ∀ (m : Nat) (s v : StyT) (i : Int),(4 - i).toNat ≤ m → 0 ≤ i → i ≤ 4 → D6 s → T (fun k n => zhj k n s x v i) fun r => D6 r := by
    intro m
    induction m with
    | zero =>
      intro s v i h h0 h1 hs
      refine T.step ?_
      unfold zhj
      refine T.dec (fun _ => by omega) fun _ => ?_
      repeat' (first | exact t57 _ _ hs | exact t57 _ _ hf | refine T.dec (fun _ => ?_) (fun _ => ?_))
    | succ m ih =>
      intro s v i h h0 h1 hs
      by_cases h4 : i < 4
      · have t3 : ∀ s v, D6 s → T (fun k n => zfs k n s x v i) fun r => D6 r := fun s v hs => by
          refine T.step ?_
          unfold zfs
          rw [w64i (by omega)]
          exact ih _ _ _ (by omega) (by omega) (by omega) hs
        have t10 : ∀ s v, D6 s → T (fun k n => zeb k n s x v i) fun r => D6 r := fun s v hs => by
          refine T.step ?_
          unfold zeb
          refine T.bind (zu6 (by decide)) fun _ _ => T.dec (fun _ => T.dec (fun _ => t3 _ _ hs) fun _ => T.dec (fun _ => t3 _ _ hs) fun _ => T.dec (fun _ => t3 _ _ hs) fun _ => T.dec (fun _ => t3 _ _ hs) fun _ => by omega) fun _ => t3 _ _ hs
        have t8 : ∀ s v, D6 s → T (fun k n => zfq k n s x v i) fun r => D6 r := fun s v hs => by
          refine T.step ?_
          unfold zfq
          refine T.bind (zu6 (by decide)) fun _ _ => T.dec (fun _ => T.dec (fun _ => t10 _ _ hs) fun _ => T.dec (fun _ => t10 _ _ hs) fun _ => T.dec (fun _ => t10 _ _ hs) fun _ => T.dec (fun _ => t10 _ _ hs) fun _ => by omega) fun _ => t10 _ _ hs
        have t6 : ∀ s v, D6 s → T (fun k n => zfr k n s x v i) fun r => D6 r := fun s v hs => by
          refine T.step ?_
          unfold zfr
          refine T.bind (zu6 (by decide)) fun _ _ => T.dec (fun _ => T.dec (fun _ => t8 _ _ hs) fun _ => T.dec (fun _ => t8 _ _ hs) fun _ => T.dec (fun _ => t8 _ _ hs) fun _ => T.dec (fun _ => t8 _ _ hs) fun _ => by omega) fun _ => t8 _ _ hs
        refine T.step ?_
        unfold zhj
        refine T.dec (fun _ => T.bind (zu6 (by decide)) fun _ _ => T.dec (fun _ => T.dec (fun _ => t6 _ _ hs) fun _ => T.dec (fun _ => t6 _ _ hs) fun _ => T.dec (fun _ => t6 _ _ hs) fun _ => T.dec (fun _ => t6 _ _ hs) fun _ => by omega) fun _ => t6 _ _ hs) fun h => absurd h4 h
      · refine T.step ?_
        unfold zhj
        refine T.dec (fun h => absurd h h4) fun _ => ?_
        repeat' (first | exact t57 _ _ hs | exact t57 _ _ hf | refine T.dec (fun _ => ?_) (fun _ => ?_))
  exact T.diag (F := fun k n => zre k n s x) (key _ _ _ 0 (Nat.le_refl _) (by omega) (by omega) hs)
theorem ygd : T (fun _ _ => zgb) fun r => D6 r := T.of rfl ⟨Int.le_refl 0, show (0 : Int) ≤ 6 by decide⟩
theorem put_T {s p : StyT} {x : ValT} (hs : D6 s) (hp : D6 p) (hx : W6 x) : T (fun k _ => zot k s p x) fun r => D6 r := by
  unfold zot
  exact T.dec (fun _ => T.bind (yf5 hs hp) fun _ h => T.some h) fun _ => T.dec (fun _ => T.bind ygd fun _ h1 => T.bind (yf5 hs h1) fun _ h => T.some h) fun _ => T.dec (fun _ => T.bind (set_T hs hx) fun _ h1 => T.bind (yf5 hs h1) fun _ h => T.some h) fun _ => T.some hs
theorem before_T {a b : SaiT} : T (fun _ _ => zje a b) fun _ => True := by
  unfold zje
  exact T.dec (fun _ => T.some trivial) fun _ => T.bind less_T fun _ _ => T.some trivial
theorem join_T {l : List SaiT} {d : DecT} {w : WeiT} {p q : Int} (hl : (l.length : Int) ≤ 10000000000) : T (fun k _ => zpx k l d w p q) fun r => r.length = l.length + 1 := by
  have key : ∀ (m : Nat) (l : List SaiT) (x : SaiT) (i : Int), i.toNat ≤ m → 0 ≤ i → i < l.length → i ≤ 20000000000 → T (fun _ n => zec n l x i) fun r => r.length = l.length := by
    have fin : ∀ (l : List SaiT) (x : SaiT) (i : Int),0 ≤ i → i < l.length → T (fun _ _ => zi9 l i x) fun r => r.length = l.length := fun l x i h0 h1 => by
      unfold zi9
      exact T.get h0 h1 fun _ _ => T.get h0 h1 fun _ _ => T.some (by simp)
    intro m
    induction m with
    | zero =>
      intro l x i h h0 h1 h2
      refine T.step ?_
      unfold zec
      exact T.dec (fun _ => by omega) fun _ => fin l x i h0 h1
    | succ m ih =>
      intro l x i h h0 h1 h2
      refine T.step ?_
      unfold zec
      refine T.dec (fun h3 => ?_) fun _ => fin l x i h0 h1
      rw [w64i (by omega)]
      refine T.get (by omega) (by omega) fun _ _ => T.get (by omega) (by omega) fun _ _ => T.bind before_T fun _ _ => T.bif (fun _ => T.get (by omega) (by omega) fun _ _ => T.get (by omega) (by omega) fun _ _ => T.get h0 h1 fun _ _ => T.get h0 h1 fun _ _ => (ih _ _ _ (by omega) (by omega) (by simp; omega) (by omega)).mono fun r hr => by simpa using hr) fun _ => fin l x i h0 h1
  refine T.diag (F := fun _ n => zlw n l d w p q) ?_
  unfold zlw
  have e : ∀ y, T (fun _ n => zjy (zec n) y l w d) fun r => r.length = l.length + 1 := fun y => by
    unfold zjy
    exact T.app (by simp; omega) (by simp; omega) ((key _ _ _ _ (Nat.le_refl _) (by omega) (by simp; omega) (by omega)).mono fun r hr => by simpa using hr)
  exact T.bif (fun _ => e _) fun _ => e _
theorem yb7 {t : TreT} (ht : TrOK t) {l : List SaiT} {i p q : Int} {rs : List RulT} (hl : (l.length : Int) ≤ 2100000000) (hr : (rs.length : Int) ≤ 1024) (ho : ∀ x ∈ rs, okRule x) : T (fun k _ => zg8 k l t i rs p q) fun r => (r.length : Int) ≤ l.length + 2048000000 := by
  have key : ∀ (m : Nat) (v : List SaiT) (j : Int), rs.length - j.toNat ≤ m → 0 ≤ j → j ≤ rs.length → (v.length : Int) ≤ l.length + 2000000 * j → T (fun k n => zcg k n v i rs p q t j) fun r => (r.length : Int) ≤ l.length + 2048000000 := by
    intro m
    induction m with
    | zero =>
      intro v j h h0 h1 hv
      refine T.step ?_
      unfold zcg
      exact T.dec (fun _ => by omega) fun _ => T.some (by omega)
    | succ m ih =>
      intro v j h h0 h1 hv
      refine T.step ?_
      unfold zcg
      refine T.dec (fun hj => T.get h0 hj fun x hx => ?_) fun _ => T.some (by omega)
      have hx2 := ho x (List.mem_of_getElem? hx)
      have hx3 := hx2.2.2.1
      refine T.bind (best_T ht hx2.1 hx2.2.1) fun b _ => ?_
      have up : ∀ (v : List SaiT),(v.length : Int) ≤ l.length + 2000000 * (j + 1) → T (fun k n => zcg k n v i rs p q t (w64 (j + 1))) fun r => (r.length : Int) ≤ l.length + 2048000000 := fun v hv => by
        rw [w64i (by omega)]
        exact ih _ _ (by omega) (by omega) (by omega) hv
      have k6 : ∀ (m2 : Nat) (v : List SaiT) (e : Int), x.2.1.length - e.toNat ≤ m2 → 0 ≤ e → e ≤ x.2.1.length → (v.length : Int) ≤ l.length + 2000000 * j + e → T (fun k n => ze5 k n v i rs p q t j b.1 b.2 e) fun r => (r.length : Int) ≤ l.length + 2048000000 := by
        intro m2
        induction m2 with
        | zero =>
          intro v e h2 d0 d1 hv
          refine T.step ?_
          unfold ze5
          refine T.bif (fun _ => T.get h0 hj fun y hy => ?_) fun _ => up v (by omega)
          rw [hx] at hy; cases hy
          exact T.dec (fun _ => by omega) fun _ => up v (by omega)
        | succ m2 ih2 =>
          intro v e h2 d0 d1 hv
          refine T.step ?_
          unfold ze5
          refine T.bif (fun _ => T.get h0 hj fun y hy => ?_) fun _ => up v (by omega)
          rw [hx] at hy; cases hy
          refine T.dec (fun he => T.get h0 hj fun y hy => ?_) fun _ => up v (by omega)
          rw [hx] at hy; cases hy
          rw [w64i (i := e + 1) (by omega)]
          exact T.get d0 he fun _ _ => T.bind (join_T (by omega)) fun r hr => ih2 _ _ (by omega) (by omega) (by omega) (by omega)
      exact k6 _ _ 0 (Nat.le_refl _) (by omega) (by omega) (by omega)
  exact T.diag (F := fun k n => zl3 k n l t i rs p q) (key _ _ 0 (Nat.le_refl _) (by omega) (by omega) (by omega))
end Go.V
namespace Go.V
set_option linter.unusedVariables false
set_option linter.unusedSimpArgs false
set_option linter.unusedSectionVars false
set_option maxRecDepth 100000
open Go.RowKit Go.Sl
theorem yff {s : ByteArray} (hs : s.size ≤ 900000) : T (fun k _ => zir k s) fun r => (r.1.length : Int) ≤ 1024 ∧ ∀ x ∈ r.1, okRule x := by
  unfold zir
  have e : bytesM s = some (bytesIn s) := by
    unfold bytesM
    rw [decide_eq_true (by omega : s.size ≤ 70368744177664)]; rfl
  refine T.bind (T.of (P := fun r => r.length = s.size) e (zbs s)) fun r hr => T.bind (decode_T (by omega)) fun r2 hr2 => T.bind (ycq (by omega)) fun r3 hr3 => T.bind (parse_T (by omega)) fun r4 hr4 => T.some hr4
def WS (t : TreT) (i : Int) (w : List StyT) : Prop := w.length = t.1.length ∧ (∀ (j : Nat) r s,(j : Int) < i → t.1[j]? = some r → r.1 = 2 → w[j]? = some s → s.1 = 0) ∧ ∀ s ∈ w, D6 s
theorem d60 {s : StyT} (h : s.1 = 0) : D6 s := ⟨by omega, by omega⟩
theorem WS.set {t : TreT} {i : Int} {w : List StyT} (h : WS t i w) (h0 : 0 ≤ i) {x : StyT} (hx : D6 x) : WS t i (w.set i.toNat x) := ⟨by rw [List.length_set]; exact h.1, fun j r s hj hr h2 hs => by
  rw [List.getElem?_set, if_neg (by omega)] at hs
  exact h.2.1 j r s hj hr h2 hs, fun s hs => by
  rcases List.mem_or_eq_of_mem_set hs with hs | rfl
  · exact h.2.2 s hs
  · exact hx⟩
theorem WS.next {t : TreT} {i : Int} {w : List StyT} (h : WS t i w) (h0 : 0 ≤ i) {r0 : NodT} (hr0 : t.1[i.toNat]? = some r0) (hne : r0.1 ≠ 2) : WS t (i + 1) w := ⟨h.1, fun j r s hj hr h2 hs => by
  by_cases e : j = i.toNat
  · subst e; rw [hr0] at hr; cases hr; exact absurd h2 hne
  · exact h.2.1 j r s (by omega) hr h2 hs, h.2.2⟩
theorem WS.text {t : TreT} {i : Int} {w : List StyT} (h : WS t i w) (h0 : 0 ≤ i) (h1 : ∀ s, w[i.toNat]? = some s → s.1 = 0) : WS t (i + 1) w := ⟨h.1, fun j r s hj hr h2 hs => by
  by_cases e : j = i.toNat
  · subst e; exact h1 s hs
  · exact h.2.1 j r s (by omega) hr h2 hs, h.2.2⟩
theorem WS.full {t : TreT} {i : Int} {w : List StyT} (h : WS t i w) (e : i = t.1.length) : WS t t.1.length w := e ▸ h
theorem yda {s : StyT} {b : Bool} : T (fun _ _ => zhk s b) fun r => r.1 = 0 := by
  cases b <;> exact T.some rfl
theorem styles_T {t : TreT} (ht : TrOK t) {rs : List RulT} (hr : (rs.length : Int) ≤ 1024) (ho : ∀ x ∈ rs, okRule x) : T (fun k _ => zos k t rs) fun r => WS t t.1.length r := by
  have hl := ht.len
  refine T.diag (F := fun k n => zj1 k n t rs) ?_
  unfold zj1
  refine T.bind (yff (by decide)) fun h hh => T.rep (by omega) (by omega) (by omega) fun out hrep hout => ?_
  have k4 : ∀ (m : Nat) (v : List StyT) (i : Int), t.1.length - i.toNat ≤ m → 0 ≤ i → i ≤ t.1.length → WS t i v → T (fun k n => zbp k n rs t h.1 v i) fun r => WS t t.1.length r := by
    intro m
    induction m with
    | zero =>
      intro v i h' h0 h1 hv
      refine T.step ?_
      unfold zbp
      exact T.dec (fun _ => by omega) fun _ => T.some (hv.full (by omega))
    | succ m ih =>
      intro v i h' h0 h1 hv
      by_cases hi : i < t.1.length
      · obtain ⟨r0, hr0⟩ : ∃ r, t.1[i.toNat]? = some r := ⟨_, List.getElem?_eq_getElem (by omega)⟩
        have up : ∀ (w : List StyT), WS t (i + 1) w → T (fun k n => zbp k n rs t h.1 w (w64 (i + 1))) fun r => WS t t.1.length r := fun w hw => by
          rw [w64i (by omega)]
          exact ih _ _ (by omega) (by omega) (by omega) hw
        have k27 : r0.1 ≠ 2 → ∀ (l : List SaiT) (p : StyT), D6 p → (l.length : Int) ≤ 10000000000 → ∀ (m2 : Nat) (w : List StyT) (e : Int), l.length - e.toNat ≤ m2 → 0 ≤ e → e ≤ l.length → WS t i w → T (fun k n => zbq k n rs t h.1 w i p l e) fun r => WS t t.1.length r := by
          intro hne l p hp hl2 m2
          induction m2 with
          | zero =>
            intro w e h2 d0 d1 hw
            refine T.step ?_
            unfold zbq
            exact T.dec (fun _ => by omega) fun _ => up w (hw.next h0 hr0 hne)
          | succ m2 ih2 =>
            intro w e h2 d0 d1 hw
            refine T.step ?_
            unfold zbq
            refine T.dec (fun he => T.get d0 he fun _ _ => T.get d0 he fun _ _ => T.bind read_T fun x hx => ?_) fun _ => up w (hw.next h0 hr0 hne)
            have up2 : ∀ (w : List StyT), WS t i w → T (fun k n => zbq k n rs t h.1 w i p l (w64 (e + 1))) fun r => WS t t.1.length r := fun w hw => by
              rw [w64i (by omega)]
              exact ih2 _ _ (by omega) (by omega) (by omega) hw
            have k31 : ∀ (m3 : Nat) (w : List StyT) (c : Int), x.1.length - c.toNat ≤ m3 → 0 ≤ c → c ≤ x.1.length → WS t i w → T (fun k n => ze6 k n rs t h.1 w i p l e x.1 x.2 c) fun r => WS t t.1.length r := by
              intro m3
              induction m3 with
              | zero =>
                intro w c h3 e0 e1 hw
                refine T.step ?_
                unfold ze6
                exact T.bif (fun _ => T.dec (fun _ => by omega) fun _ => up2 w hw) fun _ => up2 w hw
              | succ m3 ih3 =>
                intro w c h3 e0 e1 hw
                refine T.step ?_
                unfold ze6
                refine T.bif (fun _ => T.dec (fun hc => ?_) fun _ => up2 w hw) fun _ => up2 w hw
                rw [w64i (i := c + 1) (by omega)]
                exact T.get h0 (by have := hw.1; omega) fun _ _ => T.get h0 (by have := hw.1; omega) fun q hq => T.get e0 hc fun y hy => T.bind (put_T (hw.2.2 q (List.mem_of_getElem? hq)) hp (hx.2 y (List.mem_of_getElem? hy))) fun z hz => T.get h0 (by have := hw.1; omega) fun _ _ => T.get h0 (by have := hw.1; omega) fun _ _ => ih3 _ _ (by omega) (by omega) (by omega) (hw.set h0 hz)
            exact k31 _ _ 0 (Nat.le_refl _) (by omega) (by omega) hw
        have k21 : r0.1 ≠ 2 → ∀ (ds : List DecT) (p : StyT), D6 p → (ds.length : Int) ≤ 1000000000 → ∀ (m2 : Nat) (w : List StyT) (l : List SaiT) (e : Int), ds.length - e.toNat ≤ m2 → 0 ≤ e → e ≤ ds.length → WS t i w → (l.length : Int) ≤ 5000000000 + e → T (fun k n => zd5 k n rs t h.1 w i p l ds e) fun r => WS t t.1.length r := by
          intro hne ds p hp hd m2
          have fin : ∀ (w : List StyT) (l : List SaiT) (e : Int), e ≤ ds.length → WS t i w → (l.length : Int) ≤ 5000000000 + e → ∀ q, D6 q → T (fun k n => zbq k n rs t h.1 w i q l 0) fun r => WS t t.1.length r := fun w l e he hw hl2 q hq => k27 hne l q hq (by omega) _ w 0 (Nat.le_refl _) (by omega) (by omega) hw
          induction m2 with
          | zero =>
            intro w l e h2 d0 d1 hw hl2
            refine T.step ?_
            unfold zd5
            refine T.dec (fun _ => by omega) fun _ => T.dec (fun _ => T.bind ygd fun q hq => ?_) fun _ => ?_ <;> (unfold zfb; first | exact fin w l e d1 hw hl2 _ hq | exact fin w l e d1 hw hl2 _ hp)
          | succ m2 ih2 =>
            intro w l e h2 d0 d1 hw hl2
            refine T.step ?_
            unfold zd5
            refine T.dec (fun he => ?_) fun _ => T.dec (fun _ => T.bind ygd fun q hq => ?_) fun _ => ?_
            · rw [w64i (i := e + 1) (by omega)]
              exact T.get d0 he fun _ _ => T.bind (join_T (by omega)) fun r hr => ih2 _ _ _ (by omega) (by omega) (by omega) hw (by omega)
            all_goals (unfold zfb; first | exact fin w l e d1 hw hl2 _ hq | exact fin w l e d1 hw hl2 _ hp)
        have k16 : r0.1 ≠ 2 → ∀ (s : ByteArray) (p : StyT) (l : List SaiT), D6 p → s.size ≤ 100000000 → (l.length : Int) ≤ 5000000000 → ∀ (m2 : Nat) (w : List StyT) (rn : List Int) (e : Nat), s.size - e ≤ m2 → WS t i w → rn.length ≤ e → rn.length ≤ s.size → T (fun k n => zch k n rs t h.1 w i p l rn (s, e)) fun r => WS t t.1.length r := by
          intro hne s p l hp hs hl2 m2
          have fin : ∀ (w : List StyT) (rn : List Int), WS t i w → rn.length ≤ s.size → T (fun k n => (zkm k rn).bind fun r66 => (zmj k r66).bind fun r67 => zd5 k n rs t h.1 w i p l r67 0) fun r => WS t t.1.length r := fun w rn hw hrn =>
            T.bind (ycq (by omega)) fun x hx => T.bind (ygw (by omega)) fun y hy => k21 hne _ _ hp (by have := hy.1; omega) _ w l 0 (Nat.le_refl _) (by omega) (by omega) hw (by omega)
          induction m2 with
          | zero =>
            intro w rn e h2 hw h3 h4
            refine T.step ?_
            unfold zch
            exact T.dec (fun h5 => by simp only at h5; omega) fun _ => fin w rn hw h4
          | succ m2 ih2 =>
            intro w rn e h2 hw h3 h4
            have hd := zji s e
            refine T.step ?_
            unfold zch
            refine T.dec (fun h5 => ?_) fun _ => fin w rn hw h4
            simp only at h5
            exact T.app (by simp; omega) (by simp; omega) (ih2 _ _ _ (by simp only; omega) hw (by simp; omega) (by simp; omega))
        have tail : ∀ (w : List StyT) (p : StyT), D6 p → WS t i w → (∀ s, w[i.toNat]? = some s → s.1 = 0) → T (fun k n => (geti t.1 i).bind fun r61 => bif decide (r61.1 = 2) then zbp k n rs t h.1 w (w64 (i + 1)) else (zg8 k [] t i h.1 1 6).bind fun r62 => (zg8 k r62 t i rs 2 4).bind fun r63 => (zkx k t i (bs [115,116,121,108,101])).bind fun r64 => zch k n rs t h.1 w i p r63 [] (r64.1,0)) fun r => WS t t.1.length r := fun w p hp hw hw0 =>
          T.get h0 hi fun r1 hr1 => T.dec (fun _ => up w (hw.text h0 hw0)) fun hne => have hne : r0.1 ≠ 2 := by rw [hr0] at hr1; cases hr1; exact hne
          T.bind (yb7 ht (by simp) hh.1 hh.2) fun a ha => T.bind (yb7 ht (by simp only [List.length_nil] at ha; omega) hr ho) fun b hb => T.bind (ydj ht) fun c hc => k16 hne _ _ _ hp hc (by simp only [List.length_nil] at ha; omega) _ w [] 0 (Nat.le_refl _) hw (by simp) (by simp)
        refine T.step ?_
        unfold zbp
        refine T.dec (fun _ => T.dec (fun h2 => T.get h0 hi fun r3 h3 => ?_) fun _ => ?_) fun h2 => absurd hi h2
        · have q0 := ht.par0 _ r3 (by omega) h3
          have q1 := ht.par _ r3 h3
          refine T.get q0 (by have := hv.1; omega) fun _ _ => T.get q0 (by have := hv.1; omega) fun r5 h5 => ?_
          have hp := hv.2.2 r5 (List.mem_of_getElem? h5)
          unfold zg9
          exact T.bind yda fun x hx => T.get h0 (by have := hv.1; omega) fun _ _ => T.get h0 (by have := hv.1; omega) fun _ _ => tail _ _ hp (hv.set h0 (d60 hx)) fun s hs => by rw [List.getElem?_set, if_pos rfl] at hs; split at hs <;> cases hs; exact hx
        · unfold zg9
          exact T.bind yda fun x hx => T.get h0 (by have := hv.1; omega) fun _ _ => T.get h0 (by have := hv.1; omega) fun _ _ => tail _ _ ⟨Int.le_refl 0, show (0 : Int) ≤ 6 by decide⟩ (hv.set h0 (d60 hx)) fun s hs => by rw [List.getElem?_set, if_pos rfl] at hs; split at hs <;> cases hs; exact hx
      · refine T.step ?_
        unfold zbp
        exact T.dec (fun h2 => absurd h2 hi) fun _ => T.some (hv.full (by omega))
  exact k4 _ _ 0 (Nat.le_refl _) (by omega) (by omega) ⟨by omega, fun j r s hj => by omega, fun s hs => by
    rw [hrep] at hs
    rw [(List.mem_replicate.1 hs).2]
    exact ⟨Int.le_refl 0, show (0 : Int) ≤ 6 by decide⟩⟩
theorem yeg {t : TreT} (ht : TrOK t) {s : ByteArray} (hs : s.size ≤ 900000) : T (fun k _ => zdw k t s) fun r => r.2 = true → WS t t.1.length r.1 := by
  unfold zdw
  refine T.bind (yff hs) fun r hr => T.bif (fun _ => T.some (by simp)) fun _ => T.bind (styles_T ht hr.1 hr.2) fun x hx => T.some fun _ => hx
theorem few_T {s : ByteArray} {n : Int} (hn : 0 ≤ n) : T (fun _ _ => zk6 s n) fun r => (r.size : Int) ≤ n := by
  unfold zk6
  refine T.dec (fun h => ?_) fun _ => T.some (by omega)
  have e : cutS s 0 n = some (s.extract (0 : Int).toNat n.toNat) := by
    have q : (decide ((0 : Int) ≤ 0) && decide ((0 : Int) ≤ n) && decide (n ≤ (s.size : Int))) = true := by
      rw [decide_eq_true hn, decide_eq_true (by omega : n ≤ (s.size : Int))]; rfl
    unfold cutS
    rw [q]; rfl
  refine T.bind (T.of (P := fun r => (r.size : Int) ≤ n) e ?_) fun r hr => T.some hr
  rw [ByteArray.size_extract]; omega
theorem yar {x : LenT} : T (fun _ _ => zbr x) fun _ => True := by
  unfold zbr
  repeat' (first | exact trivial | assumption | refine T.some ?_ | refine T.get ?_ ?_ fun _ _ => ?_ | refine T.app ?_ ?_ ?_ | refine T.cut ?_ ?_ ?_ fun _ _ _ => ?_ | refine T.dec (fun _ => ?_) (fun _ => ?_) | refine T.bif (fun _ => ?_) (fun _ => ?_))
end Go.V
