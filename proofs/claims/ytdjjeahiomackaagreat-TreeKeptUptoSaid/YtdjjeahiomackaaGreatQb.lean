/-
  Walks and laws of this seat.
-/
import Derived.Test.YtdjjeahiomackaaGreatQa
namespace Go.V
set_option linter.unusedVariables false
set_option linter.unusedSimpArgs false
set_option linter.unusedSectionVars false
section
set_option maxRecDepth 100000
open Go.RowKit Go.Sl
theorem zlc : ∀ (xs : List Int),(textOf xs).size ≤ 4 * xs.length
  | [] => by decide
  | x :: xs => by
    have := zlc xs
    have := zsp x
    rw [zrj, ByteArray.size_append, List.length_cons]; omega
section
variable {l : List Int} (hl : (l.length : Int) ≤ 20000000)
include hl
theorem attr4_T {i : Int} (h0 : 0 ≤ i) (h1 : i < l.length) : T (fun k _ => zng k l i) fun r => i < r.2 ∧ r.2 ≤ l.length := by
  have un : ∀ {a b : Int} {β : Type} {G : Nat → Nat → ByteArray → Option β} {Q : β → Prop}, 0 ≤ a → a ≤ b → b ≤ l.length → (∀ r, T (fun k n => G k n r) Q) → T (fun k n => (cutM l a b).bind fun x => (zef k (textOf x)).bind fun r => G k n r) Q := fun {a b β G Q} g0 g1 g2 g => by
    refine T.cut g0 g1 g2 fun x hx hxl => T.bind (zn9 ?_) fun r _ => g r
    have := zlc x
    omega
  have c19 : ∀ (p q : Int) (v : AttT),0 ≤ p → p ≤ q → i < q → q ≤ l.length → T (fun k _ => zf3 k l p q v) fun r => i < r.2 ∧ r.2 ≤ l.length := fun p q v g0 g1 g2 g3 => by
    unfold zf3
    exact un g0 g1 g3 fun _ => T.some ⟨g2, g3⟩
  have k19 : ∀ (p : Int) (u v : AttT),0 ≤ p → ∀ (m : Nat) (q : Int), l.length - q.toNat ≤ m → p ≤ q → i < q → q ≤ l.length → T (fun k n => zd4 k n l q u p v) fun r => i < r.2 ∧ r.2 ≤ l.length := by
    intro p u v g0 m
    induction m with
    | zero =>
      intro q h g1 g2 g3
      refine T.step ?_
      unfold zd4
      exact T.dec (fun _ => by omega) fun _ => c19 p q v g0 g1 g2 g3
    | succ m ih =>
      intro q h g1 g2 g3
      have c := c19 p q v g0 g1 g2 g3
      refine T.step ?_
      unfold zd4
      refine T.dec (fun hq => T.get (by omega) hq fun _ _ => T.bind zkd fun _ _ => T.bif (fun _ => T.get (by omega) hq fun _ _ => T.dec (fun _ => ?_) fun _ => c) fun _ => c) fun _ => c
      rw [w64i (by omega)]
      exact ih _ (by omega) (by omega) (by omega) (by omega)
  have c12 : ∀ (p q : Int) (v : AttT),0 ≤ p → p + 1 ≤ q → i < q → q ≤ l.length → T (fun k _ => zgc k l p q v) fun r => i < r.2 ∧ r.2 ≤ l.length := fun p q v g0 g1 g2 g3 => by
    unfold zgc
    rw [w64i (i := p + 1) (by omega), w64i (i := q + 1) (by omega)]
    exact un (by omega) g1 g3 fun _ => T.dec (fun hq => T.some ⟨by show i < q + 1; omega, by show q + 1 ≤ _; omega⟩) fun _ => T.some ⟨g2, g3⟩
  have k12 : ∀ (p : Int) (u v : AttT),0 ≤ p → p < l.length → ∀ (m : Nat) (q : Int), l.length - q.toNat ≤ m → p + 1 ≤ q → i < q → q ≤ l.length → T (fun k n => zd5 k n l p u v q) fun r => i < r.2 ∧ r.2 ≤ l.length := by
    intro p u v g0 gp m
    induction m with
    | zero =>
      intro q h g1 g2 g3
      refine T.step ?_
      unfold zd5
      exact T.dec (fun _ => by omega) fun _ => c12 p q v g0 g1 g2 g3
    | succ m ih =>
      intro q h g1 g2 g3
      have c := c12 p q v g0 g1 g2 g3
      refine T.step ?_
      unfold zd5
      refine T.dec (fun hq => T.get (by omega) hq fun _ _ => T.get g0 gp fun _ _ => T.dec (fun _ => ?_) fun _ => c) fun _ => c
      rw [w64i (by omega)]
      exact ih _ (by omega) (by omega) (by omega) (by omega)
  have c3 : ∀ (q : Int) (u : AttT), i < q → q ≤ l.length → T (fun k n => ze2 k (zd5 k n) (zd4 k n) l i q u) fun r => i < r.2 ∧ r.2 ≤ l.length := fun q u g2 g3 => by
    unfold ze2
    refine T.cut h0 (by omega) g3 fun x hx hxl => T.bind (zu2 (by omega)) fun nm _ => T.bind (zr8 (by omega) (by omega) g3) fun j hj => T.dec (fun _ => T.some ⟨by show i < j; omega, hj.2⟩) fun hjl => T.get (by omega) (by omega) fun _ _ => T.dec (fun _ => T.some ⟨by show i < j; omega, hj.2⟩) fun _ => ?_
    rw [w64i (by omega)]
    refine T.bind (zr8 (by omega) (by omega) (by omega)) fun p hp => ?_
    have j19 := k19 p u (nm,(bs []),()) (by omega) _ p (Nat.le_refl _) (Int.le_refl _) (by omega) hp.2
    refine T.dec (fun hpl => T.get (by omega) hpl fun _ _ => T.dec (fun _ => ?_) fun _ => T.get (by omega) hpl fun _ _ => T.dec (fun _ => ?_) fun _ => j19) fun _ => j19
    all_goals
      rw [w64i (by omega)]
      exact k12 p u (nm,(bs []),()) (by omega) hpl _ (p + 1) (Nat.le_refl _) (Int.le_refl _) (by omega) (by omega)
  have k3 : ∀ (u : AttT) (m : Nat) (q : Int), l.length - q.toNat ≤ m → i < q → q ≤ l.length → T (fun k n => zgo k n l q u i) fun r => i < r.2 ∧ r.2 ≤ l.length := by
    intro u m
    induction m with
    | zero =>
      intro q h g2 g3
      refine T.step ?_
      unfold zgo
      exact T.dec (fun _ => by omega) fun _ => c3 q u g2 g3
    | succ m ih =>
      intro q h g2 g3
      have c := c3 q u g2 g3
      refine T.step ?_
      unfold zgo
      refine T.dec (fun hq => T.get (by omega) hq fun _ _ => T.bind zkd fun _ _ => T.bif (fun _ => T.get (by omega) hq fun _ _ => T.dec (fun _ => T.get (by omega) hq fun _ _ => T.dec (fun _ => T.get (by omega) hq fun _ _ => T.dec (fun _ => ?_) fun _ => c) fun _ => c) fun _ => c) fun _ => c) fun _ => c
      rw [w64i (by omega)]
      exact ih _ (by omega) (by omega) (by omega)
  refine T.diag (F := fun k n => zj7 k n l i) ?_
  unfold zj7
  rw [w64i (by omega)]
  exact k3 _ _ (i + 1) (Nat.le_refl _) (by omega) (by omega)
end
end
section
set_option maxRecDepth 100000
open Go.RowKit Go.Sl
theorem small_sz {l : List Int} (hl : (l.length : Int) ≤ 1000000000) : T (fun k _ => zgq k l) fun r => r.size ≤ 4 * l.length := by
  have fin : ∀ (i : Int) (v : List Int), i ≤ l.length → (v.length : Int) ≤ i → (textOf v).size ≤ 4 * l.length := fun i v h1 h2 => by have := zlc v; omega
  have key : ∀ (m : Nat) (i : Int) (v : List Int), l.length - i.toNat ≤ m → 0 ≤ i → i ≤ l.length → (v.length : Int) ≤ i → T (fun _ n => zcc n l v i) fun r => r.size ≤ 4 * l.length := by
    intro m
    induction m with
    | zero =>
      intro i v h h0 h1 hv
      refine T.step ?_
      unfold zcc
      exact T.dec (fun _ => by omega) (fun _ => T.some (fin i v h1 hv))
    | succ m ih =>
      intro i v h h0 h1 hv
      refine T.step ?_
      unfold zcc
      rw [w64i (by omega)]
      refine T.dec (fun hi => ?_) (fun _ => T.some (fin i v h1 hv))
      have nx : ∀ x, T (fun _ n => (appM 4 v [x]).bind fun r => zcc n l r (i + 1)) fun r => r.size ≤ 4 * l.length := fun x => T.app (by simp; omega) (by simp; omega) (ih (i + 1) (v ++ [x]) (by omega) (by omega) (by omega) (by simp; omega))
      exact T.get h0 hi fun r _ => T.dec (fun _ => T.dec (fun _ => nx _) fun _ => nx _) fun _ => nx _
  exact T.diag (F := fun _ n => zjw n l) (key _ 0 [] (Nat.le_refl _) (by omega) (by omega) (by simp))
section
variable {l : List Int} (hl : (l.length : Int) ≤ 20000000)
include hl
abbrev Beh (l : List Int) (i : Int) (r : TokT × Int × Bool) : Prop := i ≤ r.2.1 ∧ r.2.1 ≤ l.length ∧ r.1.2.1.size ≤ 4 * l.length
theorem tag4_T {i : Int} (h0 : 0 ≤ i) (h1 : i < l.length) : T (fun k _ => zn3 k l i) (Beh l i) := by
  have k6 : ∀ (u : Int × ByteArray × ByteArray × List AttT × Bool) (m : Nat) (q : Int) (v : Int × ByteArray × ByteArray × List AttT × Bool) (b : Bool), l.length - q.toNat ≤ m → i ≤ q → q ≤ l.length → (v.2.2.2.1.length : Int) ≤ 64 → v.2.1.size ≤ 4 * l.length → T (fun k n => zdl k n l q u v b) (Beh l i) := by
    intro u m
    have no : ∀ q : Int, i ≤ q → q ≤ l.length → Beh l i ((0,(bs []),(bs []),[], false,()), q, false) := fun q a b => ⟨a, b, Nat.zero_le _⟩
    induction m with
    | zero =>
      intro q v b h g1 g2 g3 g4
      refine T.step ?_
      unfold zdl
      exact T.dec (fun _ => by omega) fun _ => T.some (no q g1 g2)
    | succ m ih =>
      intro q v b h g1 g2 g3 g4
      refine T.step ?_
      unfold zdl
      refine T.dec (fun hq => ?_) fun _ => T.some (no q g1 g2)
      have c0 : T (fun k n => zhg k (zdl k n) l q u v) (Beh l i) := by
        unfold zhg
        rw [w64i (by omega)]
        exact T.get (by omega) hq fun _ _ => ih _ _ _ (by omega) (by omega) (by omega) g3 g4
      rw [w64i (by omega)]
      refine T.get (by omega) hq fun _ _ => T.dec (fun _ => T.some ⟨by show i ≤ q + 1; omega, by show q + 1 ≤ _; omega, g4⟩) fun _ => T.get (by omega) hq fun _ _ => T.bind zkd fun _ _ => T.bif (fun _ => c0) fun _ => T.get (by omega) hq fun _ _ => T.dec (fun _ => c0) fun _ => T.bind (attr4_T hl (by omega) hq) fun r hr => T.bind (add4_T g3) fun w hw => ih _ _ _ (by omega) (by omega) hr.2 hw g4
  have c2 : ∀ (q : Int) (u : Int × ByteArray × ByteArray × List AttT × Bool), i ≤ q → q ≤ l.length → T (fun k n => zf8 k (zdl k n) l i q u) (Beh l i) := fun q u g1 g2 => by
    unfold zf8
    refine T.cut h0 g1 g2 fun x hx hxl => ?_
    have hsm : T (fun k _ => zgq k x) fun r => r.size ≤ 4 * l.length := (small_sz (by omega)).mono fun r h => by omega
    exact T.bind hsm fun r hr => k6 _ _ _ _ _ (Nat.le_refl _) g1 g2 (show ((0 : Nat) : Int) ≤ 64 by decide) hr
  have k2 : ∀ (m : Nat) (q : Int) (u : Int × ByteArray × ByteArray × List AttT × Bool), l.length - q.toNat ≤ m → i ≤ q → q ≤ l.length → T (fun k n => zhn k n l q u i) (Beh l i) := by
    intro m
    induction m with
    | zero =>
      intro q u h g1 g2
      refine T.step ?_
      unfold zhn
      exact T.dec (fun _ => by omega) fun _ => c2 q u g1 g2
    | succ m ih =>
      intro q u h g1 g2
      have c := c2 q u g1 g2
      refine T.step ?_
      unfold zhn
      refine T.dec (fun hq => T.get (by omega) hq fun _ _ => T.bind zkd fun _ _ => T.bif (fun _ => T.get (by omega) hq fun _ _ => T.dec (fun _ => T.get (by omega) hq fun _ _ => T.dec (fun _ => ?_) fun _ => c) fun _ => c) fun _ => c) fun _ => c
      rw [w64i (by omega)]
      exact ih _ _ (by omega) (by omega) (by omega)
  exact T.diag (F := fun k n => zm2 k n l i) (k2 _ i _ (Nat.le_refl _) (Int.le_refl _) (by omega))
end
end
section
set_option maxRecDepth 100000
open Go.RowKit Go.Sl
section
variable {l : List Int} (hl : (l.length : Int) ≤ 20000000)
include hl
theorem raw4_T {i : Int} (h0 : 0 ≤ i) (h1 : i ≤ l.length) {s : ByteArray} (hs : s.size ≤ 100000000) : T (fun k _ => zp9 k l i s) fun j => i ≤ j ∧ j ≤ l.length := by
  have key : ∀ (m : Nat) (q : Int), l.length - q.toNat ≤ m → i ≤ q → q ≤ l.length → T (fun k n => zf9 k n l q s) fun j => i ≤ j ∧ j ≤ l.length := by
    intro m
    induction m with
    | zero =>
      intro q h g1 g2
      refine T.step ?_
      unfold zf9
      exact T.dec (fun _ => by omega) fun _ => T.some ⟨g1, g2⟩
    | succ m ih =>
      intro q h g1 g2
      refine T.step ?_
      unfold zf9
      refine T.dec (fun hq => ?_) fun _ => T.some ⟨g1, g2⟩
      have nx := ih (q + 1) (by omega) (by omega) (by omega)
      have yes : T (fun _ _ => some q) fun j => i ≤ j ∧ j ≤ l.length := T.some ⟨g1, g2⟩
      rw [w64i (i := q + 1) (by omega), w64i (i := q + 2) (by omega), w64i (i := q + 2 + (s.size : Int)) (by omega)]
      refine T.bind (is4_T (by omega) (by omega) g2 (by decide)) fun b _ => T.bif (fun _ => T.dec (fun hb => T.cut (by omega) (by omega) hb fun x _ hxl => T.bind (zu2 (by omega)) fun nm _ => T.dec (fun _ => T.dec (fun _ => yes) fun hne => T.get (by omega) (by omega) fun _ _ => T.bind zkd fun _ _ => T.bif (fun _ => yes) fun _ => T.get (by omega) (by omega) fun _ _ => T.dec (fun _ => yes) fun _ => T.get (by omega) (by omega) fun _ _ => T.dec (fun _ => yes) fun _ => nx) fun _ => nx) fun _ => nx) fun _ => nx
  exact T.diag (F := fun k n => zm4 k n l i s) (key _ i (Nat.le_refl _) (Int.le_refl _) h1)
theorem zty : T (fun k _ => zky k l) fun r => (r.length : Int) ≤ 2 * l.length := by
  have un : ∀ {a b : Int} {β : Type} {G : Nat → Nat → ByteArray → Option β} {Q : β → Prop}, 0 ≤ a → a ≤ b → b ≤ l.length → (∀ r, T (fun k n => G k n r) Q) → T (fun k n => (cutM l a b).bind fun x => (zef k (textOf x)).bind fun r => G k n r) Q := fun {a b β G Q} g0 g1 g2 g => by
    refine T.cut g0 g1 g2 fun x hx hxl => T.bind (zn9 ?_) fun r _ => g r
    have := zlc x
    omega
  have key : ∀ (m : Nat) (q : Int) (v : List TokT), l.length - q.toNat ≤ m → 0 ≤ q → q ≤ l.length → (v.length : Int) ≤ 2 * q → T (fun k n => zat k n l v q) fun r => (r.length : Int) ≤ 2 * l.length := by
    intro m
    induction m with
    | zero =>
      intro q v h g0 g1 hv
      refine T.step ?_
      unfold zat
      exact T.dec (fun _ => by omega) fun _ => T.some (by omega)
    | succ m ih =>
      intro q v h g0 g1 hv
      refine T.step ?_
      unfold zat
      refine T.dec (fun hq => ?_) fun _ => T.some (by omega)
      have nx : ∀ (p : Int) (w : List TokT), q < p → p ≤ l.length → (w.length : Int) ≤ 2 * p → T (fun k n => zat k n l w p) fun r => (r.length : Int) ≤ 2 * l.length := fun p w a b c => ih p w (by omega) (by omega) b c
      -- a run of chars
      have c6 : ∀ p : Int, q < p → p ≤ l.length → T (fun k n => zfp k (zat k n) l q p v) fun r => (r.length : Int) ≤ 2 * l.length := fun p a b => by
        unfold zfp
        exact un g0 (by omega) b fun r => T.app (by simp; omega) (by simp; omega) (nx p _ a b (by simp; omega))
      have k6 : ∀ (m2 : Nat) (p : Int), l.length - p.toNat ≤ m2 → q < p → p ≤ l.length → T (fun k n => zeg k n l v p q) fun r => (r.length : Int) ≤ 2 * l.length := by
        intro m2
        induction m2 with
        | zero =>
          intro p e a b
          refine T.step ?_
          unfold zeg
          exact T.dec (fun _ => by omega) fun _ => c6 p a b
        | succ m2 ih2 =>
          intro p e a b
          refine T.step ?_
          unfold zeg
          refine T.dec (fun hp => T.bind (zra (by omega) (by omega) hp) fun _ _ => T.bif (fun _ => ?_) fun _ => c6 p a b) fun _ => c6 p a b
          rw [w64i (by omega)]
          exact ih2 (p + 1) (by omega) (by omega) (by omega)
      rw [w64i (i := q + 1) (by omega), w64i (i := q + 2) (by omega)]
      have c2 : q + 1 < l.length → T (fun k n => zek k (zat k n) l q v) fun r => (r.length : Int) ≤ 2 * l.length := fun h2 => by
        unfold zek
        rw [w64i (i := q + 4) (by omega)]
        refine T.bind (is4_T (by omega) g0 g1 (by decide)) fun b hb => T.bif (fun e => ?_) fun _ => ?_
        · have h4 : q + 4 ≤ l.length := hb e
          exact T.bind (zr9 (by omega) (by omega) h4 (by decide)) fun r hr => nx r v (by omega) hr.2.1 (by omega)
        · exact T.bind (zr9 (by omega) g0 g1 (by decide)) fun r hr => nx r v (hr.2.2 (by decide) hq) hr.2.1 (by have := hr.1; omega)
      obtain ⟨b, hb, K, e⟩ := zra (l := l) (by omega) g0 hq
      replace e : zfx l q = some b := e K K (Nat.le_refl _) (Nat.le_refl _)
      refine T.bindE (T.ofE e) (T.bif (fun hn => ?_) fun hn => ?_)
      · refine T.step ?_
        unfold zeg
        refine T.dec (fun _ => T.bindE (T.ofE e) (T.bif (fun _ => ?_) fun h => by rw [hn] at h; cases h)) fun h => absurd hq h
        rw [w64i (i := q + 1) (by omega)]
        exact k6 _ (q + 1) (Nat.le_refl _) (by omega) (by omega)
      · have hq1 : q + 1 < l.length := hb (by simpa using hn)
        have c3 : ∀ (r : TokT × Int × Bool) (w : List TokT), q + 1 ≤ r.2.1 → r.2.1 ≤ l.length → r.1.2.1.size ≤ 4 * l.length → (w.length : Int) ≤ 2 * q + 1 → T (fun k n => zfq k (zat k n) l r w) fun r => (r.length : Int) ≤ 2 * l.length := fun r w a b c d => by
          unfold zfq
          refine T.bind (raw4_T hl (by omega) b (by omega)) fun j hj => T.dec (fun hlt => T.cut (by omega) hj.1 hj.2 fun x _ _ => T.app (by simp; omega) (by simp; omega) (nx j _ (by omega) hj.2 (by simp; omega))) fun _ => nx j w (by omega) hj.2 (by omega)
        refine T.get (by omega) hq1 fun _ _ => T.bind znn fun _ _ => T.bif (fun _ => T.bind (tag4_T hl (by omega) hq1) fun r hr => T.bif (fun _ => nx _ v (by have := hr.1; omega) hr.2.1 (by have := hr.1; omega)) fun _ => T.app (by simp; omega) (by simp; omega) ?_) fun _ => T.get (by omega) hq1 fun _ _ => T.dec (fun _ => T.dec (fun hq2 => T.get (by omega) hq2 fun _ _ => T.bind znn fun _ _ => T.bif (fun _ => T.bind (tag4_T hl (by omega) hq2) fun r hr => T.bif (fun _ => T.app (by simp; omega) (by simp; omega) (nx _ _ (by have := hr.1; omega) hr.2.1 (by have := hr.1; simp; omega))) fun _ => nx _ v (by have := hr.1; omega) hr.2.1 (by have := hr.1; omega)) fun _ => c2 hq1) fun _ => c2 hq1) fun _ => c2 hq1
        obtain ⟨r1, r2, r3⟩ := hr
        exact T.dec (fun _ => c3 r _ r1 r2 r3 (by simp; omega)) fun _ => T.dec (fun _ => c3 r _ r1 r2 r3 (by simp; omega)) fun _ => nx _ _ (by omega) r2 (by simp; omega)
  exact T.diag (F := fun k n => zj8 k n l) (key _ 0 [] (Nat.le_refl _) (by omega) (by omega) (by simp))
end
end
end Go.V
