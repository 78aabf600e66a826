/-
  Walks and laws of this seat.
-/
import Derived.Test.YtdjjeahiomackaaGreatQa
namespace Go.V
set_option linter.unusedVariables false
set_option linter.unusedSimpArgs false
set_option linter.unusedSectionVars false
section
set_option maxRecDepth 100000
open Go.RowKit Go.Sl
theorem zlb : ∀ (xs : List Int),(textOf xs).size ≤ 4 * xs.length
  | [] => by decide
  | x :: xs => by
    have := zlb xs
    have := ztb x
    rw [znc, ByteArray.size_append, List.length_cons]; omega
section
variable {l : List Int} (hl : (l.length : Int) ≤ 20000000)
include hl
theorem attr4_T {i : Int} (h0 : 0 ≤ i) (h1 : i < l.length) : T (fun k _ => znk k l i) fun r => i < r.2 ∧ r.2 ≤ l.length := by
  have un : ∀ {a b : Int} {β : Type} {G : Nat → Nat → ByteArray → Option β} {Q : β → Prop}, 0 ≤ a → a ≤ b → b ≤ l.length → (∀ r, T (fun k n => G k n r) Q) → T (fun k n => (cutM l a b).bind fun x => (zed k (textOf x)).bind fun r => G k n r) Q := fun {a b β G Q} g0 g1 g2 g => by
    refine T.cut g0 g1 g2 fun x hx hxl => T.bind (znb ?_) fun r _ => g r
    have := zlb x
    omega
  have c19 : ∀ (p q : Int) (v : AttT),0 ≤ p → p ≤ q → i < q → q ≤ l.length → T (fun k _ => zf0 k l p q v) fun r => i < r.2 ∧ r.2 ≤ l.length := fun p q v g0 g1 g2 g3 => by
    unfold zf0
    exact un g0 g1 g3 fun _ => T.some ⟨g2, g3⟩
  have k19 : ∀ (p : Int) (u v : AttT),0 ≤ p → ∀ (m : Nat) (q : Int), l.length - q.toNat ≤ m → p ≤ q → i < q → q ≤ l.length → T (fun k n => zcz k n l q u p v) fun r => i < r.2 ∧ r.2 ≤ l.length := by
    intro p u v g0 m
    induction m with
    | zero =>
      intro q h g1 g2 g3
      refine T.step ?_
      unfold zcz
      exact T.dec (fun _ => by omega) fun _ => c19 p q v g0 g1 g2 g3
    | succ m ih =>
      intro q h g1 g2 g3
      have c := c19 p q v g0 g1 g2 g3
      refine T.step ?_
      unfold zcz
      refine T.dec (fun hq => T.get (by omega) hq fun _ _ => T.bind zkd fun _ _ => T.bif (fun _ => T.get (by omega) hq fun _ _ => T.dec (fun _ => ?_) fun _ => c) fun _ => c) fun _ => c
      rw [w64i (by omega)]
      exact ih _ (by omega) (by omega) (by omega) (by omega)
  have c12 : ∀ (p q : Int) (v : AttT),0 ≤ p → p + 1 ≤ q → i < q → q ≤ l.length → T (fun k _ => zg6 k l p q v) fun r => i < r.2 ∧ r.2 ≤ l.length := fun p q v g0 g1 g2 g3 => by
    unfold zg6
    rw [w64i (i := p + 1) (by omega), w64i (i := q + 1) (by omega)]
    exact un (by omega) g1 g3 fun _ => T.dec (fun hq => T.some ⟨by show i < q + 1; omega, by show q + 1 ≤ _; omega⟩) fun _ => T.some ⟨g2, g3⟩
  have k12 : ∀ (p : Int) (u v : AttT),0 ≤ p → p < l.length → ∀ (m : Nat) (q : Int), l.length - q.toNat ≤ m → p + 1 ≤ q → i < q → q ≤ l.length → T (fun k n => zd0 k n l p u v q) fun r => i < r.2 ∧ r.2 ≤ l.length := by
    intro p u v g0 gp m
    induction m with
    | zero =>
      intro q h g1 g2 g3
      refine T.step ?_
      unfold zd0
      exact T.dec (fun _ => by omega) fun _ => c12 p q v g0 g1 g2 g3
    | succ m ih =>
      intro q h g1 g2 g3
      have c := c12 p q v g0 g1 g2 g3
      refine T.step ?_
      unfold zd0
      refine T.dec (fun hq => T.get (by omega) hq fun _ _ => T.get g0 gp fun _ _ => T.dec (fun _ => ?_) fun _ => c) fun _ => c
      rw [w64i (by omega)]
      exact ih _ (by omega) (by omega) (by omega) (by omega)
  have c3 : ∀ (q : Int) (u : AttT), i < q → q ≤ l.length → T (fun k n => zdx k (zd0 k n) (zcz k n) l i q u) fun r => i < r.2 ∧ r.2 ≤ l.length := fun q u g2 g3 => by
    unfold zdx
    refine T.cut h0 (by omega) g3 fun x hx hxl => T.bind (zuq (by omega)) fun nm _ => T.bind (zrp (by omega) (by omega) g3) fun j hj => T.dec (fun _ => T.some ⟨by show i < j; omega, hj.2⟩) fun hjl => T.get (by omega) (by omega) fun _ _ => T.dec (fun _ => T.some ⟨by show i < j; omega, hj.2⟩) fun _ => ?_
    rw [w64i (by omega)]
    refine T.bind (zrp (by omega) (by omega) (by omega)) fun p hp => ?_
    have j19 := k19 p u (nm,(bs []),()) (by omega) _ p (Nat.le_refl _) (Int.le_refl _) (by omega) hp.2
    refine T.dec (fun hpl => T.get (by omega) hpl fun _ _ => T.dec (fun _ => ?_) fun _ => T.get (by omega) hpl fun _ _ => T.dec (fun _ => ?_) fun _ => j19) fun _ => j19
    all_goals
      rw [w64i (by omega)]
      exact k12 p u (nm,(bs []),()) (by omega) hpl _ (p + 1) (Nat.le_refl _) (Int.le_refl _) (by omega) (by omega)
  have k3 : ∀ (u : AttT) (m : Nat) (q : Int), l.length - q.toNat ≤ m → i < q → q ≤ l.length → T (fun k n => zgj k n l q u i) fun r => i < r.2 ∧ r.2 ≤ l.length := by
    intro u m
    induction m with
    | zero =>
      intro q h g2 g3
      refine T.step ?_
      unfold zgj
      exact T.dec (fun _ => by omega) fun _ => c3 q u g2 g3
    | succ m ih =>
      intro q h g2 g3
      have c := c3 q u g2 g3
      refine T.step ?_
      unfold zgj
      refine T.dec (fun hq => T.get (by omega) hq fun _ _ => T.bind zkd fun _ _ => T.bif (fun _ => T.get (by omega) hq fun _ _ => T.dec (fun _ => T.get (by omega) hq fun _ _ => T.dec (fun _ => T.get (by omega) hq fun _ _ => T.dec (fun _ => ?_) fun _ => c) fun _ => c) fun _ => c) fun _ => c) fun _ => c
      rw [w64i (by omega)]
      exact ih _ (by omega) (by omega) (by omega)
  refine T.diag (F := fun k n => zj0 k n l i) ?_
  unfold zj0
  rw [w64i (by omega)]
  exact k3 _ _ (i + 1) (Nat.le_refl _) (by omega) (by omega)
end
end
section
set_option maxRecDepth 100000
open Go.RowKit Go.Sl
theorem small_sz {l : List Int} (hl : (l.length : Int) ≤ 1000000000) : T (fun k _ => zgl k l) fun r => r.size ≤ 4 * l.length ∧ (l ≠ [] → r ≠ bs []) := by
  have fin : ∀ (i : Int) (v : List Int), i ≤ l.length → (v.length : Int) = i → ¬ i < l.length → (textOf v).size ≤ 4 * l.length ∧ (l ≠ [] → textOf v ≠ bs []) := fun i v h1 h2 h3 => ⟨by have := zlb v; omega, fun hl e => by
    have hv : v ≠ [] := fun e => by subst e; simp at h2; exact hl (List.eq_nil_of_length_eq_zero (by omega))
    have := fr1_size (zka hv)
    rw [e] at this; cases this⟩
  have key : ∀ (m : Nat) (i : Int) (v : List Int), l.length - i.toNat ≤ m → 0 ≤ i → i ≤ l.length → (v.length : Int) = i → T (fun _ n => zc7 n l v i) fun r => r.size ≤ 4 * l.length ∧ (l ≠ [] → r ≠ bs []) := by
    intro m
    induction m with
    | zero =>
      intro i v h h0 h1 hv
      refine T.step ?_
      unfold zc7
      exact T.dec (fun _ => by omega) (fun hi => T.some (fin i v h1 hv hi))
    | succ m ih =>
      intro i v h h0 h1 hv
      refine T.step ?_
      unfold zc7
      rw [w64i (by omega)]
      refine T.dec (fun hi => ?_) (fun hi => T.some (fin i v h1 hv hi))
      have nx : ∀ x, T (fun _ n => (appM 4 v [x]).bind fun r => zc7 n l r (i + 1)) fun r => r.size ≤ 4 * l.length ∧ (l ≠ [] → r ≠ bs []) := fun x => T.app (by simp; omega) (by simp; omega) (ih (i + 1) (v ++ [x]) (by omega) (by omega) (by omega) (by simp; omega))
      exact T.get h0 hi fun r _ => T.dec (fun _ => T.dec (fun _ => nx _) fun _ => nx _) fun _ => nx _
  exact T.diag (F := fun _ n => zjq n l) (key _ 0 [] (Nat.le_refl _) (by omega) (by omega) (by simp))
theorem zv9 {x : Int} (h : zdw x = some true) : 65 ≤ x := by
  refine Decidable.by_contra fun hx => ?_
  unfold zdw at h
  rw [decide_eq_false (show ¬ 97 ≤ x by omega), decide_eq_false (show ¬ 65 ≤ x by omega)] at h
  cases h
theorem blank_no {x : Int} (h : 65 ≤ x) : zdq x = some false := by
  unfold zdq
  rw [decide_eq_false (show ¬ x = 9 by omega), decide_eq_false (show ¬ x = 10 by omega), decide_eq_false (show ¬ x = 12 by omega), decide_eq_false (show ¬ x = 32 by omega)]; rfl
section
variable {l : List Int} (hl : (l.length : Int) ≤ 20000000)
include hl
abbrev Beh (l : List Int) (i : Int) (r : TokT × Int × Bool) : Prop := i ≤ r.2.1 ∧ r.2.1 ≤ l.length ∧ r.1.2.1.size ≤ 4 * l.length ∧ (r.2.2 = true → r.1.2.1 ≠ bs [])
theorem tag4_T {i : Int} (h0 : 0 ≤ i) (h1 : i < l.length) {x0 : Int} (hx0 : l[i.toNat]? = some x0) (hlet : zdw x0 = some true) : T (fun k _ => zn3 k l i) (Beh l i) := by
  have k6 : ∀ (u : Int × ByteArray × ByteArray × List AttT × Bool) (m : Nat) (q : Int) (v : Int × ByteArray × ByteArray × List AttT × Bool) (b : Bool), l.length - q.toNat ≤ m → i ≤ q → q ≤ l.length → (v.2.2.2.1.length : Int) ≤ 64 → v.2.1.size ≤ 4 * l.length ∧ v.2.1 ≠ bs [] → T (fun k n => zde k n l q u v b) (Beh l i) := by
    intro u m
    have no : ∀ q : Int, i ≤ q → q ≤ l.length → Beh l i ((0,(bs []),(bs []),[], false,()), q, false) := fun q a b => ⟨a, b, Nat.zero_le _, fun h => by cases h⟩
    induction m with
    | zero =>
      intro q v b h g1 g2 g3 g4
      refine T.step ?_
      unfold zde
      exact T.dec (fun _ => by omega) fun _ => T.some (no q g1 g2)
    | succ m ih =>
      intro q v b h g1 g2 g3 g4
      refine T.step ?_
      unfold zde
      refine T.dec (fun hq => ?_) fun _ => T.some (no q g1 g2)
      have c0 : T (fun k n => zh9 k (zde k n) l q u v) (Beh l i) := by
        unfold zh9
        rw [w64i (by omega)]
        exact T.get (by omega) hq fun _ _ => ih _ _ _ (by omega) (by omega) (by omega) g3 g4
      rw [w64i (by omega)]
      refine T.get (by omega) hq fun _ _ => T.dec (fun _ => T.some ⟨by show i ≤ q + 1; omega, by show q + 1 ≤ _; omega, g4.1, fun _ => g4.2⟩) fun _ => T.get (by omega) hq fun _ _ => T.bind zkd fun _ _ => T.bif (fun _ => c0) fun _ => T.get (by omega) hq fun _ _ => T.dec (fun _ => c0) fun _ => T.bind (attr4_T hl (by omega) hq) fun r hr => T.bind (add4_T g3) fun w hw => ih _ _ _ (by omega) (by omega) hr.2 hw g4
  have c2 : ∀ (q : Int) (u : Int × ByteArray × ByteArray × List AttT × Bool), i < q → q ≤ l.length → T (fun k n => zf4 k (zde k n) l i q u) (Beh l i) := fun q u g1 g2 => by
    unfold zf4
    refine T.cut h0 (by omega) g2 fun x hx hxl => ?_
    have hsm : T (fun k _ => zgl k x) fun r => r.size ≤ 4 * l.length ∧ r ≠ bs [] := (small_sz (by omega)).mono fun r h => ⟨by have := h.1; omega, h.2 fun e => by rw [e] at hxl; simp at hxl; omega⟩
    exact T.bind hsm fun r hr => k6 _ _ _ _ _ (Nat.le_refl _) (by omega) g2 (show ((0 : Nat) : Int) ≤ 64 by decide) hr
  have k2 : ∀ (m : Nat) (q : Int) (u : Int × ByteArray × ByteArray × List AttT × Bool), l.length - q.toNat ≤ m → i < q → q ≤ l.length → T (fun k n => zgi k n l q u i) (Beh l i) := by
    intro m
    induction m with
    | zero =>
      intro q u h g1 g2
      refine T.step ?_
      unfold zgi
      exact T.dec (fun _ => by omega) fun _ => c2 q u g1 g2
    | succ m ih =>
      intro q u h g1 g2
      have c := c2 q u g1 g2
      refine T.step ?_
      unfold zgi
      refine T.dec (fun hq => T.get (by omega) hq fun _ _ => T.bind zkd fun _ _ => T.bif (fun _ => T.get (by omega) hq fun _ _ => T.dec (fun _ => T.get (by omega) hq fun _ _ => T.dec (fun _ => ?_) fun _ => c) fun _ => c) fun _ => c) fun _ => c
      rw [w64i (by omega)]
      exact ih _ _ (by omega) (by omega) (by omega)
  have hge := zv9 hlet
  have gx : ∀ {G : Nat → Nat → Int → Option (TokT × Int × Bool)} {Q : TokT × Int × Bool → Prop}, T (fun k n => G k n x0) Q → T (fun k n => (geti l i).bind fun r => G k n r) Q := fun g => T.get h0 h1 fun r hr => by rw [hx0] at hr; cases hr; exact g
  refine T.diag (F := fun k n => zk8 k n l i) ?_
  unfold zk8
  refine T.step ?_
  unfold zgi
  refine T.dec (fun _ => gx (T.bindE (T.ofE (blank_no hge)) (T.bif (fun _ => gx (T.dec (fun _ => gx (T.dec (fun _ => ?_) fun h => absurd (show x0 ≠ 62 by omega) h)) fun h => absurd (show x0 ≠ 47 by omega) h)) fun h => by cases h))) fun h => absurd h1 h
  rw [w64i (by omega)]
  exact k2 _ (i + 1) _ (Nat.le_refl _) (by omega) (by omega)
end
end
section
set_option maxRecDepth 100000
open Go.RowKit Go.Sl
open Go.Proofs.YtdjjeahiomackaaGreat (T.self)
def TokG (t : TokT) : Prop := (t.1 = 2 → t.2.1 ≠ bs []) ∧ (t.1 = 1 → fr1 t.2.2.1 = true)
def TksG (l : List TokT) : Prop := ∀ t ∈ l, TokG t
theorem TksG.snoc {l : List TokT} {x : TokT} (h : TksG l) (hx : TokG x) : TksG (l ++ [x]) := fun t ht =>
  (List.mem_append.1 ht).elim (h t) fun e => List.mem_singleton.1 e ▸ hx
section
variable {l : List Int} (hl : (l.length : Int) ≤ 20000000)
include hl
theorem raw4_T {i : Int} (h0 : 0 ≤ i) (h1 : i ≤ l.length) {s : ByteArray} (hs : s.size ≤ 100000000) : T (fun k _ => zpi k l i s) fun j => i ≤ j ∧ j ≤ l.length := by
  have key : ∀ (m : Nat) (q : Int), l.length - q.toNat ≤ m → i ≤ q → q ≤ l.length → T (fun k n => zf5 k n l q s) fun j => i ≤ j ∧ j ≤ l.length := by
    intro m
    induction m with
    | zero =>
      intro q h g1 g2
      refine T.step ?_
      unfold zf5
      exact T.dec (fun _ => by omega) fun _ => T.some ⟨g1, g2⟩
    | succ m ih =>
      intro q h g1 g2
      refine T.step ?_
      unfold zf5
      refine T.dec (fun hq => ?_) fun _ => T.some ⟨g1, g2⟩
      have nx := ih (q + 1) (by omega) (by omega) (by omega)
      have yes : T (fun _ _ => some q) fun j => i ≤ j ∧ j ≤ l.length := T.some ⟨g1, g2⟩
      rw [w64i (i := q + 1) (by omega), w64i (i := q + 2) (by omega), w64i (i := q + 2 + (s.size : Int)) (by omega)]
      refine T.bind (is4_T (by omega) (by omega) g2 (by decide)) fun b _ => T.bif (fun _ => T.dec (fun hb => T.cut (by omega) (by omega) hb fun x _ hxl => T.bind (zuq (by omega)) fun nm _ => T.dec (fun _ => T.dec (fun _ => yes) fun hne => T.get (by omega) (by omega) fun _ _ => T.bind zkd fun _ _ => T.bif (fun _ => yes) fun _ => T.get (by omega) (by omega) fun _ _ => T.dec (fun _ => yes) fun _ => T.get (by omega) (by omega) fun _ _ => T.dec (fun _ => yes) fun _ => nx) fun _ => nx) fun _ => nx) fun _ => nx
  exact T.diag (F := fun k n => zm7 k n l i s) (key _ i (Nat.le_refl _) (Int.le_refl _) h1)
theorem zum : T (fun k _ => zkx k l) fun r => (r.length : Int) ≤ 2 * l.length ∧ TksG r := by
  have un : ∀ {a b : Int} {β : Type} {G : Nat → Nat → ByteArray → Option β} {Q : β → Prop}, 0 ≤ a → a < b → b ≤ l.length → (∀ r, fr1 r = true → T (fun k n => G k n r) Q) → T (fun k n => (cutM l a b).bind fun x => (zed k (textOf x)).bind fun r => G k n r) Q := fun {a b β G Q} g0 g1 g2 g => by
    refine T.cut g0 (by omega) g2 fun x hx hxl => T.bind (znb ?_) fun r hr => g r (hr.2 (zka fun e => by rw [e] at hxl; simp at hxl; omega))
    have := zlb x
    omega
  have key : ∀ (m : Nat) (q : Int) (v : List TokT), l.length - q.toNat ≤ m → 0 ≤ q → q ≤ l.length → (v.length : Int) ≤ 2 * q ∧ TksG v → T (fun k n => zau k n l v q) fun r => (r.length : Int) ≤ 2 * l.length ∧ TksG r := by
    intro m
    induction m with
    | zero =>
      intro q v h g0 g1 hv
      obtain ⟨hv, hG⟩ := hv
      refine T.step ?_
      unfold zau
      exact T.dec (fun _ => by omega) fun _ => T.some ⟨by omega, hG⟩
    | succ m ih =>
      intro q v h g0 g1 hv
      obtain ⟨hv, hG⟩ := hv
      refine T.step ?_
      unfold zau
      refine T.dec (fun hq => ?_) fun _ => T.some ⟨by omega, hG⟩
      have nx : ∀ (p : Int) (w : List TokT), q < p → p ≤ l.length → (w.length : Int) ≤ 2 * p ∧ TksG w → T (fun k n => zau k n l w p) fun r => (r.length : Int) ≤ 2 * l.length ∧ TksG r := fun p w a b c => ih p w (by omega) (by omega) b c
      -- a run of chars
      have c6 : ∀ p : Int, q < p → p ≤ l.length → T (fun k n => zfk k (zau k n) l q p v) fun r => (r.length : Int) ≤ 2 * l.length ∧ TksG r := fun p a b => by
        unfold zfk
        exact un g0 (by omega) b fun r hr => T.app (by simp; omega) (by simp; omega) (nx p _ a b ⟨by simp; omega, hG.snoc ⟨fun h => by simp at h, fun _ => hr⟩⟩)
      have k6 : ∀ (m2 : Nat) (p : Int), l.length - p.toNat ≤ m2 → q < p → p ≤ l.length → T (fun k n => zee k n l v p q) fun r => (r.length : Int) ≤ 2 * l.length ∧ TksG r := by
        intro m2
        induction m2 with
        | zero =>
          intro p e a b
          refine T.step ?_
          unfold zee
          exact T.dec (fun _ => by omega) fun _ => c6 p a b
        | succ m2 ih2 =>
          intro p e a b
          refine T.step ?_
          unfold zee
          refine T.dec (fun hp => T.bind (zrr (by omega) (by omega) hp) fun _ _ => T.bif (fun _ => ?_) fun _ => c6 p a b) fun _ => c6 p a b
          rw [w64i (by omega)]
          exact ih2 (p + 1) (by omega) (by omega) (by omega)
      rw [w64i (i := q + 1) (by omega), w64i (i := q + 2) (by omega)]
      have c2 : q + 1 < l.length → T (fun k n => zei k (zau k n) l q v) fun r => (r.length : Int) ≤ 2 * l.length ∧ TksG r := fun h2 => by
        unfold zei
        rw [w64i (i := q + 4) (by omega)]
        refine T.bind (is4_T (by omega) g0 g1 (by decide)) fun b hb => T.bif (fun e => ?_) fun _ => ?_
        · have h4 : q + 4 ≤ l.length := hb e
          exact T.bind (zrq (by omega) (by omega) h4 (by decide)) fun r hr => nx r v (by omega) hr.2.1 ⟨by omega, hG⟩
        · exact T.bind (zrq (by omega) g0 g1 (by decide)) fun r hr => nx r v (hr.2.2 (by decide) hq) hr.2.1 ⟨by have := hr.1; omega, hG⟩
      obtain ⟨b, hb, K, e⟩ := zrr (l := l) (by omega) g0 hq
      replace e : zfq l q = some b := e K K (Nat.le_refl _) (Nat.le_refl _)
      refine T.bindE (T.ofE e) (T.bif (fun hn => ?_) fun hn => ?_)
      · refine T.step ?_
        unfold zee
        refine T.dec (fun _ => T.bindE (T.ofE e) (T.bif (fun _ => ?_) fun h => by rw [hn] at h; cases h)) fun h => absurd hq h
        rw [w64i (i := q + 1) (by omega)]
        exact k6 _ (q + 1) (Nat.le_refl _) (by omega) (by omega)
      · have hq1 : q + 1 < l.length := hb (by simpa using hn)
        have c3 : ∀ (r : TokT × Int × Bool) (w : List TokT), q + 1 ≤ r.2.1 → r.2.1 ≤ l.length → r.1.2.1.size ≤ 4 * l.length → (w.length : Int) ≤ 2 * q + 1 → TksG w → T (fun k n => zfl k (zau k n) l r w) fun r => (r.length : Int) ≤ 2 * l.length ∧ TksG r := fun r w a b c d hw => by
          unfold zfl
          refine T.bind (raw4_T hl (by omega) b (by omega)) fun j hj => T.dec (fun hlt => T.cut (by omega) hj.1 hj.2 fun x _ hxl => T.app (by simp; omega) (by simp; omega) (nx j _ (by omega) hj.2 ⟨by simp; omega, hw.snoc ⟨fun h => by simp at h, fun _ => zka fun e => by rw [e] at hxl; simp at hxl; omega⟩⟩)) fun _ => nx j w (by omega) hj.2 ⟨by omega, hw⟩
        refine T.get (by omega) hq1 fun c hc => T.bind (T.self zns) fun b hb => T.bif (fun hbt => T.bind (tag4_T hl (by omega) hq1 hc (by obtain ⟨_, _, _, e⟩ := hb; rw [e, hbt])) fun r hr => T.bif (fun _ => nx _ v (by have := hr.1; omega) hr.2.1 ⟨by have := hr.1; omega, hG⟩) fun hok => T.app (by simp; omega) (by simp; omega) ?_) fun _ => T.get (by omega) hq1 fun _ _ => T.dec (fun _ => T.dec (fun hq2 => T.get (by omega) hq2 fun c hc => T.bind (T.self zns) fun b hb => T.bif (fun hbt => T.bind (tag4_T hl (by omega) hq2 hc (by obtain ⟨_, _, _, e⟩ := hb; rw [e, hbt])) fun r hr => T.bif (fun _ => T.app (by simp; omega) (by simp; omega) (nx _ _ (by have := hr.1; omega) hr.2.1 ⟨by have := hr.1; simp; omega, hG.snoc ⟨fun h => by simp at h, fun h => by simp at h⟩⟩)) fun _ => nx _ v (by have := hr.1; omega) hr.2.1 ⟨by have := hr.1; omega, hG⟩) fun _ => c2 hq1) fun _ => c2 hq1) fun _ => c2 hq1
        obtain ⟨r1, r2, r3, r4⟩ := hr
        have hG2 : TksG (v ++ [(2, r.1.2.1, r.1.2.2.1, r.1.2.2.2.1, r.1.2.2.2.2.1,())]) := hG.snoc ⟨fun _ => r4 (by simpa using hok), fun h => by simp at h⟩
        exact T.dec (fun _ => c3 r _ r1 r2 r3 (by simp; omega) hG2) fun _ => T.dec (fun _ => c3 r _ r1 r2 r3 (by simp; omega) hG2) fun _ => nx _ _ (by omega) r2 ⟨by simp; omega, hG2⟩
  exact T.diag (F := fun k n => zj1 k n l) (key _ 0 [] (Nat.le_refl _) (by omega) (by omega) ⟨by simp, fun _ h => by cases h⟩)
end
end
end Go.V
