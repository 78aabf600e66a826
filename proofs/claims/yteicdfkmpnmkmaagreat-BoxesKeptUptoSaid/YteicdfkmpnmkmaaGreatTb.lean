/-
  Walks and laws of this seat.
-/
import Derived.Test.YteicdfkmpnmkmaaGreatT0
import Derived.Test.YteicdfkmpnmkmaaGreatM3
namespace Go.V
set_option linter.unusedVariables false
set_option linter.unusedSimpArgs false
set_option linter.unusedSectionVars false
set_option maxRecDepth 100000
open Go.RowKit Go.Sl
theorem ygu {r : Int} : T (fun _ _ => zdb r) fun _ => True := by
  unfold zdb
  repeat' (first | exact trivial | assumption | refine T.some ?_ | refine T.get ?_ ?_ fun _ _ => ?_ | refine T.app ?_ ?_ ?_ | refine T.cut ?_ ?_ ?_ fun _ _ _ => ?_ | refine T.dec (fun _ => ?_) (fun _ => ?_) | refine T.bif (fun _ => ?_) (fun _ => ?_))
theorem T_self {α : Type} {m : Option α} {P : α → Prop} (h : T (fun _ _ => m) P) : T (fun _ _ => m) fun r => m = some r := by
  obtain ⟨r, _, K, h2⟩ := h
  exact ⟨r, h2 K K (Nat.le_refl _) (Nat.le_refl _), K, h2⟩
theorem yc8 {r : Int} : T (fun _ _ => zg0 r) fun b => zg0 r = some b := by
  refine T_self (P := fun _ => True) ?_
  unfold zg0
  repeat' (first | exact trivial | assumption | refine T.some ?_ | refine T.get ?_ ?_ fun _ _ => ?_ | refine T.app ?_ ?_ ?_ | refine T.cut ?_ ?_ ?_ fun _ _ _ => ?_ | refine T.dec (fun _ => ?_) (fun _ => ?_) | refine T.bif (fun _ => ?_) (fun _ => ?_))
def nb (r : Int) : Prop := zg0 r = some true ∨ r = 45
theorem yfu {r : Int} : T (fun _ _ => zkb r) fun b => nb r → b = true := by
  unfold zkb
  refine T.bind yc8 fun b hb => T.bif (fun _ => T.some fun _ => rfl) fun h => T.bind ygu fun d _ => T.bif (fun _ => T.some fun _ => rfl) fun _ => T.some ?_
  rintro (h2 | h2)
  · rw [hb] at h2; rw [h] at h2; cases h2
  · simp [h2]
theorem name1_T {l : List Int} (hl : (l.length : Int) ≤ 1000000000) : ∀ (m : Nat) (i : Int), l.length - i.toNat ≤ m → 0 ≤ i → i ≤ l.length → T (fun _ n => zik n l i) fun j => i ≤ j ∧ j ≤ l.length ∧ ((∃ y, l[i.toNat]? = some y ∧ nb y) → i < j) := by
  have no : ∀ {i : Int}, 0 ≤ i → ¬ i < l.length → ¬ ∃ y, l[i.toNat]? = some y ∧ nb y := fun h0 h ⟨y, h2, _⟩ => by
    have := (List.getElem?_eq_some_iff.1 h2).1
    omega
  intro m
  induction m with
  | zero =>
    intro i h h0 h1
    refine T.step ?_
    unfold zik
    refine T.dec (fun _ => ?_) (fun h2 => T.some ⟨by omega, h1, fun h => absurd h (no h0 h2)⟩)
    omega
  | succ m ih =>
    intro i h h0 h1
    refine T.step ?_
    unfold zik
    refine T.dec (fun _ => ?_) (fun h2 => T.some ⟨by omega, h1, fun h => absurd h (no h0 h2)⟩)
    rw [w64i (by omega)]
    refine T.get h0 (by omega) fun r hr => T.bind yfu fun b hb => T.bif (fun _ => ?_) (fun h2 => ?_)
    · exact (ih (i + 1) (by omega) (by omega) (by omega)).mono fun j hj => ⟨by omega, hj.2.1, fun _ => by omega⟩
    · refine T.some ⟨by omega, h1, ?_⟩
      rintro ⟨y, h3, h4⟩
      rw [hr] at h3
      cases h3
      have := hb h4
      rw [h2] at this; cases this
theorem yd4 {l : List Int} (hl : (l.length : Int) ≤ 1000000000) {i : Int} (h0 : 0 ≤ i) (h1 : i ≤ l.length) : T (fun k _ => zkj k l i) fun j => i ≤ j ∧ j ≤ l.length ∧ ((∃ y, l[i.toNat]? = some y ∧ nb y) → i < j) := T.diag (name1_T hl _ i (Nat.le_refl _) h0 h1)
theorem zzj {l : List Int} (hl : (l.length : Int) ≤ 1000000000) {i : Int} (h0 : 0 ≤ i) (h1 : i ≤ l.length) : T (fun _ _ => zfg l i) fun b => b = true → i < l.length ∧ ∃ y, l[i.toNat]? = some y ∧ nb y := by
  unfold zfg
  rw [w64i (by omega)]
  refine T.dec (fun _ => T.some (by simp)) fun h => T.get h0 (by omega) fun r hr => T.bind yc8 fun b hb => T.bif (fun h2 => T.some fun _ => ⟨by omega, r, hr, .inl (by rw [hb, h2])⟩) fun _ => T.get h0 (by omega) fun r2 hr2 => T.dec (fun h3 => T.dec (fun h4 => T.get (by omega) h4 fun _ _ => T.bind yc8 fun _ _ => T.some fun _ => ⟨by omega, r2, hr2, .inr h3⟩) fun _ => T.some (by simp)) fun _ => T.some (by simp)
def dg (r : Int) : Prop := 48 ≤ r ∧ r ≤ 57
theorem zzb {r : Int} : T (fun _ _ => zdb r) fun b => b = true ↔ dg r := by
  unfold zdb
  refine T.dec (fun h => T.some ?_) fun h => T.some ?_
  · simp [dg, h]
  · simp [dg]; omega
def fg (l : List Int) (i : Int) : Prop := (∃ y, l[i.toNat]? = some y ∧ dg y) ∨ (l[i.toNat]? = some 46 ∧ ∃ y, l[(i + 1).toNat]? = some y ∧ dg y)
theorem zw4 {l : List Int} (hl : (l.length : Int) ≤ 1000000000) {i : Int} (h0 : 0 ≤ i) (hi : i ≤ 2000000000) : T (fun _ _ => zff l i) fun b => b = true → i < l.length ∧ fg l i := by
  unfold zff
  rw [w64i (by omega)]
  refine T.dec (fun h => T.get h0 h fun r hr => T.bind zzb fun b hb => T.bif (fun h2 => T.some fun _ => ⟨h, .inl ⟨r, hr, hb.1 h2⟩⟩) fun _ => T.get h0 h fun r2 hr2 => T.dec (fun h3 => T.dec (fun h4 => T.get (by omega) h4 fun r4 hr4 => T.bind zzb fun b2 hb2 => T.some fun h5 => ⟨h, .inr ⟨by rw [hr2, h3], r4, hr4, hb2.1 h5⟩⟩) fun _ => T.some (by simp)) fun _ => T.some (by simp)) fun _ => T.some (by simp)
theorem zy2 {l : List Int} (hl : (l.length : Int) ≤ 1000000000) : T (fun k _ => zf2 k l) fun _ => True := by
  have key : ∀ (m : Nat) (i : Int) (v : List Int), l.length - i.toNat ≤ m → 0 ≤ i → i ≤ l.length → (v.length : Int) ≤ i → T (fun _ n => zdj n l v i) fun _ => True := by
    intro m
    induction m with
    | zero =>
      intro i v h h0 h1 hv
      refine T.step ?_
      unfold zdj
      refine T.dec (fun _ => ?_) (fun _ => T.some trivial)
      omega
    | succ m ih =>
      intro i v h h0 h1 hv
      refine T.step ?_
      unfold zdj
      refine T.dec (fun _ => ?_) (fun _ => T.some trivial)
      rw [w64i (by omega)]
      have nx : ∀ x : Int, T (fun _ n => (appM 4 v [x]).bind fun r => zdj n l r (i + 1)) fun _ => True := fun x =>
        T.app (by simp; omega) (by simp; omega) (ih _ _ (by omega) (by omega) (by omega) (by simp; omega))
      refine T.get h0 (by omega) fun r _ => T.dec (fun _ => T.dec (fun _ => nx _) fun _ => nx _) fun _ => nx _
  exact T.diag (key _ 0 [] (Nat.le_refl _) (by omega) (by omega) (by simp))
theorem str_T {l : List Int} (hl : (l.length : Int) ≤ 1000000000) {i : Int} (h0 : 0 ≤ i) (h1 : i < l.length) : T (fun k _ => zya k l i) fun r => i < r.2 ∧ r.2 ≤ l.length := by
  have fin : ∀ (i : Int) (q : Int) (v : List Int),0 ≤ i → i ≤ l.length → T (fun _ _ => zi1 i l q v) fun r => i ≤ r.2 ∧ r.2 ≤ l.length := by
    intro i q v h0 h1
    unfold zi1
    refine T.dec (fun _ => ?_) (fun _ => T.some ⟨by simp, h1⟩)
    rw [w64i (by omega)]
    exact T.get h0 (by omega) fun r _ => T.dec (fun _ => T.some ⟨by simp only; omega, by simp only; omega⟩) fun _ => T.some ⟨by simp, h1⟩
  have key : ∀ (m : Nat) (i : Int) (t : Token) (q : Int) (v : List Int), l.length - i.toNat ≤ m → 0 ≤ i → i ≤ l.length → (v.length : Int) ≤ i → T (fun _ n => zfy n l i t q v) fun r => i ≤ r.2 ∧ r.2 ≤ l.length := by
    intro m
    induction m with
    | zero =>
      intro i t q v h h0 h1 hv
      refine T.step ?_
      unfold zfy
      refine T.dec (fun _ => ?_) (fun _ => fin _ _ _ h0 h1)
      omega
    | succ m ih =>
      intro i t q v h h0 h1 hv
      refine T.step ?_
      unfold zfy
      refine T.dec (fun _ => ?_) (fun _ => fin _ _ _ h0 h1)
      have nx : ∀ j : Int, i ≤ j → j < l.length → T (fun _ n => zi2 (zfy n) j l v t q) fun r => i ≤ r.2 ∧ r.2 ≤ l.length := fun j a b => by
        unfold zi2
        rw [w64i (by omega)]
        exact T.get (by omega) b fun r _ => T.app (by simp; omega) (by simp; omega) ((ih _ _ _ _ (by omega) (by omega) (by omega) (by simp; omega)).mono fun r hr => ⟨by omega, hr.2⟩)
      rw [w64i (by omega)]
      refine T.get h0 (by omega) fun r _ => T.dec (fun _ => T.get h0 (by omega) fun r _ => T.dec (fun _ => T.get h0 (by omega) fun r _ => T.dec (fun _ => T.dec (fun _ => nx _ (by omega) (by omega)) fun _ => nx _ (by omega) (by omega)) fun _ => nx _ (by omega) (by omega)) fun _ => fin _ _ _ h0 h1) fun _ => fin _ _ _ h0 h1
  refine T.diag (F := fun _ n => zpu n l i) ?_
  unfold zpu
  rw [w64i (by omega)]
  exact T.get h0 h1 fun r _ => (key _ _ _ _ [] (Nat.le_refl _) (by omega) (by omega) (by simp; omega)).mono fun r hr => ⟨by omega, hr.2⟩
theorem zp8 {l : List Int} (hl : (l.length : Int) ≤ 1000000000) {i y : Int} {v : Token} (h0 : 0 ≤ i) (h1 : i ≤ l.length) : T (fun k _ => zda k y l i v) fun r => i ≤ r.2 ∧ r.2 ≤ l.length := by
  unfold zda
  refine T.bind (zzj hl h0 h1) fun b hb => T.bif (fun h => ?_) fun _ => T.dec (fun _ => ?_) fun _ => T.some ⟨by simp, h1⟩
  · exact T.bind (yd4 hl h0 h1) fun j hj => T.cut h0 hj.1 hj.2.1 fun r _ hr => T.bind (zy2 (by omega)) fun _ _ => T.some ⟨hj.1, hj.2.1⟩
  · rw [w64i (by omega)]
    exact T.get h0 (by omega) fun r _ => T.dec (fun _ => T.some ⟨by simp only; omega, by simp only; omega⟩) fun _ => T.some ⟨by simp, h1⟩
theorem zpy {l : List Int} (hl : (l.length : Int) ≤ 1000000000) {i y : Int} {v : Token} (h0 : 0 ≤ i) (h1 : i ≤ l.length) : T (fun k _ => ze2 k y l i v) fun r => i ≤ r.2 ∧ r.2 ≤ l.length := zp8 hl h0 h1
theorem yfj {a b : Int} (h : b ≠ 0) : T (fun _ _ => quoM a b) fun _ => True := T.of (r := w64 (a.tdiv b)) (by simp only [quoM, if_neg h]) trivial
theorem num16_T {l : List Int} (hl : (l.length : Int) ≤ 1000000000) : ∀ (m : Nat) (i : Int) (t v : Token) (b : Bool) (x y z : Int), l.length - i.toNat ≤ m → 0 ≤ i → i ≤ l.length → T (fun k n => zcv k n l i t v b x y z) fun r => i ≤ r.2 ∧ r.2 ≤ l.length := by
  have fin : ∀ (i : Int) (v : Token) (b : Bool) (x y : Int),0 ≤ i → i ≤ l.length → T (fun k _ => zfz k x y b l i v) fun r => i ≤ r.2 ∧ r.2 ≤ l.length := by
    intro i v b x y h0 h1
    unfold zfz
    exact T.dec (fun _ => T.bind (yfj (by decide)) fun _ _ => T.bif (fun _ => zpy hl h0 h1) fun _ => zpy hl h0 h1) fun _ => T.bif (fun _ => zpy hl h0 h1) fun _ => zpy hl h0 h1
  intro m
  induction m with
  | zero =>
    intro i t v b x y z h h0 h1
    refine T.step ?_
    unfold zcv
    refine T.dec (fun _ => ?_) (fun _ => fin _ _ _ _ _ h0 h1)
    omega
  | succ m ih =>
    intro i t v b x y z h h0 h1
    refine T.step ?_
    unfold zcv
    refine T.dec (fun _ => ?_) (fun _ => fin _ _ _ _ _ h0 h1)
    rw [w64i (by omega)]
    refine T.get h0 (by omega) fun r _ => T.bind ygu fun _ _ => T.bif (fun _ => T.get h0 (by omega) fun r _ => T.bind (yfj (by decide)) fun _ _ => ?_) fun _ => fin _ _ _ _ _ h0 h1
    exact (ih _ _ _ _ _ _ _ (by omega) (by omega) (by omega)).mono fun r hr => ⟨by omega, hr.2⟩
theorem num6_T {l : List Int} (hl : (l.length : Int) ≤ 1000000000) : ∀ (m : Nat) (i : Int) (t v : Token) (b : Bool) (x : Int), l.length - i.toNat ≤ m → 0 ≤ i → i ≤ l.length → T (fun k n => zbz k n l i t v b x) fun r => i ≤ r.2 ∧ r.2 ≤ l.length ∧ (((∃ y, l[i.toNat]? = some y ∧ dg y) ∨ (l[i.toNat]? = some 46 ∧ ∃ y, l[(i + 1).toNat]? = some y ∧ dg y)) → i < r.2) := by
  have fin2 : ∀ (i : Int) (v : Token) (b : Bool) (x : Int),0 ≤ i → i ≤ l.length → T (fun k _ => zet k x b l i v) fun r => i ≤ r.2 ∧ r.2 ≤ l.length := by
    intro i v b x h0 h1
    unfold zet
    exact T.dec (fun _ => T.bind (yfj (by decide)) fun _ _ => T.bif (fun _ => zp8 hl h0 h1) fun _ => zp8 hl h0 h1) fun _ => T.bif (fun _ => zp8 hl h0 h1) fun _ => zp8 hl h0 h1
  have fin : ∀ (i : Int) (t v : Token) (b : Bool) (x : Int),0 ≤ i → i ≤ l.length → (∀ y, l[i.toNat]? = some y → ¬ dg y) → T (fun k n => zh2 k (zcv k n) i l t v b x) fun r => i ≤ r.2 ∧ r.2 ≤ l.length ∧ (((∃ y, l[i.toNat]? = some y ∧ dg y) ∨ (l[i.toNat]? = some 46 ∧ ∃ y, l[(i + 1).toNat]? = some y ∧ dg y)) → i < r.2) := by
    intro i t v b x h0 h1 hn
    have nd : ¬ ∃ y, l[i.toNat]? = some y ∧ dg y := fun ⟨y, a, b⟩ => hn y a b
    unfold zh2
    rw [w64i (by omega)]
    refine T.dec (fun h2 => T.get h0 (by omega) fun r hr => T.dec (fun h3 => T.get (by omega) h2 fun r2 hr2 => T.bind zzb fun q hq => T.bif (fun h4 => ?_) fun h4 => ?_) fun h3 => ?_) fun h2 => ?_
    · refine (num16_T hl _ _ _ _ _ _ _ _ (Nat.le_refl _) (by omega) (by omega)).mono fun r hr => ⟨by omega, hr.2, fun _ => by omega⟩
    · refine (fin2 i v b x h0 h1).mono fun r hr => ⟨hr.1, hr.2, ?_⟩
      rintro (h | ⟨_, y, h, h5⟩)
      · exact absurd h nd
      · rw [hr2] at h
        cases h
        have := hq.2 h5
        rw [h4] at this; cases this
    · refine (fin2 i v b x h0 h1).mono fun r9 hr9 => ⟨hr9.1, hr9.2, ?_⟩
      rintro (h | ⟨h, _⟩)
      · exact absurd h nd
      · rw [hr] at h
        exact absurd (Option.some.inj h) h3
    · refine (fin2 i v b x h0 h1).mono fun r hr => ⟨hr.1, hr.2, ?_⟩
      rintro (h | ⟨_, y, h, h5⟩)
      · exact absurd h nd
      · have := (List.getElem?_eq_some_iff.1 h).1
        omega
  intro m
  induction m with
  | zero =>
    intro i t v b x h h0 h1
    refine T.step ?_
    unfold zbz
    refine T.dec (fun _ => ?_) (fun _ => fin _ _ _ _ _ h0 h1 fun y hy => ?_)
    · omega
    · have := (List.getElem?_eq_some_iff.1 hy).1
      omega
  | succ m ih =>
    intro i t v b x h h0 h1
    refine T.step ?_
    unfold zbz
    refine T.dec (fun _ => ?_) (fun _ => fin _ _ _ _ _ h0 h1 fun y hy => ?_)
    · rw [w64i (i := i + 1) (by omega)]
      have nx : ∀ z, T (fun k n => zbz k n l (i + 1) t v b z) fun r => i ≤ r.2 ∧ r.2 ≤ l.length ∧ (((∃ y, l[i.toNat]? = some y ∧ dg y) ∨ (l[i.toNat]? = some 46 ∧ ∃ y, l[(i + 1).toNat]? = some y ∧ dg y)) → i < r.2) := fun z =>
        (ih _ _ _ _ _ (by omega) (by omega) (by omega)).mono fun r hr => ⟨by omega, hr.2.1, fun _ => by omega⟩
      refine T.get h0 (by omega) fun r hr => T.bind zzb fun q hq => T.bif (fun h2 => T.get h0 (by omega) fun r _ => T.dec (fun _ => nx _) fun _ => nx _) fun h2 => fin _ _ _ _ _ h0 h1 fun y hy h5 => ?_
      rw [hr] at hy
      cases hy
      have := hq.2 h5
      rw [h2] at this; cases this
    · have := (List.getElem?_eq_some_iff.1 hy).1
      omega
theorem number_T {l : List Int} (hl : (l.length : Int) ≤ 1000000000) {i : Int} (h0 : 0 ≤ i) (h1 : i < l.length) (hp : l[i.toNat]? = some 45 ∨ l[i.toNat]? = some 43 ∨ ((∃ y, l[i.toNat]? = some y ∧ dg y) ∨ (l[i.toNat]? = some 46 ∧ ∃ y, l[(i + 1).toNat]? = some y ∧ dg y))) : T (fun k _ => zr7 k l i) fun r => i < r.2 ∧ r.2 ≤ l.length := by
  refine T.diag (F := fun k n => zjt k n l i) ?_
  unfold zjt
  have st : ∀ (q : Int), T (fun k n => zf1 k (zbz k n) (i + 1) l q) fun r => i < r.2 ∧ r.2 ≤ l.length := fun q => by
    unfold zf1
    exact (num6_T hl _ _ _ _ _ _ (Nat.le_refl _) (by omega) (by omega)).mono fun r hr => ⟨by omega, hr.2.1⟩
  rw [w64i (by omega)]
  refine T.get h0 h1 fun r hr => T.get h0 h1 fun r2 hr2 => T.dec (fun _ => st _) fun h2 => T.get h0 h1 fun r3 hr3 => T.dec (fun _ => st _) fun h3 => ?_
  unfold zf1
  refine (num6_T hl _ _ _ _ _ _ (Nat.le_refl _) (by omega) (by omega)).mono fun r hr => ⟨hr.2.2 ?_, hr.2.1⟩
  rcases hp with hp | hp | hp
  · rw [hp] at hr2; cases hr2; exact absurd rfl h2
  · rw [hp] at hr3; cases hr3; exact absurd rfl h3
  · exact hp
theorem ydh {r : Int} : T (fun _ _ => zc5 r) fun _ => True := by
  unfold zc5
  repeat' (first | exact trivial | assumption | refine T.some ?_ | refine T.get ?_ ?_ fun _ _ => ?_ | refine T.app ?_ ?_ ?_ | refine T.cut ?_ ?_ ?_ fun _ _ _ => ?_ | refine T.dec (fun _ => ?_) (fun _ => ?_) | refine T.bif (fun _ => ?_) (fun _ => ?_))
section
variable {l : List Int} (hl : (l.length : Int) ≤ 1000000000) {i : Int} (h0 : 0 ≤ i) (h1 : i < l.length) {Q : List Token → Prop} {J : Nat → Nat → List Int → List Token → Int → Option (List Token)} (hJ : ∀ (j : Int) (v : List Token), i < j → j ≤ l.length + 2 → (v.length : Int) ≤ j → T (fun k n => J k n l v j) Q) {v : List Token} (hv : (v.length : Int) ≤ i)
include hl h0 h1 hJ hv
theorem zv7 {t : Token} {j : Int} (hj : i < j) (hj2 : j ≤ l.length) : T (fun k n => (appM 56 v [t]).bind fun r => J k n l r j) Q :=
  T.app (by simp; omega) (by simp; omega) (hJ _ _ hj (by omega) (by simp; omega))
theorem tk1 : T (fun k n => zh5 k (J k n) v l i) Q := by
  unfold zh5
  rw [w64i (by omega)]
  exact zv7 hl h0 h1 hJ hv (by omega) (by omega)
theorem tk4 (hp : l[i.toNat]? = some 45 ∨ l[i.toNat]? = some 43 ∨ fg l i) : T (fun k n => zev k (J k n) l i v) Q := by
  unfold zev
  exact T.bind (T.fst (number_T hl h0 h1 hp) fun _ _ => rfl) fun r hr => zv7 hl h0 h1 hJ hv hr.1 hr.2
theorem tk6 : T (fun k n => zh3 k (J k n) l i v) Q := by
  unfold zh3
  exact T.bind (str_T hl h0 h1) fun r hr => zv7 hl h0 h1 hJ hv hr.1 hr.2
theorem tk5 {r : Int} : T (fun k n => zeu k (J k n) r l i v) Q := by
  unfold zeu
  refine T.dec (fun _ => tk6 hl h0 h1 hJ hv) fun _ => T.dec (fun _ => tk6 hl h0 h1 hJ hv) fun _ => ?_
  rw [w64i (by omega)]
  exact zv7 hl h0 h1 hJ hv (by omega) (by omega)
theorem tk3 {r : Int} (hr : l[i.toNat]? = some r) : T (fun k n => zh4 k (J k n) l i v r) Q := by
  unfold zh4
  rw [w64i (by omega)]
  refine T.bind (zw4 hl h0 (by omega)) fun b hb => T.bif (fun h => tk4 hl h0 h1 hJ hv (.inr (.inr (hb h).2))) fun _ => T.dec (fun h => T.bind (zw4 hl (by omega) (by omega)) fun _ _ => T.bif (fun _ => tk4 hl h0 h1 hJ hv (.inr (.inl (by rw [hr, h])))) fun _ => tk5 hl h0 h1 hJ hv) fun _ => T.dec (fun h => T.bind (zw4 hl (by omega) (by omega)) fun _ _ => T.bif (fun _ => tk4 hl h0 h1 hJ hv (.inl (by rw [hr, h]))) fun _ => tk5 hl h0 h1 hJ hv) fun _ => tk5 hl h0 h1 hJ hv
theorem tk2 {r : Int} (hr : l[i.toNat]? = some r) : T (fun k n => zew k (J k n) r l i v) Q := by
  unfold zew
  rw [w64i (by omega)]
  refine T.dec (fun _ => T.bind (zzj hl (by omega) (by omega)) fun b hb => T.bif (fun _ => ?_) fun _ => tk3 hl h0 h1 hJ hv hr) fun _ => tk3 hl h0 h1 hJ hv hr
  exact T.bind (yd4 hl (by omega) (by omega)) fun j hj => T.cut (by omega) hj.1 hj.2.1 fun r _ hr => T.bind (zy2 (by omega)) fun _ _ => zv7 hl h0 h1 hJ hv (by omega) (by omega)
theorem tk0 {r : Int} (hr : l[i.toNat]? = some r) : T (fun k n => zex k (J k n) r v l i) Q := by
  unfold zex
  rw [w64i (i := i + 1) (by omega), w64i (i := (v.length : Int) - 1) (by omega)]
  refine T.bind ydh fun b _ => T.bif (fun _ => T.dec (fun _ => tk1 hl h0 h1 hJ hv) fun h => T.get (by omega) (by omega) fun _ _ => T.get (by omega) (by omega) fun _ _ => T.dec (fun _ => tk1 hl h0 h1 hJ hv) fun _ => hJ _ _ (by omega) (by omega) (by omega)) fun _ => T.bind (zzj hl h0 (by omega)) fun b hb => T.bif (fun h => ?_) fun _ => T.dec (fun _ => T.dec (fun h2 => T.get (by omega) h2 fun _ _ => T.bind yfu fun _ _ => T.bif (fun _ => ?_) fun _ => tk2 hl h0 h1 hJ hv hr) fun _ => tk2 hl h0 h1 hJ hv hr) fun _ => tk2 hl h0 h1 hJ hv hr
  · exact T.bind (yd4 hl h0 (by omega)) fun j hj => T.cut h0 hj.1 hj.2.1 fun r _ hr => T.bind (zy2 (by omega)) fun _ _ => zv7 hl h0 h1 hJ hv (hj.2.2 (hb h).2) hj.2.1
  · exact T.bind (yd4 hl (by omega) (by omega)) fun j hj => T.cut (by omega) hj.1 hj.2.1 fun r _ hr => zv7 hl h0 h1 hJ hv (by omega) (by omega)
end
theorem ycq {l : List Int} (hl : (l.length : Int) ≤ 1000000000) : T (fun k _ => zkm k l) fun r => (r.length : Int) ≤ l.length + 2 := by
  have key : ∀ (m : Nat) (i : Int) (v : List Token), l.length + 2 - i.toNat ≤ m → 0 ≤ i → i ≤ l.length + 2 → (v.length : Int) ≤ i → T (fun k n => zb9 k n l v i) (fun r => (r.length : Int) ≤ l.length + 2) ∧ (i ≤ l.length → T (fun k n => zdi k n l v i) fun r => (r.length : Int) ≤ l.length + 2) := by
    intro m
    induction m with
    | zero =>
      intro i v h h0 h1 hv
      refine ⟨?_, fun h2 => by omega⟩
      refine T.step ?_
      unfold zb9
      exact T.dec (fun _ => by omega) fun _ => T.some (by omega)
    | succ m ih =>
      intro i v h h0 h1 hv
      refine ⟨?_, fun h2 => ?_⟩
      · refine T.step ?_
        unfold zb9
        refine T.dec (fun h2 => ?_) fun _ => T.some (by omega)
        rw [w64i (i := i + 1) (by omega), w64i (i := i + 2) (by omega)]
        have J : ∀ (j : Int) (w : List Token), i < j → j ≤ l.length + 2 → (w.length : Int) ≤ j → T (fun k n => zb9 k n l w j) fun r => (r.length : Int) ≤ l.length + 2 := fun j w a b c => (ih j w (by omega) (by omega) b c).1
        refine T.get h0 h2 fun r hr => T.dec (fun _ => T.dec (fun h3 => T.get (by omega) h3 fun _ _ => T.dec (fun _ => (ih _ _ (by omega) (by omega) (by omega) (by omega)).2 (by omega)) fun _ => tk0 hl h0 h2 (J := fun k n => zb9 k n) J hv hr) fun _ => tk0 hl h0 h2 (J := fun k n => zb9 k n) J hv hr) fun _ => tk0 hl h0 h2 (J := fun k n => zb9 k n) J hv hr
      · refine T.step ?_
        unfold zdi
        rw [w64i (i := i + 1) (by omega), w64i (i := i + 2) (by omega)]
        have e3 := (ih (i + 2) v (by omega) (by omega) (by omega) (by omega)).1
        have e7 : i < l.length → T (fun k n => zdi k n l v (i + 1)) fun r => (r.length : Int) ≤ l.length + 2 := fun h => (ih (i + 1) v (by omega) (by omega) (by omega) (by omega)).2 (by omega)
        exact T.dec (fun h => T.get h0 h fun _ _ => T.dec (fun _ => T.dec (fun h3 => T.get (by omega) h3 fun _ _ => T.bif (fun _ => e7 h) fun _ => e3) fun _ => e7 h) fun _ => e7 h) fun _ => e3
  exact T.diag (F := fun k n => zn3 k n l) (key _ 0 [] (Nat.le_refl _) (by omega) (by omega) (by simp)).1
end Go.V
namespace Go.V
set_option linter.unusedVariables false
set_option linter.unusedSimpArgs false
set_option linter.unusedSectionVars false
set_option maxRecDepth 100000
open Go.RowKit Go.Sl
abbrev Rd9 : Type := (List Token) × Int × Bool × Unit
def RI (l : List Token) (p : Int) (s : Rd9) : Prop := s.1 = l ∧ p ≤ s.2.1 ∧ s.2.1 ≤ l.length
theorem yfc {t : Token} {s : ByteArray} : T (fun _ _ => zbn t s) fun b => b = true → t.2.1 = s := by
  unfold zbn
  exact T.dec (fun _ => T.some (by simp)) fun _ => T.some (by simp)
theorem zlj {t : Token} {s : ByteArray} : T (fun _ _ => zbn t s) fun _ => True := yfc.mono fun _ _ => trivial
section
variable {l : List Token} (hl : (l.length : Int) ≤ 1000000000) {p : Int} (h0 : 0 ≤ p) {s : Rd9} (hs : RI l p s)
include hl h0 hs
theorem zmy {k : Int} : T (fun _ _ => zb6 s k) fun r => r.2 = s ∧ (r.1 = true → s.2.1 < l.length) := by
  unfold zb6
  refine T.dec (fun h => ?_) fun _ => T.some ⟨rfl, by simp⟩
  have h : s.2.1 < l.length := by rw [hs.1] at h; exact h
  exact T.get (by have := hs.2.1; omega) (by rw [hs.1]; exact h) fun _ _ => T.some ⟨rfl, fun _ => h⟩
theorem zm5 {k : ByteArray} : T (fun _ _ => zb5 s k) fun r => r.2 = s ∧ (r.1 = true → s.2.1 < l.length) := by
  unfold zb5
  refine T.dec (fun h => ?_) fun _ => T.some ⟨rfl, by simp⟩
  have h : s.2.1 < l.length := by rw [hs.1] at h; exact h
  exact T.get (by have := hs.2.1; omega) (by rw [hs.1]; exact h) fun _ _ => T.bind zlj fun _ _ => T.some ⟨rfl, fun _ => h⟩
theorem radv (h : s.2.1 < l.length) {b : Bool} : RI l (s.2.1 + 1) (s.1, w64 (s.2.1 + 1), b,()) := by
  have := hs.2.1
  refine ⟨hs.1, ?_, ?_⟩ <;> simp only <;> rw [w64i (by omega)] <;> omega
theorem zjf : T (fun k _ => zb2 k s) fun r => RI l s.2.1 r.2 := by
  have key : ∀ (m : Nat) (p : Int) (s : Rd9) (b : Bool), l.length - s.2.1.toNat ≤ m → 0 ≤ p → RI l p s → T (fun _ n => zc4 n s b) fun r => RI l p r.2 := by
    intro m
    induction m with
    | zero =>
      intro p s b h h0 hs
      refine T.step ?_
      unfold zc4
      refine T.bind (zmy hl h0 hs) fun r hr => T.bif (fun h2 => ?_) fun _ => T.some (by rw [hr.1]; exact hs)
      have := hr.2 h2
      have := hs.2.1
      omega
    | succ m ih =>
      intro p s b h h0 hs
      refine T.step ?_
      unfold zc4
      refine T.bind (zmy hl h0 hs) fun r hr => T.bif (fun h2 => ?_) fun _ => T.some (by rw [hr.1]; exact hs)
      have h3 := hr.2 h2
      have h4 := hs.2.1
      have h5 := radv hl h0 hs h3 (b := r.2.2.2.1)
      rw [hr.1] at h5 ⊢
      have e : w64 (s.2.1 + 1) = s.2.1 + 1 := w64i (by omega)
      refine (ih (s.2.1 + 1) _ true (by simp only; rw [e]; omega) (by omega) h5).mono fun r hr => ⟨hr.1, by have := hr.2.1; omega, hr.2.2⟩
  exact T.diag (F := fun _ n => zgn n s) (key _ s.2.1 s false (Nat.le_refl _) (by have := hs.2.1; omega) ⟨hs.1, by omega, hs.2.2⟩)
theorem zuv : T (fun _ _ => zbu s) fun r => RI l s.2.1 r.2 ∧ (r.2.2.2.1 = true ∨ s.2.1 < r.2.2.1) := by
  unfold zbu
  refine T.bind (zmy hl h0 hs) fun r hr => T.bif (fun h => T.some ⟨?_, .inl rfl⟩) fun h => ?_
  · rw [hr.1]; exact ⟨hs.1, by simp, hs.2.2⟩
  · have h3 := hr.2 (by simpa using h)
    have h4 := hs.2.1
    have h5 := radv hl h0 hs h3 (b := s.2.2.1)
    rw [hr.1]
    have e : w64 (s.2.1 + 1) = s.2.1 + 1 := w64i (by omega)
    rw [e] at h5 ⊢
    rw [w64i (by omega)]
    exact T.get (by omega) (by rw [hs.1]; omega) fun _ _ => T.some ⟨⟨h5.1, by have := h5.2.1; simp only at this ⊢; omega, h5.2.2⟩, .inr (by simp only; omega)⟩
theorem ybn {x : ByteArray} : T (fun _ _ => zcn s x) fun r => RI l s.2.1 r := by
  unfold zcn
  refine T.bind (zm5 hl h0 hs) fun r hr => T.bif (fun h => T.some ?_) fun h => T.some ?_
  · rw [hr.1]; exact ⟨hs.1, by simp, hs.2.2⟩
  · have h3 := hr.2 (by simpa using h)
    have h5 := radv hl h0 hs h3 (b := s.2.2.1)
    rw [hr.1]
    exact ⟨h5.1, by have := h5.2.1; simp only at this ⊢; omega, h5.2.2⟩
end
theorem RI.le {l : List Token} {p q : Int} {s : Rd9} (h : RI l p s) (hq : q ≤ p) : RI l q s := ⟨h.1, by have := h.2.1; omega, h.2.2⟩
theorem RI.self {l : List Token} {p : Int} {s : Rd9} (h : RI l p s) : RI l s.2.1 s := ⟨h.1, Int.le_refl _, h.2.2⟩
theorem RI.bad {l : List Token} {p : Int} {s : Rd9} (h : RI l p s) {b : Bool} : RI l p (s.1, s.2.1, b,()) := h
section
variable {l : List Token} (hl : (l.length : Int) ≤ 1000000000) {p : Int} (h0 : 0 ≤ p) {s : Rd9} (hs : RI l p s)
include hl h0 hs
theorem rk1_T {a : Int} {b : ByteArray} {c : ByteArray × Rd9} : T (fun k _ => zd6 k s.1 s.2.1 s.2.2.1 a b c) fun r => RI l p r.2 := by
  unfold zd6
  exact T.bind (ybn hl h0 (s := s) hs) fun r hr => T.some (hr.le hs.2.1)
theorem radv2 (h : s.2.1 < l.length) {b : Bool} : RI l p (s.1, w64 (s.2.1 + 1), b,()) := (radv hl h0 hs h).le (by have := hs.2.1; omega)
theorem rk0_T (h : s.2.1 < l.length) {c : ByteArray × Rd9} : T (fun k _ => zd7 k s.1 s.2.1 s.2.2.1 c) fun r => RI l p r.2 := by
  unfold zd7
  have h2 := hs.2.1
  refine T.get (by omega) (by rw [hs.1]; exact h) fun _ _ => T.bind (zjf hl h0 (radv2 hl h0 hs h)) fun r hr => ?_
  have e : w64 (s.2.1 + 1) = s.2.1 + 1 := w64i (by omega)
  exact rk1_T hl h0 (s := r.2) (hr.le (by simp only; omega))
theorem ye8 : T (fun k _ => zd2 k s) fun r => RI l p r.2 := by
  unfold zd2
  refine T.bind (zjf hl h0 hs) fun r1 h1 => ?_
  have h1 : RI l p r1.2 := h1.le hs.2.1
  refine T.bind (zuv hl h0 h1) fun r2 h2 => ?_
  have h2 : RI l p r2.2 := h2.1.le h1.2.1
  refine T.bind (zjf hl h0 h2) fun r3 h3 => ?_
  have h3 : RI l p r3.2 := h3.le h2.2.1
  refine T.bind (zm5 hl h0 h3) fun r4 h4 => ?_
  have h5 : RI l p r4.2 := by rw [h4.1]; exact h3
  refine T.bif (fun q => ?_) fun _ => rk1_T hl h0 (s := r4.2) h5
  have h6 : r4.2.2.1 < l.length := by rw [h4.1]; exact h4.2 q
  have h7 := radv2 hl h0 h5 h6 (b := r4.2.2.2.1)
  refine T.bind (zjf hl h0 h7) fun r5 h8 => ?_
  have h8 : RI l p r5.2 := h8.le h7.2.1
  refine T.bind (zmy hl h0 h8) fun r6 h9 => ?_
  have h10 : RI l p r6.2 := by rw [h9.1]; exact h8
  refine T.bif (fun _ => T.bind (zmy hl h0 h10) fun r7 h11 => ?_) fun q => rk0_T hl h0 (s := r6.2) h10 (by rw [h9.1]; exact h9.2 (by simpa using q))
  have h12 : RI l p r7.2 := by rw [h11.1]; exact h10
  exact T.bif (fun _ => T.some h12.bad) fun q => rk0_T hl h0 (s := r7.2) h12 (by rw [h11.1]; exact h11.2 (by simpa using q))
theorem yfg : T (fun k _ => zdg k s) fun r => RI l p r.2 := by
  unfold zdg
  refine T.bind (zuv hl h0 hs) fun r1 h1 => ?_
  have h1 : RI l p r1.2 := h1.1.le hs.2.1
  refine T.dec (fun _ => T.some h1) fun _ => T.dec (fun _ => T.some h1) fun _ => T.dec (fun _ => ?_) fun _ => T.some h1.bad
  refine T.bind (ybn hl h0 h1) fun r2 h2 => ?_
  have h2 : RI l p r2 := h2.le h1.2.1
  refine T.bind (zjf hl h0 h2) fun r3 h3 => ?_
  have h3 : RI l p r3.2 := h3.le h2.2.1
  refine T.bif (fun _ => T.some h3.bad) fun _ => T.bind (zmy hl h0 h3) fun r4 h4 => ?_
  have h5 : RI l p r4.2 := by rw [h4.1]; exact h3
  refine T.bif (fun _ => T.some h5.bad) fun q => ?_
  have h6 : r4.2.2.1 < l.length := by rw [h4.1]; exact h4.2 (by simpa using q)
  refine T.get (by have := h5.2.1; omega) (by rw [h5.1]; exact h6) fun r8 _ => ?_
  have h7 := radv2 hl h0 h5 h6 (b := r4.2.2.2.1)
  refine T.bind (zjf hl h0 h7) fun r9 h9 => ?_
  have h9 : RI l p r9.2 := h9.le h7.2.1
  refine T.bind (ybn hl h0 h9) fun r10 h10 => ?_
  have h10 : RI l p r10 := h10.le h9.2.1
  exact T.bind (yfj (by decide)) fun r11 _ => T.bif (fun _ => T.some h10.bad) fun _ => T.dec (fun _ => T.some h10.bad) fun _ => T.dec (fun _ => T.some h10.bad) fun _ => T.dec (fun _ => T.some h10.bad) fun _ => T.some h10
end
def okSt (B : Int) (s : SteT) : Prop := (s.2.2.1.length : Int) ≤ B
theorem ybm {l : List Token} (hl : (l.length : Int) ≤ 1000000000) {p : Int} (h0 : 0 ≤ p) {s : Rd9} (hs : RI l p s) : T (fun k _ => zh0 k s) fun r => RI l p r.2 ∧ okSt 1000000000 r.1 ∧ (r.2.2.2.1 = true ∨ s.2.1 < r.2.2.1) := by
  have key : ∀ (m : Nat) (p : Int) (s : Rd9) (v2 v3 : Int × ByteArray × List TesT) (v4 : Bool), l.length - s.2.1.toNat ≤ m → 0 ≤ p → RI l p s → (v3.2.2.length : Int) ≤ s.2.1 - p → (v4 = true → p < s.2.1) → T (fun k n => zam k n s v2 v3 v4) fun r => RI l p r.2 ∧ okSt 1000000000 r.1 ∧ (r.2.2.2.1 = true ∨ p < r.2.2.1) := by
    intro m
    induction m with
    | zero =>
      intro p s v2 v3 v4 h h0 hs hv h4
      have hs1 := hs.2.1
      have hs2 := hs.2.2
      have no : ∀ {q : Bool × Rd9}, (q.2 = s ∧ (q.1 = true → s.2.1 < l.length)) → q.1 = true → False := fun a b => by have := a.2 b; omega
      refine T.step ?_
      unfold zam
      refine T.bif (fun _ => ?_) fun q => T.some ⟨hs, by simp only [okSt]; omega, .inl (by simpa using q)⟩
      refine T.bind (zmy hl h0 hs) fun r4 h4' => T.bif (fun q => (no h4' q).elim) fun _ => ?_
      rw [h4'.1]
      refine T.bind (zm5 hl h0 hs) fun r7 h7 => T.bif (fun q => (no h7 q).elim) fun _ => ?_
      rw [h7.1]
      refine T.bind (zm5 hl h0 hs) fun r10 h10 => T.bif (fun q => (no h10 q).elim) fun _ => ?_
      rw [h10.1]
      refine T.bind (zm5 hl h0 hs) fun r13 h13 => T.bif (fun q => (no h13 q).elim) fun _ => ?_
      rw [h13.1]
      refine T.bif (fun _ => T.dec (fun _ => T.some ⟨hs.bad, by simp only [okSt]; omega, .inl rfl⟩) fun q => T.some ⟨hs, by simp only [okSt]; omega, .inr ?_⟩) fun q => T.some ⟨hs, by simp only [okSt]; omega, .inr ?_⟩
      · simp only; omega
      · have := h4 (by simpa using q); simp only; omega
    | succ m ih =>
      intro p s v2 v3 v4 h h0 hs hv h4
      have hs1 := hs.2.1
      have hs2 := hs.2.2
      have nx : ∀ (s' : Rd9) (t : TesT), RI l (s.2.1 + 1) s' → s.2.1 < l.length → T (fun k n => (appM 48 v3.2.2 [t]).bind fun r => zam k n s' (v2.1, v2.2.1, v2.2.2) (v3.1, v3.2.1, r) v4) fun r => RI l p r.2 ∧ okSt 1000000000 r.1 ∧ (r.2.2.2.1 = true ∨ p < r.2.2.1) := fun s' t h1 h2 => by
        have := h1.2.1
        refine T.app (by simp; omega) (by simp; omega) (ih p s' _ _ _ (by omega) h0 (h1.le (by omega)) (by simp; omega) (fun _ => by omega))
      refine T.step ?_
      unfold zam
      refine T.bif (fun _ => ?_) fun q => T.some ⟨hs, by simp only [okSt]; omega, .inl (by simpa using q)⟩
      refine T.bind (zmy hl h0 hs) fun r4 h4' => ?_
      rw [h4'.1]
      refine T.bif (fun q => T.get (by omega) (by rw [hs.1]; exact h4'.2 q) fun r5 _ => nx _ _ (radv hl h0 hs (h4'.2 q)) (h4'.2 q)) fun _ => ?_
      refine T.bind (zm5 hl h0 hs) fun r7 h7 => ?_
      rw [h7.1]
      refine T.bif (fun q => T.bind (zuv hl (by omega) (radv hl h0 hs (h7.2 q))) fun r8 h8 => nx _ _ (h8.1.le (radv hl h0 hs (h7.2 q) (b := s.2.2.1)).2.1) (h7.2 q)) fun _ => ?_
      refine T.bind (zm5 hl h0 hs) fun r10 h10 => ?_
      rw [h10.1]
      refine T.bif (fun q => T.bind (ye8 hl (by omega) (radv hl h0 hs (h10.2 q))) fun r8 h8 => nx _ _ h8 (h10.2 q)) fun _ => ?_
      refine T.bind (zm5 hl h0 hs) fun r13 h13 => ?_
      rw [h13.1]
      refine T.bif (fun q => T.bind (yfg hl (by omega) (radv hl h0 hs (h13.2 q))) fun r8 h8 => nx _ _ h8 (h13.2 q)) fun _ => ?_
      refine T.bif (fun _ => T.dec (fun _ => T.some ⟨hs.bad, by simp only [okSt]; omega, .inl rfl⟩) fun q => T.some ⟨hs, by simp only [okSt]; omega, .inr ?_⟩) fun q => T.some ⟨hs, by simp only [okSt]; omega, .inr ?_⟩
      · simp only; omega
      · have := h4 (by simpa using q); simp only; omega
  have hs1 := hs.2.1
  refine T.diag (F := fun k n => zfa k n s) ?_
  unfold zfa
  have up : ∀ {F : Nat → Nat → Option (SteT × Rd9)}, T F (fun r => RI l s.2.1 r.2 ∧ okSt 1000000000 r.1 ∧ (r.2.2.2.1 = true ∨ s.2.1 < r.2.2.1)) → T F fun r => RI l p r.2 ∧ okSt 1000000000 r.1 ∧ (r.2.2.2.1 = true ∨ s.2.1 < r.2.2.1) := fun h => h.mono fun r hr => ⟨hr.1.le hs1, hr.2⟩
  refine up (T.bind (zmy hl h0 hs) fun r1 h1 => ?_)
  rw [h1.1]
  refine T.bif (fun q => T.bind (zuv hl h0 hs) fun r2 h2 => ?_) fun _ => T.bind (zm5 hl h0 hs) fun r3 h3 => ?_
  · by_cases hb : r2.2.2.2.1 = true
    · refine T.step ?_
      unfold zam
      rw [hb]
      exact T.some ⟨h2.1, by simp [okSt], .inl hb⟩
    · have := h2.2.resolve_left hb
      exact key _ _ _ _ _ _ (Nat.le_refl _) (by omega) h2.1 (by simp; omega) fun _ => this
  · rw [h3.1]
    refine T.bif (fun q => ?_) fun _ => key _ _ _ _ _ _ (Nat.le_refl _) (by omega) hs.self (by simp) (by simp)
    have h5 := radv hl h0 hs (h3.2 q) (b := s.2.2.1)
    have := h5.2.1
    exact key _ _ _ _ _ _ (Nat.le_refl _) (by omega) (h5.le (by omega)) (by simp only [List.length_nil] at this ⊢; omega) fun _ => by simp only at this ⊢; omega
end Go.V
namespace Go.V
set_option linter.unusedVariables false
set_option linter.unusedSimpArgs false
set_option linter.unusedSectionVars false
set_option maxRecDepth 100000
open Go.RowKit Go.Sl
theorem zhe {α : Type} {P : α → Prop} {l : List α} {x : α} (h : ∀ y ∈ l, P y) (hx : P x) : ∀ y ∈ l ++ [x], P y := by
  intro y hy
  rcases List.mem_append.1 hy with hy | hy
  · exact h y hy
  · rw [List.mem_singleton.1 hy]; exact hx
theorem trim_T {l : List Token} (hl : (l.length : Int) ≤ 1000000000) : T (fun k _ => zvc k l) fun r => r.length ≤ l.length := by
  have k3 : ∀ (m : Nat) (l : List Token),(l.length : Int) ≤ 1000000000 → l.length ≤ m → T (fun _ n => zhf n l) fun r => r.length ≤ l.length := by
    intro m
    induction m with
    | zero =>
      intro l hl h
      refine T.step ?_
      unfold zhf
      exact T.dec (fun _ => by omega) fun _ => T.some (Nat.le_refl _)
    | succ m ih =>
      intro l hl h
      refine T.step ?_
      unfold zhf
      rw [w64i (by omega)]
      refine T.dec (fun _ => T.get (by omega) (by omega) fun _ _ => T.dec (fun _ => T.cut (by omega) (by omega) (by omega) fun r _ hr => (ih r (by omega) (by omega)).mono fun x hx => by omega) fun _ => T.some (Nat.le_refl _)) fun _ => T.some (Nat.le_refl _)
  have k1 : ∀ (m : Nat) (l : List Token),(l.length : Int) ≤ 1000000000 → l.length ≤ m → T (fun _ n => zij n l) fun r => r.length ≤ l.length := by
    intro m
    induction m with
    | zero =>
      intro l hl h
      refine T.step ?_
      unfold zij
      exact T.dec (fun _ => by omega) fun _ => k3 _ l hl (Nat.le_refl _)
    | succ m ih =>
      intro l hl h
      refine T.step ?_
      unfold zij
      exact T.dec (fun _ => T.get (by omega) (by omega) fun _ _ => T.dec (fun _ => T.cut (by omega) (by omega) (by omega) fun r _ hr => (ih r (by omega) (by omega)).mono fun x hx => by omega) fun _ => k3 _ l hl (Nat.le_refl _)) fun _ => k3 _ l hl (Nat.le_refl _)
  exact T.diag (F := fun _ n => zr4 n l) (k1 _ l hl (Nat.le_refl _))
def okSel (s : SelT) : Prop := (s.1.length : Int) ≤ 2000000000 ∧ ∀ x ∈ s.1, okSt 1000000000 x
theorem one_T {a : List Token} (ha : (a.length : Int) ≤ 1000000000) : T (fun k _ => zy7 k a) fun r => okSel r.1 := by
  refine T.diag (F := fun k n => zpt k n a) ?_
  unfold zpt
  refine T.bind (trim_T ha) fun l hl0 => ?_
  have hl : (l.length : Int) ≤ 1000000000 := by omega
  have stop : ∀ (v2 v5 : List SteT) (s : Rd9), s.2.2.1 = true → (v5.length : Int) ≤ 2000000000 → (∀ x ∈ v5, okSt 1000000000 x) → T (fun k n => zfw k n v2 s v5) fun r => okSel r.1 := fun v2 v5 s hb h1 h2 => by
    refine T.step ?_
    unfold zfw
    rw [hb]
    exact T.some ⟨h1, h2⟩
  have key : ∀ (m : Nat) (v2 v5 : List SteT) (s : Rd9), RI l 0 s → (v5.length : Int) ≤ s.2.1 + 1 → (∀ x ∈ v5, okSt 1000000000 x) → (8 * (l.length - s.2.1.toNat) + 7 ≤ m → T (fun k n => zfw k n v2 s v5) fun r => okSel r.1) ∧ ∀ (c q : Int),2 ≤ q → q ≤ 5 → 8 * (l.length - s.2.1.toNat) + (5 - q).toNat ≤ m → T (fun k n => zf0 k n v2 s v5 c q) fun r => okSel r.1 := by
    intro m
    induction m with
    | zero =>
      intro v2 v5 s hs hv h5
      refine ⟨fun h => by omega, fun c q hq hq2 h => ?_⟩
      have hs1 := hs.2.1
      have hs2 := hs.2.2
      have e : q = 5 := by omega
      subst e
      refine T.step ?_
      unfold zf0
      refine T.dec (fun h => by omega) fun _ => ?_
      unfold zhz
      refine T.dec (fun _ => T.some ⟨by simp, by simp⟩) fun _ => T.bind (ybm hl (Int.le_refl 0) (s := s) hs) fun r hr => ?_
      refine T.app (by simp; omega) (by simp; omega) ?_
      have hb : r.2.2.2.1 = true := hr.2.2.resolve_right fun h => by have := hr.1.2.2; omega
      exact stop _ _ _ hb (by simp; omega) (zhe h5 (hr.2.1))
    | succ m ih =>
      intro v2 v5 s hs hv h5
      have hs1 := hs.2.1
      have hs2 := hs.2.2
      refine ⟨fun h => ?_, fun c q hq hq2 h => ?_⟩
      · refine T.step ?_
        unfold zfw
        refine T.bif (fun _ => T.dec (fun _ => ?_) fun _ => T.some ⟨by simp only; omega, h5⟩) fun _ => T.some ⟨by simp only; omega, h5⟩
        refine T.bind (zjf hl (Int.le_refl 0) hs) fun r hr => ?_
        have h1 := hr.2.1
        have nx : ∀ c, T (fun k n => zf0 k n v2 r.2 v5 c 2) fun r => okSel r.1 := fun c => (ih v2 v5 r.2 (hr.le (by omega)) (by omega) h5).2 c 2 (by omega) (by omega) (by omega)
        exact T.bif (fun _ => nx _) fun _ => nx _
      · have fin : ∀ (c : Int) (s' : Rd9), RI l s.2.1 s' → T (fun k n => zhz k (zfw k n) c s'.1 s'.2.1 s'.2.2.1 v5 v2) fun r => okSel r.1 := fun c s' hs' => by
          have h1 := hs'.2.1
          have h2 := hs'.2.2
          unfold zhz
          refine T.dec (fun _ => T.some ⟨by simp, by simp⟩) fun _ => T.bind (ybm hl (by omega) (s := s') hs') fun r hr => ?_
          refine T.app (by simp; omega) (by simp; omega) ?_
          have h6 : ∀ x ∈ v5 ++ [(c, r.1.2.1, r.1.2.2.1,())], okSt 1000000000 x := zhe h5 (hr.2.1)
          rcases hr.2.2 with hb | hb
          · exact stop _ _ _ hb (by simp; omega) h6
          · have h7 := hr.1.2.2
            exact (ih v2 _ r.2 (hr.1.le (by omega)) (by simp; omega) h6).1 (by omega)
        refine T.step ?_
        unfold zf0
        refine T.dec (fun h4 => ?_) fun _ => fin c s hs.self
        rw [w64i (i := q - 1) (by omega), w64i (i := q + 1) (by omega)]
        have g : ∃ b, getS (bs [32,62,43,126]) (q - 1) = some b := by
          have : q = 2 ∨ q = 3 ∨ q = 4 := by omega
          rcases this with rfl | rfl | rfl <;> exact ⟨_, rfl⟩
        obtain ⟨b, hb⟩ := g
        refine T.bind (T.of (P := fun _ => True) hb trivial) fun _ _ => T.bind (zm5 hl (Int.le_refl 0) hs) fun r hr => ?_
        have nx : T (fun k n => zf0 k n v2 r.2 v5 c (q + 1)) fun r => okSel r.1 := by
          rw [hr.1]
          exact (ih v2 v5 s hs hv h5).2 c (q + 1) (by omega) (by omega) (by omega)
        refine T.bif (fun h6 => T.dec (fun _ => ?_) fun _ => nx) fun _ => nx
        rw [hr.1]
        have h7 := radv hl (Int.le_refl 0) hs (hr.2 h6) (b := s.2.2.1)
        have h8 := h7.2.1
        exact T.bind (zjf hl (by omega) h7) fun r2 h9 => fin q r2.2 (h9.le (by simp only at h8 ⊢; omega))
  refine T.bind (ybm hl (Int.le_refl 0) (s := (l,0, false,())) ⟨rfl, Int.le_refl _, by simp⟩) fun r hr => ?_
  exact (key _ _ _ r.2 hr.1 (by have := hr.1.2.1; simp; omega) (by simpa using hr.2.1)).1 (Nat.le_refl _)
theorem select_T {a : List Token} (ha : (a.length : Int) ≤ 1000000000) : T (fun k _ => zr6 k a) fun r => (r.1.length : Int) ≤ 2000000000 ∧ ∀ x ∈ r.1, okSel x := by
  have key : ∀ (m : Nat) (v : List SelT) (p i : Int), a.length + 1 - i.toNat ≤ m → 0 ≤ p → p ≤ i → i ≤ a.length + 1 → (v.length : Int) ≤ i → (∀ x ∈ v, okSel x) → T (fun k n => zct k n a v p i) fun r => (r.1.length : Int) ≤ 2000000000 ∧ ∀ x ∈ r.1, okSel x := by
    intro m
    induction m with
    | zero =>
      intro v p i h h0 h1 h2 hv h5
      refine T.step ?_
      unfold zct
      exact T.dec (fun _ => by omega) fun _ => T.some ⟨by simp only; omega, h5⟩
    | succ m ih =>
      intro v p i h h0 h1 h2 hv h5
      refine T.step ?_
      unfold zct
      refine T.dec (fun h3 => ?_) fun _ => T.some ⟨by simp only; omega, h5⟩
      have fin : T (fun k n => zh1 k (zct k n) a p i v) fun r => (r.1.length : Int) ≤ 2000000000 ∧ ∀ x ∈ r.1, okSel x := by
        unfold zh1
        rw [w64i (by omega)]
        refine T.cut h0 h1 h3 fun r _ hr => T.bind (one_T (by omega)) fun s hs => T.bif (fun _ => T.some ⟨by simp, by simp⟩) fun _ => T.app (by simp; omega) (by simp; omega) ?_
        exact ih _ _ _ (by omega) (by omega) (by omega) (by omega) (by simp; omega) (zhe h5 (hs))
      rw [w64i (by omega)]
      exact T.dec (fun h4 => T.get (by omega) h4 fun _ _ => T.bind zlj fun _ _ => T.bif (fun _ => ih _ _ _ (by omega) h0 (by omega) (by omega) (by omega) h5) fun _ => fin) fun _ => fin
  exact T.diag (F := fun k n => zn0 k n a) (key _ [] 0 0 (Nat.le_refl _) (by omega) (by omega) (by omega) (by simp) (by simp))
theorem solid_T {a : List Token} (ha : (a.length : Int) ≤ 1000000000) : T (fun k _ => ztf k a) fun r => r.length ≤ a.length := by
  have key : ∀ (m : Nat) (v : List Token) (i : Int), a.length - i.toNat ≤ m → 0 ≤ i → i ≤ a.length → (v.length : Int) ≤ i → T (fun _ n => zfc n a v i) fun r => r.length ≤ a.length := by
    intro m
    induction m with
    | zero =>
      intro v i h h0 h1 hv
      refine T.step ?_
      unfold zfc
      exact T.dec (fun _ => by omega) fun _ => T.some (by omega)
    | succ m ih =>
      intro v i h h0 h1 hv
      refine T.step ?_
      unfold zfc
      rw [w64i (by omega)]
      exact T.dec (fun h3 => T.get h0 h3 fun _ _ => T.dec (fun _ => T.get h0 h3 fun _ _ => T.app (by simp; omega) (by simp; omega) (ih _ _ (by omega) (by omega) (by omega) (by simp; omega))) fun _ => ih _ _ (by omega) (by omega) (by omega) (by omega)) fun _ => T.some (by omega)
  exact T.diag (F := fun _ n => zo6 n a) (key _ [] 0 (Nat.le_refl _) (by omega) (by omega) (by simp))
theorem cut_T {a : List Token} {x : ByteArray} (ha : (a.length : Int) ≤ 1000000000) : T (fun k _ => zy9 k a x) fun r => (r.length : Int) ≤ a.length + 1 ∧ ∀ y ∈ r,(y.length : Int) ≤ a.length := by
  have key : ∀ (m : Nat) (v : List (List Token)) (d p i : Int), a.length - i.toNat ≤ m → 0 ≤ p → p ≤ i → i ≤ a.length → (v.length : Int) ≤ i → (∀ y ∈ v,(y.length : Int) ≤ a.length) → T (fun _ n => zfx n a x v d p i) fun r => (r.length : Int) ≤ a.length + 1 ∧ ∀ y ∈ r,(y.length : Int) ≤ a.length := by
    have fin : ∀ (v : List (List Token)) (p i : Int),0 ≤ p → p ≤ i → i ≤ a.length → (v.length : Int) ≤ i → (∀ y ∈ v,(y.length : Int) ≤ a.length) → T (fun _ _ => (cutM a p a.length).bind fun r13 => (appM 24 v [r13]).bind fun r14 => some r14) fun r => (r.length : Int) ≤ a.length + 1 ∧ ∀ y ∈ r,(y.length : Int) ≤ a.length := fun v p i h0 h1 h2 hv h5 =>
      T.cut h0 (by omega) (by omega) fun r _ hr => T.app (by simp; omega) (by simp; omega) (T.some ⟨by simp; omega, zhe h5 (by omega)⟩)
    intro m
    induction m with
    | zero =>
      intro v d p i h h0 h1 h2 hv h5
      refine T.step ?_
      unfold zfx
      exact T.dec (fun _ => by omega) fun _ => fin v p i h0 h1 h2 hv h5
    | succ m ih =>
      intro v d p i h h0 h1 h2 hv h5
      refine T.step ?_
      unfold zfx
      refine T.dec (fun h3 => ?_) fun _ => fin v p i h0 h1 h2 hv h5
      have e1 : ∀ d, T (fun _ n => zi0 (zfx n) d a i x p v) fun r => (r.length : Int) ≤ a.length + 1 ∧ ∀ y ∈ r,(y.length : Int) ≤ a.length := fun d => by
        unfold zi0
        rw [w64i (by omega)]
        have nx := ih v d p (i + 1) (by omega) h0 (by omega) (by omega) (by omega) h5
        refine T.dec (fun _ => T.get (by omega) h3 fun _ _ => T.bind zlj fun _ _ => T.bif (fun _ => ?_) fun _ => nx) fun _ => nx
        exact T.cut h0 h1 h2 fun r _ hr => T.app (by simp; omega) (by simp; omega) (ih _ _ _ _ (by omega) (by omega) (by omega) (by omega) (by simp; omega) (zhe h5 (by omega)))
      have e0 : ∀ d, T (fun _ n => zjs (zfx n) d a i x p v) fun r => (r.length : Int) ≤ a.length + 1 ∧ ∀ y ∈ r,(y.length : Int) ≤ a.length := fun d => by
        unfold zjs
        exact T.get (by omega) h3 fun _ _ => T.bind zlj fun _ _ => T.bif (fun _ => T.dec (fun _ => e1 _) fun _ => e1 _) fun _ => e1 _
      exact T.get (by omega) h3 fun _ _ => T.bind zlj fun _ _ => T.bif (fun _ => e0 _) fun _ => e0 _
  exact T.diag (F := fun _ n => zth n a x) (key _ [] 0 0 0 (Nat.le_refl _) (by omega) (by omega) (by omega) (by simp) (by simp))
def okDec (d : DecT) : Prop := (d.2.1.length : Int) ≤ 1000000000
theorem ygw {a : List Token} (ha : (a.length : Int) ≤ 1000000000) : T (fun k _ => zmj k a) fun r => (r.length : Int) ≤ a.length + 1 ∧ ∀ y ∈ r, okDec y := by
  refine T.diag (F := fun k n => zll k n a) ?_
  unfold zll
  refine T.bind (cut_T ha) fun ps hps => ?_
  have hpl := hps.1
  have key : ∀ (m : Nat) (v : List DecT) (i : Int), ps.length - i.toNat ≤ m → 0 ≤ i → i ≤ ps.length → (v.length : Int) ≤ i → (∀ y ∈ v, okDec y) → T (fun k n => zc6 k n v ps i) fun r => (r.length : Int) ≤ a.length + 1 ∧ ∀ y ∈ r, okDec y := by
    intro m
    induction m with
    | zero =>
      intro v i h h0 h1 hv h5
      refine T.step ?_
      unfold zc6
      exact T.dec (fun _ => by omega) fun _ => T.some ⟨by omega, h5⟩
    | succ m ih =>
      intro v i h h0 h1 hv h5
      have inner : i < ps.length → ∀ (m : Nat) (d : DecT) (b : Bool) (j : Int), d.2.1.length - j.toNat ≤ m → okDec d → 0 ≤ j → j ≤ d.2.1.length → T (fun k n => zay k n v ps i d b j) fun r => (r.length : Int) ≤ a.length + 1 ∧ ∀ y ∈ r, okDec y := by
        intro hi m
        have fin : ∀ (d : DecT) (b : Bool), okDec d → T (fun k n => bif b then (appM 48 v [d]).bind fun r22 => zc6 k n r22 ps (w64 (i + 1)) else zc6 k n v ps (w64 (i + 1))) fun r => (r.length : Int) ≤ a.length + 1 ∧ ∀ y ∈ r, okDec y := fun d b hd => by
          rw [w64i (by omega)]
          exact T.bif (fun _ => T.app (by simp; omega) (by simp; omega) (ih _ _ (by omega) (by omega) (by omega) (by simp; omega) (zhe h5 hd))) fun _ => ih _ _ (by omega) (by omega) (by omega) (by omega) h5
        induction m with
        | zero =>
          intro d b j h hd h0 h1
          refine T.step ?_
          unfold zay
          exact T.dec (fun _ => by omega) fun _ => fin d b hd
        | succ m ih2 =>
          intro d b j h hd h0 h1
          have hd' : (d.2.1.length : Int) ≤ 1000000000 := hd
          refine T.step ?_
          unfold zay
          refine T.dec (fun h3 => ?_) fun _ => fin d b hd
          rw [w64i (i := j + 1) (by omega)]
          have nx : ∀ b, T (fun k n => zay k n v ps i d b (j + 1)) fun r => (r.length : Int) ≤ a.length + 1 ∧ ∀ y ∈ r, okDec y := fun b => ih2 d b (j + 1) (by omega) hd (by omega) (by omega)
          exact T.get h0 h3 fun _ _ => T.bif (fun _ => T.bind zlj fun _ _ => T.bif (fun _ => T.bind zlj fun _ _ => T.bif (fun _ => T.bind zlj fun _ _ => T.bif (fun _ => T.bind zlj fun _ _ => nx _) fun _ => nx _) fun _ => nx _) fun _ => nx _) fun _ => nx _
      refine T.step ?_
      unfold zc6
      refine T.dec (fun hi => T.get h0 hi fun r2 hr2 => ?_) fun _ => T.some ⟨by omega, h5⟩
      have h2 := hps.2 r2 (List.mem_of_getElem? hr2)
      have hp1 := hps.1
      rw [w64i (i := i + 1) (by omega)]
      have nx := ih v (i + 1) (by omega) (by omega) (by omega) (by omega) h5
      refine T.bind (solid_T (by omega)) fun r3 h3 => T.dec (fun _ => nx) fun h4 => T.get (by omega) (by omega) fun _ _ => T.dec (fun _ => nx) fun _ => T.get (by omega) (by omega) fun _ _ => T.bind zlj fun _ _ => T.bif (fun _ => nx) fun _ => T.get (by omega) (by omega) fun r7 _ => T.cut (by omega) (by omega) (by omega) fun r8 _ h8 => ?_
      have go : ∀ (x : List Token) (b : Bool), x.length ≤ r8.length → T (fun k n => zay k n v ps i (r7.2.1, x, b,()) (decide (0 < (x.length : Int))) 0) fun r => (r.length : Int) ≤ a.length + 1 ∧ ∀ y ∈ r, okDec y := fun x b hx => inner hi _ _ _ _ (Nat.le_refl _) (by simp only [okDec]; omega) (by omega) (by omega)
      have e := go r8 false (Nat.le_refl _)
      refine T.dec (fun h9 => ?_) fun _ => e
      rw [w64i (i := (r8.length : Int) - 2) (by omega), w64i (i := (r8.length : Int) - 1) (by omega)]
      exact T.get (by omega) (by omega) fun _ _ => T.bind zlj fun _ _ => T.bif (fun _ => T.get (by omega) (by omega) fun _ _ => T.dec (fun _ => T.get (by omega) (by omega) fun _ _ => T.dec (fun _ => T.cut (by omega) (by omega) (by omega) fun r13 _ h13 => go r13 true (by omega)) fun _ => e) fun _ => e) fun _ => e
  exact key _ [] 0 (Nat.le_refl _) (by omega) (by omega) (by simp) (by simp)
theorem ends_T {a : List Token} (ha : (a.length : Int) ≤ 1000000000) {i : Int} (h0 : 0 ≤ i) (h1 : i < a.length) : T (fun k _ => zvd k a i) fun r => i < r.1 ∧ r.1 ≤ a.length ∧ i < r.2 ∧ r.2 ≤ a.length := by
  have stp : ∀ (d i : Int),0 ≤ i → i < a.length → (∀ d, T (fun _ n => zd3 n a d (i + 1)) fun r => i < r.1 ∧ r.1 ≤ a.length ∧ i < r.2 ∧ r.2 ≤ a.length) → ∀ (S : Int × Int → Prop),(∀ r : Int × Int,(i < r.1 ∧ r.1 ≤ a.length ∧ i < r.2 ∧ r.2 ≤ a.length) → S r) → (S (i + 1, i) ∨ d = 0) → T (fun _ n => zd3 n a d i) S := by
    intro d i h0 h1 nx S hS hd
    refine T.step ?_
    unfold zd3
    refine T.dec (fun h3 => T.get h0 h3 fun t ht => T.bind yfc fun b hb => ?_) fun h => absurd h1 h
    have c0 : ∀ (y : Int),(∀ b, b = true → t.2.1 = bs [125] → w64 (y - 1) = 0 → S (w64 (i + 1), i)) → T (fun _ n => ziy (zd3 n) y a i) S := fun y hy => by
      unfold ziy
      refine T.get h0 h3 fun t2 ht2 => ?_
      rw [ht] at ht2
      cases ht2
      refine T.bind yfc fun b hb => T.bif (fun h => T.dec (fun h2 => T.some (hy b h (hb h) h2)) fun _ => ?_) fun _ => ?_
      · rw [w64i (i := i + 1) (by omega)]; exact (nx _).mono hS
      · rw [w64i (i := i + 1) (by omega)]; exact (nx _).mono hS
    refine T.bif (fun h => c0 _ fun _ _ h4 _ => ?_) fun h => c0 _ fun _ _ _ h5 => ?_
    · have := (hb h).symm.trans h4
      exact absurd this (by decide)
    · rcases hd with hd | hd
      · rw [w64i (by omega)]; exact hd
      · subst hd
        exact absurd h5 (by decide)
  have key : ∀ (m : Nat) (d i : Int), a.length - i.toNat ≤ m → 0 ≤ i → i ≤ a.length → T (fun _ n => zd3 n a d i) fun r => i ≤ r.1 ∧ r.1 ≤ a.length ∧ i ≤ r.2 ∧ r.2 ≤ a.length := by
    intro m
    induction m with
    | zero =>
      intro d i h h0 h1
      refine T.step ?_
      unfold zd3
      exact T.dec (fun _ => by omega) fun _ => T.some ⟨h1, by simp, h1, by simp⟩
    | succ m ih =>
      intro d i h h0 h1
      by_cases h2 : i < a.length
      · exact stp d i h0 h2 (fun d => (ih d (i + 1) (by omega) (by omega) (by omega)).mono fun r hr => ⟨by omega, hr.2.1, by omega, hr.2.2.2⟩) _ (fun r hr => ⟨by omega, hr.2.1, by omega, hr.2.2.2⟩) (.inl ⟨by simp only; omega, by simp only; omega, by simp, by simp only; omega⟩)
      · refine T.step ?_
        unfold zd3
        exact T.dec (fun h => absurd h h2) fun _ => T.some ⟨h1, by simp, h1, by simp⟩
  refine T.diag (F := fun _ n => zmz n a i) ?_
  unfold zmz
  exact stp 0 i h0 h1 (fun d => (key _ d (i + 1) (Nat.le_refl _) (by omega) (by omega)).mono fun r hr => ⟨by omega, hr.2.1, by omega, hr.2.2.2⟩) _ (fun r hr => hr) (.inr rfl)
def okRule (r : RulT) : Prop := (r.1.length : Int) ≤ 2000000000 ∧ (∀ x ∈ r.1, okSel x) ∧ (r.2.1.length : Int) ≤ 2000000 ∧ ∀ y ∈ r.2.1, okDec y
theorem parse_T {a : List Token} (ha : (a.length : Int) ≤ 1000000) : T (fun k _ => ztg k a) fun r => (r.1.length : Int) ≤ 1024 ∧ ∀ x ∈ r.1, okRule x := by
  have fin : ∀ (v : List RulT),(v.length : Int) ≤ 1000000000 → (∀ x ∈ v, okRule x) → T (fun _ _ => bif decide (1024 < (v.length : Int)) then some (([] : List RulT),(4 : Int)) else some (v,0)) fun r => (r.1.length : Int) ≤ 1024 ∧ ∀ x ∈ r.1, okRule x := fun v h1 h2 => T.dec (fun _ => T.some ⟨by simp, by simp⟩) fun h3 => T.some ⟨by simp only; omega, h2⟩
  have key : ∀ (m : Nat) (v : List RulT) (i : Int),0 ≤ i → i ≤ a.length → (v.length : Int) ≤ i → (∀ x ∈ v, okRule x) → (2 * (a.length - i.toNat) + 1 ≤ m → T (fun k n => zcu k n a v i) fun r => (r.1.length : Int) ≤ 1024 ∧ ∀ x ∈ r.1, okRule x) ∧ ∀ (p : Int) (b : Bool),0 ≤ p → p ≤ i → 2 * (a.length - i.toNat) ≤ m → T (fun k n => zfe k n a v i p b) fun r => (r.1.length : Int) ≤ 1024 ∧ ∀ x ∈ r.1, okRule x := by
    intro m
    induction m with
    | zero =>
      intro v i h0 h1 hv h5
      refine ⟨fun h => by omega, fun p b hp hp2 h => ?_⟩
      refine T.step ?_
      unfold zfe
      refine T.dec (fun _ => by omega) fun _ => ?_
      unfold ze1
      exact T.dec (fun _ => fin v (by omega) h5) fun _ => by omega
    | succ m ih =>
      intro v i h0 h1 hv h5
      refine ⟨fun h => ?_, fun p b hp hp2 h => ?_⟩
      · refine T.step ?_
        unfold zcu
        refine T.dec (fun h3 => T.get h0 h3 fun _ _ => T.dec (fun _ => ?_) fun _ => T.get h0 h3 fun _ _ => (ih v i h0 h1 hv h5).2 i _ h0 (Int.le_refl _) (by omega)) fun _ => fin v (by omega) h5
        rw [w64i (by omega)]
        exact (ih v (i + 1) (by omega) (by omega) (by omega) h5).1 (by omega)
      · have J : ∀ (w : List RulT) (j : Int), i < j → j ≤ a.length → (w.length : Int) ≤ j → (∀ x ∈ w, okRule x) → T (fun k n => zcu k n a w j) fun r => (r.1.length : Int) ≤ 1024 ∧ ∀ x ∈ r.1, okRule x := fun w j a1 a2 a3 a4 => (ih w j (by omega) a2 a3 a4).1 (by omega)
        have c1 : T (fun k n => ze1 k (zcu k n) i a v b p) fun r => (r.1.length : Int) ≤ 1024 ∧ ∀ x ∈ r.1, okRule x := by
          unfold ze1
          rw [w64i (by omega)]
          refine T.dec (fun _ => fin v (by omega) h5) fun h6 => T.get h0 (by omega) fun _ _ => T.bind zlj fun _ _ => T.bif (fun _ => J _ _ (by omega) (by omega) (by omega) h5) fun _ => T.bind (ends_T (by omega) h0 (by omega)) fun r9 h9 => ?_
          have e := J v r9.1 h9.1 h9.2.1 (by omega) h5
          refine T.bif (fun _ => T.cut hp hp2 h1 fun r10 _ h10 => T.bind (select_T (by omega)) fun r11 h11 => T.bif (fun _ => T.cut (by omega) (by omega) h9.2.2.2 fun r12 _ h12 => T.bind (ygw (by omega)) fun r13 h13 => T.app (by simp; omega) (by simp; omega) ?_) fun _ => e) fun _ => e
          exact J _ _ h9.1 h9.2.1 (by simp; omega) (zhe h5 ⟨h11.1, h11.2, by have := h13.1; simp only; omega, h13.2⟩)
        refine T.step ?_
        unfold zfe
        refine T.dec (fun h3 => ?_) fun _ => c1
        rw [w64i (by omega)]
        have nx := (ih v (i + 1) (by omega) (by omega) (by omega) h5).2 p b hp (by omega) (by omega)
        exact T.get h0 h3 fun _ _ => T.bind zlj fun _ _ => T.bif (fun _ => T.bif (fun _ => T.get h0 h3 fun _ _ => T.bind zlj fun _ _ => T.bif (fun _ => nx) fun _ => c1) fun _ => nx) fun _ => c1
  exact T.diag (F := fun k n => zo9 k n a) ((key _ [] 0 (by omega) (by omega) (by simp) (by simp)).1 (Nat.le_refl _))
end Go.V
