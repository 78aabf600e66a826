/-
  Walks and laws of this seat.
-/
import Derived.Test.YtdjjeahiomackaaGreatVN
import Derived.Test.YtdjjeahiomackaaGreatL6w
namespace Go.V
set_option linter.unusedVariables false
set_option linter.unusedSimpArgs false
set_option linter.unusedSectionVars false
open Go.RowKit Go.Sl
variable {α β : Type}
def T (F : Nat → Nat → Option α) (Q : α → Prop) : Prop := ∃ r, Q r ∧ ∃ K, ∀ k n, K ≤ k → K ≤ n → F k n = some r
theorem T.some {r : α} {Q : α → Prop} (h : Q r) : T (fun _ _ => some r) Q := ⟨r, h,0, fun _ _ _ _ => rfl⟩
theorem T.bind {m : Nat → Nat → Option α} {G : Nat → Nat → α → Option β} {P : α → Prop} {Q : β → Prop} (h : T m P) (g : ∀ r, P r → T (fun k n => G k n r) Q) : T (fun k n => (m k n).bind fun r => G k n r) Q := by
  obtain ⟨r, h1, K, h2⟩ := h
  obtain ⟨s, g1, K2, g2⟩ := g r h1
  refine ⟨s, g1, K + K2, fun k n hk hn => ?_⟩
  show (m k n).bind _ = _
  rw [h2 k n (by omega) (by omega)]
  exact g2 k n (by omega) (by omega)
theorem T.bif {b : Bool} {x y : Nat → Nat → Option α} {Q : α → Prop} (h1 : b = true → T x Q) (h2 : b = false → T y Q) : T (fun k n => bif b then x k n else y k n) Q := by
  cases b with
  | true => exact h1 rfl
  | false => exact h2 rfl
theorem T.dec {p : Prop} [Decidable p] {x y : Nat → Nat → Option α} {Q : α → Prop} (h1 : p → T x Q) (h2 : ¬ p → T y Q) : T (fun k n => bif decide p then x k n else y k n) Q := by
  by_cases h : p
  · simpa [h] using h1 h
  · simpa [h] using h2 h
theorem T.get {xs : List α} {i : Int} {G : Nat → Nat → α → Option β} {Q : β → Prop} (h0 : 0 ≤ i) (h1 : i < xs.length) (g : ∀ r, xs[i.toNat]? = .some r → T (fun k n => G k n r) Q) : T (fun k n => (geti xs i).bind fun r => G k n r) Q := by
  have hl : i.toNat < xs.length := by omega
  have e : geti xs i = .some xs[i.toNat] := by simp [geti, h0, hl]
  rw [e]
  exact g _ (List.getElem?_eq_getElem hl)
theorem T.app {b : Nat} {xs ys : List α} {G : Nat → Nat → List α → Option β} {Q : β → Prop} (h : (xs.length + ys.length) * b ≤ 140737488355328) (h' : xs.length + ys.length ≤ 9223372036854775807) (g : T (fun k n => G k n (xs ++ ys)) Q) : T (fun k n => (appM b xs ys).bind fun r => G k n r) Q := by
  have e : appM b xs ys = .some (xs ++ ys) := by simp [appM, roomB, h, h']
  rw [e]; exact g
theorem T.cut {xs : List α} {lo hi : Int} {G : Nat → Nat → List α → Option β} {Q : β → Prop} (h0 : 0 ≤ lo) (h1 : lo ≤ hi) (h2 : hi ≤ xs.length) (g : ∀ r : List α, r = (xs.take hi.toNat).drop lo.toNat → (r.length : Int) = hi - lo → T (fun k n => G k n r) Q) : T (fun k n => (cutM xs lo hi).bind fun r => G k n r) Q := by
  have e : cutM xs lo hi = .some ((xs.take hi.toNat).drop lo.toNat) := by simp [cutM, h0, h1, h2]
  rw [e]
  exact g _ rfl (by simp; omega)
theorem T.step {F : Nat → Nat → Option α} {Q : α → Prop} (h : T (fun k n => F k (n + 1)) Q) : T F Q := by
  obtain ⟨r, h1, K, h2⟩ := h
  refine ⟨r, h1, K + 1, fun k n hk hn => ?_⟩
  obtain ⟨m, rfl⟩ : ∃ m, n = m + 1 := ⟨n - 1, by omega⟩
  exact h2 k m (by omega) (by omega)
theorem T.diag {F : Nat → Nat → Option α} {Q : α → Prop} (h : T F Q) : T (fun k _ => F k k) Q := by
  obtain ⟨r, h1, K, h2⟩ := h
  exact ⟨r, h1, K, fun k n hk hn => h2 k k hk hk⟩
theorem T.mono {F : Nat → Nat → Option α} {P Q : α → Prop} (h : T F P) (g : ∀ r, P r → Q r) : T F Q := by
  obtain ⟨r, h1, h2⟩ := h
  exact ⟨r, g r h1, h2⟩
theorem T.of {m : Option α} {P : α → Prop} {r : α} (h : m = .some r) (hP : P r) : T (fun _ _ => m) P := ⟨r, hP,0, fun _ _ _ _ => h⟩
theorem w64i {i : Int} (h : -9223372036854775808 ≤ i ∧ i ≤ 9223372036854775807) : w64 i = i := zki h
end Go.V
namespace Go.Proofs.YtdjjeahiomackaaGreat
set_option linter.unusedVariables false
set_option linter.unusedSimpArgs false
set_option linter.unusedSectionVars false
section
open Go.RowKit Go.Sl
open Go.V (T)
theorem zcj {j : Nat} (h : j ≤ 9223372036854775806) : w64 ((j : Int) + 1) = ((j + 1 : Nat) : Int) := by
  rw [show w64 ((j : Int) + 1) = (j : Int) + 1 from zki (by omega)]; rfl
theorem foc {α : Type} {A : List α} {H : List Nat} {i : Nat} {x : α} (h : A[i]? = some x) (hn : i ∉ H) : focM A H (i : Int) = some x := by
  unfold focM
  rw [Int.toNat_natCast, show H.contains i = false from by simpa using hn, cond_false]
  unfold geti
  rw [if_pos (by omega), Int.toNat_natCast]; exact h
theorem T.foc {α β : Type} {A : List α} {H : List Nat} {i : Nat} {x : α} {G : Nat → Nat → α → Option β} {Q : β → Prop} (h : A[i]? = some x) (hn : i ∉ H) (g : T (fun k n => G k n x) Q) : T (fun k n => (focM A H (i : Int)).bind fun r => G k n r) Q := by
  rw [_root_.Go.Proofs.YtdjjeahiomackaaGreat.foc h hn]; exact g
theorem T.getN {α β : Type} {A : List α} {i : Nat} {x : α} {G : Nat → Nat → α → Option β} {Q : β → Prop} (h : A[i]? = some x) (g : T (fun k n => G k n x) Q) : T (fun k n => (geti A (i : Int)).bind fun r => G k n r) Q := by
  have e : geti A (i : Int) = some x := by unfold geti; rw [if_pos (by omega), Int.toNat_natCast]; exact h
  rw [e]; exact g
theorem w64n {i : Int} (h : -9223372036854775808 ≤ i ∧ i ≤ 9223372036854775807) : w64 i = i := zki h
theorem index_T {l : List ByteArray} {s : ByteArray} (hl : l.length ≤ 1000) : T (fun k _ => zcm k l s) fun r => 0 ≤ r ↔ s ∈ l := by
  have key : ∀ (m j : Nat), l.length - j ≤ m → T (fun _ n => zaj l s n (j : Int)) fun r => 0 ≤ r ↔ s ∈ l.drop j := by
    intro m
    induction m with
    | zero =>
      intro j h
      refine T.step ?_
      unfold zaj
      refine T.dec (fun _ => by omega) fun _ => T.some ?_
      rw [List.drop_eq_nil_of_le (by omega)]; simp
    | succ m ih =>
      intro j h
      refine T.step ?_
      unfold zaj
      refine T.dec (fun hj => ?_) fun hj => T.some ?_
      · have hj : j < l.length := by omega
        have hd := List.drop_eq_getElem_cons hj
        refine T.getN (List.getElem?_eq_getElem hj) (T.dec (fun e => T.some ⟨fun _ => by rw [hd, e]; exact List.mem_cons_self .., fun _ => by omega⟩) fun e => ?_)
        rw [zcj (by omega), hd]
        exact (ih (j + 1) (by omega)).mono fun r h => h.trans ⟨fun h => List.mem_cons_of_mem _ h, fun h => (List.mem_cons.1 h).resolve_left e⟩
      · rw [List.drop_eq_nil_of_le (by omega)]; simp
  exact T.diag (F := fun _ n => zaj l s n 0) (key _ 0 (Nat.le_refl _))
theorem in_T {l : List ByteArray} {s : ByteArray} (hl : l.length ≤ 1000) : T (fun k _ => zhn k s l) fun b => b = true ↔ s ∈ l := by
  unfold zhn zc2
  exact T.bind (P := fun b => b = true ↔ s ∈ l) (T.bind (index_T hl) fun r h => T.some (decide_eq_true_iff.trans h)) fun r h => T.some h
theorem Void_T {s : ByteArray} : T (fun k _ => zig k s) fun b => s = bs [112] → b = false := by
  unfold zig
  exact T.bind (in_T (by decide)) fun r h => T.some fun e => Bool.eq_false_iff.2 fun hx => absurd (h.1 hx) (by subst e; simp)
theorem block_T {s : ByteArray} : T (fun k _ => zif k s) fun _ => True := by
  unfold zif
  exact T.bind (in_T (by decide)) fun r h => T.some trivial
theorem zt7 {s : ByteArray} : T (fun k _ => zge k s) fun _ => True := by
  unfold zge
  exact T.bind (in_T (by decide)) fun r h => T.some trivial
theorem blanks_T {s : ByteArray} : T (fun k _ => zgg k s) fun _ => True := by
  have key : ∀ (m p : Nat), s.size - p ≤ m → T (fun _ n => zbz s n p) fun _ => True := by
    intro m
    induction m with
    | zero =>
      intro p h
      refine T.step ?_
      unfold zbz
      exact T.dec (fun _ => by omega) fun _ => T.some trivial
    | succ m ih =>
      intro p h
      refine T.step ?_
      unfold zbz
      exact T.dec (fun hp => T.bif (fun _ => T.some trivial) fun _ => ih _ (by have := zft s p; omega)) fun _ => T.some trivial
  exact T.diag (F := fun _ n => zbz s n 0) (key _ 0 (Nat.le_refl _))
structure Inv (A : List za0) : Prop where
  root : ∃ x, A[0]? = some x ∧ x.above = -1
  up : ∀ (i : Nat) x, A[i]? = some x → 0 < i → ∃ p : Nat, x.above = p ∧ p < i ∧ ∃ y, A[p]? = some y ∧ (i : Int) ∈ y.kids
  kid : ∀ (i : Nat) x, A[i]? = some x → ∀ k ∈ x.kids, ∃ c : Nat, k = c ∧ i < c ∧ ∃ z, A[c]? = some z ∧ z.above = i
  nodup : ∀ (i : Nat) x, A[i]? = some x → x.kids.Nodup ∧ x.kids.length ≤ A.length
  leaf : ∀ (i : Nat) x, A[i]? = some x → x.name = bs [] → x.kids = []
def Nmd (A : List za0) (o : List Int) : Prop := ∀ c : Nat,(c : Int) ∈ o → ∀ x, A[c]? = some x → x.name ≠ bs []
structure Opn (o : List Int) (N : Nat) : Prop where
  at_ : ∀ (j : Nat) k, o[j]? = some k → ∃ c : Nat, k = c ∧ c < N ∧ (0 < j → 0 < c)
  ne : 0 < o.length
  len : o.length ≤ N
theorem Opn.take {o : List Int} {N i : Nat} (h : Opn o N) (hi : 0 < i) : Opn (o.take i) N :=
  ⟨fun j k hj => (by
    rw [List.getElem?_take] at hj
    split at hj
    · exact h.at_ j k hj
    · cases hj), by have := h.ne; rw [List.length_take]; omega, by have := h.len; rw [List.length_take]; omega⟩
theorem Opn.grow {o : List Int} {N M : Nat} (h : Opn o N) (hM : N ≤ M) : Opn o M :=
  ⟨fun j k hj => by obtain ⟨c, h1, h2, h3⟩ := h.at_ j k hj; exact ⟨c, h1, by omega, h3⟩, h.ne, Nat.le_trans h.len hM⟩
theorem Opn.push {o : List Int} {N : Nat} (h : Opn o N) (hN : 0 < N) : Opn (o ++ [(N : Int)]) (N + 1) :=
  ⟨fun j k hj => (by
    rw [List.getElem?_append] at hj
    split at hj
    · obtain ⟨c, h1, h2, h3⟩ := h.at_ j k hj; exact ⟨c, h1, by omega, h3⟩
    · have := (List.getElem?_eq_some_iff.1 hj).1
      have e : j - o.length = 0 := by simp at this; omega
      rw [e] at hj
      cases hj
      exact ⟨N, rfl, by omega, fun _ => hN⟩), by simp, by have := h.len; simp; omega⟩
section
variable {A : List za0} {o : List Int} {b : za2}
theorem zk1 {Q : Int × za2 → Prop} (ho : Opn o A.length) (hl : A.length ≤ 1000000) (hb : b.open_ = o) (h : ∀ c : Nat, c < A.length → (c : Int) ∈ o → Q ((c : Int), b)) : T (fun k _ => zb7 k b A) Q := by
  unfold zb7
  have h1 := ho.ne
  have h2 := ho.len
  obtain ⟨c, e1, e2, _⟩ := ho.at_ (o.length - 1) _ (List.getElem?_eq_getElem (by omega))
  rw [hb, w64n (by omega), show ((o.length : Int) - 1) = ((o.length - 1 : Nat) : Int) by omega]
  refine T.getN (List.getElem?_eq_getElem (by omega)) (T.some ?_)
  rw [e1]
  exact h c e2 (e1 ▸ List.getElem_mem _)
theorem zvb (ho : Opn o A.length) (hl : A.length ≤ 1000000) (hb : b.open_ = o) {i : Int} (hi : 0 ≤ i) {s : ByteArray} : T (fun k _ => zcu k b i s A) fun r => r = -1 ∨ ∃ m : Nat, r = m ∧ 0 < m ∧ m < o.length := by
  have h1 := ho.ne
  have h2 := ho.len
  have key : ∀ (m : Nat) (y : Int), y.toNat ≤ m → -1 ≤ y → y < o.length → T (fun _ n => zb6 A b i s n y) fun r => r = -1 ∨ ∃ m : Nat, r = m ∧ 0 < m ∧ m < o.length := by
    intro m
    induction m with
    | zero =>
      intro y h g g'
      refine T.step ?_
      unfold zb6
      exact T.dec (fun _ => by omega) fun _ => T.some (.inl rfl)
    | succ m ih =>
      intro y h g g'
      refine T.step ?_
      unfold zb6
      refine T.dec (fun hy => ?_) fun _ => T.some (.inl rfl)
      obtain ⟨j, rfl⟩ : ∃ j : Nat, y = j := ⟨y.toNat, by omega⟩
      have hj : j < o.length := by omega
      obtain ⟨c, e1, e2, _⟩ := ho.at_ j _ (List.getElem?_eq_getElem hj)
      rw [hb]
      refine T.getN (List.getElem?_eq_getElem hj) ?_
      rw [e1]
      refine T.foc (List.getElem?_eq_getElem e2) (by simp) (T.dec (fun _ => T.some (.inr ⟨j, rfl, by omega, hj⟩)) fun _ => ?_)
      rw [w64n (by omega)]
      exact ih _ (by omega) (by omega) (by omega)
  unfold zcu
  rw [hb, w64n (by omega)]
  exact T.diag (F := fun _ n => zb6 A b i s n ((o.length : Int) - 1)) (key _ _ (Nat.le_refl _) (by omega) (by omega))
theorem zw7 (ho : Opn o A.length) (hl : A.length ≤ 1000000) (hb : b.open_ = o) {l : List ByteArray} (hll : l.length ≤ 1000) : T (fun k _ => zc1 k b l A) fun r => 0 ≤ r := by
  have h1 := ho.ne
  have h2 := ho.len
  have key : ∀ (m : Nat) (y : Int), y.toNat ≤ m → -1 ≤ y → y < o.length → T (fun k n => zbc k A b l n y) fun r => 0 ≤ r := by
    intro m
    induction m with
    | zero =>
      intro y h g g'
      refine T.step ?_
      unfold zbc
      exact T.dec (fun _ => by omega) fun _ => T.some (Int.le_refl 0)
    | succ m ih =>
      intro y h g g'
      refine T.step ?_
      unfold zbc
      refine T.dec (fun hy => ?_) fun _ => T.some (Int.le_refl 0)
      obtain ⟨j, rfl⟩ : ∃ j : Nat, y = j := ⟨y.toNat, by omega⟩
      have hj : j < o.length := by omega
      obtain ⟨c, e1, e2, _⟩ := ho.at_ j _ (List.getElem?_eq_getElem hj)
      rw [hb]
      refine T.getN (List.getElem?_eq_getElem hj) ?_
      rw [e1]
      refine T.foc (List.getElem?_eq_getElem e2) (by simp) (T.bind (in_T hll) fun _ _ => T.bif (fun _ => T.some (by omega)) fun _ => ?_)
      rw [w64n (by omega)]
      exact ih _ (by omega) (by omega) (by omega)
  unfold zc1
  rw [hb, w64n (by omega)]
  exact T.diag (F := fun k n => zbc k A b l n ((o.length : Int) - 1)) (key _ _ (Nat.le_refl _) (by omega) (by omega))
theorem zsp {i : Nat} (hb : b.open_ = o) (hi : i ≤ o.length) {Q : za2 → Prop} (h : Q ⟨o.take i, b.count, b.deep⟩) : T (fun k _ => zcc k b (i : Int)) Q := by
  unfold zcc
  rw [hb]
  refine T.cut (by omega) (by omega) (by omega) fun r hr _ => T.some ?_
  rw [hr]; simpa using h
theorem zlv (ho : Opn o A.length) (hl : A.length ≤ 1000000) (hb : b.open_ = o) {i : Int} (hi : 0 ≤ i) {s : ByteArray} : T (fun k _ => zat k b i s A) fun r => r.count = b.count ∧ Opn r.open_ A.length ∧ ∀ k ∈ r.open_, k ∈ o := by
  unfold zat
  refine T.bind (zvb ho hl hb hi) fun r hr => T.dec (fun h0 => ?_) fun _ => ?_
  · rcases hr with rfl | ⟨m, rfl, h1, h2⟩
    · omega
    · exact T.bind (zsp (Q := fun r => r.count = b.count ∧ Opn r.open_ A.length ∧ ∀ k ∈ r.open_, k ∈ o) hb (by omega) ⟨rfl, ho.take h1, fun _ hk => List.mem_of_mem_take hk⟩) fun r hr => T.some hr
  · unfold zbi
    exact T.some ⟨rfl, by rw [hb]; exact ho, fun k hk => by rw [← hb]; exact hk⟩
theorem zwb (ho : Opn o A.length) (hl : A.length ≤ 1000000) (hb : b.open_ = o) : T (fun k _ => zd2 k b A) fun r => r.2 = b ∧ (r.1 = -1 ∨ ∃ c : Nat, r.1 = c ∧ 0 < c ∧ c < A.length) := by
  unfold zd2
  refine T.bind (zvb ho hl hb (by omega)) fun r hr => T.dec (fun h0 => T.some ⟨rfl, .inl rfl⟩) fun h0 => ?_
  rcases hr with rfl | ⟨m, rfl, h1, h2⟩
  · omega
  · obtain ⟨c, e1, e2, e3⟩ := ho.at_ m _ (List.getElem?_eq_getElem h2)
    rw [show geti b.open_ = geti o from by rw [hb]]
    exact T.getN (List.getElem?_eq_getElem h2) (T.some ⟨rfl, .inr ⟨c, e1, e3 h1, e2⟩⟩)
end
end
section
open Go.RowKit Go.Sl
open Go.V (T)
def cont (x : za0) : ByteArray × ByteArray × List zam := (x.name, x.text, x.attrs)
theorem Inv.link {A : List za0} (h : Inv A) {q : Nat} {y nd : za0} (hq : A[q]? = some y) (hk : nd.kids = []) {ks : List Int} (hks : ∀ k, k ∈ ks ↔ k = (A.length : Int) ∨ k ∈ y.kids) (hyn : y.name ≠ bs []) (hnd : ks.Nodup) (hkl : ks.length ≤ A.length + 1) {B : List za0} (hB : B.length = A.length + 1)
    (h1 : ∀ i, i < A.length → i ≠ q → B[i]? = A[i]?) (h2 : B[q]? = some { y with kids := ks }) (h3 : B[A.length]? = some { nd with above := (q : Int) }) : Inv B := by
  have hqA := (List.getElem?_eq_some_iff.1 hq).1
  have fw : ∀ (i : Nat) (x : za0), A[i]? = some x → ∃ x' : za0, B[i]? = some x' ∧ x'.above = x.above ∧ ∀ k ∈ x.kids, k ∈ x'.kids := fun i x hx => by
    have hi := (List.getElem?_eq_some_iff.1 hx).1
    by_cases e : i = q
    · subst e
      rw [hq] at hx; cases hx
      exact ⟨_, h2, rfl, fun k hk => (hks k).2 (.inr hk)⟩
    · exact ⟨x, by rw [h1 i hi e]; exact hx, rfl, fun _ h => h⟩
  have bw : ∀ (i : Nat) (x' : za0), B[i]? = some x' → (i = A.length ∧ x' = { nd with above := (q : Int) }) ∨ (i = q ∧ x' = { y with kids := ks }) ∨ (i ≠ q ∧ A[i]? = some x') := fun i x' hx => by
    have hi := (List.getElem?_eq_some_iff.1 hx).1
    by_cases e : i = A.length
    · subst e; rw [h3] at hx; exact .inl ⟨rfl,(Option.some.inj hx).symm⟩
    · by_cases e2 : i = q
      · subst e2; rw [h2] at hx; exact .inr (.inl ⟨rfl,(Option.some.inj hx).symm⟩)
      · exact .inr (.inr ⟨e2, by rw [← h1 i (by omega) e2]; exact hx⟩)
  have up : ∀ i (x : za0), A[i]? = some x → 0 < i → ∃ p : Nat, x.above = p ∧ p < i ∧ ∃ y, B[p]? = some y ∧ (i : Int) ∈ y.kids := fun i x hx hi => by
    obtain ⟨p, e1, e2, z, e3, e4⟩ := h.up i x hx hi
    obtain ⟨z', g1, _, g3⟩ := fw p z e3
    exact ⟨p, e1, e2, z', g1, g3 _ e4⟩
  have kid : ∀ i (x : za0), A[i]? = some x → ∀ k ∈ x.kids, ∃ c : Nat, k = c ∧ i < c ∧ ∃ z, B[c]? = some z ∧ z.above = i := fun i x hx k hk => by
    obtain ⟨c, e1, e2, z, e3, e4⟩ := h.kid i x hx k hk
    obtain ⟨z', g1, g2, _⟩ := fw c z e3
    exact ⟨c, e1, e2, z', g1, by rw [g2, e4]⟩
  refine ⟨?_, fun i x hx hi => ?_, fun i x hx k hkk => ?_, fun i x hx => ?_, fun i x hx hn => ?_⟩
  · obtain ⟨x, g1, g2⟩ := h.root
    obtain ⟨x', e1, e2, _⟩ := fw 0 x g1
    exact ⟨x', e1, by rw [e2, g2]⟩
  · rcases bw i x hx with ⟨rfl, rfl⟩ | ⟨rfl, rfl⟩ | ⟨_, g⟩
    · exact ⟨q, rfl, hqA, _, h2,(hks _).2 (.inl rfl)⟩
    · exact up i y hq hi
    · exact up i x g hi
  · rcases bw i x hx with ⟨rfl, rfl⟩ | ⟨rfl, rfl⟩ | ⟨_, g⟩
    · have hkk : k ∈ nd.kids := hkk
      rw [hk] at hkk; cases hkk
    · rcases (hks k).1 hkk with rfl | hkk
      · exact ⟨A.length, rfl, hqA, _, h3, rfl⟩
      · exact kid i y hq k hkk
    · exact kid i x g k hkk
  · rcases bw i x hx with ⟨rfl, rfl⟩ | ⟨rfl, rfl⟩ | ⟨_, g⟩
    · show nd.kids.Nodup ∧ nd.kids.length ≤ _
      rw [hk]; simp
    · exact ⟨hnd, by show ks.length ≤ _; omega⟩
    · have := h.nodup i x g; exact ⟨this.1, by omega⟩
  · rcases bw i x hx with ⟨rfl, rfl⟩ | ⟨rfl, rfl⟩ | ⟨_, g⟩
    · exact hk
    · exact absurd hn hyn
    · exact h.leaf i x g hn
theorem zti {A : List za0} {i : Nat} {x y : za0} (h : A[i]? = some x) (hc : cont y = cont x) : (A.set i y).map cont = A.map cont := by
  apply List.ext_getElem?
  intro j
  rw [List.getElem?_map, List.getElem?_map, List.getElem?_set]
  split
  · rename_i e; subst e
    rw [if_pos (List.getElem?_eq_some_iff.1 h).1, h]; simp [hc]
  · rfl
section
variable {A : List za0} {o : List Int} {b : za2} {nd : za0}
theorem zvs {B : List za0} (hI : Inv B) {y6 : List Int} {y11 : Int} {y12 : Bool} {i : Nat} (hi : i < B.length) : T (fun k _ => zc4 k (i : Int) y6 y11 y12 B) fun r => r.1.open_ = y6 ∧ r.1.count = w64 (y11 + 1) ∧ r.2 = B := by
  have fin : ∀ z, T (fun _ _ => zdh y6 y11 y12 B z) fun r => r.1.open_ = y6 ∧ r.1.count = w64 (y11 + 1) ∧ r.2 = B := fun z => by
    unfold zdh zdg
    exact T.bif (fun _ => T.some ⟨rfl, rfl, rfl⟩) fun _ => T.some ⟨rfl, rfl, rfl⟩
  have key : ∀ (m i : Nat) (z : Int), i ≤ m → i < B.length → T (fun _ n => zb5 y6 y11 y12 B n z (i : Int)) fun r => r.1.open_ = y6 ∧ r.1.count = w64 (y11 + 1) ∧ r.2 = B := by
    intro m
    induction m with
    | zero =>
      intro i z h hi
      obtain rfl : i = 0 := by omega
      refine T.step ?_
      unfold zb5
      obtain ⟨x, g1, g2⟩ := hI.root
      refine T.bif (fun _ => T.foc g1 (by simp) ?_) fun h => absurd h (by simp)
      rw [g2]
      refine T.step ?_
      unfold zb5
      exact T.bif (fun h => absurd h (by simp)) fun _ => fin _
    | succ m ih =>
      intro i z h hi
      by_cases h0 : i = 0
      · subst h0; exact ih 0 z (by omega) hi
      refine T.step ?_
      unfold zb5
      obtain ⟨p, e1, e2, _⟩ := hI.up i _ (List.getElem?_eq_getElem hi) (by omega)
      refine T.bif (fun _ => T.foc (List.getElem?_eq_getElem hi) (by simp) ?_) fun h => absurd h (by simp <;> omega)
      rw [e1]
      exact ih p _ (by omega) (by omega)
  unfold zc4
  exact T.diag (F := fun _ n => zb5 y6 y11 y12 B n 0 (i : Int)) (key i i 0 (Nat.le_refl _) hi)
theorem zvh {l : List Int} {x : Int} (hx : x ∈ l) (hl : l.length ≤ 10000000) : ∃ m : Nat, m < l.length ∧ idxP l x = some (m : Int) := by
  have key : ∀ (e j : Nat), j + e = l.length → x ∈ l.drop j → ∃ m : Nat, m < l.length ∧ zbr l x (e + 1) (j : Int) = some (m : Int) := by
    intro e
    induction e with
    | zero => intro j h hx; rw [List.drop_eq_nil_of_le (by omega)] at hx; cases hx
    | succ e ih =>
      intro j h hx
      have hj : j < l.length := by omega
      rw [List.drop_eq_getElem_cons hj] at hx
      rw [zbr, show decide ((j : Int) < (l.length : Int)) = true from by simpa using hj, cond_true, show geti l (j : Int) = some l[j] from by unfold geti; rw [if_pos (by omega), Int.toNat_natCast, List.getElem?_eq_getElem hj], Option.bind_some]
      by_cases hq : x = l[j]
      · exact ⟨j, hj, by rw [show decide (x = l[j]) = true from decide_eq_true hq, cond_true]⟩
      · obtain ⟨m, g1, g2⟩ := ih (j + 1) (by omega) ((List.mem_cons.1 hx).resolve_left hq)
        exact ⟨m, g1, by rw [show decide (x = l[j]) = false from decide_eq_false hq, cond_false, zcj (by omega)]; exact g2⟩
  exact key l.length 0 (by omega) hx
theorem ins_n {l : List Int} {m : Nat} (hm : m < l.length) (hl : l.length ≤ 10000000) (x : Int) : insM l (m : Int) x = some (l.take m ++ x :: l.drop m) := by
  unfold insM
  rw [show decide (0 ≤ (m : Int) ∧ (m : Int) < l.length ∧ (l.length + 1) * 8 ≤ 140737488355328) = true from decide_eq_true ⟨by omega, by omega, by omega⟩, cond_true, Int.toNat_natCast]
theorem ins_perm (l : List Int) (m : Nat) (x : Int) : (l.take m ++ x :: l.drop m).Perm (x :: l) := by
  refine List.perm_middle.trans (.cons x ?_)
  rw [List.take_append_drop]
def PutQ (A : List za0) (nd : za0) (o : List Int) (c : Int) (r : za2 × List za0) : Prop := r.1.open_ = o ∧ r.1.count = w64 (c + 1) ∧ Inv r.2 ∧ r.2.length = A.length + 1 ∧ r.2.map cont = (A ++ [nd]).map cont
theorem put_T (hI : Inv A) (hN : Nmd A o) (ho : Opn o A.length) (hl : A.length ≤ 1000000) (hb : b.open_ = o) (hk : nd.kids = []) {t : Int} (ht : t = -1 ∨ ∃ c : Nat, t = c ∧ 0 < c ∧ c < A.length) : T (fun k _ => zdp k b (A.length : Int) t (A ++ [nd])) (PutQ A nd o b.count) := by
  have old : ∀ {i : Nat} {x : za0}, A[i]? = some x → (A ++ [nd])[i]? = some x := fun {i x} h => by
    rw [List.getElem?_append_left (List.getElem?_eq_some_iff.1 h).1]; exact h
  have new : (A ++ [nd])[A.length]? = some nd := by simp
  have fresh : ∀ {q : Nat} {y : za0}, A[q]? = some y → (A.length : Int) ∉ y.kids := fun {q y} hq hm => by
    obtain ⟨c, e1, _, z, e3, _⟩ := hI.kid q y hq _ hm
    have := (List.getElem?_eq_some_iff.1 e3).1
    omega
  have close : ∀ {q : Nat} {y : za0} {ks : List Int} (hq : A[q]? = some y) (hyn : y.name ≠ bs []) (hp : ks.Perm ((A.length : Int) :: y.kids)) {B : List za0} (hB : B = ((A ++ [nd]).set q { y with kids := ks }).set A.length { nd with above := (q : Int) }), Inv B ∧ B.length = A.length + 1 ∧ B.map cont = (A ++ [nd]).map cont := fun {q y ks} hq hyn hp {B} hB => by
    have hqA := (List.getElem?_eq_some_iff.1 hq).1
    have hn := hI.nodup q y hq
    have hlB : B.length = A.length + 1 := by rw [hB]; simp
    have e2 : B[q]? = some { y with kids := ks } := by rw [hB, List.getElem?_set_ne (by omega)]; exact List.getElem?_set_self (by simp; omega)
    have e3 : B[A.length]? = some { nd with above := (q : Int) } := by rw [hB]; exact List.getElem?_set_self (by simp)
    refine ⟨hI.link hq hk (fun k => by rw [hp.mem_iff, List.mem_cons]) hyn (hp.nodup_iff.2 (List.nodup_cons.2 ⟨fresh hq, hn.1⟩)) (by rw [hp.length_eq, List.length_cons]; omega) hlB (fun i hi hne => ?_) e2 e3, hlB, ?_⟩
    · rw [hB, List.getElem?_set_ne (by omega), List.getElem?_set_ne (by omega), List.getElem?_append_left hi]
    · rw [hB, zti (x := nd) (y := { nd with above := (q : Int) }) (by rw [List.getElem?_set_ne (by omega)]; exact new) rfl, zti (y := { y with kids := ks }) (old hq) rfl]
  unfold zdp
  rcases ht with rfl | ⟨c, rfl, hc0, hcA⟩
  · refine T.dec (fun _ => T.bind (zk1 (Q := fun r => ∃ c : Nat, c < A.length ∧ (c : Int) ∈ o ∧ r = ((c : Int), b)) (A := A) ho hl hb fun c hc ho => ⟨c, hc, ho, rfl⟩) fun r hr => ?_) fun h => absurd rfl h
    obtain ⟨c, hc, hco, rfl⟩ := hr
    have hcc := List.getElem?_eq_getElem hc
    have hn := hI.nodup c _ hcc
    refine T.foc new (by simp) (T.foc (old hcc) (by simp; omega) (T.app (by simp; omega) (by simp; omega) ?_))
    obtain ⟨k1, k2, k3⟩ := close (ks := A[c].kids ++ [(A.length : Int)]) hcc (hN c hco _ hcc) (List.perm_append_comm) rfl
    refine (zvs k1 (by rw [k2]; omega)).mono fun r h => ⟨h.1.trans hb, h.2.1, by rw [h.2.2]; exact k1, by rw [h.2.2]; exact k2, by rw [h.2.2]; exact k3⟩
  · refine T.dec (fun h => by omega) fun _ => ?_
    have hcc := List.getElem?_eq_getElem hcA
    obtain ⟨p, e1, e2, y, e3, e4⟩ := hI.up c _ hcc hc0
    have hn := hI.nodup p y e3
    refine T.foc (old hcc) (by simp) (T.foc new (by simp; omega) ?_)
    rw [e1]
    refine T.foc (old e3) (by simp; omega) ?_
    obtain ⟨m, g1, g2⟩ := zvh e4 (by omega)
    rw [g2]
    show T (fun k n => (insM y.kids (m : Int) (A.length : Int)).bind _) _
    rw [ins_n g1 (by omega)]
    obtain ⟨k1, k2, k3⟩ := close (ks := y.kids.take m ++ (A.length : Int) :: y.kids.drop m) e3 (fun e => by rw [hI.leaf p y e3 e] at e4; cases e4) (ins_perm _ _ _) rfl
    have hB : (((A ++ [nd]).set p { y with kids := y.kids.take m ++ (A.length : Int) :: y.kids.drop m }).set A.length { nd with above := (p : Int) }).set c A[c] = ((A ++ [nd]).set p { y with kids := y.kids.take m ++ (A.length : Int) :: y.kids.drop m }).set A.length { nd with above := (p : Int) } := by
      apply List.ext_getElem?
      intro j
      rw [List.getElem?_set]
      split
      · rename_i e; subst e
        rw [if_pos (by simp; omega), List.getElem?_set_ne (by omega), List.getElem?_set_ne (by omega)]
        exact (old hcc).symm
      · rfl
    show T (fun k _ => zc4 k (A.length : Int) b.open_ b.count b.deep ((((A ++ [nd]).set p { y with kids := y.kids.take m ++ (A.length : Int) :: y.kids.drop m }).set A.length { nd with above := (p : Int) }).set c A[c])) _
    rw [hB]
    exact (zvs k1 (by rw [k2]; omega)).mono fun r h => ⟨h.1.trans hb, h.2.1, by rw [h.2.2]; exact k1, by rw [h.2.2]; exact k2, by rw [h.2.2]; exact k3⟩
end
end
section
open Go.RowKit Go.Sl
open Go.V (T)
theorem T.self {α : Type} {F : Nat → Nat → Option α} {Q : α → Prop} (h : T F Q) : T F fun r => Q r ∧ ∃ k n, F k n = some r := by
  obtain ⟨r, h1, K, h2⟩ := h
  exact ⟨r, ⟨h1, K, K, h2 K K (Nat.le_refl _) (Nat.le_refl _)⟩, K, h2⟩
abbrev Ct := ByteArray × ByteArray × List zam
structure Bd (b : za2) (A : List za0) : Prop where
  inv : Inv A
  opn : Opn b.open_ A.length
  cnt : b.count = (A.length : Int)
  att : ∀ x ∈ A, x.attrs.length ≤ 1000000
  nam : Nmd A b.open_
theorem Nmd.of {A B : List za0} {o : List Int} {l : List Ct} (h : Nmd A o) (ho : Opn o A.length) (hc : B.map cont = A.map cont ++ l) : Nmd B o := fun c hk x hx e => by
  obtain ⟨j, hj⟩ := List.getElem?_of_mem hk
  obtain ⟨d, e1, e2, _⟩ := ho.at_ j _ hj
  obtain rfl : c = d := by omega
  have h1 : (B.map cont)[c]? = some (cont x) := by rw [List.getElem?_map, hx]; rfl
  rw [hc, List.getElem?_append_left (by simpa using e2), List.getElem?_map, List.getElem?_eq_getElem e2] at h1
  have h2 : A[c].name = x.name := congrArg (fun z : Ct => z.1) (Option.some.inj h1)
  exact h c hk _ (List.getElem?_eq_getElem e2) (h2.trans e)
theorem att_of {A B : List za0} {l : List Ct} (h : ∀ x ∈ A, x.attrs.length ≤ 1000000) (hl : ∀ y ∈ l, y.2.2.length ≤ 1000000) (hc : B.map cont = A.map cont ++ l) : ∀ x ∈ B, x.attrs.length ≤ 1000000 := fun x hx => by
  have : cont x ∈ A.map cont ++ l := by rw [← hc]; exact List.mem_map_of_mem hx
  rcases List.mem_append.1 this with h1 | h1
  · obtain ⟨y, hy, e⟩ := List.mem_map.1 h1
    have e2 : y.attrs = x.attrs := congrArg (fun z : Ct => z.2.2) e
    rw [← e2]; exact h y hy
  · exact hl _ h1
def Puts (A B : List za0) (m : Nat) (N : ByteArray → Prop) : Prop := ∃ l : List Ct, B.map cont = A.map cont ++ l ∧ l.length ≤ m ∧ ∀ y ∈ l, y.2.1 = bs [] ∧ y.2.2.length ≤ 1000000 ∧ N y.1
theorem Puts.nil {A : List za0} {m : Nat} {N : ByteArray → Prop} : Puts A A m N := ⟨[], by simp, by simp, by simp⟩
theorem Puts.trans {A B C : List za0} {m k j : Nat} {N : ByteArray → Prop} (h : Puts A B m N) (g : Puts B C k N) (hj : m + k ≤ j) : Puts A C j N := by
  obtain ⟨l, h1, h2, h3⟩ := h
  obtain ⟨l', g1, g2, g3⟩ := g
  refine ⟨l ++ l', by rw [g1, h1, List.append_assoc], by simp; omega, fun y hy => ?_⟩
  rcases List.mem_append.1 hy with hy | hy
  · exact h3 y hy
  · exact g3 y hy
theorem Puts.mono {A B : List za0} {m k : Nat} {N M : ByteArray → Prop} (h : Puts A B m N) (hm : m ≤ k) (hN : ∀ s, N s → M s) : Puts A B k M := by
  obtain ⟨l, h1, h2, h3⟩ := h
  exact ⟨l, h1, by omega, fun y hy => ⟨(h3 y hy).1,(h3 y hy).2.1, hN _ (h3 y hy).2.2⟩⟩
theorem Puts.len {A B : List za0} {m : Nat} {N : ByteArray → Prop} (h : Puts A B m N) : A.length ≤ B.length ∧ B.length ≤ A.length + m := by
  obtain ⟨l, h1, h2, _⟩ := h
  have := congrArg List.length h1
  simp at this
  omega
theorem Puts.att {A B : List za0} {m : Nat} {N : ByteArray → Prop} (h : Puts A B m N) (ha : ∀ x ∈ A, x.attrs.length ≤ 1000000) : ∀ x ∈ B, x.attrs.length ≤ 1000000 := by
  obtain ⟨l, h1, h2, h3⟩ := h
  exact att_of ha (fun y hy => (h3 y hy).2.1) h1
def Has1 (A B : List za0) (s : ByteArray) : Prop := ∃ l : List Ct, B.map cont = A.map cont ++ l ∧ ∃ y ∈ l, y.1 = s
section
variable {A : List za0} {b : za2} {s : ByteArray} {at_ : List zam}
def ElQ (A : List za0) (b : za2) (s : ByteArray) (r : za2 × List za0) : Prop := Bd r.1 r.2 ∧ Puts A r.2 1 (· = s) ∧ Has1 A r.2 s ∧ b.open_.length ≤ r.1.open_.length ∧ (s = bs [112] → r.1.open_.length = b.open_.length + 1)
theorem zp1 (hs : s ≠ bs []) (h : Bd b A) (hl : A.length ≤ 100000) (ha : at_.length ≤ 1000000) {t : Int} (ht : t = -1 ∨ ∃ c : Nat, t = c ∧ 0 < c ∧ c < A.length) : T (fun k _ => zbo k A s at_ b.open_ b.count b.deep t) (ElQ A b s) := by
  unfold zbo zgz
  refine T.app (by simp; omega) (by simp; omega) ?_
  refine T.bind (put_T (nd := { name := s, text := bs [], attrs := [] ++ at_, above := -1, kids := [] }) h.inv h.nam h.opn (by omega) (b := ⟨b.open_, b.count, b.deep⟩) rfl rfl ht) fun r hr => T.bind Void_T fun v hv => ?_
  obtain ⟨h1, h2, h3, h4, h5⟩ := hr
  have hc : w64 (b.count + 1) = (r.2.length : Int) := by rw [h.cnt, w64n (by omega), h4]; rfl
  have hp : Puts A r.2 1 (· = s) := ⟨[(s, bs [], at_)], by rw [h5, List.map_append]; rfl, by simp, fun y hy => by rw [List.mem_singleton.1 hy]; exact ⟨rfl, ha, rfl⟩⟩
  have hh : Has1 A r.2 s := ⟨[(s, bs [], at_)], by rw [h5, List.map_append]; rfl, _, List.mem_singleton.2 rfl, rfl⟩
  have hat := hp.att h.att
  have h5' : r.2.map cont = A.map cont ++ [(s, bs [], at_)] := by rw [h5, List.map_append]; rfl
  have hnm : Nmd r.2 b.open_ := h.nam.of h.opn h5'
  have hol := h.opn.len
  refine T.bif (fun _ => ?_) fun hv' => ?_
  · rw [h1]
    refine T.app (by simp; omega) (by simp; omega) ?_
    unfold zbn
    refine T.some ⟨⟨h3, ?_, h2.trans hc, hat, fun c hk x hx => ?_⟩, hp, hh, by simp, fun _ => by simp⟩
    · rw [h4]
      exact h.opn.push (by have := h.opn.ne; omega)
    · rcases List.mem_append.1 hk with hk | hk
      · exact hnm c hk x hx
      · obtain rfl : c = A.length := by have := List.mem_singleton.1 hk; omega
        have h1 : (r.2.map cont)[A.length]? = some (cont x) := by rw [List.getElem?_map, hx]; rfl
        rw [h5', List.getElem?_append_right (by simp)] at h1
        have h2 : (s, bs [], at_) = cont x := by simpa using h1
        have h2 : s = x.name := congrArg (fun z : Ct => z.1) h2
        rw [← h2]; exact hs
  · unfold zbn
    refine T.some ⟨⟨h3, ?_, h2.trans hc, hat, by show Nmd r.2 r.1.open_; rw [h1]; exact hnm⟩, hp, hh, by rw [h1]; exact Nat.le_refl _, fun e => ?_⟩
    · show Opn r.1.open_ r.2.length
      rw [h1, h4]; exact h.opn.grow (by omega)
    · rw [hv e] at hv'; cases hv'
theorem zio (hs : s ≠ bs []) (h : Bd b A) (hl : A.length ≤ 100000) (ha : at_.length ≤ 1000000) {x : Int × za2} (hx : x.2 = b) {y : Bool} : T (fun k _ => zax k A s at_ x y) (ElQ A b s) := by
  unfold zax
  rw [hx]
  refine T.bif (fun _ => T.bind (zwb h.opn (by omega) rfl) fun r hr => ?_) fun _ => zp1 hs h hl ha (.inl rfl)
  rw [hr.1]
  exact zp1 hs h hl ha hr.2
theorem zo0 (hs : s ≠ bs []) (h : Bd b A) (hl : A.length ≤ 100000) (ha : at_.length ≤ 1000000) : T (fun k _ => zbq k b s at_ A) (ElQ A b s) := by
  unfold zbq
  refine T.bind (zk1 (Q := fun r => ∃ c : Nat, c < A.length ∧ r = ((c : Int), b)) h.opn (by omega) rfl fun c hc _ => ⟨c, hc, rfl⟩) fun r hr => ?_
  obtain ⟨c, hc, rfl⟩ := hr
  refine T.foc (List.getElem?_eq_getElem hc) (by simp) (T.dec (fun _ => T.bind (in_T (by decide)) fun _ _ => T.bif (fun _ => zio hs h hl ha rfl) fun _ => T.dec (fun _ => zio hs h hl ha rfl) fun _ => zio hs h hl ha rfl) fun _ => T.dec (fun _ => zio hs h hl ha rfl) fun _ => zio hs h hl ha rfl)
def OpQ (A : List za0) (s : ByteArray) (r : za2 × List za0) : Prop := Bd r.1 r.2 ∧ Puts A r.2 2 (fun z => z = s ∨ z = bs [116,114]) ∧ Has1 A r.2 s ∧ (s = bs [112] → 2 ≤ r.1.open_.length)
theorem zjr {B : List za0} (hs : s ≠ bs []) (hP : Puts A B 1 (fun z => z = s ∨ z = bs [116,114])) (h : Bd b B) (hl : B.length ≤ 100000) (ha : at_.length ≤ 1000000) : T (fun k _ => zbv k s at_ b.open_ b.count b.deep B) (OpQ A s) := by
  unfold zbv
  refine T.bind (zo0 (b := ⟨b.open_, b.count, b.deep⟩) hs h hl ha) fun r hr => T.some ?_
  obtain ⟨h1, h2, h3, h4, h5⟩ := hr
  refine ⟨h1, hP.trans (h2.mono (Nat.le_refl _) fun _ e => .inl e) (Nat.le_refl _), ?_, fun e => ?_⟩
  · obtain ⟨l, e1, _⟩ := hP
    obtain ⟨l', g1, y, g2, g3⟩ := h3
    exact ⟨l ++ l', by rw [g1, e1, List.append_assoc], y, List.mem_append_right _ g2, g3⟩
  · have := h5 e
    have h6 : 0 < b.open_.length := h.opn.ne
    have h7 : r.1.open_.length = b.open_.length + 1 := this
    show 2 ≤ r.1.open_.length
    omega
theorem Bd.open {b b' : za2} (h : Bd b A) (hc : b'.count = b.count) (ho : Opn b'.open_ A.length ∧ ∀ k ∈ b'.open_, k ∈ b.open_) : Bd b' A := ⟨h.inv, ho.1, hc.trans h.cnt, h.att, fun c hk => h.nam c (ho.2 _ hk)⟩
theorem zr2 (hs : s ≠ bs []) (h : Bd b A) (hl : A.length ≤ 90000) (ha : at_.length ≤ 1000000) : T (fun k _ => zbw k A s at_ b.open_ b.count b.deep) (OpQ A s) := by
  unfold zbw zcn zco zcp
  have cb : ∀ {i : Int} {z : ByteArray} {G : Nat → Nat → za2 → Option (za2 × List za0)} (_ : 0 ≤ i) (_ : ∀ r, Bd r A → T (fun k n => G k n r) (OpQ A s)), T (fun k n => (zat k ⟨b.open_, b.count, b.deep⟩ i z A).bind fun r => G k n r) (OpQ A s) := fun hi g =>
    T.bind (zlv (b := ⟨b.open_, b.count, b.deep⟩) h.opn (by omega) rfl hi) fun r hr => g r (h.open hr.1 hr.2)
  refine T.dec (fun _ => T.bind (zw7 (b := ⟨b.open_, b.count, b.deep⟩) h.opn (by omega) rfl (by decide)) fun _ hi => cb hi fun r hr => zjr hs .nil hr (by omega) ha) fun _ =>
    T.dec (fun _ => T.bind (zw7 (b := ⟨b.open_, b.count, b.deep⟩) h.opn (by omega) rfl (by decide)) fun _ hi => cb hi fun r hr => zjr hs .nil hr (by omega) ha) fun _ =>
    T.dec (fun _ => T.bind (zw7 (b := ⟨b.open_, b.count, b.deep⟩) h.opn (by omega) rfl (by decide)) fun _ hi => cb hi fun r hr => ?_) fun _ => zjr hs .nil h (by omega) ha
  refine T.bind (zk1 (Q := fun z => ∃ c : Nat, c < A.length ∧ z = ((c : Int), r)) hr.opn (by omega) rfl fun c hc _ => ⟨c, hc, rfl⟩) fun z hz => ?_
  obtain ⟨c, hc, rfl⟩ := hz
  refine T.foc (List.getElem?_eq_getElem hc) (by simp) (T.dec (fun _ => T.bind (zo0 (by decide) hr (by omega) (by simp)) fun q hq => ?_) fun _ => zjr hs .nil hr (by omega) ha)
  have hp : Puts A q.2 1 (fun z => z = s ∨ z = bs [116,114]) := hq.2.1.mono (Nat.le_refl _) fun _ e => .inr e
  exact zjr hs hp hq.1 (by have := hp.len; omega) ha
theorem zt1 (hs : s ≠ bs []) (h : Bd b A) (hl : A.length ≤ 90000) (ha : at_.length ≤ 1000000) : T (fun k _ => zct k b s at_ A) (OpQ A s) := by
  unfold zct
  refine T.bind block_T fun _ _ => T.bif (fun _ => T.bind (zw7 h.opn (by omega) rfl (by decide)) fun _ hi => T.bind (zlv h.opn (by omega) rfl hi) fun r hr => zr2 hs (h.open hr.1 hr.2) hl ha) fun _ => zr2 hs h hl ha
end
end
end Go.Proofs.YtdjjeahiomackaaGreat
