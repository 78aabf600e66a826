/-
  Walks and laws of this seat.
-/
import Derived.Test.YtdjjeahiomackaaGreatQb
import Derived.Test.YtdjjeahiomackaaGreatL6kc
namespace Go.V
set_option linter.unusedVariables false
set_option linter.unusedSimpArgs false
set_option linter.unusedSectionVars false
section
open Go.RowKit Go.Sl
open Go.Proofs.YtdjjeahiomackaaGreat (T.getN T.addT zbz w64n T.set T.rep zah zab ziw zdi zh6 ofN ofT)
theorem attBeq (x : AttT) : cAttT.beq x x = true := by
  simp [TC.beq, TL.beq]
theorem Same_T {a b : List AttT} (hb : b.length ≤ 1000000000) : T (fun k _ => zbk k a b) fun r => a = b → r = true := by
  unfold zbk zfl
  refine T.dec (fun h => T.some fun e => absurd (by rw [e]) h) fun h => ?_
  have hl : a.length = b.length := by omega
  have key : ∀ (m j : Nat), a.length - j ≤ m → T (fun _ n => zby n a b (j : Int)) fun r => a = b → r = true := by
    intro m
    induction m with
    | zero =>
      intro j h
      refine T.step ?_
      unfold zby
      exact T.dec (fun _ => by omega) fun _ => T.some fun _ => rfl
    | succ m ih =>
      intro j h
      refine T.step ?_
      unfold zby
      refine T.dec (fun hj => ?_) fun _ => T.some fun _ => rfl
      have h1 : j < a.length := by omega
      have h2 : j < b.length := by omega
      refine T.getN (List.getElem?_eq_getElem h1) (T.getN (List.getElem?_eq_getElem h2) (T.bif (fun hb => T.some fun e => ?_) fun _ => ?_))
      · subst e
        rw [attBeq] at hb; cases hb
      · rw [zbz (by omega)]
        exact ih (j + 1) (by omega)
  exact T.diag (F := fun _ n => zby n a b 0) (key _ 0 (Nat.le_refl _))
theorem ztl {x : NodT} (hx : x.2.2.2.1.length ≤ 1000000) : T (fun k _ => zgg k x x) (· = true) := by
  unfold zgg
  refine T.dec (fun _ => ?_) fun h => absurd rfl h
  refine T.dec (fun _ => ?_) fun h => absurd rfl h
  refine T.dec (fun _ => ?_) fun h => absurd rfl h
  refine T.bind (Same_T (by omega)) fun r hr => T.bif (fun _ => ?_) fun h => absurd (hr rfl) (by rw [h]; simp)
  refine T.dec (fun _ => ?_) fun h => absurd rfl h
  refine T.dec (fun _ => ?_) fun h => absurd rfl h
  refine T.dec (fun _ => ?_) fun h => absurd rfl h
  refine T.dec (fun _ => ?_) fun h => absurd rfl h
  exact T.some (decide_eq_true rfl)
theorem SameTree_T {t : TreT} (hl : t.1.length ≤ 1000000) (ha : ∀ x ∈ t.1, x.2.2.2.1.length ≤ 1000000) : T (fun k _ => zfc k t t) (· = true) := by
  unfold zfc zi3
  refine T.dec (fun h => absurd rfl h) fun _ => ?_
  have key : ∀ (m j : Nat), t.1.length - j ≤ m → T (fun k n => zds k n t t (j : Int)) (· = true) := by
    intro m
    induction m with
    | zero =>
      intro j h
      refine T.step ?_
      unfold zds
      exact T.dec (fun _ => by omega) fun _ => T.some rfl
    | succ m ih =>
      intro j h
      refine T.step ?_
      unfold zds
      refine T.dec (fun hj => ?_) fun _ => T.some rfl
      have h1 : j < t.1.length := by omega
      refine T.getN (List.getElem?_eq_getElem h1) (T.getN (List.getElem?_eq_getElem h1) (T.bind (ztl (ha _ (List.getElem_mem h1))) fun r hr => T.bif (fun h => ?_) fun _ => ?_))
      · rw [hr] at h; cases h
      · rw [zbz (by omega)]
        exact ih (j + 1) (by omega)
  exact T.diag (F := fun k n => zds k n t t 0) (key _ 0 (Nat.le_refl _))
theorem Copy_T {t : zab} (hl : t.Nodes.length ≤ 1000000) (ha : ∀ x ∈ t.Nodes, x.Attrs.length ≤ 1000000) : T (fun k _ => ziw k t) (· = t) := by
  unfold ziw
  refine T.rep (by omega) (by omega) ?_
  have key : ∀ (m j : Nat) (y : List zah), t.Nodes.length - j ≤ m → j ≤ t.Nodes.length → y.length = t.Nodes.length → y.take j = t.Nodes.take j → T (fun _ n => zdi t n y (j : Int)) (· = t) := by
    have fin : ∀ (j : Nat) (y : List zah), t.Nodes.length ≤ j → y.length = t.Nodes.length → y.take j = t.Nodes.take j → T (fun _ _ => zh6 y) (· = t) := fun j y h h1 h2 => by
      rw [List.take_of_length_le (by omega), List.take_of_length_le (by omega)] at h2
      subst h2
      exact T.some rfl
    intro m
    induction m with
    | zero =>
      intro j y h hj h1 h2
      refine T.step ?_
      unfold zdi
      exact T.dec (fun _ => by omega) fun _ => fin j y (by omega) h1 h2
    | succ m ih =>
      intro j y h hj h1 h2
      refine T.step ?_
      unfold zdi
      refine T.dec (fun hj => ?_) fun _ => fin j y (by omega) h1 h2
      have g1 : j < t.Nodes.length := by omega
      have g2 : j < y.length := by omega
      have hx := ha _ (List.getElem_mem g1)
      have g3 : (y.set j t.Nodes[j])[j]? = some t.Nodes[j] := List.getElem?_set_self g2
      refine T.getN (List.getElem?_eq_getElem g1) (T.getN (List.getElem?_eq_getElem g2) (T.set g2 (T.getN (List.getElem?_eq_getElem g1) (T.app (by simp; omega) (by simp; omega) (T.getN g3 (T.set (by simpa using g2) ?_))))))
      rw [zbz (by omega), List.nil_append]
      refine ih (j + 1) _ (by omega) (by omega) (by simpa using h1) ?_
      rw [List.set_set, List.take_add_one, List.take_add_one, List.take_set, List.getElem?_set_self g2, List.getElem?_eq_getElem g1, List.set_eq_of_length_le (by rw [List.length_take]; exact Nat.min_le_left _ _), h2]
  exact T.diag (F := fun _ n => zdi t n _ 0) (key _ 0 _ (Nat.le_refl _) (Nat.zero_le _) (by simp) rfl)
end
section
open Go.RowKit Go.Sl
open Go.Proofs.YtdjjeahiomackaaGreat (T.getN T.addT zbz w64n T.set T.rep)
theorem zu5 {s : ByteArray} {b : Bool} (hs : s.size ≤ 1000000000) : T (fun k _ => zk1 k s b) fun r => r.size ≤ 6 * s.size := by
  have key : ∀ (m p j : Nat) (v : ByteArray), s.size - p ≤ m → j ≤ p → j ≤ s.size → v.size ≤ 6 * j → T (fun _ n => zd0 n b v (s, p)) fun r => r.size ≤ 6 * s.size := by
    intro m
    induction m with
    | zero =>
      intro p j v h h1 h2 h3
      refine T.step ?_
      unfold zd0
      exact T.dec (fun h => by simp only at h; omega) fun _ => T.some (by omega)
    | succ m ih =>
      intro p j v h h1 h2 h3
      refine T.step ?_
      unfold zd0
      refine T.dec (fun hp => ?_) fun _ => T.some (by omega)
      have hp : p < s.size := hp
      have hd := zmt s p
      have nx : ∀ t : ByteArray, t.size ≤ 6 → T (fun _ n => (addS v t).bind fun r => zd0 n b r (s, p + (Utf8.decode s p).2)) fun r => r.size ≤ 6 * s.size := fun t ht =>
        T.addT (by omega) (ih _ (j + 1) _ (by omega) (by omega) (by omega) (by rw [ByteArray.size_append]; omega))
      have k1 : T (fun _ n => zh1 (zd0 n) v (s, p) b) fun r => r.size ≤ 6 * s.size := by
        unfold zh1
        exact nx _ (Nat.le_trans (zsp _) (by decide))
      have k0 : T (fun _ n => zh2 (zd0 n) (s, p) b v) fun r => r.size ≤ 6 * s.size := by
        unfold zh2
        exact T.dec (fun _ => T.bif (fun _ => nx _ (by decide)) fun _ => k1) fun _ => k1
      exact T.dec (fun _ => nx _ (by decide)) fun _ => T.dec (fun _ => T.bif (fun _ => nx _ (by decide)) fun _ => k0) fun _ => k0
  exact T.diag (F := fun _ n => zd0 n b (bs []) (s,0)) (key _ 0 0 (bs []) (Nat.le_refl _) (Nat.le_refl _) (Nat.zero_le _) (by decide))
def wA (l : List AttT) : Nat := (l.map fun x => 10 + x.1.size + 6 * x.2.1.size).sum
def wK (x : TokT) : Nat := 40 + x.2.1.size + 6 * x.2.2.1.size + wA x.2.2.2.1
def wT (l : List TokT) : Nat := (l.map wK).sum
theorem zsa {α : Type} {f : α → Nat} {l : List α} {j : Nat} (h : j < l.length) : ((l.take (j + 1)).map f).sum = ((l.take j).map f).sum + f l[j] := by
  rw [List.take_add_one, List.getElem?_eq_getElem h, List.map_append, List.sum_append]; simp
theorem sum_le {α : Type} {f : α → Nat} {l : List α} (j : Nat) : ((l.take j).map f).sum ≤ (l.map f).sum := by
  conv => rhs; rw [← List.take_append_drop j l]
  rw [List.map_append, List.sum_append]; omega
theorem mem_sum {α : Type} {f : α → Nat} {x : α} : ∀ {l : List α}, x ∈ l → f x ≤ (l.map f).sum
  | [], h => by cases h
  | y :: l, h => by
    rw [List.map_cons, List.sum_cons]
    rcases List.mem_cons.1 h with rfl | h
    · omega
    · have := mem_sum (f := f) h; omega
theorem len_sum {α : Type} {f : α → Nat} (hf : ∀ x,1 ≤ f x) : ∀ {l : List α}, l.length ≤ (l.map f).sum
  | [] => by simp
  | y :: l => by
    have := len_sum hf (l := l); have := hf y
    rw [List.map_cons, List.sum_cons, List.length_cons]; omega
theorem markup_T {l : List TokT} (hw : wT l ≤ 20000000) : T (fun k _ => zl2 k l) fun r => r.size ≤ wT l := by
  have hl : l.length ≤ 20000000 := Nat.le_trans (len_sum (fun x => by unfold wK; omega)) hw
  have key : ∀ (m j : Nat) (v : ByteArray), l.length - j ≤ m → j ≤ l.length → v.size ≤ wT (l.take j) → T (fun k n => zb6 k n l v (j : Int)) fun r => r.size ≤ wT l := by
    have fin : ∀ (j : Nat) (v : ByteArray), v.size ≤ wT (l.take j) → T (fun _ _ => some v) fun r => r.size ≤ wT l := fun j v h =>
      T.some (Nat.le_trans h (sum_le j))
    intro m
    induction m with
    | zero =>
      intro j v h hj hv
      refine T.step ?_
      unfold zb6
      exact T.dec (fun _ => by omega) fun _ => fin j v hv
    | succ m ih =>
      intro j v h hj hv
      refine T.step ?_
      unfold zb6
      refine T.dec (fun hj => ?_) fun _ => fin j v hv
      have hj : j < l.length := by omega
      obtain ⟨x, hx⟩ : ∃ x, x = l[j] := ⟨_, rfl⟩
      have hwx : wT (l.take (j + 1)) = wT (l.take j) + wK x := by rw [hx]; exact zsa hj
      have hwl : wT (l.take (j + 1)) ≤ wT l := sum_le _
      have hk : wK x = 40 + x.2.1.size + 6 * x.2.2.1.size + wA x.2.2.2.1 := rfl
      have nx : ∀ v : ByteArray, v.size ≤ wT (l.take j) + wK x → T (fun k n => zb6 k n l v (w64 ((j : Int) + 1))) fun r => r.size ≤ wT l := fun v hv => by
        rw [zbz (by omega)]
        exact ih (j + 1) v (by omega) (by omega) (by omega)
      have at_ : ∀ (m i : Nat) (v : ByteArray), x.2.2.2.1.length - i ≤ m → i ≤ x.2.2.2.1.length → v.size ≤ wT (l.take j) + 10 + x.2.1.size + wA (x.2.2.2.1.take i) → T (fun k n => zcg k n l v (j : Int) x (i : Int)) fun r => r.size ≤ wT l := by
        have hal : x.2.2.2.1.length ≤ wA x.2.2.2.1 := len_sum (fun x => by omega)
        have fin : ∀ (i : Nat) (v : ByteArray), v.size ≤ wT (l.take j) + 10 + x.2.1.size + wA (x.2.2.2.1.take i) → T (fun k n => (bif x.2.2.2.2.1 then (addS v (bs [47])).bind fun r25 => (addS r25 (bs [62])).bind fun r27 => zb6 k n l r27 (w64 ((j : Int) + 1)) else (addS v (bs [62])).bind fun r27 => zb6 k n l r27 (w64 ((j : Int) + 1)))) fun r => r.size ≤ wT l := fun i v hv => by
          have hq : wA (x.2.2.2.1.take i) ≤ wA x.2.2.2.1 := sum_le _
          have s1 : (bs [47]).size = 1 := rfl
          have s2 : (bs [62]).size = 1 := rfl
          exact T.bif (fun _ => T.addT (by omega) (T.addT (by rw [ByteArray.size_append]; omega) (nx _ (by rw [ByteArray.size_append, ByteArray.size_append]; omega)))) fun _ => T.addT (by omega) (nx _ (by rw [ByteArray.size_append]; omega))
        intro m
        induction m with
        | zero =>
          intro i v h hi hv
          refine T.step ?_
          unfold zcg
          exact T.dec (fun _ => by omega) fun _ => fin i v hv
        | succ m ihm =>
          intro i v h hi hv
          refine T.step ?_
          unfold zcg
          refine T.dec (fun hi => ?_) fun _ => fin i v hv
          have hi : i < x.2.2.2.1.length := by omega
          have gi := List.getElem?_eq_getElem hi
          obtain ⟨y, hy⟩ : ∃ y, y = x.2.2.2.1[i] := ⟨_, rfl⟩
          rw [← hy] at gi
          have h1 : wA (x.2.2.2.1.take (i + 1)) = wA (x.2.2.2.1.take i) + (10 + y.1.size + 6 * y.2.1.size) := by rw [hy]; exact zsa (f := fun x : AttT => 10 + x.1.size + 6 * x.2.1.size) hi
          have h2 : wA (x.2.2.2.1.take (i + 1)) ≤ wA x.2.2.2.1 := sum_le _
          have s1 : (bs [32]).size = 1 := rfl
          have s2 : (bs [61,34]).size = 2 := rfl
          have s3 : (bs [34]).size = 1 := rfl
          refine T.addT (by omega) (T.getN gi (T.addT (by rw [ByteArray.size_append]; omega) (T.addT (by rw [ByteArray.size_append, ByteArray.size_append]; omega) (T.getN gi (T.bind (zu5 (by omega)) fun r hr => T.addT (by simp only [ByteArray.size_append]; omega) (T.addT (by simp only [ByteArray.size_append]; omega) ?_))))))
          rw [zbz (by omega)]
          exact ihm (i + 1) _ (by omega) (by omega) (by simp only [ByteArray.size_append]; omega)
      have s1 : (bs [60]).size = 1 := rfl
      have s2 : (bs [60,47]).size = 2 := rfl
      have s3 : (bs [62]).size = 1 := rfl
      have s4 : (bs [60,33,45,45,45,45,62]).size = 7 := rfl
      have k1 : T (fun k n => zem k (zb6 k n) (zcg k n) x v l (j : Int)) fun r => r.size ≤ wT l := by
        unfold zem
        refine T.dec (fun _ => T.bind (zu5 (by omega)) fun r hr => T.addT (by omega) (nx _ (by rw [ByteArray.size_append]; omega))) fun _ => T.dec (fun _ => T.addT (by omega) (T.addT (by rw [ByteArray.size_append]; omega) ?_)) fun _ => T.addT (by omega) (T.addT (by rw [ByteArray.size_append]; omega) (T.addT (by simp only [ByteArray.size_append]; omega) (nx _ (by simp only [ByteArray.size_append]; omega))))
        exact at_ _ 0 _ (Nat.le_refl _) (Nat.zero_le _) (by simp only [ByteArray.size_append]; omega)
      have k0 : T (fun k n => zen k (zb6 k n) (zcg k n) x (j : Int) l v) fun r => r.size ≤ wT l := by
        unfold zen
        refine T.dec (fun _ => T.dec (fun h0 => ?_) fun _ => k1) fun _ => k1
        rw [w64n (by omega), show (j : Int) - 1 = ((j - 1 : Nat) : Int) by omega]
        exact T.getN (List.getElem?_eq_getElem (show j - 1 < l.length by omega)) (T.dec (fun _ => T.addT (by omega) (T.bind (zu5 (by omega)) fun r hr => T.addT (by rw [ByteArray.size_append]; omega) (nx _ (by simp only [ByteArray.size_append]; omega)))) fun _ => k1)
      refine T.getN (x := x) (by rw [hx]; exact List.getElem?_eq_getElem hj) (T.dec (fun _ => T.dec (fun h0 => ?_) fun _ => k0) fun _ => k0)
      rw [w64n (by omega), show (j : Int) - 1 = ((j - 1 : Nat) : Int) by omega]
      refine T.getN (List.getElem?_eq_getElem (show j - 1 < l.length by omega)) (T.bind (P := fun _ => True) ?_ fun _ _ => T.bif (fun _ => T.addT (by omega) (nx _ (by rw [ByteArray.size_append]; omega))) fun _ => k0)
      unfold zn5
      exact T.dec (fun _ => T.dec (fun _ => T.some trivial) fun _ => T.some trivial) fun _ => T.some trivial
  exact T.diag (F := fun k n => zb6 k n l (bs []) 0) (key _ 0 (bs []) (Nat.le_refl _) (Nat.zero_le _) (Nat.zero_le _))
theorem whole_T {l : List TokT} (hw : wT l ≤ 20000000) : T (fun k _ => zhr k l) fun _ => True := by
  have hl : l.length ≤ 20000000 := Nat.le_trans (len_sum (fun x => by unfold wK; omega)) hw
  have hat : ∀ x ∈ l, x.2.2.2.1.length ≤ 20000000 := fun x hx => by
    have h1 : wK x ≤ wT l := mem_sum hx
    have h2 : x.2.2.2.1.length ≤ wA x.2.2.2.1 := len_sum (fun x => by omega)
    unfold wK at h1; omega
  unfold zhr zk0
  refine T.bind (markup_T hw) fun r hr => ?_
  have hrs := zkm r
  refine T.bind (m := fun _ _ => runesM r) (P := (· = runesIn r)) (T.of (r := runesIn r) (by unfold runesM; rw [decide_eq_true (by omega), cond_true]) rfl) fun q hq => ?_
  subst hq
  refine T.bind (zty (by omega)) fun t _ => T.dec (fun _ => T.some trivial) fun hn => ?_
  have htl : t.length = l.length := by omega
  have key : ∀ (m j : Nat), l.length - j ≤ m → T (fun k n => zf4 k n l t (j : Int)) fun _ => True := by
    intro m
    induction m with
    | zero =>
      intro j h
      refine T.step ?_
      unfold zf4
      exact T.dec (fun _ => by omega) fun _ => T.some trivial
    | succ m ih =>
      intro j h
      refine T.step ?_
      unfold zf4
      refine T.dec (fun hj => ?_) fun _ => T.some trivial
      have h1 : j < l.length := by omega
      have a := List.getElem?_eq_getElem (show j < t.length by omega)
      have b := List.getElem?_eq_getElem h1
      refine T.getN a (T.getN b (T.dec (fun _ => T.some trivial) fun _ => T.getN a (T.getN b (T.dec (fun _ => T.some trivial) fun _ => T.getN a (T.getN b (T.dec (fun _ => T.some trivial) fun _ => T.getN a (T.getN b (T.bif (fun _ => T.some trivial) fun _ => T.getN a (T.getN b (T.bind (Same_T (by have := hat _ (List.getElem_mem h1); omega)) fun _ _ => T.bif (fun _ => T.some trivial) fun _ => ?_))))))))))
      rw [zbz (by omega)]
      exact ih (j + 1) (by omega)
  exact T.diag (F := fun k n => zf4 k n l t 0) (key _ 0 (Nat.le_refl _))
end
end Go.V
