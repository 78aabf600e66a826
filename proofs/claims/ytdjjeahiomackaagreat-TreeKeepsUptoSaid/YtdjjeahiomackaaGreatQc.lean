/-
  Walks and laws of this seat.
-/
import Derived.Test.YtdjjeahiomackaaGreatQb
import Derived.Test.YtdjjeahiomackaaGreatTc
namespace Go.V
set_option linter.unusedVariables false
set_option linter.unusedSimpArgs false
set_option linter.unusedSectionVars false
section
open Go.RowKit Go.Sl
open Go.Proofs.YtdjjeahiomackaaGreat (T.getN T.addT zcj w64n T.set T.rep)
theorem attBeq (x : AttT) : cAttT.beq x x = true := by
  simp [TC.beq, TL.beq]
theorem Same_T {a b : List AttT} (hb : b.length ≤ 1000000000) : T (fun k _ => zet k a b) fun r => a = b → r = true := by
  unfold zet zfg
  refine T.dec (fun h => T.some fun e => absurd (by rw [e]) h) fun h => ?_
  have hl : a.length = b.length := by omega
  have key : ∀ (m j : Nat), a.length - j ≤ m → T (fun _ n => zbu n a b (j : Int)) fun r => a = b → r = true := by
    intro m
    induction m with
    | zero =>
      intro j h
      refine T.step ?_
      unfold zbu
      exact T.dec (fun _ => by omega) fun _ => T.some fun _ => rfl
    | succ m ih =>
      intro j h
      refine T.step ?_
      unfold zbu
      refine T.dec (fun hj => ?_) fun _ => T.some fun _ => rfl
      have h1 : j < a.length := by omega
      have h2 : j < b.length := by omega
      refine T.getN (List.getElem?_eq_getElem h1) (T.getN (List.getElem?_eq_getElem h2) (T.bif (fun hb => T.some fun e => ?_) fun _ => ?_))
      · subst e
        rw [attBeq] at hb; cases hb
      · rw [zcj (by omega)]
        exact ih (j + 1) (by omega)
  exact T.diag (F := fun _ n => zbu n a b 0) (key _ 0 (Nat.le_refl _))
end
section
open Go.RowKit Go.Sl
open Go.Proofs.YtdjjeahiomackaaGreat (T.getN T.addT zcj w64n T.set T.rep)
theorem zut {s : ByteArray} {b : Bool} (hs : s.size ≤ 1000000000) : T (fun k _ => zjv k s b) fun r => r.size ≤ 6 * s.size := by
  have key : ∀ (m p j : Nat) (v : ByteArray), s.size - p ≤ m → j ≤ p → j ≤ s.size → v.size ≤ 6 * j → T (fun _ n => zcw n b v (s, p)) fun r => r.size ≤ 6 * s.size := by
    intro m
    induction m with
    | zero =>
      intro p j v h h1 h2 h3
      refine T.step ?_
      unfold zcw
      exact T.dec (fun h => by simp only at h; omega) fun _ => T.some (by omega)
    | succ m ih =>
      intro p j v h h1 h2 h3
      refine T.step ?_
      unfold zcw
      refine T.dec (fun hp => ?_) fun _ => T.some (by omega)
      have hp : p < s.size := hp
      have hd := zft s p
      have nx : ∀ t : ByteArray, t.size ≤ 6 → T (fun _ n => (addS v t).bind fun r => zcw n b r (s, p + (Utf8.decode s p).2)) fun r => r.size ≤ 6 * s.size := fun t ht =>
        T.addT (by omega) (ih _ (j + 1) _ (by omega) (by omega) (by omega) (by rw [ByteArray.size_append]; omega))
      have k1 : T (fun _ n => zgw (zcw n) v (s, p) b) fun r => r.size ≤ 6 * s.size := by
        unfold zgw
        exact nx _ (Nat.le_trans (ztb _) (by decide))
      have k0 : T (fun _ n => zgx (zcw n) (s, p) b v) fun r => r.size ≤ 6 * s.size := by
        unfold zgx
        exact T.dec (fun _ => T.bif (fun _ => nx _ (by decide)) fun _ => k1) fun _ => k1
      exact T.dec (fun _ => nx _ (by decide)) fun _ => T.dec (fun _ => T.bif (fun _ => nx _ (by decide)) fun _ => k0) fun _ => k0
  exact T.diag (F := fun _ n => zcw n b (bs []) (s,0)) (key _ 0 0 (bs []) (Nat.le_refl _) (Nat.le_refl _) (Nat.zero_le _) (by decide))
def wA (l : List AttT) : Nat := (l.map fun x => 10 + x.1.size + 6 * x.2.1.size).sum
def wK (x : TokT) : Nat := 40 + x.2.1.size + 6 * x.2.2.1.size + wA x.2.2.2.1
def wT (l : List TokT) : Nat := (l.map wK).sum
theorem zir {α : Type} {f : α → Nat} {l : List α} {j : Nat} (h : j < l.length) : ((l.take (j + 1)).map f).sum = ((l.take j).map f).sum + f l[j] := by
  rw [List.take_add_one, List.getElem?_eq_getElem h, List.map_append, List.sum_append]; simp
theorem sum_le {α : Type} {f : α → Nat} {l : List α} (j : Nat) : ((l.take j).map f).sum ≤ (l.map f).sum := by
  conv => rhs; rw [← List.take_append_drop j l]
  rw [List.map_append, List.sum_append]; omega
theorem mem_sum {α : Type} {f : α → Nat} {x : α} : ∀ {l : List α}, x ∈ l → f x ≤ (l.map f).sum
  | [], h => by cases h
  | y :: l, h => by
    rw [List.map_cons, List.sum_cons]
    rcases List.mem_cons.1 h with rfl | h
    · omega
    · have := mem_sum (f := f) h; omega
theorem znt {α : Type} {f : α → Nat} (hf : ∀ x,1 ≤ f x) : ∀ {l : List α}, l.length ≤ (l.map f).sum
  | [] => by simp
  | y :: l => by
    have := znt hf (l := l); have := hf y
    rw [List.map_cons, List.sum_cons, List.length_cons]; omega
theorem markup_T {l : List TokT} (hw : wT l ≤ 20000000) : T (fun k _ => zl1 k l) fun r => r.size ≤ wT l := by
  have hl : l.length ≤ 20000000 := Nat.le_trans (znt (fun x => by unfold wK; omega)) hw
  have key : ∀ (m j : Nat) (v : ByteArray), l.length - j ≤ m → j ≤ l.length → v.size ≤ wT (l.take j) → T (fun k n => zb4 k n l v (j : Int)) fun r => r.size ≤ wT l := by
    have fin : ∀ (j : Nat) (v : ByteArray), v.size ≤ wT (l.take j) → T (fun _ _ => some v) fun r => r.size ≤ wT l := fun j v h =>
      T.some (Nat.le_trans h (sum_le j))
    intro m
    induction m with
    | zero =>
      intro j v h hj hv
      refine T.step ?_
      unfold zb4
      exact T.dec (fun _ => by omega) fun _ => fin j v hv
    | succ m ih =>
      intro j v h hj hv
      refine T.step ?_
      unfold zb4
      refine T.dec (fun hj => ?_) fun _ => fin j v hv
      have hj : j < l.length := by omega
      obtain ⟨x, hx⟩ : ∃ x, x = l[j] := ⟨_, rfl⟩
      have hwx : wT (l.take (j + 1)) = wT (l.take j) + wK x := by rw [hx]; exact zir hj
      have hwl : wT (l.take (j + 1)) ≤ wT l := sum_le _
      have hk : wK x = 40 + x.2.1.size + 6 * x.2.2.1.size + wA x.2.2.2.1 := rfl
      have nx : ∀ v : ByteArray, v.size ≤ wT (l.take j) + wK x → T (fun k n => zb4 k n l v (w64 ((j : Int) + 1))) fun r => r.size ≤ wT l := fun v hv => by
        rw [zcj (by omega)]
        exact ih (j + 1) v (by omega) (by omega) (by omega)
      have at_ : ∀ (m i : Nat) (v : ByteArray), x.2.2.2.1.length - i ≤ m → i ≤ x.2.2.2.1.length → v.size ≤ wT (l.take j) + 10 + x.2.1.size + wA (x.2.2.2.1.take i) → T (fun k n => zc9 k n l v (j : Int) x (i : Int)) fun r => r.size ≤ wT l := by
        have hal : x.2.2.2.1.length ≤ wA x.2.2.2.1 := znt (fun x => by omega)
        have fin : ∀ (i : Nat) (v : ByteArray), v.size ≤ wT (l.take j) + 10 + x.2.1.size + wA (x.2.2.2.1.take i) → T (fun k n => (bif x.2.2.2.2.1 then (addS v (bs [47])).bind fun r25 => (addS r25 (bs [62])).bind fun r27 => zb4 k n l r27 (w64 ((j : Int) + 1)) else (addS v (bs [62])).bind fun r27 => zb4 k n l r27 (w64 ((j : Int) + 1)))) fun r => r.size ≤ wT l := fun i v hv => by
          have hq : wA (x.2.2.2.1.take i) ≤ wA x.2.2.2.1 := sum_le _
          have s1 : (bs [47]).size = 1 := rfl
          have s2 : (bs [62]).size = 1 := rfl
          exact T.bif (fun _ => T.addT (by omega) (T.addT (by rw [ByteArray.size_append]; omega) (nx _ (by rw [ByteArray.size_append, ByteArray.size_append]; omega)))) fun _ => T.addT (by omega) (nx _ (by rw [ByteArray.size_append]; omega))
        intro m
        induction m with
        | zero =>
          intro i v h hi hv
          refine T.step ?_
          unfold zc9
          exact T.dec (fun _ => by omega) fun _ => fin i v hv
        | succ m ihm =>
          intro i v h hi hv
          refine T.step ?_
          unfold zc9
          refine T.dec (fun hi => ?_) fun _ => fin i v hv
          have hi : i < x.2.2.2.1.length := by omega
          have gi := List.getElem?_eq_getElem hi
          obtain ⟨y, hy⟩ : ∃ y, y = x.2.2.2.1[i] := ⟨_, rfl⟩
          rw [← hy] at gi
          have h1 : wA (x.2.2.2.1.take (i + 1)) = wA (x.2.2.2.1.take i) + (10 + y.1.size + 6 * y.2.1.size) := by rw [hy]; exact zir (f := fun x : AttT => 10 + x.1.size + 6 * x.2.1.size) hi
          have h2 : wA (x.2.2.2.1.take (i + 1)) ≤ wA x.2.2.2.1 := sum_le _
          have s1 : (bs [32]).size = 1 := rfl
          have s2 : (bs [61,34]).size = 2 := rfl
          have s3 : (bs [34]).size = 1 := rfl
          refine T.addT (by omega) (T.getN gi (T.addT (by rw [ByteArray.size_append]; omega) (T.addT (by rw [ByteArray.size_append, ByteArray.size_append]; omega) (T.getN gi (T.bind (zut (by omega)) fun r hr => T.addT (by simp only [ByteArray.size_append]; omega) (T.addT (by simp only [ByteArray.size_append]; omega) ?_))))))
          rw [zcj (by omega)]
          exact ihm (i + 1) _ (by omega) (by omega) (by simp only [ByteArray.size_append]; omega)
      have s1 : (bs [60]).size = 1 := rfl
      have s2 : (bs [60,47]).size = 2 := rfl
      have s3 : (bs [62]).size = 1 := rfl
      have s4 : (bs [60,33,45,45,45,45,62]).size = 7 := rfl
      have k1 : T (fun k n => zek k (zb4 k n) (zc9 k n) x v l (j : Int)) fun r => r.size ≤ wT l := by
        unfold zek
        refine T.dec (fun _ => T.bind (zut (by omega)) fun r hr => T.addT (by omega) (nx _ (by rw [ByteArray.size_append]; omega))) fun _ => T.dec (fun _ => T.addT (by omega) (T.addT (by rw [ByteArray.size_append]; omega) ?_)) fun _ => T.addT (by omega) (T.addT (by rw [ByteArray.size_append]; omega) (T.addT (by simp only [ByteArray.size_append]; omega) (nx _ (by simp only [ByteArray.size_append]; omega))))
        exact at_ _ 0 _ (Nat.le_refl _) (Nat.zero_le _) (by simp only [ByteArray.size_append]; omega)
      have k0 : T (fun k n => zel k (zb4 k n) (zc9 k n) x (j : Int) l v) fun r => r.size ≤ wT l := by
        unfold zel
        refine T.dec (fun _ => T.dec (fun h0 => ?_) fun _ => k1) fun _ => k1
        rw [w64n (by omega), show (j : Int) - 1 = ((j - 1 : Nat) : Int) by omega]
        exact T.getN (List.getElem?_eq_getElem (show j - 1 < l.length by omega)) (T.dec (fun _ => T.addT (by omega) (T.bind (zut (by omega)) fun r hr => T.addT (by rw [ByteArray.size_append]; omega) (nx _ (by simp only [ByteArray.size_append]; omega)))) fun _ => k1)
      refine T.getN (x := x) (by rw [hx]; exact List.getElem?_eq_getElem hj) (T.dec (fun _ => T.dec (fun h0 => ?_) fun _ => k0) fun _ => k0)
      rw [w64n (by omega), show (j : Int) - 1 = ((j - 1 : Nat) : Int) by omega]
      refine T.getN (List.getElem?_eq_getElem (show j - 1 < l.length by omega)) (T.bind (P := fun _ => True) ?_ fun _ _ => T.bif (fun _ => T.addT (by omega) (nx _ (by rw [ByteArray.size_append]; omega))) fun _ => k0)
      unfold zn5
      exact T.dec (fun _ => T.dec (fun _ => T.some trivial) fun _ => T.some trivial) fun _ => T.some trivial
  exact T.diag (F := fun k n => zb4 k n l (bs []) 0) (key _ 0 (bs []) (Nat.le_refl _) (Nat.zero_le _) (Nat.zero_le _))
theorem whole_T {l : List TokT} (hw : wT l ≤ 20000000) : T (fun k _ => zhk k l) fun b => b = true → TksG l := by
  have hl : l.length ≤ 20000000 := Nat.le_trans (znt (fun x => by unfold wK; omega)) hw
  have hat : ∀ x ∈ l, x.2.2.2.1.length ≤ 20000000 := fun x hx => by
    have h1 : wK x ≤ wT l := mem_sum hx
    have h2 : x.2.2.2.1.length ≤ wA x.2.2.2.1 := znt (fun x => by omega)
    unfold wK at h1; omega
  unfold zhk zju
  refine T.bind (markup_T hw) fun r hr => ?_
  have hrs := zi6 r
  refine T.bind (m := fun _ _ => runesM r) (P := (· = runesIn r)) (T.of (r := runesIn r) (by unfold runesM; rw [decide_eq_true (by omega), cond_true]) rfl) fun q hq => ?_
  subst hq
  refine T.bind (zum (by omega)) fun t ht => T.dec (fun _ => T.some fun h => by cases h) fun hn => ?_
  have htl : t.length = l.length := by omega
  have key : ∀ (m j : Nat), l.length - j ≤ m → T (fun k n => zf1 k n l t (j : Int)) fun b => b = true → ∀ (i : Nat) x, j ≤ i → l[i]? = some x → TokG x := by
    have fin : ∀ j : Nat, ¬ (j : Int) < l.length → true = true → ∀ (i : Nat) x, j ≤ i → l[i]? = some x → TokG x := fun j h _ i x h1 h2 => by
      have := (List.getElem?_eq_some_iff.1 h2).1
      omega
    intro m
    induction m with
    | zero =>
      intro j h
      refine T.step ?_
      unfold zf1
      exact T.dec (fun _ => by omega) fun hj => T.some (fin j hj)
    | succ m ih =>
      intro j h
      refine T.step ?_
      unfold zf1
      refine T.dec (fun hj => ?_) fun hj => T.some (fin j hj)
      have h1 : j < l.length := by omega
      have h2 : j < t.length := by omega
      have a := List.getElem?_eq_getElem h2
      have b := List.getElem?_eq_getElem h1
      have no : ∀ {Q : Prop}, false = true → Q := fun h => by cases h
      refine T.getN a (T.getN b (T.dec (fun _ => T.some no) fun e1 => T.getN a (T.getN b (T.dec (fun _ => T.some no) fun e2 => T.getN a (T.getN b (T.dec (fun _ => T.some no) fun e3 => T.getN a (T.getN b (T.bif (fun _ => T.some no) fun _ => T.getN a (T.getN b (T.bind (Same_T (by have := hat _ (List.getElem_mem h1); omega)) fun _ _ => T.bif (fun _ => T.some no) fun _ => ?_))))))))))
      rw [zcj (by omega)]
      refine (ih (j + 1) (by omega)).mono fun r hr e i x h3 h4 => ?_
      by_cases q : i = j
      · subst q
        rw [b] at h4; cases h4
        have hg := ht.2 _ (List.getElem_mem h2)
        unfold TokG at hg ⊢
        rw [Decidable.not_not.1 e1, Decidable.not_not.1 e2, Decidable.not_not.1 e3] at hg
        exact hg
      · exact hr e i x (by omega) h4
  refine (T.diag (F := fun k n => zf1 k n l t 0) (key _ 0 (Nat.le_refl _))).mono fun r hr e x hx => ?_
  obtain ⟨i, hi⟩ := List.getElem?_of_mem hx
  exact hr e i x (Nat.zero_le _) hi
end
end Go.V
namespace Go.Proofs.YtdjjeahiomackaaGreat
set_option linter.unusedVariables false
set_option linter.unusedSimpArgs false
set_option linter.unusedSectionVars false
open Go.RowKit Go.Sl
open Go.V (T fr1 zr9 zir sum_le mem_sum)
def cntS (r : Int) (s : ByteArray) : Nat := (runesIn s).count r
def sumK (r : Int) (l : List KT) : Nat := (l.map fun k => cntS r k.2).sum
def elK (l : List KT) : Nat := (l.map fun k => if k.1 = 1 then 1 else 0).sum
def tokC (r : Int) (l : List za4) : Nat := (l.map fun x => if x.Kind = 1 then cntS r x.Text else 0).sum
def tokO (l : List za4) : Nat := (l.map fun x => if x.Kind = 2 then 1 else 0).sum
def Blank (r : Int) : Prop := r = 9 ∨ r = 10 ∨ r = 12 ∨ r = 32
def Fine (l : List za4) (ks : List KT) : Prop := (∀ r, sumK r ks ≤ tokC r l ∧ (¬ Blank r → sumK r ks = tokC r l)) ∧ tokO l + 1 ≤ elK ks
theorem Fine.perm {l : List za4} {ks ms : List KT} (h : Fine l ms) (p : ks.Perm ms) : Fine l ks := by
  have h1 : ∀ r, sumK r ks = sumK r ms := fun r => (p.map _).sum_nat
  have h2 : elK ks = elK ms := (p.map _).sum_nat
  exact ⟨fun r => by rw [h1]; exact h.1 r, by rw [h2]; exact h.2⟩
theorem zpa {α : Type} {f : α → Nat} {l m : List α} : ((l ++ m).map f).sum = (l.map f).sum + (m.map f).sum := by
  rw [List.map_append, List.sum_append]
theorem zs0 {α : Type} {f : α → Nat} {x y : α} {d : Nat} (hd : f y = f x + d) : ∀ {l : List α} {i : Nat}, l[i]? = some x → ((l.set i y).map f).sum = (l.map f).sum + d
  | [], i, h => by cases h
  | z :: l,0, h => by
    cases h
    simp only [List.set_cons_zero, List.map_cons, List.sum_cons, hd]; omega
  | z :: l, i + 1, h => by
    have := zs0 hd (l := l) (i := i) (by simpa using h)
    simp only [List.set_cons_succ, List.map_cons, List.sum_cons, this]; omega
theorem zro {s : ByteArray} : ∀ {n p : Nat}, zbz s n p = some true → ∀ m, ∀ r ∈ runesFr s m p, Blank r
  | 0, _, h, _, _, _ => by cases h
  | n + 1, p, h,0, _, hr => by cases hr
  | n + 1, p, h, m + 1, r, hr => by
    unfold zbz at h
    unfold runesFr at hr
    by_cases hp : p < s.size
    · rw [decide_eq_true hp, cond_true] at h
      rw [if_pos hp] at hr
      cases hb : ((decide (((Utf8.decode s p).1 : Int) ≠ 9)) && ((decide (((Utf8.decode s p).1 : Int) ≠ 10)) && ((decide (((Utf8.decode s p).1 : Int) ≠ 12)) && (decide (((Utf8.decode s p).1 : Int) ≠ 32))))) with
      | true => rw [hb, cond_true] at h; cases h
      | false =>
        rw [hb, cond_false] at h
        rcases List.mem_cons.1 hr with rfl | hr
        · unfold Blank
          refine Classical.byContradiction fun hc => ?_
          simp only [not_or] at hc
          rw [decide_eq_true hc.1, decide_eq_true hc.2.1, decide_eq_true hc.2.2.1, decide_eq_true hc.2.2.2] at hb
          cases hb
        · exact zro h m r hr
    · rw [if_neg hp] at hr; cases hr
abbrev Kcs (A : List za0) : List KT := (A.map cont).map ktC
theorem puts_kcs {A B : List za0} {l : List Ct} (hc : B.map cont = A.map cont ++ l) (hl : ∀ y ∈ l, y.2.1 = bs [] ∧ y.1 ≠ bs []) : Kcs B = Kcs A ++ List.replicate l.length (1, bs []) := by
  unfold Kcs
  rw [hc, List.map_append]
  congr 1
  refine List.eq_replicate_iff.2 ⟨by simp, fun k hk => ?_⟩
  obtain ⟨y, hy, rfl⟩ := List.mem_map.1 hk
  unfold ktC
  rw [if_neg (hl y hy).2]
theorem zs2 {α : Type} {f : α → Nat} {x : α} : ∀ k : Nat,((List.replicate k x).map f).sum = k * f x
  | 0 => by simp
  | k + 1 => by rw [List.replicate_succ, List.map_cons, List.sum_cons, zs2 k, Nat.succ_mul]; omega
def TkG (x : za4) : Prop := (x.Kind = 2 → x.Name ≠ bs []) ∧ (x.Kind = 1 → fr1 x.Text = true)
section
variable {l : List za4} {i : Nat} (hi : i < l.length)
include hi
theorem zjg (r : Int) : tokC r (l.take (i + 1)) = tokC r (l.take i) + if l[i].Kind = 1 then cntS r l[i].Text else 0 := zir (f := fun x : za4 => if x.Kind = 1 then cntS r x.Text else 0) hi
theorem zla : tokO (l.take (i + 1)) = tokO (l.take i) + if l[i].Kind = 2 then 1 else 0 := zir (f := fun x : za4 => if x.Kind = 2 then 1 else 0) hi
theorem Fine.puts {A B : List za0} (h : Fine (l.take i) (Kcs A)) {c : List Ct} (hc : B.map cont = A.map cont ++ c) (hl : ∀ y ∈ c, y.2.1 = bs [] ∧ y.1 ≠ bs []) (h1 : l[i].Kind ≠ 1) (h2 : l[i].Kind = 2 → 1 ≤ c.length) : Fine (l.take (i + 1)) (Kcs B) := by
  rw [puts_kcs hc hl]
  have e0 : ∀ r, cntS r (bs []) = 0 := fun r => rfl
  refine ⟨fun r => ?_, ?_⟩
  · have e1 : sumK r (Kcs A ++ List.replicate c.length (1, bs [])) = sumK r (Kcs A) := by
      unfold sumK
      rw [zpa, zs2, e0, Nat.mul_zero, Nat.add_zero]
    rw [e1, zjg hi, if_neg h1, Nat.add_zero]
    exact h.1 r
  · have e1 : elK (Kcs A ++ List.replicate c.length (1, bs [])) = elK (Kcs A) + c.length := by
      unfold elK
      rw [zpa, zs2, if_pos rfl, Nat.mul_one]
    rw [e1, zla hi]
    have := h.2
    by_cases h3 : l[i].Kind = 2
    · have := h2 h3; rw [if_pos h3]; omega
    · rw [if_neg h3]; omega
theorem Fine.chars {A B : List za0} (h : Fine (l.take i) (Kcs A)) (h1 : l[i].Kind = 1) (hf : fr1 l[i].Text = true)
    (hB : (B = A ∧ ∃ k, zgg k l[i].Text = some true) ∨ (∃ (j : Nat) (x : za0), A[j]? = some x ∧ x.name = bs [] ∧ B = A.set j { x with text := x.text ++ l[i].Text }) ∨ B.map cont = A.map cont ++ [(bs [], l[i].Text,[])]) : Fine (l.take (i + 1)) (Kcs B) := by
  have h2 : l[i].Kind ≠ 2 := by omega
  have hO : tokO (l.take (i + 1)) = tokO (l.take i) := by rw [zla hi, if_neg h2]; rfl
  have hC : ∀ r, tokC r (l.take (i + 1)) = tokC r (l.take i) + cntS r l[i].Text := fun r => by rw [zjg hi, if_pos h1]
  have more : (∀ r, sumK r (Kcs B) = sumK r (Kcs A) + cntS r l[i].Text) → elK (Kcs A) ≤ elK (Kcs B) → Fine (l.take (i + 1)) (Kcs B) := fun g1 g2 =>
    ⟨fun r => by rw [g1, hC]; exact ⟨Nat.add_le_add_right (h.1 r).1 _, fun hb => by rw [(h.1 r).2 hb]⟩, by rw [hO]; exact Nat.le_trans h.2 g2⟩
  rcases hB with ⟨rfl, k, hk⟩ | ⟨j, x, hx, hn, rfl⟩ | hB
  · refine ⟨fun r => ⟨by have := (h.1 r).1; rw [hC]; omega, fun hb => ?_⟩, by rw [hO]; exact h.2⟩
    have : cntS r l[i].Text = 0 := List.count_eq_zero.2 fun hr => hb (zro hk _ r hr)
    rw [hC, this,(h.1 r).2 hb]; rfl
  · have hk : (Kcs A)[j]? = some (2, x.text) := by
      rw [List.getElem?_map, List.getElem?_map, hx]
      show some (ktC (cont x)) = _
      unfold ktC; rw [if_pos (show (cont x).1 = bs [] from hn)]; rfl
    have hs : Kcs (A.set j { x with text := x.text ++ l[i].Text }) = (Kcs A).set j (2, x.text ++ l[i].Text) := by
      show ((A.set j _).map cont).map ktC = _
      rw [List.map_set, List.map_set]
      congr 1
      exact if_pos hn
    rw [hs] at more ⊢
    refine more (fun r => ?_) ?_
    · refine zs0 (f := fun k : KT => cntS r k.2) (x := (2, x.text)) ?_ hk
      show cntS r (x.text ++ l[i].Text) = cntS r x.text + cntS r l[i].Text
      unfold cntS
      rw [zji, zp3, zlf (zr9 hf) _ _ (Nat.le_refl _), List.count_append, ← zji, ← zji]
    · exact Nat.le_of_eq (zs0 (f := fun k : KT => if k.1 = 1 then 1 else 0) (d := 0) (x := (2, x.text)) (y := (2, x.text ++ l[i].Text)) rfl hk).symm
  · have hs : Kcs B = Kcs A ++ [(2, l[i].Text)] := by
      show (B.map cont).map ktC = _
      rw [hB, List.map_append]; rfl
    rw [hs] at more ⊢
    refine more (fun r => ?_) ?_
    · unfold sumK; rw [zpa]; rfl
    · unfold elK; rw [zpa]; omega
end
def TxB (A : List za0) (M : Nat) : Prop := ∀ x ∈ A, x.text.size ≤ M
theorem TxB.of {A B : List za0} {M N : Nat} {l : List Ct} (h : TxB A M) (hMN : M ≤ N) (hl : ∀ y ∈ l, y.2.1.size ≤ N) (hc : B.map cont = A.map cont ++ l) : TxB B N := fun x hx => by
  have : cont x ∈ A.map cont ++ l := by rw [← hc]; exact List.mem_map_of_mem hx
  rcases List.mem_append.1 this with h1 | h1
  · obtain ⟨y, hy, e⟩ := List.mem_map.1 h1
    have e2 : y.text = x.text := congrArg (fun z : Ct => z.2.1) e
    rw [← e2]; exact Nat.le_trans (h y hy) hMN
  · exact hl _ h1
theorem TxB.puts {A B : List za0} {M N m : Nat} {P : ByteArray → Prop} (h : TxB A M) (hMN : M ≤ N) (hp : Puts A B m P) : TxB B N := by
  obtain ⟨l, h1, _, h3⟩ := hp
  exact h.of hMN (fun y hy => by rw [(h3 y hy).1]; exact Nat.zero_le _) h1
theorem Build_T {l : List za4} (hl : l.length ≤ 100) (ha : ∀ x ∈ l, x.Attrs.length ≤ 1000000 ∧ x.Text.size ≤ 10000000) (hg : ∀ x ∈ l, TkG x) : T (fun k _ => zhg k l) (BuQ (Fine l)) := by
  have fin : ∀ (i : Nat) (b : za2) (A : List za0), l.length ≤ i → Bd b A → A.length ≤ 4096 → Fine (l.take i) (Kcs A) → T (fun k _ => zfy k b.open_ b.count b.deep A) (BuQ (Fine l)) := fun i b A hi hb hA hF => by
    rw [List.take_of_length_le hi] at hF
    unfold zfy
    refine T.bif (fun _ => T.some (.no (by decide))) fun _ => T.bind (T.fl (part_T hb.inv (by omega) _ 0 (Nat.le_refl _) (by have := hb.opn.ne; have := hb.opn.len; omega))) fun p hp => ?_
    obtain ⟨ls, hp⟩ := hp
    exact T.bind (Make_T hb.inv (by omega) hb.att hp) fun r hr => T.some ⟨hr.1, hr.2.1, fun e => hF.perm (hr.2.2 e)⟩
  have key : ∀ (m i : Nat) (b : za2) (A : List za0), l.length - i ≤ m → i ≤ l.length → Bd b A → A.length ≤ 4096 → TxB A (i * 10000000) → Fine (l.take i) (Kcs A) → T (fun k n => zb1 k l n b.open_ b.count b.deep (i : Int) A) (BuQ (Fine l)) := by
    intro m
    induction m with
    | zero =>
      intro i b A h hi hb hA hT hF
      refine T.step ?_
      unfold zb1
      exact T.dec (fun _ => by omega) fun _ => fin i b A (by omega) hb hA hF
    | succ m ih =>
      intro i b A h hi hb hA hT hF
      refine T.step ?_
      unfold zb1 zfx zfv zfw
      refine T.dec (fun h1 => ?_) fun h1 => fin i b A (by omega) hb hA hF
      have h1 : i < l.length := by omega
      have nx : ∀ (b' : za2) (B : List za0), Bd b' B → TxB B ((i + 1) * 10000000) → Fine (l.take (i + 1)) (Kcs B) → T (fun k n => zf3 (i : Int) (zb1 k l n) b'.open_ b'.count b'.deep B) (BuQ (Fine l)) := fun b' B hb' hT' hF' => by
        unfold zf3
        refine T.dec (fun _ => T.some (.no (by decide))) fun hc => ?_
        rw [zcj (by omega)]
        have := hb'.cnt
        exact ih (i + 1) b' B (by omega) (by omega) hb' (by omega) hT' hF'
      have hx := ha _ (List.getElem_mem h1)
      have hG := hg _ (List.getElem_mem h1)
      have hT1 : TxB A ((i + 1) * 10000000) := fun x hx => Nat.le_trans (hT x hx) (by omega)
      have same : l[i].Kind ≠ 1 → l[i].Kind ≠ 2 → Fine (l.take (i + 1)) (Kcs A) := fun a b => hF.puts h1 (c := []) (by simp) (by simp) a fun e => absurd e b
      refine T.getN (List.getElem?_eq_getElem h1) (T.dec (fun hk1 => T.dec (fun _ => T.bind (chars_T (b := ⟨b.open_, b.count, b.deep⟩) hb (by omega) fun x hx' => ?_) fun r hr => nx _ _ hr.1 ?_ (hF.chars h1 hk1 (hG.2 hk1) hr.2)) fun hne => ?_) fun hk1 =>
        T.dec (fun hk2 => T.bind (zt1 (b := ⟨b.open_, b.count, b.deep⟩) (hG.1 hk2) hb (by omega) hx.1) fun r hr => nx _ _ hr.1 (hT.puts (by omega) hr.2.1) ?_) fun hk2 =>
        T.dec (fun _ => T.bind (closed_T (b := ⟨b.open_, b.count, b.deep⟩) hb (by omega)) fun r hr => nx _ _ hr.1 (hT.puts (by omega) hr.2) ?_) fun _ => nx b A hb hT1 (same hk1 hk2))
      · have := hT x hx'; omega
      · rcases hr.2 with ⟨e, _⟩ | ⟨j, x, g1, _, e⟩ | e
        · rw [e]; exact hT1
        · rw [e]
          intro y hy
          rcases List.mem_or_eq_of_mem_set hy with hy | rfl
          · exact hT1 y hy
          · have := hT x (List.mem_of_getElem? g1)
            show (x.text ++ _).size ≤ _
            rw [ByteArray.size_append]; omega
        · exact hT.of (by omega) (fun y hy => by rw [List.mem_singleton.1 hy]; show l[i].Text.size ≤ _; omega) e
      · have := Go.V.fr1_size (hG.2 hk1)
        rw [Decidable.not_not.1 hne] at this
        cases this
      · obtain ⟨c, g1, g2, g3⟩ := hr.2.1
        obtain ⟨c', k1, y, k2, _⟩ := hr.2.2.1
        obtain rfl : c = c' := List.append_cancel_left (g1.symm.trans k1)
        refine hF.puts h1 g1 (fun y hy => ⟨(g3 y hy).1, ?_⟩) hk1 fun _ => List.length_pos_of_mem k2
        rcases (g3 y hy).2.2 with e | e
        · rw [e]; exact hG.1 hk2
        · rw [e]; decide
      · obtain ⟨c, g1, g2, g3⟩ := hr.2
        exact hF.puts h1 g1 (fun y hy => ⟨(g3 y hy).1,(g3 y hy).2.2⟩) hk1 fun e => absurd e hk2
  unfold zhg
  refine T.diag (F := fun k n => zb1 k l n [0] 1 false 0 ([] ++ [({name := (bs [114,111,111,116]), text := (bs []), attrs := ([] : List zam), above := (-1 : Int), kids := ([] : List Int)} : za0)])) (key _ 0 ⟨[0],1, false⟩ _ (Nat.le_refl _) (Nat.zero_le _) ⟨⟨⟨_, rfl, rfl⟩, fun i x hx h0 => ?_, fun i x hx k hk => ?_, fun i x hx => ?_, fun i x hx _ => ?_⟩, ⟨fun j k hj => ?_, by simp, by simp⟩, rfl, ?_, fun c hc x hx => ?_⟩ (by simp) (fun x hx => ?_) ⟨fun r => ?_, ?_⟩)
  · have := (List.getElem?_eq_some_iff.1 hx).1
    simp at this; omega
  · obtain rfl := List.mem_singleton.1 (List.mem_of_getElem? hx)
    cases hk
  · obtain rfl := List.mem_singleton.1 (List.mem_of_getElem? hx)
    simp
  · obtain rfl := List.mem_singleton.1 (List.mem_of_getElem? hx)
    rfl
  · have := (List.getElem?_eq_some_iff.1 hj).1
    obtain rfl : j = 0 := by simp at this; omega
    cases hj
    exact ⟨0, rfl, by simp, fun h => by omega⟩
  · intro x hx
    obtain rfl := List.mem_singleton.1 hx
    simp
  · obtain rfl := List.mem_singleton.1 (List.mem_of_getElem? hx)
    decide
  · obtain rfl := List.mem_singleton.1 hx
    exact Nat.zero_le _
  · exact ⟨Nat.le_refl _, fun _ => rfl⟩
  · exact Nat.le_refl _
end Go.Proofs.YtdjjeahiomackaaGreat
