/-
  Walks and laws of this seat.
-/
import Derived.Test.YtdjjeahiomackaaGreatBasf
import Derived.Test.YtdjjeahiomackaaGreatTc
namespace Go.Sl
set_option linter.unusedVariables false
set_option linter.unusedSimpArgs false
set_option linter.unusedSectionVars false
def byL (s : ByteArray) : List Nat := s.data.toList.map (·.toNat)
theorem zhm (s : ByteArray) : (byL s).length = s.size := by rw [byL, List.length_map]; rfl
def contL (l : List Nat) (k : Nat) : Bool := match l[k]? with
  | some b => b / 64 == 2
  | none => false
def decU (l : List Nat) : Nat × Nat :=
  let b0 := l.getD 0 0
  if b0 < 128 then (b0,1)
  else if b0 / 32 == 6 && contL l 1 then
    let c := (b0 % 32) * 64 + l.getD 1 0 % 64
    if c ≥ 128 then (c,2) else (65533,1)
  else if b0 / 16 == 14 && contL l 1 && contL l 2 then
    let c := (b0 % 16) * 4096 + (l.getD 1 0 % 64) * 64 + l.getD 2 0 % 64
    if c ≥ 2048 && Utf8.valid c then (c,3) else (65533,1)
  else if b0 / 8 == 30 && contL l 1 && contL l 2 && contL l 3 then
    let c := (b0 % 8) * 262144 + (l.getD 1 0 % 64) * 4096 + (l.getD 2 0 % 64) * 64 + l.getD 3 0 % 64
    if c ≥ 65536 && Utf8.valid c then (c,4) else (65533,1)
  else (65533,1)
theorem getS8 (s : ByteArray) (i : Nat) : (s.get! i).toNat = (byL s).getD i 0 := by
  obtain ⟨d⟩ := s
  show (d[i]!).toNat = (d.toList.map (·.toNat)).getD i 0
  rw [List.getD_eq_getElem?_getD, List.getElem?_map]
  by_cases h : i < d.size
  · rw [getElem!_pos d i h, Array.getElem?_toList, Array.getElem?_eq_getElem h]; rfl
  · rw [getElem!_neg d i h, Array.getElem?_toList, Array.getElem?_eq_none (by omega)]; rfl
theorem zsk (s : ByteArray) (i : Nat) : Utf8.decode s i = decU ((byL s).drop i) := by
  have g : ∀ k,(s.get! (i + k)).toNat = ((byL s).drop i).getD k 0 := fun k => by
    rw [getS8, List.getD_eq_getElem?_getD, List.getD_eq_getElem?_getD, List.getElem?_drop]
  have c : ∀ k,(decide (i + k < s.size) && ((byL s).drop i).getD k 0 / 64 == 2) = contL ((byL s).drop i) k := fun k => by
    rw [contL, List.getD_eq_getElem?_getD, List.getElem?_drop]
    by_cases h : i + k < s.size
    · have h' : i + k < (byL s).length := by rw [zhm]; exact h
      rw [List.getElem?_eq_getElem h']
      simp [h]
    · have h' : (byL s).length ≤ i + k := by rw [zhm]; omega
      rw [List.getElem?_eq_none h']
      simp [h]
  simp only [Utf8.decode, decU, g, Utf8.runeError, c]
def runesL : Nat → List Nat → List Int
  | 0, _ => []
  | _ + 1,[] => []
  | m + 1, b :: l => ((decU (b :: l)).1 : Int) :: runesL m ((b :: l).drop (decU (b :: l)).2)
theorem zmo (s : ByteArray) : ∀ (m i : Nat), runesFr s m i = runesL m ((byL s).drop i)
  | 0, i => rfl
  | m + 1, i => by
    simp only [runesFr]
    cases e : (byL s).drop i with
    | nil =>
      have : s.size ≤ i := by rw [← zhm]; exact List.drop_eq_nil_iff.1 e
      rw [if_neg (by omega)]; rfl
    | cons b l =>
      have : i < s.size := by
        rw [← zhm]
        apply Nat.lt_of_not_le
        intro h
        rw [List.drop_eq_nil_iff.2 h] at e; cases e
      rw [if_pos this, zmo s m, zsk, e]
      simp only [runesL]
      rw [← e, List.drop_drop]
def runesS (l : List Nat) : List Int := runesL l.length l
theorem zji (s : ByteArray) : runesIn s = runesS (byL s) := by rw [runesIn, zmo, runesS, zhm]; rfl
theorem zmg (l : List Nat) : 1 ≤ (decU l).2 := by
  simp only [decU]
  repeat' split
  all_goals simp
theorem zne : ∀ (m k : Nat) (l : List Nat), l.length ≤ m → runesL (m + k) l = runesL m l
  | 0, k, l, h => by
    have : l = [] := List.eq_nil_of_length_eq_zero (by omega)
    subst this
    cases k <;> rfl
  | m + 1, k,[], h => by rw [show m + 1 + k = (m + k) + 1 by omega]; rfl
  | m + 1, k, b :: l, h => by
    rw [show m + 1 + k = (m + k) + 1 by omega]
    simp only [runesL]
    rw [zne m k _ (by have := zmg (b :: l); simp at h ⊢; omega)]
theorem zpb {m : Nat} {l : List Nat} (h : l.length ≤ m) : runesL m l = runesS l := by
  have := zne l.length (m - l.length) l (Nat.le_refl _)
  rwa [show l.length + (m - l.length) = m by omega] at this
theorem ztt : runesS [] = [] := rfl
theorem znd (b : Nat) (l : List Nat) : runesS (b :: l) = ((decU (b :: l)).1 : Int) :: runesS ((b :: l).drop (decU (b :: l)).2) := by
  have := zmg (b :: l)
  rw [runesS, List.length_cons, runesL, zpb (by simp; omega)]
def fresh (t : List Nat) : Prop := contL t 0 = false
theorem zsl : ∀ (l t : List Nat), l ≠ [] → fresh t → decU (l ++ t) = decU l ∧ (decU l).2 ≤ l.length := by
  intro l t hl ht
  unfold fresh at ht
  match l, hl with
  | [b0], _ =>
    have h1 : contL ([b0] ++ t) 1 = false := by simpa [contL] using ht
    have h2 : contL [b0] 1 = false := by simp [contL]
    simp only [decU, h1, h2, Bool.and_false, Bool.false_and]
    simp
    split <;> simp
  | [b0, b1], _ =>
    have h1 : contL ([b0, b1] ++ t) 2 = false := by simpa [contL] using ht
    have h2 : contL [b0, b1] 2 = false := by simp [contL]
    have h3 : contL ([b0, b1] ++ t) 1 = contL [b0, b1] 1 := by simp [contL]
    simp only [decU, h1, h2, h3, Bool.and_false, Bool.false_and]
    simp
    repeat' split
    all_goals simp
  | [b0, b1, b2], _ =>
    have h1 : contL ([b0, b1, b2] ++ t) 3 = false := by simpa [contL] using ht
    have h2 : contL [b0, b1, b2] 3 = false := by simp [contL]
    have h3 : contL ([b0, b1, b2] ++ t) 1 = contL [b0, b1, b2] 1 := by simp [contL]
    have h4 : contL ([b0, b1, b2] ++ t) 2 = contL [b0, b1, b2] 2 := by simp [contL]
    simp only [decU, h1, h2, h3, h4, Bool.and_false]
    simp
    repeat' split
    all_goals simp
  | b0 :: b1 :: b2 :: b3 :: l, _ =>
    have h3 : contL ((b0 :: b1 :: b2 :: b3 :: l) ++ t) 1 = contL (b0 :: b1 :: b2 :: b3 :: l) 1 := by simp [contL]
    have h4 : contL ((b0 :: b1 :: b2 :: b3 :: l) ++ t) 2 = contL (b0 :: b1 :: b2 :: b3 :: l) 2 := by simp [contL]
    have h5 : contL ((b0 :: b1 :: b2 :: b3 :: l) ++ t) 3 = contL (b0 :: b1 :: b2 :: b3 :: l) 3 := by simp [contL]
    simp only [decU, h3, h4, h5]
    simp
    repeat' split
    all_goals simp
    all_goals omega
theorem zlf {t : List Nat} (ht : fresh t) : ∀ (m : Nat) (l : List Nat), l.length ≤ m → runesS (l ++ t) = runesS l ++ runesS t
  | _,[], _ => by simp [ztt]
  | 0, _ :: _, h => by simp at h
  | m + 1, b :: l, h => by
    obtain ⟨h1, h2⟩ := zsl (b :: l) t (by simp) ht
    have h3 := zmg (b :: l)
    rw [List.cons_append, znd, znd, ← List.cons_append, h1, List.drop_append_of_le_length h2, zlf ht m _ (by simp at h ⊢; omega)]
    rfl
theorem byL_lt (s : ByteArray) : ∀ b ∈ byL s, b < 256 := by
  intro b hb
  simp only [byL, List.mem_map] at hb
  obtain ⟨u, _, rfl⟩ := hb
  exact u.toNat_lt
def encU (c : Nat) : List Nat :=
  if c < 128 then [c]
  else if c < 2048 then [192 + c / 64,128 + c % 64]
  else if c < 65536 then [224 + c / 4096,128 + c / 64 % 64,128 + c % 64]
  else [240 + c / 262144,128 + c / 4096 % 64,128 + c / 64 % 64,128 + c % 64]
theorem zu7 {c : Nat} (h : Utf8.valid c = true) : byL (Utf8.encode c) = encU c := by
  have hc : c ≤ 1114111 := by simp [Utf8.valid] at h; omega
  have key : ∀ n, n < 256 → (UInt8.ofNat n).toNat = n := fun n hn => by simp; omega
  simp only [Utf8.encode, h, if_true, Int.toNat_natCast, encU]
  split
  · rw [byL]; simp only [List.map_cons, List.map_nil]; rw [key _ (by omega)]
  · split
    · rw [byL]; simp only [List.map_cons, List.map_nil]; rw [key _ (by omega), key _ (by omega)]
    · split
      · rw [byL]; simp only [List.map_cons, List.map_nil]; rw [key _ (by omega), key _ (by omega), key _ (by omega)]
      · rw [byL]; simp only [List.map_cons, List.map_nil]; rw [key _ (by omega), key _ (by omega), key _ (by omega), key _ (by omega)]
theorem zp3 (s t : ByteArray) : byL (s ++ t) = byL s ++ byL t := by simp [byL]
theorem zo3 (s : ByteArray) : bytesOf (bytesIn s) = s := by
  unfold bytesOf bytesIn
  rw [List.map_map]
  have : (fun n : Int => UInt8.ofNat n.toNat) ∘ (fun b : UInt8 => (b.toNat : Int)) = id := by
    funext b; simp
  rw [this, List.map_id]
end Go.Sl
namespace Go.V
set_option linter.unusedVariables false
set_option linter.unusedSimpArgs false
set_option linter.unusedSectionVars false
section
set_option maxRecDepth 100000
open Go.RowKit Go.Sl
theorem T.bindE {α β : Type} {m : Nat → Nat → Option α} {a : α} {G : Nat → Nat → α → Option β} {Q : β → Prop} (h : T m (· = a)) (g : T (fun k n => G k n a) Q) : T (fun k n => (m k n).bind fun r => G k n r) Q := T.bind h fun r e => e ▸ g
theorem T.ofE {α : Type} {m : Option α} {a : α} (h : m = Option.some a) : T (fun _ _ => m) (· = a) := T.of h rfl
theorem zkv : ∀ (xs : List Int) (s : ByteArray), xs.foldl (fun s r => s ++ Utf8.encode r) s = s ++ textOf xs
  | [], s => by simp [textOf]
  | x :: xs, s => by
    rw [textOf, List.foldl_cons, List.foldl_cons, zkv xs, zkv xs]
    simp [ByteArray.append_assoc]
theorem znc (x : Int) (xs : List Int) : textOf (x :: xs) = Utf8.encode x ++ textOf xs := by
  rw [textOf, List.foldl_cons, zkv]
  simp
def fr1 (s : ByteArray) : Bool := match byL s with
  | b :: _ => b / 64 != 2
  | [] => false
theorem zr9 {s : ByteArray} (h : fr1 s = true) : fresh (byL s) := by
  unfold fr1 at h
  unfold fresh contL
  cases e : byL s with
  | nil => rfl
  | cons b l =>
    rw [e] at h
    show (b / 64 == 2) = false
    simpa using h
theorem zsg {s t : ByteArray} (h : fr1 s = true) : fr1 (s ++ t) = true := by
  unfold fr1 at h ⊢
  rw [zp3]
  cases e : byL s with
  | nil => rw [e] at h; cases h
  | cons b l => rw [e] at h; exact h
theorem zr8 {c : Nat} (h : Utf8.valid c = true) : fr1 (Utf8.encode c) = true := by
  have : ∃ b l, encU c = b :: l ∧ b / 64 ≠ 2 := by
    unfold encU
    split
    · exact ⟨_, _, rfl, by omega⟩
    · split
      · exact ⟨_, _, rfl, by omega⟩
      · split
        · exact ⟨_, _, rfl, by omega⟩
        · exact ⟨_, _, rfl, by omega⟩
  obtain ⟨b, l, e1, e2⟩ := this
  unfold fr1
  rw [zu7 h, e1]
  show (b / 64 != 2) = true
  simpa using e2
theorem zu3 {x : Int} (h : ¬ Utf8.valid x = true) : Utf8.encode x = Utf8.encode ((65533 : Nat) : Int) := by
  have hv : Utf8.valid ((65533 : Nat) : Int) = true := by simp [Utf8.valid]
  simp only [Utf8.encode, h, hv, if_true, Int.toNat_natCast, Utf8.runeError]
  rfl
theorem zu2 (x : Int) : fr1 (Utf8.encode x) = true := by
  by_cases h : Utf8.valid x = true
  · have hx : 0 ≤ x := by simp [Utf8.valid] at h; omega
    obtain ⟨c, rfl⟩ : ∃ c : Nat, x = c := ⟨x.toNat, by omega⟩
    exact zr8 h
  · rw [zu3 h]
    exact zr8 (c := 65533) (by simp [Utf8.valid])
theorem zka {xs : List Int} (h : xs ≠ []) : fr1 (textOf xs) = true := by
  cases xs with
  | nil => exact absurd rfl h
  | cons x xs => rw [znc]; exact zsg (zu2 x)
theorem fr1_size {s : ByteArray} (h : fr1 s = true) : 0 < s.size := by
  unfold fr1 at h
  rw [← zhm]
  cases e : byL s with
  | nil => rw [e] at h; cases h
  | cons b l => simp
theorem ztb (x : Int) : (Utf8.encode x).size ≤ 4 := by
  simp only [Utf8.encode]
  repeat' split
  all_goals simp [ByteArray.size]
theorem zuq {l : List Int} (hl : (l.length : Int) ≤ 1000000000) : T (fun k _ => zgl k l) fun _ => True := by
  have key : ∀ (m : Nat) (i : Int) (v : List Int), l.length - i.toNat ≤ m → 0 ≤ i → i ≤ l.length → (v.length : Int) ≤ i → T (fun _ n => zc7 n l v i) fun _ => True := by
    intro m
    induction m with
    | zero =>
      intro i v h h0 h1 hv
      refine T.step ?_
      unfold zc7
      refine T.dec (fun _ => ?_) (fun _ => T.some trivial)
      omega
    | succ m ih =>
      intro i v h h0 h1 hv
      refine T.step ?_
      unfold zc7
      refine T.dec (fun _ => ?_) (fun _ => T.some trivial)
      rw [w64i (by omega)]
      have nx : ∀ x : Int, T (fun _ n => (appM 4 v [x]).bind fun r => zc7 n l r (i + 1)) fun _ => True := fun x =>
        T.app (by simp; omega) (by simp; omega) (ih _ _ (by omega) (by omega) (by omega) (by simp; omega))
      refine T.get h0 (by omega) fun r _ => T.dec (fun _ => T.dec (fun _ => nx _) fun _ => nx _) fun _ => nx _
  exact T.diag (key _ 0 [] (Nat.le_refl _) (by omega) (by omega) (by simp))
theorem zkd {r : Int} : T (fun _ _ => zdq r) fun _ => True := by
  unfold zdq
  exact T.dec (fun _ => T.some trivial) fun _ => T.dec (fun _ => T.some trivial) fun _ => T.dec (fun _ => T.some trivial) fun _ => T.some trivial
end
section
set_option maxRecDepth 100000
open Go.RowKit Go.Sl
theorem zns {r : Int} : T (fun _ _ => zdw r) fun _ => True := by
  unfold zdw
  exact T.dec (fun _ => T.dec (fun _ => T.some trivial) fun _ => T.dec (fun _ => T.some trivial) fun _ => T.some trivial) fun _ => T.dec (fun _ => T.some trivial) fun _ => T.some trivial
theorem zrp {l : List Int} (hl : (l.length : Int) ≤ 1000000000) {i : Int} (h0 : 0 ≤ i) (h1 : i ≤ l.length) : T (fun k _ => zix k l i) fun j => i ≤ j ∧ j ≤ l.length := by
  have key : ∀ (m : Nat) (j : Int), l.length - j.toNat ≤ m → i ≤ j → j ≤ l.length → T (fun _ n => zf6 n l j) fun r => i ≤ r ∧ r ≤ l.length := by
    intro m
    induction m with
    | zero =>
      intro j h g0 g1
      refine T.step ?_
      unfold zf6
      exact T.dec (fun _ => by omega) fun _ => T.some ⟨g0, g1⟩
    | succ m ih =>
      intro j h g0 g1
      refine T.step ?_
      unfold zf6
      rw [w64i (by omega)]
      exact T.dec (fun hj => T.get (by omega) hj fun _ _ => T.bind zkd fun _ _ => T.bif (fun _ => ih _ (by omega) (by omega) (by omega)) fun _ => T.some ⟨g0, g1⟩) fun _ => T.some ⟨g0, g1⟩
  exact T.diag (F := fun _ n => ziw n l i) (key _ i (Nat.le_refl _) (Int.le_refl _) h1)
theorem is4_T {l : List Int} (hl : (l.length : Int) ≤ 1000000000) {i : Int} (h0 : 0 ≤ i) (h1 : i ≤ l.length) {s : ByteArray} (hs : s.size ≤ 1000000000) : T (fun k _ => znj k l i s) fun b => b = true → i + s.size ≤ l.length := by
  have key : ∀ (m : Nat) (j : Int), s.size - j.toNat ≤ m → 0 ≤ j → j ≤ s.size → i + j ≤ l.length → T (fun _ n => zik n l i s j) fun b => b = true → i + s.size ≤ l.length := by
    intro m
    induction m with
    | zero =>
      intro j h g0 g1 g2
      refine T.step ?_
      unfold zik
      exact T.dec (fun _ => by omega) fun _ => T.some fun _ => by omega
    | succ m ih =>
      intro j h g0 g1 g2
      refine T.step ?_
      unfold zik
      rw [w64i (i := i + j) (by omega), w64i (i := j + 1) (by omega)]
      refine T.dec (fun hj => T.dec (fun _ => T.some (by simp)) fun h3 => T.get (by omega) (by omega) fun _ _ => ?_) fun _ => T.some fun _ => by omega
      unfold getS
      exact T.get g0 (by rw [zb9]; exact hj) fun _ _ => T.dec (fun _ => T.some (by simp)) fun _ => ih _ (by omega) (by omega) (by omega) (by omega)
  exact T.diag (F := fun _ n => zni n l i s) (key _ 0 (Nat.le_refl _) (by omega) (by omega) (by omega))
theorem zrq {l : List Int} (hl : (l.length : Int) ≤ 1000000000) {i : Int} (h0 : 0 ≤ i) (h1 : i ≤ l.length) {s : ByteArray} (hs : s.size ≤ 1000000000) : T (fun k _ => ziz k l i s) fun j => i ≤ j ∧ j ≤ l.length ∧ (1 ≤ s.size → i < l.length → i < j) := by
  have key : ∀ (m : Nat) (j : Int), l.length - j.toNat ≤ m → i ≤ j → j ≤ l.length → T (fun k n => zf7 k n l j s) fun r => i ≤ r ∧ r ≤ l.length ∧ (1 ≤ s.size → i < l.length → i < r) := by
    intro m
    induction m with
    | zero =>
      intro j h g0 g1
      refine T.step ?_
      unfold zf7
      exact T.dec (fun _ => by omega) fun _ => T.some ⟨by omega, by omega, fun _ _ => by omega⟩
    | succ m ih =>
      intro j h g0 g1
      refine T.step ?_
      unfold zf7
      refine T.dec (fun hj => T.bind (is4_T hl (by omega) g1 hs) fun b hb => T.bif (fun e => T.some ?_) fun _ => ?_) fun _ => T.some ⟨by omega, by omega, fun _ _ => by omega⟩
      · have := hb e
        rw [w64i (by omega)]; exact ⟨by omega, by omega, fun _ _ => by omega⟩
      · rw [w64i (by omega)]
        exact ih _ (by omega) (by omega) (by omega)
  exact T.diag (F := fun k n => ziy k n l i s) (key _ i (Nat.le_refl _) (Int.le_refl _) h1)
theorem zrr {l : List Int} (hl : (l.length : Int) ≤ 1000000000) {i : Int} (h0 : 0 ≤ i) (h1 : i < l.length) : T (fun _ _ => zfq l i) fun b => b = true → i + 1 < l.length := by
  unfold zfq
  refine T.get h0 h1 fun _ _ => T.dec (fun _ => T.some (by simp)) fun _ => ?_
  rw [w64i (by omega)]
  refine T.dec (fun _ => T.some (by simp)) fun h2 => T.get (by omega) (by omega) fun _ _ => T.bind zns fun _ _ => ?_
  exact T.bif (fun _ => T.some fun _ => by omega) fun _ => T.dec (fun _ => T.some fun _ => by omega) fun _ => T.dec (fun _ => T.some fun _ => by omega) fun _ => T.some fun _ => by omega
theorem add4_T {l : List AttT} (hl : (l.length : Int) ≤ 64) {x : AttT} : T (fun k _ => zpk k l x) fun r => (r.length : Int) ≤ 64 := by
  have key : ∀ (m : Nat) (j : Int), l.length - j.toNat ≤ m → 0 ≤ j → j ≤ l.length → T (fun _ n => zhi n l x j) fun r => (r.length : Int) ≤ 64 := by
    intro m
    have fin : T (fun _ _ => bif decide (64 ≤ (l.length : Int)) then some l else ((appM 32 l ([x])).bind fun r3 => some r3)) fun r => (r.length : Int) ≤ 64 := T.dec (fun _ => T.some hl) fun h => T.app (by simp; omega) (by simp; omega) (T.some (by simp; omega))
    induction m with
    | zero =>
      intro j h g0 g1
      refine T.step ?_
      unfold zhi
      exact T.dec (fun _ => by omega) fun _ => fin
    | succ m ih =>
      intro j h g0 g1
      refine T.step ?_
      unfold zhi
      rw [w64i (by omega)]
      exact T.dec (fun hj => T.get g0 hj fun _ _ => T.get g0 hj fun _ _ => T.dec (fun _ => T.some hl) fun _ => ih _ (by omega) (by omega) (by omega)) fun _ => fin
  exact T.diag (F := fun _ n => zm9 n l x) (key _ 0 (Nat.le_refl _) (by omega) (by omega))
theorem zth {a b : Int} : T (fun _ _ => zhh a b) fun _ => True := by
  have k1 : ∀ y, T (fun _ _ => zg4 y a b) fun _ => True := fun y => by
    unfold zg4
    exact T.dec (fun _ => T.dec (fun _ => T.dec (fun _ => T.some trivial) fun _ => T.some trivial) fun _ => T.dec (fun _ => T.some trivial) fun _ => T.some trivial) fun _ => T.dec (fun _ => T.some trivial) fun _ => T.some trivial
  have k0 : ∀ y, T (fun _ _ => zg5 y a b) fun _ => True := fun y => by
    unfold zg5
    exact T.dec (fun _ => T.dec (fun _ => k1 _) fun _ => k1 _) fun _ => k1 _
  unfold zhh
  exact T.dec (fun _ => T.dec (fun _ => k0 _) fun _ => k0 _) fun _ => k0 _
end
section
set_option maxRecDepth 100000
open Go.RowKit Go.Sl
theorem T.getSb {s : ByteArray} {i : Int} {β : Type} {G : Nat → Nat → Int → Option β} {Q : β → Prop} (h0 : 0 ≤ i) (h1 : i < s.size) (g : ∀ r, T (fun k n => G k n r) Q) : T (fun k n => (getS s i).bind fun r => G k n r) Q := by
  unfold getS
  exact T.get h0 (by rw [zb9]; exact h1) fun r _ => g r
theorem T.cutSb {s : ByteArray} {a b : Int} {β : Type} {G : Nat → Nat → ByteArray → Option β} {Q : β → Prop} (h0 : 0 ≤ a) (h1 : a ≤ b) (h2 : b ≤ s.size) (g : ∀ r : ByteArray, r.size = (b - a).toNat → T (fun k n => G k n r) Q) : T (fun k n => (cutS s a b).bind fun r => G k n r) Q := by
  have e : cutS s a b = Option.some (s.extract a.toNat b.toNat) := by
    have q : (decide ((0 : Int) ≤ a) && decide (a ≤ b) && decide (b ≤ (s.size : Int))) = true := by
      rw [decide_eq_true h0, decide_eq_true h1, decide_eq_true h2]; rfl
    unfold cutS
    rw [q]; rfl
  refine T.bind (T.of (P := fun r => r.size = (b - a).toNat) e ?_) g
  rw [ByteArray.size_extract]; omega
def RefOK (s : ByteArray) (i : Int) (r : ByteArray × Int) : Prop := 0 < r.2 → i < r.2 ∧ r.2 ≤ s.size ∧ r.1.size ≤ 4 ∧ fr1 r.1 = true
theorem textOf1 {x : Int} : (textOf [x]).size ≤ 4 := by
  have : textOf [x] = Utf8.encode x := by
    show ByteArray.empty ++ Utf8.encode x = _
    simp
  rw [this]
  simp only [Utf8.encode]
  repeat' split
  all_goals simp [ByteArray.size]
theorem zqt {s : ByteArray} (hs : (s.size : Int) ≤ 1000000000) {i : Int} (h0 : 0 ≤ i) (h1 : i < s.size) : T (fun k _ => zi7 k s i) (RefOK s i) := by
  have no : RefOK s i (bs [],0) := fun h => absurd h (by decide)
  have c0 : ∀ p q v : Int, i < p → p ≤ s.size → T (fun _ _ => zd9 p q s v) (RefOK s i) := fun p q v hp hp2 => by
    unfold zd9
    rw [w64i (i := p + 1) (by omega)]
    have ok : ∀ x : Int, p < s.size → RefOK s i (textOf [x], p + 1) := fun x h _ => ⟨by show i < p + 1; omega, by show p + 1 ≤ s.size; omega, textOf1, zka (by simp)⟩
    refine T.dec (fun _ => T.some no) fun _ => T.dec (fun _ => T.some no) fun _ => T.dec (fun _ => T.some no) fun h3 => T.getSb (by omega) (by omega) fun _ => T.dec (fun _ => T.some no) fun _ => ?_
    exact T.dec (fun _ => T.some (ok _ (by omega))) fun _ => T.dec (fun _ => T.some (ok _ (by omega))) fun _ => T.dec (fun _ => T.dec (fun _ => T.some (ok _ (by omega))) fun _ => T.some (ok _ (by omega))) fun _ => T.some (ok _ (by omega))
  have k17 : ∀ (m : Nat) (p b q v : Int), s.size - p.toNat ≤ m → i < p → p ≤ s.size → T (fun _ n => zaz n s p b q v) (RefOK s i) := by
    intro m
    induction m with
    | zero =>
      intro p b q v h hp hp2
      refine T.step ?_
      unfold zaz
      exact T.dec (fun _ => by omega) fun _ => c0 _ _ _ hp hp2
    | succ m ih =>
      intro p b q v h hp hp2
      refine T.step ?_
      unfold zaz
      rw [w64i (i := p + 1) (by omega)]
      exact T.dec (fun hl => T.getSb (by omega) hl fun _ => T.bind zth fun _ _ => T.dec (fun _ => T.dec (fun _ => T.getSb (by omega) hl fun _ => T.bind zth fun _ _ => ih _ _ _ _ (by omega) (by omega) (by omega)) fun _ => c0 _ _ _ hp hp2) fun _ => c0 _ _ _ hp hp2) fun _ => c0 _ _ _ hp hp2
  have k4 : ∀ (u v : List ByteArray), u.length = v.length → u.length ≤ 10 → (∀ x ∈ u,1 ≤ x.size ∧ x.size ≤ 10) → (∀ x ∈ v, x.size ≤ 4 ∧ fr1 x = true) → ∀ (m : Nat) (j : Int), u.length - j.toNat ≤ m → 0 ≤ j → j ≤ u.length → T (fun _ n => zd5 n s i u v j) (RefOK s i) := by
    intro u v hl hl2 hu hv m
    have fin : ∀ j, ¬ j < (u.length : Int) → T (fun _ n => bif decide ((s.size : Int) ≤ (w64 (i + 1))) then some (bs [],0) else (getS s (w64 (i + 1))).bind fun r7 => bif decide (r7 ≠ 35) then some (bs [],0) else bif decide ((w64 (i + 2)) < (s.size : Int)) then (getS s (w64 (i + 2))).bind fun r8 => bif decide (r8 = 120) then zaz n s (w64 ((w64 (i + 2)) + 1)) 16 (w64 ((w64 (i + 2)) + 1)) 0 else (getS s (w64 (i + 2))).bind fun r9 => bif decide (r9 = 88) then zaz n s (w64 ((w64 (i + 2)) + 1)) 16 (w64 ((w64 (i + 2)) + 1)) 0 else zaz n s (w64 (i + 2)) 10 (w64 (i + 2)) 0 else zaz n s (w64 (i + 2)) 10 (w64 (i + 2)) 0) (RefOK s i) := fun j _ => by
      rw [w64i (i := i + 1) (by omega), w64i (i := i + 2) (by omega), w64i (i := i + 2 + 1) (by omega)]
      exact T.dec (fun _ => T.some no) fun h2 => T.getSb (by omega) (by omega) fun _ => T.dec (fun _ => T.some no) fun _ => T.dec (fun h3 => T.getSb (by omega) h3 fun _ => T.dec (fun _ => k17 _ _ _ _ _ (Nat.le_refl _) (by omega) (by omega)) fun _ => T.getSb (by omega) h3 fun _ => T.dec (fun _ => k17 _ _ _ _ _ (Nat.le_refl _) (by omega) (by omega)) fun _ => k17 _ _ _ _ _ (Nat.le_refl _) (by omega) (by omega)) fun _ => k17 _ _ _ _ _ (Nat.le_refl _) (by omega) (by omega)
    induction m with
    | zero =>
      intro j h g0 g1
      refine T.step ?_
      unfold zd5
      exact T.dec (fun _ => by omega) fun hj => fin j hj
    | succ m ih =>
      intro j h g0 g1
      refine T.step ?_
      unfold zd5
      refine T.dec (fun hj => ?_) fun hj => fin j hj
      rw [w64i (i := j + 1) (by omega), w64i (i := (s.size : Int) - i) (by omega)]
      have nx := ih (j + 1) (by omega) (by omega) (by omega)
      refine T.get g0 hj fun x hx => T.dec (fun hx2 => T.get g0 hj fun y hy => ?_) fun _ => nx
      rw [hx] at hy; cases hy
      have hxs := hu x (List.mem_of_getElem? hx)
      rw [w64i (by omega)]
      refine T.cutSb h0 (by omega) (by omega) fun _ _ => T.get g0 hj fun _ _ => T.dec (fun _ => T.get g0 (by omega) fun z hz => T.get g0 hj fun y hy => ?_) fun _ => nx
      rw [hx] at hy; cases hy
      rw [w64i (by omega)]
      exact T.some fun _ => ⟨by show i < i + (x.size : Int); omega, by show i + (x.size : Int) ≤ s.size; omega, hv z (List.mem_of_getElem? hz)⟩
  refine T.diag (F := fun _ n => zfj n s i) ?_
  unfold zfj
  exact k4 _ _ (by decide) (by decide) (by decide) (by decide) _ 0 (Nat.le_refl _) (by omega) (by decide)
theorem zo4 (v w : List Int) : bytesOf (v ++ w) = bytesOf v ++ bytesOf w := by
  apply ByteArray.ext; simp [bytesOf]
theorem fr1_byte {s : ByteArray} {b : Int} (hs : fr1 s = true) (hb : (bytesIn s)[(0 : Int).toNat]? = some b) : fr1 (bytesOf ([] ++ [b])) = true := by
  have e : (byL s)[0]?.map (fun n : Nat => (n : Int)) = some b := by
    rw [← hb]; unfold byL bytesIn; simp; rfl
  unfold fr1 at hs
  cases q : byL s with
  | nil => rw [q] at hs; cases hs
  | cons c l =>
    rw [q] at hs e
    cases e
    have hc : c < 256 := byL_lt s c (by rw [q]; exact List.mem_cons_self ..)
    show fr1 ⟨#[UInt8.ofNat c]⟩ = true
    unfold fr1 byL
    simp [Nat.mod_eq_of_lt hc]
    simpa using hs
theorem znb {s : ByteArray} (hs : (s.size : Int) ≤ 100000000) : T (fun k _ => zed k s) fun r => r.size ≤ 4 * s.size ∧ (fr1 s = true → fr1 r = true) := by
  have key : ∀ (m : Nat) (v : List Int) (j : Int), s.size - j.toNat ≤ m → 0 ≤ j → j ≤ s.size → (v.length : Int) ≤ 4 * j → ((j = 0 ∧ v = []) ∨ (fr1 s = true → fr1 (bytesOf v) = true)) → T (fun k n => zce k n s v j) fun r => r.size ≤ 4 * s.size ∧ (fr1 s = true → fr1 r = true) := by
    intro m
    have fin : ∀ (v : List Int) (j : Int), j ≤ s.size → (v.length : Int) ≤ 4 * j → ((j = 0 ∧ v = []) ∨ (fr1 s = true → fr1 (bytesOf v) = true)) → ¬ j < s.size → (bytesOf v).size ≤ 4 * s.size ∧ (fr1 s = true → fr1 (bytesOf v) = true) := fun v j h1 h2 h3 h4 => by
      have : (bytesOf v).size = v.length := by simp [bytesOf, ByteArray.size]
      refine ⟨by rw [this]; omega, fun hf => ?_⟩
      rcases h3 with ⟨rfl, rfl⟩ | h3
      · have := fr1_size hf; omega
      · exact h3 hf
    induction m with
    | zero =>
      intro v j h g0 g1 hv hf
      refine T.step ?_
      unfold zce
      exact T.dec (fun _ => by omega) fun hj => T.some (fin v j g1 hv hf hj)
    | succ m ih =>
      intro v j h g0 g1 hv hf
      refine T.step ?_
      unfold zce
      refine T.dec (fun hj => ?_) fun hj => T.some (fin v j g1 hv hf hj)
      have c0 : T (fun k n => zep k (zce k n) s j v) fun r => r.size ≤ 4 * s.size ∧ (fr1 s = true → fr1 r = true) := by
        unfold zep
        rw [w64i (by omega)]
        unfold getS
        refine T.get g0 (by rw [zb9]; exact hj) fun b hb => T.app (by simp; omega) (by simp; omega) (ih _ _ (by omega) (by omega) (by omega) (by simp; omega) (.inr fun hs => ?_))
        rcases hf with ⟨rfl, rfl⟩ | hf
        · exact fr1_byte hs hb
        · rw [zo4]; exact zsg (hf hs)
      refine T.getSb g0 hj fun _ => T.dec (fun _ => T.bind (zqt (by omega) g0 hj) fun r hr => T.dec (fun hr2 => ?_) fun _ => c0) fun _ => c0
      obtain ⟨r1, r2, r3, r4⟩ := hr hr2
      have hbl := zb9 r.1
      refine T.app (by rw [hbl]; omega) (by rw [hbl]; omega) (ih _ _ (by omega) (by omega) (by omega) (by rw [List.length_append, hbl]; omega) (.inr fun hs => ?_))
      rw [zo4, zo3]
      rcases hf with ⟨rfl, rfl⟩ | hf
      · rw [show bytesOf [] = ByteArray.empty from rfl, ByteArray.empty_append]; exact r4
      · exact zsg (hf hs)
  exact T.diag (F := fun k n => zhs k n s) (key _ [] 0 (Nat.le_refl _) (by omega) (by omega) (by simp) (.inl ⟨rfl, rfl⟩))
end
end Go.V
