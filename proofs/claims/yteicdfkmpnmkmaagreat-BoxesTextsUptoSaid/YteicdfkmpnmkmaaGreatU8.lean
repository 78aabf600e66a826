/-
  Walks and laws of this seat.
-/
import Derived.Test.YteicdfkmpnmkmaaGreatBasf
namespace Go.Sl
set_option linter.unusedVariables false
set_option linter.unusedSimpArgs false
set_option linter.unusedSectionVars false
def byL (s : ByteArray) : List Nat := s.data.toList.map (·.toNat)
theorem zlr (s : ByteArray) : (byL s).length = s.size := by rw [byL, List.length_map]; rfl
def contL (l : List Nat) (k : Nat) : Bool := match l[k]? with
  | some b => b / 64 == 2
  | none => false
def decU (l : List Nat) : Nat × Nat :=
  let b0 := l.getD 0 0
  if b0 < 128 then (b0,1)
  else if b0 / 32 == 6 && contL l 1 then
    let c := (b0 % 32) * 64 + l.getD 1 0 % 64
    if c ≥ 128 then (c,2) else (65533,1)
  else if b0 / 16 == 14 && contL l 1 && contL l 2 then
    let c := (b0 % 16) * 4096 + (l.getD 1 0 % 64) * 64 + l.getD 2 0 % 64
    if c ≥ 2048 && Utf8.valid c then (c,3) else (65533,1)
  else if b0 / 8 == 30 && contL l 1 && contL l 2 && contL l 3 then
    let c := (b0 % 8) * 262144 + (l.getD 1 0 % 64) * 4096 + (l.getD 2 0 % 64) * 64 + l.getD 3 0 % 64
    if c ≥ 65536 && Utf8.valid c then (c,4) else (65533,1)
  else (65533,1)
theorem getS8 (s : ByteArray) (i : Nat) : (s.get! i).toNat = (byL s).getD i 0 := by
  obtain ⟨d⟩ := s
  show (d[i]!).toNat = (d.toList.map (·.toNat)).getD i 0
  rw [List.getD_eq_getElem?_getD, List.getElem?_map]
  by_cases h : i < d.size
  · rw [getElem!_pos d i h, Array.getElem?_toList, Array.getElem?_eq_getElem h]; rfl
  · rw [getElem!_neg d i h, Array.getElem?_toList, Array.getElem?_eq_none (by omega)]; rfl
theorem yam (s : ByteArray) (i : Nat) : Utf8.decode s i = decU ((byL s).drop i) := by
  have g : ∀ k,(s.get! (i + k)).toNat = ((byL s).drop i).getD k 0 := fun k => by
    rw [getS8, List.getD_eq_getElem?_getD, List.getD_eq_getElem?_getD, List.getElem?_drop]
  have c : ∀ k,(decide (i + k < s.size) && ((byL s).drop i).getD k 0 / 64 == 2) = contL ((byL s).drop i) k := fun k => by
    rw [contL, List.getD_eq_getElem?_getD, List.getElem?_drop]
    by_cases h : i + k < s.size
    · have h' : i + k < (byL s).length := by rw [zlr]; exact h
      rw [List.getElem?_eq_getElem h']
      simp [h]
    · have h' : (byL s).length ≤ i + k := by rw [zlr]; omega
      rw [List.getElem?_eq_none h']
      simp [h]
  simp only [Utf8.decode, decU, g, Utf8.runeError, c]
def runesL : Nat → List Nat → List Int
  | 0, _ => []
  | _ + 1,[] => []
  | m + 1, b :: l => ((decU (b :: l)).1 : Int) :: runesL m ((b :: l).drop (decU (b :: l)).2)
theorem zsr (s : ByteArray) : ∀ (m i : Nat), runesFr s m i = runesL m ((byL s).drop i)
  | 0, i => rfl
  | m + 1, i => by
    simp only [runesFr]
    cases e : (byL s).drop i with
    | nil =>
      have : s.size ≤ i := by rw [← zlr]; exact List.drop_eq_nil_iff.1 e
      rw [if_neg (by omega)]; rfl
    | cons b l =>
      have : i < s.size := by
        rw [← zlr]
        apply Nat.lt_of_not_le
        intro h
        rw [List.drop_eq_nil_iff.2 h] at e; cases e
      rw [if_pos this, zsr s m, yam, e]
      simp only [runesL]
      rw [← e, List.drop_drop]
def runesS (l : List Nat) : List Int := runesL l.length l
theorem zgu (s : ByteArray) : runesIn s = runesS (byL s) := by rw [runesIn, zsr, runesS, zlr]; rfl
theorem zor (l : List Nat) : 1 ≤ (decU l).2 := by
  simp only [decU]
  repeat' split
  all_goals simp
theorem ztr : ∀ (m k : Nat) (l : List Nat), l.length ≤ m → runesL (m + k) l = runesL m l
  | 0, k, l, h => by
    have : l = [] := List.eq_nil_of_length_eq_zero (by omega)
    subst this
    cases k <;> rfl
  | m + 1, k,[], h => by rw [show m + 1 + k = (m + k) + 1 by omega]; rfl
  | m + 1, k, b :: l, h => by
    rw [show m + 1 + k = (m + k) + 1 by omega]
    simp only [runesL]
    rw [ztr m k _ (by have := zor (b :: l); simp at h ⊢; omega)]
theorem zwk {m : Nat} {l : List Nat} (h : l.length ≤ m) : runesL m l = runesS l := by
  have := ztr l.length (m - l.length) l (Nat.le_refl _)
  rwa [show l.length + (m - l.length) = m by omega] at this
theorem ycj : runesS [] = [] := rfl
theorem zlu (b : Nat) (l : List Nat) : runesS (b :: l) = ((decU (b :: l)).1 : Int) :: runesS ((b :: l).drop (decU (b :: l)).2) := by
  have := zor (b :: l)
  rw [runesS, List.length_cons, runesL, zwk (by simp; omega)]
def fresh (t : List Nat) : Prop := contL t 0 = false
theorem yan : ∀ (l t : List Nat), l ≠ [] → fresh t → decU (l ++ t) = decU l ∧ (decU l).2 ≤ l.length := by
  intro l t hl ht
  unfold fresh at ht
  match l, hl with
  | [b0], _ =>
    have h1 : contL ([b0] ++ t) 1 = false := by simpa [contL] using ht
    have h2 : contL [b0] 1 = false := by simp [contL]
    simp only [decU, h1, h2, Bool.and_false, Bool.false_and]
    simp
    split <;> simp
  | [b0, b1], _ =>
    have h1 : contL ([b0, b1] ++ t) 2 = false := by simpa [contL] using ht
    have h2 : contL [b0, b1] 2 = false := by simp [contL]
    have h3 : contL ([b0, b1] ++ t) 1 = contL [b0, b1] 1 := by simp [contL]
    simp only [decU, h1, h2, h3, Bool.and_false, Bool.false_and]
    simp
    repeat' split
    all_goals simp
  | [b0, b1, b2], _ =>
    have h1 : contL ([b0, b1, b2] ++ t) 3 = false := by simpa [contL] using ht
    have h2 : contL [b0, b1, b2] 3 = false := by simp [contL]
    have h3 : contL ([b0, b1, b2] ++ t) 1 = contL [b0, b1, b2] 1 := by simp [contL]
    have h4 : contL ([b0, b1, b2] ++ t) 2 = contL [b0, b1, b2] 2 := by simp [contL]
    simp only [decU, h1, h2, h3, h4, Bool.and_false]
    simp
    repeat' split
    all_goals simp
  | b0 :: b1 :: b2 :: b3 :: l, _ =>
    have h3 : contL ((b0 :: b1 :: b2 :: b3 :: l) ++ t) 1 = contL (b0 :: b1 :: b2 :: b3 :: l) 1 := by simp [contL]
    have h4 : contL ((b0 :: b1 :: b2 :: b3 :: l) ++ t) 2 = contL (b0 :: b1 :: b2 :: b3 :: l) 2 := by simp [contL]
    have h5 : contL ((b0 :: b1 :: b2 :: b3 :: l) ++ t) 3 = contL (b0 :: b1 :: b2 :: b3 :: l) 3 := by simp [contL]
    simp only [decU, h3, h4, h5]
    simp
    repeat' split
    all_goals simp
    all_goals omega
theorem zlv {t : List Nat} (ht : fresh t) : ∀ (m : Nat) (l : List Nat), l.length ≤ m → runesS (l ++ t) = runesS l ++ runesS t
  | _,[], _ => by simp [ycj]
  | 0, _ :: _, h => by simp at h
  | m + 1, b :: l, h => by
    obtain ⟨h1, h2⟩ := yan (b :: l) t (by simp) ht
    have h3 := zor (b :: l)
    rw [List.cons_append, zlu, zlu, ← List.cons_append, h1, List.drop_append_of_le_length h2, zlv ht m _ (by simp at h ⊢; omega)]
    rfl
theorem zyc {b : Nat} (h : b < 128) (t : List Nat) : runesS (b :: t) = (b : Int) :: runesS t := by
  have : decU (b :: t) = (b,1) := by simp [decU, h]
  rw [zlu, this]
  rfl
theorem zuw {b : Nat} (h : b < 128) (l t : List Nat) : runesS (l ++ b :: t) = runesS l ++ (b : Int) :: runesS t := by
  rw [zlv (by simp [fresh, contL]; omega) l.length l (Nat.le_refl _), zyc h]
theorem yct (l : List Nat) (hl : ∀ b ∈ l, b < 256) : Utf8.valid ((decU l).1 : Int) = true := by
  have hb : ∀ k, l.getD k 0 < 256 := fun k => by
    rw [List.getD_eq_getElem?_getD]
    cases e : l[k]? with
    | none => simp
    | some b => simpa using hl b (List.mem_of_getElem? e)
  have h0 := hb 0
  simp only [decU]
  repeat' split
  all_goals simp_all [Utf8.valid]
  all_goals omega
theorem zsq : ∀ (m : Nat) (l : List Nat),(∀ b ∈ l, b < 256) → ∀ r ∈ runesL m l, Utf8.valid r = true
  | 0, _, _ => by simp [runesL]
  | _ + 1,[], _ => by simp [runesL]
  | m + 1, b :: l, h => by
    intro r hr
    simp only [runesL, List.mem_cons] at hr
    rcases hr with rfl | hr
    · exact yct _ h
    · exact zsq m _ (fun b hb => h b (List.mem_of_mem_drop hb)) r hr
theorem byL_lt (s : ByteArray) : ∀ b ∈ byL s, b < 256 := by
  intro b hb
  simp only [byL, List.mem_map] at hb
  obtain ⟨u, _, rfl⟩ := hb
  exact u.toNat_lt
theorem zwl (s : ByteArray) : ∀ r ∈ runesIn s, Utf8.valid r = true := by
  rw [zgu]; exact zsq _ _ (byL_lt s)
def encU (c : Nat) : List Nat :=
  if c < 128 then [c]
  else if c < 2048 then [192 + c / 64,128 + c % 64]
  else if c < 65536 then [224 + c / 4096,128 + c / 64 % 64,128 + c % 64]
  else [240 + c / 262144,128 + c / 4096 % 64,128 + c / 64 % 64,128 + c % 64]
theorem ycy {c : Nat} (h : Utf8.valid c = true) : byL (Utf8.encode c) = encU c := by
  have hc : c ≤ 1114111 := by simp [Utf8.valid] at h; omega
  have key : ∀ n, n < 256 → (UInt8.ofNat n).toNat = n := fun n hn => by simp; omega
  simp only [Utf8.encode, h, if_true, Int.toNat_natCast, encU]
  split
  · rw [byL]; simp only [List.map_cons, List.map_nil]; rw [key _ (by omega)]
  · split
    · rw [byL]; simp only [List.map_cons, List.map_nil]; rw [key _ (by omega), key _ (by omega)]
    · split
      · rw [byL]; simp only [List.map_cons, List.map_nil]; rw [key _ (by omega), key _ (by omega), key _ (by omega)]
      · rw [byL]; simp only [List.map_cons, List.map_nil]; rw [key _ (by omega), key _ (by omega), key _ (by omega), key _ (by omega)]
theorem zh3 (s t : ByteArray) : byL (s ++ t) = byL s ++ byL t := by simp [byL]
theorem ybt : ∀ (xs : List Int) (s : ByteArray),(∀ x ∈ xs, Utf8.valid x = true) → byL (xs.foldl (fun s r => s ++ Utf8.encode r) s) = byL s ++ xs.flatMap fun x => encU x.toNat
  | [], s, _ => by simp
  | x :: xs, s, h => by
    have hx := h x (by simp)
    obtain ⟨c, rfl⟩ : ∃ c : Nat, x = c := ⟨x.toNat, by simp [Utf8.valid] at hx; omega⟩
    rw [List.foldl_cons, ybt xs _ (fun y hy => h y (by simp [hy])), zh3, ycy hx]
    simp
end Go.Sl
