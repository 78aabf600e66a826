/-
  Walks and laws of this seat; the base is the text Base.
-/
import Derived.Test.YtklcdfnhdljkjaaGreatDoorBasg
/-! UTF-8 as a matter of lists: what a text's bytes decode to. -/
namespace Go.Sl
/-- The bytes of a text. -/
def byL (s : ByteArray) : List Nat := s.data.toList.map (·.toNat)
theorem byL_length (s : ByteArray) : (byL s).length = s.size := by rw [byL, List.length_map]; rfl
def contL (l : List Nat) (k : Nat) : Bool := match l[k]? with
  | some b => b / 64 == 2
  | none => false
/-- The first rune of a list of bytes, and its width. -/
def decL (l : List Nat) : Nat × Nat :=
  let b0 := l.getD 0 0
  if b0 < 128 then (b0, 1)
  else if b0 / 32 == 6 && contL l 1 then
    let c := (b0 % 32) * 64 + l.getD 1 0 % 64
    if c ≥ 128 then (c, 2) else (65533, 1)
  else if b0 / 16 == 14 && contL l 1 && contL l 2 then
    let c := (b0 % 16) * 4096 + (l.getD 1 0 % 64) * 64 + l.getD 2 0 % 64
    if c ≥ 2048 && Utf8.valid c then (c, 3) else (65533, 1)
  else if b0 / 8 == 30 && contL l 1 && contL l 2 && contL l 3 then
    let c := (b0 % 8) * 262144 + (l.getD 1 0 % 64) * 4096 + (l.getD 2 0 % 64) * 64 + l.getD 3 0 % 64
    if c ≥ 65536 && Utf8.valid c then (c, 4) else (65533, 1)
  else (65533, 1)
theorem get_byL (s : ByteArray) (i : Nat) : (s.get! i).toNat = (byL s).getD i 0 := by
  obtain ⟨d⟩ := s
  show (d[i]!).toNat = (d.toList.map (·.toNat)).getD i 0
  rw [List.getD_eq_getElem?_getD, List.getElem?_map]
  by_cases h : i < d.size
  · rw [getElem!_pos d i h, Array.getElem?_toList, Array.getElem?_eq_getElem h]; rfl
  · rw [getElem!_neg d i h, Array.getElem?_toList, Array.getElem?_eq_none (by omega)]; rfl
theorem decode_list (s : ByteArray) (i : Nat) : Utf8.decode s i = decL ((byL s).drop i) := by
  have g : ∀ k, (s.get! (i + k)).toNat = ((byL s).drop i).getD k 0 := fun k => by
    rw [get_byL, List.getD_eq_getElem?_getD, List.getD_eq_getElem?_getD, List.getElem?_drop]
  have c : ∀ k, (decide (i + k < s.size) && ((byL s).drop i).getD k 0 / 64 == 2) = contL ((byL s).drop i) k := fun k => by
    rw [contL, List.getD_eq_getElem?_getD, List.getElem?_drop]
    by_cases h : i + k < s.size
    · have h' : i + k < (byL s).length := by rw [byL_length]; exact h
      rw [List.getElem?_eq_getElem h']
      simp [h]
    · have h' : (byL s).length ≤ i + k := by rw [byL_length]; omega
      rw [List.getElem?_eq_none h']
      simp [h]
  simp only [Utf8.decode, decL, g, Utf8.runeError, c]
/-- The runes of a list of bytes. -/
def runesL : Nat → List Nat → List Int
  | 0, _ => []
  | _ + 1, [] => []
  | m + 1, b :: l => ((decL (b :: l)).1 : Int) :: runesL m ((b :: l).drop (decL (b :: l)).2)
theorem runesFr_list (s : ByteArray) : ∀ (m i : Nat), runesFr s m i = runesL m ((byL s).drop i)
  | 0, i => rfl
  | m + 1, i => by
    simp only [runesFr]
    cases e : (byL s).drop i with
    | nil =>
      have : s.size ≤ i := by rw [← byL_length]; exact List.drop_eq_nil_iff.1 e
      rw [if_neg (by omega)]; rfl
    | cons b l =>
      have : i < s.size := by
        rw [← byL_length]
        apply Nat.lt_of_not_le
        intro h
        rw [List.drop_eq_nil_iff.2 h] at e; cases e
      rw [if_pos this, runesFr_list s m, decode_list, e]
      simp only [runesL]
      rw [← e, List.drop_drop]
def runesS (l : List Nat) : List Int := runesL l.length l
theorem runesIn_list (s : ByteArray) : runesIn s = runesS (byL s) := by rw [runesIn, runesFr_list, runesS, byL_length]; rfl
/-- No byte that goes on stands at the list's head. -/
def fresh (t : List Nat) : Prop := contL t 0 = false
/-- What is decoded is a rune that may be. -/
theorem decL_valid (l : List Nat) (hl : ∀ b ∈ l, b < 256) : Utf8.valid ((decL l).1 : Int) = true := by
  have hb : ∀ k, l.getD k 0 < 256 := fun k => by
    rw [List.getD_eq_getElem?_getD]
    cases e : l[k]? with
    | none => simp
    | some b => simpa using hl b (List.mem_of_getElem? e)
  have h0 := hb 0
  simp only [decL]
  repeat' split
  all_goals simp_all [Utf8.valid]
  all_goals omega
theorem runesL_valid : ∀ (m : Nat) (l : List Nat), (∀ b ∈ l, b < 256) → ∀ r ∈ runesL m l, Utf8.valid r = true
  | 0, _, _ => by simp [runesL]
  | _ + 1, [], _ => by simp [runesL]
  | m + 1, b :: l, h => by
    intro r hr
    simp only [runesL, List.mem_cons] at hr
    rcases hr with rfl | hr
    · exact decL_valid _ h
    · exact runesL_valid m _ (fun b hb => h b (List.mem_of_mem_drop hb)) r hr
theorem byL_lt (s : ByteArray) : ∀ b ∈ byL s, b < 256 := by
  intro b hb
  simp only [byL, List.mem_map] at hb
  obtain ⟨u, _, rfl⟩ := hb
  exact u.toNat_lt
theorem runesIn_valid (s : ByteArray) : ∀ r ∈ runesIn s, Utf8.valid r = true := by
  rw [runesIn_list]; exact runesL_valid _ _ (byL_lt s)
/-- The bytes of a rune. -/
def encL (c : Nat) : List Nat :=
  if c < 128 then [c]
  else if c < 2048 then [192 + c / 64, 128 + c % 64]
  else if c < 65536 then [224 + c / 4096, 128 + c / 64 % 64, 128 + c % 64]
  else [240 + c / 262144, 128 + c / 4096 % 64, 128 + c / 64 % 64, 128 + c % 64]
theorem byL_encode {c : Nat} (h : Utf8.valid c = true) : byL (Utf8.encode c) = encL c := by
  have hc : c ≤ 1114111 := by simp [Utf8.valid] at h; omega
  have key : ∀ n, n < 256 → (UInt8.ofNat n).toNat = n := fun n hn => by simp; omega
  simp only [Utf8.encode, h, if_true, Int.toNat_natCast, encL]
  split
  · rw [byL]; simp only [List.map_cons, List.map_nil]; rw [key _ (by omega)]
  · split
    · rw [byL]; simp only [List.map_cons, List.map_nil]; rw [key _ (by omega), key _ (by omega)]
    · split
      · rw [byL]; simp only [List.map_cons, List.map_nil]; rw [key _ (by omega), key _ (by omega), key _ (by omega)]
      · rw [byL]; simp only [List.map_cons, List.map_nil]; rw [key _ (by omega), key _ (by omega), key _ (by omega), key _ (by omega)]
theorem decL_encL {c : Nat} (h : Utf8.valid c = true) (t : List Nat) : decL (encL c ++ t) = (c, (encL c).length) := by
  have hc : c ≤ 1114111 := by simp [Utf8.valid] at h; omega
  unfold encL
  split
  · rename_i h1
    simp [decL, h1]
  · split
    · rename_i h1 h2
      simp only [decL, contL, List.cons_append, List.nil_append, List.getD_cons_zero, List.getD_cons_succ, List.getElem?_cons_succ, List.getElem?_cons_zero]
      rw [if_neg (by omega), if_pos (by simp; omega)]
      rw [show (192 + c / 64) % 32 * 64 + (128 + c % 64) % 64 = c by omega, if_pos (by omega)]
      rfl
    · split
      · rename_i h1 h2 h3
        simp only [decL, contL, List.cons_append, List.nil_append, List.getD_cons_zero, List.getD_cons_succ, List.getElem?_cons_succ, List.getElem?_cons_zero]
        rw [if_neg (by omega), if_neg (by simp; omega), if_pos (by simp; omega)]
        rw [show (224 + c / 4096) % 16 * 4096 + (128 + c / 64 % 64) % 64 * 64 + (128 + c % 64) % 64 = c by omega, if_pos (by simp [h]; omega)]
        rfl
      · rename_i h1 h2 h3
        simp only [decL, contL, List.cons_append, List.nil_append, List.getD_cons_zero, List.getD_cons_succ, List.getElem?_cons_succ, List.getElem?_cons_zero]
        rw [if_neg (by omega), if_neg (by simp; omega), if_neg (by simp; omega), if_pos (by simp; omega)]
        rw [show (240 + c / 262144) % 8 * 262144 + (128 + c / 4096 % 64) % 64 * 4096 + (128 + c / 64 % 64) % 64 * 64 + (128 + c % 64) % 64 = c by omega, if_pos (by simp [h]; omega)]
        rfl
theorem byL_append (s t : ByteArray) : byL (s ++ t) = byL s ++ byL t := by simp [byL]
theorem byL_fold : ∀ (xs : List Int) (s : ByteArray), (∀ x ∈ xs, Utf8.valid x = true) → byL (xs.foldl (fun s r => s ++ Utf8.encode r) s) = byL s ++ xs.flatMap fun x => encL x.toNat
  | [], s, _ => by simp
  | x :: xs, s, h => by
    have hx := h x (by simp)
    obtain ⟨c, rfl⟩ : ∃ c : Nat, x = c := ⟨x.toNat, by simp [Utf8.valid] at hx; omega⟩
    rw [List.foldl_cons, byL_fold xs _ (fun y hy => h y (by simp [hy])), byL_append, byL_encode hx]
    simp
theorem encL_ne (c : Nat) : encL c ≠ [] := by unfold encL; repeat' split
                                              all_goals simp
theorem bytesOf_bytesIn (s : ByteArray) : bytesOf (bytesIn s) = s := by
  unfold bytesOf bytesIn
  rw [List.map_map]
  have : (fun n : Int => UInt8.ofNat n.toNat) ∘ (fun b : UInt8 => (b.toNat : Int)) = id := by
    funext b; simp
  rw [this, List.map_id]
end Go.Sl
