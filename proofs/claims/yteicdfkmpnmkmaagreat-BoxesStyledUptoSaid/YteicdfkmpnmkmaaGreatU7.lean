/-
  Walks and laws of this seat.
-/
import Derived.Test.YteicdfkmpnmkmaaGreatBasg
namespace Go.Sl
set_option linter.unusedVariables false
set_option linter.unusedSimpArgs false
def byL (s : ByteArray) : List Nat := s.data.toList.map (·.toNat)
theorem byL_length (s : ByteArray) : (byL s).length = s.size := by rw [byL, List.length_map]; rfl
def contL (l : List Nat) (k : Nat) : Bool := match l[k]? with
  | some b => b / 64 == 2
  | none => false
def decL (l : List Nat) : Nat × Nat :=
  let b0 := l.getD 0 0
  if b0 < 128 then (b0, 1)
  else if b0 / 32 == 6 && contL l 1 then
    let c := (b0 % 32) * 64 + l.getD 1 0 % 64
    if c ≥ 128 then (c, 2) else (65533, 1)
  else if b0 / 16 == 14 && contL l 1 && contL l 2 then
    let c := (b0 % 16) * 4096 + (l.getD 1 0 % 64) * 64 + l.getD 2 0 % 64
    if c ≥ 2048 && Utf8.valid c then (c, 3) else (65533, 1)
  else if b0 / 8 == 30 && contL l 1 && contL l 2 && contL l 3 then
    let c := (b0 % 8) * 262144 + (l.getD 1 0 % 64) * 4096 + (l.getD 2 0 % 64) * 64 + l.getD 3 0 % 64
    if c ≥ 65536 && Utf8.valid c then (c, 4) else (65533, 1)
  else (65533, 1)
theorem get_byL (s : ByteArray) (i : Nat) : (s.get! i).toNat = (byL s).getD i 0 := by
  obtain ⟨d⟩ := s
  show (d[i]!).toNat = (d.toList.map (·.toNat)).getD i 0
  rw [List.getD_eq_getElem?_getD, List.getElem?_map]
  by_cases h : i < d.size
  · rw [getElem!_pos d i h, Array.getElem?_toList, Array.getElem?_eq_getElem h]; rfl
  · rw [getElem!_neg d i h, Array.getElem?_toList, Array.getElem?_eq_none (by omega)]; rfl
theorem decode_list (s : ByteArray) (i : Nat) : Utf8.decode s i = decL ((byL s).drop i) := by
  have g : ∀ k, (s.get! (i + k)).toNat = ((byL s).drop i).getD k 0 := fun k => by
    rw [get_byL, List.getD_eq_getElem?_getD, List.getD_eq_getElem?_getD, List.getElem?_drop]
  have c : ∀ k, (decide (i + k < s.size) && ((byL s).drop i).getD k 0 / 64 == 2) = contL ((byL s).drop i) k := fun k => by
    rw [contL, List.getD_eq_getElem?_getD, List.getElem?_drop]
    by_cases h : i + k < s.size
    · have h' : i + k < (byL s).length := by rw [byL_length]; exact h
      rw [List.getElem?_eq_getElem h']
      simp [h]
    · have h' : (byL s).length ≤ i + k := by rw [byL_length]; omega
      rw [List.getElem?_eq_none h']
      simp [h]
  simp only [Utf8.decode, decL, g, Utf8.runeError, c]
def runesL : Nat → List Nat → List Int
  | 0, _ => []
  | _ + 1, [] => []
  | m + 1, b :: l => ((decL (b :: l)).1 : Int) :: runesL m ((b :: l).drop (decL (b :: l)).2)
def runesS (l : List Nat) : List Int := runesL l.length l
theorem decL_width (l : List Nat) : 1 ≤ (decL l).2 := by
  simp only [decL]
  repeat' split
  all_goals simp
theorem runesS_nil : runesS [] = [] := rfl
end Go.Sl
