/-
  Walks and laws of this seat.
-/
import Derived.Test.YtpfdbeafdjnbnaaGreatDoorS7i
namespace Go.Proofs.YtpfdbeafdjnbnaaGreatDoor
set_option linter.unusedVariables false
set_option linter.unusedSimpArgs false
set_option linter.unusedSectionVars false
open Go.RowKit Go.Sl
def oneB (q : Bool) (c : Int) : List Int :=
  if c = 38 then [38,97,109,112,59] else if c = 60 then [38,108,116,59] else if c = 62 then [38,103,116,59] else if c = 13 then [38,35,49,51,59] else if c = 34 ∧ q = true then [38,113,117,111,116,59] else [c]
def escA (q : Bool) : Bool → List Int → List Int
  | _,[] => []
  | true, _ :: r => escA q false r
  | false, c :: r => if c = 194 ∧ r.head? = some 160 then [38,110,98,115,112,59] ++ escA q true r else oneB q c ++ escA q false r
theorem oneB_len (q : Bool) (c : Int) : (oneB q c).length ≤ 6 := by
  unfold oneB
  repeat' split
  all_goals simp
theorem zk5 (q : Bool) : ∀ (l : List Int) (b : Bool),(escA q b l).length ≤ 6 * l.length
  | [], b => by cases b <;> simp [escA]
  | c :: r, true => by
    have := zk5 q r false
    simp only [escA, List.length_cons]; omega
  | c :: r, false => by
    have h1 := zk5 q r false
    have h2 := zk5 q r true
    have h3 := oneB_len q c
    unfold escA
    split
    · simp only [List.length_append, List.length_cons, List.length_nil]; omega
    · simp only [List.length_append, List.length_cons]; omega
theorem zl2 (q : Bool) {c : Int} {r : List Int} (h : ¬(c = 194 ∧ r.head? = some 160)) : escA q false (c :: r) = oneB q c ++ escA q false r := by
  rw [escA, if_neg h]
theorem zq8 (q : Bool) (r : List Int) : escA q false (194 :: 160 :: r) = [38,110,98,115,112,59] ++ escA q false r := by
  rw [escA, if_pos ⟨rfl, rfl⟩, escA]
def specB (q : Bool) : List Nat := [38,60,62,194,13] ++ (if q then [34] else [])
def fastB (q : Bool) (c : Nat) : Bool := match (escN q)[c]? with
  | some m => m == (escT q : Int) || decide (m < (escT q : Int)) && decide (0 ≤ m) && (List.range ((escL q).length / 2)).all fun p => (escM q p : Int) != m
  | none => false
set_option maxRecDepth 100000 in
theorem fast_all : ∀ q : Bool, ∀ c, c < 256 → c ∈ specB q ∨ fastB q c = true := by decide +kernel
theorem zr4 {q : Bool} {c : Nat} (h : c ∉ specB q) : oneB q c = [(c : Int)] ∧ c ≠ 194 := by
  unfold specB at h
  simp only [List.mem_append, List.mem_cons, List.not_mem_nil, or_false, not_or] at h
  obtain ⟨⟨h1, h2, h3, h4, h5⟩, h6⟩ := h
  refine ⟨?_, h4⟩
  unfold oneB
  rw [if_neg (by omega), if_neg (by omega), if_neg (by omega), if_neg (by omega), if_neg]
  rintro ⟨e1, e2⟩
  subst e2
  exact h6 (by simp; omega)
def FastOK (q : Bool) (c : Nat) : Prop := ∃ m : Nat,(escN q)[c]? = some (m : Int) ∧ (m = escT q ∨ m < escT q ∧ ∀ p, p < (escL q).length / 2 → escM q p ≠ m)
theorem fast_ok {q : Bool} {c : Nat} (h : fastB q c = true) : FastOK q c := by
  unfold fastB at h
  split at h
  · rename_i m hm
    simp only [Bool.or_eq_true, beq_iff_eq, Bool.and_eq_true, decide_eq_true_eq, List.all_eq_true, List.mem_range, bne_iff_ne] at h
    rcases h with h | ⟨⟨h1, h2⟩, h3⟩
    · exact ⟨escT q, by rw [hm, h], .inl rfl⟩
    · refine ⟨m.toNat, by rw [hm, Int.toNat_of_nonneg h2], .inr ⟨by omega, fun p hp e => h3 p hp ?_⟩⟩
      rw [e]; exact Int.toNat_of_nonneg h2
  · cases h
structure HitAt (q : Bool) (c : Nat) (p : Nat) (key val : ByteArray) : Prop where
  lt : 2 * p < (escL q).length
  kat : (escL q)[2 * p]? = some key
  vat : (escL q)[2 * p + 1]? = some val
  num : (escN q)[c]? = some (escM q p : Int)
  mT : escM q p < escT q
  is : (c ≠ 194 ∧ key = bs [UInt8.ofNat c] ∧ bytesIn val = oneB q c) ∨ (c = 194 ∧ key = bs [194,160] ∧ bytesIn val = [38,110,98,115,112,59] ∧ oneB q c = [194])
set_option maxRecDepth 100000 in
theorem hit_of {q : Bool} {c : Nat} (h : c ∈ specB q) : ∃ p key val, HitAt q c p key val := by
  have h0 : (escN true)[38]? = some 2 ∧ (escN true)[60]? = some 3 ∧ (escN true)[62]? = some 4 ∧ (escN true)[194]? = some 6 ∧ (escN true)[13]? = some 0 ∧ (escN true)[34]? = some 1 := by decide +kernel
  have h1 : (escN false)[38]? = some 1 ∧ (escN false)[60]? = some 2 ∧ (escN false)[62]? = some 3 ∧ (escN false)[194]? = some 5 ∧ (escN false)[13]? = some 0 := by decide +kernel
  cases q with
  | true =>
    simp only [specB, if_true, List.mem_append, List.mem_cons, List.not_mem_nil, or_false] at h
    rcases h with (rfl | rfl | rfl | rfl | rfl) | rfl
    · exact ⟨0, _, _, by decide, rfl, rfl, h0.1, by decide, .inl ⟨by decide, rfl, by decide +kernel⟩⟩
    · exact ⟨1, _, _, by decide, rfl, rfl, h0.2.1, by decide, .inl ⟨by decide, rfl, by decide +kernel⟩⟩
    · exact ⟨2, _, _, by decide, rfl, rfl, h0.2.2.1, by decide, .inl ⟨by decide, rfl, by decide +kernel⟩⟩
    · exact ⟨3, _, _, by decide, rfl, rfl, h0.2.2.2.1, by decide, .inr ⟨rfl, rfl, by decide +kernel, by decide⟩⟩
    · exact ⟨4, _, _, by decide, rfl, rfl, h0.2.2.2.2.1, by decide, .inl ⟨by decide, rfl, by decide +kernel⟩⟩
    · exact ⟨5, _, _, by decide, rfl, rfl, h0.2.2.2.2.2, by decide, .inl ⟨by decide, rfl, by decide +kernel⟩⟩
  | false =>
    simp only [specB, List.mem_append, List.mem_cons, List.not_mem_nil, or_false, Bool.false_eq_true, if_false] at h
    rcases h with rfl | rfl | rfl | rfl | rfl
    · exact ⟨0, _, _, by decide, rfl, rfl, h1.1, by decide, .inl ⟨by decide, rfl, by decide +kernel⟩⟩
    · exact ⟨1, _, _, by decide, rfl, rfl, h1.2.1, by decide, .inl ⟨by decide, rfl, by decide +kernel⟩⟩
    · exact ⟨2, _, _, by decide, rfl, rfl, h1.2.2.1, by decide, .inl ⟨by decide, rfl, by decide +kernel⟩⟩
    · exact ⟨3, _, _, by decide, rfl, rfl, h1.2.2.2.1, by decide, .inr ⟨rfl, rfl, by decide +kernel, by decide⟩⟩
    · exact ⟨4, _, _, by decide, rfl, rfl, h1.2.2.2.2, by decide, .inl ⟨by decide, rfl, by decide +kernel⟩⟩
end Go.Proofs.YtpfdbeafdjnbnaaGreatDoor
