/-
  Walks and laws of this seat.
-/
import Derived.Test.YtpfdbeafdjnbnaaGreatDoorS7h
namespace Go.Proofs.YtpfdbeafdjnbnaaGreatDoor
set_option linter.unusedVariables false
set_option linter.unusedSimpArgs false
set_option linter.unusedSectionVars false
open Go.RowKit Go.Sl
def escT (q : Bool) : Nat := if q then 7 else 6
def escN (q : Bool) : List Int := (numB (escT q) (markL (escL q) ((escL q).length / 2)) 256).1
def escM (q : Bool) (p : Nat) : Nat := (if q then [2,3,4,6,0,1] else [1,2,3,5,0]).getD p 0
set_option maxRecDepth 100000
theorem esc_nu (q : Bool) : ∀ p, p < 6 → 2 * p < (escL q).length → ∃ key c,(escL q)[2 * p]? = some key ∧ key ≠ bs [] ∧ 1 ≤ key.size ∧ getS key 0 = some ((c : Nat) : Int) ∧ c < 256 ∧ (escN q)[c]? = some (escM q p : Int) ∧ escM q p < escT q := by
  intro p hp h
  have h0 : (escN true)[38]? = some 2 ∧ (escN true)[60]? = some 3 ∧ (escN true)[62]? = some 4 ∧ (escN true)[194]? = some 6 ∧ (escN true)[13]? = some 0 ∧ (escN true)[34]? = some 1 := by decide +kernel
  have h1 : (escN false)[38]? = some 1 ∧ (escN false)[60]? = some 2 ∧ (escN false)[62]? = some 3 ∧ (escN false)[194]? = some 5 ∧ (escN false)[13]? = some 0 := by decide +kernel
  cases q with
  | true =>
    match p, hp with
    | 0, _ => exact ⟨bs [38],38, rfl, by decide, by decide, by decide +kernel, by decide, h0.1, by decide⟩
    | 1, _ => exact ⟨bs [60],60, rfl, by decide, by decide, by decide +kernel, by decide, h0.2.1, by decide⟩
    | 2, _ => exact ⟨bs [62],62, rfl, by decide, by decide, by decide +kernel, by decide, h0.2.2.1, by decide⟩
    | 3, _ => exact ⟨bs [194,160],194, rfl, by decide, by decide, by decide +kernel, by decide, h0.2.2.2.1, by decide⟩
    | 4, _ => exact ⟨bs [13],13, rfl, by decide, by decide, by decide +kernel, by decide, h0.2.2.2.2.1, by decide⟩
    | 5, _ => exact ⟨bs [34],34, rfl, by decide, by decide, by decide +kernel, by decide, h0.2.2.2.2.2, by decide⟩
  | false =>
    match p, hp with
    | 0, _ => exact ⟨bs [38],38, rfl, by decide, by decide, by decide +kernel, by decide, h1.1, by decide⟩
    | 1, _ => exact ⟨bs [60],60, rfl, by decide, by decide, by decide +kernel, by decide, h1.2.1, by decide⟩
    | 2, _ => exact ⟨bs [62],62, rfl, by decide, by decide, by decide +kernel, by decide, h1.2.2.1, by decide⟩
    | 3, _ => exact ⟨bs [194,160],194, rfl, by decide, by decide, by decide +kernel, by decide, h1.2.2.2.1, by decide⟩
    | 4, _ => exact ⟨bs [13],13, rfl, by decide, by decide, by decide +kernel, by decide, h1.2.2.2.2, by decide⟩
    | 5, _ => exact absurd h (by decide)
theorem zq7 (q : Bool) : (escL q).length ≤ 12 := by cases q <;> decide
theorem esc_ok (q : Bool) : TexOK (escL q) (escM q) (escT q) (escN q) where
  len := Nat.le_trans (zq7 q) (by decide)
  len8 := by cases q <;> decide
  sz := by cases q <;> decide
  ev := by cases q <;> decide
  T0 := by cases q <;> decide +kernel
  T1 := by cases q <;> decide
  N0 := rfl
  nu := fun p h => esc_nu q p (by have := zq7 q; omega) h
  inj := by
    intro p r hpr hr
    have hl := zq7 q
    have : ∀ q : Bool, ∀ r, r < 6 → ∀ p, p < r → 2 * r < (escL q).length → escM q p ≠ escM q r := by decide
    exact this q r (by omega) p hpr hr
  k3 := by
    intro k hk
    have : (escL q)[2 * k]? = some (([bs [38], bs [60], bs [62]] : List ByteArray)[k]) := by
      match k, hk with
      | 0, _ => cases q <;> rfl
      | 1, _ => cases q <;> rfl
      | 2, _ => cases q <;> rfl
    refine ⟨_, this, ?_⟩
    match k, hk with
    | 0, _ => rfl
    | 1, _ => rfl
    | 2, _ => rfl
  k6 := ⟨bs [194,160], by cases q <;> rfl, by decide⟩
end Go.Proofs.YtpfdbeafdjnbnaaGreatDoor
