/-
  Walks and laws of this seat.
-/
import Derived.Test.YtpfdbeafdjnbnaaGreatDoorX6
import Derived.Test.YtpfdbeafdjnbnaaGreatDoorL6g
namespace Go.Proofs.YtpfdbeafdjnbnaaGreatDoor
set_option linter.unusedVariables false
set_option linter.unusedSimpArgs false
set_option linter.unusedSectionVars false
open Go.RowKit Go.Sl
open Go.V (T)
theorem T.all {α : Type} {F : Nat → Nat → Option α} {r : α} (h : ∀ k n, F k n = some r) : T F (· = r) := ⟨r, rfl,0, fun k n _ _ => h k n⟩
theorem zqg {α : Type} {b : Nat} {xs ys : List α} (h : (xs.length + ys.length) * b ≤ 140737488355328) (h' : xs.length + ys.length ≤ 9223372036854775807) : appM b xs ys = some (xs ++ ys) := by simp [appM, roomB, h, h']
abbrev cur (l : List Int) (i : Nat) : zaf := { l := l, at_ := (i : Int) }
abbrev ctr (l : List Int) (i : Nat) (out : List za6) : zag := { c := cur l i, out := out }
def pk (l : List Int) (j : Nat) : Int × Bool := match l[j]? with
  | some x => (x, true)
  | none => (0, false)
section
variable {l : List Int} {i : Nat} {out : List za6} (hl : l.length ≤ 100000) (hi : i ≤ l.length)
include hl hi
theorem zmn (n k : Nat) (hk : k ≤ 1000) : zb7 n (cur l i) (k : Int) = some (pk l (i + k)) := by
  unfold zb7 zb8
  rw [decide_eq_false (show ¬ (k : Int) < 0 by omega), cond_false, Option.bind_some]
  unfold zcg pk
  show (bif decide (w64 ((l.length : Int) - (i : Int)) ≤ (k : Int)) then some (0, false) else (geti l (w64 ((i : Int) + (k : Int)))).bind fun x6 => some (x6, true)) = _
  rw [w64n (by omega), w64n (by omega)]
  by_cases h : i + k < l.length
  · rw [decide_eq_false (by omega), cond_false, List.getElem?_eq_getElem h, show (i : Int) + (k : Int) = ((i + k : Nat) : Int) by omega]
    unfold geti
    rw [if_pos (by omega), Int.toNat_natCast, List.getElem?_eq_getElem h]; rfl
  · rw [decide_eq_true (by omega), cond_true, List.getElem?_eq_none (by omega)]
theorem zir (n : Nat) {x : Int} (hx : l[i]? = some x) : zar n (cur l i) = some (x, true, cur l (i + 1)) := by
  unfold zar
  have := zmn hl hi n 0 (by omega)
  rw [show ((0 : Nat) : Int) = 0 from rfl] at this
  rw [this, Option.bind_some]
  unfold pk
  rw [Nat.add_zero, hx]
  show zch (cur l i) (x, true) (w64 ((i : Int) + 1)) = _
  rw [zfd (by omega)]; rfl
theorem zmr (n : Nat) : zb8 n (cur l i) = some ((l.length - i : Nat) : Int) := by
  unfold zb8
  show some (w64 ((l.length : Int) - (i : Int))) = _
  rw [w64n (by omega)]; congr 1; omega
theorem zj6 (n k : Nat) (hk : k ≤ 1000) : zbg n (ctr l i out) (k : Int) = some (pk l (i + k)).1 := by
  unfold zbg
  rw [zmn hl hi n k hk]; rfl
theorem is1_T {c : UInt8} (hc : runesM (bs [c]) = some [(c.toNat : Int)]) : T (fun k _ => zdk k (ctr l i out) 0 (bs [c])) (· = decide (l[i]? = some (c.toNat : Int))) := by
  unfold zdk
  rw [hc]
  refine T.diag (F := fun k n => zc5 k (ctr l i out) 0 [(c.toNat : Int)] n 0) (T.step ?_)
  unfold zc5
  refine T.dec (fun _ => T.getN (i := 0) rfl ?_) fun h => absurd (by simp) h
  rw [show w64 ((0 : Int) + 0) = ((0 : Nat) : Int) from rfl]
  refine T.bind (P := (· = pk l (i + 0))) (T.all fun k n => zmn hl hi k 0 (by omega)) fun r hr => ?_
  subst hr
  rw [Nat.add_zero]
  unfold pk
  cases e : l[i]? with
  | none => exact T.bif (fun _ => T.some (by simp)) fun h => by simp at h
  | some x =>
    by_cases hx : x = (c.toNat : Int)
    · refine T.bif (fun h => by simp [hx] at h) fun _ => T.step ?_
      unfold zc5 zf8
      rw [show w64 ((0 : Int) + 1) = 1 from rfl]
      exact T.dec (fun h => by simp at h) fun _ => T.some (by simp [hx])
    · exact T.bif (fun _ => T.some (by simp [hx])) fun h => by simp [hx] at h
end
def letR (r : Int) : Bool := bif (decide (97 ≤ r)) then ((decide (r ≤ 122)) || ((decide (65 ≤ r)) && (decide (r ≤ 90)))) else ((decide (65 ≤ r)) && (decide (r ≤ 90)))
def begR (l : List Int) (i : Nat) : Bool := decide (l[i]? = some 60) && (letR (pk l (i + 1)).1 || (decide ((pk l (i + 1)).1 = 33) || (decide ((pk l (i + 1)).1 = 63) || decide ((pk l (i + 1)).1 = 47))))
section
variable {l : List Int} {i : Nat} {out : List za6} (hl : l.length ≤ 100000) (hi : i ≤ l.length)
include hl hi
theorem zqf : T (fun k _ => zby k (ctr l i out)) (· = begR l i) := by
  unfold zby zbz
  refine T.bind (is1_T (c := 60) hl hi (by decide)) fun r hr => ?_
  subst hr
  unfold begR
  refine T.bif (fun h => T.some ?_) fun h => ?_
  · rw [show decide (l[i]? = some (60 : Int)) = false by simpa using h]; rfl
  · have h60 : decide (l[i]? = some (60 : Int)) = true := by simpa using h
    rw [h60, Bool.true_and]
    refine T.bind (P := (· = (pk l (i + 1)).1)) (T.all fun k n => zj6 hl hi k 1 (by omega)) fun r hr => ?_
    subst hr
    refine T.bind (P := (· = letR (pk l (i + 1)).1)) (T.all fun k n => rfl) fun r hr => ?_
    subst hr
    refine T.bif (fun h => T.some (by rw [h]; rfl)) fun h => ?_
    rw [h, Bool.false_or]
    exact T.dec (fun h => T.some (by rw [decide_eq_true h]; rfl)) fun h => T.dec (fun g => T.some (by rw [decide_eq_false h, decide_eq_true g]; rfl)) fun g => T.some (by rw [decide_eq_false h, decide_eq_false g]; rfl)
theorem znj {p : Int → Bool} {f : Nat → Int → Option Bool} (hf : ∀ k z, f k z = some (p z)) {a b : List Int} (hab : l.drop i = a ++ b) (ha : ∀ x ∈ a, p x = true) (hb : ∀ x, b.head? = some x → p x = false) : T (fun k _ => zce k (ctr l i out) (f k)) (· = (a, ctr l (i + a.length) out)) := by
  have hlen : l.length = i + a.length + b.length := by
    have := congrArg List.length hab
    rw [List.length_drop, List.length_append] at this; omega
  have at_ : ∀ j, j ≤ a.length → l[i + j]? = (a ++ b)[j]? := fun j _ => by rw [← hab, List.getElem?_drop]
  have key : ∀ (m j : Nat), a.length - j ≤ m → j ≤ a.length → T (fun k n => zb6 k (ctr l i out) (f k) n l ((i + j : Nat) : Int) (a.take j) (pk l (i + j)).1 (pk l (i + j)).2) (· = (a, ctr l (i + a.length) out)) := by
    have fin : ∀ j, a.length ≤ j → j ≤ a.length → T (fun k n => zb6 k (ctr l i out) (f k) n l ((i + j : Nat) : Int) (a.take j) (pk l (i + j)).1 (pk l (i + j)).2) (· = (a, ctr l (i + a.length) out)) := fun j h1 h2 => by
      obtain rfl : j = a.length := by omega
      refine T.step ?_
      unfold zb6 zdb zf1
      have hh := at_ a.length (Nat.le_refl _)
      rw [List.getElem?_append_right (Nat.le_refl _), Nat.sub_self] at hh
      rw [List.take_length]
      cases e : b[0]? with
      | none =>
        unfold pk
        rw [hh, e]
        exact T.bif (fun h => by cases h) fun _ => T.bif (fun h => by cases h) fun _ => T.some rfl
      | some x =>
        have hx := hb x (by rw [List.head?_eq_getElem?]; exact e)
        unfold pk
        rw [hh, e]
        refine T.bif (fun _ => T.bind (P := (· = false)) (T.all fun k n => by rw [hf, hx]) fun r hr => ?_) fun h => by cases h
        subst hr
        exact T.bif (fun h => by cases h) fun _ => T.some rfl
    intro m
    induction m with
    | zero => intro j h1 h2; exact fin j (by omega) h2
    | succ m ih =>
      intro j h1 h2
      by_cases hj : j < a.length
      · have hx : l[i + j]? = some a[j] := by rw [at_ j h2, List.getElem?_append_left hj, List.getElem?_eq_getElem hj]
        refine T.step ?_
        unfold zb6 zdb
        have e : pk l (i + j) = (a[j], true) := by unfold pk; rw [hx]
        rw [e]
        refine T.bif (fun _ => T.bind (P := (· = true)) (T.all fun k n => by rw [hf, ha _ (List.getElem_mem hj)]) fun r hr => ?_) fun h => by cases h
        subst hr
        refine T.bif (fun _ => T.app (by simp; omega) (by simp; omega) (T.bind (P := (· = (a[j], true, cur l (i + j + 1)))) (T.all fun k n => zir hl (by omega) k hx) fun r hr => ?_)) fun h => by cases h
        subst hr
        refine T.bind (P := (· = pk l (i + j + 1))) (T.all fun k n => zmn (i := i + j + 1) hl (by omega) k 0 (by omega)) fun r hr => ?_
        subst hr
        rw [show a.take j ++ [a[j]] = a.take (j + 1) by rw [List.take_add_one, List.getElem?_eq_getElem hj]; rfl]
        exact ih (j + 1) (by omega) (by omega)
      · exact fin j (by omega) h2
  unfold zce
  refine T.bind (P := (· = pk l (i + 0))) (T.all fun k n => zmn hl hi k 0 (by omega)) fun r hr => ?_
  subst hr
  exact T.diag (F := fun k n => zb6 k (ctr l i out) (f k) n l (i : Int) [] (pk l (i + 0)).1 (pk l (i + 0)).2) (key _ 0 (Nat.le_refl _) (Nat.zero_le _))
end
end Go.Proofs.YtpfdbeafdjnbnaaGreatDoor
