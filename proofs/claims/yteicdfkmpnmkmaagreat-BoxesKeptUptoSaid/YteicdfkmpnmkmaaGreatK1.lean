/-
  Walks and laws of this seat.
-/
import Derived.Test.YteicdfkmpnmkmaaGreatNa
import Derived.Test.YteicdfkmpnmkmaaGreatM1
namespace Go.V
set_option linter.unusedVariables false
set_option linter.unusedSimpArgs false
set_option linter.unusedSectionVars false
open Go.RowKit Go.Sl
def zBox : BoxT := Tr.mk (0,0,0,(0,0,0,0,(0,0,()),(0,0,()),((0,0,()),(0,0,()),(0,0,()),(0,0,()),()),((0,0,()),(0,0,()),(0,0,()),(0,0,()),()),((0,0,()),(0,0,()),(0,0,()),(0,0,()),()),(0,0,0,0,()),0,0,0,0,0, false, false, false, false,0,0,0,0,0,0, false,()),(bs []),()) []
mutual
/-- A box numbered, and the next number. -/
def numB : BoxT → Int → BoxT × Int
  | .mk x ks, n => (.mk (x.1, x.2.1, n, x.2.2.2) (numL ks (w64 (n + 1))).1,(numL ks (w64 (n + 1))).2)
def numL : List BoxT → Int → List BoxT × Int
  | [], n => ([], n)
  | b :: bs, n => ((numB b n).1 :: (numL bs (numB b n).2).1,(numL bs (numB b n).2).2)
end
theorem zrl {x : Int × Int × Int × StyT × ByteArray × Unit} {ks : List BoxT} {n : Int} : numB (.mk x ks) n = (.mk (x.1, x.2.1, n, x.2.2.2) (numL ks (w64 (n + 1))).1,(numL ks (w64 (n + 1))).2) := by rw [numB]
theorem zp9 {b : BoxT} {bs : List BoxT} {n : Int} : numL (b :: bs) n = ((numB b n).1 :: (numL bs (numB b n).2).1,(numL bs (numB b n).2).2) := by rw [numL]
theorem zpz {n : Int} : numL [] n = ([], n) := by rw [numL]
mutual
/-- What tells boxes apart: the first node at or below, and how deep it is. -/
def kyT : BoxT → Int × Nat
  | .mk x ks => bif decide (0 ≤ x.2.1) then (x.2.1,0) else kyL ks
def kyL : List BoxT → Int × Nat
  | [] => (-1,0)
  | b :: _ => ((kyT b).1,(kyT b).2 + 1)
end
def apartB (b : BoxT) : Bool := decide ((fkT b).map kyT).Nodup
theorem yhm {b : BoxT} (h : apartB b = true) : (fkT b).Nodup := by
  unfold apartB at h
  have h : List.Pairwise _ _ := of_decide_eq_true h
  rw [List.pairwise_map] at h
  exact h.imp fun {x y} hxy e => hxy (by rw [e])
end Go.V
