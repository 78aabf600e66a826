/-
  Walks and laws of this seat; the base is the text Base.
-/
import Derived.Test.YtmkcglpeidbblaaDoorY10
import Derived.Test.YtmkcglpeidbblaaDoorRows
/-
  Models of functions, and that the functions compute them. Printed by lift.py.
-/
namespace Go.Proofs.YtmkcglpeidbblaaDoor
open Go.RowKit Go.Sl
/-! casement/casementref4.Blank -/
/-! casement/casementref4.Small -/
/-! casement/casementref5.Attr -/
/-! casement/casementref5.Index -/
def ref5_Index_k2 (y22 : Int) : Option Int :=
  some y22
def ref5_Index_k4 (p0 : api_Tree) (y24 : Int) (lp25 : Int → Int → Option Int) (y39 : Int) : Option Int :=
  (geti p0.Nodes y24).bind fun x40 =>
  lp25 y39 x40.Prev
def ref5_Index_l3 (p0 : api_Tree) : Nat → Int → Int → Option Int
  | 0, _, _ => none
  | k25 + 1, y23, y24 =>
  (bif (decide (0 ≤ y24)) then (geti p0.Nodes y24).bind fun x27 =>
  (bif (decide (x27.Kind = 1)) then ref5_Index_k4 p0 y24 (ref5_Index_l3 p0 k25) (w64 (y23 + 1)) else
  ref5_Index_k4 p0 y24 (ref5_Index_l3 p0 k25) y23) else
  ref5_Index_k2 y23)
def ref5_Index_k1 (n : Nat) (p0 : api_Tree) (p1 : Int) (y8 : Bool) : Option Int :=
  (bif y8 then some 0 else
  (geti p0.Nodes p1).bind fun x10 =>
  ref5_Index_l3 p0 n 1 x10.Prev)
def ref5_Index (n : Nat) (p0 : api_Tree) (p1 : Int) : Option Int :=
  (bif (decide (p1 < 0)) then ref5_Index_k1 n p0 p1 true else
  (bif (decide ((p0.Nodes.length : Int) ≤ p1)) then ref5_Index_k1 n p0 p1 true else
  (geti p0.Nodes p1).bind fun x55 =>
  ref5_Index_k1 n p0 p1 (decide (x55.Kind ≠ 1))))
/-! casement/casementref10.word -/
/-! casement/casementref10.holds -/
/-! casement/casementref10.means -/
/-! casement/casementref10.ahead -/
end Go.Proofs.YtmkcglpeidbblaaDoor
