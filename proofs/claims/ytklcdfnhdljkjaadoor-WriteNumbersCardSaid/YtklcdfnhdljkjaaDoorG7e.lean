/-
  Walks and laws of this seat; the base is the text Base.
-/
import Derived.Test.YtklcdfnhdljkjaaDoorS7p
import Derived.Test.YtklcdfnhdljkjaaDoorY7
namespace Go.Proofs.YtklcdfnhdljkjaaDoor
open Go.RowKit Go.Sl
def write_Escape (_ : Nat) (s : ByteArray) (q : Bool) : Option ByteArray := bif decide (s.size ≤ 1099511627776) then some (escS q s) else none
theorem write_Escape_ok (n : Nat) {f : Fz} {p0 : ByteArray} {p1 : Bool} {res : ByteArray} (hm : write_Escape n p0 p1 = some res) : Gives Tryd.prog 8 [.string p0, .bool p1] f (.string res) := by
  unfold write_Escape at hm
  by_cases h : p0.size ≤ 1099511627776
  · rw [decide_eq_true h] at hm
    obtain rfl := Option.some.inj hm
    exact Escape_ok h
  · rw [decide_eq_false h] at hm; cases hm
end Go.Proofs.YtklcdfnhdljkjaaDoor
