/-
  Walks and laws of this seat; the base is the text Base.
-/
import Derived.Test.YthmnohdlhlmmpaaQ4G
import Derived.Test.YthmnohdlhlmmpaaQ4K
import Derived.Test.YthmnohdlhlmmpaaL4vu
namespace Go.Proofs.Ythmnohdlhlmmpaa
open Go.RowKit Go.Sl
theorem keep_Few_bs (n : Nat) (l : List UInt8) (m : Nat) : keep_Few n (bs l) (m : Int) = some (bs (l.take m)) := by
  unfold keep_Few
  rw [bs_size]
  by_cases h : m < l.length
  · rw [dT (by omega), show (0 : Int) = ((0 : Nat) : Int) from rfl, cutS_bs _ (Nat.zero_le _) (by omega)]; rfl
  · rw [dF (by omega), List.take_of_length_le (by omega)]
end Go.Proofs.Ythmnohdlhlmmpaa
