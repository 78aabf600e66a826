/-
  Walks and laws of this seat; the base is the text Base.
-/
import Derived.Test.YthmnohdlhlmmpaaQ4G
import Derived.Test.YthmnohdlhlmmpaaQ4K
import Derived.Test.YthmnohdlhlmmpaaL4vu
namespace Go.Proofs.Ythmnohdlhlmmpaa
open Go.RowKit Go.Sl
theorem keep_Few_bs (n : Nat) (l : List UInt8) (m : Nat) : keep_Few n (bs l) (m : Int) = some (bs (l.take m)) := by
  unfold keep_Few
  rw [bs_size]
  by_cases h : m < l.length
  · rw [dT (by omega), show (0 : Int) = ((0 : Nat) : Int) from rfl, cutS_bs _ (Nat.zero_le _) (by omega)]; rfl
  · rw [dF (by omega), List.take_of_length_le (by omega)]
theorem law4_MarkUnescapes_true {s : ByteArray} (_ : Sstr s) : ∃ fuel, law4_MarkUnescapes fuel s = some true := by
  refine ⟨3000 + 60, ?_⟩
  rw [bs_data s]
  generalize s.data.toList = l
  unfold law4_MarkUnescapes
  have h := keep_Few_bs (3000 + 60) l 2000
  rw [show ((2000 : Nat) : Int) = 2000 from rfl] at h
  have hl : (l.take 2000).length ≤ 2000 := by rw [List.length_take]; omega
  rw [h, Option.bind_some, mark_Unescape_eq _ _ (by omega) (by omega), Option.bind_some, ref_Unescape _ _ (by omega) (by omega), Option.bind_some, dT rfl, known_true]
  rfl
end Go.Proofs.Ythmnohdlhlmmpaa
