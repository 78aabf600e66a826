/-
  Walks and laws of this seat; the base is the text Base.
-/
import Derived.Test.YthmnohdlhlmmpaaC17
import Derived.Test.YthmnohdlhlmmpaaQ4ZE
namespace Go.Proofs.Ythmnohdlhlmmpaa
open Go.RowKit Go.Sl
theorem MarkKept_fin {f : Fz} {a0 : Value} {l0 : List Int} (h0 : RS (tInt .i32) f a0 l0) : Gives Try.prog 9 [a0] f (.bool true) := by
  have h := few_runes (20000000 + 60) l0 500
  rw [show ((500 : Nat) : Int) = 500 from rfl] at h
  have hl : (l0.take 500).length ≤ 500 := by rw [List.length_take]; omega
  generalize l0.take 500 = l at hl h
  obtain ⟨b, hv⟩ := valid_l2 l (by omega) l.length 0 (20000000 + 60) (by omega) (by omega)
  have ht := tokS_len (l.length + 1) l
  have hok := tokS_ok (l.length + 1) l (by omega)
  have hal : ∀ t ∈ tokS (l.length + 1) l, t.Attrs.length ≤ 64 := fun t ht => by
    rcases hok t ht with ⟨_, _, _, h0, _⟩ | ⟨_, _, _, _, h0, _⟩
    · rw [h0]; simp
    · exact h0.1
  refine MarkKept_ok (n := 20000000 + 60) (bv := b) h0 h (mark_Tokens_eq _ (by omega) (by omega)) (by omega) (fun t ht => by have := hal t ht; omega) (known_true _) hv fun _ => ⟨_, ref_Tokens _ (by omega) (by omega), tokens_true _ (fun t ht => ?_) (by omega) (by omega)⟩
  have := hal t ht
  omega
end Go.Proofs.Ythmnohdlhlmmpaa
