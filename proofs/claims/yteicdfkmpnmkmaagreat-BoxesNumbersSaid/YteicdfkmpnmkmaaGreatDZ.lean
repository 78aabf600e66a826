/-
  Walks and laws of this seat; the base is the text Base.
-/
import Derived.Test.YteicdfkmpnmkmaaGreatDY1
import Derived.Test.YteicdfkmpnmkmaaGreatDY2
import Derived.Test.YteicdfkmpnmkmaaGreatDY3
import Derived.Test.YteicdfkmpnmkmaaGreatDY4
namespace Go.D
open Go.Proofs Go.RowKit Go.Sl
set_option maxRecDepth 100000
noncomputable def mm : List (Nat × List (List Nat) × C) := [(10, [[60, 98, 62, 120, 60, 100, 105, 118, 62, 121, 60, 47, 100, 105, 118, 62, 60, 47, 98, 62], [], [66, 40, 66, 40, 63, 66, 40, 99, 41, 66, 40, 99, 41, 41, 41]], .b true), (10, [[60, 112, 32, 115, 116, 121, 108, 101, 61, 34, 100, 105, 115, 112, 108, 97, 121, 58, 102, 108, 101, 120, 34, 62, 97, 60, 98, 62, 99, 60, 47, 98, 62, 60, 47, 112, 62], [], [66, 40, 70, 40, 63, 66, 40, 99, 41, 66, 40, 99, 41, 41, 41]], .b true), (10, [[60, 116, 114, 62, 120], [], [66, 40, 66, 40, 99, 41, 41]], .b true), (10, [[60, 100, 105, 118, 62, 60, 47, 100, 105, 118, 62], [], [66, 40, 66, 41]], .b true), (10, [[97, 60, 98, 114, 62, 98, 60, 105, 62, 99, 60, 47, 105, 62], [], [66, 40, 99, 98, 99, 105, 40, 99, 41, 41]], .b true), (10, [[60, 116, 97, 98, 108, 101, 62], [112, 123, 125, 32, 116, 97, 98, 108, 101, 123, 125], [66, 40, 84, 41]], .b true), (10, [[60, 100, 105, 118, 62, 32, 60, 100, 105, 118, 62, 60, 47, 100, 105, 118, 62, 32, 60, 47, 100, 105, 118, 62], [], [66, 40, 66, 40, 66, 41, 41]], .b true), (10, [[60, 100, 105, 118, 62, 32, 60, 100, 105, 118, 62, 60, 47, 100, 105, 118, 62, 32, 60, 47, 100, 105, 118, 62], [100, 105, 118, 32, 123, 32, 119, 104, 105, 116, 101, 45, 115, 112, 97, 99, 101, 58, 32, 112, 114, 101, 32, 125], [66, 40, 66, 40, 63, 66, 40, 99, 41, 66, 63, 66, 40, 99, 41, 41, 41]], .b true), (10, [[60, 100, 105, 118, 62, 60, 100, 105, 118, 62, 60, 100, 105, 118, 62, 60, 100, 105, 118, 62, 60, 100, 105, 118, 62], [100, 105, 118, 32, 123, 32, 100, 105, 115, 112, 108, 97, 121, 58, 32, 102, 108, 101, 120, 32, 125], [66, 40, 70, 40, 70, 40, 70, 40, 70, 40, 66, 41, 41, 41, 41, 41]], .b true), (10, [[97, 60, 100, 105, 118, 62, 98, 60, 47, 100, 105, 118, 62, 99], [], [66, 40, 63, 66, 40, 99, 41, 66, 40, 99, 41, 63, 66, 40, 99, 41, 41]], .b true), (10, [[60, 116, 97, 98, 108, 101, 62, 32, 60, 116, 100, 62, 49, 60, 47, 116, 97, 98, 108, 101, 62], [], [66, 40, 84, 40, 82, 40, 67, 40, 99, 41, 41, 41, 41]], .b true)]
noncomputable def envM : Env := ⟨tt, ft, mm⟩
theorem envMOk : EnvOk Tryz.prog envM := env_ok (fun f ss c h => by
  have h : (f, ss, c) ∈ mm := h
  simp only [mm, List.mem_cons, Prod.mk.injEq, List.not_mem_nil, or_false] at h
  rcases h with ⟨rfl, rfl, rfl⟩ | ⟨rfl, rfl, rfl⟩ | ⟨rfl, rfl, rfl⟩ | ⟨rfl, rfl, rfl⟩ | ⟨rfl, rfl, rfl⟩ | ⟨rfl, rfl, rfl⟩ | ⟨rfl, rfl, rfl⟩ | ⟨rfl, rfl, rfl⟩ | ⟨rfl, rfl, rfl⟩ | ⟨rfl, rfl, rfl⟩ | ⟨rfl, rfl, rfl⟩
  · exact iss0
  · exact iss1
  · exact iss2
  · exact iss3
  · exact iss4
  · exact iss5
  · exact iss6
  · exact iss7
  · exact iss8
  · exact iss9
  · exact iss10) tts fts fbs mixs
theorem top : run 100000 envM 0 3 ([].map fun l => .c (.s l)) .e 0 okT = some () := by kernel_rfl
theorem boxesNumbers : Still Tryz.prog 3 [] (.b true) := run_still envMOk okT_ok (fun _ _ _ h => h) top
end Go.D
