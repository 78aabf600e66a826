/-
  Walks and laws of this seat.
-/
import Derived.Test.YteicdfkmpnmkmaaGreatDR
import Derived.Test.YteicdfkmpnmkmaaGreatDX13
namespace Go.D
set_option linter.unusedVariables false
set_option linter.unusedSimpArgs false
open Go.Proofs
set_option maxRecDepth 100000
theorem tts : (env.tt.toL id).all (tiB Tryz.prog) = true := by kernel_rfl
end Go.D
namespace Go.D
set_option linter.unusedVariables false
set_option linter.unusedSimpArgs false
open Go.Proofs
set_option maxRecDepth 100000
theorem fts : (env.ft.toL id).map (fun p => some p.2.fn) = (env.ft.toL id).map (fun p => Tryz.prog.funcs[p.1]?) := by kernel_rfl
theorem mixs : Tryz.prog.follows .mixedOrders = true := by kernel_rfl
end Go.D
namespace Go.D
set_option linter.unusedVariables false
set_option linter.unusedSimpArgs false
open Go.Proofs
set_option maxRecDepth 100000
theorem fbs : (env.ft.toL id).all (fun p => fiB p.2) = true := by kernel_rfl
end Go.D
namespace Go.D
set_option linter.unusedVariables false
set_option linter.unusedSimpArgs false
open Go.Proofs Go.RowKit Go.Sl
theorem envOk : EnvOk Tryz.prog env := env_ok (fun _ _ _ h => by cases h) tts fts fbs mixs
noncomputable def okT (v : V) (_ : H) (_ : Nat) : Option Unit := V.rec (fun x => C.rec (fun b => Bool.rec none (some ()) b) (fun _ _ => none) (fun _ => none) none (fun _ _ => none) none (fun _ _ _ _ => none) none (fun _ => none) none (fun _ _ _ => none) x) (fun _ => none) (fun _ => none) v
theorem okT_ok : ∀ v h n, okT v h n = some () → v = .c (.b true)
  | .c (.b true), _, _, _ => rfl
  | .c (.b false), _, _, h => by cases h
  | .c (.i _ _), _, _, h => by cases h
  | .c (.s _), _, _, h => by cases h
  | .c .pn, _, _, h => by cases h
  | .c (.p _ _), _, _, h => by cases h
  | .c .sn, _, _, h => by cases h
  | .c (.sl _ _ _ _), _, _, h => by cases h
  | .c .mn, _, _, h => by cases h
  | .c (.m _), _, _, h => by cases h
  | .c .nf, _, _, h => by cases h
  | .c (.fn _ _ _), _, _, h => by cases h
  | .a _, _, _, h => by cases h
  | .t _, _, _, h => by cases h
end Go.D
namespace Go.D
set_option linter.unusedVariables false
set_option linter.unusedSimpArgs false
open Go.Proofs Go.RowKit Go.Sl
set_option maxRecDepth 100000
theorem known_run : run 100000 env 0 11 [] .e 0 okT = some () := by kernel_rfl
theorem known_still : Still Tryz.prog 11 [] (.b true) := run_still envOk okT_ok (fun _ _ _ h => h) known_run
end Go.D
