/-
  Walks and laws of this seat; the base is the text Base.
-/
import Derived.Test.YteicdfkmpnmkmaaGreatDX14
import Derived.Test.YteicdfkmpnmkmaaGreatDX15
import Derived.Test.YteicdfkmpnmkmaaGreatDX16
namespace Go.D
open Go.Proofs Go.RowKit Go.Sl
theorem envOk : EnvOk Tryz.prog env := env_ok (fun _ _ _ h => by cases h) tts fts fbs mixs
noncomputable def okT (v : V) (_ : H) (_ : Nat) : Option Unit := V.rec (fun x => C.rec (fun b => Bool.rec none (some ()) b) (fun _ _ => none) (fun _ => none) none (fun _ _ => none) none (fun _ _ _ _ => none) none (fun _ => none) none (fun _ _ _ => none) x) (fun _ => none) (fun _ => none) v
theorem okT_ok : ∀ v h n, okT v h n = some () → v = .c (.b true)
  | .c (.b true), _, _, _ => rfl
  | .c (.b false), _, _, h => by cases h
  | .c (.i _ _), _, _, h => by cases h
  | .c (.s _), _, _, h => by cases h
  | .c .pn, _, _, h => by cases h
  | .c (.p _ _), _, _, h => by cases h
  | .c .sn, _, _, h => by cases h
  | .c (.sl _ _ _ _), _, _, h => by cases h
  | .c .mn, _, _, h => by cases h
  | .c (.m _), _, _, h => by cases h
  | .c .nf, _, _, h => by cases h
  | .c (.fn _ _ _), _, _, h => by cases h
  | .a _, _, _, h => by cases h
  | .t _, _, _, h => by cases h
end Go.D
