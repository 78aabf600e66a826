/-
  Walks and laws of this seat.
-/
import Derived.Test.YteicdfkmpnmkmaaGreatND
namespace Go.V
set_option linter.unusedVariables false
set_option linter.unusedSimpArgs false
set_option linter.unusedSectionVars false
open Go.RowKit Go.Sl Go.Proofs
set_option maxRecDepth 100000
abbrev boxes_Build := Go.Proofs.YteicdfkmpnmkmaaGreat.boxes_Build
abbrev ref13_Build := Go.Proofs.YteicdfkmpnmkmaaGreat.ref13_Build
variable [F0]
def zpn (k : Nat) : Con := ⟨[.d cTreT, .d (.sl cStyT)],[.d cBoxT, .d .bool], fun x => boxes_Build k x.1 x.2⟩
theorem zr3 (k : Nat) : ConOk Tryz.prog 9 (zpn k) := by
  refine ⟨⟨Tryz.f9, rfl, rfl, by decide⟩, fun x y hm f vs es hf0 hM => ?_⟩
  obtain ⟨v1, vs', e1, e2, rfl, rfl, ⟨h1, rfl⟩, v2, rfl, h2, rfl⟩ := hM
  obtain ⟨r1, hr1, rfl⟩ := TC.vR.1 h1
  obtain ⟨r2, ⟨lv, rfl, srows, hL, hLW⟩, rfl⟩ := TC.vR.1 h2
  obtain ⟨v0, nrows, rfl, hN, hNW⟩ := Go.Proofs.YteicdfkmpnmkmaaGreat.treR hr1
  refine (Go.Proofs.YteicdfkmpnmkmaaGreat.Build_ok k hf0 hm hr1 hN hNW hL.1 (zc9.1 hLW)).mono ?_
  rintro u f' L' ⟨r, rfl, h3, rfl⟩
  exact ⟨[.agg r.toArray, .bool y.2],[.agg r.toArray, .bool y.2], rfl, rfl, rfl, _, _,[],[], rfl, rfl, ⟨TC.vR.2 ⟨r, h3, rfl⟩, rfl⟩, _, rfl, rfl, rfl⟩
def zop (k : Nat) : Con := ⟨[.d cTreT, .d (.sl cStyT)],[.d cBoxT, .d .bool], fun x => ref13_Build k x.1 x.2⟩
theorem zwo (k : Nat) : ConOk Tryz.prog 13 (zop k) := by
  refine ⟨⟨Tryz.f13, rfl, rfl, by decide⟩, fun x y hm f vs es hf0 hM => ?_⟩
  obtain ⟨v1, vs', e1, e2, rfl, rfl, ⟨h1, rfl⟩, v2, rfl, h2, rfl⟩ := hM
  obtain ⟨r1, hr1, rfl⟩ := TC.vR.1 h1
  obtain ⟨r2, ⟨lv, rfl, srows, hL, hLW⟩, rfl⟩ := TC.vR.1 h2
  obtain ⟨v0, nrows, rfl, hN, hNW⟩ := Go.Proofs.YteicdfkmpnmkmaaGreat.treR hr1
  refine (Go.Proofs.YteicdfkmpnmkmaaGreat.Build2_ok k hf0 hm hr1 hN.one hL.1 (zc9.1 hLW)).mono ?_
  rintro u f' L' ⟨r, rfl, h3, rfl⟩
  exact ⟨[.agg r.toArray, .bool y.2],[.agg r.toArray, .bool y.2], rfl, rfl, rfl, _, _,[],[], rfl, rfl, ⟨TC.vR.2 ⟨r, h3, rfl⟩, rfl⟩, _, rfl, rfl, rfl⟩
end Go.V
