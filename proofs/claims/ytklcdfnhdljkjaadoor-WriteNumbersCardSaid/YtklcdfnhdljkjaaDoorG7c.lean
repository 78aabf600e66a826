/-
  Walks and laws of this seat; the base is the text Base.
-/
import Derived.Test.YtklcdfnhdljkjaaDoorY7
namespace Go.Sl
open Go.RowKit
section
variable {P : Program} {w : World} {n : Nat} {E : List (Nat × Value)} {C : World → Prop}
variable {d : Option Tmp} {ty : TypeId} {pos : String} {af : Array Edge} {g : Option (Nat × Bool)}
theorem equal_slnil {t e : TypeId} {ao : Option Addr} {l c : Nat} (ht : P.underlying t = some (.slice e)) : (Op.equal t (.slice ao l c) (.slice none 0 0)).run P w = .ok ao.isNone w := by
  cases ao with
  | none => exact equal_deep (fun d => by simp [Op.equalIn, run_underlying ht]) rfl
  | some a => exact equal_deep (fun d => by simp [Op.equalIn, run_underlying ht]) rfl
/-- A slice held against nil. -/
theorem y_slnil {x y : Operand} {t t' e : TypeId} {ao : Option Addr} {l c : Nat} (hx : opv E x = some (.slice ao l c)) (hy : opv E y = some (.slice none 0 0)) (ht : P.underlying t = some (.slice e)) :
    Y P C n E ⟨d, .binOp .eql t x y t', ty, pos, af, g⟩ (.bool ao.isNone) :=
  .of fun a ha w _ => by
    simp only [execOp, ha.eval hx, ha.eval hy, eqGuard, binOp, Sem.run_bind, Sem.run_pure, equal_slnil ht, Result.andThen_ok]
    rfl
end
end Go.Sl
namespace Go.Proofs.YtklcdfnhdljkjaaDoor
open Go.RowKit Go.Sl
def slices_Clone (_ : Nat) (p0 : List api_Attr) : Option (List api_Attr) := appM 32 [] p0
theorem slices_Clone_ok (n : Nat) {f : Fz} {p0 : List api_Attr} {a0 : Value} {res : List api_Attr} (h0 : RS t_api_Attr f a0 p0) (hm : slices_Clone n p0 = some res) :
    Does Tryd.prog 12 [a0] f [] (fun r f' L' => ∃ (u0 : Value), L' = [] ∧ r = u0 ∧ RS t_api_Attr f' u0 res) := by
  intro w0 L w hC
  obtain ⟨rw1, hR1, hW1⟩ := h0
  obtain ⟨hb, he⟩ := appM_some hm
  have hR' := hR1
  obtain ⟨_, ao, cap, rfl, _, hnil, _⟩ := hR'
  refine enter Tryd.func12 rfl Tryd.ntmps12 (by simp) hC fun a hs => ?_
  refine W_seq fun K1 hK1 => ?_
  refine W_region ?_
  refine sy hs (y_assign rfl) ?_; clear hs; (try clear a w); intro a w hs
  refine RL_nil ?_
  refine hK1 _ _ ?_; clear hK1
  refine W_seq fun K1 hK1 => ?_
  refine W_seq fun K2 hK2 => ?_
  refine W_region ?_
  refine sy hs (y_move rfl) ?_; clear hs; (try clear a w); intro a w hs
  refine sy hs (y_slnil rfl rfl Tryd.underlying28) ?_; clear hs; (try clear a w); intro a w hs
  refine RL_nil ?_
  refine hK2 _ _ ?_; clear hK2
  refine W_cond hs rfl (fun hg => ?_) (fun hg => ?_)
  · refine W_seq fun K2 hK2 => ?_
    refine W_region ?_
    refine sy hs (y_assign rfl) ?_; clear hs; (try clear a w); intro a w hs
    refine RL_nil ?_
    refine hK2 _ _ ?_; clear hK2
    refine W_ret ?_
    have hao : ao = none := by simpa using hg
    have hp : p0 = [] := by
      have h1 := hnil hao
      rw [h1] at hW1
      cases p0 with
      | nil => rfl
      | cons x p => exact hW1.elim
    subst hp
    subst he
    refine RtV1 hs rfl (rv_t hs rfl) ?_
    exact ⟨_, f, [], rfl, .refl f, hs.cw, _, rfl, rfl, RS.nil⟩
  · refine W_skip ?_
    refine hK1 _ _ ?_; clear hK1
    refine W_seq fun K2 hK2 => ?_
    refine W_region ?_
    refine RL_bs0 hs Tryd.underlying28 ti43 ?_; clear hs; (try clear a w); intro v1 a w hs
    refine sy hs (y_move rfl) ?_; clear hs; (try clear a w); intro a w hs
    refine RL_append (i := 0) hs rfl rfl rfl hR1.up Tryd.underlying28 ti43 (by decide) (by rw [hW1.len]; exact hb) (.free rfl) (by decide) ?_; clear hs; (try clear a w); intro v2 a w hs
    replace hs : St _ _ _ (.row v2 43 2 ([] ++ rw1) :: L) _ _ _ := hs
    refine sy hs (y_assign rfl) ?_; clear hs; (try clear a w); intro a w hs
    refine RL_nil ?_
    refine hK2 _ _ ?_; clear hK2
    refine W_ret ?_
    obtain ⟨f2, hf2, hs, hR2⟩ := hs.frz
    refine RtV1 hs rfl (rv_t hs rfl) ?_
    refine ⟨_, f2, [], rfl, hf2, hs.cw, _, rfl, rfl, ([] ++ rw1), hR2, ?_⟩
    rw [← he]
    exact hW1.le hf2
end Go.Proofs.YtklcdfnhdljkjaaDoor
