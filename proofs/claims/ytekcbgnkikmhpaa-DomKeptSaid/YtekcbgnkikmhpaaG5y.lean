/-
  Walks and laws of this seat; the base is the text Base.
-/
import Derived.Test.YtekcbgnkikmhpaaG5
import Derived.Test.YtekcbgnkikmhpaaBasg
namespace Go.Proofs.Ytekcbgnkikmhpaa
open Go.RowKit Go.Sl
theorem RW.attr {f f' : Fz} : ∀ {rows : List (List Value)} {xs : List api_Attr}, RW t_api_Attr f rows xs → RW t_api_Attr f' rows xs
  | [], [], _ => trivial
  | _ :: _, _ :: _, h => ⟨h.1, RW.attr h.2⟩
  | [], _ :: _, h => h.elim
  | _ :: _, [], h => h.elim
theorem slices_Clone_y (n : Nat) {f0 f : Fz} (hf0 : Fz.le f0 f) {p0 : List api_Attr} {a0 : Value} {res : List api_Attr} (h0 : RS t_api_Attr f a0 p0) (hm : slices_Clone n p0 = some res) :
    Does Try.prog 41 [a0] f [] (fun r f' L' => ∃ (u0 : Value), L' = [] ∧ r = u0 ∧ RS t_api_Attr (fy f0 f') u0 res) := by
  intro w0 L w hC
  obtain ⟨rw1, hR1, hW1⟩ := h0
  obtain ⟨hb, he⟩ := appM_some hm
  have hR' := hR1
  obtain ⟨_, ao, cap, rfl, _, hnil, _⟩ := hR'
  refine enter Try.func41 rfl Try.ntmps41 (by simp) hC fun a hs => ?_
  refine W_seq fun K1 hK1 => ?_
  refine W_region ?_
  refine sy hs (y_assign rfl) ?_; clear hs; (try clear a w); intro a w hs
  refine RL_nil ?_
  refine hK1 _ _ ?_; clear hK1
  refine W_seq fun K1 hK1 => ?_
  refine W_seq fun K2 hK2 => ?_
  refine W_region ?_
  refine sy hs (y_move rfl) ?_; clear hs; (try clear a w); intro a w hs
  refine sy hs (y_slnil rfl rfl Try.underlying32) ?_; clear hs; (try clear a w); intro a w hs
  refine RL_nil ?_
  refine hK2 _ _ ?_; clear hK2
  refine W_cond hs rfl (fun hg => ?_) (fun hg => ?_)
  · refine W_seq fun K2 hK2 => ?_
    refine W_region ?_
    refine sy hs (y_assign rfl) ?_; clear hs; (try clear a w); intro a w hs
    refine RL_nil ?_
    refine hK2 _ _ ?_; clear hK2
    refine W_ret ?_
    have hao : ao = none := by simpa using hg
    have hp : p0 = [] := by
      have h1 := hnil hao
      rw [h1] at hW1
      cases p0 with
      | nil => rfl
      | cons x p => exact hW1.elim
    subst hp
    subst he
    refine RtV1 hs rfl (rv_t hs rfl) ?_
    exact ⟨_, f, [], rfl, .refl f, hs.cw, _, rfl, rfl, RS.nil⟩
  · refine W_skip ?_
    refine hK1 _ _ ?_; clear hK1
    refine W_seq fun K2 hK2 => ?_
    refine W_region ?_
    refine RL_bs0 hs Try.underlying32 ti53 ?_; clear hs; (try clear a w); intro v1 a w hs
    refine sy hs (y_move rfl) ?_; clear hs; (try clear a w); intro a w hs
    refine RL_append (i := 0) hs rfl rfl rfl hR1.up Try.underlying32 ti53 (by decide) (by rw [hW1.len]; exact hb) (.free rfl) (by decide) ?_; clear hs; (try clear a w); intro v2 a w hs
    replace hs : St _ _ _ (.row v2 53 2 ([] ++ rw1) :: L) _ _ _ := hs
    refine sy hs (y_assign rfl) ?_; clear hs; (try clear a w); intro a w hs
    refine RL_nil ?_
    refine hK2 _ _ ?_; clear hK2
    refine W_ret ?_
    obtain ⟨f2, hf2, hs, hR2⟩ := hs.frzY 0 rfl hf0
    refine RtV1 hs rfl (rv_t hs rfl) ?_
    refine ⟨_, f2, [], rfl, hf2, hs.cw, _, rfl, rfl, ([] ++ rw1), hR2, ?_⟩
    rw [← he]
    exact RW.attr hW1
end Go.Proofs.Ytekcbgnkikmhpaa
