/-
  The law TreeKeeps: no rune of any chars that is no blank is lost or made, and no element that is opened, where what comes in is of bulk at most 1048576.
-/
import Derived.Test.YtdjjeahiomackaaGreatU6
import Derived.Test.YtdjjeahiomackaaGreatK4
import Derived.JoinedCond
namespace Go.Proofs.YtdjjeahiomackaaGreat
set_option linter.unusedVariables false
set_option linter.unusedSimpArgs false
set_option linter.unusedSectionVars false
open Go.RowKit Go.Sl Go.ChangeShapes Go.WideShapes Go.ChangeAt
open Go.V (T wT wK wA zhk zhl)
theorem wA_le (l : List zam) : wA (l.map ofA) ≤ 7 * (l.map bA).sum := by
  induction l with
  | nil => exact Nat.le_refl _
  | cons x l ih =>
    have e : wA ((x :: l).map ofA) = (10 + x.Name.size + 6 * x.Value.size) + wA (l.map ofA) := rfl
    rw [e, List.map_cons, List.sum_cons]
    unfold bA at ih ⊢
    omega
theorem wT_le (l : List za4) : wT (l.map ofK) ≤ 7 * (l.map bK).sum := by
  induction l with
  | nil => exact Nat.le_refl _
  | cons x l ih =>
    have e : wT ((x :: l).map ofK) = (40 + x.Name.size + 6 * x.Text.size + wA (x.Attrs.map ofA)) + wT (l.map ofK) := rfl
    have := wA_le x.Attrs
    rw [e, List.map_cons, List.sum_cons]
    unfold bK at ih ⊢
    omega
theorem tokC_bd (r : Int) (l : List za4) : tokC r l ≤ (l.map bK).sum := by
  induction l with
  | nil => exact Nat.le_refl _
  | cons x l ih =>
    have h1 : cntS r x.Text ≤ x.Text.size := Nat.le_trans List.count_le_length (zi6 _)
    unfold tokC at ih ⊢
    rw [List.map_cons, List.map_cons, List.sum_cons, List.sum_cons]
    have h2 : bK x = x.Name.size + x.Text.size + (x.Attrs.map bA).sum + 6 := rfl
    split <;> omega
theorem zpv {p0 : List za4} (hb : (p0.map bK).sum ≤ 1048576) {f : Fz} {v : Value} (h : RS zaf f v p0) : Gives Tryz.prog 4 [v] f (.bool true) := by
  obtain ⟨l, hl⟩ : ∃ l, l = p0.take 100 := ⟨_, rfl⟩
  have hs : (l.map bK).sum ≤ (p0.map bK).sum := by rw [hl]; exact Go.V.sum_le 100
  have hat : ∀ x ∈ l, x.Attrs.length ≤ 1000000 ∧ x.Text.size ≤ 10000000 := fun x hx => by
    have h1 : bK x ≤ (l.map bK).sum := Go.V.mem_sum hx
    have h3 : ∀ l : List zam,3 * l.length ≤ (l.map bA).sum := fun l => by
      induction l with
      | nil => exact Nat.le_refl _
      | cons x l ih => rw [List.map_cons, List.sum_cons, List.length_cons]; unfold bA at ih ⊢; omega
    have h4 := h3 x.Attrs
    have h1 : x.Name.size + x.Text.size + (x.Attrs.map bA).sum + 6 ≤ (l.map bK).sum := h1
    omega
  obtain ⟨b, hbg, K1, e1⟩ := Go.V.whole_T (l := l.map ofK) (Nat.le_trans (wT_le l) (by omega))
  have hbd : ∀ r, tokC r l ≤ 1000000000 := fun r => Nat.le_trans (tokC_bd r l) (by omega)
  by_cases hbt : b = true
  · have hg : ∀ x ∈ l, TkG x := fun x hx => by
      have := hbg hbt (ofK x) (List.mem_map_of_mem hx)
      exact this
    obtain ⟨⟨t, e⟩, hq, K2, e2⟩ := Build_T (l := l) (by rw [hl, List.length_take]; omega) hat hg
    obtain ⟨k, hk⟩ : ∃ k, k = K1 + K2 := ⟨_, rfl⟩
    exact zmx (n := k) (k := k + 300) h hl (e1 (k + 300) (k + 300) (by omega) (by omega)) (Go.V.known_eq k) hbd fun _ => ⟨t, e, e2 k k (by omega) (by omega), by have : t.Nodes.length ≤ 4097 := hq.1; omega, hq.2.2⟩
  · exact zmx (n := 0) (k := K1 + 300) h hl (e1 (K1 + 300) (K1 + 300) (by omega) (by omega)) (Go.V.known_eq K1) hbd fun h => absurd h hbt
theorem ownk : ownKnob Tryz.prog.godebug = none := by kernel_rfl
theorem laid : laidOutB Tryz.prog = true := by kernel_rfl
set_option maxRecDepth 100000 in
theorem zlx (H : Type) (enc : TypeId × Value → H) (W : World) (base : Nat) (args : Array Value) (ds gs : List (DataW H)) (before : List MemPlace)
    (hval : ∀ (j : Nat) t v, Tryz.f4.params[j]? = some t → args[j]? = some v → Value.okWide Tryz.prog W .any base t v)
    (hW : DataW.Whole enc Tryz.prog Tryz.f4.params.toList Rows.treeKeepsSpec.vars false W args.toList ds gs before)
    (hsz : Rows.uptoSmall H (ds ++ gs) = true) :
    Calls Tryz.prog 4 args W fun e W' => ∃ v, e = .returned v ∧ Rows.treeKeepsSpec.post enc Tryz.prog Tryz.f4 false true false false W args v W' := by
  have hW' := hW
  obtain ⟨p, q, hA0, hV, rfl, _, _⟩ := hW
  have hA : DataW.TrodAll enc Tryz.prog W 0 (fun _ => true) true Tryz.f4.params.toList args.toList ds p := hA0
  rw [Tryz.params4] at hA hval
  obtain ⟨v0, vs0, d0, ds0, p0, q0, hargs, rfl, rfl, h0, r0⟩ := trodAll_cons hA
  obtain ⟨rfl, rfl, rfl⟩ := trodAll_nil r0
  obtain rfl : args = #[v0] := by cases args; simp_all
  obtain ⟨rfl, rfl⟩ := trodVars_none hV
  obtain ⟨fu0, ht0⟩ := h0
  obtain ⟨ao0, ln0, cp0, rfl⟩ := okWide_slice Tryz.underlying22 (hval 0 22 v0 rfl rfl)
  obtain ⟨l, ⟨v, hv, R0⟩, S0⟩ := zty H enc W fu0 _ _ ht0
  obtain ⟨rfl, _⟩ := List.cons.inj (show [Value.slice ao0 ln0 cp0] = [v] from hv)
  have hb : Rows.uptoBulk d0 ≤ 1048576 := by
    have h1 : Rows.uptoBulkAll _ ≤ 1048576 := of_decide_eq_true hsz
    exact Nat.le_trans (zrn (List.mem_append_left _ (List.mem_cons_self ..))) h1
  have S0 : (l.map bK).sum + 1 ≤ Rows.uptoBulk d0 := S0
  refine (zpv (by omega) R0 W [] W (Cw.start W)).mono fun e W' ⟨he, hw⟩ => ?_
  subst he
  exact ⟨_, rfl, post_law laid rfl rfl Tryz.underlying4 (by rw [Tryz.params4]; intro t ht; simp at ht; rcases ht with rfl; exact ⟨by kernel_rfl, of_decide_eq_true (by kernel_rfl)⟩) hW' hw.below rfl rfl rfl⟩
set_option maxRecDepth 100000 in
theorem TreeKeeps_lifted (os : Os) (started : os.Started) (H : Type) (enc : TypeId × Value → H) (F : Stop.Interp) :
    ReturnsInHanded {} Tryz.checked os 4 .any ((Rows.OpenSpec.upto Rows.treeKeepsSpec).pre6 enc Tryz.prog Tryz.f4 Rows.treeKeepsUptoRow.domain false) (((Rows.OpenSpec.upto Rows.treeKeepsSpec).at F).post enc Tryz.prog Tryz.f4 false true false false) := by
  refine returnsInHanded_of_cond (C := Tryz.checked) (s := Rows.OpenSpec.upto Rows.treeKeepsSpec) (k := Rows.uptoSmall) rfl ownk started (by kernel_rfl) Tryz.func4
    (OpenSpec.witness (enc := enc) (C := Tryz.checked) (s := Rows.OpenSpec.upto Rows.treeKeepsSpec) (k := Rows.uptoSmall) rfl false ⟨#[], #[.slice none 0 0],[]⟩ 8 (by kernel_rfl) (by kernel_rfl) (by kernel_rfl)
      (x := ([.nil],[],[])) (by kernel_rfl) rfl (by kernel_rfl)) ?_
  intro W base args ds gs before hval hW _ hk _
  exact zlx H enc W base args ds gs before hval hW hk
theorem TreeKeeps_holds : Rows.TreeKeepsUptoSaid :=
  OpenClaim.holds_of_cond 4 Tryz.f4 rfl rfl rfl rfl rfl rfl rfl ⟨rfl, rfl, rfl, rfl, rfl⟩ rfl rfl rfl rfl rfl (by kernel_rfl) Tryz.func4 (by kernel_rfl)
    (of_decide_eq_true (by kernel_rfl)) (by unfold Func.isWrapper; first | (rw [if_pos (by decide +kernel)]; kernel_rfl) | (rw [if_neg (by decide +kernel)]; exact ⟨rfl, rfl⟩))
    (fun os started H enc _ F => TreeKeeps_lifted os started H enc F)
end Go.Proofs.YtdjjeahiomackaaGreat
