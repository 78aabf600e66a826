/-
  The law TreeKept: what tree.Build hands back is new memory each time, where what comes in is of bulk at most 1048576.
-/
import Derived.Test.YtdjjeahiomackaaGreatU6
import Derived.JoinedCond
namespace Go.Proofs.YtdjjeahiomackaaGreat
set_option linter.unusedVariables false
set_option linter.unusedSimpArgs false
set_option linter.unusedSectionVars false
open Go.RowKit Go.Sl Go.ChangeShapes Go.WideShapes Go.ChangeAt
open Go.V (T wT wK wA zhr zhs zbk zfc)
theorem wA_le (l : List zaj) : wA (l.map ofA) ≤ 7 * (l.map bA).sum := by
  induction l with
  | nil => exact Nat.le_refl _
  | cons x l ih =>
    have e : wA ((x :: l).map ofA) = (10 + x.Name.size + 6 * x.Value.size) + wA (l.map ofA) := rfl
    rw [e, List.map_cons, List.sum_cons]
    unfold bA at ih ⊢
    omega
theorem wT_le (l : List za4) : wT (l.map ofK) ≤ 7 * (l.map bK).sum := by
  induction l with
  | nil => exact Nat.le_refl _
  | cons x l ih =>
    have e : wT ((x :: l).map ofK) = (40 + x.Name.size + 6 * x.Text.size + wA (x.Attrs.map ofA)) + wT (l.map ofK) := rfl
    have := wA_le x.Attrs
    rw [e, List.map_cons, List.sum_cons]
    unfold bK at ih ⊢
    omega
theorem all_T {α : Type} {F : α → Nat → Option Bool} : ∀ {l : List α}, (∀ x ∈ l, T (fun k _ => F x k) (· = true)) → ∃ K, ∀ k, K ≤ k → ∀ x ∈ l, F x k = some true
  | [], _ => ⟨0, fun _ _ x h => by cases h⟩
  | y :: l, h => by
    obtain ⟨K, hK⟩ := all_T (l := l) fun x hx => h x (List.mem_cons_of_mem _ hx)
    obtain ⟨r, rfl, K2, h2⟩ := h y (List.mem_cons_self ..)
    refine ⟨K + K2, fun k hk x hx => ?_⟩
    rcases List.mem_cons.1 hx with rfl | hx
    · exact h2 k k (by omega) (by omega)
    · exact hK k (by omega) x hx
theorem zqt {p0 : List za4} (hb : (p0.map bK).sum ≤ 1048576) {f : Fz} {v : Value} (h : RS zag f v p0) : Gives Tryz.prog 3 [v] f (.bool true) := by
  obtain ⟨l, hl⟩ : ∃ l, l = p0.take 100 := ⟨_, rfl⟩
  have hs : (l.map bK).sum ≤ (p0.map bK).sum := by rw [hl]; exact Go.V.sum_le 100
  have hat : ∀ x ∈ l, x.Attrs.length ≤ 1000000 ∧ x.Text.size ≤ 10000000 := fun x hx => by
    have h1 : bK x ≤ (l.map bK).sum := Go.V.mem_sum hx
    have h2 : x.Attrs.length ≤ (x.Attrs.map bA).sum := Go.V.len_sum (fun x => by unfold bA; omega)
    have h3 : ∀ l : List zaj,3 * l.length ≤ (l.map bA).sum := fun l => by
      induction l with
      | nil => exact Nat.le_refl _
      | cons x l ih => rw [List.map_cons, List.sum_cons, List.length_cons]; unfold bA at ih ⊢; omega
    have h4 := h3 x.Attrs
    have h1 : x.Name.size + x.Text.size + (x.Attrs.map bA).sum + 6 ≤ (l.map bK).sum := h1
    omega
  obtain ⟨b, _, K1, e1⟩ := Go.V.whole_T (l := l.map ofK) (Nat.le_trans (wT_le l) (by omega))
  obtain ⟨⟨t, e⟩, hq, K2, e2⟩ := Build_T (l := l) (by rw [hl, List.length_take]; omega) hat
  have hn : t.Nodes.length ≤ 4097 := hq.1
  have ha : ∀ x ∈ t.Nodes, x.Attrs.length ≤ 1000000 := hq.2
  obtain ⟨c, rfl, K3, e3⟩ := Go.V.Copy_T (t := t) (by omega) ha
  obtain ⟨y, rfl, K4, e4⟩ := Go.V.SameTree_T (t := ofT c) (by show (c.Nodes.map ofN).length ≤ _; rw [List.length_map]; omega) fun x hx => by
    obtain ⟨z, hz, rfl⟩ := List.mem_map.1 (show x ∈ c.Nodes.map ofN from hx)
    show (z.Attrs.map ofA).length ≤ _
    rw [List.length_map]; exact ha z hz
  obtain ⟨K5, e5⟩ := all_T (l := l) (F := fun x k => zbk k (x.Attrs.map ofA) (x.Attrs.map ofA)) fun x hx => (Go.V.Same_T (by rw [List.length_map]; have := (hat x hx).1; omega)).mono fun r hr => hr rfl
  obtain ⟨k, hk⟩ : ∃ k, k = K1 + K2 + K3 + K4 + K5 := ⟨_, rfl⟩
  exact zs4 (n := k) (k := k + 300) h hl (fun x hx => (hat x hx).1) (e1 (k + 300) (k + 300) (by omega) (by omega)) (Go.V.known_eq k) fun _ => ⟨e5 (k + 300) (by omega), c, e, c, e2 k k (by omega) (by omega), by omega, ha, e3 k k (by omega) (by omega), fun _ => e4 (k + 300) (k + 300) (by omega) (by omega)⟩
theorem ownk : ownKnob Tryz.prog.godebug = none := by kernel_rfl
theorem laid : laidOutB Tryz.prog = true := by kernel_rfl
set_option maxRecDepth 100000 in
theorem zmg (H : Type) (enc : TypeId × Value → H) (W : World) (base : Nat) (args : Array Value) (ds gs : List (DataW H)) (before : List MemPlace)
    (hval : ∀ (j : Nat) t v, Tryz.f3.params[j]? = some t → args[j]? = some v → Value.okWide Tryz.prog W .any base t v)
    (hW : DataW.Whole enc Tryz.prog Tryz.f3.params.toList Rows.treeKeptSpec.vars false W args.toList ds gs before)
    (hsz : Rows.uptoSmall H (ds ++ gs) = true) :
    Calls Tryz.prog 3 args W fun e W' => ∃ v, e = .returned v ∧ Rows.treeKeptSpec.post enc Tryz.prog Tryz.f3 false true false false W args v W' := by
  have hW' := hW
  obtain ⟨p, q, hA0, hV, rfl, _, _⟩ := hW
  have hA : DataW.TrodAll enc Tryz.prog W 0 (fun _ => true) true Tryz.f3.params.toList args.toList ds p := hA0
  rw [Tryz.params3] at hA hval
  obtain ⟨v0, vs0, d0, ds0, p0, q0, hargs, rfl, rfl, h0, r0⟩ := trodAll_cons hA
  obtain ⟨rfl, rfl, rfl⟩ := trodAll_nil r0
  obtain rfl : args = #[v0] := by cases args; simp_all
  obtain ⟨rfl, rfl⟩ := trodVars_none hV
  obtain ⟨fu0, ht0⟩ := h0
  obtain ⟨ao0, ln0, cp0, rfl⟩ := okWide_slice Tryz.underlying22 (hval 0 22 v0 rfl rfl)
  obtain ⟨l, ⟨v, hv, R0⟩, S0⟩ := ztb H enc W fu0 _ _ ht0
  obtain ⟨rfl, _⟩ := List.cons.inj (show [Value.slice ao0 ln0 cp0] = [v] from hv)
  have hb : Rows.uptoBulk d0 ≤ 1048576 := by
    have h1 : Rows.uptoBulkAll _ ≤ 1048576 := of_decide_eq_true hsz
    exact Nat.le_trans (zr7 (List.mem_append_left _ (List.mem_cons_self ..))) h1
  have S0 : (l.map bK).sum + 1 ≤ Rows.uptoBulk d0 := S0
  refine (zqt (by omega) R0 W [] W (Cw.start W)).mono fun e W' ⟨he, hw⟩ => ?_
  subst he
  exact ⟨_, rfl, post_law laid rfl rfl Tryz.underlying4 (by rw [Tryz.params3]; intro t ht; simp at ht; rcases ht with rfl; exact ⟨by kernel_rfl, of_decide_eq_true (by kernel_rfl)⟩) hW' hw.below rfl rfl rfl⟩
set_option maxRecDepth 100000 in
theorem TreeKept_lifted (os : Os) (started : os.Started) (H : Type) (enc : TypeId × Value → H) (F : Stop.Interp) :
    ReturnsInHanded {} Tryz.checked os 3 .any ((Rows.OpenSpec.upto Rows.treeKeptSpec).pre6 enc Tryz.prog Tryz.f3 Rows.treeKeptUptoRow.domain false) (((Rows.OpenSpec.upto Rows.treeKeptSpec).at F).post enc Tryz.prog Tryz.f3 false true false false) := by
  refine returnsInHanded_of_cond (C := Tryz.checked) (s := Rows.OpenSpec.upto Rows.treeKeptSpec) (k := Rows.uptoSmall) rfl ownk started (by kernel_rfl) Tryz.func3
    (OpenSpec.witness (enc := enc) (C := Tryz.checked) (s := Rows.OpenSpec.upto Rows.treeKeptSpec) (k := Rows.uptoSmall) rfl false ⟨#[], #[.slice none 0 0],[]⟩ 8 (by kernel_rfl) (by kernel_rfl) (by kernel_rfl)
      (x := ([.nil],[],[])) (by kernel_rfl) rfl (by kernel_rfl)) ?_
  intro W base args ds gs before hval hW _ hk _
  exact zmg H enc W base args ds gs before hval hW hk
theorem TreeKept_holds : Rows.TreeKeptUptoSaid :=
  OpenClaim.holds_of_cond 3 Tryz.f3 rfl rfl rfl rfl rfl rfl rfl ⟨rfl, rfl, rfl, rfl, rfl⟩ rfl rfl rfl rfl rfl (by kernel_rfl) Tryz.func3 (by kernel_rfl)
    (of_decide_eq_true (by kernel_rfl)) (by unfold Func.isWrapper; first | (rw [if_pos (by decide +kernel)]; kernel_rfl) | (rw [if_neg (by decide +kernel)]; exact ⟨rfl, rfl⟩))
    (fun os started H enc _ F => TreeKept_lifted os started H enc F)
end Go.Proofs.YtdjjeahiomackaaGreat
