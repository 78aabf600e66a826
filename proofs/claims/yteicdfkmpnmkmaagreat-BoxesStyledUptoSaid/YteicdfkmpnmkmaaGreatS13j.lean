/-
  Walks and laws of this seat.
-/
import Derived.Test.YteicdfkmpnmkmaaGreatS13i
import Derived.Test.YteicdfkmpnmkmaaGreatRows
namespace Go.Proofs.YteicdfkmpnmkmaaGreat
set_option linter.unusedVariables false
set_option linter.unusedSimpArgs false
open Go.RowKit Go.Sl
theorem firstS_OK {s : Sty} (hS : StyOK s) : StyOK (firstS s) where
  len := by simp [firstS, initS]
  one := first_one hS
  d := by simp [firstS, initS, dispS, intAt]
  p := by simp [firstS, initS, posS, intAt]
  f := by simp [firstS, initS, floS, intAt]
  pre := by
    have h := hS.pre
    have e : s.getD 41 undef = .bool (preS s) := by rw [List.getD_eq_getElem?_getD, h]; rfl
    have e2 : (firstS s)[41]? = some (.bool (preS s)) := by rw [firstS, e]; simp [initS]
    rw [e2, show preS (firstS s) = preS s by rw [preS, e2]]
theorem set_OK {s : Sty} {z : Int} (hS : StyOK s) (j : Nat) (hj : j < 3) : StyOK (s.set j (.int .i64 z)) where
  len := by rw [List.length_set]; exact hS.len
  one := fun x hx => by
    rcases List.mem_or_eq_of_mem_set hx with h | h
    · exact hS.one x h
    · rw [h]; rfl
  d := by
    have h := hS.d
    have hl := hS.len
    by_cases e : j = 0
    · subst e; simp [dispS, intAt, hl]
    · rw [dispS, intAt, List.getElem?_set_ne e, h]
  p := by
    have h := hS.p
    have hl := hS.len
    by_cases e : j = 1
    · subst e; simp [posS, intAt, hl]
    · rw [posS, intAt, List.getElem?_set_ne e, h]
  f := by
    have h := hS.f
    have hl := hS.len
    by_cases e : j = 2
    · subst e; simp [floS, intAt, hl]
    · rw [floS, intAt, List.getElem?_set_ne e, h]
  pre := by
    have h := hS.pre
    rw [preS, List.getElem?_set_ne (by omega), h]
theorem anonS_OK {s : Sty} {g : Int} (hS : StyOK s) : StyOK (anonS g s) := by
  unfold anonS
  split
  · exact set_OK (firstS_OK hS) 0 (by decide)
  · split
    · exact set_OK (firstS_OK hS) 0 (by decide)
    · split
      · exact set_OK (firstS_OK hS) 0 (by decide)
      · exact firstS_OK hS
def FitOK (k : Int) (s : Sty) (l : List BT) : Prop := ∀ (f : Fz) (n i : Int) (t : ByteArray) (kv : Value) (rows : List (List Value)) (X : List Ent), OwnL 31 l rows X →
  Does Tryz.prog 35 [.agg (cB k n i s t kv).toArray] f (.row kv 31 57 rows :: X) (toBox 31 f (fitM k n i s t l))
theorem pmC {x1 x2 x3 y : Ent} {A C : List Ent} : (x1 :: x2 :: x3 :: y :: (A ++ C)).Perm ((y :: A) ++ (x1 :: x2 :: x3 :: C)) :=
  perm_of_count fun a => by simp only [List.count_append, List.count_cons, List.cons_append]; omega
theorem pmD {x1 x2 x3 : Ent} {A C : List Ent} : (A ++ (x1 :: x2 :: x3 :: C)).Perm (x1 :: x2 :: x3 :: (A ++ C)) :=
  perm_of_count fun a => by simp only [List.count_append, List.count_cons]; omega
set_option maxRecDepth 20000 in
set_option maxHeartbeats 8000000 in
theorem anonymous_ok {g : Int} {s : Sty} {l : List BT} (hS : StyOK s) (hf : FitOK g (anonS g s) l) : AnonOK (fun l => fitM g (-1) 0 (anonS g s) ByteArray.empty l) g s l := by
  intro f v rows X hO w0 L w hC
  rw [List.cons_append] at hC
  have hk1 := (Rd.ofOwn (.head _) hC).one
  have hSF := firstS_OK hS
  have hSA := anonS_OK (g := g) hS
  refine enter Tryz.func103 rfl Tryz.ntmps103 (by simp) hC fun a hs => ?_
  refine W_seq fun K1 hK1 => ?_
  refine W_region ?_
  refine sbox hs rfl fun b4 _ _ hs => ?_
  refine RL_alloc hs ti31 (.free rfl) (by decide) fun b6 _ _ hs => ?_
  refine RL_nil ?_
  refine hK1 _ _ ?_; clear hK1
  refine W_seq fun K2 hK2 => ?_
  refine W_region ?_
  refine sy hs (y_ldB rfl Tryz.underlying28 rfl ti28 (.tail _ (.head _)) (by simp [hS.len])) fun _ _ hs => ?_
  refine sy hs (y_call rfl has128 rfl (first_ok hS)) fun _ _ hs => ?_
  refine RL_alloc hs ti28 (.free rfl) (by decide) fun b7 _ _ hs => ?_
  refine RL_storeAll (i := 0) hs rfl rfl rfl ti28 ⟨rfl, by simp [hSF.len]⟩ (one_arr ⟨rfl, hSF.one⟩) (.free rfl) fun _ _ hs => ?_
  refine RL_nil ?_
  refine hK2 _ _ ?_; clear hK2
  refine W_cut (fun a w => St 25 w0 f (.blk b7 (.cells (anonS g s).toArray 28 (0, 0)) :: .blk b6 (.cells zB.toArray 31 (0, 0)) :: .blk b4 (.cells s.toArray 28 (0, 0)) :: .row v 31 57 rows :: (X ++ L)) [(0, .int .i64 g), (2, v), (6, .pointer (some ⟨b6, 0, none⟩)), (7, .pointer (some ⟨b7, 0, none⟩))] a w) ?_ (fun a w hI => ?_)
  · refine W_seq fun K4 hK4 => ?_
    refine W_region ?_
    refine sy hs (y_move rfl) fun _ _ hs => ?_
    refine RL_nil ?_
    refine hK4 _ _ ?_; clear hK4
    refine W_block fun Qe5 hB5 hO5 => ?_
    refine W_seq fun K6 hK6 => ?_
    refine W_region ?_
    refine sy hs (y_eql rfl rfl) fun _ _ hs => ?_
    refine sy hs (y_assign rfl) fun _ _ hs => ?_
    refine RL_nil ?_
    refine hK6 _ _ ?_; clear hK6
    first | refine W_condP hs rfl (fun c1 => ?_) (fun c1 => ?_) | refine W_cond hs rfl (fun c1 => ?_) (fun c1 => ?_)
    · refine W_region ?_
      first | (refine sy hs (y_fieldAddr rfl (FO.of (off := 0) Tryz.underlying28 rfl rfl ti3 (by decide))) ?_; clear hs; (try clear a w); intro a w hs) | (refine sy hs (y_faE rfl (FO.of (off := 0) Tryz.underlying28 rfl rfl ti3 (by decide))) ?_; clear hs; (try clear a w); intro a w hs)
      refine RL_storeBlk (i := 0) (o := 0) (u := .int .i64 1) hs rfl rfl rfl ti3 rfl (by simp [hSF.len]) (by rw [List.setIfInBounds_toArray]) (.free rfl) fun _ _ hs => ?_
      refine RL_nil ?_
      rw [anonS, if_pos c1]
      exact hs.sub ⟨rfl, rfl, rfl, rfl, trivial⟩
    · refine W_seq fun K7 hK7 => ?_
      refine W_region ?_
      refine sy hs (y_eql rfl rfl) fun _ _ hs => ?_
      refine sy hs (y_assign rfl) fun _ _ hs => ?_
      refine RL_nil ?_
      refine hK7 _ _ ?_; clear hK7
      first | refine W_condP hs rfl (fun c4 => ?_) (fun c4 => ?_) | refine W_cond hs rfl (fun c4 => ?_) (fun c4 => ?_)
      · refine W_region ?_
        first | (refine sy hs (y_fieldAddr rfl (FO.of (off := 0) Tryz.underlying28 rfl rfl ti3 (by decide))) ?_; clear hs; (try clear a w); intro a w hs) | (refine sy hs (y_faE rfl (FO.of (off := 0) Tryz.underlying28 rfl rfl ti3 (by decide))) ?_; clear hs; (try clear a w); intro a w hs)
        refine RL_storeBlk (i := 0) (o := 0) (u := .int .i64 5) hs rfl rfl rfl ti3 rfl (by simp [hSF.len]) (by rw [List.setIfInBounds_toArray]) (.free rfl) fun _ _ hs => ?_
        refine RL_nil ?_
        rw [anonS, if_neg c1, if_pos c4]
        exact hs.sub ⟨rfl, rfl, rfl, rfl, trivial⟩
      · refine W_seq fun K8 hK8 => ?_
        refine W_region ?_
        refine sy hs (y_eql rfl rfl) fun _ _ hs => ?_
        refine sy hs (y_assign rfl) fun _ _ hs => ?_
        refine RL_nil ?_
        refine hK8 _ _ ?_; clear hK8
        first | refine W_condP hs rfl (fun c5 => ?_) (fun c5 => ?_) | refine W_cond hs rfl (fun c5 => ?_) (fun c5 => ?_)
        · refine W_region ?_
          first | (refine sy hs (y_fieldAddr rfl (FO.of (off := 0) Tryz.underlying28 rfl rfl ti3 (by decide))) ?_; clear hs; (try clear a w); intro a w hs) | (refine sy hs (y_faE rfl (FO.of (off := 0) Tryz.underlying28 rfl rfl ti3 (by decide))) ?_; clear hs; (try clear a w); intro a w hs)
          refine RL_storeBlk (i := 0) (o := 0) (u := .int .i64 6) hs rfl rfl rfl ti3 rfl (by simp [hSF.len]) (by rw [List.setIfInBounds_toArray]) (.free rfl) fun _ _ hs => ?_
          refine RL_nil ?_
          rw [anonS, if_neg c1, if_neg c4, if_pos c5]
          exact hs.sub ⟨rfl, rfl, rfl, rfl, trivial⟩
        · refine W_skip ?_
          rw [anonS, if_neg c1, if_neg c4, if_neg c5]
          exact hs.sub ⟨rfl, rfl, rfl, rfl, trivial⟩
  · have hs := hI; clear hI
    refine W_seq fun K9 hK9 => ?_
    refine W_region ?_
    refine sy hs (y_move rfl) fun _ _ hs => ?_
    refine sy hs (y_ldB rfl Tryz.underlying28 rfl ti28 (.head _) (by simp [hSA.len])) fun _ _ hs => ?_
    refine sy hs (y_move rfl) fun _ _ hs => ?_
    refine sy hs (y_buildN (places := boxP) (zl := zB) (ls := [(0, [.int .i64 g]), (1, [.int .i64 (-1)]), (3, anonS g s), (5, [v])]) (cs := cB g (-1) 0 (anonS g s) ByteArray.empty v) rfl Tryz.underlying31 ti31 (by kernel_rfl) ⟨rfl, rfl, rfl, rfl, rfl, rfl, rfl, cells_one hk1, trivial⟩ (by rw [zB_eq, put0 rfl, put1 rfl, put3 rfl hSA.len, put5 hSA.len]; rfl)) fun _ _ hs => ?_
    refine RL_call (stPm hs pmC) rfl has35 rfl rfl (hf _ _ _ _ _ _ _ hO) (.free rfl) (by decide) ?_; clear hs; (try clear a w)
    rintro _ _ X' a w _ ⟨rfl, r, rfl, hr1, hB⟩ hs
    replace hs := stPm hs pmD
    refine RL_storeAll (i := 1) hs rfl rfl rfl ti31 ⟨rfl, by simp [hr1.1]⟩ (one_arr hr1) (.free rfl) fun _ _ hs => ?_
    refine RL_nil ?_
    refine hK9 _ _ ?_; clear hK9
    refine W_ret ?_
    refine RtV1 hs rfl (rv_a hs rfl Tryz.underlying31 rfl ti31 (fun j u hj => Cell.blk (.tail _ (.head _)) hj) (by simp [hr1.1])) ?_
    exact ⟨_, _, _, rfl, .refl _, hs.cw.tail.tail.tail, rfl, r, rfl, hr1, hB⟩
theorem fitM_B {s : Sty} {l : List BT} (h : outers l = false) : fitM 1 (-1) 0 (anonS 1 s) ByteArray.empty l = anonB s l := by
  simp [fitM, fitK, fitL, anonB, h]
theorem outers_no {l : List BT} {p : Int → Bool} (hp : ∀ k, p k = true → outerK k = false) (h : ∀ b ∈ l, p b.kind = true) : outers l = false := by
  unfold outers
  rw [List.any_eq_false]
  intro b hb
  rw [hp _ (h b hb)]; decide
theorem anonB_ok {s : Sty} {l : List BT} (hS : StyOK s) (hsz : l.length ≤ 50000) (h : outers l = false) : AnonOK (anonB s) 1 s l := by
  have hk : fitK 1 l = 1 := by simp [fitK]
  have := anonymous_ok (g := 1) hS (l := l) fun f n i t kv rows X hO => fitted_ok (anonS_OK hS) hsz (fun e => by rw [hk] at e; simp at e) (fun e => by rw [hk] at e; simp at e) (fun e => by rw [h] at e; simp at e) (fun e => by rw [hk] at e; simp at e) hO
  intro f v rows X hO
  have := this f v rows X hO
  simp only [fitM_B h] at this
  exact this
theorem innerK_no (k : Int) (h : innerK k = true) : outerK k = false := by
  simp only [innerK, Bool.and_eq_true, Bool.not_eq_true'] at h
  exact h.1
theorem flexK_no (k : Int) (h : flexK k = true) : outerK k = false := by
  simp only [flexK, outerK, Bool.or_eq_true, decide_eq_true_eq, Bool.or_eq_false_iff, decide_eq_false_iff_not] at *
  omega
theorem anonC_ok {s : Sty} {l : List BT} (hS : StyOK s) (hsz : l.length ≤ 50000) : AnonOK (anonC s) 5 s l := by
  have hk : fitK 5 l = 5 := by simp [fitK]
  have hA := anonS_OK (g := 5) hS
  have := anonymous_ok (g := 5) hS (l := l) fun f n i t kv rows X hO => fitted_ok hA hsz (fun e => by rw [hk] at e; simp at e) (fun e => by rw [hk] at e; simp at e)
    (fun _ run hr hl => anonB_ok hA (by omega) (outers_no innerK_no hr)) (fun e => by rw [hk] at e; simp at e) hO
  intro f v rows X hO
  have := this f v rows X hO
  simp only [show fitM 5 (-1) 0 (anonS 5 s) ByteArray.empty l = anonC s l by simp [fitM, hk, fitL, anonC]] at this
  exact this
theorem anonR_ok {s : Sty} {l : List BT} (hS : StyOK s) (hsz : l.length ≤ 50000) : AnonOK (anonR s) 4 s l := by
  have hk : fitK 4 l = 4 := by simp [fitK]
  have hA := anonS_OK (g := 4) hS
  have := anonymous_ok (g := 4) hS (l := l) fun f n i t kv rows X hO => fitted_ok hA hsz (fun e => by rw [hk] at e; simp at e) (fun _ run hl => anonC_ok hA (by omega))
    (fun e => by rw [hk] at e; simp at e) (fun e => by rw [hk] at e; simp at e) hO
  intro f v rows X hO
  have := this f v rows X hO
  simp only [show fitM 4 (-1) 0 (anonS 4 s) ByteArray.empty l = anonR s l by simp [fitM, hk, fitL, anonR]] at this
  exact this
theorem fit_ok {k : Int} {s : Sty} {l : List BT} (hS : StyOK s) (hsz : l.length ≤ 50000) : FitOK k s l := fun _ _ _ _ _ _ _ hO =>
  fitted_ok hS hsz (fun _ _ h => anonR_ok hS (by omega)) (fun _ _ h => anonC_ok hS (by omega)) (fun _ _ hr h => anonB_ok hS (by omega) (outers_no innerK_no hr)) (fun _ _ hr h => anonB_ok hS (by omega) (outers_no flexK_no hr)) hO
end Go.Proofs.YteicdfkmpnmkmaaGreat
