/-
  Walks and laws of this seat; the base is the text Base.
-/
import Derived.Test.YtmkcglpeidbblaaDoorL10n
import Derived.Test.YtmkcglpeidbblaaDoorRows
/-
  Models of functions, and that the functions compute them. Printed by lift.py.
-/
namespace Go.Proofs.YtmkcglpeidbblaaDoor
open Go.RowKit Go.Sl
/-! casement/match.Weigh -/
def match_Weigh_k1 (y12 : match_Weight) : Option match_Weight :=
  some y12
def match_Weigh_k4 (y18 : Int) (lp19 : match_Weight → Int → Option match_Weight) (y36 : match_Weight) (y39 : Int) : Option match_Weight :=
  lp19 ({Ids := y36.Ids, Tests := y36.Tests, Names := y39} : match_Weight) (w64 (y18 + 1))
def match_Weigh_k3 (y18 : Int) (lp19 : match_Weight → Int → Option match_Weight) (x21 : sheet_Step) (y36 : match_Weight) : Option match_Weight :=
  (bif (decide (x21.Name ≠ (bs []))) then match_Weigh_k4 y18 lp19 y36 (w64 (y36.Names + 1)) else
  match_Weigh_k4 y18 lp19 y36 y36.Names)
def match_Weigh_k6 (y44 : Int) (lp45 : match_Weight → Int → Option match_Weight) (y56 : match_Weight) : Option match_Weight :=
  lp45 y56 (w64 (y44 + 1))
def match_Weigh_l5 (y18 : Int) (lp19 : match_Weight → Int → Option match_Weight) (x21 : sheet_Step) : Nat → match_Weight → Int → Option match_Weight
  | 0, _, _ => none
  | k45 + 1, y41, y44 =>
  (bif (decide (y44 < (x21.Tests.length : Int))) then (geti x21.Tests y44).bind fun x47 =>
  (bif (decide (x47.Kind = 1)) then match_Weigh_k6 y44 (match_Weigh_l5 y18 lp19 x21 k45) ({Ids := (w64 (y41.Ids + 1)), Tests := y41.Tests, Names := y41.Names} : match_Weight) else
  match_Weigh_k6 y44 (match_Weigh_l5 y18 lp19 x21 k45) ({Ids := y41.Ids, Tests := (w64 (y41.Tests + 1)), Names := y41.Names} : match_Weight)) else
  match_Weigh_k3 y18 lp19 x21 y41)
def match_Weigh_l2 (n : Nat) (p0 : sheet_Selector) : Nat → match_Weight → Int → Option match_Weight
  | 0, _, _ => none
  | k19 + 1, y15, y18 =>
  (bif (decide (y18 < (p0.Steps.length : Int))) then (geti p0.Steps y18).bind fun x21 =>
  match_Weigh_l5 y18 (match_Weigh_l2 n p0 k19) x21 n y15 0 else
  match_Weigh_k1 y15)
def match_Weigh (n : Nat) (p0 : sheet_Selector) : Option match_Weight :=
  match_Weigh_l2 n p0 n ({Ids := 0, Tests := 0, Names := 0} : match_Weight) 0
set_option maxRecDepth 20000 in
set_option maxHeartbeats 4000000 in
theorem match_Weigh_ok (n : Nat) {f : Fz} {p0 : sheet_Selector} {a0 : List Value} {res : match_Weight} (h0 : t_sheet_Selector.R f a0 p0) (hm : match_Weigh n p0 = some res) : Gives Tryd.prog 20 [.agg a0.toArray] f (.agg #[.int .i64 res.Ids, .int .i64 res.Tests, .int .i64 res.Names]) := by
 unfold match_Weigh at hm
 intro w0 L w hC
 obtain ⟨v1, rfl, ⟨rw2, hR3, hW4⟩⟩ := h0
 refine enter Tryd.func20 rfl Tryd.ntmps20 (by simp) hC fun a hs => ?_
 have hle := Fz.le.refl f
 refine W_seq fun K1 hK1 => ?_
 refine W_region ?_
 refine sbox hs rfl ?_; clear hs; intro b6 a w hs
 replace hs : St _ _ _ (.blk b6 (.cells #[v1] 27 (0, 0)) :: L) _ _ _ := hs
 refine RL_alloc hs ti53 (.free rfl) (by decide) ?_; clear hs; intro b8 a w hs
 replace hs : St _ _ _ (.blk b8 (.cells #[.int .i64 (0), .int .i64 (0), .int .i64 (0)] 53 (0, 0)) :: .blk b6 (.cells #[v1] 27 (0, 0)) :: L) _ _ _ := hs
 refine RL_nil ?_
 refine hK1 _ _ ?_; clear hK1
 refine W_seq fun K2 hK2 => ?_
 refine W_region ?_
 refine RL_alloc hs ti53 (.free rfl) (by decide) ?_; clear hs; intro b10 a w hs
 replace hs : St _ _ _ (.blk b10 (.cells #[.int .i64 (0), .int .i64 (0), .int .i64 (0)] 53 (0, 0)) :: .blk b8 (.cells #[.int .i64 (0), .int .i64 (0), .int .i64 (0)] 53 (0, 0)) :: .blk b6 (.cells #[v1] 27 (0, 0)) :: L) _ _ _ := hs
 refine RL_nil ?_
 refine hK2 _ _ ?_; clear hK2
 refine W_seq fun K3 hK3 => ?_
 refine W_seq fun K4 hK4 => ?_
 refine W_region ?_
 refine sy (v := .pointer (some ⟨b6, 0, none⟩)) hs (y_fieldAddr rfl (FO.of (off := 0) Tryd.underlying27 rfl rfl ti25 (by decide))) ?_; clear hs; intro a w hs
 refine sy (v := v1) hs (y_ld rfl Tryd.underlying25 rfl (Cell.blk (.tail _ (.tail _ (.head _))) rfl)) ?_; clear hs; intro a w hs
 refine sy hs (y_lenW hR3 hW4 rfl Tryd.underlying25) ?_; clear hs; intro a w hs
 refine sy (v := .int .i64 (0)) hs (y_move rfl) ?_; clear hs; intro a w hs
 refine RL_nil ?_
 refine hK4 _ _ ?_; clear hK4
 refine W_post (fun a w => ∃ (y12 : match_Weight) (r13 : List Value), match_Weigh_k1 y12 = some res ∧ t_match_Weight.R f r13 y12 ∧ St 43 w0 f (.blk b10 (.cells r13.toArray 53 (0, 0)) :: .blk b8 (.cells #[.int .i64 (0), .int .i64 (0), .int .i64 (0)] 53 (0, 0)) :: L) [(2, .pointer (some ⟨b8, 0, none⟩)), (3, .pointer (some ⟨b10, 0, none⟩))] a w) ?_ ?_
 ·clear hs hm
  rintro a w ⟨y12, r13, hm, hq14, hs⟩
  obtain rfl : _ = ([.int .i64 (y12.Ids), .int .i64 (y12.Tests), .int .i64 (y12.Names)] : List Value) := hq14
  replace hs : St _ _ _ (.blk b10 (.cells #[.int .i64 (y12.Ids), .int .i64 (y12.Tests), .int .i64 (y12.Names)] 53 (0, 0)) :: .blk b8 (.cells #[.int .i64 (0), .int .i64 (0), .int .i64 (0)] 53 (0, 0)) :: L) _ _ _ := hs
  unfold match_Weigh_k1 at hm
  refine hK3 _ _ ?_; clear hK3
  refine W_seq fun K5 hK5 => ?_
  refine W_region ?_
  refine sy hs (y_ldB rfl Tryd.underlying53 rfl ti53 (.head _) rfl) ?_; clear hs; intro a w hs
  refine RL_storeAll (i := 1) hs rfl rfl rfl ti53 ⟨rfl, rfl⟩ (AllC.arr (r := [.int .i64 (y12.Ids), .int .i64 (y12.Tests), .int .i64 (y12.Names)]) ⟨rfl, rfl, rfl, trivial⟩) (.free rfl) ?_; clear hs; intro a w hs
  replace hs : St _ _ _ (.blk b10 (.cells #[.int .i64 (y12.Ids), .int .i64 (y12.Tests), .int .i64 (y12.Names)] 53 (0, 0)) :: .blk b8 (.cells #[.int .i64 (y12.Ids), .int .i64 (y12.Tests), .int .i64 (y12.Names)] 53 (0, 0)) :: L) _ _ _ := hs
  refine RL_nil ?_
  refine hK5 _ _ ?_; clear hK5
  refine W_ret ?_
  obtain rfl := Option.some.inj hm
  refine RtV1 hs rfl (rv_a hs rfl Tryd.underlying53 rfl ti53 (fun j u hj => Cell.blk (.tail _ (.head _)) hj) rfl) ?_
  exact ⟨rfl, ((hs.subL (.cons _ (.cons _ (.refl _)))).weak hle).cw⟩
 ·refine W_block fun Qe6 hB6 hO6 => ?_
  refine W_loop (fun (k : Nat) a w => ∃ (y15 : match_Weight) (y18 : Int) (r16 : List Value), match_Weigh_l2 n p0 k y15 y18 = some res ∧ t_match_Weight.R f r16 y15 ∧ St 43 w0 f (.blk b10 (.cells r16.toArray 53 (0, 0)) :: .blk b8 (.cells #[.int .i64 (0), .int .i64 (0), .int .i64 (0)] 53 (0, 0)) :: L) [(2, .pointer (some ⟨b8, 0, none⟩)), (3, .pointer (some ⟨b10, 0, none⟩)), (9, v1), (10, .int .i64 ((p0.Steps.length : Int))), (11, .int .i64 (y18))] a w) (fun k => k) n ⟨({Ids := 0, Tests := 0, Names := 0} : match_Weight), 0, [.int .i64 (0), .int .i64 (0), .int .i64 (0)], hm, rfl, hs.subs ⟨rfl, rfl, rfl, rfl, rfl, trivial⟩ (.cons_cons _ (.cons_cons _ (.cons _ (.refl _))))⟩ ?_
  clear hs hm
  intro k
  rintro a w ⟨y15, y18, r16, hm, hq17, hs⟩
  obtain rfl : _ = ([.int .i64 (y15.Ids), .int .i64 (y15.Tests), .int .i64 (y15.Names)] : List Value) := hq17
  replace hs : St _ _ _ (.blk b10 (.cells #[.int .i64 (y15.Ids), .int .i64 (y15.Tests), .int .i64 (y15.Names)] 53 (0, 0)) :: .blk b8 (.cells #[.int .i64 (0), .int .i64 (0), .int .i64 (0)] 53 (0, 0)) :: L) _ _ _ := hs
  intro K7 hK7
  cases k with
  | zero => simp [match_Weigh_l2] at hm
  | succ k19 =>
   rw [match_Weigh_l2] at hm
   refine W_seq fun K8 hK8 => ?_
   refine W_region ?_
   refine sy hs (y_lss rfl rfl) ?_; clear hs; intro a w hs
   refine RL_nil ?_
   refine hK8 _ _ ?_; clear hK8
   refine W_seq fun K9 hK9 => ?_
   refine W_cond hs rfl (fun hg20 => ?_) (fun hg20 => ?_)
   ·replace hm := oc_t hg20 hm
    refine W_skip ?_
    refine hK9 _ _ ?_; clear hK9
    refine W_seq fun K10 hK10 => ?_
    refine W_block fun Qe11 hB11 hO11 => ?_
    refine W_seq fun K12 hK12 => ?_
    refine W_region ?_
    obtain ⟨x21, hx22, hm⟩ := ob hm
    obtain ⟨r23, hr24, hq25, hi26, hb27⟩ := hW4.geti hx22
    obtain ⟨v28, rfl, ⟨rw29, hR30, hW31⟩⟩ := hq25
    refine sy hs (y_indexAddr hR3 rfl rfl hi26 hb27 Tryd.underlying25 ti35) ?_; clear hs; intro a w hs
    refine sy hs (y_loadRow hR3.up rfl hr24 Tryd.underlying35 rfl ti35) ?_; clear hs; intro a w hs
    refine RL_alloc hs ti35 (.free rfl) (by decide) ?_; clear hs; intro b33 a w hs
    replace hs : St _ _ _ (.blk b33 (.cells #[.int .i64 (0), .string ((bs [])), (.slice none 0 0)] 35 (0, 0)) :: .blk b10 (.cells #[.int .i64 (y15.Ids), .int .i64 (y15.Tests), .int .i64 (y15.Names)] 53 (0, 0)) :: .blk b8 (.cells #[.int .i64 (0), .int .i64 (0), .int .i64 (0)] 53 (0, 0)) :: L) _ _ _ := hs
    refine RL_storeAll (i := 0) hs rfl rfl rfl ti35 ⟨rfl, rfl⟩ (AllC.arr (r := [.int .i64 (x21.Comb), .string (x21.Name), v28]) ⟨rfl, rfl, hR30.one, trivial⟩) (.free rfl) ?_; clear hs; intro a w hs
    replace hs : St _ _ _ (.blk b33 (.cells #[.int .i64 (x21.Comb), .string (x21.Name), v28] 35 (0, 0)) :: .blk b10 (.cells #[.int .i64 (y15.Ids), .int .i64 (y15.Tests), .int .i64 (y15.Names)] 53 (0, 0)) :: .blk b8 (.cells #[.int .i64 (0), .int .i64 (0), .int .i64 (0)] 53 (0, 0)) :: L) _ _ _ := hs
    refine RL_nil ?_
    refine hK12 _ _ ?_; clear hK12
    refine W_seq fun K13 hK13 => ?_
    refine W_seq fun K14 hK14 => ?_
    refine W_region ?_
    refine sy (v := .pointer (some ⟨b33, 2, none⟩)) hs (y_fieldAddr rfl (FO.of (off := 2) Tryd.underlying35 rfl rfl ti33 (by decide))) ?_; clear hs; intro a w hs
    refine sy (v := v28) hs (y_ld rfl Tryd.underlying33 rfl (Cell.blk (.head _) rfl)) ?_; clear hs; intro a w hs
    refine sy hs (y_lenW hR30 hW31 rfl Tryd.underlying33) ?_; clear hs; intro a w hs
    refine sy (v := .int .i64 (0)) hs (y_move rfl) ?_; clear hs; intro a w hs
    refine RL_nil ?_
    refine hK14 _ _ ?_; clear hK14
    refine W_post (fun a w => ∃ (y36 : match_Weight) (r37 : List Value), match_Weigh_k3 y18 (match_Weigh_l2 n p0 k19) x21 y36 = some res ∧ t_match_Weight.R f r37 y36 ∧ St 43 w0 f (.blk b33 (.cells #[.int .i64 (x21.Comb), .string (x21.Name), v28] 35 (0, 0)) :: .blk b10 (.cells r37.toArray 53 (0, 0)) :: .blk b8 (.cells #[.int .i64 (0), .int .i64 (0), .int .i64 (0)] 53 (0, 0)) :: L) [(2, .pointer (some ⟨b8, 0, none⟩)), (3, .pointer (some ⟨b10, 0, none⟩)), (5, .pointer (some ⟨b33, 0, none⟩)), (9, v1), (10, .int .i64 ((p0.Steps.length : Int))), (11, .int .i64 (y18))] a w) ?_ ?_
    ·clear hs hm
     rintro a w ⟨y36, r37, hm, hq38, hs⟩
     obtain rfl : _ = ([.int .i64 (y36.Ids), .int .i64 (y36.Tests), .int .i64 (y36.Names)] : List Value) := hq38
     replace hs : St _ _ _ (.blk b33 (.cells #[.int .i64 (x21.Comb), .string (x21.Name), v28] 35 (0, 0)) :: .blk b10 (.cells #[.int .i64 (y36.Ids), .int .i64 (y36.Tests), .int .i64 (y36.Names)] 53 (0, 0)) :: .blk b8 (.cells #[.int .i64 (0), .int .i64 (0), .int .i64 (0)] 53 (0, 0)) :: L) _ _ _ := hs
     unfold match_Weigh_k3 at hm
     refine hK13 _ _ ?_; clear hK13
     refine W_seq fun K15 hK15 => ?_
     refine W_region ?_
     refine sy (v := .pointer (some ⟨b33, 1, none⟩)) hs (y_fieldAddr rfl (FO.of (off := 1) Tryd.underlying35 rfl rfl ti9 (by decide))) ?_; clear hs; intro a w hs
     refine sy (v := .string (x21.Name)) hs (y_ld rfl Tryd.underlying9 rfl (Cell.blk (.head _) rfl)) ?_; clear hs; intro a w hs
     refine sy hs (y_sneq rfl rfl) ?_; clear hs; intro a w hs
     refine RL_nil ?_
     refine hK15 _ _ ?_; clear hK15
     refine W_post (fun a w => ∃ (y39 : Int), match_Weigh_k4 y18 (match_Weigh_l2 n p0 k19) y36 y39 = some res ∧ St 43 w0 f (.blk b10 (.cells #[.int .i64 (y36.Ids), .int .i64 (y36.Tests), .int .i64 (y39)] 53 (0, 0)) :: .blk b8 (.cells #[.int .i64 (0), .int .i64 (0), .int .i64 (0)] 53 (0, 0)) :: L) [(2, .pointer (some ⟨b8, 0, none⟩)), (3, .pointer (some ⟨b10, 0, none⟩)), (9, v1), (10, .int .i64 ((p0.Steps.length : Int))), (11, .int .i64 (y18))] a w) ?_ ?_
     ·clear hs hm
      rintro a w ⟨y39, hm, hs⟩
      replace hs : St _ _ _ (.blk b10 (.cells #[.int .i64 (y36.Ids), .int .i64 (y36.Tests), .int .i64 (y39)] 53 (0, 0)) :: .blk b8 (.cells #[.int .i64 (0), .int .i64 (0), .int .i64 (0)] 53 (0, 0)) :: L) _ _ _ := hs
      unfold match_Weigh_k4 at hm
      refine hK10 _ _ ?_; clear hK10
      refine W_region ?_
      refine sy hs (y_add rfl rfl rfl) ?_; clear hs; intro a w hs
      refine sy (v := .int .i64 ((w64 (y18 + 1)))) hs (y_move rfl) ?_; clear hs; intro a w hs
      refine RL_nil ?_
      exact hK7 k19 _ _ (Nat.lt_succ_self _) ⟨({Ids := y36.Ids, Tests := y36.Tests, Names := y39} : match_Weight), (w64 (y18 + 1)), [.int .i64 (y36.Ids), .int .i64 (y36.Tests), .int .i64 (y39)], hm, rfl, hs.sub ⟨rfl, rfl, rfl, rfl, rfl, trivial⟩⟩
     ·refine W_cond hs rfl (fun hg40 => ?_) (fun hg40 => ?_)
      ·replace hm := oc_t hg40 hm
       refine W_region ?_
       refine sy (v := .pointer (some ⟨b10, 2, none⟩)) hs (y_fieldAddr rfl (FO.of (off := 2) Tryd.underlying53 rfl rfl ti3 (by decide))) ?_; clear hs; intro a w hs
       refine sy (v := .int .i64 (y36.Names)) hs (y_ld rfl Tryd.underlying3 rfl (Cell.blk (.tail _ (.head _)) rfl)) ?_; clear hs; intro a w hs
       refine sy hs (y_add rfl rfl rfl) ?_; clear hs; intro a w hs
       refine sy (v := .pointer (some ⟨b10, 2, none⟩)) hs (y_fieldAddr rfl (FO.of (off := 2) Tryd.underlying53 rfl rfl ti3 (by decide))) ?_; clear hs; intro a w hs
       refine sstore 1 hs rfl rfl rfl ti3 rfl ?_; clear hs; intro a w hs
       replace hs : St _ _ _ (.blk b33 (.cells #[.int .i64 (x21.Comb), .string (x21.Name), v28] 35 (0, 0)) :: .blk b10 (.cells #[.int .i64 (y36.Ids), .int .i64 (y36.Tests), .int .i64 ((w64 (y36.Names + 1)))] 53 (0, 0)) :: .blk b8 (.cells #[.int .i64 (0), .int .i64 (0), .int .i64 (0)] 53 (0, 0)) :: L) _ _ _ := hs
       refine RL_nil ?_
       exact ⟨(w64 (y36.Names + 1)), hm, hs.subs ⟨rfl, rfl, rfl, rfl, rfl, trivial⟩ (.cons _ (.cons_cons _ (.cons_cons _ (.refl _))))⟩
      ·replace hm := oc_f hg40 hm
       refine W_skip ?_
       exact ⟨y36.Names, hm, hs.subs ⟨rfl, rfl, rfl, rfl, rfl, trivial⟩ (.cons _ (.cons_cons _ (.cons_cons _ (.refl _))))⟩
    ·refine W_block fun Qe16 hB16 hO16 => ?_
     refine W_loop (fun (k : Nat) a w => ∃ (y41 : match_Weight) (y44 : Int) (r42 : List Value), match_Weigh_l5 y18 (match_Weigh_l2 n p0 k19) x21 k y41 y44 = some res ∧ t_match_Weight.R f r42 y41 ∧ St 43 w0 f (.blk b33 (.cells #[.int .i64 (x21.Comb), .string (x21.Name), v28] 35 (0, 0)) :: .blk b10 (.cells r42.toArray 53 (0, 0)) :: .blk b8 (.cells #[.int .i64 (0), .int .i64 (0), .int .i64 (0)] 53 (0, 0)) :: L) [(2, .pointer (some ⟨b8, 0, none⟩)), (3, .pointer (some ⟨b10, 0, none⟩)), (5, .pointer (some ⟨b33, 0, none⟩)), (9, v1), (10, .int .i64 ((p0.Steps.length : Int))), (11, .int .i64 (y18)), (16, v28), (17, .int .i64 ((x21.Tests.length : Int))), (18, .int .i64 (y44))] a w) (fun k => k) n ⟨y15, 0, [.int .i64 (y15.Ids), .int .i64 (y15.Tests), .int .i64 (y15.Names)], hm, rfl, hs.sub ⟨rfl, rfl, rfl, rfl, rfl, rfl, rfl, rfl, rfl, trivial⟩⟩ ?_
     clear hs hm
     intro k
     rintro a w ⟨y41, y44, r42, hm, hq43, hs⟩
     obtain rfl : _ = ([.int .i64 (y41.Ids), .int .i64 (y41.Tests), .int .i64 (y41.Names)] : List Value) := hq43
     replace hs : St _ _ _ (.blk b33 (.cells #[.int .i64 (x21.Comb), .string (x21.Name), v28] 35 (0, 0)) :: .blk b10 (.cells #[.int .i64 (y41.Ids), .int .i64 (y41.Tests), .int .i64 (y41.Names)] 53 (0, 0)) :: .blk b8 (.cells #[.int .i64 (0), .int .i64 (0), .int .i64 (0)] 53 (0, 0)) :: L) _ _ _ := hs
     intro K17 hK17
     cases k with
     | zero => simp [match_Weigh_l5] at hm
     | succ k45 =>
      rw [match_Weigh_l5] at hm
      refine W_seq fun K18 hK18 => ?_
      refine W_region ?_
      refine sy hs (y_lss rfl rfl) ?_; clear hs; intro a w hs
      refine RL_nil ?_
      refine hK18 _ _ ?_; clear hK18
      refine W_seq fun K19 hK19 => ?_
      refine W_cond hs rfl (fun hg46 => ?_) (fun hg46 => ?_)
      ·replace hm := oc_t hg46 hm
       refine W_skip ?_
       refine hK19 _ _ ?_; clear hK19
       refine W_seq fun K20 hK20 => ?_
       refine W_block fun Qe21 hB21 hO21 => ?_
       refine W_seq fun K22 hK22 => ?_
       refine W_region ?_
       obtain ⟨x47, hx48, hm⟩ := ob hm
       obtain ⟨r49, hr50, hq51, hi52, hb53⟩ := hW31.geti hx48
       obtain rfl : _ = ([.int .i64 (x47.Kind), .string (x47.Name), .string (x47.Value), .int .i64 (x47.N)] : List Value) := hq51
       refine sy hs (y_indexAddr hR30 rfl rfl hi52 hb53 Tryd.underlying33 ti29) ?_; clear hs; intro a w hs
       refine sy hs (y_loadRow hR30.up rfl hr50 Tryd.underlying29 rfl ti29) ?_; clear hs; intro a w hs
       refine RL_alloc hs ti29 (.free rfl) (by decide) ?_; clear hs; intro b54 a w hs
       replace hs : St _ _ _ (.blk b54 (.cells #[.int .i64 (0), .string ((bs [])), .string ((bs [])), .int .i64 (0)] 29 (0, 0)) :: .blk b33 (.cells #[.int .i64 (x21.Comb), .string (x21.Name), v28] 35 (0, 0)) :: .blk b10 (.cells #[.int .i64 (y41.Ids), .int .i64 (y41.Tests), .int .i64 (y41.Names)] 53 (0, 0)) :: .blk b8 (.cells #[.int .i64 (0), .int .i64 (0), .int .i64 (0)] 53 (0, 0)) :: L) _ _ _ := hs
       refine RL_storeAll (i := 0) hs rfl rfl rfl ti29 ⟨rfl, rfl⟩ (AllC.arr (r := [.int .i64 (x47.Kind), .string (x47.Name), .string (x47.Value), .int .i64 (x47.N)]) ⟨rfl, rfl, rfl, rfl, trivial⟩) (.free rfl) ?_; clear hs; intro a w hs
       replace hs : St _ _ _ (.blk b54 (.cells #[.int .i64 (x47.Kind), .string (x47.Name), .string (x47.Value), .int .i64 (x47.N)] 29 (0, 0)) :: .blk b33 (.cells #[.int .i64 (x21.Comb), .string (x21.Name), v28] 35 (0, 0)) :: .blk b10 (.cells #[.int .i64 (y41.Ids), .int .i64 (y41.Tests), .int .i64 (y41.Names)] 53 (0, 0)) :: .blk b8 (.cells #[.int .i64 (0), .int .i64 (0), .int .i64 (0)] 53 (0, 0)) :: L) _ _ _ := hs
       refine RL_nil ?_
       refine hK22 _ _ ?_; clear hK22
       refine W_seq fun K23 hK23 => ?_
       refine W_region ?_
       refine sy (v := .pointer (some ⟨b54, 0, none⟩)) hs (y_fieldAddr rfl (FO.of (off := 0) Tryd.underlying29 rfl rfl ti3 (by decide))) ?_; clear hs; intro a w hs
       refine sy (v := .int .i64 (x47.Kind)) hs (y_ld rfl Tryd.underlying3 rfl (Cell.blk (.head _) rfl)) ?_; clear hs; intro a w hs
       refine sy hs (y_eql rfl rfl) ?_; clear hs; intro a w hs
       refine RL_nil ?_
       refine hK23 _ _ ?_; clear hK23
       refine W_post (fun a w => ∃ (y56 : match_Weight) (r57 : List Value), match_Weigh_k6 y44 (match_Weigh_l5 y18 (match_Weigh_l2 n p0 k19) x21 k45) y56 = some res ∧ t_match_Weight.R f r57 y56 ∧ St 43 w0 f (.blk b33 (.cells #[.int .i64 (x21.Comb), .string (x21.Name), v28] 35 (0, 0)) :: .blk b10 (.cells r57.toArray 53 (0, 0)) :: .blk b8 (.cells #[.int .i64 (0), .int .i64 (0), .int .i64 (0)] 53 (0, 0)) :: L) [(2, .pointer (some ⟨b8, 0, none⟩)), (3, .pointer (some ⟨b10, 0, none⟩)), (5, .pointer (some ⟨b33, 0, none⟩)), (9, v1), (10, .int .i64 ((p0.Steps.length : Int))), (11, .int .i64 (y18)), (16, v28), (17, .int .i64 ((x21.Tests.length : Int))), (18, .int .i64 (y44))] a w) ?_ ?_
       ·clear hs hm
        rintro a w ⟨y56, r57, hm, hq58, hs⟩
        obtain rfl : _ = ([.int .i64 (y56.Ids), .int .i64 (y56.Tests), .int .i64 (y56.Names)] : List Value) := hq58
        replace hs : St _ _ _ (.blk b33 (.cells #[.int .i64 (x21.Comb), .string (x21.Name), v28] 35 (0, 0)) :: .blk b10 (.cells #[.int .i64 (y56.Ids), .int .i64 (y56.Tests), .int .i64 (y56.Names)] 53 (0, 0)) :: .blk b8 (.cells #[.int .i64 (0), .int .i64 (0), .int .i64 (0)] 53 (0, 0)) :: L) _ _ _ := hs
        unfold match_Weigh_k6 at hm
        refine hK20 _ _ ?_; clear hK20
        refine W_region ?_
        refine sy hs (y_add rfl rfl rfl) ?_; clear hs; intro a w hs
        refine sy (v := .int .i64 ((w64 (y44 + 1)))) hs (y_move rfl) ?_; clear hs; intro a w hs
        refine RL_nil ?_
        exact hK17 k45 _ _ (Nat.lt_succ_self _) ⟨y56, (w64 (y44 + 1)), [.int .i64 (y56.Ids), .int .i64 (y56.Tests), .int .i64 (y56.Names)], hm, rfl, hs.sub ⟨rfl, rfl, rfl, rfl, rfl, rfl, rfl, rfl, rfl, trivial⟩⟩
       ·refine W_cond hs rfl (fun hg59 => ?_) (fun hg59 => ?_)
        ·replace hm := oc_t hg59 hm
         refine W_region ?_
         refine sy (v := .pointer (some ⟨b10, 0, none⟩)) hs (y_fieldAddr rfl (FO.of (off := 0) Tryd.underlying53 rfl rfl ti3 (by decide))) ?_; clear hs; intro a w hs
         refine sy (v := .int .i64 (y41.Ids)) hs (y_ld rfl Tryd.underlying3 rfl (Cell.blk (.tail _ (.tail _ (.head _))) rfl)) ?_; clear hs; intro a w hs
         refine sy hs (y_add rfl rfl rfl) ?_; clear hs; intro a w hs
         refine sy (v := .pointer (some ⟨b10, 0, none⟩)) hs (y_fieldAddr rfl (FO.of (off := 0) Tryd.underlying53 rfl rfl ti3 (by decide))) ?_; clear hs; intro a w hs
         refine sstore 2 hs rfl rfl rfl ti3 rfl ?_; clear hs; intro a w hs
         replace hs : St _ _ _ (.blk b54 (.cells #[.int .i64 (x47.Kind), .string (x47.Name), .string (x47.Value), .int .i64 (x47.N)] 29 (0, 0)) :: .blk b33 (.cells #[.int .i64 (x21.Comb), .string (x21.Name), v28] 35 (0, 0)) :: .blk b10 (.cells #[.int .i64 ((w64 (y41.Ids + 1))), .int .i64 (y41.Tests), .int .i64 (y41.Names)] 53 (0, 0)) :: .blk b8 (.cells #[.int .i64 (0), .int .i64 (0), .int .i64 (0)] 53 (0, 0)) :: L) _ _ _ := hs
         refine RL_nil ?_
         exact ⟨({Ids := (w64 (y41.Ids + 1)), Tests := y41.Tests, Names := y41.Names} : match_Weight), [.int .i64 ((w64 (y41.Ids + 1))), .int .i64 (y41.Tests), .int .i64 (y41.Names)], hm, rfl, hs.subs ⟨rfl, rfl, rfl, rfl, rfl, rfl, rfl, rfl, rfl, trivial⟩ (.cons _ (.cons_cons _ (.cons_cons _ (.cons_cons _ (.refl _)))))⟩
        ·replace hm := oc_f hg59 hm
         refine W_region ?_
         refine sy (v := .pointer (some ⟨b10, 1, none⟩)) hs (y_fieldAddr rfl (FO.of (off := 1) Tryd.underlying53 rfl rfl ti3 (by decide))) ?_; clear hs; intro a w hs
         refine sy (v := .int .i64 (y41.Tests)) hs (y_ld rfl Tryd.underlying3 rfl (Cell.blk (.tail _ (.tail _ (.head _))) rfl)) ?_; clear hs; intro a w hs
         refine sy hs (y_add rfl rfl rfl) ?_; clear hs; intro a w hs
         refine sy (v := .pointer (some ⟨b10, 1, none⟩)) hs (y_fieldAddr rfl (FO.of (off := 1) Tryd.underlying53 rfl rfl ti3 (by decide))) ?_; clear hs; intro a w hs
         refine sstore 2 hs rfl rfl rfl ti3 rfl ?_; clear hs; intro a w hs
         replace hs : St _ _ _ (.blk b54 (.cells #[.int .i64 (x47.Kind), .string (x47.Name), .string (x47.Value), .int .i64 (x47.N)] 29 (0, 0)) :: .blk b33 (.cells #[.int .i64 (x21.Comb), .string (x21.Name), v28] 35 (0, 0)) :: .blk b10 (.cells #[.int .i64 (y41.Ids), .int .i64 ((w64 (y41.Tests + 1))), .int .i64 (y41.Names)] 53 (0, 0)) :: .blk b8 (.cells #[.int .i64 (0), .int .i64 (0), .int .i64 (0)] 53 (0, 0)) :: L) _ _ _ := hs
         refine RL_nil ?_
         exact ⟨({Ids := y41.Ids, Tests := (w64 (y41.Tests + 1)), Names := y41.Names} : match_Weight), [.int .i64 (y41.Ids), .int .i64 ((w64 (y41.Tests + 1))), .int .i64 (y41.Names)], hm, rfl, hs.subs ⟨rfl, rfl, rfl, rfl, rfl, rfl, rfl, rfl, rfl, trivial⟩ (.cons _ (.cons_cons _ (.cons_cons _ (.cons_cons _ (.refl _)))))⟩
      ·replace hm := oc_f hg46 hm
       refine W_exit ?_
       refine hB16 _ _ ?_
       exact ⟨y41, [.int .i64 (y41.Ids), .int .i64 (y41.Tests), .int .i64 (y41.Names)], hm, rfl, hs.sub ⟨rfl, rfl, rfl, rfl, rfl, rfl, trivial⟩⟩
   ·replace hm := oc_f hg20 hm
    refine W_exit ?_
    refine hB6 _ _ ?_
    exact ⟨y15, [.int .i64 (y15.Ids), .int .i64 (y15.Tests), .int .i64 (y15.Names)], hm, rfl, hs.sub ⟨rfl, rfl, trivial⟩⟩
/-! casement/match.Less -/
def match_Less (_n : Nat) (p0 : match_Weight) (p1 : match_Weight) : Option Bool :=
  (bif (decide (p0.Ids ≠ p1.Ids)) then some (decide (p0.Ids < p1.Ids)) else
  (bif (decide (p0.Tests ≠ p1.Tests)) then some (decide (p0.Tests < p1.Tests)) else
  some (decide (p0.Names < p1.Names))))
set_option maxRecDepth 20000 in
set_option maxHeartbeats 4000000 in
theorem match_Less_ok (n : Nat) {f : Fz} {p0 : match_Weight} {a0 : List Value} {p1 : match_Weight} {a1 : List Value} {res : Bool} (h0 : t_match_Weight.R f a0 p0) (h1 : t_match_Weight.R f a1 p1) (hm : match_Less n p0 p1 = some res) : Gives Tryd.prog 18 [.agg a0.toArray, .agg a1.toArray] f (.bool res) := by
 unfold match_Less at hm
 intro w0 L w hC
 obtain rfl : _ = ([.int .i64 (p0.Ids), .int .i64 (p0.Tests), .int .i64 (p0.Names)] : List Value) := h0
 obtain rfl : _ = ([.int .i64 (p1.Ids), .int .i64 (p1.Tests), .int .i64 (p1.Names)] : List Value) := h1
 refine enter Tryd.func18 rfl Tryd.ntmps18 (by simp) hC fun a hs => ?_
 have hle := Fz.le.refl f
 refine W_seq fun K1 hK1 => ?_
 refine W_region ?_
 refine sbox hs rfl ?_; clear hs; intro b1 a w hs
 replace hs : St _ _ _ (.blk b1 (.cells #[.int .i64 (p0.Ids), .int .i64 (p0.Tests), .int .i64 (p0.Names)] 53 (0, 0)) :: L) _ _ _ := hs
 refine sbox hs rfl ?_; clear hs; intro b3 a w hs
 replace hs : St _ _ _ (.blk b3 (.cells #[.int .i64 (p1.Ids), .int .i64 (p1.Tests), .int .i64 (p1.Names)] 53 (0, 0)) :: .blk b1 (.cells #[.int .i64 (p0.Ids), .int .i64 (p0.Tests), .int .i64 (p0.Names)] 53 (0, 0)) :: L) _ _ _ := hs
 refine sy (v := .bool (false)) hs (y_assign rfl) ?_; clear hs; intro a w hs
 refine RL_nil ?_
 refine hK1 _ _ ?_; clear hK1
 refine W_seq fun K2 hK2 => ?_
 refine W_block fun Qe3 hB3 hO3 => ?_
 refine W_seq fun K4 hK4 => ?_
 refine W_region ?_
 refine sy (v := .pointer (some ⟨b1, 0, none⟩)) hs (y_fieldAddr rfl (FO.of (off := 0) Tryd.underlying53 rfl rfl ti3 (by decide))) ?_; clear hs; intro a w hs
 refine sy (v := .int .i64 (p0.Ids)) hs (y_ld rfl Tryd.underlying3 rfl (Cell.blk (.tail _ (.head _)) rfl)) ?_; clear hs; intro a w hs
 refine sy (v := .pointer (some ⟨b3, 0, none⟩)) hs (y_fieldAddr rfl (FO.of (off := 0) Tryd.underlying53 rfl rfl ti3 (by decide))) ?_; clear hs; intro a w hs
 refine sy (v := .int .i64 (p1.Ids)) hs (y_ld rfl Tryd.underlying3 rfl (Cell.blk (.head _) rfl)) ?_; clear hs; intro a w hs
 refine sy hs (y_neq rfl rfl) ?_; clear hs; intro a w hs
 refine sy (v := .bool (decide (p0.Ids ≠ p1.Ids))) hs (y_assign rfl) ?_; clear hs; intro a w hs
 refine RL_nil ?_
 refine hK4 _ _ ?_; clear hK4
 refine W_cond hs rfl (fun hg5 => ?_) (fun hg5 => ?_)
 ·replace hm := oc_t hg5 hm
  refine W_seq fun K5 hK5 => ?_
  refine W_region ?_
  refine sy (v := .pointer (some ⟨b1, 0, none⟩)) hs (y_fieldAddr rfl (FO.of (off := 0) Tryd.underlying53 rfl rfl ti3 (by decide))) ?_; clear hs; intro a w hs
  refine sy (v := .int .i64 (p0.Ids)) hs (y_ld rfl Tryd.underlying3 rfl (Cell.blk (.tail _ (.head _)) rfl)) ?_; clear hs; intro a w hs
  refine sy (v := .pointer (some ⟨b3, 0, none⟩)) hs (y_fieldAddr rfl (FO.of (off := 0) Tryd.underlying53 rfl rfl ti3 (by decide))) ?_; clear hs; intro a w hs
  refine sy (v := .int .i64 (p1.Ids)) hs (y_ld rfl Tryd.underlying3 rfl (Cell.blk (.head _) rfl)) ?_; clear hs; intro a w hs
  refine sy hs (y_lss rfl rfl) ?_; clear hs; intro a w hs
  refine sy (v := .bool (decide (p0.Ids < p1.Ids))) hs (y_assign rfl) ?_; clear hs; intro a w hs
  refine RL_nil ?_
  refine hK5 _ _ ?_; clear hK5
  refine W_ret ?_
  obtain rfl := Option.some.inj hm
  refine RtV1 hs rfl (rv_t hs rfl) ?_
  exact ⟨rfl, ((hs.subL (.cons _ (.cons _ (.refl _)))).weak hle).cw⟩
 ·replace hm := oc_f hg5 hm
  refine W_seq fun K6 hK6 => ?_
  refine W_region ?_
  refine sy (v := .pointer (some ⟨b1, 1, none⟩)) hs (y_fieldAddr rfl (FO.of (off := 1) Tryd.underlying53 rfl rfl ti3 (by decide))) ?_; clear hs; intro a w hs
  refine sy (v := .int .i64 (p0.Tests)) hs (y_ld rfl Tryd.underlying3 rfl (Cell.blk (.tail _ (.head _)) rfl)) ?_; clear hs; intro a w hs
  refine sy (v := .pointer (some ⟨b3, 1, none⟩)) hs (y_fieldAddr rfl (FO.of (off := 1) Tryd.underlying53 rfl rfl ti3 (by decide))) ?_; clear hs; intro a w hs
  refine sy (v := .int .i64 (p1.Tests)) hs (y_ld rfl Tryd.underlying3 rfl (Cell.blk (.head _) rfl)) ?_; clear hs; intro a w hs
  refine sy hs (y_neq rfl rfl) ?_; clear hs; intro a w hs
  refine sy (v := .bool (decide (p0.Tests ≠ p1.Tests))) hs (y_assign rfl) ?_; clear hs; intro a w hs
  refine RL_nil ?_
  refine hK6 _ _ ?_; clear hK6
  refine W_cond hs rfl (fun hg6 => ?_) (fun hg6 => ?_)
  ·replace hm := oc_t hg6 hm
   refine W_seq fun K7 hK7 => ?_
   refine W_region ?_
   refine sy (v := .pointer (some ⟨b1, 1, none⟩)) hs (y_fieldAddr rfl (FO.of (off := 1) Tryd.underlying53 rfl rfl ti3 (by decide))) ?_; clear hs; intro a w hs
   refine sy (v := .int .i64 (p0.Tests)) hs (y_ld rfl Tryd.underlying3 rfl (Cell.blk (.tail _ (.head _)) rfl)) ?_; clear hs; intro a w hs
   refine sy (v := .pointer (some ⟨b3, 1, none⟩)) hs (y_fieldAddr rfl (FO.of (off := 1) Tryd.underlying53 rfl rfl ti3 (by decide))) ?_; clear hs; intro a w hs
   refine sy (v := .int .i64 (p1.Tests)) hs (y_ld rfl Tryd.underlying3 rfl (Cell.blk (.head _) rfl)) ?_; clear hs; intro a w hs
   refine sy hs (y_lss rfl rfl) ?_; clear hs; intro a w hs
   refine sy (v := .bool (decide (p0.Tests < p1.Tests))) hs (y_assign rfl) ?_; clear hs; intro a w hs
   refine RL_nil ?_
   refine hK7 _ _ ?_; clear hK7
   refine W_ret ?_
   obtain rfl := Option.some.inj hm
   refine RtV1 hs rfl (rv_t hs rfl) ?_
   exact ⟨rfl, ((hs.subL (.cons _ (.cons _ (.refl _)))).weak hle).cw⟩
  ·replace hm := oc_f hg6 hm
   refine W_skip ?_
   refine hK2 _ _ ?_; clear hK2
   refine W_seq fun K8 hK8 => ?_
   refine W_region ?_
   refine sy (v := .pointer (some ⟨b1, 2, none⟩)) hs (y_fieldAddr rfl (FO.of (off := 2) Tryd.underlying53 rfl rfl ti3 (by decide))) ?_; clear hs; intro a w hs
   refine sy (v := .int .i64 (p0.Names)) hs (y_ld rfl Tryd.underlying3 rfl (Cell.blk (.tail _ (.head _)) rfl)) ?_; clear hs; intro a w hs
   refine sy (v := .pointer (some ⟨b3, 2, none⟩)) hs (y_fieldAddr rfl (FO.of (off := 2) Tryd.underlying53 rfl rfl ti3 (by decide))) ?_; clear hs; intro a w hs
   refine sy (v := .int .i64 (p1.Names)) hs (y_ld rfl Tryd.underlying3 rfl (Cell.blk (.head _) rfl)) ?_; clear hs; intro a w hs
   refine sy hs (y_lss rfl rfl) ?_; clear hs; intro a w hs
   refine sy (v := .bool (decide (p0.Names < p1.Names))) hs (y_assign rfl) ?_; clear hs; intro a w hs
   refine RL_nil ?_
   refine hK8 _ _ ?_; clear hK8
   refine W_ret ?_
   obtain rfl := Option.some.inj hm
   refine RtV1 hs rfl (rv_t hs rfl) ?_
   exact ⟨rfl, ((hs.subL (.cons _ (.cons _ (.refl _)))).weak hle).cw⟩
/-! casement/match.Best -/
def match_Best_k1 (y16 : match_Weight) (y19 : Bool) : Option (match_Weight × Bool) :=
  some (y16, y19)
def match_Best_k4 (y24 : Int) (lp25 : match_Weight → Bool → Int → Option (match_Weight × Bool)) (y47 : match_Weight) (y50 : Bool) : Option (match_Weight × Bool) :=
  lp25 y47 y50 (w64 (y24 + 1))
def match_Best_k3 (y20 : match_Weight) (y23 : Bool) (y24 : Int) (lp25 : match_Weight → Bool → Int → Option (match_Weight × Bool)) (x42 : match_Weight) (y46 : Bool) : Option (match_Weight × Bool) :=
  (bif y46 then match_Best_k4 y24 lp25 x42 true else
  match_Best_k4 y24 lp25 y20 y23)
def match_Best_l2 (n : Nat) (p0 : api_Tree) (p1 : Int) (p2 : (List sheet_Selector)) : Nat → match_Weight → Bool → Int → Option (match_Weight × Bool)
  | 0, _, _, _ => none
  | k25 + 1, y20, y23, y24 =>
  (bif (decide (y24 < (p2.length : Int))) then (geti p2 y24).bind fun x27 =>
  (match_Weigh n x27).bind fun x42 =>
  (bif (!y23) then (match_Match n p0 p1 x27).bind fun x53 =>
  match_Best_k3 y20 y23 y24 (match_Best_l2 n p0 p1 p2 k25) x42 x53 else
  (match_Less n y20 x42).bind fun x55 =>
  (bif x55 then (match_Match n p0 p1 x27).bind fun x58 =>
  match_Best_k3 y20 y23 y24 (match_Best_l2 n p0 p1 p2 k25) x42 x58 else
  match_Best_k3 y20 y23 y24 (match_Best_l2 n p0 p1 p2 k25) x42 false)) else
  match_Best_k1 y20 y23)
def match_Best (n : Nat) (p0 : api_Tree) (p1 : Int) (p2 : (List sheet_Selector)) : Option (match_Weight × Bool) :=
  match_Best_l2 n p0 p1 p2 n ({Ids := 0, Tests := 0, Names := 0} : match_Weight) false 0
set_option maxRecDepth 20000 in
set_option maxHeartbeats 4000000 in
theorem match_Best_ok (n : Nat) {f : Fz} {o0 : Obj} {o1 : Obj} {p0 : api_Tree} {a0 : List Value} {p1 : Int} {p2 : (List sheet_Selector)} {a2 : Value} {res : (match_Weight × Bool)} (hT0 : f 0 = some o0) (hT1 : f 1 = some o1) (hTT : Tabs o0 o1) (h0 : t_api_Tree.R f a0 p0) (h2 : RS t_sheet_Selector f a2 p2) (hm : match_Best n p0 p1 p2 = some res) : Gives Tryd.prog 23 [.agg a0.toArray, .int .i64 p1, a2] f (.tuple #[.agg #[.int .i64 res.1.Ids, .int .i64 res.1.Tests, .int .i64 res.1.Names], .bool res.2]) := by
 unfold match_Best at hm
 intro w0 L w hC
 obtain ⟨v1, rfl, ⟨rw2, hR3, hW4⟩⟩ := h0
 obtain ⟨rw6, hR7, hW8⟩ := h2
 refine enter Tryd.func23 rfl Tryd.ntmps23 (by simp) hC fun a hs => ?_
 have hle := Fz.le.refl f
 refine W_seq fun K1 hK1 => ?_
 refine W_region ?_
 refine sbox hs rfl ?_; clear hs; intro b10 a w hs
 replace hs : St _ _ _ (.blk b10 (.cells #[v1] 24 (0, 0)) :: L) _ _ _ := hs
 refine RL_alloc hs ti53 (.free rfl) (by decide) ?_; clear hs; intro b12 a w hs
 replace hs : St _ _ _ (.blk b12 (.cells #[.int .i64 (0), .int .i64 (0), .int .i64 (0)] 53 (0, 0)) :: .blk b10 (.cells #[v1] 24 (0, 0)) :: L) _ _ _ := hs
 refine sy (v := .bool (false)) hs (y_assign rfl) ?_; clear hs; intro a w hs
 refine RL_nil ?_
 refine hK1 _ _ ?_; clear hK1
 refine W_seq fun K2 hK2 => ?_
 refine W_region ?_
 refine RL_alloc hs ti53 (.free rfl) (by decide) ?_; clear hs; intro b14 a w hs
 replace hs : St _ _ _ (.blk b14 (.cells #[.int .i64 (0), .int .i64 (0), .int .i64 (0)] 53 (0, 0)) :: .blk b12 (.cells #[.int .i64 (0), .int .i64 (0), .int .i64 (0)] 53 (0, 0)) :: .blk b10 (.cells #[v1] 24 (0, 0)) :: L) _ _ _ := hs
 refine RL_nil ?_
 refine hK2 _ _ ?_; clear hK2
 refine W_seq fun K3 hK3 => ?_
 refine W_region ?_
 refine sy (v := .bool (false)) hs (y_assign rfl) ?_; clear hs; intro a w hs
 refine RL_nil ?_
 refine hK3 _ _ ?_; clear hK3
 refine W_seq fun K4 hK4 => ?_
 refine W_seq fun K5 hK5 => ?_
 refine W_region ?_
 refine sy (v := a2) hs (y_move rfl) ?_; clear hs; intro a w hs
 refine sy hs (y_lenW hR7 hW8 rfl Tryd.underlying31) ?_; clear hs; intro a w hs
 refine sy (v := .int .i64 (0)) hs (y_move rfl) ?_; clear hs; intro a w hs
 refine RL_nil ?_
 refine hK5 _ _ ?_; clear hK5
 refine W_post (fun a w => ∃ (y16 : match_Weight) (y19 : Bool) (r17 : List Value), match_Best_k1 y16 y19 = some res ∧ t_match_Weight.R f r17 y16 ∧ St 38 w0 f (.blk b14 (.cells r17.toArray 53 (0, 0)) :: .blk b12 (.cells #[.int .i64 (0), .int .i64 (0), .int .i64 (0)] 53 (0, 0)) :: L) [(6, .pointer (some ⟨b12, 0, none⟩)), (8, .pointer (some ⟨b14, 0, none⟩)), (9, .bool (y19))] a w) ?_ ?_
 ·clear hs hm
  rintro a w ⟨y16, y19, r17, hm, hq18, hs⟩
  obtain rfl : _ = ([.int .i64 (y16.Ids), .int .i64 (y16.Tests), .int .i64 (y16.Names)] : List Value) := hq18
  replace hs : St _ _ _ (.blk b14 (.cells #[.int .i64 (y16.Ids), .int .i64 (y16.Tests), .int .i64 (y16.Names)] 53 (0, 0)) :: .blk b12 (.cells #[.int .i64 (0), .int .i64 (0), .int .i64 (0)] 53 (0, 0)) :: L) _ _ _ := hs
  unfold match_Best_k1 at hm
  refine hK4 _ _ ?_; clear hK4
  refine W_seq fun K6 hK6 => ?_
  refine W_region ?_
  refine sy hs (y_ldB rfl Tryd.underlying53 rfl ti53 (.head _) rfl) ?_; clear hs; intro a w hs
  refine sy (v := .bool (y19)) hs (y_move rfl) ?_; clear hs; intro a w hs
  refine RL_storeAll (i := 1) hs rfl rfl rfl ti53 ⟨rfl, rfl⟩ (AllC.arr (r := [.int .i64 (y16.Ids), .int .i64 (y16.Tests), .int .i64 (y16.Names)]) ⟨rfl, rfl, rfl, trivial⟩) (.free rfl) ?_; clear hs; intro a w hs
  replace hs : St _ _ _ (.blk b14 (.cells #[.int .i64 (y16.Ids), .int .i64 (y16.Tests), .int .i64 (y16.Names)] 53 (0, 0)) :: .blk b12 (.cells #[.int .i64 (y16.Ids), .int .i64 (y16.Tests), .int .i64 (y16.Names)] 53 (0, 0)) :: L) _ _ _ := hs
  refine sy (v := .bool (y19)) hs (y_assign rfl) ?_; clear hs; intro a w hs
  refine RL_nil ?_
  refine hK6 _ _ ?_; clear hK6
  refine W_ret ?_
  obtain rfl := Option.some.inj hm
  refine RtV2 hs rfl (rv_a hs rfl Tryd.underlying53 rfl ti53 (fun j u hj => Cell.blk (.tail _ (.head _)) hj) rfl) (rv_t hs rfl) ?_
  exact ⟨rfl, ((hs.subL (.cons _ (.cons _ (.refl _)))).weak hle).cw⟩
 ·refine W_block fun Qe7 hB7 hO7 => ?_
  refine W_loop (fun (k : Nat) a w => ∃ (y20 : match_Weight) (y23 : Bool) (y24 : Int) (r21 : List Value), match_Best_l2 n p0 p1 p2 k y20 y23 y24 = some res ∧ t_match_Weight.R f r21 y20 ∧ St 38 w0 f (.blk b14 (.cells r21.toArray 53 (0, 0)) :: .blk b12 (.cells #[.int .i64 (0), .int .i64 (0), .int .i64 (0)] 53 (0, 0)) :: .blk b10 (.cells #[v1] 24 (0, 0)) :: L) [(1, .int .i64 (p1)), (3, .pointer (some ⟨b10, 0, none⟩)), (6, .pointer (some ⟨b12, 0, none⟩)), (8, .pointer (some ⟨b14, 0, none⟩)), (9, .bool (y23)), (13, a2), (14, .int .i64 ((p2.length : Int))), (15, .int .i64 (y24))] a w) (fun k => k) n ⟨({Ids := 0, Tests := 0, Names := 0} : match_Weight), false, 0, [.int .i64 (0), .int .i64 (0), .int .i64 (0)], hm, rfl, hs.sub ⟨rfl, rfl, rfl, rfl, rfl, rfl, rfl, rfl, trivial⟩⟩ ?_
  clear hs hm
  intro k
  rintro a w ⟨y20, y23, y24, r21, hm, hq22, hs⟩
  obtain rfl : _ = ([.int .i64 (y20.Ids), .int .i64 (y20.Tests), .int .i64 (y20.Names)] : List Value) := hq22
  replace hs : St _ _ _ (.blk b14 (.cells #[.int .i64 (y20.Ids), .int .i64 (y20.Tests), .int .i64 (y20.Names)] 53 (0, 0)) :: .blk b12 (.cells #[.int .i64 (0), .int .i64 (0), .int .i64 (0)] 53 (0, 0)) :: .blk b10 (.cells #[v1] 24 (0, 0)) :: L) _ _ _ := hs
  intro K8 hK8
  cases k with
  | zero => simp [match_Best_l2] at hm
  | succ k25 =>
   rw [match_Best_l2] at hm
   refine W_seq fun K9 hK9 => ?_
   refine W_region ?_
   refine sy hs (y_lss rfl rfl) ?_; clear hs; intro a w hs
   refine RL_nil ?_
   refine hK9 _ _ ?_; clear hK9
   refine W_seq fun K10 hK10 => ?_
   refine W_cond hs rfl (fun hg26 => ?_) (fun hg26 => ?_)
   ·replace hm := oc_t hg26 hm
    refine W_skip ?_
    refine hK10 _ _ ?_; clear hK10
    refine W_seq fun K11 hK11 => ?_
    refine W_block fun Qe12 hB12 hO12 => ?_
    refine W_seq fun K13 hK13 => ?_
    refine W_region ?_
    obtain ⟨x27, hx28, hm⟩ := ob hm
    obtain ⟨r29, hr30, hq31, hi32, hb33⟩ := hW8.geti hx28
    obtain ⟨v34, rfl, ⟨rw35, hR36, hW37⟩⟩ := hq31
    refine sy hs (y_indexAddr hR7 rfl rfl hi32 hb33 Tryd.underlying31 ti27) ?_; clear hs; intro a w hs
    refine sy hs (y_loadRow hR7.up rfl hr30 Tryd.underlying27 rfl ti27) ?_; clear hs; intro a w hs
    refine RL_alloc hs ti27 (.free rfl) (by decide) ?_; clear hs; intro b39 a w hs
    replace hs : St _ _ _ (.blk b39 (.cells #[(.slice none 0 0)] 27 (0, 0)) :: .blk b14 (.cells #[.int .i64 (y20.Ids), .int .i64 (y20.Tests), .int .i64 (y20.Names)] 53 (0, 0)) :: .blk b12 (.cells #[.int .i64 (0), .int .i64 (0), .int .i64 (0)] 53 (0, 0)) :: .blk b10 (.cells #[v1] 24 (0, 0)) :: L) _ _ _ := hs
    refine RL_storeAll (i := 0) hs rfl rfl rfl ti27 ⟨rfl, rfl⟩ (AllC.arr (r := [v34]) ⟨hR36.one, trivial⟩) (.free rfl) ?_; clear hs; intro a w hs
    replace hs : St _ _ _ (.blk b39 (.cells #[v34] 27 (0, 0)) :: .blk b14 (.cells #[.int .i64 (y20.Ids), .int .i64 (y20.Tests), .int .i64 (y20.Names)] 53 (0, 0)) :: .blk b12 (.cells #[.int .i64 (0), .int .i64 (0), .int .i64 (0)] 53 (0, 0)) :: .blk b10 (.cells #[v1] 24 (0, 0)) :: L) _ _ _ := hs
    refine RL_nil ?_
    refine hK13 _ _ ?_; clear hK13
    refine W_seq fun K14 hK14 => ?_
    refine W_region ?_
    refine sy hs (y_ldB rfl Tryd.underlying27 rfl ti27 (.head _) rfl) ?_; clear hs; intro a w hs
    obtain ⟨x42, hx43, hm⟩ := ob hm
    refine sy hs (y_call rfl has20 rfl (match_Weigh_ok n (f := f) (a0 := [v34]) ⟨_, rfl, ⟨rw35, hR36, hW37⟩⟩ hx43)) ?_; clear hs; intro a w hs
    refine RL_alloc hs ti53 (.free rfl) (by decide) ?_; clear hs; intro b44 a w hs
    replace hs : St _ _ _ (.blk b44 (.cells #[.int .i64 (0), .int .i64 (0), .int .i64 (0)] 53 (0, 0)) :: .blk b39 (.cells #[v34] 27 (0, 0)) :: .blk b14 (.cells #[.int .i64 (y20.Ids), .int .i64 (y20.Tests), .int .i64 (y20.Names)] 53 (0, 0)) :: .blk b12 (.cells #[.int .i64 (0), .int .i64 (0), .int .i64 (0)] 53 (0, 0)) :: .blk b10 (.cells #[v1] 24 (0, 0)) :: L) _ _ _ := hs
    refine RL_storeAll (i := 0) hs rfl rfl rfl ti53 ⟨rfl, rfl⟩ (AllC.arr (r := [.int .i64 (x42.Ids), .int .i64 (x42.Tests), .int .i64 (x42.Names)]) ⟨rfl, rfl, rfl, trivial⟩) (.free rfl) ?_; clear hs; intro a w hs
    replace hs : St _ _ _ (.blk b44 (.cells #[.int .i64 (x42.Ids), .int .i64 (x42.Tests), .int .i64 (x42.Names)] 53 (0, 0)) :: .blk b39 (.cells #[v34] 27 (0, 0)) :: .blk b14 (.cells #[.int .i64 (y20.Ids), .int .i64 (y20.Tests), .int .i64 (y20.Names)] 53 (0, 0)) :: .blk b12 (.cells #[.int .i64 (0), .int .i64 (0), .int .i64 (0)] 53 (0, 0)) :: .blk b10 (.cells #[v1] 24 (0, 0)) :: L) _ _ _ := hs
    refine RL_nil ?_
    refine hK14 _ _ ?_; clear hK14
    refine W_seq fun K15 hK15 => ?_
    refine W_post (fun a w => ∃ (y46 : Bool), match_Best_k3 y20 y23 y24 (match_Best_l2 n p0 p1 p2 k25) x42 y46 = some res ∧ St 38 w0 f (.blk b44 (.cells #[.int .i64 (x42.Ids), .int .i64 (x42.Tests), .int .i64 (x42.Names)] 53 (0, 0)) :: .blk b14 (.cells #[.int .i64 (y20.Ids), .int .i64 (y20.Tests), .int .i64 (y20.Names)] 53 (0, 0)) :: .blk b12 (.cells #[.int .i64 (0), .int .i64 (0), .int .i64 (0)] 53 (0, 0)) :: .blk b10 (.cells #[v1] 24 (0, 0)) :: L) [(1, .int .i64 (p1)), (3, .pointer (some ⟨b10, 0, none⟩)), (6, .pointer (some ⟨b12, 0, none⟩)), (8, .pointer (some ⟨b14, 0, none⟩)), (9, .bool (y23)), (12, .pointer (some ⟨b44, 0, none⟩)), (13, a2), (14, .int .i64 ((p2.length : Int))), (15, .int .i64 (y24)), (33, .bool (y46))] a w) ?_ ?_
    ·clear hs hm
     rintro a w ⟨y46, hm, hs⟩
     replace hs : St _ _ _ (.blk b44 (.cells #[.int .i64 (x42.Ids), .int .i64 (x42.Tests), .int .i64 (x42.Names)] 53 (0, 0)) :: .blk b14 (.cells #[.int .i64 (y20.Ids), .int .i64 (y20.Tests), .int .i64 (y20.Names)] 53 (0, 0)) :: .blk b12 (.cells #[.int .i64 (0), .int .i64 (0), .int .i64 (0)] 53 (0, 0)) :: .blk b10 (.cells #[v1] 24 (0, 0)) :: L) _ _ _ := hs
     unfold match_Best_k3 at hm
     refine hK15 _ _ ?_; clear hK15
     refine W_post (fun a w => ∃ (y47 : match_Weight) (y50 : Bool) (r48 : List Value), match_Best_k4 y24 (match_Best_l2 n p0 p1 p2 k25) y47 y50 = some res ∧ t_match_Weight.R f r48 y47 ∧ St 38 w0 f (.blk b14 (.cells r48.toArray 53 (0, 0)) :: .blk b12 (.cells #[.int .i64 (0), .int .i64 (0), .int .i64 (0)] 53 (0, 0)) :: .blk b10 (.cells #[v1] 24 (0, 0)) :: L) [(1, .int .i64 (p1)), (3, .pointer (some ⟨b10, 0, none⟩)), (6, .pointer (some ⟨b12, 0, none⟩)), (8, .pointer (some ⟨b14, 0, none⟩)), (9, .bool (y50)), (13, a2), (14, .int .i64 ((p2.length : Int))), (15, .int .i64 (y24))] a w) ?_ ?_
     ·clear hs hm
      rintro a w ⟨y47, y50, r48, hm, hq49, hs⟩
      obtain rfl : _ = ([.int .i64 (y47.Ids), .int .i64 (y47.Tests), .int .i64 (y47.Names)] : List Value) := hq49
      replace hs : St _ _ _ (.blk b14 (.cells #[.int .i64 (y47.Ids), .int .i64 (y47.Tests), .int .i64 (y47.Names)] 53 (0, 0)) :: .blk b12 (.cells #[.int .i64 (0), .int .i64 (0), .int .i64 (0)] 53 (0, 0)) :: .blk b10 (.cells #[v1] 24 (0, 0)) :: L) _ _ _ := hs
      unfold match_Best_k4 at hm
      refine hK11 _ _ ?_; clear hK11
      refine W_region ?_
      refine sy hs (y_add rfl rfl rfl) ?_; clear hs; intro a w hs
      refine sy (v := .int .i64 ((w64 (y24 + 1)))) hs (y_move rfl) ?_; clear hs; intro a w hs
      refine RL_nil ?_
      exact hK8 k25 _ _ (Nat.lt_succ_self _) ⟨y47, y50, (w64 (y24 + 1)), [.int .i64 (y47.Ids), .int .i64 (y47.Tests), .int .i64 (y47.Names)], hm, rfl, hs.sub ⟨rfl, rfl, rfl, rfl, rfl, rfl, rfl, rfl, trivial⟩⟩
     ·refine W_cond hs rfl (fun hg51 => ?_) (fun hg51 => ?_)
      ·replace hm := oc_t hg51 hm
       refine W_region ?_
       refine sy hs (y_ldB rfl Tryd.underlying53 rfl ti53 (.head _) rfl) ?_; clear hs; intro a w hs
       refine RL_storeAll (i := 1) hs rfl rfl rfl ti53 ⟨rfl, rfl⟩ (AllC.arr (r := [.int .i64 (x42.Ids), .int .i64 (x42.Tests), .int .i64 (x42.Names)]) ⟨rfl, rfl, rfl, trivial⟩) (.free rfl) ?_; clear hs; intro a w hs
       replace hs : St _ _ _ (.blk b44 (.cells #[.int .i64 (x42.Ids), .int .i64 (x42.Tests), .int .i64 (x42.Names)] 53 (0, 0)) :: .blk b14 (.cells #[.int .i64 (x42.Ids), .int .i64 (x42.Tests), .int .i64 (x42.Names)] 53 (0, 0)) :: .blk b12 (.cells #[.int .i64 (0), .int .i64 (0), .int .i64 (0)] 53 (0, 0)) :: .blk b10 (.cells #[v1] 24 (0, 0)) :: L) _ _ _ := hs
       refine sy (v := .bool (true)) hs (y_assign rfl) ?_; clear hs; intro a w hs
       refine RL_nil ?_
       exact ⟨x42, true, [.int .i64 (x42.Ids), .int .i64 (x42.Tests), .int .i64 (x42.Names)], hm, rfl, hs.subs ⟨rfl, rfl, rfl, rfl, rfl, rfl, rfl, rfl, trivial⟩ (.cons _ (.cons_cons _ (.cons_cons _ (.cons_cons _ (.refl _)))))⟩
      ·replace hm := oc_f hg51 hm
       refine W_skip ?_
       exact ⟨y20, y23, [.int .i64 (y20.Ids), .int .i64 (y20.Tests), .int .i64 (y20.Names)], hm, rfl, hs.subs ⟨rfl, rfl, rfl, rfl, rfl, rfl, rfl, rfl, trivial⟩ (.cons _ (.cons_cons _ (.cons_cons _ (.cons_cons _ (.refl _)))))⟩
    ·refine W_region ?_
     refine sy (v := .bool (y23)) hs (y_move rfl) ?_; clear hs; intro a w hs
     refine sy (v := .bool ((!y23))) hs (y_not rfl) ?_; clear hs; intro a w hs
     refine sy (v := .bool ((!y23))) hs (y_move rfl) ?_; clear hs; intro a w hs
     refine St.split hs (t := 23) rfl (fun hg52 hq => ?_) (fun hg52 hq => ?_)
     ·clear hs; have hs := hq; clear hq
      replace hm := oc_t hg52 hm
      refine sno hs ?_; clear hs; intro a w hs
      refine sno hs ?_; clear hs; intro a w hs
      refine sno hs ?_; clear hs; intro a w hs
      refine sy (v := .bool (true)) hs (y_pick rfl rfl) ?_; clear hs; intro a w hs
      refine sy (v := .bool (true)) hs (y_move rfl) ?_; clear hs; intro a w hs
      refine syg hs (y_ldB rfl Tryd.underlying24 rfl ti24 (.tail _ (.tail _ (.tail _ (.tail _ (.head _))))) rfl) ?_; clear hs; intro a w hs
      refine syg (v := .int .i64 (p1)) hs (y_move rfl) ?_; clear hs; intro a w hs
      refine syg hs (y_ldB rfl Tryd.underlying27 rfl ti27 (.tail _ (.head _)) rfl) ?_; clear hs; intro a w hs
      obtain ⟨x53, hx54, hm⟩ := ob hm
      refine syg hs (y_call rfl has12 rfl (match_Match_ok n (f := f) (a0 := [v1]) (a2 := [v34]) hT0 hT1 hTT ⟨_, rfl, ⟨rw2, hR3, hW4⟩⟩ ⟨_, rfl, ⟨rw35, hR36, hW37⟩⟩ hx54)) ?_; clear hs; intro a w hs
      refine sy (v := .bool (x53)) hs (y_pick rfl rfl) ?_; clear hs; intro a w hs
      refine RL_nil ?_
      exact ⟨x53, hm, hs.subs ⟨rfl, rfl, rfl, rfl, rfl, rfl, rfl, rfl, rfl, rfl, trivial⟩ (.cons_cons _ (.cons _ (.cons_cons _ (.cons_cons _ (.cons_cons _ (.refl _))))))⟩
     ·clear hs; have hs := hq; clear hq
      replace hm := oc_f hg52 hm
      refine syg hs (y_ldB rfl Tryd.underlying53 rfl ti53 (.tail _ (.tail _ (.head _))) rfl) ?_; clear hs; intro a w hs
      refine syg hs (y_ldB rfl Tryd.underlying53 rfl ti53 (.head _) rfl) ?_; clear hs; intro a w hs
      obtain ⟨x55, hx56, hm⟩ := ob hm
      refine syg hs (y_call rfl has18 rfl (match_Less_ok n (f := f) (a0 := [.int .i64 (y20.Ids), .int .i64 (y20.Tests), .int .i64 (y20.Names)]) (a1 := [.int .i64 (x42.Ids), .int .i64 (x42.Tests), .int .i64 (x42.Names)]) rfl rfl hx56)) ?_; clear hs; intro a w hs
      refine sy (v := .bool (x55)) hs (y_pick rfl rfl) ?_; clear hs; intro a w hs
      refine sy (v := .bool (x55)) hs (y_move rfl) ?_; clear hs; intro a w hs
      refine St.split hs (t := 28) rfl (fun hg57 hq => ?_) (fun hg57 hq => ?_)
      ·clear hs; have hs := hq; clear hq
       replace hm := oc_t hg57 hm
       refine syg hs (y_ldB rfl Tryd.underlying24 rfl ti24 (.tail _ (.tail _ (.tail _ (.tail _ (.head _))))) rfl) ?_; clear hs; intro a w hs
       refine syg (v := .int .i64 (p1)) hs (y_move rfl) ?_; clear hs; intro a w hs
       refine syg hs (y_ldB rfl Tryd.underlying27 rfl ti27 (.tail _ (.head _)) rfl) ?_; clear hs; intro a w hs
       obtain ⟨x58, hx59, hm⟩ := ob hm
       refine syg hs (y_call rfl has12 rfl (match_Match_ok n (f := f) (a0 := [v1]) (a2 := [v34]) hT0 hT1 hTT ⟨_, rfl, ⟨rw2, hR3, hW4⟩⟩ ⟨_, rfl, ⟨rw35, hR36, hW37⟩⟩ hx59)) ?_; clear hs; intro a w hs
       refine sy (v := .bool (x58)) hs (y_pick rfl rfl) ?_; clear hs; intro a w hs
       refine RL_nil ?_
       exact ⟨x58, hm, hs.subs ⟨rfl, rfl, rfl, rfl, rfl, rfl, rfl, rfl, rfl, rfl, trivial⟩ (.cons_cons _ (.cons _ (.cons_cons _ (.cons_cons _ (.cons_cons _ (.refl _))))))⟩
      ·clear hs; have hs := hq; clear hq
       replace hm := oc_f hg57 hm
       refine sno hs ?_; clear hs; intro a w hs
       refine sno hs ?_; clear hs; intro a w hs
       refine sno hs ?_; clear hs; intro a w hs
       refine sno hs ?_; clear hs; intro a w hs
       refine sy (v := .bool (false)) hs (y_pick rfl rfl) ?_; clear hs; intro a w hs
       refine RL_nil ?_
       exact ⟨false, hm, hs.subs ⟨rfl, rfl, rfl, rfl, rfl, rfl, rfl, rfl, rfl, rfl, trivial⟩ (.cons_cons _ (.cons _ (.cons_cons _ (.cons_cons _ (.cons_cons _ (.refl _))))))⟩
   ·replace hm := oc_f hg26 hm
    refine W_exit ?_
    refine hB7 _ _ ?_
    exact ⟨y20, y23, [.int .i64 (y20.Ids), .int .i64 (y20.Tests), .int .i64 (y20.Names)], hm, rfl, hs.subs ⟨rfl, rfl, rfl, trivial⟩ (.cons_cons _ (.cons_cons _ (.cons _ (.refl _))))⟩
/-! casement/match.All -/
def match_All (_n : Nat) (p0 : api_Tree) (p1 : sheet_Selector) : Option (api_Tree × sheet_Selector) :=
  some (p0, p1)
set_option maxRecDepth 20000 in
set_option maxHeartbeats 4000000 in
theorem match_All_ok (n : Nat) {f : Fz} {p0 : api_Tree} {a0 : List Value} {p1 : sheet_Selector} {a1 : List Value} {res : (api_Tree × sheet_Selector)} (h0 : t_api_Tree.R f a0 p0) (h1 : t_sheet_Selector.R f a1 p1) (hm : match_All n p0 p1 = some res) : Does Tryd.prog 16 [.agg a0.toArray, .agg a1.toArray] f [] (fun r f' L' => ∃ (gb0_0 : Nat) (gr0_0 : List Value) (gb0_1 : Nat) (gr0_1 : List Value), L' = [] ∧ r = .func (.func 34) #[] #[.pointer (some ⟨gb0_0, 0, none⟩), .pointer (some ⟨gb0_1, 0, none⟩)] ∧ t_api_Tree.R f' gr0_0 res.1 ∧ f' gb0_0 = some (.cells gr0_0.toArray 24 (0, 0)) ∧ t_sheet_Selector.R f' gr0_1 res.2 ∧ f' gb0_1 = some (.cells gr0_1.toArray 27 (0, 0))) := by
 unfold match_All at hm
 intro w0 L w hC
 obtain ⟨v1, rfl, ⟨rw2, hR3, hW4⟩⟩ := h0
 obtain ⟨v6, rfl, ⟨rw7, hR8, hW9⟩⟩ := h1
 refine enter Tryd.func16 rfl Tryd.ntmps16 (by simp) hC fun a hs => ?_
 have hle := Fz.le.refl f
 refine W_seq fun K1 hK1 => ?_
 refine W_region ?_
 refine sbox hs rfl ?_; clear hs; intro b11 a w hs
 replace hs : St _ _ _ (.blk b11 (.cells #[v1] 24 (0, 0)) :: L) _ _ _ := hs
 refine sbox hs rfl ?_; clear hs; intro b13 a w hs
 replace hs : St _ _ _ (.blk b13 (.cells #[v6] 27 (0, 0)) :: .blk b11 (.cells #[v1] 24 (0, 0)) :: L) _ _ _ := hs
 refine sy (v := .nilFunc) hs (y_assign rfl) ?_; clear hs; intro a w hs
 refine RL_nil ?_
 refine hK1 _ _ ?_; clear hK1
 refine W_seq fun K2 hK2 => ?_
 refine W_region ?_
 obtain ⟨f15, hf16, hs2, hB17⟩ := hs.frzB 1 rfl
 clear hs; have hs := hs2; clear hs2
 replace hR3 := hR3.le hf16
 replace hW4 := hW4.le hf16
 replace hR8 := hR8.le hf16
 replace hW9 := hW9.le hf16
 replace hle := hle.trans hf16
 replace hs : St _ _ _ (.blk b13 (.cells #[v6] 27 (0, 0)) :: L) _ _ _ := hs
 obtain ⟨f18, hf19, hs2, hB20⟩ := hs.frzB 0 rfl
 clear hs; have hs := hs2; clear hs2
 replace hR3 := hR3.le hf19
 replace hW4 := hW4.le hf19
 replace hR8 := hR8.le hf19
 replace hW9 := hW9.le hf19
 replace hB17 := hf19 _ _ hB17
 replace hle := hle.trans hf19
 replace hs : St _ _ _ (L) _ _ _ := hs
 refine sy hs (y_makeFunc rfl) ?_; clear hs; intro a w hs
 refine sy (v := .func (.func 34) #[] #[.pointer (some ⟨b11, 0, none⟩), .pointer (some ⟨b13, 0, none⟩)]) hs (y_assign rfl) ?_; clear hs; intro a w hs
 refine RL_nil ?_
 refine hK2 _ _ ?_; clear hK2
 refine W_ret ?_
 obtain rfl := Option.some.inj hm
 refine RtV1 hs rfl (rv_t hs rfl) ?_
 exact ⟨_, f18, [], rfl, hle, hs.cw, b11, [v1], b13, [v6], rfl, rfl, ⟨_, rfl, ⟨rw2, hR3, hW4⟩⟩, hB17, ⟨_, rfl, ⟨rw7, hR8, hW9⟩⟩, hB20⟩
end Go.Proofs.YtmkcglpeidbblaaDoor
