/-
  Walks and laws of this seat; the base is the text Base.
-/
import Derived.Test.YtmkcglpeidbblaaDoorL10k
import Derived.Test.YtmkcglpeidbblaaDoorL10i
import Derived.Test.YtmkcglpeidbblaaDoorRows
/-
  Models of functions, and that the functions compute them. Printed by lift.py.
-/
namespace Go.Proofs.YtmkcglpeidbblaaDoor
open Go.RowKit Go.Sl
/-! casement/casementlaw10.MatchAll -/
def law10_MatchAll_k2 (n : Nat) : Option Bool :=
  (law10_known n).bind fun x65 =>
  some x65
def law10_MatchAll_k6 (y86 : Int) (lp87 : Int → Option Bool) (y102 : Bool) : Option Bool :=
  (bif y102 then some false else
  lp87 (w64 (y86 + 1)))
def law10_MatchAll_k5 (n : Nat) (y29 : (List Int)) (y86 : Int) (lp87 : Int → Option Bool) (y96 : (List Int)) : Option Bool :=
  (bif (decide (y86 = 0)) then (book_Same_int n y96 y29).bind fun x107 =>
  (bif (!x107) then law10_MatchAll_k6 y86 lp87 true else
  (bif (decide ((y29.length : Int) < (y96.length : Int))) then law10_MatchAll_k6 y86 lp87 true else
  (cutM y29 (0 : Int) (y96.length : Int)).bind fun x111 =>
  (book_Same_int n y96 x111).bind fun x118 =>
  law10_MatchAll_k6 y86 lp87 (!x118))) else
  (bif (decide ((y29.length : Int) < (y96.length : Int))) then law10_MatchAll_k6 y86 lp87 true else
  (cutM y29 (0 : Int) (y96.length : Int)).bind fun x121 =>
  (book_Same_int n y96 x121).bind fun x128 =>
  law10_MatchAll_k6 y86 lp87 (!x128)))
def law10_MatchAll_k8 (n : Nat) (y29 : (List Int)) (y86 : Int) (lp87 : Int → Option Bool) (y169 : (List Int)) : Option Bool :=
  law10_MatchAll_k5 n y29 y86 lp87 y169
def law10_MatchAll_r7 (n : Nat) (y29 : (List Int)) (x58 : Int) (y86 : Int) (lp87 : Int → Option Bool) : List Int → (List Int) → Option Bool
  | [], y150 =>
  law10_MatchAll_k5 n y29 y86 lp87 y150
  | x175 :: rm174, y150 =>
  (appM 8 y150 [x175]).bind fun x194 =>
  (bif ((decide (y86 = 1)) && (decide (x58 < (x194.length : Int)))) then law10_MatchAll_k8 n y29 y86 lp87 x194 else
  (law10_MatchAll_r7 n y29 x58 y86 lp87 rm174) x194)
def law10_MatchAll_l4 (n : Nat) (y29 : (List Int)) (x34 : (api_Tree × sheet_Selector)) (x58 : Int) : Nat → Int → Option Bool
  | 0, _ => none
  | k87 + 1, y86 =>
  (bif (decide (y86 < 2)) then (match_All_1 n x34.1 x34.2).bind fun x130 =>
  law10_MatchAll_r7 n y29 x58 y86 (law10_MatchAll_l4 n y29 x34 x58 k87) x130 ([] : List Int) else
  law10_MatchAll_k2 n)
def law10_MatchAll_k1 (n : Nat) (p0 : api_Tree) (p1 : sheet_Selector) (p2 : Int) (y29 : (List Int)) : Option Bool :=
  (match_All n p0 p1).bind fun x34 =>
  (book_Within n p2 0 5).bind fun x58 =>
  law10_MatchAll_l4 n y29 x34 x58 n 0
def law10_MatchAll_k10 (y208 : Int) (lp213 : (List Int) → Int → Option Bool) (y217 : (List Int)) : Option Bool :=
  lp213 y217 (w64 (y208 + 1))
def law10_MatchAll_l9 (n : Nat) (p0 : api_Tree) (p1 : sheet_Selector) (p2 : Int) : Nat → (List Int) → Int → Option Bool
  | 0, _, _ => none
  | k213 + 1, y203, y208 =>
  (bif (decide (y208 < (p0.Nodes.length : Int))) then (match_Match n p0 y208 p1).bind fun x215 =>
  (bif x215 then (appM 8 y203 [y208]).bind fun x228 =>
  law10_MatchAll_k10 y208 (law10_MatchAll_l9 n p0 p1 p2 k213) x228 else
  law10_MatchAll_k10 y208 (law10_MatchAll_l9 n p0 p1 p2 k213) y203) else
  law10_MatchAll_k1 n p0 p1 p2 y203)
def law10_MatchAll (n : Nat) (p0 : api_Tree) (p1 : sheet_Selector) (p2 : Int) : Option Bool :=
  (law10_small n p0 [p1]).bind fun x22 =>
  (bif (!x22) then (law10_known n).bind fun x25 =>
  some x25 else
  law10_MatchAll_l9 n p0 p1 p2 n ([] : List Int) 0)
set_option maxRecDepth 20000 in
set_option maxHeartbeats 4000000 in
theorem law10_MatchAll_ok (n : Nat) {f : Fz} {o0 : Obj} {o1 : Obj} {p0 : api_Tree} {a0 : List Value} {p1 : sheet_Selector} {a1 : List Value} {p2 : Int} {res : Bool} (hT0 : f 0 = some o0) (hT1 : f 1 = some o1) (hTT : Tabs o0 o1) (h0 : t_api_Tree.R f a0 p0) (h1 : t_sheet_Selector.R f a1 p1) (hm : law10_MatchAll n p0 p1 p2 = some res) : Gives Tryd.prog 5 [.agg a0.toArray, .agg a1.toArray, .int .i64 p2] f (.bool res) := by
 unfold law10_MatchAll at hm
 intro w0 L w hC
 obtain ⟨v1, rfl, ⟨rw2, hR3, hW4⟩⟩ := h0
 obtain ⟨v6, rfl, ⟨rw7, hR8, hW9⟩⟩ := h1
 refine enter1 Tryd.func5 rfl Tryd.ntmps5 (by simp) hC fun a hs => ?_
 have hM : Marks f f [] := Marks.nil
 have hle := Fz.le.refl f
 refine W1_seq fun K1 hK1 => ?_
 refine W1_of ?_
 refine W_region ?_
 refine sbox hs rfl ?_; clear hs; (try clear a w); intro b11 a w hs
 replace hs : St _ _ _ (.blk b11 (.cells #[v1] 24 (0, 0)) :: L) _ _ _ := hs
 refine sbox hs rfl ?_; clear hs; (try clear a w); intro b13 a w hs
 replace hs : St _ _ _ (.blk b13 (.cells #[v6] 27 (0, 0)) :: .blk b11 (.cells #[v1] 24 (0, 0)) :: L) _ _ _ := hs
 refine sbox1 hs rfl rfl ?_; clear hs; (try clear a w); intro b15 a w hs
 replace hs : St _ _ _ (.blk b15 (.cells #[.int .i64 (p2)] 3 (0, 0)) :: .blk b13 (.cells #[v6] 27 (0, 0)) :: .blk b11 (.cells #[v1] 24 (0, 0)) :: L) _ _ _ := hs
 refine sy (v := .bool (false)) hs (y_assign rfl) ?_; clear hs; (try clear a w); intro a w hs
 refine RL_nil ?_
 refine hK1 _ _ _ ?_; clear hK1
 refine W1_seq fun K2 hK2 => ?_
 refine W1_of ?_
 refine W_seq fun K3 hK3 => ?_
 refine W_region ?_
 refine sy hs (y_ldB rfl Tryd.underlying24 rfl ti24 (.tail _ (.tail _ (.head _))) rfl) ?_; clear hs; (try clear a w); intro a w hs
 refine sy hs (y_ldB rfl Tryd.underlying27 rfl ti27 (.tail _ (.head _)) rfl) ?_; clear hs; (try clear a w); intro a w hs
 refine RL_bs1a hs rfl Tryd.underlying31 ti27 (by decide) (AllC.row ⟨hR8.one, trivial⟩ rfl) ?_; clear hs; (try clear a w); intro v17 a w hs
 have hW18 : RW t_sheet_Selector f [[v6]] [p1] := RW.single (⟨_, rfl, ⟨rw7, hR8, hW9⟩⟩)
 generalize hgrw19 : ([[v6]] : List (List Value)) = rw19 at hs hW18; clear hgrw19
 replace hs : St _ _ _ (.row v17 27 1 rw19 :: .blk b15 (.cells #[.int .i64 (p2)] 3 (0, 0)) :: .blk b13 (.cells #[v6] 27 (0, 0)) :: .blk b11 (.cells #[v1] 24 (0, 0)) :: L) _ _ _ := hs
 obtain ⟨x22, hx23, hm⟩ := ob hm
 refine sy hs (y_callCK (cap := []) rfl has10 rfl (fun w9 hw9 => callsP (Lr := [.row v17 27 1 rw19]) (Lf := .blk b15 (.cells #[.int .i64 (p2)] 3 (0, 0)) :: .blk b13 (.cells #[v6] 27 (0, 0)) :: .blk b11 (.cells #[v1] 24 (0, 0)) :: L) (perm_at _ 0 rfl) hw9 (fun Lz w9 hw9 => lent0 hw9 (fun f9_0 w9 hle9_0 hRl0 hw9 => (law10_small_ok n (f := f9_0) (a0 := [v1]) (a1 := v17) ⟨_, rfl, ⟨rw2, hR3.le hle9_0, hW4.le hle9_0⟩⟩ ⟨rw19, hRl0, hW18.le hle9_0⟩ hx23) w0 _ w9 hw9)))) ?_; clear hs; (try clear a w); intro a w hs
 refine sy (v := .bool ((!x22))) hs (y_not rfl) ?_; clear hs; (try clear a w); intro a w hs
 refine RL_nil ?_
 refine hK3 _ _ ?_; clear hK3
 refine W_cond hs rfl (fun hg24 => ?_) (fun hg24 => ?_)
 ·replace hm := oc_t hg24 hm
  refine W_seq fun K4 hK4 => ?_
  refine W_region ?_
  obtain ⟨x25, hx26, hm⟩ := ob hm
  refine sy hs (y_call rfl has11 rfl (law10_known_ok n (f := f)  hT0 hT1 hTT hx26)) ?_; clear hs; (try clear a w); intro a w hs
  refine sy (v := .bool (x25)) hs (y_assign rfl) ?_; clear hs; (try clear a w); intro a w hs
  refine RL_nil ?_
  refine hK4 _ _ ?_; clear hK4
  refine W_ret ?_
  obtain rfl := Option.some.inj hm
  refine RtM_of hs hle hM ?_; clear hs; (try clear w); intro w hs
  replace hle := Fz.le.refl f
  refine RtV1 hs rfl (rv_t hs rfl) ?_
  exact ⟨rfl, ((hs.subL (.cons _ (.cons _ (.cons _ (.cons _ (.refl _)))))).weak hle).cw⟩
 ·replace hm := oc_f hg24 hm
  refine W_skip ?_
  refine hK2 _ _ _ ?_; clear hK2
  refine W1_seq fun K5 hK5 => ?_
  refine W1_of ?_
  refine W_region ?_
  refine sy (v := (.slice none 0 0)) hs (y_assign rfl) ?_; clear hs; (try clear a w); intro a w hs
  refine RL_nil ?_
  refine hK5 _ _ _ ?_; clear hK5
  refine W1_seq fun K6 hK6 => ?_
  refine W1_of ?_
  refine W_seq fun K7 hK7 => ?_
  refine W_region ?_
  refine sy (v := .int .i64 (0)) hs (y_assign rfl) ?_; clear hs; (try clear a w); intro a w hs
  refine RL_nil ?_
  refine hK7 _ _ ?_; clear hK7
  refine W_post (fun a w => ∃ (y29 : (List Int)) (v30 : Value) (rw31 : List (List Value)), law10_MatchAll_k1 n p0 p1 p2 y29 = some res ∧ RW (tInt .i64) f rw31 y29 ∧ St 85 w0 f (.row v30 3 1 rw31 :: .blk b15 (.cells #[.int .i64 (p2)] 3 (0, 0)) :: .blk b13 (.cells #[v6] 27 (0, 0)) :: .blk b11 (.cells #[v1] 24 (0, 0)) :: L) [(3, .pointer (some ⟨b11, 0, none⟩)), (4, .pointer (some ⟨b13, 0, none⟩)), (5, .pointer (some ⟨b15, 0, none⟩)), (6, .bool (false)), (7, v30)] a w) ?_ ?_
  ·clear hs hm
   rintro a w ⟨y29, v30, rw31, hm, hW32, hs⟩
   replace hs : St _ _ _ (.row v30 3 1 rw31 :: .blk b15 (.cells #[.int .i64 (p2)] 3 (0, 0)) :: .blk b13 (.cells #[v6] 27 (0, 0)) :: .blk b11 (.cells #[v1] 24 (0, 0)) :: L) _ _ _ := hs
   unfold law10_MatchAll_k1 at hm
   refine hK6 _ _ _ ?_; clear hK6
   refine W1_seq fun K8 hK8 => ?_
   refine W1_of ?_
   refine W_region ?_
   refine sy hs (y_ldB rfl Tryd.underlying24 rfl ti24 (.tail _ (.tail _ (.tail _ (.head _)))) rfl) ?_; clear hs; (try clear a w); intro a w hs
   refine sy hs (y_ldB rfl Tryd.underlying27 rfl ti27 (.tail _ (.tail _ (.head _))) rfl) ?_; clear hs; (try clear a w); intro a w hs
   obtain ⟨x34, hx35, hm⟩ := ob hm
   refine RL_callV hs rfl has16 rfl (match_All_ok n (f := f) (a0 := [v1]) (a1 := [v6]) ⟨_, rfl, ⟨rw2, hR3, hW4⟩⟩ ⟨_, rfl, ⟨rw7, hR8, hW9⟩⟩ hx35) ?_; clear hs; (try clear a w)
   rintro _ f36 _ a w hf37 ⟨b38, r39, b43, r44, rfl, rfl, hq40, hB41, hq45, hB46⟩ hs
   replace hR3 := hR3.le hf37
   replace hW4 := hW4.le hf37
   replace hR8 := hR8.le hf37
   replace hW9 := hW9.le hf37
   replace hT0 := hf37 _ _ hT0
   replace hT1 := hf37 _ _ hT1
   replace hW18 := hW18.le hf37
   replace hW32 := hW32.le hf37
   replace hle := hle.trans hf37
   replace hM := hM.le hf37
   obtain ⟨v48, rfl, ⟨rw49, hR50, hW51⟩⟩ := hq40
   obtain ⟨v53, rfl, ⟨rw54, hR55, hW56⟩⟩ := hq45
   replace hs : St _ _ _ (.row v30 3 1 rw31 :: .blk b15 (.cells #[.int .i64 (p2)] 3 (0, 0)) :: .blk b13 (.cells #[v6] 27 (0, 0)) :: .blk b11 (.cells #[v1] 24 (0, 0)) :: L) _ _ _ := hs
   refine sy (v := .func (.func 34) #[] #[.pointer (some ⟨b38, 0, none⟩), .pointer (some ⟨b43, 0, none⟩)]) hs (y_assign rfl) ?_; clear hs; (try clear a w); intro a w hs
   refine RL_nil ?_
   refine hK8 _ _ _ ?_; clear hK8
   refine W1_seq fun K9 hK9 => ?_
   refine W1_of ?_
   refine W_seq fun K10 hK10 => ?_
   refine W_region ?_
   refine sy (v := .func (.func 34) #[] #[.pointer (some ⟨b38, 0, none⟩), .pointer (some ⟨b43, 0, none⟩)]) hs (y_move rfl) ?_; clear hs; (try clear a w); intro a w hs
   refine sy hs (y_fnil rfl rfl Tryd.underlying48) ?_; clear hs; (try clear a w); intro a w hs
   refine RL_nil ?_
   refine hK10 _ _ ?_; clear hK10
   refine W_condF hs rfl ?_
   refine W_skip ?_
   refine hK9 _ _ _ ?_; clear hK9
   refine W1_seq fun K11 hK11 => ?_
   refine W1_of ?_
   refine W_region ?_
   refine sy (v := .int .i64 (p2)) hs (y_ld rfl Tryd.underlying3 rfl (Cell.blk (.tail _ (.head _)) rfl)) ?_; clear hs; (try clear a w); intro a w hs
   obtain ⟨x58, hx59, hm⟩ := ob hm
   refine sy hs (y_call rfl has13 rfl (book_Within_ok n (f := f36)  hx59)) ?_; clear hs; (try clear a w); intro a w hs
   refine sstore 1 hs rfl rfl rfl ti3 rfl ?_; clear hs; (try clear a w); intro a w hs
   replace hs : St _ _ _ (.row v30 3 1 rw31 :: .blk b15 (.cells #[.int .i64 (x58)] 3 (0, 0)) :: .blk b13 (.cells #[v6] 27 (0, 0)) :: .blk b11 (.cells #[v1] 24 (0, 0)) :: L) _ _ _ := hs
   refine RL_nil ?_
   refine hK11 _ _ _ ?_; clear hK11
   refine W1_seq fun K12 hK12 => ?_
   refine W1_seq fun K13 hK13 => ?_
   refine W1_of ?_
   refine W_region ?_
   refine RL_alloc hs ti3 (.free rfl) (by decide) ?_; clear hs; (try clear a w); intro b60 a w hs
   replace hs : St _ _ _ (.blk b60 (.cells #[.int .i64 (0)] 3 (0, 0)) :: .row v30 3 1 rw31 :: .blk b15 (.cells #[.int .i64 (x58)] 3 (0, 0)) :: .blk b13 (.cells #[v6] 27 (0, 0)) :: .blk b11 (.cells #[v1] 24 (0, 0)) :: L) _ _ _ := hs
   refine sstore 0 hs rfl rfl rfl ti3 rfl ?_; clear hs; (try clear a w); intro a w hs
   replace hs : St _ _ _ (.blk b60 (.cells #[.int .i64 (0)] 3 (0, 0)) :: .row v30 3 1 rw31 :: .blk b15 (.cells #[.int .i64 (x58)] 3 (0, 0)) :: .blk b13 (.cells #[v6] 27 (0, 0)) :: .blk b11 (.cells #[v1] 24 (0, 0)) :: L) _ _ _ := hs
   refine RL_nil ?_
   refine hK13 _ _ _ ?_; clear hK13
   have hbase64 := Fz.le.refl f36
   refine W1_post (fun M a w => ∃ (f62 : Fz), Fz.le f36 f62 ∧ law10_MatchAll_k2 n = some res ∧ Marks f f62 M ∧ St 85 w0 f62 (L) [] a w) ?_ ?_
   ·clear hs hm
    clear hbase64
    rintro M a w ⟨f62, hl63, hm, hM, hs⟩
    replace hR3 := hR3.le hl63
    replace hW4 := hW4.le hl63
    replace hR8 := hR8.le hl63
    replace hW9 := hW9.le hl63
    replace hT0 := hl63 _ _ hT0
    replace hT1 := hl63 _ _ hT1
    replace hW18 := hW18.le hl63
    replace hW32 := hW32.le hl63
    replace hR50 := hR50.le hl63
    replace hW51 := hW51.le hl63
    replace hB41 := hl63 _ _ hB41
    replace hR55 := hR55.le hl63
    replace hW56 := hW56.le hl63
    replace hB46 := hl63 _ _ hB46
    replace hle := hle.trans hl63
    replace hs : St _ _ _ (L) _ _ _ := hs
    unfold law10_MatchAll_k2 at hm
    refine hK12 _ _ _ ?_; clear hK12
    refine W1_of ?_
    refine W_seq fun K14 hK14 => ?_
    refine W_region ?_
    obtain ⟨x65, hx66, hm⟩ := ob hm
    refine sy hs (y_call rfl has11 rfl (law10_known_ok n (f := f62)  hT0 hT1 hTT hx66)) ?_; clear hs; (try clear a w); intro a w hs
    refine sy (v := .bool (x65)) hs (y_assign rfl) ?_; clear hs; (try clear a w); intro a w hs
    refine RL_nil ?_
    refine hK14 _ _ ?_; clear hK14
    refine W_ret ?_
    obtain rfl := Option.some.inj hm
    refine RtM_of hs hle hM ?_; clear hs; (try clear w); intro w hs
    replace hle := Fz.le.refl f
    refine RtV1 hs rfl (rv_t hs rfl) ?_
    exact ⟨rfl, (hs.weak hle).cw⟩
   ·refine W1_block fun Qe15 hB15 hO15 => ?_
    obtain ⟨f79, hf80, hs2, hR81⟩ := hs.frzAt 1 rfl
    clear hs; have hs := hs2; clear hs2
    replace hR3 := hR3.le hf80
    replace hW4 := hW4.le hf80
    replace hR8 := hR8.le hf80
    replace hW9 := hW9.le hf80
    replace hT0 := hf80 _ _ hT0
    replace hT1 := hf80 _ _ hT1
    replace hW32 := hW32.le hf80
    replace hR50 := hR50.le hf80
    replace hW51 := hW51.le hf80
    replace hB41 := hf80 _ _ hB41
    replace hR55 := hR55.le hf80
    replace hW56 := hW56.le hf80
    replace hB46 := hf80 _ _ hB46
    replace hle := hle.trans hf80
    replace hbase64 := hbase64.trans hf80
    replace hM := hM.le hf80
    replace hs : St _ _ _ (.blk b60 (.cells #[.int .i64 (0)] 3 (0, 0)) :: .blk b15 (.cells #[.int .i64 (x58)] 3 (0, 0)) :: .blk b13 (.cells #[v6] 27 (0, 0)) :: .blk b11 (.cells #[v1] 24 (0, 0)) :: L) _ _ _ := hs
    have hbase := Fz.le.refl f79
    refine W1_loop (fun (k : Nat) M a w => ∃ (f82 : Fz) (y86 : Int) (b85 : Nat), Fz.le f79 f82 ∧ law10_MatchAll_l4 n y29 x34 x58 k y86 = some res ∧ Marks f f82 M ∧ St 85 w0 f82 (.blk b85 (.cells #[.int .i64 (y86)] 3 (0, 0)) :: .blk b15 (.cells #[.int .i64 (x58)] 3 (0, 0)) :: L) [(5, .pointer (some ⟨b15, 0, none⟩)), (6, .bool (false)), (7, v30), (9, .func (.func 34) #[] #[.pointer (some ⟨b38, 0, none⟩), .pointer (some ⟨b43, 0, none⟩)]), (10, .pointer (some ⟨b85, 0, none⟩))] a w) (fun k => k) n ⟨_, 0, b60, (Fz.le.refl _), hm, hM, hs.subs ⟨rfl, rfl, rfl, rfl, rfl, trivial⟩ (.cons_cons _ (.cons_cons _ (.cons _ (.cons _ (.refl _)))))⟩ ?_
    clear hs hm
    intro k
    rintro M a w ⟨f82, y86, b85, hl83, hm, hM, hs⟩
    replace hR3 := hR3.le hl83
    replace hW4 := hW4.le hl83
    replace hR8 := hR8.le hl83
    replace hW9 := hW9.le hl83
    replace hT0 := hl83 _ _ hT0
    replace hT1 := hl83 _ _ hT1
    replace hW32 := hW32.le hl83
    replace hR50 := hR50.le hl83
    replace hW51 := hW51.le hl83
    replace hB41 := hl83 _ _ hB41
    replace hR55 := hR55.le hl83
    replace hW56 := hW56.le hl83
    replace hB46 := hl83 _ _ hB46
    replace hR81 := hR81.le hl83
    replace hle := hle.trans hl83
    replace hbase64 := hbase64.trans hl83
    replace hs : St _ _ _ (.blk b85 (.cells #[.int .i64 (y86)] 3 (0, 0)) :: .blk b15 (.cells #[.int .i64 (x58)] 3 (0, 0)) :: L) _ _ _ := hs
    intro K16 hK16
    cases k with
    | zero => simp [law10_MatchAll_l4] at hm
    | succ k87 =>
     rw [law10_MatchAll_l4] at hm
     have hbase88 := hl83
     refine W1_seq fun K17 hK17 => ?_
     refine W1_of ?_
     refine W_seq fun K18 hK18 => ?_
     refine W_region ?_
     refine sy (v := .int .i64 (y86)) hs (y_ld rfl Tryd.underlying3 rfl (Cell.blk (.head _) rfl)) ?_; clear hs; (try clear a w); intro a w hs
     refine sy hs (y_lss rfl rfl) ?_; clear hs; (try clear a w); intro a w hs
     refine RL_nil ?_
     refine hK18 _ _ ?_; clear hK18
     refine W_cond hs rfl (fun hg89 => ?_) (fun hg89 => ?_)
     ·replace hm := oc_t hg89 hm
      refine W_skip ?_
      refine hK17 _ _ _ ?_; clear hK17
      refine W1_seq fun K19 hK19 => ?_
      refine W1_block fun Qe20 hB20 hO20 => ?_
      refine W1_seq fun K21 hK21 => ?_
      refine W1_of ?_
      refine W_region ?_
      refine RL_alloc hs ti46 (.free rfl) (by decide) ?_; clear hs; (try clear a w); intro b90 a w hs
      replace hs : St _ _ _ (.blk b90 (.cells #[(.slice none 0 0)] 46 (0, 0)) :: .blk b85 (.cells #[.int .i64 (y86)] 3 (0, 0)) :: .blk b15 (.cells #[.int .i64 (x58)] 3 (0, 0)) :: L) _ _ _ := hs
      refine RL_nil ?_
      refine hK21 _ _ _ ?_; clear hK21
      refine W1_seq fun K22 hK22 => ?_
      refine W1_seq fun K23 hK23 => ?_
      refine W1_of ?_
      refine W_region ?_
      refine sy (v := .func (.func 34) #[] #[.pointer (some ⟨b38, 0, none⟩), .pointer (some ⟨b43, 0, none⟩)]) hs (y_move rfl) ?_; clear hs; (try clear a w); intro a w hs
      refine RL_nil ?_
      refine hK23 _ _ _ ?_; clear hK23
      have hbase101 := Fz.le.refl f82
      refine W1_post (fun M a w => ∃ (f93 : Fz) (y96 : (List Int)) (v97 : Value) (rw98 : List (List Value)), Fz.le f82 f93 ∧ law10_MatchAll_k5 n y29 y86 (law10_MatchAll_l4 n y29 x34 x58 k87) y96 = some res ∧ RW (tInt .i64) f93 rw98 y96 ∧ Marks f f93 M ∧ St 85 w0 f93 (.row v97 3 1 rw98 :: .blk b90 (.cells #[v97] 46 (0, 0)) :: .blk b85 (.cells #[.int .i64 (y86)] 3 (0, 0)) :: .blk b15 (.cells #[.int .i64 (x58)] 3 (0, 0)) :: L) [(5, .pointer (some ⟨b15, 0, none⟩)), (6, .bool (false)), (7, v30), (9, .func (.func 34) #[] #[.pointer (some ⟨b38, 0, none⟩), .pointer (some ⟨b43, 0, none⟩)]), (10, .pointer (some ⟨b85, 0, none⟩)), (11, .pointer (some ⟨b90, 0, none⟩))] a w) ?_ ?_
      ·clear hs hm
       clear hbase101
       rintro M a w ⟨f93, y96, v97, rw98, hl94, hm, hW99, hM, hs⟩
       replace hR3 := hR3.le hl94
       replace hW4 := hW4.le hl94
       replace hR8 := hR8.le hl94
       replace hW9 := hW9.le hl94
       replace hT0 := hl94 _ _ hT0
       replace hT1 := hl94 _ _ hT1
       replace hW32 := hW32.le hl94
       replace hR50 := hR50.le hl94
       replace hW51 := hW51.le hl94
       replace hB41 := hl94 _ _ hB41
       replace hR55 := hR55.le hl94
       replace hW56 := hW56.le hl94
       replace hB46 := hl94 _ _ hB46
       replace hR81 := hR81.le hl94
       replace hle := hle.trans hl94
       replace hbase64 := hbase64.trans hl94
       replace hbase88 := hbase88.trans hl94
       replace hs : St _ _ _ (.row v97 3 1 rw98 :: .blk b90 (.cells #[v97] 46 (0, 0)) :: .blk b85 (.cells #[.int .i64 (y86)] 3 (0, 0)) :: .blk b15 (.cells #[.int .i64 (x58)] 3 (0, 0)) :: L) _ _ _ := hs
       unfold law10_MatchAll_k5 at hm
       refine hK22 _ _ _ ?_; clear hK22
       refine W1_of ?_
       refine W_seq fun K24 hK24 => ?_
       refine W_post (fun a w => ∃ (y102 : Bool), law10_MatchAll_k6 y86 (law10_MatchAll_l4 n y29 x34 x58 k87) y102 = some res ∧ St 85 w0 f93 (.blk b85 (.cells #[.int .i64 (y86)] 3 (0, 0)) :: .blk b15 (.cells #[.int .i64 (x58)] 3 (0, 0)) :: L) [(5, .pointer (some ⟨b15, 0, none⟩)), (6, .bool (false)), (7, v30), (9, .func (.func 34) #[] #[.pointer (some ⟨b38, 0, none⟩), .pointer (some ⟨b43, 0, none⟩)]), (10, .pointer (some ⟨b85, 0, none⟩)), (82, .bool (y102))] a w) ?_ ?_
       ·clear hs hm
        rintro a w ⟨y102, hm, hs⟩
        replace hs : St _ _ _ (.blk b85 (.cells #[.int .i64 (y86)] 3 (0, 0)) :: .blk b15 (.cells #[.int .i64 (x58)] 3 (0, 0)) :: L) _ _ _ := hs
        unfold law10_MatchAll_k6 at hm
        refine hK24 _ _ ?_; clear hK24
        refine W_cond hs rfl (fun hg103 => ?_) (fun hg103 => ?_)
        ·replace hm := oc_t hg103 hm
         refine W_seq fun K25 hK25 => ?_
         refine W_region ?_
         refine sy (v := .bool (false)) hs (y_assign rfl) ?_; clear hs; (try clear a w); intro a w hs
         refine RL_nil ?_
         refine hK25 _ _ ?_; clear hK25
         refine W_ret ?_
         obtain rfl := Option.some.inj hm
         refine RtM_of hs hle hM ?_; clear hs; (try clear w); intro w hs
         replace hle := Fz.le.refl f
         refine RtV1 hs rfl (rv_t hs rfl) ?_
         exact ⟨rfl, ((hs.subL (.cons _ (.cons _ (.refl _)))).weak hle).cw⟩
        ·replace hm := oc_f hg103 hm
         refine W_skip ?_
         refine hK19 _ _ _ ?_; clear hK19
         refine W1_of ?_
         refine W_seq fun K26 hK26 => ?_
         refine W_seq fun K27 hK27 => ?_
         refine W_region ?_
         refine sy (v := .int .i64 (y86)) hs (y_ld rfl Tryd.underlying3 rfl (Cell.blk (.head _) rfl)) ?_; clear hs; (try clear a w); intro a w hs
         refine RL_nil ?_
         refine hK27 _ _ ?_; clear hK27
         refine W_region ?_
         refine RL_alloc hs ti3 (.free rfl) (by decide) ?_; clear hs; (try clear a w); intro b104 a w hs
         replace hs : St _ _ _ (.blk b104 (.cells #[.int .i64 (0)] 3 (0, 0)) :: .blk b85 (.cells #[.int .i64 (y86)] 3 (0, 0)) :: .blk b15 (.cells #[.int .i64 (x58)] 3 (0, 0)) :: L) _ _ _ := hs
         refine sstore 0 hs rfl rfl rfl ti3 rfl ?_; clear hs; (try clear a w); intro a w hs
         replace hs : St _ _ _ (.blk b104 (.cells #[.int .i64 (y86)] 3 (0, 0)) :: .blk b85 (.cells #[.int .i64 (y86)] 3 (0, 0)) :: .blk b15 (.cells #[.int .i64 (x58)] 3 (0, 0)) :: L) _ _ _ := hs
         refine RL_nil ?_
         refine hK26 _ _ ?_; clear hK26
         refine W_region ?_
         refine sy (v := .int .i64 (y86)) hs (y_ld rfl Tryd.underlying3 rfl (Cell.blk (.head _) rfl)) ?_; clear hs; (try clear a w); intro a w hs
         refine sy hs (y_add rfl rfl rfl) ?_; clear hs; (try clear a w); intro a w hs
         refine sstore 0 hs rfl rfl rfl ti3 rfl ?_; clear hs; (try clear a w); intro a w hs
         replace hs : St _ _ _ (.blk b104 (.cells #[.int .i64 ((w64 (y86 + 1)))] 3 (0, 0)) :: .blk b85 (.cells #[.int .i64 (y86)] 3 (0, 0)) :: .blk b15 (.cells #[.int .i64 (x58)] 3 (0, 0)) :: L) _ _ _ := hs
         refine RL_nil ?_
         exact hK16 k87 _ _ _ (Nat.lt_succ_self _) ⟨_, (w64 (y86 + 1)), b104, hbase88, hm, hM, hs.subs ⟨rfl, rfl, rfl, rfl, rfl, trivial⟩ (.cons_cons _ (.cons _ (.cons_cons _ (.refl _))))⟩
       ·refine W_draw hs mixed (by kernel_rfl) ?_; intro a he
        refine qy (v := .int .i64 (y86)) he (y_ld rfl Tryd.underlying3 rfl (Cell.blk (.tail _ (.tail _ (.head _))) rfl)) ?_; clear he; (try clear a); intro a he
        refine qy he (y_eql rfl rfl) ?_; clear he; (try clear a); intro a he
        refine qy (v := .bool (decide (y86 = 0))) he (y_move rfl) ?_; clear he; (try clear a); intro a he
        refine Ev.split he (t := 61) rfl (fun hg106 hq => ?_) (fun hg106 hq => ?_)
        ·clear he; have he := hq; clear hq
         replace hm := oc_t hg106 hm
         refine qyg (v := v97) he (y_ld rfl Tryd.underlying46 rfl (Cell.blk (.tail _ (.head _)) rfl)) ?_; clear he; (try clear a); intro a he
         refine qyg (v := v30) he (y_move rfl) ?_; clear he; (try clear a); intro a he
         obtain ⟨x107, hx108, hm⟩ := ob hm
         refine qyg he (y_callCK (cap := []) rfl has17 rfl (fun w9 hw9 => callsP (Lr := [.row v97 3 1 rw98]) (Lf := .blk b90 (.cells #[v97] 46 (0, 0)) :: .blk b85 (.cells #[.int .i64 (y86)] 3 (0, 0)) :: .blk b15 (.cells #[.int .i64 (x58)] 3 (0, 0)) :: L) (perm_at _ 0 rfl) hw9 (fun Lz w9 hw9 => lent0 hw9 (fun f9_0 w9 hle9_0 hRl0 hw9 => (book_Same_int_ok n (f := f9_0) (a0 := v97) (a1 := v30) ⟨rw98, hRl0, hW99.le hle9_0⟩ ⟨rw31, hR81.le hle9_0, hW32.le hle9_0⟩ hx108) w0 _ w9 hw9)))) ?_; clear he; (try clear a); intro a he
         refine qyg (v := .bool ((!x107))) he (y_not rfl) ?_; clear he; (try clear a); intro a he
         refine qy (v := .bool ((!x107))) he (y_pick rfl rfl) ?_; clear he; (try clear a); intro a he
         refine qy (v := .bool ((!x107))) he (y_move rfl) ?_; clear he; (try clear a); intro a he
         refine Ev.split he (t := 67) rfl (fun hg109 hq => ?_) (fun hg109 hq => ?_)
         ·clear he; have he := hq; clear hq
          replace hm := oc_t hg109 hm
          refine qno he ?_; clear he; (try clear a); intro a he
          refine qno he ?_; clear he; (try clear a); intro a he
          refine qno he ?_; clear he; (try clear a); intro a he
          refine qno he ?_; clear he; (try clear a); intro a he
          refine qno he ?_; clear he; (try clear a); intro a he
          refine qy (v := .bool (true)) he (y_pick rfl rfl) ?_; clear he; (try clear a); intro a he
          refine qy (v := .bool (true)) he (y_move rfl) ?_; clear he; (try clear a); intro a he
          refine qno he ?_; clear he; (try clear a); intro a he
          refine qno he ?_; clear he; (try clear a); intro a he
          refine qno he ?_; clear he; (try clear a); intro a he
          refine qno he ?_; clear he; (try clear a); intro a he
          refine qno he ?_; clear he; (try clear a); intro a he
          refine qno he ?_; clear he; (try clear a); intro a he
          refine qno he ?_; clear he; (try clear a); intro a he
          refine qy (v := .bool (true)) he (y_pick rfl rfl) ?_; clear he; (try clear a); intro a he
          refine QL_nil he ?_; clear he; (try clear hs); (try clear a); intro a w hs
          exact ⟨true, hm, hs.subs ⟨rfl, rfl, rfl, rfl, rfl, rfl, trivial⟩ (.cons _ (.cons _ (.cons_cons _ (.cons_cons _ (.refl _)))))⟩
         ·clear he; have he := hq; clear hq
          replace hm := oc_f hg109 hm
          refine qyg (v := v97) he (y_ld rfl Tryd.underlying46 rfl (Cell.blk (.tail _ (.head _)) rfl)) ?_; clear he; (try clear a); intro a he
          refine qyg he (y_lenW (Rd.st hs (.head _)) hW99 rfl Tryd.underlying46) ?_; clear he; (try clear a); intro a he
          refine qyg (v := v30) he (y_move rfl) ?_; clear he; (try clear a); intro a he
          refine qyg he (y_lenW hR81 hW32 rfl Tryd.underlying46) ?_; clear he; (try clear a); intro a he
          refine qyg he (y_gtr rfl rfl) ?_; clear he; (try clear a); intro a he
          refine qy (v := .bool (decide ((y29.length : Int) < (y96.length : Int)))) he (y_pick rfl rfl) ?_; clear he; (try clear a); intro a he
          refine qy (v := .bool (decide ((y29.length : Int) < (y96.length : Int)))) he (y_move rfl) ?_; clear he; (try clear a); intro a he
          refine Ev.split he (t := 74) rfl (fun hg110 hq => ?_) (fun hg110 hq => ?_)
          ·clear he; have he := hq; clear hq
           replace hm := oc_t hg110 hm
           refine qno he ?_; clear he; (try clear a); intro a he
           refine qno he ?_; clear he; (try clear a); intro a he
           refine qno he ?_; clear he; (try clear a); intro a he
           refine qno he ?_; clear he; (try clear a); intro a he
           refine qno he ?_; clear he; (try clear a); intro a he
           refine qno he ?_; clear he; (try clear a); intro a he
           refine qno he ?_; clear he; (try clear a); intro a he
           refine qy (v := .bool (true)) he (y_pick rfl rfl) ?_; clear he; (try clear a); intro a he
           refine QL_nil he ?_; clear he; (try clear hs); (try clear a); intro a w hs
           exact ⟨true, hm, hs.subs ⟨rfl, rfl, rfl, rfl, rfl, rfl, trivial⟩ (.cons _ (.cons _ (.cons_cons _ (.cons_cons _ (.refl _)))))⟩
          ·clear he; have he := hq; clear hq
           replace hm := oc_f hg110 hm
           refine qyg (v := v97) he (y_ld rfl Tryd.underlying46 rfl (Cell.blk (.tail _ (.head _)) rfl)) ?_; clear he; (try clear a); intro a he
           refine qyg (v := v30) he (y_move rfl) ?_; clear he; (try clear a); intro a he
           refine qyg (v := v97) he (y_ld rfl Tryd.underlying46 rfl (Cell.blk (.tail _ (.head _)) rfl)) ?_; clear he; (try clear a); intro a he
           refine qyg he (y_lenW (Rd.st hs (.head _)) hW99 rfl Tryd.underlying46) ?_; clear he; (try clear a); intro a he
           obtain ⟨x111, hx112, hm⟩ := ob hm
           obtain ⟨⟨hlx111, hhx111, h1x111, h2x111⟩, hex111⟩ := cutM_some hx112
           have hW113 := (hW32.take (y96.length : Int).toNat).drop (Int.toNat 0); rw [hex111] at hW113
           simp only [Int.toNat_zero, List.drop_zero] at hW113
           have hR114 : Rd f93 [] (cutv v30 1 0 (y96.length : Int).toNat) 1 (List.take (y96.length : Int).toNat rw31) := by have hz := (hR81 : Rd _ [] _ _ _).cut (lo := 0) (hi := (y96.length : Int).toNat) (Nat.zero_le _) (by rw [RW.len hW32]; exact h2x111); rw [List.drop_zero] at hz; exact hz
           generalize hgrw115 : List.take _ rw31 = rw115 at hR114 hW113; clear hgrw115
           obtain ⟨v116, hvv116⟩ : ∃ u, cutv v30 1 0 (y96.length : Int).toNat = u := ⟨_, rfl⟩
           rw [hvv116] at hR114
           refine qyg he (y_sliceV (lo := (0 : Nat)) (hi := (y96.length : Int).toNat) hvv116 rfl Tryd.underlying46 ti3 (.inl ⟨rfl, rfl⟩) (.inr ⟨_, rfl, by rw [← hhx111]; rfl⟩) h1x111 (by rw [RW.len hW32]; exact h2x111) hR81) ?_; clear he; (try clear a); intro a he
           obtain ⟨x118, hx119, hm⟩ := ob hm
           refine qyg he (y_callCK (cap := []) rfl has17 rfl (fun w9 hw9 => callsP (Lr := [.row v97 3 1 rw98]) (Lf := .blk b90 (.cells #[v97] 46 (0, 0)) :: .blk b85 (.cells #[.int .i64 (y86)] 3 (0, 0)) :: .blk b15 (.cells #[.int .i64 (x58)] 3 (0, 0)) :: L) (perm_at _ 0 rfl) hw9 (fun Lz w9 hw9 => lent0 hw9 (fun f9_0 w9 hle9_0 hRl0 hw9 => (book_Same_int_ok n (f := f9_0) (a0 := v97) (a1 := v116) ⟨rw98, hRl0, hW99.le hle9_0⟩ ⟨rw115, hR114.le hle9_0, hW113.le hle9_0⟩ hx119) w0 _ w9 hw9)))) ?_; clear he; (try clear a); intro a he
           refine qyg (v := .bool ((!x118))) he (y_not rfl) ?_; clear he; (try clear a); intro a he
           refine qy (v := .bool ((!x118))) he (y_pick rfl rfl) ?_; clear he; (try clear a); intro a he
           refine QL_nil he ?_; clear he; (try clear hs); (try clear a); intro a w hs
           exact ⟨(!x118), hm, hs.subs ⟨rfl, rfl, rfl, rfl, rfl, rfl, trivial⟩ (.cons _ (.cons _ (.cons_cons _ (.cons_cons _ (.refl _)))))⟩
        ·clear he; have he := hq; clear hq
         replace hm := oc_f hg106 hm
         refine qno he ?_; clear he; (try clear a); intro a he
         refine qno he ?_; clear he; (try clear a); intro a he
         refine qno he ?_; clear he; (try clear a); intro a he
         refine qno he ?_; clear he; (try clear a); intro a he
         refine qy (v := .bool (false)) he (y_pick rfl rfl) ?_; clear he; (try clear a); intro a he
         refine qy (v := .bool (false)) he (y_move rfl) ?_; clear he; (try clear a); intro a he
         refine qyg (v := v97) he (y_ld rfl Tryd.underlying46 rfl (Cell.blk (.tail _ (.head _)) rfl)) ?_; clear he; (try clear a); intro a he
         refine qyg he (y_lenW (Rd.st hs (.head _)) hW99 rfl Tryd.underlying46) ?_; clear he; (try clear a); intro a he
         refine qyg (v := v30) he (y_move rfl) ?_; clear he; (try clear a); intro a he
         refine qyg he (y_lenW hR81 hW32 rfl Tryd.underlying46) ?_; clear he; (try clear a); intro a he
         refine qyg he (y_gtr rfl rfl) ?_; clear he; (try clear a); intro a he
         refine qy (v := .bool (decide ((y29.length : Int) < (y96.length : Int)))) he (y_pick rfl rfl) ?_; clear he; (try clear a); intro a he
         refine qy (v := .bool (decide ((y29.length : Int) < (y96.length : Int)))) he (y_move rfl) ?_; clear he; (try clear a); intro a he
         refine Ev.split he (t := 74) rfl (fun hg120 hq => ?_) (fun hg120 hq => ?_)
         ·clear he; have he := hq; clear hq
          replace hm := oc_t hg120 hm
          refine qno he ?_; clear he; (try clear a); intro a he
          refine qno he ?_; clear he; (try clear a); intro a he
          refine qno he ?_; clear he; (try clear a); intro a he
          refine qno he ?_; clear he; (try clear a); intro a he
          refine qno he ?_; clear he; (try clear a); intro a he
          refine qno he ?_; clear he; (try clear a); intro a he
          refine qno he ?_; clear he; (try clear a); intro a he
          refine qy (v := .bool (true)) he (y_pick rfl rfl) ?_; clear he; (try clear a); intro a he
          refine QL_nil he ?_; clear he; (try clear hs); (try clear a); intro a w hs
          exact ⟨true, hm, hs.subs ⟨rfl, rfl, rfl, rfl, rfl, rfl, trivial⟩ (.cons _ (.cons _ (.cons_cons _ (.cons_cons _ (.refl _)))))⟩
         ·clear he; have he := hq; clear hq
          replace hm := oc_f hg120 hm
          refine qyg (v := v97) he (y_ld rfl Tryd.underlying46 rfl (Cell.blk (.tail _ (.head _)) rfl)) ?_; clear he; (try clear a); intro a he
          refine qyg (v := v30) he (y_move rfl) ?_; clear he; (try clear a); intro a he
          refine qyg (v := v97) he (y_ld rfl Tryd.underlying46 rfl (Cell.blk (.tail _ (.head _)) rfl)) ?_; clear he; (try clear a); intro a he
          refine qyg he (y_lenW (Rd.st hs (.head _)) hW99 rfl Tryd.underlying46) ?_; clear he; (try clear a); intro a he
          obtain ⟨x121, hx122, hm⟩ := ob hm
          obtain ⟨⟨hlx121, hhx121, h1x121, h2x121⟩, hex121⟩ := cutM_some hx122
          have hW123 := (hW32.take (y96.length : Int).toNat).drop (Int.toNat 0); rw [hex121] at hW123
          simp only [Int.toNat_zero, List.drop_zero] at hW123
          have hR124 : Rd f93 [] (cutv v30 1 0 (y96.length : Int).toNat) 1 (List.take (y96.length : Int).toNat rw31) := by have hz := (hR81 : Rd _ [] _ _ _).cut (lo := 0) (hi := (y96.length : Int).toNat) (Nat.zero_le _) (by rw [RW.len hW32]; exact h2x121); rw [List.drop_zero] at hz; exact hz
          generalize hgrw125 : List.take _ rw31 = rw125 at hR124 hW123; clear hgrw125
          obtain ⟨v126, hvv126⟩ : ∃ u, cutv v30 1 0 (y96.length : Int).toNat = u := ⟨_, rfl⟩
          rw [hvv126] at hR124
          refine qyg he (y_sliceV (lo := (0 : Nat)) (hi := (y96.length : Int).toNat) hvv126 rfl Tryd.underlying46 ti3 (.inl ⟨rfl, rfl⟩) (.inr ⟨_, rfl, by rw [← hhx121]; rfl⟩) h1x121 (by rw [RW.len hW32]; exact h2x121) hR81) ?_; clear he; (try clear a); intro a he
          obtain ⟨x128, hx129, hm⟩ := ob hm
          refine qyg he (y_callCK (cap := []) rfl has17 rfl (fun w9 hw9 => callsP (Lr := [.row v97 3 1 rw98]) (Lf := .blk b90 (.cells #[v97] 46 (0, 0)) :: .blk b85 (.cells #[.int .i64 (y86)] 3 (0, 0)) :: .blk b15 (.cells #[.int .i64 (x58)] 3 (0, 0)) :: L) (perm_at _ 0 rfl) hw9 (fun Lz w9 hw9 => lent0 hw9 (fun f9_0 w9 hle9_0 hRl0 hw9 => (book_Same_int_ok n (f := f9_0) (a0 := v97) (a1 := v126) ⟨rw98, hRl0, hW99.le hle9_0⟩ ⟨rw125, hR124.le hle9_0, hW123.le hle9_0⟩ hx129) w0 _ w9 hw9)))) ?_; clear he; (try clear a); intro a he
          refine qyg (v := .bool ((!x128))) he (y_not rfl) ?_; clear he; (try clear a); intro a he
          refine qy (v := .bool ((!x128))) he (y_pick rfl rfl) ?_; clear he; (try clear a); intro a he
          refine QL_nil he ?_; clear he; (try clear hs); (try clear a); intro a w hs
          exact ⟨(!x128), hm, hs.subs ⟨rfl, rfl, rfl, rfl, rfl, rfl, trivial⟩ (.cons _ (.cons _ (.cons_cons _ (.cons_cons _ (.refl _)))))⟩
      ·refine W1_block fun Qe28 hB28 hO28 => ?_
       obtain ⟨x130, hx131, hm⟩ := ob hm
       replace hs : St 85 w0 f82 (.blk b90 (.cells #[(.slice none 0 0)] 46 (0, 0)) :: .blk b85 (.cells #[.int .i64 (y86)] 3 (0, 0)) :: .blk b15 (.cells #[.int .i64 (x58)] 3 (0, 0)) :: L) [(5, .pointer (some ⟨b15, 0, none⟩)), (6, .bool (false)), (7, v30), (9, .func (.func 34) #[] #[.pointer (some ⟨b38, 0, none⟩), .pointer (some ⟨b43, 0, none⟩)]), (10, .pointer (some ⟨b85, 0, none⟩)), (11, .pointer (some ⟨b90, 0, none⟩)), (45, .func (.func 34) #[] #[.pointer (some ⟨b38, 0, none⟩), .pointer (some ⟨b43, 0, none⟩)])] a w := hs.subs ⟨rfl, rfl, rfl, rfl, rfl, rfl, rfl, trivial⟩ (.cons_cons _ (.cons_cons _ (.cons_cons _ (.refl _))))
       replace hs := hs.nilRow 3 1
       have hW176 : RW (tInt .i64) f82 [] ([] : List Int) := trivial
       generalize hgrw177 : ([] : List (List Value)) = rw177 at hs hW176; clear hgrw177
       replace hs : St _ _ _ (.row (.slice none 0 0) 3 1 rw177 :: .blk b90 (.cells #[(.slice none 0 0)] 46 (0, 0)) :: .blk b85 (.cells #[.int .i64 (y86)] 3 (0, 0)) :: .blk b15 (.cells #[.int .i64 (x58)] 3 (0, 0)) :: L) _ _ _ := hs
       replace hs : St _ _ _ (.row (.slice none 0 0) 3 1 rw177 :: .blk b90 (.cells #[(.slice none 0 0)] 46 (0, 0)) :: .blk b85 (.cells #[.int .i64 (y86)] 3 (0, 0)) :: .blk b15 (.cells #[.int .i64 (x58)] 3 (0, 0)) :: L) _ _ _ := hs
       refine W1_range (L := L) (ents := [.row (.slice none 0 0) 3 1 rw177, .blk b90 (.cells #[(.slice none 0 0)] 46 (0, 0)), .blk b85 (.cells #[.int .i64 (y86)] 3 (0, 0)), .blk b15 (.cells #[.int .i64 (x58)] 3 (0, 0))]) (enc := (fun x => .int .i64 x)) hs rfl has34 (match_All_1_it n (f := f82) (cb0 := b38) (ca0 := [v48]) (cb1 := b43) (ca1 := [v53]) hT0 hT1 hTT ⟨_, rfl, ⟨rw49, hR50, hW51⟩⟩ hB41 ⟨_, rfl, ⟨rw54, hR55, hW56⟩⟩ hB46 hx131) (by decide) (fun x => [(12, .int .i64 x), (46, .int .i64 x), (5, .pointer (some ⟨b15, 0, none⟩)), (6, .bool (false)), (7, v30), (9, .func (.func 34) #[] #[.pointer (some ⟨b38, 0, none⟩), .pointer (some ⟨b43, 0, none⟩)]), (10, .pointer (some ⟨b85, 0, none⟩)), (11, .pointer (some ⟨b90, 0, none⟩)), (45, .func (.func 34) #[] #[.pointer (some ⟨b38, 0, none⟩), .pointer (some ⟨b43, 0, none⟩)])]) (fun rem ents => ∃ (y150 : (List Int)) (v151 : Value) (rw152 : List (List Value)), law10_MatchAll_r7 n y29 x58 y86 (law10_MatchAll_l4 n y29 x34 x58 k87) rem y150 = some res ∧ RW (tInt .i64) f82 rw152 y150 ∧ ents = [.row v151 3 1 rw152, .blk b90 (.cells #[v151] 46 (0, 0)), .blk b85 (.cells #[.int .i64 (y86)] 3 (0, 0)), .blk b15 (.cells #[.int .i64 (x58)] 3 (0, 0))]) (fun c ents => (c = .exit 4 ∧ ∃ (y169 : (List Int)) (v170 : Value) (rw171 : List (List Value)), law10_MatchAll_k8 n y29 y86 (law10_MatchAll_l4 n y29 x34 x58 k87) y169 = some res ∧ RW (tInt .i64) f82 rw171 y169 ∧ ents = [.row v170 3 1 rw171, .blk b90 (.cells #[v170] 46 (0, 0)), .blk b85 (.cells #[.int .i64 (y86)] 3 (0, 0)), .blk b15 (.cells #[.int .i64 (x58)] 3 (0, 0))])) ⟨([] : List Int), (.slice none 0 0), rw177, hm, (RW.any (fun _ _ _ _ h => h) hW176), rfl⟩ ?_ ?_ ?_ ?_
       ·intro x f9 L a w hs K hK
        refine W_region ?_
        refine sy (v := .int .i64 (x)) hs (y_assign rfl) ?_; clear hs; (try clear a w); intro a w hs
        refine RL_nil ?_
        exact hK _ _ hs
       ·clear hs hm; (try clear a w)
        rintro x175 rm174 _ L f186 a w hf187 ⟨y150, v151, rw152, hm, hW153, rfl⟩ hs
        replace hT0 := hf187 _ _ hT0
        replace hT1 := hf187 _ _ hT1
        replace hW32 := hW32.le hf187
        replace hR50 := hR50.le hf187
        replace hW51 := hW51.le hf187
        replace hB41 := hf187 _ _ hB41
        replace hR55 := hR55.le hf187
        replace hW56 := hW56.le hf187
        replace hB46 := hf187 _ _ hB46
        replace hR81 := hR81.le hf187
        replace hW153 := hW153.le hf187
        replace hle := hle.trans hf187
        replace hbase64 := hbase64.trans hf187
        replace hbase88 := hbase88.trans hf187
        replace hbase101 := hbase101.trans hf187
        replace hM := hM.le hf187
        replace hs : St _ _ _ (.row v151 3 1 rw152 :: .blk b90 (.cells #[v151] 46 (0, 0)) :: .blk b85 (.cells #[.int .i64 (y86)] 3 (0, 0)) :: .blk b15 (.cells #[.int .i64 (x58)] 3 (0, 0)) :: L) _ _ _ := hs
        rw [law10_MatchAll_r7] at hm
        have hbase188 := Fz.le.refl f186
        refine W_block fun Qe29 hB29 hO29 => ?_
        refine W_seq fun K30 hK30 => ?_
        refine W_region ?_
        refine sy (v := v151) hs (y_ld rfl Tryd.underlying46 rfl (Cell.blk (.tail _ (.head _)) rfl)) ?_; clear hs; (try clear a w); intro a w hs
        refine sy (v := .int .i64 (x175)) hs (y_move rfl) ?_; clear hs; (try clear a w); intro a w hs
        refine RL_bs1s hs rfl Tryd.underlying46 ti3 rfl rfl ?_; clear hs; (try clear a w); intro v189 a w hs
        have hW190 : RW (tInt .i64) f186 [[.int .i64 (x175)]] [x175] := RW.single (rfl)
        generalize hgrw191 : ([[.int .i64 (x175)]] : List (List Value)) = rw191 at hs hW190; clear hgrw191
        replace hs : St _ _ _ (.row v189 3 1 rw191 :: .row v151 3 1 rw152 :: .blk b90 (.cells #[v151] 46 (0, 0)) :: .blk b85 (.cells #[.int .i64 (y86)] 3 (0, 0)) :: .blk b15 (.cells #[.int .i64 (x58)] 3 (0, 0)) :: L) _ _ _ := hs
        obtain ⟨x194, hx195, hm⟩ := ob hm
        obtain ⟨hbx194, hex194⟩ := appM_some hx195
        have hW198 := hW153.append hW190; rw [hex194] at hW198
        refine RL_append (i := 1) hs rfl rfl rfl (Rd.st hs (.head _)) Tryd.underlying46 ti3 (by decide) (by rw [RW.len hW153, RW.len hW190]; exact hbx194) (.free rfl) (by decide) ?_; clear hs; (try clear a w); intro v196 a w hs
        generalize hgx194 : rw152 ++ rw191 = rw197 at hs hW198; clear hgx194
        replace hs := hs.erase 0
        replace hs : St _ _ _ (.row v196 3 1 rw197 :: .blk b90 (.cells #[v151] 46 (0, 0)) :: .blk b85 (.cells #[.int .i64 (y86)] 3 (0, 0)) :: .blk b15 (.cells #[.int .i64 (x58)] 3 (0, 0)) :: L) _ _ _ := hs
        refine sstore 1 hs rfl rfl rfl ti46 ((hs.one (i := 0) rfl)) ?_; clear hs; (try clear a w); intro a w hs
        replace hs : St _ _ _ (.row v196 3 1 rw197 :: .blk b90 (.cells #[v196] 46 (0, 0)) :: .blk b85 (.cells #[.int .i64 (y86)] 3 (0, 0)) :: .blk b15 (.cells #[.int .i64 (x58)] 3 (0, 0)) :: L) _ _ _ := hs
        refine RL_nil ?_
        refine hK30 _ _ ?_; clear hK30
        refine W_seq fun K31 hK31 => ?_
        refine W_post (fun a w => St 85 w0 f186 (.row v196 3 1 rw197 :: .blk b90 (.cells #[v196] 46 (0, 0)) :: .blk b85 (.cells #[.int .i64 (y86)] 3 (0, 0)) :: .blk b15 (.cells #[.int .i64 (x58)] 3 (0, 0)) :: L) [(58, .bool (((decide (y86 = 1)) && (decide (x58 < (x194.length : Int))))))] a w) ?_ ?_
        ·clear hs; intro a w hs
         refine hK31 _ _ ?_; clear hK31
         refine W_cond hs rfl (fun hg200 => ?_) (fun hg200 => ?_)
         ·replace hm := oc_t hg200 hm
          refine W_exit ?_
          refine hO29 _ rfl _ _ ?_
          exact ⟨_, [.row v196 3 1 rw197, .blk b90 (.cells #[v196] 46 (0, 0)), .blk b85 (.cells #[.int .i64 (y86)] 3 (0, 0)), .blk b15 (.cells #[.int .i64 (x58)] 3 (0, 0))], hbase188, ⟨rfl, x194, v196, rw197, hm, (RW.any (fun _ _ _ _ h => h) hW198), rfl⟩, hs.cw⟩
         ·replace hm := oc_f hg200 hm
          refine W_skip ?_
          exact ⟨_, [.row v196 3 1 rw197, .blk b90 (.cells #[v196] 46 (0, 0)), .blk b85 (.cells #[.int .i64 (y86)] 3 (0, 0)), .blk b15 (.cells #[.int .i64 (x58)] 3 (0, 0))], hbase188, ⟨x194, v196, rw197, hm, (RW.any (fun _ _ _ _ h => h) hW198), rfl⟩, hs.cw⟩
        ·refine W_region ?_
         refine sy (v := .int .i64 (y86)) hs (y_ld rfl Tryd.underlying3 rfl (Cell.blk (.tail _ (.tail _ (.head _))) rfl)) ?_; clear hs; (try clear a w); intro a w hs
         refine sy hs (y_eql rfl rfl) ?_; clear hs; (try clear a w); intro a w hs
         refine sy (v := .bool (decide (y86 = 1))) hs (y_move rfl) ?_; clear hs; (try clear a w); intro a w hs
         refine St.split hs (t := 53) rfl (fun hg201 hq => ?_) (fun hg201 hq => ?_)
         ·clear hs; have hs := hq; clear hq
          refine syg (v := v196) hs (y_ld rfl Tryd.underlying46 rfl (Cell.blk (.tail _ (.head _)) rfl)) ?_; clear hs; (try clear a w); intro a w hs
          refine syg hs (y_lenW (Rd.st hs (.head _)) hW198 rfl Tryd.underlying46) ?_; clear hs; (try clear a w); intro a w hs
          refine syg (v := .int .i64 (x58)) hs (y_ld rfl Tryd.underlying3 rfl (Cell.blk (.tail _ (.tail _ (.tail _ (.head _)))) rfl)) ?_; clear hs; (try clear a w); intro a w hs
          refine syg hs (y_gtr rfl rfl) ?_; clear hs; (try clear a w); intro a w hs
          refine sy (v := .bool (decide (x58 < (x194.length : Int)))) hs (y_pick rfl rfl) ?_; clear hs; (try clear a w); intro a w hs
          refine RL_nil ?_
          exact hs.sub ⟨(lkB (((and_t hg201).trans rfl)) rfl), trivial⟩
         ·clear hs; have hs := hq; clear hq
          refine sno hs ?_; clear hs; (try clear a w); intro a w hs
          refine sno hs ?_; clear hs; (try clear a w); intro a w hs
          refine sno hs ?_; clear hs; (try clear a w); intro a w hs
          refine sno hs ?_; clear hs; (try clear a w); intro a w hs
          refine sy (v := .bool (false)) hs (y_pick rfl rfl) ?_; clear hs; (try clear a w); intro a w hs
          refine RL_nil ?_
          exact hs.sub ⟨(lkB (((and_f hg201).trans rfl)) rfl), trivial⟩
       ·clear hs hm; (try clear w)
        rintro f180 D182 _ w hf181 hD0 hD ⟨y150, v151, rw152, hm, hW153, rfl⟩ hs
        replace hM := Marks.cons hM hle hf181 hD0 hD; clear hD0 hD
        replace hT0 := hf181 _ _ hT0
        replace hT1 := hf181 _ _ hT1
        replace hW32 := hW32.le hf181
        replace hR50 := hR50.le hf181
        replace hW51 := hW51.le hf181
        replace hB41 := hf181 _ _ hB41
        replace hR55 := hR55.le hf181
        replace hW56 := hW56.le hf181
        replace hB46 := hf181 _ _ hB46
        replace hR81 := hR81.le hf181
        replace hW153 := hW153.le hf181
        replace hle := hle.trans hf181
        replace hbase64 := hbase64.trans hf181
        replace hbase88 := hbase88.trans hf181
        replace hbase101 := hbase101.trans hf181
        replace hs : St _ _ _ (.row v151 3 1 rw152 :: .blk b90 (.cells #[v151] 46 (0, 0)) :: .blk b85 (.cells #[.int .i64 (y86)] 3 (0, 0)) :: .blk b15 (.cells #[.int .i64 (x58)] 3 (0, 0)) :: L) _ _ _ := hs
        rw [law10_MatchAll_r7] at hm
        exact ⟨_, y150, v151, rw152, hbase101, hm, hW153, hM, hs.sub ⟨rfl, rfl, rfl, rfl, rfl, rfl, trivial⟩⟩
       ·clear hs hm; (try clear w)
        rintro c f183 D185 _ w hf184 hD0 hD hX hs
        replace hM := Marks.cons hM hle hf184 hD0 hD; clear hD0 hD
        rcases hX with ⟨rfl, y169, v170, rw171, hm, hW172, rfl⟩
        replace hT0 := hf184 _ _ hT0
        replace hT1 := hf184 _ _ hT1
        replace hW32 := hW32.le hf184
        replace hR50 := hR50.le hf184
        replace hW51 := hW51.le hf184
        replace hB41 := hf184 _ _ hB41
        replace hR55 := hR55.le hf184
        replace hW56 := hW56.le hf184
        replace hB46 := hf184 _ _ hB46
        replace hR81 := hR81.le hf184
        replace hW172 := hW172.le hf184
        replace hle := hle.trans hf184
        replace hbase64 := hbase64.trans hf184
        replace hbase88 := hbase88.trans hf184
        replace hbase101 := hbase101.trans hf184
        replace hs : St _ _ _ (.row v170 3 1 rw171 :: .blk b90 (.cells #[v170] 46 (0, 0)) :: .blk b85 (.cells #[.int .i64 (y86)] 3 (0, 0)) :: .blk b15 (.cells #[.int .i64 (x58)] 3 (0, 0)) :: L) _ _ _ := hs
        unfold law10_MatchAll_k8 at hm
        refine W1_of ?_
        refine W_exit ?_
        refine hB28 _ _ _ ?_
        exact ⟨_, y169, v170, rw171, hbase101, hm, hW172, hM, hs.sub ⟨rfl, rfl, rfl, rfl, rfl, rfl, trivial⟩⟩
     ·replace hm := oc_f hg89 hm
      refine W_exit ?_
      refine hB15 _ _ _ ?_
      exact ⟨_, hbase64, hm, hM, hs.subs trivial (.cons _ (.cons _ (.refl _)))⟩
  ·refine W_block fun Qe32 hB32 hO32 => ?_
   replace hs := hs.nilRow 3 1
   have hW209 : RW (tInt .i64) f [] ([] : List Int) := trivial
   generalize hgrw210 : ([] : List (List Value)) = rw210 at hs hW209; clear hgrw210
   replace hs : St _ _ _ (.row (.slice none 0 0) 3 1 rw210 :: .row v17 27 1 rw19 :: .blk b15 (.cells #[.int .i64 (p2)] 3 (0, 0)) :: .blk b13 (.cells #[v6] 27 (0, 0)) :: .blk b11 (.cells #[v1] 24 (0, 0)) :: L) _ _ _ := hs
   refine W_loop (fun (k : Nat) a w => ∃ (y203 : (List Int)) (y208 : Int) (v204 : Value) (rw205 : List (List Value)), law10_MatchAll_l9 n p0 p1 p2 k y203 y208 = some res ∧ RW (tInt .i64) f rw205 y203 ∧ St 85 w0 f (.row v204 3 1 rw205 :: .blk b15 (.cells #[.int .i64 (p2)] 3 (0, 0)) :: .blk b13 (.cells #[v6] 27 (0, 0)) :: .blk b11 (.cells #[v1] 24 (0, 0)) :: L) [(3, .pointer (some ⟨b11, 0, none⟩)), (4, .pointer (some ⟨b13, 0, none⟩)), (5, .pointer (some ⟨b15, 0, none⟩)), (6, .bool (false)), (7, v204), (8, .int .i64 (y208))] a w) (fun k => k) n ⟨([] : List Int), 0, (.slice none 0 0), rw210, hm, hW209, hs.subs ⟨rfl, rfl, rfl, rfl, rfl, rfl, trivial⟩ (.cons_cons _ (.cons _ (.cons_cons _ (.cons_cons _ (.cons_cons _ (.refl _))))))⟩ ?_
   clear hs hm
   intro k
   rintro a w ⟨y203, y208, v204, rw205, hm, hW206, hs⟩
   replace hs : St _ _ _ (.row v204 3 1 rw205 :: .blk b15 (.cells #[.int .i64 (p2)] 3 (0, 0)) :: .blk b13 (.cells #[v6] 27 (0, 0)) :: .blk b11 (.cells #[v1] 24 (0, 0)) :: L) _ _ _ := hs
   intro K33 hK33
   cases k with
   | zero => simp [law10_MatchAll_l9] at hm
   | succ k213 =>
    rw [law10_MatchAll_l9] at hm
    refine W_seq fun K34 hK34 => ?_
    refine W_seq fun K35 hK35 => ?_
    refine W_region ?_
    refine sy (v := .int .i64 (y208)) hs (y_move rfl) ?_; clear hs; (try clear a w); intro a w hs
    refine sy (v := .pointer (some ⟨b11, 0, none⟩)) hs (y_fieldAddr rfl (FO.of (off := 0) Tryd.underlying24 rfl rfl ti22 (by decide))) ?_; clear hs; (try clear a w); intro a w hs
    refine sy (v := v1) hs (y_ld rfl Tryd.underlying22 rfl (Cell.blk (.tail _ (.tail _ (.tail _ (.head _)))) rfl)) ?_; clear hs; (try clear a w); intro a w hs
    refine sy hs (y_lenW hR3 hW4 rfl Tryd.underlying22) ?_; clear hs; (try clear a w); intro a w hs
    refine sy hs (y_lss rfl rfl) ?_; clear hs; (try clear a w); intro a w hs
    refine RL_nil ?_
    refine hK35 _ _ ?_; clear hK35
    refine W_cond hs rfl (fun hg214 => ?_) (fun hg214 => ?_)
    ·replace hm := oc_t hg214 hm
     refine W_skip ?_
     refine hK34 _ _ ?_; clear hK34
     refine W_seq fun K36 hK36 => ?_
     refine W_block fun Qe37 hB37 hO37 => ?_
     refine W_seq fun K38 hK38 => ?_
     refine W_region ?_
     refine sy hs (y_ldB rfl Tryd.underlying24 rfl ti24 (.tail _ (.tail _ (.tail _ (.head _)))) rfl) ?_; clear hs; (try clear a w); intro a w hs
     refine sy (v := .int .i64 (y208)) hs (y_move rfl) ?_; clear hs; (try clear a w); intro a w hs
     refine sy hs (y_ldB rfl Tryd.underlying27 rfl ti27 (.tail _ (.tail _ (.head _))) rfl) ?_; clear hs; (try clear a w); intro a w hs
     obtain ⟨x215, hx216, hm⟩ := ob hm
     refine sy hs (y_call rfl has12 rfl (match_Match_ok n (f := f) (a0 := [v1]) (a2 := [v6]) hT0 hT1 hTT ⟨_, rfl, ⟨rw2, hR3, hW4⟩⟩ ⟨_, rfl, ⟨rw7, hR8, hW9⟩⟩ hx216)) ?_; clear hs; (try clear a w); intro a w hs
     refine RL_nil ?_
     refine hK38 _ _ ?_; clear hK38
     refine W_post (fun a w => ∃ (y217 : (List Int)) (v218 : Value) (rw219 : List (List Value)), law10_MatchAll_k10 y208 (law10_MatchAll_l9 n p0 p1 p2 k213) y217 = some res ∧ RW (tInt .i64) f rw219 y217 ∧ St 85 w0 f (.row v218 3 1 rw219 :: .blk b15 (.cells #[.int .i64 (p2)] 3 (0, 0)) :: .blk b13 (.cells #[v6] 27 (0, 0)) :: .blk b11 (.cells #[v1] 24 (0, 0)) :: L) [(3, .pointer (some ⟨b11, 0, none⟩)), (4, .pointer (some ⟨b13, 0, none⟩)), (5, .pointer (some ⟨b15, 0, none⟩)), (6, .bool (false)), (7, v218), (8, .int .i64 (y208))] a w) ?_ ?_
     ·clear hs hm
      rintro a w ⟨y217, v218, rw219, hm, hW220, hs⟩
      replace hs : St _ _ _ (.row v218 3 1 rw219 :: .blk b15 (.cells #[.int .i64 (p2)] 3 (0, 0)) :: .blk b13 (.cells #[v6] 27 (0, 0)) :: .blk b11 (.cells #[v1] 24 (0, 0)) :: L) _ _ _ := hs
      unfold law10_MatchAll_k10 at hm
      refine hK36 _ _ ?_; clear hK36
      refine W_region ?_
      refine sy (v := .int .i64 (y208)) hs (y_move rfl) ?_; clear hs; (try clear a w); intro a w hs
      refine sy hs (y_add rfl rfl rfl) ?_; clear hs; (try clear a w); intro a w hs
      refine sy (v := .int .i64 ((w64 (y208 + 1)))) hs (y_assign rfl) ?_; clear hs; (try clear a w); intro a w hs
      refine RL_nil ?_
      exact hK33 k213 _ _ (Nat.lt_succ_self _) ⟨y217, (w64 (y208 + 1)), v218, rw219, hm, hW220, hs.sub ⟨rfl, rfl, rfl, rfl, rfl, rfl, trivial⟩⟩
     ·refine W_cond hs rfl (fun hg222 => ?_) (fun hg222 => ?_)
      ·replace hm := oc_t hg222 hm
       refine W_region ?_
       refine sy (v := v204) hs (y_move rfl) ?_; clear hs; (try clear a w); intro a w hs
       refine sy (v := .int .i64 (y208)) hs (y_move rfl) ?_; clear hs; (try clear a w); intro a w hs
       refine RL_bs1s hs rfl Tryd.underlying46 ti3 rfl rfl ?_; clear hs; (try clear a w); intro v223 a w hs
       have hW224 : RW (tInt .i64) f [[.int .i64 (y208)]] [y208] := RW.single (rfl)
       generalize hgrw225 : ([[.int .i64 (y208)]] : List (List Value)) = rw225 at hs hW224; clear hgrw225
       replace hs : St _ _ _ (.row v223 3 1 rw225 :: .row v204 3 1 rw205 :: .blk b15 (.cells #[.int .i64 (p2)] 3 (0, 0)) :: .blk b13 (.cells #[v6] 27 (0, 0)) :: .blk b11 (.cells #[v1] 24 (0, 0)) :: L) _ _ _ := hs
       obtain ⟨x228, hx229, hm⟩ := ob hm
       obtain ⟨hbx228, hex228⟩ := appM_some hx229
       have hW232 := hW206.append hW224; rw [hex228] at hW232
       refine RL_append (i := 1) hs rfl rfl rfl (Rd.st hs (.head _)) Tryd.underlying46 ti3 (by decide) (by rw [RW.len hW206, RW.len hW224]; exact hbx228) (.free rfl) (by decide) ?_; clear hs; (try clear a w); intro v230 a w hs
       generalize hgx228 : rw205 ++ rw225 = rw231 at hs hW232; clear hgx228
       replace hs := hs.erase 0
       replace hs : St _ _ _ (.row v230 3 1 rw231 :: .blk b15 (.cells #[.int .i64 (p2)] 3 (0, 0)) :: .blk b13 (.cells #[v6] 27 (0, 0)) :: .blk b11 (.cells #[v1] 24 (0, 0)) :: L) _ _ _ := hs
       refine sy (v := v230) hs (y_assign rfl) ?_; clear hs; (try clear a w); intro a w hs
       refine RL_nil ?_
       exact ⟨x228, v230, rw231, hm, hW232, hs.sub ⟨rfl, rfl, rfl, rfl, rfl, rfl, trivial⟩⟩
      ·replace hm := oc_f hg222 hm
       refine W_skip ?_
       exact ⟨y203, v204, rw205, hm, hW206, hs.sub ⟨rfl, rfl, rfl, rfl, rfl, rfl, trivial⟩⟩
    ·replace hm := oc_f hg214 hm
     refine W_exit ?_
     refine hB32 _ _ ?_
     exact ⟨y203, v204, rw205, hm, hW206, hs.sub ⟨rfl, rfl, rfl, rfl, rfl, trivial⟩⟩
end Go.Proofs.YtmkcglpeidbblaaDoor
