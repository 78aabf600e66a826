/-
  Walks and laws of this seat; the base is the text Base.
-/
import Derived.Test.YtmkcglpeidbblaaDoorL10e
import Derived.Test.YtmkcglpeidbblaaDoorRows
/-
  Models of functions, and that the functions compute them. Printed by lift.py.
-/
namespace Go.Proofs.YtmkcglpeidbblaaDoor
open Go.RowKit Go.Sl
/-! casement/casementbook.Within -/
/-! casement/casementbook.Same[int] -/
def book_Same_int_k1 : Option Bool :=
  some true
def book_Same_int_l2 (p0 : (List Int)) (p1 : (List Int)) : Nat → Int → Option Bool
  | 0, _ => none
  | k11 + 1, y10 =>
  (bif (decide (y10 < (p0.length : Int))) then (geti p0 y10).bind fun x13 =>
  (geti p1 y10).bind fun x20 =>
  (bif (decide (x13 ≠ x20)) then some false else
  (book_Same_int_l2 p0 p1 k11) (w64 (y10 + 1))) else
  book_Same_int_k1)
def book_Same_int (n : Nat) (p0 : (List Int)) (p1 : (List Int)) : Option Bool :=
  (bif (decide ((p0.length : Int) ≠ (p1.length : Int))) then some false else
  book_Same_int_l2 p0 p1 n 0)
set_option maxRecDepth 20000 in
set_option maxHeartbeats 4000000 in
theorem book_Same_int_ok (n : Nat) {f : Fz} {p0 : (List Int)} {a0 : Value} {p1 : (List Int)} {a1 : Value} {res : Bool} (h0 : RS (tInt .i64) f a0 p0) (h1 : RS (tInt .i64) f a1 p1) (hm : book_Same_int n p0 p1 = some res) : Gives Tryd.prog 17 [a0, a1] f (.bool res) := by
 unfold book_Same_int at hm
 intro w0 L w hC
 obtain ⟨rw1, hR2, hW3⟩ := h0
 obtain ⟨rw5, hR6, hW7⟩ := h1
 refine enter Tryd.func17 rfl Tryd.ntmps17 (by simp) hC fun a hs => ?_
 have hle := Fz.le.refl f
 refine W_seq fun K1 hK1 => ?_
 refine W_region ?_
 refine sy (v := .bool (false)) hs (y_assign rfl) ?_; clear hs; intro a w hs
 refine RL_nil ?_
 refine hK1 _ _ ?_; clear hK1
 refine W_seq fun K2 hK2 => ?_
 refine W_seq fun K3 hK3 => ?_
 refine W_region ?_
 refine sy (v := a0) hs (y_move rfl) ?_; clear hs; intro a w hs
 refine sy hs (y_lenW hR2 hW3 rfl Tryd.underlying46) ?_; clear hs; intro a w hs
 refine sy (v := a1) hs (y_move rfl) ?_; clear hs; intro a w hs
 refine sy hs (y_lenW hR6 hW7 rfl Tryd.underlying46) ?_; clear hs; intro a w hs
 refine sy hs (y_neq rfl rfl) ?_; clear hs; intro a w hs
 refine RL_nil ?_
 refine hK3 _ _ ?_; clear hK3
 refine W_cond hs rfl (fun hg9 => ?_) (fun hg9 => ?_)
 ·replace hm := oc_t hg9 hm
  refine W_seq fun K4 hK4 => ?_
  refine W_region ?_
  refine sy (v := .bool (false)) hs (y_assign rfl) ?_; clear hs; intro a w hs
  refine RL_nil ?_
  refine hK4 _ _ ?_; clear hK4
  refine W_ret ?_
  obtain rfl := Option.some.inj hm
  refine RtV1 hs rfl (rv_t hs rfl) ?_
  exact ⟨rfl, (hs.weak hle).cw⟩
 ·replace hm := oc_f hg9 hm
  refine W_skip ?_
  refine hK2 _ _ ?_; clear hK2
  refine W_seq fun K5 hK5 => ?_
  refine W_seq fun K6 hK6 => ?_
  refine W_region ?_
  refine sy (v := .int .i64 (0)) hs (y_assign rfl) ?_; clear hs; intro a w hs
  refine RL_nil ?_
  refine hK6 _ _ ?_; clear hK6
  refine W_post (fun a w => book_Same_int_k1 = some res ∧ St 26 w0 f (L) [] a w) ?_ ?_
  ·clear hs hm
   rintro a w ⟨hm, hs⟩
   replace hs : St _ _ _ (L) _ _ _ := hs
   unfold book_Same_int_k1 at hm
   refine hK5 _ _ ?_; clear hK5
   refine W_seq fun K7 hK7 => ?_
   refine W_region ?_
   refine sy (v := .bool (true)) hs (y_assign rfl) ?_; clear hs; intro a w hs
   refine RL_nil ?_
   refine hK7 _ _ ?_; clear hK7
   refine W_ret ?_
   obtain rfl := Option.some.inj hm
   refine RtV1 hs rfl (rv_t hs rfl) ?_
   exact ⟨rfl, (hs.weak hle).cw⟩
  ·refine W_block fun Qe8 hB8 hO8 => ?_
   refine W_loop (fun (k : Nat) a w => ∃ (y10 : Int), book_Same_int_l2 p0 p1 k y10 = some res ∧ St 26 w0 f (L) [(0, a0), (1, a1), (5, .int .i64 (y10))] a w) (fun k => k) n ⟨0, hm, hs.sub ⟨rfl, rfl, rfl, trivial⟩⟩ ?_
   clear hs hm
   intro k
   rintro a w ⟨y10, hm, hs⟩
   replace hs : St _ _ _ (L) _ _ _ := hs
   intro K9 hK9
   cases k with
   | zero => simp [book_Same_int_l2] at hm
   | succ k11 =>
    rw [book_Same_int_l2] at hm
    refine W_seq fun K10 hK10 => ?_
    refine W_seq fun K11 hK11 => ?_
    refine W_region ?_
    refine sy (v := .int .i64 (y10)) hs (y_move rfl) ?_; clear hs; intro a w hs
    refine sy (v := a0) hs (y_move rfl) ?_; clear hs; intro a w hs
    refine sy hs (y_lenW hR2 hW3 rfl Tryd.underlying46) ?_; clear hs; intro a w hs
    refine sy hs (y_lss rfl rfl) ?_; clear hs; intro a w hs
    refine RL_nil ?_
    refine hK11 _ _ ?_; clear hK11
    refine W_cond hs rfl (fun hg12 => ?_) (fun hg12 => ?_)
    ·replace hm := oc_t hg12 hm
     refine W_skip ?_
     refine hK10 _ _ ?_; clear hK10
     refine W_seq fun K12 hK12 => ?_
     refine W_block fun Qe13 hB13 hO13 => ?_
     refine W_seq fun K14 hK14 => ?_
     refine W_draw hs mixed (by kernel_rfl) ?_; intro a he
     refine qy (v := a0) he (y_move rfl) ?_; clear he; intro a he
     refine qy (v := .int .i64 (y10)) he (y_move rfl) ?_; clear he; intro a he
     obtain ⟨x13, hx14, hm⟩ := ob hm
     obtain ⟨r15, hr16, hq17, hi18, hb19⟩ := hW3.geti hx14
     obtain rfl : _ = ([.int .i64 (x13)] : List Value) := hq17
     refine qy he (y_indexAddr hR2 rfl rfl hi18 hb19 Tryd.underlying46 ti3) ?_; clear he; intro a he
     refine qy (v := .int .i64 (x13)) he (y_loadE (i := y10.toNat) (j := 0) hR2.up rfl hr16 rfl Tryd.underlying3 rfl) ?_; clear he; intro a he
     refine qy (v := a1) he (y_move rfl) ?_; clear he; intro a he
     refine qy (v := .int .i64 (y10)) he (y_move rfl) ?_; clear he; intro a he
     obtain ⟨x20, hx21, hm⟩ := ob hm
     obtain ⟨r22, hr23, hq24, hi25, hb26⟩ := hW7.geti hx21
     obtain rfl : _ = ([.int .i64 (x20)] : List Value) := hq24
     refine qy he (y_indexAddr hR6 rfl rfl hi25 hb26 Tryd.underlying46 ti3) ?_; clear he; intro a he
     refine qy (v := .int .i64 (x20)) he (y_loadE (i := y10.toNat) (j := 0) hR6.up rfl hr23 rfl Tryd.underlying3 rfl) ?_; clear he; intro a he
     refine qy he (y_neq rfl rfl) ?_; clear he; intro a he
     refine QL_nil he ?_; clear he; (try clear hs); intro a w hs
     refine hK14 _ _ ?_; clear hK14
     refine W_cond hs rfl (fun hg27 => ?_) (fun hg27 => ?_)
     ·replace hm := oc_t hg27 hm
      refine W_seq fun K15 hK15 => ?_
      refine W_region ?_
      refine sy (v := .bool (false)) hs (y_assign rfl) ?_; clear hs; intro a w hs
      refine RL_nil ?_
      refine hK15 _ _ ?_; clear hK15
      refine W_ret ?_
      obtain rfl := Option.some.inj hm
      refine RtV1 hs rfl (rv_t hs rfl) ?_
      exact ⟨rfl, (hs.weak hle).cw⟩
     ·replace hm := oc_f hg27 hm
      refine W_skip ?_
      refine hK12 _ _ ?_; clear hK12
      refine W_region ?_
      refine sy (v := .int .i64 (y10)) hs (y_move rfl) ?_; clear hs; intro a w hs
      refine sy hs (y_add rfl rfl rfl) ?_; clear hs; intro a w hs
      refine sy (v := .int .i64 ((w64 (y10 + 1)))) hs (y_assign rfl) ?_; clear hs; intro a w hs
      refine RL_nil ?_
      exact hK9 k11 _ _ (Nat.lt_succ_self _) ⟨(w64 (y10 + 1)), hm, hs.sub ⟨rfl, rfl, rfl, trivial⟩⟩
    ·replace hm := oc_f hg12 hm
     refine W_exit ?_
     refine hB8 _ _ ?_
     exact ⟨hm, hs.sub trivial⟩
/-! casement/casementkeep.Whole -/
/-! casement/casementlaw10.selectors -/
/-! casement/casementlaw10.name -/
def law10_name (_n : Nat) (p0 : Int) (p1 : ByteArray) (p2 : (List sheet_Test)) : Option sheet_Step :=
  some ({Comb := p0, Name := p1, Tests := p2} : sheet_Step)
set_option maxRecDepth 20000 in
set_option maxHeartbeats 4000000 in
theorem law10_name_ok (n : Nat) {f : Fz} {p0 : Int} {p1 : ByteArray} {p2 : (List sheet_Test)} {a2 : Value} {res : sheet_Step} (h2 : RS t_sheet_Test f a2 p2) (hm : law10_name n p0 p1 p2 = some res) : Does Tryd.prog 15 [.int .i64 p0, .string p1, a2] f [] (fun r f' L' => ∃ (u0 : List Value), L' = [] ∧ r = .agg u0.toArray ∧ t_sheet_Step.R f' u0 res) := by
 unfold law10_name at hm
 intro w0 L w hC
 obtain ⟨rw1, hR2, hW3⟩ := h2
 refine enter Tryd.func15 rfl Tryd.ntmps15 (by simp) hC fun a hs => ?_
 have hle := Fz.le.refl f
 refine W_seq fun K1 hK1 => ?_
 refine W_region ?_
 refine RL_alloc hs ti35 (.free rfl) (by decide) ?_; clear hs; intro b5 a w hs
 replace hs : St _ _ _ (.blk b5 (.cells #[.int .i64 (0), .string ((bs [])), (.slice none 0 0)] 35 (0, 0)) :: L) _ _ _ := hs
 refine RL_nil ?_
 refine hK1 _ _ ?_; clear hK1
 refine W_seq fun K2 hK2 => ?_
 refine W_region ?_
 refine sy (v := .int .i64 (p0)) hs (y_move rfl) ?_; clear hs; intro a w hs
 refine sy (v := .string (p1)) hs (y_move rfl) ?_; clear hs; intro a w hs
 refine sy (v := a2) hs (y_move rfl) ?_; clear hs; intro a w hs
 refine sy hs (y_buildS (places := [(0, 1), (1, 1), (2, 1)]) (cs := [.int .i64 (p0), .string (p1), a2]) rfl Tryd.underlying35 ti35 (by kernel_rfl) (by decide) rfl ⟨rfl, rfl, hR2.one, trivial⟩) ?_; clear hs; intro a w hs
 refine RL_storeAll (i := 0) hs rfl rfl rfl ti35 ⟨rfl, rfl⟩ (AllC.arr (r := [.int .i64 (p0), .string (p1), a2]) ⟨rfl, rfl, hR2.one, trivial⟩) (.free rfl) ?_; clear hs; intro a w hs
 replace hs : St _ _ _ (.blk b5 (.cells #[.int .i64 (p0), .string (p1), a2] 35 (0, 0)) :: L) _ _ _ := hs
 refine RL_nil ?_
 refine hK2 _ _ ?_; clear hK2
 refine W_ret ?_
 obtain rfl := Option.some.inj hm
 refine RtV1 hs rfl (rv_a hs rfl Tryd.underlying35 rfl ti35 (fun j u hj => Cell.blk (.head _) hj) rfl) ?_
 exact ⟨_, f, [], rfl, hle, (hs.subL (.cons _ (.refl _))).cw, [.int .i64 (p0), .string (p1), a2], rfl, rfl, ⟨_, rfl, ⟨rw1, hR2, hW3⟩⟩⟩
/-! casement/casementlaw10.sel -/
def law10_sel (_n : Nat) (p0 : (List sheet_Step)) : Option sheet_Selector :=
  some ({Steps := p0} : sheet_Selector)
set_option maxRecDepth 20000 in
set_option maxHeartbeats 4000000 in
theorem law10_sel_ok (n : Nat) {f : Fz} {p0 : (List sheet_Step)} {a0 : Value} {res : sheet_Selector} (h0 : RS t_sheet_Step f a0 p0) (hm : law10_sel n p0 = some res) : Does Tryd.prog 14 [a0] f [] (fun r f' L' => ∃ (u0 : List Value), L' = [] ∧ r = .agg u0.toArray ∧ t_sheet_Selector.R f' u0 res) := by
 unfold law10_sel at hm
 intro w0 L w hC
 obtain ⟨rw1, hR2, hW3⟩ := h0
 refine enter Tryd.func14 rfl Tryd.ntmps14 (by simp) hC fun a hs => ?_
 have hle := Fz.le.refl f
 refine W_seq fun K1 hK1 => ?_
 refine W_region ?_
 refine RL_alloc hs ti27 (.free rfl) (by decide) ?_; clear hs; intro b5 a w hs
 replace hs : St _ _ _ (.blk b5 (.cells #[(.slice none 0 0)] 27 (0, 0)) :: L) _ _ _ := hs
 refine RL_nil ?_
 refine hK1 _ _ ?_; clear hK1
 refine W_seq fun K2 hK2 => ?_
 refine W_region ?_
 refine sy (v := a0) hs (y_move rfl) ?_; clear hs; intro a w hs
 refine sy hs (y_buildS (places := [(0, 1)]) (cs := [a0]) rfl Tryd.underlying27 ti27 (by kernel_rfl) (by decide) rfl ⟨hR2.one, trivial⟩) ?_; clear hs; intro a w hs
 refine RL_storeAll (i := 0) hs rfl rfl rfl ti27 ⟨rfl, rfl⟩ (AllC.arr (r := [a0]) ⟨hR2.one, trivial⟩) (.free rfl) ?_; clear hs; intro a w hs
 replace hs : St _ _ _ (.blk b5 (.cells #[a0] 27 (0, 0)) :: L) _ _ _ := hs
 refine RL_nil ?_
 refine hK2 _ _ ?_; clear hK2
 refine W_ret ?_
 obtain rfl := Option.some.inj hm
 refine RtV1 hs rfl (rv_a hs rfl Tryd.underlying27 rfl ti27 (fun j u hj => Cell.blk (.head _) hj) rfl) ?_
 exact ⟨_, f, [], rfl, hle, (hs.subL (.cons _ (.refl _))).cw, [a0], rfl, rfl, ⟨_, rfl, ⟨rw1, hR2, hW3⟩⟩⟩
end Go.Proofs.YtmkcglpeidbblaaDoor
