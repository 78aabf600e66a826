/-
  Walks and laws of this seat; the base is the text Base.
-/
import Derived.Test.YtmkcglpeidbblaaDoorY10
import Derived.Test.YtmkcglpeidbblaaDoorRows
/-
  Models of functions, and that the functions compute them. Printed by lift.py.
-/
namespace Go.Proofs.YtmkcglpeidbblaaDoor
open Go.RowKit Go.Sl
/-! casement/match.holds$1 -/
def match_holds_1 (_n : Nat) (p0 : Int) : Option Bool :=
  some ((decide (p0 = 9)) || ((decide (p0 = 10)) || ((decide (p0 = 12)) || (decide (p0 = 32)))))
set_option maxRecDepth 20000 in
set_option maxHeartbeats 4000000 in
theorem match_holds_1_ok (n : Nat) {f : Fz} {p0 : Int} {res : Bool}  (hm : match_holds_1 n p0 = some res) : Gives Tryd.prog 46 [.int .i32 p0] f (.bool res) := by
 unfold match_holds_1 at hm
 intro w0 L w hC
 refine enter Tryd.func46 rfl Tryd.ntmps46 (by simp) hC fun a hs => ?_
 have hle := Fz.le.refl f
 refine W_seq fun K1 hK1 => ?_
 refine W_region ?_
 refine sy (v := .bool (false)) hs (y_assign rfl) ?_; clear hs; (try clear a w); intro a w hs
 refine RL_nil ?_
 refine hK1 _ _ ?_; clear hK1
 refine W_seq fun K2 hK2 => ?_
 refine W_post (fun a w => St 17 w0 f (L) [(2, .bool (((decide (p0 = 9)) || ((decide (p0 = 10)) || ((decide (p0 = 12)) || (decide (p0 = 32)))))))] a w) ?_ ?_
 ·clear hs; intro a w hs
  refine hK2 _ _ ?_; clear hK2
  refine W_ret ?_
  obtain rfl := Option.some.inj hm
  refine RtV1 hs rfl (rv_t hs rfl) ?_
  exact ⟨rfl, (hs.weak hle).cw⟩
 ·refine W_region ?_
  refine sy (v := .int .i32 (p0)) hs (y_move rfl) ?_; clear hs; (try clear a w); intro a w hs
  refine sy hs (y_eql rfl rfl) ?_; clear hs; (try clear a w); intro a w hs
  refine sy (v := .bool (decide (p0 = 9))) hs (y_move rfl) ?_; clear hs; (try clear a w); intro a w hs
  refine St.split hs (t := 5) rfl (fun hg1 hq => ?_) (fun hg1 hq => ?_)
  ·clear hs; have hs := hq; clear hq
   refine sno hs ?_; clear hs; (try clear a w); intro a w hs
   refine sno hs ?_; clear hs; (try clear a w); intro a w hs
   refine sy (v := .bool (true)) hs (y_pick rfl rfl) ?_; clear hs; (try clear a w); intro a w hs
   refine sy (v := .bool (true)) hs (y_move rfl) ?_; clear hs; (try clear a w); intro a w hs
   refine sno hs ?_; clear hs; (try clear a w); intro a w hs
   refine sno hs ?_; clear hs; (try clear a w); intro a w hs
   refine sy (v := .bool (true)) hs (y_pick rfl rfl) ?_; clear hs; (try clear a w); intro a w hs
   refine sy (v := .bool (true)) hs (y_move rfl) ?_; clear hs; (try clear a w); intro a w hs
   refine sno hs ?_; clear hs; (try clear a w); intro a w hs
   refine sno hs ?_; clear hs; (try clear a w); intro a w hs
   refine sy (v := .bool (true)) hs (y_pick rfl rfl) ?_; clear hs; (try clear a w); intro a w hs
   refine sy (v := .bool (true)) hs (y_assign rfl) ?_; clear hs; (try clear a w); intro a w hs
   refine RL_nil ?_
   exact hs.sub ⟨(lkB (((or_t hg1).trans rfl)) rfl), trivial⟩
  ·clear hs; have hs := hq; clear hq
   refine syg (v := .int .i32 (p0)) hs (y_move rfl) ?_; clear hs; (try clear a w); intro a w hs
   refine syg hs (y_eql rfl rfl) ?_; clear hs; (try clear a w); intro a w hs
   refine sy (v := .bool (decide (p0 = 10))) hs (y_pick rfl rfl) ?_; clear hs; (try clear a w); intro a w hs
   refine sy (v := .bool (decide (p0 = 10))) hs (y_move rfl) ?_; clear hs; (try clear a w); intro a w hs
   refine St.split hs (t := 9) rfl (fun hg2 hq => ?_) (fun hg2 hq => ?_)
   ·clear hs; have hs := hq; clear hq
    refine sno hs ?_; clear hs; (try clear a w); intro a w hs
    refine sno hs ?_; clear hs; (try clear a w); intro a w hs
    refine sy (v := .bool (true)) hs (y_pick rfl rfl) ?_; clear hs; (try clear a w); intro a w hs
    refine sy (v := .bool (true)) hs (y_move rfl) ?_; clear hs; (try clear a w); intro a w hs
    refine sno hs ?_; clear hs; (try clear a w); intro a w hs
    refine sno hs ?_; clear hs; (try clear a w); intro a w hs
    refine sy (v := .bool (true)) hs (y_pick rfl rfl) ?_; clear hs; (try clear a w); intro a w hs
    refine sy (v := .bool (true)) hs (y_assign rfl) ?_; clear hs; (try clear a w); intro a w hs
    refine RL_nil ?_
    exact hs.sub ⟨(lkB (((or_f hg1).trans ((or_t hg2).trans rfl))) rfl), trivial⟩
   ·clear hs; have hs := hq; clear hq
    refine syg (v := .int .i32 (p0)) hs (y_move rfl) ?_; clear hs; (try clear a w); intro a w hs
    refine syg hs (y_eql rfl rfl) ?_; clear hs; (try clear a w); intro a w hs
    refine sy (v := .bool (decide (p0 = 12))) hs (y_pick rfl rfl) ?_; clear hs; (try clear a w); intro a w hs
    refine sy (v := .bool (decide (p0 = 12))) hs (y_move rfl) ?_; clear hs; (try clear a w); intro a w hs
    refine St.split hs (t := 13) rfl (fun hg3 hq => ?_) (fun hg3 hq => ?_)
    ·clear hs; have hs := hq; clear hq
     refine sno hs ?_; clear hs; (try clear a w); intro a w hs
     refine sno hs ?_; clear hs; (try clear a w); intro a w hs
     refine sy (v := .bool (true)) hs (y_pick rfl rfl) ?_; clear hs; (try clear a w); intro a w hs
     refine sy (v := .bool (true)) hs (y_assign rfl) ?_; clear hs; (try clear a w); intro a w hs
     refine RL_nil ?_
     exact hs.sub ⟨(lkB (((or_f hg1).trans ((or_f hg2).trans ((or_t hg3).trans rfl)))) rfl), trivial⟩
    ·clear hs; have hs := hq; clear hq
     refine syg (v := .int .i32 (p0)) hs (y_move rfl) ?_; clear hs; (try clear a w); intro a w hs
     refine syg hs (y_eql rfl rfl) ?_; clear hs; (try clear a w); intro a w hs
     refine sy (v := .bool (decide (p0 = 32))) hs (y_pick rfl rfl) ?_; clear hs; (try clear a w); intro a w hs
     refine sy (v := .bool (decide (p0 = 32))) hs (y_assign rfl) ?_; clear hs; (try clear a w); intro a w hs
     refine RL_nil ?_
     exact hs.sub ⟨(lkB (((or_f hg1).trans ((or_f hg2).trans ((or_f hg3).trans rfl)))) rfl), trivial⟩
/-! casement/match.small$1 -/
def match_small_1 (_n : Nat) (p0 : Int) : Option Int :=
  (bif ((decide (65 ≤ p0)) && (decide (p0 ≤ 90))) then some (IntKind.i32.wrap ((IntKind.i32.wrap (p0 + 97)) - 65)) else
  some p0)
set_option maxRecDepth 20000 in
set_option maxHeartbeats 4000000 in
theorem match_small_1_ok (n : Nat) {f : Fz} {p0 : Int} {res : Int}  (hm : match_small_1 n p0 = some res) : Gives Tryd.prog 55 [.int .i32 p0] f (.int .i32 res) := by
 unfold match_small_1 at hm
 intro w0 L w hC
 refine enter Tryd.func55 rfl Tryd.ntmps55 (by simp) hC fun a hs => ?_
 have hle := Fz.le.refl f
 refine W_seq fun K1 hK1 => ?_
 refine W_region ?_
 refine sy (v := .int .i32 (0)) hs (y_assign rfl) ?_; clear hs; (try clear a w); intro a w hs
 refine RL_nil ?_
 refine hK1 _ _ ?_; clear hK1
 refine W_seq fun K2 hK2 => ?_
 refine W_seq fun K3 hK3 => ?_
 refine W_post (fun a w => St 13 w0 f (L) [(0, .int .i32 (p0)), (8, .bool (((decide (65 ≤ p0)) && (decide (p0 ≤ 90)))))] a w) ?_ ?_
 ·clear hs; intro a w hs
  refine hK3 _ _ ?_; clear hK3
  refine W_cond hs rfl (fun hg1 => ?_) (fun hg1 => ?_)
  ·replace hm := oc_t hg1 hm
   refine W_seq fun K4 hK4 => ?_
   refine W_region ?_
   refine sy (v := .int .i32 (p0)) hs (y_move rfl) ?_; clear hs; (try clear a w); intro a w hs
   refine sy hs (y_add rfl rfl rfl) ?_; clear hs; (try clear a w); intro a w hs
   refine sy hs (y_sub rfl rfl rfl) ?_; clear hs; (try clear a w); intro a w hs
   refine sy (v := .int .i32 ((IntKind.i32.wrap ((IntKind.i32.wrap (p0 + 97)) - 65)))) hs (y_assign rfl) ?_; clear hs; (try clear a w); intro a w hs
   refine RL_nil ?_
   refine hK4 _ _ ?_; clear hK4
   refine W_ret ?_
   obtain rfl := Option.some.inj hm
   refine RtV1 hs rfl (rv_t hs rfl) ?_
   exact ⟨rfl, (hs.weak hle).cw⟩
  ·replace hm := oc_f hg1 hm
   refine W_skip ?_
   refine hK2 _ _ ?_; clear hK2
   refine W_seq fun K5 hK5 => ?_
   refine W_region ?_
   refine sy (v := .int .i32 (p0)) hs (y_move rfl) ?_; clear hs; (try clear a w); intro a w hs
   refine sy (v := .int .i32 (p0)) hs (y_assign rfl) ?_; clear hs; (try clear a w); intro a w hs
   refine RL_nil ?_
   refine hK5 _ _ ?_; clear hK5
   refine W_ret ?_
   obtain rfl := Option.some.inj hm
   refine RtV1 hs rfl (rv_t hs rfl) ?_
   exact ⟨rfl, (hs.weak hle).cw⟩
 ·refine W_region ?_
  refine sy (v := .int .i32 (p0)) hs (y_move rfl) ?_; clear hs; (try clear a w); intro a w hs
  refine sy hs (y_geq rfl rfl) ?_; clear hs; (try clear a w); intro a w hs
  refine sy (v := .bool (decide (65 ≤ p0))) hs (y_move rfl) ?_; clear hs; (try clear a w); intro a w hs
  refine St.split hs (t := 5) rfl (fun hg2 hq => ?_) (fun hg2 hq => ?_)
  ·clear hs; have hs := hq; clear hq
   refine syg (v := .int .i32 (p0)) hs (y_move rfl) ?_; clear hs; (try clear a w); intro a w hs
   refine syg hs (y_leq rfl rfl) ?_; clear hs; (try clear a w); intro a w hs
   refine sy (v := .bool (decide (p0 ≤ 90))) hs (y_pick rfl rfl) ?_; clear hs; (try clear a w); intro a w hs
   refine RL_nil ?_
   exact hs.sub ⟨rfl, (lkB (((and_t hg2).trans rfl)) rfl), trivial⟩
  ·clear hs; have hs := hq; clear hq
   refine sno hs ?_; clear hs; (try clear a w); intro a w hs
   refine sno hs ?_; clear hs; (try clear a w); intro a w hs
   refine sy (v := .bool (false)) hs (y_pick rfl rfl) ?_; clear hs; (try clear a w); intro a w hs
   refine RL_nil ?_
   exact hs.sub ⟨rfl, (lkB (((and_f hg2).trans rfl)) rfl), trivial⟩
end Go.Proofs.YtmkcglpeidbblaaDoor
