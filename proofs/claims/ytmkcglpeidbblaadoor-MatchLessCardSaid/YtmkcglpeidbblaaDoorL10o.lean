/-
  Walks and laws of this seat; the base is the text Base.
-/
import Derived.Test.YtmkcglpeidbblaaDoorL10n
import Derived.Test.YtmkcglpeidbblaaDoorRows
/-
  Models of functions, and that the functions compute them. Printed by lift.py.
-/
namespace Go.Proofs.YtmkcglpeidbblaaDoor
open Go.RowKit Go.Sl
/-! casement/match.Weigh -/
/-! casement/match.Less -/
def match_Less (_n : Nat) (p0 : match_Weight) (p1 : match_Weight) : Option Bool :=
  (bif (decide (p0.Ids ≠ p1.Ids)) then some (decide (p0.Ids < p1.Ids)) else
  (bif (decide (p0.Tests ≠ p1.Tests)) then some (decide (p0.Tests < p1.Tests)) else
  some (decide (p0.Names < p1.Names))))
set_option maxRecDepth 20000 in
set_option maxHeartbeats 4000000 in
theorem match_Less_ok (n : Nat) {f : Fz} {p0 : match_Weight} {a0 : List Value} {p1 : match_Weight} {a1 : List Value} {res : Bool} (h0 : t_match_Weight.R f a0 p0) (h1 : t_match_Weight.R f a1 p1) (hm : match_Less n p0 p1 = some res) : Gives Tryd.prog 18 [.agg a0.toArray, .agg a1.toArray] f (.bool res) := by
 unfold match_Less at hm
 intro w0 L w hC
 obtain rfl : _ = ([.int .i64 (p0.Ids), .int .i64 (p0.Tests), .int .i64 (p0.Names)] : List Value) := h0
 obtain rfl : _ = ([.int .i64 (p1.Ids), .int .i64 (p1.Tests), .int .i64 (p1.Names)] : List Value) := h1
 refine enter Tryd.func18 rfl Tryd.ntmps18 (by simp) hC fun a hs => ?_
 have hle := Fz.le.refl f
 refine W_seq fun K1 hK1 => ?_
 refine W_region ?_
 refine sbox hs rfl ?_; clear hs; (try clear a w); intro b1 a w hs
 replace hs : St _ _ _ (.blk b1 (.cells #[.int .i64 (p0.Ids), .int .i64 (p0.Tests), .int .i64 (p0.Names)] 53 (0, 0)) :: L) _ _ _ := hs
 refine sbox hs rfl ?_; clear hs; (try clear a w); intro b3 a w hs
 replace hs : St _ _ _ (.blk b3 (.cells #[.int .i64 (p1.Ids), .int .i64 (p1.Tests), .int .i64 (p1.Names)] 53 (0, 0)) :: .blk b1 (.cells #[.int .i64 (p0.Ids), .int .i64 (p0.Tests), .int .i64 (p0.Names)] 53 (0, 0)) :: L) _ _ _ := hs
 refine sy (v := .bool (false)) hs (y_assign rfl) ?_; clear hs; (try clear a w); intro a w hs
 refine RL_nil ?_
 refine hK1 _ _ ?_; clear hK1
 refine W_seq fun K2 hK2 => ?_
 refine W_block fun Qe3 hB3 hO3 => ?_
 refine W_seq fun K4 hK4 => ?_
 refine W_region ?_
 refine sy (v := .pointer (some ⟨b1, 0, none⟩)) hs (y_fieldAddr rfl (FO.of (off := 0) Tryd.underlying53 rfl rfl ti3 (by decide))) ?_; clear hs; (try clear a w); intro a w hs
 refine sy (v := .int .i64 (p0.Ids)) hs (y_ld rfl Tryd.underlying3 rfl (Cell.blk (.tail _ (.head _)) rfl)) ?_; clear hs; (try clear a w); intro a w hs
 refine sy (v := .pointer (some ⟨b3, 0, none⟩)) hs (y_fieldAddr rfl (FO.of (off := 0) Tryd.underlying53 rfl rfl ti3 (by decide))) ?_; clear hs; (try clear a w); intro a w hs
 refine sy (v := .int .i64 (p1.Ids)) hs (y_ld rfl Tryd.underlying3 rfl (Cell.blk (.head _) rfl)) ?_; clear hs; (try clear a w); intro a w hs
 refine sy hs (y_neq rfl rfl) ?_; clear hs; (try clear a w); intro a w hs
 refine sy (v := .bool (decide (p0.Ids ≠ p1.Ids))) hs (y_assign rfl) ?_; clear hs; (try clear a w); intro a w hs
 refine RL_nil ?_
 refine hK4 _ _ ?_; clear hK4
 refine W_cond hs rfl (fun hg5 => ?_) (fun hg5 => ?_)
 ·replace hm := oc_t hg5 hm
  refine W_seq fun K5 hK5 => ?_
  refine W_region ?_
  refine sy (v := .pointer (some ⟨b1, 0, none⟩)) hs (y_fieldAddr rfl (FO.of (off := 0) Tryd.underlying53 rfl rfl ti3 (by decide))) ?_; clear hs; (try clear a w); intro a w hs
  refine sy (v := .int .i64 (p0.Ids)) hs (y_ld rfl Tryd.underlying3 rfl (Cell.blk (.tail _ (.head _)) rfl)) ?_; clear hs; (try clear a w); intro a w hs
  refine sy (v := .pointer (some ⟨b3, 0, none⟩)) hs (y_fieldAddr rfl (FO.of (off := 0) Tryd.underlying53 rfl rfl ti3 (by decide))) ?_; clear hs; (try clear a w); intro a w hs
  refine sy (v := .int .i64 (p1.Ids)) hs (y_ld rfl Tryd.underlying3 rfl (Cell.blk (.head _) rfl)) ?_; clear hs; (try clear a w); intro a w hs
  refine sy hs (y_lss rfl rfl) ?_; clear hs; (try clear a w); intro a w hs
  refine sy (v := .bool (decide (p0.Ids < p1.Ids))) hs (y_assign rfl) ?_; clear hs; (try clear a w); intro a w hs
  refine RL_nil ?_
  refine hK5 _ _ ?_; clear hK5
  refine W_ret ?_
  obtain rfl := Option.some.inj hm
  refine RtV1 hs rfl (rv_t hs rfl) ?_
  exact ⟨rfl, ((hs.subL (.cons _ (.cons _ (.refl _)))).weak hle).cw⟩
 ·replace hm := oc_f hg5 hm
  refine W_seq fun K6 hK6 => ?_
  refine W_region ?_
  refine sy (v := .pointer (some ⟨b1, 1, none⟩)) hs (y_fieldAddr rfl (FO.of (off := 1) Tryd.underlying53 rfl rfl ti3 (by decide))) ?_; clear hs; (try clear a w); intro a w hs
  refine sy (v := .int .i64 (p0.Tests)) hs (y_ld rfl Tryd.underlying3 rfl (Cell.blk (.tail _ (.head _)) rfl)) ?_; clear hs; (try clear a w); intro a w hs
  refine sy (v := .pointer (some ⟨b3, 1, none⟩)) hs (y_fieldAddr rfl (FO.of (off := 1) Tryd.underlying53 rfl rfl ti3 (by decide))) ?_; clear hs; (try clear a w); intro a w hs
  refine sy (v := .int .i64 (p1.Tests)) hs (y_ld rfl Tryd.underlying3 rfl (Cell.blk (.head _) rfl)) ?_; clear hs; (try clear a w); intro a w hs
  refine sy hs (y_neq rfl rfl) ?_; clear hs; (try clear a w); intro a w hs
  refine sy (v := .bool (decide (p0.Tests ≠ p1.Tests))) hs (y_assign rfl) ?_; clear hs; (try clear a w); intro a w hs
  refine RL_nil ?_
  refine hK6 _ _ ?_; clear hK6
  refine W_cond hs rfl (fun hg6 => ?_) (fun hg6 => ?_)
  ·replace hm := oc_t hg6 hm
   refine W_seq fun K7 hK7 => ?_
   refine W_region ?_
   refine sy (v := .pointer (some ⟨b1, 1, none⟩)) hs (y_fieldAddr rfl (FO.of (off := 1) Tryd.underlying53 rfl rfl ti3 (by decide))) ?_; clear hs; (try clear a w); intro a w hs
   refine sy (v := .int .i64 (p0.Tests)) hs (y_ld rfl Tryd.underlying3 rfl (Cell.blk (.tail _ (.head _)) rfl)) ?_; clear hs; (try clear a w); intro a w hs
   refine sy (v := .pointer (some ⟨b3, 1, none⟩)) hs (y_fieldAddr rfl (FO.of (off := 1) Tryd.underlying53 rfl rfl ti3 (by decide))) ?_; clear hs; (try clear a w); intro a w hs
   refine sy (v := .int .i64 (p1.Tests)) hs (y_ld rfl Tryd.underlying3 rfl (Cell.blk (.head _) rfl)) ?_; clear hs; (try clear a w); intro a w hs
   refine sy hs (y_lss rfl rfl) ?_; clear hs; (try clear a w); intro a w hs
   refine sy (v := .bool (decide (p0.Tests < p1.Tests))) hs (y_assign rfl) ?_; clear hs; (try clear a w); intro a w hs
   refine RL_nil ?_
   refine hK7 _ _ ?_; clear hK7
   refine W_ret ?_
   obtain rfl := Option.some.inj hm
   refine RtV1 hs rfl (rv_t hs rfl) ?_
   exact ⟨rfl, ((hs.subL (.cons _ (.cons _ (.refl _)))).weak hle).cw⟩
  ·replace hm := oc_f hg6 hm
   refine W_skip ?_
   refine hK2 _ _ ?_; clear hK2
   refine W_seq fun K8 hK8 => ?_
   refine W_region ?_
   refine sy (v := .pointer (some ⟨b1, 2, none⟩)) hs (y_fieldAddr rfl (FO.of (off := 2) Tryd.underlying53 rfl rfl ti3 (by decide))) ?_; clear hs; (try clear a w); intro a w hs
   refine sy (v := .int .i64 (p0.Names)) hs (y_ld rfl Tryd.underlying3 rfl (Cell.blk (.tail _ (.head _)) rfl)) ?_; clear hs; (try clear a w); intro a w hs
   refine sy (v := .pointer (some ⟨b3, 2, none⟩)) hs (y_fieldAddr rfl (FO.of (off := 2) Tryd.underlying53 rfl rfl ti3 (by decide))) ?_; clear hs; (try clear a w); intro a w hs
   refine sy (v := .int .i64 (p1.Names)) hs (y_ld rfl Tryd.underlying3 rfl (Cell.blk (.head _) rfl)) ?_; clear hs; (try clear a w); intro a w hs
   refine sy hs (y_lss rfl rfl) ?_; clear hs; (try clear a w); intro a w hs
   refine sy (v := .bool (decide (p0.Names < p1.Names))) hs (y_assign rfl) ?_; clear hs; (try clear a w); intro a w hs
   refine RL_nil ?_
   refine hK8 _ _ ?_; clear hK8
   refine W_ret ?_
   obtain rfl := Option.some.inj hm
   refine RtV1 hs rfl (rv_t hs rfl) ?_
   exact ⟨rfl, ((hs.subL (.cons _ (.cons _ (.refl _)))).weak hle).cw⟩
/-! casement/match.Best -/
/-! casement/match.All -/
end Go.Proofs.YtmkcglpeidbblaaDoor
