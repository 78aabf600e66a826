/-
  Walks and laws of this seat; the base is the text Base.
-/
import Derived.Test.YtmkcglpeidbblaaDoorL10k
import Derived.Test.YtmkcglpeidbblaaDoorRows
/-
  Models of functions, and that the functions compute them. Printed by lift.py.
-/
namespace Go.Proofs.YtmkcglpeidbblaaDoor
open Go.RowKit Go.Sl
/-! casement/casementlaw10.MatchLess -/
def law10_MatchLess_k2 (y9 : Bool) : Option Bool :=
  some y9
def law10_MatchLess_k1 (n : Nat) (p0 : match_Weight) (p1 : match_Weight) (p2 : match_Weight) (y7 : Bool) : Option Bool :=
  (bif y7 then some false else
  (match_Less n p0 p1).bind fun x10 =>
  (bif (!x10) then (law10_known n).bind fun x13 =>
  law10_MatchLess_k2 x13 else
  (match_Less n p1 p2).bind fun x15 =>
  (bif (!x15) then (law10_known n).bind fun x18 =>
  law10_MatchLess_k2 x18 else
  (match_Less n p0 p2).bind fun x20 =>
  (bif x20 then (law10_known n).bind fun x23 =>
  law10_MatchLess_k2 x23 else
  law10_MatchLess_k2 false))))
def law10_MatchLess (n : Nat) (p0 : match_Weight) (p1 : match_Weight) (p2 : match_Weight) : Option Bool :=
  (match_Less n p0 p0).bind fun x25 =>
  (bif x25 then law10_MatchLess_k1 n p0 p1 p2 true else
  (match_Less n p0 p1).bind fun x28 =>
  (bif x28 then (match_Less n p1 p0).bind fun x31 =>
  (bif x31 then law10_MatchLess_k1 n p0 p1 p2 true else
  (bif (!(decide (p0.Ids = p1.Ids) && (decide (p0.Tests = p1.Tests) && (decide (p0.Names = p1.Names) && true)))) then (match_Less n p0 p1).bind fun x35 =>
  (bif (!x35) then (match_Less n p1 p0).bind fun x38 =>
  law10_MatchLess_k1 n p0 p1 p2 (!x38) else
  law10_MatchLess_k1 n p0 p1 p2 false) else
  law10_MatchLess_k1 n p0 p1 p2 false)) else
  (bif (!(decide (p0.Ids = p1.Ids) && (decide (p0.Tests = p1.Tests) && (decide (p0.Names = p1.Names) && true)))) then (match_Less n p0 p1).bind fun x41 =>
  (bif (!x41) then (match_Less n p1 p0).bind fun x44 =>
  law10_MatchLess_k1 n p0 p1 p2 (!x44) else
  law10_MatchLess_k1 n p0 p1 p2 false) else
  law10_MatchLess_k1 n p0 p1 p2 false)))
set_option maxRecDepth 20000 in
set_option maxHeartbeats 4000000 in
theorem law10_MatchLess_ok (n : Nat) {f : Fz} {o0 : Obj} {o1 : Obj} {p0 : match_Weight} {a0 : List Value} {p1 : match_Weight} {a1 : List Value} {p2 : match_Weight} {a2 : List Value} {res : Bool} (hT0 : f 0 = some o0) (hT1 : f 1 = some o1) (hTT : Tabs o0 o1) (h0 : t_match_Weight.R f a0 p0) (h1 : t_match_Weight.R f a1 p1) (h2 : t_match_Weight.R f a2 p2) (hm : law10_MatchLess n p0 p1 p2 = some res) : Gives Tryd.prog 6 [.agg a0.toArray, .agg a1.toArray, .agg a2.toArray] f (.bool res) := by
 unfold law10_MatchLess at hm
 intro w0 L w hC
 obtain rfl : _ = ([.int .i64 (p0.Ids), .int .i64 (p0.Tests), .int .i64 (p0.Names)] : List Value) := h0
 obtain rfl : _ = ([.int .i64 (p1.Ids), .int .i64 (p1.Tests), .int .i64 (p1.Names)] : List Value) := h1
 obtain rfl : _ = ([.int .i64 (p2.Ids), .int .i64 (p2.Tests), .int .i64 (p2.Names)] : List Value) := h2
 refine enter Tryd.func6 rfl Tryd.ntmps6 (by simp) hC fun a hs => ?_
 have hle := Fz.le.refl f
 refine W_seq fun K1 hK1 => ?_
 refine W_region ?_
 refine sbox hs rfl ?_; clear hs; (try clear a w); intro b1 a w hs
 replace hs : St _ _ _ (.blk b1 (.cells #[.int .i64 (p0.Ids), .int .i64 (p0.Tests), .int .i64 (p0.Names)] 53 (0, 0)) :: L) _ _ _ := hs
 refine sbox hs rfl ?_; clear hs; (try clear a w); intro b3 a w hs
 replace hs : St _ _ _ (.blk b3 (.cells #[.int .i64 (p1.Ids), .int .i64 (p1.Tests), .int .i64 (p1.Names)] 53 (0, 0)) :: .blk b1 (.cells #[.int .i64 (p0.Ids), .int .i64 (p0.Tests), .int .i64 (p0.Names)] 53 (0, 0)) :: L) _ _ _ := hs
 refine sbox hs rfl ?_; clear hs; (try clear a w); intro b5 a w hs
 replace hs : St _ _ _ (.blk b5 (.cells #[.int .i64 (p2.Ids), .int .i64 (p2.Tests), .int .i64 (p2.Names)] 53 (0, 0)) :: .blk b3 (.cells #[.int .i64 (p1.Ids), .int .i64 (p1.Tests), .int .i64 (p1.Names)] 53 (0, 0)) :: .blk b1 (.cells #[.int .i64 (p0.Ids), .int .i64 (p0.Tests), .int .i64 (p0.Names)] 53 (0, 0)) :: L) _ _ _ := hs
 refine sy (v := .bool (false)) hs (y_assign rfl) ?_; clear hs; (try clear a w); intro a w hs
 refine RL_nil ?_
 refine hK1 _ _ ?_; clear hK1
 refine W_seq fun K2 hK2 => ?_
 refine W_seq fun K3 hK3 => ?_
 refine W_post (fun a w => ∃ (y7 : Bool), law10_MatchLess_k1 n p0 p1 p2 y7 = some res ∧ St 55 w0 f (.blk b5 (.cells #[.int .i64 (p2.Ids), .int .i64 (p2.Tests), .int .i64 (p2.Names)] 53 (0, 0)) :: .blk b3 (.cells #[.int .i64 (p1.Ids), .int .i64 (p1.Tests), .int .i64 (p1.Names)] 53 (0, 0)) :: .blk b1 (.cells #[.int .i64 (p0.Ids), .int .i64 (p0.Tests), .int .i64 (p0.Names)] 53 (0, 0)) :: L) [(3, .pointer (some ⟨b1, 0, none⟩)), (4, .pointer (some ⟨b3, 0, none⟩)), (5, .pointer (some ⟨b5, 0, none⟩)), (36, .bool (y7))] a w) ?_ ?_
 ·clear hs hm
  rintro a w ⟨y7, hm, hs⟩
  replace hs : St _ _ _ (.blk b5 (.cells #[.int .i64 (p2.Ids), .int .i64 (p2.Tests), .int .i64 (p2.Names)] 53 (0, 0)) :: .blk b3 (.cells #[.int .i64 (p1.Ids), .int .i64 (p1.Tests), .int .i64 (p1.Names)] 53 (0, 0)) :: .blk b1 (.cells #[.int .i64 (p0.Ids), .int .i64 (p0.Tests), .int .i64 (p0.Names)] 53 (0, 0)) :: L) _ _ _ := hs
  unfold law10_MatchLess_k1 at hm
  refine hK3 _ _ ?_; clear hK3
  refine W_cond hs rfl (fun hg8 => ?_) (fun hg8 => ?_)
  ·replace hm := oc_t hg8 hm
   refine W_seq fun K4 hK4 => ?_
   refine W_region ?_
   refine sy (v := .bool (false)) hs (y_assign rfl) ?_; clear hs; (try clear a w); intro a w hs
   refine RL_nil ?_
   refine hK4 _ _ ?_; clear hK4
   refine W_ret ?_
   obtain rfl := Option.some.inj hm
   refine RtV1 hs rfl (rv_t hs rfl) ?_
   exact ⟨rfl, ((hs.subL (.cons _ (.cons _ (.cons _ (.refl _))))).weak hle).cw⟩
  ·replace hm := oc_f hg8 hm
   refine W_skip ?_
   refine hK2 _ _ ?_; clear hK2
   refine W_seq fun K5 hK5 => ?_
   refine W_post (fun a w => ∃ (y9 : Bool), law10_MatchLess_k2 y9 = some res ∧ St 55 w0 f (L) [(6, .bool (y9))] a w) ?_ ?_
   ·clear hs hm
    rintro a w ⟨y9, hm, hs⟩
    replace hs : St _ _ _ (L) _ _ _ := hs
    unfold law10_MatchLess_k2 at hm
    refine hK5 _ _ ?_; clear hK5
    refine W_ret ?_
    obtain rfl := Option.some.inj hm
    refine RtV1 hs rfl (rv_t hs rfl) ?_
    exact ⟨rfl, (hs.weak hle).cw⟩
   ·refine W_region ?_
    refine sy hs (y_ldB rfl Tryd.underlying53 rfl ti53 (.tail _ (.tail _ (.head _))) rfl) ?_; clear hs; (try clear a w); intro a w hs
    refine sy hs (y_ldB rfl Tryd.underlying53 rfl ti53 (.tail _ (.head _)) rfl) ?_; clear hs; (try clear a w); intro a w hs
    obtain ⟨x10, hx11, hm⟩ := ob hm
    refine sy hs (y_call rfl has18 rfl (match_Less_ok n (f := f) (a0 := [.int .i64 (p0.Ids), .int .i64 (p0.Tests), .int .i64 (p0.Names)]) (a1 := [.int .i64 (p1.Ids), .int .i64 (p1.Tests), .int .i64 (p1.Names)]) rfl rfl hx11)) ?_; clear hs; (try clear a w); intro a w hs
    refine sy (v := .bool ((!x10))) hs (y_not rfl) ?_; clear hs; (try clear a w); intro a w hs
    refine sy (v := .bool ((!x10))) hs (y_move rfl) ?_; clear hs; (try clear a w); intro a w hs
    refine St.split hs (t := 41) rfl (fun hg12 hq => ?_) (fun hg12 hq => ?_)
    ·clear hs; have hs := hq; clear hq
     replace hm := oc_t hg12 hm
     refine sno hs ?_; clear hs; (try clear a w); intro a w hs
     refine sno hs ?_; clear hs; (try clear a w); intro a w hs
     refine sno hs ?_; clear hs; (try clear a w); intro a w hs
     refine sno hs ?_; clear hs; (try clear a w); intro a w hs
     refine sy (v := .bool (true)) hs (y_pick rfl rfl) ?_; clear hs; (try clear a w); intro a w hs
     refine sy (v := .bool (true)) hs (y_move rfl) ?_; clear hs; (try clear a w); intro a w hs
     refine sno hs ?_; clear hs; (try clear a w); intro a w hs
     refine sno hs ?_; clear hs; (try clear a w); intro a w hs
     refine sno hs ?_; clear hs; (try clear a w); intro a w hs
     refine sy (v := .bool (true)) hs (y_pick rfl rfl) ?_; clear hs; (try clear a w); intro a w hs
     refine sy (v := .bool (true)) hs (y_move rfl) ?_; clear hs; (try clear a w); intro a w hs
     obtain ⟨x13, hx14, hm⟩ := ob hm
     refine syg hs (y_call rfl has11 rfl (law10_known_ok n (f := f)  hT0 hT1 hTT hx14)) ?_; clear hs; (try clear a w); intro a w hs
     refine sy (v := .bool (x13)) hs (y_pick rfl rfl) ?_; clear hs; (try clear a w); intro a w hs
     refine sy (v := .bool (x13)) hs (y_assign rfl) ?_; clear hs; (try clear a w); intro a w hs
     refine RL_nil ?_
     exact ⟨x13, hm, hs.subs ⟨rfl, trivial⟩ (.cons _ (.cons _ (.cons _ (.refl _))))⟩
    ·clear hs; have hs := hq; clear hq
     replace hm := oc_f hg12 hm
     refine syg hs (y_ldB rfl Tryd.underlying53 rfl ti53 (.tail _ (.head _)) rfl) ?_; clear hs; (try clear a w); intro a w hs
     refine syg hs (y_ldB rfl Tryd.underlying53 rfl ti53 (.head _) rfl) ?_; clear hs; (try clear a w); intro a w hs
     obtain ⟨x15, hx16, hm⟩ := ob hm
     refine syg hs (y_call rfl has18 rfl (match_Less_ok n (f := f) (a0 := [.int .i64 (p1.Ids), .int .i64 (p1.Tests), .int .i64 (p1.Names)]) (a1 := [.int .i64 (p2.Ids), .int .i64 (p2.Tests), .int .i64 (p2.Names)]) rfl rfl hx16)) ?_; clear hs; (try clear a w); intro a w hs
     refine syg (v := .bool ((!x15))) hs (y_not rfl) ?_; clear hs; (try clear a w); intro a w hs
     refine sy (v := .bool ((!x15))) hs (y_pick rfl rfl) ?_; clear hs; (try clear a w); intro a w hs
     refine sy (v := .bool ((!x15))) hs (y_move rfl) ?_; clear hs; (try clear a w); intro a w hs
     refine St.split hs (t := 47) rfl (fun hg17 hq => ?_) (fun hg17 hq => ?_)
     ·clear hs; have hs := hq; clear hq
      replace hm := oc_t hg17 hm
      refine sno hs ?_; clear hs; (try clear a w); intro a w hs
      refine sno hs ?_; clear hs; (try clear a w); intro a w hs
      refine sno hs ?_; clear hs; (try clear a w); intro a w hs
      refine sy (v := .bool (true)) hs (y_pick rfl rfl) ?_; clear hs; (try clear a w); intro a w hs
      refine sy (v := .bool (true)) hs (y_move rfl) ?_; clear hs; (try clear a w); intro a w hs
      obtain ⟨x18, hx19, hm⟩ := ob hm
      refine syg hs (y_call rfl has11 rfl (law10_known_ok n (f := f)  hT0 hT1 hTT hx19)) ?_; clear hs; (try clear a w); intro a w hs
      refine sy (v := .bool (x18)) hs (y_pick rfl rfl) ?_; clear hs; (try clear a w); intro a w hs
      refine sy (v := .bool (x18)) hs (y_assign rfl) ?_; clear hs; (try clear a w); intro a w hs
      refine RL_nil ?_
      exact ⟨x18, hm, hs.subs ⟨rfl, trivial⟩ (.cons _ (.cons _ (.cons _ (.refl _))))⟩
     ·clear hs; have hs := hq; clear hq
      replace hm := oc_f hg17 hm
      refine syg hs (y_ldB rfl Tryd.underlying53 rfl ti53 (.tail _ (.tail _ (.head _))) rfl) ?_; clear hs; (try clear a w); intro a w hs
      refine syg hs (y_ldB rfl Tryd.underlying53 rfl ti53 (.head _) rfl) ?_; clear hs; (try clear a w); intro a w hs
      obtain ⟨x20, hx21, hm⟩ := ob hm
      refine syg hs (y_call rfl has18 rfl (match_Less_ok n (f := f) (a0 := [.int .i64 (p0.Ids), .int .i64 (p0.Tests), .int .i64 (p0.Names)]) (a1 := [.int .i64 (p2.Ids), .int .i64 (p2.Tests), .int .i64 (p2.Names)]) rfl rfl hx21)) ?_; clear hs; (try clear a w); intro a w hs
      refine sy (v := .bool (x20)) hs (y_pick rfl rfl) ?_; clear hs; (try clear a w); intro a w hs
      refine sy (v := .bool (x20)) hs (y_move rfl) ?_; clear hs; (try clear a w); intro a w hs
      refine St.split hs (t := 52) rfl (fun hg22 hq => ?_) (fun hg22 hq => ?_)
      ·clear hs; have hs := hq; clear hq
       replace hm := oc_t hg22 hm
       obtain ⟨x23, hx24, hm⟩ := ob hm
       refine syg hs (y_call rfl has11 rfl (law10_known_ok n (f := f)  hT0 hT1 hTT hx24)) ?_; clear hs; (try clear a w); intro a w hs
       refine sy (v := .bool (x23)) hs (y_pick rfl rfl) ?_; clear hs; (try clear a w); intro a w hs
       refine sy (v := .bool (x23)) hs (y_assign rfl) ?_; clear hs; (try clear a w); intro a w hs
       refine RL_nil ?_
       exact ⟨x23, hm, hs.subs ⟨rfl, trivial⟩ (.cons _ (.cons _ (.cons _ (.refl _))))⟩
      ·clear hs; have hs := hq; clear hq
       replace hm := oc_f hg22 hm
       refine sno hs ?_; clear hs; (try clear a w); intro a w hs
       refine sy (v := .bool (false)) hs (y_pick rfl rfl) ?_; clear hs; (try clear a w); intro a w hs
       refine sy (v := .bool (false)) hs (y_assign rfl) ?_; clear hs; (try clear a w); intro a w hs
       refine RL_nil ?_
       exact ⟨false, hm, hs.subs ⟨rfl, trivial⟩ (.cons _ (.cons _ (.cons _ (.refl _))))⟩
 ·refine W_region ?_
  refine sy hs (y_ldB rfl Tryd.underlying53 rfl ti53 (.tail _ (.tail _ (.head _))) rfl) ?_; clear hs; (try clear a w); intro a w hs
  refine sy hs (y_ldB rfl Tryd.underlying53 rfl ti53 (.tail _ (.tail _ (.head _))) rfl) ?_; clear hs; (try clear a w); intro a w hs
  obtain ⟨x25, hx26, hm⟩ := ob hm
  refine sy hs (y_call rfl has18 rfl (match_Less_ok n (f := f) (a0 := [.int .i64 (p0.Ids), .int .i64 (p0.Tests), .int .i64 (p0.Names)]) (a1 := [.int .i64 (p0.Ids), .int .i64 (p0.Tests), .int .i64 (p0.Names)]) rfl rfl hx26)) ?_; clear hs; (try clear a w); intro a w hs
  refine sy (v := .bool (x25)) hs (y_move rfl) ?_; clear hs; (try clear a w); intro a w hs
  refine St.split hs (t := 10) rfl (fun hg27 hq => ?_) (fun hg27 hq => ?_)
  ·clear hs; have hs := hq; clear hq
   replace hm := oc_t hg27 hm
   refine sno hs ?_; clear hs; (try clear a w); intro a w hs
   refine sno hs ?_; clear hs; (try clear a w); intro a w hs
   refine sno hs ?_; clear hs; (try clear a w); intro a w hs
   refine sno hs ?_; clear hs; (try clear a w); intro a w hs
   refine sun hs ?_; clear hs; (try clear a w); intro a w hs
   refine sun hs ?_; clear hs; (try clear a w); intro a w hs
   refine sun hs ?_; clear hs; (try clear a w); intro a w hs
   refine sno hs ?_; clear hs; (try clear a w); intro a w hs
   refine sy (v := .bool (true)) hs (y_pick rfl rfl) ?_; clear hs; (try clear a w); intro a w hs
   refine sy (v := .bool (true)) hs (y_move rfl) ?_; clear hs; (try clear a w); intro a w hs
   refine sno hs ?_; clear hs; (try clear a w); intro a w hs
   refine sno hs ?_; clear hs; (try clear a w); intro a w hs
   refine sno hs ?_; clear hs; (try clear a w); intro a w hs
   refine sno hs ?_; clear hs; (try clear a w); intro a w hs
   refine sun hs ?_; clear hs; (try clear a w); intro a w hs
   refine sun hs ?_; clear hs; (try clear a w); intro a w hs
   refine sun hs ?_; clear hs; (try clear a w); intro a w hs
   refine sun hs ?_; clear hs; (try clear a w); intro a w hs
   refine sno hs ?_; clear hs; (try clear a w); intro a w hs
   refine sno hs ?_; clear hs; (try clear a w); intro a w hs
   refine sun hs ?_; clear hs; (try clear a w); intro a w hs
   refine sun hs ?_; clear hs; (try clear a w); intro a w hs
   refine sun hs ?_; clear hs; (try clear a w); intro a w hs
   refine sun hs ?_; clear hs; (try clear a w); intro a w hs
   refine sno hs ?_; clear hs; (try clear a w); intro a w hs
   refine sy (v := .bool (true)) hs (y_pick rfl rfl) ?_; clear hs; (try clear a w); intro a w hs
   refine RL_nil ?_
   exact ⟨true, hm, hs.sub ⟨rfl, rfl, rfl, rfl, trivial⟩⟩
  ·clear hs; have hs := hq; clear hq
   replace hm := oc_f hg27 hm
   refine syg hs (y_ldB rfl Tryd.underlying53 rfl ti53 (.tail _ (.tail _ (.head _))) rfl) ?_; clear hs; (try clear a w); intro a w hs
   refine syg hs (y_ldB rfl Tryd.underlying53 rfl ti53 (.tail _ (.head _)) rfl) ?_; clear hs; (try clear a w); intro a w hs
   obtain ⟨x28, hx29, hm⟩ := ob hm
   refine syg hs (y_call rfl has18 rfl (match_Less_ok n (f := f) (a0 := [.int .i64 (p0.Ids), .int .i64 (p0.Tests), .int .i64 (p0.Names)]) (a1 := [.int .i64 (p1.Ids), .int .i64 (p1.Tests), .int .i64 (p1.Names)]) rfl rfl hx29)) ?_; clear hs; (try clear a w); intro a w hs
   refine syg (v := .bool (x28)) hs (y_move rfl) ?_; clear hs; (try clear a w); intro a w hs
   refine St.split hs (t := 14) rfl (fun hg30 hq => ?_) (fun hg30 hq => ?_)
   ·clear hs; have hs := hq; clear hq
    replace hm := oc_t hg30 hm
    refine syg hs (y_ldB rfl Tryd.underlying53 rfl ti53 (.tail _ (.head _)) rfl) ?_; clear hs; (try clear a w); intro a w hs
    refine syg hs (y_ldB rfl Tryd.underlying53 rfl ti53 (.tail _ (.tail _ (.head _))) rfl) ?_; clear hs; (try clear a w); intro a w hs
    obtain ⟨x31, hx32, hm⟩ := ob hm
    refine syg hs (y_call rfl has18 rfl (match_Less_ok n (f := f) (a0 := [.int .i64 (p1.Ids), .int .i64 (p1.Tests), .int .i64 (p1.Names)]) (a1 := [.int .i64 (p0.Ids), .int .i64 (p0.Tests), .int .i64 (p0.Names)]) rfl rfl hx32)) ?_; clear hs; (try clear a w); intro a w hs
    refine syg (v := .bool (x31)) hs (y_pick rfl rfl) ?_; clear hs; (try clear a w); intro a w hs
    refine sy (v := .bool (x31)) hs (y_pick rfl rfl) ?_; clear hs; (try clear a w); intro a w hs
    refine sy (v := .bool (x31)) hs (y_move rfl) ?_; clear hs; (try clear a w); intro a w hs
    refine St.split hs (t := 20) rfl (fun hg33 hq => ?_) (fun hg33 hq => ?_)
    ·clear hs; have hs := hq; clear hq
     replace hm := oc_t hg33 hm
     refine sno hs ?_; clear hs; (try clear a w); intro a w hs
     refine sno hs ?_; clear hs; (try clear a w); intro a w hs
     refine sno hs ?_; clear hs; (try clear a w); intro a w hs
     refine sno hs ?_; clear hs; (try clear a w); intro a w hs
     refine sun hs ?_; clear hs; (try clear a w); intro a w hs
     refine sun hs ?_; clear hs; (try clear a w); intro a w hs
     refine sun hs ?_; clear hs; (try clear a w); intro a w hs
     refine sun hs ?_; clear hs; (try clear a w); intro a w hs
     refine sno hs ?_; clear hs; (try clear a w); intro a w hs
     refine sno hs ?_; clear hs; (try clear a w); intro a w hs
     refine sun hs ?_; clear hs; (try clear a w); intro a w hs
     refine sun hs ?_; clear hs; (try clear a w); intro a w hs
     refine sun hs ?_; clear hs; (try clear a w); intro a w hs
     refine sun hs ?_; clear hs; (try clear a w); intro a w hs
     refine sno hs ?_; clear hs; (try clear a w); intro a w hs
     refine sy (v := .bool (true)) hs (y_pick rfl rfl) ?_; clear hs; (try clear a w); intro a w hs
     refine RL_nil ?_
     exact ⟨true, hm, hs.sub ⟨rfl, rfl, rfl, rfl, trivial⟩⟩
    ·clear hs; have hs := hq; clear hq
     replace hm := oc_f hg33 hm
     refine syg hs (y_ldB rfl Tryd.underlying53 rfl ti53 (.tail _ (.tail _ (.head _))) rfl) ?_; clear hs; (try clear a w); intro a w hs
     refine syg hs (y_ldB rfl Tryd.underlying53 rfl ti53 (.tail _ (.head _)) rfl) ?_; clear hs; (try clear a w); intro a w hs
     refine syg hs (y_stneq rfl rfl Tryd.underlying53 (by kernel_rfl) (by kernel_rfl) (fun w => (eqF_int rfl Tryd.underlying3 rfl rfl (eqF_int rfl Tryd.underlying3 rfl rfl (eqF_int rfl Tryd.underlying3 rfl rfl eqF_nil))))) ?_; clear hs; (try clear a w); intro a w hs
     refine syg (v := .bool ((!(decide (p0.Ids = p1.Ids) && (decide (p0.Tests = p1.Tests) && (decide (p0.Names = p1.Names) && true)))))) hs (y_move rfl) ?_; clear hs; (try clear a w); intro a w hs
     refine St.split hs (t := 24) rfl (fun hg34 hq => ?_) (fun hg34 hq => ?_)
     ·clear hs; have hs := hq; clear hq
      replace hm := oc_t hg34 hm
      refine syg hs (y_ldB rfl Tryd.underlying53 rfl ti53 (.tail _ (.tail _ (.head _))) rfl) ?_; clear hs; (try clear a w); intro a w hs
      refine syg hs (y_ldB rfl Tryd.underlying53 rfl ti53 (.tail _ (.head _)) rfl) ?_; clear hs; (try clear a w); intro a w hs
      obtain ⟨x35, hx36, hm⟩ := ob hm
      refine syg hs (y_call rfl has18 rfl (match_Less_ok n (f := f) (a0 := [.int .i64 (p0.Ids), .int .i64 (p0.Tests), .int .i64 (p0.Names)]) (a1 := [.int .i64 (p1.Ids), .int .i64 (p1.Tests), .int .i64 (p1.Names)]) rfl rfl hx36)) ?_; clear hs; (try clear a w); intro a w hs
      refine syg (v := .bool ((!x35))) hs (y_not rfl) ?_; clear hs; (try clear a w); intro a w hs
      refine syg (v := .bool ((!x35))) hs (y_pick rfl rfl) ?_; clear hs; (try clear a w); intro a w hs
      refine syg (v := .bool ((!x35))) hs (y_move rfl) ?_; clear hs; (try clear a w); intro a w hs
      refine St.split hs (t := 30) rfl (fun hg37 hq => ?_) (fun hg37 hq => ?_)
      ·clear hs; have hs := hq; clear hq
       replace hm := oc_t hg37 hm
       refine syg hs (y_ldB rfl Tryd.underlying53 rfl ti53 (.tail _ (.head _)) rfl) ?_; clear hs; (try clear a w); intro a w hs
       refine syg hs (y_ldB rfl Tryd.underlying53 rfl ti53 (.tail _ (.tail _ (.head _))) rfl) ?_; clear hs; (try clear a w); intro a w hs
       obtain ⟨x38, hx39, hm⟩ := ob hm
       refine syg hs (y_call rfl has18 rfl (match_Less_ok n (f := f) (a0 := [.int .i64 (p1.Ids), .int .i64 (p1.Tests), .int .i64 (p1.Names)]) (a1 := [.int .i64 (p0.Ids), .int .i64 (p0.Tests), .int .i64 (p0.Names)]) rfl rfl hx39)) ?_; clear hs; (try clear a w); intro a w hs
       refine syg (v := .bool ((!x38))) hs (y_not rfl) ?_; clear hs; (try clear a w); intro a w hs
       refine syg (v := .bool ((!x38))) hs (y_pick rfl rfl) ?_; clear hs; (try clear a w); intro a w hs
       refine sy (v := .bool ((!x38))) hs (y_pick rfl rfl) ?_; clear hs; (try clear a w); intro a w hs
       refine RL_nil ?_
       exact ⟨(!x38), hm, hs.sub ⟨rfl, rfl, rfl, rfl, trivial⟩⟩
      ·clear hs; have hs := hq; clear hq
       replace hm := oc_f hg37 hm
       refine sno hs ?_; clear hs; (try clear a w); intro a w hs
       refine sno hs ?_; clear hs; (try clear a w); intro a w hs
       refine sno hs ?_; clear hs; (try clear a w); intro a w hs
       refine sno hs ?_; clear hs; (try clear a w); intro a w hs
       refine syg (v := .bool (false)) hs (y_pick rfl rfl) ?_; clear hs; (try clear a w); intro a w hs
       refine sy (v := .bool (false)) hs (y_pick rfl rfl) ?_; clear hs; (try clear a w); intro a w hs
       refine RL_nil ?_
       exact ⟨false, hm, hs.sub ⟨rfl, rfl, rfl, rfl, trivial⟩⟩
     ·clear hs; have hs := hq; clear hq
      replace hm := oc_f hg34 hm
      refine sno hs ?_; clear hs; (try clear a w); intro a w hs
      refine sno hs ?_; clear hs; (try clear a w); intro a w hs
      refine sno hs ?_; clear hs; (try clear a w); intro a w hs
      refine sno hs ?_; clear hs; (try clear a w); intro a w hs
      refine syg (v := .bool (false)) hs (y_pick rfl rfl) ?_; clear hs; (try clear a w); intro a w hs
      refine syg (v := .bool (false)) hs (y_move rfl) ?_; clear hs; (try clear a w); intro a w hs
      refine sno hs ?_; clear hs; (try clear a w); intro a w hs
      refine sno hs ?_; clear hs; (try clear a w); intro a w hs
      refine sno hs ?_; clear hs; (try clear a w); intro a w hs
      refine sno hs ?_; clear hs; (try clear a w); intro a w hs
      refine syg (v := .bool (false)) hs (y_pick rfl rfl) ?_; clear hs; (try clear a w); intro a w hs
      refine sy (v := .bool (false)) hs (y_pick rfl rfl) ?_; clear hs; (try clear a w); intro a w hs
      refine RL_nil ?_
      exact ⟨false, hm, hs.sub ⟨rfl, rfl, rfl, rfl, trivial⟩⟩
   ·clear hs; have hs := hq; clear hq
    replace hm := oc_f hg30 hm
    refine sno hs ?_; clear hs; (try clear a w); intro a w hs
    refine sno hs ?_; clear hs; (try clear a w); intro a w hs
    refine sno hs ?_; clear hs; (try clear a w); intro a w hs
    refine syg (v := .bool (false)) hs (y_pick rfl rfl) ?_; clear hs; (try clear a w); intro a w hs
    refine sy (v := .bool (false)) hs (y_pick rfl rfl) ?_; clear hs; (try clear a w); intro a w hs
    refine sy (v := .bool (false)) hs (y_move rfl) ?_; clear hs; (try clear a w); intro a w hs
    refine syg hs (y_ldB rfl Tryd.underlying53 rfl ti53 (.tail _ (.tail _ (.head _))) rfl) ?_; clear hs; (try clear a w); intro a w hs
    refine syg hs (y_ldB rfl Tryd.underlying53 rfl ti53 (.tail _ (.head _)) rfl) ?_; clear hs; (try clear a w); intro a w hs
    refine syg hs (y_stneq rfl rfl Tryd.underlying53 (by kernel_rfl) (by kernel_rfl) (fun w => (eqF_int rfl Tryd.underlying3 rfl rfl (eqF_int rfl Tryd.underlying3 rfl rfl (eqF_int rfl Tryd.underlying3 rfl rfl eqF_nil))))) ?_; clear hs; (try clear a w); intro a w hs
    refine syg (v := .bool ((!(decide (p0.Ids = p1.Ids) && (decide (p0.Tests = p1.Tests) && (decide (p0.Names = p1.Names) && true)))))) hs (y_move rfl) ?_; clear hs; (try clear a w); intro a w hs
    refine St.split hs (t := 24) rfl (fun hg40 hq => ?_) (fun hg40 hq => ?_)
    ·clear hs; have hs := hq; clear hq
     replace hm := oc_t hg40 hm
     refine syg hs (y_ldB rfl Tryd.underlying53 rfl ti53 (.tail _ (.tail _ (.head _))) rfl) ?_; clear hs; (try clear a w); intro a w hs
     refine syg hs (y_ldB rfl Tryd.underlying53 rfl ti53 (.tail _ (.head _)) rfl) ?_; clear hs; (try clear a w); intro a w hs
     obtain ⟨x41, hx42, hm⟩ := ob hm
     refine syg hs (y_call rfl has18 rfl (match_Less_ok n (f := f) (a0 := [.int .i64 (p0.Ids), .int .i64 (p0.Tests), .int .i64 (p0.Names)]) (a1 := [.int .i64 (p1.Ids), .int .i64 (p1.Tests), .int .i64 (p1.Names)]) rfl rfl hx42)) ?_; clear hs; (try clear a w); intro a w hs
     refine syg (v := .bool ((!x41))) hs (y_not rfl) ?_; clear hs; (try clear a w); intro a w hs
     refine syg (v := .bool ((!x41))) hs (y_pick rfl rfl) ?_; clear hs; (try clear a w); intro a w hs
     refine syg (v := .bool ((!x41))) hs (y_move rfl) ?_; clear hs; (try clear a w); intro a w hs
     refine St.split hs (t := 30) rfl (fun hg43 hq => ?_) (fun hg43 hq => ?_)
     ·clear hs; have hs := hq; clear hq
      replace hm := oc_t hg43 hm
      refine syg hs (y_ldB rfl Tryd.underlying53 rfl ti53 (.tail _ (.head _)) rfl) ?_; clear hs; (try clear a w); intro a w hs
      refine syg hs (y_ldB rfl Tryd.underlying53 rfl ti53 (.tail _ (.tail _ (.head _))) rfl) ?_; clear hs; (try clear a w); intro a w hs
      obtain ⟨x44, hx45, hm⟩ := ob hm
      refine syg hs (y_call rfl has18 rfl (match_Less_ok n (f := f) (a0 := [.int .i64 (p1.Ids), .int .i64 (p1.Tests), .int .i64 (p1.Names)]) (a1 := [.int .i64 (p0.Ids), .int .i64 (p0.Tests), .int .i64 (p0.Names)]) rfl rfl hx45)) ?_; clear hs; (try clear a w); intro a w hs
      refine syg (v := .bool ((!x44))) hs (y_not rfl) ?_; clear hs; (try clear a w); intro a w hs
      refine syg (v := .bool ((!x44))) hs (y_pick rfl rfl) ?_; clear hs; (try clear a w); intro a w hs
      refine sy (v := .bool ((!x44))) hs (y_pick rfl rfl) ?_; clear hs; (try clear a w); intro a w hs
      refine RL_nil ?_
      exact ⟨(!x44), hm, hs.sub ⟨rfl, rfl, rfl, rfl, trivial⟩⟩
     ·clear hs; have hs := hq; clear hq
      replace hm := oc_f hg43 hm
      refine sno hs ?_; clear hs; (try clear a w); intro a w hs
      refine sno hs ?_; clear hs; (try clear a w); intro a w hs
      refine sno hs ?_; clear hs; (try clear a w); intro a w hs
      refine sno hs ?_; clear hs; (try clear a w); intro a w hs
      refine syg (v := .bool (false)) hs (y_pick rfl rfl) ?_; clear hs; (try clear a w); intro a w hs
      refine sy (v := .bool (false)) hs (y_pick rfl rfl) ?_; clear hs; (try clear a w); intro a w hs
      refine RL_nil ?_
      exact ⟨false, hm, hs.sub ⟨rfl, rfl, rfl, rfl, trivial⟩⟩
    ·clear hs; have hs := hq; clear hq
     replace hm := oc_f hg40 hm
     refine sno hs ?_; clear hs; (try clear a w); intro a w hs
     refine sno hs ?_; clear hs; (try clear a w); intro a w hs
     refine sno hs ?_; clear hs; (try clear a w); intro a w hs
     refine sno hs ?_; clear hs; (try clear a w); intro a w hs
     refine syg (v := .bool (false)) hs (y_pick rfl rfl) ?_; clear hs; (try clear a w); intro a w hs
     refine syg (v := .bool (false)) hs (y_move rfl) ?_; clear hs; (try clear a w); intro a w hs
     refine sno hs ?_; clear hs; (try clear a w); intro a w hs
     refine sno hs ?_; clear hs; (try clear a w); intro a w hs
     refine sno hs ?_; clear hs; (try clear a w); intro a w hs
     refine sno hs ?_; clear hs; (try clear a w); intro a w hs
     refine syg (v := .bool (false)) hs (y_pick rfl rfl) ?_; clear hs; (try clear a w); intro a w hs
     refine sy (v := .bool (false)) hs (y_pick rfl rfl) ?_; clear hs; (try clear a w); intro a w hs
     refine RL_nil ?_
     exact ⟨false, hm, hs.sub ⟨rfl, rfl, rfl, rfl, trivial⟩⟩
end Go.Proofs.YtmkcglpeidbblaaDoor
