/-
  Walks and laws of this seat; the base is the text Base.
-/
import Derived.Test.YtmkcglpeidbblaaDoorL10k
import Derived.Test.YtmkcglpeidbblaaDoorL10s
import Derived.Test.YtmkcglpeidbblaaDoorRows
/-
  Models of functions, and that the functions compute them. Printed by lift.py.
-/
namespace Go.Proofs.YtmkcglpeidbblaaDoor
open Go.RowKit Go.Sl
/-! casement/casementlaw10.MatchMatches -/
def law10_MatchMatches_k2 (y34 : Bool) : Option Bool :=
  some y34
def law10_MatchMatches_k1 (n : Nat) (p0 : api_Tree) (p1 : (List sheet_Selector)) (p2 : Int) (x17 : (List ref9_Selector)) : Option Bool :=
  (match_Best n p0 p2 p1).bind fun x26 =>
  (ref10_Best n p0 p2 x17).bind fun x30 =>
  (bif (decide (x26.1.Ids = x30.1.Ids)) then (bif (decide (x26.1.Tests = x30.1.Tests)) then (bif (decide (x26.1.Names = x30.1.Names)) then (bif (x26.2 == x30.2) then (law10_known n).bind fun x39 =>
  law10_MatchMatches_k2 x39 else
  law10_MatchMatches_k2 false) else
  law10_MatchMatches_k2 false) else
  law10_MatchMatches_k2 false) else
  law10_MatchMatches_k2 false)
def law10_MatchMatches_k4 (y41 : Int) (lp42 : Int → Option Bool) (y76 : Bool) : Option Bool :=
  (bif y76 then some false else
  lp42 (w64 (y41 + 1)))
def law10_MatchMatches_l3 (n : Nat) (p0 : api_Tree) (p1 : (List sheet_Selector)) (p2 : Int) (x17 : (List ref9_Selector)) : Nat → Int → Option Bool
  | 0, _ => none
  | k42 + 1, y41 =>
  (bif (decide (y41 < (p1.length : Int))) then (geti p1 y41).bind fun x44 =>
  (match_Weigh n x44).bind fun x56 =>
  (geti x17 y41).bind fun x60 =>
  (ref10_Weigh n x60).bind fun x72 =>
  (geti p1 y41).bind fun x78 =>
  (match_Match n p0 p2 x78).bind fun x90 =>
  (geti x17 y41).bind fun x92 =>
  (ref10_Match n p0 p2 x92).bind fun x104 =>
  (bif (!(x90 == x104)) then law10_MatchMatches_k4 y41 (law10_MatchMatches_l3 n p0 p1 p2 x17 k42) true else
  (bif (decide (x56.Ids ≠ x72.Ids)) then law10_MatchMatches_k4 y41 (law10_MatchMatches_l3 n p0 p1 p2 x17 k42) true else
  (bif (decide (x56.Tests ≠ x72.Tests)) then law10_MatchMatches_k4 y41 (law10_MatchMatches_l3 n p0 p1 p2 x17 k42) true else
  law10_MatchMatches_k4 y41 (law10_MatchMatches_l3 n p0 p1 p2 x17 k42) (decide (x56.Names ≠ x72.Names))))) else
  law10_MatchMatches_k1 n p0 p1 p2 x17)
def law10_MatchMatches (n : Nat) (p0 : api_Tree) (p1 : (List sheet_Selector)) (p2 : Int) : Option Bool :=
  (law10_small n p0 p1).bind fun x12 =>
  (bif (!x12) then (law10_known n).bind fun x15 =>
  some x15 else
  (law10_selectors n p1).bind fun x17 =>
  law10_MatchMatches_l3 n p0 p1 p2 x17 n 0)
set_option maxRecDepth 20000 in
set_option maxHeartbeats 4000000 in
theorem law10_MatchMatches_ok (n : Nat) {f : Fz} {o0 : Obj} {o1 : Obj} {p0 : api_Tree} {a0 : List Value} {p1 : (List sheet_Selector)} {a1 : Value} {p2 : Int} {res : Bool} (hT0 : f 0 = some o0) (hT1 : f 1 = some o1) (hTT : Tabs o0 o1) (h0 : t_api_Tree.R f a0 p0) (h1 : RS t_sheet_Selector f a1 p1) (hm : law10_MatchMatches n p0 p1 p2 = some res) : Gives Tryd.prog 7 [.agg a0.toArray, a1, .int .i64 p2] f (.bool res) := by
 unfold law10_MatchMatches at hm
 intro w0 L w hC
 obtain ⟨v1, rfl, ⟨rw2, hR3, hW4⟩⟩ := h0
 obtain ⟨rw6, hR7, hW8⟩ := h1
 refine enter Tryd.func7 rfl Tryd.ntmps7 (by simp) hC fun a hs => ?_
 have hle := Fz.le.refl f
 refine W_seq fun K1 hK1 => ?_
 refine W_region ?_
 refine sbox hs rfl ?_; clear hs; intro b10 a w hs
 replace hs : St _ _ _ (.blk b10 (.cells #[v1] 24 (0, 0)) :: L) _ _ _ := hs
 refine sy (v := .bool (false)) hs (y_assign rfl) ?_; clear hs; intro a w hs
 refine RL_nil ?_
 refine hK1 _ _ ?_; clear hK1
 refine W_seq fun K2 hK2 => ?_
 refine W_seq fun K3 hK3 => ?_
 refine W_region ?_
 refine sy hs (y_ldB rfl Tryd.underlying24 rfl ti24 (.head _) rfl) ?_; clear hs; intro a w hs
 refine sy (v := a1) hs (y_move rfl) ?_; clear hs; intro a w hs
 obtain ⟨x12, hx13, hm⟩ := ob hm
 refine sy hs (y_call rfl has10 rfl (law10_small_ok n (f := f) (a0 := [v1]) (a1 := a1) ⟨_, rfl, ⟨rw2, hR3, hW4⟩⟩ ⟨rw6, hR7, hW8⟩ hx13)) ?_; clear hs; intro a w hs
 refine sy (v := .bool ((!x12))) hs (y_not rfl) ?_; clear hs; intro a w hs
 refine RL_nil ?_
 refine hK3 _ _ ?_; clear hK3
 refine W_cond hs rfl (fun hg14 => ?_) (fun hg14 => ?_)
 ·replace hm := oc_t hg14 hm
  refine W_seq fun K4 hK4 => ?_
  refine W_region ?_
  obtain ⟨x15, hx16, hm⟩ := ob hm
  refine sy hs (y_call rfl has11 rfl (law10_known_ok n (f := f)  hT0 hT1 hTT hx16)) ?_; clear hs; intro a w hs
  refine sy (v := .bool (x15)) hs (y_assign rfl) ?_; clear hs; intro a w hs
  refine RL_nil ?_
  refine hK4 _ _ ?_; clear hK4
  refine W_ret ?_
  obtain rfl := Option.some.inj hm
  refine RtV1 hs rfl (rv_t hs rfl) ?_
  exact ⟨rfl, ((hs.subL (.cons _ (.refl _))).weak hle).cw⟩
 ·replace hm := oc_f hg14 hm
  refine W_skip ?_
  refine hK2 _ _ ?_; clear hK2
  refine W_seq fun K5 hK5 => ?_
  refine W_region ?_
  refine sy (v := a1) hs (y_move rfl) ?_; clear hs; intro a w hs
  obtain ⟨x17, hx18, hm⟩ := ob hm
  refine RL_callV hs rfl has19 rfl (law10_selectors_ok n (f := f) (a0 := a1) ⟨rw6, hR7, hW8⟩ hx18) ?_; clear hs
  rintro v21 f19 _ a w hf20 ⟨_, rfl, rfl, ⟨rw22, hR23, hW24⟩⟩ hs
  replace hR3 := hR3.le hf20
  replace hW4 := hW4.le hf20
  replace hR7 := hR7.le hf20
  replace hW8 := hW8.le hf20
  replace hT0 := hf20 _ _ hT0
  replace hT1 := hf20 _ _ hT1
  replace hle := hle.trans hf20
  replace hs : St _ _ _ (.blk b10 (.cells #[v1] 24 (0, 0)) :: L) _ _ _ := hs
  refine sy (v := v21) hs (y_assign rfl) ?_; clear hs; intro a w hs
  refine RL_nil ?_
  refine hK5 _ _ ?_; clear hK5
  refine W_seq fun K6 hK6 => ?_
  refine W_seq fun K7 hK7 => ?_
  refine W_region ?_
  refine sy (v := .int .i64 (0)) hs (y_assign rfl) ?_; clear hs; intro a w hs
  refine RL_nil ?_
  refine hK7 _ _ ?_; clear hK7
  refine W_post (fun a w => law10_MatchMatches_k1 n p0 p1 p2 x17 = some res ∧ St 115 w0 f19 (.blk b10 (.cells #[v1] 24 (0, 0)) :: L) [(1, a1), (2, .int .i64 (p2)), (3, .pointer (some ⟨b10, 0, none⟩)), (7, v21)] a w) ?_ ?_
  ·clear hs hm
   rintro a w ⟨hm, hs⟩
   replace hs : St _ _ _ (.blk b10 (.cells #[v1] 24 (0, 0)) :: L) _ _ _ := hs
   unfold law10_MatchMatches_k1 at hm
   refine hK6 _ _ ?_; clear hK6
   refine W_seq fun K8 hK8 => ?_
   refine W_region ?_
   refine sy hs (y_ldB rfl Tryd.underlying24 rfl ti24 (.head _) rfl) ?_; clear hs; intro a w hs
   refine sy (v := .int .i64 (p2)) hs (y_move rfl) ?_; clear hs; intro a w hs
   refine sy (v := a1) hs (y_move rfl) ?_; clear hs; intro a w hs
   obtain ⟨x26, hx27, hm⟩ := ob hm
   refine sy hs (y_call rfl has23 rfl (match_Best_ok n (f := f19) (a0 := [v1]) (a2 := a1) hT0 hT1 hTT ⟨_, rfl, ⟨rw2, hR3, hW4⟩⟩ ⟨rw6, hR7, hW8⟩ hx27)) ?_; clear hs; intro a w hs
   refine sy (v := .tuple #[.agg #[.int .i64 (x26.1.Ids), .int .i64 (x26.1.Tests), .int .i64 (x26.1.Names)], .bool (x26.2)]) hs (y_move rfl) ?_; clear hs; intro a w hs
   refine sy (v := .agg #[.int .i64 (x26.1.Ids), .int .i64 (x26.1.Tests), .int .i64 (x26.1.Names)]) hs (y_extract rfl rfl) ?_; clear hs; intro a w hs
   refine sy (v := .bool (x26.2)) hs (y_extract rfl rfl) ?_; clear hs; intro a w hs
   refine RL_alloc hs ti53 (.free rfl) (by decide) ?_; clear hs; intro b28 a w hs
   replace hs : St _ _ _ (.blk b28 (.cells #[.int .i64 (0), .int .i64 (0), .int .i64 (0)] 53 (0, 0)) :: .blk b10 (.cells #[v1] 24 (0, 0)) :: L) _ _ _ := hs
   refine RL_storeAll (i := 0) hs rfl rfl rfl ti53 ⟨rfl, rfl⟩ (AllC.arr (r := [.int .i64 (x26.1.Ids), .int .i64 (x26.1.Tests), .int .i64 (x26.1.Names)]) ⟨rfl, rfl, rfl, trivial⟩) (.free rfl) ?_; clear hs; intro a w hs
   replace hs : St _ _ _ (.blk b28 (.cells #[.int .i64 (x26.1.Ids), .int .i64 (x26.1.Tests), .int .i64 (x26.1.Names)] 53 (0, 0)) :: .blk b10 (.cells #[v1] 24 (0, 0)) :: L) _ _ _ := hs
   refine sy (v := .bool (x26.2)) hs (y_assign rfl) ?_; clear hs; intro a w hs
   refine RL_nil ?_
   refine hK8 _ _ ?_; clear hK8
   refine W_seq fun K9 hK9 => ?_
   refine W_region ?_
   refine sy hs (y_ldB rfl Tryd.underlying24 rfl ti24 (.tail _ (.head _)) rfl) ?_; clear hs; intro a w hs
   refine sy (v := .int .i64 (p2)) hs (y_move rfl) ?_; clear hs; intro a w hs
   refine sy (v := v21) hs (y_move rfl) ?_; clear hs; intro a w hs
   obtain ⟨x30, hx31, hm⟩ := ob hm
   refine sy hs (y_call rfl has24 rfl (ref10_Best_ok n (f := f19) (a0 := [v1]) (a2 := v21) ⟨_, rfl, ⟨rw2, hR3, hW4⟩⟩ ⟨rw22, hR23, hW24⟩ hx31)) ?_; clear hs; intro a w hs
   refine sy (v := .tuple #[.agg #[.int .i64 (x30.1.Ids), .int .i64 (x30.1.Tests), .int .i64 (x30.1.Names)], .bool (x30.2)]) hs (y_move rfl) ?_; clear hs; intro a w hs
   refine sy (v := .agg #[.int .i64 (x30.1.Ids), .int .i64 (x30.1.Tests), .int .i64 (x30.1.Names)]) hs (y_extract rfl rfl) ?_; clear hs; intro a w hs
   refine sy (v := .bool (x30.2)) hs (y_extract rfl rfl) ?_; clear hs; intro a w hs
   refine RL_alloc hs ti59 (.free rfl) (by decide) ?_; clear hs; intro b32 a w hs
   replace hs : St _ _ _ (.blk b32 (.cells #[.int .i64 (0), .int .i64 (0), .int .i64 (0)] 59 (0, 0)) :: .blk b28 (.cells #[.int .i64 (x26.1.Ids), .int .i64 (x26.1.Tests), .int .i64 (x26.1.Names)] 53 (0, 0)) :: .blk b10 (.cells #[v1] 24 (0, 0)) :: L) _ _ _ := hs
   refine RL_storeAll (i := 0) hs rfl rfl rfl ti59 ⟨rfl, rfl⟩ (AllC.arr (r := [.int .i64 (x30.1.Ids), .int .i64 (x30.1.Tests), .int .i64 (x30.1.Names)]) ⟨rfl, rfl, rfl, trivial⟩) (.free rfl) ?_; clear hs; intro a w hs
   replace hs : St _ _ _ (.blk b32 (.cells #[.int .i64 (x30.1.Ids), .int .i64 (x30.1.Tests), .int .i64 (x30.1.Names)] 59 (0, 0)) :: .blk b28 (.cells #[.int .i64 (x26.1.Ids), .int .i64 (x26.1.Tests), .int .i64 (x26.1.Names)] 53 (0, 0)) :: .blk b10 (.cells #[v1] 24 (0, 0)) :: L) _ _ _ := hs
   refine sy (v := .bool (x30.2)) hs (y_assign rfl) ?_; clear hs; intro a w hs
   refine RL_nil ?_
   refine hK9 _ _ ?_; clear hK9
   refine W_seq fun K10 hK10 => ?_
   refine W_post (fun a w => ∃ (y34 : Bool), law10_MatchMatches_k2 y34 = some res ∧ St 115 w0 f19 (L) [(6, .bool (y34))] a w) ?_ ?_
   ·clear hs hm
    rintro a w ⟨y34, hm, hs⟩
    replace hs : St _ _ _ (L) _ _ _ := hs
    unfold law10_MatchMatches_k2 at hm
    refine hK10 _ _ ?_; clear hK10
    refine W_ret ?_
    obtain rfl := Option.some.inj hm
    refine RtV1 hs rfl (rv_t hs rfl) ?_
    exact ⟨rfl, (hs.weak hle).cw⟩
   ·refine W_region ?_
    refine sy (v := .pointer (some ⟨b28, 0, none⟩)) hs (y_fieldAddr rfl (FO.of (off := 0) Tryd.underlying53 rfl rfl ti3 (by decide))) ?_; clear hs; intro a w hs
    refine sy (v := .int .i64 (x26.1.Ids)) hs (y_ld rfl Tryd.underlying3 rfl (Cell.blk (.tail _ (.head _)) rfl)) ?_; clear hs; intro a w hs
    refine sy (v := .pointer (some ⟨b32, 0, none⟩)) hs (y_fieldAddr rfl (FO.of (off := 0) Tryd.underlying59 rfl rfl ti3 (by decide))) ?_; clear hs; intro a w hs
    refine sy (v := .int .i64 (x30.1.Ids)) hs (y_ld rfl Tryd.underlying3 rfl (Cell.blk (.head _) rfl)) ?_; clear hs; intro a w hs
    refine sy hs (y_eql rfl rfl) ?_; clear hs; intro a w hs
    refine sy (v := .bool (decide (x26.1.Ids = x30.1.Ids))) hs (y_move rfl) ?_; clear hs; intro a w hs
    refine St.split hs (t := 93) rfl (fun hg35 hq => ?_) (fun hg35 hq => ?_)
    ·clear hs; have hs := hq; clear hq
     replace hm := oc_t hg35 hm
     refine syg (v := .pointer (some ⟨b28, 1, none⟩)) hs (y_fieldAddr rfl (FO.of (off := 1) Tryd.underlying53 rfl rfl ti3 (by decide))) ?_; clear hs; intro a w hs
     refine syg (v := .int .i64 (x26.1.Tests)) hs (y_ld rfl Tryd.underlying3 rfl (Cell.blk (.tail _ (.head _)) rfl)) ?_; clear hs; intro a w hs
     refine syg (v := .pointer (some ⟨b32, 1, none⟩)) hs (y_fieldAddr rfl (FO.of (off := 1) Tryd.underlying59 rfl rfl ti3 (by decide))) ?_; clear hs; intro a w hs
     refine syg (v := .int .i64 (x30.1.Tests)) hs (y_ld rfl Tryd.underlying3 rfl (Cell.blk (.head _) rfl)) ?_; clear hs; intro a w hs
     refine syg hs (y_eql rfl rfl) ?_; clear hs; intro a w hs
     refine sy (v := .bool (decide (x26.1.Tests = x30.1.Tests))) hs (y_pick rfl rfl) ?_; clear hs; intro a w hs
     refine sy (v := .bool (decide (x26.1.Tests = x30.1.Tests))) hs (y_move rfl) ?_; clear hs; intro a w hs
     refine St.split hs (t := 100) rfl (fun hg36 hq => ?_) (fun hg36 hq => ?_)
     ·clear hs; have hs := hq; clear hq
      replace hm := oc_t hg36 hm
      refine syg (v := .pointer (some ⟨b28, 2, none⟩)) hs (y_fieldAddr rfl (FO.of (off := 2) Tryd.underlying53 rfl rfl ti3 (by decide))) ?_; clear hs; intro a w hs
      refine syg (v := .int .i64 (x26.1.Names)) hs (y_ld rfl Tryd.underlying3 rfl (Cell.blk (.tail _ (.head _)) rfl)) ?_; clear hs; intro a w hs
      refine syg (v := .pointer (some ⟨b32, 2, none⟩)) hs (y_fieldAddr rfl (FO.of (off := 2) Tryd.underlying59 rfl rfl ti3 (by decide))) ?_; clear hs; intro a w hs
      refine syg (v := .int .i64 (x30.1.Names)) hs (y_ld rfl Tryd.underlying3 rfl (Cell.blk (.head _) rfl)) ?_; clear hs; intro a w hs
      refine syg hs (y_eql rfl rfl) ?_; clear hs; intro a w hs
      refine sy (v := .bool (decide (x26.1.Names = x30.1.Names))) hs (y_pick rfl rfl) ?_; clear hs; intro a w hs
      refine sy (v := .bool (decide (x26.1.Names = x30.1.Names))) hs (y_move rfl) ?_; clear hs; intro a w hs
      refine St.split hs (t := 107) rfl (fun hg37 hq => ?_) (fun hg37 hq => ?_)
      ·clear hs; have hs := hq; clear hq
       replace hm := oc_t hg37 hm
       refine syg (v := .bool (x26.2)) hs (y_move rfl) ?_; clear hs; intro a w hs
       refine syg (v := .bool (x30.2)) hs (y_move rfl) ?_; clear hs; intro a w hs
       refine syg hs (y_beql rfl rfl Tryd.underlying4) ?_; clear hs; intro a w hs
       refine sy (v := .bool ((x26.2 == x30.2))) hs (y_pick rfl rfl) ?_; clear hs; intro a w hs
       refine sy (v := .bool ((x26.2 == x30.2))) hs (y_move rfl) ?_; clear hs; intro a w hs
       refine St.split hs (t := 112) rfl (fun hg38 hq => ?_) (fun hg38 hq => ?_)
       ·clear hs; have hs := hq; clear hq
        replace hm := oc_t hg38 hm
        obtain ⟨x39, hx40, hm⟩ := ob hm
        refine syg hs (y_call rfl has11 rfl (law10_known_ok n (f := f19)  hT0 hT1 hTT hx40)) ?_; clear hs; intro a w hs
        refine sy (v := .bool (x39)) hs (y_pick rfl rfl) ?_; clear hs; intro a w hs
        refine sy (v := .bool (x39)) hs (y_assign rfl) ?_; clear hs; intro a w hs
        refine RL_nil ?_
        exact ⟨x39, hm, hs.subs ⟨rfl, trivial⟩ (.cons _ (.cons _ (.cons _ (.refl _))))⟩
       ·clear hs; have hs := hq; clear hq
        replace hm := oc_f hg38 hm
        refine sno hs ?_; clear hs; intro a w hs
        refine sy (v := .bool (false)) hs (y_pick rfl rfl) ?_; clear hs; intro a w hs
        refine sy (v := .bool (false)) hs (y_assign rfl) ?_; clear hs; intro a w hs
        refine RL_nil ?_
        exact ⟨false, hm, hs.subs ⟨rfl, trivial⟩ (.cons _ (.cons _ (.cons _ (.refl _))))⟩
      ·clear hs; have hs := hq; clear hq
       replace hm := oc_f hg37 hm
       refine sno hs ?_; clear hs; intro a w hs
       refine sno hs ?_; clear hs; intro a w hs
       refine sno hs ?_; clear hs; intro a w hs
       refine sy (v := .bool (false)) hs (y_pick rfl rfl) ?_; clear hs; intro a w hs
       refine sy (v := .bool (false)) hs (y_move rfl) ?_; clear hs; intro a w hs
       refine sno hs ?_; clear hs; intro a w hs
       refine sy (v := .bool (false)) hs (y_pick rfl rfl) ?_; clear hs; intro a w hs
       refine sy (v := .bool (false)) hs (y_assign rfl) ?_; clear hs; intro a w hs
       refine RL_nil ?_
       exact ⟨false, hm, hs.subs ⟨rfl, trivial⟩ (.cons _ (.cons _ (.cons _ (.refl _))))⟩
     ·clear hs; have hs := hq; clear hq
      replace hm := oc_f hg36 hm
      refine sno hs ?_; clear hs; intro a w hs
      refine sno hs ?_; clear hs; intro a w hs
      refine sno hs ?_; clear hs; intro a w hs
      refine sno hs ?_; clear hs; intro a w hs
      refine sno hs ?_; clear hs; intro a w hs
      refine sy (v := .bool (false)) hs (y_pick rfl rfl) ?_; clear hs; intro a w hs
      refine sy (v := .bool (false)) hs (y_move rfl) ?_; clear hs; intro a w hs
      refine sno hs ?_; clear hs; intro a w hs
      refine sno hs ?_; clear hs; intro a w hs
      refine sno hs ?_; clear hs; intro a w hs
      refine sy (v := .bool (false)) hs (y_pick rfl rfl) ?_; clear hs; intro a w hs
      refine sy (v := .bool (false)) hs (y_move rfl) ?_; clear hs; intro a w hs
      refine sno hs ?_; clear hs; intro a w hs
      refine sy (v := .bool (false)) hs (y_pick rfl rfl) ?_; clear hs; intro a w hs
      refine sy (v := .bool (false)) hs (y_assign rfl) ?_; clear hs; intro a w hs
      refine RL_nil ?_
      exact ⟨false, hm, hs.subs ⟨rfl, trivial⟩ (.cons _ (.cons _ (.cons _ (.refl _))))⟩
    ·clear hs; have hs := hq; clear hq
     replace hm := oc_f hg35 hm
     refine sno hs ?_; clear hs; intro a w hs
     refine sno hs ?_; clear hs; intro a w hs
     refine sno hs ?_; clear hs; intro a w hs
     refine sno hs ?_; clear hs; intro a w hs
     refine sno hs ?_; clear hs; intro a w hs
     refine sy (v := .bool (false)) hs (y_pick rfl rfl) ?_; clear hs; intro a w hs
     refine sy (v := .bool (false)) hs (y_move rfl) ?_; clear hs; intro a w hs
     refine sno hs ?_; clear hs; intro a w hs
     refine sno hs ?_; clear hs; intro a w hs
     refine sno hs ?_; clear hs; intro a w hs
     refine sno hs ?_; clear hs; intro a w hs
     refine sno hs ?_; clear hs; intro a w hs
     refine sy (v := .bool (false)) hs (y_pick rfl rfl) ?_; clear hs; intro a w hs
     refine sy (v := .bool (false)) hs (y_move rfl) ?_; clear hs; intro a w hs
     refine sno hs ?_; clear hs; intro a w hs
     refine sno hs ?_; clear hs; intro a w hs
     refine sno hs ?_; clear hs; intro a w hs
     refine sy (v := .bool (false)) hs (y_pick rfl rfl) ?_; clear hs; intro a w hs
     refine sy (v := .bool (false)) hs (y_move rfl) ?_; clear hs; intro a w hs
     refine sno hs ?_; clear hs; intro a w hs
     refine sy (v := .bool (false)) hs (y_pick rfl rfl) ?_; clear hs; intro a w hs
     refine sy (v := .bool (false)) hs (y_assign rfl) ?_; clear hs; intro a w hs
     refine RL_nil ?_
     exact ⟨false, hm, hs.subs ⟨rfl, trivial⟩ (.cons _ (.cons _ (.cons _ (.refl _))))⟩
  ·refine W_block fun Qe11 hB11 hO11 => ?_
   refine W_loop (fun (k : Nat) a w => ∃ (y41 : Int), law10_MatchMatches_l3 n p0 p1 p2 x17 k y41 = some res ∧ St 115 w0 f19 (.blk b10 (.cells #[v1] 24 (0, 0)) :: L) [(1, a1), (2, .int .i64 (p2)), (3, .pointer (some ⟨b10, 0, none⟩)), (7, v21), (8, .int .i64 (y41))] a w) (fun k => k) n ⟨0, hm, hs.sub ⟨rfl, rfl, rfl, rfl, rfl, trivial⟩⟩ ?_
   clear hs hm
   intro k
   rintro a w ⟨y41, hm, hs⟩
   replace hs : St _ _ _ (.blk b10 (.cells #[v1] 24 (0, 0)) :: L) _ _ _ := hs
   intro K12 hK12
   cases k with
   | zero => simp [law10_MatchMatches_l3] at hm
   | succ k42 =>
    rw [law10_MatchMatches_l3] at hm
    refine W_seq fun K13 hK13 => ?_
    refine W_seq fun K14 hK14 => ?_
    refine W_region ?_
    refine sy (v := .int .i64 (y41)) hs (y_move rfl) ?_; clear hs; intro a w hs
    refine sy (v := a1) hs (y_move rfl) ?_; clear hs; intro a w hs
    refine sy hs (y_lenW hR7 hW8 rfl Tryd.underlying31) ?_; clear hs; intro a w hs
    refine sy hs (y_lss rfl rfl) ?_; clear hs; intro a w hs
    refine RL_nil ?_
    refine hK14 _ _ ?_; clear hK14
    refine W_cond hs rfl (fun hg43 => ?_) (fun hg43 => ?_)
    ·replace hm := oc_t hg43 hm
     refine W_skip ?_
     refine hK13 _ _ ?_; clear hK13
     refine W_seq fun K15 hK15 => ?_
     refine W_block fun Qe16 hB16 hO16 => ?_
     refine W_seq fun K17 hK17 => ?_
     refine W_region ?_
     refine sy (v := a1) hs (y_move rfl) ?_; clear hs; intro a w hs
     refine sy (v := .int .i64 (y41)) hs (y_move rfl) ?_; clear hs; intro a w hs
     obtain ⟨x44, hx45, hm⟩ := ob hm
     obtain ⟨r46, hr47, hq48, hi49, hb50⟩ := hW8.geti hx45
     obtain ⟨v51, rfl, ⟨rw52, hR53, hW54⟩⟩ := hq48
     refine sy hs (y_indexAddr hR7 rfl rfl hi49 hb50 Tryd.underlying31 ti27) ?_; clear hs; intro a w hs
     refine sy hs (y_loadRow hR7.up rfl hr47 Tryd.underlying27 rfl ti27) ?_; clear hs; intro a w hs
     obtain ⟨x56, hx57, hm⟩ := ob hm
     refine sy hs (y_call rfl has20 rfl (match_Weigh_ok n (f := f19) (a0 := [v51]) ⟨_, rfl, ⟨rw52, hR53, hW54⟩⟩ hx57)) ?_; clear hs; intro a w hs
     refine RL_alloc hs ti53 (.free rfl) (by decide) ?_; clear hs; intro b58 a w hs
     replace hs : St _ _ _ (.blk b58 (.cells #[.int .i64 (0), .int .i64 (0), .int .i64 (0)] 53 (0, 0)) :: .blk b10 (.cells #[v1] 24 (0, 0)) :: L) _ _ _ := hs
     refine RL_storeAll (i := 0) hs rfl rfl rfl ti53 ⟨rfl, rfl⟩ (AllC.arr (r := [.int .i64 (x56.Ids), .int .i64 (x56.Tests), .int .i64 (x56.Names)]) ⟨rfl, rfl, rfl, trivial⟩) (.free rfl) ?_; clear hs; intro a w hs
     replace hs : St _ _ _ (.blk b58 (.cells #[.int .i64 (x56.Ids), .int .i64 (x56.Tests), .int .i64 (x56.Names)] 53 (0, 0)) :: .blk b10 (.cells #[v1] 24 (0, 0)) :: L) _ _ _ := hs
     refine RL_nil ?_
     refine hK17 _ _ ?_; clear hK17
     refine W_seq fun K18 hK18 => ?_
     refine W_region ?_
     refine sy (v := v21) hs (y_move rfl) ?_; clear hs; intro a w hs
     refine sy (v := .int .i64 (y41)) hs (y_move rfl) ?_; clear hs; intro a w hs
     obtain ⟨x60, hx61, hm⟩ := ob hm
     obtain ⟨r62, hr63, hq64, hi65, hb66⟩ := hW24.geti hx61
     obtain ⟨v67, rfl, ⟨rw68, hR69, hW70⟩⟩ := hq64
     refine sy hs (y_indexAddr hR23 rfl rfl hi65 hb66 Tryd.underlying56 ti63) ?_; clear hs; intro a w hs
     refine sy hs (y_loadRow hR23.up rfl hr63 Tryd.underlying63 rfl ti63) ?_; clear hs; intro a w hs
     obtain ⟨x72, hx73, hm⟩ := ob hm
     refine sy hs (y_call rfl has21 rfl (ref10_Weigh_ok n (f := f19) (a0 := [v67]) ⟨_, rfl, ⟨rw68, hR69, hW70⟩⟩ hx73)) ?_; clear hs; intro a w hs
     refine RL_alloc hs ti59 (.free rfl) (by decide) ?_; clear hs; intro b74 a w hs
     replace hs : St _ _ _ (.blk b74 (.cells #[.int .i64 (0), .int .i64 (0), .int .i64 (0)] 59 (0, 0)) :: .blk b58 (.cells #[.int .i64 (x56.Ids), .int .i64 (x56.Tests), .int .i64 (x56.Names)] 53 (0, 0)) :: .blk b10 (.cells #[v1] 24 (0, 0)) :: L) _ _ _ := hs
     refine RL_storeAll (i := 0) hs rfl rfl rfl ti59 ⟨rfl, rfl⟩ (AllC.arr (r := [.int .i64 (x72.Ids), .int .i64 (x72.Tests), .int .i64 (x72.Names)]) ⟨rfl, rfl, rfl, trivial⟩) (.free rfl) ?_; clear hs; intro a w hs
     replace hs : St _ _ _ (.blk b74 (.cells #[.int .i64 (x72.Ids), .int .i64 (x72.Tests), .int .i64 (x72.Names)] 59 (0, 0)) :: .blk b58 (.cells #[.int .i64 (x56.Ids), .int .i64 (x56.Tests), .int .i64 (x56.Names)] 53 (0, 0)) :: .blk b10 (.cells #[v1] 24 (0, 0)) :: L) _ _ _ := hs
     refine RL_nil ?_
     refine hK18 _ _ ?_; clear hK18
     refine W_seq fun K19 hK19 => ?_
     refine W_post (fun a w => ∃ (y76 : Bool), law10_MatchMatches_k4 y41 (law10_MatchMatches_l3 n p0 p1 p2 x17 k42) y76 = some res ∧ St 115 w0 f19 (.blk b10 (.cells #[v1] 24 (0, 0)) :: L) [(1, a1), (2, .int .i64 (p2)), (3, .pointer (some ⟨b10, 0, none⟩)), (7, v21), (8, .int .i64 (y41)), (73, .bool (y76))] a w) ?_ ?_
     ·clear hs hm
      rintro a w ⟨y76, hm, hs⟩
      replace hs : St _ _ _ (.blk b10 (.cells #[v1] 24 (0, 0)) :: L) _ _ _ := hs
      unfold law10_MatchMatches_k4 at hm
      refine hK19 _ _ ?_; clear hK19
      refine W_cond hs rfl (fun hg77 => ?_) (fun hg77 => ?_)
      ·replace hm := oc_t hg77 hm
       refine W_seq fun K20 hK20 => ?_
       refine W_region ?_
       refine sy (v := .bool (false)) hs (y_assign rfl) ?_; clear hs; intro a w hs
       refine RL_nil ?_
       refine hK20 _ _ ?_; clear hK20
       refine W_ret ?_
       obtain rfl := Option.some.inj hm
       refine RtV1 hs rfl (rv_t hs rfl) ?_
       exact ⟨rfl, ((hs.subL (.cons _ (.refl _))).weak hle).cw⟩
      ·replace hm := oc_f hg77 hm
       refine W_skip ?_
       refine hK15 _ _ ?_; clear hK15
       refine W_region ?_
       refine sy (v := .int .i64 (y41)) hs (y_move rfl) ?_; clear hs; intro a w hs
       refine sy hs (y_add rfl rfl rfl) ?_; clear hs; intro a w hs
       refine sy (v := .int .i64 ((w64 (y41 + 1)))) hs (y_assign rfl) ?_; clear hs; intro a w hs
       refine RL_nil ?_
       exact hK12 k42 _ _ (Nat.lt_succ_self _) ⟨(w64 (y41 + 1)), hm, hs.sub ⟨rfl, rfl, rfl, rfl, rfl, trivial⟩⟩
     ·refine W_draw hs mixed (by kernel_rfl) ?_; intro a he
      refine qy he (y_ldB rfl Tryd.underlying24 rfl ti24 (.tail _ (.tail _ (.head _))) rfl) ?_; clear he; intro a he
      refine qy (v := .int .i64 (p2)) he (y_move rfl) ?_; clear he; intro a he
      refine qy (v := a1) he (y_move rfl) ?_; clear he; intro a he
      refine qy (v := .int .i64 (y41)) he (y_move rfl) ?_; clear he; intro a he
      obtain ⟨x78, hx79, hm⟩ := ob hm
      obtain ⟨r80, hr81, hq82, hi83, hb84⟩ := hW8.geti hx79
      obtain ⟨v85, rfl, ⟨rw86, hR87, hW88⟩⟩ := hq82
      refine qy he (y_indexAddr hR7 rfl rfl hi83 hb84 Tryd.underlying31 ti27) ?_; clear he; intro a he
      refine qy he (y_loadRow hR7.up rfl hr81 Tryd.underlying27 rfl ti27) ?_; clear he; intro a he
      obtain ⟨x90, hx91, hm⟩ := ob hm
      refine qy he (y_call rfl has12 rfl (match_Match_ok n (f := f19) (a0 := [v1]) (a2 := [v85]) hT0 hT1 hTT ⟨_, rfl, ⟨rw2, hR3, hW4⟩⟩ ⟨_, rfl, ⟨rw86, hR87, hW88⟩⟩ hx91)) ?_; clear he; intro a he
      refine qy he (y_ldB rfl Tryd.underlying24 rfl ti24 (.tail _ (.tail _ (.head _))) rfl) ?_; clear he; intro a he
      refine qy (v := .int .i64 (p2)) he (y_move rfl) ?_; clear he; intro a he
      refine qy (v := v21) he (y_move rfl) ?_; clear he; intro a he
      refine qy (v := .int .i64 (y41)) he (y_move rfl) ?_; clear he; intro a he
      obtain ⟨x92, hx93, hm⟩ := ob hm
      obtain ⟨r94, hr95, hq96, hi97, hb98⟩ := hW24.geti hx93
      obtain ⟨v99, rfl, ⟨rw100, hR101, hW102⟩⟩ := hq96
      refine qy he (y_indexAddr hR23 rfl rfl hi97 hb98 Tryd.underlying56 ti63) ?_; clear he; intro a he
      refine qy he (y_loadRow hR23.up rfl hr95 Tryd.underlying63 rfl ti63) ?_; clear he; intro a he
      obtain ⟨x104, hx105, hm⟩ := ob hm
      refine qy he (y_call rfl has22 rfl (ref10_Match_ok n (f := f19) (a0 := [v1]) (a2 := [v99]) ⟨_, rfl, ⟨rw2, hR3, hW4⟩⟩ ⟨_, rfl, ⟨rw100, hR101, hW102⟩⟩ hx105)) ?_; clear he; intro a he
      refine qy he (y_bneq rfl rfl Tryd.underlying4) ?_; clear he; intro a he
      refine qy (v := .bool ((!(x90 == x104)))) he (y_move rfl) ?_; clear he; intro a he
      refine Ev.split he (t := 53) rfl (fun hg106 hq => ?_) (fun hg106 hq => ?_)
      ·clear he; have he := hq; clear hq
       replace hm := oc_t hg106 hm
       refine qno he ?_; clear he; intro a he
       refine qno he ?_; clear he; intro a he
       refine qno he ?_; clear he; intro a he
       refine qno he ?_; clear he; intro a he
       refine qno he ?_; clear he; intro a he
       refine qy (v := .bool (true)) he (y_pick rfl rfl) ?_; clear he; intro a he
       refine qy (v := .bool (true)) he (y_move rfl) ?_; clear he; intro a he
       refine qno he ?_; clear he; intro a he
       refine qno he ?_; clear he; intro a he
       refine qno he ?_; clear he; intro a he
       refine qno he ?_; clear he; intro a he
       refine qno he ?_; clear he; intro a he
       refine qy (v := .bool (true)) he (y_pick rfl rfl) ?_; clear he; intro a he
       refine qy (v := .bool (true)) he (y_move rfl) ?_; clear he; intro a he
       refine qno he ?_; clear he; intro a he
       refine qno he ?_; clear he; intro a he
       refine qno he ?_; clear he; intro a he
       refine qno he ?_; clear he; intro a he
       refine qno he ?_; clear he; intro a he
       refine qy (v := .bool (true)) he (y_pick rfl rfl) ?_; clear he; intro a he
       refine QL_nil he ?_; clear he; (try clear hs); intro a w hs
       exact ⟨true, hm, hs.subs ⟨rfl, rfl, rfl, rfl, rfl, rfl, trivial⟩ (.cons _ (.cons _ (.cons_cons _ (.refl _))))⟩
      ·clear he; have he := hq; clear hq
       replace hm := oc_f hg106 hm
       refine qyg (v := .pointer (some ⟨b58, 0, none⟩)) he (y_fieldAddr rfl (FO.of (off := 0) Tryd.underlying53 rfl rfl ti3 (by decide))) ?_; clear he; intro a he
       refine qyg (v := .int .i64 (x56.Ids)) he (y_ld rfl Tryd.underlying3 rfl (Cell.blk (.tail _ (.head _)) rfl)) ?_; clear he; intro a he
       refine qyg (v := .pointer (some ⟨b74, 0, none⟩)) he (y_fieldAddr rfl (FO.of (off := 0) Tryd.underlying59 rfl rfl ti3 (by decide))) ?_; clear he; intro a he
       refine qyg (v := .int .i64 (x72.Ids)) he (y_ld rfl Tryd.underlying3 rfl (Cell.blk (.head _) rfl)) ?_; clear he; intro a he
       refine qyg he (y_neq rfl rfl) ?_; clear he; intro a he
       refine qy (v := .bool (decide (x56.Ids ≠ x72.Ids))) he (y_pick rfl rfl) ?_; clear he; intro a he
       refine qy (v := .bool (decide (x56.Ids ≠ x72.Ids))) he (y_move rfl) ?_; clear he; intro a he
       refine Ev.split he (t := 60) rfl (fun hg107 hq => ?_) (fun hg107 hq => ?_)
       ·clear he; have he := hq; clear hq
        replace hm := oc_t hg107 hm
        refine qno he ?_; clear he; intro a he
        refine qno he ?_; clear he; intro a he
        refine qno he ?_; clear he; intro a he
        refine qno he ?_; clear he; intro a he
        refine qno he ?_; clear he; intro a he
        refine qy (v := .bool (true)) he (y_pick rfl rfl) ?_; clear he; intro a he
        refine qy (v := .bool (true)) he (y_move rfl) ?_; clear he; intro a he
        refine qno he ?_; clear he; intro a he
        refine qno he ?_; clear he; intro a he
        refine qno he ?_; clear he; intro a he
        refine qno he ?_; clear he; intro a he
        refine qno he ?_; clear he; intro a he
        refine qy (v := .bool (true)) he (y_pick rfl rfl) ?_; clear he; intro a he
        refine QL_nil he ?_; clear he; (try clear hs); intro a w hs
        exact ⟨true, hm, hs.subs ⟨rfl, rfl, rfl, rfl, rfl, rfl, trivial⟩ (.cons _ (.cons _ (.cons_cons _ (.refl _))))⟩
       ·clear he; have he := hq; clear hq
        replace hm := oc_f hg107 hm
        refine qyg (v := .pointer (some ⟨b58, 1, none⟩)) he (y_fieldAddr rfl (FO.of (off := 1) Tryd.underlying53 rfl rfl ti3 (by decide))) ?_; clear he; intro a he
        refine qyg (v := .int .i64 (x56.Tests)) he (y_ld rfl Tryd.underlying3 rfl (Cell.blk (.tail _ (.head _)) rfl)) ?_; clear he; intro a he
        refine qyg (v := .pointer (some ⟨b74, 1, none⟩)) he (y_fieldAddr rfl (FO.of (off := 1) Tryd.underlying59 rfl rfl ti3 (by decide))) ?_; clear he; intro a he
        refine qyg (v := .int .i64 (x72.Tests)) he (y_ld rfl Tryd.underlying3 rfl (Cell.blk (.head _) rfl)) ?_; clear he; intro a he
        refine qyg he (y_neq rfl rfl) ?_; clear he; intro a he
        refine qy (v := .bool (decide (x56.Tests ≠ x72.Tests))) he (y_pick rfl rfl) ?_; clear he; intro a he
        refine qy (v := .bool (decide (x56.Tests ≠ x72.Tests))) he (y_move rfl) ?_; clear he; intro a he
        refine Ev.split he (t := 67) rfl (fun hg108 hq => ?_) (fun hg108 hq => ?_)
        ·clear he; have he := hq; clear hq
         replace hm := oc_t hg108 hm
         refine qno he ?_; clear he; intro a he
         refine qno he ?_; clear he; intro a he
         refine qno he ?_; clear he; intro a he
         refine qno he ?_; clear he; intro a he
         refine qno he ?_; clear he; intro a he
         refine qy (v := .bool (true)) he (y_pick rfl rfl) ?_; clear he; intro a he
         refine QL_nil he ?_; clear he; (try clear hs); intro a w hs
         exact ⟨true, hm, hs.subs ⟨rfl, rfl, rfl, rfl, rfl, rfl, trivial⟩ (.cons _ (.cons _ (.cons_cons _ (.refl _))))⟩
        ·clear he; have he := hq; clear hq
         replace hm := oc_f hg108 hm
         refine qyg (v := .pointer (some ⟨b58, 2, none⟩)) he (y_fieldAddr rfl (FO.of (off := 2) Tryd.underlying53 rfl rfl ti3 (by decide))) ?_; clear he; intro a he
         refine qyg (v := .int .i64 (x56.Names)) he (y_ld rfl Tryd.underlying3 rfl (Cell.blk (.tail _ (.head _)) rfl)) ?_; clear he; intro a he
         refine qyg (v := .pointer (some ⟨b74, 2, none⟩)) he (y_fieldAddr rfl (FO.of (off := 2) Tryd.underlying59 rfl rfl ti3 (by decide))) ?_; clear he; intro a he
         refine qyg (v := .int .i64 (x72.Names)) he (y_ld rfl Tryd.underlying3 rfl (Cell.blk (.head _) rfl)) ?_; clear he; intro a he
         refine qyg he (y_neq rfl rfl) ?_; clear he; intro a he
         refine qy (v := .bool (decide (x56.Names ≠ x72.Names))) he (y_pick rfl rfl) ?_; clear he; intro a he
         refine QL_nil he ?_; clear he; (try clear hs); intro a w hs
         exact ⟨decide (x56.Names ≠ x72.Names), hm, hs.subs ⟨rfl, rfl, rfl, rfl, rfl, rfl, trivial⟩ (.cons _ (.cons _ (.cons_cons _ (.refl _))))⟩
    ·replace hm := oc_f hg43 hm
     refine W_exit ?_
     refine hB11 _ _ ?_
     exact ⟨hm, hs.sub ⟨rfl, rfl, rfl, rfl, trivial⟩⟩
end Go.Proofs.YtmkcglpeidbblaaDoor
