/-
  Walks and laws of this seat; the base is the text Base.
-/
import Derived.Test.YtmkcglpeidbblaaDoorL10k
import Derived.Test.YtmkcglpeidbblaaDoorRows
/-
  Models of functions, and that the functions compute them. Printed by lift.py.
-/
namespace Go.Proofs.YtmkcglpeidbblaaDoor
open Go.RowKit Go.Sl
/-! casement/casementlaw10.MatchLists -/
def law10_MatchLists_k5 (y41 : Bool) : Option Bool :=
  some y41
def law10_MatchLists_k4 (n : Nat) (y30 : match_Weight) (y38 : match_Weight) : Option Bool :=
  (bif (decide (y30.Ids = y38.Ids) && (decide (y30.Tests = y38.Tests) && (decide (y30.Names = y38.Names) && true))) then (law10_known n).bind fun x43 =>
  law10_MatchLists_k5 x43 else
  law10_MatchLists_k5 false)
def law10_MatchLists_k3 (n : Nat) (x20 : (match_Weight × Bool)) (x24 : (match_Weight × Bool)) (y30 : match_Weight) (y37 : Bool) : Option Bool :=
  (bif y37 then law10_MatchLists_k4 n y30 x24.1 else
  law10_MatchLists_k4 n y30 x20.1)
def law10_MatchLists_k2 (n : Nat) (x20 : (match_Weight × Bool)) (x24 : (match_Weight × Bool)) (y30 : match_Weight) (y33 : Bool) : Option Bool :=
  (bif (bif x20.2 then (!(y33 == true)) else (!(y33 == x24.2))) then some false else
  (bif (!x20.2) then law10_MatchLists_k3 n x20 x24 y30 true else
  (bif x24.2 then (match_Less n x20.1 x24.1).bind fun x48 =>
  law10_MatchLists_k3 n x20 x24 y30 x48 else
  law10_MatchLists_k3 n x20 x24 y30 false)))
def law10_MatchLists_k1 (n : Nat) (p0 : api_Tree) (p1 : (List sheet_Selector)) (p2 : (List sheet_Selector)) (p3 : Int) (y16 : Bool) : Option Bool :=
  (bif y16 then (law10_known n).bind fun x18 =>
  some x18 else
  (match_Best n p0 p3 p1).bind fun x20 =>
  (match_Best n p0 p3 p2).bind fun x24 =>
  (appM 24 ([] : List sheet_Selector) p1).bind fun x58 =>
  (appM 24 x58 p2).bind fun x65 =>
  (match_Best n p0 p3 x65).bind fun x72 =>
  law10_MatchLists_k2 n x20 x24 x72.1 x72.2)
def law10_MatchLists (n : Nat) (p0 : api_Tree) (p1 : (List sheet_Selector)) (p2 : (List sheet_Selector)) (p3 : Int) : Option Bool :=
  (law10_small n p0 p1).bind fun x133 =>
  (bif (!x133) then law10_MatchLists_k1 n p0 p1 p2 p3 true else
  (law10_small n p0 p2).bind fun x136 =>
  law10_MatchLists_k1 n p0 p1 p2 p3 (!x136))
set_option maxRecDepth 20000 in
set_option maxHeartbeats 4000000 in
theorem law10_MatchLists_ok (n : Nat) {f : Fz} {o0 : Obj} {o1 : Obj} {p0 : api_Tree} {a0 : List Value} {p1 : (List sheet_Selector)} {a1 : Value} {p2 : (List sheet_Selector)} {a2 : Value} {p3 : Int} {res : Bool} (hT0 : f 0 = some o0) (hT1 : f 1 = some o1) (hTT : Tabs o0 o1) (h0 : t_api_Tree.R f a0 p0) (h1 : RS t_sheet_Selector f a1 p1) (h2 : RS t_sheet_Selector f a2 p2) (hm : law10_MatchLists n p0 p1 p2 p3 = some res) : Gives Tryd.prog 8 [.agg a0.toArray, a1, a2, .int .i64 p3] f (.bool res) := by
 unfold law10_MatchLists at hm
 intro w0 L w hC
 obtain ⟨v1, rfl, ⟨rw2, hR3, hW4⟩⟩ := h0
 obtain ⟨rw6, hR7, hW8⟩ := h1
 obtain ⟨rw10, hR11, hW12⟩ := h2
 refine enter Tryd.func8 rfl Tryd.ntmps8 (by simp) hC fun a hs => ?_
 have hle := Fz.le.refl f
 refine W_seq fun K1 hK1 => ?_
 refine W_region ?_
 refine sbox hs rfl ?_; clear hs; (try clear a w); intro b14 a w hs
 replace hs : St _ _ _ (.blk b14 (.cells #[v1] 24 (0, 0)) :: L) _ _ _ := hs
 refine sy (v := .bool (false)) hs (y_assign rfl) ?_; clear hs; (try clear a w); intro a w hs
 refine RL_nil ?_
 refine hK1 _ _ ?_; clear hK1
 refine W_seq fun K2 hK2 => ?_
 refine W_seq fun K3 hK3 => ?_
 refine W_post (fun a w => ∃ (y16 : Bool), law10_MatchLists_k1 n p0 p1 p2 p3 y16 = some res ∧ St 76 w0 f (.blk b14 (.cells #[v1] 24 (0, 0)) :: L) [(1, a1), (2, a2), (3, .int .i64 (p3)), (4, .pointer (some ⟨b14, 0, none⟩)), (25, .bool (y16))] a w) ?_ ?_
 ·clear hs hm
  rintro a w ⟨y16, hm, hs⟩
  replace hs : St _ _ _ (.blk b14 (.cells #[v1] 24 (0, 0)) :: L) _ _ _ := hs
  unfold law10_MatchLists_k1 at hm
  refine hK3 _ _ ?_; clear hK3
  refine W_cond hs rfl (fun hg17 => ?_) (fun hg17 => ?_)
  ·replace hm := oc_t hg17 hm
   refine W_seq fun K4 hK4 => ?_
   refine W_region ?_
   obtain ⟨x18, hx19, hm⟩ := ob hm
   refine sy hs (y_call rfl has11 rfl (law10_known_ok n (f := f)  hT0 hT1 hTT hx19)) ?_; clear hs; (try clear a w); intro a w hs
   refine sy (v := .bool (x18)) hs (y_assign rfl) ?_; clear hs; (try clear a w); intro a w hs
   refine RL_nil ?_
   refine hK4 _ _ ?_; clear hK4
   refine W_ret ?_
   obtain rfl := Option.some.inj hm
   refine RtV1 hs rfl (rv_t hs rfl) ?_
   exact ⟨rfl, ((hs.subL (.cons _ (.refl _))).weak hle).cw⟩
  ·replace hm := oc_f hg17 hm
   refine W_skip ?_
   refine hK2 _ _ ?_; clear hK2
   refine W_seq fun K5 hK5 => ?_
   refine W_region ?_
   refine sy hs (y_ldB rfl Tryd.underlying24 rfl ti24 (.head _) rfl) ?_; clear hs; (try clear a w); intro a w hs
   refine sy (v := .int .i64 (p3)) hs (y_move rfl) ?_; clear hs; (try clear a w); intro a w hs
   refine sy (v := a1) hs (y_move rfl) ?_; clear hs; (try clear a w); intro a w hs
   obtain ⟨x20, hx21, hm⟩ := ob hm
   refine sy hs (y_call rfl has23 rfl (match_Best_ok n (f := f) (a0 := [v1]) (a2 := a1) hT0 hT1 hTT ⟨_, rfl, ⟨rw2, hR3, hW4⟩⟩ ⟨rw6, hR7, hW8⟩ hx21)) ?_; clear hs; (try clear a w); intro a w hs
   refine sy (v := .tuple #[.agg #[.int .i64 (x20.1.Ids), .int .i64 (x20.1.Tests), .int .i64 (x20.1.Names)], .bool (x20.2)]) hs (y_move rfl) ?_; clear hs; (try clear a w); intro a w hs
   refine sy (v := .agg #[.int .i64 (x20.1.Ids), .int .i64 (x20.1.Tests), .int .i64 (x20.1.Names)]) hs (y_extract rfl rfl) ?_; clear hs; (try clear a w); intro a w hs
   refine sy (v := .bool (x20.2)) hs (y_extract rfl rfl) ?_; clear hs; (try clear a w); intro a w hs
   refine RL_alloc hs ti53 (.free rfl) (by decide) ?_; clear hs; (try clear a w); intro b22 a w hs
   replace hs : St _ _ _ (.blk b22 (.cells #[.int .i64 (0), .int .i64 (0), .int .i64 (0)] 53 (0, 0)) :: .blk b14 (.cells #[v1] 24 (0, 0)) :: L) _ _ _ := hs
   refine RL_storeAll (i := 0) hs rfl rfl rfl ti53 ⟨rfl, rfl⟩ (AllC.arr (r := [.int .i64 (x20.1.Ids), .int .i64 (x20.1.Tests), .int .i64 (x20.1.Names)]) ⟨rfl, rfl, rfl, trivial⟩) (.free rfl) ?_; clear hs; (try clear a w); intro a w hs
   replace hs : St _ _ _ (.blk b22 (.cells #[.int .i64 (x20.1.Ids), .int .i64 (x20.1.Tests), .int .i64 (x20.1.Names)] 53 (0, 0)) :: .blk b14 (.cells #[v1] 24 (0, 0)) :: L) _ _ _ := hs
   refine sy (v := .bool (x20.2)) hs (y_assign rfl) ?_; clear hs; (try clear a w); intro a w hs
   refine RL_nil ?_
   refine hK5 _ _ ?_; clear hK5
   refine W_seq fun K6 hK6 => ?_
   refine W_region ?_
   refine sy hs (y_ldB rfl Tryd.underlying24 rfl ti24 (.tail _ (.head _)) rfl) ?_; clear hs; (try clear a w); intro a w hs
   refine sy (v := .int .i64 (p3)) hs (y_move rfl) ?_; clear hs; (try clear a w); intro a w hs
   refine sy (v := a2) hs (y_move rfl) ?_; clear hs; (try clear a w); intro a w hs
   obtain ⟨x24, hx25, hm⟩ := ob hm
   refine sy hs (y_call rfl has23 rfl (match_Best_ok n (f := f) (a0 := [v1]) (a2 := a2) hT0 hT1 hTT ⟨_, rfl, ⟨rw2, hR3, hW4⟩⟩ ⟨rw10, hR11, hW12⟩ hx25)) ?_; clear hs; (try clear a w); intro a w hs
   refine sy (v := .tuple #[.agg #[.int .i64 (x24.1.Ids), .int .i64 (x24.1.Tests), .int .i64 (x24.1.Names)], .bool (x24.2)]) hs (y_move rfl) ?_; clear hs; (try clear a w); intro a w hs
   refine sy (v := .agg #[.int .i64 (x24.1.Ids), .int .i64 (x24.1.Tests), .int .i64 (x24.1.Names)]) hs (y_extract rfl rfl) ?_; clear hs; (try clear a w); intro a w hs
   refine sy (v := .bool (x24.2)) hs (y_extract rfl rfl) ?_; clear hs; (try clear a w); intro a w hs
   refine RL_alloc hs ti53 (.free rfl) (by decide) ?_; clear hs; (try clear a w); intro b26 a w hs
   replace hs : St _ _ _ (.blk b26 (.cells #[.int .i64 (0), .int .i64 (0), .int .i64 (0)] 53 (0, 0)) :: .blk b22 (.cells #[.int .i64 (x20.1.Ids), .int .i64 (x20.1.Tests), .int .i64 (x20.1.Names)] 53 (0, 0)) :: .blk b14 (.cells #[v1] 24 (0, 0)) :: L) _ _ _ := hs
   refine RL_storeAll (i := 0) hs rfl rfl rfl ti53 ⟨rfl, rfl⟩ (AllC.arr (r := [.int .i64 (x24.1.Ids), .int .i64 (x24.1.Tests), .int .i64 (x24.1.Names)]) ⟨rfl, rfl, rfl, trivial⟩) (.free rfl) ?_; clear hs; (try clear a w); intro a w hs
   replace hs : St _ _ _ (.blk b26 (.cells #[.int .i64 (x24.1.Ids), .int .i64 (x24.1.Tests), .int .i64 (x24.1.Names)] 53 (0, 0)) :: .blk b22 (.cells #[.int .i64 (x20.1.Ids), .int .i64 (x20.1.Tests), .int .i64 (x20.1.Names)] 53 (0, 0)) :: .blk b14 (.cells #[v1] 24 (0, 0)) :: L) _ _ _ := hs
   refine sy (v := .bool (x24.2)) hs (y_assign rfl) ?_; clear hs; (try clear a w); intro a w hs
   refine RL_nil ?_
   refine hK6 _ _ ?_; clear hK6
   refine W_seq fun K7 hK7 => ?_
   refine W_post (fun a w => ∃ (y30 : match_Weight) (y33 : Bool) (b29 : Nat) (r31 : List Value), law10_MatchLists_k2 n x20 x24 y30 y33 = some res ∧ t_match_Weight.R f r31 y30 ∧ St 76 w0 f (.blk b29 (.cells r31.toArray 53 (0, 0)) :: .blk b26 (.cells #[.int .i64 (x24.1.Ids), .int .i64 (x24.1.Tests), .int .i64 (x24.1.Names)] 53 (0, 0)) :: .blk b22 (.cells #[.int .i64 (x20.1.Ids), .int .i64 (x20.1.Tests), .int .i64 (x20.1.Names)] 53 (0, 0)) :: L) [(9, .pointer (some ⟨b22, 0, none⟩)), (10, .bool (x20.2)), (11, .pointer (some ⟨b26, 0, none⟩)), (12, .bool (x24.2)), (13, .pointer (some ⟨b29, 0, none⟩)), (14, .bool (y33))] a w) ?_ ?_
   ·clear hs hm
    rintro a w ⟨y30, y33, b29, r31, hm, hq32, hs⟩
    obtain rfl : _ = ([.int .i64 (y30.Ids), .int .i64 (y30.Tests), .int .i64 (y30.Names)] : List Value) := hq32
    replace hs : St _ _ _ (.blk b29 (.cells #[.int .i64 (y30.Ids), .int .i64 (y30.Tests), .int .i64 (y30.Names)] 53 (0, 0)) :: .blk b26 (.cells #[.int .i64 (x24.1.Ids), .int .i64 (x24.1.Tests), .int .i64 (x24.1.Names)] 53 (0, 0)) :: .blk b22 (.cells #[.int .i64 (x20.1.Ids), .int .i64 (x20.1.Tests), .int .i64 (x20.1.Names)] 53 (0, 0)) :: L) _ _ _ := hs
    unfold law10_MatchLists_k2 at hm
    refine hK7 _ _ ?_; clear hK7
    refine W_seq fun K8 hK8 => ?_
    refine W_seq fun K9 hK9 => ?_
    refine W_post (fun a w => St 76 w0 f (.blk b29 (.cells #[.int .i64 (y30.Ids), .int .i64 (y30.Tests), .int .i64 (y30.Names)] 53 (0, 0)) :: .blk b26 (.cells #[.int .i64 (x24.1.Ids), .int .i64 (x24.1.Tests), .int .i64 (x24.1.Names)] 53 (0, 0)) :: .blk b22 (.cells #[.int .i64 (x20.1.Ids), .int .i64 (x20.1.Tests), .int .i64 (x20.1.Names)] 53 (0, 0)) :: L) [(9, .pointer (some ⟨b22, 0, none⟩)), (10, .bool (x20.2)), (11, .pointer (some ⟨b26, 0, none⟩)), (12, .bool (x24.2)), (13, .pointer (some ⟨b29, 0, none⟩)), (57, .bool ((bif x20.2 then (!(y33 == true)) else (!(y33 == x24.2)))))] a w) ?_ ?_
    ·clear hs; intro a w hs
     refine hK9 _ _ ?_; clear hK9
     refine W_cond hs rfl (fun hg34 => ?_) (fun hg34 => ?_)
     ·replace hm := oc_t hg34 hm
      refine W_seq fun K10 hK10 => ?_
      refine W_region ?_
      refine sy (v := .bool (false)) hs (y_assign rfl) ?_; clear hs; (try clear a w); intro a w hs
      refine RL_nil ?_
      refine hK10 _ _ ?_; clear hK10
      refine W_ret ?_
      obtain rfl := Option.some.inj hm
      refine RtV1 hs rfl (rv_t hs rfl) ?_
      exact ⟨rfl, ((hs.subL (.cons _ (.cons _ (.cons _ (.refl _))))).weak hle).cw⟩
     ·replace hm := oc_f hg34 hm
      refine W_skip ?_
      refine hK8 _ _ ?_; clear hK8
      refine W_seq fun K11 hK11 => ?_
      refine W_region ?_
      refine sy hs (y_ldB rfl Tryd.underlying53 rfl ti53 (.tail _ (.tail _ (.head _))) rfl) ?_; clear hs; (try clear a w); intro a w hs
      refine RL_alloc hs ti53 (.free rfl) (by decide) ?_; clear hs; (try clear a w); intro b35 a w hs
      replace hs : St _ _ _ (.blk b35 (.cells #[.int .i64 (0), .int .i64 (0), .int .i64 (0)] 53 (0, 0)) :: .blk b29 (.cells #[.int .i64 (y30.Ids), .int .i64 (y30.Tests), .int .i64 (y30.Names)] 53 (0, 0)) :: .blk b26 (.cells #[.int .i64 (x24.1.Ids), .int .i64 (x24.1.Tests), .int .i64 (x24.1.Names)] 53 (0, 0)) :: .blk b22 (.cells #[.int .i64 (x20.1.Ids), .int .i64 (x20.1.Tests), .int .i64 (x20.1.Names)] 53 (0, 0)) :: L) _ _ _ := hs
      refine RL_storeAll (i := 0) hs rfl rfl rfl ti53 ⟨rfl, rfl⟩ (AllC.arr (r := [.int .i64 (x20.1.Ids), .int .i64 (x20.1.Tests), .int .i64 (x20.1.Names)]) ⟨rfl, rfl, rfl, trivial⟩) (.free rfl) ?_; clear hs; (try clear a w); intro a w hs
      replace hs : St _ _ _ (.blk b35 (.cells #[.int .i64 (x20.1.Ids), .int .i64 (x20.1.Tests), .int .i64 (x20.1.Names)] 53 (0, 0)) :: .blk b29 (.cells #[.int .i64 (y30.Ids), .int .i64 (y30.Tests), .int .i64 (y30.Names)] 53 (0, 0)) :: .blk b26 (.cells #[.int .i64 (x24.1.Ids), .int .i64 (x24.1.Tests), .int .i64 (x24.1.Names)] 53 (0, 0)) :: .blk b22 (.cells #[.int .i64 (x20.1.Ids), .int .i64 (x20.1.Tests), .int .i64 (x20.1.Names)] 53 (0, 0)) :: L) _ _ _ := hs
      refine RL_nil ?_
      refine hK11 _ _ ?_; clear hK11
      refine W_seq fun K12 hK12 => ?_
      refine W_seq fun K13 hK13 => ?_
      refine W_post (fun a w => ∃ (y37 : Bool), law10_MatchLists_k3 n x20 x24 y30 y37 = some res ∧ St 76 w0 f (.blk b35 (.cells #[.int .i64 (x20.1.Ids), .int .i64 (x20.1.Tests), .int .i64 (x20.1.Names)] 53 (0, 0)) :: .blk b29 (.cells #[.int .i64 (y30.Ids), .int .i64 (y30.Tests), .int .i64 (y30.Names)] 53 (0, 0)) :: .blk b26 (.cells #[.int .i64 (x24.1.Ids), .int .i64 (x24.1.Tests), .int .i64 (x24.1.Names)] 53 (0, 0)) :: L) [(11, .pointer (some ⟨b26, 0, none⟩)), (13, .pointer (some ⟨b29, 0, none⟩)), (15, .pointer (some ⟨b35, 0, none⟩)), (68, .bool (y37))] a w) ?_ ?_
      ·clear hs hm
       rintro a w ⟨y37, hm, hs⟩
       replace hs : St _ _ _ (.blk b35 (.cells #[.int .i64 (x20.1.Ids), .int .i64 (x20.1.Tests), .int .i64 (x20.1.Names)] 53 (0, 0)) :: .blk b29 (.cells #[.int .i64 (y30.Ids), .int .i64 (y30.Tests), .int .i64 (y30.Names)] 53 (0, 0)) :: .blk b26 (.cells #[.int .i64 (x24.1.Ids), .int .i64 (x24.1.Tests), .int .i64 (x24.1.Names)] 53 (0, 0)) :: L) _ _ _ := hs
       unfold law10_MatchLists_k3 at hm
       refine hK13 _ _ ?_; clear hK13
       refine W_post (fun a w => ∃ (y38 : match_Weight) (r39 : List Value), law10_MatchLists_k4 n y30 y38 = some res ∧ t_match_Weight.R f r39 y38 ∧ St 76 w0 f (.blk b35 (.cells r39.toArray 53 (0, 0)) :: .blk b29 (.cells #[.int .i64 (y30.Ids), .int .i64 (y30.Tests), .int .i64 (y30.Names)] 53 (0, 0)) :: L) [(13, .pointer (some ⟨b29, 0, none⟩)), (15, .pointer (some ⟨b35, 0, none⟩))] a w) ?_ ?_
       ·clear hs hm
        rintro a w ⟨y38, r39, hm, hq40, hs⟩
        obtain rfl : _ = ([.int .i64 (y38.Ids), .int .i64 (y38.Tests), .int .i64 (y38.Names)] : List Value) := hq40
        replace hs : St _ _ _ (.blk b35 (.cells #[.int .i64 (y38.Ids), .int .i64 (y38.Tests), .int .i64 (y38.Names)] 53 (0, 0)) :: .blk b29 (.cells #[.int .i64 (y30.Ids), .int .i64 (y30.Tests), .int .i64 (y30.Names)] 53 (0, 0)) :: L) _ _ _ := hs
        unfold law10_MatchLists_k4 at hm
        refine hK12 _ _ ?_; clear hK12
        refine W_seq fun K14 hK14 => ?_
        refine W_post (fun a w => ∃ (y41 : Bool), law10_MatchLists_k5 y41 = some res ∧ St 76 w0 f (L) [(8, .bool (y41))] a w) ?_ ?_
        ·clear hs hm
         rintro a w ⟨y41, hm, hs⟩
         replace hs : St _ _ _ (L) _ _ _ := hs
         unfold law10_MatchLists_k5 at hm
         refine hK14 _ _ ?_; clear hK14
         refine W_ret ?_
         obtain rfl := Option.some.inj hm
         refine RtV1 hs rfl (rv_t hs rfl) ?_
         exact ⟨rfl, (hs.weak hle).cw⟩
        ·refine W_region ?_
         refine sy hs (y_ldB rfl Tryd.underlying53 rfl ti53 (.tail _ (.head _)) rfl) ?_; clear hs; (try clear a w); intro a w hs
         refine sy hs (y_ldB rfl Tryd.underlying53 rfl ti53 (.head _) rfl) ?_; clear hs; (try clear a w); intro a w hs
         refine sy hs (y_steql rfl rfl Tryd.underlying53 (by kernel_rfl) (by kernel_rfl) (fun w => (eqF_int rfl Tryd.underlying3 rfl rfl (eqF_int rfl Tryd.underlying3 rfl rfl (eqF_int rfl Tryd.underlying3 rfl rfl eqF_nil))))) ?_; clear hs; (try clear a w); intro a w hs
         refine sy (v := .bool ((decide (y30.Ids = y38.Ids) && (decide (y30.Tests = y38.Tests) && (decide (y30.Names = y38.Names) && true))))) hs (y_move rfl) ?_; clear hs; (try clear a w); intro a w hs
         refine St.split hs (t := 73) rfl (fun hg42 hq => ?_) (fun hg42 hq => ?_)
         ·clear hs; have hs := hq; clear hq
          replace hm := oc_t hg42 hm
          obtain ⟨x43, hx44, hm⟩ := ob hm
          refine syg hs (y_call rfl has11 rfl (law10_known_ok n (f := f)  hT0 hT1 hTT hx44)) ?_; clear hs; (try clear a w); intro a w hs
          refine sy (v := .bool (x43)) hs (y_pick rfl rfl) ?_; clear hs; (try clear a w); intro a w hs
          refine sy (v := .bool (x43)) hs (y_assign rfl) ?_; clear hs; (try clear a w); intro a w hs
          refine RL_nil ?_
          exact ⟨x43, hm, hs.subs ⟨rfl, trivial⟩ (.cons _ (.cons _ (.refl _)))⟩
         ·clear hs; have hs := hq; clear hq
          replace hm := oc_f hg42 hm
          refine sno hs ?_; clear hs; (try clear a w); intro a w hs
          refine sy (v := .bool (false)) hs (y_pick rfl rfl) ?_; clear hs; (try clear a w); intro a w hs
          refine sy (v := .bool (false)) hs (y_assign rfl) ?_; clear hs; (try clear a w); intro a w hs
          refine RL_nil ?_
          exact ⟨false, hm, hs.subs ⟨rfl, trivial⟩ (.cons _ (.cons _ (.refl _)))⟩
       ·refine W_cond hs rfl (fun hg45 => ?_) (fun hg45 => ?_)
        ·replace hm := oc_t hg45 hm
         refine W_region ?_
         refine sy hs (y_ldB rfl Tryd.underlying53 rfl ti53 (.tail _ (.tail _ (.head _))) rfl) ?_; clear hs; (try clear a w); intro a w hs
         refine RL_storeAll (i := 0) hs rfl rfl rfl ti53 ⟨rfl, rfl⟩ (AllC.arr (r := [.int .i64 (x24.1.Ids), .int .i64 (x24.1.Tests), .int .i64 (x24.1.Names)]) ⟨rfl, rfl, rfl, trivial⟩) (.free rfl) ?_; clear hs; (try clear a w); intro a w hs
         replace hs : St _ _ _ (.blk b35 (.cells #[.int .i64 (x24.1.Ids), .int .i64 (x24.1.Tests), .int .i64 (x24.1.Names)] 53 (0, 0)) :: .blk b29 (.cells #[.int .i64 (y30.Ids), .int .i64 (y30.Tests), .int .i64 (y30.Names)] 53 (0, 0)) :: .blk b26 (.cells #[.int .i64 (x24.1.Ids), .int .i64 (x24.1.Tests), .int .i64 (x24.1.Names)] 53 (0, 0)) :: L) _ _ _ := hs
         refine RL_nil ?_
         exact ⟨x24.1, [.int .i64 (x24.1.Ids), .int .i64 (x24.1.Tests), .int .i64 (x24.1.Names)], hm, rfl, hs.subs ⟨rfl, rfl, trivial⟩ (.cons_cons _ (.cons_cons _ (.cons _ (.refl _))))⟩
        ·replace hm := oc_f hg45 hm
         refine W_skip ?_
         exact ⟨x20.1, [.int .i64 (x20.1.Ids), .int .i64 (x20.1.Tests), .int .i64 (x20.1.Names)], hm, rfl, hs.subs ⟨rfl, rfl, trivial⟩ (.cons_cons _ (.cons_cons _ (.cons _ (.refl _))))⟩
      ·refine W_region ?_
       refine sy (v := .bool (x20.2)) hs (y_move rfl) ?_; clear hs; (try clear a w); intro a w hs
       refine sy (v := .bool ((!x20.2))) hs (y_not rfl) ?_; clear hs; (try clear a w); intro a w hs
       refine sy (v := .bool ((!x20.2))) hs (y_move rfl) ?_; clear hs; (try clear a w); intro a w hs
       refine St.split hs (t := 61) rfl (fun hg46 hq => ?_) (fun hg46 hq => ?_)
       ·clear hs; have hs := hq; clear hq
        replace hm := oc_t hg46 hm
        refine sno hs ?_; clear hs; (try clear a w); intro a w hs
        refine sno hs ?_; clear hs; (try clear a w); intro a w hs
        refine sun hs ?_; clear hs; (try clear a w); intro a w hs
        refine sun hs ?_; clear hs; (try clear a w); intro a w hs
        refine sun hs ?_; clear hs; (try clear a w); intro a w hs
        refine sno hs ?_; clear hs; (try clear a w); intro a w hs
        refine sy (v := .bool (true)) hs (y_pick rfl rfl) ?_; clear hs; (try clear a w); intro a w hs
        refine RL_nil ?_
        exact ⟨true, hm, hs.subs ⟨rfl, rfl, rfl, rfl, trivial⟩ (.cons_cons _ (.cons_cons _ (.cons_cons _ (.cons _ (.refl _)))))⟩
       ·clear hs; have hs := hq; clear hq
        replace hm := oc_f hg46 hm
        refine syg (v := .bool (x24.2)) hs (y_move rfl) ?_; clear hs; (try clear a w); intro a w hs
        refine syg (v := .bool (x24.2)) hs (y_move rfl) ?_; clear hs; (try clear a w); intro a w hs
        refine St.split hs (t := 63) rfl (fun hg47 hq => ?_) (fun hg47 hq => ?_)
        ·clear hs; have hs := hq; clear hq
         replace hm := oc_t hg47 hm
         refine syg hs (y_ldB rfl Tryd.underlying53 rfl ti53 (.tail _ (.tail _ (.tail _ (.head _)))) rfl) ?_; clear hs; (try clear a w); intro a w hs
         refine syg hs (y_ldB rfl Tryd.underlying53 rfl ti53 (.tail _ (.tail _ (.head _))) rfl) ?_; clear hs; (try clear a w); intro a w hs
         obtain ⟨x48, hx49, hm⟩ := ob hm
         refine syg hs (y_call rfl has18 rfl (match_Less_ok n (f := f) (a0 := [.int .i64 (x20.1.Ids), .int .i64 (x20.1.Tests), .int .i64 (x20.1.Names)]) (a1 := [.int .i64 (x24.1.Ids), .int .i64 (x24.1.Tests), .int .i64 (x24.1.Names)]) rfl rfl hx49)) ?_; clear hs; (try clear a w); intro a w hs
         refine syg (v := .bool (x48)) hs (y_pick rfl rfl) ?_; clear hs; (try clear a w); intro a w hs
         refine sy (v := .bool (x48)) hs (y_pick rfl rfl) ?_; clear hs; (try clear a w); intro a w hs
         refine RL_nil ?_
         exact ⟨x48, hm, hs.subs ⟨rfl, rfl, rfl, rfl, trivial⟩ (.cons_cons _ (.cons_cons _ (.cons_cons _ (.cons _ (.refl _)))))⟩
        ·clear hs; have hs := hq; clear hq
         replace hm := oc_f hg47 hm
         refine sno hs ?_; clear hs; (try clear a w); intro a w hs
         refine sno hs ?_; clear hs; (try clear a w); intro a w hs
         refine sno hs ?_; clear hs; (try clear a w); intro a w hs
         refine syg (v := .bool (false)) hs (y_pick rfl rfl) ?_; clear hs; (try clear a w); intro a w hs
         refine sy (v := .bool (false)) hs (y_pick rfl rfl) ?_; clear hs; (try clear a w); intro a w hs
         refine RL_nil ?_
         exact ⟨false, hm, hs.subs ⟨rfl, rfl, rfl, rfl, trivial⟩ (.cons_cons _ (.cons_cons _ (.cons_cons _ (.cons _ (.refl _)))))⟩
    ·refine W_region ?_
     refine sy (v := .bool (y33)) hs (y_move rfl) ?_; clear hs; (try clear a w); intro a w hs
     refine sy (v := .bool (x20.2)) hs (y_move rfl) ?_; clear hs; (try clear a w); intro a w hs
     refine sy (v := .bool (x20.2)) hs (y_move rfl) ?_; clear hs; (try clear a w); intro a w hs
     refine St.split hs (t := 54) rfl (fun hg50 hq => ?_) (fun hg50 hq => ?_)
     ·clear hs; have hs := hq; clear hq
      refine sno hs ?_; clear hs; (try clear a w); intro a w hs
      refine sy (v := .bool (true)) hs (y_pick rfl rfl) ?_; clear hs; (try clear a w); intro a w hs
      refine sy hs (y_bneq rfl rfl Tryd.underlying4) ?_; clear hs; (try clear a w); intro a w hs
      refine RL_nil ?_
      exact hs.sub ⟨rfl, rfl, rfl, rfl, rfl, (lkB (((bif_t hg50).trans rfl)) rfl), trivial⟩
     ·clear hs; have hs := hq; clear hq
      refine syg (v := .bool (x24.2)) hs (y_move rfl) ?_; clear hs; (try clear a w); intro a w hs
      refine sy (v := .bool (x24.2)) hs (y_pick rfl rfl) ?_; clear hs; (try clear a w); intro a w hs
      refine sy hs (y_bneq rfl rfl Tryd.underlying4) ?_; clear hs; (try clear a w); intro a w hs
      refine RL_nil ?_
      exact hs.sub ⟨rfl, rfl, rfl, rfl, rfl, (lkB (((bif_f hg50).trans rfl)) rfl), trivial⟩
   ·have hsD := hs.subL (L' := .blk b14 (.cells #[v1] 24 (0, 0)) :: []) (.cons _ (.cons _ (.cons_cons _ (List.nil_sublist _))))
    have hbd51 := Fz.le.refl f
    refine T_start hs (.blk b14 (.cells #[v1] 24 (0, 0)) :: []) [] (.look 0 (.look 1 (.look 3 (.look 5 (.any [2, 11] (fun i => bif Nat.beq i 2 then .any [4, 11] (fun i => bif Nat.beq i 4 then .any [6, 11] (fun i => bif Nat.beq i 6 then .any [7, 11] (fun i => bif Nat.beq i 7 then .look 8 (.look 9 (.look 10 (.any [11] (fun _ => .any [12] (fun _ => .look 13 (.done)))))) else .any [7] (fun _ => .look 8 (.look 9 (.look 10 (.any [12] (fun _ => .look 13 (.done))))))) else .any [6] (fun _ => .any [7] (fun _ => .look 8 (.look 9 (.look 10 (.any [12] (fun _ => .look 13 (.done)))))))) else .any [4] (fun _ => .any [6] (fun _ => .any [7] (fun _ => .look 8 (.look 9 (.look 10 (.any [12] (fun _ => .look 13 (.done))))))))) else .any [2] (fun _ => .any [4] (fun _ => .any [6] (fun _ => .any [7] (fun _ => .look 8 (.look 9 (.look 10 (.any [12] (fun _ => .look 13 (.done))))))))))))))) mixed (by kernel_rfl) ?_; clear hs; (try clear a w); intro a he
    refine uy 0 he rfl (y_ldB rfl Tryd.underlying24 rfl ti24 (.head _) rfl) ?_; clear he; (try clear a); intro a he
    refine uy (v := .int .i64 (p3)) 1 he rfl (y_move rfl) ?_; clear he; (try clear a); intro a he
    refine uy (v := a1) 3 he rfl (y_move rfl) ?_; clear he; (try clear a); intro a he
    refine uy (v := a2) 5 he rfl (y_move rfl) ?_; clear he; (try clear a); intro a he
    refine T_any2 he rfl rfl ?_ ?_ <;> (clear he; (try clear a); intro a w hs)
    ·refine RL_bs0 hs Tryd.underlying31 ti27 ?_; clear hs; (try clear a w); intro v52 a w hs
     have hW53 : RW t_sheet_Selector f [] ([] : List sheet_Selector) := trivial
     generalize hgrw54 : ([] : List (List Value)) = rw54 at hs hW53; clear hgrw54
     replace hs : St _ _ _ (.row v52 27 1 rw54 :: .blk b26 (.cells #[.int .i64 (x24.1.Ids), .int .i64 (x24.1.Tests), .int .i64 (x24.1.Names)] 53 (0, 0)) :: .blk b22 (.cells #[.int .i64 (x20.1.Ids), .int .i64 (x20.1.Tests), .int .i64 (x20.1.Names)] 53 (0, 0)) :: .blk b14 (.cells #[v1] 24 (0, 0)) :: L) _ _ _ := hs
     have ho57 : v52.oneCell' = true := hs.one (i := 0) rfl
     refine uon hs ?_; clear hs; (try clear a w); intro a he
     refine T_any2 he rfl rfl ?_ ?_ <;> (clear he; (try clear a); intro a w hs)
     ·obtain ⟨x58, hx59, hm⟩ := ob hm
      obtain ⟨hbx58, hex58⟩ := appM_some hx59
      have hW62 := hW53.append hW8; rw [hex58] at hW62
      refine RL_append (i := 0) hs rfl rfl rfl hR7.up Tryd.underlying31 ti27 (by decide) (by rw [RW.len hW53, RW.len hW8]; exact hbx58) (.free rfl) (by decide) ?_; clear hs; (try clear a w); intro v60 a w hs
      generalize hgx58 : rw54 ++ rw6 = rw61 at hs hW62; clear hgx58
      replace hs : St _ _ _ (.row v60 27 1 rw61 :: .blk b26 (.cells #[.int .i64 (x24.1.Ids), .int .i64 (x24.1.Tests), .int .i64 (x24.1.Names)] 53 (0, 0)) :: .blk b22 (.cells #[.int .i64 (x20.1.Ids), .int .i64 (x20.1.Tests), .int .i64 (x20.1.Names)] 53 (0, 0)) :: .blk b14 (.cells #[v1] 24 (0, 0)) :: L) _ _ _ := hs
      have ho64 : v60.oneCell' = true := hs.one (i := 0) rfl
      refine uon hs ?_; clear hs; (try clear a w); intro a he
      refine T_any2 he rfl rfl ?_ ?_ <;> (clear he; (try clear a); intro a w hs)
      ·obtain ⟨x65, hx66, hm⟩ := ob hm
       obtain ⟨hbx65, hex65⟩ := appM_some hx66
       have hW69 := hW62.append hW12; rw [hex65] at hW69
       refine RL_append (i := 0) hs rfl rfl rfl hR11.up Tryd.underlying31 ti27 (by decide) (by rw [RW.len hW62, RW.len hW12]; exact hbx65) (.free rfl) (by decide) ?_; clear hs; (try clear a w); intro v67 a w hs
       generalize hgx65 : rw61 ++ rw10 = rw68 at hs hW69; clear hgx65
       replace hs : St _ _ _ (.row v67 27 1 rw68 :: .blk b26 (.cells #[.int .i64 (x24.1.Ids), .int .i64 (x24.1.Tests), .int .i64 (x24.1.Names)] 53 (0, 0)) :: .blk b22 (.cells #[.int .i64 (x20.1.Ids), .int .i64 (x20.1.Tests), .int .i64 (x20.1.Names)] 53 (0, 0)) :: .blk b14 (.cells #[v1] 24 (0, 0)) :: L) _ _ _ := hs
       have ho71 : v67.oneCell' = true := hs.one (i := 0) rfl
       refine uon hs ?_; clear hs; (try clear a w); intro a he
       refine T_any2 he rfl rfl ?_ ?_ <;> (clear he; (try clear a); intro a w hs)
       ·obtain ⟨x72, hx73, hm⟩ := ob hm
        refine sy hs (y_callCK (cap := []) rfl has23 rfl (fun w9 hw9 => callsP (Lr := [.row v67 27 1 rw68]) (Lf := .blk b26 (.cells #[.int .i64 (x24.1.Ids), .int .i64 (x24.1.Tests), .int .i64 (x24.1.Names)] 53 (0, 0)) :: .blk b22 (.cells #[.int .i64 (x20.1.Ids), .int .i64 (x20.1.Tests), .int .i64 (x20.1.Names)] 53 (0, 0)) :: .blk b14 (.cells #[v1] 24 (0, 0)) :: L) (perm_at _ 0 rfl) hw9 (fun Lz w9 hw9 => lent0 hw9 (fun f9_0 w9 hle9_0 hRl0 hw9 => (match_Best_ok n (f := f9_0) (a0 := [v1]) (a2 := v67) (hle9_0 _ _ hT0) (hle9_0 _ _ hT1) hTT ⟨_, rfl, ⟨rw2, hR3.le hle9_0, hW4.le hle9_0⟩⟩ ⟨rw68, hRl0, hW69.le hle9_0⟩ hx73) w0 _ w9 hw9)))) ?_; clear hs; (try clear a w); intro a w hs
        refine uon hs ?_; clear hs; (try clear a w); intro a he
        refine uy (v := .tuple #[.agg #[.int .i64 (x72.1.Ids), .int .i64 (x72.1.Tests), .int .i64 (x72.1.Names)], .bool (x72.2)]) 8 he rfl (y_move rfl) ?_; clear he; (try clear a); intro a he
        refine uy (v := .agg #[.int .i64 (x72.1.Ids), .int .i64 (x72.1.Tests), .int .i64 (x72.1.Names)]) 9 he rfl (y_extract rfl rfl) ?_; clear he; (try clear a); intro a he
        refine uy (v := .bool (x72.2)) 10 he rfl (y_extract rfl rfl) ?_; clear he; (try clear a); intro a he
        refine T_any1 he rfl ?_; clear he; (try clear a); intro a w hs
        refine RL_alloc hs ti53 (.free rfl) (by decide) ?_; clear hs; (try clear a w); intro b74 a w hs
        replace hs : St _ _ _ (.blk b74 (.cells #[.int .i64 (0), .int .i64 (0), .int .i64 (0)] 53 (0, 0)) :: .row v67 27 1 rw68 :: .blk b26 (.cells #[.int .i64 (x24.1.Ids), .int .i64 (x24.1.Tests), .int .i64 (x24.1.Names)] 53 (0, 0)) :: .blk b22 (.cells #[.int .i64 (x20.1.Ids), .int .i64 (x20.1.Tests), .int .i64 (x20.1.Names)] 53 (0, 0)) :: .blk b14 (.cells #[v1] 24 (0, 0)) :: L) _ _ _ := hs
        refine uon hs ?_; clear hs; (try clear a w); intro a he
        refine T_any1 he rfl ?_; clear he; (try clear a); intro a w hs
        refine RL_storeAll (i := 0) hs rfl rfl rfl ti53 ⟨rfl, rfl⟩ (AllC.arr (r := [.int .i64 (x72.1.Ids), .int .i64 (x72.1.Tests), .int .i64 (x72.1.Names)]) ⟨rfl, rfl, rfl, trivial⟩) (.free rfl) ?_; clear hs; (try clear a w); intro a w hs
        replace hs : St _ _ _ (.blk b74 (.cells #[.int .i64 (x72.1.Ids), .int .i64 (x72.1.Tests), .int .i64 (x72.1.Names)] 53 (0, 0)) :: .row v67 27 1 rw68 :: .blk b26 (.cells #[.int .i64 (x24.1.Ids), .int .i64 (x24.1.Tests), .int .i64 (x24.1.Names)] 53 (0, 0)) :: .blk b22 (.cells #[.int .i64 (x20.1.Ids), .int .i64 (x20.1.Tests), .int .i64 (x20.1.Names)] 53 (0, 0)) :: .blk b14 (.cells #[v1] 24 (0, 0)) :: L) _ _ _ := hs
        refine uon hs ?_; clear hs; (try clear a w); intro a he
        refine uy (v := .bool (x72.2)) 13 he rfl (y_assign rfl) ?_; clear he; (try clear a); intro a he
        refine T_nil he ?_; clear he; (try clear a); intro w hs; try clear hsD
        exact ⟨x72.1, x72.2, b74, [.int .i64 (x72.1.Ids), .int .i64 (x72.1.Tests), .int .i64 (x72.1.Names)], hm, rfl, hs.subs ⟨rfl, rfl, rfl, rfl, rfl, rfl, trivial⟩ (.cons_cons _ (.cons _ (.cons_cons _ (.cons_cons _ (.cons _ (.refl _))))))⟩
       ·refine RL_alloc hs ti53 (.free rfl) (by decide) ?_; clear hs; (try clear a w); intro b76 a w hs
        replace hs : St _ _ _ (.blk b76 (.cells #[.int .i64 (0), .int .i64 (0), .int .i64 (0)] 53 (0, 0)) :: .row v67 27 1 rw68 :: .blk b26 (.cells #[.int .i64 (x24.1.Ids), .int .i64 (x24.1.Tests), .int .i64 (x24.1.Names)] 53 (0, 0)) :: .blk b22 (.cells #[.int .i64 (x20.1.Ids), .int .i64 (x20.1.Tests), .int .i64 (x20.1.Names)] 53 (0, 0)) :: .blk b14 (.cells #[v1] 24 (0, 0)) :: L) _ _ _ := hs
        refine uon hs ?_; clear hs; (try clear a w); intro a he
        refine T_any1 he rfl ?_; clear he; (try clear a); intro a w hs
        obtain ⟨x78, hx79, hm⟩ := ob hm
        refine sy hs (y_callCK (cap := []) rfl has23 rfl (fun w9 hw9 => callsP (Lr := [.row v67 27 1 rw68]) (Lf := .blk b76 (.cells #[.int .i64 (0), .int .i64 (0), .int .i64 (0)] 53 (0, 0)) :: .blk b26 (.cells #[.int .i64 (x24.1.Ids), .int .i64 (x24.1.Tests), .int .i64 (x24.1.Names)] 53 (0, 0)) :: .blk b22 (.cells #[.int .i64 (x20.1.Ids), .int .i64 (x20.1.Tests), .int .i64 (x20.1.Names)] 53 (0, 0)) :: .blk b14 (.cells #[v1] 24 (0, 0)) :: L) (perm_at _ 1 rfl) hw9 (fun Lz w9 hw9 => lent0 hw9 (fun f9_0 w9 hle9_0 hRl0 hw9 => (match_Best_ok n (f := f9_0) (a0 := [v1]) (a2 := v67) (hle9_0 _ _ hT0) (hle9_0 _ _ hT1) hTT ⟨_, rfl, ⟨rw2, hR3.le hle9_0, hW4.le hle9_0⟩⟩ ⟨rw68, hRl0, hW69.le hle9_0⟩ hx79) w0 _ w9 hw9)))) ?_; clear hs; (try clear a w); intro a w hs
        refine uon hs ?_; clear hs; (try clear a w); intro a he
        refine uy (v := .tuple #[.agg #[.int .i64 (x78.1.Ids), .int .i64 (x78.1.Tests), .int .i64 (x78.1.Names)], .bool (x78.2)]) 8 he rfl (y_move rfl) ?_; clear he; (try clear a); intro a he
        refine uy (v := .agg #[.int .i64 (x78.1.Ids), .int .i64 (x78.1.Tests), .int .i64 (x78.1.Names)]) 9 he rfl (y_extract rfl rfl) ?_; clear he; (try clear a); intro a he
        refine uy (v := .bool (x78.2)) 10 he rfl (y_extract rfl rfl) ?_; clear he; (try clear a); intro a he
        refine T_any1 he rfl ?_; clear he; (try clear a); intro a w hs
        refine RL_storeAll (i := 0) hs rfl rfl rfl ti53 ⟨rfl, rfl⟩ (AllC.arr (r := [.int .i64 (x78.1.Ids), .int .i64 (x78.1.Tests), .int .i64 (x78.1.Names)]) ⟨rfl, rfl, rfl, trivial⟩) (.free rfl) ?_; clear hs; (try clear a w); intro a w hs
        replace hs : St _ _ _ (.blk b76 (.cells #[.int .i64 (x78.1.Ids), .int .i64 (x78.1.Tests), .int .i64 (x78.1.Names)] 53 (0, 0)) :: .row v67 27 1 rw68 :: .blk b26 (.cells #[.int .i64 (x24.1.Ids), .int .i64 (x24.1.Tests), .int .i64 (x24.1.Names)] 53 (0, 0)) :: .blk b22 (.cells #[.int .i64 (x20.1.Ids), .int .i64 (x20.1.Tests), .int .i64 (x20.1.Names)] 53 (0, 0)) :: .blk b14 (.cells #[v1] 24 (0, 0)) :: L) _ _ _ := hs
        refine uon hs ?_; clear hs; (try clear a w); intro a he
        refine uy (v := .bool (x78.2)) 13 he rfl (y_assign rfl) ?_; clear he; (try clear a); intro a he
        refine T_nil he ?_; clear he; (try clear a); intro w hs; try clear hsD
        exact ⟨x78.1, x78.2, b76, [.int .i64 (x78.1.Ids), .int .i64 (x78.1.Tests), .int .i64 (x78.1.Names)], hm, rfl, hs.subs ⟨rfl, rfl, rfl, rfl, rfl, rfl, trivial⟩ (.cons_cons _ (.cons _ (.cons_cons _ (.cons_cons _ (.cons _ (.refl _))))))⟩
      ·refine RL_alloc hs ti53 (.free rfl) (by decide) ?_; clear hs; (try clear a w); intro b80 a w hs
       replace hs : St _ _ _ (.blk b80 (.cells #[.int .i64 (0), .int .i64 (0), .int .i64 (0)] 53 (0, 0)) :: .row v60 27 1 rw61 :: .blk b26 (.cells #[.int .i64 (x24.1.Ids), .int .i64 (x24.1.Tests), .int .i64 (x24.1.Names)] 53 (0, 0)) :: .blk b22 (.cells #[.int .i64 (x20.1.Ids), .int .i64 (x20.1.Tests), .int .i64 (x20.1.Names)] 53 (0, 0)) :: .blk b14 (.cells #[v1] 24 (0, 0)) :: L) _ _ _ := hs
       refine uon hs ?_; clear hs; (try clear a w); intro a he
       refine T_any1 he rfl ?_; clear he; (try clear a); intro a w hs
       obtain ⟨x82, hx83, hm⟩ := ob hm
       obtain ⟨hbx82, hex82⟩ := appM_some hx83
       have hW86 := hW62.append hW12; rw [hex82] at hW86
       refine RL_append (i := 1) hs rfl rfl rfl hR11.up Tryd.underlying31 ti27 (by decide) (by rw [RW.len hW62, RW.len hW12]; exact hbx82) (.free rfl) (by decide) ?_; clear hs; (try clear a w); intro v84 a w hs
       generalize hgx82 : rw61 ++ rw10 = rw85 at hs hW86; clear hgx82
       replace hs : St _ _ _ (.blk b80 (.cells #[.int .i64 (0), .int .i64 (0), .int .i64 (0)] 53 (0, 0)) :: .row v84 27 1 rw85 :: .blk b26 (.cells #[.int .i64 (x24.1.Ids), .int .i64 (x24.1.Tests), .int .i64 (x24.1.Names)] 53 (0, 0)) :: .blk b22 (.cells #[.int .i64 (x20.1.Ids), .int .i64 (x20.1.Tests), .int .i64 (x20.1.Names)] 53 (0, 0)) :: .blk b14 (.cells #[v1] 24 (0, 0)) :: L) _ _ _ := hs
       have ho88 : v84.oneCell' = true := hs.one (i := 1) rfl
       refine uon hs ?_; clear hs; (try clear a w); intro a he
       refine T_any1 he rfl ?_; clear he; (try clear a); intro a w hs
       obtain ⟨x89, hx90, hm⟩ := ob hm
       refine sy hs (y_callCK (cap := []) rfl has23 rfl (fun w9 hw9 => callsP (Lr := [.row v84 27 1 rw85]) (Lf := .blk b80 (.cells #[.int .i64 (0), .int .i64 (0), .int .i64 (0)] 53 (0, 0)) :: .blk b26 (.cells #[.int .i64 (x24.1.Ids), .int .i64 (x24.1.Tests), .int .i64 (x24.1.Names)] 53 (0, 0)) :: .blk b22 (.cells #[.int .i64 (x20.1.Ids), .int .i64 (x20.1.Tests), .int .i64 (x20.1.Names)] 53 (0, 0)) :: .blk b14 (.cells #[v1] 24 (0, 0)) :: L) (perm_at _ 1 rfl) hw9 (fun Lz w9 hw9 => lent0 hw9 (fun f9_0 w9 hle9_0 hRl0 hw9 => (match_Best_ok n (f := f9_0) (a0 := [v1]) (a2 := v84) (hle9_0 _ _ hT0) (hle9_0 _ _ hT1) hTT ⟨_, rfl, ⟨rw2, hR3.le hle9_0, hW4.le hle9_0⟩⟩ ⟨rw85, hRl0, hW86.le hle9_0⟩ hx90) w0 _ w9 hw9)))) ?_; clear hs; (try clear a w); intro a w hs
       refine uon hs ?_; clear hs; (try clear a w); intro a he
       refine uy (v := .tuple #[.agg #[.int .i64 (x89.1.Ids), .int .i64 (x89.1.Tests), .int .i64 (x89.1.Names)], .bool (x89.2)]) 8 he rfl (y_move rfl) ?_; clear he; (try clear a); intro a he
       refine uy (v := .agg #[.int .i64 (x89.1.Ids), .int .i64 (x89.1.Tests), .int .i64 (x89.1.Names)]) 9 he rfl (y_extract rfl rfl) ?_; clear he; (try clear a); intro a he
       refine uy (v := .bool (x89.2)) 10 he rfl (y_extract rfl rfl) ?_; clear he; (try clear a); intro a he
       refine T_any1 he rfl ?_; clear he; (try clear a); intro a w hs
       refine RL_storeAll (i := 0) hs rfl rfl rfl ti53 ⟨rfl, rfl⟩ (AllC.arr (r := [.int .i64 (x89.1.Ids), .int .i64 (x89.1.Tests), .int .i64 (x89.1.Names)]) ⟨rfl, rfl, rfl, trivial⟩) (.free rfl) ?_; clear hs; (try clear a w); intro a w hs
       replace hs : St _ _ _ (.blk b80 (.cells #[.int .i64 (x89.1.Ids), .int .i64 (x89.1.Tests), .int .i64 (x89.1.Names)] 53 (0, 0)) :: .row v84 27 1 rw85 :: .blk b26 (.cells #[.int .i64 (x24.1.Ids), .int .i64 (x24.1.Tests), .int .i64 (x24.1.Names)] 53 (0, 0)) :: .blk b22 (.cells #[.int .i64 (x20.1.Ids), .int .i64 (x20.1.Tests), .int .i64 (x20.1.Names)] 53 (0, 0)) :: .blk b14 (.cells #[v1] 24 (0, 0)) :: L) _ _ _ := hs
       refine uon hs ?_; clear hs; (try clear a w); intro a he
       refine uy (v := .bool (x89.2)) 13 he rfl (y_assign rfl) ?_; clear he; (try clear a); intro a he
       refine T_nil he ?_; clear he; (try clear a); intro w hs; try clear hsD
       exact ⟨x89.1, x89.2, b80, [.int .i64 (x89.1.Ids), .int .i64 (x89.1.Tests), .int .i64 (x89.1.Names)], hm, rfl, hs.subs ⟨rfl, rfl, rfl, rfl, rfl, rfl, trivial⟩ (.cons_cons _ (.cons _ (.cons_cons _ (.cons_cons _ (.cons _ (.refl _))))))⟩
     ·refine RL_alloc hs ti53 (.free rfl) (by decide) ?_; clear hs; (try clear a w); intro b91 a w hs
      replace hs : St _ _ _ (.blk b91 (.cells #[.int .i64 (0), .int .i64 (0), .int .i64 (0)] 53 (0, 0)) :: .row v52 27 1 rw54 :: .blk b26 (.cells #[.int .i64 (x24.1.Ids), .int .i64 (x24.1.Tests), .int .i64 (x24.1.Names)] 53 (0, 0)) :: .blk b22 (.cells #[.int .i64 (x20.1.Ids), .int .i64 (x20.1.Tests), .int .i64 (x20.1.Names)] 53 (0, 0)) :: .blk b14 (.cells #[v1] 24 (0, 0)) :: L) _ _ _ := hs
      refine uon hs ?_; clear hs; (try clear a w); intro a he
      refine T_any1 he rfl ?_; clear he; (try clear a); intro a w hs
      obtain ⟨x93, hx94, hm⟩ := ob hm
      obtain ⟨hbx93, hex93⟩ := appM_some hx94
      have hW97 := hW53.append hW8; rw [hex93] at hW97
      refine RL_append (i := 1) hs rfl rfl rfl hR7.up Tryd.underlying31 ti27 (by decide) (by rw [RW.len hW53, RW.len hW8]; exact hbx93) (.free rfl) (by decide) ?_; clear hs; (try clear a w); intro v95 a w hs
      generalize hgx93 : rw54 ++ rw6 = rw96 at hs hW97; clear hgx93
      replace hs : St _ _ _ (.blk b91 (.cells #[.int .i64 (0), .int .i64 (0), .int .i64 (0)] 53 (0, 0)) :: .row v95 27 1 rw96 :: .blk b26 (.cells #[.int .i64 (x24.1.Ids), .int .i64 (x24.1.Tests), .int .i64 (x24.1.Names)] 53 (0, 0)) :: .blk b22 (.cells #[.int .i64 (x20.1.Ids), .int .i64 (x20.1.Tests), .int .i64 (x20.1.Names)] 53 (0, 0)) :: .blk b14 (.cells #[v1] 24 (0, 0)) :: L) _ _ _ := hs
      have ho99 : v95.oneCell' = true := hs.one (i := 1) rfl
      refine uon hs ?_; clear hs; (try clear a w); intro a he
      refine T_any1 he rfl ?_; clear he; (try clear a); intro a w hs
      obtain ⟨x100, hx101, hm⟩ := ob hm
      obtain ⟨hbx100, hex100⟩ := appM_some hx101
      have hW104 := hW97.append hW12; rw [hex100] at hW104
      refine RL_append (i := 1) hs rfl rfl rfl hR11.up Tryd.underlying31 ti27 (by decide) (by rw [RW.len hW97, RW.len hW12]; exact hbx100) (.free rfl) (by decide) ?_; clear hs; (try clear a w); intro v102 a w hs
      generalize hgx100 : rw96 ++ rw10 = rw103 at hs hW104; clear hgx100
      replace hs : St _ _ _ (.blk b91 (.cells #[.int .i64 (0), .int .i64 (0), .int .i64 (0)] 53 (0, 0)) :: .row v102 27 1 rw103 :: .blk b26 (.cells #[.int .i64 (x24.1.Ids), .int .i64 (x24.1.Tests), .int .i64 (x24.1.Names)] 53 (0, 0)) :: .blk b22 (.cells #[.int .i64 (x20.1.Ids), .int .i64 (x20.1.Tests), .int .i64 (x20.1.Names)] 53 (0, 0)) :: .blk b14 (.cells #[v1] 24 (0, 0)) :: L) _ _ _ := hs
      have ho106 : v102.oneCell' = true := hs.one (i := 1) rfl
      refine uon hs ?_; clear hs; (try clear a w); intro a he
      refine T_any1 he rfl ?_; clear he; (try clear a); intro a w hs
      obtain ⟨x107, hx108, hm⟩ := ob hm
      refine sy hs (y_callCK (cap := []) rfl has23 rfl (fun w9 hw9 => callsP (Lr := [.row v102 27 1 rw103]) (Lf := .blk b91 (.cells #[.int .i64 (0), .int .i64 (0), .int .i64 (0)] 53 (0, 0)) :: .blk b26 (.cells #[.int .i64 (x24.1.Ids), .int .i64 (x24.1.Tests), .int .i64 (x24.1.Names)] 53 (0, 0)) :: .blk b22 (.cells #[.int .i64 (x20.1.Ids), .int .i64 (x20.1.Tests), .int .i64 (x20.1.Names)] 53 (0, 0)) :: .blk b14 (.cells #[v1] 24 (0, 0)) :: L) (perm_at _ 1 rfl) hw9 (fun Lz w9 hw9 => lent0 hw9 (fun f9_0 w9 hle9_0 hRl0 hw9 => (match_Best_ok n (f := f9_0) (a0 := [v1]) (a2 := v102) (hle9_0 _ _ hT0) (hle9_0 _ _ hT1) hTT ⟨_, rfl, ⟨rw2, hR3.le hle9_0, hW4.le hle9_0⟩⟩ ⟨rw103, hRl0, hW104.le hle9_0⟩ hx108) w0 _ w9 hw9)))) ?_; clear hs; (try clear a w); intro a w hs
      refine uon hs ?_; clear hs; (try clear a w); intro a he
      refine uy (v := .tuple #[.agg #[.int .i64 (x107.1.Ids), .int .i64 (x107.1.Tests), .int .i64 (x107.1.Names)], .bool (x107.2)]) 8 he rfl (y_move rfl) ?_; clear he; (try clear a); intro a he
      refine uy (v := .agg #[.int .i64 (x107.1.Ids), .int .i64 (x107.1.Tests), .int .i64 (x107.1.Names)]) 9 he rfl (y_extract rfl rfl) ?_; clear he; (try clear a); intro a he
      refine uy (v := .bool (x107.2)) 10 he rfl (y_extract rfl rfl) ?_; clear he; (try clear a); intro a he
      refine T_any1 he rfl ?_; clear he; (try clear a); intro a w hs
      refine RL_storeAll (i := 0) hs rfl rfl rfl ti53 ⟨rfl, rfl⟩ (AllC.arr (r := [.int .i64 (x107.1.Ids), .int .i64 (x107.1.Tests), .int .i64 (x107.1.Names)]) ⟨rfl, rfl, rfl, trivial⟩) (.free rfl) ?_; clear hs; (try clear a w); intro a w hs
      replace hs : St _ _ _ (.blk b91 (.cells #[.int .i64 (x107.1.Ids), .int .i64 (x107.1.Tests), .int .i64 (x107.1.Names)] 53 (0, 0)) :: .row v102 27 1 rw103 :: .blk b26 (.cells #[.int .i64 (x24.1.Ids), .int .i64 (x24.1.Tests), .int .i64 (x24.1.Names)] 53 (0, 0)) :: .blk b22 (.cells #[.int .i64 (x20.1.Ids), .int .i64 (x20.1.Tests), .int .i64 (x20.1.Names)] 53 (0, 0)) :: .blk b14 (.cells #[v1] 24 (0, 0)) :: L) _ _ _ := hs
      refine uon hs ?_; clear hs; (try clear a w); intro a he
      refine uy (v := .bool (x107.2)) 13 he rfl (y_assign rfl) ?_; clear he; (try clear a); intro a he
      refine T_nil he ?_; clear he; (try clear a); intro w hs; try clear hsD
      exact ⟨x107.1, x107.2, b91, [.int .i64 (x107.1.Ids), .int .i64 (x107.1.Tests), .int .i64 (x107.1.Names)], hm, rfl, hs.subs ⟨rfl, rfl, rfl, rfl, rfl, rfl, trivial⟩ (.cons_cons _ (.cons _ (.cons_cons _ (.cons_cons _ (.cons _ (.refl _))))))⟩
    ·refine RL_alloc hs ti53 (.free rfl) (by decide) ?_; clear hs; (try clear a w); intro b109 a w hs
     replace hs : St _ _ _ (.blk b109 (.cells #[.int .i64 (0), .int .i64 (0), .int .i64 (0)] 53 (0, 0)) :: .blk b26 (.cells #[.int .i64 (x24.1.Ids), .int .i64 (x24.1.Tests), .int .i64 (x24.1.Names)] 53 (0, 0)) :: .blk b22 (.cells #[.int .i64 (x20.1.Ids), .int .i64 (x20.1.Tests), .int .i64 (x20.1.Names)] 53 (0, 0)) :: .blk b14 (.cells #[v1] 24 (0, 0)) :: L) _ _ _ := hs
     refine uon hs ?_; clear hs; (try clear a w); intro a he
     refine T_any1 he rfl ?_; clear he; (try clear a); intro a w hs
     refine RL_bs0 hs Tryd.underlying31 ti27 ?_; clear hs; (try clear a w); intro v111 a w hs
     have hW112 : RW t_sheet_Selector f [] ([] : List sheet_Selector) := trivial
     generalize hgrw113 : ([] : List (List Value)) = rw113 at hs hW112; clear hgrw113
     replace hs : St _ _ _ (.row v111 27 1 rw113 :: .blk b109 (.cells #[.int .i64 (0), .int .i64 (0), .int .i64 (0)] 53 (0, 0)) :: .blk b26 (.cells #[.int .i64 (x24.1.Ids), .int .i64 (x24.1.Tests), .int .i64 (x24.1.Names)] 53 (0, 0)) :: .blk b22 (.cells #[.int .i64 (x20.1.Ids), .int .i64 (x20.1.Tests), .int .i64 (x20.1.Names)] 53 (0, 0)) :: .blk b14 (.cells #[v1] 24 (0, 0)) :: L) _ _ _ := hs
     have ho116 : v111.oneCell' = true := hs.one (i := 0) rfl
     refine uon hs ?_; clear hs; (try clear a w); intro a he
     refine T_any1 he rfl ?_; clear he; (try clear a); intro a w hs
     obtain ⟨x117, hx118, hm⟩ := ob hm
     obtain ⟨hbx117, hex117⟩ := appM_some hx118
     have hW121 := hW112.append hW8; rw [hex117] at hW121
     refine RL_append (i := 0) hs rfl rfl rfl hR7.up Tryd.underlying31 ti27 (by decide) (by rw [RW.len hW112, RW.len hW8]; exact hbx117) (.free rfl) (by decide) ?_; clear hs; (try clear a w); intro v119 a w hs
     generalize hgx117 : rw113 ++ rw6 = rw120 at hs hW121; clear hgx117
     replace hs : St _ _ _ (.row v119 27 1 rw120 :: .blk b109 (.cells #[.int .i64 (0), .int .i64 (0), .int .i64 (0)] 53 (0, 0)) :: .blk b26 (.cells #[.int .i64 (x24.1.Ids), .int .i64 (x24.1.Tests), .int .i64 (x24.1.Names)] 53 (0, 0)) :: .blk b22 (.cells #[.int .i64 (x20.1.Ids), .int .i64 (x20.1.Tests), .int .i64 (x20.1.Names)] 53 (0, 0)) :: .blk b14 (.cells #[v1] 24 (0, 0)) :: L) _ _ _ := hs
     have ho123 : v119.oneCell' = true := hs.one (i := 0) rfl
     refine uon hs ?_; clear hs; (try clear a w); intro a he
     refine T_any1 he rfl ?_; clear he; (try clear a); intro a w hs
     obtain ⟨x124, hx125, hm⟩ := ob hm
     obtain ⟨hbx124, hex124⟩ := appM_some hx125
     have hW128 := hW121.append hW12; rw [hex124] at hW128
     refine RL_append (i := 0) hs rfl rfl rfl hR11.up Tryd.underlying31 ti27 (by decide) (by rw [RW.len hW121, RW.len hW12]; exact hbx124) (.free rfl) (by decide) ?_; clear hs; (try clear a w); intro v126 a w hs
     generalize hgx124 : rw120 ++ rw10 = rw127 at hs hW128; clear hgx124
     replace hs : St _ _ _ (.row v126 27 1 rw127 :: .blk b109 (.cells #[.int .i64 (0), .int .i64 (0), .int .i64 (0)] 53 (0, 0)) :: .blk b26 (.cells #[.int .i64 (x24.1.Ids), .int .i64 (x24.1.Tests), .int .i64 (x24.1.Names)] 53 (0, 0)) :: .blk b22 (.cells #[.int .i64 (x20.1.Ids), .int .i64 (x20.1.Tests), .int .i64 (x20.1.Names)] 53 (0, 0)) :: .blk b14 (.cells #[v1] 24 (0, 0)) :: L) _ _ _ := hs
     have ho130 : v126.oneCell' = true := hs.one (i := 0) rfl
     refine uon hs ?_; clear hs; (try clear a w); intro a he
     refine T_any1 he rfl ?_; clear he; (try clear a); intro a w hs
     obtain ⟨x131, hx132, hm⟩ := ob hm
     refine sy hs (y_callCK (cap := []) rfl has23 rfl (fun w9 hw9 => callsP (Lr := [.row v126 27 1 rw127]) (Lf := .blk b109 (.cells #[.int .i64 (0), .int .i64 (0), .int .i64 (0)] 53 (0, 0)) :: .blk b26 (.cells #[.int .i64 (x24.1.Ids), .int .i64 (x24.1.Tests), .int .i64 (x24.1.Names)] 53 (0, 0)) :: .blk b22 (.cells #[.int .i64 (x20.1.Ids), .int .i64 (x20.1.Tests), .int .i64 (x20.1.Names)] 53 (0, 0)) :: .blk b14 (.cells #[v1] 24 (0, 0)) :: L) (perm_at _ 0 rfl) hw9 (fun Lz w9 hw9 => lent0 hw9 (fun f9_0 w9 hle9_0 hRl0 hw9 => (match_Best_ok n (f := f9_0) (a0 := [v1]) (a2 := v126) (hle9_0 _ _ hT0) (hle9_0 _ _ hT1) hTT ⟨_, rfl, ⟨rw2, hR3.le hle9_0, hW4.le hle9_0⟩⟩ ⟨rw127, hRl0, hW128.le hle9_0⟩ hx132) w0 _ w9 hw9)))) ?_; clear hs; (try clear a w); intro a w hs
     refine uon hs ?_; clear hs; (try clear a w); intro a he
     refine uy (v := .tuple #[.agg #[.int .i64 (x131.1.Ids), .int .i64 (x131.1.Tests), .int .i64 (x131.1.Names)], .bool (x131.2)]) 8 he rfl (y_move rfl) ?_; clear he; (try clear a); intro a he
     refine uy (v := .agg #[.int .i64 (x131.1.Ids), .int .i64 (x131.1.Tests), .int .i64 (x131.1.Names)]) 9 he rfl (y_extract rfl rfl) ?_; clear he; (try clear a); intro a he
     refine uy (v := .bool (x131.2)) 10 he rfl (y_extract rfl rfl) ?_; clear he; (try clear a); intro a he
     refine T_any1 he rfl ?_; clear he; (try clear a); intro a w hs
     refine RL_storeAll (i := 1) hs rfl rfl rfl ti53 ⟨rfl, rfl⟩ (AllC.arr (r := [.int .i64 (x131.1.Ids), .int .i64 (x131.1.Tests), .int .i64 (x131.1.Names)]) ⟨rfl, rfl, rfl, trivial⟩) (.free rfl) ?_; clear hs; (try clear a w); intro a w hs
     replace hs : St _ _ _ (.row v126 27 1 rw127 :: .blk b109 (.cells #[.int .i64 (x131.1.Ids), .int .i64 (x131.1.Tests), .int .i64 (x131.1.Names)] 53 (0, 0)) :: .blk b26 (.cells #[.int .i64 (x24.1.Ids), .int .i64 (x24.1.Tests), .int .i64 (x24.1.Names)] 53 (0, 0)) :: .blk b22 (.cells #[.int .i64 (x20.1.Ids), .int .i64 (x20.1.Tests), .int .i64 (x20.1.Names)] 53 (0, 0)) :: .blk b14 (.cells #[v1] 24 (0, 0)) :: L) _ _ _ := hs
     refine uon hs ?_; clear hs; (try clear a w); intro a he
     refine uy (v := .bool (x131.2)) 13 he rfl (y_assign rfl) ?_; clear he; (try clear a); intro a he
     refine T_nil he ?_; clear he; (try clear a); intro w hs; try clear hsD
     exact ⟨x131.1, x131.2, b109, [.int .i64 (x131.1.Ids), .int .i64 (x131.1.Tests), .int .i64 (x131.1.Names)], hm, rfl, hs.subs ⟨rfl, rfl, rfl, rfl, rfl, rfl, trivial⟩ (.cons _ (.cons_cons _ (.cons_cons _ (.cons_cons _ (.cons _ (.refl _))))))⟩
 ·refine W_region ?_
  refine sy hs (y_ldB rfl Tryd.underlying24 rfl ti24 (.head _) rfl) ?_; clear hs; (try clear a w); intro a w hs
  refine sy (v := a1) hs (y_move rfl) ?_; clear hs; (try clear a w); intro a w hs
  obtain ⟨x133, hx134, hm⟩ := ob hm
  refine sy hs (y_call rfl has10 rfl (law10_small_ok n (f := f) (a0 := [v1]) (a1 := a1) ⟨_, rfl, ⟨rw2, hR3, hW4⟩⟩ ⟨rw6, hR7, hW8⟩ hx134)) ?_; clear hs; (try clear a w); intro a w hs
  refine sy (v := .bool ((!x133))) hs (y_not rfl) ?_; clear hs; (try clear a w); intro a w hs
  refine sy (v := .bool ((!x133))) hs (y_move rfl) ?_; clear hs; (try clear a w); intro a w hs
  refine St.split hs (t := 20) rfl (fun hg135 hq => ?_) (fun hg135 hq => ?_)
  ·clear hs; have hs := hq; clear hq
   replace hm := oc_t hg135 hm
   refine sno hs ?_; clear hs; (try clear a w); intro a w hs
   refine sno hs ?_; clear hs; (try clear a w); intro a w hs
   refine sno hs ?_; clear hs; (try clear a w); intro a w hs
   refine sno hs ?_; clear hs; (try clear a w); intro a w hs
   refine sy (v := .bool (true)) hs (y_pick rfl rfl) ?_; clear hs; (try clear a w); intro a w hs
   refine RL_nil ?_
   exact ⟨true, hm, hs.sub ⟨rfl, rfl, rfl, rfl, rfl, trivial⟩⟩
  ·clear hs; have hs := hq; clear hq
   replace hm := oc_f hg135 hm
   refine syg hs (y_ldB rfl Tryd.underlying24 rfl ti24 (.head _) rfl) ?_; clear hs; (try clear a w); intro a w hs
   refine syg (v := a2) hs (y_move rfl) ?_; clear hs; (try clear a w); intro a w hs
   obtain ⟨x136, hx137, hm⟩ := ob hm
   refine syg hs (y_call rfl has10 rfl (law10_small_ok n (f := f) (a0 := [v1]) (a1 := a2) ⟨_, rfl, ⟨rw2, hR3, hW4⟩⟩ ⟨rw10, hR11, hW12⟩ hx137)) ?_; clear hs; (try clear a w); intro a w hs
   refine syg (v := .bool ((!x136))) hs (y_not rfl) ?_; clear hs; (try clear a w); intro a w hs
   refine sy (v := .bool ((!x136))) hs (y_pick rfl rfl) ?_; clear hs; (try clear a w); intro a w hs
   refine RL_nil ?_
   exact ⟨(!x136), hm, hs.sub ⟨rfl, rfl, rfl, rfl, rfl, trivial⟩⟩
end Go.Proofs.YtmkcglpeidbblaaDoor
