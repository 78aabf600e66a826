/-
  Walks and laws of this seat; the base is the text Base.
-/
import Derived.Test.YtmkcglpeidbblaaDoorL10e
import Derived.Test.YtmkcglpeidbblaaDoorRows
/-
  Models of functions, and that the functions compute them. Printed by lift.py.
-/
namespace Go.Proofs.YtmkcglpeidbblaaDoor
open Go.RowKit Go.Sl
/-! casement/casementbook.Within -/
/-! casement/casementbook.Same[int] -/
/-! casement/casementkeep.Whole -/
def keep_Whole_k1 : Option Bool :=
  some true
def keep_Whole_k3 (y11 : Int) (lp12 : Int → Option Bool) (y42 : ByteArray) : Option Bool :=
  (runesM y42).bind fun x43 =>
  (bif (decide ((textOf x43) ≠ y42)) then some false else
  lp12 (w64 (y11 + 1)))
def keep_Whole_l4 (p0 : api_Tree) (y11 : Int) (lp12 : Int → Option Bool) : Nat → ByteArray → Int → Option Bool
  | 0, _, _ => none
  | k53 + 1, y51, y52 =>
  (geti p0.Nodes y11).bind fun x54 =>
  (bif (decide (y52 < (x54.Attrs.length : Int))) then (addS y51 (bs [124])).bind fun x67 =>
  (geti p0.Nodes y11).bind fun x69 =>
  (geti x69.Attrs y52).bind fun x81 =>
  (addS x67 x81.Name).bind fun x88 =>
  (addS x88 (bs [124])).bind fun x90 =>
  (geti p0.Nodes y11).bind fun x92 =>
  (geti x92.Attrs y52).bind fun x104 =>
  (addS x90 x104.Value).bind fun x111 =>
  (keep_Whole_l4 p0 y11 lp12 k53) x111 (w64 (y52 + 1)) else
  keep_Whole_k3 y11 lp12 y51)
def keep_Whole_l2 (n : Nat) (p0 : api_Tree) : Nat → Int → Option Bool
  | 0, _ => none
  | k12 + 1, y11 =>
  (bif (decide (y11 < (p0.Nodes.length : Int))) then (geti p0.Nodes y11).bind fun x14 =>
  (addS x14.Name (bs [124])).bind fun x26 =>
  (geti p0.Nodes y11).bind fun x28 =>
  (addS x26 x28.Text).bind fun x40 =>
  keep_Whole_l4 p0 y11 (keep_Whole_l2 n p0 k12) n x40 0 else
  keep_Whole_k1)
def keep_Whole (n : Nat) (p0 : api_Tree) : Option Bool :=
  (ref5_Right n p0).bind fun x8 =>
  (bif (decide (x8 ≠ 0)) then some false else
  keep_Whole_l2 n p0 n 0)
set_option maxRecDepth 20000 in
set_option maxHeartbeats 4000000 in
theorem keep_Whole_ok (n : Nat) {f : Fz} {p0 : api_Tree} {a0 : List Value} {res : Bool} (h0 : t_api_Tree.R f a0 p0) (hm : keep_Whole n p0 = some res) : Gives Tryd.prog 26 [.agg a0.toArray] f (.bool res) := by
 unfold keep_Whole at hm
 intro w0 L w hC
 obtain ⟨v1, rfl, ⟨rw2, hR3, hW4⟩⟩ := h0
 refine enter Tryd.func26 rfl Tryd.ntmps26 (by simp) hC fun a hs => ?_
 have hle := Fz.le.refl f
 refine W_seq fun K1 hK1 => ?_
 refine W_region ?_
 refine sbox hs rfl ?_; clear hs; intro b6 a w hs
 replace hs : St _ _ _ (.blk b6 (.cells #[v1] 24 (0, 0)) :: L) _ _ _ := hs
 refine sy (v := .bool (false)) hs (y_assign rfl) ?_; clear hs; intro a w hs
 refine RL_nil ?_
 refine hK1 _ _ ?_; clear hK1
 refine W_seq fun K2 hK2 => ?_
 refine W_seq fun K3 hK3 => ?_
 refine W_region ?_
 refine sy hs (y_ldB rfl Tryd.underlying24 rfl ti24 (.head _) rfl) ?_; clear hs; intro a w hs
 obtain ⟨x8, hx9, hm⟩ := ob hm
 refine sy hs (y_call rfl has39 rfl (ref5_Right_ok n (f := f) (a0 := [v1]) ⟨_, rfl, ⟨rw2, hR3, hW4⟩⟩ hx9)) ?_; clear hs; intro a w hs
 refine sy hs (y_neq rfl rfl) ?_; clear hs; intro a w hs
 refine RL_nil ?_
 refine hK3 _ _ ?_; clear hK3
 refine W_cond hs rfl (fun hg10 => ?_) (fun hg10 => ?_)
 ·replace hm := oc_t hg10 hm
  refine W_seq fun K4 hK4 => ?_
  refine W_region ?_
  refine sy (v := .bool (false)) hs (y_assign rfl) ?_; clear hs; intro a w hs
  refine RL_nil ?_
  refine hK4 _ _ ?_; clear hK4
  refine W_ret ?_
  obtain rfl := Option.some.inj hm
  refine RtV1 hs rfl (rv_t hs rfl) ?_
  exact ⟨rfl, ((hs.subL (.cons _ (.refl _))).weak hle).cw⟩
 ·replace hm := oc_f hg10 hm
  refine W_skip ?_
  refine hK2 _ _ ?_; clear hK2
  refine W_seq fun K5 hK5 => ?_
  refine W_seq fun K6 hK6 => ?_
  refine W_region ?_
  refine sy (v := .int .i64 (0)) hs (y_assign rfl) ?_; clear hs; intro a w hs
  refine RL_nil ?_
  refine hK6 _ _ ?_; clear hK6
  refine W_post (fun a w => keep_Whole_k1 = some res ∧ St 71 w0 f (L) [] a w) ?_ ?_
  ·clear hs hm
   rintro a w ⟨hm, hs⟩
   replace hs : St _ _ _ (L) _ _ _ := hs
   unfold keep_Whole_k1 at hm
   refine hK5 _ _ ?_; clear hK5
   refine W_seq fun K7 hK7 => ?_
   refine W_region ?_
   refine sy (v := .bool (true)) hs (y_assign rfl) ?_; clear hs; intro a w hs
   refine RL_nil ?_
   refine hK7 _ _ ?_; clear hK7
   refine W_ret ?_
   obtain rfl := Option.some.inj hm
   refine RtV1 hs rfl (rv_t hs rfl) ?_
   exact ⟨rfl, (hs.weak hle).cw⟩
  ·refine W_block fun Qe8 hB8 hO8 => ?_
   refine W_loop (fun (k : Nat) a w => ∃ (y11 : Int), keep_Whole_l2 n p0 k y11 = some res ∧ St 71 w0 f (.blk b6 (.cells #[v1] 24 (0, 0)) :: L) [(1, .pointer (some ⟨b6, 0, none⟩)), (3, .int .i64 (y11))] a w) (fun k => k) n ⟨0, hm, hs.sub ⟨rfl, rfl, trivial⟩⟩ ?_
   clear hs hm
   intro k
   rintro a w ⟨y11, hm, hs⟩
   replace hs : St _ _ _ (.blk b6 (.cells #[v1] 24 (0, 0)) :: L) _ _ _ := hs
   intro K9 hK9
   cases k with
   | zero => simp [keep_Whole_l2] at hm
   | succ k12 =>
    rw [keep_Whole_l2] at hm
    refine W_seq fun K10 hK10 => ?_
    refine W_seq fun K11 hK11 => ?_
    refine W_region ?_
    refine sy (v := .int .i64 (y11)) hs (y_move rfl) ?_; clear hs; intro a w hs
    refine sy (v := .pointer (some ⟨b6, 0, none⟩)) hs (y_fieldAddr rfl (FO.of (off := 0) Tryd.underlying24 rfl rfl ti22 (by decide))) ?_; clear hs; intro a w hs
    refine sy (v := v1) hs (y_ld rfl Tryd.underlying22 rfl (Cell.blk (.head _) rfl)) ?_; clear hs; intro a w hs
    refine sy hs (y_lenW hR3 hW4 rfl Tryd.underlying22) ?_; clear hs; intro a w hs
    refine sy hs (y_lss rfl rfl) ?_; clear hs; intro a w hs
    refine RL_nil ?_
    refine hK11 _ _ ?_; clear hK11
    refine W_cond hs rfl (fun hg13 => ?_) (fun hg13 => ?_)
    ·replace hm := oc_t hg13 hm
     refine W_skip ?_
     refine hK10 _ _ ?_; clear hK10
     refine W_seq fun K12 hK12 => ?_
     refine W_block fun Qe13 hB13 hO13 => ?_
     refine W_seq fun K14 hK14 => ?_
     refine W_draw hs mixed (by kernel_rfl) ?_; intro a he
     refine qy (v := .pointer (some ⟨b6, 0, none⟩)) he (y_fieldAddr rfl (FO.of (off := 0) Tryd.underlying24 rfl rfl ti22 (by decide))) ?_; clear he; intro a he
     refine qy (v := v1) he (y_ld rfl Tryd.underlying22 rfl (Cell.blk (.head _) rfl)) ?_; clear he; intro a he
     refine qy (v := .int .i64 (y11)) he (y_move rfl) ?_; clear he; intro a he
     obtain ⟨x14, hx15, hm⟩ := ob hm
     obtain ⟨r16, hr17, hq18, hi19, hb20⟩ := hW4.geti hx15
     obtain ⟨v21, rfl, ⟨rw22, hR23, hW24⟩⟩ := hq18
     refine qy he (y_indexAddr hR3 rfl rfl hi19 hb20 Tryd.underlying22 ti42) ?_; clear he; intro a he
     refine qy (v := eaddr v1 9 y11.toNat 1) he (y_fieldAddrE (i := y11.toNat) (j := 0) hR3 rfl hb20 (FO.of (off := 1) Tryd.underlying42 rfl rfl ti9 (by decide))) ?_; clear he; intro a he
     refine qy (v := .string (x14.Name)) he (y_loadE (i := y11.toNat) (j := 1) hR3.up rfl hr17 rfl Tryd.underlying9 rfl) ?_; clear he; intro a he
     obtain ⟨x26, hx27, hm⟩ := ob hm
     obtain ⟨hbx26, hex26⟩ := addS_some hx27
     refine qy he (y_saddW rfl rfl hbx26 hex26) ?_; clear he; intro a he
     refine qy (v := .pointer (some ⟨b6, 0, none⟩)) he (y_fieldAddr rfl (FO.of (off := 0) Tryd.underlying24 rfl rfl ti22 (by decide))) ?_; clear he; intro a he
     refine qy (v := v1) he (y_ld rfl Tryd.underlying22 rfl (Cell.blk (.head _) rfl)) ?_; clear he; intro a he
     refine qy (v := .int .i64 (y11)) he (y_move rfl) ?_; clear he; intro a he
     obtain ⟨x28, hx29, hm⟩ := ob hm
     obtain ⟨r30, hr31, hq32, hi33, hb34⟩ := hW4.geti hx29
     obtain ⟨v35, rfl, ⟨rw36, hR37, hW38⟩⟩ := hq32
     refine qy he (y_indexAddr hR3 rfl rfl hi33 hb34 Tryd.underlying22 ti42) ?_; clear he; intro a he
     refine qy (v := eaddr v1 9 y11.toNat 2) he (y_fieldAddrE (i := y11.toNat) (j := 0) hR3 rfl hb34 (FO.of (off := 2) Tryd.underlying42 rfl rfl ti9 (by decide))) ?_; clear he; intro a he
     refine qy (v := .string (x28.Text)) he (y_loadE (i := y11.toNat) (j := 2) hR3.up rfl hr31 rfl Tryd.underlying9 rfl) ?_; clear he; intro a he
     obtain ⟨x40, hx41, hm⟩ := ob hm
     obtain ⟨hbx40, hex40⟩ := addS_some hx41
     refine qy he (y_saddW rfl rfl hbx40 hex40) ?_; clear he; intro a he
     refine qy (v := .string (x40)) he (y_assign rfl) ?_; clear he; intro a he
     refine QL_nil he ?_; clear he; (try clear hs); intro a w hs
     refine hK14 _ _ ?_; clear hK14
     refine W_seq fun K15 hK15 => ?_
     refine W_seq fun K16 hK16 => ?_
     refine W_region ?_
     refine sy (v := .int .i64 (0)) hs (y_assign rfl) ?_; clear hs; intro a w hs
     refine RL_nil ?_
     refine hK16 _ _ ?_; clear hK16
     refine W_post (fun a w => ∃ (y42 : ByteArray), keep_Whole_k3 y11 (keep_Whole_l2 n p0 k12) y42 = some res ∧ St 71 w0 f (.blk b6 (.cells #[v1] 24 (0, 0)) :: L) [(1, .pointer (some ⟨b6, 0, none⟩)), (3, .int .i64 (y11)), (4, .string (y42))] a w) ?_ ?_
     ·clear hs hm
      rintro a w ⟨y42, hm, hs⟩
      replace hs : St _ _ _ (.blk b6 (.cells #[v1] 24 (0, 0)) :: L) _ _ _ := hs
      unfold keep_Whole_k3 at hm
      refine hK15 _ _ ?_; clear hK15
      refine W_seq fun K17 hK17 => ?_
      refine W_region ?_
      refine sy (v := .string (y42)) hs (y_move rfl) ?_; clear hs; intro a w hs
      obtain ⟨x43, hx44, hm⟩ := ob hm
      refine RL_s2rW hx44 hs rfl Tryd.underlying9 Tryd.underlying98 Tryd.underlying21 ?_; clear hs; intro v45 rw46 a w hW47 hs
      replace hs : St _ _ _ (.row v45 21 1 rw46 :: .blk b6 (.cells #[v1] 24 (0, 0)) :: L) _ _ _ := hs
      refine sy (v := .string ((textOf x43))) hs (y_r2sW rfl Tryd.underlying98 Tryd.underlying21 Tryd.underlying9 (Rd.st hs (.head _)) hW47) ?_; clear hs; intro a w hs
      refine sy (v := .string (y42)) hs (y_move rfl) ?_; clear hs; intro a w hs
      refine sy hs (y_sneq rfl rfl) ?_; clear hs; intro a w hs
      refine RL_nil ?_
      refine hK17 _ _ ?_; clear hK17
      refine W_cond hs rfl (fun hg50 => ?_) (fun hg50 => ?_)
      ·replace hm := oc_t hg50 hm
       refine W_seq fun K18 hK18 => ?_
       refine W_region ?_
       refine sy (v := .bool (false)) hs (y_assign rfl) ?_; clear hs; intro a w hs
       refine RL_nil ?_
       refine hK18 _ _ ?_; clear hK18
       refine W_ret ?_
       obtain rfl := Option.some.inj hm
       refine RtV1 hs rfl (rv_t hs rfl) ?_
       exact ⟨rfl, ((hs.subL (.cons _ (.cons _ (.refl _)))).weak hle).cw⟩
      ·replace hm := oc_f hg50 hm
       refine W_skip ?_
       refine hK12 _ _ ?_; clear hK12
       refine W_region ?_
       refine sy (v := .int .i64 (y11)) hs (y_move rfl) ?_; clear hs; intro a w hs
       refine sy hs (y_add rfl rfl rfl) ?_; clear hs; intro a w hs
       refine sy (v := .int .i64 ((w64 (y11 + 1)))) hs (y_assign rfl) ?_; clear hs; intro a w hs
       refine RL_nil ?_
       exact hK9 k12 _ _ (Nat.lt_succ_self _) ⟨(w64 (y11 + 1)), hm, hs.subs ⟨rfl, rfl, trivial⟩ (.cons _ (.cons_cons _ (.refl _)))⟩
     ·refine W_block fun Qe19 hB19 hO19 => ?_
      refine W_loop (fun (k : Nat) a w => ∃ (y51 : ByteArray) (y52 : Int), keep_Whole_l4 p0 y11 (keep_Whole_l2 n p0 k12) k y51 y52 = some res ∧ St 71 w0 f (.blk b6 (.cells #[v1] 24 (0, 0)) :: L) [(1, .pointer (some ⟨b6, 0, none⟩)), (3, .int .i64 (y11)), (4, .string (y51)), (5, .int .i64 (y52))] a w) (fun k => k) n ⟨x40, 0, hm, hs.sub ⟨rfl, rfl, rfl, rfl, trivial⟩⟩ ?_
      clear hs hm
      intro k
      rintro a w ⟨y51, y52, hm, hs⟩
      replace hs : St _ _ _ (.blk b6 (.cells #[v1] 24 (0, 0)) :: L) _ _ _ := hs
      intro K20 hK20
      cases k with
      | zero => simp [keep_Whole_l4] at hm
      | succ k53 =>
       rw [keep_Whole_l4] at hm
       refine W_seq fun K21 hK21 => ?_
       refine W_seq fun K22 hK22 => ?_
       refine W_region ?_
       refine sy (v := .int .i64 (y52)) hs (y_move rfl) ?_; clear hs; intro a w hs
       refine sy (v := .pointer (some ⟨b6, 0, none⟩)) hs (y_fieldAddr rfl (FO.of (off := 0) Tryd.underlying24 rfl rfl ti22 (by decide))) ?_; clear hs; intro a w hs
       refine sy (v := v1) hs (y_ld rfl Tryd.underlying22 rfl (Cell.blk (.head _) rfl)) ?_; clear hs; intro a w hs
       refine sy (v := .int .i64 (y11)) hs (y_move rfl) ?_; clear hs; intro a w hs
       obtain ⟨x54, hx55, hm⟩ := ob hm
       obtain ⟨r56, hr57, hq58, hi59, hb60⟩ := hW4.geti hx55
       obtain ⟨v61, rfl, ⟨rw62, hR63, hW64⟩⟩ := hq58
       refine sy hs (y_indexAddr hR3 rfl rfl hi59 hb60 Tryd.underlying22 ti42) ?_; clear hs; intro a w hs
       refine sy (v := eaddr v1 9 y11.toNat 3) hs (y_fieldAddrE (i := y11.toNat) (j := 0) hR3 rfl hb60 (FO.of (off := 3) Tryd.underlying42 rfl rfl ti40 (by decide))) ?_; clear hs; intro a w hs
       refine sy (v := v61) hs (y_loadE (i := y11.toNat) (j := 3) hR3.up rfl hr57 rfl Tryd.underlying40 rfl) ?_; clear hs; intro a w hs
       refine sy hs (y_lenW hR63 hW64 rfl Tryd.underlying40) ?_; clear hs; intro a w hs
       refine sy hs (y_lss rfl rfl) ?_; clear hs; intro a w hs
       refine RL_nil ?_
       refine hK22 _ _ ?_; clear hK22
       refine W_cond hs rfl (fun hg66 => ?_) (fun hg66 => ?_)
       ·replace hm := oc_t hg66 hm
        refine W_skip ?_
        refine hK21 _ _ ?_; clear hK21
        refine W_seq fun K23 hK23 => ?_
        refine W_block fun Qe24 hB24 hO24 => ?_
        refine W_draw hs mixed (by kernel_rfl) ?_; intro a he
        refine qy (v := .string (y51)) he (y_move rfl) ?_; clear he; intro a he
        obtain ⟨x67, hx68, hm⟩ := ob hm
        obtain ⟨hbx67, hex67⟩ := addS_some hx68
        refine qy he (y_saddW rfl rfl hbx67 hex67) ?_; clear he; intro a he
        refine qy (v := .pointer (some ⟨b6, 0, none⟩)) he (y_fieldAddr rfl (FO.of (off := 0) Tryd.underlying24 rfl rfl ti22 (by decide))) ?_; clear he; intro a he
        refine qy (v := v1) he (y_ld rfl Tryd.underlying22 rfl (Cell.blk (.head _) rfl)) ?_; clear he; intro a he
        refine qy (v := .int .i64 (y11)) he (y_move rfl) ?_; clear he; intro a he
        obtain ⟨x69, hx70, hm⟩ := ob hm
        obtain ⟨r71, hr72, hq73, hi74, hb75⟩ := hW4.geti hx70
        obtain ⟨v76, rfl, ⟨rw77, hR78, hW79⟩⟩ := hq73
        refine qy he (y_indexAddr hR3 rfl rfl hi74 hb75 Tryd.underlying22 ti42) ?_; clear he; intro a he
        refine qy (v := eaddr v1 9 y11.toNat 3) he (y_fieldAddrE (i := y11.toNat) (j := 0) hR3 rfl hb75 (FO.of (off := 3) Tryd.underlying42 rfl rfl ti40 (by decide))) ?_; clear he; intro a he
        refine qy (v := v76) he (y_loadE (i := y11.toNat) (j := 3) hR3.up rfl hr72 rfl Tryd.underlying40 rfl) ?_; clear he; intro a he
        refine qy (v := .int .i64 (y52)) he (y_move rfl) ?_; clear he; intro a he
        obtain ⟨x81, hx82, hm⟩ := ob hm
        obtain ⟨r83, hr84, hq85, hi86, hb87⟩ := hW79.geti hx82
        obtain rfl : _ = ([.string (x81.Name), .string (x81.Value)] : List Value) := hq85
        refine qy he (y_indexAddr hR78 rfl rfl hi86 hb87 Tryd.underlying40 ti91) ?_; clear he; intro a he
        refine qy (v := eaddr v76 2 y52.toNat 0) he (y_fieldAddrE (i := y52.toNat) (j := 0) hR78 rfl hb87 (FO.of (off := 0) Tryd.underlying91 rfl rfl ti9 (by decide))) ?_; clear he; intro a he
        refine qy (v := .string (x81.Name)) he (y_loadE (i := y52.toNat) (j := 0) hR78.up rfl hr84 rfl Tryd.underlying9 rfl) ?_; clear he; intro a he
        obtain ⟨x88, hx89, hm⟩ := ob hm
        obtain ⟨hbx88, hex88⟩ := addS_some hx89
        refine qy he (y_saddW rfl rfl hbx88 hex88) ?_; clear he; intro a he
        obtain ⟨x90, hx91, hm⟩ := ob hm
        obtain ⟨hbx90, hex90⟩ := addS_some hx91
        refine qy he (y_saddW rfl rfl hbx90 hex90) ?_; clear he; intro a he
        refine qy (v := .pointer (some ⟨b6, 0, none⟩)) he (y_fieldAddr rfl (FO.of (off := 0) Tryd.underlying24 rfl rfl ti22 (by decide))) ?_; clear he; intro a he
        refine qy (v := v1) he (y_ld rfl Tryd.underlying22 rfl (Cell.blk (.head _) rfl)) ?_; clear he; intro a he
        refine qy (v := .int .i64 (y11)) he (y_move rfl) ?_; clear he; intro a he
        obtain ⟨x92, hx93, hm⟩ := ob hm
        obtain ⟨r94, hr95, hq96, hi97, hb98⟩ := hW4.geti hx93
        obtain ⟨v99, rfl, ⟨rw100, hR101, hW102⟩⟩ := hq96
        refine qy he (y_indexAddr hR3 rfl rfl hi97 hb98 Tryd.underlying22 ti42) ?_; clear he; intro a he
        refine qy (v := eaddr v1 9 y11.toNat 3) he (y_fieldAddrE (i := y11.toNat) (j := 0) hR3 rfl hb98 (FO.of (off := 3) Tryd.underlying42 rfl rfl ti40 (by decide))) ?_; clear he; intro a he
        refine qy (v := v99) he (y_loadE (i := y11.toNat) (j := 3) hR3.up rfl hr95 rfl Tryd.underlying40 rfl) ?_; clear he; intro a he
        refine qy (v := .int .i64 (y52)) he (y_move rfl) ?_; clear he; intro a he
        obtain ⟨x104, hx105, hm⟩ := ob hm
        obtain ⟨r106, hr107, hq108, hi109, hb110⟩ := hW102.geti hx105
        obtain rfl : _ = ([.string (x104.Name), .string (x104.Value)] : List Value) := hq108
        refine qy he (y_indexAddr hR101 rfl rfl hi109 hb110 Tryd.underlying40 ti91) ?_; clear he; intro a he
        refine qy (v := eaddr v99 2 y52.toNat 1) he (y_fieldAddrE (i := y52.toNat) (j := 0) hR101 rfl hb110 (FO.of (off := 1) Tryd.underlying91 rfl rfl ti9 (by decide))) ?_; clear he; intro a he
        refine qy (v := .string (x104.Value)) he (y_loadE (i := y52.toNat) (j := 1) hR101.up rfl hr107 rfl Tryd.underlying9 rfl) ?_; clear he; intro a he
        obtain ⟨x111, hx112, hm⟩ := ob hm
        obtain ⟨hbx111, hex111⟩ := addS_some hx112
        refine qy he (y_saddW rfl rfl hbx111 hex111) ?_; clear he; intro a he
        refine qy (v := .string (x111)) he (y_assign rfl) ?_; clear he; intro a he
        refine QL_nil he ?_; clear he; (try clear hs); intro a w hs
        refine hK23 _ _ ?_; clear hK23
        refine W_region ?_
        refine sy (v := .int .i64 (y52)) hs (y_move rfl) ?_; clear hs; intro a w hs
        refine sy hs (y_add rfl rfl rfl) ?_; clear hs; intro a w hs
        refine sy (v := .int .i64 ((w64 (y52 + 1)))) hs (y_assign rfl) ?_; clear hs; intro a w hs
        refine RL_nil ?_
        exact hK20 k53 _ _ (Nat.lt_succ_self _) ⟨x111, (w64 (y52 + 1)), hm, hs.sub ⟨rfl, rfl, rfl, rfl, trivial⟩⟩
       ·replace hm := oc_f hg66 hm
        refine W_exit ?_
        refine hB19 _ _ ?_
        exact ⟨y51, hm, hs.sub ⟨rfl, rfl, rfl, trivial⟩⟩
    ·replace hm := oc_f hg13 hm
     refine W_exit ?_
     refine hB8 _ _ ?_
     exact ⟨hm, hs.subs trivial (.cons _ (.refl _))⟩
/-! casement/casementlaw10.selectors -/
def law10_selectors_k1 (y10 : (List ref9_Selector)) : Option (List ref9_Selector) :=
  some y10
def law10_selectors_k3 (y22 : (List ref9_Selector)) (y27 : Int) (lp32 : (List ref9_Selector) → Int → Option (List ref9_Selector)) (y41 : (List ref9_Step)) : Option (List ref9_Selector) :=
  (appM 24 y22 [({Steps := y41} : ref9_Selector)]).bind fun x55 =>
  lp32 x55 (w64 (y27 + 1))
def law10_selectors_k5 (y64 : (List ref9_Step)) (y69 : Int) (lp74 : (List ref9_Step) → Int → Option (List ref9_Selector)) (x101 : sheet_Step) (x125 : sheet_Step) (y142 : (List ref9_Test)) : Option (List ref9_Selector) :=
  (appM 48 y64 [({Comb := x101.Comb, Name := x125.Name, Tests := y142} : ref9_Step)]).bind fun x155 =>
  lp74 x155 (w64 (y69 + 1))
def law10_selectors_l6 (p0 : (List sheet_Selector)) (y27 : Int) (y64 : (List ref9_Step)) (y69 : Int) (lp74 : (List ref9_Step) → Int → Option (List ref9_Selector)) (x101 : sheet_Step) (x125 : sheet_Step) : Nat → (List ref9_Test) → Int → Option (List ref9_Selector)
  | 0, _, _ => none
  | k172 + 1, y162, y167 =>
  (geti p0 y27).bind fun x173 =>
  (geti x173.Steps y69).bind fun x185 =>
  (bif (decide (y167 < (x185.Tests.length : Int))) then (geti p0 y27).bind fun x198 =>
  (geti x198.Steps y69).bind fun x210 =>
  (geti x210.Tests y167).bind fun x222 =>
  (appM 48 y162 [({Kind := x222.Kind, Name := x222.Name, Value := x222.Value, N := x222.N} : ref9_Test)]).bind fun x236 =>
  (law10_selectors_l6 p0 y27 y64 y69 lp74 x101 x125 k172) x236 (w64 (y167 + 1)) else
  law10_selectors_k5 y64 y69 lp74 x101 x125 y162)
def law10_selectors_l4 (n : Nat) (p0 : (List sheet_Selector)) (y22 : (List ref9_Selector)) (y27 : Int) (lp32 : (List ref9_Selector) → Int → Option (List ref9_Selector)) : Nat → (List ref9_Step) → Int → Option (List ref9_Selector)
  | 0, _, _ => none
  | k74 + 1, y64, y69 =>
  (geti p0 y27).bind fun x76 =>
  (bif (decide (y69 < (x76.Steps.length : Int))) then (geti p0 y27).bind fun x89 =>
  (geti x89.Steps y69).bind fun x101 =>
  (geti p0 y27).bind fun x113 =>
  (geti x113.Steps y69).bind fun x125 =>
  law10_selectors_l6 p0 y27 y64 y69 (law10_selectors_l4 n p0 y22 y27 lp32 k74) x101 x125 n ([] : List ref9_Test) 0 else
  law10_selectors_k3 y22 y27 lp32 y64)
def law10_selectors_l2 (n : Nat) (p0 : (List sheet_Selector)) : Nat → (List ref9_Selector) → Int → Option (List ref9_Selector)
  | 0, _, _ => none
  | k32 + 1, y22, y27 =>
  (bif (decide (y27 < (p0.length : Int))) then law10_selectors_l4 n p0 y22 y27 (law10_selectors_l2 n p0 k32) n ([] : List ref9_Step) 0 else
  law10_selectors_k1 y22)
def law10_selectors (n : Nat) (p0 : (List sheet_Selector)) : Option (List ref9_Selector) :=
  law10_selectors_l2 n p0 n ([] : List ref9_Selector) 0
set_option maxRecDepth 20000 in
set_option maxHeartbeats 4000000 in
theorem law10_selectors_ok (n : Nat) {f : Fz} {p0 : (List sheet_Selector)} {a0 : Value} {res : (List ref9_Selector)} (h0 : RS t_sheet_Selector f a0 p0) (hm : law10_selectors n p0 = some res) : Does Tryd.prog 19 [a0] f [] (fun r f' L' => ∃ (u0 : Value), L' = [] ∧ r = u0 ∧ RS t_ref9_Selector f' u0 res) := by
 unfold law10_selectors at hm
 intro w0 L w hC
 obtain ⟨rw1, hR2, hW3⟩ := h0
 refine enter Tryd.func19 rfl Tryd.ntmps19 (by simp) hC fun a hs => ?_
 have hle := Fz.le.refl f
 refine W_seq fun K1 hK1 => ?_
 refine W_region ?_
 refine sy (v := (.slice none 0 0)) hs (y_assign rfl) ?_; clear hs; intro a w hs
 refine RL_nil ?_
 refine hK1 _ _ ?_; clear hK1
 refine W_seq fun K2 hK2 => ?_
 refine W_region ?_
 refine sy (v := (.slice none 0 0)) hs (y_assign rfl) ?_; clear hs; intro a w hs
 refine RL_nil ?_
 refine hK2 _ _ ?_; clear hK2
 refine W_seq fun K3 hK3 => ?_
 refine W_seq fun K4 hK4 => ?_
 refine W_region ?_
 refine sy (v := .int .i64 (0)) hs (y_assign rfl) ?_; clear hs; intro a w hs
 refine RL_nil ?_
 refine hK4 _ _ ?_; clear hK4
 have hbase15 := Fz.le.refl f
 refine W_post (fun a w => ∃ (f7 : Fz) (y10 : (List ref9_Selector)) (v11 : Value) (rw12 : List (List Value)), Fz.le f f7 ∧ law10_selectors_k1 y10 = some res ∧ RW t_ref9_Selector f7 rw12 y10 ∧ St 96 w0 f7 (.row v11 63 1 rw12 :: L) [(3, v11)] a w) ?_ ?_
 ·clear hs hm
  clear hbase15
  rintro a w ⟨f7, y10, v11, rw12, hl8, hm, hW13, hs⟩
  replace hR2 := hR2.le hl8
  replace hW3 := hW3.le hl8
  replace hle := hle.trans hl8
  replace hs : St _ _ _ (.row v11 63 1 rw12 :: L) _ _ _ := hs
  unfold law10_selectors_k1 at hm
  refine hK3 _ _ ?_; clear hK3
  refine W_seq fun K5 hK5 => ?_
  refine W_region ?_
  refine sy (v := v11) hs (y_move rfl) ?_; clear hs; intro a w hs
  refine sy (v := v11) hs (y_assign rfl) ?_; clear hs; intro a w hs
  refine RL_nil ?_
  refine hK5 _ _ ?_; clear hK5
  refine W_ret ?_
  obtain ⟨f16, hf17, hs2, hR18⟩ := hs.frzAt 0 rfl
  clear hs; have hs := hs2; clear hs2
  replace hW13 := hW13.le hf17
  replace hle := hle.trans hf17
  replace hs : St _ _ _ (L) _ _ _ := hs
  obtain rfl := Option.some.inj hm
  refine RtV1 hs rfl (rv_t hs rfl) ?_
  exact ⟨_, f16, [], rfl, hle, hs.cw, v11, rfl, rfl, ⟨rw12, hR18, hW13⟩⟩
 ·refine W_block fun Qe6 hB6 hO6 => ?_
  have hbase := Fz.le.refl f
  replace hs := hs.nilRow 63 1
  have hW28 : RW t_ref9_Selector f [] ([] : List ref9_Selector) := trivial
  generalize hgrw29 : ([] : List (List Value)) = rw29 at hs hW28; clear hgrw29
  replace hs : St _ _ _ (.row (.slice none 0 0) 63 1 rw29 :: L) _ _ _ := hs
  refine W_loop (fun (k : Nat) a w => ∃ (f19 : Fz) (y22 : (List ref9_Selector)) (y27 : Int) (v23 : Value) (rw24 : List (List Value)), Fz.le f f19 ∧ law10_selectors_l2 n p0 k y22 y27 = some res ∧ RW t_ref9_Selector f19 rw24 y22 ∧ St 96 w0 f19 (.row v23 63 1 rw24 :: L) [(0, a0), (3, v23), (4, .int .i64 (y27))] a w) (fun k => k) n ⟨_, ([] : List ref9_Selector), 0, (.slice none 0 0), rw29, (Fz.le.refl _), hm, hW28, hs.sub ⟨rfl, rfl, rfl, trivial⟩⟩ ?_
  clear hs hm
  intro k
  rintro a w ⟨f19, y22, y27, v23, rw24, hl20, hm, hW25, hs⟩
  replace hR2 := hR2.le hl20
  replace hW3 := hW3.le hl20
  replace hle := hle.trans hl20
  replace hbase15 := hbase15.trans hl20
  replace hs : St _ _ _ (.row v23 63 1 rw24 :: L) _ _ _ := hs
  intro K7 hK7
  cases k with
  | zero => simp [law10_selectors_l2] at hm
  | succ k32 =>
   rw [law10_selectors_l2] at hm
   have hbase33 := hl20
   refine W_seq fun K8 hK8 => ?_
   refine W_seq fun K9 hK9 => ?_
   refine W_region ?_
   refine sy (v := .int .i64 (y27)) hs (y_move rfl) ?_; clear hs; intro a w hs
   refine sy (v := a0) hs (y_move rfl) ?_; clear hs; intro a w hs
   refine sy hs (y_lenW hR2 hW3 rfl Tryd.underlying31) ?_; clear hs; intro a w hs
   refine sy hs (y_lss rfl rfl) ?_; clear hs; intro a w hs
   refine RL_nil ?_
   refine hK9 _ _ ?_; clear hK9
   refine W_cond hs rfl (fun hg34 => ?_) (fun hg34 => ?_)
   ·replace hm := oc_t hg34 hm
    refine W_skip ?_
    refine hK8 _ _ ?_; clear hK8
    refine W_seq fun K10 hK10 => ?_
    refine W_block fun Qe11 hB11 hO11 => ?_
    refine W_seq fun K12 hK12 => ?_
    refine W_region ?_
    refine RL_alloc hs ti63 (.free rfl) (by decide) ?_; clear hs; intro b35 a w hs
    replace hs : St _ _ _ (.blk b35 (.cells #[(.slice none 0 0)] 63 (0, 0)) :: .row v23 63 1 rw24 :: L) _ _ _ := hs
    refine RL_nil ?_
    refine hK12 _ _ ?_; clear hK12
    refine W_seq fun K13 hK13 => ?_
    refine W_seq fun K14 hK14 => ?_
    refine W_region ?_
    refine sy (v := .int .i64 (0)) hs (y_assign rfl) ?_; clear hs; intro a w hs
    refine RL_nil ?_
    refine hK14 _ _ ?_; clear hK14
    have hbase46 := Fz.le.refl f19
    refine W_post (fun a w => ∃ (f38 : Fz) (y41 : (List ref9_Step)) (v42 : Value) (rw43 : List (List Value)), Fz.le f19 f38 ∧ law10_selectors_k3 y22 y27 (law10_selectors_l2 n p0 k32) y41 = some res ∧ RW t_ref9_Step f38 rw43 y41 ∧ St 96 w0 f38 (.row v42 84 3 rw43 :: .blk b35 (.cells #[v42] 63 (0, 0)) :: .row v23 63 1 rw24 :: L) [(0, a0), (3, v23), (4, .int .i64 (y27)), (5, .pointer (some ⟨b35, 0, none⟩))] a w) ?_ ?_
    ·clear hs hm
     clear hbase46
     rintro a w ⟨f38, y41, v42, rw43, hl39, hm, hW44, hs⟩
     replace hR2 := hR2.le hl39
     replace hW3 := hW3.le hl39
     replace hW25 := hW25.le hl39
     replace hle := hle.trans hl39
     replace hbase15 := hbase15.trans hl39
     replace hbase33 := hbase33.trans hl39
     replace hs : St _ _ _ (.row v42 84 3 rw43 :: .blk b35 (.cells #[v42] 63 (0, 0)) :: .row v23 63 1 rw24 :: L) _ _ _ := hs
     unfold law10_selectors_k3 at hm
     refine hK13 _ _ ?_; clear hK13
     refine W_region ?_
     refine sy (v := v23) hs (y_move rfl) ?_; clear hs; intro a w hs
     refine sy hs (y_ldB rfl Tryd.underlying63 rfl ti63 (.tail _ (.head _)) rfl) ?_; clear hs; intro a w hs
     obtain ⟨f49, hf50, hs2, hR51⟩ := hs.frzAt 0 rfl
     clear hs; have hs := hs2; clear hs2
     replace hR2 := hR2.le hf50
     replace hW3 := hW3.le hf50
     replace hW25 := hW25.le hf50
     replace hW44 := hW44.le hf50
     replace hle := hle.trans hf50
     replace hbase15 := hbase15.trans hf50
     replace hbase33 := hbase33.trans hf50
     replace hs : St _ _ _ (.blk b35 (.cells #[v42] 63 (0, 0)) :: .row v23 63 1 rw24 :: L) _ _ _ := hs
     refine RL_bs1a hs rfl Tryd.underlying56 ti63 (by decide) (AllC.row ⟨hR51.one, trivial⟩ rfl) ?_; clear hs; intro v47 a w hs
     have hW48 : RW t_ref9_Selector f49 [[v42]] [({Steps := y41} : ref9_Selector)] := RW.single (⟨_, rfl, ⟨rw43, hR51, hW44⟩⟩)
     generalize hgrw52 : ([[v42]] : List (List Value)) = rw52 at hs hW48; clear hgrw52
     replace hs : St _ _ _ (.row v47 63 1 rw52 :: .blk b35 (.cells #[v42] 63 (0, 0)) :: .row v23 63 1 rw24 :: L) _ _ _ := hs
     obtain ⟨x55, hx56, hm⟩ := ob hm
     obtain ⟨hbx55, hex55⟩ := appM_some hx56
     have hW59 := hW25.append hW48; rw [hex55] at hW59
     refine RL_append (i := 2) hs rfl rfl rfl (Rd.st hs (.head _)) Tryd.underlying56 ti63 (by decide) (by rw [RW.len hW25, RW.len hW48]; exact hbx55) (.free rfl) (by decide) ?_; clear hs; intro v57 a w hs
     generalize hgx55 : rw24 ++ rw52 = rw58 at hs hW59; clear hgx55
     replace hs := hs.erase 0
     replace hs : St _ _ _ (.blk b35 (.cells #[v42] 63 (0, 0)) :: .row v57 63 1 rw58 :: L) _ _ _ := hs
     refine sy (v := v57) hs (y_assign rfl) ?_; clear hs; intro a w hs
     refine RL_nil ?_
     refine hK10 _ _ ?_; clear hK10
     refine W_region ?_
     refine sy (v := .int .i64 (y27)) hs (y_move rfl) ?_; clear hs; intro a w hs
     refine sy hs (y_add rfl rfl rfl) ?_; clear hs; intro a w hs
     refine sy (v := .int .i64 ((w64 (y27 + 1)))) hs (y_assign rfl) ?_; clear hs; intro a w hs
     refine RL_nil ?_
     exact hK7 k32 _ _ (Nat.lt_succ_self _) ⟨_, x55, (w64 (y27 + 1)), v57, rw58, hbase33, hm, hW59, hs.subs ⟨rfl, rfl, rfl, trivial⟩ (.cons _ (.cons_cons _ (.refl _)))⟩
    ·refine W_block fun Qe15 hB15 hO15 => ?_
     have hbase := Fz.le.refl f19
     replace hs := hs.nilRow 84 3
     have hW70 : RW t_ref9_Step f19 [] ([] : List ref9_Step) := trivial
     generalize hgrw71 : ([] : List (List Value)) = rw71 at hs hW70; clear hgrw71
     replace hs : St _ _ _ (.row (.slice none 0 0) 84 3 rw71 :: .blk b35 (.cells #[(.slice none 0 0)] 63 (0, 0)) :: .row v23 63 1 rw24 :: L) _ _ _ := hs
     replace hs : St _ _ _ (.row (.slice none 0 0) 84 3 rw71 :: .blk b35 (.cells #[(.slice none 0 0)] 63 (0, 0)) :: .row v23 63 1 rw24 :: L) _ _ _ := hs
     refine W_loop (fun (k : Nat) a w => ∃ (f61 : Fz) (y64 : (List ref9_Step)) (y69 : Int) (v65 : Value) (rw66 : List (List Value)), Fz.le f19 f61 ∧ law10_selectors_l4 n p0 y22 y27 (law10_selectors_l2 n p0 k32) k y64 y69 = some res ∧ RW t_ref9_Step f61 rw66 y64 ∧ St 96 w0 f61 (.row v65 84 3 rw66 :: .blk b35 (.cells #[v65] 63 (0, 0)) :: .row v23 63 1 rw24 :: L) [(0, a0), (3, v23), (4, .int .i64 (y27)), (5, .pointer (some ⟨b35, 0, none⟩)), (6, .int .i64 (y69))] a w) (fun k => k) n ⟨_, ([] : List ref9_Step), 0, (.slice none 0 0), rw71, (Fz.le.refl _), hm, hW70, hs.sub ⟨rfl, rfl, rfl, rfl, rfl, trivial⟩⟩ ?_
     clear hs hm
     intro k
     rintro a w ⟨f61, y64, y69, v65, rw66, hl62, hm, hW67, hs⟩
     replace hR2 := hR2.le hl62
     replace hW3 := hW3.le hl62
     replace hW25 := hW25.le hl62
     replace hle := hle.trans hl62
     replace hbase15 := hbase15.trans hl62
     replace hbase33 := hbase33.trans hl62
     replace hbase46 := hbase46.trans hl62
     replace hs : St _ _ _ (.row v65 84 3 rw66 :: .blk b35 (.cells #[v65] 63 (0, 0)) :: .row v23 63 1 rw24 :: L) _ _ _ := hs
     intro K16 hK16
     cases k with
     | zero => simp [law10_selectors_l4] at hm
     | succ k74 =>
      rw [law10_selectors_l4] at hm
      have hbase75 := hl62
      refine W_seq fun K17 hK17 => ?_
      refine W_seq fun K18 hK18 => ?_
      refine W_region ?_
      refine sy (v := .int .i64 (y69)) hs (y_move rfl) ?_; clear hs; intro a w hs
      refine sy (v := a0) hs (y_move rfl) ?_; clear hs; intro a w hs
      refine sy (v := .int .i64 (y27)) hs (y_move rfl) ?_; clear hs; intro a w hs
      obtain ⟨x76, hx77, hm⟩ := ob hm
      obtain ⟨r78, hr79, hq80, hi81, hb82⟩ := hW3.geti hx77
      obtain ⟨v83, rfl, ⟨rw84, hR85, hW86⟩⟩ := hq80
      refine sy hs (y_indexAddr hR2 rfl rfl hi81 hb82 Tryd.underlying31 ti27) ?_; clear hs; intro a w hs
      refine sy (v := eaddr a0 1 y27.toNat 0) hs (y_fieldAddrE (i := y27.toNat) (j := 0) hR2 rfl hb82 (FO.of (off := 0) Tryd.underlying27 rfl rfl ti25 (by decide))) ?_; clear hs; intro a w hs
      refine sy (v := v83) hs (y_loadE (i := y27.toNat) (j := 0) hR2.up rfl hr79 rfl Tryd.underlying25 rfl) ?_; clear hs; intro a w hs
      refine sy hs (y_lenW hR85 hW86 rfl Tryd.underlying25) ?_; clear hs; intro a w hs
      refine sy hs (y_lss rfl rfl) ?_; clear hs; intro a w hs
      refine RL_nil ?_
      refine hK18 _ _ ?_; clear hK18
      refine W_cond hs rfl (fun hg88 => ?_) (fun hg88 => ?_)
      ·replace hm := oc_t hg88 hm
       refine W_skip ?_
       refine hK17 _ _ ?_; clear hK17
       refine W_seq fun K19 hK19 => ?_
       refine W_block fun Qe20 hB20 hO20 => ?_
       refine W_seq fun K21 hK21 => ?_
       refine T_start hs ([]) [20] (.look 0 (.look 1 (.look 2 (.look 3 (.look 4 (.look 5 (.look 6 (.look 7 (.look 8 (.look 9 (.look 10 (.look 11 (.look 12 (.look 13 (.look 14 (.look 15 (.look 16 (.look 17 (.look 18 (.any [19] (fun _ => .any [20] (fun _ => .done)))))))))))))))))))))) mixed (by kernel_rfl) ?_; clear hs; intro a he
       refine uy (v := a0) 0 he rfl (y_move rfl) ?_; clear he; intro a he
       refine uy (v := .int .i64 (y27)) 1 he rfl (y_move rfl) ?_; clear he; intro a he
       obtain ⟨x89, hx90, hm⟩ := ob hm
       obtain ⟨r91, hr92, hq93, hi94, hb95⟩ := hW3.geti hx90
       obtain ⟨v96, rfl, ⟨rw97, hR98, hW99⟩⟩ := hq93
       refine uy 2 he rfl (y_indexAddr hR2 rfl rfl hi94 hb95 Tryd.underlying31 ti27) ?_; clear he; intro a he
       refine uy (v := eaddr a0 1 y27.toNat 0) 3 he rfl (y_fieldAddrE (i := y27.toNat) (j := 0) hR2 rfl hb95 (FO.of (off := 0) Tryd.underlying27 rfl rfl ti25 (by decide))) ?_; clear he; intro a he
       refine uy (v := v96) 4 he rfl (y_loadE (i := y27.toNat) (j := 0) hR2.up rfl hr92 rfl Tryd.underlying25 rfl) ?_; clear he; intro a he
       refine uy (v := .int .i64 (y69)) 5 he rfl (y_move rfl) ?_; clear he; intro a he
       obtain ⟨x101, hx102, hm⟩ := ob hm
       obtain ⟨r103, hr104, hq105, hi106, hb107⟩ := hW99.geti hx102
       obtain ⟨v108, rfl, ⟨rw109, hR110, hW111⟩⟩ := hq105
       refine uy 6 he rfl (y_indexAddr hR98 rfl rfl hi106 hb107 Tryd.underlying25 ti35) ?_; clear he; intro a he
       refine uy (v := eaddr v96 3 y69.toNat 0) 7 he rfl (y_fieldAddrE (i := y69.toNat) (j := 0) hR98 rfl hb107 (FO.of (off := 0) Tryd.underlying35 rfl rfl ti3 (by decide))) ?_; clear he; intro a he
       refine uy (v := .int .i64 (x101.Comb)) 8 he rfl (y_loadE (i := y69.toNat) (j := 0) hR98.up rfl hr104 rfl Tryd.underlying3 rfl) ?_; clear he; intro a he
       refine uy (v := a0) 9 he rfl (y_move rfl) ?_; clear he; intro a he
       refine uy (v := .int .i64 (y27)) 10 he rfl (y_move rfl) ?_; clear he; intro a he
       obtain ⟨x113, hx114, hm⟩ := ob hm
       obtain ⟨r115, hr116, hq117, hi118, hb119⟩ := hW3.geti hx114
       obtain ⟨v120, rfl, ⟨rw121, hR122, hW123⟩⟩ := hq117
       refine uy 11 he rfl (y_indexAddr hR2 rfl rfl hi118 hb119 Tryd.underlying31 ti27) ?_; clear he; intro a he
       refine uy (v := eaddr a0 1 y27.toNat 0) 12 he rfl (y_fieldAddrE (i := y27.toNat) (j := 0) hR2 rfl hb119 (FO.of (off := 0) Tryd.underlying27 rfl rfl ti25 (by decide))) ?_; clear he; intro a he
       refine uy (v := v120) 13 he rfl (y_loadE (i := y27.toNat) (j := 0) hR2.up rfl hr116 rfl Tryd.underlying25 rfl) ?_; clear he; intro a he
       refine uy (v := .int .i64 (y69)) 14 he rfl (y_move rfl) ?_; clear he; intro a he
       obtain ⟨x125, hx126, hm⟩ := ob hm
       obtain ⟨r127, hr128, hq129, hi130, hb131⟩ := hW123.geti hx126
       obtain ⟨v132, rfl, ⟨rw133, hR134, hW135⟩⟩ := hq129
       refine uy 15 he rfl (y_indexAddr hR122 rfl rfl hi130 hb131 Tryd.underlying25 ti35) ?_; clear he; intro a he
       refine uy (v := eaddr v120 3 y69.toNat 1) 16 he rfl (y_fieldAddrE (i := y69.toNat) (j := 0) hR122 rfl hb131 (FO.of (off := 1) Tryd.underlying35 rfl rfl ti9 (by decide))) ?_; clear he; intro a he
       refine uy (v := .string (x125.Name)) 17 he rfl (y_loadE (i := y69.toNat) (j := 1) hR122.up rfl hr128 rfl Tryd.underlying9 rfl) ?_; clear he; intro a he
       refine uy 18 he rfl (y_buildS (places := [(0, 1), (1, 1), (2, 1)]) (cs := [.int .i64 (x101.Comb), .string (x125.Name), (.slice none 0 0)]) rfl Tryd.underlying84 ti84 (by kernel_rfl) (by decide) rfl ⟨rfl, rfl, trivial⟩) ?_; clear he; intro a he
       refine T_any1 he rfl ?_; clear he; intro a w hs
       refine RL_alloc hs ti84 (.free rfl) (by decide) ?_; clear hs; intro b138 a w hs
       replace hs : St _ _ _ (.blk b138 (.cells #[.int .i64 (0), .string ((bs [])), (.slice none 0 0)] 84 (0, 0)) :: .row v65 84 3 rw66 :: .blk b35 (.cells #[v65] 63 (0, 0)) :: .row v23 63 1 rw24 :: L) _ _ _ := hs
       refine uon hs ?_; clear hs; intro a he
       refine T_any1 he rfl ?_; clear he; intro a w hs
       refine RL_storeAll (i := 0) hs rfl rfl rfl ti84 ⟨rfl, rfl⟩ (AllC.arr (r := [.int .i64 (x101.Comb), .string (x125.Name), (.slice none 0 0)]) ⟨rfl, rfl, rfl, trivial⟩) (.free rfl) ?_; clear hs; intro a w hs
       replace hs : St _ _ _ (.blk b138 (.cells #[.int .i64 (x101.Comb), .string (x125.Name), (.slice none 0 0)] 84 (0, 0)) :: .row v65 84 3 rw66 :: .blk b35 (.cells #[v65] 63 (0, 0)) :: .row v23 63 1 rw24 :: L) _ _ _ := hs
       refine uend hs ?_; clear hs; intro a he
       refine T_nil he ?_; clear he; intro w hs; try clear hsD
       refine hK21 _ _ ?_; clear hK21
       refine W_seq fun K22 hK22 => ?_
       refine W_seq fun K23 hK23 => ?_
       refine W_region ?_
       refine sy (v := .int .i64 (0)) hs (y_assign rfl) ?_; clear hs; intro a w hs
       refine RL_nil ?_
       refine hK23 _ _ ?_; clear hK23
       refine W_post (fun a w => ∃ (y142 : (List ref9_Test)) (v143 : Value) (rw144 : List (List Value)), law10_selectors_k5 y64 y69 (law10_selectors_l4 n p0 y22 y27 (law10_selectors_l2 n p0 k32) k74) x101 x125 y142 = some res ∧ RW t_ref9_Test f61 rw144 y142 ∧ St 96 w0 f61 (.row v143 85 4 rw144 :: .blk b138 (.cells #[.int .i64 (x101.Comb), .string (x125.Name), v143] 84 (0, 0)) :: .row v65 84 3 rw66 :: .blk b35 (.cells #[v65] 63 (0, 0)) :: .row v23 63 1 rw24 :: L) [(0, a0), (3, v23), (4, .int .i64 (y27)), (5, .pointer (some ⟨b35, 0, none⟩)), (6, .int .i64 (y69)), (7, .pointer (some ⟨b138, 0, none⟩))] a w) ?_ ?_
       ·clear hs hm
        rintro a w ⟨y142, v143, rw144, hm, hW145, hs⟩
        replace hs : St _ _ _ (.row v143 85 4 rw144 :: .blk b138 (.cells #[.int .i64 (x101.Comb), .string (x125.Name), v143] 84 (0, 0)) :: .row v65 84 3 rw66 :: .blk b35 (.cells #[v65] 63 (0, 0)) :: .row v23 63 1 rw24 :: L) _ _ _ := hs
        unfold law10_selectors_k5 at hm
        refine hK22 _ _ ?_; clear hK22
        refine W_region ?_
        refine sy (v := .pointer (some ⟨b35, 0, none⟩)) hs (y_fieldAddr rfl (FO.of (off := 0) Tryd.underlying63 rfl rfl ti61 (by decide))) ?_; clear hs; intro a w hs
        refine sy (v := v65) hs (y_ld rfl Tryd.underlying61 rfl (Cell.blk (.tail _ (.tail _ (.tail _ (.head _)))) rfl)) ?_; clear hs; intro a w hs
        refine sy hs (y_ldB rfl Tryd.underlying84 rfl ti84 (.tail _ (.head _)) rfl) ?_; clear hs; intro a w hs
        obtain ⟨f149, hf150, hs2, hR151⟩ := hs.frzAt 0 rfl
        clear hs; have hs := hs2; clear hs2
        replace hR2 := hR2.le hf150
        replace hW3 := hW3.le hf150
        replace hW25 := hW25.le hf150
        replace hW67 := hW67.le hf150
        replace hW145 := hW145.le hf150
        replace hle := hle.trans hf150
        replace hbase15 := hbase15.trans hf150
        replace hbase33 := hbase33.trans hf150
        replace hbase46 := hbase46.trans hf150
        replace hbase75 := hbase75.trans hf150
        replace hs : St _ _ _ (.blk b138 (.cells #[.int .i64 (x101.Comb), .string (x125.Name), v143] 84 (0, 0)) :: .row v65 84 3 rw66 :: .blk b35 (.cells #[v65] 63 (0, 0)) :: .row v23 63 1 rw24 :: L) _ _ _ := hs
        refine RL_bs1a hs rfl Tryd.underlying61 ti84 (by decide) (AllC.row ⟨rfl, rfl, hR151.one, trivial⟩ rfl) ?_; clear hs; intro v147 a w hs
        have hW148 : RW t_ref9_Step f149 [[.int .i64 (x101.Comb), .string (x125.Name), v143]] [({Comb := x101.Comb, Name := x125.Name, Tests := y142} : ref9_Step)] := RW.single (⟨_, rfl, ⟨rw144, hR151, hW145⟩⟩)
        generalize hgrw152 : ([[.int .i64 (x101.Comb), .string (x125.Name), v143]] : List (List Value)) = rw152 at hs hW148; clear hgrw152
        replace hs : St _ _ _ (.row v147 84 3 rw152 :: .blk b138 (.cells #[.int .i64 (x101.Comb), .string (x125.Name), v143] 84 (0, 0)) :: .row v65 84 3 rw66 :: .blk b35 (.cells #[v65] 63 (0, 0)) :: .row v23 63 1 rw24 :: L) _ _ _ := hs
        obtain ⟨x155, hx156, hm⟩ := ob hm
        obtain ⟨hbx155, hex155⟩ := appM_some hx156
        have hW159 := hW67.append hW148; rw [hex155] at hW159
        refine RL_append (i := 2) hs rfl rfl rfl (Rd.st hs (.head _)) Tryd.underlying61 ti84 (by decide) (by rw [RW.len hW67, RW.len hW148]; exact hbx155) (.free rfl) (by decide) ?_; clear hs; intro v157 a w hs
        generalize hgx155 : rw66 ++ rw152 = rw158 at hs hW159; clear hgx155
        replace hs := hs.erase 0
        replace hs : St _ _ _ (.blk b138 (.cells #[.int .i64 (x101.Comb), .string (x125.Name), v143] 84 (0, 0)) :: .row v157 84 3 rw158 :: .blk b35 (.cells #[v65] 63 (0, 0)) :: .row v23 63 1 rw24 :: L) _ _ _ := hs
        refine sy (v := .pointer (some ⟨b35, 0, none⟩)) hs (y_fieldAddr rfl (FO.of (off := 0) Tryd.underlying63 rfl rfl ti61 (by decide))) ?_; clear hs; intro a w hs
        refine sstore 2 hs rfl rfl rfl ti61 ((hs.one (i := 1) rfl)) ?_; clear hs; intro a w hs
        replace hs : St _ _ _ (.blk b138 (.cells #[.int .i64 (x101.Comb), .string (x125.Name), v143] 84 (0, 0)) :: .row v157 84 3 rw158 :: .blk b35 (.cells #[v157] 63 (0, 0)) :: .row v23 63 1 rw24 :: L) _ _ _ := hs
        refine RL_nil ?_
        refine hK19 _ _ ?_; clear hK19
        refine W_region ?_
        refine sy (v := .int .i64 (y69)) hs (y_move rfl) ?_; clear hs; intro a w hs
        refine sy hs (y_add rfl rfl rfl) ?_; clear hs; intro a w hs
        refine sy (v := .int .i64 ((w64 (y69 + 1)))) hs (y_assign rfl) ?_; clear hs; intro a w hs
        refine RL_nil ?_
        exact hK16 k74 _ _ (Nat.lt_succ_self _) ⟨_, x155, (w64 (y69 + 1)), v157, rw158, hbase75, hm, hW159, hs.subs ⟨rfl, rfl, rfl, rfl, rfl, trivial⟩ (.cons _ (.cons_cons _ (.cons_cons _ (.cons_cons _ (.refl _)))))⟩
       ·refine W_block fun Qe24 hB24 hO24 => ?_
        replace hs := hs.nilRow 85 4
        have hW168 : RW t_ref9_Test f61 [] ([] : List ref9_Test) := trivial
        generalize hgrw169 : ([] : List (List Value)) = rw169 at hs hW168; clear hgrw169
        replace hs : St _ _ _ (.row (.slice none 0 0) 85 4 rw169 :: .blk b138 (.cells #[.int .i64 (x101.Comb), .string (x125.Name), (.slice none 0 0)] 84 (0, 0)) :: .row v65 84 3 rw66 :: .blk b35 (.cells #[v65] 63 (0, 0)) :: .row v23 63 1 rw24 :: L) _ _ _ := hs
        replace hs : St _ _ _ (.row (.slice none 0 0) 85 4 rw169 :: .blk b138 (.cells #[.int .i64 (x101.Comb), .string (x125.Name), (.slice none 0 0)] 84 (0, 0)) :: .row v65 84 3 rw66 :: .blk b35 (.cells #[v65] 63 (0, 0)) :: .row v23 63 1 rw24 :: L) _ _ _ := hs
        replace hs : St _ _ _ (.row (.slice none 0 0) 85 4 rw169 :: .blk b138 (.cells #[.int .i64 (x101.Comb), .string (x125.Name), (.slice none 0 0)] 84 (0, 0)) :: .row v65 84 3 rw66 :: .blk b35 (.cells #[v65] 63 (0, 0)) :: .row v23 63 1 rw24 :: L) _ _ _ := hs
        refine W_loop (fun (k : Nat) a w => ∃ (y162 : (List ref9_Test)) (y167 : Int) (v163 : Value) (rw164 : List (List Value)), law10_selectors_l6 p0 y27 y64 y69 (law10_selectors_l4 n p0 y22 y27 (law10_selectors_l2 n p0 k32) k74) x101 x125 k y162 y167 = some res ∧ RW t_ref9_Test f61 rw164 y162 ∧ St 96 w0 f61 (.row v163 85 4 rw164 :: .blk b138 (.cells #[.int .i64 (x101.Comb), .string (x125.Name), v163] 84 (0, 0)) :: .row v65 84 3 rw66 :: .blk b35 (.cells #[v65] 63 (0, 0)) :: .row v23 63 1 rw24 :: L) [(0, a0), (3, v23), (4, .int .i64 (y27)), (5, .pointer (some ⟨b35, 0, none⟩)), (6, .int .i64 (y69)), (7, .pointer (some ⟨b138, 0, none⟩)), (8, .int .i64 (y167))] a w) (fun k => k) n ⟨([] : List ref9_Test), 0, (.slice none 0 0), rw169, hm, hW168, hs.sub ⟨rfl, rfl, rfl, rfl, rfl, rfl, rfl, trivial⟩⟩ ?_
        clear hs hm
        intro k
        rintro a w ⟨y162, y167, v163, rw164, hm, hW165, hs⟩
        replace hs : St _ _ _ (.row v163 85 4 rw164 :: .blk b138 (.cells #[.int .i64 (x101.Comb), .string (x125.Name), v163] 84 (0, 0)) :: .row v65 84 3 rw66 :: .blk b35 (.cells #[v65] 63 (0, 0)) :: .row v23 63 1 rw24 :: L) _ _ _ := hs
        intro K25 hK25
        cases k with
        | zero => simp [law10_selectors_l6] at hm
        | succ k172 =>
         rw [law10_selectors_l6] at hm
         refine W_seq fun K26 hK26 => ?_
         refine W_seq fun K27 hK27 => ?_
         refine W_region ?_
         refine sy (v := .int .i64 (y167)) hs (y_move rfl) ?_; clear hs; intro a w hs
         refine sy (v := a0) hs (y_move rfl) ?_; clear hs; intro a w hs
         refine sy (v := .int .i64 (y27)) hs (y_move rfl) ?_; clear hs; intro a w hs
         obtain ⟨x173, hx174, hm⟩ := ob hm
         obtain ⟨r175, hr176, hq177, hi178, hb179⟩ := hW3.geti hx174
         obtain ⟨v180, rfl, ⟨rw181, hR182, hW183⟩⟩ := hq177
         refine sy hs (y_indexAddr hR2 rfl rfl hi178 hb179 Tryd.underlying31 ti27) ?_; clear hs; intro a w hs
         refine sy (v := eaddr a0 1 y27.toNat 0) hs (y_fieldAddrE (i := y27.toNat) (j := 0) hR2 rfl hb179 (FO.of (off := 0) Tryd.underlying27 rfl rfl ti25 (by decide))) ?_; clear hs; intro a w hs
         refine sy (v := v180) hs (y_loadE (i := y27.toNat) (j := 0) hR2.up rfl hr176 rfl Tryd.underlying25 rfl) ?_; clear hs; intro a w hs
         refine sy (v := .int .i64 (y69)) hs (y_move rfl) ?_; clear hs; intro a w hs
         obtain ⟨x185, hx186, hm⟩ := ob hm
         obtain ⟨r187, hr188, hq189, hi190, hb191⟩ := hW183.geti hx186
         obtain ⟨v192, rfl, ⟨rw193, hR194, hW195⟩⟩ := hq189
         refine sy hs (y_indexAddr hR182 rfl rfl hi190 hb191 Tryd.underlying25 ti35) ?_; clear hs; intro a w hs
         refine sy (v := eaddr v180 3 y69.toNat 2) hs (y_fieldAddrE (i := y69.toNat) (j := 0) hR182 rfl hb191 (FO.of (off := 2) Tryd.underlying35 rfl rfl ti33 (by decide))) ?_; clear hs; intro a w hs
         refine sy (v := v192) hs (y_loadE (i := y69.toNat) (j := 2) hR182.up rfl hr188 rfl Tryd.underlying33 rfl) ?_; clear hs; intro a w hs
         refine sy hs (y_lenW hR194 hW195 rfl Tryd.underlying33) ?_; clear hs; intro a w hs
         refine sy hs (y_lss rfl rfl) ?_; clear hs; intro a w hs
         refine RL_nil ?_
         refine hK27 _ _ ?_; clear hK27
         refine W_cond hs rfl (fun hg197 => ?_) (fun hg197 => ?_)
         ·replace hm := oc_t hg197 hm
          refine W_skip ?_
          refine hK26 _ _ ?_; clear hK26
          refine W_seq fun K28 hK28 => ?_
          refine W_block fun Qe29 hB29 hO29 => ?_
          refine W_seq fun K30 hK30 => ?_
          refine W_region ?_
          refine sy (v := a0) hs (y_move rfl) ?_; clear hs; intro a w hs
          refine sy (v := .int .i64 (y27)) hs (y_move rfl) ?_; clear hs; intro a w hs
          obtain ⟨x198, hx199, hm⟩ := ob hm
          obtain ⟨r200, hr201, hq202, hi203, hb204⟩ := hW3.geti hx199
          obtain ⟨v205, rfl, ⟨rw206, hR207, hW208⟩⟩ := hq202
          refine sy hs (y_indexAddr hR2 rfl rfl hi203 hb204 Tryd.underlying31 ti27) ?_; clear hs; intro a w hs
          refine sy (v := eaddr a0 1 y27.toNat 0) hs (y_fieldAddrE (i := y27.toNat) (j := 0) hR2 rfl hb204 (FO.of (off := 0) Tryd.underlying27 rfl rfl ti25 (by decide))) ?_; clear hs; intro a w hs
          refine sy (v := v205) hs (y_loadE (i := y27.toNat) (j := 0) hR2.up rfl hr201 rfl Tryd.underlying25 rfl) ?_; clear hs; intro a w hs
          refine sy (v := .int .i64 (y69)) hs (y_move rfl) ?_; clear hs; intro a w hs
          obtain ⟨x210, hx211, hm⟩ := ob hm
          obtain ⟨r212, hr213, hq214, hi215, hb216⟩ := hW208.geti hx211
          obtain ⟨v217, rfl, ⟨rw218, hR219, hW220⟩⟩ := hq214
          refine sy hs (y_indexAddr hR207 rfl rfl hi215 hb216 Tryd.underlying25 ti35) ?_; clear hs; intro a w hs
          refine sy (v := eaddr v205 3 y69.toNat 2) hs (y_fieldAddrE (i := y69.toNat) (j := 0) hR207 rfl hb216 (FO.of (off := 2) Tryd.underlying35 rfl rfl ti33 (by decide))) ?_; clear hs; intro a w hs
          refine sy (v := v217) hs (y_loadE (i := y69.toNat) (j := 2) hR207.up rfl hr213 rfl Tryd.underlying33 rfl) ?_; clear hs; intro a w hs
          refine sy (v := .int .i64 (y167)) hs (y_move rfl) ?_; clear hs; intro a w hs
          obtain ⟨x222, hx223, hm⟩ := ob hm
          obtain ⟨r224, hr225, hq226, hi227, hb228⟩ := hW220.geti hx223
          obtain rfl : _ = ([.int .i64 (x222.Kind), .string (x222.Name), .string (x222.Value), .int .i64 (x222.N)] : List Value) := hq226
          refine sy hs (y_indexAddr hR219 rfl rfl hi227 hb228 Tryd.underlying33 ti29) ?_; clear hs; intro a w hs
          refine sy hs (y_loadRow hR219.up rfl hr225 Tryd.underlying29 rfl ti29) ?_; clear hs; intro a w hs
          refine RL_alloc hs ti29 (.free rfl) (by decide) ?_; clear hs; intro b229 a w hs
          replace hs : St _ _ _ (.blk b229 (.cells #[.int .i64 (0), .string ((bs [])), .string ((bs [])), .int .i64 (0)] 29 (0, 0)) :: .row v163 85 4 rw164 :: .blk b138 (.cells #[.int .i64 (x101.Comb), .string (x125.Name), v163] 84 (0, 0)) :: .row v65 84 3 rw66 :: .blk b35 (.cells #[v65] 63 (0, 0)) :: .row v23 63 1 rw24 :: L) _ _ _ := hs
          refine RL_storeAll (i := 0) hs rfl rfl rfl ti29 ⟨rfl, rfl⟩ (AllC.arr (r := [.int .i64 (x222.Kind), .string (x222.Name), .string (x222.Value), .int .i64 (x222.N)]) ⟨rfl, rfl, rfl, rfl, trivial⟩) (.free rfl) ?_; clear hs; intro a w hs
          replace hs : St _ _ _ (.blk b229 (.cells #[.int .i64 (x222.Kind), .string (x222.Name), .string (x222.Value), .int .i64 (x222.N)] 29 (0, 0)) :: .row v163 85 4 rw164 :: .blk b138 (.cells #[.int .i64 (x101.Comb), .string (x125.Name), v163] 84 (0, 0)) :: .row v65 84 3 rw66 :: .blk b35 (.cells #[v65] 63 (0, 0)) :: .row v23 63 1 rw24 :: L) _ _ _ := hs
          refine RL_nil ?_
          refine hK30 _ _ ?_; clear hK30
          refine W_region ?_
          refine sy (v := .pointer (some ⟨b138, 2, none⟩)) hs (y_fieldAddr rfl (FO.of (off := 2) Tryd.underlying84 rfl rfl ti82 (by decide))) ?_; clear hs; intro a w hs
          refine sy (v := v163) hs (y_ld rfl Tryd.underlying82 rfl (Cell.blk (.tail _ (.tail _ (.head _))) rfl)) ?_; clear hs; intro a w hs
          refine sy (v := .pointer (some ⟨b229, 0, none⟩)) hs (y_fieldAddr rfl (FO.of (off := 0) Tryd.underlying29 rfl rfl ti3 (by decide))) ?_; clear hs; intro a w hs
          refine sy (v := .int .i64 (x222.Kind)) hs (y_ld rfl Tryd.underlying3 rfl (Cell.blk (.head _) rfl)) ?_; clear hs; intro a w hs
          refine sy (v := .pointer (some ⟨b229, 1, none⟩)) hs (y_fieldAddr rfl (FO.of (off := 1) Tryd.underlying29 rfl rfl ti9 (by decide))) ?_; clear hs; intro a w hs
          refine sy (v := .string (x222.Name)) hs (y_ld rfl Tryd.underlying9 rfl (Cell.blk (.head _) rfl)) ?_; clear hs; intro a w hs
          refine sy (v := .pointer (some ⟨b229, 2, none⟩)) hs (y_fieldAddr rfl (FO.of (off := 2) Tryd.underlying29 rfl rfl ti9 (by decide))) ?_; clear hs; intro a w hs
          refine sy (v := .string (x222.Value)) hs (y_ld rfl Tryd.underlying9 rfl (Cell.blk (.head _) rfl)) ?_; clear hs; intro a w hs
          refine sy (v := .pointer (some ⟨b229, 3, none⟩)) hs (y_fieldAddr rfl (FO.of (off := 3) Tryd.underlying29 rfl rfl ti3 (by decide))) ?_; clear hs; intro a w hs
          refine sy (v := .int .i64 (x222.N)) hs (y_ld rfl Tryd.underlying3 rfl (Cell.blk (.head _) rfl)) ?_; clear hs; intro a w hs
          refine sy hs (y_buildS (places := [(0, 1), (1, 1), (2, 1), (3, 1)]) (cs := [.int .i64 (x222.Kind), .string (x222.Name), .string (x222.Value), .int .i64 (x222.N)]) rfl Tryd.underlying85 ti85 (by kernel_rfl) (by decide) rfl ⟨rfl, rfl, rfl, rfl, trivial⟩) ?_; clear hs; intro a w hs
          refine RL_bs1a hs rfl Tryd.underlying82 ti85 (by decide) (AllC.row ⟨rfl, rfl, rfl, rfl, trivial⟩ rfl) ?_; clear hs; intro v231 a w hs
          have hW232 : RW t_ref9_Test f61 [[.int .i64 (x222.Kind), .string (x222.Name), .string (x222.Value), .int .i64 (x222.N)]] [({Kind := x222.Kind, Name := x222.Name, Value := x222.Value, N := x222.N} : ref9_Test)] := RW.single (rfl)
          generalize hgrw233 : ([[.int .i64 (x222.Kind), .string (x222.Name), .string (x222.Value), .int .i64 (x222.N)]] : List (List Value)) = rw233 at hs hW232; clear hgrw233
          replace hs : St _ _ _ (.row v231 85 4 rw233 :: .blk b229 (.cells #[.int .i64 (x222.Kind), .string (x222.Name), .string (x222.Value), .int .i64 (x222.N)] 29 (0, 0)) :: .row v163 85 4 rw164 :: .blk b138 (.cells #[.int .i64 (x101.Comb), .string (x125.Name), v163] 84 (0, 0)) :: .row v65 84 3 rw66 :: .blk b35 (.cells #[v65] 63 (0, 0)) :: .row v23 63 1 rw24 :: L) _ _ _ := hs
          obtain ⟨x236, hx237, hm⟩ := ob hm
          obtain ⟨hbx236, hex236⟩ := appM_some hx237
          have hW240 := hW165.append hW232; rw [hex236] at hW240
          refine RL_append (i := 2) hs rfl rfl rfl (Rd.st hs (.head _)) Tryd.underlying82 ti85 (by decide) (by rw [RW.len hW165, RW.len hW232]; exact hbx236) (.free rfl) (by decide) ?_; clear hs; intro v238 a w hs
          generalize hgx236 : rw164 ++ rw233 = rw239 at hs hW240; clear hgx236
          replace hs := hs.erase 0
          replace hs : St _ _ _ (.blk b229 (.cells #[.int .i64 (x222.Kind), .string (x222.Name), .string (x222.Value), .int .i64 (x222.N)] 29 (0, 0)) :: .row v238 85 4 rw239 :: .blk b138 (.cells #[.int .i64 (x101.Comb), .string (x125.Name), v163] 84 (0, 0)) :: .row v65 84 3 rw66 :: .blk b35 (.cells #[v65] 63 (0, 0)) :: .row v23 63 1 rw24 :: L) _ _ _ := hs
          refine sy (v := .pointer (some ⟨b138, 2, none⟩)) hs (y_fieldAddr rfl (FO.of (off := 2) Tryd.underlying84 rfl rfl ti82 (by decide))) ?_; clear hs; intro a w hs
          refine sstore 2 hs rfl rfl rfl ti82 ((hs.one (i := 1) rfl)) ?_; clear hs; intro a w hs
          replace hs : St _ _ _ (.blk b229 (.cells #[.int .i64 (x222.Kind), .string (x222.Name), .string (x222.Value), .int .i64 (x222.N)] 29 (0, 0)) :: .row v238 85 4 rw239 :: .blk b138 (.cells #[.int .i64 (x101.Comb), .string (x125.Name), v238] 84 (0, 0)) :: .row v65 84 3 rw66 :: .blk b35 (.cells #[v65] 63 (0, 0)) :: .row v23 63 1 rw24 :: L) _ _ _ := hs
          refine RL_nil ?_
          refine hK28 _ _ ?_; clear hK28
          refine W_region ?_
          refine sy (v := .int .i64 (y167)) hs (y_move rfl) ?_; clear hs; intro a w hs
          refine sy hs (y_add rfl rfl rfl) ?_; clear hs; intro a w hs
          refine sy (v := .int .i64 ((w64 (y167 + 1)))) hs (y_assign rfl) ?_; clear hs; intro a w hs
          refine RL_nil ?_
          replace hs : St _ _ _ (.blk b229 (.cells #[.int .i64 (x222.Kind), .string (x222.Name), .string (x222.Value), .int .i64 (x222.N)] 29 (0, 0)) :: .row v238 85 4 rw239 :: .blk b138 (.cells #[.int .i64 (x101.Comb), .string (x125.Name), v238] 84 (0, 0)) :: .row v65 84 3 rw66 :: .blk b35 (.cells #[v65] 63 (0, 0)) :: .row v23 63 1 rw24 :: L) _ _ _ := hs
          exact hK25 k172 _ _ (Nat.lt_succ_self _) ⟨x236, (w64 (y167 + 1)), v238, rw239, hm, hW240, hs.subs ⟨rfl, rfl, rfl, rfl, rfl, rfl, rfl, trivial⟩ (.cons _ (.cons_cons _ (.cons_cons _ (.cons_cons _ (.cons_cons _ (.cons_cons _ (.refl _)))))))⟩
         ·replace hm := oc_f hg197 hm
          refine W_exit ?_
          refine hB24 _ _ ?_
          replace hs : St _ _ _ (.row v163 85 4 rw164 :: .blk b138 (.cells #[.int .i64 (x101.Comb), .string (x125.Name), v163] 84 (0, 0)) :: .row v65 84 3 rw66 :: .blk b35 (.cells #[v65] 63 (0, 0)) :: .row v23 63 1 rw24 :: L) _ _ _ := hs
          exact ⟨y162, v163, rw164, hm, hW165, hs.sub ⟨rfl, rfl, rfl, rfl, rfl, rfl, trivial⟩⟩
      ·replace hm := oc_f hg88 hm
       refine W_exit ?_
       refine hB15 _ _ ?_
       exact ⟨_, y64, v65, rw66, hbase46, hm, hW67, hs.sub ⟨rfl, rfl, rfl, rfl, trivial⟩⟩
   ·replace hm := oc_f hg34 hm
    refine W_exit ?_
    refine hB6 _ _ ?_
    exact ⟨_, y22, v23, rw24, hbase15, hm, hW25, hs.sub ⟨rfl, trivial⟩⟩
/-! casement/casementlaw10.name -/
def law10_name (_n : Nat) (p0 : Int) (p1 : ByteArray) (p2 : (List sheet_Test)) : Option sheet_Step :=
  some ({Comb := p0, Name := p1, Tests := p2} : sheet_Step)
set_option maxRecDepth 20000 in
set_option maxHeartbeats 4000000 in
theorem law10_name_ok (n : Nat) {f : Fz} {p0 : Int} {p1 : ByteArray} {p2 : (List sheet_Test)} {a2 : Value} {res : sheet_Step} (h2 : RS t_sheet_Test f a2 p2) (hm : law10_name n p0 p1 p2 = some res) : Does Tryd.prog 15 [.int .i64 p0, .string p1, a2] f [] (fun r f' L' => ∃ (u0 : List Value), L' = [] ∧ r = .agg u0.toArray ∧ t_sheet_Step.R f' u0 res) := by
 unfold law10_name at hm
 intro w0 L w hC
 obtain ⟨rw1, hR2, hW3⟩ := h2
 refine enter Tryd.func15 rfl Tryd.ntmps15 (by simp) hC fun a hs => ?_
 have hle := Fz.le.refl f
 refine W_seq fun K1 hK1 => ?_
 refine W_region ?_
 refine RL_alloc hs ti35 (.free rfl) (by decide) ?_; clear hs; intro b5 a w hs
 replace hs : St _ _ _ (.blk b5 (.cells #[.int .i64 (0), .string ((bs [])), (.slice none 0 0)] 35 (0, 0)) :: L) _ _ _ := hs
 refine RL_nil ?_
 refine hK1 _ _ ?_; clear hK1
 refine W_seq fun K2 hK2 => ?_
 refine W_region ?_
 refine sy (v := .int .i64 (p0)) hs (y_move rfl) ?_; clear hs; intro a w hs
 refine sy (v := .string (p1)) hs (y_move rfl) ?_; clear hs; intro a w hs
 refine sy (v := a2) hs (y_move rfl) ?_; clear hs; intro a w hs
 refine sy hs (y_buildS (places := [(0, 1), (1, 1), (2, 1)]) (cs := [.int .i64 (p0), .string (p1), a2]) rfl Tryd.underlying35 ti35 (by kernel_rfl) (by decide) rfl ⟨rfl, rfl, hR2.one, trivial⟩) ?_; clear hs; intro a w hs
 refine RL_storeAll (i := 0) hs rfl rfl rfl ti35 ⟨rfl, rfl⟩ (AllC.arr (r := [.int .i64 (p0), .string (p1), a2]) ⟨rfl, rfl, hR2.one, trivial⟩) (.free rfl) ?_; clear hs; intro a w hs
 replace hs : St _ _ _ (.blk b5 (.cells #[.int .i64 (p0), .string (p1), a2] 35 (0, 0)) :: L) _ _ _ := hs
 refine RL_nil ?_
 refine hK2 _ _ ?_; clear hK2
 refine W_ret ?_
 obtain rfl := Option.some.inj hm
 refine RtV1 hs rfl (rv_a hs rfl Tryd.underlying35 rfl ti35 (fun j u hj => Cell.blk (.head _) hj) rfl) ?_
 exact ⟨_, f, [], rfl, hle, (hs.subL (.cons _ (.refl _))).cw, [.int .i64 (p0), .string (p1), a2], rfl, rfl, ⟨_, rfl, ⟨rw1, hR2, hW3⟩⟩⟩
/-! casement/casementlaw10.sel -/
def law10_sel (_n : Nat) (p0 : (List sheet_Step)) : Option sheet_Selector :=
  some ({Steps := p0} : sheet_Selector)
set_option maxRecDepth 20000 in
set_option maxHeartbeats 4000000 in
theorem law10_sel_ok (n : Nat) {f : Fz} {p0 : (List sheet_Step)} {a0 : Value} {res : sheet_Selector} (h0 : RS t_sheet_Step f a0 p0) (hm : law10_sel n p0 = some res) : Does Tryd.prog 14 [a0] f [] (fun r f' L' => ∃ (u0 : List Value), L' = [] ∧ r = .agg u0.toArray ∧ t_sheet_Selector.R f' u0 res) := by
 unfold law10_sel at hm
 intro w0 L w hC
 obtain ⟨rw1, hR2, hW3⟩ := h0
 refine enter Tryd.func14 rfl Tryd.ntmps14 (by simp) hC fun a hs => ?_
 have hle := Fz.le.refl f
 refine W_seq fun K1 hK1 => ?_
 refine W_region ?_
 refine RL_alloc hs ti27 (.free rfl) (by decide) ?_; clear hs; intro b5 a w hs
 replace hs : St _ _ _ (.blk b5 (.cells #[(.slice none 0 0)] 27 (0, 0)) :: L) _ _ _ := hs
 refine RL_nil ?_
 refine hK1 _ _ ?_; clear hK1
 refine W_seq fun K2 hK2 => ?_
 refine W_region ?_
 refine sy (v := a0) hs (y_move rfl) ?_; clear hs; intro a w hs
 refine sy hs (y_buildS (places := [(0, 1)]) (cs := [a0]) rfl Tryd.underlying27 ti27 (by kernel_rfl) (by decide) rfl ⟨hR2.one, trivial⟩) ?_; clear hs; intro a w hs
 refine RL_storeAll (i := 0) hs rfl rfl rfl ti27 ⟨rfl, rfl⟩ (AllC.arr (r := [a0]) ⟨hR2.one, trivial⟩) (.free rfl) ?_; clear hs; intro a w hs
 replace hs : St _ _ _ (.blk b5 (.cells #[a0] 27 (0, 0)) :: L) _ _ _ := hs
 refine RL_nil ?_
 refine hK2 _ _ ?_; clear hK2
 refine W_ret ?_
 obtain rfl := Option.some.inj hm
 refine RtV1 hs rfl (rv_a hs rfl Tryd.underlying27 rfl ti27 (fun j u hj => Cell.blk (.head _) hj) rfl) ?_
 exact ⟨_, f, [], rfl, hle, (hs.subL (.cons _ (.refl _))).cw, [a0], rfl, rfl, ⟨_, rfl, ⟨rw1, hR2, hW3⟩⟩⟩
end Go.Proofs.YtmkcglpeidbblaaDoor
