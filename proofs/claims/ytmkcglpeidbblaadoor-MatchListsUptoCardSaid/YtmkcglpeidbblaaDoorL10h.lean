/-
  Walks and laws of this seat; the base is the text Base.
-/
import Derived.Test.YtmkcglpeidbblaaDoorL10e
import Derived.Test.YtmkcglpeidbblaaDoorRows
/-
  Models of functions, and that the functions compute them. Printed by lift.py.
-/
namespace Go.Proofs.YtmkcglpeidbblaaDoor
open Go.RowKit Go.Sl
/-! casement/casementbook.Within -/
/-! casement/casementbook.Same[int] -/
/-! casement/casementkeep.Whole -/
def keep_Whole_k1 : Option Bool :=
  some true
def keep_Whole_k3 (y11 : Int) (lp12 : Int → Option Bool) (y42 : ByteArray) : Option Bool :=
  (runesM y42).bind fun x43 =>
  (bif (decide ((textOf x43) ≠ y42)) then some false else
  lp12 (w64 (y11 + 1)))
def keep_Whole_l4 (p0 : api_Tree) (y11 : Int) (lp12 : Int → Option Bool) : Nat → ByteArray → Int → Option Bool
  | 0, _, _ => none
  | k53 + 1, y51, y52 =>
  (geti p0.Nodes y11).bind fun x54 =>
  (bif (decide (y52 < (x54.Attrs.length : Int))) then (addS y51 (bs [124])).bind fun x67 =>
  (geti p0.Nodes y11).bind fun x69 =>
  (geti x69.Attrs y52).bind fun x81 =>
  (addS x67 x81.Name).bind fun x88 =>
  (addS x88 (bs [124])).bind fun x90 =>
  (geti p0.Nodes y11).bind fun x92 =>
  (geti x92.Attrs y52).bind fun x104 =>
  (addS x90 x104.Value).bind fun x111 =>
  (keep_Whole_l4 p0 y11 lp12 k53) x111 (w64 (y52 + 1)) else
  keep_Whole_k3 y11 lp12 y51)
def keep_Whole_l2 (n : Nat) (p0 : api_Tree) : Nat → Int → Option Bool
  | 0, _ => none
  | k12 + 1, y11 =>
  (bif (decide (y11 < (p0.Nodes.length : Int))) then (geti p0.Nodes y11).bind fun x14 =>
  (addS x14.Name (bs [124])).bind fun x26 =>
  (geti p0.Nodes y11).bind fun x28 =>
  (addS x26 x28.Text).bind fun x40 =>
  keep_Whole_l4 p0 y11 (keep_Whole_l2 n p0 k12) n x40 0 else
  keep_Whole_k1)
def keep_Whole (n : Nat) (p0 : api_Tree) : Option Bool :=
  (ref5_Right n p0).bind fun x8 =>
  (bif (decide (x8 ≠ 0)) then some false else
  keep_Whole_l2 n p0 n 0)
set_option maxRecDepth 20000 in
set_option maxHeartbeats 4000000 in
theorem keep_Whole_ok (n : Nat) {f : Fz} {p0 : api_Tree} {a0 : List Value} {res : Bool} (h0 : t_api_Tree.R f a0 p0) (hm : keep_Whole n p0 = some res) : Gives Tryd.prog 26 [.agg a0.toArray] f (.bool res) := by
 unfold keep_Whole at hm
 intro w0 L w hC
 obtain ⟨v1, rfl, ⟨rw2, hR3, hW4⟩⟩ := h0
 refine enter Tryd.func26 rfl Tryd.ntmps26 (by simp) hC fun a hs => ?_
 have hle := Fz.le.refl f
 refine W_seq fun K1 hK1 => ?_
 refine W_region ?_
 refine sbox hs rfl ?_; clear hs; (try clear a w); intro b6 a w hs
 replace hs : St _ _ _ (.blk b6 (.cells #[v1] 24 (0, 0)) :: L) _ _ _ := hs
 refine sy (v := .bool (false)) hs (y_assign rfl) ?_; clear hs; (try clear a w); intro a w hs
 refine RL_nil ?_
 refine hK1 _ _ ?_; clear hK1
 refine W_seq fun K2 hK2 => ?_
 refine W_seq fun K3 hK3 => ?_
 refine W_region ?_
 refine sy hs (y_ldB rfl Tryd.underlying24 rfl ti24 (.head _) rfl) ?_; clear hs; (try clear a w); intro a w hs
 obtain ⟨x8, hx9, hm⟩ := ob hm
 refine sy hs (y_call rfl has39 rfl (ref5_Right_ok n (f := f) (a0 := [v1]) ⟨_, rfl, ⟨rw2, hR3, hW4⟩⟩ hx9)) ?_; clear hs; (try clear a w); intro a w hs
 refine sy hs (y_neq rfl rfl) ?_; clear hs; (try clear a w); intro a w hs
 refine RL_nil ?_
 refine hK3 _ _ ?_; clear hK3
 refine W_cond hs rfl (fun hg10 => ?_) (fun hg10 => ?_)
 ·replace hm := oc_t hg10 hm
  refine W_seq fun K4 hK4 => ?_
  refine W_region ?_
  refine sy (v := .bool (false)) hs (y_assign rfl) ?_; clear hs; (try clear a w); intro a w hs
  refine RL_nil ?_
  refine hK4 _ _ ?_; clear hK4
  refine W_ret ?_
  obtain rfl := Option.some.inj hm
  refine RtV1 hs rfl (rv_t hs rfl) ?_
  exact ⟨rfl, ((hs.subL (.cons _ (.refl _))).weak hle).cw⟩
 ·replace hm := oc_f hg10 hm
  refine W_skip ?_
  refine hK2 _ _ ?_; clear hK2
  refine W_seq fun K5 hK5 => ?_
  refine W_seq fun K6 hK6 => ?_
  refine W_region ?_
  refine sy (v := .int .i64 (0)) hs (y_assign rfl) ?_; clear hs; (try clear a w); intro a w hs
  refine RL_nil ?_
  refine hK6 _ _ ?_; clear hK6
  refine W_post (fun a w => keep_Whole_k1 = some res ∧ St 71 w0 f (L) [] a w) ?_ ?_
  ·clear hs hm
   rintro a w ⟨hm, hs⟩
   replace hs : St _ _ _ (L) _ _ _ := hs
   unfold keep_Whole_k1 at hm
   refine hK5 _ _ ?_; clear hK5
   refine W_seq fun K7 hK7 => ?_
   refine W_region ?_
   refine sy (v := .bool (true)) hs (y_assign rfl) ?_; clear hs; (try clear a w); intro a w hs
   refine RL_nil ?_
   refine hK7 _ _ ?_; clear hK7
   refine W_ret ?_
   obtain rfl := Option.some.inj hm
   refine RtV1 hs rfl (rv_t hs rfl) ?_
   exact ⟨rfl, (hs.weak hle).cw⟩
  ·refine W_block fun Qe8 hB8 hO8 => ?_
   refine W_loop (fun (k : Nat) a w => ∃ (y11 : Int), keep_Whole_l2 n p0 k y11 = some res ∧ St 71 w0 f (.blk b6 (.cells #[v1] 24 (0, 0)) :: L) [(1, .pointer (some ⟨b6, 0, none⟩)), (3, .int .i64 (y11))] a w) (fun k => k) n ⟨0, hm, hs.sub ⟨rfl, rfl, trivial⟩⟩ ?_
   clear hs hm
   intro k
   rintro a w ⟨y11, hm, hs⟩
   replace hs : St _ _ _ (.blk b6 (.cells #[v1] 24 (0, 0)) :: L) _ _ _ := hs
   intro K9 hK9
   cases k with
   | zero => simp [keep_Whole_l2] at hm
   | succ k12 =>
    rw [keep_Whole_l2] at hm
    refine W_seq fun K10 hK10 => ?_
    refine W_seq fun K11 hK11 => ?_
    refine W_region ?_
    refine sy (v := .int .i64 (y11)) hs (y_move rfl) ?_; clear hs; (try clear a w); intro a w hs
    refine sy (v := .pointer (some ⟨b6, 0, none⟩)) hs (y_fieldAddr rfl (FO.of (off := 0) Tryd.underlying24 rfl rfl ti22 (by decide))) ?_; clear hs; (try clear a w); intro a w hs
    refine sy (v := v1) hs (y_ld rfl Tryd.underlying22 rfl (Cell.blk (.head _) rfl)) ?_; clear hs; (try clear a w); intro a w hs
    refine sy hs (y_lenW hR3 hW4 rfl Tryd.underlying22) ?_; clear hs; (try clear a w); intro a w hs
    refine sy hs (y_lss rfl rfl) ?_; clear hs; (try clear a w); intro a w hs
    refine RL_nil ?_
    refine hK11 _ _ ?_; clear hK11
    refine W_cond hs rfl (fun hg13 => ?_) (fun hg13 => ?_)
    ·replace hm := oc_t hg13 hm
     refine W_skip ?_
     refine hK10 _ _ ?_; clear hK10
     refine W_seq fun K12 hK12 => ?_
     refine W_block fun Qe13 hB13 hO13 => ?_
     refine W_seq fun K14 hK14 => ?_
     refine W_draw hs mixed (by kernel_rfl) ?_; intro a he
     refine qy (v := .pointer (some ⟨b6, 0, none⟩)) he (y_fieldAddr rfl (FO.of (off := 0) Tryd.underlying24 rfl rfl ti22 (by decide))) ?_; clear he; (try clear a); intro a he
     refine qy (v := v1) he (y_ld rfl Tryd.underlying22 rfl (Cell.blk (.head _) rfl)) ?_; clear he; (try clear a); intro a he
     refine qy (v := .int .i64 (y11)) he (y_move rfl) ?_; clear he; (try clear a); intro a he
     obtain ⟨x14, hx15, hm⟩ := ob hm
     obtain ⟨r16, hr17, hq18, hi19, hb20⟩ := hW4.geti hx15
     obtain ⟨v21, rfl, ⟨rw22, hR23, hW24⟩⟩ := hq18
     refine qy he (y_indexAddr hR3 rfl rfl hi19 hb20 Tryd.underlying22 ti42) ?_; clear he; (try clear a); intro a he
     refine qy (v := eaddr v1 9 y11.toNat 1) he (y_fieldAddrE (i := y11.toNat) (j := 0) hR3 rfl hb20 (FO.of (off := 1) Tryd.underlying42 rfl rfl ti9 (by decide))) ?_; clear he; (try clear a); intro a he
     refine qy (v := .string (x14.Name)) he (y_loadE (i := y11.toNat) (j := 1) hR3.up rfl hr17 rfl Tryd.underlying9 rfl) ?_; clear he; (try clear a); intro a he
     obtain ⟨x26, hx27, hm⟩ := ob hm
     obtain ⟨hbx26, hex26⟩ := addS_some hx27
     refine qy he (y_saddW rfl rfl hbx26 hex26) ?_; clear he; (try clear a); intro a he
     refine qy (v := .pointer (some ⟨b6, 0, none⟩)) he (y_fieldAddr rfl (FO.of (off := 0) Tryd.underlying24 rfl rfl ti22 (by decide))) ?_; clear he; (try clear a); intro a he
     refine qy (v := v1) he (y_ld rfl Tryd.underlying22 rfl (Cell.blk (.head _) rfl)) ?_; clear he; (try clear a); intro a he
     refine qy (v := .int .i64 (y11)) he (y_move rfl) ?_; clear he; (try clear a); intro a he
     obtain ⟨x28, hx29, hm⟩ := ob hm
     obtain ⟨r30, hr31, hq32, hi33, hb34⟩ := hW4.geti hx29
     obtain ⟨v35, rfl, ⟨rw36, hR37, hW38⟩⟩ := hq32
     refine qy he (y_indexAddr hR3 rfl rfl hi33 hb34 Tryd.underlying22 ti42) ?_; clear he; (try clear a); intro a he
     refine qy (v := eaddr v1 9 y11.toNat 2) he (y_fieldAddrE (i := y11.toNat) (j := 0) hR3 rfl hb34 (FO.of (off := 2) Tryd.underlying42 rfl rfl ti9 (by decide))) ?_; clear he; (try clear a); intro a he
     refine qy (v := .string (x28.Text)) he (y_loadE (i := y11.toNat) (j := 2) hR3.up rfl hr31 rfl Tryd.underlying9 rfl) ?_; clear he; (try clear a); intro a he
     obtain ⟨x40, hx41, hm⟩ := ob hm
     obtain ⟨hbx40, hex40⟩ := addS_some hx41
     refine qy he (y_saddW rfl rfl hbx40 hex40) ?_; clear he; (try clear a); intro a he
     refine qy (v := .string (x40)) he (y_assign rfl) ?_; clear he; (try clear a); intro a he
     refine QL_nil he ?_; clear he; (try clear hs); (try clear a); intro a w hs
     refine hK14 _ _ ?_; clear hK14
     refine W_seq fun K15 hK15 => ?_
     refine W_seq fun K16 hK16 => ?_
     refine W_region ?_
     refine sy (v := .int .i64 (0)) hs (y_assign rfl) ?_; clear hs; (try clear a w); intro a w hs
     refine RL_nil ?_
     refine hK16 _ _ ?_; clear hK16
     refine W_post (fun a w => ∃ (y42 : ByteArray), keep_Whole_k3 y11 (keep_Whole_l2 n p0 k12) y42 = some res ∧ St 71 w0 f (.blk b6 (.cells #[v1] 24 (0, 0)) :: L) [(1, .pointer (some ⟨b6, 0, none⟩)), (3, .int .i64 (y11)), (4, .string (y42))] a w) ?_ ?_
     ·clear hs hm
      rintro a w ⟨y42, hm, hs⟩
      replace hs : St _ _ _ (.blk b6 (.cells #[v1] 24 (0, 0)) :: L) _ _ _ := hs
      unfold keep_Whole_k3 at hm
      refine hK15 _ _ ?_; clear hK15
      refine W_seq fun K17 hK17 => ?_
      refine W_region ?_
      refine sy (v := .string (y42)) hs (y_move rfl) ?_; clear hs; (try clear a w); intro a w hs
      obtain ⟨x43, hx44, hm⟩ := ob hm
      refine RL_s2rW hx44 hs rfl Tryd.underlying9 Tryd.underlying98 Tryd.underlying21 ?_; clear hs; (try clear a w); intro v45 rw46 a w hW47 hs
      replace hs : St _ _ _ (.row v45 21 1 rw46 :: .blk b6 (.cells #[v1] 24 (0, 0)) :: L) _ _ _ := hs
      refine sy (v := .string ((textOf x43))) hs (y_r2sW rfl Tryd.underlying98 Tryd.underlying21 Tryd.underlying9 (Rd.st hs (.head _)) hW47) ?_; clear hs; (try clear a w); intro a w hs
      refine sy (v := .string (y42)) hs (y_move rfl) ?_; clear hs; (try clear a w); intro a w hs
      refine sy hs (y_sneq rfl rfl) ?_; clear hs; (try clear a w); intro a w hs
      refine RL_nil ?_
      refine hK17 _ _ ?_; clear hK17
      refine W_cond hs rfl (fun hg50 => ?_) (fun hg50 => ?_)
      ·replace hm := oc_t hg50 hm
       refine W_seq fun K18 hK18 => ?_
       refine W_region ?_
       refine sy (v := .bool (false)) hs (y_assign rfl) ?_; clear hs; (try clear a w); intro a w hs
       refine RL_nil ?_
       refine hK18 _ _ ?_; clear hK18
       refine W_ret ?_
       obtain rfl := Option.some.inj hm
       refine RtV1 hs rfl (rv_t hs rfl) ?_
       exact ⟨rfl, ((hs.subL (.cons _ (.cons _ (.refl _)))).weak hle).cw⟩
      ·replace hm := oc_f hg50 hm
       refine W_skip ?_
       refine hK12 _ _ ?_; clear hK12
       refine W_region ?_
       refine sy (v := .int .i64 (y11)) hs (y_move rfl) ?_; clear hs; (try clear a w); intro a w hs
       refine sy hs (y_add rfl rfl rfl) ?_; clear hs; (try clear a w); intro a w hs
       refine sy (v := .int .i64 ((w64 (y11 + 1)))) hs (y_assign rfl) ?_; clear hs; (try clear a w); intro a w hs
       refine RL_nil ?_
       exact hK9 k12 _ _ (Nat.lt_succ_self _) ⟨(w64 (y11 + 1)), hm, hs.subs ⟨rfl, rfl, trivial⟩ (.cons _ (.cons_cons _ (.refl _)))⟩
     ·refine W_block fun Qe19 hB19 hO19 => ?_
      refine W_loop (fun (k : Nat) a w => ∃ (y51 : ByteArray) (y52 : Int), keep_Whole_l4 p0 y11 (keep_Whole_l2 n p0 k12) k y51 y52 = some res ∧ St 71 w0 f (.blk b6 (.cells #[v1] 24 (0, 0)) :: L) [(1, .pointer (some ⟨b6, 0, none⟩)), (3, .int .i64 (y11)), (4, .string (y51)), (5, .int .i64 (y52))] a w) (fun k => k) n ⟨x40, 0, hm, hs.sub ⟨rfl, rfl, rfl, rfl, trivial⟩⟩ ?_
      clear hs hm
      intro k
      rintro a w ⟨y51, y52, hm, hs⟩
      replace hs : St _ _ _ (.blk b6 (.cells #[v1] 24 (0, 0)) :: L) _ _ _ := hs
      intro K20 hK20
      cases k with
      | zero => simp [keep_Whole_l4] at hm
      | succ k53 =>
       rw [keep_Whole_l4] at hm
       refine W_seq fun K21 hK21 => ?_
       refine W_seq fun K22 hK22 => ?_
       refine W_region ?_
       refine sy (v := .int .i64 (y52)) hs (y_move rfl) ?_; clear hs; (try clear a w); intro a w hs
       refine sy (v := .pointer (some ⟨b6, 0, none⟩)) hs (y_fieldAddr rfl (FO.of (off := 0) Tryd.underlying24 rfl rfl ti22 (by decide))) ?_; clear hs; (try clear a w); intro a w hs
       refine sy (v := v1) hs (y_ld rfl Tryd.underlying22 rfl (Cell.blk (.head _) rfl)) ?_; clear hs; (try clear a w); intro a w hs
       refine sy (v := .int .i64 (y11)) hs (y_move rfl) ?_; clear hs; (try clear a w); intro a w hs
       obtain ⟨x54, hx55, hm⟩ := ob hm
       obtain ⟨r56, hr57, hq58, hi59, hb60⟩ := hW4.geti hx55
       obtain ⟨v61, rfl, ⟨rw62, hR63, hW64⟩⟩ := hq58
       refine sy hs (y_indexAddr hR3 rfl rfl hi59 hb60 Tryd.underlying22 ti42) ?_; clear hs; (try clear a w); intro a w hs
       refine sy (v := eaddr v1 9 y11.toNat 3) hs (y_fieldAddrE (i := y11.toNat) (j := 0) hR3 rfl hb60 (FO.of (off := 3) Tryd.underlying42 rfl rfl ti40 (by decide))) ?_; clear hs; (try clear a w); intro a w hs
       refine sy (v := v61) hs (y_loadE (i := y11.toNat) (j := 3) hR3.up rfl hr57 rfl Tryd.underlying40 rfl) ?_; clear hs; (try clear a w); intro a w hs
       refine sy hs (y_lenW hR63 hW64 rfl Tryd.underlying40) ?_; clear hs; (try clear a w); intro a w hs
       refine sy hs (y_lss rfl rfl) ?_; clear hs; (try clear a w); intro a w hs
       refine RL_nil ?_
       refine hK22 _ _ ?_; clear hK22
       refine W_cond hs rfl (fun hg66 => ?_) (fun hg66 => ?_)
       ·replace hm := oc_t hg66 hm
        refine W_skip ?_
        refine hK21 _ _ ?_; clear hK21
        refine W_seq fun K23 hK23 => ?_
        refine W_block fun Qe24 hB24 hO24 => ?_
        refine W_draw hs mixed (by kernel_rfl) ?_; intro a he
        refine qy (v := .string (y51)) he (y_move rfl) ?_; clear he; (try clear a); intro a he
        obtain ⟨x67, hx68, hm⟩ := ob hm
        obtain ⟨hbx67, hex67⟩ := addS_some hx68
        refine qy he (y_saddW rfl rfl hbx67 hex67) ?_; clear he; (try clear a); intro a he
        refine qy (v := .pointer (some ⟨b6, 0, none⟩)) he (y_fieldAddr rfl (FO.of (off := 0) Tryd.underlying24 rfl rfl ti22 (by decide))) ?_; clear he; (try clear a); intro a he
        refine qy (v := v1) he (y_ld rfl Tryd.underlying22 rfl (Cell.blk (.head _) rfl)) ?_; clear he; (try clear a); intro a he
        refine qy (v := .int .i64 (y11)) he (y_move rfl) ?_; clear he; (try clear a); intro a he
        obtain ⟨x69, hx70, hm⟩ := ob hm
        obtain ⟨r71, hr72, hq73, hi74, hb75⟩ := hW4.geti hx70
        obtain ⟨v76, rfl, ⟨rw77, hR78, hW79⟩⟩ := hq73
        refine qy he (y_indexAddr hR3 rfl rfl hi74 hb75 Tryd.underlying22 ti42) ?_; clear he; (try clear a); intro a he
        refine qy (v := eaddr v1 9 y11.toNat 3) he (y_fieldAddrE (i := y11.toNat) (j := 0) hR3 rfl hb75 (FO.of (off := 3) Tryd.underlying42 rfl rfl ti40 (by decide))) ?_; clear he; (try clear a); intro a he
        refine qy (v := v76) he (y_loadE (i := y11.toNat) (j := 3) hR3.up rfl hr72 rfl Tryd.underlying40 rfl) ?_; clear he; (try clear a); intro a he
        refine qy (v := .int .i64 (y52)) he (y_move rfl) ?_; clear he; (try clear a); intro a he
        obtain ⟨x81, hx82, hm⟩ := ob hm
        obtain ⟨r83, hr84, hq85, hi86, hb87⟩ := hW79.geti hx82
        obtain rfl : _ = ([.string (x81.Name), .string (x81.Value)] : List Value) := hq85
        refine qy he (y_indexAddr hR78 rfl rfl hi86 hb87 Tryd.underlying40 ti91) ?_; clear he; (try clear a); intro a he
        refine qy (v := eaddr v76 2 y52.toNat 0) he (y_fieldAddrE (i := y52.toNat) (j := 0) hR78 rfl hb87 (FO.of (off := 0) Tryd.underlying91 rfl rfl ti9 (by decide))) ?_; clear he; (try clear a); intro a he
        refine qy (v := .string (x81.Name)) he (y_loadE (i := y52.toNat) (j := 0) hR78.up rfl hr84 rfl Tryd.underlying9 rfl) ?_; clear he; (try clear a); intro a he
        obtain ⟨x88, hx89, hm⟩ := ob hm
        obtain ⟨hbx88, hex88⟩ := addS_some hx89
        refine qy he (y_saddW rfl rfl hbx88 hex88) ?_; clear he; (try clear a); intro a he
        obtain ⟨x90, hx91, hm⟩ := ob hm
        obtain ⟨hbx90, hex90⟩ := addS_some hx91
        refine qy he (y_saddW rfl rfl hbx90 hex90) ?_; clear he; (try clear a); intro a he
        refine qy (v := .pointer (some ⟨b6, 0, none⟩)) he (y_fieldAddr rfl (FO.of (off := 0) Tryd.underlying24 rfl rfl ti22 (by decide))) ?_; clear he; (try clear a); intro a he
        refine qy (v := v1) he (y_ld rfl Tryd.underlying22 rfl (Cell.blk (.head _) rfl)) ?_; clear he; (try clear a); intro a he
        refine qy (v := .int .i64 (y11)) he (y_move rfl) ?_; clear he; (try clear a); intro a he
        obtain ⟨x92, hx93, hm⟩ := ob hm
        obtain ⟨r94, hr95, hq96, hi97, hb98⟩ := hW4.geti hx93
        obtain ⟨v99, rfl, ⟨rw100, hR101, hW102⟩⟩ := hq96
        refine qy he (y_indexAddr hR3 rfl rfl hi97 hb98 Tryd.underlying22 ti42) ?_; clear he; (try clear a); intro a he
        refine qy (v := eaddr v1 9 y11.toNat 3) he (y_fieldAddrE (i := y11.toNat) (j := 0) hR3 rfl hb98 (FO.of (off := 3) Tryd.underlying42 rfl rfl ti40 (by decide))) ?_; clear he; (try clear a); intro a he
        refine qy (v := v99) he (y_loadE (i := y11.toNat) (j := 3) hR3.up rfl hr95 rfl Tryd.underlying40 rfl) ?_; clear he; (try clear a); intro a he
        refine qy (v := .int .i64 (y52)) he (y_move rfl) ?_; clear he; (try clear a); intro a he
        obtain ⟨x104, hx105, hm⟩ := ob hm
        obtain ⟨r106, hr107, hq108, hi109, hb110⟩ := hW102.geti hx105
        obtain rfl : _ = ([.string (x104.Name), .string (x104.Value)] : List Value) := hq108
        refine qy he (y_indexAddr hR101 rfl rfl hi109 hb110 Tryd.underlying40 ti91) ?_; clear he; (try clear a); intro a he
        refine qy (v := eaddr v99 2 y52.toNat 1) he (y_fieldAddrE (i := y52.toNat) (j := 0) hR101 rfl hb110 (FO.of (off := 1) Tryd.underlying91 rfl rfl ti9 (by decide))) ?_; clear he; (try clear a); intro a he
        refine qy (v := .string (x104.Value)) he (y_loadE (i := y52.toNat) (j := 1) hR101.up rfl hr107 rfl Tryd.underlying9 rfl) ?_; clear he; (try clear a); intro a he
        obtain ⟨x111, hx112, hm⟩ := ob hm
        obtain ⟨hbx111, hex111⟩ := addS_some hx112
        refine qy he (y_saddW rfl rfl hbx111 hex111) ?_; clear he; (try clear a); intro a he
        refine qy (v := .string (x111)) he (y_assign rfl) ?_; clear he; (try clear a); intro a he
        refine QL_nil he ?_; clear he; (try clear hs); (try clear a); intro a w hs
        refine hK23 _ _ ?_; clear hK23
        refine W_region ?_
        refine sy (v := .int .i64 (y52)) hs (y_move rfl) ?_; clear hs; (try clear a w); intro a w hs
        refine sy hs (y_add rfl rfl rfl) ?_; clear hs; (try clear a w); intro a w hs
        refine sy (v := .int .i64 ((w64 (y52 + 1)))) hs (y_assign rfl) ?_; clear hs; (try clear a w); intro a w hs
        refine RL_nil ?_
        exact hK20 k53 _ _ (Nat.lt_succ_self _) ⟨x111, (w64 (y52 + 1)), hm, hs.sub ⟨rfl, rfl, rfl, rfl, trivial⟩⟩
       ·replace hm := oc_f hg66 hm
        refine W_exit ?_
        refine hB19 _ _ ?_
        exact ⟨y51, hm, hs.sub ⟨rfl, rfl, rfl, trivial⟩⟩
    ·replace hm := oc_f hg13 hm
     refine W_exit ?_
     refine hB8 _ _ ?_
     exact ⟨hm, hs.subs trivial (.cons _ (.refl _))⟩
/-! casement/casementlaw10.selectors -/
/-! casement/casementlaw10.name -/
def law10_name (_n : Nat) (p0 : Int) (p1 : ByteArray) (p2 : (List sheet_Test)) : Option sheet_Step :=
  some ({Comb := p0, Name := p1, Tests := p2} : sheet_Step)
set_option maxRecDepth 20000 in
set_option maxHeartbeats 4000000 in
theorem law10_name_ok (n : Nat) {f : Fz} {p0 : Int} {p1 : ByteArray} {p2 : (List sheet_Test)} {a2 : Value} {res : sheet_Step} (h2 : RS t_sheet_Test f a2 p2) (hm : law10_name n p0 p1 p2 = some res) : Does Tryd.prog 15 [.int .i64 p0, .string p1, a2] f [] (fun r f' L' => ∃ (u0 : List Value), L' = [] ∧ r = .agg u0.toArray ∧ t_sheet_Step.R f' u0 res) := by
 unfold law10_name at hm
 intro w0 L w hC
 obtain ⟨rw1, hR2, hW3⟩ := h2
 refine enter Tryd.func15 rfl Tryd.ntmps15 (by simp) hC fun a hs => ?_
 have hle := Fz.le.refl f
 refine W_seq fun K1 hK1 => ?_
 refine W_region ?_
 refine RL_alloc hs ti35 (.free rfl) (by decide) ?_; clear hs; (try clear a w); intro b5 a w hs
 replace hs : St _ _ _ (.blk b5 (.cells #[.int .i64 (0), .string ((bs [])), (.slice none 0 0)] 35 (0, 0)) :: L) _ _ _ := hs
 refine RL_nil ?_
 refine hK1 _ _ ?_; clear hK1
 refine W_seq fun K2 hK2 => ?_
 refine W_region ?_
 refine sy (v := .int .i64 (p0)) hs (y_move rfl) ?_; clear hs; (try clear a w); intro a w hs
 refine sy (v := .string (p1)) hs (y_move rfl) ?_; clear hs; (try clear a w); intro a w hs
 refine sy (v := a2) hs (y_move rfl) ?_; clear hs; (try clear a w); intro a w hs
 refine sy hs (y_buildS (places := [(0, 1), (1, 1), (2, 1)]) (cs := [.int .i64 (p0), .string (p1), a2]) rfl Tryd.underlying35 ti35 (by kernel_rfl) (by decide) rfl ⟨rfl, rfl, hR2.one, trivial⟩) ?_; clear hs; (try clear a w); intro a w hs
 refine RL_storeAll (i := 0) hs rfl rfl rfl ti35 ⟨rfl, rfl⟩ (AllC.arr (r := [.int .i64 (p0), .string (p1), a2]) ⟨rfl, rfl, hR2.one, trivial⟩) (.free rfl) ?_; clear hs; (try clear a w); intro a w hs
 replace hs : St _ _ _ (.blk b5 (.cells #[.int .i64 (p0), .string (p1), a2] 35 (0, 0)) :: L) _ _ _ := hs
 refine RL_nil ?_
 refine hK2 _ _ ?_; clear hK2
 refine W_ret ?_
 obtain rfl := Option.some.inj hm
 refine RtV1 hs rfl (rv_a hs rfl Tryd.underlying35 rfl ti35 (fun j u hj => Cell.blk (.head _) hj) rfl) ?_
 exact ⟨_, f, [], rfl, hle, (hs.subL (.cons _ (.refl _))).cw, [.int .i64 (p0), .string (p1), a2], rfl, rfl, ⟨_, rfl, ⟨rw1, hR2, hW3⟩⟩⟩
/-! casement/casementlaw10.sel -/
def law10_sel (_n : Nat) (p0 : (List sheet_Step)) : Option sheet_Selector :=
  some ({Steps := p0} : sheet_Selector)
set_option maxRecDepth 20000 in
set_option maxHeartbeats 4000000 in
theorem law10_sel_ok (n : Nat) {f : Fz} {p0 : (List sheet_Step)} {a0 : Value} {res : sheet_Selector} (h0 : RS t_sheet_Step f a0 p0) (hm : law10_sel n p0 = some res) : Does Tryd.prog 14 [a0] f [] (fun r f' L' => ∃ (u0 : List Value), L' = [] ∧ r = .agg u0.toArray ∧ t_sheet_Selector.R f' u0 res) := by
 unfold law10_sel at hm
 intro w0 L w hC
 obtain ⟨rw1, hR2, hW3⟩ := h0
 refine enter Tryd.func14 rfl Tryd.ntmps14 (by simp) hC fun a hs => ?_
 have hle := Fz.le.refl f
 refine W_seq fun K1 hK1 => ?_
 refine W_region ?_
 refine RL_alloc hs ti27 (.free rfl) (by decide) ?_; clear hs; (try clear a w); intro b5 a w hs
 replace hs : St _ _ _ (.blk b5 (.cells #[(.slice none 0 0)] 27 (0, 0)) :: L) _ _ _ := hs
 refine RL_nil ?_
 refine hK1 _ _ ?_; clear hK1
 refine W_seq fun K2 hK2 => ?_
 refine W_region ?_
 refine sy (v := a0) hs (y_move rfl) ?_; clear hs; (try clear a w); intro a w hs
 refine sy hs (y_buildS (places := [(0, 1)]) (cs := [a0]) rfl Tryd.underlying27 ti27 (by kernel_rfl) (by decide) rfl ⟨hR2.one, trivial⟩) ?_; clear hs; (try clear a w); intro a w hs
 refine RL_storeAll (i := 0) hs rfl rfl rfl ti27 ⟨rfl, rfl⟩ (AllC.arr (r := [a0]) ⟨hR2.one, trivial⟩) (.free rfl) ?_; clear hs; (try clear a w); intro a w hs
 replace hs : St _ _ _ (.blk b5 (.cells #[a0] 27 (0, 0)) :: L) _ _ _ := hs
 refine RL_nil ?_
 refine hK2 _ _ ?_; clear hK2
 refine W_ret ?_
 obtain rfl := Option.some.inj hm
 refine RtV1 hs rfl (rv_a hs rfl Tryd.underlying27 rfl ti27 (fun j u hj => Cell.blk (.head _) hj) rfl) ?_
 exact ⟨_, f, [], rfl, hle, (hs.subL (.cons _ (.refl _))).cw, [a0], rfl, rfl, ⟨_, rfl, ⟨rw1, hR2, hW3⟩⟩⟩
end Go.Proofs.YtmkcglpeidbblaaDoor
