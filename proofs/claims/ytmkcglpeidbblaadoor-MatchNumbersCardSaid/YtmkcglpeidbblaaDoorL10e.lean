/-
  Walks and laws of this seat; the base is the text Base.
-/
import Derived.Test.YtmkcglpeidbblaaDoorY10
import Derived.Test.YtmkcglpeidbblaaDoorRows
/-
  Models of functions, and that the functions compute them. Printed by lift.py.
-/
namespace Go.Proofs.YtmkcglpeidbblaaDoor
open Go.RowKit Go.Sl
/-! casement/casementref5.attrs -/
def ref5_attrs_k1 (p0 : (List api_Attr)) : Option Bool :=
  some (decide ((p0.length : Int) ≤ 64))
def ref5_attrs_k3 (y5 : Int) (lp6 : Int → Option Bool) : Option Bool :=
  lp6 (w64 (y5 + 1))
def ref5_attrs_l4 (p0 : (List api_Attr)) (y5 : Int) (lp6 : Int → Option Bool) : Nat → Int → Option Bool
  | 0, _ => none
  | k17 + 1, y16 =>
  (bif (decide (y16 < y5)) then (geti p0 y16).bind fun x19 =>
  (geti p0 y5).bind fun x26 =>
  (bif (decide (x19.Name = x26.Name)) then some false else
  (ref5_attrs_l4 p0 y5 lp6 k17) (w64 (y16 + 1))) else
  ref5_attrs_k3 y5 lp6)
def ref5_attrs_l2 (n : Nat) (p0 : (List api_Attr)) : Nat → Int → Option Bool
  | 0, _ => none
  | k6 + 1, y5 =>
  (bif (decide (y5 < (p0.length : Int))) then (geti p0 y5).bind fun x8 =>
  (bif (decide (x8.Name = (bs []))) then some false else
  ref5_attrs_l4 p0 y5 (ref5_attrs_l2 n p0 k6) n 0) else
  ref5_attrs_k1 p0)
def ref5_attrs (n : Nat) (p0 : (List api_Attr)) : Option Bool :=
  ref5_attrs_l2 n p0 n 0
set_option maxRecDepth 20000 in
set_option maxHeartbeats 4000000 in
theorem ref5_attrs_ok (n : Nat) {f : Fz} {p0 : (List api_Attr)} {a0 : Value} {res : Bool} (h0 : RS t_api_Attr f a0 p0) (hm : ref5_attrs n p0 = some res) : Gives Tryd.prog 52 [a0] f (.bool res) := by
 unfold ref5_attrs at hm
 intro w0 L w hC
 obtain ⟨rw1, hR2, hW3⟩ := h0
 refine enter Tryd.func52 rfl Tryd.ntmps52 (by simp) hC fun a hs => ?_
 have hle := Fz.le.refl f
 refine W_seq fun K1 hK1 => ?_
 refine W_region ?_
 refine sy (v := .bool (false)) hs (y_assign rfl) ?_; clear hs; intro a w hs
 refine RL_nil ?_
 refine hK1 _ _ ?_; clear hK1
 refine W_seq fun K2 hK2 => ?_
 refine W_seq fun K3 hK3 => ?_
 refine W_region ?_
 refine sy (v := .int .i64 (0)) hs (y_assign rfl) ?_; clear hs; intro a w hs
 refine RL_nil ?_
 refine hK3 _ _ ?_; clear hK3
 refine W_post (fun a w => ref5_attrs_k1 p0 = some res ∧ St 36 w0 f (L) [(0, a0)] a w) ?_ ?_
 ·clear hs hm
  rintro a w ⟨hm, hs⟩
  replace hs : St _ _ _ (L) _ _ _ := hs
  unfold ref5_attrs_k1 at hm
  refine hK2 _ _ ?_; clear hK2
  refine W_seq fun K4 hK4 => ?_
  refine W_region ?_
  refine sy (v := a0) hs (y_move rfl) ?_; clear hs; intro a w hs
  refine sy hs (y_lenW hR2 hW3 rfl Tryd.underlying40) ?_; clear hs; intro a w hs
  refine sy hs (y_leq rfl rfl) ?_; clear hs; intro a w hs
  refine sy (v := .bool (decide ((p0.length : Int) ≤ 64))) hs (y_assign rfl) ?_; clear hs; intro a w hs
  refine RL_nil ?_
  refine hK4 _ _ ?_; clear hK4
  refine W_ret ?_
  obtain rfl := Option.some.inj hm
  refine RtV1 hs rfl (rv_t hs rfl) ?_
  exact ⟨rfl, (hs.weak hle).cw⟩
 ·refine W_block fun Qe5 hB5 hO5 => ?_
  refine W_loop (fun (k : Nat) a w => ∃ (y5 : Int), ref5_attrs_l2 n p0 k y5 = some res ∧ St 36 w0 f (L) [(0, a0), (3, .int .i64 (y5))] a w) (fun k => k) n ⟨0, hm, hs.sub ⟨rfl, rfl, trivial⟩⟩ ?_
  clear hs hm
  intro k
  rintro a w ⟨y5, hm, hs⟩
  replace hs : St _ _ _ (L) _ _ _ := hs
  intro K6 hK6
  cases k with
  | zero => simp [ref5_attrs_l2] at hm
  | succ k6 =>
   rw [ref5_attrs_l2] at hm
   refine W_seq fun K7 hK7 => ?_
   refine W_seq fun K8 hK8 => ?_
   refine W_region ?_
   refine sy (v := .int .i64 (y5)) hs (y_move rfl) ?_; clear hs; intro a w hs
   refine sy (v := a0) hs (y_move rfl) ?_; clear hs; intro a w hs
   refine sy hs (y_lenW hR2 hW3 rfl Tryd.underlying40) ?_; clear hs; intro a w hs
   refine sy hs (y_lss rfl rfl) ?_; clear hs; intro a w hs
   refine RL_nil ?_
   refine hK8 _ _ ?_; clear hK8
   refine W_cond hs rfl (fun hg7 => ?_) (fun hg7 => ?_)
   ·replace hm := oc_t hg7 hm
    refine W_skip ?_
    refine hK7 _ _ ?_; clear hK7
    refine W_seq fun K9 hK9 => ?_
    refine W_block fun Qe10 hB10 hO10 => ?_
    refine W_seq fun K11 hK11 => ?_
    refine W_seq fun K12 hK12 => ?_
    refine W_region ?_
    refine sy (v := a0) hs (y_move rfl) ?_; clear hs; intro a w hs
    refine sy (v := .int .i64 (y5)) hs (y_move rfl) ?_; clear hs; intro a w hs
    obtain ⟨x8, hx9, hm⟩ := ob hm
    obtain ⟨r10, hr11, hq12, hi13, hb14⟩ := hW3.geti hx9
    obtain rfl : _ = ([.string (x8.Name), .string (x8.Value)] : List Value) := hq12
    refine sy hs (y_indexAddr hR2 rfl rfl hi13 hb14 Tryd.underlying40 ti91) ?_; clear hs; intro a w hs
    refine sy (v := eaddr a0 2 y5.toNat 0) hs (y_fieldAddrE (i := y5.toNat) (j := 0) hR2 rfl hb14 (FO.of (off := 0) Tryd.underlying91 rfl rfl ti9 (by decide))) ?_; clear hs; intro a w hs
    refine sy (v := .string (x8.Name)) hs (y_loadE (i := y5.toNat) (j := 0) hR2.up rfl hr11 rfl Tryd.underlying9 rfl) ?_; clear hs; intro a w hs
    refine sy hs (y_seql rfl rfl) ?_; clear hs; intro a w hs
    refine RL_nil ?_
    refine hK12 _ _ ?_; clear hK12
    refine W_cond hs rfl (fun hg15 => ?_) (fun hg15 => ?_)
    ·replace hm := oc_t hg15 hm
     refine W_seq fun K13 hK13 => ?_
     refine W_region ?_
     refine sy (v := .bool (false)) hs (y_assign rfl) ?_; clear hs; intro a w hs
     refine RL_nil ?_
     refine hK13 _ _ ?_; clear hK13
     refine W_ret ?_
     obtain rfl := Option.some.inj hm
     refine RtV1 hs rfl (rv_t hs rfl) ?_
     exact ⟨rfl, (hs.weak hle).cw⟩
    ·replace hm := oc_f hg15 hm
     refine W_skip ?_
     refine hK11 _ _ ?_; clear hK11
     refine W_seq fun K14 hK14 => ?_
     refine W_region ?_
     refine sy (v := .int .i64 (0)) hs (y_assign rfl) ?_; clear hs; intro a w hs
     refine RL_nil ?_
     refine hK14 _ _ ?_; clear hK14
     refine W_post (fun a w => ref5_attrs_k3 y5 (ref5_attrs_l2 n p0 k6) = some res ∧ St 36 w0 f (L) [(0, a0), (3, .int .i64 (y5))] a w) ?_ ?_
     ·clear hs hm
      rintro a w ⟨hm, hs⟩
      replace hs : St _ _ _ (L) _ _ _ := hs
      unfold ref5_attrs_k3 at hm
      refine hK9 _ _ ?_; clear hK9
      refine W_region ?_
      refine sy (v := .int .i64 (y5)) hs (y_move rfl) ?_; clear hs; intro a w hs
      refine sy hs (y_add rfl rfl rfl) ?_; clear hs; intro a w hs
      refine sy (v := .int .i64 ((w64 (y5 + 1)))) hs (y_assign rfl) ?_; clear hs; intro a w hs
      refine RL_nil ?_
      exact hK6 k6 _ _ (Nat.lt_succ_self _) ⟨(w64 (y5 + 1)), hm, hs.sub ⟨rfl, rfl, trivial⟩⟩
     ·refine W_block fun Qe15 hB15 hO15 => ?_
      refine W_loop (fun (k : Nat) a w => ∃ (y16 : Int), ref5_attrs_l4 p0 y5 (ref5_attrs_l2 n p0 k6) k y16 = some res ∧ St 36 w0 f (L) [(0, a0), (3, .int .i64 (y5)), (4, .int .i64 (y16))] a w) (fun k => k) n ⟨0, hm, hs.sub ⟨rfl, rfl, rfl, trivial⟩⟩ ?_
      clear hs hm
      intro k
      rintro a w ⟨y16, hm, hs⟩
      replace hs : St _ _ _ (L) _ _ _ := hs
      intro K16 hK16
      cases k with
      | zero => simp [ref5_attrs_l4] at hm
      | succ k17 =>
       rw [ref5_attrs_l4] at hm
       refine W_seq fun K17 hK17 => ?_
       refine W_seq fun K18 hK18 => ?_
       refine W_region ?_
       refine sy (v := .int .i64 (y16)) hs (y_move rfl) ?_; clear hs; intro a w hs
       refine sy (v := .int .i64 (y5)) hs (y_move rfl) ?_; clear hs; intro a w hs
       refine sy hs (y_lss rfl rfl) ?_; clear hs; intro a w hs
       refine RL_nil ?_
       refine hK18 _ _ ?_; clear hK18
       refine W_cond hs rfl (fun hg18 => ?_) (fun hg18 => ?_)
       ·replace hm := oc_t hg18 hm
        refine W_skip ?_
        refine hK17 _ _ ?_; clear hK17
        refine W_seq fun K19 hK19 => ?_
        refine W_block fun Qe20 hB20 hO20 => ?_
        refine W_seq fun K21 hK21 => ?_
        refine W_draw hs mixed (by kernel_rfl) ?_; intro a he
        refine qy (v := a0) he (y_move rfl) ?_; clear he; intro a he
        refine qy (v := .int .i64 (y16)) he (y_move rfl) ?_; clear he; intro a he
        obtain ⟨x19, hx20, hm⟩ := ob hm
        obtain ⟨r21, hr22, hq23, hi24, hb25⟩ := hW3.geti hx20
        obtain rfl : _ = ([.string (x19.Name), .string (x19.Value)] : List Value) := hq23
        refine qy he (y_indexAddr hR2 rfl rfl hi24 hb25 Tryd.underlying40 ti91) ?_; clear he; intro a he
        refine qy (v := eaddr a0 2 y16.toNat 0) he (y_fieldAddrE (i := y16.toNat) (j := 0) hR2 rfl hb25 (FO.of (off := 0) Tryd.underlying91 rfl rfl ti9 (by decide))) ?_; clear he; intro a he
        refine qy (v := .string (x19.Name)) he (y_loadE (i := y16.toNat) (j := 0) hR2.up rfl hr22 rfl Tryd.underlying9 rfl) ?_; clear he; intro a he
        refine qy (v := a0) he (y_move rfl) ?_; clear he; intro a he
        refine qy (v := .int .i64 (y5)) he (y_move rfl) ?_; clear he; intro a he
        obtain ⟨x26, hx27, hm⟩ := ob hm
        obtain ⟨r28, hr29, hq30, hi31, hb32⟩ := hW3.geti hx27
        obtain rfl : _ = ([.string (x26.Name), .string (x26.Value)] : List Value) := hq30
        refine qy he (y_indexAddr hR2 rfl rfl hi31 hb32 Tryd.underlying40 ti91) ?_; clear he; intro a he
        refine qy (v := eaddr a0 2 y5.toNat 0) he (y_fieldAddrE (i := y5.toNat) (j := 0) hR2 rfl hb32 (FO.of (off := 0) Tryd.underlying91 rfl rfl ti9 (by decide))) ?_; clear he; intro a he
        refine qy (v := .string (x26.Name)) he (y_loadE (i := y5.toNat) (j := 0) hR2.up rfl hr29 rfl Tryd.underlying9 rfl) ?_; clear he; intro a he
        refine qy he (y_seql rfl rfl) ?_; clear he; intro a he
        refine QL_nil he ?_; clear he; (try clear hs); intro a w hs
        refine hK21 _ _ ?_; clear hK21
        refine W_cond hs rfl (fun hg33 => ?_) (fun hg33 => ?_)
        ·replace hm := oc_t hg33 hm
         refine W_seq fun K22 hK22 => ?_
         refine W_region ?_
         refine sy (v := .bool (false)) hs (y_assign rfl) ?_; clear hs; intro a w hs
         refine RL_nil ?_
         refine hK22 _ _ ?_; clear hK22
         refine W_ret ?_
         obtain rfl := Option.some.inj hm
         refine RtV1 hs rfl (rv_t hs rfl) ?_
         exact ⟨rfl, (hs.weak hle).cw⟩
        ·replace hm := oc_f hg33 hm
         refine W_skip ?_
         refine hK19 _ _ ?_; clear hK19
         refine W_region ?_
         refine sy (v := .int .i64 (y16)) hs (y_move rfl) ?_; clear hs; intro a w hs
         refine sy hs (y_add rfl rfl rfl) ?_; clear hs; intro a w hs
         refine sy (v := .int .i64 ((w64 (y16 + 1)))) hs (y_assign rfl) ?_; clear hs; intro a w hs
         refine RL_nil ?_
         exact hK16 k17 _ _ (Nat.lt_succ_self _) ⟨(w64 (y16 + 1)), hm, hs.sub ⟨rfl, rfl, rfl, trivial⟩⟩
       ·replace hm := oc_f hg18 hm
        refine W_exit ?_
        refine hB15 _ _ ?_
        exact ⟨hm, hs.sub ⟨rfl, rfl, trivial⟩⟩
   ·replace hm := oc_f hg7 hm
    refine W_exit ?_
    refine hB5 _ _ ?_
    exact ⟨hm, hs.sub ⟨rfl, trivial⟩⟩
/-! casement/casementref5.plain -/
def ref5_plain_k1 (y9 : Bool) : Option Bool :=
  some y9
def ref5_plain (n : Nat) (p0 : api_Node) : Option Bool :=
  (bif (decide (p0.Kind = 1)) then (bif (decide (p0.Name ≠ (bs []))) then (bif (decide (p0.Text = (bs []))) then (ref5_attrs n p0.Attrs).bind fun x12 =>
  ref5_plain_k1 x12 else
  ref5_plain_k1 false) else
  ref5_plain_k1 false) else
  some ((decide (p0.Kind = 2)) && ((decide (p0.Name = (bs []))) && ((decide (p0.Text ≠ (bs []))) && ((decide ((p0.Attrs.length : Int) = 0)) && ((decide (p0.First = (-1))) && (decide (p0.Last = (-1)))))))))
set_option maxRecDepth 20000 in
set_option maxHeartbeats 4000000 in
theorem ref5_plain_ok (n : Nat) {f : Fz} {p0 : api_Node} {a0 : List Value} {res : Bool} (h0 : t_api_Node.R f a0 p0) (hm : ref5_plain n p0 = some res) : Gives Tryd.prog 43 [.agg a0.toArray] f (.bool res) := by
 unfold ref5_plain at hm
 intro w0 L w hC
 obtain ⟨v1, rfl, ⟨rw2, hR3, hW4⟩⟩ := h0
 refine enter Tryd.func43 rfl Tryd.ntmps43 (by simp) hC fun a hs => ?_
 have hle := Fz.le.refl f
 refine W_seq fun K1 hK1 => ?_
 refine W_region ?_
 refine sbox hs rfl ?_; clear hs; intro b6 a w hs
 replace hs : St _ _ _ (.blk b6 (.cells #[.int .i64 (p0.Kind), .string (p0.Name), .string (p0.Text), v1, .int .i64 (p0.Parent), .int .i64 (p0.First), .int .i64 (p0.Last), .int .i64 (p0.Prev), .int .i64 (p0.Next)] 42 (0, 0)) :: L) _ _ _ := hs
 refine sy (v := .bool (false)) hs (y_assign rfl) ?_; clear hs; intro a w hs
 refine RL_nil ?_
 refine hK1 _ _ ?_; clear hK1
 refine W_seq fun K2 hK2 => ?_
 refine W_seq fun K3 hK3 => ?_
 refine W_region ?_
 refine sy (v := .pointer (some ⟨b6, 0, none⟩)) hs (y_fieldAddr rfl (FO.of (off := 0) Tryd.underlying42 rfl rfl ti3 (by decide))) ?_; clear hs; intro a w hs
 refine sy (v := .int .i64 (p0.Kind)) hs (y_ld rfl Tryd.underlying3 rfl (Cell.blk (.head _) rfl)) ?_; clear hs; intro a w hs
 refine sy hs (y_eql rfl rfl) ?_; clear hs; intro a w hs
 refine RL_nil ?_
 refine hK3 _ _ ?_; clear hK3
 refine W_cond hs rfl (fun hg8 => ?_) (fun hg8 => ?_)
 ·replace hm := oc_t hg8 hm
  refine W_seq fun K4 hK4 => ?_
  refine W_post (fun a w => ∃ (y9 : Bool), ref5_plain_k1 y9 = some res ∧ St 48 w0 f (L) [(2, .bool (y9))] a w) ?_ ?_
  ·clear hs hm
   rintro a w ⟨y9, hm, hs⟩
   replace hs : St _ _ _ (L) _ _ _ := hs
   unfold ref5_plain_k1 at hm
   refine hK4 _ _ ?_; clear hK4
   refine W_ret ?_
   obtain rfl := Option.some.inj hm
   refine RtV1 hs rfl (rv_t hs rfl) ?_
   exact ⟨rfl, (hs.weak hle).cw⟩
  ·refine W_region ?_
   refine sy (v := .pointer (some ⟨b6, 1, none⟩)) hs (y_fieldAddr rfl (FO.of (off := 1) Tryd.underlying42 rfl rfl ti9 (by decide))) ?_; clear hs; intro a w hs
   refine sy (v := .string (p0.Name)) hs (y_ld rfl Tryd.underlying9 rfl (Cell.blk (.head _) rfl)) ?_; clear hs; intro a w hs
   refine sy hs (y_sneq rfl rfl) ?_; clear hs; intro a w hs
   refine sy (v := .bool (decide (p0.Name ≠ (bs [])))) hs (y_move rfl) ?_; clear hs; intro a w hs
   refine St.split hs (t := 9) rfl (fun hg10 hq => ?_) (fun hg10 hq => ?_)
   ·clear hs; have hs := hq; clear hq
    replace hm := oc_t hg10 hm
    refine syg (v := .pointer (some ⟨b6, 2, none⟩)) hs (y_fieldAddr rfl (FO.of (off := 2) Tryd.underlying42 rfl rfl ti9 (by decide))) ?_; clear hs; intro a w hs
    refine syg (v := .string (p0.Text)) hs (y_ld rfl Tryd.underlying9 rfl (Cell.blk (.head _) rfl)) ?_; clear hs; intro a w hs
    refine syg hs (y_seql rfl rfl) ?_; clear hs; intro a w hs
    refine sy (v := .bool (decide (p0.Text = (bs [])))) hs (y_pick rfl rfl) ?_; clear hs; intro a w hs
    refine sy (v := .bool (decide (p0.Text = (bs [])))) hs (y_move rfl) ?_; clear hs; intro a w hs
    refine St.split hs (t := 14) rfl (fun hg11 hq => ?_) (fun hg11 hq => ?_)
    ·clear hs; have hs := hq; clear hq
     replace hm := oc_t hg11 hm
     refine syg (v := .pointer (some ⟨b6, 3, none⟩)) hs (y_fieldAddr rfl (FO.of (off := 3) Tryd.underlying42 rfl rfl ti40 (by decide))) ?_; clear hs; intro a w hs
     refine syg (v := v1) hs (y_ld rfl Tryd.underlying40 rfl (Cell.blk (.head _) rfl)) ?_; clear hs; intro a w hs
     obtain ⟨x12, hx13, hm⟩ := ob hm
     refine syg hs (y_call rfl has52 rfl (ref5_attrs_ok n (f := f) (a0 := v1) ⟨rw2, hR3, hW4⟩ hx13)) ?_; clear hs; intro a w hs
     refine sy (v := .bool (x12)) hs (y_pick rfl rfl) ?_; clear hs; intro a w hs
     refine sy (v := .bool (x12)) hs (y_assign rfl) ?_; clear hs; intro a w hs
     refine RL_nil ?_
     exact ⟨x12, hm, hs.subs ⟨rfl, trivial⟩ (.cons _ (.refl _))⟩
    ·clear hs; have hs := hq; clear hq
     replace hm := oc_f hg11 hm
     refine sno hs ?_; clear hs; intro a w hs
     refine sno hs ?_; clear hs; intro a w hs
     refine sno hs ?_; clear hs; intro a w hs
     refine sy (v := .bool (false)) hs (y_pick rfl rfl) ?_; clear hs; intro a w hs
     refine sy (v := .bool (false)) hs (y_assign rfl) ?_; clear hs; intro a w hs
     refine RL_nil ?_
     exact ⟨false, hm, hs.subs ⟨rfl, trivial⟩ (.cons _ (.refl _))⟩
   ·clear hs; have hs := hq; clear hq
    replace hm := oc_f hg10 hm
    refine sno hs ?_; clear hs; intro a w hs
    refine sno hs ?_; clear hs; intro a w hs
    refine sno hs ?_; clear hs; intro a w hs
    refine sy (v := .bool (false)) hs (y_pick rfl rfl) ?_; clear hs; intro a w hs
    refine sy (v := .bool (false)) hs (y_move rfl) ?_; clear hs; intro a w hs
    refine sno hs ?_; clear hs; intro a w hs
    refine sno hs ?_; clear hs; intro a w hs
    refine sno hs ?_; clear hs; intro a w hs
    refine sy (v := .bool (false)) hs (y_pick rfl rfl) ?_; clear hs; intro a w hs
    refine sy (v := .bool (false)) hs (y_assign rfl) ?_; clear hs; intro a w hs
    refine RL_nil ?_
    exact ⟨false, hm, hs.subs ⟨rfl, trivial⟩ (.cons _ (.refl _))⟩
 ·replace hm := oc_f hg8 hm
  refine W_skip ?_
  refine hK2 _ _ ?_; clear hK2
  refine W_seq fun K5 hK5 => ?_
  refine W_post (fun a w => St 48 w0 f (.blk b6 (.cells #[.int .i64 (p0.Kind), .string (p0.Name), .string (p0.Text), v1, .int .i64 (p0.Parent), .int .i64 (p0.First), .int .i64 (p0.Last), .int .i64 (p0.Prev), .int .i64 (p0.Next)] 42 (0, 0)) :: L) [(2, .bool (((decide (p0.Kind = 2)) && ((decide (p0.Name = (bs []))) && ((decide (p0.Text ≠ (bs []))) && ((decide ((p0.Attrs.length : Int) = 0)) && ((decide (p0.First = (-1))) && (decide (p0.Last = (-1))))))))))] a w) ?_ ?_
  ·clear hs; intro a w hs
   refine hK5 _ _ ?_; clear hK5
   refine W_ret ?_
   obtain rfl := Option.some.inj hm
   refine RtV1 hs rfl (rv_t hs rfl) ?_
   exact ⟨rfl, ((hs.subL (.cons _ (.refl _))).weak hle).cw⟩
  ·refine W_region ?_
   refine sy (v := .pointer (some ⟨b6, 0, none⟩)) hs (y_fieldAddr rfl (FO.of (off := 0) Tryd.underlying42 rfl rfl ti3 (by decide))) ?_; clear hs; intro a w hs
   refine sy (v := .int .i64 (p0.Kind)) hs (y_ld rfl Tryd.underlying3 rfl (Cell.blk (.head _) rfl)) ?_; clear hs; intro a w hs
   refine sy hs (y_eql rfl rfl) ?_; clear hs; intro a w hs
   refine sy (v := .bool (decide (p0.Kind = 2))) hs (y_move rfl) ?_; clear hs; intro a w hs
   refine St.split hs (t := 22) rfl (fun hg14 hq => ?_) (fun hg14 hq => ?_)
   ·clear hs; have hs := hq; clear hq
    refine syg (v := .pointer (some ⟨b6, 1, none⟩)) hs (y_fieldAddr rfl (FO.of (off := 1) Tryd.underlying42 rfl rfl ti9 (by decide))) ?_; clear hs; intro a w hs
    refine syg (v := .string (p0.Name)) hs (y_ld rfl Tryd.underlying9 rfl (Cell.blk (.head _) rfl)) ?_; clear hs; intro a w hs
    refine syg hs (y_seql rfl rfl) ?_; clear hs; intro a w hs
    refine sy (v := .bool (decide (p0.Name = (bs [])))) hs (y_pick rfl rfl) ?_; clear hs; intro a w hs
    refine sy (v := .bool (decide (p0.Name = (bs [])))) hs (y_move rfl) ?_; clear hs; intro a w hs
    refine St.split hs (t := 27) rfl (fun hg15 hq => ?_) (fun hg15 hq => ?_)
    ·clear hs; have hs := hq; clear hq
     refine syg (v := .pointer (some ⟨b6, 2, none⟩)) hs (y_fieldAddr rfl (FO.of (off := 2) Tryd.underlying42 rfl rfl ti9 (by decide))) ?_; clear hs; intro a w hs
     refine syg (v := .string (p0.Text)) hs (y_ld rfl Tryd.underlying9 rfl (Cell.blk (.head _) rfl)) ?_; clear hs; intro a w hs
     refine syg hs (y_sneq rfl rfl) ?_; clear hs; intro a w hs
     refine sy (v := .bool (decide (p0.Text ≠ (bs [])))) hs (y_pick rfl rfl) ?_; clear hs; intro a w hs
     refine sy (v := .bool (decide (p0.Text ≠ (bs [])))) hs (y_move rfl) ?_; clear hs; intro a w hs
     refine St.split hs (t := 32) rfl (fun hg16 hq => ?_) (fun hg16 hq => ?_)
     ·clear hs; have hs := hq; clear hq
      refine syg (v := .pointer (some ⟨b6, 3, none⟩)) hs (y_fieldAddr rfl (FO.of (off := 3) Tryd.underlying42 rfl rfl ti40 (by decide))) ?_; clear hs; intro a w hs
      refine syg (v := v1) hs (y_ld rfl Tryd.underlying40 rfl (Cell.blk (.head _) rfl)) ?_; clear hs; intro a w hs
      refine syg hs (y_lenW hR3 hW4 rfl Tryd.underlying40) ?_; clear hs; intro a w hs
      refine syg hs (y_eql rfl rfl) ?_; clear hs; intro a w hs
      refine sy (v := .bool (decide ((p0.Attrs.length : Int) = 0))) hs (y_pick rfl rfl) ?_; clear hs; intro a w hs
      refine sy (v := .bool (decide ((p0.Attrs.length : Int) = 0))) hs (y_move rfl) ?_; clear hs; intro a w hs
      refine St.split hs (t := 38) rfl (fun hg17 hq => ?_) (fun hg17 hq => ?_)
      ·clear hs; have hs := hq; clear hq
       refine syg (v := .pointer (some ⟨b6, 5, none⟩)) hs (y_fieldAddr rfl (FO.of (off := 5) Tryd.underlying42 rfl rfl ti3 (by decide))) ?_; clear hs; intro a w hs
       refine syg (v := .int .i64 (p0.First)) hs (y_ld rfl Tryd.underlying3 rfl (Cell.blk (.head _) rfl)) ?_; clear hs; intro a w hs
       refine syg hs (y_eql rfl rfl) ?_; clear hs; intro a w hs
       refine sy (v := .bool (decide (p0.First = (-1)))) hs (y_pick rfl rfl) ?_; clear hs; intro a w hs
       refine sy (v := .bool (decide (p0.First = (-1)))) hs (y_move rfl) ?_; clear hs; intro a w hs
       refine St.split hs (t := 43) rfl (fun hg18 hq => ?_) (fun hg18 hq => ?_)
       ·clear hs; have hs := hq; clear hq
        refine syg (v := .pointer (some ⟨b6, 6, none⟩)) hs (y_fieldAddr rfl (FO.of (off := 6) Tryd.underlying42 rfl rfl ti3 (by decide))) ?_; clear hs; intro a w hs
        refine syg (v := .int .i64 (p0.Last)) hs (y_ld rfl Tryd.underlying3 rfl (Cell.blk (.head _) rfl)) ?_; clear hs; intro a w hs
        refine syg hs (y_eql rfl rfl) ?_; clear hs; intro a w hs
        refine sy (v := .bool (decide (p0.Last = (-1)))) hs (y_pick rfl rfl) ?_; clear hs; intro a w hs
        refine sy (v := .bool (decide (p0.Last = (-1)))) hs (y_assign rfl) ?_; clear hs; intro a w hs
        refine RL_nil ?_
        exact hs.sub ⟨(lkB (((and_t hg14).trans ((and_t hg15).trans ((and_t hg16).trans ((and_t hg17).trans ((and_t hg18).trans rfl)))))) rfl), trivial⟩
       ·clear hs; have hs := hq; clear hq
        refine sno hs ?_; clear hs; intro a w hs
        refine sno hs ?_; clear hs; intro a w hs
        refine sno hs ?_; clear hs; intro a w hs
        refine sy (v := .bool (false)) hs (y_pick rfl rfl) ?_; clear hs; intro a w hs
        refine sy (v := .bool (false)) hs (y_assign rfl) ?_; clear hs; intro a w hs
        refine RL_nil ?_
        exact hs.sub ⟨(lkB (((and_t hg14).trans ((and_t hg15).trans ((and_t hg16).trans ((and_t hg17).trans ((and_f hg18).trans rfl)))))) rfl), trivial⟩
      ·clear hs; have hs := hq; clear hq
       refine sno hs ?_; clear hs; intro a w hs
       refine sno hs ?_; clear hs; intro a w hs
       refine sno hs ?_; clear hs; intro a w hs
       refine sy (v := .bool (false)) hs (y_pick rfl rfl) ?_; clear hs; intro a w hs
       refine sy (v := .bool (false)) hs (y_move rfl) ?_; clear hs; intro a w hs
       refine sno hs ?_; clear hs; intro a w hs
       refine sno hs ?_; clear hs; intro a w hs
       refine sno hs ?_; clear hs; intro a w hs
       refine sy (v := .bool (false)) hs (y_pick rfl rfl) ?_; clear hs; intro a w hs
       refine sy (v := .bool (false)) hs (y_assign rfl) ?_; clear hs; intro a w hs
       refine RL_nil ?_
       exact hs.sub ⟨(lkB (((and_t hg14).trans ((and_t hg15).trans ((and_t hg16).trans ((and_f hg17).trans rfl))))) rfl), trivial⟩
     ·clear hs; have hs := hq; clear hq
      refine sno hs ?_; clear hs; intro a w hs
      refine sno hs ?_; clear hs; intro a w hs
      refine sno hs ?_; clear hs; intro a w hs
      refine sno hs ?_; clear hs; intro a w hs
      refine sy (v := .bool (false)) hs (y_pick rfl rfl) ?_; clear hs; intro a w hs
      refine sy (v := .bool (false)) hs (y_move rfl) ?_; clear hs; intro a w hs
      refine sno hs ?_; clear hs; intro a w hs
      refine sno hs ?_; clear hs; intro a w hs
      refine sno hs ?_; clear hs; intro a w hs
      refine sy (v := .bool (false)) hs (y_pick rfl rfl) ?_; clear hs; intro a w hs
      refine sy (v := .bool (false)) hs (y_move rfl) ?_; clear hs; intro a w hs
      refine sno hs ?_; clear hs; intro a w hs
      refine sno hs ?_; clear hs; intro a w hs
      refine sno hs ?_; clear hs; intro a w hs
      refine sy (v := .bool (false)) hs (y_pick rfl rfl) ?_; clear hs; intro a w hs
      refine sy (v := .bool (false)) hs (y_assign rfl) ?_; clear hs; intro a w hs
      refine RL_nil ?_
      exact hs.sub ⟨(lkB (((and_t hg14).trans ((and_t hg15).trans ((and_f hg16).trans rfl)))) rfl), trivial⟩
    ·clear hs; have hs := hq; clear hq
     refine sno hs ?_; clear hs; intro a w hs
     refine sno hs ?_; clear hs; intro a w hs
     refine sno hs ?_; clear hs; intro a w hs
     refine sy (v := .bool (false)) hs (y_pick rfl rfl) ?_; clear hs; intro a w hs
     refine sy (v := .bool (false)) hs (y_move rfl) ?_; clear hs; intro a w hs
     refine sno hs ?_; clear hs; intro a w hs
     refine sno hs ?_; clear hs; intro a w hs
     refine sno hs ?_; clear hs; intro a w hs
     refine sno hs ?_; clear hs; intro a w hs
     refine sy (v := .bool (false)) hs (y_pick rfl rfl) ?_; clear hs; intro a w hs
     refine sy (v := .bool (false)) hs (y_move rfl) ?_; clear hs; intro a w hs
     refine sno hs ?_; clear hs; intro a w hs
     refine sno hs ?_; clear hs; intro a w hs
     refine sno hs ?_; clear hs; intro a w hs
     refine sy (v := .bool (false)) hs (y_pick rfl rfl) ?_; clear hs; intro a w hs
     refine sy (v := .bool (false)) hs (y_move rfl) ?_; clear hs; intro a w hs
     refine sno hs ?_; clear hs; intro a w hs
     refine sno hs ?_; clear hs; intro a w hs
     refine sno hs ?_; clear hs; intro a w hs
     refine sy (v := .bool (false)) hs (y_pick rfl rfl) ?_; clear hs; intro a w hs
     refine sy (v := .bool (false)) hs (y_assign rfl) ?_; clear hs; intro a w hs
     refine RL_nil ?_
     exact hs.sub ⟨(lkB (((and_t hg14).trans ((and_f hg15).trans rfl))) rfl), trivial⟩
   ·clear hs; have hs := hq; clear hq
    refine sno hs ?_; clear hs; intro a w hs
    refine sno hs ?_; clear hs; intro a w hs
    refine sno hs ?_; clear hs; intro a w hs
    refine sy (v := .bool (false)) hs (y_pick rfl rfl) ?_; clear hs; intro a w hs
    refine sy (v := .bool (false)) hs (y_move rfl) ?_; clear hs; intro a w hs
    refine sno hs ?_; clear hs; intro a w hs
    refine sno hs ?_; clear hs; intro a w hs
    refine sno hs ?_; clear hs; intro a w hs
    refine sy (v := .bool (false)) hs (y_pick rfl rfl) ?_; clear hs; intro a w hs
    refine sy (v := .bool (false)) hs (y_move rfl) ?_; clear hs; intro a w hs
    refine sno hs ?_; clear hs; intro a w hs
    refine sno hs ?_; clear hs; intro a w hs
    refine sno hs ?_; clear hs; intro a w hs
    refine sno hs ?_; clear hs; intro a w hs
    refine sy (v := .bool (false)) hs (y_pick rfl rfl) ?_; clear hs; intro a w hs
    refine sy (v := .bool (false)) hs (y_move rfl) ?_; clear hs; intro a w hs
    refine sno hs ?_; clear hs; intro a w hs
    refine sno hs ?_; clear hs; intro a w hs
    refine sno hs ?_; clear hs; intro a w hs
    refine sy (v := .bool (false)) hs (y_pick rfl rfl) ?_; clear hs; intro a w hs
    refine sy (v := .bool (false)) hs (y_move rfl) ?_; clear hs; intro a w hs
    refine sno hs ?_; clear hs; intro a w hs
    refine sno hs ?_; clear hs; intro a w hs
    refine sno hs ?_; clear hs; intro a w hs
    refine sy (v := .bool (false)) hs (y_pick rfl rfl) ?_; clear hs; intro a w hs
    refine sy (v := .bool (false)) hs (y_assign rfl) ?_; clear hs; intro a w hs
    refine RL_nil ?_
    exact hs.sub ⟨(lkB (((and_f hg14).trans rfl)) rfl), trivial⟩
/-! casement/casementref5.Right -/
def ref5_Right_k3 (y48 : Int) : Option Int :=
  (bif (decide (256 < y48)) then some 5 else
  some 0)
def ref5_Right_k5 (y50 : Int) (lp51 : Int → Option Int) (y53 : Bool) : Option Int :=
  (bif y53 then some 10 else
  lp51 (w64 (y50 + 1)))
def ref5_Right_l4 (p0 : api_Tree) (y43 : (List api_Node)) (y48 : Int) : Nat → Int → Option Int
  | 0, _ => none
  | k51 + 1, y50 =>
  (bif (decide (y50 < (p0.Nodes.length : Int))) then (geti p0.Nodes y50).bind fun x55 =>
  (geti y43 y50).bind fun x67 =>
  (bif (decide (x55.First ≠ x67.First)) then ref5_Right_k5 y50 (ref5_Right_l4 p0 y43 y48 k51) true else
  (geti p0.Nodes y50).bind fun x80 =>
  (geti y43 y50).bind fun x92 =>
  (bif (decide (x80.Last ≠ x92.Last)) then ref5_Right_k5 y50 (ref5_Right_l4 p0 y43 y48 k51) true else
  (geti p0.Nodes y50).bind fun x105 =>
  (geti y43 y50).bind fun x117 =>
  (bif (decide (x105.Prev ≠ x117.Prev)) then ref5_Right_k5 y50 (ref5_Right_l4 p0 y43 y48 k51) true else
  (geti p0.Nodes y50).bind fun x130 =>
  (geti y43 y50).bind fun x142 =>
  ref5_Right_k5 y50 (ref5_Right_l4 p0 y43 y48 k51) (decide (x130.Next ≠ x142.Next))))) else
  ref5_Right_k3 y48)
def ref5_Right_k2 (n : Nat) (p0 : api_Tree) (y43 : (List api_Node)) (y48 : Int) : Option Int :=
  ref5_Right_l4 p0 y43 y48 n 0
def ref5_Right_k7 (y165 : Int) (lp166 : (List api_Node) → Int → (List Int) → Int → Option Int) (y168 : (List api_Node)) (y173 : Int) (y174 : (List Int)) : Option Int :=
  lp166 y168 y173 y174 (w64 (y165 + 1))
def ref5_Right_k11 (y165 : Int) (lp166 : (List api_Node) → Int → (List Int) → Int → Option Int) (x195 : api_Node) (x219 : (List Int)) (y225 : Int) (y268 : (List api_Node)) : Option Int :=
  (geti y268 x195.Parent).bind fun x273 =>
  (seti y268 x195.Parent ({x273 with Last := y165} : api_Node)).bind fun x285 =>
  ref5_Right_k7 y165 lp166 x285 y225 x219
def ref5_Right_k10 (y154 : (List api_Node)) (y165 : Int) (lp166 : (List api_Node) → Int → (List Int) → Int → Option Int) (x195 : api_Node) (x219 : (List Int)) (y225 : Int) : Option Int :=
  (geti y154 x195.Parent).bind fun x226 =>
  (geti y154 y165).bind fun _x239 =>
  (seti y154 y165 ({Kind := 0, Name := (bs []), Text := (bs []), Attrs := ([] : List api_Attr), Parent := x195.Parent, First := (-1), Last := (-1), Prev := x226.Last, Next := (-1)} : api_Node)).bind fun x251 =>
  (geti x251 x195.Parent).bind fun x256 =>
  (bif (decide (0 ≤ x256.Last)) then (geti x251 x195.Parent).bind fun x291 =>
  (geti x251 x291.Last).bind fun x303 =>
  (seti x251 x291.Last ({x303 with Next := y165} : api_Node)).bind fun x315 =>
  ref5_Right_k11 y165 lp166 x195 x219 y225 x315 else
  (geti x251 x195.Parent).bind fun x320 =>
  (seti x251 x195.Parent ({x320 with First := y165} : api_Node)).bind fun x332 =>
  ref5_Right_k11 y165 lp166 x195 x219 y225 x332)
def ref5_Right_k9 (y154 : (List api_Node)) (y159 : Int) (y165 : Int) (lp166 : (List api_Node) → Int → (List Int) → Int → Option Int) (x195 : api_Node) (y207 : (List Int)) (y212 : Bool) : Option Int :=
  (bif y212 then some 10 else
  (appM 8 y207 [y165]).bind fun x219 =>
  (bif (decide (y159 < (x219.length : Int))) then ref5_Right_k10 y154 y165 lp166 x195 x219 (x219.length : Int) else
  ref5_Right_k10 y154 y165 lp166 x195 x219 y159))
def ref5_Right_k8 (p0 : api_Tree) (y154 : (List api_Node)) (y159 : Int) (y165 : Int) (lp166 : (List api_Node) → Int → (List Int) → Int → Option Int) (x195 : api_Node) (y207 : (List Int)) : Option Int :=
  (bif (decide ((y207.length : Int) = 0)) then ref5_Right_k9 y154 y159 y165 lp166 x195 y207 true else
  (geti p0.Nodes x195.Parent).bind fun x339 =>
  ref5_Right_k9 y154 y159 y165 lp166 x195 y207 (decide (x339.Kind ≠ 1)))
def ref5_Right_k13 (p0 : api_Tree) (y154 : (List api_Node)) (y159 : Int) (y165 : Int) (lp166 : (List api_Node) → Int → (List Int) → Int → Option Int) (x195 : api_Node) (y351 : (List Int)) (lp356 : (List Int) → Option Int) (y357 : Bool) : Option Int :=
  (bif y357 then (cutM y351 (0 : Int) (w64 ((y351.length : Int) - 1))).bind fun x359 =>
  lp356 x359 else
  ref5_Right_k8 p0 y154 y159 y165 lp166 x195 y351)
def ref5_Right_l12 (p0 : api_Tree) (y154 : (List api_Node)) (y159 : Int) (y165 : Int) (lp166 : (List api_Node) → Int → (List Int) → Int → Option Int) (x195 : api_Node) : Nat → (List Int) → Option Int
  | 0, _ => none
  | k356 + 1, y351 =>
  (bif (decide (0 < (y351.length : Int))) then (geti y351 (w64 ((y351.length : Int) - 1))).bind fun x367 =>
  ref5_Right_k13 p0 y154 y159 y165 lp166 x195 y351 (ref5_Right_l12 p0 y154 y159 y165 lp166 x195 k356) (decide (x367 ≠ x195.Parent)) else
  ref5_Right_k13 p0 y154 y159 y165 lp166 x195 y351 (ref5_Right_l12 p0 y154 y159 y165 lp166 x195 k356) false)
def ref5_Right_l6 (n : Nat) (p0 : api_Tree) : Nat → (List api_Node) → Int → (List Int) → Int → Option Int
  | 0, _, _, _, _ => none
  | k166 + 1, y154, y159, y160, y165 =>
  (bif (decide (y165 < (p0.Nodes.length : Int))) then (geti p0.Nodes y165).bind fun x179 =>
  (ref5_plain n x179).bind fun x191 =>
  (bif (!x191) then some 10 else
  (bif (decide (y165 = 0)) then ref5_Right_k7 y165 (ref5_Right_l6 n p0 k166) y154 y159 y160 else
  (geti p0.Nodes y165).bind fun x195 =>
  ref5_Right_l12 p0 y154 y159 y165 (ref5_Right_l6 n p0 k166) x195 n y160)) else
  ref5_Right_k2 n p0 y154 y159)
def ref5_Right_k1 (n : Nat) (p0 : api_Tree) (y10 : Bool) : Option Int :=
  (bif y10 then some 10 else
  (repM 104 (p0.Nodes.length : Int) ({Kind := (0 : Int), Name := (bs []), Text := (bs []), Attrs := ([] : (List api_Attr)), Parent := (0 : Int), First := (0 : Int), Last := (0 : Int), Prev := (0 : Int), Next := (0 : Int)} : api_Node)).bind fun x12 =>
  (geti x12 0).bind fun _x26 =>
  (seti x12 0 ({Kind := 0, Name := (bs []), Text := (bs []), Attrs := ([] : List api_Attr), Parent := (-1), First := (-1), Last := (-1), Prev := (-1), Next := (-1)} : api_Node)).bind fun x38 =>
  ref5_Right_l6 n p0 n x38 1 [0] 0)
def ref5_Right (n : Nat) (p0 : api_Tree) : Option Int :=
  (bif (decide ((p0.Nodes.length : Int) = 0)) then some 10 else
  (bif (decide (4096 < (p0.Nodes.length : Int))) then some 4 else
  (geti p0.Nodes 0).bind fun x374 =>
  (bif (decide (x374.Kind ≠ 1)) then ref5_Right_k1 n p0 true else
  (geti p0.Nodes 0).bind fun x387 =>
  (bif (decide (x387.Parent ≠ (-1))) then ref5_Right_k1 n p0 true else
  (geti p0.Nodes 0).bind fun x400 =>
  (bif (decide (x400.Prev ≠ (-1))) then ref5_Right_k1 n p0 true else
  (geti p0.Nodes 0).bind fun x413 =>
  ref5_Right_k1 n p0 (decide (x413.Next ≠ (-1))))))))
set_option maxRecDepth 20000 in
set_option maxHeartbeats 4000000 in
theorem ref5_Right_ok (n : Nat) {f : Fz} {p0 : api_Tree} {a0 : List Value} {res : Int} (h0 : t_api_Tree.R f a0 p0) (hm : ref5_Right n p0 = some res) : Gives Tryd.prog 39 [.agg a0.toArray] f (.int .i64 res) := by
 unfold ref5_Right at hm
 intro w0 L w hC
 obtain ⟨v1, rfl, ⟨rw2, hR3, hW4⟩⟩ := h0
 refine enter Tryd.func39 rfl Tryd.ntmps39 (by simp) hC fun a hs => ?_
 have hle := Fz.le.refl f
 refine W_seq fun K1 hK1 => ?_
 refine W_region ?_
 refine sbox hs rfl ?_; clear hs; intro b6 a w hs
 replace hs : St _ _ _ (.blk b6 (.cells #[v1] 24 (0, 0)) :: L) _ _ _ := hs
 refine sy (v := .int .i64 (0)) hs (y_assign rfl) ?_; clear hs; intro a w hs
 refine RL_nil ?_
 refine hK1 _ _ ?_; clear hK1
 refine W_seq fun K2 hK2 => ?_
 refine W_region ?_
 refine sy (v := .pointer (some ⟨b6, 0, none⟩)) hs (y_fieldAddr rfl (FO.of (off := 0) Tryd.underlying24 rfl rfl ti22 (by decide))) ?_; clear hs; intro a w hs
 refine sy (v := v1) hs (y_ld rfl Tryd.underlying22 rfl (Cell.blk (.head _) rfl)) ?_; clear hs; intro a w hs
 refine sy (v := v1) hs (y_assign rfl) ?_; clear hs; intro a w hs
 refine RL_nil ?_
 refine hK2 _ _ ?_; clear hK2
 refine W_seq fun K3 hK3 => ?_
 refine W_seq fun K4 hK4 => ?_
 refine W_region ?_
 refine sy (v := v1) hs (y_move rfl) ?_; clear hs; intro a w hs
 refine sy hs (y_lenW hR3 hW4 rfl Tryd.underlying22) ?_; clear hs; intro a w hs
 refine sy hs (y_eql rfl rfl) ?_; clear hs; intro a w hs
 refine RL_nil ?_
 refine hK4 _ _ ?_; clear hK4
 refine W_cond hs rfl (fun hg8 => ?_) (fun hg8 => ?_)
 ·replace hm := oc_t hg8 hm
  refine W_seq fun K5 hK5 => ?_
  refine W_region ?_
  refine sy (v := .int .i64 (10)) hs (y_assign rfl) ?_; clear hs; intro a w hs
  refine RL_nil ?_
  refine hK5 _ _ ?_; clear hK5
  refine W_ret ?_
  obtain rfl := Option.some.inj hm
  refine RtV1 hs rfl (rv_t hs rfl) ?_
  exact ⟨rfl, ((hs.subL (.cons _ (.refl _))).weak hle).cw⟩
 ·replace hm := oc_f hg8 hm
  refine W_skip ?_
  refine hK3 _ _ ?_; clear hK3
  refine W_seq fun K6 hK6 => ?_
  refine W_seq fun K7 hK7 => ?_
  refine W_region ?_
  refine sy (v := v1) hs (y_move rfl) ?_; clear hs; intro a w hs
  refine sy hs (y_lenW hR3 hW4 rfl Tryd.underlying22) ?_; clear hs; intro a w hs
  refine sy hs (y_gtr rfl rfl) ?_; clear hs; intro a w hs
  refine RL_nil ?_
  refine hK7 _ _ ?_; clear hK7
  refine W_cond hs rfl (fun hg9 => ?_) (fun hg9 => ?_)
  ·replace hm := oc_t hg9 hm
   refine W_seq fun K8 hK8 => ?_
   refine W_region ?_
   refine sy (v := .int .i64 (4)) hs (y_assign rfl) ?_; clear hs; intro a w hs
   refine RL_nil ?_
   refine hK8 _ _ ?_; clear hK8
   refine W_ret ?_
   obtain rfl := Option.some.inj hm
   refine RtV1 hs rfl (rv_t hs rfl) ?_
   exact ⟨rfl, ((hs.subL (.cons _ (.refl _))).weak hle).cw⟩
  ·replace hm := oc_f hg9 hm
   refine W_skip ?_
   refine hK6 _ _ ?_; clear hK6
   refine W_seq fun K9 hK9 => ?_
   refine W_seq fun K10 hK10 => ?_
   refine W_post (fun a w => ∃ (y10 : Bool), ref5_Right_k1 n p0 y10 = some res ∧ St 202 w0 f (L) [(3, v1), (43, .bool (y10))] a w) ?_ ?_
   ·clear hs hm
    rintro a w ⟨y10, hm, hs⟩
    replace hs : St _ _ _ (L) _ _ _ := hs
    unfold ref5_Right_k1 at hm
    refine hK10 _ _ ?_; clear hK10
    refine W_cond hs rfl (fun hg11 => ?_) (fun hg11 => ?_)
    ·replace hm := oc_t hg11 hm
     refine W_seq fun K11 hK11 => ?_
     refine W_region ?_
     refine sy (v := .int .i64 (10)) hs (y_assign rfl) ?_; clear hs; intro a w hs
     refine RL_nil ?_
     refine hK11 _ _ ?_; clear hK11
     refine W_ret ?_
     obtain rfl := Option.some.inj hm
     refine RtV1 hs rfl (rv_t hs rfl) ?_
     exact ⟨rfl, (hs.weak hle).cw⟩
    ·replace hm := oc_f hg11 hm
     refine W_skip ?_
     refine hK9 _ _ ?_; clear hK9
     refine W_seq fun K12 hK12 => ?_
     refine W_region ?_
     refine sy (v := v1) hs (y_move rfl) ?_; clear hs; intro a w hs
     refine sy hs (y_lenW hR3 hW4 rfl Tryd.underlying22) ?_; clear hs; intro a w hs
     obtain ⟨x12, hx13, hm⟩ := ob hm
     obtain ⟨hix12, hbx12, hex12⟩ := repM_some hx13
     refine RL_makeW hs rfl rfl hix12 Tryd.underlying22 ti42 (by decide) (AllC.row ⟨rfl, rfl, rfl, rfl, rfl, rfl, rfl, rfl, rfl, trivial⟩ rfl) hbx12 ?_; clear hs; intro v14 a w hs
     replace hs : St _ _ _ (.row v14 42 9 (List.replicate (p0.Nodes.length : Int).toNat ([.int .i64 (0), .string ((bs [])), .string ((bs [])), (.slice none 0 0), .int .i64 (0), .int .i64 (0), .int .i64 (0), .int .i64 (0), .int .i64 (0)] : List Value)) :: L) _ _ _ := hs
     have hW16 : RW t_api_Node f (List.replicate (p0.Nodes.length : Int).toNat ([.int .i64 (0), .string ((bs [])), .string ((bs [])), (.slice none 0 0), .int .i64 (0), .int .i64 (0), .int .i64 (0), .int .i64 (0), .int .i64 (0)] : List Value)) x12 := by rw [← hex12]; exact RW.rep (t := t_api_Node) (r := [.int .i64 (0), .string ((bs [])), .string ((bs [])), (.slice none 0 0), .int .i64 (0), .int .i64 (0), .int .i64 (0), .int .i64 (0), .int .i64 (0)]) (⟨_, rfl, RS.nil⟩) _
     generalize hgx12 : (List.replicate (p0.Nodes.length : Int).toNat ([.int .i64 (0), .string ((bs [])), .string ((bs [])), (.slice none 0 0), .int .i64 (0), .int .i64 (0), .int .i64 (0), .int .i64 (0), .int .i64 (0)] : List Value)) = rw15 at hs hW16; clear hgx12
     replace hs : St _ _ _ (.row v14 42 9 rw15 :: L) _ _ _ := hs
     refine sy (v := v14) hs (y_assign rfl) ?_; clear hs; intro a w hs
     refine RL_nil ?_
     refine hK12 _ _ ?_; clear hK12
     refine W_seq fun K13 hK13 => ?_
     refine W_region ?_
     refine sy (v := .int .i64 (1)) hs (y_assign rfl) ?_; clear hs; intro a w hs
     refine RL_nil ?_
     refine hK13 _ _ ?_; clear hK13
     refine W_seq fun K14 hK14 => ?_
     refine W_region ?_
     refine RL_bs1s hs rfl Tryd.underlying46 ti3 rfl rfl ?_; clear hs; intro v20 a w hs
     have hW21 : RW (tInt .i64) f [[.int .i64 (0)]] [0] := RW.single (rfl)
     generalize hgrw22 : ([[.int .i64 (0)]] : List (List Value)) = rw22 at hs hW21; clear hgrw22
     replace hs : St _ _ _ (.row v20 3 1 rw22 :: .row v14 42 9 rw15 :: L) _ _ _ := hs
     refine sy (v := v20) hs (y_assign rfl) ?_; clear hs; intro a w hs
     refine RL_nil ?_
     refine hK14 _ _ ?_; clear hK14
     refine W_seq fun K15 hK15 => ?_
     refine W_region ?_
     refine sy (v := v14) hs (y_move rfl) ?_; clear hs; intro a w hs
     refine sy hs (y_buildS (places := [(0, 1), (1, 1), (2, 1), (3, 1), (4, 1), (5, 1), (6, 1), (7, 1), (8, 1)]) (cs := [.int .i64 (0), .string ((bs [])), .string ((bs [])), (.slice none 0 0), .int .i64 ((-1)), .int .i64 ((-1)), .int .i64 ((-1)), .int .i64 ((-1)), .int .i64 ((-1))]) rfl Tryd.underlying42 ti42 (by kernel_rfl) (by decide) rfl ⟨rfl, rfl, rfl, rfl, rfl, trivial⟩) ?_; clear hs; intro a w hs
     obtain ⟨x26, hx27, hm⟩ := ob hm
     obtain ⟨r28, hr29, hq30, hi31, hb32⟩ := hW16.geti hx27
     obtain ⟨v33, rfl, ⟨rw34, hR35, hW36⟩⟩ := hq30
     refine sy hs (y_indexAddr (Rd.st hs (.tail _ (.head _))) rfl rfl hi31 hb32 Tryd.underlying22 ti42) ?_; clear hs; intro a w hs
     obtain ⟨x38, hx39, hm⟩ := ob hm
     have hex38 := seti_some hx39
     have hW41 := RW.set (i := (0 : Int).toNat) (r := [.int .i64 (0), .string ((bs [])), .string ((bs [])), (.slice none 0 0), .int .i64 ((-1)), .int .i64 ((-1)), .int .i64 ((-1)), .int .i64 ((-1)), .int .i64 ((-1))]) (x := (({Kind := 0, Name := (bs []), Text := (bs []), Attrs := ([] : List api_Attr), Parent := (-1), First := (-1), Last := (-1), Prev := (-1), Next := (-1)} : api_Node) : api_Node)) hW16 (⟨_, rfl, RS.nil⟩); rw [hex38] at hW41
     refine RL_storeElem (i := 1) (m := (0 : Int).toNat) (r' := [.int .i64 (0), .string ((bs [])), .string ((bs [])), (.slice none 0 0), .int .i64 ((-1)), .int .i64 ((-1)), .int .i64 ((-1)), .int .i64 ((-1)), .int .i64 ((-1))]) hs rfl rfl rfl hr29 ti42 (AllC.row ⟨rfl, rfl, rfl, rfl, rfl, rfl, rfl, rfl, rfl, trivial⟩ rfl) (.free rfl) ?_; clear hs; intro a w hs
     replace hs : St _ _ _ (.row v20 3 1 rw22 :: .row v14 42 9 (rw15.set ((0 : Int).toNat) [.int .i64 (0), .string ((bs [])), .string ((bs [])), (.slice none 0 0), .int .i64 ((-1)), .int .i64 ((-1)), .int .i64 ((-1)), .int .i64 ((-1)), .int .i64 ((-1))]) :: L) _ _ _ := hs
     generalize hgrw40 : rw15.set ((0 : Int).toNat) [.int .i64 (0), .string ((bs [])), .string ((bs [])), (.slice none 0 0), .int .i64 ((-1)), .int .i64 ((-1)), .int .i64 ((-1)), .int .i64 ((-1)), .int .i64 ((-1))] = rw40 at hs hW41; clear hgrw40
     replace hs : St _ _ _ (.row v20 3 1 rw22 :: .row v14 42 9 rw40 :: L) _ _ _ := hs
     refine RL_nil ?_
     refine hK15 _ _ ?_; clear hK15
     refine W_seq fun K16 hK16 => ?_
     refine W_seq fun K17 hK17 => ?_
     refine W_region ?_
     refine sy (v := .int .i64 (0)) hs (y_assign rfl) ?_; clear hs; intro a w hs
     refine RL_nil ?_
     refine hK17 _ _ ?_; clear hK17
     refine W_post (fun a w => ∃ (y43 : (List api_Node)) (y48 : Int) (v44 : Value) (rw45 : List (List Value)), ref5_Right_k2 n p0 y43 y48 = some res ∧ RW t_api_Node f rw45 y43 ∧ St 202 w0 f (.row v44 42 9 rw45 :: L) [(3, v1), (4, v44), (5, .int .i64 (y48))] a w) ?_ ?_
     ·clear hs hm
      rintro a w ⟨y43, y48, v44, rw45, hm, hW46, hs⟩
      replace hs : St _ _ _ (.row v44 42 9 rw45 :: L) _ _ _ := hs
      unfold ref5_Right_k2 at hm
      refine hK16 _ _ ?_; clear hK16
      refine W_seq fun K18 hK18 => ?_
      refine W_seq fun K19 hK19 => ?_
      refine W_region ?_
      refine sy (v := .int .i64 (0)) hs (y_assign rfl) ?_; clear hs; intro a w hs
      refine RL_nil ?_
      refine hK19 _ _ ?_; clear hK19
      refine W_post (fun a w => ref5_Right_k3 y48 = some res ∧ St 202 w0 f (L) [(5, .int .i64 (y48))] a w) ?_ ?_
      ·clear hs hm
       rintro a w ⟨hm, hs⟩
       replace hs : St _ _ _ (L) _ _ _ := hs
       unfold ref5_Right_k3 at hm
       refine hK18 _ _ ?_; clear hK18
       refine W_seq fun K20 hK20 => ?_
       refine W_seq fun K21 hK21 => ?_
       refine W_region ?_
       refine sy (v := .int .i64 (y48)) hs (y_move rfl) ?_; clear hs; intro a w hs
       refine sy hs (y_gtr rfl rfl) ?_; clear hs; intro a w hs
       refine RL_nil ?_
       refine hK21 _ _ ?_; clear hK21
       refine W_cond hs rfl (fun hg49 => ?_) (fun hg49 => ?_)
       ·replace hm := oc_t hg49 hm
        refine W_seq fun K22 hK22 => ?_
        refine W_region ?_
        refine sy (v := .int .i64 (5)) hs (y_assign rfl) ?_; clear hs; intro a w hs
        refine RL_nil ?_
        refine hK22 _ _ ?_; clear hK22
        refine W_ret ?_
        obtain rfl := Option.some.inj hm
        refine RtV1 hs rfl (rv_t hs rfl) ?_
        exact ⟨rfl, (hs.weak hle).cw⟩
       ·replace hm := oc_f hg49 hm
        refine W_skip ?_
        refine hK20 _ _ ?_; clear hK20
        refine W_seq fun K23 hK23 => ?_
        refine W_region ?_
        refine sy (v := .int .i64 (0)) hs (y_assign rfl) ?_; clear hs; intro a w hs
        refine RL_nil ?_
        refine hK23 _ _ ?_; clear hK23
        refine W_ret ?_
        obtain rfl := Option.some.inj hm
        refine RtV1 hs rfl (rv_t hs rfl) ?_
        exact ⟨rfl, (hs.weak hle).cw⟩
      ·refine W_block fun Qe24 hB24 hO24 => ?_
       refine W_loop (fun (k : Nat) a w => ∃ (y50 : Int), ref5_Right_l4 p0 y43 y48 k y50 = some res ∧ St 202 w0 f (.row v44 42 9 rw45 :: L) [(3, v1), (4, v44), (5, .int .i64 (y48)), (9, .int .i64 (y50))] a w) (fun k => k) n ⟨0, hm, hs.sub ⟨rfl, rfl, rfl, rfl, trivial⟩⟩ ?_
       clear hs hm
       intro k
       rintro a w ⟨y50, hm, hs⟩
       replace hs : St _ _ _ (.row v44 42 9 rw45 :: L) _ _ _ := hs
       intro K25 hK25
       cases k with
       | zero => simp [ref5_Right_l4] at hm
       | succ k51 =>
        rw [ref5_Right_l4] at hm
        refine W_seq fun K26 hK26 => ?_
        refine W_seq fun K27 hK27 => ?_
        refine W_region ?_
        refine sy (v := .int .i64 (y50)) hs (y_move rfl) ?_; clear hs; intro a w hs
        refine sy (v := v1) hs (y_move rfl) ?_; clear hs; intro a w hs
        refine sy hs (y_lenW hR3 hW4 rfl Tryd.underlying22) ?_; clear hs; intro a w hs
        refine sy hs (y_lss rfl rfl) ?_; clear hs; intro a w hs
        refine RL_nil ?_
        refine hK27 _ _ ?_; clear hK27
        refine W_cond hs rfl (fun hg52 => ?_) (fun hg52 => ?_)
        ·replace hm := oc_t hg52 hm
         refine W_skip ?_
         refine hK26 _ _ ?_; clear hK26
         refine W_seq fun K28 hK28 => ?_
         refine W_block fun Qe29 hB29 hO29 => ?_
         refine W_seq fun K30 hK30 => ?_
         refine W_post (fun a w => ∃ (y53 : Bool), ref5_Right_k5 y50 (ref5_Right_l4 p0 y43 y48 k51) y53 = some res ∧ St 202 w0 f (.row v44 42 9 rw45 :: L) [(3, v1), (4, v44), (5, .int .i64 (y48)), (9, .int .i64 (y50)), (199, .bool (y53))] a w) ?_ ?_
         ·clear hs hm
          rintro a w ⟨y53, hm, hs⟩
          replace hs : St _ _ _ (.row v44 42 9 rw45 :: L) _ _ _ := hs
          unfold ref5_Right_k5 at hm
          refine hK30 _ _ ?_; clear hK30
          refine W_cond hs rfl (fun hg54 => ?_) (fun hg54 => ?_)
          ·replace hm := oc_t hg54 hm
           refine W_seq fun K31 hK31 => ?_
           refine W_region ?_
           refine sy (v := .int .i64 (10)) hs (y_assign rfl) ?_; clear hs; intro a w hs
           refine RL_nil ?_
           refine hK31 _ _ ?_; clear hK31
           refine W_ret ?_
           obtain rfl := Option.some.inj hm
           refine RtV1 hs rfl (rv_t hs rfl) ?_
           exact ⟨rfl, ((hs.subL (.cons _ (.refl _))).weak hle).cw⟩
          ·replace hm := oc_f hg54 hm
           refine W_skip ?_
           refine hK28 _ _ ?_; clear hK28
           refine W_region ?_
           refine sy (v := .int .i64 (y50)) hs (y_move rfl) ?_; clear hs; intro a w hs
           refine sy hs (y_add rfl rfl rfl) ?_; clear hs; intro a w hs
           refine sy (v := .int .i64 ((w64 (y50 + 1)))) hs (y_assign rfl) ?_; clear hs; intro a w hs
           refine RL_nil ?_
           exact hK25 k51 _ _ (Nat.lt_succ_self _) ⟨(w64 (y50 + 1)), hm, hs.sub ⟨rfl, rfl, rfl, rfl, trivial⟩⟩
         ·refine W_draw hs mixed (by kernel_rfl) ?_; intro a he
          refine qy (v := v1) he (y_move rfl) ?_; clear he; intro a he
          refine qy (v := .int .i64 (y50)) he (y_move rfl) ?_; clear he; intro a he
          obtain ⟨x55, hx56, hm⟩ := ob hm
          obtain ⟨r57, hr58, hq59, hi60, hb61⟩ := hW4.geti hx56
          obtain ⟨v62, rfl, ⟨rw63, hR64, hW65⟩⟩ := hq59
          refine qy he (y_indexAddr hR3 rfl rfl hi60 hb61 Tryd.underlying22 ti42) ?_; clear he; intro a he
          refine qy (v := eaddr v1 9 y50.toNat 5) he (y_fieldAddrE (i := y50.toNat) (j := 0) hR3 rfl hb61 (FO.of (off := 5) Tryd.underlying42 rfl rfl ti3 (by decide))) ?_; clear he; intro a he
          refine qy (v := .int .i64 (x55.First)) he (y_loadE (i := y50.toNat) (j := 5) hR3.up rfl hr58 rfl Tryd.underlying3 rfl) ?_; clear he; intro a he
          refine qy (v := v44) he (y_move rfl) ?_; clear he; intro a he
          refine qy (v := .int .i64 (y50)) he (y_move rfl) ?_; clear he; intro a he
          obtain ⟨x67, hx68, hm⟩ := ob hm
          obtain ⟨r69, hr70, hq71, hi72, hb73⟩ := hW46.geti hx68
          obtain ⟨v74, rfl, ⟨rw75, hR76, hW77⟩⟩ := hq71
          refine qy he (y_indexAddr (Rd.st hs (.head _)) rfl rfl hi72 hb73 Tryd.underlying22 ti42) ?_; clear he; intro a he
          refine qy (v := eaddr v44 9 y50.toNat 5) he (y_fieldAddrE (i := y50.toNat) (j := 0) (Rd.st hs (.head _)) rfl hb73 (FO.of (off := 5) Tryd.underlying42 rfl rfl ti3 (by decide))) ?_; clear he; intro a he
          refine qy (v := .int .i64 (x67.First)) he (y_loadE (i := y50.toNat) (j := 5) (Rd.st hs (.head _)) rfl hr70 rfl Tryd.underlying3 rfl) ?_; clear he; intro a he
          refine qy he (y_neq rfl rfl) ?_; clear he; intro a he
          refine qy (v := .bool (decide (x55.First ≠ x67.First))) he (y_move rfl) ?_; clear he; intro a he
          refine Ev.split he (t := 161) rfl (fun hg79 hq => ?_) (fun hg79 hq => ?_)
          ·clear he; have he := hq; clear hq
           replace hm := oc_t hg79 hm
           refine qno he ?_; clear he; intro a he
           refine qno he ?_; clear he; intro a he
           refine qno he ?_; clear he; intro a he
           refine qno he ?_; clear he; intro a he
           refine qno he ?_; clear he; intro a he
           refine qno he ?_; clear he; intro a he
           refine qno he ?_; clear he; intro a he
           refine qno he ?_; clear he; intro a he
           refine qno he ?_; clear he; intro a he
           refine qno he ?_; clear he; intro a he
           refine qno he ?_; clear he; intro a he
           refine qy (v := .bool (true)) he (y_pick rfl rfl) ?_; clear he; intro a he
           refine qy (v := .bool (true)) he (y_move rfl) ?_; clear he; intro a he
           refine qno he ?_; clear he; intro a he
           refine qno he ?_; clear he; intro a he
           refine qno he ?_; clear he; intro a he
           refine qno he ?_; clear he; intro a he
           refine qno he ?_; clear he; intro a he
           refine qno he ?_; clear he; intro a he
           refine qno he ?_; clear he; intro a he
           refine qno he ?_; clear he; intro a he
           refine qno he ?_; clear he; intro a he
           refine qno he ?_; clear he; intro a he
           refine qno he ?_; clear he; intro a he
           refine qy (v := .bool (true)) he (y_pick rfl rfl) ?_; clear he; intro a he
           refine qy (v := .bool (true)) he (y_move rfl) ?_; clear he; intro a he
           refine qno he ?_; clear he; intro a he
           refine qno he ?_; clear he; intro a he
           refine qno he ?_; clear he; intro a he
           refine qno he ?_; clear he; intro a he
           refine qno he ?_; clear he; intro a he
           refine qno he ?_; clear he; intro a he
           refine qno he ?_; clear he; intro a he
           refine qno he ?_; clear he; intro a he
           refine qno he ?_; clear he; intro a he
           refine qno he ?_; clear he; intro a he
           refine qno he ?_; clear he; intro a he
           refine qy (v := .bool (true)) he (y_pick rfl rfl) ?_; clear he; intro a he
           refine QL_nil he ?_; clear he; (try clear hs); intro a w hs
           exact ⟨true, hm, hs.sub ⟨rfl, rfl, rfl, rfl, rfl, trivial⟩⟩
          ·clear he; have he := hq; clear hq
           replace hm := oc_f hg79 hm
           refine qyg (v := v1) he (y_move rfl) ?_; clear he; intro a he
           refine qyg (v := .int .i64 (y50)) he (y_move rfl) ?_; clear he; intro a he
           obtain ⟨x80, hx81, hm⟩ := ob hm
           obtain ⟨r82, hr83, hq84, hi85, hb86⟩ := hW4.geti hx81
           obtain ⟨v87, rfl, ⟨rw88, hR89, hW90⟩⟩ := hq84
           refine qyg he (y_indexAddr hR3 rfl rfl hi85 hb86 Tryd.underlying22 ti42) ?_; clear he; intro a he
           refine qyg (v := eaddr v1 9 y50.toNat 6) he (y_fieldAddrE (i := y50.toNat) (j := 0) hR3 rfl hb86 (FO.of (off := 6) Tryd.underlying42 rfl rfl ti3 (by decide))) ?_; clear he; intro a he
           refine qyg (v := .int .i64 (x80.Last)) he (y_loadE (i := y50.toNat) (j := 6) hR3.up rfl hr83 rfl Tryd.underlying3 rfl) ?_; clear he; intro a he
           refine qyg (v := v44) he (y_move rfl) ?_; clear he; intro a he
           refine qyg (v := .int .i64 (y50)) he (y_move rfl) ?_; clear he; intro a he
           obtain ⟨x92, hx93, hm⟩ := ob hm
           obtain ⟨r94, hr95, hq96, hi97, hb98⟩ := hW46.geti hx93
           obtain ⟨v99, rfl, ⟨rw100, hR101, hW102⟩⟩ := hq96
           refine qyg he (y_indexAddr (Rd.st hs (.head _)) rfl rfl hi97 hb98 Tryd.underlying22 ti42) ?_; clear he; intro a he
           refine qyg (v := eaddr v44 9 y50.toNat 6) he (y_fieldAddrE (i := y50.toNat) (j := 0) (Rd.st hs (.head _)) rfl hb98 (FO.of (off := 6) Tryd.underlying42 rfl rfl ti3 (by decide))) ?_; clear he; intro a he
           refine qyg (v := .int .i64 (x92.Last)) he (y_loadE (i := y50.toNat) (j := 6) (Rd.st hs (.head _)) rfl hr95 rfl Tryd.underlying3 rfl) ?_; clear he; intro a he
           refine qyg he (y_neq rfl rfl) ?_; clear he; intro a he
           refine qy (v := .bool (decide (x80.Last ≠ x92.Last))) he (y_pick rfl rfl) ?_; clear he; intro a he
           refine qy (v := .bool (decide (x80.Last ≠ x92.Last))) he (y_move rfl) ?_; clear he; intro a he
           refine Ev.split he (t := 174) rfl (fun hg104 hq => ?_) (fun hg104 hq => ?_)
           ·clear he; have he := hq; clear hq
            replace hm := oc_t hg104 hm
            refine qno he ?_; clear he; intro a he
            refine qno he ?_; clear he; intro a he
            refine qno he ?_; clear he; intro a he
            refine qno he ?_; clear he; intro a he
            refine qno he ?_; clear he; intro a he
            refine qno he ?_; clear he; intro a he
            refine qno he ?_; clear he; intro a he
            refine qno he ?_; clear he; intro a he
            refine qno he ?_; clear he; intro a he
            refine qno he ?_; clear he; intro a he
            refine qno he ?_; clear he; intro a he
            refine qy (v := .bool (true)) he (y_pick rfl rfl) ?_; clear he; intro a he
            refine qy (v := .bool (true)) he (y_move rfl) ?_; clear he; intro a he
            refine qno he ?_; clear he; intro a he
            refine qno he ?_; clear he; intro a he
            refine qno he ?_; clear he; intro a he
            refine qno he ?_; clear he; intro a he
            refine qno he ?_; clear he; intro a he
            refine qno he ?_; clear he; intro a he
            refine qno he ?_; clear he; intro a he
            refine qno he ?_; clear he; intro a he
            refine qno he ?_; clear he; intro a he
            refine qno he ?_; clear he; intro a he
            refine qno he ?_; clear he; intro a he
            refine qy (v := .bool (true)) he (y_pick rfl rfl) ?_; clear he; intro a he
            refine QL_nil he ?_; clear he; (try clear hs); intro a w hs
            exact ⟨true, hm, hs.sub ⟨rfl, rfl, rfl, rfl, rfl, trivial⟩⟩
           ·clear he; have he := hq; clear hq
            replace hm := oc_f hg104 hm
            refine qyg (v := v1) he (y_move rfl) ?_; clear he; intro a he
            refine qyg (v := .int .i64 (y50)) he (y_move rfl) ?_; clear he; intro a he
            obtain ⟨x105, hx106, hm⟩ := ob hm
            obtain ⟨r107, hr108, hq109, hi110, hb111⟩ := hW4.geti hx106
            obtain ⟨v112, rfl, ⟨rw113, hR114, hW115⟩⟩ := hq109
            refine qyg he (y_indexAddr hR3 rfl rfl hi110 hb111 Tryd.underlying22 ti42) ?_; clear he; intro a he
            refine qyg (v := eaddr v1 9 y50.toNat 7) he (y_fieldAddrE (i := y50.toNat) (j := 0) hR3 rfl hb111 (FO.of (off := 7) Tryd.underlying42 rfl rfl ti3 (by decide))) ?_; clear he; intro a he
            refine qyg (v := .int .i64 (x105.Prev)) he (y_loadE (i := y50.toNat) (j := 7) hR3.up rfl hr108 rfl Tryd.underlying3 rfl) ?_; clear he; intro a he
            refine qyg (v := v44) he (y_move rfl) ?_; clear he; intro a he
            refine qyg (v := .int .i64 (y50)) he (y_move rfl) ?_; clear he; intro a he
            obtain ⟨x117, hx118, hm⟩ := ob hm
            obtain ⟨r119, hr120, hq121, hi122, hb123⟩ := hW46.geti hx118
            obtain ⟨v124, rfl, ⟨rw125, hR126, hW127⟩⟩ := hq121
            refine qyg he (y_indexAddr (Rd.st hs (.head _)) rfl rfl hi122 hb123 Tryd.underlying22 ti42) ?_; clear he; intro a he
            refine qyg (v := eaddr v44 9 y50.toNat 7) he (y_fieldAddrE (i := y50.toNat) (j := 0) (Rd.st hs (.head _)) rfl hb123 (FO.of (off := 7) Tryd.underlying42 rfl rfl ti3 (by decide))) ?_; clear he; intro a he
            refine qyg (v := .int .i64 (x117.Prev)) he (y_loadE (i := y50.toNat) (j := 7) (Rd.st hs (.head _)) rfl hr120 rfl Tryd.underlying3 rfl) ?_; clear he; intro a he
            refine qyg he (y_neq rfl rfl) ?_; clear he; intro a he
            refine qy (v := .bool (decide (x105.Prev ≠ x117.Prev))) he (y_pick rfl rfl) ?_; clear he; intro a he
            refine qy (v := .bool (decide (x105.Prev ≠ x117.Prev))) he (y_move rfl) ?_; clear he; intro a he
            refine Ev.split he (t := 187) rfl (fun hg129 hq => ?_) (fun hg129 hq => ?_)
            ·clear he; have he := hq; clear hq
             replace hm := oc_t hg129 hm
             refine qno he ?_; clear he; intro a he
             refine qno he ?_; clear he; intro a he
             refine qno he ?_; clear he; intro a he
             refine qno he ?_; clear he; intro a he
             refine qno he ?_; clear he; intro a he
             refine qno he ?_; clear he; intro a he
             refine qno he ?_; clear he; intro a he
             refine qno he ?_; clear he; intro a he
             refine qno he ?_; clear he; intro a he
             refine qno he ?_; clear he; intro a he
             refine qno he ?_; clear he; intro a he
             refine qy (v := .bool (true)) he (y_pick rfl rfl) ?_; clear he; intro a he
             refine QL_nil he ?_; clear he; (try clear hs); intro a w hs
             exact ⟨true, hm, hs.sub ⟨rfl, rfl, rfl, rfl, rfl, trivial⟩⟩
            ·clear he; have he := hq; clear hq
             replace hm := oc_f hg129 hm
             refine qyg (v := v1) he (y_move rfl) ?_; clear he; intro a he
             refine qyg (v := .int .i64 (y50)) he (y_move rfl) ?_; clear he; intro a he
             obtain ⟨x130, hx131, hm⟩ := ob hm
             obtain ⟨r132, hr133, hq134, hi135, hb136⟩ := hW4.geti hx131
             obtain ⟨v137, rfl, ⟨rw138, hR139, hW140⟩⟩ := hq134
             refine qyg he (y_indexAddr hR3 rfl rfl hi135 hb136 Tryd.underlying22 ti42) ?_; clear he; intro a he
             refine qyg (v := eaddr v1 9 y50.toNat 8) he (y_fieldAddrE (i := y50.toNat) (j := 0) hR3 rfl hb136 (FO.of (off := 8) Tryd.underlying42 rfl rfl ti3 (by decide))) ?_; clear he; intro a he
             refine qyg (v := .int .i64 (x130.Next)) he (y_loadE (i := y50.toNat) (j := 8) hR3.up rfl hr133 rfl Tryd.underlying3 rfl) ?_; clear he; intro a he
             refine qyg (v := v44) he (y_move rfl) ?_; clear he; intro a he
             refine qyg (v := .int .i64 (y50)) he (y_move rfl) ?_; clear he; intro a he
             obtain ⟨x142, hx143, hm⟩ := ob hm
             obtain ⟨r144, hr145, hq146, hi147, hb148⟩ := hW46.geti hx143
             obtain ⟨v149, rfl, ⟨rw150, hR151, hW152⟩⟩ := hq146
             refine qyg he (y_indexAddr (Rd.st hs (.head _)) rfl rfl hi147 hb148 Tryd.underlying22 ti42) ?_; clear he; intro a he
             refine qyg (v := eaddr v44 9 y50.toNat 8) he (y_fieldAddrE (i := y50.toNat) (j := 0) (Rd.st hs (.head _)) rfl hb148 (FO.of (off := 8) Tryd.underlying42 rfl rfl ti3 (by decide))) ?_; clear he; intro a he
             refine qyg (v := .int .i64 (x142.Next)) he (y_loadE (i := y50.toNat) (j := 8) (Rd.st hs (.head _)) rfl hr145 rfl Tryd.underlying3 rfl) ?_; clear he; intro a he
             refine qyg he (y_neq rfl rfl) ?_; clear he; intro a he
             refine qy (v := .bool (decide (x130.Next ≠ x142.Next))) he (y_pick rfl rfl) ?_; clear he; intro a he
             refine QL_nil he ?_; clear he; (try clear hs); intro a w hs
             exact ⟨decide (x130.Next ≠ x142.Next), hm, hs.sub ⟨rfl, rfl, rfl, rfl, rfl, trivial⟩⟩
        ·replace hm := oc_f hg52 hm
         refine W_exit ?_
         refine hB24 _ _ ?_
         exact ⟨hm, hs.subs ⟨rfl, trivial⟩ (.cons _ (.refl _))⟩
     ·refine W_block fun Qe32 hB32 hO32 => ?_
      refine W_loop (fun (k : Nat) a w => ∃ (y154 : (List api_Node)) (y159 : Int) (y160 : (List Int)) (y165 : Int) (v155 : Value) (rw156 : List (List Value)) (v161 : Value) (rw162 : List (List Value)), ref5_Right_l6 n p0 k y154 y159 y160 y165 = some res ∧ RW t_api_Node f rw156 y154 ∧ RW (tInt .i64) f rw162 y160 ∧ St 202 w0 f (.row v161 3 1 rw162 :: .row v155 42 9 rw156 :: L) [(3, v1), (4, v155), (5, .int .i64 (y159)), (6, v161), (7, .int .i64 (y165))] a w) (fun k => k) n ⟨x38, 1, [0], 0, v14, rw40, v20, rw22, hm, hW41, hW21, hs.sub ⟨rfl, rfl, rfl, rfl, rfl, trivial⟩⟩ ?_
      clear hs hm
      intro k
      rintro a w ⟨y154, y159, y160, y165, v155, rw156, v161, rw162, hm, hW157, hW163, hs⟩
      replace hs : St _ _ _ (.row v161 3 1 rw162 :: .row v155 42 9 rw156 :: L) _ _ _ := hs
      intro K33 hK33
      cases k with
      | zero => simp [ref5_Right_l6] at hm
      | succ k166 =>
       rw [ref5_Right_l6] at hm
       refine W_seq fun K34 hK34 => ?_
       refine W_seq fun K35 hK35 => ?_
       refine W_region ?_
       refine sy (v := .int .i64 (y165)) hs (y_move rfl) ?_; clear hs; intro a w hs
       refine sy (v := v1) hs (y_move rfl) ?_; clear hs; intro a w hs
       refine sy hs (y_lenW hR3 hW4 rfl Tryd.underlying22) ?_; clear hs; intro a w hs
       refine sy hs (y_lss rfl rfl) ?_; clear hs; intro a w hs
       refine RL_nil ?_
       refine hK35 _ _ ?_; clear hK35
       refine W_cond hs rfl (fun hg167 => ?_) (fun hg167 => ?_)
       ·replace hm := oc_t hg167 hm
        refine W_skip ?_
        refine hK34 _ _ ?_; clear hK34
        refine W_seq fun K36 hK36 => ?_
        refine W_post (fun a w => ∃ (y168 : (List api_Node)) (y173 : Int) (y174 : (List Int)) (v169 : Value) (rw170 : List (List Value)) (v175 : Value) (rw176 : List (List Value)), ref5_Right_k7 y165 (ref5_Right_l6 n p0 k166) y168 y173 y174 = some res ∧ RW t_api_Node f rw170 y168 ∧ RW (tInt .i64) f rw176 y174 ∧ St 202 w0 f (.row v175 3 1 rw176 :: .row v169 42 9 rw170 :: L) [(3, v1), (4, v169), (5, .int .i64 (y173)), (6, v175), (7, .int .i64 (y165))] a w) ?_ ?_
        ·clear hs hm
         rintro a w ⟨y168, y173, y174, v169, rw170, v175, rw176, hm, hW171, hW177, hs⟩
         replace hs : St _ _ _ (.row v175 3 1 rw176 :: .row v169 42 9 rw170 :: L) _ _ _ := hs
         unfold ref5_Right_k7 at hm
         refine hK36 _ _ ?_; clear hK36
         refine W_region ?_
         refine sy (v := .int .i64 (y165)) hs (y_move rfl) ?_; clear hs; intro a w hs
         refine sy hs (y_add rfl rfl rfl) ?_; clear hs; intro a w hs
         refine sy (v := .int .i64 ((w64 (y165 + 1)))) hs (y_assign rfl) ?_; clear hs; intro a w hs
         refine RL_nil ?_
         exact hK33 k166 _ _ (Nat.lt_succ_self _) ⟨y168, y173, y174, (w64 (y165 + 1)), v169, rw170, v175, rw176, hm, hW171, hW177, hs.sub ⟨rfl, rfl, rfl, rfl, rfl, trivial⟩⟩
        ·refine W_block fun Qe37 hB37 hO37 => ?_
         refine W_seq fun K38 hK38 => ?_
         refine W_seq fun K39 hK39 => ?_
         refine W_region ?_
         refine sy (v := v1) hs (y_move rfl) ?_; clear hs; intro a w hs
         refine sy (v := .int .i64 (y165)) hs (y_move rfl) ?_; clear hs; intro a w hs
         obtain ⟨x179, hx180, hm⟩ := ob hm
         obtain ⟨r181, hr182, hq183, hi184, hb185⟩ := hW4.geti hx180
         obtain ⟨v186, rfl, ⟨rw187, hR188, hW189⟩⟩ := hq183
         refine sy hs (y_indexAddr hR3 rfl rfl hi184 hb185 Tryd.underlying22 ti42) ?_; clear hs; intro a w hs
         refine sy hs (y_loadRow hR3.up rfl hr182 Tryd.underlying42 rfl ti42) ?_; clear hs; intro a w hs
         obtain ⟨x191, hx192, hm⟩ := ob hm
         refine sy hs (y_call rfl has43 rfl (ref5_plain_ok n (f := f) (a0 := [.int .i64 (x179.Kind), .string (x179.Name), .string (x179.Text), v186, .int .i64 (x179.Parent), .int .i64 (x179.First), .int .i64 (x179.Last), .int .i64 (x179.Prev), .int .i64 (x179.Next)]) ⟨_, rfl, ⟨rw187, hR188, hW189⟩⟩ hx192)) ?_; clear hs; intro a w hs
         refine sy (v := .bool ((!x191))) hs (y_not rfl) ?_; clear hs; intro a w hs
         refine RL_nil ?_
         refine hK39 _ _ ?_; clear hK39
         refine W_cond hs rfl (fun hg193 => ?_) (fun hg193 => ?_)
         ·replace hm := oc_t hg193 hm
          refine W_seq fun K40 hK40 => ?_
          refine W_region ?_
          refine sy (v := .int .i64 (10)) hs (y_assign rfl) ?_; clear hs; intro a w hs
          refine RL_nil ?_
          refine hK40 _ _ ?_; clear hK40
          refine W_ret ?_
          obtain rfl := Option.some.inj hm
          refine RtV1 hs rfl (rv_t hs rfl) ?_
          exact ⟨rfl, ((hs.subL (.cons _ (.cons _ (.refl _)))).weak hle).cw⟩
         ·replace hm := oc_f hg193 hm
          refine W_skip ?_
          refine hK38 _ _ ?_; clear hK38
          refine W_seq fun K41 hK41 => ?_
          refine W_seq fun K42 hK42 => ?_
          refine W_region ?_
          refine sy (v := .int .i64 (y165)) hs (y_move rfl) ?_; clear hs; intro a w hs
          refine sy hs (y_eql rfl rfl) ?_; clear hs; intro a w hs
          refine RL_nil ?_
          refine hK42 _ _ ?_; clear hK42
          refine W_cond hs rfl (fun hg194 => ?_) (fun hg194 => ?_)
          ·replace hm := oc_t hg194 hm
           refine W_exit ?_
           refine hB37 _ _ ?_
           exact ⟨y154, y159, y160, v155, rw156, v161, rw162, hm, hW157, hW163, hs.sub ⟨rfl, rfl, rfl, rfl, rfl, trivial⟩⟩
          ·replace hm := oc_f hg194 hm
           refine W_skip ?_
           refine hK41 _ _ ?_; clear hK41
           refine W_seq fun K43 hK43 => ?_
           refine W_region ?_
           refine sy (v := v1) hs (y_move rfl) ?_; clear hs; intro a w hs
           refine sy (v := .int .i64 (y165)) hs (y_move rfl) ?_; clear hs; intro a w hs
           obtain ⟨x195, hx196, hm⟩ := ob hm
           obtain ⟨r197, hr198, hq199, hi200, hb201⟩ := hW4.geti hx196
           obtain ⟨v202, rfl, ⟨rw203, hR204, hW205⟩⟩ := hq199
           refine sy hs (y_indexAddr hR3 rfl rfl hi200 hb201 Tryd.underlying22 ti42) ?_; clear hs; intro a w hs
           refine sy (v := eaddr v1 9 y165.toNat 4) hs (y_fieldAddrE (i := y165.toNat) (j := 0) hR3 rfl hb201 (FO.of (off := 4) Tryd.underlying42 rfl rfl ti3 (by decide))) ?_; clear hs; intro a w hs
           refine sy (v := .int .i64 (x195.Parent)) hs (y_loadE (i := y165.toNat) (j := 4) hR3.up rfl hr198 rfl Tryd.underlying3 rfl) ?_; clear hs; intro a w hs
           refine sy (v := .int .i64 (x195.Parent)) hs (y_assign rfl) ?_; clear hs; intro a w hs
           refine RL_nil ?_
           refine hK43 _ _ ?_; clear hK43
           refine W_seq fun K44 hK44 => ?_
           refine W_post (fun a w => ∃ (y207 : (List Int)) (v208 : Value) (rw209 : List (List Value)), ref5_Right_k8 p0 y154 y159 y165 (ref5_Right_l6 n p0 k166) x195 y207 = some res ∧ RW (tInt .i64) f rw209 y207 ∧ St 202 w0 f (.row v208 3 1 rw209 :: .row v155 42 9 rw156 :: L) [(3, v1), (4, v155), (5, .int .i64 (y159)), (6, v208), (7, .int .i64 (y165)), (8, .int .i64 (x195.Parent))] a w) ?_ ?_
           ·clear hs hm
            rintro a w ⟨y207, v208, rw209, hm, hW210, hs⟩
            replace hs : St _ _ _ (.row v208 3 1 rw209 :: .row v155 42 9 rw156 :: L) _ _ _ := hs
            unfold ref5_Right_k8 at hm
            refine hK44 _ _ ?_; clear hK44
            refine W_seq fun K45 hK45 => ?_
            refine W_seq fun K46 hK46 => ?_
            refine W_post (fun a w => ∃ (y212 : Bool), ref5_Right_k9 y154 y159 y165 (ref5_Right_l6 n p0 k166) x195 y207 y212 = some res ∧ St 202 w0 f (.row v208 3 1 rw209 :: .row v155 42 9 rw156 :: L) [(3, v1), (4, v155), (5, .int .i64 (y159)), (6, v208), (7, .int .i64 (y165)), (8, .int .i64 (x195.Parent)), (98, .bool (y212))] a w) ?_ ?_
            ·clear hs hm
             rintro a w ⟨y212, hm, hs⟩
             replace hs : St _ _ _ (.row v208 3 1 rw209 :: .row v155 42 9 rw156 :: L) _ _ _ := hs
             unfold ref5_Right_k9 at hm
             refine hK46 _ _ ?_; clear hK46
             refine W_cond hs rfl (fun hg213 => ?_) (fun hg213 => ?_)
             ·replace hm := oc_t hg213 hm
              refine W_seq fun K47 hK47 => ?_
              refine W_region ?_
              refine sy (v := .int .i64 (10)) hs (y_assign rfl) ?_; clear hs; intro a w hs
              refine RL_nil ?_
              refine hK47 _ _ ?_; clear hK47
              refine W_ret ?_
              obtain rfl := Option.some.inj hm
              refine RtV1 hs rfl (rv_t hs rfl) ?_
              exact ⟨rfl, ((hs.subL (.cons _ (.cons _ (.refl _)))).weak hle).cw⟩
             ·replace hm := oc_f hg213 hm
              refine W_skip ?_
              refine hK45 _ _ ?_; clear hK45
              refine W_seq fun K48 hK48 => ?_
              refine W_region ?_
              refine sy (v := v208) hs (y_move rfl) ?_; clear hs; intro a w hs
              refine sy (v := .int .i64 (y165)) hs (y_move rfl) ?_; clear hs; intro a w hs
              refine RL_bs1s hs rfl Tryd.underlying46 ti3 rfl rfl ?_; clear hs; intro v214 a w hs
              have hW215 : RW (tInt .i64) f [[.int .i64 (y165)]] [y165] := RW.single (rfl)
              generalize hgrw216 : ([[.int .i64 (y165)]] : List (List Value)) = rw216 at hs hW215; clear hgrw216
              replace hs : St _ _ _ (.row v214 3 1 rw216 :: .row v208 3 1 rw209 :: .row v155 42 9 rw156 :: L) _ _ _ := hs
              obtain ⟨x219, hx220, hm⟩ := ob hm
              obtain ⟨hbx219, hex219⟩ := appM_some hx220
              have hW223 := hW210.append hW215; rw [hex219] at hW223
              refine RL_append (i := 1) hs rfl rfl rfl (Rd.st hs (.head _)) Tryd.underlying46 ti3 (by decide) (by rw [RW.len hW210, RW.len hW215]; exact hbx219) (.free rfl) (by decide) ?_; clear hs; intro v221 a w hs
              generalize hgx219 : rw209 ++ rw216 = rw222 at hs hW223; clear hgx219
              replace hs := hs.erase 0
              replace hs : St _ _ _ (.row v221 3 1 rw222 :: .row v155 42 9 rw156 :: L) _ _ _ := hs
              refine sy (v := v221) hs (y_assign rfl) ?_; clear hs; intro a w hs
              refine RL_nil ?_
              refine hK48 _ _ ?_; clear hK48
              refine W_seq fun K49 hK49 => ?_
              refine W_seq fun K50 hK50 => ?_
              refine W_region ?_
              refine sy (v := v221) hs (y_move rfl) ?_; clear hs; intro a w hs
              refine sy hs (y_lenW (Rd.st hs (.head _)) hW223 rfl Tryd.underlying46) ?_; clear hs; intro a w hs
              refine sy (v := .int .i64 (y159)) hs (y_move rfl) ?_; clear hs; intro a w hs
              refine sy hs (y_gtr rfl rfl) ?_; clear hs; intro a w hs
              refine RL_nil ?_
              refine hK50 _ _ ?_; clear hK50
              refine W_post (fun a w => ∃ (y225 : Int), ref5_Right_k10 y154 y165 (ref5_Right_l6 n p0 k166) x195 x219 y225 = some res ∧ St 202 w0 f (.row v221 3 1 rw222 :: .row v155 42 9 rw156 :: L) [(3, v1), (4, v155), (5, .int .i64 (y225)), (6, v221), (7, .int .i64 (y165)), (8, .int .i64 (x195.Parent))] a w) ?_ ?_
              ·clear hs hm
               rintro a w ⟨y225, hm, hs⟩
               replace hs : St _ _ _ (.row v221 3 1 rw222 :: .row v155 42 9 rw156 :: L) _ _ _ := hs
               unfold ref5_Right_k10 at hm
               refine hK49 _ _ ?_; clear hK49
               refine W_seq fun K51 hK51 => ?_
               refine W_region ?_
               refine sy (v := v155) hs (y_move rfl) ?_; clear hs; intro a w hs
               refine sy (v := .int .i64 (y165)) hs (y_move rfl) ?_; clear hs; intro a w hs
               refine sy (v := .int .i64 (x195.Parent)) hs (y_move rfl) ?_; clear hs; intro a w hs
               refine sy (v := v155) hs (y_move rfl) ?_; clear hs; intro a w hs
               refine sy (v := .int .i64 (x195.Parent)) hs (y_move rfl) ?_; clear hs; intro a w hs
               obtain ⟨x226, hx227, hm⟩ := ob hm
               obtain ⟨r228, hr229, hq230, hi231, hb232⟩ := hW157.geti hx227
               obtain ⟨v233, rfl, ⟨rw234, hR235, hW236⟩⟩ := hq230
               refine sy hs (y_indexAddr (Rd.st hs (.tail _ (.head _))) rfl rfl hi231 hb232 Tryd.underlying22 ti42) ?_; clear hs; intro a w hs
               refine sy (v := eaddr v155 9 x195.Parent.toNat 6) hs (y_fieldAddrE (i := x195.Parent.toNat) (j := 0) (Rd.st hs (.tail _ (.head _))) rfl hb232 (FO.of (off := 6) Tryd.underlying42 rfl rfl ti3 (by decide))) ?_; clear hs; intro a w hs
               refine sy (v := .int .i64 (x226.Last)) hs (y_loadE (i := x195.Parent.toNat) (j := 6) (Rd.st hs (.tail _ (.head _))) rfl hr229 rfl Tryd.underlying3 rfl) ?_; clear hs; intro a w hs
               refine sy hs (y_buildS (places := [(0, 1), (1, 1), (2, 1), (3, 1), (4, 1), (5, 1), (6, 1), (7, 1), (8, 1)]) (cs := [.int .i64 (0), .string ((bs [])), .string ((bs [])), (.slice none 0 0), .int .i64 (x195.Parent), .int .i64 ((-1)), .int .i64 ((-1)), .int .i64 (x226.Last), .int .i64 ((-1))]) rfl Tryd.underlying42 ti42 (by kernel_rfl) (by decide) rfl ⟨rfl, rfl, rfl, rfl, rfl, trivial⟩) ?_; clear hs; intro a w hs
               obtain ⟨x239, hx240, hm⟩ := ob hm
               obtain ⟨r241, hr242, hq243, hi244, hb245⟩ := hW157.geti hx240
               obtain ⟨v246, rfl, ⟨rw247, hR248, hW249⟩⟩ := hq243
               refine sy hs (y_indexAddr (Rd.st hs (.tail _ (.head _))) rfl rfl hi244 hb245 Tryd.underlying22 ti42) ?_; clear hs; intro a w hs
               obtain ⟨x251, hx252, hm⟩ := ob hm
               have hex251 := seti_some hx252
               have hW254 := RW.set (i := y165.toNat) (r := [.int .i64 (0), .string ((bs [])), .string ((bs [])), (.slice none 0 0), .int .i64 (x195.Parent), .int .i64 ((-1)), .int .i64 ((-1)), .int .i64 (x226.Last), .int .i64 ((-1))]) (x := (({Kind := 0, Name := (bs []), Text := (bs []), Attrs := ([] : List api_Attr), Parent := x195.Parent, First := (-1), Last := (-1), Prev := x226.Last, Next := (-1)} : api_Node) : api_Node)) hW157 (⟨_, rfl, RS.nil⟩); rw [hex251] at hW254
               refine RL_storeElem (i := 1) (m := y165.toNat) (r' := [.int .i64 (0), .string ((bs [])), .string ((bs [])), (.slice none 0 0), .int .i64 (x195.Parent), .int .i64 ((-1)), .int .i64 ((-1)), .int .i64 (x226.Last), .int .i64 ((-1))]) hs rfl rfl rfl hr242 ti42 (AllC.row ⟨rfl, rfl, rfl, rfl, rfl, rfl, rfl, rfl, rfl, trivial⟩ rfl) (.free rfl) ?_; clear hs; intro a w hs
               replace hs : St _ _ _ (.row v221 3 1 rw222 :: .row v155 42 9 (rw156.set y165.toNat [.int .i64 (0), .string ((bs [])), .string ((bs [])), (.slice none 0 0), .int .i64 (x195.Parent), .int .i64 ((-1)), .int .i64 ((-1)), .int .i64 (x226.Last), .int .i64 ((-1))]) :: L) _ _ _ := hs
               generalize hgrw253 : rw156.set y165.toNat [.int .i64 (0), .string ((bs [])), .string ((bs [])), (.slice none 0 0), .int .i64 (x195.Parent), .int .i64 ((-1)), .int .i64 ((-1)), .int .i64 (x226.Last), .int .i64 ((-1))] = rw253 at hs hW254; clear hgrw253
               replace hs : St _ _ _ (.row v221 3 1 rw222 :: .row v155 42 9 rw253 :: L) _ _ _ := hs
               refine RL_nil ?_
               refine hK51 _ _ ?_; clear hK51
               refine W_seq fun K52 hK52 => ?_
               refine W_seq fun K53 hK53 => ?_
               refine W_region ?_
               refine sy (v := v155) hs (y_move rfl) ?_; clear hs; intro a w hs
               refine sy (v := .int .i64 (x195.Parent)) hs (y_move rfl) ?_; clear hs; intro a w hs
               obtain ⟨x256, hx257, hm⟩ := ob hm
               obtain ⟨r258, hr259, hq260, hi261, hb262⟩ := hW254.geti hx257
               obtain ⟨v263, rfl, ⟨rw264, hR265, hW266⟩⟩ := hq260
               refine sy hs (y_indexAddr (Rd.st hs (.tail _ (.head _))) rfl rfl hi261 hb262 Tryd.underlying22 ti42) ?_; clear hs; intro a w hs
               refine sy (v := eaddr v155 9 x195.Parent.toNat 6) hs (y_fieldAddrE (i := x195.Parent.toNat) (j := 0) (Rd.st hs (.tail _ (.head _))) rfl hb262 (FO.of (off := 6) Tryd.underlying42 rfl rfl ti3 (by decide))) ?_; clear hs; intro a w hs
               refine sy (v := .int .i64 (x256.Last)) hs (y_loadE (i := x195.Parent.toNat) (j := 6) (Rd.st hs (.tail _ (.head _))) rfl hr259 rfl Tryd.underlying3 rfl) ?_; clear hs; intro a w hs
               refine sy hs (y_geq rfl rfl) ?_; clear hs; intro a w hs
               refine RL_nil ?_
               refine hK53 _ _ ?_; clear hK53
               refine W_post (fun a w => ∃ (y268 : (List api_Node)) (v269 : Value) (rw270 : List (List Value)), ref5_Right_k11 y165 (ref5_Right_l6 n p0 k166) x195 x219 y225 y268 = some res ∧ RW t_api_Node f rw270 y268 ∧ St 202 w0 f (.row v221 3 1 rw222 :: .row v269 42 9 rw270 :: L) [(3, v1), (4, v269), (5, .int .i64 (y225)), (6, v221), (7, .int .i64 (y165)), (8, .int .i64 (x195.Parent))] a w) ?_ ?_
               ·clear hs hm
                rintro a w ⟨y268, v269, rw270, hm, hW271, hs⟩
                replace hs : St _ _ _ (.row v221 3 1 rw222 :: .row v269 42 9 rw270 :: L) _ _ _ := hs
                unfold ref5_Right_k11 at hm
                refine hK52 _ _ ?_; clear hK52
                refine W_region ?_
                refine sy (v := v269) hs (y_move rfl) ?_; clear hs; intro a w hs
                refine sy (v := .int .i64 (x195.Parent)) hs (y_move rfl) ?_; clear hs; intro a w hs
                refine sy (v := .int .i64 (y165)) hs (y_move rfl) ?_; clear hs; intro a w hs
                obtain ⟨x273, hx274, hm⟩ := ob hm
                obtain ⟨r275, hr276, hq277, hi278, hb279⟩ := hW271.geti hx274
                obtain ⟨v280, rfl, ⟨rw281, hR282, hW283⟩⟩ := hq277
                refine sy hs (y_indexAddr (Rd.st hs (.tail _ (.head _))) rfl rfl hi278 hb279 Tryd.underlying22 ti42) ?_; clear hs; intro a w hs
                refine sy (v := eaddr v269 9 x195.Parent.toNat 6) hs (y_fieldAddrE (i := x195.Parent.toNat) (j := 0) (Rd.st hs (.tail _ (.head _))) rfl hb279 (FO.of (off := 6) Tryd.underlying42 rfl rfl ti3 (by decide))) ?_; clear hs; intro a w hs
                obtain ⟨x285, hx286, hm⟩ := ob hm
                have hex285 := seti_some hx286
                have hW288 := RW.set (i := x195.Parent.toNat) (r := [.int .i64 (x273.Kind), .string (x273.Name), .string (x273.Text), v280, .int .i64 (x273.Parent), .int .i64 (x273.First), .int .i64 (y165), .int .i64 (x273.Prev), .int .i64 (x273.Next)]) (x := (({x273 with Last := y165} : api_Node) : api_Node)) hW271 (⟨_, rfl, ⟨rw281, hR282, hW283⟩⟩); rw [hex285] at hW288
                refine RL_storeRow (i := 1) (j := 6) (m := x195.Parent.toNat) hs rfl rfl rfl hr276 (by decide) ti3 rfl (.free rfl) ?_; clear hs; intro a w hs
                replace hs : St _ _ _ (.row v221 3 1 rw222 :: .row v269 42 9 (rw270.set x195.Parent.toNat [.int .i64 (x273.Kind), .string (x273.Name), .string (x273.Text), v280, .int .i64 (x273.Parent), .int .i64 (x273.First), .int .i64 (y165), .int .i64 (x273.Prev), .int .i64 (x273.Next)]) :: L) _ _ _ := hs
                generalize hgrw287 : rw270.set x195.Parent.toNat [.int .i64 (x273.Kind), .string (x273.Name), .string (x273.Text), v280, .int .i64 (x273.Parent), .int .i64 (x273.First), .int .i64 (y165), .int .i64 (x273.Prev), .int .i64 (x273.Next)] = rw287 at hs hW288; clear hgrw287
                replace hs : St _ _ _ (.row v221 3 1 rw222 :: .row v269 42 9 rw287 :: L) _ _ _ := hs
                refine RL_nil ?_
                exact ⟨x285, y225, x219, v269, rw287, v221, rw222, hm, hW288, hW223, hs.sub ⟨rfl, rfl, rfl, rfl, rfl, trivial⟩⟩
               ·refine W_cond hs rfl (fun hg290 => ?_) (fun hg290 => ?_)
                ·replace hm := oc_t hg290 hm
                 refine W_region ?_
                 refine sy (v := v155) hs (y_move rfl) ?_; clear hs; intro a w hs
                 refine sy (v := v155) hs (y_move rfl) ?_; clear hs; intro a w hs
                 refine sy (v := .int .i64 (x195.Parent)) hs (y_move rfl) ?_; clear hs; intro a w hs
                 obtain ⟨x291, hx292, hm⟩ := ob hm
                 obtain ⟨r293, hr294, hq295, hi296, hb297⟩ := hW254.geti hx292
                 obtain ⟨v298, rfl, ⟨rw299, hR300, hW301⟩⟩ := hq295
                 refine sy hs (y_indexAddr (Rd.st hs (.tail _ (.head _))) rfl rfl hi296 hb297 Tryd.underlying22 ti42) ?_; clear hs; intro a w hs
                 refine sy (v := eaddr v155 9 x195.Parent.toNat 6) hs (y_fieldAddrE (i := x195.Parent.toNat) (j := 0) (Rd.st hs (.tail _ (.head _))) rfl hb297 (FO.of (off := 6) Tryd.underlying42 rfl rfl ti3 (by decide))) ?_; clear hs; intro a w hs
                 refine sy (v := .int .i64 (x291.Last)) hs (y_loadE (i := x195.Parent.toNat) (j := 6) (Rd.st hs (.tail _ (.head _))) rfl hr294 rfl Tryd.underlying3 rfl) ?_; clear hs; intro a w hs
                 refine sy (v := .int .i64 (y165)) hs (y_move rfl) ?_; clear hs; intro a w hs
                 obtain ⟨x303, hx304, hm⟩ := ob hm
                 obtain ⟨r305, hr306, hq307, hi308, hb309⟩ := hW254.geti hx304
                 obtain ⟨v310, rfl, ⟨rw311, hR312, hW313⟩⟩ := hq307
                 refine sy hs (y_indexAddr (Rd.st hs (.tail _ (.head _))) rfl rfl hi308 hb309 Tryd.underlying22 ti42) ?_; clear hs; intro a w hs
                 refine sy (v := eaddr v155 9 x291.Last.toNat 8) hs (y_fieldAddrE (i := x291.Last.toNat) (j := 0) (Rd.st hs (.tail _ (.head _))) rfl hb309 (FO.of (off := 8) Tryd.underlying42 rfl rfl ti3 (by decide))) ?_; clear hs; intro a w hs
                 obtain ⟨x315, hx316, hm⟩ := ob hm
                 have hex315 := seti_some hx316
                 have hW318 := RW.set (i := x291.Last.toNat) (r := [.int .i64 (x303.Kind), .string (x303.Name), .string (x303.Text), v310, .int .i64 (x303.Parent), .int .i64 (x303.First), .int .i64 (x303.Last), .int .i64 (x303.Prev), .int .i64 (y165)]) (x := (({x303 with Next := y165} : api_Node) : api_Node)) hW254 (⟨_, rfl, ⟨rw311, hR312, hW313⟩⟩); rw [hex315] at hW318
                 refine RL_storeRow (i := 1) (j := 8) (m := x291.Last.toNat) hs rfl rfl rfl hr306 (by decide) ti3 rfl (.free rfl) ?_; clear hs; intro a w hs
                 replace hs : St _ _ _ (.row v221 3 1 rw222 :: .row v155 42 9 (rw253.set x291.Last.toNat [.int .i64 (x303.Kind), .string (x303.Name), .string (x303.Text), v310, .int .i64 (x303.Parent), .int .i64 (x303.First), .int .i64 (x303.Last), .int .i64 (x303.Prev), .int .i64 (y165)]) :: L) _ _ _ := hs
                 generalize hgrw317 : rw253.set x291.Last.toNat [.int .i64 (x303.Kind), .string (x303.Name), .string (x303.Text), v310, .int .i64 (x303.Parent), .int .i64 (x303.First), .int .i64 (x303.Last), .int .i64 (x303.Prev), .int .i64 (y165)] = rw317 at hs hW318; clear hgrw317
                 replace hs : St _ _ _ (.row v221 3 1 rw222 :: .row v155 42 9 rw317 :: L) _ _ _ := hs
                 refine RL_nil ?_
                 exact ⟨x315, v155, rw317, hm, hW318, hs.sub ⟨rfl, rfl, rfl, rfl, rfl, rfl, trivial⟩⟩
                ·replace hm := oc_f hg290 hm
                 refine W_region ?_
                 refine sy (v := v155) hs (y_move rfl) ?_; clear hs; intro a w hs
                 refine sy (v := .int .i64 (x195.Parent)) hs (y_move rfl) ?_; clear hs; intro a w hs
                 refine sy (v := .int .i64 (y165)) hs (y_move rfl) ?_; clear hs; intro a w hs
                 obtain ⟨x320, hx321, hm⟩ := ob hm
                 obtain ⟨r322, hr323, hq324, hi325, hb326⟩ := hW254.geti hx321
                 obtain ⟨v327, rfl, ⟨rw328, hR329, hW330⟩⟩ := hq324
                 refine sy hs (y_indexAddr (Rd.st hs (.tail _ (.head _))) rfl rfl hi325 hb326 Tryd.underlying22 ti42) ?_; clear hs; intro a w hs
                 refine sy (v := eaddr v155 9 x195.Parent.toNat 5) hs (y_fieldAddrE (i := x195.Parent.toNat) (j := 0) (Rd.st hs (.tail _ (.head _))) rfl hb326 (FO.of (off := 5) Tryd.underlying42 rfl rfl ti3 (by decide))) ?_; clear hs; intro a w hs
                 obtain ⟨x332, hx333, hm⟩ := ob hm
                 have hex332 := seti_some hx333
                 have hW335 := RW.set (i := x195.Parent.toNat) (r := [.int .i64 (x320.Kind), .string (x320.Name), .string (x320.Text), v327, .int .i64 (x320.Parent), .int .i64 (y165), .int .i64 (x320.Last), .int .i64 (x320.Prev), .int .i64 (x320.Next)]) (x := (({x320 with First := y165} : api_Node) : api_Node)) hW254 (⟨_, rfl, ⟨rw328, hR329, hW330⟩⟩); rw [hex332] at hW335
                 refine RL_storeRow (i := 1) (j := 5) (m := x195.Parent.toNat) hs rfl rfl rfl hr323 (by decide) ti3 rfl (.free rfl) ?_; clear hs; intro a w hs
                 replace hs : St _ _ _ (.row v221 3 1 rw222 :: .row v155 42 9 (rw253.set x195.Parent.toNat [.int .i64 (x320.Kind), .string (x320.Name), .string (x320.Text), v327, .int .i64 (x320.Parent), .int .i64 (y165), .int .i64 (x320.Last), .int .i64 (x320.Prev), .int .i64 (x320.Next)]) :: L) _ _ _ := hs
                 generalize hgrw334 : rw253.set x195.Parent.toNat [.int .i64 (x320.Kind), .string (x320.Name), .string (x320.Text), v327, .int .i64 (x320.Parent), .int .i64 (y165), .int .i64 (x320.Last), .int .i64 (x320.Prev), .int .i64 (x320.Next)] = rw334 at hs hW335; clear hgrw334
                 replace hs : St _ _ _ (.row v221 3 1 rw222 :: .row v155 42 9 rw334 :: L) _ _ _ := hs
                 refine RL_nil ?_
                 exact ⟨x332, v155, rw334, hm, hW335, hs.sub ⟨rfl, rfl, rfl, rfl, rfl, rfl, trivial⟩⟩
              ·refine W_cond hs rfl (fun hg337 => ?_) (fun hg337 => ?_)
               ·replace hm := oc_t hg337 hm
                refine W_region ?_
                refine sy (v := v221) hs (y_move rfl) ?_; clear hs; intro a w hs
                refine sy hs (y_lenW (Rd.st hs (.head _)) hW223 rfl Tryd.underlying46) ?_; clear hs; intro a w hs
                refine sy (v := .int .i64 ((x219.length : Int))) hs (y_assign rfl) ?_; clear hs; intro a w hs
                refine RL_nil ?_
                exact ⟨(x219.length : Int), hm, hs.sub ⟨rfl, rfl, rfl, rfl, rfl, rfl, trivial⟩⟩
               ·replace hm := oc_f hg337 hm
                refine W_skip ?_
                exact ⟨y159, hm, hs.sub ⟨rfl, rfl, rfl, rfl, rfl, rfl, trivial⟩⟩
            ·refine W_region ?_
             refine sy (v := v208) hs (y_move rfl) ?_; clear hs; intro a w hs
             refine sy hs (y_lenW (Rd.st hs (.head _)) hW210 rfl Tryd.underlying46) ?_; clear hs; intro a w hs
             refine sy hs (y_eql rfl rfl) ?_; clear hs; intro a w hs
             refine sy (v := .bool (decide ((y207.length : Int) = 0))) hs (y_move rfl) ?_; clear hs; intro a w hs
             refine St.split hs (t := 91) rfl (fun hg338 hq => ?_) (fun hg338 hq => ?_)
             ·clear hs; have hs := hq; clear hq
              replace hm := oc_t hg338 hm
              refine sno hs ?_; clear hs; intro a w hs
              refine sno hs ?_; clear hs; intro a w hs
              refine sno hs ?_; clear hs; intro a w hs
              refine sno hs ?_; clear hs; intro a w hs
              refine sno hs ?_; clear hs; intro a w hs
              refine sno hs ?_; clear hs; intro a w hs
              refine sy (v := .bool (true)) hs (y_pick rfl rfl) ?_; clear hs; intro a w hs
              refine RL_nil ?_
              exact ⟨true, hm, hs.sub ⟨rfl, rfl, rfl, rfl, rfl, rfl, rfl, trivial⟩⟩
             ·clear hs; have hs := hq; clear hq
              replace hm := oc_f hg338 hm
              refine syg (v := v1) hs (y_move rfl) ?_; clear hs; intro a w hs
              refine syg (v := .int .i64 (x195.Parent)) hs (y_move rfl) ?_; clear hs; intro a w hs
              obtain ⟨x339, hx340, hm⟩ := ob hm
              obtain ⟨r341, hr342, hq343, hi344, hb345⟩ := hW4.geti hx340
              obtain ⟨v346, rfl, ⟨rw347, hR348, hW349⟩⟩ := hq343
              refine syg hs (y_indexAddr hR3 rfl rfl hi344 hb345 Tryd.underlying22 ti42) ?_; clear hs; intro a w hs
              refine syg (v := eaddr v1 9 x195.Parent.toNat 0) hs (y_fieldAddrE (i := x195.Parent.toNat) (j := 0) hR3 rfl hb345 (FO.of (off := 0) Tryd.underlying42 rfl rfl ti3 (by decide))) ?_; clear hs; intro a w hs
              refine syg (v := .int .i64 (x339.Kind)) hs (y_loadE (i := x195.Parent.toNat) (j := 0) hR3.up rfl hr342 rfl Tryd.underlying3 rfl) ?_; clear hs; intro a w hs
              refine syg hs (y_neq rfl rfl) ?_; clear hs; intro a w hs
              refine sy (v := .bool (decide (x339.Kind ≠ 1))) hs (y_pick rfl rfl) ?_; clear hs; intro a w hs
              refine RL_nil ?_
              exact ⟨decide (x339.Kind ≠ 1), hm, hs.sub ⟨rfl, rfl, rfl, rfl, rfl, rfl, rfl, trivial⟩⟩
           ·refine W_block fun Qe54 hB54 hO54 => ?_
            refine W_loop (fun (k : Nat) a w => ∃ (y351 : (List Int)) (v352 : Value) (rw353 : List (List Value)), ref5_Right_l12 p0 y154 y159 y165 (ref5_Right_l6 n p0 k166) x195 k y351 = some res ∧ RW (tInt .i64) f rw353 y351 ∧ St 202 w0 f (.row v352 3 1 rw353 :: .row v155 42 9 rw156 :: L) [(3, v1), (4, v155), (5, .int .i64 (y159)), (6, v352), (7, .int .i64 (y165)), (8, .int .i64 (x195.Parent))] a w) (fun k => k) n ⟨y160, v161, rw162, hm, hW163, hs.sub ⟨rfl, rfl, rfl, rfl, rfl, rfl, trivial⟩⟩ ?_
            clear hs hm
            intro k
            rintro a w ⟨y351, v352, rw353, hm, hW354, hs⟩
            replace hs : St _ _ _ (.row v352 3 1 rw353 :: .row v155 42 9 rw156 :: L) _ _ _ := hs
            intro K55 hK55
            cases k with
            | zero => simp [ref5_Right_l12] at hm
            | succ k356 =>
             rw [ref5_Right_l12] at hm
             refine W_seq fun K56 hK56 => ?_
             refine W_seq fun K57 hK57 => ?_
             refine W_post (fun a w => ∃ (y357 : Bool), ref5_Right_k13 p0 y154 y159 y165 (ref5_Right_l6 n p0 k166) x195 y351 (ref5_Right_l12 p0 y154 y159 y165 (ref5_Right_l6 n p0 k166) x195 k356) y357 = some res ∧ St 202 w0 f (.row v352 3 1 rw353 :: .row v155 42 9 rw156 :: L) [(3, v1), (4, v155), (5, .int .i64 (y159)), (6, v352), (7, .int .i64 (y165)), (8, .int .i64 (x195.Parent)), (82, .bool (y357))] a w) ?_ ?_
             ·clear hs hm
              rintro a w ⟨y357, hm, hs⟩
              replace hs : St _ _ _ (.row v352 3 1 rw353 :: .row v155 42 9 rw156 :: L) _ _ _ := hs
              unfold ref5_Right_k13 at hm
              refine hK57 _ _ ?_; clear hK57
              refine W_cond hs rfl (fun hg358 => ?_) (fun hg358 => ?_)
              ·replace hm := oc_t hg358 hm
               refine W_skip ?_
               refine hK56 _ _ ?_; clear hK56
               refine W_block fun Qe58 hB58 hO58 => ?_
               refine W_region ?_
               refine sy (v := v352) hs (y_move rfl) ?_; clear hs; intro a w hs
               refine sy (v := v352) hs (y_move rfl) ?_; clear hs; intro a w hs
               refine sy hs (y_lenW (Rd.st hs (.head _)) hW354 rfl Tryd.underlying46) ?_; clear hs; intro a w hs
               refine sy hs (y_sub rfl rfl rfl) ?_; clear hs; intro a w hs
               obtain ⟨x359, hx360, hm⟩ := ob hm
               obtain ⟨⟨hlx359, hhx359, h1x359, h2x359⟩, hex359⟩ := cutM_some hx360
               have hW361 := (hW354.take (w64 ((y351.length : Int) - 1)).toNat).drop (Int.toNat 0); rw [hex359] at hW361
               simp only [Int.toNat_zero, List.drop_zero] at hW361
               refine sy hs (y_slice (lo := (0 : Nat)) (hi := (w64 ((y351.length : Int) - 1)).toNat) rfl Tryd.underlying46 ti3 (.inl ⟨rfl, rfl⟩) (.inr ⟨_, rfl, by rw [← hhx359]; rfl⟩) h1x359 (by rw [RW.len hW354]; exact h2x359) (Rd.st hs (.head _))) ?_; clear hs; intro a w hs
               replace hs := hs.shrink (i := 0) rfl (m := (w64 ((y351.length : Int) - 1)).toNat) (by rw [RW.len hW354]; exact h2x359)
               generalize hgrw363 : List.take _ rw353 = rw363 at hs hW361; clear hgrw363
               generalize hgv364 : cutv v352 1 0 _ = v364 at hs; clear hgv364
               replace hs : St _ _ _ (.row v364 3 1 rw363 :: .row v155 42 9 rw156 :: L) _ _ _ := hs
               refine sy (v := v364) hs (y_assign rfl) ?_; clear hs; intro a w hs
               refine RL_nil ?_
               exact hK55 k356 _ _ (Nat.lt_succ_self _) ⟨x359, v364, rw363, hm, hW361, hs.sub ⟨rfl, rfl, rfl, rfl, rfl, rfl, trivial⟩⟩
              ·replace hm := oc_f hg358 hm
               refine W_exit ?_
               refine hB54 _ _ ?_
               exact ⟨y351, v352, rw353, hm, hW354, hs.sub ⟨rfl, rfl, rfl, rfl, rfl, rfl, trivial⟩⟩
             ·refine W_region ?_
              refine sy (v := v352) hs (y_move rfl) ?_; clear hs; intro a w hs
              refine sy hs (y_lenW (Rd.st hs (.head _)) hW354 rfl Tryd.underlying46) ?_; clear hs; intro a w hs
              refine sy hs (y_gtr rfl rfl) ?_; clear hs; intro a w hs
              refine sy (v := .bool (decide (0 < (y351.length : Int)))) hs (y_move rfl) ?_; clear hs; intro a w hs
              refine St.split hs (t := 73) rfl (fun hg366 hq => ?_) (fun hg366 hq => ?_)
              ·clear hs; have hs := hq; clear hq
               replace hm := oc_t hg366 hm
               refine syg (v := v352) hs (y_move rfl) ?_; clear hs; intro a w hs
               refine syg (v := v352) hs (y_move rfl) ?_; clear hs; intro a w hs
               refine syg hs (y_lenW (Rd.st hs (.head _)) hW354 rfl Tryd.underlying46) ?_; clear hs; intro a w hs
               refine syg hs (y_sub rfl rfl rfl) ?_; clear hs; intro a w hs
               obtain ⟨x367, hx368, hm⟩ := ob hm
               obtain ⟨r369, hr370, hq371, hi372, hb373⟩ := hW354.geti hx368
               obtain rfl : _ = ([.int .i64 (x367)] : List Value) := hq371
               refine syg hs (y_indexAddr (Rd.st hs (.head _)) rfl rfl hi372 hb373 Tryd.underlying46 ti3) ?_; clear hs; intro a w hs
               refine syg (v := .int .i64 (x367)) hs (y_loadE (i := (w64 ((y351.length : Int) - 1)).toNat) (j := 0) (Rd.st hs (.head _)) rfl hr370 rfl Tryd.underlying3 rfl) ?_; clear hs; intro a w hs
               refine syg (v := .int .i64 (x195.Parent)) hs (y_move rfl) ?_; clear hs; intro a w hs
               refine syg hs (y_neq rfl rfl) ?_; clear hs; intro a w hs
               refine sy (v := .bool (decide (x367 ≠ x195.Parent))) hs (y_pick rfl rfl) ?_; clear hs; intro a w hs
               refine RL_nil ?_
               exact ⟨decide (x367 ≠ x195.Parent), hm, hs.sub ⟨rfl, rfl, rfl, rfl, rfl, rfl, rfl, trivial⟩⟩
              ·clear hs; have hs := hq; clear hq
               replace hm := oc_f hg366 hm
               refine sno hs ?_; clear hs; intro a w hs
               refine sno hs ?_; clear hs; intro a w hs
               refine sno hs ?_; clear hs; intro a w hs
               refine sno hs ?_; clear hs; intro a w hs
               refine sno hs ?_; clear hs; intro a w hs
               refine sno hs ?_; clear hs; intro a w hs
               refine sno hs ?_; clear hs; intro a w hs
               refine sno hs ?_; clear hs; intro a w hs
               refine sy (v := .bool (false)) hs (y_pick rfl rfl) ?_; clear hs; intro a w hs
               refine RL_nil ?_
               exact ⟨false, hm, hs.sub ⟨rfl, rfl, rfl, rfl, rfl, rfl, rfl, trivial⟩⟩
       ·replace hm := oc_f hg167 hm
        refine W_exit ?_
        refine hB32 _ _ ?_
        exact ⟨y154, y159, v155, rw156, hm, hW157, hs.subs ⟨rfl, rfl, rfl, trivial⟩ (.cons _ (.cons_cons _ (.refl _)))⟩
   ·refine W_region ?_
    refine sy (v := v1) hs (y_move rfl) ?_; clear hs; intro a w hs
    obtain ⟨x374, hx375, hm⟩ := ob hm
    obtain ⟨r376, hr377, hq378, hi379, hb380⟩ := hW4.geti hx375
    obtain ⟨v381, rfl, ⟨rw382, hR383, hW384⟩⟩ := hq378
    refine sy hs (y_indexAddr hR3 rfl rfl hi379 hb380 Tryd.underlying22 ti42) ?_; clear hs; intro a w hs
    refine sy (v := eaddr v1 9 ((0 : Int).toNat) 0) hs (y_fieldAddrE (i := (0 : Int).toNat) (j := 0) hR3 rfl hb380 (FO.of (off := 0) Tryd.underlying42 rfl rfl ti3 (by decide))) ?_; clear hs; intro a w hs
    refine sy (v := .int .i64 (x374.Kind)) hs (y_loadE (i := (0 : Int).toNat) (j := 0) hR3.up rfl hr377 rfl Tryd.underlying3 rfl) ?_; clear hs; intro a w hs
    refine sy hs (y_neq rfl rfl) ?_; clear hs; intro a w hs
    refine sy (v := .bool (decide (x374.Kind ≠ 1))) hs (y_move rfl) ?_; clear hs; intro a w hs
    refine St.split hs (t := 23) rfl (fun hg386 hq => ?_) (fun hg386 hq => ?_)
    ·clear hs; have hs := hq; clear hq
     replace hm := oc_t hg386 hm
     refine sno hs ?_; clear hs; intro a w hs
     refine sno hs ?_; clear hs; intro a w hs
     refine sno hs ?_; clear hs; intro a w hs
     refine sno hs ?_; clear hs; intro a w hs
     refine sno hs ?_; clear hs; intro a w hs
     refine sy (v := .bool (true)) hs (y_pick rfl rfl) ?_; clear hs; intro a w hs
     refine sy (v := .bool (true)) hs (y_move rfl) ?_; clear hs; intro a w hs
     refine sno hs ?_; clear hs; intro a w hs
     refine sno hs ?_; clear hs; intro a w hs
     refine sno hs ?_; clear hs; intro a w hs
     refine sno hs ?_; clear hs; intro a w hs
     refine sno hs ?_; clear hs; intro a w hs
     refine sy (v := .bool (true)) hs (y_pick rfl rfl) ?_; clear hs; intro a w hs
     refine sy (v := .bool (true)) hs (y_move rfl) ?_; clear hs; intro a w hs
     refine sno hs ?_; clear hs; intro a w hs
     refine sno hs ?_; clear hs; intro a w hs
     refine sno hs ?_; clear hs; intro a w hs
     refine sno hs ?_; clear hs; intro a w hs
     refine sno hs ?_; clear hs; intro a w hs
     refine sy (v := .bool (true)) hs (y_pick rfl rfl) ?_; clear hs; intro a w hs
     refine RL_nil ?_
     exact ⟨true, hm, hs.subs ⟨rfl, rfl, trivial⟩ (.cons _ (.refl _))⟩
    ·clear hs; have hs := hq; clear hq
     replace hm := oc_f hg386 hm
     refine syg (v := v1) hs (y_move rfl) ?_; clear hs; intro a w hs
     obtain ⟨x387, hx388, hm⟩ := ob hm
     obtain ⟨r389, hr390, hq391, hi392, hb393⟩ := hW4.geti hx388
     obtain ⟨v394, rfl, ⟨rw395, hR396, hW397⟩⟩ := hq391
     refine syg hs (y_indexAddr hR3 rfl rfl hi392 hb393 Tryd.underlying22 ti42) ?_; clear hs; intro a w hs
     refine syg (v := eaddr v1 9 ((0 : Int).toNat) 4) hs (y_fieldAddrE (i := (0 : Int).toNat) (j := 0) hR3 rfl hb393 (FO.of (off := 4) Tryd.underlying42 rfl rfl ti3 (by decide))) ?_; clear hs; intro a w hs
     refine syg (v := .int .i64 (x387.Parent)) hs (y_loadE (i := (0 : Int).toNat) (j := 4) hR3.up rfl hr390 rfl Tryd.underlying3 rfl) ?_; clear hs; intro a w hs
     refine syg hs (y_neq rfl rfl) ?_; clear hs; intro a w hs
     refine sy (v := .bool (decide (x387.Parent ≠ (-1)))) hs (y_pick rfl rfl) ?_; clear hs; intro a w hs
     refine sy (v := .bool (decide (x387.Parent ≠ (-1)))) hs (y_move rfl) ?_; clear hs; intro a w hs
     refine St.split hs (t := 30) rfl (fun hg399 hq => ?_) (fun hg399 hq => ?_)
     ·clear hs; have hs := hq; clear hq
      replace hm := oc_t hg399 hm
      refine sno hs ?_; clear hs; intro a w hs
      refine sno hs ?_; clear hs; intro a w hs
      refine sno hs ?_; clear hs; intro a w hs
      refine sno hs ?_; clear hs; intro a w hs
      refine sno hs ?_; clear hs; intro a w hs
      refine sy (v := .bool (true)) hs (y_pick rfl rfl) ?_; clear hs; intro a w hs
      refine sy (v := .bool (true)) hs (y_move rfl) ?_; clear hs; intro a w hs
      refine sno hs ?_; clear hs; intro a w hs
      refine sno hs ?_; clear hs; intro a w hs
      refine sno hs ?_; clear hs; intro a w hs
      refine sno hs ?_; clear hs; intro a w hs
      refine sno hs ?_; clear hs; intro a w hs
      refine sy (v := .bool (true)) hs (y_pick rfl rfl) ?_; clear hs; intro a w hs
      refine RL_nil ?_
      exact ⟨true, hm, hs.subs ⟨rfl, rfl, trivial⟩ (.cons _ (.refl _))⟩
     ·clear hs; have hs := hq; clear hq
      replace hm := oc_f hg399 hm
      refine syg (v := v1) hs (y_move rfl) ?_; clear hs; intro a w hs
      obtain ⟨x400, hx401, hm⟩ := ob hm
      obtain ⟨r402, hr403, hq404, hi405, hb406⟩ := hW4.geti hx401
      obtain ⟨v407, rfl, ⟨rw408, hR409, hW410⟩⟩ := hq404
      refine syg hs (y_indexAddr hR3 rfl rfl hi405 hb406 Tryd.underlying22 ti42) ?_; clear hs; intro a w hs
      refine syg (v := eaddr v1 9 ((0 : Int).toNat) 7) hs (y_fieldAddrE (i := (0 : Int).toNat) (j := 0) hR3 rfl hb406 (FO.of (off := 7) Tryd.underlying42 rfl rfl ti3 (by decide))) ?_; clear hs; intro a w hs
      refine syg (v := .int .i64 (x400.Prev)) hs (y_loadE (i := (0 : Int).toNat) (j := 7) hR3.up rfl hr403 rfl Tryd.underlying3 rfl) ?_; clear hs; intro a w hs
      refine syg hs (y_neq rfl rfl) ?_; clear hs; intro a w hs
      refine sy (v := .bool (decide (x400.Prev ≠ (-1)))) hs (y_pick rfl rfl) ?_; clear hs; intro a w hs
      refine sy (v := .bool (decide (x400.Prev ≠ (-1)))) hs (y_move rfl) ?_; clear hs; intro a w hs
      refine St.split hs (t := 37) rfl (fun hg412 hq => ?_) (fun hg412 hq => ?_)
      ·clear hs; have hs := hq; clear hq
       replace hm := oc_t hg412 hm
       refine sno hs ?_; clear hs; intro a w hs
       refine sno hs ?_; clear hs; intro a w hs
       refine sno hs ?_; clear hs; intro a w hs
       refine sno hs ?_; clear hs; intro a w hs
       refine sno hs ?_; clear hs; intro a w hs
       refine sy (v := .bool (true)) hs (y_pick rfl rfl) ?_; clear hs; intro a w hs
       refine RL_nil ?_
       exact ⟨true, hm, hs.subs ⟨rfl, rfl, trivial⟩ (.cons _ (.refl _))⟩
      ·clear hs; have hs := hq; clear hq
       replace hm := oc_f hg412 hm
       refine syg (v := v1) hs (y_move rfl) ?_; clear hs; intro a w hs
       obtain ⟨x413, hx414, hm⟩ := ob hm
       obtain ⟨r415, hr416, hq417, hi418, hb419⟩ := hW4.geti hx414
       obtain ⟨v420, rfl, ⟨rw421, hR422, hW423⟩⟩ := hq417
       refine syg hs (y_indexAddr hR3 rfl rfl hi418 hb419 Tryd.underlying22 ti42) ?_; clear hs; intro a w hs
       refine syg (v := eaddr v1 9 ((0 : Int).toNat) 8) hs (y_fieldAddrE (i := (0 : Int).toNat) (j := 0) hR3 rfl hb419 (FO.of (off := 8) Tryd.underlying42 rfl rfl ti3 (by decide))) ?_; clear hs; intro a w hs
       refine syg (v := .int .i64 (x413.Next)) hs (y_loadE (i := (0 : Int).toNat) (j := 8) hR3.up rfl hr416 rfl Tryd.underlying3 rfl) ?_; clear hs; intro a w hs
       refine syg hs (y_neq rfl rfl) ?_; clear hs; intro a w hs
       refine sy (v := .bool (decide (x413.Next ≠ (-1)))) hs (y_pick rfl rfl) ?_; clear hs; intro a w hs
       refine RL_nil ?_
       exact ⟨decide (x413.Next ≠ (-1)), hm, hs.subs ⟨rfl, rfl, trivial⟩ (.cons _ (.refl _))⟩
/-! casement/casementref5.Lay -/
def ref5_Lay_k2 (p0 : (List api_Node)) (y47 : (List api_Node)) (y52 : Int) : Option (List api_Node) :=
  (geti y47 (p0.length : Int)).bind fun x54 =>
  (seti y47 (p0.length : Int) ({x54 with Last := y52} : api_Node)).bind fun x66 =>
  some x66
def ref5_Lay_k4 (y74 : (List api_Node)) (y80 : Int) (lp81 : (List api_Node) → Int → Int → Option (List api_Node)) (y110 : (List api_Node)) : Option (List api_Node) :=
  lp81 y110 (y74.length : Int) (w64 (y80 + 1))
def ref5_Lay_l3 (p0 : (List api_Node)) (p1 : ref5_Part) (slf : (List api_Node) → ref5_Part → Int → Int → Option (List api_Node)) : Nat → (List api_Node) → Int → Int → Option (List api_Node)
  | 0, _, _, _ => none
  | k81 + 1, y74, y79, y80 =>
  (bif (decide (y80 < (p1.Kids.length : Int))) then (geti p1.Kids y80).bind fun x84 =>
  (slf y74 x84 (p0.length : Int) y79).bind fun x101 =>
  (bif (decide (0 ≤ y79)) then (geti x101 y79).bind fun x116 =>
  (seti x101 y79 ({x116 with Next := (y74.length : Int)} : api_Node)).bind fun x128 =>
  ref5_Lay_k4 y74 y80 (ref5_Lay_l3 p0 p1 slf k81) x128 else
  (geti x101 (p0.length : Int)).bind fun x133 =>
  (seti x101 (p0.length : Int) ({x133 with First := (y74.length : Int)} : api_Node)).bind fun x145 =>
  ref5_Lay_k4 y74 y80 (ref5_Lay_l3 p0 p1 slf k81) x145) else
  ref5_Lay_k2 p0 y74 y79)
def ref5_Lay_k1 (n : Nat) (p0 : (List api_Node)) (p1 : ref5_Part) (p2 : Int) (p3 : Int) (slf : (List api_Node) → ref5_Part → Int → Int → Option (List api_Node)) (y20 : Int) (y21 : ByteArray) (y22 : ByteArray) (y24 : (List api_Attr)) : Option (List api_Node) :=
  (appM 104 p0 [({Kind := y20, Name := y21, Text := y22, Attrs := y24, Parent := p2, First := (-1), Last := (-1), Prev := p3, Next := (-1)} : api_Node)]).bind fun x37 =>
  (bif (decide (p1.Name = (bs []))) then some x37 else
  ref5_Lay_l3 p0 p1 slf n x37 (-1) 0)
def ref5_Lay_b (slf : (List api_Node) → ref5_Part → Int → Int → Option (List api_Node)) (n : Nat) (p0 : (List api_Node)) (p1 : ref5_Part) (p2 : Int) (p3 : Int) : Option (List api_Node) :=
  (bif (decide (p1.Name ≠ (bs []))) then (appM 32 ([] : List api_Attr) p1.Attrs).bind fun x157 =>
  ref5_Lay_k1 n p0 p1 p2 p3 slf 1 p1.Name (bs []) x157 else
  ref5_Lay_k1 n p0 p1 p2 p3 slf 2 (bs []) p1.Text ([] : List api_Attr))
def ref5_Lay : Nat → (List api_Node) → ref5_Part → Int → Int → Option (List api_Node)
  | 0, _, _, _, _ => none
  | n + 1, p0, p1, p2, p3 => ref5_Lay_b (ref5_Lay n) n p0 p1 p2 p3
set_option maxRecDepth 20000 in
set_option maxHeartbeats 4000000 in
theorem ref5_Lay_bok {slf : (List api_Node) → ref5_Part → Int → Int → Option (List api_Node)} (n : Nat) (slf_ok : ∀ {f : Fz} {p0 : (List api_Node)} {a0 : Value} {a0r : List (List Value)} {p1 : ref5_Part} {a1 : List Value} {p2 : Int} {p3 : Int} {res : (List api_Node)} (_ : RW t_api_Node f a0r p0) (_ : t_ref5_Part.R f a1 p1) (_ : slf p0 p1 p2 p3 = some res), Does Tryd.prog 42 [a0, .agg a1.toArray, .int .i64 p2, .int .i64 p3] f [.row a0 42 9 a0r] (fun r f' L' => ∃ (u0 : Value) (u0r : List (List Value)), L' = [.row u0 42 9 u0r] ∧ r = u0 ∧ RW t_api_Node f' u0r res)) {f : Fz} {p0 : (List api_Node)} {a0 : Value} {a0r : List (List Value)} {p1 : ref5_Part} {a1 : List Value} {p2 : Int} {p3 : Int} {res : (List api_Node)} (h0 : RW t_api_Node f a0r p0) (h1 : t_ref5_Part.R f a1 p1) (hm : ref5_Lay_b slf n p0 p1 p2 p3 = some res) : Does Tryd.prog 42 [a0, .agg a1.toArray, .int .i64 p2, .int .i64 p3] f [.row a0 42 9 a0r] (fun r f' L' => ∃ (u0 : Value) (u0r : List (List Value)), L' = [.row u0 42 9 u0r] ∧ r = u0 ∧ RW t_api_Node f' u0r res) := by
 unfold ref5_Lay_b at hm
 intro w0 L w hC
 replace hC : Cw w0 f (.row a0 42 9 a0r :: L) w := hC
 obtain ⟨v3, v8, rfl, ⟨rw4, hR5, hW6⟩, ⟨rw9, hR10, hW11⟩⟩ := R_ref5_Part.ex h1
 refine enter Tryd.func42 rfl Tryd.ntmps42 (by simp) hC fun a hs => ?_
 have hle := Fz.le.refl f
 refine W_seq fun K1 hK1 => ?_
 refine W_region ?_
 refine sbox hs rfl ?_; clear hs; intro b13 a w hs
 replace hs : St _ _ _ (.blk b13 (.cells #[.string (p1.Name), .string (p1.Text), v3, v8] 94 (0, 0)) :: .row a0 42 9 a0r :: L) _ _ _ := hs
 refine sy (v := (.slice none 0 0)) hs (y_assign rfl) ?_; clear hs; intro a w hs
 refine RL_nil ?_
 refine hK1 _ _ ?_; clear hK1
 refine W_seq fun K2 hK2 => ?_
 refine W_region ?_
 refine sy (v := a0) hs (y_move rfl) ?_; clear hs; intro a w hs
 refine sy hs (y_lenW (Rd.st hs (.tail _ (.head _))) h0 rfl Tryd.underlying22) ?_; clear hs; intro a w hs
 refine sy (v := .int .i64 ((p0.length : Int))) hs (y_assign rfl) ?_; clear hs; intro a w hs
 refine RL_nil ?_
 refine hK2 _ _ ?_; clear hK2
 refine W_seq fun K3 hK3 => ?_
 refine W_region ?_
 refine sy (v := .pointer (some ⟨b13, 1, none⟩)) hs (y_fieldAddr rfl (FO.of (off := 1) Tryd.underlying94 rfl rfl ti9 (by decide))) ?_; clear hs; intro a w hs
 refine sy (v := .string (p1.Text)) hs (y_ld rfl Tryd.underlying9 rfl (Cell.blk (.head _) rfl)) ?_; clear hs; intro a w hs
 refine sy (v := .int .i64 (p2)) hs (y_move rfl) ?_; clear hs; intro a w hs
 refine sy (v := .int .i64 (p3)) hs (y_move rfl) ?_; clear hs; intro a w hs
 refine sy hs (y_buildS (places := [(0, 1), (1, 1), (2, 1), (3, 1), (4, 1), (5, 1), (6, 1), (7, 1), (8, 1)]) (cs := [.int .i64 (2), .string ((bs [])), .string (p1.Text), (.slice none 0 0), .int .i64 (p2), .int .i64 ((-1)), .int .i64 ((-1)), .int .i64 (p3), .int .i64 ((-1))]) rfl Tryd.underlying42 ti42 (by kernel_rfl) (by decide) rfl ⟨rfl, rfl, rfl, rfl, rfl, rfl, rfl, trivial⟩) ?_; clear hs; intro a w hs
 refine RL_alloc hs ti42 (.free rfl) (by decide) ?_; clear hs; intro b17 a w hs
 replace hs : St _ _ _ (.blk b17 (.cells #[.int .i64 (0), .string ((bs [])), .string ((bs [])), (.slice none 0 0), .int .i64 (0), .int .i64 (0), .int .i64 (0), .int .i64 (0), .int .i64 (0)] 42 (0, 0)) :: .blk b13 (.cells #[.string (p1.Name), .string (p1.Text), v3, v8] 94 (0, 0)) :: .row a0 42 9 a0r :: L) _ _ _ := hs
 refine RL_storeAll (i := 0) hs rfl rfl rfl ti42 ⟨rfl, rfl⟩ (AllC.arr (r := [.int .i64 (2), .string ((bs [])), .string (p1.Text), (.slice none 0 0), .int .i64 (p2), .int .i64 ((-1)), .int .i64 ((-1)), .int .i64 (p3), .int .i64 ((-1))]) ⟨rfl, rfl, rfl, rfl, rfl, rfl, rfl, rfl, rfl, trivial⟩) (.free rfl) ?_; clear hs; intro a w hs
 replace hs : St _ _ _ (.blk b17 (.cells #[.int .i64 (2), .string ((bs [])), .string (p1.Text), (.slice none 0 0), .int .i64 (p2), .int .i64 ((-1)), .int .i64 ((-1)), .int .i64 (p3), .int .i64 ((-1))] 42 (0, 0)) :: .blk b13 (.cells #[.string (p1.Name), .string (p1.Text), v3, v8] 94 (0, 0)) :: .row a0 42 9 a0r :: L) _ _ _ := hs
 refine RL_nil ?_
 refine hK3 _ _ ?_; clear hK3
 refine W_seq fun K4 hK4 => ?_
 refine W_seq fun K5 hK5 => ?_
 refine W_region ?_
 refine sy (v := .pointer (some ⟨b13, 0, none⟩)) hs (y_fieldAddr rfl (FO.of (off := 0) Tryd.underlying94 rfl rfl ti9 (by decide))) ?_; clear hs; intro a w hs
 refine sy (v := .string (p1.Name)) hs (y_ld rfl Tryd.underlying9 rfl (Cell.blk (.tail _ (.head _)) rfl)) ?_; clear hs; intro a w hs
 refine sy hs (y_sneq rfl rfl) ?_; clear hs; intro a w hs
 refine RL_nil ?_
 refine hK5 _ _ ?_; clear hK5
 refine W_post (fun a w => ∃ (y20 : Int) (y21 : ByteArray) (y22 : ByteArray) (y24 : (List api_Attr)) (v25 : Value) (rw26 : List (List Value)), ref5_Lay_k1 n p0 p1 p2 p3 slf y20 y21 y22 y24 = some res ∧ RW t_api_Attr f rw26 y24 ∧ St 78 w0 f (.row v25 91 2 rw26 :: .blk b17 (.cells #[.int .i64 (y20), .string (y21), .string (y22), v25, .int .i64 (p2), .int .i64 ((-1)), .int .i64 ((-1)), .int .i64 (p3), .int .i64 ((-1))] 42 (0, 0)) :: .blk b13 (.cells #[.string (p1.Name), .string (p1.Text), v3, v8] 94 (0, 0)) :: .row a0 42 9 a0r :: L) [(0, a0), (5, .pointer (some ⟨b13, 0, none⟩)), (9, .int .i64 ((p0.length : Int))), (10, .pointer (some ⟨b17, 0, none⟩))] a w) ?_ ?_
 ·clear hs hm
  rintro a w ⟨y20, y21, y22, y24, v25, rw26, hm, hW27, hs⟩
  replace hs : St _ _ _ (.row v25 91 2 rw26 :: .blk b17 (.cells #[.int .i64 (y20), .string (y21), .string (y22), v25, .int .i64 (p2), .int .i64 ((-1)), .int .i64 ((-1)), .int .i64 (p3), .int .i64 ((-1))] 42 (0, 0)) :: .blk b13 (.cells #[.string (p1.Name), .string (p1.Text), v3, v8] 94 (0, 0)) :: .row a0 42 9 a0r :: L) _ _ _ := hs
  unfold ref5_Lay_k1 at hm
  refine hK4 _ _ ?_; clear hK4
  refine W_seq fun K6 hK6 => ?_
  refine W_region ?_
  refine sy (v := a0) hs (y_move rfl) ?_; clear hs; intro a w hs
  refine sy hs (y_ldB rfl Tryd.underlying42 rfl ti42 (.tail _ (.head _)) rfl) ?_; clear hs; intro a w hs
  obtain ⟨f31, hf32, hs2, hR33⟩ := hs.frzAt 0 rfl
  clear hs; have hs := hs2; clear hs2
  replace h0 := h0.le hf32
  replace hR5 := hR5.le hf32
  replace hW6 := hW6.le hf32
  replace hR10 := hR10.le hf32
  replace hW11 := hW11.le hf32
  replace hW27 := hW27.le hf32
  replace hle := hle.trans hf32
  replace hs : St _ _ _ (.blk b17 (.cells #[.int .i64 (y20), .string (y21), .string (y22), v25, .int .i64 (p2), .int .i64 ((-1)), .int .i64 ((-1)), .int .i64 (p3), .int .i64 ((-1))] 42 (0, 0)) :: .blk b13 (.cells #[.string (p1.Name), .string (p1.Text), v3, v8] 94 (0, 0)) :: .row a0 42 9 a0r :: L) _ _ _ := hs
  refine RL_bs1a hs rfl Tryd.underlying22 ti42 (by decide) (AllC.row ⟨rfl, rfl, rfl, hR33.one, rfl, rfl, rfl, rfl, rfl, trivial⟩ rfl) ?_; clear hs; intro v29 a w hs
  have hW30 : RW t_api_Node f31 [[.int .i64 (y20), .string (y21), .string (y22), v25, .int .i64 (p2), .int .i64 ((-1)), .int .i64 ((-1)), .int .i64 (p3), .int .i64 ((-1))]] [({Kind := y20, Name := y21, Text := y22, Attrs := y24, Parent := p2, First := (-1), Last := (-1), Prev := p3, Next := (-1)} : api_Node)] := RW.single (⟨_, rfl, ⟨rw26, hR33, hW27⟩⟩)
  generalize hgrw34 : ([[.int .i64 (y20), .string (y21), .string (y22), v25, .int .i64 (p2), .int .i64 ((-1)), .int .i64 ((-1)), .int .i64 (p3), .int .i64 ((-1))]] : List (List Value)) = rw34 at hs hW30; clear hgrw34
  replace hs : St _ _ _ (.row v29 42 9 rw34 :: .blk b17 (.cells #[.int .i64 (y20), .string (y21), .string (y22), v25, .int .i64 (p2), .int .i64 ((-1)), .int .i64 ((-1)), .int .i64 (p3), .int .i64 ((-1))] 42 (0, 0)) :: .blk b13 (.cells #[.string (p1.Name), .string (p1.Text), v3, v8] 94 (0, 0)) :: .row a0 42 9 a0r :: L) _ _ _ := hs
  obtain ⟨x37, hx38, hm⟩ := ob hm
  obtain ⟨hbx37, hex37⟩ := appM_some hx38
  have hW41 := h0.append hW30; rw [hex37] at hW41
  refine RL_append (i := 3) hs rfl rfl rfl (Rd.st hs (.head _)) Tryd.underlying22 ti42 (by decide) (by rw [RW.len h0, RW.len hW30]; exact hbx37) (.free rfl) (by decide) ?_; clear hs; intro v39 a w hs
  generalize hgx37 : a0r ++ rw34 = rw40 at hs hW41; clear hgx37
  replace hs := hs.erase 0
  replace hs : St _ _ _ (.blk b17 (.cells #[.int .i64 (y20), .string (y21), .string (y22), v25, .int .i64 (p2), .int .i64 ((-1)), .int .i64 ((-1)), .int .i64 (p3), .int .i64 ((-1))] 42 (0, 0)) :: .blk b13 (.cells #[.string (p1.Name), .string (p1.Text), v3, v8] 94 (0, 0)) :: .row v39 42 9 rw40 :: L) _ _ _ := hs
  refine sy (v := v39) hs (y_assign rfl) ?_; clear hs; intro a w hs
  refine RL_nil ?_
  refine hK6 _ _ ?_; clear hK6
  refine W_seq fun K7 hK7 => ?_
  refine W_seq fun K8 hK8 => ?_
  refine W_region ?_
  refine sy (v := .pointer (some ⟨b13, 0, none⟩)) hs (y_fieldAddr rfl (FO.of (off := 0) Tryd.underlying94 rfl rfl ti9 (by decide))) ?_; clear hs; intro a w hs
  refine sy (v := .string (p1.Name)) hs (y_ld rfl Tryd.underlying9 rfl (Cell.blk (.tail _ (.head _)) rfl)) ?_; clear hs; intro a w hs
  refine sy hs (y_seql rfl rfl) ?_; clear hs; intro a w hs
  refine RL_nil ?_
  refine hK8 _ _ ?_; clear hK8
  refine W_cond hs rfl (fun hg43 => ?_) (fun hg43 => ?_)
  ·replace hm := oc_t hg43 hm
   refine W_seq fun K9 hK9 => ?_
   refine W_region ?_
   refine sy (v := v39) hs (y_move rfl) ?_; clear hs; intro a w hs
   refine sy (v := v39) hs (y_assign rfl) ?_; clear hs; intro a w hs
   refine RL_nil ?_
   refine hK9 _ _ ?_; clear hK9
   refine W_ret ?_
   obtain rfl := Option.some.inj hm
   refine RtV1 hs rfl (rv_t hs rfl) ?_
   exact ⟨_, f31, [.row v39 42 9 rw40], rfl, hle, (hs.subL (.cons _ (.cons _ (.cons_cons _ (.refl _))))).cw, v39, rw40, rfl, rfl, hW41⟩
  ·replace hm := oc_f hg43 hm
   refine W_skip ?_
   refine hK7 _ _ ?_; clear hK7
   refine W_seq fun K10 hK10 => ?_
   refine W_region ?_
   refine sy (v := .int .i64 ((-1))) hs (y_assign rfl) ?_; clear hs; intro a w hs
   refine RL_nil ?_
   refine hK10 _ _ ?_; clear hK10
   refine W_seq fun K11 hK11 => ?_
   refine W_seq fun K12 hK12 => ?_
   refine W_region ?_
   refine sy (v := .int .i64 (0)) hs (y_assign rfl) ?_; clear hs; intro a w hs
   refine RL_nil ?_
   refine hK12 _ _ ?_; clear hK12
   have hbase53 := Fz.le.refl f31
   refine W_post (fun a w => ∃ (f44 : Fz) (y47 : (List api_Node)) (y52 : Int) (v48 : Value) (rw49 : List (List Value)), Fz.le f31 f44 ∧ ref5_Lay_k2 p0 y47 y52 = some res ∧ RW t_api_Node f44 rw49 y47 ∧ St 78 w0 f44 (.row v48 42 9 rw49 :: L) [(0, v48), (9, .int .i64 ((p0.length : Int))), (11, .int .i64 (y52))] a w) ?_ ?_
   ·clear hs hm
    clear hbase53
    rintro a w ⟨f44, y47, y52, v48, rw49, hl45, hm, hW50, hs⟩
    replace h0 := h0.le hl45
    replace hR5 := hR5.le hl45
    replace hW6 := hW6.le hl45
    replace hR10 := hR10.le hl45
    replace hW11 := hW11.le hl45
    replace hW27 := hW27.le hl45
    replace hR33 := hR33.le hl45
    replace hW30 := hW30.le hl45
    replace hW41 := hW41.le hl45
    replace hle := hle.trans hl45
    replace hs : St _ _ _ (.row v48 42 9 rw49 :: L) _ _ _ := hs
    unfold ref5_Lay_k2 at hm
    refine hK11 _ _ ?_; clear hK11
    refine W_seq fun K13 hK13 => ?_
    refine W_region ?_
    refine sy (v := v48) hs (y_move rfl) ?_; clear hs; intro a w hs
    refine sy (v := .int .i64 ((p0.length : Int))) hs (y_move rfl) ?_; clear hs; intro a w hs
    refine sy (v := .int .i64 (y52)) hs (y_move rfl) ?_; clear hs; intro a w hs
    obtain ⟨x54, hx55, hm⟩ := ob hm
    obtain ⟨r56, hr57, hq58, hi59, hb60⟩ := hW50.geti hx55
    obtain ⟨v61, rfl, ⟨rw62, hR63, hW64⟩⟩ := hq58
    refine sy hs (y_indexAddr (Rd.st hs (.head _)) rfl rfl hi59 hb60 Tryd.underlying22 ti42) ?_; clear hs; intro a w hs
    refine sy (v := eaddr v48 9 ((p0.length : Int).toNat) 6) hs (y_fieldAddrE (i := (p0.length : Int).toNat) (j := 0) (Rd.st hs (.head _)) rfl hb60 (FO.of (off := 6) Tryd.underlying42 rfl rfl ti3 (by decide))) ?_; clear hs; intro a w hs
    obtain ⟨x66, hx67, hm⟩ := ob hm
    have hex66 := seti_some hx67
    have hW69 := RW.set (i := (p0.length : Int).toNat) (r := [.int .i64 (x54.Kind), .string (x54.Name), .string (x54.Text), v61, .int .i64 (x54.Parent), .int .i64 (x54.First), .int .i64 (y52), .int .i64 (x54.Prev), .int .i64 (x54.Next)]) (x := (({x54 with Last := y52} : api_Node) : api_Node)) hW50 (⟨_, rfl, ⟨rw62, hR63, hW64⟩⟩); rw [hex66] at hW69
    refine RL_storeRow (i := 0) (j := 6) (m := (p0.length : Int).toNat) hs rfl rfl rfl hr57 (by decide) ti3 rfl (.free rfl) ?_; clear hs; intro a w hs
    replace hs : St _ _ _ (.row v48 42 9 (rw49.set ((p0.length : Int).toNat) [.int .i64 (x54.Kind), .string (x54.Name), .string (x54.Text), v61, .int .i64 (x54.Parent), .int .i64 (x54.First), .int .i64 (y52), .int .i64 (x54.Prev), .int .i64 (x54.Next)]) :: L) _ _ _ := hs
    generalize hgrw68 : rw49.set ((p0.length : Int).toNat) [.int .i64 (x54.Kind), .string (x54.Name), .string (x54.Text), v61, .int .i64 (x54.Parent), .int .i64 (x54.First), .int .i64 (y52), .int .i64 (x54.Prev), .int .i64 (x54.Next)] = rw68 at hs hW69; clear hgrw68
    replace hs : St _ _ _ (.row v48 42 9 rw68 :: L) _ _ _ := hs
    refine RL_nil ?_
    refine hK13 _ _ ?_; clear hK13
    refine W_seq fun K14 hK14 => ?_
    refine W_region ?_
    refine sy (v := v48) hs (y_move rfl) ?_; clear hs; intro a w hs
    refine sy (v := v48) hs (y_assign rfl) ?_; clear hs; intro a w hs
    refine RL_nil ?_
    refine hK14 _ _ ?_; clear hK14
    refine W_ret ?_
    obtain rfl := Option.some.inj hm
    refine RtV1 hs rfl (rv_t hs rfl) ?_
    exact ⟨_, f44, [.row v48 42 9 rw68], rfl, hle, hs.cw, v48, rw68, rfl, rfl, hW69⟩
   ·refine W_block fun Qe15 hB15 hO15 => ?_
    have hbase := Fz.le.refl f31
    replace hs := hs.front 1
    replace hs := hs.front 2
    replace hs : St _ _ _ (.row v39 42 9 rw40 :: .blk b13 (.cells #[.string (p1.Name), .string (p1.Text), v3, v8] 94 (0, 0)) :: .blk b17 (.cells #[.int .i64 (y20), .string (y21), .string (y22), v25, .int .i64 (p2), .int .i64 ((-1)), .int .i64 ((-1)), .int .i64 (p3), .int .i64 ((-1))] 42 (0, 0)) :: L) _ _ _ := hs
    refine W_loop (fun (k : Nat) a w => ∃ (f71 : Fz) (y74 : (List api_Node)) (y79 : Int) (y80 : Int) (v75 : Value) (rw76 : List (List Value)), Fz.le f31 f71 ∧ ref5_Lay_l3 p0 p1 slf k y74 y79 y80 = some res ∧ RW t_api_Node f71 rw76 y74 ∧ St 78 w0 f71 (.row v75 42 9 rw76 :: .blk b13 (.cells #[.string (p1.Name), .string (p1.Text), v3, v8] 94 (0, 0)) :: L) [(0, v75), (5, .pointer (some ⟨b13, 0, none⟩)), (9, .int .i64 ((p0.length : Int))), (11, .int .i64 (y79)), (12, .int .i64 (y80))] a w) (fun k => k) n ⟨_, x37, (-1), 0, v39, rw40, (Fz.le.refl _), hm, hW41, hs.subs ⟨rfl, rfl, rfl, rfl, rfl, trivial⟩ (.cons_cons _ (.cons_cons _ (.cons _ (.refl _))))⟩ ?_
    clear hs hm
    intro k
    rintro a w ⟨f71, y74, y79, y80, v75, rw76, hl72, hm, hW77, hs⟩
    replace h0 := h0.le hl72
    replace hR5 := hR5.le hl72
    replace hW6 := hW6.le hl72
    replace hR10 := hR10.le hl72
    replace hW11 := hW11.le hl72
    replace hW27 := hW27.le hl72
    replace hR33 := hR33.le hl72
    replace hW30 := hW30.le hl72
    replace hW41 := hW41.le hl72
    replace hle := hle.trans hl72
    replace hbase53 := hbase53.trans hl72
    replace hs : St _ _ _ (.row v75 42 9 rw76 :: .blk b13 (.cells #[.string (p1.Name), .string (p1.Text), v3, v8] 94 (0, 0)) :: L) _ _ _ := hs
    intro K16 hK16
    cases k with
    | zero => simp [ref5_Lay_l3] at hm
    | succ k81 =>
     rw [ref5_Lay_l3] at hm
     have hbase82 := hl72
     refine W_seq fun K17 hK17 => ?_
     refine W_seq fun K18 hK18 => ?_
     refine W_region ?_
     refine sy (v := .int .i64 (y80)) hs (y_move rfl) ?_; clear hs; intro a w hs
     refine sy (v := .pointer (some ⟨b13, 3, none⟩)) hs (y_fieldAddr rfl (FO.of (off := 3) Tryd.underlying94 rfl rfl ti92 (by decide))) ?_; clear hs; intro a w hs
     refine sy (v := v8) hs (y_ld rfl Tryd.underlying92 rfl (Cell.blk (.tail _ (.head _)) rfl)) ?_; clear hs; intro a w hs
     refine sy hs (y_lenW hR10 hW11 rfl Tryd.underlying92) ?_; clear hs; intro a w hs
     refine sy hs (y_lss rfl rfl) ?_; clear hs; intro a w hs
     refine RL_nil ?_
     refine hK18 _ _ ?_; clear hK18
     refine W_cond hs rfl (fun hg83 => ?_) (fun hg83 => ?_)
     ·replace hm := oc_t hg83 hm
      refine W_skip ?_
      refine hK17 _ _ ?_; clear hK17
      refine W_seq fun K19 hK19 => ?_
      refine W_block fun Qe20 hB20 hO20 => ?_
      refine W_seq fun K21 hK21 => ?_
      refine W_region ?_
      refine sy (v := v75) hs (y_move rfl) ?_; clear hs; intro a w hs
      refine sy hs (y_lenW (Rd.st hs (.head _)) hW77 rfl Tryd.underlying22) ?_; clear hs; intro a w hs
      refine sy (v := .int .i64 ((y74.length : Int))) hs (y_assign rfl) ?_; clear hs; intro a w hs
      refine RL_nil ?_
      refine hK21 _ _ ?_; clear hK21
      refine W_seq fun K22 hK22 => ?_
      refine W_region ?_
      refine sy (v := v75) hs (y_move rfl) ?_; clear hs; intro a w hs
      refine sy (v := .pointer (some ⟨b13, 3, none⟩)) hs (y_fieldAddr rfl (FO.of (off := 3) Tryd.underlying94 rfl rfl ti92 (by decide))) ?_; clear hs; intro a w hs
      refine sy (v := v8) hs (y_ld rfl Tryd.underlying92 rfl (Cell.blk (.tail _ (.head _)) rfl)) ?_; clear hs; intro a w hs
      refine sy (v := .int .i64 (y80)) hs (y_move rfl) ?_; clear hs; intro a w hs
      obtain ⟨x84, hx85, hm⟩ := ob hm
      obtain ⟨r86, hr87, hq88, hi89, hb90⟩ := hW11.geti hx85
      obtain ⟨v91, v96, rfl, ⟨rw92, hR93, hW94⟩, ⟨rw97, hR98, hW99⟩⟩ := R_ref5_Part.ex hq88
      refine sy hs (y_indexAddr hR10 rfl rfl hi89 hb90 Tryd.underlying92 ti94) ?_; clear hs; intro a w hs
      refine sy hs (y_loadRow hR10.up rfl hr87 Tryd.underlying94 rfl ti94) ?_; clear hs; intro a w hs
      refine sy (v := .int .i64 ((p0.length : Int))) hs (y_move rfl) ?_; clear hs; intro a w hs
      refine sy (v := .int .i64 (y79)) hs (y_move rfl) ?_; clear hs; intro a w hs
      obtain ⟨x101, hx102, hm⟩ := ob hm
      replace hs : St _ _ _ (.row v75 42 9 rw76 :: .blk b13 (.cells #[.string (p1.Name), .string (p1.Text), v3, v8] 94 (0, 0)) :: L) _ _ _ := hs
      refine RL_call (Lr := [.row v75 42 9 rw76]) (Lf := .blk b13 (.cells #[.string (p1.Name), .string (p1.Text), v3, v8] 94 (0, 0)) :: L) hs rfl has42 rfl rfl (slf_ok (f := f71) (a0 := v75) (a0r := rw76) (a1 := [.string (x84.Name), .string (x84.Text), v91, v96]) hW77 (R_ref5_Part.of (x := x84) ⟨rw92, hR93, hW94⟩ ⟨rw97, hR98, hW99⟩) hx102) (.free rfl) (by decide) ?_; clear hs
      rintro v105 f103 _ a w hf104 ⟨_, rw106, rfl, rfl, hW107⟩ hs
      replace h0 := h0.le hf104
      replace hR5 := hR5.le hf104
      replace hW6 := hW6.le hf104
      replace hR10 := hR10.le hf104
      replace hW11 := hW11.le hf104
      replace hW27 := hW27.le hf104
      replace hR33 := hR33.le hf104
      replace hW30 := hW30.le hf104
      replace hW41 := hW41.le hf104
      replace hW77 := hW77.le hf104
      replace hR93 := hR93.le hf104
      replace hW94 := hW94.le hf104
      replace hR98 := hR98.le hf104
      replace hW99 := hW99.le hf104
      replace hle := hle.trans hf104
      replace hbase53 := hbase53.trans hf104
      replace hbase82 := hbase82.trans hf104
      replace hs : St _ _ _ (.row v105 42 9 rw106 :: .blk b13 (.cells #[.string (p1.Name), .string (p1.Text), v3, v8] 94 (0, 0)) :: L) _ _ _ := hs
      refine sy (v := v105) hs (y_assign rfl) ?_; clear hs; intro a w hs
      refine RL_nil ?_
      refine hK22 _ _ ?_; clear hK22
      refine W_seq fun K23 hK23 => ?_
      refine W_seq fun K24 hK24 => ?_
      refine W_region ?_
      refine sy (v := .int .i64 (y79)) hs (y_move rfl) ?_; clear hs; intro a w hs
      refine sy hs (y_geq rfl rfl) ?_; clear hs; intro a w hs
      refine RL_nil ?_
      refine hK24 _ _ ?_; clear hK24
      refine W_post (fun a w => ∃ (y110 : (List api_Node)) (v111 : Value) (rw112 : List (List Value)), ref5_Lay_k4 y74 y80 (ref5_Lay_l3 p0 p1 slf k81) y110 = some res ∧ RW t_api_Node f103 rw112 y110 ∧ St 78 w0 f103 (.row v111 42 9 rw112 :: .blk b13 (.cells #[.string (p1.Name), .string (p1.Text), v3, v8] 94 (0, 0)) :: L) [(0, v111), (5, .pointer (some ⟨b13, 0, none⟩)), (9, .int .i64 ((p0.length : Int))), (12, .int .i64 (y80)), (13, .int .i64 ((y74.length : Int)))] a w) ?_ ?_
      ·clear hs hm
       rintro a w ⟨y110, v111, rw112, hm, hW113, hs⟩
       replace hs : St _ _ _ (.row v111 42 9 rw112 :: .blk b13 (.cells #[.string (p1.Name), .string (p1.Text), v3, v8] 94 (0, 0)) :: L) _ _ _ := hs
       unfold ref5_Lay_k4 at hm
       refine hK23 _ _ ?_; clear hK23
       refine W_region ?_
       refine sy (v := .int .i64 ((y74.length : Int))) hs (y_move rfl) ?_; clear hs; intro a w hs
       refine sy (v := .int .i64 ((y74.length : Int))) hs (y_assign rfl) ?_; clear hs; intro a w hs
       refine RL_nil ?_
       refine hK19 _ _ ?_; clear hK19
       refine W_region ?_
       refine sy (v := .int .i64 (y80)) hs (y_move rfl) ?_; clear hs; intro a w hs
       refine sy hs (y_add rfl rfl rfl) ?_; clear hs; intro a w hs
       refine sy (v := .int .i64 ((w64 (y80 + 1)))) hs (y_assign rfl) ?_; clear hs; intro a w hs
       refine RL_nil ?_
       exact hK16 k81 _ _ (Nat.lt_succ_self _) ⟨_, y110, (y74.length : Int), (w64 (y80 + 1)), v111, rw112, hbase82, hm, hW113, hs.sub ⟨rfl, rfl, rfl, rfl, rfl, trivial⟩⟩
      ·refine W_cond hs rfl (fun hg115 => ?_) (fun hg115 => ?_)
       ·replace hm := oc_t hg115 hm
        refine W_region ?_
        refine sy (v := v105) hs (y_move rfl) ?_; clear hs; intro a w hs
        refine sy (v := .int .i64 (y79)) hs (y_move rfl) ?_; clear hs; intro a w hs
        refine sy (v := .int .i64 ((y74.length : Int))) hs (y_move rfl) ?_; clear hs; intro a w hs
        obtain ⟨x116, hx117, hm⟩ := ob hm
        obtain ⟨r118, hr119, hq120, hi121, hb122⟩ := hW107.geti hx117
        obtain ⟨v123, rfl, ⟨rw124, hR125, hW126⟩⟩ := hq120
        refine sy hs (y_indexAddr (Rd.st hs (.head _)) rfl rfl hi121 hb122 Tryd.underlying22 ti42) ?_; clear hs; intro a w hs
        refine sy (v := eaddr v105 9 y79.toNat 8) hs (y_fieldAddrE (i := y79.toNat) (j := 0) (Rd.st hs (.head _)) rfl hb122 (FO.of (off := 8) Tryd.underlying42 rfl rfl ti3 (by decide))) ?_; clear hs; intro a w hs
        obtain ⟨x128, hx129, hm⟩ := ob hm
        have hex128 := seti_some hx129
        have hW131 := RW.set (i := y79.toNat) (r := [.int .i64 (x116.Kind), .string (x116.Name), .string (x116.Text), v123, .int .i64 (x116.Parent), .int .i64 (x116.First), .int .i64 (x116.Last), .int .i64 (x116.Prev), .int .i64 ((y74.length : Int))]) (x := (({x116 with Next := (y74.length : Int)} : api_Node) : api_Node)) hW107 (⟨_, rfl, ⟨rw124, hR125, hW126⟩⟩); rw [hex128] at hW131
        refine RL_storeRow (i := 0) (j := 8) (m := y79.toNat) hs rfl rfl rfl hr119 (by decide) ti3 rfl (.free rfl) ?_; clear hs; intro a w hs
        replace hs : St _ _ _ (.row v105 42 9 (rw106.set y79.toNat [.int .i64 (x116.Kind), .string (x116.Name), .string (x116.Text), v123, .int .i64 (x116.Parent), .int .i64 (x116.First), .int .i64 (x116.Last), .int .i64 (x116.Prev), .int .i64 ((y74.length : Int))]) :: .blk b13 (.cells #[.string (p1.Name), .string (p1.Text), v3, v8] 94 (0, 0)) :: L) _ _ _ := hs
        generalize hgrw130 : rw106.set y79.toNat [.int .i64 (x116.Kind), .string (x116.Name), .string (x116.Text), v123, .int .i64 (x116.Parent), .int .i64 (x116.First), .int .i64 (x116.Last), .int .i64 (x116.Prev), .int .i64 ((y74.length : Int))] = rw130 at hs hW131; clear hgrw130
        replace hs : St _ _ _ (.row v105 42 9 rw130 :: .blk b13 (.cells #[.string (p1.Name), .string (p1.Text), v3, v8] 94 (0, 0)) :: L) _ _ _ := hs
        refine RL_nil ?_
        exact ⟨x128, v105, rw130, hm, hW131, hs.sub ⟨rfl, rfl, rfl, rfl, rfl, trivial⟩⟩
       ·replace hm := oc_f hg115 hm
        refine W_region ?_
        refine sy (v := v105) hs (y_move rfl) ?_; clear hs; intro a w hs
        refine sy (v := .int .i64 ((p0.length : Int))) hs (y_move rfl) ?_; clear hs; intro a w hs
        refine sy (v := .int .i64 ((y74.length : Int))) hs (y_move rfl) ?_; clear hs; intro a w hs
        obtain ⟨x133, hx134, hm⟩ := ob hm
        obtain ⟨r135, hr136, hq137, hi138, hb139⟩ := hW107.geti hx134
        obtain ⟨v140, rfl, ⟨rw141, hR142, hW143⟩⟩ := hq137
        refine sy hs (y_indexAddr (Rd.st hs (.head _)) rfl rfl hi138 hb139 Tryd.underlying22 ti42) ?_; clear hs; intro a w hs
        refine sy (v := eaddr v105 9 ((p0.length : Int).toNat) 5) hs (y_fieldAddrE (i := (p0.length : Int).toNat) (j := 0) (Rd.st hs (.head _)) rfl hb139 (FO.of (off := 5) Tryd.underlying42 rfl rfl ti3 (by decide))) ?_; clear hs; intro a w hs
        obtain ⟨x145, hx146, hm⟩ := ob hm
        have hex145 := seti_some hx146
        have hW148 := RW.set (i := (p0.length : Int).toNat) (r := [.int .i64 (x133.Kind), .string (x133.Name), .string (x133.Text), v140, .int .i64 (x133.Parent), .int .i64 ((y74.length : Int)), .int .i64 (x133.Last), .int .i64 (x133.Prev), .int .i64 (x133.Next)]) (x := (({x133 with First := (y74.length : Int)} : api_Node) : api_Node)) hW107 (⟨_, rfl, ⟨rw141, hR142, hW143⟩⟩); rw [hex145] at hW148
        refine RL_storeRow (i := 0) (j := 5) (m := (p0.length : Int).toNat) hs rfl rfl rfl hr136 (by decide) ti3 rfl (.free rfl) ?_; clear hs; intro a w hs
        replace hs : St _ _ _ (.row v105 42 9 (rw106.set ((p0.length : Int).toNat) [.int .i64 (x133.Kind), .string (x133.Name), .string (x133.Text), v140, .int .i64 (x133.Parent), .int .i64 ((y74.length : Int)), .int .i64 (x133.Last), .int .i64 (x133.Prev), .int .i64 (x133.Next)]) :: .blk b13 (.cells #[.string (p1.Name), .string (p1.Text), v3, v8] 94 (0, 0)) :: L) _ _ _ := hs
        generalize hgrw147 : rw106.set ((p0.length : Int).toNat) [.int .i64 (x133.Kind), .string (x133.Name), .string (x133.Text), v140, .int .i64 (x133.Parent), .int .i64 ((y74.length : Int)), .int .i64 (x133.Last), .int .i64 (x133.Prev), .int .i64 (x133.Next)] = rw147 at hs hW148; clear hgrw147
        replace hs : St _ _ _ (.row v105 42 9 rw147 :: .blk b13 (.cells #[.string (p1.Name), .string (p1.Text), v3, v8] 94 (0, 0)) :: L) _ _ _ := hs
        refine RL_nil ?_
        exact ⟨x145, v105, rw147, hm, hW148, hs.sub ⟨rfl, rfl, rfl, rfl, rfl, trivial⟩⟩
     ·replace hm := oc_f hg83 hm
      refine W_exit ?_
      refine hB15 _ _ ?_
      exact ⟨_, y74, y79, v75, rw76, hbase53, hm, hW77, hs.subs ⟨rfl, rfl, rfl, trivial⟩ (.cons_cons _ (.cons _ (.refl _)))⟩
 ·refine W_cond hs rfl (fun hg150 => ?_) (fun hg150 => ?_)
  ·replace hm := oc_t hg150 hm
   have hsD := hs.subL (L' := .blk b13 (.cells #[.string (p1.Name), .string (p1.Text), v3, v8] 94 (0, 0)) :: []) (.cons _ (.cons_cons _ (.cons _ (List.nil_sublist _))))
   refine T_start hs (.blk b13 (.cells #[.string (p1.Name), .string (p1.Text), v3, v8] 94 (0, 0)) :: []) [9] (.look 0 (.look 1 (.look 3 (.look 4 (.look 6 (.look 7 (.any [2] (fun _ => .any [5] (fun _ => .look 8 (.any [9] (fun _ => .done))))))))))) mixed (by kernel_rfl) ?_; clear hs; intro a he
   refine uy (v := .pointer (some ⟨b13, 0, none⟩)) 0 he rfl (y_fieldAddr rfl (FO.of (off := 0) Tryd.underlying94 rfl rfl ti9 (by decide))) ?_; clear he; intro a he
   refine uy (v := .string (p1.Name)) 1 he rfl (y_ld rfl Tryd.underlying9 rfl (Cell.blk (.head _) rfl)) ?_; clear he; intro a he
   refine uy (v := .pointer (some ⟨b13, 2, none⟩)) 3 he rfl (y_fieldAddr rfl (FO.of (off := 2) Tryd.underlying94 rfl rfl ti40 (by decide))) ?_; clear he; intro a he
   refine uy (v := v3) 4 he rfl (y_ld rfl Tryd.underlying40 rfl (Cell.blk (.head _) rfl)) ?_; clear he; intro a he
   refine uy (v := .int .i64 (p2)) 6 he rfl (y_move rfl) ?_; clear he; intro a he
   refine uy (v := .int .i64 (p3)) 7 he rfl (y_move rfl) ?_; clear he; intro a he
   refine T_any1 he rfl ?_; clear he; intro a w hs
   refine RL_bs0 hs Tryd.underlying40 ti91 ?_; clear hs; intro v151 a w hs
   have hW152 : RW t_api_Attr f [] ([] : List api_Attr) := trivial
   generalize hgrw153 : ([] : List (List Value)) = rw153 at hs hW152; clear hgrw153
   replace hs : St _ _ _ (.row v151 91 2 rw153 :: .blk b17 (.cells #[.int .i64 (2), .string ((bs [])), .string (p1.Text), (.slice none 0 0), .int .i64 (p2), .int .i64 ((-1)), .int .i64 ((-1)), .int .i64 (p3), .int .i64 ((-1))] 42 (0, 0)) :: .blk b13 (.cells #[.string (p1.Name), .string (p1.Text), v3, v8] 94 (0, 0)) :: .row a0 42 9 a0r :: L) _ _ _ := hs
   have ho156 : v151.oneCell' = true := hs.one (i := 0) rfl
   refine uon hs ?_; clear hs; intro a he
   refine T_any1 he rfl ?_; clear he; intro a w hs
   obtain ⟨x157, hx158, hm⟩ := ob hm
   obtain ⟨hbx157, hex157⟩ := appM_some hx158
   have hW161 := hW152.append hW6; rw [hex157] at hW161
   refine RL_append (i := 0) hs rfl rfl rfl hR5.up Tryd.underlying40 ti91 (by decide) (by rw [RW.len hW152, RW.len hW6]; exact hbx157) (.free rfl) (by decide) ?_; clear hs; intro v159 a w hs
   generalize hgx157 : rw153 ++ rw4 = rw160 at hs hW161; clear hgx157
   replace hs : St _ _ _ (.row v159 91 2 rw160 :: .blk b17 (.cells #[.int .i64 (2), .string ((bs [])), .string (p1.Text), (.slice none 0 0), .int .i64 (p2), .int .i64 ((-1)), .int .i64 ((-1)), .int .i64 (p3), .int .i64 ((-1))] 42 (0, 0)) :: .blk b13 (.cells #[.string (p1.Name), .string (p1.Text), v3, v8] 94 (0, 0)) :: .row a0 42 9 a0r :: L) _ _ _ := hs
   have ho163 : v159.oneCell' = true := hs.one (i := 0) rfl
   refine uon hs ?_; clear hs; intro a he
   refine uy 8 he rfl (y_buildS (places := [(0, 1), (1, 1), (2, 1), (3, 1), (4, 1), (5, 1), (6, 1), (7, 1), (8, 1)]) (cs := [.int .i64 (1), .string (p1.Name), .string ((bs [])), v159, .int .i64 (p2), .int .i64 ((-1)), .int .i64 ((-1)), .int .i64 (p3), .int .i64 ((-1))]) rfl Tryd.underlying42 ti42 (by kernel_rfl) (by decide) rfl ⟨rfl, rfl, ho163, rfl, rfl, rfl, rfl, rfl, trivial⟩) ?_; clear he; intro a he
   refine T_any1 he rfl ?_; clear he; intro a w hs
   refine RL_storeAll (i := 1) hs rfl rfl rfl ti42 ⟨rfl, rfl⟩ (AllC.arr (r := [.int .i64 (1), .string (p1.Name), .string ((bs [])), v159, .int .i64 (p2), .int .i64 ((-1)), .int .i64 ((-1)), .int .i64 (p3), .int .i64 ((-1))]) ⟨rfl, rfl, rfl, ho163, rfl, rfl, rfl, rfl, rfl, trivial⟩) (.free rfl) ?_; clear hs; intro a w hs
   replace hs : St _ _ _ (.row v159 91 2 rw160 :: .blk b17 (.cells #[.int .i64 (1), .string (p1.Name), .string ((bs [])), v159, .int .i64 (p2), .int .i64 ((-1)), .int .i64 ((-1)), .int .i64 (p3), .int .i64 ((-1))] 42 (0, 0)) :: .blk b13 (.cells #[.string (p1.Name), .string (p1.Text), v3, v8] 94 (0, 0)) :: .row a0 42 9 a0r :: L) _ _ _ := hs
   refine uend hs ?_; clear hs; intro a he
   refine T_nil he ?_; clear he; intro w hs; try clear hsD
   exact ⟨1, p1.Name, (bs []), x157, v159, rw160, hm, hW161, hs.sub ⟨rfl, rfl, rfl, rfl, trivial⟩⟩
  ·replace hm := oc_f hg150 hm
   refine W_skip ?_
   replace hs := hs.nilRow 91 2
   have hW165 : RW t_api_Attr f [] ([] : List api_Attr) := trivial
   generalize hgrw166 : ([] : List (List Value)) = rw166 at hs hW165; clear hgrw166
   replace hs : St _ _ _ (.row (.slice none 0 0) 91 2 rw166 :: .blk b17 (.cells #[.int .i64 (2), .string ((bs [])), .string (p1.Text), (.slice none 0 0), .int .i64 (p2), .int .i64 ((-1)), .int .i64 ((-1)), .int .i64 (p3), .int .i64 ((-1))] 42 (0, 0)) :: .blk b13 (.cells #[.string (p1.Name), .string (p1.Text), v3, v8] 94 (0, 0)) :: .row a0 42 9 a0r :: L) _ _ _ := hs
   replace hs : St _ _ _ (.row (.slice none 0 0) 91 2 rw166 :: .blk b17 (.cells #[.int .i64 (2), .string ((bs [])), .string (p1.Text), (.slice none 0 0), .int .i64 (p2), .int .i64 ((-1)), .int .i64 ((-1)), .int .i64 (p3), .int .i64 ((-1))] 42 (0, 0)) :: .blk b13 (.cells #[.string (p1.Name), .string (p1.Text), v3, v8] 94 (0, 0)) :: .row a0 42 9 a0r :: L) _ _ _ := hs
   exact ⟨2, (bs []), p1.Text, ([] : List api_Attr), (.slice none 0 0), rw166, hm, hW165, hs.sub ⟨rfl, rfl, rfl, rfl, trivial⟩⟩
set_option maxRecDepth 20000 in
set_option maxHeartbeats 4000000 in
theorem ref5_Lay_ok : ∀ (n : Nat) {f : Fz} {p0 : (List api_Node)} {a0 : Value} {a0r : List (List Value)} {p1 : ref5_Part} {a1 : List Value} {p2 : Int} {p3 : Int} {res : (List api_Node)} (_h0 : RW t_api_Node f a0r p0) (_h1 : t_ref5_Part.R f a1 p1) (_ : ref5_Lay n p0 p1 p2 p3 = some res), Does Tryd.prog 42 [a0, .agg a1.toArray, .int .i64 p2, .int .i64 p3] f [.row a0 42 9 a0r] (fun r f' L' => ∃ (u0 : Value) (u0r : List (List Value)), L' = [.row u0 42 9 u0r] ∧ r = u0 ∧ RW t_api_Node f' u0r res)
  | 0, f, p0, a0, a0r, p1, a1, p2, p3, res, h0, h1, hm => by simp [ref5_Lay] at hm
  | n + 1, f, p0, a0, a0r, p1, a1, p2, p3, res, h0, h1, hm => ref5_Lay_bok n (ref5_Lay_ok n) h0 h1 hm
/-! casement/casementref5.Make -/
def ref5_Make (n : Nat) (p0 : ref5_Part) : Option (api_Tree × Int) :=
  (ref5_Lay n ([] : List api_Node) p0 (-1) (-1)).bind fun x21 =>
  (ref5_Right n ({Nodes := x21} : api_Tree)).bind fun x34 =>
  (bif (decide (x34 ≠ 0)) then some (({Nodes := ([] : List api_Node)} : api_Tree), x34) else
  some (({Nodes := x21} : api_Tree), 0))
set_option maxRecDepth 20000 in
set_option maxHeartbeats 4000000 in
theorem ref5_Make_ok (n : Nat) {f : Fz} {p0 : ref5_Part} {a0 : List Value} {res : (api_Tree × Int)} (h0 : t_ref5_Part.R f a0 p0) (hm : ref5_Make n p0 = some res) : Does Tryd.prog 38 [.agg a0.toArray] f [] (fun r f' L' => ∃ (u0 : List Value), L' = [] ∧ r = .tuple #[.agg u0.toArray, .int .i64 res.2] ∧ t_api_Tree.R f' u0 res.1) := by
 unfold ref5_Make at hm
 intro w0 L w hC
 obtain ⟨v1, v6, rfl, ⟨rw2, hR3, hW4⟩, ⟨rw7, hR8, hW9⟩⟩ := R_ref5_Part.ex h0
 refine enter Tryd.func38 rfl Tryd.ntmps38 (by simp) hC fun a hs => ?_
 have hle := Fz.le.refl f
 refine W_seq fun K1 hK1 => ?_
 refine W_region ?_
 refine sbox hs rfl ?_; clear hs; intro b11 a w hs
 replace hs : St _ _ _ (.blk b11 (.cells #[.string (p0.Name), .string (p0.Text), v1, v6] 94 (0, 0)) :: L) _ _ _ := hs
 refine RL_alloc hs ti24 (.free rfl) (by decide) ?_; clear hs; intro b13 a w hs
 replace hs : St _ _ _ (.blk b13 (.cells #[(.slice none 0 0)] 24 (0, 0)) :: .blk b11 (.cells #[.string (p0.Name), .string (p0.Text), v1, v6] 94 (0, 0)) :: L) _ _ _ := hs
 refine sy (v := .int .i64 (0)) hs (y_assign rfl) ?_; clear hs; intro a w hs
 refine RL_nil ?_
 refine hK1 _ _ ?_; clear hK1
 refine W_seq fun K2 hK2 => ?_
 refine W_region ?_
 refine sy hs (y_ldB rfl Tryd.underlying94 rfl ti94 (.tail _ (.head _)) rfl) ?_; clear hs; intro a w hs
 replace hs := hs.nilRow 42 9
 have hW17 : RW t_api_Node f [] ([] : List api_Node) := trivial
 generalize hgrw18 : ([] : List (List Value)) = rw18 at hs hW17; clear hgrw18
 replace hs : St _ _ _ (.row (.slice none 0 0) 42 9 rw18 :: .blk b13 (.cells #[(.slice none 0 0)] 24 (0, 0)) :: .blk b11 (.cells #[.string (p0.Name), .string (p0.Text), v1, v6] 94 (0, 0)) :: L) _ _ _ := hs
 obtain ⟨x21, hx22, hm⟩ := ob hm
 replace hs : St _ _ _ (.row (.slice none 0 0) 42 9 rw18 :: .blk b13 (.cells #[(.slice none 0 0)] 24 (0, 0)) :: .blk b11 (.cells #[.string (p0.Name), .string (p0.Text), v1, v6] 94 (0, 0)) :: L) _ _ _ := hs
 refine RL_call (Lr := [.row (.slice none 0 0) 42 9 rw18]) (Lf := .blk b13 (.cells #[(.slice none 0 0)] 24 (0, 0)) :: .blk b11 (.cells #[.string (p0.Name), .string (p0.Text), v1, v6] 94 (0, 0)) :: L) hs rfl has42 rfl rfl (ref5_Lay_ok n (f := f) (a0 := (.slice none 0 0)) (a0r := rw18) (a1 := [.string (p0.Name), .string (p0.Text), v1, v6]) hW17 (R_ref5_Part.of (x := p0) ⟨rw2, hR3, hW4⟩ ⟨rw7, hR8, hW9⟩) hx22) (.free rfl) (by decide) ?_; clear hs
 rintro v25 f23 _ a w hf24 ⟨_, rw26, rfl, rfl, hW27⟩ hs
 replace hR3 := hR3.le hf24
 replace hW4 := hW4.le hf24
 replace hR8 := hR8.le hf24
 replace hW9 := hW9.le hf24
 replace hW17 := hW17.le hf24
 replace hle := hle.trans hf24
 replace hs : St _ _ _ (.row v25 42 9 rw26 :: .blk b13 (.cells #[(.slice none 0 0)] 24 (0, 0)) :: .blk b11 (.cells #[.string (p0.Name), .string (p0.Text), v1, v6] 94 (0, 0)) :: L) _ _ _ := hs
 refine sy hs (y_buildS (places := [(0, 1)]) (cs := [v25]) rfl Tryd.underlying24 ti24 (by kernel_rfl) (by decide) rfl ⟨(hs.one (i := 0) rfl), trivial⟩) ?_; clear hs; intro a w hs
 refine RL_alloc hs ti24 (.free rfl) (by decide) ?_; clear hs; intro b31 a w hs
 replace hs : St _ _ _ (.blk b31 (.cells #[(.slice none 0 0)] 24 (0, 0)) :: .row v25 42 9 rw26 :: .blk b13 (.cells #[(.slice none 0 0)] 24 (0, 0)) :: .blk b11 (.cells #[.string (p0.Name), .string (p0.Text), v1, v6] 94 (0, 0)) :: L) _ _ _ := hs
 refine RL_storeAll (i := 0) hs rfl rfl rfl ti24 ⟨rfl, rfl⟩ (AllC.arr (r := [v25]) ⟨(hs.one (i := 1) rfl), trivial⟩) (.free rfl) ?_; clear hs; intro a w hs
 replace hs : St _ _ _ (.blk b31 (.cells #[v25] 24 (0, 0)) :: .row v25 42 9 rw26 :: .blk b13 (.cells #[(.slice none 0 0)] 24 (0, 0)) :: .blk b11 (.cells #[.string (p0.Name), .string (p0.Text), v1, v6] 94 (0, 0)) :: L) _ _ _ := hs
 refine RL_nil ?_
 refine hK2 _ _ ?_; clear hK2
 refine W_seq fun K3 hK3 => ?_
 refine W_region ?_
 refine sy hs (y_ldB rfl Tryd.underlying24 rfl ti24 (.head _) rfl) ?_; clear hs; intro a w hs
 obtain ⟨x34, hx35, hm⟩ := ob hm
 refine sy hs (y_callCK (cap := []) rfl has39 rfl (fun w9 hw9 => callsP (Lr := [.row v25 42 9 rw26]) (Lf := .blk b31 (.cells #[v25] 24 (0, 0)) :: .blk b13 (.cells #[(.slice none 0 0)] 24 (0, 0)) :: .blk b11 (.cells #[.string (p0.Name), .string (p0.Text), v1, v6] 94 (0, 0)) :: L) (perm_at _ 1 rfl) hw9 (fun Lz w9 hw9 => lent0 hw9 (fun f9_0 w9 hle9_0 hRl0 hw9 => (ref5_Right_ok n (f := f9_0) (a0 := [v25]) ⟨_, rfl, ⟨rw26, hRl0, hW27.le hle9_0⟩⟩ hx35) w0 _ w9 hw9)))) ?_; clear hs; intro a w hs
 refine sy (v := .int .i64 (x34)) hs (y_assign rfl) ?_; clear hs; intro a w hs
 refine RL_nil ?_
 refine hK3 _ _ ?_; clear hK3
 refine W_seq fun K4 hK4 => ?_
 refine W_seq fun K5 hK5 => ?_
 refine W_region ?_
 refine sy (v := .int .i64 (x34)) hs (y_move rfl) ?_; clear hs; intro a w hs
 refine sy hs (y_neq rfl rfl) ?_; clear hs; intro a w hs
 refine RL_nil ?_
 refine hK5 _ _ ?_; clear hK5
 refine W_cond hs rfl (fun hg36 => ?_) (fun hg36 => ?_)
 ·replace hm := oc_t hg36 hm
  refine W_seq fun K6 hK6 => ?_
  refine W_region ?_
  refine sy hs (y_buildS (places := [(0, 1)]) (cs := [(.slice none 0 0)]) rfl Tryd.underlying24 ti24 (by kernel_rfl) (by decide) rfl trivial) ?_; clear hs; intro a w hs
  refine sy (v := .int .i64 (x34)) hs (y_move rfl) ?_; clear hs; intro a w hs
  refine RL_storeAll (i := 2) hs rfl rfl rfl ti24 ⟨rfl, rfl⟩ (AllC.arr (r := [(.slice none 0 0)]) ⟨rfl, trivial⟩) (.free rfl) ?_; clear hs; intro a w hs
  replace hs : St _ _ _ (.blk b31 (.cells #[v25] 24 (0, 0)) :: .row v25 42 9 rw26 :: .blk b13 (.cells #[(.slice none 0 0)] 24 (0, 0)) :: .blk b11 (.cells #[.string (p0.Name), .string (p0.Text), v1, v6] 94 (0, 0)) :: L) _ _ _ := hs
  refine sy (v := .int .i64 (x34)) hs (y_assign rfl) ?_; clear hs; intro a w hs
  refine RL_nil ?_
  refine hK6 _ _ ?_; clear hK6
  refine W_ret ?_
  obtain rfl := Option.some.inj hm
  refine RtV2 hs rfl (rv_a hs rfl Tryd.underlying24 rfl ti24 (fun j u hj => Cell.blk (.tail _ (.tail _ (.head _))) hj) rfl) (rv_t hs rfl) ?_
  exact ⟨_, f23, [], rfl, hle, (hs.subL (.cons _ (.cons _ (.cons _ (.cons _ (.refl _)))))).cw, [(.slice none 0 0)], rfl, rfl, ⟨_, rfl, RS.nil⟩⟩
 ·replace hm := oc_f hg36 hm
  refine W_skip ?_
  refine hK4 _ _ ?_; clear hK4
  refine W_seq fun K7 hK7 => ?_
  refine W_region ?_
  refine sy hs (y_ldB rfl Tryd.underlying24 rfl ti24 (.head _) rfl) ?_; clear hs; intro a w hs
  refine RL_storeAll (i := 2) hs rfl rfl rfl ti24 ⟨rfl, rfl⟩ (AllC.arr (r := [v25]) ⟨(hs.one (i := 1) rfl), trivial⟩) (.free rfl) ?_; clear hs; intro a w hs
  replace hs : St _ _ _ (.blk b31 (.cells #[v25] 24 (0, 0)) :: .row v25 42 9 rw26 :: .blk b13 (.cells #[v25] 24 (0, 0)) :: .blk b11 (.cells #[.string (p0.Name), .string (p0.Text), v1, v6] 94 (0, 0)) :: L) _ _ _ := hs
  refine sy (v := .int .i64 (0)) hs (y_assign rfl) ?_; clear hs; intro a w hs
  refine RL_nil ?_
  refine hK7 _ _ ?_; clear hK7
  refine W_ret ?_
  obtain ⟨f38, hf39, hs2, hR40⟩ := hs.frzAt 1 rfl
  clear hs; have hs := hs2; clear hs2
  replace hR3 := hR3.le hf39
  replace hW4 := hW4.le hf39
  replace hR8 := hR8.le hf39
  replace hW9 := hW9.le hf39
  replace hW27 := hW27.le hf39
  replace hle := hle.trans hf39
  replace hs : St _ _ _ (.blk b31 (.cells #[v25] 24 (0, 0)) :: .blk b13 (.cells #[v25] 24 (0, 0)) :: .blk b11 (.cells #[.string (p0.Name), .string (p0.Text), v1, v6] 94 (0, 0)) :: L) _ _ _ := hs
  obtain rfl := Option.some.inj hm
  refine RtV2 hs rfl (rv_a hs rfl Tryd.underlying24 rfl ti24 (fun j u hj => Cell.blk (.tail _ (.head _)) hj) rfl) (rv_t hs rfl) ?_
  exact ⟨_, f38, [], rfl, hle, (hs.subL (.cons _ (.cons _ (.cons _ (.refl _))))).cw, [v25], rfl, rfl, ⟨_, rfl, ⟨rw26, hR40, hW27⟩⟩⟩
end Go.Proofs.YtmkcglpeidbblaaDoor
