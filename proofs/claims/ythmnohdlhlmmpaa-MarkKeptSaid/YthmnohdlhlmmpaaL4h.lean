/-
  Walks and laws of this seat; the base is the text Base.
-/
import Derived.Test.YthmnohdlhlmmpaaY4
import Derived.Test.YthmnohdlhlmmpaaRows
/-
  Models of functions, and that the functions compute them. Printed by lift.py.
-/
namespace Go.Proofs.Ythmnohdlhlmmpaa
open Go.RowKit Go.Sl
/-! casement/casementbook.Same[casement/api.Attr] -/
def book_Same_api_Attr_k1 : Option Bool :=
  some true
def book_Same_api_Attr_l2 (p0 : (List api_Attr)) (p1 : (List api_Attr)) : Nat → Int → Option Bool
  | 0, _ => none
  | k11 + 1, y10 =>
  (bif (decide (y10 < (p0.length : Int))) then (geti p0 y10).bind fun x13 =>
  (geti p1 y10).bind fun x20 =>
  (bif (!(decide (x13.Name = x20.Name) && (decide (x13.Value = x20.Value) && true))) then some false else
  (book_Same_api_Attr_l2 p0 p1 k11) (w64 (y10 + 1))) else
  book_Same_api_Attr_k1)
def book_Same_api_Attr (n : Nat) (p0 : (List api_Attr)) (p1 : (List api_Attr)) : Option Bool :=
  (bif (decide ((p0.length : Int) ≠ (p1.length : Int))) then some false else
  book_Same_api_Attr_l2 p0 p1 n 0)
set_option maxRecDepth 20000 in
set_option maxHeartbeats 4000000 in
theorem book_Same_api_Attr_ok (n : Nat) {f : Fz} {p0 : (List api_Attr)} {a0 : Value} {p1 : (List api_Attr)} {a1 : Value} {res : Bool} (h0 : RS t_api_Attr f a0 p0) (h1 : RS t_api_Attr f a1 p1) (hm : book_Same_api_Attr n p0 p1 = some res) : Gives Try.prog 58 [a0, a1] f (.bool res) := by
 unfold book_Same_api_Attr at hm
 intro w0 L w hC
 obtain ⟨rw1, hR2, hW3⟩ := h0
 obtain ⟨rw5, hR6, hW7⟩ := h1
 refine enter Try.func58 rfl Try.ntmps58 (by simp) hC fun a hs => ?_
 have hle := Fz.le.refl f
 refine W_seq fun K1 hK1 => ?_
 refine W_region ?_
 refine sy (v := .bool (false)) hs (y_assign rfl) ?_; clear hs; (try clear a w); intro a w hs
 refine RL_nil ?_
 refine hK1 _ _ ?_; clear hK1
 refine W_seq fun K2 hK2 => ?_
 refine W_seq fun K3 hK3 => ?_
 refine W_region ?_
 refine sy (v := a0) hs (y_move rfl) ?_; clear hs; (try clear a w); intro a w hs
 refine sy hs (y_lenW hR2 hW3 rfl Try.underlying23) ?_; clear hs; (try clear a w); intro a w hs
 refine sy (v := a1) hs (y_move rfl) ?_; clear hs; (try clear a w); intro a w hs
 refine sy hs (y_lenW hR6 hW7 rfl Try.underlying23) ?_; clear hs; (try clear a w); intro a w hs
 refine sy hs (y_neq rfl rfl) ?_; clear hs; (try clear a w); intro a w hs
 refine RL_nil ?_
 refine hK3 _ _ ?_; clear hK3
 refine W_cond hs rfl (fun hg9 => ?_) (fun hg9 => ?_)
 ·replace hm := oc_t hg9 hm
  refine W_seq fun K4 hK4 => ?_
  refine W_region ?_
  refine sy (v := .bool (false)) hs (y_assign rfl) ?_; clear hs; (try clear a w); intro a w hs
  refine RL_nil ?_
  refine hK4 _ _ ?_; clear hK4
  refine W_ret ?_
  obtain rfl := Option.some.inj hm
  refine RtV1 hs rfl (rv_t hs rfl) ?_
  exact ⟨rfl, (hs.weak hle).cw⟩
 ·replace hm := oc_f hg9 hm
  refine W_skip ?_
  refine hK2 _ _ ?_; clear hK2
  refine W_seq fun K5 hK5 => ?_
  refine W_seq fun K6 hK6 => ?_
  refine W_region ?_
  refine sy (v := .int .i64 (0)) hs (y_assign rfl) ?_; clear hs; (try clear a w); intro a w hs
  refine RL_nil ?_
  refine hK6 _ _ ?_; clear hK6
  refine W_post (fun a w => book_Same_api_Attr_k1 = some res ∧ St 26 w0 f (L) [] a w) ?_ ?_
  ·clear hs hm
   rintro a w ⟨hm, hs⟩
   replace hs : St _ _ _ (L) _ _ _ := hs
   unfold book_Same_api_Attr_k1 at hm
   refine hK5 _ _ ?_; clear hK5
   refine W_seq fun K7 hK7 => ?_
   refine W_region ?_
   refine sy (v := .bool (true)) hs (y_assign rfl) ?_; clear hs; (try clear a w); intro a w hs
   refine RL_nil ?_
   refine hK7 _ _ ?_; clear hK7
   refine W_ret ?_
   obtain rfl := Option.some.inj hm
   refine RtV1 hs rfl (rv_t hs rfl) ?_
   exact ⟨rfl, (hs.weak hle).cw⟩
  ·refine W_block fun Qe8 hB8 hO8 => ?_
   refine W_loop (fun (k : Nat) a w => ∃ (y10 : Int), book_Same_api_Attr_l2 p0 p1 k y10 = some res ∧ St 26 w0 f (L) [(0, a0), (1, a1), (5, .int .i64 (y10))] a w) (fun k => k) n ⟨0, hm, hs.sub ⟨rfl, rfl, rfl, trivial⟩⟩ ?_
   clear hs hm
   intro k
   rintro a w ⟨y10, hm, hs⟩
   replace hs : St _ _ _ (L) _ _ _ := hs
   intro K9 hK9
   cases k with
   | zero => simp [book_Same_api_Attr_l2] at hm
   | succ k11 =>
    rw [book_Same_api_Attr_l2] at hm
    refine W_seq fun K10 hK10 => ?_
    refine W_seq fun K11 hK11 => ?_
    refine W_region ?_
    refine sy (v := .int .i64 (y10)) hs (y_move rfl) ?_; clear hs; (try clear a w); intro a w hs
    refine sy (v := a0) hs (y_move rfl) ?_; clear hs; (try clear a w); intro a w hs
    refine sy hs (y_lenW hR2 hW3 rfl Try.underlying23) ?_; clear hs; (try clear a w); intro a w hs
    refine sy hs (y_lss rfl rfl) ?_; clear hs; (try clear a w); intro a w hs
    refine RL_nil ?_
    refine hK11 _ _ ?_; clear hK11
    refine W_cond hs rfl (fun hg12 => ?_) (fun hg12 => ?_)
    ·replace hm := oc_t hg12 hm
     refine W_skip ?_
     refine hK10 _ _ ?_; clear hK10
     refine W_seq fun K12 hK12 => ?_
     refine W_block fun Qe13 hB13 hO13 => ?_
     refine W_seq fun K14 hK14 => ?_
     refine W_draw hs mixed (by kernel_rfl) ?_; intro a he
     refine qy (v := a0) he (y_move rfl) ?_; clear he; (try clear a); intro a he
     refine qy (v := .int .i64 (y10)) he (y_move rfl) ?_; clear he; (try clear a); intro a he
     obtain ⟨x13, hx14, hm⟩ := ob hm
     obtain ⟨r15, hr16, hq17, hi18, hb19⟩ := hW3.geti hx14
     obtain rfl : _ = ([.string (x13.Name), .string (x13.Value)] : List Value) := hq17
     refine qy he (y_indexAddr hR2 rfl rfl hi18 hb19 Try.underlying23 ti29) ?_; clear he; (try clear a); intro a he
     refine qy he (y_loadRow hR2.up rfl hr16 Try.underlying29 rfl ti29) ?_; clear he; (try clear a); intro a he
     refine qy (v := a1) he (y_move rfl) ?_; clear he; (try clear a); intro a he
     refine qy (v := .int .i64 (y10)) he (y_move rfl) ?_; clear he; (try clear a); intro a he
     obtain ⟨x20, hx21, hm⟩ := ob hm
     obtain ⟨r22, hr23, hq24, hi25, hb26⟩ := hW7.geti hx21
     obtain rfl : _ = ([.string (x20.Name), .string (x20.Value)] : List Value) := hq24
     refine qy he (y_indexAddr hR6 rfl rfl hi25 hb26 Try.underlying23 ti29) ?_; clear he; (try clear a); intro a he
     refine qy he (y_loadRow hR6.up rfl hr23 Try.underlying29 rfl ti29) ?_; clear he; (try clear a); intro a he
     refine qy he (y_stneq rfl rfl Try.underlying29 (by kernel_rfl) (by kernel_rfl) (fun w => (eqF_str rfl Try.underlying9 rfl rfl (eqF_str rfl Try.underlying9 rfl rfl eqF_nil)))) ?_; clear he; (try clear a); intro a he
     refine QL_nil he ?_; clear he; (try clear hs); (try clear a); intro a w hs
     refine hK14 _ _ ?_; clear hK14
     refine W_cond hs rfl (fun hg27 => ?_) (fun hg27 => ?_)
     ·replace hm := oc_t hg27 hm
      refine W_seq fun K15 hK15 => ?_
      refine W_region ?_
      refine sy (v := .bool (false)) hs (y_assign rfl) ?_; clear hs; (try clear a w); intro a w hs
      refine RL_nil ?_
      refine hK15 _ _ ?_; clear hK15
      refine W_ret ?_
      obtain rfl := Option.some.inj hm
      refine RtV1 hs rfl (rv_t hs rfl) ?_
      exact ⟨rfl, (hs.weak hle).cw⟩
     ·replace hm := oc_f hg27 hm
      refine W_skip ?_
      refine hK12 _ _ ?_; clear hK12
      refine W_region ?_
      refine sy (v := .int .i64 (y10)) hs (y_move rfl) ?_; clear hs; (try clear a w); intro a w hs
      refine sy hs (y_add rfl rfl rfl) ?_; clear hs; (try clear a w); intro a w hs
      refine sy (v := .int .i64 ((w64 (y10 + 1)))) hs (y_assign rfl) ?_; clear hs; (try clear a w); intro a w hs
      refine RL_nil ?_
      exact hK9 k11 _ _ (Nat.lt_succ_self _) ⟨(w64 (y10 + 1)), hm, hs.sub ⟨rfl, rfl, rfl, trivial⟩⟩
    ·replace hm := oc_f hg12 hm
     refine W_exit ?_
     refine hB8 _ _ ?_
     exact ⟨hm, hs.sub trivial⟩
/-! casement/casementlaw4.token -/
def law4_token_k1 (y15 : Bool) : Option Bool :=
  some y15
def law4_token (n : Nat) (p0 : mark_Token) (p1 : ref4_Token) : Option Bool :=
  (bif (decide (p0.Kind = p1.Kind)) then (bif (decide (p0.Name = p1.Name)) then (bif (decide (p0.Text = p1.Text)) then (book_Same_api_Attr n p0.Attrs p1.Attrs).bind fun x19 =>
  (bif x19 then law4_token_k1 (p0.Closed == p1.Closed) else
  law4_token_k1 false) else
  law4_token_k1 false) else
  law4_token_k1 false) else
  law4_token_k1 false)
set_option maxRecDepth 20000 in
set_option maxHeartbeats 4000000 in
theorem law4_token_ok (n : Nat) {f : Fz} {p0 : mark_Token} {a0 : List Value} {p1 : ref4_Token} {a1 : List Value} {res : Bool} (h0 : t_mark_Token.R f a0 p0) (h1 : t_ref4_Token.R f a1 p1) (hm : law4_token n p0 p1 = some res) : Gives Try.prog 38 [.agg a0.toArray, .agg a1.toArray] f (.bool res) := by
 unfold law4_token at hm
 intro w0 L w hC
 obtain ⟨v1, rfl, ⟨rw2, hR3, hW4⟩⟩ := h0
 obtain ⟨v6, rfl, ⟨rw7, hR8, hW9⟩⟩ := h1
 refine enter Try.func38 rfl Try.ntmps38 (by simp) hC fun a hs => ?_
 have hle := Fz.le.refl f
 refine W_seq fun K1 hK1 => ?_
 refine W_region ?_
 refine sbox hs rfl ?_; clear hs; (try clear a w); intro b11 a w hs
 replace hs : St _ _ _ (.blk b11 (.cells #[.int .i64 (p0.Kind), .string (p0.Name), .string (p0.Text), v1, .bool (p0.Closed)] 44 (0, 0)) :: L) _ _ _ := hs
 refine sbox hs rfl ?_; clear hs; (try clear a w); intro b13 a w hs
 replace hs : St _ _ _ (.blk b13 (.cells #[.int .i64 (p1.Kind), .string (p1.Name), .string (p1.Text), v6, .bool (p1.Closed)] 25 (0, 0)) :: .blk b11 (.cells #[.int .i64 (p0.Kind), .string (p0.Name), .string (p0.Text), v1, .bool (p0.Closed)] 44 (0, 0)) :: L) _ _ _ := hs
 refine sy (v := .bool (false)) hs (y_assign rfl) ?_; clear hs; (try clear a w); intro a w hs
 refine RL_nil ?_
 refine hK1 _ _ ?_; clear hK1
 refine W_seq fun K2 hK2 => ?_
 refine W_post (fun a w => ∃ (y15 : Bool), law4_token_k1 y15 = some res ∧ St 38 w0 f (L) [(4, .bool (y15))] a w) ?_ ?_
 ·clear hs hm
  rintro a w ⟨y15, hm, hs⟩
  replace hs : St _ _ _ (L) _ _ _ := hs
  unfold law4_token_k1 at hm
  refine hK2 _ _ ?_; clear hK2
  refine W_ret ?_
  obtain rfl := Option.some.inj hm
  refine RtV1 hs rfl (rv_t hs rfl) ?_
  exact ⟨rfl, (hs.weak hle).cw⟩
 ·refine W_region ?_
  refine sy (v := .pointer (some ⟨b11, 0, none⟩)) hs (y_fieldAddr rfl (FO.of (off := 0) Try.underlying44 rfl rfl ti3 (by decide))) ?_; clear hs; (try clear a w); intro a w hs
  refine sy (v := .int .i64 (p0.Kind)) hs (y_ld rfl Try.underlying3 rfl (Cell.blk (.tail _ (.head _)) rfl)) ?_; clear hs; (try clear a w); intro a w hs
  refine sy (v := .pointer (some ⟨b13, 0, none⟩)) hs (y_fieldAddr rfl (FO.of (off := 0) Try.underlying25 rfl rfl ti3 (by decide))) ?_; clear hs; (try clear a w); intro a w hs
  refine sy (v := .int .i64 (p1.Kind)) hs (y_ld rfl Try.underlying3 rfl (Cell.blk (.head _) rfl)) ?_; clear hs; (try clear a w); intro a w hs
  refine sy hs (y_eql rfl rfl) ?_; clear hs; (try clear a w); intro a w hs
  refine sy (v := .bool (decide (p0.Kind = p1.Kind))) hs (y_move rfl) ?_; clear hs; (try clear a w); intro a w hs
  refine St.split hs (t := 10) rfl (fun hg16 hq => ?_) (fun hg16 hq => ?_)
  ·clear hs; have hs := hq; clear hq
   replace hm := oc_t hg16 hm
   refine syg (v := .pointer (some ⟨b11, 1, none⟩)) hs (y_fieldAddr rfl (FO.of (off := 1) Try.underlying44 rfl rfl ti9 (by decide))) ?_; clear hs; (try clear a w); intro a w hs
   refine syg (v := .string (p0.Name)) hs (y_ld rfl Try.underlying9 rfl (Cell.blk (.tail _ (.head _)) rfl)) ?_; clear hs; (try clear a w); intro a w hs
   refine syg (v := .pointer (some ⟨b13, 1, none⟩)) hs (y_fieldAddr rfl (FO.of (off := 1) Try.underlying25 rfl rfl ti9 (by decide))) ?_; clear hs; (try clear a w); intro a w hs
   refine syg (v := .string (p1.Name)) hs (y_ld rfl Try.underlying9 rfl (Cell.blk (.head _) rfl)) ?_; clear hs; (try clear a w); intro a w hs
   refine syg hs (y_seql rfl rfl) ?_; clear hs; (try clear a w); intro a w hs
   refine sy (v := .bool (decide (p0.Name = p1.Name))) hs (y_pick rfl rfl) ?_; clear hs; (try clear a w); intro a w hs
   refine sy (v := .bool (decide (p0.Name = p1.Name))) hs (y_move rfl) ?_; clear hs; (try clear a w); intro a w hs
   refine St.split hs (t := 17) rfl (fun hg17 hq => ?_) (fun hg17 hq => ?_)
   ·clear hs; have hs := hq; clear hq
    replace hm := oc_t hg17 hm
    refine syg (v := .pointer (some ⟨b11, 2, none⟩)) hs (y_fieldAddr rfl (FO.of (off := 2) Try.underlying44 rfl rfl ti9 (by decide))) ?_; clear hs; (try clear a w); intro a w hs
    refine syg (v := .string (p0.Text)) hs (y_ld rfl Try.underlying9 rfl (Cell.blk (.tail _ (.head _)) rfl)) ?_; clear hs; (try clear a w); intro a w hs
    refine syg (v := .pointer (some ⟨b13, 2, none⟩)) hs (y_fieldAddr rfl (FO.of (off := 2) Try.underlying25 rfl rfl ti9 (by decide))) ?_; clear hs; (try clear a w); intro a w hs
    refine syg (v := .string (p1.Text)) hs (y_ld rfl Try.underlying9 rfl (Cell.blk (.head _) rfl)) ?_; clear hs; (try clear a w); intro a w hs
    refine syg hs (y_seql rfl rfl) ?_; clear hs; (try clear a w); intro a w hs
    refine sy (v := .bool (decide (p0.Text = p1.Text))) hs (y_pick rfl rfl) ?_; clear hs; (try clear a w); intro a w hs
    refine sy (v := .bool (decide (p0.Text = p1.Text))) hs (y_move rfl) ?_; clear hs; (try clear a w); intro a w hs
    refine St.split hs (t := 24) rfl (fun hg18 hq => ?_) (fun hg18 hq => ?_)
    ·clear hs; have hs := hq; clear hq
     replace hm := oc_t hg18 hm
     refine syg (v := .pointer (some ⟨b11, 3, none⟩)) hs (y_fieldAddr rfl (FO.of (off := 3) Try.underlying44 rfl rfl ti23 (by decide))) ?_; clear hs; (try clear a w); intro a w hs
     refine syg (v := v1) hs (y_ld rfl Try.underlying23 rfl (Cell.blk (.tail _ (.head _)) rfl)) ?_; clear hs; (try clear a w); intro a w hs
     refine syg (v := .pointer (some ⟨b13, 3, none⟩)) hs (y_fieldAddr rfl (FO.of (off := 3) Try.underlying25 rfl rfl ti23 (by decide))) ?_; clear hs; (try clear a w); intro a w hs
     refine syg (v := v6) hs (y_ld rfl Try.underlying23 rfl (Cell.blk (.head _) rfl)) ?_; clear hs; (try clear a w); intro a w hs
     obtain ⟨x19, hx20, hm⟩ := ob hm
     refine syg hs (y_call rfl has58 rfl (book_Same_api_Attr_ok n (f := f) (a0 := v1) (a1 := v6) ⟨rw2, hR3, hW4⟩ ⟨rw7, hR8, hW9⟩ hx20)) ?_; clear hs; (try clear a w); intro a w hs
     refine sy (v := .bool (x19)) hs (y_pick rfl rfl) ?_; clear hs; (try clear a w); intro a w hs
     refine sy (v := .bool (x19)) hs (y_move rfl) ?_; clear hs; (try clear a w); intro a w hs
     refine St.split hs (t := 31) rfl (fun hg21 hq => ?_) (fun hg21 hq => ?_)
     ·clear hs; have hs := hq; clear hq
      replace hm := oc_t hg21 hm
      refine syg (v := .pointer (some ⟨b11, 4, none⟩)) hs (y_fieldAddr rfl (FO.of (off := 4) Try.underlying44 rfl rfl ti4 (by decide))) ?_; clear hs; (try clear a w); intro a w hs
      refine syg (v := .bool (p0.Closed)) hs (y_ld rfl Try.underlying4 rfl (Cell.blk (.tail _ (.head _)) rfl)) ?_; clear hs; (try clear a w); intro a w hs
      refine syg (v := .pointer (some ⟨b13, 4, none⟩)) hs (y_fieldAddr rfl (FO.of (off := 4) Try.underlying25 rfl rfl ti4 (by decide))) ?_; clear hs; (try clear a w); intro a w hs
      refine syg (v := .bool (p1.Closed)) hs (y_ld rfl Try.underlying4 rfl (Cell.blk (.head _) rfl)) ?_; clear hs; (try clear a w); intro a w hs
      refine syg hs (y_beql rfl rfl Try.underlying4) ?_; clear hs; (try clear a w); intro a w hs
      refine sy (v := .bool ((p0.Closed == p1.Closed))) hs (y_pick rfl rfl) ?_; clear hs; (try clear a w); intro a w hs
      refine sy (v := .bool ((p0.Closed == p1.Closed))) hs (y_assign rfl) ?_; clear hs; (try clear a w); intro a w hs
      refine RL_nil ?_
      exact ⟨(p0.Closed == p1.Closed), hm, hs.subs ⟨rfl, trivial⟩ (.cons _ (.cons _ (.refl _)))⟩
     ·clear hs; have hs := hq; clear hq
      replace hm := oc_f hg21 hm
      refine sno hs ?_; clear hs; (try clear a w); intro a w hs
      refine sno hs ?_; clear hs; (try clear a w); intro a w hs
      refine sno hs ?_; clear hs; (try clear a w); intro a w hs
      refine sno hs ?_; clear hs; (try clear a w); intro a w hs
      refine sno hs ?_; clear hs; (try clear a w); intro a w hs
      refine sy (v := .bool (false)) hs (y_pick rfl rfl) ?_; clear hs; (try clear a w); intro a w hs
      refine sy (v := .bool (false)) hs (y_assign rfl) ?_; clear hs; (try clear a w); intro a w hs
      refine RL_nil ?_
      exact ⟨false, hm, hs.subs ⟨rfl, trivial⟩ (.cons _ (.cons _ (.refl _)))⟩
    ·clear hs; have hs := hq; clear hq
     replace hm := oc_f hg18 hm
     refine sno hs ?_; clear hs; (try clear a w); intro a w hs
     refine sno hs ?_; clear hs; (try clear a w); intro a w hs
     refine sno hs ?_; clear hs; (try clear a w); intro a w hs
     refine sno hs ?_; clear hs; (try clear a w); intro a w hs
     refine sno hs ?_; clear hs; (try clear a w); intro a w hs
     refine sy (v := .bool (false)) hs (y_pick rfl rfl) ?_; clear hs; (try clear a w); intro a w hs
     refine sy (v := .bool (false)) hs (y_move rfl) ?_; clear hs; (try clear a w); intro a w hs
     refine sno hs ?_; clear hs; (try clear a w); intro a w hs
     refine sno hs ?_; clear hs; (try clear a w); intro a w hs
     refine sno hs ?_; clear hs; (try clear a w); intro a w hs
     refine sno hs ?_; clear hs; (try clear a w); intro a w hs
     refine sno hs ?_; clear hs; (try clear a w); intro a w hs
     refine sy (v := .bool (false)) hs (y_pick rfl rfl) ?_; clear hs; (try clear a w); intro a w hs
     refine sy (v := .bool (false)) hs (y_assign rfl) ?_; clear hs; (try clear a w); intro a w hs
     refine RL_nil ?_
     exact ⟨false, hm, hs.subs ⟨rfl, trivial⟩ (.cons _ (.cons _ (.refl _)))⟩
   ·clear hs; have hs := hq; clear hq
    replace hm := oc_f hg17 hm
    refine sno hs ?_; clear hs; (try clear a w); intro a w hs
    refine sno hs ?_; clear hs; (try clear a w); intro a w hs
    refine sno hs ?_; clear hs; (try clear a w); intro a w hs
    refine sno hs ?_; clear hs; (try clear a w); intro a w hs
    refine sno hs ?_; clear hs; (try clear a w); intro a w hs
    refine sy (v := .bool (false)) hs (y_pick rfl rfl) ?_; clear hs; (try clear a w); intro a w hs
    refine sy (v := .bool (false)) hs (y_move rfl) ?_; clear hs; (try clear a w); intro a w hs
    refine sno hs ?_; clear hs; (try clear a w); intro a w hs
    refine sno hs ?_; clear hs; (try clear a w); intro a w hs
    refine sno hs ?_; clear hs; (try clear a w); intro a w hs
    refine sno hs ?_; clear hs; (try clear a w); intro a w hs
    refine sno hs ?_; clear hs; (try clear a w); intro a w hs
    refine sy (v := .bool (false)) hs (y_pick rfl rfl) ?_; clear hs; (try clear a w); intro a w hs
    refine sy (v := .bool (false)) hs (y_move rfl) ?_; clear hs; (try clear a w); intro a w hs
    refine sno hs ?_; clear hs; (try clear a w); intro a w hs
    refine sno hs ?_; clear hs; (try clear a w); intro a w hs
    refine sno hs ?_; clear hs; (try clear a w); intro a w hs
    refine sno hs ?_; clear hs; (try clear a w); intro a w hs
    refine sno hs ?_; clear hs; (try clear a w); intro a w hs
    refine sy (v := .bool (false)) hs (y_pick rfl rfl) ?_; clear hs; (try clear a w); intro a w hs
    refine sy (v := .bool (false)) hs (y_assign rfl) ?_; clear hs; (try clear a w); intro a w hs
    refine RL_nil ?_
    exact ⟨false, hm, hs.subs ⟨rfl, trivial⟩ (.cons _ (.cons _ (.refl _)))⟩
  ·clear hs; have hs := hq; clear hq
   replace hm := oc_f hg16 hm
   refine sno hs ?_; clear hs; (try clear a w); intro a w hs
   refine sno hs ?_; clear hs; (try clear a w); intro a w hs
   refine sno hs ?_; clear hs; (try clear a w); intro a w hs
   refine sno hs ?_; clear hs; (try clear a w); intro a w hs
   refine sno hs ?_; clear hs; (try clear a w); intro a w hs
   refine sy (v := .bool (false)) hs (y_pick rfl rfl) ?_; clear hs; (try clear a w); intro a w hs
   refine sy (v := .bool (false)) hs (y_move rfl) ?_; clear hs; (try clear a w); intro a w hs
   refine sno hs ?_; clear hs; (try clear a w); intro a w hs
   refine sno hs ?_; clear hs; (try clear a w); intro a w hs
   refine sno hs ?_; clear hs; (try clear a w); intro a w hs
   refine sno hs ?_; clear hs; (try clear a w); intro a w hs
   refine sno hs ?_; clear hs; (try clear a w); intro a w hs
   refine sy (v := .bool (false)) hs (y_pick rfl rfl) ?_; clear hs; (try clear a w); intro a w hs
   refine sy (v := .bool (false)) hs (y_move rfl) ?_; clear hs; (try clear a w); intro a w hs
   refine sno hs ?_; clear hs; (try clear a w); intro a w hs
   refine sno hs ?_; clear hs; (try clear a w); intro a w hs
   refine sno hs ?_; clear hs; (try clear a w); intro a w hs
   refine sno hs ?_; clear hs; (try clear a w); intro a w hs
   refine sno hs ?_; clear hs; (try clear a w); intro a w hs
   refine sy (v := .bool (false)) hs (y_pick rfl rfl) ?_; clear hs; (try clear a w); intro a w hs
   refine sy (v := .bool (false)) hs (y_move rfl) ?_; clear hs; (try clear a w); intro a w hs
   refine sno hs ?_; clear hs; (try clear a w); intro a w hs
   refine sno hs ?_; clear hs; (try clear a w); intro a w hs
   refine sno hs ?_; clear hs; (try clear a w); intro a w hs
   refine sno hs ?_; clear hs; (try clear a w); intro a w hs
   refine sno hs ?_; clear hs; (try clear a w); intro a w hs
   refine sy (v := .bool (false)) hs (y_pick rfl rfl) ?_; clear hs; (try clear a w); intro a w hs
   refine sy (v := .bool (false)) hs (y_assign rfl) ?_; clear hs; (try clear a w); intro a w hs
   refine RL_nil ?_
   exact ⟨false, hm, hs.subs ⟨rfl, trivial⟩ (.cons _ (.cons _ (.refl _)))⟩
/-! casement/casementlaw4.tokens -/
def law4_tokens_k1 : Option Bool :=
  some true
def law4_tokens_l2 (n : Nat) (p0 : (List mark_Token)) (p1 : (List ref4_Token)) : Nat → Int → Option Bool
  | 0, _ => none
  | k11 + 1, y10 =>
  (bif (decide (y10 < (p0.length : Int))) then (geti p0 y10).bind fun x13 =>
  (geti p1 y10).bind fun x25 =>
  (law4_token n x13 x25).bind fun x37 =>
  (bif (!x37) then some false else
  (law4_tokens_l2 n p0 p1 k11) (w64 (y10 + 1))) else
  law4_tokens_k1)
def law4_tokens (n : Nat) (p0 : (List mark_Token)) (p1 : (List ref4_Token)) : Option Bool :=
  (bif (decide ((p0.length : Int) ≠ (p1.length : Int))) then some false else
  law4_tokens_l2 n p0 p1 n 0)
set_option maxRecDepth 20000 in
set_option maxHeartbeats 4000000 in
theorem law4_tokens_ok (n : Nat) {f : Fz} {p0 : (List mark_Token)} {a0 : Value} {p1 : (List ref4_Token)} {a1 : Value} {res : Bool} (h0 : RS t_mark_Token f a0 p0) (h1 : RS t_ref4_Token f a1 p1) (hm : law4_tokens n p0 p1 = some res) : Gives Try.prog 21 [a0, a1] f (.bool res) := by
 unfold law4_tokens at hm
 intro w0 L w hC
 obtain ⟨rw1, hR2, hW3⟩ := h0
 obtain ⟨rw5, hR6, hW7⟩ := h1
 refine enter Try.func21 rfl Try.ntmps21 (by simp) hC fun a hs => ?_
 have hle := Fz.le.refl f
 refine W_seq fun K1 hK1 => ?_
 refine W_region ?_
 refine sy (v := .bool (false)) hs (y_assign rfl) ?_; clear hs; (try clear a w); intro a w hs
 refine RL_nil ?_
 refine hK1 _ _ ?_; clear hK1
 refine W_seq fun K2 hK2 => ?_
 refine W_seq fun K3 hK3 => ?_
 refine W_region ?_
 refine sy (v := a0) hs (y_move rfl) ?_; clear hs; (try clear a w); intro a w hs
 refine sy hs (y_lenW hR2 hW3 rfl Try.underlying37) ?_; clear hs; (try clear a w); intro a w hs
 refine sy (v := a1) hs (y_move rfl) ?_; clear hs; (try clear a w); intro a w hs
 refine sy hs (y_lenW hR6 hW7 rfl Try.underlying39) ?_; clear hs; (try clear a w); intro a w hs
 refine sy hs (y_neq rfl rfl) ?_; clear hs; (try clear a w); intro a w hs
 refine RL_nil ?_
 refine hK3 _ _ ?_; clear hK3
 refine W_cond hs rfl (fun hg9 => ?_) (fun hg9 => ?_)
 ·replace hm := oc_t hg9 hm
  refine W_seq fun K4 hK4 => ?_
  refine W_region ?_
  refine sy (v := .bool (false)) hs (y_assign rfl) ?_; clear hs; (try clear a w); intro a w hs
  refine RL_nil ?_
  refine hK4 _ _ ?_; clear hK4
  refine W_ret ?_
  obtain rfl := Option.some.inj hm
  refine RtV1 hs rfl (rv_t hs rfl) ?_
  exact ⟨rfl, (hs.weak hle).cw⟩
 ·replace hm := oc_f hg9 hm
  refine W_skip ?_
  refine hK2 _ _ ?_; clear hK2
  refine W_seq fun K5 hK5 => ?_
  refine W_seq fun K6 hK6 => ?_
  refine W_region ?_
  refine sy (v := .int .i64 (0)) hs (y_assign rfl) ?_; clear hs; (try clear a w); intro a w hs
  refine RL_nil ?_
  refine hK6 _ _ ?_; clear hK6
  refine W_post (fun a w => law4_tokens_k1 = some res ∧ St 27 w0 f (L) [] a w) ?_ ?_
  ·clear hs hm
   rintro a w ⟨hm, hs⟩
   replace hs : St _ _ _ (L) _ _ _ := hs
   unfold law4_tokens_k1 at hm
   refine hK5 _ _ ?_; clear hK5
   refine W_seq fun K7 hK7 => ?_
   refine W_region ?_
   refine sy (v := .bool (true)) hs (y_assign rfl) ?_; clear hs; (try clear a w); intro a w hs
   refine RL_nil ?_
   refine hK7 _ _ ?_; clear hK7
   refine W_ret ?_
   obtain rfl := Option.some.inj hm
   refine RtV1 hs rfl (rv_t hs rfl) ?_
   exact ⟨rfl, (hs.weak hle).cw⟩
  ·refine W_block fun Qe8 hB8 hO8 => ?_
   refine W_loop (fun (k : Nat) a w => ∃ (y10 : Int), law4_tokens_l2 n p0 p1 k y10 = some res ∧ St 27 w0 f (L) [(0, a0), (1, a1), (5, .int .i64 (y10))] a w) (fun k => k) n ⟨0, hm, hs.sub ⟨rfl, rfl, rfl, trivial⟩⟩ ?_
   clear hs hm
   intro k
   rintro a w ⟨y10, hm, hs⟩
   replace hs : St _ _ _ (L) _ _ _ := hs
   intro K9 hK9
   cases k with
   | zero => simp [law4_tokens_l2] at hm
   | succ k11 =>
    rw [law4_tokens_l2] at hm
    refine W_seq fun K10 hK10 => ?_
    refine W_seq fun K11 hK11 => ?_
    refine W_region ?_
    refine sy (v := .int .i64 (y10)) hs (y_move rfl) ?_; clear hs; (try clear a w); intro a w hs
    refine sy (v := a0) hs (y_move rfl) ?_; clear hs; (try clear a w); intro a w hs
    refine sy hs (y_lenW hR2 hW3 rfl Try.underlying37) ?_; clear hs; (try clear a w); intro a w hs
    refine sy hs (y_lss rfl rfl) ?_; clear hs; (try clear a w); intro a w hs
    refine RL_nil ?_
    refine hK11 _ _ ?_; clear hK11
    refine W_cond hs rfl (fun hg12 => ?_) (fun hg12 => ?_)
    ·replace hm := oc_t hg12 hm
     refine W_skip ?_
     refine hK10 _ _ ?_; clear hK10
     refine W_seq fun K12 hK12 => ?_
     refine W_block fun Qe13 hB13 hO13 => ?_
     refine W_seq fun K14 hK14 => ?_
     refine W_draw hs mixed (by kernel_rfl) ?_; intro a he
     refine qy (v := a0) he (y_move rfl) ?_; clear he; (try clear a); intro a he
     refine qy (v := .int .i64 (y10)) he (y_move rfl) ?_; clear he; (try clear a); intro a he
     obtain ⟨x13, hx14, hm⟩ := ob hm
     obtain ⟨r15, hr16, hq17, hi18, hb19⟩ := hW3.geti hx14
     obtain ⟨v20, rfl, ⟨rw21, hR22, hW23⟩⟩ := hq17
     refine qy he (y_indexAddr hR2 rfl rfl hi18 hb19 Try.underlying37 ti44) ?_; clear he; (try clear a); intro a he
     refine qy he (y_loadRow hR2.up rfl hr16 Try.underlying44 rfl ti44) ?_; clear he; (try clear a); intro a he
     refine qy (v := a1) he (y_move rfl) ?_; clear he; (try clear a); intro a he
     refine qy (v := .int .i64 (y10)) he (y_move rfl) ?_; clear he; (try clear a); intro a he
     obtain ⟨x25, hx26, hm⟩ := ob hm
     obtain ⟨r27, hr28, hq29, hi30, hb31⟩ := hW7.geti hx26
     obtain ⟨v32, rfl, ⟨rw33, hR34, hW35⟩⟩ := hq29
     refine qy he (y_indexAddr hR6 rfl rfl hi30 hb31 Try.underlying39 ti25) ?_; clear he; (try clear a); intro a he
     refine qy he (y_loadRow hR6.up rfl hr28 Try.underlying25 rfl ti25) ?_; clear he; (try clear a); intro a he
     obtain ⟨x37, hx38, hm⟩ := ob hm
     refine qy he (y_call rfl has38 rfl (law4_token_ok n (f := f) (a0 := [.int .i64 (x13.Kind), .string (x13.Name), .string (x13.Text), v20, .bool (x13.Closed)]) (a1 := [.int .i64 (x25.Kind), .string (x25.Name), .string (x25.Text), v32, .bool (x25.Closed)]) ⟨_, rfl, ⟨rw21, hR22, hW23⟩⟩ ⟨_, rfl, ⟨rw33, hR34, hW35⟩⟩ hx38)) ?_; clear he; (try clear a); intro a he
     refine qy (v := .bool ((!x37))) he (y_not rfl) ?_; clear he; (try clear a); intro a he
     refine QL_nil he ?_; clear he; (try clear hs); (try clear a); intro a w hs
     refine hK14 _ _ ?_; clear hK14
     refine W_cond hs rfl (fun hg39 => ?_) (fun hg39 => ?_)
     ·replace hm := oc_t hg39 hm
      refine W_seq fun K15 hK15 => ?_
      refine W_region ?_
      refine sy (v := .bool (false)) hs (y_assign rfl) ?_; clear hs; (try clear a w); intro a w hs
      refine RL_nil ?_
      refine hK15 _ _ ?_; clear hK15
      refine W_ret ?_
      obtain rfl := Option.some.inj hm
      refine RtV1 hs rfl (rv_t hs rfl) ?_
      exact ⟨rfl, (hs.weak hle).cw⟩
     ·replace hm := oc_f hg39 hm
      refine W_skip ?_
      refine hK12 _ _ ?_; clear hK12
      refine W_region ?_
      refine sy (v := .int .i64 (y10)) hs (y_move rfl) ?_; clear hs; (try clear a w); intro a w hs
      refine sy hs (y_add rfl rfl rfl) ?_; clear hs; (try clear a w); intro a w hs
      refine sy (v := .int .i64 ((w64 (y10 + 1)))) hs (y_assign rfl) ?_; clear hs; (try clear a w); intro a w hs
      refine RL_nil ?_
      exact hK9 k11 _ _ (Nat.lt_succ_self _) ⟨(w64 (y10 + 1)), hm, hs.sub ⟨rfl, rfl, rfl, trivial⟩⟩
    ·replace hm := oc_f hg12 hm
     refine W_exit ?_
     refine hB8 _ _ ?_
     exact ⟨hm, hs.sub trivial⟩
/-! casement/casementlaw4.same -/
/-! casement/casementlaw4.chars -/
def law4_chars (_n : Nat) (p0 : ByteArray) : Option ref4_Token :=
  some ({Kind := 1, Name := (bs []), Text := p0, Attrs := ([] : List api_Attr), Closed := false} : ref4_Token)
set_option maxRecDepth 20000 in
set_option maxHeartbeats 4000000 in
theorem law4_chars_ok (n : Nat) {f : Fz} {p0 : ByteArray} {res : ref4_Token}  (hm : law4_chars n p0 = some res) : Does Try.prog 13 [.string p0] f [] (fun r f' L' => ∃ (u0 : List Value), L' = [] ∧ r = .agg u0.toArray ∧ t_ref4_Token.R f' u0 res) := by
 unfold law4_chars at hm
 intro w0 L w hC
 refine enter Try.func13 rfl Try.ntmps13 (by simp) hC fun a hs => ?_
 have hle := Fz.le.refl f
 refine W_seq fun K1 hK1 => ?_
 refine W_region ?_
 refine RL_alloc hs ti25 (.free rfl) (by decide) ?_; clear hs; (try clear a w); intro b1 a w hs
 replace hs : St _ _ _ (.blk b1 (.cells #[.int .i64 (0), .string ((bs [])), .string ((bs [])), (.slice none 0 0), .bool (false)] 25 (0, 0)) :: L) _ _ _ := hs
 refine RL_nil ?_
 refine hK1 _ _ ?_; clear hK1
 refine W_seq fun K2 hK2 => ?_
 refine W_region ?_
 refine sy (v := .string (p0)) hs (y_move rfl) ?_; clear hs; (try clear a w); intro a w hs
 refine sy hs (y_buildS (places := [(0, 1), (1, 1), (2, 1), (3, 1), (4, 1)]) (cs := [.int .i64 (1), .string ((bs [])), .string (p0), (.slice none 0 0), .bool (false)]) rfl Try.underlying25 ti25 (by kernel_rfl) (by decide) rfl ⟨rfl, rfl, trivial⟩) ?_; clear hs; (try clear a w); intro a w hs
 refine RL_storeAll (i := 0) hs rfl rfl rfl ti25 ⟨rfl, rfl⟩ (AllC.arr (r := [.int .i64 (1), .string ((bs [])), .string (p0), (.slice none 0 0), .bool (false)]) ⟨rfl, rfl, rfl, rfl, rfl, trivial⟩) (.free rfl) ?_; clear hs; (try clear a w); intro a w hs
 replace hs : St _ _ _ (.blk b1 (.cells #[.int .i64 (1), .string ((bs [])), .string (p0), (.slice none 0 0), .bool (false)] 25 (0, 0)) :: L) _ _ _ := hs
 refine RL_nil ?_
 refine hK2 _ _ ?_; clear hK2
 refine W_ret ?_
 obtain rfl := Option.some.inj hm
 refine RtV1 hs rfl (rv_a hs rfl Try.underlying25 rfl ti25 (fun j u hj => Cell.blk (.head _) hj) rfl) ?_
 exact ⟨_, f, [], rfl, hle, (hs.subL (.cons _ (.refl _))).cw, [.int .i64 (1), .string ((bs [])), .string (p0), (.slice none 0 0), .bool (false)], rfl, rfl, ⟨_, rfl, RS.nil⟩⟩
/-! casement/casementlaw4.shut -/
/-! casement/casementlaw4.open -/
def law4_open (_n : Nat) (p0 : ByteArray) (p1 : Bool) (p2 : (List api_Attr)) : Option ref4_Token :=
  some ({Kind := 2, Name := p0, Text := (bs []), Attrs := p2, Closed := p1} : ref4_Token)
set_option maxRecDepth 20000 in
set_option maxHeartbeats 4000000 in
theorem law4_open_ok (n : Nat) {f : Fz} {p0 : ByteArray} {p1 : Bool} {p2 : (List api_Attr)} {a2 : Value} {res : ref4_Token} (h2 : RS t_api_Attr f a2 p2) (hm : law4_open n p0 p1 p2 = some res) : Does Try.prog 15 [.string p0, .bool p1, a2] f [] (fun r f' L' => ∃ (u0 : List Value), L' = [] ∧ r = .agg u0.toArray ∧ t_ref4_Token.R f' u0 res) := by
 unfold law4_open at hm
 intro w0 L w hC
 obtain ⟨rw1, hR2, hW3⟩ := h2
 refine enter Try.func15 rfl Try.ntmps15 (by simp) hC fun a hs => ?_
 have hle := Fz.le.refl f
 refine W_seq fun K1 hK1 => ?_
 refine W_region ?_
 refine RL_alloc hs ti25 (.free rfl) (by decide) ?_; clear hs; (try clear a w); intro b5 a w hs
 replace hs : St _ _ _ (.blk b5 (.cells #[.int .i64 (0), .string ((bs [])), .string ((bs [])), (.slice none 0 0), .bool (false)] 25 (0, 0)) :: L) _ _ _ := hs
 refine RL_nil ?_
 refine hK1 _ _ ?_; clear hK1
 refine W_seq fun K2 hK2 => ?_
 refine W_region ?_
 refine sy (v := .string (p0)) hs (y_move rfl) ?_; clear hs; (try clear a w); intro a w hs
 refine sy (v := a2) hs (y_move rfl) ?_; clear hs; (try clear a w); intro a w hs
 refine sy (v := .bool (p1)) hs (y_move rfl) ?_; clear hs; (try clear a w); intro a w hs
 refine sy hs (y_buildS (places := [(0, 1), (1, 1), (2, 1), (3, 1), (4, 1)]) (cs := [.int .i64 (2), .string (p0), .string ((bs [])), a2, .bool (p1)]) rfl Try.underlying25 ti25 (by kernel_rfl) (by decide) rfl ⟨rfl, rfl, hR2.one, rfl, trivial⟩) ?_; clear hs; (try clear a w); intro a w hs
 refine RL_storeAll (i := 0) hs rfl rfl rfl ti25 ⟨rfl, rfl⟩ (AllC.arr (r := [.int .i64 (2), .string (p0), .string ((bs [])), a2, .bool (p1)]) ⟨rfl, rfl, rfl, hR2.one, rfl, trivial⟩) (.free rfl) ?_; clear hs; (try clear a w); intro a w hs
 replace hs : St _ _ _ (.blk b5 (.cells #[.int .i64 (2), .string (p0), .string ((bs [])), a2, .bool (p1)] 25 (0, 0)) :: L) _ _ _ := hs
 refine RL_nil ?_
 refine hK2 _ _ ?_; clear hK2
 refine W_ret ?_
 obtain rfl := Option.some.inj hm
 refine RtV1 hs rfl (rv_a hs rfl Try.underlying25 rfl ti25 (fun j u hj => Cell.blk (.head _) hj) rfl) ?_
 exact ⟨_, f, [], rfl, hle, (hs.subL (.cons _ (.refl _))).cw, [.int .i64 (2), .string (p0), .string ((bs [])), a2, .bool (p1)], rfl, rfl, ⟨_, rfl, ⟨rw1, hR2, hW3⟩⟩⟩
end Go.Proofs.Ythmnohdlhlmmpaa
