/-
  Walks and laws of this seat; the base is the text Base.
-/
import Derived.Test.YthmnohdlhlmmpaaL4g
import Derived.Test.YthmnohdlhlmmpaaL4k
import Derived.Test.YthmnohdlhlmmpaaRows
/-
  Models of functions, and that the functions compute them. Printed by lift.py.
-/
namespace Go.Proofs.Ythmnohdlhlmmpaa
open Go.RowKit Go.Sl

/-! casement/casementlaw4.MarkNames -/
def law4_MarkNames_k1 (n : Nat) : Option Bool :=
  (law4_known n).bind fun x23 =>
  some x23
def law4_MarkNames_k3 (y25 : Int) (lp26 : Int → Option Bool) : Option Bool :=
  lp26 (w64 (y25 + 1))
def law4_MarkNames_k4 (y25 : Int) (lp26 : Int → Option Bool) : Option Bool :=
  law4_MarkNames_k3 y25 lp26
def law4_MarkNames_k7 (y49 : Int) (lp50 : Int → Option Bool) : Option Bool :=
  lp50 (w64 (y49 + 1))
def law4_MarkNames_l8 (x28 : mark_Token) (y49 : Int) (lp50 : Int → Option Bool) : Nat → Int → Option Bool
  | 0, _ => none
  | k64 + 1, y63 =>
  (bif (decide (y63 < y49)) then (geti x28.Attrs y63).bind fun x66 =>
  (geti x28.Attrs y49).bind fun x73 =>
  (bif (decide (x66.Name = x73.Name)) then some false else
  (law4_MarkNames_l8 x28 y49 lp50 k64) (w64 (y63 + 1))) else
  law4_MarkNames_k7 y49 lp50)
def law4_MarkNames_k6 (n : Nat) (x28 : mark_Token) (y49 : Int) (lp50 : Int → Option Bool) : Option Bool :=
  law4_MarkNames_l8 x28 y49 lp50 n 0
def law4_MarkNames_l9 (n : Nat) (x28 : mark_Token) (y49 : Int) (lp50 : Int → Option Bool) (x59 : ByteArray) : Nat → Nat → Option Bool
  | 0, _ => none
  | k82 + 1, y81 =>
  (bif decide (y81 < x59.size) then (bif ((decide (65 ≤ ((Utf8.decode x59 y81).1 : Int))) && (decide (((Utf8.decode x59 y81).1 : Int) ≤ 90))) then some false else
  (law4_MarkNames_l9 n x28 y49 lp50 x59 k82) (y81 + (Utf8.decode x59 y81).2)) else
  law4_MarkNames_k6 n x28 y49 lp50)
def law4_MarkNames_l5 (n : Nat) (y25 : Int) (lp26 : Int → Option Bool) (x28 : mark_Token) : Nat → Int → Option Bool
  | 0, _ => none
  | k50 + 1, y49 =>
  (bif (decide (y49 < (x28.Attrs.length : Int))) then (geti x28.Attrs y49).bind fun x52 =>
  (addS x52.Name x28.Name).bind fun x59 =>
  law4_MarkNames_l9 n x28 y49 (law4_MarkNames_l5 n y25 lp26 x28 k50) x59 n (0 : Nat) else
  law4_MarkNames_k4 y25 lp26)
def law4_MarkNames_l2 (n : Nat) (x14 : (List mark_Token)) : Nat → Int → Option Bool
  | 0, _ => none
  | k26 + 1, y25 =>
  (bif (decide (y25 < (x14.length : Int))) then (geti x14 y25).bind fun x28 =>
  (bif (decide (x28.Kind = 1)) then (bif ((decide (x28.Text = (bs []))) || ((decide (x28.Name ≠ (bs []))) || ((decide (0 < (x28.Attrs.length : Int))) || x28.Closed))) then some false else
  law4_MarkNames_k3 y25 (law4_MarkNames_l2 n x14 k26)) else
  (bif (bif (decide (x28.Kind ≠ 2)) then ((decide (x28.Kind ≠ 3)) || ((decide (x28.Name = (bs []))) || ((decide (x28.Text ≠ (bs []))) || (bif (decide (x28.Kind = 3)) then ((decide (0 < (x28.Attrs.length : Int))) || (x28.Closed || (decide (64 < (x28.Attrs.length : Int))))) else decide (64 < (x28.Attrs.length : Int)))))) else ((decide (x28.Name = (bs []))) || ((decide (x28.Text ≠ (bs []))) || (bif (decide (x28.Kind = 3)) then ((decide (0 < (x28.Attrs.length : Int))) || (x28.Closed || (decide (64 < (x28.Attrs.length : Int))))) else decide (64 < (x28.Attrs.length : Int)))))) then some false else
  law4_MarkNames_l5 n y25 (law4_MarkNames_l2 n x14 k26) x28 n 0)) else
  law4_MarkNames_k1 n)
def law4_MarkNames (n : Nat) (p0 : (List Int)) : Option Bool :=
  (keep_FewRunes n p0 2000).bind fun x5 =>
  (mark_Tokens n x5).bind fun x14 =>
  law4_MarkNames_l2 n x14 n 0
set_option maxRecDepth 20000 in
set_option maxHeartbeats 4000000 in
theorem law4_MarkNames_ok (n : Nat) {f : Fz} {p0 : (List Int)} {a0 : Value} {res : Bool} (h0 : RS (tInt .i32) f a0 p0) (hm : law4_MarkNames n p0 = some res) : Gives Try.prog 6 [a0] f (.bool res) := by
 unfold law4_MarkNames at hm
 intro w0 L w hC
 obtain ⟨rw1, hR2, hW3⟩ := h0
 refine enter Try.func6 rfl Try.ntmps6 (by simp) hC fun a hs => ?_
 have hle := Fz.le.refl f
 refine W_seq fun K1 hK1 => ?_
 refine W_region ?_
 refine sy (v := .bool (false)) hs (y_assign rfl) ?_; clear hs; (try clear a w); intro a w hs
 refine RL_nil ?_
 refine hK1 _ _ ?_; clear hK1
 refine W_seq fun K2 hK2 => ?_
 refine W_region ?_
 refine sy (v := a0) hs (y_move rfl) ?_; clear hs; (try clear a w); intro a w hs
 obtain ⟨x5, hx6, hm⟩ := ob hm
 refine RL_callV hs rfl has18 rfl (keep_FewRunes_ok n (f := f) (a0 := a0) ⟨rw1, hR2, hW3⟩ hx6) ?_; clear hs; (try clear a w)
 rintro v9 f7 _ a w hf8 ⟨_, rfl, rfl, ⟨rw10, hR11, hW12⟩⟩ hs
 replace hR2 := hR2.le hf8
 replace hW3 := hW3.le hf8
 replace hle := hle.trans hf8
 replace hs : St _ _ _ (L) _ _ _ := hs
 refine sy (v := v9) hs (y_assign rfl) ?_; clear hs; (try clear a w); intro a w hs
 refine RL_nil ?_
 refine hK2 _ _ ?_; clear hK2
 refine W_seq fun K3 hK3 => ?_
 refine W_region ?_
 refine sy (v := v9) hs (y_move rfl) ?_; clear hs; (try clear a w); intro a w hs
 obtain ⟨x14, hx15, hm⟩ := ob hm
 refine RL_callV hs rfl has22 rfl (mark_Tokens_ok n (f := f7) (a0 := v9) ⟨rw10, hR11, hW12⟩ hx15) ?_; clear hs; (try clear a w)
 rintro v18 f16 _ a w hf17 ⟨_, rfl, rfl, ⟨rw19, hR20, hW21⟩⟩ hs
 replace hR2 := hR2.le hf17
 replace hW3 := hW3.le hf17
 replace hR11 := hR11.le hf17
 replace hW12 := hW12.le hf17
 replace hle := hle.trans hf17
 replace hs : St _ _ _ (L) _ _ _ := hs
 refine sy (v := v18) hs (y_assign rfl) ?_; clear hs; (try clear a w); intro a w hs
 refine RL_nil ?_
 refine hK3 _ _ ?_; clear hK3
 refine W_seq fun K4 hK4 => ?_
 refine W_seq fun K5 hK5 => ?_
 refine W_region ?_
 refine sy (v := .int .i64 (0)) hs (y_assign rfl) ?_; clear hs; (try clear a w); intro a w hs
 refine RL_nil ?_
 refine hK5 _ _ ?_; clear hK5
 refine W_post (fun a w => law4_MarkNames_k1 n = some res ∧ St 129 w0 f16 (L) [] a w) ?_ ?_
 ·clear hs hm
  rintro a w ⟨hm, hs⟩
  replace hs : St _ _ _ (L) _ _ _ := hs
  unfold law4_MarkNames_k1 at hm
  refine hK4 _ _ ?_; clear hK4
  refine W_seq fun K6 hK6 => ?_
  refine W_region ?_
  obtain ⟨x23, hx24, hm⟩ := ob hm
  refine sy hs (y_call rfl has17 rfl (law4_known_ok n (f := f16)  hx24)) ?_; clear hs; (try clear a w); intro a w hs
  refine sy (v := .bool (x23)) hs (y_assign rfl) ?_; clear hs; (try clear a w); intro a w hs
  refine RL_nil ?_
  refine hK6 _ _ ?_; clear hK6
  refine W_ret ?_
  obtain rfl := Option.some.inj hm
  refine RtV1 hs rfl (rv_t hs rfl) ?_
  exact ⟨rfl, (hs.weak hle).cw⟩
 ·refine W_block fun Qe7 hB7 hO7 => ?_
  refine W_loop (fun (k : Nat) a w => ∃ (y25 : Int), law4_MarkNames_l2 n x14 k y25 = some res ∧ St 129 w0 f16 (L) [(3, v18), (4, .int .i64 (y25))] a w) (fun k => k) n ⟨0, hm, hs.sub ⟨rfl, rfl, trivial⟩⟩ ?_
  clear hs hm
  intro k
  rintro a w ⟨y25, hm, hs⟩
  replace hs : St _ _ _ (L) _ _ _ := hs
  intro K8 hK8
  cases k with
  | zero => simp [law4_MarkNames_l2] at hm
  | succ k26 =>
   rw [law4_MarkNames_l2] at hm
   refine W_seq fun K9 hK9 => ?_
   refine W_seq fun K10 hK10 => ?_
   refine W_region ?_
   refine sy (v := .int .i64 (y25)) hs (y_move rfl) ?_; clear hs; (try clear a w); intro a w hs
   refine sy (v := v18) hs (y_move rfl) ?_; clear hs; (try clear a w); intro a w hs
   refine sy hs (y_lenW hR20 hW21 rfl Try.underlying37) ?_; clear hs; (try clear a w); intro a w hs
   refine sy hs (y_lss rfl rfl) ?_; clear hs; (try clear a w); intro a w hs
   refine RL_nil ?_
   refine hK10 _ _ ?_; clear hK10
   refine W_cond hs rfl (fun hg27 => ?_) (fun hg27 => ?_)
   ·replace hm := oc_t hg27 hm
    refine W_skip ?_
    refine hK9 _ _ ?_; clear hK9
    refine W_seq fun K11 hK11 => ?_
    refine W_post (fun a w => law4_MarkNames_k3 y25 (law4_MarkNames_l2 n x14 k26) = some res ∧ St 129 w0 f16 (L) [(3, v18), (4, .int .i64 (y25))] a w) ?_ ?_
    ·clear hs hm
     rintro a w ⟨hm, hs⟩
     replace hs : St _ _ _ (L) _ _ _ := hs
     unfold law4_MarkNames_k3 at hm
     refine hK11 _ _ ?_; clear hK11
     refine W_region ?_
     refine sy (v := .int .i64 (y25)) hs (y_move rfl) ?_; clear hs; (try clear a w); intro a w hs
     refine sy hs (y_add rfl rfl rfl) ?_; clear hs; (try clear a w); intro a w hs
     refine sy (v := .int .i64 ((w64 (y25 + 1)))) hs (y_assign rfl) ?_; clear hs; (try clear a w); intro a w hs
     refine RL_nil ?_
     exact hK8 k26 _ _ (Nat.lt_succ_self _) ⟨(w64 (y25 + 1)), hm, hs.sub ⟨rfl, rfl, trivial⟩⟩
    ·refine W_block fun Qe12 hB12 hO12 => ?_
     refine W_seq fun K13 hK13 => ?_
     refine W_region ?_
     refine sy (v := v18) hs (y_move rfl) ?_; clear hs; (try clear a w); intro a w hs
     refine sy (v := .int .i64 (y25)) hs (y_move rfl) ?_; clear hs; (try clear a w); intro a w hs
     obtain ⟨x28, hx29, hm⟩ := ob hm
     obtain ⟨r30, hr31, hq32, hi33, hb34⟩ := hW21.geti hx29
     obtain ⟨v35, rfl, ⟨rw36, hR37, hW38⟩⟩ := hq32
     refine sy hs (y_indexAddr hR20 rfl rfl hi33 hb34 Try.underlying37 ti44) ?_; clear hs; (try clear a w); intro a w hs
     refine sy hs (y_loadRow hR20.up rfl hr31 Try.underlying44 rfl ti44) ?_; clear hs; (try clear a w); intro a w hs
     refine RL_alloc hs ti44 (.free rfl) (by decide) ?_; clear hs; (try clear a w); intro b40 a w hs
     replace hs : St _ _ _ (.blk b40 (.cells #[.int .i64 (0), .string ((bs [])), .string ((bs [])), (.slice none 0 0), .bool (false)] 44 (0, 0)) :: L) _ _ _ := hs
     refine RL_storeAll (i := 0) hs rfl rfl rfl ti44 ⟨rfl, rfl⟩ (AllC.arr (r := [.int .i64 (x28.Kind), .string (x28.Name), .string (x28.Text), v35, .bool (x28.Closed)]) ⟨rfl, rfl, rfl, hR37.one, rfl, trivial⟩) (.free rfl) ?_; clear hs; (try clear a w); intro a w hs
     replace hs : St _ _ _ (.blk b40 (.cells #[.int .i64 (x28.Kind), .string (x28.Name), .string (x28.Text), v35, .bool (x28.Closed)] 44 (0, 0)) :: L) _ _ _ := hs
     refine RL_nil ?_
     refine hK13 _ _ ?_; clear hK13
     refine W_seq fun K14 hK14 => ?_
     refine W_seq fun K15 hK15 => ?_
     refine W_region ?_
     refine sy (v := .pointer (some ⟨b40, 0, none⟩)) hs (y_fieldAddr rfl (FO.of (off := 0) Try.underlying44 rfl rfl ti3 (by decide))) ?_; clear hs; (try clear a w); intro a w hs
     refine sy (v := .int .i64 (x28.Kind)) hs (y_ld rfl Try.underlying3 rfl (Cell.blk (.head _) rfl)) ?_; clear hs; (try clear a w); intro a w hs
     refine sy hs (y_eql rfl rfl) ?_; clear hs; (try clear a w); intro a w hs
     refine RL_nil ?_
     refine hK15 _ _ ?_; clear hK15
     refine W_cond hs rfl (fun hg43 => ?_) (fun hg43 => ?_)
     ·replace hm := oc_t hg43 hm
      refine W_seq fun K16 hK16 => ?_
      refine W_seq fun K17 hK17 => ?_
      refine W_post (fun a w => St 129 w0 f16 (.blk b40 (.cells #[.int .i64 (x28.Kind), .string (x28.Name), .string (x28.Text), v35, .bool (x28.Closed)] 44 (0, 0)) :: L) [(3, v18), (4, .int .i64 (y25)), (44, .bool (((decide (x28.Text = (bs []))) || ((decide (x28.Name ≠ (bs []))) || ((decide (0 < (x28.Attrs.length : Int))) || x28.Closed)))))] a w) ?_ ?_
      ·clear hs; intro a w hs
       refine hK17 _ _ ?_; clear hK17
       refine W_cond hs rfl (fun hg44 => ?_) (fun hg44 => ?_)
       ·replace hm := oc_t hg44 hm
        refine W_seq fun K18 hK18 => ?_
        refine W_region ?_
        refine sy (v := .bool (false)) hs (y_assign rfl) ?_; clear hs; (try clear a w); intro a w hs
        refine RL_nil ?_
        refine hK18 _ _ ?_; clear hK18
        refine W_ret ?_
        obtain rfl := Option.some.inj hm
        refine RtV1 hs rfl (rv_t hs rfl) ?_
        exact ⟨rfl, ((hs.subL (.cons _ (.refl _))).weak hle).cw⟩
       ·replace hm := oc_f hg44 hm
        refine W_skip ?_
        refine hK16 _ _ ?_; clear hK16
        refine W_exit ?_
        refine hB12 _ _ ?_
        exact ⟨hm, hs.subs ⟨rfl, rfl, trivial⟩ (.cons _ (.refl _))⟩
      ·refine W_region ?_
       refine sy (v := .pointer (some ⟨b40, 2, none⟩)) hs (y_fieldAddr rfl (FO.of (off := 2) Try.underlying44 rfl rfl ti9 (by decide))) ?_; clear hs; (try clear a w); intro a w hs
       refine sy (v := .string (x28.Text)) hs (y_ld rfl Try.underlying9 rfl (Cell.blk (.head _) rfl)) ?_; clear hs; (try clear a w); intro a w hs
       refine sy hs (y_seql rfl rfl) ?_; clear hs; (try clear a w); intro a w hs
       refine sy (v := .bool (decide (x28.Text = (bs [])))) hs (y_move rfl) ?_; clear hs; (try clear a w); intro a w hs
       refine St.split hs (t := 30) rfl (fun hg45 hq => ?_) (fun hg45 hq => ?_)
       ·clear hs; have hs := hq; clear hq
        refine sno hs ?_; clear hs; (try clear a w); intro a w hs
        refine sno hs ?_; clear hs; (try clear a w); intro a w hs
        refine sno hs ?_; clear hs; (try clear a w); intro a w hs
        refine sy (v := .bool (true)) hs (y_pick rfl rfl) ?_; clear hs; (try clear a w); intro a w hs
        refine sy (v := .bool (true)) hs (y_move rfl) ?_; clear hs; (try clear a w); intro a w hs
        refine sno hs ?_; clear hs; (try clear a w); intro a w hs
        refine sno hs ?_; clear hs; (try clear a w); intro a w hs
        refine sno hs ?_; clear hs; (try clear a w); intro a w hs
        refine sno hs ?_; clear hs; (try clear a w); intro a w hs
        refine sy (v := .bool (true)) hs (y_pick rfl rfl) ?_; clear hs; (try clear a w); intro a w hs
        refine sy (v := .bool (true)) hs (y_move rfl) ?_; clear hs; (try clear a w); intro a w hs
        refine sno hs ?_; clear hs; (try clear a w); intro a w hs
        refine sno hs ?_; clear hs; (try clear a w); intro a w hs
        refine sy (v := .bool (true)) hs (y_pick rfl rfl) ?_; clear hs; (try clear a w); intro a w hs
        refine RL_nil ?_
        exact hs.sub ⟨rfl, rfl, (lkB (((or_t hg45).trans rfl)) rfl), trivial⟩
       ·clear hs; have hs := hq; clear hq
        refine syg (v := .pointer (some ⟨b40, 1, none⟩)) hs (y_fieldAddr rfl (FO.of (off := 1) Try.underlying44 rfl rfl ti9 (by decide))) ?_; clear hs; (try clear a w); intro a w hs
        refine syg (v := .string (x28.Name)) hs (y_ld rfl Try.underlying9 rfl (Cell.blk (.head _) rfl)) ?_; clear hs; (try clear a w); intro a w hs
        refine syg hs (y_sneq rfl rfl) ?_; clear hs; (try clear a w); intro a w hs
        refine sy (v := .bool (decide (x28.Name ≠ (bs [])))) hs (y_pick rfl rfl) ?_; clear hs; (try clear a w); intro a w hs
        refine sy (v := .bool (decide (x28.Name ≠ (bs [])))) hs (y_move rfl) ?_; clear hs; (try clear a w); intro a w hs
        refine St.split hs (t := 35) rfl (fun hg46 hq => ?_) (fun hg46 hq => ?_)
        ·clear hs; have hs := hq; clear hq
         refine sno hs ?_; clear hs; (try clear a w); intro a w hs
         refine sno hs ?_; clear hs; (try clear a w); intro a w hs
         refine sno hs ?_; clear hs; (try clear a w); intro a w hs
         refine sno hs ?_; clear hs; (try clear a w); intro a w hs
         refine sy (v := .bool (true)) hs (y_pick rfl rfl) ?_; clear hs; (try clear a w); intro a w hs
         refine sy (v := .bool (true)) hs (y_move rfl) ?_; clear hs; (try clear a w); intro a w hs
         refine sno hs ?_; clear hs; (try clear a w); intro a w hs
         refine sno hs ?_; clear hs; (try clear a w); intro a w hs
         refine sy (v := .bool (true)) hs (y_pick rfl rfl) ?_; clear hs; (try clear a w); intro a w hs
         refine RL_nil ?_
         exact hs.sub ⟨rfl, rfl, (lkB (((or_f hg45).trans ((or_t hg46).trans rfl))) rfl), trivial⟩
        ·clear hs; have hs := hq; clear hq
         refine syg (v := .pointer (some ⟨b40, 3, none⟩)) hs (y_fieldAddr rfl (FO.of (off := 3) Try.underlying44 rfl rfl ti23 (by decide))) ?_; clear hs; (try clear a w); intro a w hs
         refine syg (v := v35) hs (y_ld rfl Try.underlying23 rfl (Cell.blk (.head _) rfl)) ?_; clear hs; (try clear a w); intro a w hs
         refine syg hs (y_lenW hR37 hW38 rfl Try.underlying23) ?_; clear hs; (try clear a w); intro a w hs
         refine syg hs (y_gtr rfl rfl) ?_; clear hs; (try clear a w); intro a w hs
         refine sy (v := .bool (decide (0 < (x28.Attrs.length : Int)))) hs (y_pick rfl rfl) ?_; clear hs; (try clear a w); intro a w hs
         refine sy (v := .bool (decide (0 < (x28.Attrs.length : Int)))) hs (y_move rfl) ?_; clear hs; (try clear a w); intro a w hs
         refine St.split hs (t := 41) rfl (fun hg47 hq => ?_) (fun hg47 hq => ?_)
         ·clear hs; have hs := hq; clear hq
          refine sno hs ?_; clear hs; (try clear a w); intro a w hs
          refine sno hs ?_; clear hs; (try clear a w); intro a w hs
          refine sy (v := .bool (true)) hs (y_pick rfl rfl) ?_; clear hs; (try clear a w); intro a w hs
          refine RL_nil ?_
          exact hs.sub ⟨rfl, rfl, (lkB (((or_f hg45).trans ((or_f hg46).trans ((or_t hg47).trans rfl)))) rfl), trivial⟩
         ·clear hs; have hs := hq; clear hq
          refine syg (v := .pointer (some ⟨b40, 4, none⟩)) hs (y_fieldAddr rfl (FO.of (off := 4) Try.underlying44 rfl rfl ti4 (by decide))) ?_; clear hs; (try clear a w); intro a w hs
          refine syg (v := .bool (x28.Closed)) hs (y_ld rfl Try.underlying4 rfl (Cell.blk (.head _) rfl)) ?_; clear hs; (try clear a w); intro a w hs
          refine sy (v := .bool (x28.Closed)) hs (y_pick rfl rfl) ?_; clear hs; (try clear a w); intro a w hs
          refine RL_nil ?_
          exact hs.sub ⟨rfl, rfl, (lkB (((or_f hg45).trans ((or_f hg46).trans ((or_f hg47).trans rfl)))) rfl), trivial⟩
     ·replace hm := oc_f hg43 hm
      refine W_skip ?_
      refine hK14 _ _ ?_; clear hK14
      refine W_seq fun K19 hK19 => ?_
      refine W_seq fun K20 hK20 => ?_
      refine W_post (fun a w => St 129 w0 f16 (.blk b40 (.cells #[.int .i64 (x28.Kind), .string (x28.Name), .string (x28.Text), v35, .bool (x28.Closed)] 44 (0, 0)) :: L) [(3, v18), (4, .int .i64 (y25)), (5, .pointer (some ⟨b40, 0, none⟩)), (83, .bool ((bif (decide (x28.Kind ≠ 2)) then ((decide (x28.Kind ≠ 3)) || ((decide (x28.Name = (bs []))) || ((decide (x28.Text ≠ (bs []))) || (bif (decide (x28.Kind = 3)) then ((decide (0 < (x28.Attrs.length : Int))) || (x28.Closed || (decide (64 < (x28.Attrs.length : Int))))) else decide (64 < (x28.Attrs.length : Int)))))) else ((decide (x28.Name = (bs []))) || ((decide (x28.Text ≠ (bs []))) || (bif (decide (x28.Kind = 3)) then ((decide (0 < (x28.Attrs.length : Int))) || (x28.Closed || (decide (64 < (x28.Attrs.length : Int))))) else decide (64 < (x28.Attrs.length : Int))))))))] a w) ?_ ?_
      ·clear hs; intro a w hs
       refine hK20 _ _ ?_; clear hK20
       refine W_cond hs rfl (fun hg48 => ?_) (fun hg48 => ?_)
       ·replace hm := oc_t hg48 hm
        refine W_seq fun K21 hK21 => ?_
        refine W_region ?_
        refine sy (v := .bool (false)) hs (y_assign rfl) ?_; clear hs; (try clear a w); intro a w hs
        refine RL_nil ?_
        refine hK21 _ _ ?_; clear hK21
        refine W_ret ?_
        obtain rfl := Option.some.inj hm
        refine RtV1 hs rfl (rv_t hs rfl) ?_
        exact ⟨rfl, ((hs.subL (.cons _ (.refl _))).weak hle).cw⟩
       ·replace hm := oc_f hg48 hm
        refine W_skip ?_
        refine hK19 _ _ ?_; clear hK19
        refine W_seq fun K22 hK22 => ?_
        refine W_region ?_
        refine sy (v := .int .i64 (0)) hs (y_assign rfl) ?_; clear hs; (try clear a w); intro a w hs
        refine RL_nil ?_
        refine hK22 _ _ ?_; clear hK22
        refine W_post (fun a w => law4_MarkNames_k4 y25 (law4_MarkNames_l2 n x14 k26) = some res ∧ St 129 w0 f16 (L) [(3, v18), (4, .int .i64 (y25))] a w) ?_ ?_
        ·clear hs hm
         rintro a w ⟨hm, hs⟩
         replace hs : St _ _ _ (L) _ _ _ := hs
         unfold law4_MarkNames_k4 at hm
         exact ⟨hm, hs.sub ⟨rfl, rfl, trivial⟩⟩
        ·refine W_block fun Qe23 hB23 hO23 => ?_
         refine W_loop (fun (k : Nat) a w => ∃ (y49 : Int), law4_MarkNames_l5 n y25 (law4_MarkNames_l2 n x14 k26) x28 k y49 = some res ∧ St 129 w0 f16 (.blk b40 (.cells #[.int .i64 (x28.Kind), .string (x28.Name), .string (x28.Text), v35, .bool (x28.Closed)] 44 (0, 0)) :: L) [(3, v18), (4, .int .i64 (y25)), (5, .pointer (some ⟨b40, 0, none⟩)), (6, .int .i64 (y49))] a w) (fun k => k) n ⟨0, hm, hs.sub ⟨rfl, rfl, rfl, rfl, trivial⟩⟩ ?_
         clear hs hm
         intro k
         rintro a w ⟨y49, hm, hs⟩
         replace hs : St _ _ _ (.blk b40 (.cells #[.int .i64 (x28.Kind), .string (x28.Name), .string (x28.Text), v35, .bool (x28.Closed)] 44 (0, 0)) :: L) _ _ _ := hs
         intro K24 hK24
         cases k with
         | zero => simp [law4_MarkNames_l5] at hm
         | succ k50 =>
          rw [law4_MarkNames_l5] at hm
          refine W_seq fun K25 hK25 => ?_
          refine W_seq fun K26 hK26 => ?_
          refine W_region ?_
          refine sy (v := .int .i64 (y49)) hs (y_move rfl) ?_; clear hs; (try clear a w); intro a w hs
          refine sy (v := .pointer (some ⟨b40, 3, none⟩)) hs (y_fieldAddr rfl (FO.of (off := 3) Try.underlying44 rfl rfl ti23 (by decide))) ?_; clear hs; (try clear a w); intro a w hs
          refine sy (v := v35) hs (y_ld rfl Try.underlying23 rfl (Cell.blk (.head _) rfl)) ?_; clear hs; (try clear a w); intro a w hs
          refine sy hs (y_lenW hR37 hW38 rfl Try.underlying23) ?_; clear hs; (try clear a w); intro a w hs
          refine sy hs (y_lss rfl rfl) ?_; clear hs; (try clear a w); intro a w hs
          refine RL_nil ?_
          refine hK26 _ _ ?_; clear hK26
          refine W_cond hs rfl (fun hg51 => ?_) (fun hg51 => ?_)
          ·replace hm := oc_t hg51 hm
           refine W_skip ?_
           refine hK25 _ _ ?_; clear hK25
           refine W_seq fun K27 hK27 => ?_
           refine W_block fun Qe28 hB28 hO28 => ?_
           refine W_seq fun K29 hK29 => ?_
           refine W_seq fun K30 hK30 => ?_
           have hsD := hs.subL (L' := .blk b40 (.cells #[.int .i64 (x28.Kind), .string (x28.Name), .string (x28.Text), v35, .bool (x28.Closed)] 44 (0, 0)) :: []) (.cons_cons _ (List.nil_sublist _))
           refine T_start hs (.blk b40 (.cells #[.int .i64 (x28.Kind), .string (x28.Name), .string (x28.Text), v35, .bool (x28.Closed)] 44 (0, 0)) :: []) [9] (.look 0 (.look 1 (.look 2 (.look 3 (.look 4 (.look 5 (.look 6 (.look 7 (.look 8 (.any [9] (fun _ => .done))))))))))) mixed (by kernel_rfl) ?_; clear hs; (try clear a w); intro a he
           refine uy (v := .pointer (some ⟨b40, 3, none⟩)) 0 he rfl (y_fieldAddr rfl (FO.of (off := 3) Try.underlying44 rfl rfl ti23 (by decide))) ?_; clear he; (try clear a); intro a he
           refine uy (v := v35) 1 he rfl (y_ld rfl Try.underlying23 rfl (Cell.blk (.head _) rfl)) ?_; clear he; (try clear a); intro a he
           refine uy (v := .int .i64 (y49)) 2 he rfl (y_move rfl) ?_; clear he; (try clear a); intro a he
           obtain ⟨x52, hx53, hm⟩ := ob hm
           obtain ⟨r54, hr55, hq56, hi57, hb58⟩ := hW38.geti hx53
           obtain rfl : _ = ([.string (x52.Name), .string (x52.Value)] : List Value) := hq56
           refine uy 3 he rfl (y_indexAddr hR37 rfl rfl hi57 hb58 Try.underlying23 ti29) ?_; clear he; (try clear a); intro a he
           refine uy (v := eaddr v35 2 y49.toNat 0) 4 he rfl (y_fieldAddrE (i := y49.toNat) (j := 0) hR37 rfl hb58 (FO.of (off := 0) Try.underlying29 rfl rfl ti9 (by decide))) ?_; clear he; (try clear a); intro a he
           refine uy (v := .string (x52.Name)) 5 he rfl (y_loadE (i := y49.toNat) (j := 0) hR37.up rfl hr55 rfl Try.underlying9 rfl) ?_; clear he; (try clear a); intro a he
           refine uy (v := .pointer (some ⟨b40, 1, none⟩)) 6 he rfl (y_fieldAddr rfl (FO.of (off := 1) Try.underlying44 rfl rfl ti9 (by decide))) ?_; clear he; (try clear a); intro a he
           refine uy (v := .string (x28.Name)) 7 he rfl (y_ld rfl Try.underlying9 rfl (Cell.blk (.head _) rfl)) ?_; clear he; (try clear a); intro a he
           obtain ⟨x59, hx60, hm⟩ := ob hm
           obtain ⟨hbx59, hex59⟩ := addS_some hx60
           refine uy 8 he rfl (y_saddW rfl rfl hbx59 hex59) ?_; clear he; (try clear a); intro a he
           refine T_any1 he rfl ?_; clear he; (try clear a); intro a w hs
           refine RL_range hs rfl Try.underlying9 ?_; clear hs; (try clear a w); intro b61 a w hs
           replace hs : St _ _ _ (.blk b61 (.stringIter x59 (0 : Nat)) :: .blk b40 (.cells #[.int .i64 (x28.Kind), .string (x28.Name), .string (x28.Text), v35, .bool (x28.Closed)] 44 (0, 0)) :: L) _ _ _ := hs
           refine uend hs ?_; clear hs; (try clear a w); intro a he
           refine T_nil he ?_; clear he; (try clear a); intro w hs; try clear hsD
           refine hK30 _ _ ?_; clear hK30
           refine W_post (fun a w => law4_MarkNames_k6 n x28 y49 (law4_MarkNames_l5 n y25 (law4_MarkNames_l2 n x14 k26) x28 k50) = some res ∧ St 129 w0 f16 (.blk b40 (.cells #[.int .i64 (x28.Kind), .string (x28.Name), .string (x28.Text), v35, .bool (x28.Closed)] 44 (0, 0)) :: L) [(3, v18), (4, .int .i64 (y25)), (5, .pointer (some ⟨b40, 0, none⟩)), (6, .int .i64 (y49))] a w) ?_ ?_
           ·clear hs hm
            rintro a w ⟨hm, hs⟩
            replace hs : St _ _ _ (.blk b40 (.cells #[.int .i64 (x28.Kind), .string (x28.Name), .string (x28.Text), v35, .bool (x28.Closed)] 44 (0, 0)) :: L) _ _ _ := hs
            unfold law4_MarkNames_k6 at hm
            refine hK29 _ _ ?_; clear hK29
            refine W_seq fun K31 hK31 => ?_
            refine W_region ?_
            refine sy (v := .int .i64 (0)) hs (y_assign rfl) ?_; clear hs; (try clear a w); intro a w hs
            refine RL_nil ?_
            refine hK31 _ _ ?_; clear hK31
            refine W_post (fun a w => law4_MarkNames_k7 y49 (law4_MarkNames_l5 n y25 (law4_MarkNames_l2 n x14 k26) x28 k50) = some res ∧ St 129 w0 f16 (.blk b40 (.cells #[.int .i64 (x28.Kind), .string (x28.Name), .string (x28.Text), v35, .bool (x28.Closed)] 44 (0, 0)) :: L) [(3, v18), (4, .int .i64 (y25)), (5, .pointer (some ⟨b40, 0, none⟩)), (6, .int .i64 (y49))] a w) ?_ ?_
            ·clear hs hm
             rintro a w ⟨hm, hs⟩
             replace hs : St _ _ _ (.blk b40 (.cells #[.int .i64 (x28.Kind), .string (x28.Name), .string (x28.Text), v35, .bool (x28.Closed)] 44 (0, 0)) :: L) _ _ _ := hs
             unfold law4_MarkNames_k7 at hm
             refine hK27 _ _ ?_; clear hK27
             refine W_region ?_
             refine sy (v := .int .i64 (y49)) hs (y_move rfl) ?_; clear hs; (try clear a w); intro a w hs
             refine sy hs (y_add rfl rfl rfl) ?_; clear hs; (try clear a w); intro a w hs
             refine sy (v := .int .i64 ((w64 (y49 + 1)))) hs (y_assign rfl) ?_; clear hs; (try clear a w); intro a w hs
             refine RL_nil ?_
             exact hK24 k50 _ _ (Nat.lt_succ_self _) ⟨(w64 (y49 + 1)), hm, hs.sub ⟨rfl, rfl, rfl, rfl, trivial⟩⟩
            ·refine W_block fun Qe32 hB32 hO32 => ?_
             refine W_loop (fun (k : Nat) a w => ∃ (y63 : Int), law4_MarkNames_l8 x28 y49 (law4_MarkNames_l5 n y25 (law4_MarkNames_l2 n x14 k26) x28 k50) k y63 = some res ∧ St 129 w0 f16 (.blk b40 (.cells #[.int .i64 (x28.Kind), .string (x28.Name), .string (x28.Text), v35, .bool (x28.Closed)] 44 (0, 0)) :: L) [(3, v18), (4, .int .i64 (y25)), (5, .pointer (some ⟨b40, 0, none⟩)), (6, .int .i64 (y49)), (9, .int .i64 (y63))] a w) (fun k => k) n ⟨0, hm, hs.sub ⟨rfl, rfl, rfl, rfl, rfl, trivial⟩⟩ ?_
             clear hs hm
             intro k
             rintro a w ⟨y63, hm, hs⟩
             replace hs : St _ _ _ (.blk b40 (.cells #[.int .i64 (x28.Kind), .string (x28.Name), .string (x28.Text), v35, .bool (x28.Closed)] 44 (0, 0)) :: L) _ _ _ := hs
             intro K33 hK33
             cases k with
             | zero => simp [law4_MarkNames_l8] at hm
             | succ k64 =>
              rw [law4_MarkNames_l8] at hm
              refine W_seq fun K34 hK34 => ?_
              refine W_seq fun K35 hK35 => ?_
              refine W_region ?_
              refine sy (v := .int .i64 (y63)) hs (y_move rfl) ?_; clear hs; (try clear a w); intro a w hs
              refine sy (v := .int .i64 (y49)) hs (y_move rfl) ?_; clear hs; (try clear a w); intro a w hs
              refine sy hs (y_lss rfl rfl) ?_; clear hs; (try clear a w); intro a w hs
              refine RL_nil ?_
              refine hK35 _ _ ?_; clear hK35
              refine W_cond hs rfl (fun hg65 => ?_) (fun hg65 => ?_)
              ·replace hm := oc_t hg65 hm
               refine W_skip ?_
               refine hK34 _ _ ?_; clear hK34
               refine W_seq fun K36 hK36 => ?_
               refine W_block fun Qe37 hB37 hO37 => ?_
               refine W_seq fun K38 hK38 => ?_
               refine W_draw hs mixed (by kernel_rfl) ?_; intro a he
               refine qy (v := .pointer (some ⟨b40, 3, none⟩)) he (y_fieldAddr rfl (FO.of (off := 3) Try.underlying44 rfl rfl ti23 (by decide))) ?_; clear he; (try clear a); intro a he
               refine qy (v := v35) he (y_ld rfl Try.underlying23 rfl (Cell.blk (.head _) rfl)) ?_; clear he; (try clear a); intro a he
               refine qy (v := .int .i64 (y63)) he (y_move rfl) ?_; clear he; (try clear a); intro a he
               obtain ⟨x66, hx67, hm⟩ := ob hm
               obtain ⟨r68, hr69, hq70, hi71, hb72⟩ := hW38.geti hx67
               obtain rfl : _ = ([.string (x66.Name), .string (x66.Value)] : List Value) := hq70
               refine qy he (y_indexAddr hR37 rfl rfl hi71 hb72 Try.underlying23 ti29) ?_; clear he; (try clear a); intro a he
               refine qy (v := eaddr v35 2 y63.toNat 0) he (y_fieldAddrE (i := y63.toNat) (j := 0) hR37 rfl hb72 (FO.of (off := 0) Try.underlying29 rfl rfl ti9 (by decide))) ?_; clear he; (try clear a); intro a he
               refine qy (v := .string (x66.Name)) he (y_loadE (i := y63.toNat) (j := 0) hR37.up rfl hr69 rfl Try.underlying9 rfl) ?_; clear he; (try clear a); intro a he
               refine qy (v := .pointer (some ⟨b40, 3, none⟩)) he (y_fieldAddr rfl (FO.of (off := 3) Try.underlying44 rfl rfl ti23 (by decide))) ?_; clear he; (try clear a); intro a he
               refine qy (v := v35) he (y_ld rfl Try.underlying23 rfl (Cell.blk (.head _) rfl)) ?_; clear he; (try clear a); intro a he
               refine qy (v := .int .i64 (y49)) he (y_move rfl) ?_; clear he; (try clear a); intro a he
               obtain ⟨x73, hx74, hm⟩ := ob hm
               obtain ⟨r75, hr76, hq77, hi78, hb79⟩ := hW38.geti hx74
               obtain rfl : _ = ([.string (x73.Name), .string (x73.Value)] : List Value) := hq77
               refine qy he (y_indexAddr hR37 rfl rfl hi78 hb79 Try.underlying23 ti29) ?_; clear he; (try clear a); intro a he
               refine qy (v := eaddr v35 2 y49.toNat 0) he (y_fieldAddrE (i := y49.toNat) (j := 0) hR37 rfl hb79 (FO.of (off := 0) Try.underlying29 rfl rfl ti9 (by decide))) ?_; clear he; (try clear a); intro a he
               refine qy (v := .string (x73.Name)) he (y_loadE (i := y49.toNat) (j := 0) hR37.up rfl hr76 rfl Try.underlying9 rfl) ?_; clear he; (try clear a); intro a he
               refine qy he (y_seql rfl rfl) ?_; clear he; (try clear a); intro a he
               refine QL_nil he ?_; clear he; (try clear hs); (try clear a); intro a w hs
               refine hK38 _ _ ?_; clear hK38
               refine W_cond hs rfl (fun hg80 => ?_) (fun hg80 => ?_)
               ·replace hm := oc_t hg80 hm
                refine W_seq fun K39 hK39 => ?_
                refine W_region ?_
                refine sy (v := .bool (false)) hs (y_assign rfl) ?_; clear hs; (try clear a w); intro a w hs
                refine RL_nil ?_
                refine hK39 _ _ ?_; clear hK39
                refine W_ret ?_
                obtain rfl := Option.some.inj hm
                refine RtV1 hs rfl (rv_t hs rfl) ?_
                exact ⟨rfl, ((hs.subL (.cons _ (.refl _))).weak hle).cw⟩
               ·replace hm := oc_f hg80 hm
                refine W_skip ?_
                refine hK36 _ _ ?_; clear hK36
                refine W_region ?_
                refine sy (v := .int .i64 (y63)) hs (y_move rfl) ?_; clear hs; (try clear a w); intro a w hs
                refine sy hs (y_add rfl rfl rfl) ?_; clear hs; (try clear a w); intro a w hs
                refine sy (v := .int .i64 ((w64 (y63 + 1)))) hs (y_assign rfl) ?_; clear hs; (try clear a w); intro a w hs
                refine RL_nil ?_
                exact hK33 k64 _ _ (Nat.lt_succ_self _) ⟨(w64 (y63 + 1)), hm, hs.sub ⟨rfl, rfl, rfl, rfl, rfl, trivial⟩⟩
              ·replace hm := oc_f hg65 hm
               refine W_exit ?_
               refine hB32 _ _ ?_
               exact ⟨hm, hs.sub ⟨rfl, rfl, rfl, rfl, trivial⟩⟩
           ·refine W_block fun Qe40 hB40 hO40 => ?_
            refine W_loop (fun (k : Nat) a w => ∃ (y81 : Nat), law4_MarkNames_l9 n x28 y49 (law4_MarkNames_l5 n y25 (law4_MarkNames_l2 n x14 k26) x28 k50) x59 k y81 = some res ∧ St 129 w0 f16 (.blk b61 (.stringIter x59 y81) :: .blk b40 (.cells #[.int .i64 (x28.Kind), .string (x28.Name), .string (x28.Text), v35, .bool (x28.Closed)] 44 (0, 0)) :: L) [(3, v18), (4, .int .i64 (y25)), (5, .pointer (some ⟨b40, 0, none⟩)), (6, .int .i64 (y49)), (100, .pointer (some ⟨b61, 0, none⟩))] a w) (fun k => k) n ⟨(0 : Nat), hm, hs.sub ⟨rfl, rfl, rfl, rfl, rfl, trivial⟩⟩ ?_
            clear hs hm
            intro k
            rintro a w ⟨y81, hm, hs⟩
            replace hs : St _ _ _ (.blk b61 (.stringIter x59 y81) :: .blk b40 (.cells #[.int .i64 (x28.Kind), .string (x28.Name), .string (x28.Text), v35, .bool (x28.Closed)] 44 (0, 0)) :: L) _ _ _ := hs
            intro K41 hK41
            cases k with
            | zero => simp [law4_MarkNames_l9] at hm
            | succ k82 =>
             rw [law4_MarkNames_l9] at hm
             refine W_seq fun K42 hK42 => ?_
             refine W_region ?_
             refine RL_next (i := 0) hs rfl rfl (fun hg83 => ?_) (fun hg83 => ?_)
             ·replace hm := oc_t (decide_eq_true hg83) hm; clear hs; (try clear a w); intro a w hs
              replace hs : St _ _ _ (.blk b61 (.stringIter x59 (y81 + (Utf8.decode x59 y81).2)) :: .blk b40 (.cells #[.int .i64 (x28.Kind), .string (x28.Name), .string (x28.Text), v35, .bool (x28.Closed)] 44 (0, 0)) :: L) _ _ _ := hs
              refine sy (v := .bool (true)) hs (y_extract rfl rfl) ?_; clear hs; (try clear a w); intro a w hs
              refine RL_nil ?_
              refine hK42 _ _ ?_; clear hK42
              refine W_seq fun K43 hK43 => ?_
              refine W_condT hs rfl ?_
              refine W_skip ?_
              refine hK43 _ _ ?_; clear hK43
              refine W_block fun Qe44 hB44 hO44 => ?_
              refine W_seq fun K45 hK45 => ?_
              refine W_region ?_
              refine sy (v := .int .i32 (((Utf8.decode x59 y81).1 : Int))) hs (y_extract rfl rfl) ?_; clear hs; (try clear a w); intro a w hs
              refine sy (v := .int .i32 (((Utf8.decode x59 y81).1 : Int))) hs (y_assign rfl) ?_; clear hs; (try clear a w); intro a w hs
              refine RL_nil ?_
              refine hK45 _ _ ?_; clear hK45
              refine W_seq fun K46 hK46 => ?_
              refine W_post (fun a w => St 129 w0 f16 (.blk b61 (.stringIter x59 (y81 + (Utf8.decode x59 y81).2)) :: .blk b40 (.cells #[.int .i64 (x28.Kind), .string (x28.Name), .string (x28.Text), v35, .bool (x28.Closed)] 44 (0, 0)) :: L) [(3, v18), (4, .int .i64 (y25)), (5, .pointer (some ⟨b40, 0, none⟩)), (6, .int .i64 (y49)), (100, .pointer (some ⟨b61, 0, none⟩)), (109, .bool (((decide (65 ≤ ((Utf8.decode x59 y81).1 : Int))) && (decide (((Utf8.decode x59 y81).1 : Int) ≤ 90)))))] a w) ?_ ?_
              ·clear hs; intro a w hs
               refine hK46 _ _ ?_; clear hK46
               refine W_cond hs rfl (fun hg84 => ?_) (fun hg84 => ?_)
               ·replace hm := oc_t hg84 hm
                refine W_seq fun K47 hK47 => ?_
                refine W_region ?_
                refine sy (v := .bool (false)) hs (y_assign rfl) ?_; clear hs; (try clear a w); intro a w hs
                refine RL_nil ?_
                refine hK47 _ _ ?_; clear hK47
                refine W_ret ?_
                obtain rfl := Option.some.inj hm
                refine RtV1 hs rfl (rv_t hs rfl) ?_
                exact ⟨rfl, ((hs.subL (.cons _ (.cons _ (.refl _)))).weak hle).cw⟩
               ·replace hm := oc_f hg84 hm
                refine W_skip ?_
                exact hK41 k82 _ _ (Nat.lt_succ_self _) ⟨(y81 + (Utf8.decode x59 y81).2), hm, hs.sub ⟨rfl, rfl, rfl, rfl, rfl, trivial⟩⟩
              ·refine W_region ?_
               refine sy (v := .int .i32 (((Utf8.decode x59 y81).1 : Int))) hs (y_move rfl) ?_; clear hs; (try clear a w); intro a w hs
               refine sy hs (y_geq rfl rfl) ?_; clear hs; (try clear a w); intro a w hs
               refine sy (v := .bool (decide (65 ≤ ((Utf8.decode x59 y81).1 : Int)))) hs (y_move rfl) ?_; clear hs; (try clear a w); intro a w hs
               refine St.split hs (t := 106) rfl (fun hg85 hq => ?_) (fun hg85 hq => ?_)
               ·clear hs; have hs := hq; clear hq
                refine syg (v := .int .i32 (((Utf8.decode x59 y81).1 : Int))) hs (y_move rfl) ?_; clear hs; (try clear a w); intro a w hs
                refine syg hs (y_leq rfl rfl) ?_; clear hs; (try clear a w); intro a w hs
                refine sy (v := .bool (decide (((Utf8.decode x59 y81).1 : Int) ≤ 90))) hs (y_pick rfl rfl) ?_; clear hs; (try clear a w); intro a w hs
                refine RL_nil ?_
                exact hs.sub ⟨rfl, rfl, rfl, rfl, rfl, (lkB (((and_t hg85).trans rfl)) rfl), trivial⟩
               ·clear hs; have hs := hq; clear hq
                refine sno hs ?_; clear hs; (try clear a w); intro a w hs
                refine sno hs ?_; clear hs; (try clear a w); intro a w hs
                refine sy (v := .bool (false)) hs (y_pick rfl rfl) ?_; clear hs; (try clear a w); intro a w hs
                refine RL_nil ?_
                exact hs.sub ⟨rfl, rfl, rfl, rfl, rfl, (lkB (((and_f hg85).trans rfl)) rfl), trivial⟩
             ·replace hm := oc_f (decide_eq_false (Nat.not_lt.2 hg83)) hm; clear hs; (try clear a w); intro a w hs
              refine sy (v := .bool (false)) hs (y_extract rfl rfl) ?_; clear hs; (try clear a w); intro a w hs
              refine RL_nil ?_
              refine hK42 _ _ ?_; clear hK42
              refine W_seq fun K48 hK48 => ?_
              refine W_condF hs rfl ?_
              refine W_exit ?_
              refine hB40 _ _ ?_
              exact ⟨hm, hs.subs ⟨rfl, rfl, rfl, rfl, trivial⟩ (.cons _ (.cons_cons _ (.refl _)))⟩
          ·replace hm := oc_f hg51 hm
           refine W_exit ?_
           refine hB23 _ _ ?_
           exact ⟨hm, hs.subs ⟨rfl, rfl, trivial⟩ (.cons _ (.refl _))⟩
      ·refine W_region ?_
       refine sy (v := .pointer (some ⟨b40, 0, none⟩)) hs (y_fieldAddr rfl (FO.of (off := 0) Try.underlying44 rfl rfl ti3 (by decide))) ?_; clear hs; (try clear a w); intro a w hs
       refine sy (v := .int .i64 (x28.Kind)) hs (y_ld rfl Try.underlying3 rfl (Cell.blk (.head _) rfl)) ?_; clear hs; (try clear a w); intro a w hs
       refine sy hs (y_neq rfl rfl) ?_; clear hs; (try clear a w); intro a w hs
       refine sy (v := .bool (decide (x28.Kind ≠ 2))) hs (y_move rfl) ?_; clear hs; (try clear a w); intro a w hs
       refine St.split hs (t := 48) rfl (fun hg86 hq => ?_) (fun hg86 hq => ?_)
       ·clear hs; have hs := hq; clear hq
        refine syg (v := .pointer (some ⟨b40, 0, none⟩)) hs (y_fieldAddr rfl (FO.of (off := 0) Try.underlying44 rfl rfl ti3 (by decide))) ?_; clear hs; (try clear a w); intro a w hs
        refine syg (v := .int .i64 (x28.Kind)) hs (y_ld rfl Try.underlying3 rfl (Cell.blk (.head _) rfl)) ?_; clear hs; (try clear a w); intro a w hs
        refine syg hs (y_neq rfl rfl) ?_; clear hs; (try clear a w); intro a w hs
        refine sy (v := .bool (decide (x28.Kind ≠ 3))) hs (y_pick rfl rfl) ?_; clear hs; (try clear a w); intro a w hs
        refine sy (v := .bool (decide (x28.Kind ≠ 3))) hs (y_move rfl) ?_; clear hs; (try clear a w); intro a w hs
        refine St.split hs (t := 53) rfl (fun hg87 hq => ?_) (fun hg87 hq => ?_)
        ·clear hs; have hs := hq; clear hq
         refine sno hs ?_; clear hs; (try clear a w); intro a w hs
         refine sno hs ?_; clear hs; (try clear a w); intro a w hs
         refine sno hs ?_; clear hs; (try clear a w); intro a w hs
         refine sy (v := .bool (true)) hs (y_pick rfl rfl) ?_; clear hs; (try clear a w); intro a w hs
         refine sy (v := .bool (true)) hs (y_move rfl) ?_; clear hs; (try clear a w); intro a w hs
         refine sno hs ?_; clear hs; (try clear a w); intro a w hs
         refine sno hs ?_; clear hs; (try clear a w); intro a w hs
         refine sno hs ?_; clear hs; (try clear a w); intro a w hs
         refine sy (v := .bool (true)) hs (y_pick rfl rfl) ?_; clear hs; (try clear a w); intro a w hs
         refine sy (v := .bool (true)) hs (y_move rfl) ?_; clear hs; (try clear a w); intro a w hs
         refine sno hs ?_; clear hs; (try clear a w); intro a w hs
         refine sno hs ?_; clear hs; (try clear a w); intro a w hs
         refine sno hs ?_; clear hs; (try clear a w); intro a w hs
         refine sno hs ?_; clear hs; (try clear a w); intro a w hs
         refine sun hs ?_; clear hs; (try clear a w); intro a w hs
         refine sun hs ?_; clear hs; (try clear a w); intro a w hs
         refine sun hs ?_; clear hs; (try clear a w); intro a w hs
         refine sun hs ?_; clear hs; (try clear a w); intro a w hs
         refine sun hs ?_; clear hs; (try clear a w); intro a w hs
         refine sun hs ?_; clear hs; (try clear a w); intro a w hs
         refine sun hs ?_; clear hs; (try clear a w); intro a w hs
         refine sun hs ?_; clear hs; (try clear a w); intro a w hs
         refine sno hs ?_; clear hs; (try clear a w); intro a w hs
         refine sy (v := .bool (true)) hs (y_pick rfl rfl) ?_; clear hs; (try clear a w); intro a w hs
         refine sy (v := .bool (true)) hs (y_move rfl) ?_; clear hs; (try clear a w); intro a w hs
         refine sno hs ?_; clear hs; (try clear a w); intro a w hs
         refine sno hs ?_; clear hs; (try clear a w); intro a w hs
         refine sno hs ?_; clear hs; (try clear a w); intro a w hs
         refine sno hs ?_; clear hs; (try clear a w); intro a w hs
         refine sy (v := .bool (true)) hs (y_pick rfl rfl) ?_; clear hs; (try clear a w); intro a w hs
         refine RL_nil ?_
         exact hs.sub ⟨rfl, rfl, rfl, (lkB (((bif_t hg86).trans ((or_t hg87).trans rfl))) rfl), trivial⟩
        ·clear hs; have hs := hq; clear hq
         refine syg (v := .pointer (some ⟨b40, 1, none⟩)) hs (y_fieldAddr rfl (FO.of (off := 1) Try.underlying44 rfl rfl ti9 (by decide))) ?_; clear hs; (try clear a w); intro a w hs
         refine syg (v := .string (x28.Name)) hs (y_ld rfl Try.underlying9 rfl (Cell.blk (.head _) rfl)) ?_; clear hs; (try clear a w); intro a w hs
         refine syg hs (y_seql rfl rfl) ?_; clear hs; (try clear a w); intro a w hs
         refine sy (v := .bool (decide (x28.Name = (bs [])))) hs (y_pick rfl rfl) ?_; clear hs; (try clear a w); intro a w hs
         refine sy (v := .bool (decide (x28.Name = (bs [])))) hs (y_move rfl) ?_; clear hs; (try clear a w); intro a w hs
         refine St.split hs (t := 58) rfl (fun hg88 hq => ?_) (fun hg88 hq => ?_)
         ·clear hs; have hs := hq; clear hq
          refine sno hs ?_; clear hs; (try clear a w); intro a w hs
          refine sno hs ?_; clear hs; (try clear a w); intro a w hs
          refine sno hs ?_; clear hs; (try clear a w); intro a w hs
          refine sy (v := .bool (true)) hs (y_pick rfl rfl) ?_; clear hs; (try clear a w); intro a w hs
          refine sy (v := .bool (true)) hs (y_move rfl) ?_; clear hs; (try clear a w); intro a w hs
          refine sno hs ?_; clear hs; (try clear a w); intro a w hs
          refine sno hs ?_; clear hs; (try clear a w); intro a w hs
          refine sno hs ?_; clear hs; (try clear a w); intro a w hs
          refine sno hs ?_; clear hs; (try clear a w); intro a w hs
          refine sun hs ?_; clear hs; (try clear a w); intro a w hs
          refine sun hs ?_; clear hs; (try clear a w); intro a w hs
          refine sun hs ?_; clear hs; (try clear a w); intro a w hs
          refine sun hs ?_; clear hs; (try clear a w); intro a w hs
          refine sun hs ?_; clear hs; (try clear a w); intro a w hs
          refine sun hs ?_; clear hs; (try clear a w); intro a w hs
          refine sun hs ?_; clear hs; (try clear a w); intro a w hs
          refine sun hs ?_; clear hs; (try clear a w); intro a w hs
          refine sno hs ?_; clear hs; (try clear a w); intro a w hs
          refine sy (v := .bool (true)) hs (y_pick rfl rfl) ?_; clear hs; (try clear a w); intro a w hs
          refine sy (v := .bool (true)) hs (y_move rfl) ?_; clear hs; (try clear a w); intro a w hs
          refine sno hs ?_; clear hs; (try clear a w); intro a w hs
          refine sno hs ?_; clear hs; (try clear a w); intro a w hs
          refine sno hs ?_; clear hs; (try clear a w); intro a w hs
          refine sno hs ?_; clear hs; (try clear a w); intro a w hs
          refine sy (v := .bool (true)) hs (y_pick rfl rfl) ?_; clear hs; (try clear a w); intro a w hs
          refine RL_nil ?_
          exact hs.sub ⟨rfl, rfl, rfl, (lkB (((bif_t hg86).trans ((or_f hg87).trans ((or_t hg88).trans rfl)))) rfl), trivial⟩
         ·clear hs; have hs := hq; clear hq
          refine syg (v := .pointer (some ⟨b40, 2, none⟩)) hs (y_fieldAddr rfl (FO.of (off := 2) Try.underlying44 rfl rfl ti9 (by decide))) ?_; clear hs; (try clear a w); intro a w hs
          refine syg (v := .string (x28.Text)) hs (y_ld rfl Try.underlying9 rfl (Cell.blk (.head _) rfl)) ?_; clear hs; (try clear a w); intro a w hs
          refine syg hs (y_sneq rfl rfl) ?_; clear hs; (try clear a w); intro a w hs
          refine sy (v := .bool (decide (x28.Text ≠ (bs [])))) hs (y_pick rfl rfl) ?_; clear hs; (try clear a w); intro a w hs
          refine sy (v := .bool (decide (x28.Text ≠ (bs [])))) hs (y_move rfl) ?_; clear hs; (try clear a w); intro a w hs
          refine St.split hs (t := 63) rfl (fun hg89 hq => ?_) (fun hg89 hq => ?_)
          ·clear hs; have hs := hq; clear hq
           refine sno hs ?_; clear hs; (try clear a w); intro a w hs
           refine sno hs ?_; clear hs; (try clear a w); intro a w hs
           refine sno hs ?_; clear hs; (try clear a w); intro a w hs
           refine sno hs ?_; clear hs; (try clear a w); intro a w hs
           refine sun hs ?_; clear hs; (try clear a w); intro a w hs
           refine sun hs ?_; clear hs; (try clear a w); intro a w hs
           refine sun hs ?_; clear hs; (try clear a w); intro a w hs
           refine sun hs ?_; clear hs; (try clear a w); intro a w hs
           refine sun hs ?_; clear hs; (try clear a w); intro a w hs
           refine sun hs ?_; clear hs; (try clear a w); intro a w hs
           refine sun hs ?_; clear hs; (try clear a w); intro a w hs
           refine sun hs ?_; clear hs; (try clear a w); intro a w hs
           refine sno hs ?_; clear hs; (try clear a w); intro a w hs
           refine sy (v := .bool (true)) hs (y_pick rfl rfl) ?_; clear hs; (try clear a w); intro a w hs
           refine sy (v := .bool (true)) hs (y_move rfl) ?_; clear hs; (try clear a w); intro a w hs
           refine sno hs ?_; clear hs; (try clear a w); intro a w hs
           refine sno hs ?_; clear hs; (try clear a w); intro a w hs
           refine sno hs ?_; clear hs; (try clear a w); intro a w hs
           refine sno hs ?_; clear hs; (try clear a w); intro a w hs
           refine sy (v := .bool (true)) hs (y_pick rfl rfl) ?_; clear hs; (try clear a w); intro a w hs
           refine RL_nil ?_
           exact hs.sub ⟨rfl, rfl, rfl, (lkB (((bif_t hg86).trans ((or_f hg87).trans ((or_f hg88).trans ((or_t hg89).trans rfl))))) rfl), trivial⟩
          ·clear hs; have hs := hq; clear hq
           refine syg (v := .pointer (some ⟨b40, 0, none⟩)) hs (y_fieldAddr rfl (FO.of (off := 0) Try.underlying44 rfl rfl ti3 (by decide))) ?_; clear hs; (try clear a w); intro a w hs
           refine syg (v := .int .i64 (x28.Kind)) hs (y_ld rfl Try.underlying3 rfl (Cell.blk (.head _) rfl)) ?_; clear hs; (try clear a w); intro a w hs
           refine syg hs (y_eql rfl rfl) ?_; clear hs; (try clear a w); intro a w hs
           refine syg (v := .bool (decide (x28.Kind = 3))) hs (y_move rfl) ?_; clear hs; (try clear a w); intro a w hs
           refine St.split hs (t := 67) rfl (fun hg90 hq => ?_) (fun hg90 hq => ?_)
           ·clear hs; have hs := hq; clear hq
            refine syg (v := .pointer (some ⟨b40, 3, none⟩)) hs (y_fieldAddr rfl (FO.of (off := 3) Try.underlying44 rfl rfl ti23 (by decide))) ?_; clear hs; (try clear a w); intro a w hs
            refine syg (v := v35) hs (y_ld rfl Try.underlying23 rfl (Cell.blk (.head _) rfl)) ?_; clear hs; (try clear a w); intro a w hs
            refine syg hs (y_lenW hR37 hW38 rfl Try.underlying23) ?_; clear hs; (try clear a w); intro a w hs
            refine syg hs (y_gtr rfl rfl) ?_; clear hs; (try clear a w); intro a w hs
            refine syg (v := .bool (decide (0 < (x28.Attrs.length : Int)))) hs (y_move rfl) ?_; clear hs; (try clear a w); intro a w hs
            refine St.split hs (t := 72) rfl (fun hg91 hq => ?_) (fun hg91 hq => ?_)
            ·clear hs; have hs := hq; clear hq
             refine sno hs ?_; clear hs; (try clear a w); intro a w hs
             refine sno hs ?_; clear hs; (try clear a w); intro a w hs
             refine syg (v := .bool (true)) hs (y_pick rfl rfl) ?_; clear hs; (try clear a w); intro a w hs
             refine syg (v := .bool (true)) hs (y_pick rfl rfl) ?_; clear hs; (try clear a w); intro a w hs
             refine sy (v := .bool (true)) hs (y_pick rfl rfl) ?_; clear hs; (try clear a w); intro a w hs
             refine sy (v := .bool (true)) hs (y_move rfl) ?_; clear hs; (try clear a w); intro a w hs
             refine sno hs ?_; clear hs; (try clear a w); intro a w hs
             refine sno hs ?_; clear hs; (try clear a w); intro a w hs
             refine sno hs ?_; clear hs; (try clear a w); intro a w hs
             refine sno hs ?_; clear hs; (try clear a w); intro a w hs
             refine sy (v := .bool (true)) hs (y_pick rfl rfl) ?_; clear hs; (try clear a w); intro a w hs
             refine RL_nil ?_
             exact hs.sub ⟨rfl, rfl, rfl, (lkB (((bif_t hg86).trans ((or_f hg87).trans ((or_f hg88).trans ((or_f hg89).trans ((bif_t hg90).trans ((or_t hg91).trans rfl))))))) rfl), trivial⟩
            ·clear hs; have hs := hq; clear hq
             refine syg (v := .pointer (some ⟨b40, 4, none⟩)) hs (y_fieldAddr rfl (FO.of (off := 4) Try.underlying44 rfl rfl ti4 (by decide))) ?_; clear hs; (try clear a w); intro a w hs
             refine syg (v := .bool (x28.Closed)) hs (y_ld rfl Try.underlying4 rfl (Cell.blk (.head _) rfl)) ?_; clear hs; (try clear a w); intro a w hs
             refine syg (v := .bool (x28.Closed)) hs (y_pick rfl rfl) ?_; clear hs; (try clear a w); intro a w hs
             refine syg (v := .bool (x28.Closed)) hs (y_pick rfl rfl) ?_; clear hs; (try clear a w); intro a w hs
             refine sy (v := .bool (x28.Closed)) hs (y_pick rfl rfl) ?_; clear hs; (try clear a w); intro a w hs
             refine sy (v := .bool (x28.Closed)) hs (y_move rfl) ?_; clear hs; (try clear a w); intro a w hs
             refine St.split hs (t := 78) rfl (fun hg92 hq => ?_) (fun hg92 hq => ?_)
             ·clear hs; have hs := hq; clear hq
              refine sno hs ?_; clear hs; (try clear a w); intro a w hs
              refine sno hs ?_; clear hs; (try clear a w); intro a w hs
              refine sno hs ?_; clear hs; (try clear a w); intro a w hs
              refine sno hs ?_; clear hs; (try clear a w); intro a w hs
              refine sy (v := .bool (true)) hs (y_pick rfl rfl) ?_; clear hs; (try clear a w); intro a w hs
              refine RL_nil ?_
              exact hs.sub ⟨rfl, rfl, rfl, (lkB (((bif_t hg86).trans ((or_f hg87).trans ((or_f hg88).trans ((or_f hg89).trans ((bif_t hg90).trans ((or_f hg91).trans ((or_t hg92).trans rfl)))))))) rfl), trivial⟩
             ·clear hs; have hs := hq; clear hq
              refine syg (v := .pointer (some ⟨b40, 3, none⟩)) hs (y_fieldAddr rfl (FO.of (off := 3) Try.underlying44 rfl rfl ti23 (by decide))) ?_; clear hs; (try clear a w); intro a w hs
              refine syg (v := v35) hs (y_ld rfl Try.underlying23 rfl (Cell.blk (.head _) rfl)) ?_; clear hs; (try clear a w); intro a w hs
              refine syg hs (y_lenW hR37 hW38 rfl Try.underlying23) ?_; clear hs; (try clear a w); intro a w hs
              refine syg hs (y_gtr rfl rfl) ?_; clear hs; (try clear a w); intro a w hs
              refine sy (v := .bool (decide (64 < (x28.Attrs.length : Int)))) hs (y_pick rfl rfl) ?_; clear hs; (try clear a w); intro a w hs
              refine RL_nil ?_
              exact hs.sub ⟨rfl, rfl, rfl, (lkB (((bif_t hg86).trans ((or_f hg87).trans ((or_f hg88).trans ((or_f hg89).trans ((bif_t hg90).trans ((or_f hg91).trans ((or_f hg92).trans rfl)))))))) rfl), trivial⟩
           ·clear hs; have hs := hq; clear hq
            refine sno hs ?_; clear hs; (try clear a w); intro a w hs
            refine sno hs ?_; clear hs; (try clear a w); intro a w hs
            refine sno hs ?_; clear hs; (try clear a w); intro a w hs
            refine sno hs ?_; clear hs; (try clear a w); intro a w hs
            refine sno hs ?_; clear hs; (try clear a w); intro a w hs
            refine sun hs ?_; clear hs; (try clear a w); intro a w hs
            refine sun hs ?_; clear hs; (try clear a w); intro a w hs
            refine sno hs ?_; clear hs; (try clear a w); intro a w hs
            refine syg (v := .bool (false)) hs (y_pick rfl rfl) ?_; clear hs; (try clear a w); intro a w hs
            refine sy (v := .bool (false)) hs (y_pick rfl rfl) ?_; clear hs; (try clear a w); intro a w hs
            refine sy (v := .bool (false)) hs (y_move rfl) ?_; clear hs; (try clear a w); intro a w hs
            refine syg (v := .pointer (some ⟨b40, 3, none⟩)) hs (y_fieldAddr rfl (FO.of (off := 3) Try.underlying44 rfl rfl ti23 (by decide))) ?_; clear hs; (try clear a w); intro a w hs
            refine syg (v := v35) hs (y_ld rfl Try.underlying23 rfl (Cell.blk (.head _) rfl)) ?_; clear hs; (try clear a w); intro a w hs
            refine syg hs (y_lenW hR37 hW38 rfl Try.underlying23) ?_; clear hs; (try clear a w); intro a w hs
            refine syg hs (y_gtr rfl rfl) ?_; clear hs; (try clear a w); intro a w hs
            refine sy (v := .bool (decide (64 < (x28.Attrs.length : Int)))) hs (y_pick rfl rfl) ?_; clear hs; (try clear a w); intro a w hs
            refine RL_nil ?_
            exact hs.sub ⟨rfl, rfl, rfl, (lkB (((bif_t hg86).trans ((or_f hg87).trans ((or_f hg88).trans ((or_f hg89).trans ((bif_f hg90).trans rfl)))))) rfl), trivial⟩
       ·clear hs; have hs := hq; clear hq
        refine sno hs ?_; clear hs; (try clear a w); intro a w hs
        refine sno hs ?_; clear hs; (try clear a w); intro a w hs
        refine sno hs ?_; clear hs; (try clear a w); intro a w hs
        refine sy (v := .bool (false)) hs (y_pick rfl rfl) ?_; clear hs; (try clear a w); intro a w hs
        refine sy (v := .bool (false)) hs (y_move rfl) ?_; clear hs; (try clear a w); intro a w hs
        refine syg (v := .pointer (some ⟨b40, 1, none⟩)) hs (y_fieldAddr rfl (FO.of (off := 1) Try.underlying44 rfl rfl ti9 (by decide))) ?_; clear hs; (try clear a w); intro a w hs
        refine syg (v := .string (x28.Name)) hs (y_ld rfl Try.underlying9 rfl (Cell.blk (.head _) rfl)) ?_; clear hs; (try clear a w); intro a w hs
        refine syg hs (y_seql rfl rfl) ?_; clear hs; (try clear a w); intro a w hs
        refine sy (v := .bool (decide (x28.Name = (bs [])))) hs (y_pick rfl rfl) ?_; clear hs; (try clear a w); intro a w hs
        refine sy (v := .bool (decide (x28.Name = (bs [])))) hs (y_move rfl) ?_; clear hs; (try clear a w); intro a w hs
        refine St.split hs (t := 58) rfl (fun hg93 hq => ?_) (fun hg93 hq => ?_)
        ·clear hs; have hs := hq; clear hq
         refine sno hs ?_; clear hs; (try clear a w); intro a w hs
         refine sno hs ?_; clear hs; (try clear a w); intro a w hs
         refine sno hs ?_; clear hs; (try clear a w); intro a w hs
         refine sy (v := .bool (true)) hs (y_pick rfl rfl) ?_; clear hs; (try clear a w); intro a w hs
         refine sy (v := .bool (true)) hs (y_move rfl) ?_; clear hs; (try clear a w); intro a w hs
         refine sno hs ?_; clear hs; (try clear a w); intro a w hs
         refine sno hs ?_; clear hs; (try clear a w); intro a w hs
         refine sno hs ?_; clear hs; (try clear a w); intro a w hs
         refine sno hs ?_; clear hs; (try clear a w); intro a w hs
         refine sun hs ?_; clear hs; (try clear a w); intro a w hs
         refine sun hs ?_; clear hs; (try clear a w); intro a w hs
         refine sun hs ?_; clear hs; (try clear a w); intro a w hs
         refine sun hs ?_; clear hs; (try clear a w); intro a w hs
         refine sun hs ?_; clear hs; (try clear a w); intro a w hs
         refine sun hs ?_; clear hs; (try clear a w); intro a w hs
         refine sun hs ?_; clear hs; (try clear a w); intro a w hs
         refine sun hs ?_; clear hs; (try clear a w); intro a w hs
         refine sno hs ?_; clear hs; (try clear a w); intro a w hs
         refine sy (v := .bool (true)) hs (y_pick rfl rfl) ?_; clear hs; (try clear a w); intro a w hs
         refine sy (v := .bool (true)) hs (y_move rfl) ?_; clear hs; (try clear a w); intro a w hs
         refine sno hs ?_; clear hs; (try clear a w); intro a w hs
         refine sno hs ?_; clear hs; (try clear a w); intro a w hs
         refine sno hs ?_; clear hs; (try clear a w); intro a w hs
         refine sno hs ?_; clear hs; (try clear a w); intro a w hs
         refine sy (v := .bool (true)) hs (y_pick rfl rfl) ?_; clear hs; (try clear a w); intro a w hs
         refine RL_nil ?_
         exact hs.sub ⟨rfl, rfl, rfl, (lkB (((bif_f hg86).trans ((or_t hg93).trans rfl))) rfl), trivial⟩
        ·clear hs; have hs := hq; clear hq
         refine syg (v := .pointer (some ⟨b40, 2, none⟩)) hs (y_fieldAddr rfl (FO.of (off := 2) Try.underlying44 rfl rfl ti9 (by decide))) ?_; clear hs; (try clear a w); intro a w hs
         refine syg (v := .string (x28.Text)) hs (y_ld rfl Try.underlying9 rfl (Cell.blk (.head _) rfl)) ?_; clear hs; (try clear a w); intro a w hs
         refine syg hs (y_sneq rfl rfl) ?_; clear hs; (try clear a w); intro a w hs
         refine sy (v := .bool (decide (x28.Text ≠ (bs [])))) hs (y_pick rfl rfl) ?_; clear hs; (try clear a w); intro a w hs
         refine sy (v := .bool (decide (x28.Text ≠ (bs [])))) hs (y_move rfl) ?_; clear hs; (try clear a w); intro a w hs
         refine St.split hs (t := 63) rfl (fun hg94 hq => ?_) (fun hg94 hq => ?_)
         ·clear hs; have hs := hq; clear hq
          refine sno hs ?_; clear hs; (try clear a w); intro a w hs
          refine sno hs ?_; clear hs; (try clear a w); intro a w hs
          refine sno hs ?_; clear hs; (try clear a w); intro a w hs
          refine sno hs ?_; clear hs; (try clear a w); intro a w hs
          refine sun hs ?_; clear hs; (try clear a w); intro a w hs
          refine sun hs ?_; clear hs; (try clear a w); intro a w hs
          refine sun hs ?_; clear hs; (try clear a w); intro a w hs
          refine sun hs ?_; clear hs; (try clear a w); intro a w hs
          refine sun hs ?_; clear hs; (try clear a w); intro a w hs
          refine sun hs ?_; clear hs; (try clear a w); intro a w hs
          refine sun hs ?_; clear hs; (try clear a w); intro a w hs
          refine sun hs ?_; clear hs; (try clear a w); intro a w hs
          refine sno hs ?_; clear hs; (try clear a w); intro a w hs
          refine sy (v := .bool (true)) hs (y_pick rfl rfl) ?_; clear hs; (try clear a w); intro a w hs
          refine sy (v := .bool (true)) hs (y_move rfl) ?_; clear hs; (try clear a w); intro a w hs
          refine sno hs ?_; clear hs; (try clear a w); intro a w hs
          refine sno hs ?_; clear hs; (try clear a w); intro a w hs
          refine sno hs ?_; clear hs; (try clear a w); intro a w hs
          refine sno hs ?_; clear hs; (try clear a w); intro a w hs
          refine sy (v := .bool (true)) hs (y_pick rfl rfl) ?_; clear hs; (try clear a w); intro a w hs
          refine RL_nil ?_
          exact hs.sub ⟨rfl, rfl, rfl, (lkB (((bif_f hg86).trans ((or_f hg93).trans ((or_t hg94).trans rfl)))) rfl), trivial⟩
         ·clear hs; have hs := hq; clear hq
          refine syg (v := .pointer (some ⟨b40, 0, none⟩)) hs (y_fieldAddr rfl (FO.of (off := 0) Try.underlying44 rfl rfl ti3 (by decide))) ?_; clear hs; (try clear a w); intro a w hs
          refine syg (v := .int .i64 (x28.Kind)) hs (y_ld rfl Try.underlying3 rfl (Cell.blk (.head _) rfl)) ?_; clear hs; (try clear a w); intro a w hs
          refine syg hs (y_eql rfl rfl) ?_; clear hs; (try clear a w); intro a w hs
          refine syg (v := .bool (decide (x28.Kind = 3))) hs (y_move rfl) ?_; clear hs; (try clear a w); intro a w hs
          refine St.split hs (t := 67) rfl (fun hg95 hq => ?_) (fun hg95 hq => ?_)
          ·clear hs; have hs := hq; clear hq
           refine syg (v := .pointer (some ⟨b40, 3, none⟩)) hs (y_fieldAddr rfl (FO.of (off := 3) Try.underlying44 rfl rfl ti23 (by decide))) ?_; clear hs; (try clear a w); intro a w hs
           refine syg (v := v35) hs (y_ld rfl Try.underlying23 rfl (Cell.blk (.head _) rfl)) ?_; clear hs; (try clear a w); intro a w hs
           refine syg hs (y_lenW hR37 hW38 rfl Try.underlying23) ?_; clear hs; (try clear a w); intro a w hs
           refine syg hs (y_gtr rfl rfl) ?_; clear hs; (try clear a w); intro a w hs
           refine syg (v := .bool (decide (0 < (x28.Attrs.length : Int)))) hs (y_move rfl) ?_; clear hs; (try clear a w); intro a w hs
           refine St.split hs (t := 72) rfl (fun hg96 hq => ?_) (fun hg96 hq => ?_)
           ·clear hs; have hs := hq; clear hq
            refine sno hs ?_; clear hs; (try clear a w); intro a w hs
            refine sno hs ?_; clear hs; (try clear a w); intro a w hs
            refine syg (v := .bool (true)) hs (y_pick rfl rfl) ?_; clear hs; (try clear a w); intro a w hs
            refine syg (v := .bool (true)) hs (y_pick rfl rfl) ?_; clear hs; (try clear a w); intro a w hs
            refine sy (v := .bool (true)) hs (y_pick rfl rfl) ?_; clear hs; (try clear a w); intro a w hs
            refine sy (v := .bool (true)) hs (y_move rfl) ?_; clear hs; (try clear a w); intro a w hs
            refine sno hs ?_; clear hs; (try clear a w); intro a w hs
            refine sno hs ?_; clear hs; (try clear a w); intro a w hs
            refine sno hs ?_; clear hs; (try clear a w); intro a w hs
            refine sno hs ?_; clear hs; (try clear a w); intro a w hs
            refine sy (v := .bool (true)) hs (y_pick rfl rfl) ?_; clear hs; (try clear a w); intro a w hs
            refine RL_nil ?_
            exact hs.sub ⟨rfl, rfl, rfl, (lkB (((bif_f hg86).trans ((or_f hg93).trans ((or_f hg94).trans ((bif_t hg95).trans ((or_t hg96).trans rfl)))))) rfl), trivial⟩
           ·clear hs; have hs := hq; clear hq
            refine syg (v := .pointer (some ⟨b40, 4, none⟩)) hs (y_fieldAddr rfl (FO.of (off := 4) Try.underlying44 rfl rfl ti4 (by decide))) ?_; clear hs; (try clear a w); intro a w hs
            refine syg (v := .bool (x28.Closed)) hs (y_ld rfl Try.underlying4 rfl (Cell.blk (.head _) rfl)) ?_; clear hs; (try clear a w); intro a w hs
            refine syg (v := .bool (x28.Closed)) hs (y_pick rfl rfl) ?_; clear hs; (try clear a w); intro a w hs
            refine syg (v := .bool (x28.Closed)) hs (y_pick rfl rfl) ?_; clear hs; (try clear a w); intro a w hs
            refine sy (v := .bool (x28.Closed)) hs (y_pick rfl rfl) ?_; clear hs; (try clear a w); intro a w hs
            refine sy (v := .bool (x28.Closed)) hs (y_move rfl) ?_; clear hs; (try clear a w); intro a w hs
            refine St.split hs (t := 78) rfl (fun hg97 hq => ?_) (fun hg97 hq => ?_)
            ·clear hs; have hs := hq; clear hq
             refine sno hs ?_; clear hs; (try clear a w); intro a w hs
             refine sno hs ?_; clear hs; (try clear a w); intro a w hs
             refine sno hs ?_; clear hs; (try clear a w); intro a w hs
             refine sno hs ?_; clear hs; (try clear a w); intro a w hs
             refine sy (v := .bool (true)) hs (y_pick rfl rfl) ?_; clear hs; (try clear a w); intro a w hs
             refine RL_nil ?_
             exact hs.sub ⟨rfl, rfl, rfl, (lkB (((bif_f hg86).trans ((or_f hg93).trans ((or_f hg94).trans ((bif_t hg95).trans ((or_f hg96).trans ((or_t hg97).trans rfl))))))) rfl), trivial⟩
            ·clear hs; have hs := hq; clear hq
             refine syg (v := .pointer (some ⟨b40, 3, none⟩)) hs (y_fieldAddr rfl (FO.of (off := 3) Try.underlying44 rfl rfl ti23 (by decide))) ?_; clear hs; (try clear a w); intro a w hs
             refine syg (v := v35) hs (y_ld rfl Try.underlying23 rfl (Cell.blk (.head _) rfl)) ?_; clear hs; (try clear a w); intro a w hs
             refine syg hs (y_lenW hR37 hW38 rfl Try.underlying23) ?_; clear hs; (try clear a w); intro a w hs
             refine syg hs (y_gtr rfl rfl) ?_; clear hs; (try clear a w); intro a w hs
             refine sy (v := .bool (decide (64 < (x28.Attrs.length : Int)))) hs (y_pick rfl rfl) ?_; clear hs; (try clear a w); intro a w hs
             refine RL_nil ?_
             exact hs.sub ⟨rfl, rfl, rfl, (lkB (((bif_f hg86).trans ((or_f hg93).trans ((or_f hg94).trans ((bif_t hg95).trans ((or_f hg96).trans ((or_f hg97).trans rfl))))))) rfl), trivial⟩
          ·clear hs; have hs := hq; clear hq
           refine sno hs ?_; clear hs; (try clear a w); intro a w hs
           refine sno hs ?_; clear hs; (try clear a w); intro a w hs
           refine sno hs ?_; clear hs; (try clear a w); intro a w hs
           refine sno hs ?_; clear hs; (try clear a w); intro a w hs
           refine sno hs ?_; clear hs; (try clear a w); intro a w hs
           refine sun hs ?_; clear hs; (try clear a w); intro a w hs
           refine sun hs ?_; clear hs; (try clear a w); intro a w hs
           refine sno hs ?_; clear hs; (try clear a w); intro a w hs
           refine syg (v := .bool (false)) hs (y_pick rfl rfl) ?_; clear hs; (try clear a w); intro a w hs
           refine sy (v := .bool (false)) hs (y_pick rfl rfl) ?_; clear hs; (try clear a w); intro a w hs
           refine sy (v := .bool (false)) hs (y_move rfl) ?_; clear hs; (try clear a w); intro a w hs
           refine syg (v := .pointer (some ⟨b40, 3, none⟩)) hs (y_fieldAddr rfl (FO.of (off := 3) Try.underlying44 rfl rfl ti23 (by decide))) ?_; clear hs; (try clear a w); intro a w hs
           refine syg (v := v35) hs (y_ld rfl Try.underlying23 rfl (Cell.blk (.head _) rfl)) ?_; clear hs; (try clear a w); intro a w hs
           refine syg hs (y_lenW hR37 hW38 rfl Try.underlying23) ?_; clear hs; (try clear a w); intro a w hs
           refine syg hs (y_gtr rfl rfl) ?_; clear hs; (try clear a w); intro a w hs
           refine sy (v := .bool (decide (64 < (x28.Attrs.length : Int)))) hs (y_pick rfl rfl) ?_; clear hs; (try clear a w); intro a w hs
           refine RL_nil ?_
           exact hs.sub ⟨rfl, rfl, rfl, (lkB (((bif_f hg86).trans ((or_f hg93).trans ((or_f hg94).trans ((bif_f hg95).trans rfl))))) rfl), trivial⟩
   ·replace hm := oc_f hg27 hm
    refine W_exit ?_
    refine hB7 _ _ ?_
    exact ⟨hm, hs.sub trivial⟩

end Go.Proofs.Ythmnohdlhlmmpaa
