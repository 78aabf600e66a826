/-
  Walks and laws of this seat; the base is the text Base.
-/
import Derived.Test.YthmnohdlhlmmpaaL4g
import Derived.Test.YthmnohdlhlmmpaaL4r
import Derived.Test.YthmnohdlhlmmpaaL4k
import Derived.Test.YthmnohdlhlmmpaaL4m
import Derived.Test.YthmnohdlhlmmpaaRows
/-
  Models of functions, and that the functions compute them. Printed by lift.py.
-/
namespace Go.Proofs.Ythmnohdlhlmmpaa
open Go.RowKit Go.Sl
/-! casement/casementlaw4.MarkTokens -/
def law4_MarkTokens_k1 (y30 : Bool) : Option Bool :=
  some y30
def law4_MarkTokens (n : Nat) (p0 : (List Int)) : Option Bool :=
  (keep_FewRunes n p0 1500).bind fun x5 =>
  (keep_Valid n x5).bind fun x14 =>
  (bif (!x14) then (law4_known n).bind fun x17 =>
  some x17 else
  (book_Roomy_rune n x5 (-7)).bind fun x19 =>
  (cutM x19 (0 : Int) (x5.length : Int)).bind fun x32 =>
  (mark_Tokens n x32).bind fun x39 =>
  (ref4_Tokens n x5).bind fun x48 =>
  (law4_tokens n x39 x48).bind fun x57 =>
  (bif x57 then (book_Intact_rune n x19 x5 (-7)).bind fun x60 =>
  (bif x60 then (law4_known n).bind fun x63 =>
  law4_MarkTokens_k1 x63 else
  law4_MarkTokens_k1 false) else
  law4_MarkTokens_k1 false))
set_option maxRecDepth 20000 in
set_option maxHeartbeats 4000000 in
theorem law4_MarkTokens_ok (n : Nat) {f : Fz} {p0 : (List Int)} {a0 : Value} {res : Bool} (h0 : RS (tInt .i32) f a0 p0) (hm : law4_MarkTokens n p0 = some res) : Gives Try.prog 4 [a0] f (.bool res) := by
 unfold law4_MarkTokens at hm
 intro w0 L w hC
 obtain ⟨rw1, hR2, hW3⟩ := h0
 refine enter Try.func4 rfl Try.ntmps4 (by simp) hC fun a hs => ?_
 have hle := Fz.le.refl f
 refine W_seq fun K1 hK1 => ?_
 refine W_region ?_
 refine sy (v := .bool (false)) hs (y_assign rfl) ?_; clear hs; (try clear a w); intro a w hs
 refine RL_nil ?_
 refine hK1 _ _ ?_; clear hK1
 refine W_seq fun K2 hK2 => ?_
 refine W_region ?_
 refine sy (v := a0) hs (y_move rfl) ?_; clear hs; (try clear a w); intro a w hs
 obtain ⟨x5, hx6, hm⟩ := ob hm
 refine RL_callV hs rfl has18 rfl (keep_FewRunes_ok n (f := f) (a0 := a0) ⟨rw1, hR2, hW3⟩ hx6) ?_; clear hs; (try clear a w)
 rintro v9 f7 _ a w hf8 ⟨_, rfl, rfl, ⟨rw10, hR11, hW12⟩⟩ hs
 replace hR2 := hR2.le hf8
 replace hW3 := hW3.le hf8
 replace hle := hle.trans hf8
 replace hs : St _ _ _ (L) _ _ _ := hs
 refine sy (v := v9) hs (y_assign rfl) ?_; clear hs; (try clear a w); intro a w hs
 refine RL_nil ?_
 refine hK2 _ _ ?_; clear hK2
 refine W_seq fun K3 hK3 => ?_
 refine W_seq fun K4 hK4 => ?_
 refine W_region ?_
 refine sy (v := v9) hs (y_move rfl) ?_; clear hs; (try clear a w); intro a w hs
 obtain ⟨x14, hx15, hm⟩ := ob hm
 refine sy hs (y_call rfl has19 rfl (keep_Valid_ok n (f := f7) (a0 := v9) ⟨rw10, hR11, hW12⟩ hx15)) ?_; clear hs; (try clear a w); intro a w hs
 refine sy (v := .bool ((!x14))) hs (y_not rfl) ?_; clear hs; (try clear a w); intro a w hs
 refine RL_nil ?_
 refine hK4 _ _ ?_; clear hK4
 refine W_cond hs rfl (fun hg16 => ?_) (fun hg16 => ?_)
 ·replace hm := oc_t hg16 hm
  refine W_seq fun K5 hK5 => ?_
  refine W_region ?_
  obtain ⟨x17, hx18, hm⟩ := ob hm
  refine sy hs (y_call rfl has17 rfl (law4_known_ok n (f := f7)  hx18)) ?_; clear hs; (try clear a w); intro a w hs
  refine sy (v := .bool (x17)) hs (y_assign rfl) ?_; clear hs; (try clear a w); intro a w hs
  refine RL_nil ?_
  refine hK5 _ _ ?_; clear hK5
  refine W_ret ?_
  obtain rfl := Option.some.inj hm
  refine RtV1 hs rfl (rv_t hs rfl) ?_
  exact ⟨rfl, (hs.weak hle).cw⟩
 ·replace hm := oc_f hg16 hm
  refine W_skip ?_
  refine hK3 _ _ ?_; clear hK3
  refine W_seq fun K6 hK6 => ?_
  refine W_region ?_
  refine sy (v := v9) hs (y_move rfl) ?_; clear hs; (try clear a w); intro a w hs
  obtain ⟨x19, hx20, hm⟩ := ob hm
  refine RL_callV hs rfl has20 rfl (book_Roomy_rune_ok n (f := f7) (a0 := v9) ⟨rw10, hR11, hW12⟩ hx20) ?_; clear hs; (try clear a w)
  rintro v23 f21 _ a w hf22 ⟨_, rfl, rfl, ⟨rw24, hR25, hW26⟩⟩ hs
  replace hR2 := hR2.le hf22
  replace hW3 := hW3.le hf22
  replace hR11 := hR11.le hf22
  replace hW12 := hW12.le hf22
  replace hle := hle.trans hf22
  replace hs : St _ _ _ (L) _ _ _ := hs
  refine sy (v := v23) hs (y_assign rfl) ?_; clear hs; (try clear a w); intro a w hs
  refine RL_nil ?_
  refine hK6 _ _ ?_; clear hK6
  refine W_seq fun K7 hK7 => ?_
  have hbase31 := Fz.le.refl f21
  refine W_post (fun a w => ∃ (f28 : Fz) (y30 : Bool), Fz.le f21 f28 ∧ law4_MarkTokens_k1 y30 = some res ∧ St 28 w0 f28 (L) [(2, .bool (y30))] a w) ?_ ?_
  ·clear hs hm
   clear hbase31
   rintro a w ⟨f28, y30, hl29, hm, hs⟩
   replace hR2 := hR2.le hl29
   replace hW3 := hW3.le hl29
   replace hR11 := hR11.le hl29
   replace hW12 := hW12.le hl29
   replace hR25 := hR25.le hl29
   replace hW26 := hW26.le hl29
   replace hle := hle.trans hl29
   replace hs : St _ _ _ (L) _ _ _ := hs
   unfold law4_MarkTokens_k1 at hm
   refine hK7 _ _ ?_; clear hK7
   refine W_ret ?_
   obtain rfl := Option.some.inj hm
   refine RtV1 hs rfl (rv_t hs rfl) ?_
   exact ⟨rfl, (hs.weak hle).cw⟩
  ·refine W_region ?_
   refine sy (v := v23) hs (y_move rfl) ?_; clear hs; (try clear a w); intro a w hs
   refine sy (v := v9) hs (y_move rfl) ?_; clear hs; (try clear a w); intro a w hs
   refine sy hs (y_lenW hR11 hW12 rfl Try.underlying32) ?_; clear hs; (try clear a w); intro a w hs
   obtain ⟨x32, hx33, hm⟩ := ob hm
   obtain ⟨⟨hlx32, hhx32, h1x32, h2x32⟩, hex32⟩ := cutM_some hx33
   have hW34 := (hW26.take (x5.length : Int).toNat).drop (Int.toNat 0); rw [hex32] at hW34
   simp only [Int.toNat_zero, List.drop_zero] at hW34
   refine sy hs (y_slice (lo := (0 : Nat)) (hi := (x5.length : Int).toNat) rfl Try.underlying32 ti21 (.inl ⟨rfl, rfl⟩) (.inr ⟨_, rfl, by rw [← hhx32]; rfl⟩) h1x32 (by rw [RW.len hW26]; exact h2x32) hR25) ?_; clear hs; (try clear a w); intro a w hs
   have hR35 : Rd f21 [] (cutv v23 1 0 (x5.length : Int).toNat) 1 (List.take (x5.length : Int).toNat rw24) := by have hz := (hR25 : Rd _ [] _ _ _).cut (lo := 0) (hi := (x5.length : Int).toNat) (Nat.zero_le _) (by rw [RW.len hW26]; exact h2x32); rw [List.drop_zero] at hz; exact hz
   generalize hgrw36 : List.take _ rw24 = rw36 at hR35 hW34; clear hgrw36
   generalize hgv37 : cutv v23 1 _ _ = v37 at hs hR35; clear hgv37
   replace hs : St _ _ _ (L) _ _ _ := hs
   obtain ⟨x39, hx40, hm⟩ := ob hm
   refine RL_callV hs rfl has22 rfl (mark_Tokens_ok n (f := f21) (a0 := v37) ⟨rw36, hR35, hW34⟩ hx40) ?_; clear hs; (try clear a w)
   rintro v43 f41 _ a w hf42 ⟨_, rfl, rfl, ⟨rw44, hR45, hW46⟩⟩ hs
   replace hR2 := hR2.le hf42
   replace hW3 := hW3.le hf42
   replace hR11 := hR11.le hf42
   replace hW12 := hW12.le hf42
   replace hR25 := hR25.le hf42
   replace hW26 := hW26.le hf42
   replace hR35 := hR35.le hf42
   replace hW34 := hW34.le hf42
   replace hle := hle.trans hf42
   replace hbase31 := hbase31.trans hf42
   replace hs : St _ _ _ (L) _ _ _ := hs
   refine sy (v := v9) hs (y_move rfl) ?_; clear hs; (try clear a w); intro a w hs
   obtain ⟨x48, hx49, hm⟩ := ob hm
   refine RL_callV hs rfl has23 rfl (ref4_Tokens_ok n (f := f41) (a0 := v9) ⟨rw10, hR11, hW12⟩ hx49) ?_; clear hs; (try clear a w)
   rintro v52 f50 _ a w hf51 ⟨_, rfl, rfl, ⟨rw53, hR54, hW55⟩⟩ hs
   replace hR2 := hR2.le hf51
   replace hW3 := hW3.le hf51
   replace hR11 := hR11.le hf51
   replace hW12 := hW12.le hf51
   replace hR25 := hR25.le hf51
   replace hW26 := hW26.le hf51
   replace hR35 := hR35.le hf51
   replace hW34 := hW34.le hf51
   replace hR45 := hR45.le hf51
   replace hW46 := hW46.le hf51
   replace hle := hle.trans hf51
   replace hbase31 := hbase31.trans hf51
   replace hs : St _ _ _ (L) _ _ _ := hs
   obtain ⟨x57, hx58, hm⟩ := ob hm
   refine sy hs (y_call rfl has21 rfl (law4_tokens_ok n (f := f50) (a0 := v43) (a1 := v52) ⟨rw44, hR45, hW46⟩ ⟨rw53, hR54, hW55⟩ hx58)) ?_; clear hs; (try clear a w); intro a w hs
   refine sy (v := .bool (x57)) hs (y_move rfl) ?_; clear hs; (try clear a w); intro a w hs
   refine St.split hs (t := 20) rfl (fun hg59 hq => ?_) (fun hg59 hq => ?_)
   ·clear hs; have hs := hq; clear hq
    replace hm := oc_t hg59 hm
    refine syg (v := v23) hs (y_move rfl) ?_; clear hs; (try clear a w); intro a w hs
    refine syg (v := v9) hs (y_move rfl) ?_; clear hs; (try clear a w); intro a w hs
    obtain ⟨x60, hx61, hm⟩ := ob hm
    refine syg hs (y_call rfl has24 rfl (book_Intact_rune_ok n (f := f50) (a0 := v23) (a1 := v9) ⟨rw24, hR25, hW26⟩ ⟨rw10, hR11, hW12⟩ hx61)) ?_; clear hs; (try clear a w); intro a w hs
    refine sy (v := .bool (x60)) hs (y_pick rfl rfl) ?_; clear hs; (try clear a w); intro a w hs
    refine sy (v := .bool (x60)) hs (y_move rfl) ?_; clear hs; (try clear a w); intro a w hs
    refine St.split hs (t := 25) rfl (fun hg62 hq => ?_) (fun hg62 hq => ?_)
    ·clear hs; have hs := hq; clear hq
     replace hm := oc_t hg62 hm
     obtain ⟨x63, hx64, hm⟩ := ob hm
     refine syg hs (y_call rfl has17 rfl (law4_known_ok n (f := f50)  hx64)) ?_; clear hs; (try clear a w); intro a w hs
     refine sy (v := .bool (x63)) hs (y_pick rfl rfl) ?_; clear hs; (try clear a w); intro a w hs
     refine sy (v := .bool (x63)) hs (y_assign rfl) ?_; clear hs; (try clear a w); intro a w hs
     refine RL_nil ?_
     exact ⟨_, x63, hbase31, hm, hs.sub ⟨rfl, trivial⟩⟩
    ·clear hs; have hs := hq; clear hq
     replace hm := oc_f hg62 hm
     refine sno hs ?_; clear hs; (try clear a w); intro a w hs
     refine sy (v := .bool (false)) hs (y_pick rfl rfl) ?_; clear hs; (try clear a w); intro a w hs
     refine sy (v := .bool (false)) hs (y_assign rfl) ?_; clear hs; (try clear a w); intro a w hs
     refine RL_nil ?_
     exact ⟨_, false, hbase31, hm, hs.sub ⟨rfl, trivial⟩⟩
   ·clear hs; have hs := hq; clear hq
    replace hm := oc_f hg59 hm
    refine sno hs ?_; clear hs; (try clear a w); intro a w hs
    refine sno hs ?_; clear hs; (try clear a w); intro a w hs
    refine sno hs ?_; clear hs; (try clear a w); intro a w hs
    refine sy (v := .bool (false)) hs (y_pick rfl rfl) ?_; clear hs; (try clear a w); intro a w hs
    refine sy (v := .bool (false)) hs (y_move rfl) ?_; clear hs; (try clear a w); intro a w hs
    refine sno hs ?_; clear hs; (try clear a w); intro a w hs
    refine sy (v := .bool (false)) hs (y_pick rfl rfl) ?_; clear hs; (try clear a w); intro a w hs
    refine sy (v := .bool (false)) hs (y_assign rfl) ?_; clear hs; (try clear a w); intro a w hs
    refine RL_nil ?_
    exact ⟨_, false, hbase31, hm, hs.sub ⟨rfl, trivial⟩⟩
end Go.Proofs.Ythmnohdlhlmmpaa
