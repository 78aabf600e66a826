/-
  Walks and laws of this seat; the base is the text Base.
-/
import Derived.Test.YthmnohdlhlmmpaaY4
import Derived.Test.YthmnohdlhlmmpaaRows
/-
  Models of functions, and that the functions compute them. Printed by lift.py.
-/
namespace Go.Proofs.Ythmnohdlhlmmpaa
open Go.RowKit Go.Sl
/-! casement/casementkeep.Few -/
/-! casement/casementkeep.FewRunes -/
def keep_FewRunes (_n : Nat) (p0 : (List Int)) (p1 : Int) : Option (List Int) :=
  (bif (decide (p1 < (p0.length : Int))) then (cutM p0 (0 : Int) p1).bind fun x7 =>
  some x7 else
  some p0)
set_option maxRecDepth 20000 in
set_option maxHeartbeats 4000000 in
theorem keep_FewRunes_ok (n : Nat) {f : Fz} {p0 : (List Int)} {a0 : Value} {p1 : Int} {res : (List Int)} (h0 : RS (tInt .i32) f a0 p0) (hm : keep_FewRunes n p0 p1 = some res) : Does Try.prog 18 [a0, .int .i64 p1] f [] (fun r f' L' => ∃ (u0 : Value), L' = [] ∧ r = u0 ∧ RS (tInt .i32) f' u0 res) := by
 unfold keep_FewRunes at hm
 intro w0 L w hC
 obtain ⟨rw1, hR2, hW3⟩ := h0
 refine enter Try.func18 rfl Try.ntmps18 (by simp) hC fun a hs => ?_
 have hle := Fz.le.refl f
 refine W_seq fun K1 hK1 => ?_
 refine W_region ?_
 refine sy (v := (.slice none 0 0)) hs (y_assign rfl) ?_; clear hs; (try clear a w); intro a w hs
 refine RL_nil ?_
 refine hK1 _ _ ?_; clear hK1
 refine W_seq fun K2 hK2 => ?_
 refine W_seq fun K3 hK3 => ?_
 refine W_region ?_
 refine sy (v := a0) hs (y_move rfl) ?_; clear hs; (try clear a w); intro a w hs
 refine sy hs (y_lenW hR2 hW3 rfl Try.underlying32) ?_; clear hs; (try clear a w); intro a w hs
 refine sy (v := .int .i64 (p1)) hs (y_move rfl) ?_; clear hs; (try clear a w); intro a w hs
 refine sy hs (y_gtr rfl rfl) ?_; clear hs; (try clear a w); intro a w hs
 refine RL_nil ?_
 refine hK3 _ _ ?_; clear hK3
 refine W_cond hs rfl (fun hg6 => ?_) (fun hg6 => ?_)
 ·replace hm := oc_t hg6 hm
  refine W_seq fun K4 hK4 => ?_
  refine W_region ?_
  refine sy (v := a0) hs (y_move rfl) ?_; clear hs; (try clear a w); intro a w hs
  refine sy (v := .int .i64 (p1)) hs (y_move rfl) ?_; clear hs; (try clear a w); intro a w hs
  obtain ⟨x7, hx8, hm⟩ := ob hm
  obtain ⟨⟨hlx7, hhx7, h1x7, h2x7⟩, hex7⟩ := cutM_some hx8
  have hW9 := (hW3.take p1.toNat).drop (Int.toNat 0); rw [hex7] at hW9
  simp only [Int.toNat_zero, List.drop_zero] at hW9
  refine sy hs (y_slice (lo := (0 : Nat)) (hi := p1.toNat) rfl Try.underlying32 ti21 (.inl ⟨rfl, rfl⟩) (.inr ⟨_, rfl, by rw [← hhx7]; rfl⟩) h1x7 (by rw [RW.len hW3]; exact h2x7) hR2) ?_; clear hs; (try clear a w); intro a w hs
  have hR10 : Rd f [] (cutv a0 1 0 p1.toNat) 1 (List.take p1.toNat rw1) := by have hz := (hR2 : Rd _ [] _ _ _).cut (lo := 0) (hi := p1.toNat) (Nat.zero_le _) (by rw [RW.len hW3]; exact h2x7); rw [List.drop_zero] at hz; exact hz
  generalize hgrw11 : List.take _ rw1 = rw11 at hR10 hW9; clear hgrw11
  generalize hgv12 : cutv a0 1 _ _ = v12 at hs hR10; clear hgv12
  replace hs : St _ _ _ (L) _ _ _ := hs
  refine sy (v := v12) hs (y_assign rfl) ?_; clear hs; (try clear a w); intro a w hs
  refine RL_nil ?_
  refine hK4 _ _ ?_; clear hK4
  refine W_ret ?_
  obtain rfl := Option.some.inj hm
  refine RtV1 hs rfl (rv_t hs rfl) ?_
  exact ⟨_, f, [], rfl, hle, hs.cw, v12, rfl, rfl, ⟨rw11, hR10, hW9⟩⟩
 ·replace hm := oc_f hg6 hm
  refine W_skip ?_
  refine hK2 _ _ ?_; clear hK2
  refine W_seq fun K5 hK5 => ?_
  refine W_region ?_
  refine sy (v := a0) hs (y_move rfl) ?_; clear hs; (try clear a w); intro a w hs
  refine sy (v := a0) hs (y_assign rfl) ?_; clear hs; (try clear a w); intro a w hs
  refine RL_nil ?_
  refine hK5 _ _ ?_; clear hK5
  refine W_ret ?_
  obtain rfl := Option.some.inj hm
  refine RtV1 hs rfl (rv_t hs rfl) ?_
  exact ⟨_, f, [], rfl, hle, hs.cw, a0, rfl, rfl, ⟨rw1, hR2, hW3⟩⟩
/-! casement/casementkeep.Valid -/
def keep_Valid_k1 : Option Bool :=
  some true
def keep_Valid_k3 (y5 : Int) (lp6 : Int → Option Bool) (y8 : Bool) : Option Bool :=
  (bif y8 then some false else
  lp6 (w64 (y5 + 1)))
def keep_Valid_l2 (p0 : (List Int)) : Nat → Int → Option Bool
  | 0, _ => none
  | k6 + 1, y5 =>
  (bif (decide (y5 < (p0.length : Int))) then (geti p0 y5).bind fun x10 =>
  (bif (decide (x10 < 0)) then keep_Valid_k3 y5 (keep_Valid_l2 p0 k6) true else
  (geti p0 y5).bind fun x18 =>
  (bif (decide (1114111 < x18)) then keep_Valid_k3 y5 (keep_Valid_l2 p0 k6) true else
  (geti p0 y5).bind fun x26 =>
  (bif (decide (55296 ≤ x26)) then (geti p0 y5).bind fun x34 =>
  keep_Valid_k3 y5 (keep_Valid_l2 p0 k6) (decide (x34 ≤ 57343)) else
  keep_Valid_k3 y5 (keep_Valid_l2 p0 k6) false))) else
  keep_Valid_k1)
def keep_Valid (n : Nat) (p0 : (List Int)) : Option Bool :=
  keep_Valid_l2 p0 n 0
set_option maxRecDepth 20000 in
set_option maxHeartbeats 4000000 in
theorem keep_Valid_ok (n : Nat) {f : Fz} {p0 : (List Int)} {a0 : Value} {res : Bool} (h0 : RS (tInt .i32) f a0 p0) (hm : keep_Valid n p0 = some res) : Gives Try.prog 19 [a0] f (.bool res) := by
 unfold keep_Valid at hm
 intro w0 L w hC
 obtain ⟨rw1, hR2, hW3⟩ := h0
 refine enter Try.func19 rfl Try.ntmps19 (by simp) hC fun a hs => ?_
 have hle := Fz.le.refl f
 refine W_seq fun K1 hK1 => ?_
 refine W_region ?_
 refine sy (v := .bool (false)) hs (y_assign rfl) ?_; clear hs; (try clear a w); intro a w hs
 refine RL_nil ?_
 refine hK1 _ _ ?_; clear hK1
 refine W_seq fun K2 hK2 => ?_
 refine W_seq fun K3 hK3 => ?_
 refine W_region ?_
 refine sy (v := .int .i64 (0)) hs (y_assign rfl) ?_; clear hs; (try clear a w); intro a w hs
 refine RL_nil ?_
 refine hK3 _ _ ?_; clear hK3
 refine W_post (fun a w => keep_Valid_k1 = some res ∧ St 36 w0 f (L) [] a w) ?_ ?_
 ·clear hs hm
  rintro a w ⟨hm, hs⟩
  replace hs : St _ _ _ (L) _ _ _ := hs
  unfold keep_Valid_k1 at hm
  refine hK2 _ _ ?_; clear hK2
  refine W_seq fun K4 hK4 => ?_
  refine W_region ?_
  refine sy (v := .bool (true)) hs (y_assign rfl) ?_; clear hs; (try clear a w); intro a w hs
  refine RL_nil ?_
  refine hK4 _ _ ?_; clear hK4
  refine W_ret ?_
  obtain rfl := Option.some.inj hm
  refine RtV1 hs rfl (rv_t hs rfl) ?_
  exact ⟨rfl, (hs.weak hle).cw⟩
 ·refine W_block fun Qe5 hB5 hO5 => ?_
  refine W_loop (fun (k : Nat) a w => ∃ (y5 : Int), keep_Valid_l2 p0 k y5 = some res ∧ St 36 w0 f (L) [(0, a0), (3, .int .i64 (y5))] a w) (fun k => k) n ⟨0, hm, hs.sub ⟨rfl, rfl, trivial⟩⟩ ?_
  clear hs hm
  intro k
  rintro a w ⟨y5, hm, hs⟩
  replace hs : St _ _ _ (L) _ _ _ := hs
  intro K6 hK6
  cases k with
  | zero => simp [keep_Valid_l2] at hm
  | succ k6 =>
   rw [keep_Valid_l2] at hm
   refine W_seq fun K7 hK7 => ?_
   refine W_seq fun K8 hK8 => ?_
   refine W_region ?_
   refine sy (v := .int .i64 (y5)) hs (y_move rfl) ?_; clear hs; (try clear a w); intro a w hs
   refine sy (v := a0) hs (y_move rfl) ?_; clear hs; (try clear a w); intro a w hs
   refine sy hs (y_lenW hR2 hW3 rfl Try.underlying32) ?_; clear hs; (try clear a w); intro a w hs
   refine sy hs (y_lss rfl rfl) ?_; clear hs; (try clear a w); intro a w hs
   refine RL_nil ?_
   refine hK8 _ _ ?_; clear hK8
   refine W_cond hs rfl (fun hg7 => ?_) (fun hg7 => ?_)
   ·replace hm := oc_t hg7 hm
    refine W_skip ?_
    refine hK7 _ _ ?_; clear hK7
    refine W_seq fun K9 hK9 => ?_
    refine W_block fun Qe10 hB10 hO10 => ?_
    refine W_seq fun K11 hK11 => ?_
    refine W_post (fun a w => ∃ (y8 : Bool), keep_Valid_k3 y5 (keep_Valid_l2 p0 k6) y8 = some res ∧ St 36 w0 f (L) [(0, a0), (3, .int .i64 (y5)), (35, .bool (y8))] a w) ?_ ?_
    ·clear hs hm
     rintro a w ⟨y8, hm, hs⟩
     replace hs : St _ _ _ (L) _ _ _ := hs
     unfold keep_Valid_k3 at hm
     refine hK11 _ _ ?_; clear hK11
     refine W_cond hs rfl (fun hg9 => ?_) (fun hg9 => ?_)
     ·replace hm := oc_t hg9 hm
      refine W_seq fun K12 hK12 => ?_
      refine W_region ?_
      refine sy (v := .bool (false)) hs (y_assign rfl) ?_; clear hs; (try clear a w); intro a w hs
      refine RL_nil ?_
      refine hK12 _ _ ?_; clear hK12
      refine W_ret ?_
      obtain rfl := Option.some.inj hm
      refine RtV1 hs rfl (rv_t hs rfl) ?_
      exact ⟨rfl, (hs.weak hle).cw⟩
     ·replace hm := oc_f hg9 hm
      refine W_skip ?_
      refine hK9 _ _ ?_; clear hK9
      refine W_region ?_
      refine sy (v := .int .i64 (y5)) hs (y_move rfl) ?_; clear hs; (try clear a w); intro a w hs
      refine sy hs (y_add rfl rfl rfl) ?_; clear hs; (try clear a w); intro a w hs
      refine sy (v := .int .i64 ((w64 (y5 + 1)))) hs (y_assign rfl) ?_; clear hs; (try clear a w); intro a w hs
      refine RL_nil ?_
      exact hK6 k6 _ _ (Nat.lt_succ_self _) ⟨(w64 (y5 + 1)), hm, hs.sub ⟨rfl, rfl, trivial⟩⟩
    ·refine W_region ?_
     refine sy (v := a0) hs (y_move rfl) ?_; clear hs; (try clear a w); intro a w hs
     refine sy (v := .int .i64 (y5)) hs (y_move rfl) ?_; clear hs; (try clear a w); intro a w hs
     obtain ⟨x10, hx11, hm⟩ := ob hm
     obtain ⟨r12, hr13, hq14, hi15, hb16⟩ := hW3.geti hx11
     obtain rfl : _ = ([.int .i32 (x10)] : List Value) := hq14
     refine sy hs (y_indexAddr hR2 rfl rfl hi15 hb16 Try.underlying32 ti21) ?_; clear hs; (try clear a w); intro a w hs
     refine sy (v := .int .i32 (x10)) hs (y_loadE (i := y5.toNat) (j := 0) hR2.up rfl hr13 rfl Try.underlying21 rfl) ?_; clear hs; (try clear a w); intro a w hs
     refine sy hs (y_lss rfl rfl) ?_; clear hs; (try clear a w); intro a w hs
     refine sy (v := .bool (decide (x10 < 0))) hs (y_move rfl) ?_; clear hs; (try clear a w); intro a w hs
     refine St.split hs (t := 15) rfl (fun hg17 hq => ?_) (fun hg17 hq => ?_)
     ·clear hs; have hs := hq; clear hq
      replace hm := oc_t hg17 hm
      refine sno hs ?_; clear hs; (try clear a w); intro a w hs
      refine sno hs ?_; clear hs; (try clear a w); intro a w hs
      refine sno hs ?_; clear hs; (try clear a w); intro a w hs
      refine sno hs ?_; clear hs; (try clear a w); intro a w hs
      refine sno hs ?_; clear hs; (try clear a w); intro a w hs
      refine sy (v := .bool (true)) hs (y_pick rfl rfl) ?_; clear hs; (try clear a w); intro a w hs
      refine sy (v := .bool (true)) hs (y_move rfl) ?_; clear hs; (try clear a w); intro a w hs
      refine sno hs ?_; clear hs; (try clear a w); intro a w hs
      refine sno hs ?_; clear hs; (try clear a w); intro a w hs
      refine sno hs ?_; clear hs; (try clear a w); intro a w hs
      refine sno hs ?_; clear hs; (try clear a w); intro a w hs
      refine sno hs ?_; clear hs; (try clear a w); intro a w hs
      refine sno hs ?_; clear hs; (try clear a w); intro a w hs
      refine sun hs ?_; clear hs; (try clear a w); intro a w hs
      refine sun hs ?_; clear hs; (try clear a w); intro a w hs
      refine sun hs ?_; clear hs; (try clear a w); intro a w hs
      refine sun hs ?_; clear hs; (try clear a w); intro a w hs
      refine sun hs ?_; clear hs; (try clear a w); intro a w hs
      refine sno hs ?_; clear hs; (try clear a w); intro a w hs
      refine sy (v := .bool (true)) hs (y_pick rfl rfl) ?_; clear hs; (try clear a w); intro a w hs
      refine RL_nil ?_
      exact ⟨true, hm, hs.sub ⟨rfl, rfl, rfl, trivial⟩⟩
     ·clear hs; have hs := hq; clear hq
      replace hm := oc_f hg17 hm
      refine syg (v := a0) hs (y_move rfl) ?_; clear hs; (try clear a w); intro a w hs
      refine syg (v := .int .i64 (y5)) hs (y_move rfl) ?_; clear hs; (try clear a w); intro a w hs
      obtain ⟨x18, hx19, hm⟩ := ob hm
      obtain ⟨r20, hr21, hq22, hi23, hb24⟩ := hW3.geti hx19
      obtain rfl : _ = ([.int .i32 (x18)] : List Value) := hq22
      refine syg hs (y_indexAddr hR2 rfl rfl hi23 hb24 Try.underlying32 ti21) ?_; clear hs; (try clear a w); intro a w hs
      refine syg (v := .int .i32 (x18)) hs (y_loadE (i := y5.toNat) (j := 0) hR2.up rfl hr21 rfl Try.underlying21 rfl) ?_; clear hs; (try clear a w); intro a w hs
      refine syg hs (y_gtr rfl rfl) ?_; clear hs; (try clear a w); intro a w hs
      refine sy (v := .bool (decide (1114111 < x18))) hs (y_pick rfl rfl) ?_; clear hs; (try clear a w); intro a w hs
      refine sy (v := .bool (decide (1114111 < x18))) hs (y_move rfl) ?_; clear hs; (try clear a w); intro a w hs
      refine St.split hs (t := 22) rfl (fun hg25 hq => ?_) (fun hg25 hq => ?_)
      ·clear hs; have hs := hq; clear hq
       replace hm := oc_t hg25 hm
       refine sno hs ?_; clear hs; (try clear a w); intro a w hs
       refine sno hs ?_; clear hs; (try clear a w); intro a w hs
       refine sno hs ?_; clear hs; (try clear a w); intro a w hs
       refine sno hs ?_; clear hs; (try clear a w); intro a w hs
       refine sno hs ?_; clear hs; (try clear a w); intro a w hs
       refine sno hs ?_; clear hs; (try clear a w); intro a w hs
       refine sun hs ?_; clear hs; (try clear a w); intro a w hs
       refine sun hs ?_; clear hs; (try clear a w); intro a w hs
       refine sun hs ?_; clear hs; (try clear a w); intro a w hs
       refine sun hs ?_; clear hs; (try clear a w); intro a w hs
       refine sun hs ?_; clear hs; (try clear a w); intro a w hs
       refine sno hs ?_; clear hs; (try clear a w); intro a w hs
       refine sy (v := .bool (true)) hs (y_pick rfl rfl) ?_; clear hs; (try clear a w); intro a w hs
       refine RL_nil ?_
       exact ⟨true, hm, hs.sub ⟨rfl, rfl, rfl, trivial⟩⟩
      ·clear hs; have hs := hq; clear hq
       replace hm := oc_f hg25 hm
       refine syg (v := a0) hs (y_move rfl) ?_; clear hs; (try clear a w); intro a w hs
       refine syg (v := .int .i64 (y5)) hs (y_move rfl) ?_; clear hs; (try clear a w); intro a w hs
       obtain ⟨x26, hx27, hm⟩ := ob hm
       obtain ⟨r28, hr29, hq30, hi31, hb32⟩ := hW3.geti hx27
       obtain rfl : _ = ([.int .i32 (x26)] : List Value) := hq30
       refine syg hs (y_indexAddr hR2 rfl rfl hi31 hb32 Try.underlying32 ti21) ?_; clear hs; (try clear a w); intro a w hs
       refine syg (v := .int .i32 (x26)) hs (y_loadE (i := y5.toNat) (j := 0) hR2.up rfl hr29 rfl Try.underlying21 rfl) ?_; clear hs; (try clear a w); intro a w hs
       refine syg hs (y_geq rfl rfl) ?_; clear hs; (try clear a w); intro a w hs
       refine syg (v := .bool (decide (55296 ≤ x26))) hs (y_move rfl) ?_; clear hs; (try clear a w); intro a w hs
       refine St.split hs (t := 28) rfl (fun hg33 hq => ?_) (fun hg33 hq => ?_)
       ·clear hs; have hs := hq; clear hq
        replace hm := oc_t hg33 hm
        refine syg (v := a0) hs (y_move rfl) ?_; clear hs; (try clear a w); intro a w hs
        refine syg (v := .int .i64 (y5)) hs (y_move rfl) ?_; clear hs; (try clear a w); intro a w hs
        obtain ⟨x34, hx35, hm⟩ := ob hm
        obtain ⟨r36, hr37, hq38, hi39, hb40⟩ := hW3.geti hx35
        obtain rfl : _ = ([.int .i32 (x34)] : List Value) := hq38
        refine syg hs (y_indexAddr hR2 rfl rfl hi39 hb40 Try.underlying32 ti21) ?_; clear hs; (try clear a w); intro a w hs
        refine syg (v := .int .i32 (x34)) hs (y_loadE (i := y5.toNat) (j := 0) hR2.up rfl hr37 rfl Try.underlying21 rfl) ?_; clear hs; (try clear a w); intro a w hs
        refine syg hs (y_leq rfl rfl) ?_; clear hs; (try clear a w); intro a w hs
        refine syg (v := .bool (decide (x34 ≤ 57343))) hs (y_pick rfl rfl) ?_; clear hs; (try clear a w); intro a w hs
        refine sy (v := .bool (decide (x34 ≤ 57343))) hs (y_pick rfl rfl) ?_; clear hs; (try clear a w); intro a w hs
        refine RL_nil ?_
        exact ⟨decide (x34 ≤ 57343), hm, hs.sub ⟨rfl, rfl, rfl, trivial⟩⟩
       ·clear hs; have hs := hq; clear hq
        replace hm := oc_f hg33 hm
        refine sno hs ?_; clear hs; (try clear a w); intro a w hs
        refine sno hs ?_; clear hs; (try clear a w); intro a w hs
        refine sno hs ?_; clear hs; (try clear a w); intro a w hs
        refine sno hs ?_; clear hs; (try clear a w); intro a w hs
        refine sno hs ?_; clear hs; (try clear a w); intro a w hs
        refine syg (v := .bool (false)) hs (y_pick rfl rfl) ?_; clear hs; (try clear a w); intro a w hs
        refine sy (v := .bool (false)) hs (y_pick rfl rfl) ?_; clear hs; (try clear a w); intro a w hs
        refine RL_nil ?_
        exact ⟨false, hm, hs.sub ⟨rfl, rfl, rfl, trivial⟩⟩
   ·replace hm := oc_f hg7 hm
    refine W_exit ?_
    refine hB5 _ _ ?_
    exact ⟨hm, hs.sub trivial⟩
end Go.Proofs.Ythmnohdlhlmmpaa
