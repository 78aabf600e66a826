/-
  Walks and laws of this seat; the base is the text Base.
-/
import Derived.Test.YthmnohdlhlmmpaaL4p
import Derived.Test.YthmnohdlhlmmpaaRows
/-
  Models of functions, and that the functions compute them. Printed by lift.py.
-/
namespace Go.Proofs.Ythmnohdlhlmmpaa
open Go.RowKit Go.Sl
/-! casement/casementref4.raw -/
def ref4_raw_k1 (y5 : Int) : Option Int :=
  some y5
def ref4_raw_k3 (y6 : Int) (lp7 : Int → Option Int) (y9 : Bool) : Option Int :=
  (bif y9 then some y6 else
  lp7 (w64 (y6 + 1)))
def ref4_raw_l2 (n : Nat) (p0 : (List Int)) (p2 : ByteArray) : Nat → Int → Option Int
  | 0, _ => none
  | k7 + 1, y6 =>
  (bif (decide (y6 < (p0.length : Int))) then (ref4_is n p0 y6 (bs [60, 47])).bind fun x11 =>
  (bif x11 then (bif (decide ((w64 ((w64 (y6 + 2)) + (p2.size : Int))) ≤ (p0.length : Int))) then (cutM p0 ((w64 (y6 + 2)) : Int) (w64 ((w64 (y6 + 2)) + (p2.size : Int)))).bind fun x15 =>
  (ref4_Small n x15).bind fun x22 =>
  (bif (decide (x22 = p2)) then (bif (decide ((w64 ((w64 (y6 + 2)) + (p2.size : Int))) = (p0.length : Int))) then ref4_raw_k3 y6 (ref4_raw_l2 n p0 p2 k7) true else
  (geti p0 (w64 ((w64 (y6 + 2)) + (p2.size : Int)))).bind fun x26 =>
  (ref4_Blank n x26).bind fun x33 =>
  (bif x33 then ref4_raw_k3 y6 (ref4_raw_l2 n p0 p2 k7) true else
  (geti p0 (w64 ((w64 (y6 + 2)) + (p2.size : Int)))).bind fun x36 =>
  (bif (decide (x36 = 47)) then ref4_raw_k3 y6 (ref4_raw_l2 n p0 p2 k7) true else
  (geti p0 (w64 ((w64 (y6 + 2)) + (p2.size : Int)))).bind fun x44 =>
  ref4_raw_k3 y6 (ref4_raw_l2 n p0 p2 k7) (decide (x44 = 62))))) else
  ref4_raw_k3 y6 (ref4_raw_l2 n p0 p2 k7) false) else
  ref4_raw_k3 y6 (ref4_raw_l2 n p0 p2 k7) false) else
  ref4_raw_k3 y6 (ref4_raw_l2 n p0 p2 k7) false) else
  ref4_raw_k1 y6)
def ref4_raw (n : Nat) (p0 : (List Int)) (p1 : Int) (p2 : ByteArray) : Option Int :=
  ref4_raw_l2 n p0 p2 n p1
set_option maxRecDepth 20000 in
set_option maxHeartbeats 4000000 in
theorem ref4_raw_ok (n : Nat) {f : Fz} {p0 : (List Int)} {a0 : Value} {p1 : Int} {p2 : ByteArray} {res : Int} (h0 : RS (tInt .i32) f a0 p0) (hm : ref4_raw n p0 p1 p2 = some res) : Gives Try.prog 53 [a0, .int .i64 p1, .string p2] f (.int .i64 res) := by
 unfold ref4_raw at hm
 intro w0 L w hC
 obtain ⟨rw1, hR2, hW3⟩ := h0
 refine enter Try.func53 rfl Try.ntmps53 (by simp) hC fun a hs => ?_
 have hle := Fz.le.refl f
 refine W_seq fun K1 hK1 => ?_
 refine W_region ?_
 refine sy (v := .int .i64 (0)) hs (y_assign rfl) ?_; clear hs; (try clear a w); intro a w hs
 refine RL_nil ?_
 refine hK1 _ _ ?_; clear hK1
 refine W_seq fun K2 hK2 => ?_
 refine W_post (fun a w => ∃ (y5 : Int), ref4_raw_k1 y5 = some res ∧ St 67 w0 f (L) [(1, .int .i64 (y5))] a w) ?_ ?_
 ·clear hs hm
  rintro a w ⟨y5, hm, hs⟩
  replace hs : St _ _ _ (L) _ _ _ := hs
  unfold ref4_raw_k1 at hm
  refine hK2 _ _ ?_; clear hK2
  refine W_seq fun K3 hK3 => ?_
  refine W_region ?_
  refine sy (v := .int .i64 (y5)) hs (y_move rfl) ?_; clear hs; (try clear a w); intro a w hs
  refine sy (v := .int .i64 (y5)) hs (y_assign rfl) ?_; clear hs; (try clear a w); intro a w hs
  refine RL_nil ?_
  refine hK3 _ _ ?_; clear hK3
  refine W_ret ?_
  obtain rfl := Option.some.inj hm
  refine RtV1 hs rfl (rv_t hs rfl) ?_
  exact ⟨rfl, (hs.weak hle).cw⟩
 ·refine W_block fun Qe4 hB4 hO4 => ?_
  refine W_loop (fun (k : Nat) a w => ∃ (y6 : Int), ref4_raw_l2 n p0 p2 k y6 = some res ∧ St 67 w0 f (L) [(0, a0), (1, .int .i64 (y6)), (2, .string (p2))] a w) (fun k => k) n ⟨p1, hm, hs.sub ⟨rfl, rfl, rfl, trivial⟩⟩ ?_
  clear hs hm
  intro k
  rintro a w ⟨y6, hm, hs⟩
  replace hs : St _ _ _ (L) _ _ _ := hs
  intro K5 hK5
  cases k with
  | zero => simp [ref4_raw_l2] at hm
  | succ k7 =>
   rw [ref4_raw_l2] at hm
   refine W_seq fun K6 hK6 => ?_
   refine W_seq fun K7 hK7 => ?_
   refine W_region ?_
   refine sy (v := .int .i64 (y6)) hs (y_move rfl) ?_; clear hs; (try clear a w); intro a w hs
   refine sy (v := a0) hs (y_move rfl) ?_; clear hs; (try clear a w); intro a w hs
   refine sy hs (y_lenW hR2 hW3 rfl Try.underlying32) ?_; clear hs; (try clear a w); intro a w hs
   refine sy hs (y_lss rfl rfl) ?_; clear hs; (try clear a w); intro a w hs
   refine RL_nil ?_
   refine hK7 _ _ ?_; clear hK7
   refine W_cond hs rfl (fun hg8 => ?_) (fun hg8 => ?_)
   ·replace hm := oc_t hg8 hm
    refine W_skip ?_
    refine hK6 _ _ ?_; clear hK6
    refine W_block fun Qe8 hB8 hO8 => ?_
    refine W_seq fun K9 hK9 => ?_
    refine W_region ?_
    refine sy (v := .int .i64 (y6)) hs (y_move rfl) ?_; clear hs; (try clear a w); intro a w hs
    refine sy hs (y_add rfl rfl rfl) ?_; clear hs; (try clear a w); intro a w hs
    refine sy (v := .string (p2)) hs (y_move rfl) ?_; clear hs; (try clear a w); intro a w hs
    refine sy hs (y_lenS rfl Try.underlying9) ?_; clear hs; (try clear a w); intro a w hs
    refine sy hs (y_add rfl rfl rfl) ?_; clear hs; (try clear a w); intro a w hs
    refine sy (v := .int .i64 ((w64 ((w64 (y6 + 2)) + (p2.size : Int))))) hs (y_assign rfl) ?_; clear hs; (try clear a w); intro a w hs
    refine RL_nil ?_
    refine hK9 _ _ ?_; clear hK9
    refine W_seq fun K10 hK10 => ?_
    refine W_seq fun K11 hK11 => ?_
    refine W_post (fun a w => ∃ (y9 : Bool), ref4_raw_k3 y6 (ref4_raw_l2 n p0 p2 k7) y9 = some res ∧ St 67 w0 f (L) [(0, a0), (1, .int .i64 (y6)), (2, .string (p2)), (62, .bool (y9))] a w) ?_ ?_
    ·clear hs hm
     rintro a w ⟨y9, hm, hs⟩
     replace hs : St _ _ _ (L) _ _ _ := hs
     unfold ref4_raw_k3 at hm
     refine hK11 _ _ ?_; clear hK11
     refine W_cond hs rfl (fun hg10 => ?_) (fun hg10 => ?_)
     ·replace hm := oc_t hg10 hm
      refine W_seq fun K12 hK12 => ?_
      refine W_region ?_
      refine sy (v := .int .i64 (y6)) hs (y_move rfl) ?_; clear hs; (try clear a w); intro a w hs
      refine sy (v := .int .i64 (y6)) hs (y_assign rfl) ?_; clear hs; (try clear a w); intro a w hs
      refine RL_nil ?_
      refine hK12 _ _ ?_; clear hK12
      refine W_ret ?_
      obtain rfl := Option.some.inj hm
      refine RtV1 hs rfl (rv_t hs rfl) ?_
      exact ⟨rfl, (hs.weak hle).cw⟩
     ·replace hm := oc_f hg10 hm
      refine W_skip ?_
      refine hK10 _ _ ?_; clear hK10
      refine W_region ?_
      refine sy (v := .int .i64 (y6)) hs (y_move rfl) ?_; clear hs; (try clear a w); intro a w hs
      refine sy hs (y_add rfl rfl rfl) ?_; clear hs; (try clear a w); intro a w hs
      refine sy (v := .int .i64 ((w64 (y6 + 1)))) hs (y_assign rfl) ?_; clear hs; (try clear a w); intro a w hs
      refine RL_nil ?_
      exact hK5 k7 _ _ (Nat.lt_succ_self _) ⟨(w64 (y6 + 1)), hm, hs.sub ⟨rfl, rfl, rfl, trivial⟩⟩
    ·refine W_region ?_
     refine sy (v := a0) hs (y_move rfl) ?_; clear hs; (try clear a w); intro a w hs
     refine sy (v := .int .i64 (y6)) hs (y_move rfl) ?_; clear hs; (try clear a w); intro a w hs
     obtain ⟨x11, hx12, hm⟩ := ob hm
     refine sy hs (y_call rfl has54 rfl (ref4_is_ok n (f := f) (a0 := a0) ⟨rw1, hR2, hW3⟩ hx12)) ?_; clear hs; (try clear a w); intro a w hs
     refine sy (v := .bool (x11)) hs (y_move rfl) ?_; clear hs; (try clear a w); intro a w hs
     refine St.split hs (t := 20) rfl (fun hg13 hq => ?_) (fun hg13 hq => ?_)
     ·clear hs; have hs := hq; clear hq
      replace hm := oc_t hg13 hm
      refine syg (v := .int .i64 ((w64 ((w64 (y6 + 2)) + (p2.size : Int))))) hs (y_move rfl) ?_; clear hs; (try clear a w); intro a w hs
      refine syg (v := a0) hs (y_move rfl) ?_; clear hs; (try clear a w); intro a w hs
      refine syg hs (y_lenW hR2 hW3 rfl Try.underlying32) ?_; clear hs; (try clear a w); intro a w hs
      refine syg hs (y_leq rfl rfl) ?_; clear hs; (try clear a w); intro a w hs
      refine sy (v := .bool (decide ((w64 ((w64 (y6 + 2)) + (p2.size : Int))) ≤ (p0.length : Int)))) hs (y_pick rfl rfl) ?_; clear hs; (try clear a w); intro a w hs
      refine sy (v := .bool (decide ((w64 ((w64 (y6 + 2)) + (p2.size : Int))) ≤ (p0.length : Int)))) hs (y_move rfl) ?_; clear hs; (try clear a w); intro a w hs
      refine St.split hs (t := 26) rfl (fun hg14 hq => ?_) (fun hg14 hq => ?_)
      ·clear hs; have hs := hq; clear hq
       replace hm := oc_t hg14 hm
       refine syg (v := a0) hs (y_move rfl) ?_; clear hs; (try clear a w); intro a w hs
       refine syg (v := .int .i64 (y6)) hs (y_move rfl) ?_; clear hs; (try clear a w); intro a w hs
       refine syg hs (y_add rfl rfl rfl) ?_; clear hs; (try clear a w); intro a w hs
       refine syg (v := .int .i64 ((w64 ((w64 (y6 + 2)) + (p2.size : Int))))) hs (y_move rfl) ?_; clear hs; (try clear a w); intro a w hs
       obtain ⟨x15, hx16, hm⟩ := ob hm
       obtain ⟨⟨hlx15, hhx15, h1x15, h2x15⟩, hex15⟩ := cutM_some hx16
       have hW17 := (hW3.take (w64 ((w64 (y6 + 2)) + (p2.size : Int))).toNat).drop (w64 (y6 + 2)).toNat; rw [hex15] at hW17
       have hR18 : Rd _ [] (cutv a0 1 _ _) 1 _ := (hR2 : Rd _ [] _ _ _).cut h1x15 (by rw [RW.len hW3]; exact h2x15)
       generalize hgrw19 : List.drop _ (List.take _ rw1) = rw19 at hR18 hW17; clear hgrw19
       obtain ⟨v20, hvv20⟩ : ∃ u, cutv a0 1 (w64 (y6 + 2)).toNat (w64 ((w64 (y6 + 2)) + (p2.size : Int))).toNat = u := ⟨_, rfl⟩
       rw [hvv20] at hR18
       refine syg hs (y_sliceV (lo := (w64 (y6 + 2)).toNat) (hi := (w64 ((w64 (y6 + 2)) + (p2.size : Int))).toNat) hvv20 rfl Try.underlying32 ti21 (.inr ⟨_, rfl, by rw [← hlx15]; rfl⟩) (.inr ⟨_, rfl, by rw [← hhx15]; rfl⟩) h1x15 (by rw [RW.len hW3]; exact h2x15) hR2) ?_; clear hs; (try clear a w); intro a w hs
       obtain ⟨x22, hx23, hm⟩ := ob hm
       refine syg hs (y_call rfl has74 rfl (ref4_Small_ok n (f := f) (a0 := v20) ⟨rw19, hR18, hW17⟩ hx23)) ?_; clear hs; (try clear a w); intro a w hs
       refine syg (v := .string (p2)) hs (y_move rfl) ?_; clear hs; (try clear a w); intro a w hs
       refine syg hs (y_seql rfl rfl) ?_; clear hs; (try clear a w); intro a w hs
       refine sy (v := .bool (decide (x22 = p2))) hs (y_pick rfl rfl) ?_; clear hs; (try clear a w); intro a w hs
       refine sy (v := .bool (decide (x22 = p2))) hs (y_move rfl) ?_; clear hs; (try clear a w); intro a w hs
       refine St.split hs (t := 36) rfl (fun hg24 hq => ?_) (fun hg24 hq => ?_)
       ·clear hs; have hs := hq; clear hq
        replace hm := oc_t hg24 hm
        refine syg (v := .int .i64 ((w64 ((w64 (y6 + 2)) + (p2.size : Int))))) hs (y_move rfl) ?_; clear hs; (try clear a w); intro a w hs
        refine syg (v := a0) hs (y_move rfl) ?_; clear hs; (try clear a w); intro a w hs
        refine syg hs (y_lenW hR2 hW3 rfl Try.underlying32) ?_; clear hs; (try clear a w); intro a w hs
        refine syg hs (y_eql rfl rfl) ?_; clear hs; (try clear a w); intro a w hs
        refine syg (v := .bool (decide ((w64 ((w64 (y6 + 2)) + (p2.size : Int))) = (p0.length : Int)))) hs (y_move rfl) ?_; clear hs; (try clear a w); intro a w hs
        refine St.split hs (t := 41) rfl (fun hg25 hq => ?_) (fun hg25 hq => ?_)
        ·clear hs; have hs := hq; clear hq
         replace hm := oc_t hg25 hm
         refine sno hs ?_; clear hs; (try clear a w); intro a w hs
         refine sno hs ?_; clear hs; (try clear a w); intro a w hs
         refine sno hs ?_; clear hs; (try clear a w); intro a w hs
         refine sno hs ?_; clear hs; (try clear a w); intro a w hs
         refine sno hs ?_; clear hs; (try clear a w); intro a w hs
         refine syg (v := .bool (true)) hs (y_pick rfl rfl) ?_; clear hs; (try clear a w); intro a w hs
         refine syg (v := .bool (true)) hs (y_move rfl) ?_; clear hs; (try clear a w); intro a w hs
         refine sno hs ?_; clear hs; (try clear a w); intro a w hs
         refine sno hs ?_; clear hs; (try clear a w); intro a w hs
         refine sno hs ?_; clear hs; (try clear a w); intro a w hs
         refine sno hs ?_; clear hs; (try clear a w); intro a w hs
         refine sno hs ?_; clear hs; (try clear a w); intro a w hs
         refine syg (v := .bool (true)) hs (y_pick rfl rfl) ?_; clear hs; (try clear a w); intro a w hs
         refine syg (v := .bool (true)) hs (y_move rfl) ?_; clear hs; (try clear a w); intro a w hs
         refine sno hs ?_; clear hs; (try clear a w); intro a w hs
         refine sno hs ?_; clear hs; (try clear a w); intro a w hs
         refine sno hs ?_; clear hs; (try clear a w); intro a w hs
         refine sno hs ?_; clear hs; (try clear a w); intro a w hs
         refine sno hs ?_; clear hs; (try clear a w); intro a w hs
         refine syg (v := .bool (true)) hs (y_pick rfl rfl) ?_; clear hs; (try clear a w); intro a w hs
         refine sy (v := .bool (true)) hs (y_pick rfl rfl) ?_; clear hs; (try clear a w); intro a w hs
         refine RL_nil ?_
         exact ⟨true, hm, hs.sub ⟨rfl, rfl, rfl, rfl, trivial⟩⟩
        ·clear hs; have hs := hq; clear hq
         replace hm := oc_f hg25 hm
         refine syg (v := a0) hs (y_move rfl) ?_; clear hs; (try clear a w); intro a w hs
         refine syg (v := .int .i64 ((w64 ((w64 (y6 + 2)) + (p2.size : Int))))) hs (y_move rfl) ?_; clear hs; (try clear a w); intro a w hs
         obtain ⟨x26, hx27, hm⟩ := ob hm
         obtain ⟨r28, hr29, hq30, hi31, hb32⟩ := hW3.geti hx27
         obtain rfl : _ = ([.int .i32 (x26)] : List Value) := hq30
         refine syg hs (y_indexAddr hR2 rfl rfl hi31 hb32 Try.underlying32 ti21) ?_; clear hs; (try clear a w); intro a w hs
         refine syg (v := .int .i32 (x26)) hs (y_loadE (i := (w64 ((w64 (y6 + 2)) + (p2.size : Int))).toNat) (j := 0) hR2.up rfl hr29 rfl Try.underlying21 rfl) ?_; clear hs; (try clear a w); intro a w hs
         obtain ⟨x33, hx34, hm⟩ := ob hm
         refine syg hs (y_call rfl has73 rfl (ref4_Blank_ok n (f := f)  hx34)) ?_; clear hs; (try clear a w); intro a w hs
         refine syg (v := .bool (x33)) hs (y_pick rfl rfl) ?_; clear hs; (try clear a w); intro a w hs
         refine syg (v := .bool (x33)) hs (y_move rfl) ?_; clear hs; (try clear a w); intro a w hs
         refine St.split hs (t := 48) rfl (fun hg35 hq => ?_) (fun hg35 hq => ?_)
         ·clear hs; have hs := hq; clear hq
          replace hm := oc_t hg35 hm
          refine sno hs ?_; clear hs; (try clear a w); intro a w hs
          refine sno hs ?_; clear hs; (try clear a w); intro a w hs
          refine sno hs ?_; clear hs; (try clear a w); intro a w hs
          refine sno hs ?_; clear hs; (try clear a w); intro a w hs
          refine sno hs ?_; clear hs; (try clear a w); intro a w hs
          refine syg (v := .bool (true)) hs (y_pick rfl rfl) ?_; clear hs; (try clear a w); intro a w hs
          refine syg (v := .bool (true)) hs (y_move rfl) ?_; clear hs; (try clear a w); intro a w hs
          refine sno hs ?_; clear hs; (try clear a w); intro a w hs
          refine sno hs ?_; clear hs; (try clear a w); intro a w hs
          refine sno hs ?_; clear hs; (try clear a w); intro a w hs
          refine sno hs ?_; clear hs; (try clear a w); intro a w hs
          refine sno hs ?_; clear hs; (try clear a w); intro a w hs
          refine syg (v := .bool (true)) hs (y_pick rfl rfl) ?_; clear hs; (try clear a w); intro a w hs
          refine sy (v := .bool (true)) hs (y_pick rfl rfl) ?_; clear hs; (try clear a w); intro a w hs
          refine RL_nil ?_
          exact ⟨true, hm, hs.sub ⟨rfl, rfl, rfl, rfl, trivial⟩⟩
         ·clear hs; have hs := hq; clear hq
          replace hm := oc_f hg35 hm
          refine syg (v := a0) hs (y_move rfl) ?_; clear hs; (try clear a w); intro a w hs
          refine syg (v := .int .i64 ((w64 ((w64 (y6 + 2)) + (p2.size : Int))))) hs (y_move rfl) ?_; clear hs; (try clear a w); intro a w hs
          obtain ⟨x36, hx37, hm⟩ := ob hm
          obtain ⟨r38, hr39, hq40, hi41, hb42⟩ := hW3.geti hx37
          obtain rfl : _ = ([.int .i32 (x36)] : List Value) := hq40
          refine syg hs (y_indexAddr hR2 rfl rfl hi41 hb42 Try.underlying32 ti21) ?_; clear hs; (try clear a w); intro a w hs
          refine syg (v := .int .i32 (x36)) hs (y_loadE (i := (w64 ((w64 (y6 + 2)) + (p2.size : Int))).toNat) (j := 0) hR2.up rfl hr39 rfl Try.underlying21 rfl) ?_; clear hs; (try clear a w); intro a w hs
          refine syg hs (y_eql rfl rfl) ?_; clear hs; (try clear a w); intro a w hs
          refine syg (v := .bool (decide (x36 = 47))) hs (y_pick rfl rfl) ?_; clear hs; (try clear a w); intro a w hs
          refine syg (v := .bool (decide (x36 = 47))) hs (y_move rfl) ?_; clear hs; (try clear a w); intro a w hs
          refine St.split hs (t := 55) rfl (fun hg43 hq => ?_) (fun hg43 hq => ?_)
          ·clear hs; have hs := hq; clear hq
           replace hm := oc_t hg43 hm
           refine sno hs ?_; clear hs; (try clear a w); intro a w hs
           refine sno hs ?_; clear hs; (try clear a w); intro a w hs
           refine sno hs ?_; clear hs; (try clear a w); intro a w hs
           refine sno hs ?_; clear hs; (try clear a w); intro a w hs
           refine sno hs ?_; clear hs; (try clear a w); intro a w hs
           refine syg (v := .bool (true)) hs (y_pick rfl rfl) ?_; clear hs; (try clear a w); intro a w hs
           refine sy (v := .bool (true)) hs (y_pick rfl rfl) ?_; clear hs; (try clear a w); intro a w hs
           refine RL_nil ?_
           exact ⟨true, hm, hs.sub ⟨rfl, rfl, rfl, rfl, trivial⟩⟩
          ·clear hs; have hs := hq; clear hq
           replace hm := oc_f hg43 hm
           refine syg (v := a0) hs (y_move rfl) ?_; clear hs; (try clear a w); intro a w hs
           refine syg (v := .int .i64 ((w64 ((w64 (y6 + 2)) + (p2.size : Int))))) hs (y_move rfl) ?_; clear hs; (try clear a w); intro a w hs
           obtain ⟨x44, hx45, hm⟩ := ob hm
           obtain ⟨r46, hr47, hq48, hi49, hb50⟩ := hW3.geti hx45
           obtain rfl : _ = ([.int .i32 (x44)] : List Value) := hq48
           refine syg hs (y_indexAddr hR2 rfl rfl hi49 hb50 Try.underlying32 ti21) ?_; clear hs; (try clear a w); intro a w hs
           refine syg (v := .int .i32 (x44)) hs (y_loadE (i := (w64 ((w64 (y6 + 2)) + (p2.size : Int))).toNat) (j := 0) hR2.up rfl hr47 rfl Try.underlying21 rfl) ?_; clear hs; (try clear a w); intro a w hs
           refine syg hs (y_eql rfl rfl) ?_; clear hs; (try clear a w); intro a w hs
           refine syg (v := .bool (decide (x44 = 62))) hs (y_pick rfl rfl) ?_; clear hs; (try clear a w); intro a w hs
           refine sy (v := .bool (decide (x44 = 62))) hs (y_pick rfl rfl) ?_; clear hs; (try clear a w); intro a w hs
           refine RL_nil ?_
           exact ⟨decide (x44 = 62), hm, hs.sub ⟨rfl, rfl, rfl, rfl, trivial⟩⟩
       ·clear hs; have hs := hq; clear hq
        replace hm := oc_f hg24 hm
        refine sno hs ?_; clear hs; (try clear a w); intro a w hs
        refine sno hs ?_; clear hs; (try clear a w); intro a w hs
        refine sno hs ?_; clear hs; (try clear a w); intro a w hs
        refine sno hs ?_; clear hs; (try clear a w); intro a w hs
        refine sno hs ?_; clear hs; (try clear a w); intro a w hs
        refine sun hs ?_; clear hs; (try clear a w); intro a w hs
        refine sun hs ?_; clear hs; (try clear a w); intro a w hs
        refine sun hs ?_; clear hs; (try clear a w); intro a w hs
        refine sun hs ?_; clear hs; (try clear a w); intro a w hs
        refine sun hs ?_; clear hs; (try clear a w); intro a w hs
        refine sno hs ?_; clear hs; (try clear a w); intro a w hs
        refine sno hs ?_; clear hs; (try clear a w); intro a w hs
        refine sun hs ?_; clear hs; (try clear a w); intro a w hs
        refine sun hs ?_; clear hs; (try clear a w); intro a w hs
        refine sun hs ?_; clear hs; (try clear a w); intro a w hs
        refine sun hs ?_; clear hs; (try clear a w); intro a w hs
        refine sun hs ?_; clear hs; (try clear a w); intro a w hs
        refine sno hs ?_; clear hs; (try clear a w); intro a w hs
        refine sno hs ?_; clear hs; (try clear a w); intro a w hs
        refine sun hs ?_; clear hs; (try clear a w); intro a w hs
        refine sun hs ?_; clear hs; (try clear a w); intro a w hs
        refine sun hs ?_; clear hs; (try clear a w); intro a w hs
        refine sun hs ?_; clear hs; (try clear a w); intro a w hs
        refine sun hs ?_; clear hs; (try clear a w); intro a w hs
        refine sno hs ?_; clear hs; (try clear a w); intro a w hs
        refine sy (v := .bool (false)) hs (y_pick rfl rfl) ?_; clear hs; (try clear a w); intro a w hs
        refine RL_nil ?_
        exact ⟨false, hm, hs.sub ⟨rfl, rfl, rfl, rfl, trivial⟩⟩
      ·clear hs; have hs := hq; clear hq
       replace hm := oc_f hg14 hm
       refine sno hs ?_; clear hs; (try clear a w); intro a w hs
       refine sno hs ?_; clear hs; (try clear a w); intro a w hs
       refine sno hs ?_; clear hs; (try clear a w); intro a w hs
       refine sno hs ?_; clear hs; (try clear a w); intro a w hs
       refine sno hs ?_; clear hs; (try clear a w); intro a w hs
       refine sno hs ?_; clear hs; (try clear a w); intro a w hs
       refine sno hs ?_; clear hs; (try clear a w); intro a w hs
       refine sno hs ?_; clear hs; (try clear a w); intro a w hs
       refine sy (v := .bool (false)) hs (y_pick rfl rfl) ?_; clear hs; (try clear a w); intro a w hs
       refine sy (v := .bool (false)) hs (y_move rfl) ?_; clear hs; (try clear a w); intro a w hs
       refine sno hs ?_; clear hs; (try clear a w); intro a w hs
       refine sno hs ?_; clear hs; (try clear a w); intro a w hs
       refine sno hs ?_; clear hs; (try clear a w); intro a w hs
       refine sno hs ?_; clear hs; (try clear a w); intro a w hs
       refine sno hs ?_; clear hs; (try clear a w); intro a w hs
       refine sun hs ?_; clear hs; (try clear a w); intro a w hs
       refine sun hs ?_; clear hs; (try clear a w); intro a w hs
       refine sun hs ?_; clear hs; (try clear a w); intro a w hs
       refine sun hs ?_; clear hs; (try clear a w); intro a w hs
       refine sun hs ?_; clear hs; (try clear a w); intro a w hs
       refine sno hs ?_; clear hs; (try clear a w); intro a w hs
       refine sno hs ?_; clear hs; (try clear a w); intro a w hs
       refine sun hs ?_; clear hs; (try clear a w); intro a w hs
       refine sun hs ?_; clear hs; (try clear a w); intro a w hs
       refine sun hs ?_; clear hs; (try clear a w); intro a w hs
       refine sun hs ?_; clear hs; (try clear a w); intro a w hs
       refine sun hs ?_; clear hs; (try clear a w); intro a w hs
       refine sno hs ?_; clear hs; (try clear a w); intro a w hs
       refine sno hs ?_; clear hs; (try clear a w); intro a w hs
       refine sun hs ?_; clear hs; (try clear a w); intro a w hs
       refine sun hs ?_; clear hs; (try clear a w); intro a w hs
       refine sun hs ?_; clear hs; (try clear a w); intro a w hs
       refine sun hs ?_; clear hs; (try clear a w); intro a w hs
       refine sun hs ?_; clear hs; (try clear a w); intro a w hs
       refine sno hs ?_; clear hs; (try clear a w); intro a w hs
       refine sy (v := .bool (false)) hs (y_pick rfl rfl) ?_; clear hs; (try clear a w); intro a w hs
       refine RL_nil ?_
       exact ⟨false, hm, hs.sub ⟨rfl, rfl, rfl, rfl, trivial⟩⟩
     ·clear hs; have hs := hq; clear hq
      replace hm := oc_f hg13 hm
      refine sno hs ?_; clear hs; (try clear a w); intro a w hs
      refine sno hs ?_; clear hs; (try clear a w); intro a w hs
      refine sno hs ?_; clear hs; (try clear a w); intro a w hs
      refine sno hs ?_; clear hs; (try clear a w); intro a w hs
      refine sy (v := .bool (false)) hs (y_pick rfl rfl) ?_; clear hs; (try clear a w); intro a w hs
      refine sy (v := .bool (false)) hs (y_move rfl) ?_; clear hs; (try clear a w); intro a w hs
      refine sno hs ?_; clear hs; (try clear a w); intro a w hs
      refine sno hs ?_; clear hs; (try clear a w); intro a w hs
      refine sno hs ?_; clear hs; (try clear a w); intro a w hs
      refine sno hs ?_; clear hs; (try clear a w); intro a w hs
      refine sno hs ?_; clear hs; (try clear a w); intro a w hs
      refine sno hs ?_; clear hs; (try clear a w); intro a w hs
      refine sno hs ?_; clear hs; (try clear a w); intro a w hs
      refine sno hs ?_; clear hs; (try clear a w); intro a w hs
      refine sy (v := .bool (false)) hs (y_pick rfl rfl) ?_; clear hs; (try clear a w); intro a w hs
      refine sy (v := .bool (false)) hs (y_move rfl) ?_; clear hs; (try clear a w); intro a w hs
      refine sno hs ?_; clear hs; (try clear a w); intro a w hs
      refine sno hs ?_; clear hs; (try clear a w); intro a w hs
      refine sno hs ?_; clear hs; (try clear a w); intro a w hs
      refine sno hs ?_; clear hs; (try clear a w); intro a w hs
      refine sno hs ?_; clear hs; (try clear a w); intro a w hs
      refine sun hs ?_; clear hs; (try clear a w); intro a w hs
      refine sun hs ?_; clear hs; (try clear a w); intro a w hs
      refine sun hs ?_; clear hs; (try clear a w); intro a w hs
      refine sun hs ?_; clear hs; (try clear a w); intro a w hs
      refine sun hs ?_; clear hs; (try clear a w); intro a w hs
      refine sno hs ?_; clear hs; (try clear a w); intro a w hs
      refine sno hs ?_; clear hs; (try clear a w); intro a w hs
      refine sun hs ?_; clear hs; (try clear a w); intro a w hs
      refine sun hs ?_; clear hs; (try clear a w); intro a w hs
      refine sun hs ?_; clear hs; (try clear a w); intro a w hs
      refine sun hs ?_; clear hs; (try clear a w); intro a w hs
      refine sun hs ?_; clear hs; (try clear a w); intro a w hs
      refine sno hs ?_; clear hs; (try clear a w); intro a w hs
      refine sno hs ?_; clear hs; (try clear a w); intro a w hs
      refine sun hs ?_; clear hs; (try clear a w); intro a w hs
      refine sun hs ?_; clear hs; (try clear a w); intro a w hs
      refine sun hs ?_; clear hs; (try clear a w); intro a w hs
      refine sun hs ?_; clear hs; (try clear a w); intro a w hs
      refine sun hs ?_; clear hs; (try clear a w); intro a w hs
      refine sno hs ?_; clear hs; (try clear a w); intro a w hs
      refine sy (v := .bool (false)) hs (y_pick rfl rfl) ?_; clear hs; (try clear a w); intro a w hs
      refine RL_nil ?_
      exact ⟨false, hm, hs.sub ⟨rfl, rfl, rfl, rfl, trivial⟩⟩
   ·replace hm := oc_f hg8 hm
    refine W_exit ?_
    refine hB4 _ _ ?_
    exact ⟨y6, hm, hs.sub ⟨rfl, trivial⟩⟩
/-! casement/casementref4.Tokens -/
def ref4_Tokens_k1 (y10 : (List ref4_Token)) : Option (List ref4_Token) :=
  some y10
def ref4_Tokens_k3 (lp32 : (List ref4_Token) → Int → Option (List ref4_Token)) (y37 : (List ref4_Token)) (y42 : Int) : Option (List ref4_Token) :=
  lp32 y37 y42
def ref4_Tokens_k4 (n : Nat) (p0 : (List Int)) (y22 : (List ref4_Token)) (y27 : Int) (lp32 : (List ref4_Token) → Int → Option (List ref4_Token)) (y47 : Int) : Option (List ref4_Token) :=
  (cutM p0 (y27 : Int) y47).bind fun x48 =>
  (ref4_Unescape n (textOf x48)).bind fun x55 =>
  (appM 72 y22 [({Kind := 1, Name := (bs []), Text := x55, Attrs := ([] : List api_Attr), Closed := false} : ref4_Token)]).bind fun x63 =>
  ref4_Tokens_k3 lp32 x63 y47
def ref4_Tokens_k6 (n : Nat) (p0 : (List Int)) (y22 : (List ref4_Token)) (y27 : Int) (lp32 : (List ref4_Token) → Int → Option (List ref4_Token)) (y69 : Int) (lp70 : Int → Option (List ref4_Token)) (y71 : Bool) : Option (List ref4_Token) :=
  (bif y71 then lp70 (w64 (y69 + 1)) else
  ref4_Tokens_k4 n p0 y22 y27 lp32 y69)
def ref4_Tokens_l5 (n : Nat) (p0 : (List Int)) (y22 : (List ref4_Token)) (y27 : Int) (lp32 : (List ref4_Token) → Int → Option (List ref4_Token)) : Nat → Int → Option (List ref4_Token)
  | 0, _ => none
  | k70 + 1, y69 =>
  (bif (decide (y69 < (p0.length : Int))) then (ref4_begins n p0 y69).bind fun x74 =>
  ref4_Tokens_k6 n p0 y22 y27 lp32 y69 (ref4_Tokens_l5 n p0 y22 y27 lp32 k70) (!x74) else
  ref4_Tokens_k6 n p0 y22 y27 lp32 y69 (ref4_Tokens_l5 n p0 y22 y27 lp32 k70) false)
def ref4_Tokens_k7 (lp32 : (List ref4_Token) → Int → Option (List ref4_Token)) (y112 : (List ref4_Token)) (y117 : Int) : Option (List ref4_Token) :=
  ref4_Tokens_k3 lp32 y112 y117
def ref4_Tokens_k8 (lp32 : (List ref4_Token) → Int → Option (List ref4_Token)) (x119 : Int) (y121 : (List ref4_Token)) : Option (List ref4_Token) :=
  ref4_Tokens_k7 lp32 y121 x119
def ref4_Tokens_k10 (lp32 : (List ref4_Token) → Int → Option (List ref4_Token)) (x149 : (ref4_Token × Int × Bool)) (y163 : (List ref4_Token)) : Option (List ref4_Token) :=
  ref4_Tokens_k3 lp32 y163 x149.2.1
def ref4_Tokens_k9 (n : Nat) (p0 : (List Int)) (y22 : (List ref4_Token)) (y27 : Int) (lp32 : (List ref4_Token) → Int → Option (List ref4_Token)) (y147 : Bool) : Option (List ref4_Token) :=
  (bif y147 then (ref4_tag n p0 (w64 (y27 + 2))).bind fun x149 =>
  (bif x149.2.2 then (appM 72 y22 [({Kind := 3, Name := x149.1.Name, Text := (bs []), Attrs := ([] : List api_Attr), Closed := false} : ref4_Token)]).bind fun x175 =>
  ref4_Tokens_k10 lp32 x149 x175 else
  ref4_Tokens_k10 lp32 x149 y22) else
  (ref4_is n p0 y27 (bs [60, 33, 45, 45])).bind fun x181 =>
  (bif x181 then (ref4_behind n p0 (w64 (y27 + 4)) (bs [45, 45, 62])).bind fun x184 =>
  ref4_Tokens_k3 lp32 y22 x184 else
  (ref4_behind n p0 y27 (bs [62])).bind fun x186 =>
  ref4_Tokens_k3 lp32 y22 x186))
def ref4_Tokens_l2 (n : Nat) (p0 : (List Int)) : Nat → (List ref4_Token) → Int → Option (List ref4_Token)
  | 0, _, _ => none
  | k32 + 1, y22, y27 =>
  (bif (decide (y27 < (p0.length : Int))) then (ref4_begins n p0 y27).bind fun x44 =>
  (bif (!x44) then ref4_Tokens_l5 n p0 y22 y27 (ref4_Tokens_l2 n p0 k32) n y27 else
  (geti p0 (w64 (y27 + 1))).bind fun x76 =>
  (ref4_letter n x76).bind fun x83 =>
  (bif x83 then (ref4_tag n p0 (w64 (y27 + 1))).bind fun x86 =>
  (bif (!x86.2.2) then ref4_Tokens_k3 (ref4_Tokens_l2 n p0 k32) y22 x86.2.1 else
  (appM 72 y22 [({Kind := 2, Name := x86.1.Name, Text := x86.1.Text, Attrs := x86.1.Attrs, Closed := x86.1.Closed} : ref4_Token)]).bind fun x106 =>
  (bif ((decide (x86.1.Name = (bs [115, 116, 121, 108, 101]))) || (decide (x86.1.Name = (bs [115, 99, 114, 105, 112, 116])))) then (ref4_raw n p0 x86.2.1 x86.1.Name).bind fun x119 =>
  (bif (decide (x86.2.1 < x119)) then (cutM p0 (x86.2.1 : Int) x119).bind fun x127 =>
  (appM 72 x106 [({Kind := 1, Name := (bs []), Text := (textOf x127), Attrs := ([] : List api_Attr), Closed := false} : ref4_Token)]).bind fun x140 =>
  ref4_Tokens_k8 (ref4_Tokens_l2 n p0 k32) x119 x140 else
  ref4_Tokens_k8 (ref4_Tokens_l2 n p0 k32) x119 x106) else
  ref4_Tokens_k7 (ref4_Tokens_l2 n p0 k32) x106 x86.2.1)) else
  (geti p0 (w64 (y27 + 1))).bind fun x188 =>
  (bif (decide (x188 = 47)) then (bif (decide ((w64 (y27 + 2)) < (p0.length : Int))) then (geti p0 (w64 (y27 + 2))).bind fun x197 =>
  (ref4_letter n x197).bind fun x204 =>
  ref4_Tokens_k9 n p0 y22 y27 (ref4_Tokens_l2 n p0 k32) x204 else
  ref4_Tokens_k9 n p0 y22 y27 (ref4_Tokens_l2 n p0 k32) false) else
  ref4_Tokens_k9 n p0 y22 y27 (ref4_Tokens_l2 n p0 k32) false))) else
  ref4_Tokens_k1 y22)
def ref4_Tokens (n : Nat) (p0 : (List Int)) : Option (List ref4_Token) :=
  ref4_Tokens_l2 n p0 n ([] : List ref4_Token) 0
set_option maxRecDepth 20000 in
set_option maxHeartbeats 4000000 in
theorem ref4_Tokens_ok (n : Nat) {f : Fz} {p0 : (List Int)} {a0 : Value} {res : (List ref4_Token)} (h0 : RS (tInt .i32) f a0 p0) (hm : ref4_Tokens n p0 = some res) : Does Try.prog 23 [a0] f [] (fun r f' L' => ∃ (u0 : Value), L' = [] ∧ r = u0 ∧ RS t_ref4_Token f' u0 res) := by
 unfold ref4_Tokens at hm
 intro w0 L w hC
 obtain ⟨rw1, hR2, hW3⟩ := h0
 refine enter Try.func23 rfl Try.ntmps23 (by simp) hC fun a hs => ?_
 have hle := Fz.le.refl f
 refine W_seq fun K1 hK1 => ?_
 refine W_region ?_
 refine sy (v := (.slice none 0 0)) hs (y_assign rfl) ?_; clear hs; (try clear a w); intro a w hs
 refine RL_nil ?_
 refine hK1 _ _ ?_; clear hK1
 refine W_seq fun K2 hK2 => ?_
 refine W_region ?_
 refine sy (v := (.slice none 0 0)) hs (y_assign rfl) ?_; clear hs; (try clear a w); intro a w hs
 refine RL_nil ?_
 refine hK2 _ _ ?_; clear hK2
 refine W_seq fun K3 hK3 => ?_
 refine W_region ?_
 refine sy (v := .int .i64 (0)) hs (y_assign rfl) ?_; clear hs; (try clear a w); intro a w hs
 refine RL_nil ?_
 refine hK3 _ _ ?_; clear hK3
 refine W_seq fun K4 hK4 => ?_
 have hbase15 := Fz.le.refl f
 refine W_post (fun a w => ∃ (f7 : Fz) (y10 : (List ref4_Token)) (v11 : Value) (rw12 : List (List Value)), Fz.le f f7 ∧ ref4_Tokens_k1 y10 = some res ∧ RW t_ref4_Token f7 rw12 y10 ∧ St 140 w0 f7 (.row v11 25 5 rw12 :: L) [(3, v11)] a w) ?_ ?_
 ·clear hs hm
  clear hbase15
  rintro a w ⟨f7, y10, v11, rw12, hl8, hm, hW13, hs⟩
  replace hR2 := hR2.le hl8
  replace hW3 := hW3.le hl8
  replace hle := hle.trans hl8
  replace hs : St _ _ _ (.row v11 25 5 rw12 :: L) _ _ _ := hs
  unfold ref4_Tokens_k1 at hm
  refine hK4 _ _ ?_; clear hK4
  refine W_seq fun K5 hK5 => ?_
  refine W_region ?_
  refine sy (v := v11) hs (y_move rfl) ?_; clear hs; (try clear a w); intro a w hs
  refine sy (v := v11) hs (y_assign rfl) ?_; clear hs; (try clear a w); intro a w hs
  refine RL_nil ?_
  refine hK5 _ _ ?_; clear hK5
  refine W_ret ?_
  obtain ⟨f16, hf17, hs2, hR18⟩ := hs.frzAt 0 rfl
  clear hs; have hs := hs2; clear hs2
  replace hW13 := hW13.le hf17
  replace hle := hle.trans hf17
  replace hs : St _ _ _ (L) _ _ _ := hs
  obtain rfl := Option.some.inj hm
  refine RtV1 hs rfl (rv_t hs rfl) ?_
  exact ⟨_, f16, [], rfl, hle, hs.cw, v11, rfl, rfl, ⟨rw12, hR18, hW13⟩⟩
 ·refine W_block fun Qe6 hB6 hO6 => ?_
  have hbase := Fz.le.refl f
  replace hs := hs.nilRow 25 5
  have hW28 : RW t_ref4_Token f [] ([] : List ref4_Token) := trivial
  generalize hgrw29 : ([] : List (List Value)) = rw29 at hs hW28; clear hgrw29
  replace hs : St _ _ _ (.row (.slice none 0 0) 25 5 rw29 :: L) _ _ _ := hs
  refine W_loop (fun (k : Nat) a w => ∃ (f19 : Fz) (y22 : (List ref4_Token)) (y27 : Int) (v23 : Value) (rw24 : List (List Value)), Fz.le f f19 ∧ ref4_Tokens_l2 n p0 k y22 y27 = some res ∧ RW t_ref4_Token f19 rw24 y22 ∧ St 140 w0 f19 (.row v23 25 5 rw24 :: L) [(0, a0), (3, v23), (4, .int .i64 (y27))] a w) (fun k => k) n ⟨_, ([] : List ref4_Token), 0, (.slice none 0 0), rw29, (Fz.le.refl _), hm, hW28, hs.sub ⟨rfl, rfl, rfl, trivial⟩⟩ ?_
  clear hs hm
  intro k
  rintro a w ⟨f19, y22, y27, v23, rw24, hl20, hm, hW25, hs⟩
  replace hR2 := hR2.le hl20
  replace hW3 := hW3.le hl20
  replace hle := hle.trans hl20
  replace hbase15 := hbase15.trans hl20
  replace hs : St _ _ _ (.row v23 25 5 rw24 :: L) _ _ _ := hs
  intro K7 hK7
  cases k with
  | zero => simp [ref4_Tokens_l2] at hm
  | succ k32 =>
   rw [ref4_Tokens_l2] at hm
   have hbase33 := hl20
   refine W_seq fun K8 hK8 => ?_
   refine W_seq fun K9 hK9 => ?_
   refine W_region ?_
   refine sy (v := .int .i64 (y27)) hs (y_move rfl) ?_; clear hs; (try clear a w); intro a w hs
   refine sy (v := a0) hs (y_move rfl) ?_; clear hs; (try clear a w); intro a w hs
   refine sy hs (y_lenW hR2 hW3 rfl Try.underlying32) ?_; clear hs; (try clear a w); intro a w hs
   refine sy hs (y_lss rfl rfl) ?_; clear hs; (try clear a w); intro a w hs
   refine RL_nil ?_
   refine hK9 _ _ ?_; clear hK9
   refine W_cond hs rfl (fun hg34 => ?_) (fun hg34 => ?_)
   ·replace hm := oc_t hg34 hm
    refine W_skip ?_
    refine hK8 _ _ ?_; clear hK8
    have hbase43 := Fz.le.refl f19
    refine W_post (fun a w => ∃ (f35 : Fz) (y37 : (List ref4_Token)) (y42 : Int) (v38 : Value) (rw39 : List (List Value)), Fz.le f19 f35 ∧ ref4_Tokens_k3 (ref4_Tokens_l2 n p0 k32) y37 y42 = some res ∧ RW t_ref4_Token f35 rw39 y37 ∧ St 140 w0 f35 (.row v38 25 5 rw39 :: L) [(0, a0), (3, v38), (4, .int .i64 (y42))] a w) ?_ ?_
    ·clear hs hm
     clear hbase43
     rintro a w ⟨f35, y37, y42, v38, rw39, hl36, hm, hW40, hs⟩
     replace hR2 := hR2.le hl36
     replace hW3 := hW3.le hl36
     replace hW25 := hW25.le hl36
     replace hle := hle.trans hl36
     replace hbase15 := hbase15.trans hl36
     replace hbase33 := hbase33.trans hl36
     replace hs : St _ _ _ (.row v38 25 5 rw39 :: L) _ _ _ := hs
     unfold ref4_Tokens_k3 at hm
     exact hK7 k32 _ _ (Nat.lt_succ_self _) ⟨_, y37, y42, v38, rw39, hbase33, hm, hW40, hs.sub ⟨rfl, rfl, rfl, trivial⟩⟩
    ·refine W_block fun Qe10 hB10 hO10 => ?_
     refine W_seq fun K11 hK11 => ?_
     refine W_seq fun K12 hK12 => ?_
     refine W_region ?_
     refine sy (v := a0) hs (y_move rfl) ?_; clear hs; (try clear a w); intro a w hs
     refine sy (v := .int .i64 (y27)) hs (y_move rfl) ?_; clear hs; (try clear a w); intro a w hs
     obtain ⟨x44, hx45, hm⟩ := ob hm
     refine sy hs (y_call rfl has50 rfl (ref4_begins_ok n (f := f19) (a0 := a0) ⟨rw1, hR2, hW3⟩ hx45)) ?_; clear hs; (try clear a w); intro a w hs
     refine sy (v := .bool ((!x44))) hs (y_not rfl) ?_; clear hs; (try clear a w); intro a w hs
     refine RL_nil ?_
     refine hK12 _ _ ?_; clear hK12
     refine W_cond hs rfl (fun hg46 => ?_) (fun hg46 => ?_)
     ·replace hm := oc_t hg46 hm
      refine W_seq fun K13 hK13 => ?_
      refine W_region ?_
      refine sy (v := .int .i64 (y27)) hs (y_move rfl) ?_; clear hs; (try clear a w); intro a w hs
      refine sy (v := .int .i64 (y27)) hs (y_assign rfl) ?_; clear hs; (try clear a w); intro a w hs
      refine RL_nil ?_
      refine hK13 _ _ ?_; clear hK13
      refine W_seq fun K14 hK14 => ?_
      refine W_post (fun a w => ∃ (y47 : Int), ref4_Tokens_k4 n p0 y22 y27 (ref4_Tokens_l2 n p0 k32) y47 = some res ∧ St 140 w0 f19 (.row v23 25 5 rw24 :: L) [(0, a0), (3, v23), (4, .int .i64 (y47)), (5, .int .i64 (y27))] a w) ?_ ?_
      ·clear hs hm
       rintro a w ⟨y47, hm, hs⟩
       replace hs : St _ _ _ (.row v23 25 5 rw24 :: L) _ _ _ := hs
       unfold ref4_Tokens_k4 at hm
       refine hK14 _ _ ?_; clear hK14
       refine W_seq fun K15 hK15 => ?_
       refine W_region ?_
       refine sy (v := v23) hs (y_move rfl) ?_; clear hs; (try clear a w); intro a w hs
       refine sy (v := a0) hs (y_move rfl) ?_; clear hs; (try clear a w); intro a w hs
       refine sy (v := .int .i64 (y27)) hs (y_move rfl) ?_; clear hs; (try clear a w); intro a w hs
       refine sy (v := .int .i64 (y47)) hs (y_move rfl) ?_; clear hs; (try clear a w); intro a w hs
       obtain ⟨x48, hx49, hm⟩ := ob hm
       obtain ⟨⟨hlx48, hhx48, h1x48, h2x48⟩, hex48⟩ := cutM_some hx49
       have hW50 := (hW3.take y47.toNat).drop y27.toNat; rw [hex48] at hW50
       refine sy hs (y_slice (lo := y27.toNat) (hi := y47.toNat) rfl Try.underlying32 ti21 (.inr ⟨_, rfl, by rw [← hlx48]; rfl⟩) (.inr ⟨_, rfl, by rw [← hhx48]; rfl⟩) h1x48 (by rw [RW.len hW3]; exact h2x48) hR2) ?_; clear hs; (try clear a w); intro a w hs
       have hR51 : Rd _ [] (cutv a0 1 _ _) 1 _ := (hR2 : Rd _ [] _ _ _).cut h1x48 (by rw [RW.len hW3]; exact h2x48)
       generalize hgrw52 : List.drop _ (List.take _ rw1) = rw52 at hR51 hW50; clear hgrw52
       generalize hgv53 : cutv a0 1 _ _ = v53 at hs hR51; clear hgv53
       replace hs : St _ _ _ (.row v23 25 5 rw24 :: L) _ _ _ := hs
       refine sy (v := .string ((textOf x48))) hs (y_r2sW rfl Try.underlying32 Try.underlying21 Try.underlying9 hR51.up hW50) ?_; clear hs; (try clear a w); intro a w hs
       obtain ⟨x55, hx56, hm⟩ := ob hm
       refine sy hs (y_call rfl has26 rfl (ref4_Unescape_ok n (f := f19)  hx56)) ?_; clear hs; (try clear a w); intro a w hs
       refine sy hs (y_buildS (places := [(0, 1), (1, 1), (2, 1), (3, 1), (4, 1)]) (cs := [.int .i64 (1), .string ((bs [])), .string (x55), (.slice none 0 0), .bool (false)]) rfl Try.underlying25 ti25 (by kernel_rfl) (by decide) rfl ⟨rfl, rfl, trivial⟩) ?_; clear hs; (try clear a w); intro a w hs
       refine RL_bs1a hs rfl Try.underlying39 ti25 (by decide) (AllC.row ⟨rfl, rfl, rfl, rfl, rfl, trivial⟩ rfl) ?_; clear hs; (try clear a w); intro v58 a w hs
       have hW59 : RW t_ref4_Token f19 [[.int .i64 (1), .string ((bs [])), .string (x55), (.slice none 0 0), .bool (false)]] [({Kind := 1, Name := (bs []), Text := x55, Attrs := ([] : List api_Attr), Closed := false} : ref4_Token)] := RW.single (⟨_, rfl, RS.nil⟩)
       generalize hgrw60 : ([[.int .i64 (1), .string ((bs [])), .string (x55), (.slice none 0 0), .bool (false)]] : List (List Value)) = rw60 at hs hW59; clear hgrw60
       replace hs : St _ _ _ (.row v58 25 5 rw60 :: .row v23 25 5 rw24 :: L) _ _ _ := hs
       obtain ⟨x63, hx64, hm⟩ := ob hm
       obtain ⟨hbx63, hex63⟩ := appM_some hx64
       have hW67 := hW25.append hW59; rw [hex63] at hW67
       refine RL_append (i := 1) hs rfl rfl rfl (Rd.st hs (.head _)) Try.underlying39 ti25 (by decide) (by rw [RW.len hW25, RW.len hW59]; exact hbx63) (.free rfl) (by decide) ?_; clear hs; (try clear a w); intro v65 a w hs
       generalize hgx63 : rw24 ++ rw60 = rw66 at hs hW67; clear hgx63
       replace hs := hs.erase 0
       replace hs : St _ _ _ (.row v65 25 5 rw66 :: L) _ _ _ := hs
       refine sy (v := v65) hs (y_assign rfl) ?_; clear hs; (try clear a w); intro a w hs
       refine RL_nil ?_
       refine hK15 _ _ ?_; clear hK15
       refine W_exit ?_
       refine hB10 _ _ ?_
       exact ⟨_, x63, y47, v65, rw66, (Fz.le.refl _), hm, hW67, hs.sub ⟨rfl, rfl, rfl, trivial⟩⟩
      ·refine W_block fun Qe16 hB16 hO16 => ?_
       refine W_loop (fun (k : Nat) a w => ∃ (y69 : Int), ref4_Tokens_l5 n p0 y22 y27 (ref4_Tokens_l2 n p0 k32) k y69 = some res ∧ St 140 w0 f19 (.row v23 25 5 rw24 :: L) [(0, a0), (3, v23), (4, .int .i64 (y69)), (5, .int .i64 (y27))] a w) (fun k => k) n ⟨y27, hm, hs.sub ⟨rfl, rfl, rfl, rfl, trivial⟩⟩ ?_
       clear hs hm
       intro k
       rintro a w ⟨y69, hm, hs⟩
       replace hs : St _ _ _ (.row v23 25 5 rw24 :: L) _ _ _ := hs
       intro K17 hK17
       cases k with
       | zero => simp [ref4_Tokens_l5] at hm
       | succ k70 =>
        rw [ref4_Tokens_l5] at hm
        refine W_seq fun K18 hK18 => ?_
        refine W_seq fun K19 hK19 => ?_
        refine W_post (fun a w => ∃ (y71 : Bool), ref4_Tokens_k6 n p0 y22 y27 (ref4_Tokens_l2 n p0 k32) y69 (ref4_Tokens_l5 n p0 y22 y27 (ref4_Tokens_l2 n p0 k32) k70) y71 = some res ∧ St 140 w0 f19 (.row v23 25 5 rw24 :: L) [(0, a0), (3, v23), (4, .int .i64 (y69)), (5, .int .i64 (y27)), (31, .bool (y71))] a w) ?_ ?_
        ·clear hs hm
         rintro a w ⟨y71, hm, hs⟩
         replace hs : St _ _ _ (.row v23 25 5 rw24 :: L) _ _ _ := hs
         unfold ref4_Tokens_k6 at hm
         refine hK19 _ _ ?_; clear hK19
         refine W_cond hs rfl (fun hg72 => ?_) (fun hg72 => ?_)
         ·replace hm := oc_t hg72 hm
          refine W_skip ?_
          refine hK18 _ _ ?_; clear hK18
          refine W_block fun Qe20 hB20 hO20 => ?_
          refine W_region ?_
          refine sy (v := .int .i64 (y69)) hs (y_move rfl) ?_; clear hs; (try clear a w); intro a w hs
          refine sy hs (y_add rfl rfl rfl) ?_; clear hs; (try clear a w); intro a w hs
          refine sy (v := .int .i64 ((w64 (y69 + 1)))) hs (y_assign rfl) ?_; clear hs; (try clear a w); intro a w hs
          refine RL_nil ?_
          exact hK17 k70 _ _ (Nat.lt_succ_self _) ⟨(w64 (y69 + 1)), hm, hs.sub ⟨rfl, rfl, rfl, rfl, trivial⟩⟩
         ·replace hm := oc_f hg72 hm
          refine W_exit ?_
          refine hB16 _ _ ?_
          exact ⟨y69, hm, hs.sub ⟨rfl, rfl, rfl, rfl, trivial⟩⟩
        ·refine W_region ?_
         refine sy (v := .int .i64 (y69)) hs (y_move rfl) ?_; clear hs; (try clear a w); intro a w hs
         refine sy (v := a0) hs (y_move rfl) ?_; clear hs; (try clear a w); intro a w hs
         refine sy hs (y_lenW hR2 hW3 rfl Try.underlying32) ?_; clear hs; (try clear a w); intro a w hs
         refine sy hs (y_lss rfl rfl) ?_; clear hs; (try clear a w); intro a w hs
         refine sy (v := .bool (decide (y69 < (p0.length : Int)))) hs (y_move rfl) ?_; clear hs; (try clear a w); intro a w hs
         refine St.split hs (t := 26) rfl (fun hg73 hq => ?_) (fun hg73 hq => ?_)
         ·clear hs; have hs := hq; clear hq
          replace hm := oc_t hg73 hm
          refine syg (v := a0) hs (y_move rfl) ?_; clear hs; (try clear a w); intro a w hs
          refine syg (v := .int .i64 (y69)) hs (y_move rfl) ?_; clear hs; (try clear a w); intro a w hs
          obtain ⟨x74, hx75, hm⟩ := ob hm
          refine syg hs (y_call rfl has50 rfl (ref4_begins_ok n (f := f19) (a0 := a0) ⟨rw1, hR2, hW3⟩ hx75)) ?_; clear hs; (try clear a w); intro a w hs
          refine syg (v := .bool ((!x74))) hs (y_not rfl) ?_; clear hs; (try clear a w); intro a w hs
          refine sy (v := .bool ((!x74))) hs (y_pick rfl rfl) ?_; clear hs; (try clear a w); intro a w hs
          refine RL_nil ?_
          exact ⟨(!x74), hm, hs.sub ⟨rfl, rfl, rfl, rfl, rfl, trivial⟩⟩
         ·clear hs; have hs := hq; clear hq
          replace hm := oc_f hg73 hm
          refine sno hs ?_; clear hs; (try clear a w); intro a w hs
          refine sno hs ?_; clear hs; (try clear a w); intro a w hs
          refine sno hs ?_; clear hs; (try clear a w); intro a w hs
          refine sno hs ?_; clear hs; (try clear a w); intro a w hs
          refine sy (v := .bool (false)) hs (y_pick rfl rfl) ?_; clear hs; (try clear a w); intro a w hs
          refine RL_nil ?_
          exact ⟨false, hm, hs.sub ⟨rfl, rfl, rfl, rfl, rfl, trivial⟩⟩
     ·replace hm := oc_f hg46 hm
      refine W_skip ?_
      refine hK11 _ _ ?_; clear hK11
      refine W_seq fun K21 hK21 => ?_
      refine W_seq fun K22 hK22 => ?_
      refine W_region ?_
      refine sy (v := a0) hs (y_move rfl) ?_; clear hs; (try clear a w); intro a w hs
      refine sy (v := .int .i64 (y27)) hs (y_move rfl) ?_; clear hs; (try clear a w); intro a w hs
      refine sy hs (y_add rfl rfl rfl) ?_; clear hs; (try clear a w); intro a w hs
      obtain ⟨x76, hx77, hm⟩ := ob hm
      obtain ⟨r78, hr79, hq80, hi81, hb82⟩ := hW3.geti hx77
      obtain rfl : _ = ([.int .i32 (x76)] : List Value) := hq80
      refine sy hs (y_indexAddr hR2 rfl rfl hi81 hb82 Try.underlying32 ti21) ?_; clear hs; (try clear a w); intro a w hs
      refine sy (v := .int .i32 (x76)) hs (y_loadE (i := (w64 (y27 + 1)).toNat) (j := 0) hR2.up rfl hr79 rfl Try.underlying21 rfl) ?_; clear hs; (try clear a w); intro a w hs
      obtain ⟨x83, hx84, hm⟩ := ob hm
      refine sy hs (y_call rfl has51 rfl (ref4_letter_ok n (f := f19)  hx84)) ?_; clear hs; (try clear a w); intro a w hs
      refine RL_nil ?_
      refine hK22 _ _ ?_; clear hK22
      refine W_cond hs rfl (fun hg85 => ?_) (fun hg85 => ?_)
      ·replace hm := oc_t hg85 hm
       refine W_seq fun K23 hK23 => ?_
       refine W_region ?_
       refine sy (v := a0) hs (y_move rfl) ?_; clear hs; (try clear a w); intro a w hs
       refine sy (v := .int .i64 (y27)) hs (y_move rfl) ?_; clear hs; (try clear a w); intro a w hs
       refine sy hs (y_add rfl rfl rfl) ?_; clear hs; (try clear a w); intro a w hs
       obtain ⟨x86, hx87, hm⟩ := ob hm
       refine RL_callV hs rfl has52 rfl (ref4_tag_ok n (f := f19) (a0 := a0) ⟨rw1, hR2, hW3⟩ hx87) ?_; clear hs; (try clear a w)
       rintro _ f88 _ a w hf89 ⟨r90, rfl, rfl, hq91⟩ hs
       replace hR2 := hR2.le hf89
       replace hW3 := hW3.le hf89
       replace hW25 := hW25.le hf89
       replace hle := hle.trans hf89
       replace hbase15 := hbase15.trans hf89
       replace hbase33 := hbase33.trans hf89
       replace hbase43 := hbase43.trans hf89
       obtain ⟨v92, rfl, ⟨rw93, hR94, hW95⟩⟩ := hq91
       replace hs : St _ _ _ (.row v23 25 5 rw24 :: L) _ _ _ := hs
       refine sy (v := .tuple #[.agg #[.int .i64 (x86.1.Kind), .string (x86.1.Name), .string (x86.1.Text), v92, .bool (x86.1.Closed)], .int .i64 (x86.2.1), .bool (x86.2.2)]) hs (y_move rfl) ?_; clear hs; (try clear a w); intro a w hs
       refine sy (v := .agg #[.int .i64 (x86.1.Kind), .string (x86.1.Name), .string (x86.1.Text), v92, .bool (x86.1.Closed)]) hs (y_extract rfl rfl) ?_; clear hs; (try clear a w); intro a w hs
       refine sy (v := .int .i64 (x86.2.1)) hs (y_extract rfl rfl) ?_; clear hs; (try clear a w); intro a w hs
       refine sy (v := .bool (x86.2.2)) hs (y_extract rfl rfl) ?_; clear hs; (try clear a w); intro a w hs
       refine RL_alloc hs ti25 (.free rfl) (by decide) ?_; clear hs; (try clear a w); intro b97 a w hs
       replace hs : St _ _ _ (.blk b97 (.cells #[.int .i64 (0), .string ((bs [])), .string ((bs [])), (.slice none 0 0), .bool (false)] 25 (0, 0)) :: .row v23 25 5 rw24 :: L) _ _ _ := hs
       refine RL_storeAll (i := 0) hs rfl rfl rfl ti25 ⟨rfl, rfl⟩ (AllC.arr (r := [.int .i64 (x86.1.Kind), .string (x86.1.Name), .string (x86.1.Text), v92, .bool (x86.1.Closed)]) ⟨rfl, rfl, rfl, hR94.one, rfl, trivial⟩) (.free rfl) ?_; clear hs; (try clear a w); intro a w hs
       replace hs : St _ _ _ (.blk b97 (.cells #[.int .i64 (x86.1.Kind), .string (x86.1.Name), .string (x86.1.Text), v92, .bool (x86.1.Closed)] 25 (0, 0)) :: .row v23 25 5 rw24 :: L) _ _ _ := hs
       refine sy (v := .int .i64 (x86.2.1)) hs (y_assign rfl) ?_; clear hs; (try clear a w); intro a w hs
       refine sy (v := .bool (x86.2.2)) hs (y_assign rfl) ?_; clear hs; (try clear a w); intro a w hs
       refine RL_nil ?_
       refine hK23 _ _ ?_; clear hK23
       refine W_seq fun K24 hK24 => ?_
       refine W_region ?_
       refine sy (v := .int .i64 (x86.2.1)) hs (y_move rfl) ?_; clear hs; (try clear a w); intro a w hs
       refine sy (v := .int .i64 (x86.2.1)) hs (y_assign rfl) ?_; clear hs; (try clear a w); intro a w hs
       refine RL_nil ?_
       refine hK24 _ _ ?_; clear hK24
       refine W_seq fun K25 hK25 => ?_
       refine W_seq fun K26 hK26 => ?_
       refine W_region ?_
       refine sy (v := .bool (x86.2.2)) hs (y_move rfl) ?_; clear hs; (try clear a w); intro a w hs
       refine sy (v := .bool ((!x86.2.2))) hs (y_not rfl) ?_; clear hs; (try clear a w); intro a w hs
       refine RL_nil ?_
       refine hK26 _ _ ?_; clear hK26
       refine W_cond hs rfl (fun hg100 => ?_) (fun hg100 => ?_)
       ·replace hm := oc_t hg100 hm
        refine W_exit ?_
        refine hB10 _ _ ?_
        exact ⟨_, y22, x86.2.1, v23, rw24, hbase43, hm, hW25, hs.subs ⟨rfl, rfl, rfl, trivial⟩ (.cons _ (.cons_cons _ (.refl _)))⟩
       ·replace hm := oc_f hg100 hm
        refine W_skip ?_
        refine hK25 _ _ ?_; clear hK25
        refine W_seq fun K27 hK27 => ?_
        refine W_region ?_
        refine sy (v := .pointer (some ⟨b97, 0, none⟩)) hs (y_fieldAddr rfl (FO.of (off := 0) Try.underlying25 rfl rfl ti3 (by decide))) ?_; clear hs; (try clear a w); intro a w hs
        refine sstore 0 hs rfl rfl rfl ti3 rfl ?_; clear hs; (try clear a w); intro a w hs
        replace hs : St _ _ _ (.blk b97 (.cells #[.int .i64 (2), .string (x86.1.Name), .string (x86.1.Text), v92, .bool (x86.1.Closed)] 25 (0, 0)) :: .row v23 25 5 rw24 :: L) _ _ _ := hs
        refine RL_nil ?_
        refine hK27 _ _ ?_; clear hK27
        refine W_seq fun K28 hK28 => ?_
        refine W_region ?_
        refine sy (v := v23) hs (y_move rfl) ?_; clear hs; (try clear a w); intro a w hs
        refine sy hs (y_ldB rfl Try.underlying25 rfl ti25 (.head _) rfl) ?_; clear hs; (try clear a w); intro a w hs
        refine RL_bs1a hs rfl Try.underlying39 ti25 (by decide) (AllC.row ⟨rfl, rfl, rfl, hR94.one, rfl, trivial⟩ rfl) ?_; clear hs; (try clear a w); intro v101 a w hs
        have hW102 : RW t_ref4_Token f88 [[.int .i64 (2), .string (x86.1.Name), .string (x86.1.Text), v92, .bool (x86.1.Closed)]] [({Kind := 2, Name := x86.1.Name, Text := x86.1.Text, Attrs := x86.1.Attrs, Closed := x86.1.Closed} : ref4_Token)] := RW.single (⟨_, rfl, ⟨rw93, hR94, hW95⟩⟩)
        generalize hgrw103 : ([[.int .i64 (2), .string (x86.1.Name), .string (x86.1.Text), v92, .bool (x86.1.Closed)]] : List (List Value)) = rw103 at hs hW102; clear hgrw103
        replace hs : St _ _ _ (.row v101 25 5 rw103 :: .blk b97 (.cells #[.int .i64 (2), .string (x86.1.Name), .string (x86.1.Text), v92, .bool (x86.1.Closed)] 25 (0, 0)) :: .row v23 25 5 rw24 :: L) _ _ _ := hs
        obtain ⟨x106, hx107, hm⟩ := ob hm
        obtain ⟨hbx106, hex106⟩ := appM_some hx107
        have hW110 := hW25.append hW102; rw [hex106] at hW110
        refine RL_append (i := 2) hs rfl rfl rfl (Rd.st hs (.head _)) Try.underlying39 ti25 (by decide) (by rw [RW.len hW25, RW.len hW102]; exact hbx106) (.free rfl) (by decide) ?_; clear hs; (try clear a w); intro v108 a w hs
        generalize hgx106 : rw24 ++ rw103 = rw109 at hs hW110; clear hgx106
        replace hs := hs.erase 0
        replace hs : St _ _ _ (.blk b97 (.cells #[.int .i64 (2), .string (x86.1.Name), .string (x86.1.Text), v92, .bool (x86.1.Closed)] 25 (0, 0)) :: .row v108 25 5 rw109 :: L) _ _ _ := hs
        refine sy (v := v108) hs (y_assign rfl) ?_; clear hs; (try clear a w); intro a w hs
        refine RL_nil ?_
        refine hK28 _ _ ?_; clear hK28
        refine W_seq fun K29 hK29 => ?_
        refine W_seq fun K30 hK30 => ?_
        refine W_post (fun a w => St 140 w0 f88 (.blk b97 (.cells #[.int .i64 (2), .string (x86.1.Name), .string (x86.1.Text), v92, .bool (x86.1.Closed)] 25 (0, 0)) :: .row v108 25 5 rw109 :: L) [(0, a0), (3, v108), (4, .int .i64 (x86.2.1)), (6, .pointer (some ⟨b97, 0, none⟩)), (73, .bool (((decide (x86.1.Name = (bs [115, 116, 121, 108, 101]))) || (decide (x86.1.Name = (bs [115, 99, 114, 105, 112, 116]))))))] a w) ?_ ?_
        ·clear hs; intro a w hs
         refine hK30 _ _ ?_; clear hK30
         refine W_post (fun a w => ∃ (y112 : (List ref4_Token)) (y117 : Int) (v113 : Value) (rw114 : List (List Value)), ref4_Tokens_k7 (ref4_Tokens_l2 n p0 k32) y112 y117 = some res ∧ RW t_ref4_Token f88 rw114 y112 ∧ St 140 w0 f88 (.row v113 25 5 rw114 :: L) [(0, a0), (3, v113), (4, .int .i64 (y117))] a w) ?_ ?_
         ·clear hs hm
          rintro a w ⟨y112, y117, v113, rw114, hm, hW115, hs⟩
          replace hs : St _ _ _ (.row v113 25 5 rw114 :: L) _ _ _ := hs
          unfold ref4_Tokens_k7 at hm
          refine hK29 _ _ ?_; clear hK29
          refine W_exit ?_
          refine hB10 _ _ ?_
          exact ⟨_, y112, y117, v113, rw114, hbase43, hm, hW115, hs.sub ⟨rfl, rfl, rfl, trivial⟩⟩
         ·refine W_cond hs rfl (fun hg118 => ?_) (fun hg118 => ?_)
          ·replace hm := oc_t hg118 hm
           refine W_seq fun K31 hK31 => ?_
           refine W_region ?_
           refine sy (v := a0) hs (y_move rfl) ?_; clear hs; (try clear a w); intro a w hs
           refine sy (v := .int .i64 (x86.2.1)) hs (y_move rfl) ?_; clear hs; (try clear a w); intro a w hs
           refine sy (v := .pointer (some ⟨b97, 1, none⟩)) hs (y_fieldAddr rfl (FO.of (off := 1) Try.underlying25 rfl rfl ti9 (by decide))) ?_; clear hs; (try clear a w); intro a w hs
           refine sy (v := .string (x86.1.Name)) hs (y_ld rfl Try.underlying9 rfl (Cell.blk (.head _) rfl)) ?_; clear hs; (try clear a w); intro a w hs
           obtain ⟨x119, hx120, hm⟩ := ob hm
           refine sy hs (y_call rfl has53 rfl (ref4_raw_ok n (f := f88) (a0 := a0) ⟨rw1, hR2, hW3⟩ hx120)) ?_; clear hs; (try clear a w); intro a w hs
           refine sy (v := .int .i64 (x119)) hs (y_assign rfl) ?_; clear hs; (try clear a w); intro a w hs
           refine RL_nil ?_
           refine hK31 _ _ ?_; clear hK31
           refine W_seq fun K32 hK32 => ?_
           refine W_seq fun K33 hK33 => ?_
           refine W_region ?_
           refine sy (v := .int .i64 (x119)) hs (y_move rfl) ?_; clear hs; (try clear a w); intro a w hs
           refine sy (v := .int .i64 (x86.2.1)) hs (y_move rfl) ?_; clear hs; (try clear a w); intro a w hs
           refine sy hs (y_gtr rfl rfl) ?_; clear hs; (try clear a w); intro a w hs
           refine RL_nil ?_
           refine hK33 _ _ ?_; clear hK33
           refine W_post (fun a w => ∃ (y121 : (List ref4_Token)) (v122 : Value) (rw123 : List (List Value)), ref4_Tokens_k8 (ref4_Tokens_l2 n p0 k32) x119 y121 = some res ∧ RW t_ref4_Token f88 rw123 y121 ∧ St 140 w0 f88 (.row v122 25 5 rw123 :: L) [(0, a0), (3, v122), (9, .int .i64 (x119))] a w) ?_ ?_
           ·clear hs hm
            rintro a w ⟨y121, v122, rw123, hm, hW124, hs⟩
            replace hs : St _ _ _ (.row v122 25 5 rw123 :: L) _ _ _ := hs
            unfold ref4_Tokens_k8 at hm
            refine hK32 _ _ ?_; clear hK32
            refine W_region ?_
            refine sy (v := .int .i64 (x119)) hs (y_move rfl) ?_; clear hs; (try clear a w); intro a w hs
            refine sy (v := .int .i64 (x119)) hs (y_assign rfl) ?_; clear hs; (try clear a w); intro a w hs
            refine RL_nil ?_
            exact ⟨y121, x119, v122, rw123, hm, hW124, hs.sub ⟨rfl, rfl, rfl, trivial⟩⟩
           ·refine W_cond hs rfl (fun hg126 => ?_) (fun hg126 => ?_)
            ·replace hm := oc_t hg126 hm
             refine W_region ?_
             refine sy (v := v108) hs (y_move rfl) ?_; clear hs; (try clear a w); intro a w hs
             refine sy (v := a0) hs (y_move rfl) ?_; clear hs; (try clear a w); intro a w hs
             refine sy (v := .int .i64 (x86.2.1)) hs (y_move rfl) ?_; clear hs; (try clear a w); intro a w hs
             refine sy (v := .int .i64 (x119)) hs (y_move rfl) ?_; clear hs; (try clear a w); intro a w hs
             obtain ⟨x127, hx128, hm⟩ := ob hm
             obtain ⟨⟨hlx127, hhx127, h1x127, h2x127⟩, hex127⟩ := cutM_some hx128
             have hW129 := (hW3.take x119.toNat).drop x86.2.1.toNat; rw [hex127] at hW129
             refine sy hs (y_slice (lo := x86.2.1.toNat) (hi := x119.toNat) rfl Try.underlying32 ti21 (.inr ⟨_, rfl, by rw [← hlx127]; rfl⟩) (.inr ⟨_, rfl, by rw [← hhx127]; rfl⟩) h1x127 (by rw [RW.len hW3]; exact h2x127) hR2) ?_; clear hs; (try clear a w); intro a w hs
             have hR130 : Rd _ [] (cutv a0 1 _ _) 1 _ := (hR2 : Rd _ [] _ _ _).cut h1x127 (by rw [RW.len hW3]; exact h2x127)
             generalize hgrw131 : List.drop _ (List.take _ rw1) = rw131 at hR130 hW129; clear hgrw131
             generalize hgv132 : cutv a0 1 _ _ = v132 at hs hR130; clear hgv132
             replace hs : St _ _ _ (.blk b97 (.cells #[.int .i64 (2), .string (x86.1.Name), .string (x86.1.Text), v92, .bool (x86.1.Closed)] 25 (0, 0)) :: .row v108 25 5 rw109 :: L) _ _ _ := hs
             refine sy (v := .string ((textOf x127))) hs (y_r2sW rfl Try.underlying32 Try.underlying21 Try.underlying9 hR130.up hW129) ?_; clear hs; (try clear a w); intro a w hs
             refine sy hs (y_buildS (places := [(0, 1), (1, 1), (2, 1), (3, 1), (4, 1)]) (cs := [.int .i64 (1), .string ((bs [])), .string ((textOf x127)), (.slice none 0 0), .bool (false)]) rfl Try.underlying25 ti25 (by kernel_rfl) (by decide) rfl ⟨rfl, rfl, trivial⟩) ?_; clear hs; (try clear a w); intro a w hs
             refine RL_bs1a hs rfl Try.underlying39 ti25 (by decide) (AllC.row ⟨rfl, rfl, rfl, rfl, rfl, trivial⟩ rfl) ?_; clear hs; (try clear a w); intro v135 a w hs
             have hW136 : RW t_ref4_Token f88 [[.int .i64 (1), .string ((bs [])), .string ((textOf x127)), (.slice none 0 0), .bool (false)]] [({Kind := 1, Name := (bs []), Text := (textOf x127), Attrs := ([] : List api_Attr), Closed := false} : ref4_Token)] := RW.single (⟨_, rfl, RS.nil⟩)
             generalize hgrw137 : ([[.int .i64 (1), .string ((bs [])), .string ((textOf x127)), (.slice none 0 0), .bool (false)]] : List (List Value)) = rw137 at hs hW136; clear hgrw137
             replace hs : St _ _ _ (.row v135 25 5 rw137 :: .blk b97 (.cells #[.int .i64 (2), .string (x86.1.Name), .string (x86.1.Text), v92, .bool (x86.1.Closed)] 25 (0, 0)) :: .row v108 25 5 rw109 :: L) _ _ _ := hs
             obtain ⟨x140, hx141, hm⟩ := ob hm
             obtain ⟨hbx140, hex140⟩ := appM_some hx141
             have hW144 := hW110.append hW136; rw [hex140] at hW144
             refine RL_append (i := 2) hs rfl rfl rfl (Rd.st hs (.head _)) Try.underlying39 ti25 (by decide) (by rw [RW.len hW110, RW.len hW136]; exact hbx140) (.free rfl) (by decide) ?_; clear hs; (try clear a w); intro v142 a w hs
             generalize hgx140 : rw109 ++ rw137 = rw143 at hs hW144; clear hgx140
             replace hs := hs.erase 0
             replace hs : St _ _ _ (.blk b97 (.cells #[.int .i64 (2), .string (x86.1.Name), .string (x86.1.Text), v92, .bool (x86.1.Closed)] 25 (0, 0)) :: .row v142 25 5 rw143 :: L) _ _ _ := hs
             refine sy (v := v142) hs (y_assign rfl) ?_; clear hs; (try clear a w); intro a w hs
             refine RL_nil ?_
             exact ⟨x140, v142, rw143, hm, hW144, hs.subs ⟨rfl, rfl, rfl, trivial⟩ (.cons _ (.cons_cons _ (.refl _)))⟩
            ·replace hm := oc_f hg126 hm
             refine W_skip ?_
             exact ⟨x106, v108, rw109, hm, hW110, hs.subs ⟨rfl, rfl, rfl, trivial⟩ (.cons _ (.cons_cons _ (.refl _)))⟩
          ·replace hm := oc_f hg118 hm
           refine W_skip ?_
           exact ⟨x106, x86.2.1, v108, rw109, hm, hW110, hs.subs ⟨rfl, rfl, rfl, trivial⟩ (.cons _ (.cons_cons _ (.refl _)))⟩
        ·refine W_region ?_
         refine sy (v := .pointer (some ⟨b97, 1, none⟩)) hs (y_fieldAddr rfl (FO.of (off := 1) Try.underlying25 rfl rfl ti9 (by decide))) ?_; clear hs; (try clear a w); intro a w hs
         refine sy (v := .string (x86.1.Name)) hs (y_ld rfl Try.underlying9 rfl (Cell.blk (.head _) rfl)) ?_; clear hs; (try clear a w); intro a w hs
         refine sy hs (y_seql rfl rfl) ?_; clear hs; (try clear a w); intro a w hs
         refine sy (v := .bool (decide (x86.1.Name = (bs [115, 116, 121, 108, 101])))) hs (y_move rfl) ?_; clear hs; (try clear a w); intro a w hs
         refine St.split hs (t := 69) rfl (fun hg146 hq => ?_) (fun hg146 hq => ?_)
         ·clear hs; have hs := hq; clear hq
          refine sno hs ?_; clear hs; (try clear a w); intro a w hs
          refine sno hs ?_; clear hs; (try clear a w); intro a w hs
          refine sno hs ?_; clear hs; (try clear a w); intro a w hs
          refine sy (v := .bool (true)) hs (y_pick rfl rfl) ?_; clear hs; (try clear a w); intro a w hs
          refine RL_nil ?_
          exact hs.sub ⟨rfl, rfl, rfl, rfl, (lkB (((or_t hg146).trans rfl)) rfl), trivial⟩
         ·clear hs; have hs := hq; clear hq
          refine syg (v := .pointer (some ⟨b97, 1, none⟩)) hs (y_fieldAddr rfl (FO.of (off := 1) Try.underlying25 rfl rfl ti9 (by decide))) ?_; clear hs; (try clear a w); intro a w hs
          refine syg (v := .string (x86.1.Name)) hs (y_ld rfl Try.underlying9 rfl (Cell.blk (.head _) rfl)) ?_; clear hs; (try clear a w); intro a w hs
          refine syg hs (y_seql rfl rfl) ?_; clear hs; (try clear a w); intro a w hs
          refine sy (v := .bool (decide (x86.1.Name = (bs [115, 99, 114, 105, 112, 116])))) hs (y_pick rfl rfl) ?_; clear hs; (try clear a w); intro a w hs
          refine RL_nil ?_
          exact hs.sub ⟨rfl, rfl, rfl, rfl, (lkB (((or_f hg146).trans rfl)) rfl), trivial⟩
      ·replace hm := oc_f hg85 hm
       refine W_skip ?_
       refine hK21 _ _ ?_; clear hK21
       refine W_seq fun K34 hK34 => ?_
       refine W_seq fun K35 hK35 => ?_
       refine W_post (fun a w => ∃ (y147 : Bool), ref4_Tokens_k9 n p0 y22 y27 (ref4_Tokens_l2 n p0 k32) y147 = some res ∧ St 140 w0 f19 (.row v23 25 5 rw24 :: L) [(0, a0), (3, v23), (4, .int .i64 (y27)), (112, .bool (y147))] a w) ?_ ?_
       ·clear hs hm
        rintro a w ⟨y147, hm, hs⟩
        replace hs : St _ _ _ (.row v23 25 5 rw24 :: L) _ _ _ := hs
        unfold ref4_Tokens_k9 at hm
        refine hK35 _ _ ?_; clear hK35
        refine W_cond hs rfl (fun hg148 => ?_) (fun hg148 => ?_)
        ·replace hm := oc_t hg148 hm
         refine W_seq fun K36 hK36 => ?_
         refine W_region ?_
         refine sy (v := a0) hs (y_move rfl) ?_; clear hs; (try clear a w); intro a w hs
         refine sy (v := .int .i64 (y27)) hs (y_move rfl) ?_; clear hs; (try clear a w); intro a w hs
         refine sy hs (y_add rfl rfl rfl) ?_; clear hs; (try clear a w); intro a w hs
         obtain ⟨x149, hx150, hm⟩ := ob hm
         refine RL_callV hs rfl has52 rfl (ref4_tag_ok n (f := f19) (a0 := a0) ⟨rw1, hR2, hW3⟩ hx150) ?_; clear hs; (try clear a w)
         rintro _ f151 _ a w hf152 ⟨r153, rfl, rfl, hq154⟩ hs
         replace hR2 := hR2.le hf152
         replace hW3 := hW3.le hf152
         replace hW25 := hW25.le hf152
         replace hle := hle.trans hf152
         replace hbase15 := hbase15.trans hf152
         replace hbase33 := hbase33.trans hf152
         replace hbase43 := hbase43.trans hf152
         obtain ⟨v155, rfl, ⟨rw156, hR157, hW158⟩⟩ := hq154
         replace hs : St _ _ _ (.row v23 25 5 rw24 :: L) _ _ _ := hs
         refine sy (v := .tuple #[.agg #[.int .i64 (x149.1.Kind), .string (x149.1.Name), .string (x149.1.Text), v155, .bool (x149.1.Closed)], .int .i64 (x149.2.1), .bool (x149.2.2)]) hs (y_move rfl) ?_; clear hs; (try clear a w); intro a w hs
         refine sy (v := .agg #[.int .i64 (x149.1.Kind), .string (x149.1.Name), .string (x149.1.Text), v155, .bool (x149.1.Closed)]) hs (y_extract rfl rfl) ?_; clear hs; (try clear a w); intro a w hs
         refine sy (v := .int .i64 (x149.2.1)) hs (y_extract rfl rfl) ?_; clear hs; (try clear a w); intro a w hs
         refine sy (v := .bool (x149.2.2)) hs (y_extract rfl rfl) ?_; clear hs; (try clear a w); intro a w hs
         refine RL_alloc hs ti25 (.free rfl) (by decide) ?_; clear hs; (try clear a w); intro b160 a w hs
         replace hs : St _ _ _ (.blk b160 (.cells #[.int .i64 (0), .string ((bs [])), .string ((bs [])), (.slice none 0 0), .bool (false)] 25 (0, 0)) :: .row v23 25 5 rw24 :: L) _ _ _ := hs
         refine RL_storeAll (i := 0) hs rfl rfl rfl ti25 ⟨rfl, rfl⟩ (AllC.arr (r := [.int .i64 (x149.1.Kind), .string (x149.1.Name), .string (x149.1.Text), v155, .bool (x149.1.Closed)]) ⟨rfl, rfl, rfl, hR157.one, rfl, trivial⟩) (.free rfl) ?_; clear hs; (try clear a w); intro a w hs
         replace hs : St _ _ _ (.blk b160 (.cells #[.int .i64 (x149.1.Kind), .string (x149.1.Name), .string (x149.1.Text), v155, .bool (x149.1.Closed)] 25 (0, 0)) :: .row v23 25 5 rw24 :: L) _ _ _ := hs
         refine sy (v := .int .i64 (x149.2.1)) hs (y_assign rfl) ?_; clear hs; (try clear a w); intro a w hs
         refine sy (v := .bool (x149.2.2)) hs (y_assign rfl) ?_; clear hs; (try clear a w); intro a w hs
         refine RL_nil ?_
         refine hK36 _ _ ?_; clear hK36
         refine W_seq fun K37 hK37 => ?_
         refine W_region ?_
         refine sy (v := .int .i64 (x149.2.1)) hs (y_move rfl) ?_; clear hs; (try clear a w); intro a w hs
         refine sy (v := .int .i64 (x149.2.1)) hs (y_assign rfl) ?_; clear hs; (try clear a w); intro a w hs
         refine RL_nil ?_
         refine hK37 _ _ ?_; clear hK37
         refine W_seq fun K38 hK38 => ?_
         refine W_seq fun K39 hK39 => ?_
         refine W_region ?_
         refine sy (v := .bool (x149.2.2)) hs (y_move rfl) ?_; clear hs; (try clear a w); intro a w hs
         refine RL_nil ?_
         refine hK39 _ _ ?_; clear hK39
         refine W_post (fun a w => ∃ (y163 : (List ref4_Token)) (v164 : Value) (rw165 : List (List Value)), ref4_Tokens_k10 (ref4_Tokens_l2 n p0 k32) x149 y163 = some res ∧ RW t_ref4_Token f151 rw165 y163 ∧ St 140 w0 f151 (.row v164 25 5 rw165 :: L) [(0, a0), (3, v164), (4, .int .i64 (x149.2.1))] a w) ?_ ?_
         ·clear hs hm
          rintro a w ⟨y163, v164, rw165, hm, hW166, hs⟩
          replace hs : St _ _ _ (.row v164 25 5 rw165 :: L) _ _ _ := hs
          unfold ref4_Tokens_k10 at hm
          refine hK38 _ _ ?_; clear hK38
          refine W_exit ?_
          refine hB10 _ _ ?_
          exact ⟨_, y163, x149.2.1, v164, rw165, hbase43, hm, hW166, hs.sub ⟨rfl, rfl, rfl, trivial⟩⟩
         ·refine W_cond hs rfl (fun hg168 => ?_) (fun hg168 => ?_)
          ·replace hm := oc_t hg168 hm
           refine W_region ?_
           refine sy (v := v23) hs (y_move rfl) ?_; clear hs; (try clear a w); intro a w hs
           refine sy (v := .pointer (some ⟨b160, 1, none⟩)) hs (y_fieldAddr rfl (FO.of (off := 1) Try.underlying25 rfl rfl ti9 (by decide))) ?_; clear hs; (try clear a w); intro a w hs
           refine sy (v := .string (x149.1.Name)) hs (y_ld rfl Try.underlying9 rfl (Cell.blk (.head _) rfl)) ?_; clear hs; (try clear a w); intro a w hs
           refine sy hs (y_buildS (places := [(0, 1), (1, 1), (2, 1), (3, 1), (4, 1)]) (cs := [.int .i64 (3), .string (x149.1.Name), .string ((bs [])), (.slice none 0 0), .bool (false)]) rfl Try.underlying25 ti25 (by kernel_rfl) (by decide) rfl ⟨rfl, rfl, trivial⟩) ?_; clear hs; (try clear a w); intro a w hs
           refine RL_bs1a hs rfl Try.underlying39 ti25 (by decide) (AllC.row ⟨rfl, rfl, rfl, rfl, rfl, trivial⟩ rfl) ?_; clear hs; (try clear a w); intro v170 a w hs
           have hW171 : RW t_ref4_Token f151 [[.int .i64 (3), .string (x149.1.Name), .string ((bs [])), (.slice none 0 0), .bool (false)]] [({Kind := 3, Name := x149.1.Name, Text := (bs []), Attrs := ([] : List api_Attr), Closed := false} : ref4_Token)] := RW.single (⟨_, rfl, RS.nil⟩)
           generalize hgrw172 : ([[.int .i64 (3), .string (x149.1.Name), .string ((bs [])), (.slice none 0 0), .bool (false)]] : List (List Value)) = rw172 at hs hW171; clear hgrw172
           replace hs : St _ _ _ (.row v170 25 5 rw172 :: .blk b160 (.cells #[.int .i64 (x149.1.Kind), .string (x149.1.Name), .string (x149.1.Text), v155, .bool (x149.1.Closed)] 25 (0, 0)) :: .row v23 25 5 rw24 :: L) _ _ _ := hs
           obtain ⟨x175, hx176, hm⟩ := ob hm
           obtain ⟨hbx175, hex175⟩ := appM_some hx176
           have hW179 := hW25.append hW171; rw [hex175] at hW179
           refine RL_append (i := 2) hs rfl rfl rfl (Rd.st hs (.head _)) Try.underlying39 ti25 (by decide) (by rw [RW.len hW25, RW.len hW171]; exact hbx175) (.free rfl) (by decide) ?_; clear hs; (try clear a w); intro v177 a w hs
           generalize hgx175 : rw24 ++ rw172 = rw178 at hs hW179; clear hgx175
           replace hs := hs.erase 0
           replace hs : St _ _ _ (.blk b160 (.cells #[.int .i64 (x149.1.Kind), .string (x149.1.Name), .string (x149.1.Text), v155, .bool (x149.1.Closed)] 25 (0, 0)) :: .row v177 25 5 rw178 :: L) _ _ _ := hs
           refine sy (v := v177) hs (y_assign rfl) ?_; clear hs; (try clear a w); intro a w hs
           refine RL_nil ?_
           exact ⟨x175, v177, rw178, hm, hW179, hs.subs ⟨rfl, rfl, rfl, trivial⟩ (.cons _ (.cons_cons _ (.refl _)))⟩
          ·replace hm := oc_f hg168 hm
           refine W_skip ?_
           exact ⟨y22, v23, rw24, hm, hW25, hs.subs ⟨rfl, rfl, rfl, trivial⟩ (.cons _ (.cons_cons _ (.refl _)))⟩
        ·replace hm := oc_f hg148 hm
         refine W_skip ?_
         refine hK34 _ _ ?_; clear hK34
         refine W_seq fun K40 hK40 => ?_
         refine W_seq fun K41 hK41 => ?_
         refine W_region ?_
         refine sy (v := a0) hs (y_move rfl) ?_; clear hs; (try clear a w); intro a w hs
         refine sy (v := .int .i64 (y27)) hs (y_move rfl) ?_; clear hs; (try clear a w); intro a w hs
         obtain ⟨x181, hx182, hm⟩ := ob hm
         refine sy hs (y_call rfl has54 rfl (ref4_is_ok n (f := f19) (a0 := a0) ⟨rw1, hR2, hW3⟩ hx182)) ?_; clear hs; (try clear a w); intro a w hs
         refine RL_nil ?_
         refine hK41 _ _ ?_; clear hK41
         refine W_cond hs rfl (fun hg183 => ?_) (fun hg183 => ?_)
         ·replace hm := oc_t hg183 hm
          refine W_seq fun K42 hK42 => ?_
          refine W_region ?_
          refine sy (v := a0) hs (y_move rfl) ?_; clear hs; (try clear a w); intro a w hs
          refine sy (v := .int .i64 (y27)) hs (y_move rfl) ?_; clear hs; (try clear a w); intro a w hs
          refine sy hs (y_add rfl rfl rfl) ?_; clear hs; (try clear a w); intro a w hs
          obtain ⟨x184, hx185, hm⟩ := ob hm
          refine sy hs (y_call rfl has55 rfl (ref4_behind_ok n (f := f19) (a0 := a0) ⟨rw1, hR2, hW3⟩ hx185)) ?_; clear hs; (try clear a w); intro a w hs
          refine sy (v := .int .i64 (x184)) hs (y_assign rfl) ?_; clear hs; (try clear a w); intro a w hs
          refine RL_nil ?_
          refine hK42 _ _ ?_; clear hK42
          refine W_exit ?_
          refine hB10 _ _ ?_
          exact ⟨_, y22, x184, v23, rw24, (Fz.le.refl _), hm, hW25, hs.sub ⟨rfl, rfl, rfl, trivial⟩⟩
         ·replace hm := oc_f hg183 hm
          refine W_skip ?_
          refine hK40 _ _ ?_; clear hK40
          refine W_region ?_
          refine sy (v := a0) hs (y_move rfl) ?_; clear hs; (try clear a w); intro a w hs
          refine sy (v := .int .i64 (y27)) hs (y_move rfl) ?_; clear hs; (try clear a w); intro a w hs
          obtain ⟨x186, hx187, hm⟩ := ob hm
          refine sy hs (y_call rfl has55 rfl (ref4_behind_ok n (f := f19) (a0 := a0) ⟨rw1, hR2, hW3⟩ hx187)) ?_; clear hs; (try clear a w); intro a w hs
          refine sy (v := .int .i64 (x186)) hs (y_assign rfl) ?_; clear hs; (try clear a w); intro a w hs
          refine RL_nil ?_
          exact ⟨_, y22, x186, v23, rw24, (Fz.le.refl _), hm, hW25, hs.sub ⟨rfl, rfl, rfl, trivial⟩⟩
       ·refine W_region ?_
        refine sy (v := a0) hs (y_move rfl) ?_; clear hs; (try clear a w); intro a w hs
        refine sy (v := .int .i64 (y27)) hs (y_move rfl) ?_; clear hs; (try clear a w); intro a w hs
        refine sy hs (y_add rfl rfl rfl) ?_; clear hs; (try clear a w); intro a w hs
        obtain ⟨x188, hx189, hm⟩ := ob hm
        obtain ⟨r190, hr191, hq192, hi193, hb194⟩ := hW3.geti hx189
        obtain rfl : _ = ([.int .i32 (x188)] : List Value) := hq192
        refine sy hs (y_indexAddr hR2 rfl rfl hi193 hb194 Try.underlying32 ti21) ?_; clear hs; (try clear a w); intro a w hs
        refine sy (v := .int .i32 (x188)) hs (y_loadE (i := (w64 (y27 + 1)).toNat) (j := 0) hR2.up rfl hr191 rfl Try.underlying21 rfl) ?_; clear hs; (try clear a w); intro a w hs
        refine sy hs (y_eql rfl rfl) ?_; clear hs; (try clear a w); intro a w hs
        refine sy (v := .bool (decide (x188 = 47))) hs (y_move rfl) ?_; clear hs; (try clear a w); intro a w hs
        refine St.split hs (t := 98) rfl (fun hg195 hq => ?_) (fun hg195 hq => ?_)
        ·clear hs; have hs := hq; clear hq
         replace hm := oc_t hg195 hm
         refine syg (v := .int .i64 (y27)) hs (y_move rfl) ?_; clear hs; (try clear a w); intro a w hs
         refine syg hs (y_add rfl rfl rfl) ?_; clear hs; (try clear a w); intro a w hs
         refine syg (v := a0) hs (y_move rfl) ?_; clear hs; (try clear a w); intro a w hs
         refine syg hs (y_lenW hR2 hW3 rfl Try.underlying32) ?_; clear hs; (try clear a w); intro a w hs
         refine syg hs (y_lss rfl rfl) ?_; clear hs; (try clear a w); intro a w hs
         refine sy (v := .bool (decide ((w64 (y27 + 2)) < (p0.length : Int)))) hs (y_pick rfl rfl) ?_; clear hs; (try clear a w); intro a w hs
         refine sy (v := .bool (decide ((w64 (y27 + 2)) < (p0.length : Int)))) hs (y_move rfl) ?_; clear hs; (try clear a w); intro a w hs
         refine St.split hs (t := 105) rfl (fun hg196 hq => ?_) (fun hg196 hq => ?_)
         ·clear hs; have hs := hq; clear hq
          replace hm := oc_t hg196 hm
          refine syg (v := a0) hs (y_move rfl) ?_; clear hs; (try clear a w); intro a w hs
          refine syg (v := .int .i64 (y27)) hs (y_move rfl) ?_; clear hs; (try clear a w); intro a w hs
          refine syg hs (y_add rfl rfl rfl) ?_; clear hs; (try clear a w); intro a w hs
          obtain ⟨x197, hx198, hm⟩ := ob hm
          obtain ⟨r199, hr200, hq201, hi202, hb203⟩ := hW3.geti hx198
          obtain rfl : _ = ([.int .i32 (x197)] : List Value) := hq201
          refine syg hs (y_indexAddr hR2 rfl rfl hi202 hb203 Try.underlying32 ti21) ?_; clear hs; (try clear a w); intro a w hs
          refine syg (v := .int .i32 (x197)) hs (y_loadE (i := (w64 (y27 + 2)).toNat) (j := 0) hR2.up rfl hr200 rfl Try.underlying21 rfl) ?_; clear hs; (try clear a w); intro a w hs
          obtain ⟨x204, hx205, hm⟩ := ob hm
          refine syg hs (y_call rfl has51 rfl (ref4_letter_ok n (f := f19)  hx205)) ?_; clear hs; (try clear a w); intro a w hs
          refine sy (v := .bool (x204)) hs (y_pick rfl rfl) ?_; clear hs; (try clear a w); intro a w hs
          refine RL_nil ?_
          exact ⟨x204, hm, hs.sub ⟨rfl, rfl, rfl, rfl, trivial⟩⟩
         ·clear hs; have hs := hq; clear hq
          replace hm := oc_f hg196 hm
          refine sno hs ?_; clear hs; (try clear a w); intro a w hs
          refine sno hs ?_; clear hs; (try clear a w); intro a w hs
          refine sno hs ?_; clear hs; (try clear a w); intro a w hs
          refine sno hs ?_; clear hs; (try clear a w); intro a w hs
          refine sno hs ?_; clear hs; (try clear a w); intro a w hs
          refine sno hs ?_; clear hs; (try clear a w); intro a w hs
          refine sy (v := .bool (false)) hs (y_pick rfl rfl) ?_; clear hs; (try clear a w); intro a w hs
          refine RL_nil ?_
          exact ⟨false, hm, hs.sub ⟨rfl, rfl, rfl, rfl, trivial⟩⟩
        ·clear hs; have hs := hq; clear hq
         replace hm := oc_f hg195 hm
         refine sno hs ?_; clear hs; (try clear a w); intro a w hs
         refine sno hs ?_; clear hs; (try clear a w); intro a w hs
         refine sno hs ?_; clear hs; (try clear a w); intro a w hs
         refine sno hs ?_; clear hs; (try clear a w); intro a w hs
         refine sno hs ?_; clear hs; (try clear a w); intro a w hs
         refine sy (v := .bool (false)) hs (y_pick rfl rfl) ?_; clear hs; (try clear a w); intro a w hs
         refine sy (v := .bool (false)) hs (y_move rfl) ?_; clear hs; (try clear a w); intro a w hs
         refine sno hs ?_; clear hs; (try clear a w); intro a w hs
         refine sno hs ?_; clear hs; (try clear a w); intro a w hs
         refine sno hs ?_; clear hs; (try clear a w); intro a w hs
         refine sno hs ?_; clear hs; (try clear a w); intro a w hs
         refine sno hs ?_; clear hs; (try clear a w); intro a w hs
         refine sno hs ?_; clear hs; (try clear a w); intro a w hs
         refine sy (v := .bool (false)) hs (y_pick rfl rfl) ?_; clear hs; (try clear a w); intro a w hs
         refine RL_nil ?_
         exact ⟨false, hm, hs.sub ⟨rfl, rfl, rfl, rfl, trivial⟩⟩
   ·replace hm := oc_f hg34 hm
    refine W_exit ?_
    refine hB6 _ _ ?_
    exact ⟨_, y22, v23, rw24, hbase15, hm, hW25, hs.sub ⟨rfl, trivial⟩⟩
end Go.Proofs.Ythmnohdlhlmmpaa
