/-
  Walks and laws of this seat; the base is the text Base.
-/
import Derived.Test.YthmnohdlhlmmpaaL4a
import Derived.Test.YthmnohdlhlmmpaaRows
/-
  Models of functions, and that the functions compute them. Printed by lift.py.
-/
namespace Go.Proofs.Ythmnohdlhlmmpaa
open Go.RowKit Go.Sl
/-! casement/casementref4.letter -/
def ref4_letter (_n : Nat) (p0 : Int) : Option Bool :=
  some (bif (decide (97 ≤ p0)) then ((decide (p0 ≤ 122)) || ((decide (65 ≤ p0)) && (decide (p0 ≤ 90)))) else ((decide (65 ≤ p0)) && (decide (p0 ≤ 90))))
set_option maxRecDepth 20000 in
set_option maxHeartbeats 4000000 in
theorem ref4_letter_ok (n : Nat) {f : Fz} {p0 : Int} {res : Bool}  (hm : ref4_letter n p0 = some res) : Gives Try.prog 51 [.int .i32 p0] f (.bool res) := by
 unfold ref4_letter at hm
 intro w0 L w hC
 refine enter Try.func51 rfl Try.ntmps51 (by simp) hC fun a hs => ?_
 have hle := Fz.le.refl f
 refine W_seq fun K1 hK1 => ?_
 refine W_region ?_
 refine sy (v := .bool (false)) hs (y_assign rfl) ?_; clear hs; (try clear a w); intro a w hs
 refine RL_nil ?_
 refine hK1 _ _ ?_; clear hK1
 refine W_seq fun K2 hK2 => ?_
 refine W_post (fun a w => St 17 w0 f (L) [(2, .bool ((bif (decide (97 ≤ p0)) then ((decide (p0 ≤ 122)) || ((decide (65 ≤ p0)) && (decide (p0 ≤ 90)))) else ((decide (65 ≤ p0)) && (decide (p0 ≤ 90))))))] a w) ?_ ?_
 ·clear hs; intro a w hs
  refine hK2 _ _ ?_; clear hK2
  refine W_ret ?_
  obtain rfl := Option.some.inj hm
  refine RtV1 hs rfl (rv_t hs rfl) ?_
  exact ⟨rfl, (hs.weak hle).cw⟩
 ·refine W_region ?_
  refine sy (v := .int .i32 (p0)) hs (y_move rfl) ?_; clear hs; (try clear a w); intro a w hs
  refine sy hs (y_geq rfl rfl) ?_; clear hs; (try clear a w); intro a w hs
  refine sy (v := .bool (decide (97 ≤ p0))) hs (y_move rfl) ?_; clear hs; (try clear a w); intro a w hs
  refine St.split hs (t := 5) rfl (fun hg1 hq => ?_) (fun hg1 hq => ?_)
  ·clear hs; have hs := hq; clear hq
   refine syg (v := .int .i32 (p0)) hs (y_move rfl) ?_; clear hs; (try clear a w); intro a w hs
   refine syg hs (y_leq rfl rfl) ?_; clear hs; (try clear a w); intro a w hs
   refine sy (v := .bool (decide (p0 ≤ 122))) hs (y_pick rfl rfl) ?_; clear hs; (try clear a w); intro a w hs
   refine sy (v := .bool (decide (p0 ≤ 122))) hs (y_move rfl) ?_; clear hs; (try clear a w); intro a w hs
   refine St.split hs (t := 9) rfl (fun hg2 hq => ?_) (fun hg2 hq => ?_)
   ·clear hs; have hs := hq; clear hq
    refine sno hs ?_; clear hs; (try clear a w); intro a w hs
    refine sno hs ?_; clear hs; (try clear a w); intro a w hs
    refine sno hs ?_; clear hs; (try clear a w); intro a w hs
    refine sun hs ?_; clear hs; (try clear a w); intro a w hs
    refine sun hs ?_; clear hs; (try clear a w); intro a w hs
    refine sno hs ?_; clear hs; (try clear a w); intro a w hs
    refine sy (v := .bool (true)) hs (y_pick rfl rfl) ?_; clear hs; (try clear a w); intro a w hs
    refine sy (v := .bool (true)) hs (y_assign rfl) ?_; clear hs; (try clear a w); intro a w hs
    refine RL_nil ?_
    exact hs.sub ⟨(lkB (((bif_t hg1).trans ((or_t hg2).trans rfl))) rfl), trivial⟩
   ·clear hs; have hs := hq; clear hq
    refine syg (v := .int .i32 (p0)) hs (y_move rfl) ?_; clear hs; (try clear a w); intro a w hs
    refine syg hs (y_geq rfl rfl) ?_; clear hs; (try clear a w); intro a w hs
    refine syg (v := .bool (decide (65 ≤ p0))) hs (y_move rfl) ?_; clear hs; (try clear a w); intro a w hs
    refine St.split hs (t := 12) rfl (fun hg3 hq => ?_) (fun hg3 hq => ?_)
    ·clear hs; have hs := hq; clear hq
     refine syg (v := .int .i32 (p0)) hs (y_move rfl) ?_; clear hs; (try clear a w); intro a w hs
     refine syg hs (y_leq rfl rfl) ?_; clear hs; (try clear a w); intro a w hs
     refine syg (v := .bool (decide (p0 ≤ 90))) hs (y_pick rfl rfl) ?_; clear hs; (try clear a w); intro a w hs
     refine sy (v := .bool (decide (p0 ≤ 90))) hs (y_pick rfl rfl) ?_; clear hs; (try clear a w); intro a w hs
     refine sy (v := .bool (decide (p0 ≤ 90))) hs (y_assign rfl) ?_; clear hs; (try clear a w); intro a w hs
     refine RL_nil ?_
     exact hs.sub ⟨(lkB (((bif_t hg1).trans ((or_f hg2).trans ((and_t hg3).trans rfl)))) rfl), trivial⟩
    ·clear hs; have hs := hq; clear hq
     refine sno hs ?_; clear hs; (try clear a w); intro a w hs
     refine sno hs ?_; clear hs; (try clear a w); intro a w hs
     refine syg (v := .bool (false)) hs (y_pick rfl rfl) ?_; clear hs; (try clear a w); intro a w hs
     refine sy (v := .bool (false)) hs (y_pick rfl rfl) ?_; clear hs; (try clear a w); intro a w hs
     refine sy (v := .bool (false)) hs (y_assign rfl) ?_; clear hs; (try clear a w); intro a w hs
     refine RL_nil ?_
     exact hs.sub ⟨(lkB (((bif_t hg1).trans ((or_f hg2).trans ((and_f hg3).trans rfl)))) rfl), trivial⟩
  ·clear hs; have hs := hq; clear hq
   refine sno hs ?_; clear hs; (try clear a w); intro a w hs
   refine sno hs ?_; clear hs; (try clear a w); intro a w hs
   refine sy (v := .bool (false)) hs (y_pick rfl rfl) ?_; clear hs; (try clear a w); intro a w hs
   refine sy (v := .bool (false)) hs (y_move rfl) ?_; clear hs; (try clear a w); intro a w hs
   refine syg (v := .int .i32 (p0)) hs (y_move rfl) ?_; clear hs; (try clear a w); intro a w hs
   refine syg hs (y_geq rfl rfl) ?_; clear hs; (try clear a w); intro a w hs
   refine syg (v := .bool (decide (65 ≤ p0))) hs (y_move rfl) ?_; clear hs; (try clear a w); intro a w hs
   refine St.split hs (t := 12) rfl (fun hg4 hq => ?_) (fun hg4 hq => ?_)
   ·clear hs; have hs := hq; clear hq
    refine syg (v := .int .i32 (p0)) hs (y_move rfl) ?_; clear hs; (try clear a w); intro a w hs
    refine syg hs (y_leq rfl rfl) ?_; clear hs; (try clear a w); intro a w hs
    refine syg (v := .bool (decide (p0 ≤ 90))) hs (y_pick rfl rfl) ?_; clear hs; (try clear a w); intro a w hs
    refine sy (v := .bool (decide (p0 ≤ 90))) hs (y_pick rfl rfl) ?_; clear hs; (try clear a w); intro a w hs
    refine sy (v := .bool (decide (p0 ≤ 90))) hs (y_assign rfl) ?_; clear hs; (try clear a w); intro a w hs
    refine RL_nil ?_
    exact hs.sub ⟨(lkB (((bif_f hg1).trans ((and_t hg4).trans rfl))) rfl), trivial⟩
   ·clear hs; have hs := hq; clear hq
    refine sno hs ?_; clear hs; (try clear a w); intro a w hs
    refine sno hs ?_; clear hs; (try clear a w); intro a w hs
    refine syg (v := .bool (false)) hs (y_pick rfl rfl) ?_; clear hs; (try clear a w); intro a w hs
    refine sy (v := .bool (false)) hs (y_pick rfl rfl) ?_; clear hs; (try clear a w); intro a w hs
    refine sy (v := .bool (false)) hs (y_assign rfl) ?_; clear hs; (try clear a w); intro a w hs
    refine RL_nil ?_
    exact hs.sub ⟨(lkB (((bif_f hg1).trans ((and_f hg4).trans rfl))) rfl), trivial⟩
/-! casement/casementref4.Blank -/
def ref4_Blank (_n : Nat) (p0 : Int) : Option Bool :=
  some ((decide (p0 = 9)) || ((decide (p0 = 10)) || ((decide (p0 = 12)) || (decide (p0 = 32)))))
set_option maxRecDepth 20000 in
set_option maxHeartbeats 4000000 in
theorem ref4_Blank_ok (n : Nat) {f : Fz} {p0 : Int} {res : Bool}  (hm : ref4_Blank n p0 = some res) : Gives Try.prog 73 [.int .i32 p0] f (.bool res) := by
 unfold ref4_Blank at hm
 intro w0 L w hC
 refine enter Try.func73 rfl Try.ntmps73 (by simp) hC fun a hs => ?_
 have hle := Fz.le.refl f
 refine W_seq fun K1 hK1 => ?_
 refine W_region ?_
 refine sy (v := .bool (false)) hs (y_assign rfl) ?_; clear hs; (try clear a w); intro a w hs
 refine RL_nil ?_
 refine hK1 _ _ ?_; clear hK1
 refine W_seq fun K2 hK2 => ?_
 refine W_post (fun a w => St 17 w0 f (L) [(2, .bool (((decide (p0 = 9)) || ((decide (p0 = 10)) || ((decide (p0 = 12)) || (decide (p0 = 32)))))))] a w) ?_ ?_
 ·clear hs; intro a w hs
  refine hK2 _ _ ?_; clear hK2
  refine W_ret ?_
  obtain rfl := Option.some.inj hm
  refine RtV1 hs rfl (rv_t hs rfl) ?_
  exact ⟨rfl, (hs.weak hle).cw⟩
 ·refine W_region ?_
  refine sy (v := .int .i32 (p0)) hs (y_move rfl) ?_; clear hs; (try clear a w); intro a w hs
  refine sy hs (y_eql rfl rfl) ?_; clear hs; (try clear a w); intro a w hs
  refine sy (v := .bool (decide (p0 = 9))) hs (y_move rfl) ?_; clear hs; (try clear a w); intro a w hs
  refine St.split hs (t := 5) rfl (fun hg1 hq => ?_) (fun hg1 hq => ?_)
  ·clear hs; have hs := hq; clear hq
   refine sno hs ?_; clear hs; (try clear a w); intro a w hs
   refine sno hs ?_; clear hs; (try clear a w); intro a w hs
   refine sy (v := .bool (true)) hs (y_pick rfl rfl) ?_; clear hs; (try clear a w); intro a w hs
   refine sy (v := .bool (true)) hs (y_move rfl) ?_; clear hs; (try clear a w); intro a w hs
   refine sno hs ?_; clear hs; (try clear a w); intro a w hs
   refine sno hs ?_; clear hs; (try clear a w); intro a w hs
   refine sy (v := .bool (true)) hs (y_pick rfl rfl) ?_; clear hs; (try clear a w); intro a w hs
   refine sy (v := .bool (true)) hs (y_move rfl) ?_; clear hs; (try clear a w); intro a w hs
   refine sno hs ?_; clear hs; (try clear a w); intro a w hs
   refine sno hs ?_; clear hs; (try clear a w); intro a w hs
   refine sy (v := .bool (true)) hs (y_pick rfl rfl) ?_; clear hs; (try clear a w); intro a w hs
   refine sy (v := .bool (true)) hs (y_assign rfl) ?_; clear hs; (try clear a w); intro a w hs
   refine RL_nil ?_
   exact hs.sub ⟨(lkB (((or_t hg1).trans rfl)) rfl), trivial⟩
  ·clear hs; have hs := hq; clear hq
   refine syg (v := .int .i32 (p0)) hs (y_move rfl) ?_; clear hs; (try clear a w); intro a w hs
   refine syg hs (y_eql rfl rfl) ?_; clear hs; (try clear a w); intro a w hs
   refine sy (v := .bool (decide (p0 = 10))) hs (y_pick rfl rfl) ?_; clear hs; (try clear a w); intro a w hs
   refine sy (v := .bool (decide (p0 = 10))) hs (y_move rfl) ?_; clear hs; (try clear a w); intro a w hs
   refine St.split hs (t := 9) rfl (fun hg2 hq => ?_) (fun hg2 hq => ?_)
   ·clear hs; have hs := hq; clear hq
    refine sno hs ?_; clear hs; (try clear a w); intro a w hs
    refine sno hs ?_; clear hs; (try clear a w); intro a w hs
    refine sy (v := .bool (true)) hs (y_pick rfl rfl) ?_; clear hs; (try clear a w); intro a w hs
    refine sy (v := .bool (true)) hs (y_move rfl) ?_; clear hs; (try clear a w); intro a w hs
    refine sno hs ?_; clear hs; (try clear a w); intro a w hs
    refine sno hs ?_; clear hs; (try clear a w); intro a w hs
    refine sy (v := .bool (true)) hs (y_pick rfl rfl) ?_; clear hs; (try clear a w); intro a w hs
    refine sy (v := .bool (true)) hs (y_assign rfl) ?_; clear hs; (try clear a w); intro a w hs
    refine RL_nil ?_
    exact hs.sub ⟨(lkB (((or_f hg1).trans ((or_t hg2).trans rfl))) rfl), trivial⟩
   ·clear hs; have hs := hq; clear hq
    refine syg (v := .int .i32 (p0)) hs (y_move rfl) ?_; clear hs; (try clear a w); intro a w hs
    refine syg hs (y_eql rfl rfl) ?_; clear hs; (try clear a w); intro a w hs
    refine sy (v := .bool (decide (p0 = 12))) hs (y_pick rfl rfl) ?_; clear hs; (try clear a w); intro a w hs
    refine sy (v := .bool (decide (p0 = 12))) hs (y_move rfl) ?_; clear hs; (try clear a w); intro a w hs
    refine St.split hs (t := 13) rfl (fun hg3 hq => ?_) (fun hg3 hq => ?_)
    ·clear hs; have hs := hq; clear hq
     refine sno hs ?_; clear hs; (try clear a w); intro a w hs
     refine sno hs ?_; clear hs; (try clear a w); intro a w hs
     refine sy (v := .bool (true)) hs (y_pick rfl rfl) ?_; clear hs; (try clear a w); intro a w hs
     refine sy (v := .bool (true)) hs (y_assign rfl) ?_; clear hs; (try clear a w); intro a w hs
     refine RL_nil ?_
     exact hs.sub ⟨(lkB (((or_f hg1).trans ((or_f hg2).trans ((or_t hg3).trans rfl)))) rfl), trivial⟩
    ·clear hs; have hs := hq; clear hq
     refine syg (v := .int .i32 (p0)) hs (y_move rfl) ?_; clear hs; (try clear a w); intro a w hs
     refine syg hs (y_eql rfl rfl) ?_; clear hs; (try clear a w); intro a w hs
     refine sy (v := .bool (decide (p0 = 32))) hs (y_pick rfl rfl) ?_; clear hs; (try clear a w); intro a w hs
     refine sy (v := .bool (decide (p0 = 32))) hs (y_assign rfl) ?_; clear hs; (try clear a w); intro a w hs
     refine RL_nil ?_
     exact hs.sub ⟨(lkB (((or_f hg1).trans ((or_f hg2).trans ((or_f hg3).trans rfl)))) rfl), trivial⟩
/-! casement/casementref4.Small -/
def ref4_Small_k1 (y7 : (List Int)) : Option ByteArray :=
  some (textOf y7)
def ref4_Small_k3 (y13 : (List Int)) (y18 : Int) (lp23 : (List Int) → Int → Option ByteArray) (y32 : Int) : Option ByteArray :=
  (appM 4 y13 [y32]).bind fun x38 =>
  lp23 x38 (w64 (y18 + 1))
def ref4_Small_l2 (p0 : (List Int)) : Nat → (List Int) → Int → Option ByteArray
  | 0, _, _ => none
  | k23 + 1, y13, y18 =>
  (bif (decide (y18 < (p0.length : Int))) then (geti p0 y18).bind fun x25 =>
  (bif ((decide (65 ≤ x25)) && (decide (x25 ≤ 90))) then ref4_Small_k3 y13 y18 (ref4_Small_l2 p0 k23) (IntKind.i32.wrap (x25 + 32)) else
  ref4_Small_k3 y13 y18 (ref4_Small_l2 p0 k23) x25) else
  ref4_Small_k1 y13)
def ref4_Small (n : Nat) (p0 : (List Int)) : Option ByteArray :=
  ref4_Small_l2 p0 n ([] : List Int) 0
set_option maxRecDepth 20000 in
set_option maxHeartbeats 4000000 in
theorem ref4_Small_ok (n : Nat) {f : Fz} {p0 : (List Int)} {a0 : Value} {res : ByteArray} (h0 : RS (tInt .i32) f a0 p0) (hm : ref4_Small n p0 = some res) : Gives Try.prog 74 [a0] f (.string res) := by
 unfold ref4_Small at hm
 intro w0 L w hC
 obtain ⟨rw1, hR2, hW3⟩ := h0
 refine enter Try.func74 rfl Try.ntmps74 (by simp) hC fun a hs => ?_
 have hle := Fz.le.refl f
 refine W_seq fun K1 hK1 => ?_
 refine W_region ?_
 refine sy (v := .string ((bs []))) hs (y_assign rfl) ?_; clear hs; (try clear a w); intro a w hs
 refine RL_nil ?_
 refine hK1 _ _ ?_; clear hK1
 refine W_seq fun K2 hK2 => ?_
 refine W_region ?_
 refine sy (v := (.slice none 0 0)) hs (y_assign rfl) ?_; clear hs; (try clear a w); intro a w hs
 refine RL_nil ?_
 refine hK2 _ _ ?_; clear hK2
 refine W_seq fun K3 hK3 => ?_
 refine W_seq fun K4 hK4 => ?_
 refine W_region ?_
 refine sy (v := .int .i64 (0)) hs (y_assign rfl) ?_; clear hs; (try clear a w); intro a w hs
 refine RL_nil ?_
 refine hK4 _ _ ?_; clear hK4
 refine W_post (fun a w => ∃ (y7 : (List Int)) (v8 : Value) (rw9 : List (List Value)), ref4_Small_k1 y7 = some res ∧ RW (tInt .i32) f rw9 y7 ∧ St 30 w0 f (.row v8 21 1 rw9 :: L) [(3, v8)] a w) ?_ ?_
 ·clear hs hm
  rintro a w ⟨y7, v8, rw9, hm, hW10, hs⟩
  replace hs : St _ _ _ (.row v8 21 1 rw9 :: L) _ _ _ := hs
  unfold ref4_Small_k1 at hm
  refine hK3 _ _ ?_; clear hK3
  refine W_seq fun K5 hK5 => ?_
  refine W_region ?_
  refine sy (v := v8) hs (y_move rfl) ?_; clear hs; (try clear a w); intro a w hs
  refine sy (v := .string ((textOf y7))) hs (y_r2sW rfl Try.underlying32 Try.underlying21 Try.underlying9 (Rd.st hs (.head _)) hW10) ?_; clear hs; (try clear a w); intro a w hs
  refine sy (v := .string ((textOf y7))) hs (y_assign rfl) ?_; clear hs; (try clear a w); intro a w hs
  refine RL_nil ?_
  refine hK5 _ _ ?_; clear hK5
  refine W_ret ?_
  obtain rfl := Option.some.inj hm
  refine RtV1 hs rfl (rv_t hs rfl) ?_
  exact ⟨rfl, ((hs.subL (.cons _ (.refl _))).weak hle).cw⟩
 ·refine W_block fun Qe6 hB6 hO6 => ?_
  replace hs := hs.nilRow 21 1
  have hW19 : RW (tInt .i32) f [] ([] : List Int) := trivial
  generalize hgrw20 : ([] : List (List Value)) = rw20 at hs hW19; clear hgrw20
  replace hs : St _ _ _ (.row (.slice none 0 0) 21 1 rw20 :: L) _ _ _ := hs
  refine W_loop (fun (k : Nat) a w => ∃ (y13 : (List Int)) (y18 : Int) (v14 : Value) (rw15 : List (List Value)), ref4_Small_l2 p0 k y13 y18 = some res ∧ RW (tInt .i32) f rw15 y13 ∧ St 30 w0 f (.row v14 21 1 rw15 :: L) [(0, a0), (3, v14), (4, .int .i64 (y18))] a w) (fun k => k) n ⟨([] : List Int), 0, (.slice none 0 0), rw20, hm, hW19, hs.sub ⟨rfl, rfl, rfl, trivial⟩⟩ ?_
  clear hs hm
  intro k
  rintro a w ⟨y13, y18, v14, rw15, hm, hW16, hs⟩
  replace hs : St _ _ _ (.row v14 21 1 rw15 :: L) _ _ _ := hs
  intro K7 hK7
  cases k with
  | zero => simp [ref4_Small_l2] at hm
  | succ k23 =>
   rw [ref4_Small_l2] at hm
   refine W_seq fun K8 hK8 => ?_
   refine W_seq fun K9 hK9 => ?_
   refine W_region ?_
   refine sy (v := .int .i64 (y18)) hs (y_move rfl) ?_; clear hs; (try clear a w); intro a w hs
   refine sy (v := a0) hs (y_move rfl) ?_; clear hs; (try clear a w); intro a w hs
   refine sy hs (y_lenW hR2 hW3 rfl Try.underlying32) ?_; clear hs; (try clear a w); intro a w hs
   refine sy hs (y_lss rfl rfl) ?_; clear hs; (try clear a w); intro a w hs
   refine RL_nil ?_
   refine hK9 _ _ ?_; clear hK9
   refine W_cond hs rfl (fun hg24 => ?_) (fun hg24 => ?_)
   ·replace hm := oc_t hg24 hm
    refine W_skip ?_
    refine hK8 _ _ ?_; clear hK8
    refine W_seq fun K10 hK10 => ?_
    refine W_block fun Qe11 hB11 hO11 => ?_
    refine W_seq fun K12 hK12 => ?_
    refine W_region ?_
    refine sy (v := a0) hs (y_move rfl) ?_; clear hs; (try clear a w); intro a w hs
    refine sy (v := .int .i64 (y18)) hs (y_move rfl) ?_; clear hs; (try clear a w); intro a w hs
    obtain ⟨x25, hx26, hm⟩ := ob hm
    obtain ⟨r27, hr28, hq29, hi30, hb31⟩ := hW3.geti hx26
    obtain rfl : _ = ([.int .i32 (x25)] : List Value) := hq29
    refine sy hs (y_indexAddr hR2 rfl rfl hi30 hb31 Try.underlying32 ti21) ?_; clear hs; (try clear a w); intro a w hs
    refine sy (v := .int .i32 (x25)) hs (y_loadE (i := y18.toNat) (j := 0) hR2.up rfl hr28 rfl Try.underlying21 rfl) ?_; clear hs; (try clear a w); intro a w hs
    refine sy (v := .int .i32 (x25)) hs (y_assign rfl) ?_; clear hs; (try clear a w); intro a w hs
    refine RL_nil ?_
    refine hK12 _ _ ?_; clear hK12
    refine W_seq fun K13 hK13 => ?_
    refine W_seq fun K14 hK14 => ?_
    refine W_post (fun a w => St 30 w0 f (.row v14 21 1 rw15 :: L) [(0, a0), (3, v14), (4, .int .i64 (y18)), (5, .int .i32 (x25)), (21, .bool (((decide (65 ≤ x25)) && (decide (x25 ≤ 90)))))] a w) ?_ ?_
    ·clear hs; intro a w hs
     refine hK14 _ _ ?_; clear hK14
     refine W_post (fun a w => ∃ (y32 : Int), ref4_Small_k3 y13 y18 (ref4_Small_l2 p0 k23) y32 = some res ∧ St 30 w0 f (.row v14 21 1 rw15 :: L) [(0, a0), (3, v14), (4, .int .i64 (y18)), (5, .int .i32 (y32))] a w) ?_ ?_
     ·clear hs hm
      rintro a w ⟨y32, hm, hs⟩
      replace hs : St _ _ _ (.row v14 21 1 rw15 :: L) _ _ _ := hs
      unfold ref4_Small_k3 at hm
      refine hK13 _ _ ?_; clear hK13
      refine W_region ?_
      refine sy (v := v14) hs (y_move rfl) ?_; clear hs; (try clear a w); intro a w hs
      refine sy (v := .int .i32 (y32)) hs (y_move rfl) ?_; clear hs; (try clear a w); intro a w hs
      refine RL_bs1s hs rfl Try.underlying32 ti21 rfl rfl ?_; clear hs; (try clear a w); intro v33 a w hs
      have hW34 : RW (tInt .i32) f [[.int .i32 (y32)]] [y32] := RW.single (rfl)
      generalize hgrw35 : ([[.int .i32 (y32)]] : List (List Value)) = rw35 at hs hW34; clear hgrw35
      replace hs : St _ _ _ (.row v33 21 1 rw35 :: .row v14 21 1 rw15 :: L) _ _ _ := hs
      obtain ⟨x38, hx39, hm⟩ := ob hm
      obtain ⟨hbx38, hex38⟩ := appM_some hx39
      have hW42 := hW16.append hW34; rw [hex38] at hW42
      refine RL_append (i := 1) hs rfl rfl rfl (Rd.st hs (.head _)) Try.underlying32 ti21 (by decide) (by rw [RW.len hW16, RW.len hW34]; exact hbx38) (.free rfl) (by decide) ?_; clear hs; (try clear a w); intro v40 a w hs
      generalize hgx38 : rw15 ++ rw35 = rw41 at hs hW42; clear hgx38
      replace hs := hs.erase 0
      replace hs : St _ _ _ (.row v40 21 1 rw41 :: L) _ _ _ := hs
      refine sy (v := v40) hs (y_assign rfl) ?_; clear hs; (try clear a w); intro a w hs
      refine RL_nil ?_
      refine hK10 _ _ ?_; clear hK10
      refine W_region ?_
      refine sy (v := .int .i64 (y18)) hs (y_move rfl) ?_; clear hs; (try clear a w); intro a w hs
      refine sy hs (y_add rfl rfl rfl) ?_; clear hs; (try clear a w); intro a w hs
      refine sy (v := .int .i64 ((w64 (y18 + 1)))) hs (y_assign rfl) ?_; clear hs; (try clear a w); intro a w hs
      refine RL_nil ?_
      exact hK7 k23 _ _ (Nat.lt_succ_self _) ⟨x38, (w64 (y18 + 1)), v40, rw41, hm, hW42, hs.sub ⟨rfl, rfl, rfl, trivial⟩⟩
     ·refine W_cond hs rfl (fun hg44 => ?_) (fun hg44 => ?_)
      ·replace hm := oc_t hg44 hm
       refine W_region ?_
       refine sy (v := .int .i32 (x25)) hs (y_move rfl) ?_; clear hs; (try clear a w); intro a w hs
       refine sy hs (y_add rfl rfl rfl) ?_; clear hs; (try clear a w); intro a w hs
       refine sy (v := .int .i32 ((IntKind.i32.wrap (x25 + 32)))) hs (y_assign rfl) ?_; clear hs; (try clear a w); intro a w hs
       refine RL_nil ?_
       exact ⟨(IntKind.i32.wrap (x25 + 32)), hm, hs.sub ⟨rfl, rfl, rfl, rfl, trivial⟩⟩
      ·replace hm := oc_f hg44 hm
       refine W_skip ?_
       exact ⟨x25, hm, hs.sub ⟨rfl, rfl, rfl, rfl, trivial⟩⟩
    ·refine W_region ?_
     refine sy (v := .int .i32 (x25)) hs (y_move rfl) ?_; clear hs; (try clear a w); intro a w hs
     refine sy hs (y_geq rfl rfl) ?_; clear hs; (try clear a w); intro a w hs
     refine sy (v := .bool (decide (65 ≤ x25))) hs (y_move rfl) ?_; clear hs; (try clear a w); intro a w hs
     refine St.split hs (t := 18) rfl (fun hg45 hq => ?_) (fun hg45 hq => ?_)
     ·clear hs; have hs := hq; clear hq
      refine syg (v := .int .i32 (x25)) hs (y_move rfl) ?_; clear hs; (try clear a w); intro a w hs
      refine syg hs (y_leq rfl rfl) ?_; clear hs; (try clear a w); intro a w hs
      refine sy (v := .bool (decide (x25 ≤ 90))) hs (y_pick rfl rfl) ?_; clear hs; (try clear a w); intro a w hs
      refine RL_nil ?_
      exact hs.sub ⟨rfl, rfl, rfl, rfl, (lkB (((and_t hg45).trans rfl)) rfl), trivial⟩
     ·clear hs; have hs := hq; clear hq
      refine sno hs ?_; clear hs; (try clear a w); intro a w hs
      refine sno hs ?_; clear hs; (try clear a w); intro a w hs
      refine sy (v := .bool (false)) hs (y_pick rfl rfl) ?_; clear hs; (try clear a w); intro a w hs
      refine RL_nil ?_
      exact hs.sub ⟨rfl, rfl, rfl, rfl, (lkB (((and_f hg45).trans rfl)) rfl), trivial⟩
   ·replace hm := oc_f hg24 hm
    refine W_exit ?_
    refine hB6 _ _ ?_
    exact ⟨y13, v14, rw15, hm, hW16, hs.sub ⟨rfl, trivial⟩⟩
/-! casement/casementref4.is -/
def ref4_is_k1 : Option Bool :=
  some true
def ref4_is_k3 (y5 : Int) (lp6 : Int → Option Bool) (y8 : Bool) : Option Bool :=
  (bif y8 then some false else
  lp6 (w64 (y5 + 1)))
def ref4_is_l2 (p0 : (List Int)) (p1 : Int) (p2 : ByteArray) : Nat → Int → Option Bool
  | 0, _ => none
  | k6 + 1, y5 =>
  (bif (decide (y5 < (p2.size : Int))) then (bif (decide ((p0.length : Int) ≤ (w64 (p1 + y5)))) then ref4_is_k3 y5 (ref4_is_l2 p0 p1 p2 k6) true else
  (geti p0 (w64 (p1 + y5))).bind fun x11 =>
  (getS p2 y5).bind fun x18 =>
  ref4_is_k3 y5 (ref4_is_l2 p0 p1 p2 k6) (decide (x11 ≠ (IntKind.i32.wrap x18)))) else
  ref4_is_k1)
def ref4_is (n : Nat) (p0 : (List Int)) (p1 : Int) (p2 : ByteArray) : Option Bool :=
  ref4_is_l2 p0 p1 p2 n 0
set_option maxRecDepth 20000 in
set_option maxHeartbeats 4000000 in
theorem ref4_is_ok (n : Nat) {f : Fz} {p0 : (List Int)} {a0 : Value} {p1 : Int} {p2 : ByteArray} {res : Bool} (h0 : RS (tInt .i32) f a0 p0) (hm : ref4_is n p0 p1 p2 = some res) : Gives Try.prog 54 [a0, .int .i64 p1, .string p2] f (.bool res) := by
 unfold ref4_is at hm
 intro w0 L w hC
 obtain ⟨rw1, hR2, hW3⟩ := h0
 refine enter Try.func54 rfl Try.ntmps54 (by simp) hC fun a hs => ?_
 have hle := Fz.le.refl f
 refine W_seq fun K1 hK1 => ?_
 refine W_region ?_
 refine sy (v := .bool (false)) hs (y_assign rfl) ?_; clear hs; (try clear a w); intro a w hs
 refine RL_nil ?_
 refine hK1 _ _ ?_; clear hK1
 refine W_seq fun K2 hK2 => ?_
 refine W_seq fun K3 hK3 => ?_
 refine W_region ?_
 refine sy (v := .int .i64 (0)) hs (y_assign rfl) ?_; clear hs; (try clear a w); intro a w hs
 refine RL_nil ?_
 refine hK3 _ _ ?_; clear hK3
 refine W_post (fun a w => ref4_is_k1 = some res ∧ St 33 w0 f (L) [] a w) ?_ ?_
 ·clear hs hm
  rintro a w ⟨hm, hs⟩
  replace hs : St _ _ _ (L) _ _ _ := hs
  unfold ref4_is_k1 at hm
  refine hK2 _ _ ?_; clear hK2
  refine W_seq fun K4 hK4 => ?_
  refine W_region ?_
  refine sy (v := .bool (true)) hs (y_assign rfl) ?_; clear hs; (try clear a w); intro a w hs
  refine RL_nil ?_
  refine hK4 _ _ ?_; clear hK4
  refine W_ret ?_
  obtain rfl := Option.some.inj hm
  refine RtV1 hs rfl (rv_t hs rfl) ?_
  exact ⟨rfl, (hs.weak hle).cw⟩
 ·refine W_block fun Qe5 hB5 hO5 => ?_
  refine W_loop (fun (k : Nat) a w => ∃ (y5 : Int), ref4_is_l2 p0 p1 p2 k y5 = some res ∧ St 33 w0 f (L) [(0, a0), (1, .int .i64 (p1)), (2, .string (p2)), (7, .int .i64 (y5))] a w) (fun k => k) n ⟨0, hm, hs.sub ⟨rfl, rfl, rfl, rfl, trivial⟩⟩ ?_
  clear hs hm
  intro k
  rintro a w ⟨y5, hm, hs⟩
  replace hs : St _ _ _ (L) _ _ _ := hs
  intro K6 hK6
  cases k with
  | zero => simp [ref4_is_l2] at hm
  | succ k6 =>
   rw [ref4_is_l2] at hm
   refine W_seq fun K7 hK7 => ?_
   refine W_seq fun K8 hK8 => ?_
   refine W_region ?_
   refine sy (v := .int .i64 (y5)) hs (y_move rfl) ?_; clear hs; (try clear a w); intro a w hs
   refine sy (v := .string (p2)) hs (y_move rfl) ?_; clear hs; (try clear a w); intro a w hs
   refine sy hs (y_lenS rfl Try.underlying9) ?_; clear hs; (try clear a w); intro a w hs
   refine sy hs (y_lss rfl rfl) ?_; clear hs; (try clear a w); intro a w hs
   refine RL_nil ?_
   refine hK8 _ _ ?_; clear hK8
   refine W_cond hs rfl (fun hg7 => ?_) (fun hg7 => ?_)
   ·replace hm := oc_t hg7 hm
    refine W_skip ?_
    refine hK7 _ _ ?_; clear hK7
    refine W_seq fun K9 hK9 => ?_
    refine W_block fun Qe10 hB10 hO10 => ?_
    refine W_seq fun K11 hK11 => ?_
    refine W_post (fun a w => ∃ (y8 : Bool), ref4_is_k3 y5 (ref4_is_l2 p0 p1 p2 k6) y8 = some res ∧ St 33 w0 f (L) [(0, a0), (1, .int .i64 (p1)), (2, .string (p2)), (7, .int .i64 (y5)), (32, .bool (y8))] a w) ?_ ?_
    ·clear hs hm
     rintro a w ⟨y8, hm, hs⟩
     replace hs : St _ _ _ (L) _ _ _ := hs
     unfold ref4_is_k3 at hm
     refine hK11 _ _ ?_; clear hK11
     refine W_cond hs rfl (fun hg9 => ?_) (fun hg9 => ?_)
     ·replace hm := oc_t hg9 hm
      refine W_seq fun K12 hK12 => ?_
      refine W_region ?_
      refine sy (v := .bool (false)) hs (y_assign rfl) ?_; clear hs; (try clear a w); intro a w hs
      refine RL_nil ?_
      refine hK12 _ _ ?_; clear hK12
      refine W_ret ?_
      obtain rfl := Option.some.inj hm
      refine RtV1 hs rfl (rv_t hs rfl) ?_
      exact ⟨rfl, (hs.weak hle).cw⟩
     ·replace hm := oc_f hg9 hm
      refine W_skip ?_
      refine hK9 _ _ ?_; clear hK9
      refine W_region ?_
      refine sy (v := .int .i64 (y5)) hs (y_move rfl) ?_; clear hs; (try clear a w); intro a w hs
      refine sy hs (y_add rfl rfl rfl) ?_; clear hs; (try clear a w); intro a w hs
      refine sy (v := .int .i64 ((w64 (y5 + 1)))) hs (y_assign rfl) ?_; clear hs; (try clear a w); intro a w hs
      refine RL_nil ?_
      exact hK6 k6 _ _ (Nat.lt_succ_self _) ⟨(w64 (y5 + 1)), hm, hs.sub ⟨rfl, rfl, rfl, rfl, trivial⟩⟩
    ·refine W_draw hs mixed (by kernel_rfl) ?_; intro a he
     refine qy (v := .int .i64 (p1)) he (y_move rfl) ?_; clear he; (try clear a); intro a he
     refine qy (v := .int .i64 (y5)) he (y_move rfl) ?_; clear he; (try clear a); intro a he
     refine qy he (y_add rfl rfl rfl) ?_; clear he; (try clear a); intro a he
     refine qy (v := a0) he (y_move rfl) ?_; clear he; (try clear a); intro a he
     refine qy he (y_lenW hR2 hW3 rfl Try.underlying32) ?_; clear he; (try clear a); intro a he
     refine qy he (y_geq rfl rfl) ?_; clear he; (try clear a); intro a he
     refine qy (v := .bool (decide ((p0.length : Int) ≤ (w64 (p1 + y5))))) he (y_move rfl) ?_; clear he; (try clear a); intro a he
     refine Ev.split he (t := 20) rfl (fun hg10 hq => ?_) (fun hg10 hq => ?_)
     ·clear he; have he := hq; clear hq
      replace hm := oc_t hg10 hm
      refine qno he ?_; clear he; (try clear a); intro a he
      refine qno he ?_; clear he; (try clear a); intro a he
      refine qno he ?_; clear he; (try clear a); intro a he
      refine qno he ?_; clear he; (try clear a); intro a he
      refine qno he ?_; clear he; (try clear a); intro a he
      refine qno he ?_; clear he; (try clear a); intro a he
      refine qno he ?_; clear he; (try clear a); intro a he
      refine qno he ?_; clear he; (try clear a); intro a he
      refine qno he ?_; clear he; (try clear a); intro a he
      refine qno he ?_; clear he; (try clear a); intro a he
      refine qno he ?_; clear he; (try clear a); intro a he
      refine qy (v := .bool (true)) he (y_pick rfl rfl) ?_; clear he; (try clear a); intro a he
      refine QL_nil he ?_; clear he; (try clear hs); (try clear a); intro a w hs
      exact ⟨true, hm, hs.sub ⟨rfl, rfl, rfl, rfl, rfl, trivial⟩⟩
     ·clear he; have he := hq; clear hq
      replace hm := oc_f hg10 hm
      refine qyg (v := a0) he (y_move rfl) ?_; clear he; (try clear a); intro a he
      refine qyg (v := .int .i64 (p1)) he (y_move rfl) ?_; clear he; (try clear a); intro a he
      refine qyg (v := .int .i64 (y5)) he (y_move rfl) ?_; clear he; (try clear a); intro a he
      refine qyg he (y_add rfl rfl rfl) ?_; clear he; (try clear a); intro a he
      obtain ⟨x11, hx12, hm⟩ := ob hm
      obtain ⟨r13, hr14, hq15, hi16, hb17⟩ := hW3.geti hx12
      obtain rfl : _ = ([.int .i32 (x11)] : List Value) := hq15
      refine qyg he (y_indexAddr hR2 rfl rfl hi16 hb17 Try.underlying32 ti21) ?_; clear he; (try clear a); intro a he
      refine qyg (v := .int .i32 (x11)) he (y_loadE (i := (w64 (p1 + y5)).toNat) (j := 0) hR2.up rfl hr14 rfl Try.underlying21 rfl) ?_; clear he; (try clear a); intro a he
      refine qyg (v := .string (p2)) he (y_move rfl) ?_; clear he; (try clear a); intro a he
      refine qyg (v := .int .i64 (y5)) he (y_move rfl) ?_; clear he; (try clear a); intro a he
      obtain ⟨x18, hx19, hm⟩ := ob hm
      refine qyg he (y_ixW rfl rfl Try.underlying9 hx19) ?_; clear he; (try clear a); intro a he
      refine qyg (v := .int .i32 ((IntKind.i32.wrap x18))) he (y_i2i rfl (by rw [Try.underlying5]; rfl) Try.underlying21 rfl) ?_; clear he; (try clear a); intro a he
      refine qyg he (y_neq rfl rfl) ?_; clear he; (try clear a); intro a he
      refine qy (v := .bool (decide (x11 ≠ (IntKind.i32.wrap x18)))) he (y_pick rfl rfl) ?_; clear he; (try clear a); intro a he
      refine QL_nil he ?_; clear he; (try clear hs); (try clear a); intro a w hs
      exact ⟨decide (x11 ≠ (IntKind.i32.wrap x18)), hm, hs.sub ⟨rfl, rfl, rfl, rfl, rfl, trivial⟩⟩
   ·replace hm := oc_f hg7 hm
    refine W_exit ?_
    refine hB5 _ _ ?_
    exact ⟨hm, hs.sub trivial⟩
/-! casement/casementref4.begins -/
def ref4_begins_k2 (y14 : Bool) : Option Bool :=
  some y14
def ref4_begins_k1 (n : Nat) (p0 : (List Int)) (p1 : Int) (y5 : Bool) : Option Bool :=
  (bif y5 then some false else
  (geti p0 (w64 (p1 + 1))).bind fun x7 =>
  (ref4_letter n x7).bind fun x15 =>
  (bif x15 then ref4_begins_k2 true else
  (bif (decide (x7 = 47)) then ref4_begins_k2 true else
  (bif (decide (x7 = 33)) then ref4_begins_k2 true else
  ref4_begins_k2 (decide (x7 = 63))))))
def ref4_begins (n : Nat) (p0 : (List Int)) (p1 : Int) : Option Bool :=
  (geti p0 p1).bind fun x20 =>
  (bif (decide (x20 ≠ 60)) then ref4_begins_k1 n p0 p1 true else
  ref4_begins_k1 n p0 p1 (decide ((p0.length : Int) ≤ (w64 (p1 + 1)))))
set_option maxRecDepth 20000 in
set_option maxHeartbeats 4000000 in
theorem ref4_begins_ok (n : Nat) {f : Fz} {p0 : (List Int)} {a0 : Value} {p1 : Int} {res : Bool} (h0 : RS (tInt .i32) f a0 p0) (hm : ref4_begins n p0 p1 = some res) : Gives Try.prog 50 [a0, .int .i64 p1] f (.bool res) := by
 unfold ref4_begins at hm
 intro w0 L w hC
 obtain ⟨rw1, hR2, hW3⟩ := h0
 refine enter Try.func50 rfl Try.ntmps50 (by simp) hC fun a hs => ?_
 have hle := Fz.le.refl f
 refine W_seq fun K1 hK1 => ?_
 refine W_region ?_
 refine sy (v := .bool (false)) hs (y_assign rfl) ?_; clear hs; (try clear a w); intro a w hs
 refine RL_nil ?_
 refine hK1 _ _ ?_; clear hK1
 refine W_seq fun K2 hK2 => ?_
 refine W_seq fun K3 hK3 => ?_
 refine W_post (fun a w => ∃ (y5 : Bool), ref4_begins_k1 n p0 p1 y5 = some res ∧ St 37 w0 f (L) [(0, a0), (1, .int .i64 (p1)), (17, .bool (y5))] a w) ?_ ?_
 ·clear hs hm
  rintro a w ⟨y5, hm, hs⟩
  replace hs : St _ _ _ (L) _ _ _ := hs
  unfold ref4_begins_k1 at hm
  refine hK3 _ _ ?_; clear hK3
  refine W_cond hs rfl (fun hg6 => ?_) (fun hg6 => ?_)
  ·replace hm := oc_t hg6 hm
   refine W_seq fun K4 hK4 => ?_
   refine W_region ?_
   refine sy (v := .bool (false)) hs (y_assign rfl) ?_; clear hs; (try clear a w); intro a w hs
   refine RL_nil ?_
   refine hK4 _ _ ?_; clear hK4
   refine W_ret ?_
   obtain rfl := Option.some.inj hm
   refine RtV1 hs rfl (rv_t hs rfl) ?_
   exact ⟨rfl, (hs.weak hle).cw⟩
  ·replace hm := oc_f hg6 hm
   refine W_skip ?_
   refine hK2 _ _ ?_; clear hK2
   refine W_seq fun K5 hK5 => ?_
   refine W_region ?_
   refine sy (v := a0) hs (y_move rfl) ?_; clear hs; (try clear a w); intro a w hs
   refine sy (v := .int .i64 (p1)) hs (y_move rfl) ?_; clear hs; (try clear a w); intro a w hs
   refine sy hs (y_add rfl rfl rfl) ?_; clear hs; (try clear a w); intro a w hs
   obtain ⟨x7, hx8, hm⟩ := ob hm
   obtain ⟨r9, hr10, hq11, hi12, hb13⟩ := hW3.geti hx8
   obtain rfl : _ = ([.int .i32 (x7)] : List Value) := hq11
   refine sy hs (y_indexAddr hR2 rfl rfl hi12 hb13 Try.underlying32 ti21) ?_; clear hs; (try clear a w); intro a w hs
   refine sy (v := .int .i32 (x7)) hs (y_loadE (i := (w64 (p1 + 1)).toNat) (j := 0) hR2.up rfl hr10 rfl Try.underlying21 rfl) ?_; clear hs; (try clear a w); intro a w hs
   refine sy (v := .int .i32 (x7)) hs (y_assign rfl) ?_; clear hs; (try clear a w); intro a w hs
   refine RL_nil ?_
   refine hK5 _ _ ?_; clear hK5
   refine W_seq fun K6 hK6 => ?_
   refine W_post (fun a w => ∃ (y14 : Bool), ref4_begins_k2 y14 = some res ∧ St 37 w0 f (L) [(4, .bool (y14))] a w) ?_ ?_
   ·clear hs hm
    rintro a w ⟨y14, hm, hs⟩
    replace hs : St _ _ _ (L) _ _ _ := hs
    unfold ref4_begins_k2 at hm
    refine hK6 _ _ ?_; clear hK6
    refine W_ret ?_
    obtain rfl := Option.some.inj hm
    refine RtV1 hs rfl (rv_t hs rfl) ?_
    exact ⟨rfl, (hs.weak hle).cw⟩
   ·refine W_region ?_
    refine sy (v := .int .i32 (x7)) hs (y_move rfl) ?_; clear hs; (try clear a w); intro a w hs
    obtain ⟨x15, hx16, hm⟩ := ob hm
    refine sy hs (y_call rfl has51 rfl (ref4_letter_ok n (f := f)  hx16)) ?_; clear hs; (try clear a w); intro a w hs
    refine sy (v := .bool (x15)) hs (y_move rfl) ?_; clear hs; (try clear a w); intro a w hs
    refine St.split hs (t := 25) rfl (fun hg17 hq => ?_) (fun hg17 hq => ?_)
    ·clear hs; have hs := hq; clear hq
     replace hm := oc_t hg17 hm
     refine sno hs ?_; clear hs; (try clear a w); intro a w hs
     refine sno hs ?_; clear hs; (try clear a w); intro a w hs
     refine sy (v := .bool (true)) hs (y_pick rfl rfl) ?_; clear hs; (try clear a w); intro a w hs
     refine sy (v := .bool (true)) hs (y_move rfl) ?_; clear hs; (try clear a w); intro a w hs
     refine sno hs ?_; clear hs; (try clear a w); intro a w hs
     refine sno hs ?_; clear hs; (try clear a w); intro a w hs
     refine sy (v := .bool (true)) hs (y_pick rfl rfl) ?_; clear hs; (try clear a w); intro a w hs
     refine sy (v := .bool (true)) hs (y_move rfl) ?_; clear hs; (try clear a w); intro a w hs
     refine sno hs ?_; clear hs; (try clear a w); intro a w hs
     refine sno hs ?_; clear hs; (try clear a w); intro a w hs
     refine sy (v := .bool (true)) hs (y_pick rfl rfl) ?_; clear hs; (try clear a w); intro a w hs
     refine sy (v := .bool (true)) hs (y_assign rfl) ?_; clear hs; (try clear a w); intro a w hs
     refine RL_nil ?_
     exact ⟨true, hm, hs.sub ⟨rfl, trivial⟩⟩
    ·clear hs; have hs := hq; clear hq
     replace hm := oc_f hg17 hm
     refine syg (v := .int .i32 (x7)) hs (y_move rfl) ?_; clear hs; (try clear a w); intro a w hs
     refine syg hs (y_eql rfl rfl) ?_; clear hs; (try clear a w); intro a w hs
     refine sy (v := .bool (decide (x7 = 47))) hs (y_pick rfl rfl) ?_; clear hs; (try clear a w); intro a w hs
     refine sy (v := .bool (decide (x7 = 47))) hs (y_move rfl) ?_; clear hs; (try clear a w); intro a w hs
     refine St.split hs (t := 29) rfl (fun hg18 hq => ?_) (fun hg18 hq => ?_)
     ·clear hs; have hs := hq; clear hq
      replace hm := oc_t hg18 hm
      refine sno hs ?_; clear hs; (try clear a w); intro a w hs
      refine sno hs ?_; clear hs; (try clear a w); intro a w hs
      refine sy (v := .bool (true)) hs (y_pick rfl rfl) ?_; clear hs; (try clear a w); intro a w hs
      refine sy (v := .bool (true)) hs (y_move rfl) ?_; clear hs; (try clear a w); intro a w hs
      refine sno hs ?_; clear hs; (try clear a w); intro a w hs
      refine sno hs ?_; clear hs; (try clear a w); intro a w hs
      refine sy (v := .bool (true)) hs (y_pick rfl rfl) ?_; clear hs; (try clear a w); intro a w hs
      refine sy (v := .bool (true)) hs (y_assign rfl) ?_; clear hs; (try clear a w); intro a w hs
      refine RL_nil ?_
      exact ⟨true, hm, hs.sub ⟨rfl, trivial⟩⟩
     ·clear hs; have hs := hq; clear hq
      replace hm := oc_f hg18 hm
      refine syg (v := .int .i32 (x7)) hs (y_move rfl) ?_; clear hs; (try clear a w); intro a w hs
      refine syg hs (y_eql rfl rfl) ?_; clear hs; (try clear a w); intro a w hs
      refine sy (v := .bool (decide (x7 = 33))) hs (y_pick rfl rfl) ?_; clear hs; (try clear a w); intro a w hs
      refine sy (v := .bool (decide (x7 = 33))) hs (y_move rfl) ?_; clear hs; (try clear a w); intro a w hs
      refine St.split hs (t := 33) rfl (fun hg19 hq => ?_) (fun hg19 hq => ?_)
      ·clear hs; have hs := hq; clear hq
       replace hm := oc_t hg19 hm
       refine sno hs ?_; clear hs; (try clear a w); intro a w hs
       refine sno hs ?_; clear hs; (try clear a w); intro a w hs
       refine sy (v := .bool (true)) hs (y_pick rfl rfl) ?_; clear hs; (try clear a w); intro a w hs
       refine sy (v := .bool (true)) hs (y_assign rfl) ?_; clear hs; (try clear a w); intro a w hs
       refine RL_nil ?_
       exact ⟨true, hm, hs.sub ⟨rfl, trivial⟩⟩
      ·clear hs; have hs := hq; clear hq
       replace hm := oc_f hg19 hm
       refine syg (v := .int .i32 (x7)) hs (y_move rfl) ?_; clear hs; (try clear a w); intro a w hs
       refine syg hs (y_eql rfl rfl) ?_; clear hs; (try clear a w); intro a w hs
       refine sy (v := .bool (decide (x7 = 63))) hs (y_pick rfl rfl) ?_; clear hs; (try clear a w); intro a w hs
       refine sy (v := .bool (decide (x7 = 63))) hs (y_assign rfl) ?_; clear hs; (try clear a w); intro a w hs
       refine RL_nil ?_
       exact ⟨decide (x7 = 63), hm, hs.sub ⟨rfl, trivial⟩⟩
 ·refine W_region ?_
  refine sy (v := a0) hs (y_move rfl) ?_; clear hs; (try clear a w); intro a w hs
  refine sy (v := .int .i64 (p1)) hs (y_move rfl) ?_; clear hs; (try clear a w); intro a w hs
  obtain ⟨x20, hx21, hm⟩ := ob hm
  obtain ⟨r22, hr23, hq24, hi25, hb26⟩ := hW3.geti hx21
  obtain rfl : _ = ([.int .i32 (x20)] : List Value) := hq24
  refine sy hs (y_indexAddr hR2 rfl rfl hi25 hb26 Try.underlying32 ti21) ?_; clear hs; (try clear a w); intro a w hs
  refine sy (v := .int .i32 (x20)) hs (y_loadE (i := p1.toNat) (j := 0) hR2.up rfl hr23 rfl Try.underlying21 rfl) ?_; clear hs; (try clear a w); intro a w hs
  refine sy hs (y_neq rfl rfl) ?_; clear hs; (try clear a w); intro a w hs
  refine sy (v := .bool (decide (x20 ≠ 60))) hs (y_move rfl) ?_; clear hs; (try clear a w); intro a w hs
  refine St.split hs (t := 11) rfl (fun hg27 hq => ?_) (fun hg27 hq => ?_)
  ·clear hs; have hs := hq; clear hq
   replace hm := oc_t hg27 hm
   refine sno hs ?_; clear hs; (try clear a w); intro a w hs
   refine sno hs ?_; clear hs; (try clear a w); intro a w hs
   refine sno hs ?_; clear hs; (try clear a w); intro a w hs
   refine sno hs ?_; clear hs; (try clear a w); intro a w hs
   refine sno hs ?_; clear hs; (try clear a w); intro a w hs
   refine sy (v := .bool (true)) hs (y_pick rfl rfl) ?_; clear hs; (try clear a w); intro a w hs
   refine RL_nil ?_
   exact ⟨true, hm, hs.sub ⟨rfl, rfl, rfl, trivial⟩⟩
  ·clear hs; have hs := hq; clear hq
   replace hm := oc_f hg27 hm
   refine syg (v := .int .i64 (p1)) hs (y_move rfl) ?_; clear hs; (try clear a w); intro a w hs
   refine syg hs (y_add rfl rfl rfl) ?_; clear hs; (try clear a w); intro a w hs
   refine syg (v := a0) hs (y_move rfl) ?_; clear hs; (try clear a w); intro a w hs
   refine syg hs (y_lenW hR2 hW3 rfl Try.underlying32) ?_; clear hs; (try clear a w); intro a w hs
   refine syg hs (y_geq rfl rfl) ?_; clear hs; (try clear a w); intro a w hs
   refine sy (v := .bool (decide ((p0.length : Int) ≤ (w64 (p1 + 1))))) hs (y_pick rfl rfl) ?_; clear hs; (try clear a w); intro a w hs
   refine RL_nil ?_
   exact ⟨decide ((p0.length : Int) ≤ (w64 (p1 + 1))), hm, hs.sub ⟨rfl, rfl, rfl, trivial⟩⟩
/-! casement/casementref4.behind -/
def ref4_behind_k1 (p0 : (List Int)) : Option Int :=
  some (p0.length : Int)
def ref4_behind_l2 (n : Nat) (p0 : (List Int)) (p2 : ByteArray) : Nat → Int → Option Int
  | 0, _ => none
  | k6 + 1, y5 =>
  (bif (decide (y5 < (p0.length : Int))) then (ref4_is n p0 y5 p2).bind fun x8 =>
  (bif x8 then some (w64 (y5 + (p2.size : Int))) else
  (ref4_behind_l2 n p0 p2 k6) (w64 (y5 + 1))) else
  ref4_behind_k1 p0)
def ref4_behind (n : Nat) (p0 : (List Int)) (p1 : Int) (p2 : ByteArray) : Option Int :=
  ref4_behind_l2 n p0 p2 n p1
set_option maxRecDepth 20000 in
set_option maxHeartbeats 4000000 in
theorem ref4_behind_ok (n : Nat) {f : Fz} {p0 : (List Int)} {a0 : Value} {p1 : Int} {p2 : ByteArray} {res : Int} (h0 : RS (tInt .i32) f a0 p0) (hm : ref4_behind n p0 p1 p2 = some res) : Gives Try.prog 55 [a0, .int .i64 p1, .string p2] f (.int .i64 res) := by
 unfold ref4_behind at hm
 intro w0 L w hC
 obtain ⟨rw1, hR2, hW3⟩ := h0
 refine enter Try.func55 rfl Try.ntmps55 (by simp) hC fun a hs => ?_
 have hle := Fz.le.refl f
 refine W_seq fun K1 hK1 => ?_
 refine W_region ?_
 refine sy (v := .int .i64 (0)) hs (y_assign rfl) ?_; clear hs; (try clear a w); intro a w hs
 refine RL_nil ?_
 refine hK1 _ _ ?_; clear hK1
 refine W_seq fun K2 hK2 => ?_
 refine W_post (fun a w => ref4_behind_k1 p0 = some res ∧ St 23 w0 f (L) [(0, a0)] a w) ?_ ?_
 ·clear hs hm
  rintro a w ⟨hm, hs⟩
  replace hs : St _ _ _ (L) _ _ _ := hs
  unfold ref4_behind_k1 at hm
  refine hK2 _ _ ?_; clear hK2
  refine W_seq fun K3 hK3 => ?_
  refine W_region ?_
  refine sy (v := a0) hs (y_move rfl) ?_; clear hs; (try clear a w); intro a w hs
  refine sy hs (y_lenW hR2 hW3 rfl Try.underlying32) ?_; clear hs; (try clear a w); intro a w hs
  refine sy (v := .int .i64 ((p0.length : Int))) hs (y_assign rfl) ?_; clear hs; (try clear a w); intro a w hs
  refine RL_nil ?_
  refine hK3 _ _ ?_; clear hK3
  refine W_ret ?_
  obtain rfl := Option.some.inj hm
  refine RtV1 hs rfl (rv_t hs rfl) ?_
  exact ⟨rfl, (hs.weak hle).cw⟩
 ·refine W_block fun Qe4 hB4 hO4 => ?_
  refine W_loop (fun (k : Nat) a w => ∃ (y5 : Int), ref4_behind_l2 n p0 p2 k y5 = some res ∧ St 23 w0 f (L) [(0, a0), (1, .int .i64 (y5)), (2, .string (p2))] a w) (fun k => k) n ⟨p1, hm, hs.sub ⟨rfl, rfl, rfl, trivial⟩⟩ ?_
  clear hs hm
  intro k
  rintro a w ⟨y5, hm, hs⟩
  replace hs : St _ _ _ (L) _ _ _ := hs
  intro K5 hK5
  cases k with
  | zero => simp [ref4_behind_l2] at hm
  | succ k6 =>
   rw [ref4_behind_l2] at hm
   refine W_seq fun K6 hK6 => ?_
   refine W_seq fun K7 hK7 => ?_
   refine W_region ?_
   refine sy (v := .int .i64 (y5)) hs (y_move rfl) ?_; clear hs; (try clear a w); intro a w hs
   refine sy (v := a0) hs (y_move rfl) ?_; clear hs; (try clear a w); intro a w hs
   refine sy hs (y_lenW hR2 hW3 rfl Try.underlying32) ?_; clear hs; (try clear a w); intro a w hs
   refine sy hs (y_lss rfl rfl) ?_; clear hs; (try clear a w); intro a w hs
   refine RL_nil ?_
   refine hK7 _ _ ?_; clear hK7
   refine W_cond hs rfl (fun hg7 => ?_) (fun hg7 => ?_)
   ·replace hm := oc_t hg7 hm
    refine W_skip ?_
    refine hK6 _ _ ?_; clear hK6
    refine W_block fun Qe8 hB8 hO8 => ?_
    refine W_seq fun K9 hK9 => ?_
    refine W_seq fun K10 hK10 => ?_
    refine W_region ?_
    refine sy (v := a0) hs (y_move rfl) ?_; clear hs; (try clear a w); intro a w hs
    refine sy (v := .int .i64 (y5)) hs (y_move rfl) ?_; clear hs; (try clear a w); intro a w hs
    refine sy (v := .string (p2)) hs (y_move rfl) ?_; clear hs; (try clear a w); intro a w hs
    obtain ⟨x8, hx9, hm⟩ := ob hm
    refine sy hs (y_call rfl has54 rfl (ref4_is_ok n (f := f) (a0 := a0) ⟨rw1, hR2, hW3⟩ hx9)) ?_; clear hs; (try clear a w); intro a w hs
    refine RL_nil ?_
    refine hK10 _ _ ?_; clear hK10
    refine W_cond hs rfl (fun hg10 => ?_) (fun hg10 => ?_)
    ·replace hm := oc_t hg10 hm
     refine W_seq fun K11 hK11 => ?_
     refine W_region ?_
     refine sy (v := .int .i64 (y5)) hs (y_move rfl) ?_; clear hs; (try clear a w); intro a w hs
     refine sy (v := .string (p2)) hs (y_move rfl) ?_; clear hs; (try clear a w); intro a w hs
     refine sy hs (y_lenS rfl Try.underlying9) ?_; clear hs; (try clear a w); intro a w hs
     refine sy hs (y_add rfl rfl rfl) ?_; clear hs; (try clear a w); intro a w hs
     refine sy (v := .int .i64 ((w64 (y5 + (p2.size : Int))))) hs (y_assign rfl) ?_; clear hs; (try clear a w); intro a w hs
     refine RL_nil ?_
     refine hK11 _ _ ?_; clear hK11
     refine W_ret ?_
     obtain rfl := Option.some.inj hm
     refine RtV1 hs rfl (rv_t hs rfl) ?_
     exact ⟨rfl, (hs.weak hle).cw⟩
    ·replace hm := oc_f hg10 hm
     refine W_skip ?_
     refine hK9 _ _ ?_; clear hK9
     refine W_region ?_
     refine sy (v := .int .i64 (y5)) hs (y_move rfl) ?_; clear hs; (try clear a w); intro a w hs
     refine sy hs (y_add rfl rfl rfl) ?_; clear hs; (try clear a w); intro a w hs
     refine sy (v := .int .i64 ((w64 (y5 + 1)))) hs (y_assign rfl) ?_; clear hs; (try clear a w); intro a w hs
     refine RL_nil ?_
     exact hK5 k6 _ _ (Nat.lt_succ_self _) ⟨(w64 (y5 + 1)), hm, hs.sub ⟨rfl, rfl, rfl, trivial⟩⟩
   ·replace hm := oc_f hg7 hm
    refine W_exit ?_
    refine hB4 _ _ ?_
    exact ⟨hm, hs.sub ⟨rfl, trivial⟩⟩
/-! casement/casementref4.add -/
def ref4_add_k1 (p0 : (List api_Attr)) (p1 : api_Attr) : Option (List api_Attr) :=
  (bif (decide (64 ≤ (p0.length : Int))) then some p0 else
  (appM 32 p0 [p1]).bind fun x12 =>
  some x12)
def ref4_add_l2 (p0 : (List api_Attr)) (p1 : api_Attr) : Nat → Int → Option (List api_Attr)
  | 0, _ => none
  | k19 + 1, y18 =>
  (bif (decide (y18 < (p0.length : Int))) then (geti p0 y18).bind fun x21 =>
  (bif (decide (x21.Name = p1.Name)) then some p0 else
  (ref4_add_l2 p0 p1 k19) (w64 (y18 + 1))) else
  ref4_add_k1 p0 p1)
def ref4_add (n : Nat) (p0 : (List api_Attr)) (p1 : api_Attr) : Option (List api_Attr) :=
  ref4_add_l2 p0 p1 n 0
set_option maxRecDepth 20000 in
set_option maxHeartbeats 4000000 in
theorem ref4_add_ok (n : Nat) {f : Fz} {p0 : (List api_Attr)} {a0 : Value} {a0r : List (List Value)} {p1 : api_Attr} {a1 : List Value} {res : (List api_Attr)} (h0 : RW t_api_Attr f a0r p0) (h1 : t_api_Attr.R f a1 p1) (hm : ref4_add n p0 p1 = some res) : Does Try.prog 76 [a0, .agg a1.toArray] f [.row a0 29 2 a0r] (fun r f' L' => ∃ (u0 : Value) (u0r : List (List Value)), L' = [.row u0 29 2 u0r] ∧ r = u0 ∧ RW t_api_Attr f' u0r res) := by
 unfold ref4_add at hm
 intro w0 L w hC
 replace hC : Cw w0 f (.row a0 29 2 a0r :: L) w := hC
 obtain rfl : _ = ([.string (p1.Name), .string (p1.Value)] : List Value) := h1
 refine enter Try.func76 rfl Try.ntmps76 (by simp) hC fun a hs => ?_
 have hle := Fz.le.refl f
 refine W_seq fun K1 hK1 => ?_
 refine W_region ?_
 refine sbox hs rfl ?_; clear hs; (try clear a w); intro b3 a w hs
 replace hs : St _ _ _ (.blk b3 (.cells #[.string (p1.Name), .string (p1.Value)] 29 (0, 0)) :: .row a0 29 2 a0r :: L) _ _ _ := hs
 refine sy (v := (.slice none 0 0)) hs (y_assign rfl) ?_; clear hs; (try clear a w); intro a w hs
 refine RL_nil ?_
 refine hK1 _ _ ?_; clear hK1
 refine W_seq fun K2 hK2 => ?_
 refine W_seq fun K3 hK3 => ?_
 refine W_region ?_
 refine sy (v := .int .i64 (0)) hs (y_assign rfl) ?_; clear hs; (try clear a w); intro a w hs
 refine RL_nil ?_
 refine hK3 _ _ ?_; clear hK3
 refine W_post (fun a w => ref4_add_k1 p0 p1 = some res ∧ St 29 w0 f (.blk b3 (.cells #[.string (p1.Name), .string (p1.Value)] 29 (0, 0)) :: .row a0 29 2 a0r :: L) [(0, a0), (3, .pointer (some ⟨b3, 0, none⟩))] a w) ?_ ?_
 ·clear hs hm
  rintro a w ⟨hm, hs⟩
  replace hs : St _ _ _ (.blk b3 (.cells #[.string (p1.Name), .string (p1.Value)] 29 (0, 0)) :: .row a0 29 2 a0r :: L) _ _ _ := hs
  unfold ref4_add_k1 at hm
  refine hK2 _ _ ?_; clear hK2
  refine W_seq fun K4 hK4 => ?_
  refine W_seq fun K5 hK5 => ?_
  refine W_region ?_
  refine sy (v := a0) hs (y_move rfl) ?_; clear hs; (try clear a w); intro a w hs
  refine sy hs (y_lenW (Rd.st hs (.tail _ (.head _))) h0 rfl Try.underlying23) ?_; clear hs; (try clear a w); intro a w hs
  refine sy hs (y_geq rfl rfl) ?_; clear hs; (try clear a w); intro a w hs
  refine RL_nil ?_
  refine hK5 _ _ ?_; clear hK5
  refine W_cond hs rfl (fun hg6 => ?_) (fun hg6 => ?_)
  ·replace hm := oc_t hg6 hm
   refine W_seq fun K6 hK6 => ?_
   refine W_region ?_
   refine sy (v := a0) hs (y_move rfl) ?_; clear hs; (try clear a w); intro a w hs
   refine sy (v := a0) hs (y_assign rfl) ?_; clear hs; (try clear a w); intro a w hs
   refine RL_nil ?_
   refine hK6 _ _ ?_; clear hK6
   refine W_ret ?_
   obtain rfl := Option.some.inj hm
   refine RtV1 hs rfl (rv_t hs rfl) ?_
   exact ⟨_, f, [.row a0 29 2 a0r], rfl, hle, (hs.subL (.cons _ (.cons_cons _ (.refl _)))).cw, a0, a0r, rfl, rfl, h0⟩
  ·replace hm := oc_f hg6 hm
   refine W_skip ?_
   refine hK4 _ _ ?_; clear hK4
   refine W_seq fun K7 hK7 => ?_
   refine W_region ?_
   refine sy (v := a0) hs (y_move rfl) ?_; clear hs; (try clear a w); intro a w hs
   refine sy hs (y_ldB rfl Try.underlying29 rfl ti29 (.head _) rfl) ?_; clear hs; (try clear a w); intro a w hs
   refine RL_bs1a hs rfl Try.underlying23 ti29 (by decide) (AllC.row ⟨rfl, rfl, trivial⟩ rfl) ?_; clear hs; (try clear a w); intro v7 a w hs
   have hW8 : RW t_api_Attr f [[.string (p1.Name), .string (p1.Value)]] [p1] := RW.single (rfl)
   generalize hgrw9 : ([[.string (p1.Name), .string (p1.Value)]] : List (List Value)) = rw9 at hs hW8; clear hgrw9
   replace hs : St _ _ _ (.row v7 29 2 rw9 :: .blk b3 (.cells #[.string (p1.Name), .string (p1.Value)] 29 (0, 0)) :: .row a0 29 2 a0r :: L) _ _ _ := hs
   obtain ⟨x12, hx13, hm⟩ := ob hm
   obtain ⟨hbx12, hex12⟩ := appM_some hx13
   have hW16 := h0.append hW8; rw [hex12] at hW16
   refine RL_append (i := 2) hs rfl rfl rfl (Rd.st hs (.head _)) Try.underlying23 ti29 (by decide) (by rw [RW.len h0, RW.len hW8]; exact hbx12) (.free rfl) (by decide) ?_; clear hs; (try clear a w); intro v14 a w hs
   generalize hgx12 : a0r ++ rw9 = rw15 at hs hW16; clear hgx12
   replace hs := hs.erase 0
   replace hs : St _ _ _ (.blk b3 (.cells #[.string (p1.Name), .string (p1.Value)] 29 (0, 0)) :: .row v14 29 2 rw15 :: L) _ _ _ := hs
   refine sy (v := v14) hs (y_assign rfl) ?_; clear hs; (try clear a w); intro a w hs
   refine RL_nil ?_
   refine hK7 _ _ ?_; clear hK7
   refine W_ret ?_
   obtain rfl := Option.some.inj hm
   refine RtV1 hs rfl (rv_t hs rfl) ?_
   exact ⟨_, f, [.row v14 29 2 rw15], rfl, hle, (hs.subL (.cons _ (.cons_cons _ (.refl _)))).cw, v14, rw15, rfl, rfl, hW16⟩
 ·refine W_block fun Qe8 hB8 hO8 => ?_
  refine W_loop (fun (k : Nat) a w => ∃ (y18 : Int), ref4_add_l2 p0 p1 k y18 = some res ∧ St 29 w0 f (.blk b3 (.cells #[.string (p1.Name), .string (p1.Value)] 29 (0, 0)) :: .row a0 29 2 a0r :: L) [(0, a0), (3, .pointer (some ⟨b3, 0, none⟩)), (5, .int .i64 (y18))] a w) (fun k => k) n ⟨0, hm, hs.sub ⟨rfl, rfl, rfl, trivial⟩⟩ ?_
  clear hs hm
  intro k
  rintro a w ⟨y18, hm, hs⟩
  replace hs : St _ _ _ (.blk b3 (.cells #[.string (p1.Name), .string (p1.Value)] 29 (0, 0)) :: .row a0 29 2 a0r :: L) _ _ _ := hs
  intro K9 hK9
  cases k with
  | zero => simp [ref4_add_l2] at hm
  | succ k19 =>
   rw [ref4_add_l2] at hm
   refine W_seq fun K10 hK10 => ?_
   refine W_seq fun K11 hK11 => ?_
   refine W_region ?_
   refine sy (v := .int .i64 (y18)) hs (y_move rfl) ?_; clear hs; (try clear a w); intro a w hs
   refine sy (v := a0) hs (y_move rfl) ?_; clear hs; (try clear a w); intro a w hs
   refine sy hs (y_lenW (Rd.st hs (.tail _ (.head _))) h0 rfl Try.underlying23) ?_; clear hs; (try clear a w); intro a w hs
   refine sy hs (y_lss rfl rfl) ?_; clear hs; (try clear a w); intro a w hs
   refine RL_nil ?_
   refine hK11 _ _ ?_; clear hK11
   refine W_cond hs rfl (fun hg20 => ?_) (fun hg20 => ?_)
   ·replace hm := oc_t hg20 hm
    refine W_skip ?_
    refine hK10 _ _ ?_; clear hK10
    refine W_seq fun K12 hK12 => ?_
    refine W_block fun Qe13 hB13 hO13 => ?_
    refine W_seq fun K14 hK14 => ?_
    refine W_draw hs mixed (by kernel_rfl) ?_; intro a he
    refine qy (v := a0) he (y_move rfl) ?_; clear he; (try clear a); intro a he
    refine qy (v := .int .i64 (y18)) he (y_move rfl) ?_; clear he; (try clear a); intro a he
    obtain ⟨x21, hx22, hm⟩ := ob hm
    obtain ⟨r23, hr24, hq25, hi26, hb27⟩ := h0.geti hx22
    obtain rfl : _ = ([.string (x21.Name), .string (x21.Value)] : List Value) := hq25
    refine qy he (y_indexAddr (Rd.st hs (.tail _ (.head _))) rfl rfl hi26 hb27 Try.underlying23 ti29) ?_; clear he; (try clear a); intro a he
    refine qy (v := eaddr a0 2 y18.toNat 0) he (y_fieldAddrE (i := y18.toNat) (j := 0) (Rd.st hs (.tail _ (.head _))) rfl hb27 (FO.of (off := 0) Try.underlying29 rfl rfl ti9 (by decide))) ?_; clear he; (try clear a); intro a he
    refine qy (v := .string (x21.Name)) he (y_loadE (i := y18.toNat) (j := 0) (Rd.st hs (.tail _ (.head _))) rfl hr24 rfl Try.underlying9 rfl) ?_; clear he; (try clear a); intro a he
    refine qy (v := .pointer (some ⟨b3, 0, none⟩)) he (y_fieldAddr rfl (FO.of (off := 0) Try.underlying29 rfl rfl ti9 (by decide))) ?_; clear he; (try clear a); intro a he
    refine qy (v := .string (p1.Name)) he (y_ld rfl Try.underlying9 rfl (Cell.blk (.head _) rfl)) ?_; clear he; (try clear a); intro a he
    refine qy he (y_seql rfl rfl) ?_; clear he; (try clear a); intro a he
    refine QL_nil he ?_; clear he; (try clear hs); (try clear a); intro a w hs
    refine hK14 _ _ ?_; clear hK14
    refine W_cond hs rfl (fun hg28 => ?_) (fun hg28 => ?_)
    ·replace hm := oc_t hg28 hm
     refine W_seq fun K15 hK15 => ?_
     refine W_region ?_
     refine sy (v := a0) hs (y_move rfl) ?_; clear hs; (try clear a w); intro a w hs
     refine sy (v := a0) hs (y_assign rfl) ?_; clear hs; (try clear a w); intro a w hs
     refine RL_nil ?_
     refine hK15 _ _ ?_; clear hK15
     refine W_ret ?_
     obtain rfl := Option.some.inj hm
     refine RtV1 hs rfl (rv_t hs rfl) ?_
     exact ⟨_, f, [.row a0 29 2 a0r], rfl, hle, (hs.subL (.cons _ (.cons_cons _ (.refl _)))).cw, a0, a0r, rfl, rfl, h0⟩
    ·replace hm := oc_f hg28 hm
     refine W_skip ?_
     refine hK12 _ _ ?_; clear hK12
     refine W_region ?_
     refine sy (v := .int .i64 (y18)) hs (y_move rfl) ?_; clear hs; (try clear a w); intro a w hs
     refine sy hs (y_add rfl rfl rfl) ?_; clear hs; (try clear a w); intro a w hs
     refine sy (v := .int .i64 ((w64 (y18 + 1)))) hs (y_assign rfl) ?_; clear hs; (try clear a w); intro a w hs
     refine RL_nil ?_
     exact hK9 k19 _ _ (Nat.lt_succ_self _) ⟨(w64 (y18 + 1)), hm, hs.sub ⟨rfl, rfl, rfl, trivial⟩⟩
   ·replace hm := oc_f hg20 hm
    refine W_exit ?_
    refine hB8 _ _ ?_
    exact ⟨hm, hs.sub ⟨rfl, rfl, trivial⟩⟩
/-! casement/casementref4.blanks -/
def ref4_blanks_k1 (y5 : Int) : Option Int :=
  some y5
def ref4_blanks_k3 (y6 : Int) (lp7 : Int → Option Int) (y8 : Bool) : Option Int :=
  (bif y8 then lp7 (w64 (y6 + 1)) else
  ref4_blanks_k1 y6)
def ref4_blanks_l2 (n : Nat) (p0 : (List Int)) : Nat → Int → Option Int
  | 0, _ => none
  | k7 + 1, y6 =>
  (bif (decide (y6 < (p0.length : Int))) then (geti p0 y6).bind fun x11 =>
  (ref4_Blank n x11).bind fun x18 =>
  ref4_blanks_k3 y6 (ref4_blanks_l2 n p0 k7) x18 else
  ref4_blanks_k3 y6 (ref4_blanks_l2 n p0 k7) false)
def ref4_blanks (n : Nat) (p0 : (List Int)) (p1 : Int) : Option Int :=
  ref4_blanks_l2 n p0 n p1
set_option maxRecDepth 20000 in
set_option maxHeartbeats 4000000 in
theorem ref4_blanks_ok (n : Nat) {f : Fz} {p0 : (List Int)} {a0 : Value} {p1 : Int} {res : Int} (h0 : RS (tInt .i32) f a0 p0) (hm : ref4_blanks n p0 p1 = some res) : Gives Try.prog 83 [a0, .int .i64 p1] f (.int .i64 res) := by
 unfold ref4_blanks at hm
 intro w0 L w hC
 obtain ⟨rw1, hR2, hW3⟩ := h0
 refine enter Try.func83 rfl Try.ntmps83 (by simp) hC fun a hs => ?_
 have hle := Fz.le.refl f
 refine W_seq fun K1 hK1 => ?_
 refine W_region ?_
 refine sy (v := .int .i64 (0)) hs (y_assign rfl) ?_; clear hs; (try clear a w); intro a w hs
 refine RL_nil ?_
 refine hK1 _ _ ?_; clear hK1
 refine W_seq fun K2 hK2 => ?_
 refine W_post (fun a w => ∃ (y5 : Int), ref4_blanks_k1 y5 = some res ∧ St 19 w0 f (L) [(1, .int .i64 (y5))] a w) ?_ ?_
 ·clear hs hm
  rintro a w ⟨y5, hm, hs⟩
  replace hs : St _ _ _ (L) _ _ _ := hs
  unfold ref4_blanks_k1 at hm
  refine hK2 _ _ ?_; clear hK2
  refine W_seq fun K3 hK3 => ?_
  refine W_region ?_
  refine sy (v := .int .i64 (y5)) hs (y_move rfl) ?_; clear hs; (try clear a w); intro a w hs
  refine sy (v := .int .i64 (y5)) hs (y_assign rfl) ?_; clear hs; (try clear a w); intro a w hs
  refine RL_nil ?_
  refine hK3 _ _ ?_; clear hK3
  refine W_ret ?_
  obtain rfl := Option.some.inj hm
  refine RtV1 hs rfl (rv_t hs rfl) ?_
  exact ⟨rfl, (hs.weak hle).cw⟩
 ·refine W_block fun Qe4 hB4 hO4 => ?_
  refine W_loop (fun (k : Nat) a w => ∃ (y6 : Int), ref4_blanks_l2 n p0 k y6 = some res ∧ St 19 w0 f (L) [(0, a0), (1, .int .i64 (y6))] a w) (fun k => k) n ⟨p1, hm, hs.sub ⟨rfl, rfl, trivial⟩⟩ ?_
  clear hs hm
  intro k
  rintro a w ⟨y6, hm, hs⟩
  replace hs : St _ _ _ (L) _ _ _ := hs
  intro K5 hK5
  cases k with
  | zero => simp [ref4_blanks_l2] at hm
  | succ k7 =>
   rw [ref4_blanks_l2] at hm
   refine W_seq fun K6 hK6 => ?_
   refine W_seq fun K7 hK7 => ?_
   refine W_post (fun a w => ∃ (y8 : Bool), ref4_blanks_k3 y6 (ref4_blanks_l2 n p0 k7) y8 = some res ∧ St 19 w0 f (L) [(0, a0), (1, .int .i64 (y6)), (15, .bool (y8))] a w) ?_ ?_
   ·clear hs hm
    rintro a w ⟨y8, hm, hs⟩
    replace hs : St _ _ _ (L) _ _ _ := hs
    unfold ref4_blanks_k3 at hm
    refine hK7 _ _ ?_; clear hK7
    refine W_cond hs rfl (fun hg9 => ?_) (fun hg9 => ?_)
    ·replace hm := oc_t hg9 hm
     refine W_skip ?_
     refine hK6 _ _ ?_; clear hK6
     refine W_block fun Qe8 hB8 hO8 => ?_
     refine W_region ?_
     refine sy (v := .int .i64 (y6)) hs (y_move rfl) ?_; clear hs; (try clear a w); intro a w hs
     refine sy hs (y_add rfl rfl rfl) ?_; clear hs; (try clear a w); intro a w hs
     refine sy (v := .int .i64 ((w64 (y6 + 1)))) hs (y_assign rfl) ?_; clear hs; (try clear a w); intro a w hs
     refine RL_nil ?_
     exact hK5 k7 _ _ (Nat.lt_succ_self _) ⟨(w64 (y6 + 1)), hm, hs.sub ⟨rfl, rfl, trivial⟩⟩
    ·replace hm := oc_f hg9 hm
     refine W_exit ?_
     refine hB4 _ _ ?_
     exact ⟨y6, hm, hs.sub ⟨rfl, trivial⟩⟩
   ·refine W_region ?_
    refine sy (v := .int .i64 (y6)) hs (y_move rfl) ?_; clear hs; (try clear a w); intro a w hs
    refine sy (v := a0) hs (y_move rfl) ?_; clear hs; (try clear a w); intro a w hs
    refine sy hs (y_lenW hR2 hW3 rfl Try.underlying32) ?_; clear hs; (try clear a w); intro a w hs
    refine sy hs (y_lss rfl rfl) ?_; clear hs; (try clear a w); intro a w hs
    refine sy (v := .bool (decide (y6 < (p0.length : Int)))) hs (y_move rfl) ?_; clear hs; (try clear a w); intro a w hs
    refine St.split hs (t := 9) rfl (fun hg10 hq => ?_) (fun hg10 hq => ?_)
    ·clear hs; have hs := hq; clear hq
     replace hm := oc_t hg10 hm
     refine syg (v := a0) hs (y_move rfl) ?_; clear hs; (try clear a w); intro a w hs
     refine syg (v := .int .i64 (y6)) hs (y_move rfl) ?_; clear hs; (try clear a w); intro a w hs
     obtain ⟨x11, hx12, hm⟩ := ob hm
     obtain ⟨r13, hr14, hq15, hi16, hb17⟩ := hW3.geti hx12
     obtain rfl : _ = ([.int .i32 (x11)] : List Value) := hq15
     refine syg hs (y_indexAddr hR2 rfl rfl hi16 hb17 Try.underlying32 ti21) ?_; clear hs; (try clear a w); intro a w hs
     refine syg (v := .int .i32 (x11)) hs (y_loadE (i := y6.toNat) (j := 0) hR2.up rfl hr14 rfl Try.underlying21 rfl) ?_; clear hs; (try clear a w); intro a w hs
     obtain ⟨x18, hx19, hm⟩ := ob hm
     refine syg hs (y_call rfl has73 rfl (ref4_Blank_ok n (f := f)  hx19)) ?_; clear hs; (try clear a w); intro a w hs
     refine sy (v := .bool (x18)) hs (y_pick rfl rfl) ?_; clear hs; (try clear a w); intro a w hs
     refine RL_nil ?_
     exact ⟨x18, hm, hs.sub ⟨rfl, rfl, rfl, trivial⟩⟩
    ·clear hs; have hs := hq; clear hq
     replace hm := oc_f hg10 hm
     refine sno hs ?_; clear hs; (try clear a w); intro a w hs
     refine sno hs ?_; clear hs; (try clear a w); intro a w hs
     refine sno hs ?_; clear hs; (try clear a w); intro a w hs
     refine sno hs ?_; clear hs; (try clear a w); intro a w hs
     refine sno hs ?_; clear hs; (try clear a w); intro a w hs
     refine sy (v := .bool (false)) hs (y_pick rfl rfl) ?_; clear hs; (try clear a w); intro a w hs
     refine RL_nil ?_
     exact ⟨false, hm, hs.sub ⟨rfl, rfl, rfl, trivial⟩⟩
/-! casement/casementref4.attr -/
def ref4_attr_k5 (x15 : ByteArray) (x35 : ByteArray) (y37 : Int) : Option (api_Attr × Int) :=
  some (({Name := x15, Value := x35} : api_Attr), y37)
def ref4_attr_k4 (n : Nat) (p0 : (List Int)) (x15 : ByteArray) (x23 : Int) (y27 : Int) : Option (api_Attr × Int) :=
  (cutM p0 ((w64 (x23 + 1)) : Int) y27).bind fun x28 =>
  (ref4_Unescape n (textOf x28)).bind fun x35 =>
  (bif (decide (y27 < (p0.length : Int))) then ref4_attr_k5 x15 x35 (w64 (y27 + 1)) else
  ref4_attr_k5 x15 x35 y27)
def ref4_attr_k7 (n : Nat) (p0 : (List Int)) (x15 : ByteArray) (x23 : Int) (y39 : Int) (lp40 : Int → Option (api_Attr × Int)) (y41 : Bool) : Option (api_Attr × Int) :=
  (bif y41 then lp40 (w64 (y39 + 1)) else
  ref4_attr_k4 n p0 x15 x23 y39)
def ref4_attr_l6 (n : Nat) (p0 : (List Int)) (x15 : ByteArray) (x23 : Int) : Nat → Int → Option (api_Attr × Int)
  | 0, _ => none
  | k40 + 1, y39 =>
  (bif (decide (y39 < (p0.length : Int))) then (geti p0 y39).bind fun x44 =>
  (geti p0 x23).bind fun x51 =>
  ref4_attr_k7 n p0 x15 x23 y39 (ref4_attr_l6 n p0 x15 x23 k40) (decide (x44 ≠ x51)) else
  ref4_attr_k7 n p0 x15 x23 y39 (ref4_attr_l6 n p0 x15 x23 k40) false)
def ref4_attr_k8 (n : Nat) (p0 : (List Int)) (x15 : ByteArray) (x23 : Int) (y58 : Int) : Option (api_Attr × Int) :=
  (cutM p0 (x23 : Int) y58).bind fun x59 =>
  (ref4_Unescape n (textOf x59)).bind fun x66 =>
  some (({Name := x15, Value := x66} : api_Attr), y58)
def ref4_attr_k10 (n : Nat) (p0 : (List Int)) (x15 : ByteArray) (x23 : Int) (y68 : Int) (lp69 : Int → Option (api_Attr × Int)) (y70 : Bool) : Option (api_Attr × Int) :=
  (bif y70 then lp69 (w64 (y68 + 1)) else
  ref4_attr_k8 n p0 x15 x23 y68)
def ref4_attr_l9 (n : Nat) (p0 : (List Int)) (x15 : ByteArray) (x23 : Int) : Nat → Int → Option (api_Attr × Int)
  | 0, _ => none
  | k69 + 1, y68 =>
  (bif (decide (y68 < (p0.length : Int))) then (geti p0 y68).bind fun x73 =>
  (ref4_Blank n x73).bind fun x80 =>
  (bif (!x80) then (geti p0 y68).bind fun x83 =>
  ref4_attr_k10 n p0 x15 x23 y68 (ref4_attr_l9 n p0 x15 x23 k69) (decide (x83 ≠ 62)) else
  ref4_attr_k10 n p0 x15 x23 y68 (ref4_attr_l9 n p0 x15 x23 k69) false) else
  ref4_attr_k10 n p0 x15 x23 y68 (ref4_attr_l9 n p0 x15 x23 k69) false)
def ref4_attr_k3 (n : Nat) (p0 : (List Int)) (x15 : ByteArray) (x23 : Int) (y25 : Bool) : Option (api_Attr × Int) :=
  (bif y25 then ref4_attr_l6 n p0 x15 x23 n (w64 (x23 + 1)) else
  ref4_attr_l9 n p0 x15 x23 n x23)
def ref4_attr_k2 (n : Nat) (p0 : (List Int)) (x15 : ByteArray) (x19 : Int) (y21 : Bool) : Option (api_Attr × Int) :=
  (bif y21 then some (({Name := x15, Value := (bs [])} : api_Attr), x19) else
  (ref4_blanks n p0 (w64 (x19 + 1))).bind fun x23 =>
  (bif (decide (x23 < (p0.length : Int))) then (geti p0 x23).bind fun x91 =>
  (bif (decide (x91 = 34)) then ref4_attr_k3 n p0 x15 x23 true else
  (geti p0 x23).bind fun x99 =>
  ref4_attr_k3 n p0 x15 x23 (decide (x99 = 39))) else
  ref4_attr_k3 n p0 x15 x23 false))
def ref4_attr_k1 (n : Nat) (p0 : (List Int)) (p1 : Int) (y7 : Int) : Option (api_Attr × Int) :=
  (cutM p0 (p1 : Int) y7).bind fun x8 =>
  (ref4_Small n x8).bind fun x15 =>
  (ref4_blanks n p0 y7).bind fun x19 =>
  (bif (decide ((p0.length : Int) ≤ x19)) then ref4_attr_k2 n p0 x15 x19 true else
  (geti p0 x19).bind fun x107 =>
  ref4_attr_k2 n p0 x15 x19 (decide (x107 ≠ 61)))
def ref4_attr_k12 (n : Nat) (p0 : (List Int)) (p1 : Int) (y114 : Int) (lp115 : Int → Option (api_Attr × Int)) (y116 : Bool) : Option (api_Attr × Int) :=
  (bif y116 then lp115 (w64 (y114 + 1)) else
  ref4_attr_k1 n p0 p1 y114)
def ref4_attr_l11 (n : Nat) (p0 : (List Int)) (p1 : Int) : Nat → Int → Option (api_Attr × Int)
  | 0, _ => none
  | k115 + 1, y114 =>
  (bif (decide (y114 < (p0.length : Int))) then (geti p0 y114).bind fun x119 =>
  (ref4_Blank n x119).bind fun x126 =>
  (bif (!x126) then (geti p0 y114).bind fun x129 =>
  (bif (decide (x129 ≠ 61)) then (geti p0 y114).bind fun x137 =>
  (bif (decide (x137 ≠ 47)) then (geti p0 y114).bind fun x145 =>
  ref4_attr_k12 n p0 p1 y114 (ref4_attr_l11 n p0 p1 k115) (decide (x145 ≠ 62)) else
  ref4_attr_k12 n p0 p1 y114 (ref4_attr_l11 n p0 p1 k115) false) else
  ref4_attr_k12 n p0 p1 y114 (ref4_attr_l11 n p0 p1 k115) false) else
  ref4_attr_k12 n p0 p1 y114 (ref4_attr_l11 n p0 p1 k115) false) else
  ref4_attr_k12 n p0 p1 y114 (ref4_attr_l11 n p0 p1 k115) false)
def ref4_attr (n : Nat) (p0 : (List Int)) (p1 : Int) : Option (api_Attr × Int) :=
  ref4_attr_l11 n p0 p1 n (w64 (p1 + 1))
set_option maxRecDepth 20000 in
set_option maxHeartbeats 4000000 in
theorem ref4_attr_ok (n : Nat) {f : Fz} {p0 : (List Int)} {a0 : Value} {p1 : Int} {res : (api_Attr × Int)} (h0 : RS (tInt .i32) f a0 p0) (hm : ref4_attr n p0 p1 = some res) : Gives Try.prog 75 [a0, .int .i64 p1] f (.tuple #[.agg #[.string res.1.Name, .string res.1.Value], .int .i64 res.2]) := by
 unfold ref4_attr at hm
 intro w0 L w hC
 obtain ⟨rw1, hR2, hW3⟩ := h0
 refine enter Try.func75 rfl Try.ntmps75 (by simp) hC fun a hs => ?_
 have hle := Fz.le.refl f
 refine W_seq fun K1 hK1 => ?_
 refine W_region ?_
 refine RL_alloc hs ti29 (.free rfl) (by decide) ?_; clear hs; (try clear a w); intro b5 a w hs
 replace hs : St _ _ _ (.blk b5 (.cells #[.string ((bs [])), .string ((bs []))] 29 (0, 0)) :: L) _ _ _ := hs
 refine sy (v := .int .i64 (0)) hs (y_assign rfl) ?_; clear hs; (try clear a w); intro a w hs
 refine RL_nil ?_
 refine hK1 _ _ ?_; clear hK1
 refine W_seq fun K2 hK2 => ?_
 refine W_region ?_
 refine sy (v := .int .i64 (p1)) hs (y_move rfl) ?_; clear hs; (try clear a w); intro a w hs
 refine sy (v := .int .i64 (p1)) hs (y_assign rfl) ?_; clear hs; (try clear a w); intro a w hs
 refine RL_nil ?_
 refine hK2 _ _ ?_; clear hK2
 refine W_seq fun K3 hK3 => ?_
 refine W_region ?_
 refine sy (v := .int .i64 (p1)) hs (y_move rfl) ?_; clear hs; (try clear a w); intro a w hs
 refine sy hs (y_add rfl rfl rfl) ?_; clear hs; (try clear a w); intro a w hs
 refine sy (v := .int .i64 ((w64 (p1 + 1)))) hs (y_assign rfl) ?_; clear hs; (try clear a w); intro a w hs
 refine RL_nil ?_
 refine hK3 _ _ ?_; clear hK3
 refine W_seq fun K4 hK4 => ?_
 refine W_post (fun a w => ∃ (y7 : Int), ref4_attr_k1 n p0 p1 y7 = some res ∧ St 158 w0 f (.blk b5 (.cells #[.string ((bs [])), .string ((bs []))] 29 (0, 0)) :: L) [(0, a0), (1, .int .i64 (y7)), (4, .pointer (some ⟨b5, 0, none⟩)), (6, .int .i64 (p1))] a w) ?_ ?_
 ·clear hs hm
  rintro a w ⟨y7, hm, hs⟩
  replace hs : St _ _ _ (.blk b5 (.cells #[.string ((bs [])), .string ((bs []))] 29 (0, 0)) :: L) _ _ _ := hs
  unfold ref4_attr_k1 at hm
  refine hK4 _ _ ?_; clear hK4
  refine W_seq fun K5 hK5 => ?_
  refine W_region ?_
  refine sy (v := a0) hs (y_move rfl) ?_; clear hs; (try clear a w); intro a w hs
  refine sy (v := .int .i64 (p1)) hs (y_move rfl) ?_; clear hs; (try clear a w); intro a w hs
  refine sy (v := .int .i64 (y7)) hs (y_move rfl) ?_; clear hs; (try clear a w); intro a w hs
  obtain ⟨x8, hx9, hm⟩ := ob hm
  obtain ⟨⟨hlx8, hhx8, h1x8, h2x8⟩, hex8⟩ := cutM_some hx9
  have hW10 := (hW3.take y7.toNat).drop p1.toNat; rw [hex8] at hW10
  refine sy hs (y_slice (lo := p1.toNat) (hi := y7.toNat) rfl Try.underlying32 ti21 (.inr ⟨_, rfl, by rw [← hlx8]; rfl⟩) (.inr ⟨_, rfl, by rw [← hhx8]; rfl⟩) h1x8 (by rw [RW.len hW3]; exact h2x8) hR2) ?_; clear hs; (try clear a w); intro a w hs
  have hR11 : Rd _ [] (cutv a0 1 _ _) 1 _ := (hR2 : Rd _ [] _ _ _).cut h1x8 (by rw [RW.len hW3]; exact h2x8)
  generalize hgrw12 : List.drop _ (List.take _ rw1) = rw12 at hR11 hW10; clear hgrw12
  generalize hgv13 : cutv a0 1 _ _ = v13 at hs hR11; clear hgv13
  replace hs : St _ _ _ (.blk b5 (.cells #[.string ((bs [])), .string ((bs []))] 29 (0, 0)) :: L) _ _ _ := hs
  obtain ⟨x15, hx16, hm⟩ := ob hm
  refine sy hs (y_call rfl has74 rfl (ref4_Small_ok n (f := f) (a0 := v13) ⟨rw12, hR11, hW10⟩ hx16)) ?_; clear hs; (try clear a w); intro a w hs
  refine sy hs (y_buildS (places := [(0, 1), (1, 1)]) (cs := [.string (x15), .string ((bs []))]) rfl Try.underlying29 ti29 (by kernel_rfl) (by decide) rfl ⟨rfl, trivial⟩) ?_; clear hs; (try clear a w); intro a w hs
  refine RL_alloc hs ti29 (.free rfl) (by decide) ?_; clear hs; (try clear a w); intro b17 a w hs
  replace hs : St _ _ _ (.blk b17 (.cells #[.string ((bs [])), .string ((bs []))] 29 (0, 0)) :: .blk b5 (.cells #[.string ((bs [])), .string ((bs []))] 29 (0, 0)) :: L) _ _ _ := hs
  refine RL_storeAll (i := 0) hs rfl rfl rfl ti29 ⟨rfl, rfl⟩ (AllC.arr (r := [.string (x15), .string ((bs []))]) ⟨rfl, rfl, trivial⟩) (.free rfl) ?_; clear hs; (try clear a w); intro a w hs
  replace hs : St _ _ _ (.blk b17 (.cells #[.string (x15), .string ((bs []))] 29 (0, 0)) :: .blk b5 (.cells #[.string ((bs [])), .string ((bs []))] 29 (0, 0)) :: L) _ _ _ := hs
  refine RL_nil ?_
  refine hK5 _ _ ?_; clear hK5
  refine W_seq fun K6 hK6 => ?_
  refine W_region ?_
  refine sy (v := a0) hs (y_move rfl) ?_; clear hs; (try clear a w); intro a w hs
  refine sy (v := .int .i64 (y7)) hs (y_move rfl) ?_; clear hs; (try clear a w); intro a w hs
  obtain ⟨x19, hx20, hm⟩ := ob hm
  refine sy hs (y_call rfl has83 rfl (ref4_blanks_ok n (f := f) (a0 := a0) ⟨rw1, hR2, hW3⟩ hx20)) ?_; clear hs; (try clear a w); intro a w hs
  refine sy (v := .int .i64 (x19)) hs (y_assign rfl) ?_; clear hs; (try clear a w); intro a w hs
  refine RL_nil ?_
  refine hK6 _ _ ?_; clear hK6
  refine W_seq fun K7 hK7 => ?_
  refine W_seq fun K8 hK8 => ?_
  refine W_post (fun a w => ∃ (y21 : Bool), ref4_attr_k2 n p0 x15 x19 y21 = some res ∧ St 158 w0 f (.blk b17 (.cells #[.string (x15), .string ((bs []))] 29 (0, 0)) :: .blk b5 (.cells #[.string ((bs [])), .string ((bs []))] 29 (0, 0)) :: L) [(0, a0), (4, .pointer (some ⟨b5, 0, none⟩)), (7, .pointer (some ⟨b17, 0, none⟩)), (8, .int .i64 (x19)), (67, .bool (y21))] a w) ?_ ?_
  ·clear hs hm
   rintro a w ⟨y21, hm, hs⟩
   replace hs : St _ _ _ (.blk b17 (.cells #[.string (x15), .string ((bs []))] 29 (0, 0)) :: .blk b5 (.cells #[.string ((bs [])), .string ((bs []))] 29 (0, 0)) :: L) _ _ _ := hs
   unfold ref4_attr_k2 at hm
   refine hK8 _ _ ?_; clear hK8
   refine W_cond hs rfl (fun hg22 => ?_) (fun hg22 => ?_)
   ·replace hm := oc_t hg22 hm
    refine W_seq fun K9 hK9 => ?_
    refine W_region ?_
    refine sy hs (y_ldB rfl Try.underlying29 rfl ti29 (.head _) rfl) ?_; clear hs; (try clear a w); intro a w hs
    refine sy (v := .int .i64 (x19)) hs (y_move rfl) ?_; clear hs; (try clear a w); intro a w hs
    refine RL_storeAll (i := 1) hs rfl rfl rfl ti29 ⟨rfl, rfl⟩ (AllC.arr (r := [.string (x15), .string ((bs []))]) ⟨rfl, rfl, trivial⟩) (.free rfl) ?_; clear hs; (try clear a w); intro a w hs
    replace hs : St _ _ _ (.blk b17 (.cells #[.string (x15), .string ((bs []))] 29 (0, 0)) :: .blk b5 (.cells #[.string (x15), .string ((bs []))] 29 (0, 0)) :: L) _ _ _ := hs
    refine sy (v := .int .i64 (x19)) hs (y_assign rfl) ?_; clear hs; (try clear a w); intro a w hs
    refine RL_nil ?_
    refine hK9 _ _ ?_; clear hK9
    refine W_ret ?_
    obtain rfl := Option.some.inj hm
    refine RtV2 hs rfl (rv_a hs rfl Try.underlying29 rfl ti29 (fun j u hj => Cell.blk (.tail _ (.head _)) hj) rfl) (rv_t hs rfl) ?_
    exact ⟨rfl, ((hs.subL (.cons _ (.cons _ (.refl _)))).weak hle).cw⟩
   ·replace hm := oc_f hg22 hm
    refine W_skip ?_
    refine hK7 _ _ ?_; clear hK7
    refine W_seq fun K10 hK10 => ?_
    refine W_region ?_
    refine sy (v := a0) hs (y_move rfl) ?_; clear hs; (try clear a w); intro a w hs
    refine sy (v := .int .i64 (x19)) hs (y_move rfl) ?_; clear hs; (try clear a w); intro a w hs
    refine sy hs (y_add rfl rfl rfl) ?_; clear hs; (try clear a w); intro a w hs
    obtain ⟨x23, hx24, hm⟩ := ob hm
    refine sy hs (y_call rfl has83 rfl (ref4_blanks_ok n (f := f) (a0 := a0) ⟨rw1, hR2, hW3⟩ hx24)) ?_; clear hs; (try clear a w); intro a w hs
    refine sy (v := .int .i64 (x23)) hs (y_assign rfl) ?_; clear hs; (try clear a w); intro a w hs
    refine RL_nil ?_
    refine hK10 _ _ ?_; clear hK10
    refine W_seq fun K11 hK11 => ?_
    refine W_seq fun K12 hK12 => ?_
    refine W_post (fun a w => ∃ (y25 : Bool), ref4_attr_k3 n p0 x15 x23 y25 = some res ∧ St 158 w0 f (.blk b17 (.cells #[.string (x15), .string ((bs []))] 29 (0, 0)) :: .blk b5 (.cells #[.string ((bs [])), .string ((bs []))] 29 (0, 0)) :: L) [(0, a0), (1, .int .i64 (x23)), (4, .pointer (some ⟨b5, 0, none⟩)), (7, .pointer (some ⟨b17, 0, none⟩)), (91, .bool (y25))] a w) ?_ ?_
    ·clear hs hm
     rintro a w ⟨y25, hm, hs⟩
     replace hs : St _ _ _ (.blk b17 (.cells #[.string (x15), .string ((bs []))] 29 (0, 0)) :: .blk b5 (.cells #[.string ((bs [])), .string ((bs []))] 29 (0, 0)) :: L) _ _ _ := hs
     unfold ref4_attr_k3 at hm
     refine hK12 _ _ ?_; clear hK12
     refine W_cond hs rfl (fun hg26 => ?_) (fun hg26 => ?_)
     ·replace hm := oc_t hg26 hm
      refine W_seq fun K13 hK13 => ?_
      refine W_region ?_
      refine sy (v := .int .i64 (x23)) hs (y_move rfl) ?_; clear hs; (try clear a w); intro a w hs
      refine sy hs (y_add rfl rfl rfl) ?_; clear hs; (try clear a w); intro a w hs
      refine sy (v := .int .i64 ((w64 (x23 + 1)))) hs (y_assign rfl) ?_; clear hs; (try clear a w); intro a w hs
      refine RL_nil ?_
      refine hK13 _ _ ?_; clear hK13
      refine W_seq fun K14 hK14 => ?_
      refine W_post (fun a w => ∃ (y27 : Int), ref4_attr_k4 n p0 x15 x23 y27 = some res ∧ St 158 w0 f (.blk b17 (.cells #[.string (x15), .string ((bs []))] 29 (0, 0)) :: .blk b5 (.cells #[.string ((bs [])), .string ((bs []))] 29 (0, 0)) :: L) [(0, a0), (1, .int .i64 (x23)), (4, .pointer (some ⟨b5, 0, none⟩)), (7, .pointer (some ⟨b17, 0, none⟩)), (9, .int .i64 (y27))] a w) ?_ ?_
      ·clear hs hm
       rintro a w ⟨y27, hm, hs⟩
       replace hs : St _ _ _ (.blk b17 (.cells #[.string (x15), .string ((bs []))] 29 (0, 0)) :: .blk b5 (.cells #[.string ((bs [])), .string ((bs []))] 29 (0, 0)) :: L) _ _ _ := hs
       unfold ref4_attr_k4 at hm
       refine hK14 _ _ ?_; clear hK14
       refine W_seq fun K15 hK15 => ?_
       refine W_region ?_
       refine sy (v := a0) hs (y_move rfl) ?_; clear hs; (try clear a w); intro a w hs
       refine sy (v := .int .i64 (x23)) hs (y_move rfl) ?_; clear hs; (try clear a w); intro a w hs
       refine sy hs (y_add rfl rfl rfl) ?_; clear hs; (try clear a w); intro a w hs
       refine sy (v := .int .i64 (y27)) hs (y_move rfl) ?_; clear hs; (try clear a w); intro a w hs
       obtain ⟨x28, hx29, hm⟩ := ob hm
       obtain ⟨⟨hlx28, hhx28, h1x28, h2x28⟩, hex28⟩ := cutM_some hx29
       have hW30 := (hW3.take y27.toNat).drop (w64 (x23 + 1)).toNat; rw [hex28] at hW30
       refine sy hs (y_slice (lo := (w64 (x23 + 1)).toNat) (hi := y27.toNat) rfl Try.underlying32 ti21 (.inr ⟨_, rfl, by rw [← hlx28]; rfl⟩) (.inr ⟨_, rfl, by rw [← hhx28]; rfl⟩) h1x28 (by rw [RW.len hW3]; exact h2x28) hR2) ?_; clear hs; (try clear a w); intro a w hs
       have hR31 : Rd _ [] (cutv a0 1 _ _) 1 _ := (hR2 : Rd _ [] _ _ _).cut h1x28 (by rw [RW.len hW3]; exact h2x28)
       generalize hgrw32 : List.drop _ (List.take _ rw1) = rw32 at hR31 hW30; clear hgrw32
       generalize hgv33 : cutv a0 1 _ _ = v33 at hs hR31; clear hgv33
       replace hs : St _ _ _ (.blk b17 (.cells #[.string (x15), .string ((bs []))] 29 (0, 0)) :: .blk b5 (.cells #[.string ((bs [])), .string ((bs []))] 29 (0, 0)) :: L) _ _ _ := hs
       refine sy (v := .string ((textOf x28))) hs (y_r2sW rfl Try.underlying32 Try.underlying21 Try.underlying9 hR31.up hW30) ?_; clear hs; (try clear a w); intro a w hs
       obtain ⟨x35, hx36, hm⟩ := ob hm
       refine sy hs (y_call rfl has26 rfl (ref4_Unescape_ok n (f := f)  hx36)) ?_; clear hs; (try clear a w); intro a w hs
       refine sy (v := .pointer (some ⟨b17, 1, none⟩)) hs (y_fieldAddr rfl (FO.of (off := 1) Try.underlying29 rfl rfl ti9 (by decide))) ?_; clear hs; (try clear a w); intro a w hs
       refine sstore 0 hs rfl rfl rfl ti9 rfl ?_; clear hs; (try clear a w); intro a w hs
       replace hs : St _ _ _ (.blk b17 (.cells #[.string (x15), .string (x35)] 29 (0, 0)) :: .blk b5 (.cells #[.string ((bs [])), .string ((bs []))] 29 (0, 0)) :: L) _ _ _ := hs
       refine RL_nil ?_
       refine hK15 _ _ ?_; clear hK15
       refine W_seq fun K16 hK16 => ?_
       refine W_seq fun K17 hK17 => ?_
       refine W_region ?_
       refine sy (v := .int .i64 (y27)) hs (y_move rfl) ?_; clear hs; (try clear a w); intro a w hs
       refine sy (v := a0) hs (y_move rfl) ?_; clear hs; (try clear a w); intro a w hs
       refine sy hs (y_lenW hR2 hW3 rfl Try.underlying32) ?_; clear hs; (try clear a w); intro a w hs
       refine sy hs (y_lss rfl rfl) ?_; clear hs; (try clear a w); intro a w hs
       refine RL_nil ?_
       refine hK17 _ _ ?_; clear hK17
       refine W_post (fun a w => ∃ (y37 : Int), ref4_attr_k5 x15 x35 y37 = some res ∧ St 158 w0 f (.blk b17 (.cells #[.string (x15), .string (x35)] 29 (0, 0)) :: .blk b5 (.cells #[.string ((bs [])), .string ((bs []))] 29 (0, 0)) :: L) [(4, .pointer (some ⟨b5, 0, none⟩)), (7, .pointer (some ⟨b17, 0, none⟩)), (9, .int .i64 (y37))] a w) ?_ ?_
       ·clear hs hm
        rintro a w ⟨y37, hm, hs⟩
        replace hs : St _ _ _ (.blk b17 (.cells #[.string (x15), .string (x35)] 29 (0, 0)) :: .blk b5 (.cells #[.string ((bs [])), .string ((bs []))] 29 (0, 0)) :: L) _ _ _ := hs
        unfold ref4_attr_k5 at hm
        refine hK16 _ _ ?_; clear hK16
        refine W_seq fun K18 hK18 => ?_
        refine W_region ?_
        refine sy hs (y_ldB rfl Try.underlying29 rfl ti29 (.head _) rfl) ?_; clear hs; (try clear a w); intro a w hs
        refine sy (v := .int .i64 (y37)) hs (y_move rfl) ?_; clear hs; (try clear a w); intro a w hs
        refine RL_storeAll (i := 1) hs rfl rfl rfl ti29 ⟨rfl, rfl⟩ (AllC.arr (r := [.string (x15), .string (x35)]) ⟨rfl, rfl, trivial⟩) (.free rfl) ?_; clear hs; (try clear a w); intro a w hs
        replace hs : St _ _ _ (.blk b17 (.cells #[.string (x15), .string (x35)] 29 (0, 0)) :: .blk b5 (.cells #[.string (x15), .string (x35)] 29 (0, 0)) :: L) _ _ _ := hs
        refine sy (v := .int .i64 (y37)) hs (y_assign rfl) ?_; clear hs; (try clear a w); intro a w hs
        refine RL_nil ?_
        refine hK18 _ _ ?_; clear hK18
        refine W_ret ?_
        obtain rfl := Option.some.inj hm
        refine RtV2 hs rfl (rv_a hs rfl Try.underlying29 rfl ti29 (fun j u hj => Cell.blk (.tail _ (.head _)) hj) rfl) (rv_t hs rfl) ?_
        exact ⟨rfl, ((hs.subL (.cons _ (.cons _ (.refl _)))).weak hle).cw⟩
       ·refine W_cond hs rfl (fun hg38 => ?_) (fun hg38 => ?_)
        ·replace hm := oc_t hg38 hm
         refine W_region ?_
         refine sy (v := .int .i64 (y27)) hs (y_move rfl) ?_; clear hs; (try clear a w); intro a w hs
         refine sy hs (y_add rfl rfl rfl) ?_; clear hs; (try clear a w); intro a w hs
         refine sy (v := .int .i64 ((w64 (y27 + 1)))) hs (y_assign rfl) ?_; clear hs; (try clear a w); intro a w hs
         refine RL_nil ?_
         exact ⟨(w64 (y27 + 1)), hm, hs.sub ⟨rfl, rfl, rfl, trivial⟩⟩
        ·replace hm := oc_f hg38 hm
         refine W_skip ?_
         exact ⟨y27, hm, hs.sub ⟨rfl, rfl, rfl, trivial⟩⟩
      ·refine W_block fun Qe19 hB19 hO19 => ?_
       refine W_loop (fun (k : Nat) a w => ∃ (y39 : Int), ref4_attr_l6 n p0 x15 x23 k y39 = some res ∧ St 158 w0 f (.blk b17 (.cells #[.string (x15), .string ((bs []))] 29 (0, 0)) :: .blk b5 (.cells #[.string ((bs [])), .string ((bs []))] 29 (0, 0)) :: L) [(0, a0), (1, .int .i64 (x23)), (4, .pointer (some ⟨b5, 0, none⟩)), (7, .pointer (some ⟨b17, 0, none⟩)), (9, .int .i64 (y39))] a w) (fun k => k) n ⟨(w64 (x23 + 1)), hm, hs.sub ⟨rfl, rfl, rfl, rfl, rfl, trivial⟩⟩ ?_
       clear hs hm
       intro k
       rintro a w ⟨y39, hm, hs⟩
       replace hs : St _ _ _ (.blk b17 (.cells #[.string (x15), .string ((bs []))] 29 (0, 0)) :: .blk b5 (.cells #[.string ((bs [])), .string ((bs []))] 29 (0, 0)) :: L) _ _ _ := hs
       intro K20 hK20
       cases k with
       | zero => simp [ref4_attr_l6] at hm
       | succ k40 =>
        rw [ref4_attr_l6] at hm
        refine W_seq fun K21 hK21 => ?_
        refine W_seq fun K22 hK22 => ?_
        refine W_post (fun a w => ∃ (y41 : Bool), ref4_attr_k7 n p0 x15 x23 y39 (ref4_attr_l6 n p0 x15 x23 k40) y41 = some res ∧ St 158 w0 f (.blk b17 (.cells #[.string (x15), .string ((bs []))] 29 (0, 0)) :: .blk b5 (.cells #[.string ((bs [])), .string ((bs []))] 29 (0, 0)) :: L) [(0, a0), (1, .int .i64 (x23)), (4, .pointer (some ⟨b5, 0, none⟩)), (7, .pointer (some ⟨b17, 0, none⟩)), (9, .int .i64 (y39)), (108, .bool (y41))] a w) ?_ ?_
        ·clear hs hm
         rintro a w ⟨y41, hm, hs⟩
         replace hs : St _ _ _ (.blk b17 (.cells #[.string (x15), .string ((bs []))] 29 (0, 0)) :: .blk b5 (.cells #[.string ((bs [])), .string ((bs []))] 29 (0, 0)) :: L) _ _ _ := hs
         unfold ref4_attr_k7 at hm
         refine hK22 _ _ ?_; clear hK22
         refine W_cond hs rfl (fun hg42 => ?_) (fun hg42 => ?_)
         ·replace hm := oc_t hg42 hm
          refine W_skip ?_
          refine hK21 _ _ ?_; clear hK21
          refine W_block fun Qe23 hB23 hO23 => ?_
          refine W_region ?_
          refine sy (v := .int .i64 (y39)) hs (y_move rfl) ?_; clear hs; (try clear a w); intro a w hs
          refine sy hs (y_add rfl rfl rfl) ?_; clear hs; (try clear a w); intro a w hs
          refine sy (v := .int .i64 ((w64 (y39 + 1)))) hs (y_assign rfl) ?_; clear hs; (try clear a w); intro a w hs
          refine RL_nil ?_
          exact hK20 k40 _ _ (Nat.lt_succ_self _) ⟨(w64 (y39 + 1)), hm, hs.sub ⟨rfl, rfl, rfl, rfl, rfl, trivial⟩⟩
         ·replace hm := oc_f hg42 hm
          refine W_exit ?_
          refine hB19 _ _ ?_
          exact ⟨y39, hm, hs.sub ⟨rfl, rfl, rfl, rfl, rfl, trivial⟩⟩
        ·refine W_draw hs mixed (by kernel_rfl) ?_; intro a he
         refine qy (v := .int .i64 (y39)) he (y_move rfl) ?_; clear he; (try clear a); intro a he
         refine qy (v := a0) he (y_move rfl) ?_; clear he; (try clear a); intro a he
         refine qy he (y_lenW hR2 hW3 rfl Try.underlying32) ?_; clear he; (try clear a); intro a he
         refine qy he (y_lss rfl rfl) ?_; clear he; (try clear a); intro a he
         refine qy (v := .bool (decide (y39 < (p0.length : Int)))) he (y_move rfl) ?_; clear he; (try clear a); intro a he
         refine Ev.split he (t := 98) rfl (fun hg43 hq => ?_) (fun hg43 hq => ?_)
         ·clear he; have he := hq; clear hq
          replace hm := oc_t hg43 hm
          refine qyg (v := a0) he (y_move rfl) ?_; clear he; (try clear a); intro a he
          refine qyg (v := .int .i64 (y39)) he (y_move rfl) ?_; clear he; (try clear a); intro a he
          obtain ⟨x44, hx45, hm⟩ := ob hm
          obtain ⟨r46, hr47, hq48, hi49, hb50⟩ := hW3.geti hx45
          obtain rfl : _ = ([.int .i32 (x44)] : List Value) := hq48
          refine qyg he (y_indexAddr hR2 rfl rfl hi49 hb50 Try.underlying32 ti21) ?_; clear he; (try clear a); intro a he
          refine qyg (v := .int .i32 (x44)) he (y_loadE (i := y39.toNat) (j := 0) hR2.up rfl hr47 rfl Try.underlying21 rfl) ?_; clear he; (try clear a); intro a he
          refine qyg (v := a0) he (y_move rfl) ?_; clear he; (try clear a); intro a he
          refine qyg (v := .int .i64 (x23)) he (y_move rfl) ?_; clear he; (try clear a); intro a he
          obtain ⟨x51, hx52, hm⟩ := ob hm
          obtain ⟨r53, hr54, hq55, hi56, hb57⟩ := hW3.geti hx52
          obtain rfl : _ = ([.int .i32 (x51)] : List Value) := hq55
          refine qyg he (y_indexAddr hR2 rfl rfl hi56 hb57 Try.underlying32 ti21) ?_; clear he; (try clear a); intro a he
          refine qyg (v := .int .i32 (x51)) he (y_loadE (i := x23.toNat) (j := 0) hR2.up rfl hr54 rfl Try.underlying21 rfl) ?_; clear he; (try clear a); intro a he
          refine qyg he (y_neq rfl rfl) ?_; clear he; (try clear a); intro a he
          refine qy (v := .bool (decide (x44 ≠ x51))) he (y_pick rfl rfl) ?_; clear he; (try clear a); intro a he
          refine QL_nil he ?_; clear he; (try clear hs); (try clear a); intro a w hs
          exact ⟨decide (x44 ≠ x51), hm, hs.sub ⟨rfl, rfl, rfl, rfl, rfl, rfl, trivial⟩⟩
         ·clear he; have he := hq; clear hq
          replace hm := oc_f hg43 hm
          refine qno he ?_; clear he; (try clear a); intro a he
          refine qno he ?_; clear he; (try clear a); intro a he
          refine qno he ?_; clear he; (try clear a); intro a he
          refine qno he ?_; clear he; (try clear a); intro a he
          refine qno he ?_; clear he; (try clear a); intro a he
          refine qno he ?_; clear he; (try clear a); intro a he
          refine qno he ?_; clear he; (try clear a); intro a he
          refine qno he ?_; clear he; (try clear a); intro a he
          refine qno he ?_; clear he; (try clear a); intro a he
          refine qy (v := .bool (false)) he (y_pick rfl rfl) ?_; clear he; (try clear a); intro a he
          refine QL_nil he ?_; clear he; (try clear hs); (try clear a); intro a w hs
          exact ⟨false, hm, hs.sub ⟨rfl, rfl, rfl, rfl, rfl, rfl, trivial⟩⟩
     ·replace hm := oc_f hg26 hm
      refine W_skip ?_
      refine hK11 _ _ ?_; clear hK11
      refine W_seq fun K24 hK24 => ?_
      refine W_region ?_
      refine sy (v := .int .i64 (x23)) hs (y_move rfl) ?_; clear hs; (try clear a w); intro a w hs
      refine sy (v := .int .i64 (x23)) hs (y_assign rfl) ?_; clear hs; (try clear a w); intro a w hs
      refine RL_nil ?_
      refine hK24 _ _ ?_; clear hK24
      refine W_seq fun K25 hK25 => ?_
      refine W_post (fun a w => ∃ (y58 : Int), ref4_attr_k8 n p0 x15 x23 y58 = some res ∧ St 158 w0 f (.blk b17 (.cells #[.string (x15), .string ((bs []))] 29 (0, 0)) :: .blk b5 (.cells #[.string ((bs [])), .string ((bs []))] 29 (0, 0)) :: L) [(0, a0), (1, .int .i64 (y58)), (4, .pointer (some ⟨b5, 0, none⟩)), (6, .int .i64 (x23)), (7, .pointer (some ⟨b17, 0, none⟩))] a w) ?_ ?_
      ·clear hs hm
       rintro a w ⟨y58, hm, hs⟩
       replace hs : St _ _ _ (.blk b17 (.cells #[.string (x15), .string ((bs []))] 29 (0, 0)) :: .blk b5 (.cells #[.string ((bs [])), .string ((bs []))] 29 (0, 0)) :: L) _ _ _ := hs
       unfold ref4_attr_k8 at hm
       refine hK25 _ _ ?_; clear hK25
       refine W_seq fun K26 hK26 => ?_
       refine W_region ?_
       refine sy (v := a0) hs (y_move rfl) ?_; clear hs; (try clear a w); intro a w hs
       refine sy (v := .int .i64 (x23)) hs (y_move rfl) ?_; clear hs; (try clear a w); intro a w hs
       refine sy (v := .int .i64 (y58)) hs (y_move rfl) ?_; clear hs; (try clear a w); intro a w hs
       obtain ⟨x59, hx60, hm⟩ := ob hm
       obtain ⟨⟨hlx59, hhx59, h1x59, h2x59⟩, hex59⟩ := cutM_some hx60
       have hW61 := (hW3.take y58.toNat).drop x23.toNat; rw [hex59] at hW61
       refine sy hs (y_slice (lo := x23.toNat) (hi := y58.toNat) rfl Try.underlying32 ti21 (.inr ⟨_, rfl, by rw [← hlx59]; rfl⟩) (.inr ⟨_, rfl, by rw [← hhx59]; rfl⟩) h1x59 (by rw [RW.len hW3]; exact h2x59) hR2) ?_; clear hs; (try clear a w); intro a w hs
       have hR62 : Rd _ [] (cutv a0 1 _ _) 1 _ := (hR2 : Rd _ [] _ _ _).cut h1x59 (by rw [RW.len hW3]; exact h2x59)
       generalize hgrw63 : List.drop _ (List.take _ rw1) = rw63 at hR62 hW61; clear hgrw63
       generalize hgv64 : cutv a0 1 _ _ = v64 at hs hR62; clear hgv64
       replace hs : St _ _ _ (.blk b17 (.cells #[.string (x15), .string ((bs []))] 29 (0, 0)) :: .blk b5 (.cells #[.string ((bs [])), .string ((bs []))] 29 (0, 0)) :: L) _ _ _ := hs
       refine sy (v := .string ((textOf x59))) hs (y_r2sW rfl Try.underlying32 Try.underlying21 Try.underlying9 hR62.up hW61) ?_; clear hs; (try clear a w); intro a w hs
       obtain ⟨x66, hx67, hm⟩ := ob hm
       refine sy hs (y_call rfl has26 rfl (ref4_Unescape_ok n (f := f)  hx67)) ?_; clear hs; (try clear a w); intro a w hs
       refine sy (v := .pointer (some ⟨b17, 1, none⟩)) hs (y_fieldAddr rfl (FO.of (off := 1) Try.underlying29 rfl rfl ti9 (by decide))) ?_; clear hs; (try clear a w); intro a w hs
       refine sstore 0 hs rfl rfl rfl ti9 rfl ?_; clear hs; (try clear a w); intro a w hs
       replace hs : St _ _ _ (.blk b17 (.cells #[.string (x15), .string (x66)] 29 (0, 0)) :: .blk b5 (.cells #[.string ((bs [])), .string ((bs []))] 29 (0, 0)) :: L) _ _ _ := hs
       refine RL_nil ?_
       refine hK26 _ _ ?_; clear hK26
       refine W_seq fun K27 hK27 => ?_
       refine W_region ?_
       refine sy hs (y_ldB rfl Try.underlying29 rfl ti29 (.head _) rfl) ?_; clear hs; (try clear a w); intro a w hs
       refine sy (v := .int .i64 (y58)) hs (y_move rfl) ?_; clear hs; (try clear a w); intro a w hs
       refine RL_storeAll (i := 1) hs rfl rfl rfl ti29 ⟨rfl, rfl⟩ (AllC.arr (r := [.string (x15), .string (x66)]) ⟨rfl, rfl, trivial⟩) (.free rfl) ?_; clear hs; (try clear a w); intro a w hs
       replace hs : St _ _ _ (.blk b17 (.cells #[.string (x15), .string (x66)] 29 (0, 0)) :: .blk b5 (.cells #[.string (x15), .string (x66)] 29 (0, 0)) :: L) _ _ _ := hs
       refine sy (v := .int .i64 (y58)) hs (y_assign rfl) ?_; clear hs; (try clear a w); intro a w hs
       refine RL_nil ?_
       refine hK27 _ _ ?_; clear hK27
       refine W_ret ?_
       obtain rfl := Option.some.inj hm
       refine RtV2 hs rfl (rv_a hs rfl Try.underlying29 rfl ti29 (fun j u hj => Cell.blk (.tail _ (.head _)) hj) rfl) (rv_t hs rfl) ?_
       exact ⟨rfl, ((hs.subL (.cons _ (.cons _ (.refl _)))).weak hle).cw⟩
      ·refine W_block fun Qe28 hB28 hO28 => ?_
       refine W_loop (fun (k : Nat) a w => ∃ (y68 : Int), ref4_attr_l9 n p0 x15 x23 k y68 = some res ∧ St 158 w0 f (.blk b17 (.cells #[.string (x15), .string ((bs []))] 29 (0, 0)) :: .blk b5 (.cells #[.string ((bs [])), .string ((bs []))] 29 (0, 0)) :: L) [(0, a0), (1, .int .i64 (y68)), (4, .pointer (some ⟨b5, 0, none⟩)), (6, .int .i64 (x23)), (7, .pointer (some ⟨b17, 0, none⟩))] a w) (fun k => k) n ⟨x23, hm, hs.sub ⟨rfl, rfl, rfl, rfl, rfl, trivial⟩⟩ ?_
       clear hs hm
       intro k
       rintro a w ⟨y68, hm, hs⟩
       replace hs : St _ _ _ (.blk b17 (.cells #[.string (x15), .string ((bs []))] 29 (0, 0)) :: .blk b5 (.cells #[.string ((bs [])), .string ((bs []))] 29 (0, 0)) :: L) _ _ _ := hs
       intro K29 hK29
       cases k with
       | zero => simp [ref4_attr_l9] at hm
       | succ k69 =>
        rw [ref4_attr_l9] at hm
        refine W_seq fun K30 hK30 => ?_
        refine W_seq fun K31 hK31 => ?_
        refine W_post (fun a w => ∃ (y70 : Bool), ref4_attr_k10 n p0 x15 x23 y68 (ref4_attr_l9 n p0 x15 x23 k69) y70 = some res ∧ St 158 w0 f (.blk b17 (.cells #[.string (x15), .string ((bs []))] 29 (0, 0)) :: .blk b5 (.cells #[.string ((bs [])), .string ((bs []))] 29 (0, 0)) :: L) [(0, a0), (1, .int .i64 (y68)), (4, .pointer (some ⟨b5, 0, none⟩)), (6, .int .i64 (x23)), (7, .pointer (some ⟨b17, 0, none⟩)), (146, .bool (y70))] a w) ?_ ?_
        ·clear hs hm
         rintro a w ⟨y70, hm, hs⟩
         replace hs : St _ _ _ (.blk b17 (.cells #[.string (x15), .string ((bs []))] 29 (0, 0)) :: .blk b5 (.cells #[.string ((bs [])), .string ((bs []))] 29 (0, 0)) :: L) _ _ _ := hs
         unfold ref4_attr_k10 at hm
         refine hK31 _ _ ?_; clear hK31
         refine W_cond hs rfl (fun hg71 => ?_) (fun hg71 => ?_)
         ·replace hm := oc_t hg71 hm
          refine W_skip ?_
          refine hK30 _ _ ?_; clear hK30
          refine W_block fun Qe32 hB32 hO32 => ?_
          refine W_region ?_
          refine sy (v := .int .i64 (y68)) hs (y_move rfl) ?_; clear hs; (try clear a w); intro a w hs
          refine sy hs (y_add rfl rfl rfl) ?_; clear hs; (try clear a w); intro a w hs
          refine sy (v := .int .i64 ((w64 (y68 + 1)))) hs (y_assign rfl) ?_; clear hs; (try clear a w); intro a w hs
          refine RL_nil ?_
          exact hK29 k69 _ _ (Nat.lt_succ_self _) ⟨(w64 (y68 + 1)), hm, hs.sub ⟨rfl, rfl, rfl, rfl, rfl, trivial⟩⟩
         ·replace hm := oc_f hg71 hm
          refine W_exit ?_
          refine hB28 _ _ ?_
          exact ⟨y68, hm, hs.sub ⟨rfl, rfl, rfl, rfl, rfl, trivial⟩⟩
        ·refine W_region ?_
         refine sy (v := .int .i64 (y68)) hs (y_move rfl) ?_; clear hs; (try clear a w); intro a w hs
         refine sy (v := a0) hs (y_move rfl) ?_; clear hs; (try clear a w); intro a w hs
         refine sy hs (y_lenW hR2 hW3 rfl Try.underlying32) ?_; clear hs; (try clear a w); intro a w hs
         refine sy hs (y_lss rfl rfl) ?_; clear hs; (try clear a w); intro a w hs
         refine sy (v := .bool (decide (y68 < (p0.length : Int)))) hs (y_move rfl) ?_; clear hs; (try clear a w); intro a w hs
         refine St.split hs (t := 132) rfl (fun hg72 hq => ?_) (fun hg72 hq => ?_)
         ·clear hs; have hs := hq; clear hq
          replace hm := oc_t hg72 hm
          refine syg (v := a0) hs (y_move rfl) ?_; clear hs; (try clear a w); intro a w hs
          refine syg (v := .int .i64 (y68)) hs (y_move rfl) ?_; clear hs; (try clear a w); intro a w hs
          obtain ⟨x73, hx74, hm⟩ := ob hm
          obtain ⟨r75, hr76, hq77, hi78, hb79⟩ := hW3.geti hx74
          obtain rfl : _ = ([.int .i32 (x73)] : List Value) := hq77
          refine syg hs (y_indexAddr hR2 rfl rfl hi78 hb79 Try.underlying32 ti21) ?_; clear hs; (try clear a w); intro a w hs
          refine syg (v := .int .i32 (x73)) hs (y_loadE (i := y68.toNat) (j := 0) hR2.up rfl hr76 rfl Try.underlying21 rfl) ?_; clear hs; (try clear a w); intro a w hs
          obtain ⟨x80, hx81, hm⟩ := ob hm
          refine syg hs (y_call rfl has73 rfl (ref4_Blank_ok n (f := f)  hx81)) ?_; clear hs; (try clear a w); intro a w hs
          refine syg (v := .bool ((!x80))) hs (y_not rfl) ?_; clear hs; (try clear a w); intro a w hs
          refine sy (v := .bool ((!x80))) hs (y_pick rfl rfl) ?_; clear hs; (try clear a w); intro a w hs
          refine sy (v := .bool ((!x80))) hs (y_move rfl) ?_; clear hs; (try clear a w); intro a w hs
          refine St.split hs (t := 140) rfl (fun hg82 hq => ?_) (fun hg82 hq => ?_)
          ·clear hs; have hs := hq; clear hq
           replace hm := oc_t hg82 hm
           refine syg (v := a0) hs (y_move rfl) ?_; clear hs; (try clear a w); intro a w hs
           refine syg (v := .int .i64 (y68)) hs (y_move rfl) ?_; clear hs; (try clear a w); intro a w hs
           obtain ⟨x83, hx84, hm⟩ := ob hm
           obtain ⟨r85, hr86, hq87, hi88, hb89⟩ := hW3.geti hx84
           obtain rfl : _ = ([.int .i32 (x83)] : List Value) := hq87
           refine syg hs (y_indexAddr hR2 rfl rfl hi88 hb89 Try.underlying32 ti21) ?_; clear hs; (try clear a w); intro a w hs
           refine syg (v := .int .i32 (x83)) hs (y_loadE (i := y68.toNat) (j := 0) hR2.up rfl hr86 rfl Try.underlying21 rfl) ?_; clear hs; (try clear a w); intro a w hs
           refine syg hs (y_neq rfl rfl) ?_; clear hs; (try clear a w); intro a w hs
           refine sy (v := .bool (decide (x83 ≠ 62))) hs (y_pick rfl rfl) ?_; clear hs; (try clear a w); intro a w hs
           refine RL_nil ?_
           exact ⟨decide (x83 ≠ 62), hm, hs.sub ⟨rfl, rfl, rfl, rfl, rfl, rfl, trivial⟩⟩
          ·clear hs; have hs := hq; clear hq
           replace hm := oc_f hg82 hm
           refine sno hs ?_; clear hs; (try clear a w); intro a w hs
           refine sno hs ?_; clear hs; (try clear a w); intro a w hs
           refine sno hs ?_; clear hs; (try clear a w); intro a w hs
           refine sno hs ?_; clear hs; (try clear a w); intro a w hs
           refine sno hs ?_; clear hs; (try clear a w); intro a w hs
           refine sy (v := .bool (false)) hs (y_pick rfl rfl) ?_; clear hs; (try clear a w); intro a w hs
           refine RL_nil ?_
           exact ⟨false, hm, hs.sub ⟨rfl, rfl, rfl, rfl, rfl, rfl, trivial⟩⟩
         ·clear hs; have hs := hq; clear hq
          replace hm := oc_f hg72 hm
          refine sno hs ?_; clear hs; (try clear a w); intro a w hs
          refine sno hs ?_; clear hs; (try clear a w); intro a w hs
          refine sno hs ?_; clear hs; (try clear a w); intro a w hs
          refine sno hs ?_; clear hs; (try clear a w); intro a w hs
          refine sno hs ?_; clear hs; (try clear a w); intro a w hs
          refine sno hs ?_; clear hs; (try clear a w); intro a w hs
          refine sy (v := .bool (false)) hs (y_pick rfl rfl) ?_; clear hs; (try clear a w); intro a w hs
          refine sy (v := .bool (false)) hs (y_move rfl) ?_; clear hs; (try clear a w); intro a w hs
          refine sno hs ?_; clear hs; (try clear a w); intro a w hs
          refine sno hs ?_; clear hs; (try clear a w); intro a w hs
          refine sno hs ?_; clear hs; (try clear a w); intro a w hs
          refine sno hs ?_; clear hs; (try clear a w); intro a w hs
          refine sno hs ?_; clear hs; (try clear a w); intro a w hs
          refine sy (v := .bool (false)) hs (y_pick rfl rfl) ?_; clear hs; (try clear a w); intro a w hs
          refine RL_nil ?_
          exact ⟨false, hm, hs.sub ⟨rfl, rfl, rfl, rfl, rfl, rfl, trivial⟩⟩
    ·refine W_region ?_
     refine sy (v := .int .i64 (x23)) hs (y_move rfl) ?_; clear hs; (try clear a w); intro a w hs
     refine sy (v := a0) hs (y_move rfl) ?_; clear hs; (try clear a w); intro a w hs
     refine sy hs (y_lenW hR2 hW3 rfl Try.underlying32) ?_; clear hs; (try clear a w); intro a w hs
     refine sy hs (y_lss rfl rfl) ?_; clear hs; (try clear a w); intro a w hs
     refine sy (v := .bool (decide (x23 < (p0.length : Int)))) hs (y_move rfl) ?_; clear hs; (try clear a w); intro a w hs
     refine St.split hs (t := 78) rfl (fun hg90 hq => ?_) (fun hg90 hq => ?_)
     ·clear hs; have hs := hq; clear hq
      replace hm := oc_t hg90 hm
      refine syg (v := a0) hs (y_move rfl) ?_; clear hs; (try clear a w); intro a w hs
      refine syg (v := .int .i64 (x23)) hs (y_move rfl) ?_; clear hs; (try clear a w); intro a w hs
      obtain ⟨x91, hx92, hm⟩ := ob hm
      obtain ⟨r93, hr94, hq95, hi96, hb97⟩ := hW3.geti hx92
      obtain rfl : _ = ([.int .i32 (x91)] : List Value) := hq95
      refine syg hs (y_indexAddr hR2 rfl rfl hi96 hb97 Try.underlying32 ti21) ?_; clear hs; (try clear a w); intro a w hs
      refine syg (v := .int .i32 (x91)) hs (y_loadE (i := x23.toNat) (j := 0) hR2.up rfl hr94 rfl Try.underlying21 rfl) ?_; clear hs; (try clear a w); intro a w hs
      refine syg hs (y_eql rfl rfl) ?_; clear hs; (try clear a w); intro a w hs
      refine syg (v := .bool (decide (x91 = 34))) hs (y_move rfl) ?_; clear hs; (try clear a w); intro a w hs
      refine St.split hs (t := 84) rfl (fun hg98 hq => ?_) (fun hg98 hq => ?_)
      ·clear hs; have hs := hq; clear hq
       replace hm := oc_t hg98 hm
       refine sno hs ?_; clear hs; (try clear a w); intro a w hs
       refine sno hs ?_; clear hs; (try clear a w); intro a w hs
       refine sno hs ?_; clear hs; (try clear a w); intro a w hs
       refine sno hs ?_; clear hs; (try clear a w); intro a w hs
       refine sno hs ?_; clear hs; (try clear a w); intro a w hs
       refine syg (v := .bool (true)) hs (y_pick rfl rfl) ?_; clear hs; (try clear a w); intro a w hs
       refine sy (v := .bool (true)) hs (y_pick rfl rfl) ?_; clear hs; (try clear a w); intro a w hs
       refine RL_nil ?_
       exact ⟨true, hm, hs.sub ⟨rfl, rfl, rfl, rfl, rfl, trivial⟩⟩
      ·clear hs; have hs := hq; clear hq
       replace hm := oc_f hg98 hm
       refine syg (v := a0) hs (y_move rfl) ?_; clear hs; (try clear a w); intro a w hs
       refine syg (v := .int .i64 (x23)) hs (y_move rfl) ?_; clear hs; (try clear a w); intro a w hs
       obtain ⟨x99, hx100, hm⟩ := ob hm
       obtain ⟨r101, hr102, hq103, hi104, hb105⟩ := hW3.geti hx100
       obtain rfl : _ = ([.int .i32 (x99)] : List Value) := hq103
       refine syg hs (y_indexAddr hR2 rfl rfl hi104 hb105 Try.underlying32 ti21) ?_; clear hs; (try clear a w); intro a w hs
       refine syg (v := .int .i32 (x99)) hs (y_loadE (i := x23.toNat) (j := 0) hR2.up rfl hr102 rfl Try.underlying21 rfl) ?_; clear hs; (try clear a w); intro a w hs
       refine syg hs (y_eql rfl rfl) ?_; clear hs; (try clear a w); intro a w hs
       refine syg (v := .bool (decide (x99 = 39))) hs (y_pick rfl rfl) ?_; clear hs; (try clear a w); intro a w hs
       refine sy (v := .bool (decide (x99 = 39))) hs (y_pick rfl rfl) ?_; clear hs; (try clear a w); intro a w hs
       refine RL_nil ?_
       exact ⟨decide (x99 = 39), hm, hs.sub ⟨rfl, rfl, rfl, rfl, rfl, trivial⟩⟩
     ·clear hs; have hs := hq; clear hq
      replace hm := oc_f hg90 hm
      refine sno hs ?_; clear hs; (try clear a w); intro a w hs
      refine sno hs ?_; clear hs; (try clear a w); intro a w hs
      refine sno hs ?_; clear hs; (try clear a w); intro a w hs
      refine sno hs ?_; clear hs; (try clear a w); intro a w hs
      refine sno hs ?_; clear hs; (try clear a w); intro a w hs
      refine sno hs ?_; clear hs; (try clear a w); intro a w hs
      refine sun hs ?_; clear hs; (try clear a w); intro a w hs
      refine sun hs ?_; clear hs; (try clear a w); intro a w hs
      refine sun hs ?_; clear hs; (try clear a w); intro a w hs
      refine sun hs ?_; clear hs; (try clear a w); intro a w hs
      refine sun hs ?_; clear hs; (try clear a w); intro a w hs
      refine sno hs ?_; clear hs; (try clear a w); intro a w hs
      refine sy (v := .bool (false)) hs (y_pick rfl rfl) ?_; clear hs; (try clear a w); intro a w hs
      refine RL_nil ?_
      exact ⟨false, hm, hs.sub ⟨rfl, rfl, rfl, rfl, rfl, trivial⟩⟩
  ·refine W_region ?_
   refine sy (v := .int .i64 (x19)) hs (y_move rfl) ?_; clear hs; (try clear a w); intro a w hs
   refine sy (v := a0) hs (y_move rfl) ?_; clear hs; (try clear a w); intro a w hs
   refine sy hs (y_lenW hR2 hW3 rfl Try.underlying32) ?_; clear hs; (try clear a w); intro a w hs
   refine sy hs (y_geq rfl rfl) ?_; clear hs; (try clear a w); intro a w hs
   refine sy (v := .bool (decide ((p0.length : Int) ≤ x19))) hs (y_move rfl) ?_; clear hs; (try clear a w); intro a w hs
   refine St.split hs (t := 61) rfl (fun hg106 hq => ?_) (fun hg106 hq => ?_)
   ·clear hs; have hs := hq; clear hq
    replace hm := oc_t hg106 hm
    refine sno hs ?_; clear hs; (try clear a w); intro a w hs
    refine sno hs ?_; clear hs; (try clear a w); intro a w hs
    refine sno hs ?_; clear hs; (try clear a w); intro a w hs
    refine sno hs ?_; clear hs; (try clear a w); intro a w hs
    refine sno hs ?_; clear hs; (try clear a w); intro a w hs
    refine sy (v := .bool (true)) hs (y_pick rfl rfl) ?_; clear hs; (try clear a w); intro a w hs
    refine RL_nil ?_
    exact ⟨true, hm, hs.sub ⟨rfl, rfl, rfl, rfl, rfl, trivial⟩⟩
   ·clear hs; have hs := hq; clear hq
    replace hm := oc_f hg106 hm
    refine syg (v := a0) hs (y_move rfl) ?_; clear hs; (try clear a w); intro a w hs
    refine syg (v := .int .i64 (x19)) hs (y_move rfl) ?_; clear hs; (try clear a w); intro a w hs
    obtain ⟨x107, hx108, hm⟩ := ob hm
    obtain ⟨r109, hr110, hq111, hi112, hb113⟩ := hW3.geti hx108
    obtain rfl : _ = ([.int .i32 (x107)] : List Value) := hq111
    refine syg hs (y_indexAddr hR2 rfl rfl hi112 hb113 Try.underlying32 ti21) ?_; clear hs; (try clear a w); intro a w hs
    refine syg (v := .int .i32 (x107)) hs (y_loadE (i := x19.toNat) (j := 0) hR2.up rfl hr110 rfl Try.underlying21 rfl) ?_; clear hs; (try clear a w); intro a w hs
    refine syg hs (y_neq rfl rfl) ?_; clear hs; (try clear a w); intro a w hs
    refine sy (v := .bool (decide (x107 ≠ 61))) hs (y_pick rfl rfl) ?_; clear hs; (try clear a w); intro a w hs
    refine RL_nil ?_
    exact ⟨decide (x107 ≠ 61), hm, hs.sub ⟨rfl, rfl, rfl, rfl, rfl, trivial⟩⟩
 ·refine W_block fun Qe33 hB33 hO33 => ?_
  refine W_loop (fun (k : Nat) a w => ∃ (y114 : Int), ref4_attr_l11 n p0 p1 k y114 = some res ∧ St 158 w0 f (.blk b5 (.cells #[.string ((bs [])), .string ((bs []))] 29 (0, 0)) :: L) [(0, a0), (1, .int .i64 (y114)), (4, .pointer (some ⟨b5, 0, none⟩)), (6, .int .i64 (p1))] a w) (fun k => k) n ⟨(w64 (p1 + 1)), hm, hs.sub ⟨rfl, rfl, rfl, rfl, trivial⟩⟩ ?_
  clear hs hm
  intro k
  rintro a w ⟨y114, hm, hs⟩
  replace hs : St _ _ _ (.blk b5 (.cells #[.string ((bs [])), .string ((bs []))] 29 (0, 0)) :: L) _ _ _ := hs
  intro K34 hK34
  cases k with
  | zero => simp [ref4_attr_l11] at hm
  | succ k115 =>
   rw [ref4_attr_l11] at hm
   refine W_seq fun K35 hK35 => ?_
   refine W_seq fun K36 hK36 => ?_
   refine W_post (fun a w => ∃ (y116 : Bool), ref4_attr_k12 n p0 p1 y114 (ref4_attr_l11 n p0 p1 k115) y116 = some res ∧ St 158 w0 f (.blk b5 (.cells #[.string ((bs [])), .string ((bs []))] 29 (0, 0)) :: L) [(0, a0), (1, .int .i64 (y114)), (4, .pointer (some ⟨b5, 0, none⟩)), (6, .int .i64 (p1)), (45, .bool (y116))] a w) ?_ ?_
   ·clear hs hm
    rintro a w ⟨y116, hm, hs⟩
    replace hs : St _ _ _ (.blk b5 (.cells #[.string ((bs [])), .string ((bs []))] 29 (0, 0)) :: L) _ _ _ := hs
    unfold ref4_attr_k12 at hm
    refine hK36 _ _ ?_; clear hK36
    refine W_cond hs rfl (fun hg117 => ?_) (fun hg117 => ?_)
    ·replace hm := oc_t hg117 hm
     refine W_skip ?_
     refine hK35 _ _ ?_; clear hK35
     refine W_block fun Qe37 hB37 hO37 => ?_
     refine W_region ?_
     refine sy (v := .int .i64 (y114)) hs (y_move rfl) ?_; clear hs; (try clear a w); intro a w hs
     refine sy hs (y_add rfl rfl rfl) ?_; clear hs; (try clear a w); intro a w hs
     refine sy (v := .int .i64 ((w64 (y114 + 1)))) hs (y_assign rfl) ?_; clear hs; (try clear a w); intro a w hs
     refine RL_nil ?_
     exact hK34 k115 _ _ (Nat.lt_succ_self _) ⟨(w64 (y114 + 1)), hm, hs.sub ⟨rfl, rfl, rfl, rfl, trivial⟩⟩
    ·replace hm := oc_f hg117 hm
     refine W_exit ?_
     refine hB33 _ _ ?_
     exact ⟨y114, hm, hs.sub ⟨rfl, rfl, rfl, rfl, trivial⟩⟩
   ·refine W_region ?_
    refine sy (v := .int .i64 (y114)) hs (y_move rfl) ?_; clear hs; (try clear a w); intro a w hs
    refine sy (v := a0) hs (y_move rfl) ?_; clear hs; (try clear a w); intro a w hs
    refine sy hs (y_lenW hR2 hW3 rfl Try.underlying32) ?_; clear hs; (try clear a w); intro a w hs
    refine sy hs (y_lss rfl rfl) ?_; clear hs; (try clear a w); intro a w hs
    refine sy (v := .bool (decide (y114 < (p0.length : Int)))) hs (y_move rfl) ?_; clear hs; (try clear a w); intro a w hs
    refine St.split hs (t := 17) rfl (fun hg118 hq => ?_) (fun hg118 hq => ?_)
    ·clear hs; have hs := hq; clear hq
     replace hm := oc_t hg118 hm
     refine syg (v := a0) hs (y_move rfl) ?_; clear hs; (try clear a w); intro a w hs
     refine syg (v := .int .i64 (y114)) hs (y_move rfl) ?_; clear hs; (try clear a w); intro a w hs
     obtain ⟨x119, hx120, hm⟩ := ob hm
     obtain ⟨r121, hr122, hq123, hi124, hb125⟩ := hW3.geti hx120
     obtain rfl : _ = ([.int .i32 (x119)] : List Value) := hq123
     refine syg hs (y_indexAddr hR2 rfl rfl hi124 hb125 Try.underlying32 ti21) ?_; clear hs; (try clear a w); intro a w hs
     refine syg (v := .int .i32 (x119)) hs (y_loadE (i := y114.toNat) (j := 0) hR2.up rfl hr122 rfl Try.underlying21 rfl) ?_; clear hs; (try clear a w); intro a w hs
     obtain ⟨x126, hx127, hm⟩ := ob hm
     refine syg hs (y_call rfl has73 rfl (ref4_Blank_ok n (f := f)  hx127)) ?_; clear hs; (try clear a w); intro a w hs
     refine syg (v := .bool ((!x126))) hs (y_not rfl) ?_; clear hs; (try clear a w); intro a w hs
     refine sy (v := .bool ((!x126))) hs (y_pick rfl rfl) ?_; clear hs; (try clear a w); intro a w hs
     refine sy (v := .bool ((!x126))) hs (y_move rfl) ?_; clear hs; (try clear a w); intro a w hs
     refine St.split hs (t := 25) rfl (fun hg128 hq => ?_) (fun hg128 hq => ?_)
     ·clear hs; have hs := hq; clear hq
      replace hm := oc_t hg128 hm
      refine syg (v := a0) hs (y_move rfl) ?_; clear hs; (try clear a w); intro a w hs
      refine syg (v := .int .i64 (y114)) hs (y_move rfl) ?_; clear hs; (try clear a w); intro a w hs
      obtain ⟨x129, hx130, hm⟩ := ob hm
      obtain ⟨r131, hr132, hq133, hi134, hb135⟩ := hW3.geti hx130
      obtain rfl : _ = ([.int .i32 (x129)] : List Value) := hq133
      refine syg hs (y_indexAddr hR2 rfl rfl hi134 hb135 Try.underlying32 ti21) ?_; clear hs; (try clear a w); intro a w hs
      refine syg (v := .int .i32 (x129)) hs (y_loadE (i := y114.toNat) (j := 0) hR2.up rfl hr132 rfl Try.underlying21 rfl) ?_; clear hs; (try clear a w); intro a w hs
      refine syg hs (y_neq rfl rfl) ?_; clear hs; (try clear a w); intro a w hs
      refine sy (v := .bool (decide (x129 ≠ 61))) hs (y_pick rfl rfl) ?_; clear hs; (try clear a w); intro a w hs
      refine sy (v := .bool (decide (x129 ≠ 61))) hs (y_move rfl) ?_; clear hs; (try clear a w); intro a w hs
      refine St.split hs (t := 32) rfl (fun hg136 hq => ?_) (fun hg136 hq => ?_)
      ·clear hs; have hs := hq; clear hq
       replace hm := oc_t hg136 hm
       refine syg (v := a0) hs (y_move rfl) ?_; clear hs; (try clear a w); intro a w hs
       refine syg (v := .int .i64 (y114)) hs (y_move rfl) ?_; clear hs; (try clear a w); intro a w hs
       obtain ⟨x137, hx138, hm⟩ := ob hm
       obtain ⟨r139, hr140, hq141, hi142, hb143⟩ := hW3.geti hx138
       obtain rfl : _ = ([.int .i32 (x137)] : List Value) := hq141
       refine syg hs (y_indexAddr hR2 rfl rfl hi142 hb143 Try.underlying32 ti21) ?_; clear hs; (try clear a w); intro a w hs
       refine syg (v := .int .i32 (x137)) hs (y_loadE (i := y114.toNat) (j := 0) hR2.up rfl hr140 rfl Try.underlying21 rfl) ?_; clear hs; (try clear a w); intro a w hs
       refine syg hs (y_neq rfl rfl) ?_; clear hs; (try clear a w); intro a w hs
       refine sy (v := .bool (decide (x137 ≠ 47))) hs (y_pick rfl rfl) ?_; clear hs; (try clear a w); intro a w hs
       refine sy (v := .bool (decide (x137 ≠ 47))) hs (y_move rfl) ?_; clear hs; (try clear a w); intro a w hs
       refine St.split hs (t := 39) rfl (fun hg144 hq => ?_) (fun hg144 hq => ?_)
       ·clear hs; have hs := hq; clear hq
        replace hm := oc_t hg144 hm
        refine syg (v := a0) hs (y_move rfl) ?_; clear hs; (try clear a w); intro a w hs
        refine syg (v := .int .i64 (y114)) hs (y_move rfl) ?_; clear hs; (try clear a w); intro a w hs
        obtain ⟨x145, hx146, hm⟩ := ob hm
        obtain ⟨r147, hr148, hq149, hi150, hb151⟩ := hW3.geti hx146
        obtain rfl : _ = ([.int .i32 (x145)] : List Value) := hq149
        refine syg hs (y_indexAddr hR2 rfl rfl hi150 hb151 Try.underlying32 ti21) ?_; clear hs; (try clear a w); intro a w hs
        refine syg (v := .int .i32 (x145)) hs (y_loadE (i := y114.toNat) (j := 0) hR2.up rfl hr148 rfl Try.underlying21 rfl) ?_; clear hs; (try clear a w); intro a w hs
        refine syg hs (y_neq rfl rfl) ?_; clear hs; (try clear a w); intro a w hs
        refine sy (v := .bool (decide (x145 ≠ 62))) hs (y_pick rfl rfl) ?_; clear hs; (try clear a w); intro a w hs
        refine RL_nil ?_
        exact ⟨decide (x145 ≠ 62), hm, hs.sub ⟨rfl, rfl, rfl, rfl, rfl, trivial⟩⟩
       ·clear hs; have hs := hq; clear hq
        replace hm := oc_f hg144 hm
        refine sno hs ?_; clear hs; (try clear a w); intro a w hs
        refine sno hs ?_; clear hs; (try clear a w); intro a w hs
        refine sno hs ?_; clear hs; (try clear a w); intro a w hs
        refine sno hs ?_; clear hs; (try clear a w); intro a w hs
        refine sno hs ?_; clear hs; (try clear a w); intro a w hs
        refine sy (v := .bool (false)) hs (y_pick rfl rfl) ?_; clear hs; (try clear a w); intro a w hs
        refine RL_nil ?_
        exact ⟨false, hm, hs.sub ⟨rfl, rfl, rfl, rfl, rfl, trivial⟩⟩
      ·clear hs; have hs := hq; clear hq
       replace hm := oc_f hg136 hm
       refine sno hs ?_; clear hs; (try clear a w); intro a w hs
       refine sno hs ?_; clear hs; (try clear a w); intro a w hs
       refine sno hs ?_; clear hs; (try clear a w); intro a w hs
       refine sno hs ?_; clear hs; (try clear a w); intro a w hs
       refine sno hs ?_; clear hs; (try clear a w); intro a w hs
       refine sy (v := .bool (false)) hs (y_pick rfl rfl) ?_; clear hs; (try clear a w); intro a w hs
       refine sy (v := .bool (false)) hs (y_move rfl) ?_; clear hs; (try clear a w); intro a w hs
       refine sno hs ?_; clear hs; (try clear a w); intro a w hs
       refine sno hs ?_; clear hs; (try clear a w); intro a w hs
       refine sno hs ?_; clear hs; (try clear a w); intro a w hs
       refine sno hs ?_; clear hs; (try clear a w); intro a w hs
       refine sno hs ?_; clear hs; (try clear a w); intro a w hs
       refine sy (v := .bool (false)) hs (y_pick rfl rfl) ?_; clear hs; (try clear a w); intro a w hs
       refine RL_nil ?_
       exact ⟨false, hm, hs.sub ⟨rfl, rfl, rfl, rfl, rfl, trivial⟩⟩
     ·clear hs; have hs := hq; clear hq
      replace hm := oc_f hg128 hm
      refine sno hs ?_; clear hs; (try clear a w); intro a w hs
      refine sno hs ?_; clear hs; (try clear a w); intro a w hs
      refine sno hs ?_; clear hs; (try clear a w); intro a w hs
      refine sno hs ?_; clear hs; (try clear a w); intro a w hs
      refine sno hs ?_; clear hs; (try clear a w); intro a w hs
      refine sy (v := .bool (false)) hs (y_pick rfl rfl) ?_; clear hs; (try clear a w); intro a w hs
      refine sy (v := .bool (false)) hs (y_move rfl) ?_; clear hs; (try clear a w); intro a w hs
      refine sno hs ?_; clear hs; (try clear a w); intro a w hs
      refine sno hs ?_; clear hs; (try clear a w); intro a w hs
      refine sno hs ?_; clear hs; (try clear a w); intro a w hs
      refine sno hs ?_; clear hs; (try clear a w); intro a w hs
      refine sno hs ?_; clear hs; (try clear a w); intro a w hs
      refine sy (v := .bool (false)) hs (y_pick rfl rfl) ?_; clear hs; (try clear a w); intro a w hs
      refine sy (v := .bool (false)) hs (y_move rfl) ?_; clear hs; (try clear a w); intro a w hs
      refine sno hs ?_; clear hs; (try clear a w); intro a w hs
      refine sno hs ?_; clear hs; (try clear a w); intro a w hs
      refine sno hs ?_; clear hs; (try clear a w); intro a w hs
      refine sno hs ?_; clear hs; (try clear a w); intro a w hs
      refine sno hs ?_; clear hs; (try clear a w); intro a w hs
      refine sy (v := .bool (false)) hs (y_pick rfl rfl) ?_; clear hs; (try clear a w); intro a w hs
      refine RL_nil ?_
      exact ⟨false, hm, hs.sub ⟨rfl, rfl, rfl, rfl, rfl, trivial⟩⟩
    ·clear hs; have hs := hq; clear hq
     replace hm := oc_f hg118 hm
     refine sno hs ?_; clear hs; (try clear a w); intro a w hs
     refine sno hs ?_; clear hs; (try clear a w); intro a w hs
     refine sno hs ?_; clear hs; (try clear a w); intro a w hs
     refine sno hs ?_; clear hs; (try clear a w); intro a w hs
     refine sno hs ?_; clear hs; (try clear a w); intro a w hs
     refine sno hs ?_; clear hs; (try clear a w); intro a w hs
     refine sy (v := .bool (false)) hs (y_pick rfl rfl) ?_; clear hs; (try clear a w); intro a w hs
     refine sy (v := .bool (false)) hs (y_move rfl) ?_; clear hs; (try clear a w); intro a w hs
     refine sno hs ?_; clear hs; (try clear a w); intro a w hs
     refine sno hs ?_; clear hs; (try clear a w); intro a w hs
     refine sno hs ?_; clear hs; (try clear a w); intro a w hs
     refine sno hs ?_; clear hs; (try clear a w); intro a w hs
     refine sno hs ?_; clear hs; (try clear a w); intro a w hs
     refine sy (v := .bool (false)) hs (y_pick rfl rfl) ?_; clear hs; (try clear a w); intro a w hs
     refine sy (v := .bool (false)) hs (y_move rfl) ?_; clear hs; (try clear a w); intro a w hs
     refine sno hs ?_; clear hs; (try clear a w); intro a w hs
     refine sno hs ?_; clear hs; (try clear a w); intro a w hs
     refine sno hs ?_; clear hs; (try clear a w); intro a w hs
     refine sno hs ?_; clear hs; (try clear a w); intro a w hs
     refine sno hs ?_; clear hs; (try clear a w); intro a w hs
     refine sy (v := .bool (false)) hs (y_pick rfl rfl) ?_; clear hs; (try clear a w); intro a w hs
     refine sy (v := .bool (false)) hs (y_move rfl) ?_; clear hs; (try clear a w); intro a w hs
     refine sno hs ?_; clear hs; (try clear a w); intro a w hs
     refine sno hs ?_; clear hs; (try clear a w); intro a w hs
     refine sno hs ?_; clear hs; (try clear a w); intro a w hs
     refine sno hs ?_; clear hs; (try clear a w); intro a w hs
     refine sno hs ?_; clear hs; (try clear a w); intro a w hs
     refine sy (v := .bool (false)) hs (y_pick rfl rfl) ?_; clear hs; (try clear a w); intro a w hs
     refine RL_nil ?_
     exact ⟨false, hm, hs.sub ⟨rfl, rfl, rfl, rfl, rfl, trivial⟩⟩
/-! casement/casementref4.tag -/
def ref4_tag_k2 (y24 : Int) : Option (ref4_Token × Int × Bool) :=
  some (({Kind := 0, Name := (bs []), Text := (bs []), Attrs := ([] : List api_Attr), Closed := false} : ref4_Token), y24, false)
def ref4_tag_k4 (lp41 : Int → (List api_Attr) → Bool → Option (ref4_Token × Int × Bool)) (y46 : Int) (y48 : (List api_Attr)) (y53 : Bool) : Option (ref4_Token × Int × Bool) :=
  lp41 y46 y48 y53
def ref4_tag_k5 (n : Nat) (p0 : (List Int)) (y29 : Int) (y31 : (List api_Attr)) (lp41 : Int → (List api_Attr) → Bool → Option (ref4_Token × Int × Bool)) (y66 : Bool) : Option (ref4_Token × Int × Bool) :=
  (bif y66 then (geti p0 y29).bind fun x68 =>
  ref4_tag_k4 lp41 (w64 (y29 + 1)) y31 (decide (x68 = 47)) else
  (ref4_attr n p0 y29).bind fun x77 =>
  (ref4_add n y31 x77.1).bind fun x79 =>
  ref4_tag_k4 lp41 x77.2 x79 false)
def ref4_tag_l3 (n : Nat) (p0 : (List Int)) (x16 : ByteArray) : Nat → Int → (List api_Attr) → Bool → Option (ref4_Token × Int × Bool)
  | 0, _, _, _ => none
  | k41 + 1, y29, y31, y36 =>
  (bif (decide (y29 < (p0.length : Int))) then (geti p0 y29).bind fun x55 =>
  (bif (decide (x55 = 62)) then some (({Kind := 0, Name := x16, Text := (bs []), Attrs := y31, Closed := y36} : ref4_Token), (w64 (y29 + 1)), true) else
  (geti p0 y29).bind fun x88 =>
  (ref4_Blank n x88).bind fun x95 =>
  (bif x95 then ref4_tag_k5 n p0 y29 y31 (ref4_tag_l3 n p0 x16 k41) true else
  (geti p0 y29).bind fun x98 =>
  ref4_tag_k5 n p0 y29 y31 (ref4_tag_l3 n p0 x16 k41) (decide (x98 = 47)))) else
  ref4_tag_k2 y29)
def ref4_tag_k1 (n : Nat) (p0 : (List Int)) (p1 : Int) (y8 : Int) : Option (ref4_Token × Int × Bool) :=
  (cutM p0 (p1 : Int) y8).bind fun x9 =>
  (ref4_Small n x9).bind fun x16 =>
  ref4_tag_l3 n p0 x16 n y8 ([] : List api_Attr) false
def ref4_tag_k7 (n : Nat) (p0 : (List Int)) (p1 : Int) (y105 : Int) (lp106 : Int → Option (ref4_Token × Int × Bool)) (y107 : Bool) : Option (ref4_Token × Int × Bool) :=
  (bif y107 then lp106 (w64 (y105 + 1)) else
  ref4_tag_k1 n p0 p1 y105)
def ref4_tag_l6 (n : Nat) (p0 : (List Int)) (p1 : Int) : Nat → Int → Option (ref4_Token × Int × Bool)
  | 0, _ => none
  | k106 + 1, y105 =>
  (bif (decide (y105 < (p0.length : Int))) then (geti p0 y105).bind fun x110 =>
  (ref4_Blank n x110).bind fun x117 =>
  (bif (!x117) then (geti p0 y105).bind fun x120 =>
  (bif (decide (x120 ≠ 47)) then (geti p0 y105).bind fun x128 =>
  ref4_tag_k7 n p0 p1 y105 (ref4_tag_l6 n p0 p1 k106) (decide (x128 ≠ 62)) else
  ref4_tag_k7 n p0 p1 y105 (ref4_tag_l6 n p0 p1 k106) false) else
  ref4_tag_k7 n p0 p1 y105 (ref4_tag_l6 n p0 p1 k106) false) else
  ref4_tag_k7 n p0 p1 y105 (ref4_tag_l6 n p0 p1 k106) false)
def ref4_tag (n : Nat) (p0 : (List Int)) (p1 : Int) : Option (ref4_Token × Int × Bool) :=
  ref4_tag_l6 n p0 p1 n p1
set_option maxRecDepth 20000 in
set_option maxHeartbeats 4000000 in
theorem ref4_tag_ok (n : Nat) {f : Fz} {p0 : (List Int)} {a0 : Value} {p1 : Int} {res : (ref4_Token × Int × Bool)} (h0 : RS (tInt .i32) f a0 p0) (hm : ref4_tag n p0 p1 = some res) : Does Try.prog 52 [a0, .int .i64 p1] f [] (fun r f' L' => ∃ (u0 : List Value), L' = [] ∧ r = .tuple #[.agg u0.toArray, .int .i64 res.2.1, .bool res.2.2] ∧ t_ref4_Token.R f' u0 res.1) := by
 unfold ref4_tag at hm
 intro w0 L w hC
 obtain ⟨rw1, hR2, hW3⟩ := h0
 refine enter Try.func52 rfl Try.ntmps52 (by simp) hC fun a hs => ?_
 have hle := Fz.le.refl f
 refine W_seq fun K1 hK1 => ?_
 refine W_region ?_
 refine RL_alloc hs ti25 (.free rfl) (by decide) ?_; clear hs; (try clear a w); intro b5 a w hs
 replace hs : St _ _ _ (.blk b5 (.cells #[.int .i64 (0), .string ((bs [])), .string ((bs [])), (.slice none 0 0), .bool (false)] 25 (0, 0)) :: L) _ _ _ := hs
 refine sy (v := .int .i64 (0)) hs (y_assign rfl) ?_; clear hs; (try clear a w); intro a w hs
 refine sy (v := .bool (false)) hs (y_assign rfl) ?_; clear hs; (try clear a w); intro a w hs
 refine RL_nil ?_
 refine hK1 _ _ ?_; clear hK1
 refine W_seq fun K2 hK2 => ?_
 refine W_region ?_
 refine sy (v := .int .i64 (p1)) hs (y_move rfl) ?_; clear hs; (try clear a w); intro a w hs
 refine sy (v := .int .i64 (p1)) hs (y_assign rfl) ?_; clear hs; (try clear a w); intro a w hs
 refine RL_nil ?_
 refine hK2 _ _ ?_; clear hK2
 refine W_seq fun K3 hK3 => ?_
 refine W_post (fun a w => ∃ (y8 : Int), ref4_tag_k1 n p0 p1 y8 = some res ∧ St 92 w0 f (.blk b5 (.cells #[.int .i64 (0), .string ((bs [])), .string ((bs [])), (.slice none 0 0), .bool (false)] 25 (0, 0)) :: L) [(0, a0), (1, .int .i64 (y8)), (4, .pointer (some ⟨b5, 0, none⟩)), (7, .int .i64 (p1))] a w) ?_ ?_
 ·clear hs hm
  rintro a w ⟨y8, hm, hs⟩
  replace hs : St _ _ _ (.blk b5 (.cells #[.int .i64 (0), .string ((bs [])), .string ((bs [])), (.slice none 0 0), .bool (false)] 25 (0, 0)) :: L) _ _ _ := hs
  unfold ref4_tag_k1 at hm
  refine hK3 _ _ ?_; clear hK3
  refine W_seq fun K4 hK4 => ?_
  refine W_region ?_
  refine sy (v := a0) hs (y_move rfl) ?_; clear hs; (try clear a w); intro a w hs
  refine sy (v := .int .i64 (p1)) hs (y_move rfl) ?_; clear hs; (try clear a w); intro a w hs
  refine sy (v := .int .i64 (y8)) hs (y_move rfl) ?_; clear hs; (try clear a w); intro a w hs
  obtain ⟨x9, hx10, hm⟩ := ob hm
  obtain ⟨⟨hlx9, hhx9, h1x9, h2x9⟩, hex9⟩ := cutM_some hx10
  have hW11 := (hW3.take y8.toNat).drop p1.toNat; rw [hex9] at hW11
  refine sy hs (y_slice (lo := p1.toNat) (hi := y8.toNat) rfl Try.underlying32 ti21 (.inr ⟨_, rfl, by rw [← hlx9]; rfl⟩) (.inr ⟨_, rfl, by rw [← hhx9]; rfl⟩) h1x9 (by rw [RW.len hW3]; exact h2x9) hR2) ?_; clear hs; (try clear a w); intro a w hs
  have hR12 : Rd _ [] (cutv a0 1 _ _) 1 _ := (hR2 : Rd _ [] _ _ _).cut h1x9 (by rw [RW.len hW3]; exact h2x9)
  generalize hgrw13 : List.drop _ (List.take _ rw1) = rw13 at hR12 hW11; clear hgrw13
  generalize hgv14 : cutv a0 1 _ _ = v14 at hs hR12; clear hgv14
  replace hs : St _ _ _ (.blk b5 (.cells #[.int .i64 (0), .string ((bs [])), .string ((bs [])), (.slice none 0 0), .bool (false)] 25 (0, 0)) :: L) _ _ _ := hs
  obtain ⟨x16, hx17, hm⟩ := ob hm
  refine sy hs (y_call rfl has74 rfl (ref4_Small_ok n (f := f) (a0 := v14) ⟨rw13, hR12, hW11⟩ hx17)) ?_; clear hs; (try clear a w); intro a w hs
  refine sy hs (y_buildS (places := [(0, 1), (1, 1), (2, 1), (3, 1), (4, 1)]) (cs := [.int .i64 (0), .string (x16), .string ((bs [])), (.slice none 0 0), .bool (false)]) rfl Try.underlying25 ti25 (by kernel_rfl) (by decide) rfl ⟨rfl, trivial⟩) ?_; clear hs; (try clear a w); intro a w hs
  refine RL_alloc hs ti25 (.free rfl) (by decide) ?_; clear hs; (try clear a w); intro b19 a w hs
  replace hs : St _ _ _ (.blk b19 (.cells #[.int .i64 (0), .string ((bs [])), .string ((bs [])), (.slice none 0 0), .bool (false)] 25 (0, 0)) :: .blk b5 (.cells #[.int .i64 (0), .string ((bs [])), .string ((bs [])), (.slice none 0 0), .bool (false)] 25 (0, 0)) :: L) _ _ _ := hs
  refine RL_storeAll (i := 0) hs rfl rfl rfl ti25 ⟨rfl, rfl⟩ (AllC.arr (r := [.int .i64 (0), .string (x16), .string ((bs [])), (.slice none 0 0), .bool (false)]) ⟨rfl, rfl, rfl, rfl, rfl, trivial⟩) (.free rfl) ?_; clear hs; (try clear a w); intro a w hs
  replace hs : St _ _ _ (.blk b19 (.cells #[.int .i64 (0), .string (x16), .string ((bs [])), (.slice none 0 0), .bool (false)] 25 (0, 0)) :: .blk b5 (.cells #[.int .i64 (0), .string ((bs [])), .string ((bs [])), (.slice none 0 0), .bool (false)] 25 (0, 0)) :: L) _ _ _ := hs
  refine RL_nil ?_
  refine hK4 _ _ ?_; clear hK4
  refine W_seq fun K5 hK5 => ?_
  refine W_region ?_
  refine sy (v := .bool (false)) hs (y_assign rfl) ?_; clear hs; (try clear a w); intro a w hs
  refine RL_nil ?_
  refine hK5 _ _ ?_; clear hK5
  refine W_seq fun K6 hK6 => ?_
  have hbase25 := Fz.le.refl f
  refine W_post (fun a w => ∃ (f22 : Fz) (y24 : Int), Fz.le f f22 ∧ ref4_tag_k2 y24 = some res ∧ St 92 w0 f22 (.blk b5 (.cells #[.int .i64 (0), .string ((bs [])), .string ((bs [])), (.slice none 0 0), .bool (false)] 25 (0, 0)) :: L) [(1, .int .i64 (y24)), (4, .pointer (some ⟨b5, 0, none⟩))] a w) ?_ ?_
  ·clear hs hm
   clear hbase25
   rintro a w ⟨f22, y24, hl23, hm, hs⟩
   replace hR2 := hR2.le hl23
   replace hW3 := hW3.le hl23
   replace hR12 := hR12.le hl23
   replace hW11 := hW11.le hl23
   replace hle := hle.trans hl23
   replace hs : St _ _ _ (.blk b5 (.cells #[.int .i64 (0), .string ((bs [])), .string ((bs [])), (.slice none 0 0), .bool (false)] 25 (0, 0)) :: L) _ _ _ := hs
   unfold ref4_tag_k2 at hm
   refine hK6 _ _ ?_; clear hK6
   refine W_seq fun K7 hK7 => ?_
   refine W_region ?_
   refine sy hs (y_buildS (places := [(0, 1), (1, 1), (2, 1), (3, 1), (4, 1)]) (cs := [.int .i64 (0), .string ((bs [])), .string ((bs [])), (.slice none 0 0), .bool (false)]) rfl Try.underlying25 ti25 (by kernel_rfl) (by decide) rfl trivial) ?_; clear hs; (try clear a w); intro a w hs
   refine sy (v := .int .i64 (y24)) hs (y_move rfl) ?_; clear hs; (try clear a w); intro a w hs
   refine RL_storeAll (i := 0) hs rfl rfl rfl ti25 ⟨rfl, rfl⟩ (AllC.arr (r := [.int .i64 (0), .string ((bs [])), .string ((bs [])), (.slice none 0 0), .bool (false)]) ⟨rfl, rfl, rfl, rfl, rfl, trivial⟩) (.free rfl) ?_; clear hs; (try clear a w); intro a w hs
   replace hs : St _ _ _ (.blk b5 (.cells #[.int .i64 (0), .string ((bs [])), .string ((bs [])), (.slice none 0 0), .bool (false)] 25 (0, 0)) :: L) _ _ _ := hs
   refine sy (v := .int .i64 (y24)) hs (y_assign rfl) ?_; clear hs; (try clear a w); intro a w hs
   refine sy (v := .bool (false)) hs (y_assign rfl) ?_; clear hs; (try clear a w); intro a w hs
   refine RL_nil ?_
   refine hK7 _ _ ?_; clear hK7
   refine W_ret ?_
   obtain rfl := Option.some.inj hm
   refine RtV3 hs rfl (rv_a hs rfl Try.underlying25 rfl ti25 (fun j u hj => Cell.blk (.head _) hj) rfl) (rv_t hs rfl) (rv_t hs rfl) ?_
   exact ⟨_, f22, [], rfl, hle, (hs.subL (.cons _ (.refl _))).cw, [.int .i64 (0), .string ((bs [])), .string ((bs [])), (.slice none 0 0), .bool (false)], rfl, rfl, ⟨_, rfl, RS.nil⟩⟩
  ·refine W_block fun Qe8 hB8 hO8 => ?_
   have hbase := Fz.le.refl f
   replace hs := hs.nilRow 29 2
   have hW37 : RW t_api_Attr f [] ([] : List api_Attr) := trivial
   generalize hgrw38 : ([] : List (List Value)) = rw38 at hs hW37; clear hgrw38
   replace hs : St _ _ _ (.row (.slice none 0 0) 29 2 rw38 :: .blk b19 (.cells #[.int .i64 (0), .string (x16), .string ((bs [])), (.slice none 0 0), .bool (false)] 25 (0, 0)) :: .blk b5 (.cells #[.int .i64 (0), .string ((bs [])), .string ((bs [])), (.slice none 0 0), .bool (false)] 25 (0, 0)) :: L) _ _ _ := hs
   replace hs : St _ _ _ (.row (.slice none 0 0) 29 2 rw38 :: .blk b19 (.cells #[.int .i64 (0), .string (x16), .string ((bs [])), (.slice none 0 0), .bool (false)] 25 (0, 0)) :: .blk b5 (.cells #[.int .i64 (0), .string ((bs [])), .string ((bs [])), (.slice none 0 0), .bool (false)] 25 (0, 0)) :: L) _ _ _ := hs
   refine W_loop (fun (k : Nat) a w => ∃ (f27 : Fz) (y29 : Int) (y31 : (List api_Attr)) (y36 : Bool) (v32 : Value) (rw33 : List (List Value)), Fz.le f f27 ∧ ref4_tag_l3 n p0 x16 k y29 y31 y36 = some res ∧ RW t_api_Attr f27 rw33 y31 ∧ St 92 w0 f27 (.row v32 29 2 rw33 :: .blk b19 (.cells #[.int .i64 (0), .string (x16), .string ((bs [])), v32, .bool (false)] 25 (0, 0)) :: .blk b5 (.cells #[.int .i64 (0), .string ((bs [])), .string ((bs [])), (.slice none 0 0), .bool (false)] 25 (0, 0)) :: L) [(0, a0), (1, .int .i64 (y29)), (4, .pointer (some ⟨b5, 0, none⟩)), (8, .pointer (some ⟨b19, 0, none⟩)), (9, .bool (y36))] a w) (fun k => k) n ⟨_, y8, ([] : List api_Attr), false, (.slice none 0 0), rw38, (Fz.le.refl _), hm, hW37, hs.sub ⟨rfl, rfl, rfl, rfl, rfl, trivial⟩⟩ ?_
   clear hs hm
   intro k
   rintro a w ⟨f27, y29, y31, y36, v32, rw33, hl28, hm, hW34, hs⟩
   replace hR2 := hR2.le hl28
   replace hW3 := hW3.le hl28
   replace hR12 := hR12.le hl28
   replace hW11 := hW11.le hl28
   replace hle := hle.trans hl28
   replace hbase25 := hbase25.trans hl28
   replace hs : St _ _ _ (.row v32 29 2 rw33 :: .blk b19 (.cells #[.int .i64 (0), .string (x16), .string ((bs [])), v32, .bool (false)] 25 (0, 0)) :: .blk b5 (.cells #[.int .i64 (0), .string ((bs [])), .string ((bs [])), (.slice none 0 0), .bool (false)] 25 (0, 0)) :: L) _ _ _ := hs
   intro K9 hK9
   cases k with
   | zero => simp [ref4_tag_l3] at hm
   | succ k41 =>
    rw [ref4_tag_l3] at hm
    have hbase42 := hl28
    refine W_seq fun K10 hK10 => ?_
    refine W_seq fun K11 hK11 => ?_
    refine W_region ?_
    refine sy (v := .int .i64 (y29)) hs (y_move rfl) ?_; clear hs; (try clear a w); intro a w hs
    refine sy (v := a0) hs (y_move rfl) ?_; clear hs; (try clear a w); intro a w hs
    refine sy hs (y_lenW hR2 hW3 rfl Try.underlying32) ?_; clear hs; (try clear a w); intro a w hs
    refine sy hs (y_lss rfl rfl) ?_; clear hs; (try clear a w); intro a w hs
    refine RL_nil ?_
    refine hK11 _ _ ?_; clear hK11
    refine W_cond hs rfl (fun hg43 => ?_) (fun hg43 => ?_)
    ·replace hm := oc_t hg43 hm
     refine W_skip ?_
     refine hK10 _ _ ?_; clear hK10
     have hbase54 := Fz.le.refl f27
     refine W_post (fun a w => ∃ (f44 : Fz) (y46 : Int) (y48 : (List api_Attr)) (y53 : Bool) (v49 : Value) (rw50 : List (List Value)), Fz.le f27 f44 ∧ ref4_tag_k4 (ref4_tag_l3 n p0 x16 k41) y46 y48 y53 = some res ∧ RW t_api_Attr f44 rw50 y48 ∧ St 92 w0 f44 (.row v49 29 2 rw50 :: .blk b19 (.cells #[.int .i64 (0), .string (x16), .string ((bs [])), v49, .bool (false)] 25 (0, 0)) :: .blk b5 (.cells #[.int .i64 (0), .string ((bs [])), .string ((bs [])), (.slice none 0 0), .bool (false)] 25 (0, 0)) :: L) [(0, a0), (1, .int .i64 (y46)), (4, .pointer (some ⟨b5, 0, none⟩)), (8, .pointer (some ⟨b19, 0, none⟩)), (9, .bool (y53))] a w) ?_ ?_
     ·clear hs hm
      clear hbase54
      rintro a w ⟨f44, y46, y48, y53, v49, rw50, hl45, hm, hW51, hs⟩
      replace hR2 := hR2.le hl45
      replace hW3 := hW3.le hl45
      replace hR12 := hR12.le hl45
      replace hW11 := hW11.le hl45
      replace hW34 := hW34.le hl45
      replace hle := hle.trans hl45
      replace hbase25 := hbase25.trans hl45
      replace hbase42 := hbase42.trans hl45
      replace hs : St _ _ _ (.row v49 29 2 rw50 :: .blk b19 (.cells #[.int .i64 (0), .string (x16), .string ((bs [])), v49, .bool (false)] 25 (0, 0)) :: .blk b5 (.cells #[.int .i64 (0), .string ((bs [])), .string ((bs [])), (.slice none 0 0), .bool (false)] 25 (0, 0)) :: L) _ _ _ := hs
      unfold ref4_tag_k4 at hm
      exact hK9 k41 _ _ (Nat.lt_succ_self _) ⟨_, y46, y48, y53, v49, rw50, hbase42, hm, hW51, hs.sub ⟨rfl, rfl, rfl, rfl, rfl, trivial⟩⟩
     ·refine W_block fun Qe12 hB12 hO12 => ?_
      refine W_seq fun K13 hK13 => ?_
      refine W_seq fun K14 hK14 => ?_
      refine W_region ?_
      refine sy (v := a0) hs (y_move rfl) ?_; clear hs; (try clear a w); intro a w hs
      refine sy (v := .int .i64 (y29)) hs (y_move rfl) ?_; clear hs; (try clear a w); intro a w hs
      obtain ⟨x55, hx56, hm⟩ := ob hm
      obtain ⟨r57, hr58, hq59, hi60, hb61⟩ := hW3.geti hx56
      obtain rfl : _ = ([.int .i32 (x55)] : List Value) := hq59
      refine sy hs (y_indexAddr hR2 rfl rfl hi60 hb61 Try.underlying32 ti21) ?_; clear hs; (try clear a w); intro a w hs
      refine sy (v := .int .i32 (x55)) hs (y_loadE (i := y29.toNat) (j := 0) hR2.up rfl hr58 rfl Try.underlying21 rfl) ?_; clear hs; (try clear a w); intro a w hs
      refine sy hs (y_eql rfl rfl) ?_; clear hs; (try clear a w); intro a w hs
      refine RL_nil ?_
      refine hK14 _ _ ?_; clear hK14
      refine W_cond hs rfl (fun hg62 => ?_) (fun hg62 => ?_)
      ·replace hm := oc_t hg62 hm
       refine W_seq fun K15 hK15 => ?_
       refine W_region ?_
       refine sy (v := .bool (y36)) hs (y_move rfl) ?_; clear hs; (try clear a w); intro a w hs
       refine sy (v := .pointer (some ⟨b19, 4, none⟩)) hs (y_fieldAddr rfl (FO.of (off := 4) Try.underlying25 rfl rfl ti4 (by decide))) ?_; clear hs; (try clear a w); intro a w hs
       refine sstore 1 hs rfl rfl rfl ti4 rfl ?_; clear hs; (try clear a w); intro a w hs
       replace hs : St _ _ _ (.row v32 29 2 rw33 :: .blk b19 (.cells #[.int .i64 (0), .string (x16), .string ((bs [])), v32, .bool (y36)] 25 (0, 0)) :: .blk b5 (.cells #[.int .i64 (0), .string ((bs [])), .string ((bs [])), (.slice none 0 0), .bool (false)] 25 (0, 0)) :: L) _ _ _ := hs
       refine RL_nil ?_
       refine hK15 _ _ ?_; clear hK15
       refine W_seq fun K16 hK16 => ?_
       refine W_region ?_
       refine sy hs (y_ldB rfl Try.underlying25 rfl ti25 (.tail _ (.head _)) rfl) ?_; clear hs; (try clear a w); intro a w hs
       refine sy (v := .int .i64 (y29)) hs (y_move rfl) ?_; clear hs; (try clear a w); intro a w hs
       refine sy hs (y_add rfl rfl rfl) ?_; clear hs; (try clear a w); intro a w hs
       refine RL_storeAll (i := 2) hs rfl rfl rfl ti25 ⟨rfl, rfl⟩ (AllC.arr (r := [.int .i64 (0), .string (x16), .string ((bs [])), v32, .bool (y36)]) ⟨rfl, rfl, rfl, (hs.one (i := 0) rfl), rfl, trivial⟩) (.free rfl) ?_; clear hs; (try clear a w); intro a w hs
       replace hs : St _ _ _ (.row v32 29 2 rw33 :: .blk b19 (.cells #[.int .i64 (0), .string (x16), .string ((bs [])), v32, .bool (y36)] 25 (0, 0)) :: .blk b5 (.cells #[.int .i64 (0), .string (x16), .string ((bs [])), v32, .bool (y36)] 25 (0, 0)) :: L) _ _ _ := hs
       refine sy (v := .int .i64 ((w64 (y29 + 1)))) hs (y_assign rfl) ?_; clear hs; (try clear a w); intro a w hs
       refine sy (v := .bool (true)) hs (y_assign rfl) ?_; clear hs; (try clear a w); intro a w hs
       refine RL_nil ?_
       refine hK16 _ _ ?_; clear hK16
       refine W_ret ?_
       obtain ⟨f63, hf64, hs2, hR65⟩ := hs.frzAt 0 rfl
       clear hs; have hs := hs2; clear hs2
       replace hR2 := hR2.le hf64
       replace hW3 := hW3.le hf64
       replace hW34 := hW34.le hf64
       replace hle := hle.trans hf64
       replace hbase25 := hbase25.trans hf64
       replace hbase42 := hbase42.trans hf64
       replace hbase54 := hbase54.trans hf64
       replace hs : St _ _ _ (.blk b19 (.cells #[.int .i64 (0), .string (x16), .string ((bs [])), v32, .bool (y36)] 25 (0, 0)) :: .blk b5 (.cells #[.int .i64 (0), .string (x16), .string ((bs [])), v32, .bool (y36)] 25 (0, 0)) :: L) _ _ _ := hs
       obtain rfl := Option.some.inj hm
       refine RtV3 hs rfl (rv_a hs rfl Try.underlying25 rfl ti25 (fun j u hj => Cell.blk (.tail _ (.head _)) hj) rfl) (rv_t hs rfl) (rv_t hs rfl) ?_
       exact ⟨_, f63, [], rfl, hle, (hs.subL (.cons _ (.cons _ (.refl _)))).cw, [.int .i64 (0), .string (x16), .string ((bs [])), v32, .bool (y36)], rfl, rfl, ⟨_, rfl, ⟨rw33, hR65, hW34⟩⟩⟩
      ·replace hm := oc_f hg62 hm
       refine W_skip ?_
       refine hK13 _ _ ?_; clear hK13
       refine W_seq fun K17 hK17 => ?_
       refine W_seq fun K18 hK18 => ?_
       refine W_post (fun a w => ∃ (y66 : Bool), ref4_tag_k5 n p0 y29 y31 (ref4_tag_l3 n p0 x16 k41) y66 = some res ∧ St 92 w0 f27 (.row v32 29 2 rw33 :: .blk b19 (.cells #[.int .i64 (0), .string (x16), .string ((bs [])), v32, .bool (false)] 25 (0, 0)) :: .blk b5 (.cells #[.int .i64 (0), .string ((bs [])), .string ((bs [])), (.slice none 0 0), .bool (false)] 25 (0, 0)) :: L) [(0, a0), (1, .int .i64 (y29)), (4, .pointer (some ⟨b5, 0, none⟩)), (8, .pointer (some ⟨b19, 0, none⟩)), (71, .bool (y66))] a w) ?_ ?_
       ·clear hs hm
        rintro a w ⟨y66, hm, hs⟩
        replace hs : St _ _ _ (.row v32 29 2 rw33 :: .blk b19 (.cells #[.int .i64 (0), .string (x16), .string ((bs [])), v32, .bool (false)] 25 (0, 0)) :: .blk b5 (.cells #[.int .i64 (0), .string ((bs [])), .string ((bs [])), (.slice none 0 0), .bool (false)] 25 (0, 0)) :: L) _ _ _ := hs
        unfold ref4_tag_k5 at hm
        refine hK18 _ _ ?_; clear hK18
        refine W_cond hs rfl (fun hg67 => ?_) (fun hg67 => ?_)
        ·replace hm := oc_t hg67 hm
         refine W_seq fun K19 hK19 => ?_
         refine W_region ?_
         refine sy (v := a0) hs (y_move rfl) ?_; clear hs; (try clear a w); intro a w hs
         refine sy (v := .int .i64 (y29)) hs (y_move rfl) ?_; clear hs; (try clear a w); intro a w hs
         obtain ⟨x68, hx69, hm⟩ := ob hm
         obtain ⟨r70, hr71, hq72, hi73, hb74⟩ := hW3.geti hx69
         obtain rfl : _ = ([.int .i32 (x68)] : List Value) := hq72
         refine sy hs (y_indexAddr hR2 rfl rfl hi73 hb74 Try.underlying32 ti21) ?_; clear hs; (try clear a w); intro a w hs
         refine sy (v := .int .i32 (x68)) hs (y_loadE (i := y29.toNat) (j := 0) hR2.up rfl hr71 rfl Try.underlying21 rfl) ?_; clear hs; (try clear a w); intro a w hs
         refine sy hs (y_eql rfl rfl) ?_; clear hs; (try clear a w); intro a w hs
         refine sy (v := .bool (decide (x68 = 47))) hs (y_assign rfl) ?_; clear hs; (try clear a w); intro a w hs
         refine RL_nil ?_
         refine hK19 _ _ ?_; clear hK19
         refine W_seq fun K20 hK20 => ?_
         refine W_region ?_
         refine sy (v := .int .i64 (y29)) hs (y_move rfl) ?_; clear hs; (try clear a w); intro a w hs
         refine sy hs (y_add rfl rfl rfl) ?_; clear hs; (try clear a w); intro a w hs
         refine sy (v := .int .i64 ((w64 (y29 + 1)))) hs (y_assign rfl) ?_; clear hs; (try clear a w); intro a w hs
         refine RL_nil ?_
         refine hK20 _ _ ?_; clear hK20
         refine W_exit ?_
         refine hB12 _ _ ?_
         exact ⟨_, (w64 (y29 + 1)), y31, decide (x68 = 47), v32, rw33, (Fz.le.refl _), hm, hW34, hs.sub ⟨rfl, rfl, rfl, rfl, rfl, trivial⟩⟩
        ·replace hm := oc_f hg67 hm
         refine W_skip ?_
         refine hK17 _ _ ?_; clear hK17
         refine W_seq fun K21 hK21 => ?_
         refine W_region ?_
         refine sy (v := .bool (false)) hs (y_assign rfl) ?_; clear hs; (try clear a w); intro a w hs
         refine RL_nil ?_
         refine hK21 _ _ ?_; clear hK21
         refine W_seq fun K22 hK22 => ?_
         refine W_region ?_
         refine RL_alloc hs ti29 (.free rfl) (by decide) ?_; clear hs; (try clear a w); intro b75 a w hs
         replace hs : St _ _ _ (.blk b75 (.cells #[.string ((bs [])), .string ((bs []))] 29 (0, 0)) :: .row v32 29 2 rw33 :: .blk b19 (.cells #[.int .i64 (0), .string (x16), .string ((bs [])), v32, .bool (false)] 25 (0, 0)) :: .blk b5 (.cells #[.int .i64 (0), .string ((bs [])), .string ((bs [])), (.slice none 0 0), .bool (false)] 25 (0, 0)) :: L) _ _ _ := hs
         refine RL_nil ?_
         refine hK22 _ _ ?_; clear hK22
         refine W_seq fun K23 hK23 => ?_
         refine W_region ?_
         refine sy (v := a0) hs (y_move rfl) ?_; clear hs; (try clear a w); intro a w hs
         refine sy (v := .int .i64 (y29)) hs (y_move rfl) ?_; clear hs; (try clear a w); intro a w hs
         obtain ⟨x77, hx78, hm⟩ := ob hm
         refine sy hs (y_call rfl has75 rfl (ref4_attr_ok n (f := f27) (a0 := a0) ⟨rw1, hR2, hW3⟩ hx78)) ?_; clear hs; (try clear a w); intro a w hs
         refine sy (v := .tuple #[.agg #[.string (x77.1.Name), .string (x77.1.Value)], .int .i64 (x77.2)]) hs (y_move rfl) ?_; clear hs; (try clear a w); intro a w hs
         refine sy (v := .agg #[.string (x77.1.Name), .string (x77.1.Value)]) hs (y_extract rfl rfl) ?_; clear hs; (try clear a w); intro a w hs
         refine sy (v := .int .i64 (x77.2)) hs (y_extract rfl rfl) ?_; clear hs; (try clear a w); intro a w hs
         refine RL_storeAll (i := 0) hs rfl rfl rfl ti29 ⟨rfl, rfl⟩ (AllC.arr (r := [.string (x77.1.Name), .string (x77.1.Value)]) ⟨rfl, rfl, trivial⟩) (.free rfl) ?_; clear hs; (try clear a w); intro a w hs
         replace hs : St _ _ _ (.blk b75 (.cells #[.string (x77.1.Name), .string (x77.1.Value)] 29 (0, 0)) :: .row v32 29 2 rw33 :: .blk b19 (.cells #[.int .i64 (0), .string (x16), .string ((bs [])), v32, .bool (false)] 25 (0, 0)) :: .blk b5 (.cells #[.int .i64 (0), .string ((bs [])), .string ((bs [])), (.slice none 0 0), .bool (false)] 25 (0, 0)) :: L) _ _ _ := hs
         refine sy (v := .int .i64 (x77.2)) hs (y_assign rfl) ?_; clear hs; (try clear a w); intro a w hs
         refine RL_nil ?_
         refine hK23 _ _ ?_; clear hK23
         refine W_region ?_
         refine sy (v := .pointer (some ⟨b19, 3, none⟩)) hs (y_fieldAddr rfl (FO.of (off := 3) Try.underlying25 rfl rfl ti23 (by decide))) ?_; clear hs; (try clear a w); intro a w hs
         refine sy (v := v32) hs (y_ld rfl Try.underlying23 rfl (Cell.blk (.tail _ (.tail _ (.head _))) rfl)) ?_; clear hs; (try clear a w); intro a w hs
         refine sy hs (y_ldB rfl Try.underlying29 rfl ti29 (.head _) rfl) ?_; clear hs; (try clear a w); intro a w hs
         obtain ⟨x79, hx80, hm⟩ := ob hm
         replace hs := hs.front 1
         replace hs : St _ _ _ (.row v32 29 2 rw33 :: .blk b75 (.cells #[.string (x77.1.Name), .string (x77.1.Value)] 29 (0, 0)) :: .blk b19 (.cells #[.int .i64 (0), .string (x16), .string ((bs [])), v32, .bool (false)] 25 (0, 0)) :: .blk b5 (.cells #[.int .i64 (0), .string ((bs [])), .string ((bs [])), (.slice none 0 0), .bool (false)] 25 (0, 0)) :: L) _ _ _ := hs
         refine RL_call (Lr := [.row v32 29 2 rw33]) (Lf := .blk b75 (.cells #[.string (x77.1.Name), .string (x77.1.Value)] 29 (0, 0)) :: .blk b19 (.cells #[.int .i64 (0), .string (x16), .string ((bs [])), v32, .bool (false)] 25 (0, 0)) :: .blk b5 (.cells #[.int .i64 (0), .string ((bs [])), .string ((bs [])), (.slice none 0 0), .bool (false)] 25 (0, 0)) :: L) hs rfl has76 rfl rfl (ref4_add_ok n (f := f27) (a0 := v32) (a0r := rw33) (a1 := [.string (x77.1.Name), .string (x77.1.Value)]) hW34 rfl hx80) (.free rfl) (by decide) ?_; clear hs; (try clear a w)
         rintro v83 f81 _ a w hf82 ⟨_, rw84, rfl, rfl, hW85⟩ hs
         replace hR2 := hR2.le hf82
         replace hW3 := hW3.le hf82
         replace hR12 := hR12.le hf82
         replace hW11 := hW11.le hf82
         replace hW34 := hW34.le hf82
         replace hle := hle.trans hf82
         replace hbase25 := hbase25.trans hf82
         replace hbase42 := hbase42.trans hf82
         replace hbase54 := hbase54.trans hf82
         replace hs : St _ _ _ (.row v83 29 2 rw84 :: .blk b75 (.cells #[.string (x77.1.Name), .string (x77.1.Value)] 29 (0, 0)) :: .blk b19 (.cells #[.int .i64 (0), .string (x16), .string ((bs [])), v32, .bool (false)] 25 (0, 0)) :: .blk b5 (.cells #[.int .i64 (0), .string ((bs [])), .string ((bs [])), (.slice none 0 0), .bool (false)] 25 (0, 0)) :: L) _ _ _ := hs
         refine sy (v := .pointer (some ⟨b19, 3, none⟩)) hs (y_fieldAddr rfl (FO.of (off := 3) Try.underlying25 rfl rfl ti23 (by decide))) ?_; clear hs; (try clear a w); intro a w hs
         refine sstore 2 hs rfl rfl rfl ti23 ((hs.one (i := 0) rfl)) ?_; clear hs; (try clear a w); intro a w hs
         replace hs : St _ _ _ (.row v83 29 2 rw84 :: .blk b75 (.cells #[.string (x77.1.Name), .string (x77.1.Value)] 29 (0, 0)) :: .blk b19 (.cells #[.int .i64 (0), .string (x16), .string ((bs [])), v83, .bool (false)] 25 (0, 0)) :: .blk b5 (.cells #[.int .i64 (0), .string ((bs [])), .string ((bs [])), (.slice none 0 0), .bool (false)] 25 (0, 0)) :: L) _ _ _ := hs
         refine RL_nil ?_
         exact ⟨_, x77.2, x79, false, v83, rw84, hbase54, hm, hW85, hs.subs ⟨rfl, rfl, rfl, rfl, rfl, trivial⟩ (.cons_cons _ (.cons _ (.cons_cons _ (.cons_cons _ (.refl _)))))⟩
       ·refine W_region ?_
        refine sy (v := a0) hs (y_move rfl) ?_; clear hs; (try clear a w); intro a w hs
        refine sy (v := .int .i64 (y29)) hs (y_move rfl) ?_; clear hs; (try clear a w); intro a w hs
        obtain ⟨x88, hx89, hm⟩ := ob hm
        obtain ⟨r90, hr91, hq92, hi93, hb94⟩ := hW3.geti hx89
        obtain rfl : _ = ([.int .i32 (x88)] : List Value) := hq92
        refine sy hs (y_indexAddr hR2 rfl rfl hi93 hb94 Try.underlying32 ti21) ?_; clear hs; (try clear a w); intro a w hs
        refine sy (v := .int .i32 (x88)) hs (y_loadE (i := y29.toNat) (j := 0) hR2.up rfl hr91 rfl Try.underlying21 rfl) ?_; clear hs; (try clear a w); intro a w hs
        obtain ⟨x95, hx96, hm⟩ := ob hm
        refine sy hs (y_call rfl has73 rfl (ref4_Blank_ok n (f := f27)  hx96)) ?_; clear hs; (try clear a w); intro a w hs
        refine sy (v := .bool (x95)) hs (y_move rfl) ?_; clear hs; (try clear a w); intro a w hs
        refine St.split hs (t := 65) rfl (fun hg97 hq => ?_) (fun hg97 hq => ?_)
        ·clear hs; have hs := hq; clear hq
         replace hm := oc_t hg97 hm
         refine sno hs ?_; clear hs; (try clear a w); intro a w hs
         refine sno hs ?_; clear hs; (try clear a w); intro a w hs
         refine sno hs ?_; clear hs; (try clear a w); intro a w hs
         refine sno hs ?_; clear hs; (try clear a w); intro a w hs
         refine sno hs ?_; clear hs; (try clear a w); intro a w hs
         refine sy (v := .bool (true)) hs (y_pick rfl rfl) ?_; clear hs; (try clear a w); intro a w hs
         refine RL_nil ?_
         replace hs : St _ _ _ (.row v32 29 2 rw33 :: .blk b19 (.cells #[.int .i64 (0), .string (x16), .string ((bs [])), v32, .bool (false)] 25 (0, 0)) :: .blk b5 (.cells #[.int .i64 (0), .string ((bs [])), .string ((bs [])), (.slice none 0 0), .bool (false)] 25 (0, 0)) :: L) _ _ _ := hs
         exact ⟨true, hm, hs.sub ⟨rfl, rfl, rfl, rfl, rfl, trivial⟩⟩
        ·clear hs; have hs := hq; clear hq
         replace hm := oc_f hg97 hm
         refine syg (v := a0) hs (y_move rfl) ?_; clear hs; (try clear a w); intro a w hs
         refine syg (v := .int .i64 (y29)) hs (y_move rfl) ?_; clear hs; (try clear a w); intro a w hs
         obtain ⟨x98, hx99, hm⟩ := ob hm
         obtain ⟨r100, hr101, hq102, hi103, hb104⟩ := hW3.geti hx99
         obtain rfl : _ = ([.int .i32 (x98)] : List Value) := hq102
         refine syg hs (y_indexAddr hR2 rfl rfl hi103 hb104 Try.underlying32 ti21) ?_; clear hs; (try clear a w); intro a w hs
         refine syg (v := .int .i32 (x98)) hs (y_loadE (i := y29.toNat) (j := 0) hR2.up rfl hr101 rfl Try.underlying21 rfl) ?_; clear hs; (try clear a w); intro a w hs
         refine syg hs (y_eql rfl rfl) ?_; clear hs; (try clear a w); intro a w hs
         refine sy (v := .bool (decide (x98 = 47))) hs (y_pick rfl rfl) ?_; clear hs; (try clear a w); intro a w hs
         refine RL_nil ?_
         replace hs : St _ _ _ (.row v32 29 2 rw33 :: .blk b19 (.cells #[.int .i64 (0), .string (x16), .string ((bs [])), v32, .bool (false)] 25 (0, 0)) :: .blk b5 (.cells #[.int .i64 (0), .string ((bs [])), .string ((bs [])), (.slice none 0 0), .bool (false)] 25 (0, 0)) :: L) _ _ _ := hs
         exact ⟨decide (x98 = 47), hm, hs.sub ⟨rfl, rfl, rfl, rfl, rfl, trivial⟩⟩
    ·replace hm := oc_f hg43 hm
     refine W_exit ?_
     refine hB8 _ _ ?_
     exact ⟨_, y29, hbase25, hm, hs.subs ⟨rfl, rfl, trivial⟩ (.cons _ (.cons _ (.cons_cons _ (.refl _))))⟩
 ·refine W_block fun Qe24 hB24 hO24 => ?_
  refine W_loop (fun (k : Nat) a w => ∃ (y105 : Int), ref4_tag_l6 n p0 p1 k y105 = some res ∧ St 92 w0 f (.blk b5 (.cells #[.int .i64 (0), .string ((bs [])), .string ((bs [])), (.slice none 0 0), .bool (false)] 25 (0, 0)) :: L) [(0, a0), (1, .int .i64 (y105)), (4, .pointer (some ⟨b5, 0, none⟩)), (7, .int .i64 (p1))] a w) (fun k => k) n ⟨p1, hm, hs.sub ⟨rfl, rfl, rfl, rfl, trivial⟩⟩ ?_
  clear hs hm
  intro k
  rintro a w ⟨y105, hm, hs⟩
  replace hs : St _ _ _ (.blk b5 (.cells #[.int .i64 (0), .string ((bs [])), .string ((bs [])), (.slice none 0 0), .bool (false)] 25 (0, 0)) :: L) _ _ _ := hs
  intro K25 hK25
  cases k with
  | zero => simp [ref4_tag_l6] at hm
  | succ k106 =>
   rw [ref4_tag_l6] at hm
   refine W_seq fun K26 hK26 => ?_
   refine W_seq fun K27 hK27 => ?_
   refine W_post (fun a w => ∃ (y107 : Bool), ref4_tag_k7 n p0 p1 y105 (ref4_tag_l6 n p0 p1 k106) y107 = some res ∧ St 92 w0 f (.blk b5 (.cells #[.int .i64 (0), .string ((bs [])), .string ((bs [])), (.slice none 0 0), .bool (false)] 25 (0, 0)) :: L) [(0, a0), (1, .int .i64 (y105)), (4, .pointer (some ⟨b5, 0, none⟩)), (7, .int .i64 (p1)), (37, .bool (y107))] a w) ?_ ?_
   ·clear hs hm
    rintro a w ⟨y107, hm, hs⟩
    replace hs : St _ _ _ (.blk b5 (.cells #[.int .i64 (0), .string ((bs [])), .string ((bs [])), (.slice none 0 0), .bool (false)] 25 (0, 0)) :: L) _ _ _ := hs
    unfold ref4_tag_k7 at hm
    refine hK27 _ _ ?_; clear hK27
    refine W_cond hs rfl (fun hg108 => ?_) (fun hg108 => ?_)
    ·replace hm := oc_t hg108 hm
     refine W_skip ?_
     refine hK26 _ _ ?_; clear hK26
     refine W_block fun Qe28 hB28 hO28 => ?_
     refine W_region ?_
     refine sy (v := .int .i64 (y105)) hs (y_move rfl) ?_; clear hs; (try clear a w); intro a w hs
     refine sy hs (y_add rfl rfl rfl) ?_; clear hs; (try clear a w); intro a w hs
     refine sy (v := .int .i64 ((w64 (y105 + 1)))) hs (y_assign rfl) ?_; clear hs; (try clear a w); intro a w hs
     refine RL_nil ?_
     exact hK25 k106 _ _ (Nat.lt_succ_self _) ⟨(w64 (y105 + 1)), hm, hs.sub ⟨rfl, rfl, rfl, rfl, trivial⟩⟩
    ·replace hm := oc_f hg108 hm
     refine W_exit ?_
     refine hB24 _ _ ?_
     exact ⟨y105, hm, hs.sub ⟨rfl, rfl, rfl, rfl, trivial⟩⟩
   ·refine W_region ?_
    refine sy (v := .int .i64 (y105)) hs (y_move rfl) ?_; clear hs; (try clear a w); intro a w hs
    refine sy (v := a0) hs (y_move rfl) ?_; clear hs; (try clear a w); intro a w hs
    refine sy hs (y_lenW hR2 hW3 rfl Try.underlying32) ?_; clear hs; (try clear a w); intro a w hs
    refine sy hs (y_lss rfl rfl) ?_; clear hs; (try clear a w); intro a w hs
    refine sy (v := .bool (decide (y105 < (p0.length : Int)))) hs (y_move rfl) ?_; clear hs; (try clear a w); intro a w hs
    refine St.split hs (t := 16) rfl (fun hg109 hq => ?_) (fun hg109 hq => ?_)
    ·clear hs; have hs := hq; clear hq
     replace hm := oc_t hg109 hm
     refine syg (v := a0) hs (y_move rfl) ?_; clear hs; (try clear a w); intro a w hs
     refine syg (v := .int .i64 (y105)) hs (y_move rfl) ?_; clear hs; (try clear a w); intro a w hs
     obtain ⟨x110, hx111, hm⟩ := ob hm
     obtain ⟨r112, hr113, hq114, hi115, hb116⟩ := hW3.geti hx111
     obtain rfl : _ = ([.int .i32 (x110)] : List Value) := hq114
     refine syg hs (y_indexAddr hR2 rfl rfl hi115 hb116 Try.underlying32 ti21) ?_; clear hs; (try clear a w); intro a w hs
     refine syg (v := .int .i32 (x110)) hs (y_loadE (i := y105.toNat) (j := 0) hR2.up rfl hr113 rfl Try.underlying21 rfl) ?_; clear hs; (try clear a w); intro a w hs
     obtain ⟨x117, hx118, hm⟩ := ob hm
     refine syg hs (y_call rfl has73 rfl (ref4_Blank_ok n (f := f)  hx118)) ?_; clear hs; (try clear a w); intro a w hs
     refine syg (v := .bool ((!x117))) hs (y_not rfl) ?_; clear hs; (try clear a w); intro a w hs
     refine sy (v := .bool ((!x117))) hs (y_pick rfl rfl) ?_; clear hs; (try clear a w); intro a w hs
     refine sy (v := .bool ((!x117))) hs (y_move rfl) ?_; clear hs; (try clear a w); intro a w hs
     refine St.split hs (t := 24) rfl (fun hg119 hq => ?_) (fun hg119 hq => ?_)
     ·clear hs; have hs := hq; clear hq
      replace hm := oc_t hg119 hm
      refine syg (v := a0) hs (y_move rfl) ?_; clear hs; (try clear a w); intro a w hs
      refine syg (v := .int .i64 (y105)) hs (y_move rfl) ?_; clear hs; (try clear a w); intro a w hs
      obtain ⟨x120, hx121, hm⟩ := ob hm
      obtain ⟨r122, hr123, hq124, hi125, hb126⟩ := hW3.geti hx121
      obtain rfl : _ = ([.int .i32 (x120)] : List Value) := hq124
      refine syg hs (y_indexAddr hR2 rfl rfl hi125 hb126 Try.underlying32 ti21) ?_; clear hs; (try clear a w); intro a w hs
      refine syg (v := .int .i32 (x120)) hs (y_loadE (i := y105.toNat) (j := 0) hR2.up rfl hr123 rfl Try.underlying21 rfl) ?_; clear hs; (try clear a w); intro a w hs
      refine syg hs (y_neq rfl rfl) ?_; clear hs; (try clear a w); intro a w hs
      refine sy (v := .bool (decide (x120 ≠ 47))) hs (y_pick rfl rfl) ?_; clear hs; (try clear a w); intro a w hs
      refine sy (v := .bool (decide (x120 ≠ 47))) hs (y_move rfl) ?_; clear hs; (try clear a w); intro a w hs
      refine St.split hs (t := 31) rfl (fun hg127 hq => ?_) (fun hg127 hq => ?_)
      ·clear hs; have hs := hq; clear hq
       replace hm := oc_t hg127 hm
       refine syg (v := a0) hs (y_move rfl) ?_; clear hs; (try clear a w); intro a w hs
       refine syg (v := .int .i64 (y105)) hs (y_move rfl) ?_; clear hs; (try clear a w); intro a w hs
       obtain ⟨x128, hx129, hm⟩ := ob hm
       obtain ⟨r130, hr131, hq132, hi133, hb134⟩ := hW3.geti hx129
       obtain rfl : _ = ([.int .i32 (x128)] : List Value) := hq132
       refine syg hs (y_indexAddr hR2 rfl rfl hi133 hb134 Try.underlying32 ti21) ?_; clear hs; (try clear a w); intro a w hs
       refine syg (v := .int .i32 (x128)) hs (y_loadE (i := y105.toNat) (j := 0) hR2.up rfl hr131 rfl Try.underlying21 rfl) ?_; clear hs; (try clear a w); intro a w hs
       refine syg hs (y_neq rfl rfl) ?_; clear hs; (try clear a w); intro a w hs
       refine sy (v := .bool (decide (x128 ≠ 62))) hs (y_pick rfl rfl) ?_; clear hs; (try clear a w); intro a w hs
       refine RL_nil ?_
       exact ⟨decide (x128 ≠ 62), hm, hs.sub ⟨rfl, rfl, rfl, rfl, rfl, trivial⟩⟩
      ·clear hs; have hs := hq; clear hq
       replace hm := oc_f hg127 hm
       refine sno hs ?_; clear hs; (try clear a w); intro a w hs
       refine sno hs ?_; clear hs; (try clear a w); intro a w hs
       refine sno hs ?_; clear hs; (try clear a w); intro a w hs
       refine sno hs ?_; clear hs; (try clear a w); intro a w hs
       refine sno hs ?_; clear hs; (try clear a w); intro a w hs
       refine sy (v := .bool (false)) hs (y_pick rfl rfl) ?_; clear hs; (try clear a w); intro a w hs
       refine RL_nil ?_
       exact ⟨false, hm, hs.sub ⟨rfl, rfl, rfl, rfl, rfl, trivial⟩⟩
     ·clear hs; have hs := hq; clear hq
      replace hm := oc_f hg119 hm
      refine sno hs ?_; clear hs; (try clear a w); intro a w hs
      refine sno hs ?_; clear hs; (try clear a w); intro a w hs
      refine sno hs ?_; clear hs; (try clear a w); intro a w hs
      refine sno hs ?_; clear hs; (try clear a w); intro a w hs
      refine sno hs ?_; clear hs; (try clear a w); intro a w hs
      refine sy (v := .bool (false)) hs (y_pick rfl rfl) ?_; clear hs; (try clear a w); intro a w hs
      refine sy (v := .bool (false)) hs (y_move rfl) ?_; clear hs; (try clear a w); intro a w hs
      refine sno hs ?_; clear hs; (try clear a w); intro a w hs
      refine sno hs ?_; clear hs; (try clear a w); intro a w hs
      refine sno hs ?_; clear hs; (try clear a w); intro a w hs
      refine sno hs ?_; clear hs; (try clear a w); intro a w hs
      refine sno hs ?_; clear hs; (try clear a w); intro a w hs
      refine sy (v := .bool (false)) hs (y_pick rfl rfl) ?_; clear hs; (try clear a w); intro a w hs
      refine RL_nil ?_
      exact ⟨false, hm, hs.sub ⟨rfl, rfl, rfl, rfl, rfl, trivial⟩⟩
    ·clear hs; have hs := hq; clear hq
     replace hm := oc_f hg109 hm
     refine sno hs ?_; clear hs; (try clear a w); intro a w hs
     refine sno hs ?_; clear hs; (try clear a w); intro a w hs
     refine sno hs ?_; clear hs; (try clear a w); intro a w hs
     refine sno hs ?_; clear hs; (try clear a w); intro a w hs
     refine sno hs ?_; clear hs; (try clear a w); intro a w hs
     refine sno hs ?_; clear hs; (try clear a w); intro a w hs
     refine sy (v := .bool (false)) hs (y_pick rfl rfl) ?_; clear hs; (try clear a w); intro a w hs
     refine sy (v := .bool (false)) hs (y_move rfl) ?_; clear hs; (try clear a w); intro a w hs
     refine sno hs ?_; clear hs; (try clear a w); intro a w hs
     refine sno hs ?_; clear hs; (try clear a w); intro a w hs
     refine sno hs ?_; clear hs; (try clear a w); intro a w hs
     refine sno hs ?_; clear hs; (try clear a w); intro a w hs
     refine sno hs ?_; clear hs; (try clear a w); intro a w hs
     refine sy (v := .bool (false)) hs (y_pick rfl rfl) ?_; clear hs; (try clear a w); intro a w hs
     refine sy (v := .bool (false)) hs (y_move rfl) ?_; clear hs; (try clear a w); intro a w hs
     refine sno hs ?_; clear hs; (try clear a w); intro a w hs
     refine sno hs ?_; clear hs; (try clear a w); intro a w hs
     refine sno hs ?_; clear hs; (try clear a w); intro a w hs
     refine sno hs ?_; clear hs; (try clear a w); intro a w hs
     refine sno hs ?_; clear hs; (try clear a w); intro a w hs
     refine sy (v := .bool (false)) hs (y_pick rfl rfl) ?_; clear hs; (try clear a w); intro a w hs
     refine RL_nil ?_
     exact ⟨false, hm, hs.sub ⟨rfl, rfl, rfl, rfl, rfl, trivial⟩⟩
end Go.Proofs.Ythmnohdlhlmmpaa
