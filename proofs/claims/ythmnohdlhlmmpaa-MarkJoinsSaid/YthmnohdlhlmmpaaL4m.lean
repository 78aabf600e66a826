/-
  Walks and laws of this seat; the base is the text Base.
-/
import Derived.Test.YthmnohdlhlmmpaaY4
import Derived.Test.YthmnohdlhlmmpaaRows
/-
  Models of functions, and that the functions compute them. Printed by lift.py.
-/
namespace Go.Proofs.Ythmnohdlhlmmpaa
open Go.RowKit Go.Sl
/-! casement/casementbook.Same[rune] -/
def book_Same_rune_k1 : Option Bool :=
  some true
def book_Same_rune_l2 (p0 : (List Int)) (p1 : (List Int)) : Nat → Int → Option Bool
  | 0, _ => none
  | k11 + 1, y10 =>
  (bif (decide (y10 < (p0.length : Int))) then (geti p0 y10).bind fun x13 =>
  (geti p1 y10).bind fun x20 =>
  (bif (decide (x13 ≠ x20)) then some false else
  (book_Same_rune_l2 p0 p1 k11) (w64 (y10 + 1))) else
  book_Same_rune_k1)
def book_Same_rune (n : Nat) (p0 : (List Int)) (p1 : (List Int)) : Option Bool :=
  (bif (decide ((p0.length : Int) ≠ (p1.length : Int))) then some false else
  book_Same_rune_l2 p0 p1 n 0)
set_option maxRecDepth 20000 in
set_option maxHeartbeats 4000000 in
theorem book_Same_rune_ok (n : Nat) {f : Fz} {p0 : (List Int)} {a0 : Value} {p1 : (List Int)} {a1 : Value} {res : Bool} (h0 : RS (tInt .i32) f a0 p0) (h1 : RS (tInt .i32) f a1 p1) (hm : book_Same_rune n p0 p1 = some res) : Gives Try.prog 56 [a0, a1] f (.bool res) := by
 unfold book_Same_rune at hm
 intro w0 L w hC
 obtain ⟨rw1, hR2, hW3⟩ := h0
 obtain ⟨rw5, hR6, hW7⟩ := h1
 refine enter Try.func56 rfl Try.ntmps56 (by simp) hC fun a hs => ?_
 have hle := Fz.le.refl f
 refine W_seq fun K1 hK1 => ?_
 refine W_region ?_
 refine sy (v := .bool (false)) hs (y_assign rfl) ?_; clear hs; (try clear a w); intro a w hs
 refine RL_nil ?_
 refine hK1 _ _ ?_; clear hK1
 refine W_seq fun K2 hK2 => ?_
 refine W_seq fun K3 hK3 => ?_
 refine W_region ?_
 refine sy (v := a0) hs (y_move rfl) ?_; clear hs; (try clear a w); intro a w hs
 refine sy hs (y_lenW hR2 hW3 rfl Try.underlying32) ?_; clear hs; (try clear a w); intro a w hs
 refine sy (v := a1) hs (y_move rfl) ?_; clear hs; (try clear a w); intro a w hs
 refine sy hs (y_lenW hR6 hW7 rfl Try.underlying32) ?_; clear hs; (try clear a w); intro a w hs
 refine sy hs (y_neq rfl rfl) ?_; clear hs; (try clear a w); intro a w hs
 refine RL_nil ?_
 refine hK3 _ _ ?_; clear hK3
 refine W_cond hs rfl (fun hg9 => ?_) (fun hg9 => ?_)
 ·replace hm := oc_t hg9 hm
  refine W_seq fun K4 hK4 => ?_
  refine W_region ?_
  refine sy (v := .bool (false)) hs (y_assign rfl) ?_; clear hs; (try clear a w); intro a w hs
  refine RL_nil ?_
  refine hK4 _ _ ?_; clear hK4
  refine W_ret ?_
  obtain rfl := Option.some.inj hm
  refine RtV1 hs rfl (rv_t hs rfl) ?_
  exact ⟨rfl, (hs.weak hle).cw⟩
 ·replace hm := oc_f hg9 hm
  refine W_skip ?_
  refine hK2 _ _ ?_; clear hK2
  refine W_seq fun K5 hK5 => ?_
  refine W_seq fun K6 hK6 => ?_
  refine W_region ?_
  refine sy (v := .int .i64 (0)) hs (y_assign rfl) ?_; clear hs; (try clear a w); intro a w hs
  refine RL_nil ?_
  refine hK6 _ _ ?_; clear hK6
  refine W_post (fun a w => book_Same_rune_k1 = some res ∧ St 26 w0 f (L) [] a w) ?_ ?_
  ·clear hs hm
   rintro a w ⟨hm, hs⟩
   replace hs : St _ _ _ (L) _ _ _ := hs
   unfold book_Same_rune_k1 at hm
   refine hK5 _ _ ?_; clear hK5
   refine W_seq fun K7 hK7 => ?_
   refine W_region ?_
   refine sy (v := .bool (true)) hs (y_assign rfl) ?_; clear hs; (try clear a w); intro a w hs
   refine RL_nil ?_
   refine hK7 _ _ ?_; clear hK7
   refine W_ret ?_
   obtain rfl := Option.some.inj hm
   refine RtV1 hs rfl (rv_t hs rfl) ?_
   exact ⟨rfl, (hs.weak hle).cw⟩
  ·refine W_block fun Qe8 hB8 hO8 => ?_
   refine W_loop (fun (k : Nat) a w => ∃ (y10 : Int), book_Same_rune_l2 p0 p1 k y10 = some res ∧ St 26 w0 f (L) [(0, a0), (1, a1), (5, .int .i64 (y10))] a w) (fun k => k) n ⟨0, hm, hs.sub ⟨rfl, rfl, rfl, trivial⟩⟩ ?_
   clear hs hm
   intro k
   rintro a w ⟨y10, hm, hs⟩
   replace hs : St _ _ _ (L) _ _ _ := hs
   intro K9 hK9
   cases k with
   | zero => simp [book_Same_rune_l2] at hm
   | succ k11 =>
    rw [book_Same_rune_l2] at hm
    refine W_seq fun K10 hK10 => ?_
    refine W_seq fun K11 hK11 => ?_
    refine W_region ?_
    refine sy (v := .int .i64 (y10)) hs (y_move rfl) ?_; clear hs; (try clear a w); intro a w hs
    refine sy (v := a0) hs (y_move rfl) ?_; clear hs; (try clear a w); intro a w hs
    refine sy hs (y_lenW hR2 hW3 rfl Try.underlying32) ?_; clear hs; (try clear a w); intro a w hs
    refine sy hs (y_lss rfl rfl) ?_; clear hs; (try clear a w); intro a w hs
    refine RL_nil ?_
    refine hK11 _ _ ?_; clear hK11
    refine W_cond hs rfl (fun hg12 => ?_) (fun hg12 => ?_)
    ·replace hm := oc_t hg12 hm
     refine W_skip ?_
     refine hK10 _ _ ?_; clear hK10
     refine W_seq fun K12 hK12 => ?_
     refine W_block fun Qe13 hB13 hO13 => ?_
     refine W_seq fun K14 hK14 => ?_
     refine W_draw hs mixed (by kernel_rfl) ?_; intro a he
     refine qy (v := a0) he (y_move rfl) ?_; clear he; (try clear a); intro a he
     refine qy (v := .int .i64 (y10)) he (y_move rfl) ?_; clear he; (try clear a); intro a he
     obtain ⟨x13, hx14, hm⟩ := ob hm
     obtain ⟨r15, hr16, hq17, hi18, hb19⟩ := hW3.geti hx14
     obtain rfl : _ = ([.int .i32 (x13)] : List Value) := hq17
     refine qy he (y_indexAddr hR2 rfl rfl hi18 hb19 Try.underlying32 ti21) ?_; clear he; (try clear a); intro a he
     refine qy (v := .int .i32 (x13)) he (y_loadE (i := y10.toNat) (j := 0) hR2.up rfl hr16 rfl Try.underlying21 rfl) ?_; clear he; (try clear a); intro a he
     refine qy (v := a1) he (y_move rfl) ?_; clear he; (try clear a); intro a he
     refine qy (v := .int .i64 (y10)) he (y_move rfl) ?_; clear he; (try clear a); intro a he
     obtain ⟨x20, hx21, hm⟩ := ob hm
     obtain ⟨r22, hr23, hq24, hi25, hb26⟩ := hW7.geti hx21
     obtain rfl : _ = ([.int .i32 (x20)] : List Value) := hq24
     refine qy he (y_indexAddr hR6 rfl rfl hi25 hb26 Try.underlying32 ti21) ?_; clear he; (try clear a); intro a he
     refine qy (v := .int .i32 (x20)) he (y_loadE (i := y10.toNat) (j := 0) hR6.up rfl hr23 rfl Try.underlying21 rfl) ?_; clear he; (try clear a); intro a he
     refine qy he (y_neq rfl rfl) ?_; clear he; (try clear a); intro a he
     refine QL_nil he ?_; clear he; (try clear hs); (try clear a); intro a w hs
     refine hK14 _ _ ?_; clear hK14
     refine W_cond hs rfl (fun hg27 => ?_) (fun hg27 => ?_)
     ·replace hm := oc_t hg27 hm
      refine W_seq fun K15 hK15 => ?_
      refine W_region ?_
      refine sy (v := .bool (false)) hs (y_assign rfl) ?_; clear hs; (try clear a w); intro a w hs
      refine RL_nil ?_
      refine hK15 _ _ ?_; clear hK15
      refine W_ret ?_
      obtain rfl := Option.some.inj hm
      refine RtV1 hs rfl (rv_t hs rfl) ?_
      exact ⟨rfl, (hs.weak hle).cw⟩
     ·replace hm := oc_f hg27 hm
      refine W_skip ?_
      refine hK12 _ _ ?_; clear hK12
      refine W_region ?_
      refine sy (v := .int .i64 (y10)) hs (y_move rfl) ?_; clear hs; (try clear a w); intro a w hs
      refine sy hs (y_add rfl rfl rfl) ?_; clear hs; (try clear a w); intro a w hs
      refine sy (v := .int .i64 ((w64 (y10 + 1)))) hs (y_assign rfl) ?_; clear hs; (try clear a w); intro a w hs
      refine RL_nil ?_
      exact hK9 k11 _ _ (Nat.lt_succ_self _) ⟨(w64 (y10 + 1)), hm, hs.sub ⟨rfl, rfl, rfl, trivial⟩⟩
    ·replace hm := oc_f hg12 hm
     refine W_exit ?_
     refine hB8 _ _ ?_
     exact ⟨hm, hs.sub trivial⟩
/-! casement/casementbook.Roomy[rune] -/
def book_Roomy_rune_k1 (y16 : (List Int)) : Option (List Int) :=
  some y16
def book_Roomy_rune_l2 (p1 : Int) : Nat → (List Int) → Int → Option (List Int)
  | 0, _, _ => none
  | k30 + 1, y24, y29 =>
  (bif (decide (y29 < (y24.length : Int))) then (geti y24 y29).bind fun _x32 =>
  (seti y24 y29 p1).bind fun x39 =>
  (book_Roomy_rune_l2 p1 k30) x39 (w64 (y29 + 1)) else
  book_Roomy_rune_k1 y24)
def book_Roomy_rune (n : Nat) (p0 : (List Int)) (p1 : Int) : Option (List Int) :=
  (repM 4 (w64 ((p0.length : Int) + 80)) (0 : Int)).bind fun x6 =>
  book_Roomy_rune_l2 p1 n (copyM x6 p0) (p0.length : Int)
set_option maxRecDepth 20000 in
set_option maxHeartbeats 4000000 in
theorem book_Roomy_rune_ok (n : Nat) {f : Fz} {p0 : (List Int)} {a0 : Value} {p1 : Int} {res : (List Int)} (h0 : RS (tInt .i32) f a0 p0) (hm : book_Roomy_rune n p0 p1 = some res) : Does Try.prog 20 [a0, .int .i32 p1] f [] (fun r f' L' => ∃ (u0 : Value), L' = [] ∧ r = u0 ∧ RS (tInt .i32) f' u0 res) := by
 unfold book_Roomy_rune at hm
 intro w0 L w hC
 obtain ⟨rw1, hR2, hW3⟩ := h0
 refine enter Try.func20 rfl Try.ntmps20 (by simp) hC fun a hs => ?_
 have hle := Fz.le.refl f
 refine W_seq fun K1 hK1 => ?_
 refine W_region ?_
 refine sy (v := (.slice none 0 0)) hs (y_assign rfl) ?_; clear hs; (try clear a w); intro a w hs
 refine RL_nil ?_
 refine hK1 _ _ ?_; clear hK1
 refine W_seq fun K2 hK2 => ?_
 refine W_region ?_
 refine sy (v := a0) hs (y_move rfl) ?_; clear hs; (try clear a w); intro a w hs
 refine sy hs (y_lenW hR2 hW3 rfl Try.underlying32) ?_; clear hs; (try clear a w); intro a w hs
 refine sy hs (y_add rfl rfl rfl) ?_; clear hs; (try clear a w); intro a w hs
 obtain ⟨x6, hx7, hm⟩ := ob hm
 obtain ⟨hix6, hbx6, hex6⟩ := repM_some hx7
 refine RL_makeW hs rfl rfl hix6 Try.underlying32 ti21 (by decide) (AllC.row ⟨rfl, trivial⟩ rfl) hbx6 ?_; clear hs; (try clear a w); intro v8 a w hs
 replace hs : St _ _ _ (.row v8 21 1 (List.replicate (w64 ((p0.length : Int) + 80)).toNat ([.int .i32 (0)] : List Value)) :: L) _ _ _ := hs
 have hW10 : RW (tInt .i32) f (List.replicate (w64 ((p0.length : Int) + 80)).toNat ([.int .i32 (0)] : List Value)) x6 := by rw [← hex6]; exact RW.rep (t := (tInt .i32)) (r := [.int .i32 (0)]) (rfl) _
 generalize hgx6 : (List.replicate (w64 ((p0.length : Int) + 80)).toNat ([.int .i32 (0)] : List Value)) = rw9 at hs hW10; clear hgx6
 replace hs : St _ _ _ (.row v8 21 1 rw9 :: L) _ _ _ := hs
 refine sy (v := v8) hs (y_assign rfl) ?_; clear hs; (try clear a w); intro a w hs
 refine RL_nil ?_
 refine hK2 _ _ ?_; clear hK2
 refine W_seq fun K3 hK3 => ?_
 refine W_region ?_
 refine sy (v := v8) hs (y_move rfl) ?_; clear hs; (try clear a w); intro a w hs
 refine sy (v := a0) hs (y_move rfl) ?_; clear hs; (try clear a w); intro a w hs
 have hW14 := RW.copy hW10 hW3
 refine RL_copy (i := 0) hs rfl rfl rfl hR2.up Try.underlying32 ti21 ?_; clear hs; (try clear a w); intro a w hs
 generalize hgrw13 : (List.take rw9.length rw1 ++ List.drop rw1.length rw9) = rw13 at hs hW14; clear hgrw13
 rw [RW.len hW3, RW.len hW10] at hs
 replace hs : St _ _ _ (.row v8 21 1 rw13 :: L) _ _ _ := hs
 refine RL_nil ?_
 refine hK3 _ _ ?_; clear hK3
 refine W_seq fun K4 hK4 => ?_
 refine W_seq fun K5 hK5 => ?_
 refine W_region ?_
 refine sy (v := a0) hs (y_move rfl) ?_; clear hs; (try clear a w); intro a w hs
 refine sy hs (y_lenW hR2 hW3 rfl Try.underlying32) ?_; clear hs; (try clear a w); intro a w hs
 refine sy (v := .int .i64 ((p0.length : Int))) hs (y_assign rfl) ?_; clear hs; (try clear a w); intro a w hs
 refine RL_nil ?_
 refine hK5 _ _ ?_; clear hK5
 refine W_post (fun a w => ∃ (y16 : (List Int)) (v17 : Value) (rw18 : List (List Value)), book_Roomy_rune_k1 y16 = some res ∧ RW (tInt .i32) f rw18 y16 ∧ St 27 w0 f (.row v17 21 1 rw18 :: L) [(5, v17)] a w) ?_ ?_
 ·clear hs hm
  rintro a w ⟨y16, v17, rw18, hm, hW19, hs⟩
  replace hs : St _ _ _ (.row v17 21 1 rw18 :: L) _ _ _ := hs
  unfold book_Roomy_rune_k1 at hm
  refine hK4 _ _ ?_; clear hK4
  refine W_seq fun K6 hK6 => ?_
  refine W_region ?_
  refine sy (v := v17) hs (y_move rfl) ?_; clear hs; (try clear a w); intro a w hs
  refine sy (v := v17) hs (y_assign rfl) ?_; clear hs; (try clear a w); intro a w hs
  refine RL_nil ?_
  refine hK6 _ _ ?_; clear hK6
  refine W_ret ?_
  obtain ⟨f21, hf22, hs2, hR23⟩ := hs.frzAt 0 rfl
  clear hs; have hs := hs2; clear hs2
  replace hW19 := hW19.le hf22
  replace hle := hle.trans hf22
  replace hs : St _ _ _ (L) _ _ _ := hs
  obtain rfl := Option.some.inj hm
  refine RtV1 hs rfl (rv_t hs rfl) ?_
  exact ⟨_, f21, [], rfl, hle, hs.cw, v17, rfl, rfl, ⟨rw18, hR23, hW19⟩⟩
 ·refine W_block fun Qe7 hB7 hO7 => ?_
  refine W_loop (fun (k : Nat) a w => ∃ (y24 : (List Int)) (y29 : Int) (v25 : Value) (rw26 : List (List Value)), book_Roomy_rune_l2 p1 k y24 y29 = some res ∧ RW (tInt .i32) f rw26 y24 ∧ St 27 w0 f (.row v25 21 1 rw26 :: L) [(1, .int .i32 (p1)), (5, v25), (6, .int .i64 (y29))] a w) (fun k => k) n ⟨(copyM x6 p0), (p0.length : Int), v8, rw13, hm, hW14, hs.sub ⟨rfl, rfl, rfl, trivial⟩⟩ ?_
  clear hs hm
  intro k
  rintro a w ⟨y24, y29, v25, rw26, hm, hW27, hs⟩
  replace hs : St _ _ _ (.row v25 21 1 rw26 :: L) _ _ _ := hs
  intro K8 hK8
  cases k with
  | zero => simp [book_Roomy_rune_l2] at hm
  | succ k30 =>
   rw [book_Roomy_rune_l2] at hm
   refine W_seq fun K9 hK9 => ?_
   refine W_seq fun K10 hK10 => ?_
   refine W_region ?_
   refine sy (v := .int .i64 (y29)) hs (y_move rfl) ?_; clear hs; (try clear a w); intro a w hs
   refine sy (v := v25) hs (y_move rfl) ?_; clear hs; (try clear a w); intro a w hs
   refine sy hs (y_lenW (Rd.st hs (.head _)) hW27 rfl Try.underlying32) ?_; clear hs; (try clear a w); intro a w hs
   refine sy hs (y_lss rfl rfl) ?_; clear hs; (try clear a w); intro a w hs
   refine RL_nil ?_
   refine hK10 _ _ ?_; clear hK10
   refine W_cond hs rfl (fun hg31 => ?_) (fun hg31 => ?_)
   ·replace hm := oc_t hg31 hm
    refine W_skip ?_
    refine hK9 _ _ ?_; clear hK9
    refine W_seq fun K11 hK11 => ?_
    refine W_block fun Qe12 hB12 hO12 => ?_
    refine W_region ?_
    refine sy (v := v25) hs (y_move rfl) ?_; clear hs; (try clear a w); intro a w hs
    refine sy (v := .int .i64 (y29)) hs (y_move rfl) ?_; clear hs; (try clear a w); intro a w hs
    refine sy (v := .int .i32 (p1)) hs (y_move rfl) ?_; clear hs; (try clear a w); intro a w hs
    obtain ⟨x32, hx33, hm⟩ := ob hm
    obtain ⟨r34, hr35, hq36, hi37, hb38⟩ := hW27.geti hx33
    obtain rfl : _ = ([.int .i32 (x32)] : List Value) := hq36
    refine sy hs (y_indexAddr (Rd.st hs (.head _)) rfl rfl hi37 hb38 Try.underlying32 ti21) ?_; clear hs; (try clear a w); intro a w hs
    obtain ⟨x39, hx40, hm⟩ := ob hm
    have hex39 := seti_some hx40
    have hW42 := RW.set (i := y29.toNat) (r := [.int .i32 (p1)]) (x := (p1 : Int)) hW27 (rfl); rw [hex39] at hW42
    refine RL_storeRow (i := 0) (j := 0) (m := y29.toNat) hs rfl rfl rfl hr35 (by decide) ti21 rfl (.free rfl) ?_; clear hs; (try clear a w); intro a w hs
    replace hs : St _ _ _ (.row v25 21 1 (rw26.set y29.toNat [.int .i32 (p1)]) :: L) _ _ _ := hs
    generalize hgrw41 : rw26.set y29.toNat [.int .i32 (p1)] = rw41 at hs hW42; clear hgrw41
    replace hs : St _ _ _ (.row v25 21 1 rw41 :: L) _ _ _ := hs
    refine RL_nil ?_
    refine hK11 _ _ ?_; clear hK11
    refine W_region ?_
    refine sy (v := .int .i64 (y29)) hs (y_move rfl) ?_; clear hs; (try clear a w); intro a w hs
    refine sy hs (y_add rfl rfl rfl) ?_; clear hs; (try clear a w); intro a w hs
    refine sy (v := .int .i64 ((w64 (y29 + 1)))) hs (y_assign rfl) ?_; clear hs; (try clear a w); intro a w hs
    refine RL_nil ?_
    exact hK8 k30 _ _ (Nat.lt_succ_self _) ⟨x39, (w64 (y29 + 1)), v25, rw41, hm, hW42, hs.sub ⟨rfl, rfl, rfl, trivial⟩⟩
   ·replace hm := oc_f hg31 hm
    refine W_exit ?_
    refine hB7 _ _ ?_
    exact ⟨y24, v25, rw26, hm, hW27, hs.sub ⟨rfl, trivial⟩⟩
/-! casement/casementbook.Intact[rune] -/
def book_Intact_rune_k2 : Option Bool :=
  some true
def book_Intact_rune_l3 (p0 : (List Int)) (p2 : Int) : Nat → Int → Option Bool
  | 0, _ => none
  | k12 + 1, y11 =>
  (bif (decide (y11 < (p0.length : Int))) then (geti p0 y11).bind fun x14 =>
  (bif (decide (x14 ≠ p2)) then some false else
  (book_Intact_rune_l3 p0 p2 k12) (w64 (y11 + 1))) else
  book_Intact_rune_k2)
def book_Intact_rune_k1 (n : Nat) (p0 : (List Int)) (p1 : (List Int)) (p2 : Int) (y9 : Bool) : Option Bool :=
  (bif y9 then some false else
  book_Intact_rune_l3 p0 p2 n (p1.length : Int))
def book_Intact_rune (n : Nat) (p0 : (List Int)) (p1 : (List Int)) (p2 : Int) : Option Bool :=
  (bif (decide ((p0.length : Int) ≠ (w64 ((p1.length : Int) + 80)))) then book_Intact_rune_k1 n p0 p1 p2 true else
  (cutM p0 (0 : Int) (p1.length : Int)).bind fun x23 =>
  (book_Same_rune n x23 p1).bind fun x30 =>
  book_Intact_rune_k1 n p0 p1 p2 (!x30))
set_option maxRecDepth 20000 in
set_option maxHeartbeats 4000000 in
theorem book_Intact_rune_ok (n : Nat) {f : Fz} {p0 : (List Int)} {a0 : Value} {p1 : (List Int)} {a1 : Value} {p2 : Int} {res : Bool} (h0 : RS (tInt .i32) f a0 p0) (h1 : RS (tInt .i32) f a1 p1) (hm : book_Intact_rune n p0 p1 p2 = some res) : Gives Try.prog 24 [a0, a1, .int .i32 p2] f (.bool res) := by
 unfold book_Intact_rune at hm
 intro w0 L w hC
 obtain ⟨rw1, hR2, hW3⟩ := h0
 obtain ⟨rw5, hR6, hW7⟩ := h1
 refine enter Try.func24 rfl Try.ntmps24 (by simp) hC fun a hs => ?_
 have hle := Fz.le.refl f
 refine W_seq fun K1 hK1 => ?_
 refine W_region ?_
 refine sy (v := .bool (false)) hs (y_assign rfl) ?_; clear hs; (try clear a w); intro a w hs
 refine RL_nil ?_
 refine hK1 _ _ ?_; clear hK1
 refine W_seq fun K2 hK2 => ?_
 refine W_seq fun K3 hK3 => ?_
 refine W_post (fun a w => ∃ (y9 : Bool), book_Intact_rune_k1 n p0 p1 p2 y9 = some res ∧ St 37 w0 f (L) [(0, a0), (1, a1), (2, .int .i32 (p2)), (22, .bool (y9))] a w) ?_ ?_
 ·clear hs hm
  rintro a w ⟨y9, hm, hs⟩
  replace hs : St _ _ _ (L) _ _ _ := hs
  unfold book_Intact_rune_k1 at hm
  refine hK3 _ _ ?_; clear hK3
  refine W_cond hs rfl (fun hg10 => ?_) (fun hg10 => ?_)
  ·replace hm := oc_t hg10 hm
   refine W_seq fun K4 hK4 => ?_
   refine W_region ?_
   refine sy (v := .bool (false)) hs (y_assign rfl) ?_; clear hs; (try clear a w); intro a w hs
   refine RL_nil ?_
   refine hK4 _ _ ?_; clear hK4
   refine W_ret ?_
   obtain rfl := Option.some.inj hm
   refine RtV1 hs rfl (rv_t hs rfl) ?_
   exact ⟨rfl, (hs.weak hle).cw⟩
  ·replace hm := oc_f hg10 hm
   refine W_skip ?_
   refine hK2 _ _ ?_; clear hK2
   refine W_seq fun K5 hK5 => ?_
   refine W_seq fun K6 hK6 => ?_
   refine W_region ?_
   refine sy (v := a1) hs (y_move rfl) ?_; clear hs; (try clear a w); intro a w hs
   refine sy hs (y_lenW hR6 hW7 rfl Try.underlying32) ?_; clear hs; (try clear a w); intro a w hs
   refine sy (v := .int .i64 ((p1.length : Int))) hs (y_assign rfl) ?_; clear hs; (try clear a w); intro a w hs
   refine RL_nil ?_
   refine hK6 _ _ ?_; clear hK6
   refine W_post (fun a w => book_Intact_rune_k2 = some res ∧ St 37 w0 f (L) [] a w) ?_ ?_
   ·clear hs hm
    rintro a w ⟨hm, hs⟩
    replace hs : St _ _ _ (L) _ _ _ := hs
    unfold book_Intact_rune_k2 at hm
    refine hK5 _ _ ?_; clear hK5
    refine W_seq fun K7 hK7 => ?_
    refine W_region ?_
    refine sy (v := .bool (true)) hs (y_assign rfl) ?_; clear hs; (try clear a w); intro a w hs
    refine RL_nil ?_
    refine hK7 _ _ ?_; clear hK7
    refine W_ret ?_
    obtain rfl := Option.some.inj hm
    refine RtV1 hs rfl (rv_t hs rfl) ?_
    exact ⟨rfl, (hs.weak hle).cw⟩
   ·refine W_block fun Qe8 hB8 hO8 => ?_
    refine W_loop (fun (k : Nat) a w => ∃ (y11 : Int), book_Intact_rune_l3 p0 p2 k y11 = some res ∧ St 37 w0 f (L) [(0, a0), (2, .int .i32 (p2)), (7, .int .i64 (y11))] a w) (fun k => k) n ⟨(p1.length : Int), hm, hs.sub ⟨rfl, rfl, rfl, trivial⟩⟩ ?_
    clear hs hm
    intro k
    rintro a w ⟨y11, hm, hs⟩
    replace hs : St _ _ _ (L) _ _ _ := hs
    intro K9 hK9
    cases k with
    | zero => simp [book_Intact_rune_l3] at hm
    | succ k12 =>
     rw [book_Intact_rune_l3] at hm
     refine W_seq fun K10 hK10 => ?_
     refine W_seq fun K11 hK11 => ?_
     refine W_region ?_
     refine sy (v := .int .i64 (y11)) hs (y_move rfl) ?_; clear hs; (try clear a w); intro a w hs
     refine sy (v := a0) hs (y_move rfl) ?_; clear hs; (try clear a w); intro a w hs
     refine sy hs (y_lenW hR2 hW3 rfl Try.underlying32) ?_; clear hs; (try clear a w); intro a w hs
     refine sy hs (y_lss rfl rfl) ?_; clear hs; (try clear a w); intro a w hs
     refine RL_nil ?_
     refine hK11 _ _ ?_; clear hK11
     refine W_cond hs rfl (fun hg13 => ?_) (fun hg13 => ?_)
     ·replace hm := oc_t hg13 hm
      refine W_skip ?_
      refine hK10 _ _ ?_; clear hK10
      refine W_seq fun K12 hK12 => ?_
      refine W_block fun Qe13 hB13 hO13 => ?_
      refine W_seq fun K14 hK14 => ?_
      refine W_region ?_
      refine sy (v := a0) hs (y_move rfl) ?_; clear hs; (try clear a w); intro a w hs
      refine sy (v := .int .i64 (y11)) hs (y_move rfl) ?_; clear hs; (try clear a w); intro a w hs
      obtain ⟨x14, hx15, hm⟩ := ob hm
      obtain ⟨r16, hr17, hq18, hi19, hb20⟩ := hW3.geti hx15
      obtain rfl : _ = ([.int .i32 (x14)] : List Value) := hq18
      refine sy hs (y_indexAddr hR2 rfl rfl hi19 hb20 Try.underlying32 ti21) ?_; clear hs; (try clear a w); intro a w hs
      refine sy (v := .int .i32 (x14)) hs (y_loadE (i := y11.toNat) (j := 0) hR2.up rfl hr17 rfl Try.underlying21 rfl) ?_; clear hs; (try clear a w); intro a w hs
      refine sy (v := .int .i32 (p2)) hs (y_move rfl) ?_; clear hs; (try clear a w); intro a w hs
      refine sy hs (y_neq rfl rfl) ?_; clear hs; (try clear a w); intro a w hs
      refine RL_nil ?_
      refine hK14 _ _ ?_; clear hK14
      refine W_cond hs rfl (fun hg21 => ?_) (fun hg21 => ?_)
      ·replace hm := oc_t hg21 hm
       refine W_seq fun K15 hK15 => ?_
       refine W_region ?_
       refine sy (v := .bool (false)) hs (y_assign rfl) ?_; clear hs; (try clear a w); intro a w hs
       refine RL_nil ?_
       refine hK15 _ _ ?_; clear hK15
       refine W_ret ?_
       obtain rfl := Option.some.inj hm
       refine RtV1 hs rfl (rv_t hs rfl) ?_
       exact ⟨rfl, (hs.weak hle).cw⟩
      ·replace hm := oc_f hg21 hm
       refine W_skip ?_
       refine hK12 _ _ ?_; clear hK12
       refine W_region ?_
       refine sy (v := .int .i64 (y11)) hs (y_move rfl) ?_; clear hs; (try clear a w); intro a w hs
       refine sy hs (y_add rfl rfl rfl) ?_; clear hs; (try clear a w); intro a w hs
       refine sy (v := .int .i64 ((w64 (y11 + 1)))) hs (y_assign rfl) ?_; clear hs; (try clear a w); intro a w hs
       refine RL_nil ?_
       exact hK9 k12 _ _ (Nat.lt_succ_self _) ⟨(w64 (y11 + 1)), hm, hs.sub ⟨rfl, rfl, rfl, trivial⟩⟩
     ·replace hm := oc_f hg13 hm
      refine W_exit ?_
      refine hB8 _ _ ?_
      exact ⟨hm, hs.sub trivial⟩
 ·refine W_region ?_
  refine sy (v := a0) hs (y_move rfl) ?_; clear hs; (try clear a w); intro a w hs
  refine sy hs (y_lenW hR2 hW3 rfl Try.underlying32) ?_; clear hs; (try clear a w); intro a w hs
  refine sy (v := a1) hs (y_move rfl) ?_; clear hs; (try clear a w); intro a w hs
  refine sy hs (y_lenW hR6 hW7 rfl Try.underlying32) ?_; clear hs; (try clear a w); intro a w hs
  refine sy hs (y_add rfl rfl rfl) ?_; clear hs; (try clear a w); intro a w hs
  refine sy hs (y_neq rfl rfl) ?_; clear hs; (try clear a w); intro a w hs
  refine sy (v := .bool (decide ((p0.length : Int) ≠ (w64 ((p1.length : Int) + 80))))) hs (y_move rfl) ?_; clear hs; (try clear a w); intro a w hs
  refine St.split hs (t := 14) rfl (fun hg22 hq => ?_) (fun hg22 hq => ?_)
  ·clear hs; have hs := hq; clear hq
   replace hm := oc_t hg22 hm
   refine sno hs ?_; clear hs; (try clear a w); intro a w hs
   refine sno hs ?_; clear hs; (try clear a w); intro a w hs
   refine sno hs ?_; clear hs; (try clear a w); intro a w hs
   refine sno hs ?_; clear hs; (try clear a w); intro a w hs
   refine sno hs ?_; clear hs; (try clear a w); intro a w hs
   refine sno hs ?_; clear hs; (try clear a w); intro a w hs
   refine sno hs ?_; clear hs; (try clear a w); intro a w hs
   refine sy (v := .bool (true)) hs (y_pick rfl rfl) ?_; clear hs; (try clear a w); intro a w hs
   refine RL_nil ?_
   exact ⟨true, hm, hs.sub ⟨rfl, rfl, rfl, rfl, trivial⟩⟩
  ·clear hs; have hs := hq; clear hq
   replace hm := oc_f hg22 hm
   refine syg (v := a0) hs (y_move rfl) ?_; clear hs; (try clear a w); intro a w hs
   refine syg (v := a1) hs (y_move rfl) ?_; clear hs; (try clear a w); intro a w hs
   refine syg hs (y_lenW hR6 hW7 rfl Try.underlying32) ?_; clear hs; (try clear a w); intro a w hs
   obtain ⟨x23, hx24, hm⟩ := ob hm
   obtain ⟨⟨hlx23, hhx23, h1x23, h2x23⟩, hex23⟩ := cutM_some hx24
   have hW25 := (hW3.take (p1.length : Int).toNat).drop (Int.toNat 0); rw [hex23] at hW25
   simp only [Int.toNat_zero, List.drop_zero] at hW25
   have hR26 : Rd f [] (cutv a0 1 0 (p1.length : Int).toNat) 1 (List.take (p1.length : Int).toNat rw1) := by have hz := (hR2 : Rd _ [] _ _ _).cut (lo := 0) (hi := (p1.length : Int).toNat) (Nat.zero_le _) (by rw [RW.len hW3]; exact h2x23); rw [List.drop_zero] at hz; exact hz
   generalize hgrw27 : List.take _ rw1 = rw27 at hR26 hW25; clear hgrw27
   obtain ⟨v28, hvv28⟩ : ∃ u, cutv a0 1 0 (p1.length : Int).toNat = u := ⟨_, rfl⟩
   rw [hvv28] at hR26
   refine syg hs (y_sliceV (lo := (0 : Nat)) (hi := (p1.length : Int).toNat) hvv28 rfl Try.underlying32 ti21 (.inl ⟨rfl, rfl⟩) (.inr ⟨_, rfl, by rw [← hhx23]; rfl⟩) h1x23 (by rw [RW.len hW3]; exact h2x23) hR2) ?_; clear hs; (try clear a w); intro a w hs
   refine syg (v := a1) hs (y_move rfl) ?_; clear hs; (try clear a w); intro a w hs
   obtain ⟨x30, hx31, hm⟩ := ob hm
   refine syg hs (y_call rfl has56 rfl (book_Same_rune_ok n (f := f) (a0 := v28) (a1 := a1) ⟨rw27, hR26, hW25⟩ ⟨rw5, hR6, hW7⟩ hx31)) ?_; clear hs; (try clear a w); intro a w hs
   refine syg (v := .bool ((!x30))) hs (y_not rfl) ?_; clear hs; (try clear a w); intro a w hs
   refine sy (v := .bool ((!x30))) hs (y_pick rfl rfl) ?_; clear hs; (try clear a w); intro a w hs
   refine RL_nil ?_
   exact ⟨(!x30), hm, hs.sub ⟨rfl, rfl, rfl, rfl, trivial⟩⟩
end Go.Proofs.Ythmnohdlhlmmpaa
