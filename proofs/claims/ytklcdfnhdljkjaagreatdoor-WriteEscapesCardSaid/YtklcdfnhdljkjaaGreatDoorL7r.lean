/-
  Walks and laws of this seat; the base is the text Base.
-/
import Derived.Test.YtklcdfnhdljkjaaGreatDoorY7
import Derived.Test.YtklcdfnhdljkjaaGreatDoorRows
/-
  Models of functions, and that the functions compute them. Printed by lift.py.
-/
namespace Go.Proofs.YtklcdfnhdljkjaaGreatDoor
open Go.RowKit Go.Sl
/-! casement/casementkeep.Few -/
def keep_Few (_n : Nat) (p0 : ByteArray) (p1 : Int) : Option ByteArray :=
  (bif (decide (p1 < (p0.size : Int))) then (cutS p0 (0 : Int) p1).bind fun x2 =>
  some x2 else
  some p0)
set_option maxRecDepth 20000 in
set_option maxHeartbeats 4000000 in
theorem keep_Few_ok (n : Nat) {f : Fz} {p0 : ByteArray} {p1 : Int} {res : ByteArray}  (hm : keep_Few n p0 p1 = some res) : Gives Tryz.prog 5 [.string p0, .int .i64 p1] f (.string res) := by
 unfold keep_Few at hm
 intro w0 L w hC
 refine enter Tryz.func5 rfl Tryz.ntmps5 (by simp) hC fun a hs => ?_
 have hle := Fz.le.refl f
 refine W_seq fun K1 hK1 => ?_
 refine W_region ?_
 refine sy (v := .string ((bs []))) hs (y_assign rfl) ?_; clear hs; (try clear a w); intro a w hs
 refine RL_nil ?_
 refine hK1 _ _ ?_; clear hK1
 refine W_seq fun K2 hK2 => ?_
 refine W_seq fun K3 hK3 => ?_
 refine W_region ?_
 refine sy (v := .string (p0)) hs (y_move rfl) ?_; clear hs; (try clear a w); intro a w hs
 refine sy hs (y_lenS rfl Tryz.underlying9) ?_; clear hs; (try clear a w); intro a w hs
 refine sy (v := .int .i64 (p1)) hs (y_move rfl) ?_; clear hs; (try clear a w); intro a w hs
 refine sy hs (y_gtr rfl rfl) ?_; clear hs; (try clear a w); intro a w hs
 refine RL_nil ?_
 refine hK3 _ _ ?_; clear hK3
 refine W_cond hs rfl (fun hg1 => ?_) (fun hg1 => ?_)
 ·replace hm := oc_t hg1 hm
  refine W_seq fun K4 hK4 => ?_
  refine W_region ?_
  refine sy (v := .string (p0)) hs (y_move rfl) ?_; clear hs; (try clear a w); intro a w hs
  refine sy (v := .int .i64 (p1)) hs (y_move rfl) ?_; clear hs; (try clear a w); intro a w hs
  obtain ⟨x2, hx3, hm⟩ := ob hm
  obtain ⟨⟨hlx2, hhx2, h1x2, h2x2⟩, hex2⟩ := cutS_some hx3
  refine sy hs (y_sliceS (lo := (0 : Int).toNat) (hi := p1.toNat) rfl Tryz.underlying9 (.inl ⟨rfl, rfl⟩) (.inr ⟨_, rfl, by rw [← hhx2]; rfl⟩) h1x2 h2x2) ?_; clear hs; (try clear a w); intro a w hs
  rw [hex2] at hs
  refine sy (v := .string (x2)) hs (y_assign rfl) ?_; clear hs; (try clear a w); intro a w hs
  refine RL_nil ?_
  refine hK4 _ _ ?_; clear hK4
  refine W_ret ?_
  obtain rfl := Option.some.inj hm
  refine RtV1 hs rfl (rv_t hs rfl) ?_
  exact ⟨rfl, (hs.weak hle).cw⟩
 ·replace hm := oc_f hg1 hm
  refine W_skip ?_
  refine hK2 _ _ ?_; clear hK2
  refine W_seq fun K5 hK5 => ?_
  refine W_region ?_
  refine sy (v := .string (p0)) hs (y_move rfl) ?_; clear hs; (try clear a w); intro a w hs
  refine sy (v := .string (p0)) hs (y_assign rfl) ?_; clear hs; (try clear a w); intro a w hs
  refine RL_nil ?_
  refine hK5 _ _ ?_; clear hK5
  refine W_ret ?_
  obtain rfl := Option.some.inj hm
  refine RtV1 hs rfl (rv_t hs rfl) ?_
  exact ⟨rfl, (hs.weak hle).cw⟩
/-! casement/casementkeep.Valid -/
def keep_Valid_k1 : Option Bool :=
  some true
def keep_Valid_k3 (y5 : Int) (lp6 : Int → Option Bool) (y8 : Bool) : Option Bool :=
  (bif y8 then some false else
  lp6 (w64 (y5 + 1)))
def keep_Valid_l2 (p0 : (List Int)) : Nat → Int → Option Bool
  | 0, _ => none
  | k6 + 1, y5 =>
  (bif (decide (y5 < (p0.length : Int))) then (geti p0 y5).bind fun x10 =>
  (bif (decide (x10 < 0)) then keep_Valid_k3 y5 (keep_Valid_l2 p0 k6) true else
  (geti p0 y5).bind fun x18 =>
  (bif (decide (1114111 < x18)) then keep_Valid_k3 y5 (keep_Valid_l2 p0 k6) true else
  (geti p0 y5).bind fun x26 =>
  (bif (decide (55296 ≤ x26)) then (geti p0 y5).bind fun x34 =>
  keep_Valid_k3 y5 (keep_Valid_l2 p0 k6) (decide (x34 ≤ 57343)) else
  keep_Valid_k3 y5 (keep_Valid_l2 p0 k6) false))) else
  keep_Valid_k1)
def keep_Valid (n : Nat) (p0 : (List Int)) : Option Bool :=
  keep_Valid_l2 p0 n 0
set_option maxRecDepth 20000 in
set_option maxHeartbeats 4000000 in
theorem keep_Valid_ok (n : Nat) {f : Fz} {p0 : (List Int)} {a0 : Value} {res : Bool} (h0 : RS (tInt .i32) f a0 p0) (hm : keep_Valid n p0 = some res) : Gives Tryz.prog 6 [a0] f (.bool res) := by
 unfold keep_Valid at hm
 intro w0 L w hC
 obtain ⟨rw1, hR2, hW3⟩ := h0
 refine enter Tryz.func6 rfl Tryz.ntmps6 (by simp) hC fun a hs => ?_
 have hle := Fz.le.refl f
 refine W_seq fun K1 hK1 => ?_
 refine W_region ?_
 refine sy (v := .bool (false)) hs (y_assign rfl) ?_; clear hs; (try clear a w); intro a w hs
 refine RL_nil ?_
 refine hK1 _ _ ?_; clear hK1
 refine W_seq fun K2 hK2 => ?_
 refine W_seq fun K3 hK3 => ?_
 refine W_region ?_
 refine sy (v := .int .i64 (0)) hs (y_assign rfl) ?_; clear hs; (try clear a w); intro a w hs
 refine RL_nil ?_
 refine hK3 _ _ ?_; clear hK3
 refine W_post (fun a w => keep_Valid_k1 = some res ∧ St 36 w0 f (L) [] a w) ?_ ?_
 ·clear hs hm
  rintro a w ⟨hm, hs⟩
  replace hs : St _ _ _ (L) _ _ _ := hs
  unfold keep_Valid_k1 at hm
  refine hK2 _ _ ?_; clear hK2
  refine W_seq fun K4 hK4 => ?_
  refine W_region ?_
  refine sy (v := .bool (true)) hs (y_assign rfl) ?_; clear hs; (try clear a w); intro a w hs
  refine RL_nil ?_
  refine hK4 _ _ ?_; clear hK4
  refine W_ret ?_
  obtain rfl := Option.some.inj hm
  refine RtV1 hs rfl (rv_t hs rfl) ?_
  exact ⟨rfl, (hs.weak hle).cw⟩
 ·refine W_block fun Qe5 hB5 hO5 => ?_
  refine W_loop (fun (k : Nat) a w => ∃ (y5 : Int), keep_Valid_l2 p0 k y5 = some res ∧ St 36 w0 f (L) [(0, a0), (3, .int .i64 (y5))] a w) (fun k => k) n ⟨0, hm, hs.sub ⟨rfl, rfl, trivial⟩⟩ ?_
  clear hs hm
  intro k
  rintro a w ⟨y5, hm, hs⟩
  replace hs : St _ _ _ (L) _ _ _ := hs
  intro K6 hK6
  cases k with
  | zero => simp [keep_Valid_l2] at hm
  | succ k6 =>
   rw [keep_Valid_l2] at hm
   refine W_seq fun K7 hK7 => ?_
   refine W_seq fun K8 hK8 => ?_
   refine W_region ?_
   refine sy (v := .int .i64 (y5)) hs (y_move rfl) ?_; clear hs; (try clear a w); intro a w hs
   refine sy (v := a0) hs (y_move rfl) ?_; clear hs; (try clear a w); intro a w hs
   refine sy hs (y_lenW hR2 hW3 rfl Tryz.underlying24) ?_; clear hs; (try clear a w); intro a w hs
   refine sy hs (y_lss rfl rfl) ?_; clear hs; (try clear a w); intro a w hs
   refine RL_nil ?_
   refine hK8 _ _ ?_; clear hK8
   refine W_cond hs rfl (fun hg7 => ?_) (fun hg7 => ?_)
   ·replace hm := oc_t hg7 hm
    refine W_skip ?_
    refine hK7 _ _ ?_; clear hK7
    refine W_seq fun K9 hK9 => ?_
    refine W_block fun Qe10 hB10 hO10 => ?_
    refine W_seq fun K11 hK11 => ?_
    refine W_post (fun a w => ∃ (y8 : Bool), keep_Valid_k3 y5 (keep_Valid_l2 p0 k6) y8 = some res ∧ St 36 w0 f (L) [(0, a0), (3, .int .i64 (y5)), (35, .bool (y8))] a w) ?_ ?_
    ·clear hs hm
     rintro a w ⟨y8, hm, hs⟩
     replace hs : St _ _ _ (L) _ _ _ := hs
     unfold keep_Valid_k3 at hm
     refine hK11 _ _ ?_; clear hK11
     refine W_cond hs rfl (fun hg9 => ?_) (fun hg9 => ?_)
     ·replace hm := oc_t hg9 hm
      refine W_seq fun K12 hK12 => ?_
      refine W_region ?_
      refine sy (v := .bool (false)) hs (y_assign rfl) ?_; clear hs; (try clear a w); intro a w hs
      refine RL_nil ?_
      refine hK12 _ _ ?_; clear hK12
      refine W_ret ?_
      obtain rfl := Option.some.inj hm
      refine RtV1 hs rfl (rv_t hs rfl) ?_
      exact ⟨rfl, (hs.weak hle).cw⟩
     ·replace hm := oc_f hg9 hm
      refine W_skip ?_
      refine hK9 _ _ ?_; clear hK9
      refine W_region ?_
      refine sy (v := .int .i64 (y5)) hs (y_move rfl) ?_; clear hs; (try clear a w); intro a w hs
      refine sy hs (y_add rfl rfl rfl) ?_; clear hs; (try clear a w); intro a w hs
      refine sy (v := .int .i64 ((w64 (y5 + 1)))) hs (y_assign rfl) ?_; clear hs; (try clear a w); intro a w hs
      refine RL_nil ?_
      exact hK6 k6 _ _ (Nat.lt_succ_self _) ⟨(w64 (y5 + 1)), hm, hs.sub ⟨rfl, rfl, trivial⟩⟩
    ·refine W_region ?_
     refine sy (v := a0) hs (y_move rfl) ?_; clear hs; (try clear a w); intro a w hs
     refine sy (v := .int .i64 (y5)) hs (y_move rfl) ?_; clear hs; (try clear a w); intro a w hs
     obtain ⟨x10, hx11, hm⟩ := ob hm
     obtain ⟨r12, hr13, hq14, hi15, hb16⟩ := hW3.geti hx11
     obtain rfl : _ = ([.int .i32 (x10)] : List Value) := hq14
     refine sy hs (y_indexAddr hR2 rfl rfl hi15 hb16 Tryz.underlying24 ti21) ?_; clear hs; (try clear a w); intro a w hs
     refine sy (v := .int .i32 (x10)) hs (y_loadE (i := y5.toNat) (j := 0) hR2.up rfl hr13 rfl Tryz.underlying21 rfl) ?_; clear hs; (try clear a w); intro a w hs
     refine sy hs (y_lss rfl rfl) ?_; clear hs; (try clear a w); intro a w hs
     refine sy (v := .bool (decide (x10 < 0))) hs (y_move rfl) ?_; clear hs; (try clear a w); intro a w hs
     refine St.split hs (t := 15) rfl (fun hg17 hq => ?_) (fun hg17 hq => ?_)
     ·clear hs; have hs := hq; clear hq
      replace hm := oc_t hg17 hm
      refine sno hs ?_; clear hs; (try clear a w); intro a w hs
      refine sno hs ?_; clear hs; (try clear a w); intro a w hs
      refine sno hs ?_; clear hs; (try clear a w); intro a w hs
      refine sno hs ?_; clear hs; (try clear a w); intro a w hs
      refine sno hs ?_; clear hs; (try clear a w); intro a w hs
      refine sy (v := .bool (true)) hs (y_pick rfl rfl) ?_; clear hs; (try clear a w); intro a w hs
      refine sy (v := .bool (true)) hs (y_move rfl) ?_; clear hs; (try clear a w); intro a w hs
      refine sno hs ?_; clear hs; (try clear a w); intro a w hs
      refine sno hs ?_; clear hs; (try clear a w); intro a w hs
      refine sno hs ?_; clear hs; (try clear a w); intro a w hs
      refine sno hs ?_; clear hs; (try clear a w); intro a w hs
      refine sno hs ?_; clear hs; (try clear a w); intro a w hs
      refine sno hs ?_; clear hs; (try clear a w); intro a w hs
      refine sun hs ?_; clear hs; (try clear a w); intro a w hs
      refine sun hs ?_; clear hs; (try clear a w); intro a w hs
      refine sun hs ?_; clear hs; (try clear a w); intro a w hs
      refine sun hs ?_; clear hs; (try clear a w); intro a w hs
      refine sun hs ?_; clear hs; (try clear a w); intro a w hs
      refine sno hs ?_; clear hs; (try clear a w); intro a w hs
      refine sy (v := .bool (true)) hs (y_pick rfl rfl) ?_; clear hs; (try clear a w); intro a w hs
      refine RL_nil ?_
      exact ⟨true, hm, hs.sub ⟨rfl, rfl, rfl, trivial⟩⟩
     ·clear hs; have hs := hq; clear hq
      replace hm := oc_f hg17 hm
      refine syg (v := a0) hs (y_move rfl) ?_; clear hs; (try clear a w); intro a w hs
      refine syg (v := .int .i64 (y5)) hs (y_move rfl) ?_; clear hs; (try clear a w); intro a w hs
      obtain ⟨x18, hx19, hm⟩ := ob hm
      obtain ⟨r20, hr21, hq22, hi23, hb24⟩ := hW3.geti hx19
      obtain rfl : _ = ([.int .i32 (x18)] : List Value) := hq22
      refine syg hs (y_indexAddr hR2 rfl rfl hi23 hb24 Tryz.underlying24 ti21) ?_; clear hs; (try clear a w); intro a w hs
      refine syg (v := .int .i32 (x18)) hs (y_loadE (i := y5.toNat) (j := 0) hR2.up rfl hr21 rfl Tryz.underlying21 rfl) ?_; clear hs; (try clear a w); intro a w hs
      refine syg hs (y_gtr rfl rfl) ?_; clear hs; (try clear a w); intro a w hs
      refine sy (v := .bool (decide (1114111 < x18))) hs (y_pick rfl rfl) ?_; clear hs; (try clear a w); intro a w hs
      refine sy (v := .bool (decide (1114111 < x18))) hs (y_move rfl) ?_; clear hs; (try clear a w); intro a w hs
      refine St.split hs (t := 22) rfl (fun hg25 hq => ?_) (fun hg25 hq => ?_)
      ·clear hs; have hs := hq; clear hq
       replace hm := oc_t hg25 hm
       refine sno hs ?_; clear hs; (try clear a w); intro a w hs
       refine sno hs ?_; clear hs; (try clear a w); intro a w hs
       refine sno hs ?_; clear hs; (try clear a w); intro a w hs
       refine sno hs ?_; clear hs; (try clear a w); intro a w hs
       refine sno hs ?_; clear hs; (try clear a w); intro a w hs
       refine sno hs ?_; clear hs; (try clear a w); intro a w hs
       refine sun hs ?_; clear hs; (try clear a w); intro a w hs
       refine sun hs ?_; clear hs; (try clear a w); intro a w hs
       refine sun hs ?_; clear hs; (try clear a w); intro a w hs
       refine sun hs ?_; clear hs; (try clear a w); intro a w hs
       refine sun hs ?_; clear hs; (try clear a w); intro a w hs
       refine sno hs ?_; clear hs; (try clear a w); intro a w hs
       refine sy (v := .bool (true)) hs (y_pick rfl rfl) ?_; clear hs; (try clear a w); intro a w hs
       refine RL_nil ?_
       exact ⟨true, hm, hs.sub ⟨rfl, rfl, rfl, trivial⟩⟩
      ·clear hs; have hs := hq; clear hq
       replace hm := oc_f hg25 hm
       refine syg (v := a0) hs (y_move rfl) ?_; clear hs; (try clear a w); intro a w hs
       refine syg (v := .int .i64 (y5)) hs (y_move rfl) ?_; clear hs; (try clear a w); intro a w hs
       obtain ⟨x26, hx27, hm⟩ := ob hm
       obtain ⟨r28, hr29, hq30, hi31, hb32⟩ := hW3.geti hx27
       obtain rfl : _ = ([.int .i32 (x26)] : List Value) := hq30
       refine syg hs (y_indexAddr hR2 rfl rfl hi31 hb32 Tryz.underlying24 ti21) ?_; clear hs; (try clear a w); intro a w hs
       refine syg (v := .int .i32 (x26)) hs (y_loadE (i := y5.toNat) (j := 0) hR2.up rfl hr29 rfl Tryz.underlying21 rfl) ?_; clear hs; (try clear a w); intro a w hs
       refine syg hs (y_geq rfl rfl) ?_; clear hs; (try clear a w); intro a w hs
       refine syg (v := .bool (decide (55296 ≤ x26))) hs (y_move rfl) ?_; clear hs; (try clear a w); intro a w hs
       refine St.split hs (t := 28) rfl (fun hg33 hq => ?_) (fun hg33 hq => ?_)
       ·clear hs; have hs := hq; clear hq
        replace hm := oc_t hg33 hm
        refine syg (v := a0) hs (y_move rfl) ?_; clear hs; (try clear a w); intro a w hs
        refine syg (v := .int .i64 (y5)) hs (y_move rfl) ?_; clear hs; (try clear a w); intro a w hs
        obtain ⟨x34, hx35, hm⟩ := ob hm
        obtain ⟨r36, hr37, hq38, hi39, hb40⟩ := hW3.geti hx35
        obtain rfl : _ = ([.int .i32 (x34)] : List Value) := hq38
        refine syg hs (y_indexAddr hR2 rfl rfl hi39 hb40 Tryz.underlying24 ti21) ?_; clear hs; (try clear a w); intro a w hs
        refine syg (v := .int .i32 (x34)) hs (y_loadE (i := y5.toNat) (j := 0) hR2.up rfl hr37 rfl Tryz.underlying21 rfl) ?_; clear hs; (try clear a w); intro a w hs
        refine syg hs (y_leq rfl rfl) ?_; clear hs; (try clear a w); intro a w hs
        refine syg (v := .bool (decide (x34 ≤ 57343))) hs (y_pick rfl rfl) ?_; clear hs; (try clear a w); intro a w hs
        refine sy (v := .bool (decide (x34 ≤ 57343))) hs (y_pick rfl rfl) ?_; clear hs; (try clear a w); intro a w hs
        refine RL_nil ?_
        exact ⟨decide (x34 ≤ 57343), hm, hs.sub ⟨rfl, rfl, rfl, trivial⟩⟩
       ·clear hs; have hs := hq; clear hq
        replace hm := oc_f hg33 hm
        refine sno hs ?_; clear hs; (try clear a w); intro a w hs
        refine sno hs ?_; clear hs; (try clear a w); intro a w hs
        refine sno hs ?_; clear hs; (try clear a w); intro a w hs
        refine sno hs ?_; clear hs; (try clear a w); intro a w hs
        refine sno hs ?_; clear hs; (try clear a w); intro a w hs
        refine syg (v := .bool (false)) hs (y_pick rfl rfl) ?_; clear hs; (try clear a w); intro a w hs
        refine sy (v := .bool (false)) hs (y_pick rfl rfl) ?_; clear hs; (try clear a w); intro a w hs
        refine RL_nil ?_
        exact ⟨false, hm, hs.sub ⟨rfl, rfl, rfl, trivial⟩⟩
   ·replace hm := oc_f hg7 hm
    refine W_exit ?_
    refine hB5 _ _ ?_
    exact ⟨hm, hs.sub trivial⟩
/-! casement/casementref7.Escape -/
def ref7_Escape_k1 (y3 : ByteArray) : Option ByteArray :=
  some y3
def ref7_Escape_k3 (p0 : ByteArray) (y5 : Nat) (lp6 : ByteArray → Nat → Option ByteArray) (y8 : ByteArray) : Option ByteArray :=
  lp6 y8 (y5 + (Utf8.decode p0 y5).2)
def ref7_Escape_k4 (p0 : ByteArray) (y5 : Nat) (lp6 : ByteArray → Nat → Option ByteArray) (y12 : ByteArray) : Option ByteArray :=
  ref7_Escape_k3 p0 y5 lp6 y12
def ref7_Escape_k5 (p0 : ByteArray) (y5 : Nat) (lp6 : ByteArray → Nat → Option ByteArray) (y16 : ByteArray) : Option ByteArray :=
  ref7_Escape_k4 p0 y5 lp6 y16
def ref7_Escape_k6 (p0 : ByteArray) (y5 : Nat) (lp6 : ByteArray → Nat → Option ByteArray) (y20 : ByteArray) : Option ByteArray :=
  ref7_Escape_k5 p0 y5 lp6 y20
def ref7_Escape_k7 (p0 : ByteArray) (y5 : Nat) (lp6 : ByteArray → Nat → Option ByteArray) (y24 : ByteArray) : Option ByteArray :=
  ref7_Escape_k6 p0 y5 lp6 y24
def ref7_Escape_k8 (p0 : ByteArray) (y5 : Nat) (lp6 : ByteArray → Nat → Option ByteArray) (y28 : ByteArray) : Option ByteArray :=
  ref7_Escape_k7 p0 y5 lp6 y28
def ref7_Escape_l2 (p0 : ByteArray) (p1 : Bool) : Nat → ByteArray → Nat → Option ByteArray
  | 0, _, _ => none
  | k6 + 1, y4, y5 =>
  (bif decide (y5 < p0.size) then (bif (decide (((Utf8.decode p0 y5).1 : Int) = 38)) then (addS y4 (bs [38, 97, 109, 112, 59])).bind fun x10 =>
  ref7_Escape_k3 p0 y5 (ref7_Escape_l2 p0 p1 k6) x10 else
  (bif (decide (((Utf8.decode p0 y5).1 : Int) = 60)) then (addS y4 (bs [38, 108, 116, 59])).bind fun x14 =>
  ref7_Escape_k4 p0 y5 (ref7_Escape_l2 p0 p1 k6) x14 else
  (bif (decide (((Utf8.decode p0 y5).1 : Int) = 62)) then (addS y4 (bs [38, 103, 116, 59])).bind fun x18 =>
  ref7_Escape_k5 p0 y5 (ref7_Escape_l2 p0 p1 k6) x18 else
  (bif (decide (((Utf8.decode p0 y5).1 : Int) = 160)) then (addS y4 (bs [38, 110, 98, 115, 112, 59])).bind fun x22 =>
  ref7_Escape_k6 p0 y5 (ref7_Escape_l2 p0 p1 k6) x22 else
  (bif (decide (((Utf8.decode p0 y5).1 : Int) = 13)) then (addS y4 (bs [38, 35, 49, 51, 59])).bind fun x26 =>
  ref7_Escape_k7 p0 y5 (ref7_Escape_l2 p0 p1 k6) x26 else
  (bif ((decide (((Utf8.decode p0 y5).1 : Int) = 34)) && p1) then (addS y4 (bs [38, 113, 117, 111, 116, 59])).bind fun x30 =>
  ref7_Escape_k8 p0 y5 (ref7_Escape_l2 p0 p1 k6) x30 else
  (addS y4 (Utf8.encode ((Utf8.decode p0 y5).1 : Int))).bind fun x32 =>
  ref7_Escape_k8 p0 y5 (ref7_Escape_l2 p0 p1 k6) x32)))))) else
  ref7_Escape_k1 y4)
def ref7_Escape (n : Nat) (p0 : ByteArray) (p1 : Bool) : Option ByteArray :=
  ref7_Escape_l2 p0 p1 n (bs []) (0 : Nat)
set_option maxRecDepth 20000 in
set_option maxHeartbeats 4000000 in
theorem ref7_Escape_ok (n : Nat) {f : Fz} {p0 : ByteArray} {p1 : Bool} {res : ByteArray}  (hm : ref7_Escape n p0 p1 = some res) : Gives Tryz.prog 9 [.string p0, .bool p1] f (.string res) := by
 unfold ref7_Escape at hm
 intro w0 L w hC
 refine enter Tryz.func9 rfl Tryz.ntmps9 (by simp) hC fun a hs => ?_
 have hle := Fz.le.refl f
 refine W_seq fun K1 hK1 => ?_
 refine W_region ?_
 refine sy (v := .string ((bs []))) hs (y_assign rfl) ?_; clear hs; (try clear a w); intro a w hs
 refine RL_nil ?_
 refine hK1 _ _ ?_; clear hK1
 refine W_seq fun K2 hK2 => ?_
 refine W_region ?_
 refine sy (v := .string ((bs []))) hs (y_assign rfl) ?_; clear hs; (try clear a w); intro a w hs
 refine RL_nil ?_
 refine hK2 _ _ ?_; clear hK2
 refine W_seq fun K3 hK3 => ?_
 refine W_seq fun K4 hK4 => ?_
 refine W_region ?_
 refine sy (v := .string (p0)) hs (y_move rfl) ?_; clear hs; (try clear a w); intro a w hs
 refine RL_range hs rfl Tryz.underlying9 ?_; clear hs; (try clear a w); intro b1 a w hs
 replace hs : St _ _ _ (.blk b1 (.stringIter p0 (0 : Nat)) :: L) _ _ _ := hs
 refine RL_nil ?_
 refine hK4 _ _ ?_; clear hK4
 refine W_post (fun a w => ∃ (y3 : ByteArray), ref7_Escape_k1 y3 = some res ∧ St 51 w0 f (L) [(5, .string (y3))] a w) ?_ ?_
 ·clear hs hm
  rintro a w ⟨y3, hm, hs⟩
  replace hs : St _ _ _ (L) _ _ _ := hs
  unfold ref7_Escape_k1 at hm
  refine hK3 _ _ ?_; clear hK3
  refine W_seq fun K5 hK5 => ?_
  refine W_region ?_
  refine sy (v := .string (y3)) hs (y_move rfl) ?_; clear hs; (try clear a w); intro a w hs
  refine sy (v := .string (y3)) hs (y_assign rfl) ?_; clear hs; (try clear a w); intro a w hs
  refine RL_nil ?_
  refine hK5 _ _ ?_; clear hK5
  refine W_ret ?_
  obtain rfl := Option.some.inj hm
  refine RtV1 hs rfl (rv_t hs rfl) ?_
  exact ⟨rfl, (hs.weak hle).cw⟩
 ·refine W_block fun Qe6 hB6 hO6 => ?_
  refine W_loop (fun (k : Nat) a w => ∃ (y4 : ByteArray) (y5 : Nat), ref7_Escape_l2 p0 p1 k y4 y5 = some res ∧ St 51 w0 f (.blk b1 (.stringIter p0 y5) :: L) [(1, .bool (p1)), (5, .string (y4)), (9, .pointer (some ⟨b1, 0, none⟩))] a w) (fun k => k) n ⟨(bs []), (0 : Nat), hm, hs.sub ⟨rfl, rfl, rfl, trivial⟩⟩ ?_
  clear hs hm
  intro k
  rintro a w ⟨y4, y5, hm, hs⟩
  replace hs : St _ _ _ (.blk b1 (.stringIter p0 y5) :: L) _ _ _ := hs
  intro K7 hK7
  cases k with
  | zero => simp [ref7_Escape_l2] at hm
  | succ k6 =>
   rw [ref7_Escape_l2] at hm
   refine W_seq fun K8 hK8 => ?_
   refine W_region ?_
   refine RL_next (i := 0) hs rfl rfl (fun hg7 => ?_) (fun hg7 => ?_)
   ·replace hm := oc_t (decide_eq_true hg7) hm; clear hs; (try clear a w); intro a w hs
    replace hs : St _ _ _ (.blk b1 (.stringIter p0 (y5 + (Utf8.decode p0 y5).2)) :: L) _ _ _ := hs
    refine sy (v := .bool (true)) hs (y_extract rfl rfl) ?_; clear hs; (try clear a w); intro a w hs
    refine RL_nil ?_
    refine hK8 _ _ ?_; clear hK8
    refine W_seq fun K9 hK9 => ?_
    refine W_condT hs rfl ?_
    refine W_skip ?_
    refine hK9 _ _ ?_; clear hK9
    refine W_block fun Qe10 hB10 hO10 => ?_
    refine W_seq fun K11 hK11 => ?_
    refine W_region ?_
    refine sy (v := .int .i32 (((Utf8.decode p0 y5).1 : Int))) hs (y_extract rfl rfl) ?_; clear hs; (try clear a w); intro a w hs
    refine sy (v := .int .i32 (((Utf8.decode p0 y5).1 : Int))) hs (y_assign rfl) ?_; clear hs; (try clear a w); intro a w hs
    refine RL_nil ?_
    refine hK11 _ _ ?_; clear hK11
    refine W_block fun Qe12 hB12 hO12 => ?_
    refine W_seq fun K13 hK13 => ?_
    refine W_region ?_
    refine sy (v := .int .i32 (((Utf8.decode p0 y5).1 : Int))) hs (y_move rfl) ?_; clear hs; (try clear a w); intro a w hs
    refine sy hs (y_eql rfl rfl) ?_; clear hs; (try clear a w); intro a w hs
    refine sy (v := .bool (decide (((Utf8.decode p0 y5).1 : Int) = 38))) hs (y_assign rfl) ?_; clear hs; (try clear a w); intro a w hs
    refine RL_nil ?_
    refine hK13 _ _ ?_; clear hK13
    refine W_post (fun a w => ∃ (y8 : ByteArray), ref7_Escape_k3 p0 y5 (ref7_Escape_l2 p0 p1 k6) y8 = some res ∧ St 51 w0 f (.blk b1 (.stringIter p0 (y5 + (Utf8.decode p0 y5).2)) :: L) [(1, .bool (p1)), (5, .string (y8)), (9, .pointer (some ⟨b1, 0, none⟩))] a w) ?_ ?_
    ·clear hs hm
     rintro a w ⟨y8, hm, hs⟩
     replace hs : St _ _ _ (.blk b1 (.stringIter p0 (y5 + (Utf8.decode p0 y5).2)) :: L) _ _ _ := hs
     unfold ref7_Escape_k3 at hm
     exact hK7 k6 _ _ (Nat.lt_succ_self _) ⟨y8, (y5 + (Utf8.decode p0 y5).2), hm, hs.sub ⟨rfl, rfl, rfl, trivial⟩⟩
    ·refine W_cond hs rfl (fun hg9 => ?_) (fun hg9 => ?_)
     ·replace hm := oc_t hg9 hm
      refine W_region ?_
      refine sy (v := .string (y4)) hs (y_move rfl) ?_; clear hs; (try clear a w); intro a w hs
      obtain ⟨x10, hx11, hm⟩ := ob hm
      obtain ⟨hbx10, hex10⟩ := addS_some hx11
      refine sy hs (y_saddW rfl rfl hbx10 hex10) ?_; clear hs; (try clear a w); intro a w hs
      refine sy (v := .string (x10)) hs (y_assign rfl) ?_; clear hs; (try clear a w); intro a w hs
      refine RL_nil ?_
      exact ⟨x10, hm, hs.sub ⟨rfl, rfl, rfl, trivial⟩⟩
     ·replace hm := oc_f hg9 hm
      refine W_seq fun K14 hK14 => ?_
      refine W_region ?_
      refine sy (v := .int .i32 (((Utf8.decode p0 y5).1 : Int))) hs (y_move rfl) ?_; clear hs; (try clear a w); intro a w hs
      refine sy hs (y_eql rfl rfl) ?_; clear hs; (try clear a w); intro a w hs
      refine sy (v := .bool (decide (((Utf8.decode p0 y5).1 : Int) = 60))) hs (y_assign rfl) ?_; clear hs; (try clear a w); intro a w hs
      refine RL_nil ?_
      refine hK14 _ _ ?_; clear hK14
      refine W_post (fun a w => ∃ (y12 : ByteArray), ref7_Escape_k4 p0 y5 (ref7_Escape_l2 p0 p1 k6) y12 = some res ∧ St 51 w0 f (.blk b1 (.stringIter p0 (y5 + (Utf8.decode p0 y5).2)) :: L) [(1, .bool (p1)), (5, .string (y12)), (9, .pointer (some ⟨b1, 0, none⟩))] a w) ?_ ?_
      ·clear hs hm
       rintro a w ⟨y12, hm, hs⟩
       replace hs : St _ _ _ (.blk b1 (.stringIter p0 (y5 + (Utf8.decode p0 y5).2)) :: L) _ _ _ := hs
       unfold ref7_Escape_k4 at hm
       exact ⟨y12, hm, hs.sub ⟨rfl, rfl, rfl, trivial⟩⟩
      ·refine W_cond hs rfl (fun hg13 => ?_) (fun hg13 => ?_)
       ·replace hm := oc_t hg13 hm
        refine W_region ?_
        refine sy (v := .string (y4)) hs (y_move rfl) ?_; clear hs; (try clear a w); intro a w hs
        obtain ⟨x14, hx15, hm⟩ := ob hm
        obtain ⟨hbx14, hex14⟩ := addS_some hx15
        refine sy hs (y_saddW rfl rfl hbx14 hex14) ?_; clear hs; (try clear a w); intro a w hs
        refine sy (v := .string (x14)) hs (y_assign rfl) ?_; clear hs; (try clear a w); intro a w hs
        refine RL_nil ?_
        exact ⟨x14, hm, hs.sub ⟨rfl, rfl, rfl, trivial⟩⟩
       ·replace hm := oc_f hg13 hm
        refine W_seq fun K15 hK15 => ?_
        refine W_region ?_
        refine sy (v := .int .i32 (((Utf8.decode p0 y5).1 : Int))) hs (y_move rfl) ?_; clear hs; (try clear a w); intro a w hs
        refine sy hs (y_eql rfl rfl) ?_; clear hs; (try clear a w); intro a w hs
        refine sy (v := .bool (decide (((Utf8.decode p0 y5).1 : Int) = 62))) hs (y_assign rfl) ?_; clear hs; (try clear a w); intro a w hs
        refine RL_nil ?_
        refine hK15 _ _ ?_; clear hK15
        refine W_post (fun a w => ∃ (y16 : ByteArray), ref7_Escape_k5 p0 y5 (ref7_Escape_l2 p0 p1 k6) y16 = some res ∧ St 51 w0 f (.blk b1 (.stringIter p0 (y5 + (Utf8.decode p0 y5).2)) :: L) [(1, .bool (p1)), (5, .string (y16)), (9, .pointer (some ⟨b1, 0, none⟩))] a w) ?_ ?_
        ·clear hs hm
         rintro a w ⟨y16, hm, hs⟩
         replace hs : St _ _ _ (.blk b1 (.stringIter p0 (y5 + (Utf8.decode p0 y5).2)) :: L) _ _ _ := hs
         unfold ref7_Escape_k5 at hm
         exact ⟨y16, hm, hs.sub ⟨rfl, rfl, rfl, trivial⟩⟩
        ·refine W_cond hs rfl (fun hg17 => ?_) (fun hg17 => ?_)
         ·replace hm := oc_t hg17 hm
          refine W_region ?_
          refine sy (v := .string (y4)) hs (y_move rfl) ?_; clear hs; (try clear a w); intro a w hs
          obtain ⟨x18, hx19, hm⟩ := ob hm
          obtain ⟨hbx18, hex18⟩ := addS_some hx19
          refine sy hs (y_saddW rfl rfl hbx18 hex18) ?_; clear hs; (try clear a w); intro a w hs
          refine sy (v := .string (x18)) hs (y_assign rfl) ?_; clear hs; (try clear a w); intro a w hs
          refine RL_nil ?_
          exact ⟨x18, hm, hs.sub ⟨rfl, rfl, rfl, trivial⟩⟩
         ·replace hm := oc_f hg17 hm
          refine W_seq fun K16 hK16 => ?_
          refine W_region ?_
          refine sy (v := .int .i32 (((Utf8.decode p0 y5).1 : Int))) hs (y_move rfl) ?_; clear hs; (try clear a w); intro a w hs
          refine sy hs (y_eql rfl rfl) ?_; clear hs; (try clear a w); intro a w hs
          refine sy (v := .bool (decide (((Utf8.decode p0 y5).1 : Int) = 160))) hs (y_assign rfl) ?_; clear hs; (try clear a w); intro a w hs
          refine RL_nil ?_
          refine hK16 _ _ ?_; clear hK16
          refine W_post (fun a w => ∃ (y20 : ByteArray), ref7_Escape_k6 p0 y5 (ref7_Escape_l2 p0 p1 k6) y20 = some res ∧ St 51 w0 f (.blk b1 (.stringIter p0 (y5 + (Utf8.decode p0 y5).2)) :: L) [(1, .bool (p1)), (5, .string (y20)), (9, .pointer (some ⟨b1, 0, none⟩))] a w) ?_ ?_
          ·clear hs hm
           rintro a w ⟨y20, hm, hs⟩
           replace hs : St _ _ _ (.blk b1 (.stringIter p0 (y5 + (Utf8.decode p0 y5).2)) :: L) _ _ _ := hs
           unfold ref7_Escape_k6 at hm
           exact ⟨y20, hm, hs.sub ⟨rfl, rfl, rfl, trivial⟩⟩
          ·refine W_cond hs rfl (fun hg21 => ?_) (fun hg21 => ?_)
           ·replace hm := oc_t hg21 hm
            refine W_region ?_
            refine sy (v := .string (y4)) hs (y_move rfl) ?_; clear hs; (try clear a w); intro a w hs
            obtain ⟨x22, hx23, hm⟩ := ob hm
            obtain ⟨hbx22, hex22⟩ := addS_some hx23
            refine sy hs (y_saddW rfl rfl hbx22 hex22) ?_; clear hs; (try clear a w); intro a w hs
            refine sy (v := .string (x22)) hs (y_assign rfl) ?_; clear hs; (try clear a w); intro a w hs
            refine RL_nil ?_
            exact ⟨x22, hm, hs.sub ⟨rfl, rfl, rfl, trivial⟩⟩
           ·replace hm := oc_f hg21 hm
            refine W_seq fun K17 hK17 => ?_
            refine W_region ?_
            refine sy (v := .int .i32 (((Utf8.decode p0 y5).1 : Int))) hs (y_move rfl) ?_; clear hs; (try clear a w); intro a w hs
            refine sy hs (y_eql rfl rfl) ?_; clear hs; (try clear a w); intro a w hs
            refine sy (v := .bool (decide (((Utf8.decode p0 y5).1 : Int) = 13))) hs (y_assign rfl) ?_; clear hs; (try clear a w); intro a w hs
            refine RL_nil ?_
            refine hK17 _ _ ?_; clear hK17
            refine W_post (fun a w => ∃ (y24 : ByteArray), ref7_Escape_k7 p0 y5 (ref7_Escape_l2 p0 p1 k6) y24 = some res ∧ St 51 w0 f (.blk b1 (.stringIter p0 (y5 + (Utf8.decode p0 y5).2)) :: L) [(1, .bool (p1)), (5, .string (y24)), (9, .pointer (some ⟨b1, 0, none⟩))] a w) ?_ ?_
            ·clear hs hm
             rintro a w ⟨y24, hm, hs⟩
             replace hs : St _ _ _ (.blk b1 (.stringIter p0 (y5 + (Utf8.decode p0 y5).2)) :: L) _ _ _ := hs
             unfold ref7_Escape_k7 at hm
             exact ⟨y24, hm, hs.sub ⟨rfl, rfl, rfl, trivial⟩⟩
            ·refine W_cond hs rfl (fun hg25 => ?_) (fun hg25 => ?_)
             ·replace hm := oc_t hg25 hm
              refine W_region ?_
              refine sy (v := .string (y4)) hs (y_move rfl) ?_; clear hs; (try clear a w); intro a w hs
              obtain ⟨x26, hx27, hm⟩ := ob hm
              obtain ⟨hbx26, hex26⟩ := addS_some hx27
              refine sy hs (y_saddW rfl rfl hbx26 hex26) ?_; clear hs; (try clear a w); intro a w hs
              refine sy (v := .string (x26)) hs (y_assign rfl) ?_; clear hs; (try clear a w); intro a w hs
              refine RL_nil ?_
              exact ⟨x26, hm, hs.sub ⟨rfl, rfl, rfl, trivial⟩⟩
             ·replace hm := oc_f hg25 hm
              refine W_seq fun K18 hK18 => ?_
              refine W_post (fun a w => St 51 w0 f (.blk b1 (.stringIter p0 (y5 + (Utf8.decode p0 y5).2)) :: L) [(1, .bool (p1)), (5, .string (y4)), (7, .int .i32 (((Utf8.decode p0 y5).1 : Int))), (9, .pointer (some ⟨b1, 0, none⟩)), (42, .bool (((decide (((Utf8.decode p0 y5).1 : Int) = 34)) && p1)))] a w) ?_ ?_
              ·clear hs; intro a w hs
               refine hK18 _ _ ?_; clear hK18
               refine W_post (fun a w => ∃ (y28 : ByteArray), ref7_Escape_k8 p0 y5 (ref7_Escape_l2 p0 p1 k6) y28 = some res ∧ St 51 w0 f (.blk b1 (.stringIter p0 (y5 + (Utf8.decode p0 y5).2)) :: L) [(1, .bool (p1)), (5, .string (y28)), (9, .pointer (some ⟨b1, 0, none⟩))] a w) ?_ ?_
               ·clear hs hm
                rintro a w ⟨y28, hm, hs⟩
                replace hs : St _ _ _ (.blk b1 (.stringIter p0 (y5 + (Utf8.decode p0 y5).2)) :: L) _ _ _ := hs
                unfold ref7_Escape_k8 at hm
                exact ⟨y28, hm, hs.sub ⟨rfl, rfl, rfl, trivial⟩⟩
               ·refine W_cond hs rfl (fun hg29 => ?_) (fun hg29 => ?_)
                ·replace hm := oc_t hg29 hm
                 refine W_region ?_
                 refine sy (v := .string (y4)) hs (y_move rfl) ?_; clear hs; (try clear a w); intro a w hs
                 obtain ⟨x30, hx31, hm⟩ := ob hm
                 obtain ⟨hbx30, hex30⟩ := addS_some hx31
                 refine sy hs (y_saddW rfl rfl hbx30 hex30) ?_; clear hs; (try clear a w); intro a w hs
                 refine sy (v := .string (x30)) hs (y_assign rfl) ?_; clear hs; (try clear a w); intro a w hs
                 refine RL_nil ?_
                 exact ⟨x30, hm, hs.sub ⟨rfl, rfl, rfl, trivial⟩⟩
                ·replace hm := oc_f hg29 hm
                 refine W_region ?_
                 refine sy (v := .string (y4)) hs (y_move rfl) ?_; clear hs; (try clear a w); intro a w hs
                 refine sy (v := .int .i32 (((Utf8.decode p0 y5).1 : Int))) hs (y_move rfl) ?_; clear hs; (try clear a w); intro a w hs
                 refine sy (v := .string ((Utf8.encode ((Utf8.decode p0 y5).1 : Int)))) hs (y_i2s rfl (by rw [Tryz.underlying21]; rfl) Tryz.underlying9) ?_; clear hs; (try clear a w); intro a w hs
                 obtain ⟨x32, hx33, hm⟩ := ob hm
                 obtain ⟨hbx32, hex32⟩ := addS_some hx33
                 refine sy hs (y_saddW rfl rfl hbx32 hex32) ?_; clear hs; (try clear a w); intro a w hs
                 refine sy (v := .string (x32)) hs (y_assign rfl) ?_; clear hs; (try clear a w); intro a w hs
                 refine RL_nil ?_
                 exact ⟨x32, hm, hs.sub ⟨rfl, rfl, rfl, trivial⟩⟩
              ·refine W_region ?_
               refine sy (v := .int .i32 (((Utf8.decode p0 y5).1 : Int))) hs (y_move rfl) ?_; clear hs; (try clear a w); intro a w hs
               refine sy hs (y_eql rfl rfl) ?_; clear hs; (try clear a w); intro a w hs
               refine sy (v := .bool (decide (((Utf8.decode p0 y5).1 : Int) = 34))) hs (y_move rfl) ?_; clear hs; (try clear a w); intro a w hs
               refine St.split hs (t := 45) rfl (fun hg34 hq => ?_) (fun hg34 hq => ?_)
               ·clear hs; have hs := hq; clear hq
                refine syg (v := .bool (p1)) hs (y_move rfl) ?_; clear hs; (try clear a w); intro a w hs
                refine sy (v := .bool (p1)) hs (y_pick rfl rfl) ?_; clear hs; (try clear a w); intro a w hs
                refine sy (v := .bool (p1)) hs (y_assign rfl) ?_; clear hs; (try clear a w); intro a w hs
                refine RL_nil ?_
                exact hs.sub ⟨rfl, rfl, rfl, rfl, (lkB (((and_t hg34).trans rfl)) rfl), trivial⟩
               ·clear hs; have hs := hq; clear hq
                refine sno hs ?_; clear hs; (try clear a w); intro a w hs
                refine sy (v := .bool (false)) hs (y_pick rfl rfl) ?_; clear hs; (try clear a w); intro a w hs
                refine sy (v := .bool (false)) hs (y_assign rfl) ?_; clear hs; (try clear a w); intro a w hs
                refine RL_nil ?_
                exact hs.sub ⟨rfl, rfl, rfl, rfl, (lkB (((and_f hg34).trans rfl)) rfl), trivial⟩
   ·replace hm := oc_f (decide_eq_false (Nat.not_lt.2 hg7)) hm; clear hs; (try clear a w); intro a w hs
    refine sy (v := .bool (false)) hs (y_extract rfl rfl) ?_; clear hs; (try clear a w); intro a w hs
    refine RL_nil ?_
    refine hK8 _ _ ?_; clear hK8
    refine W_seq fun K19 hK19 => ?_
    refine W_condF hs rfl ?_
    refine W_exit ?_
    refine hB6 _ _ ?_
    exact ⟨y4, hm, hs.subs ⟨rfl, trivial⟩ (.cons _ (.refl _))⟩
end Go.Proofs.YtklcdfnhdljkjaaGreatDoor
