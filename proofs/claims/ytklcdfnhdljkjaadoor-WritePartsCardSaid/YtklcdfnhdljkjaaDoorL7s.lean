/-
  Walks and laws of this seat; the base is the text Base.
-/
import Derived.Test.YtklcdfnhdljkjaaDoorY7
import Derived.Test.YtklcdfnhdljkjaaDoorRows
/-
  Models of functions, and that the functions compute them. Printed by lift.py.
-/
namespace Go.Proofs.YtklcdfnhdljkjaaDoor
open Go.RowKit Go.Sl
/-! slices.Index[[]string,string] -/
def slices_Index_string_string_k1 : Option Int :=
  some (-1)
def slices_Index_string_string_l2 (p0 : (List ByteArray)) (p1 : ByteArray) : Nat → Int → Option Int
  | 0, _ => none
  | k6 + 1, y5 =>
  (bif (decide (y5 < (p0.length : Int))) then (geti p0 y5).bind fun x8 =>
  (bif (decide (p1 = x8)) then some y5 else
  (slices_Index_string_string_l2 p0 p1 k6) (w64 (y5 + 1))) else
  slices_Index_string_string_k1)
def slices_Index_string_string (n : Nat) (p0 : (List ByteArray)) (p1 : ByteArray) : Option Int :=
  slices_Index_string_string_l2 p0 p1 n 0
set_option maxRecDepth 20000 in
set_option maxHeartbeats 4000000 in
theorem slices_Index_string_string_ok (n : Nat) {f : Fz} {p0 : (List ByteArray)} {a0 : Value} {p1 : ByteArray} {res : Int} (h0 : RS tStr f a0 p0) (hm : slices_Index_string_string n p0 p1 = some res) : Gives Tryd.prog 28 [a0, .string p1] f (.int .i64 res) := by
 unfold slices_Index_string_string at hm
 intro w0 L w hC
 obtain ⟨rw1, hR2, hW3⟩ := h0
 refine enter Tryd.func28 rfl Tryd.ntmps28 (by simp) hC fun a hs => ?_
 have hle := Fz.le.refl f
 refine W_seq fun K1 hK1 => ?_
 refine W_region ?_
 refine sy (v := .int .i64 (0)) hs (y_assign rfl) ?_; clear hs; (try clear a w); intro a w hs
 refine RL_nil ?_
 refine hK1 _ _ ?_; clear hK1
 refine W_seq fun K2 hK2 => ?_
 refine W_seq fun K3 hK3 => ?_
 refine W_region ?_
 refine sy (v := a0) hs (y_move rfl) ?_; clear hs; (try clear a w); intro a w hs
 refine sy hs (y_lenW hR2 hW3 rfl Tryd.underlying47) ?_; clear hs; (try clear a w); intro a w hs
 refine sy (v := .int .i64 (0)) hs (y_move rfl) ?_; clear hs; (try clear a w); intro a w hs
 refine RL_nil ?_
 refine hK3 _ _ ?_; clear hK3
 refine W_post (fun a w => slices_Index_string_string_k1 = some res ∧ St 19 w0 f (L) [] a w) ?_ ?_
 ·clear hs hm
  rintro a w ⟨hm, hs⟩
  replace hs : St _ _ _ (L) _ _ _ := hs
  unfold slices_Index_string_string_k1 at hm
  refine hK2 _ _ ?_; clear hK2
  refine W_seq fun K4 hK4 => ?_
  refine W_region ?_
  refine sy (v := .int .i64 ((-1))) hs (y_assign rfl) ?_; clear hs; (try clear a w); intro a w hs
  refine RL_nil ?_
  refine hK4 _ _ ?_; clear hK4
  refine W_ret ?_
  obtain rfl := Option.some.inj hm
  refine RtV1 hs rfl (rv_t hs rfl) ?_
  exact ⟨rfl, (hs.weak hle).cw⟩
 ·refine W_block fun Qe5 hB5 hO5 => ?_
  refine W_loop (fun (k : Nat) a w => ∃ (y5 : Int), slices_Index_string_string_l2 p0 p1 k y5 = some res ∧ St 19 w0 f (L) [(0, a0), (1, .string (p1)), (7, .int .i64 ((p0.length : Int))), (8, .int .i64 (y5))] a w) (fun k => k) n ⟨0, hm, hs.sub ⟨rfl, rfl, rfl, rfl, trivial⟩⟩ ?_
  clear hs hm
  intro k
  rintro a w ⟨y5, hm, hs⟩
  replace hs : St _ _ _ (L) _ _ _ := hs
  intro K6 hK6
  cases k with
  | zero => simp [slices_Index_string_string_l2] at hm
  | succ k6 =>
   rw [slices_Index_string_string_l2] at hm
   refine W_seq fun K7 hK7 => ?_
   refine W_region ?_
   refine sy hs (y_lss rfl rfl) ?_; clear hs; (try clear a w); intro a w hs
   refine RL_nil ?_
   refine hK7 _ _ ?_; clear hK7
   refine W_seq fun K8 hK8 => ?_
   refine W_cond hs rfl (fun hg7 => ?_) (fun hg7 => ?_)
   ·replace hm := oc_t hg7 hm
    refine W_skip ?_
    refine hK8 _ _ ?_; clear hK8
    refine W_seq fun K9 hK9 => ?_
    refine W_block fun Qe10 hB10 hO10 => ?_
    refine W_seq fun K11 hK11 => ?_
    refine W_region ?_
    refine sy (v := .int .i64 (y5)) hs (y_move rfl) ?_; clear hs; (try clear a w); intro a w hs
    refine sy (v := .int .i64 (y5)) hs (y_assign rfl) ?_; clear hs; (try clear a w); intro a w hs
    refine RL_nil ?_
    refine hK11 _ _ ?_; clear hK11
    refine W_seq fun K12 hK12 => ?_
    refine W_region ?_
    refine sy (v := .string (p1)) hs (y_move rfl) ?_; clear hs; (try clear a w); intro a w hs
    refine sy (v := a0) hs (y_move rfl) ?_; clear hs; (try clear a w); intro a w hs
    refine sy (v := .int .i64 (y5)) hs (y_move rfl) ?_; clear hs; (try clear a w); intro a w hs
    obtain ⟨x8, hx9, hm⟩ := ob hm
    obtain ⟨r10, hr11, hq12, hi13, hb14⟩ := hW3.geti hx9
    obtain rfl : _ = ([.string (x8)] : List Value) := hq12
    refine sy hs (y_indexAddr hR2 rfl rfl hi13 hb14 Tryd.underlying47 ti9) ?_; clear hs; (try clear a w); intro a w hs
    refine sy (v := .string (x8)) hs (y_loadE (i := y5.toNat) (j := 0) hR2.up rfl hr11 rfl Tryd.underlying9 rfl) ?_; clear hs; (try clear a w); intro a w hs
    refine sy hs (y_seql rfl rfl) ?_; clear hs; (try clear a w); intro a w hs
    refine RL_nil ?_
    refine hK12 _ _ ?_; clear hK12
    refine W_cond hs rfl (fun hg15 => ?_) (fun hg15 => ?_)
    ·replace hm := oc_t hg15 hm
     refine W_seq fun K13 hK13 => ?_
     refine W_region ?_
     refine sy (v := .int .i64 (y5)) hs (y_move rfl) ?_; clear hs; (try clear a w); intro a w hs
     refine sy (v := .int .i64 (y5)) hs (y_assign rfl) ?_; clear hs; (try clear a w); intro a w hs
     refine RL_nil ?_
     refine hK13 _ _ ?_; clear hK13
     refine W_ret ?_
     obtain rfl := Option.some.inj hm
     refine RtV1 hs rfl (rv_t hs rfl) ?_
     exact ⟨rfl, (hs.weak hle).cw⟩
    ·replace hm := oc_f hg15 hm
     refine W_skip ?_
     refine hK9 _ _ ?_; clear hK9
     refine W_region ?_
     refine sy hs (y_add rfl rfl rfl) ?_; clear hs; (try clear a w); intro a w hs
     refine sy (v := .int .i64 ((w64 (y5 + 1)))) hs (y_move rfl) ?_; clear hs; (try clear a w); intro a w hs
     refine RL_nil ?_
     exact hK6 k6 _ _ (Nat.lt_succ_self _) ⟨(w64 (y5 + 1)), hm, hs.sub ⟨rfl, rfl, rfl, rfl, trivial⟩⟩
   ·replace hm := oc_f hg7 hm
    refine W_exit ?_
    refine hB5 _ _ ?_
    exact ⟨hm, hs.sub trivial⟩
/-! slices.Contains[[]string,string] -/
def slices_Contains_string_string (n : Nat) (p0 : (List ByteArray)) (p1 : ByteArray) : Option Bool :=
  (slices_Index_string_string n p0 p1).bind fun x5 =>
  some (decide (0 ≤ x5))
set_option maxRecDepth 20000 in
set_option maxHeartbeats 4000000 in
theorem slices_Contains_string_string_ok (n : Nat) {f : Fz} {p0 : (List ByteArray)} {a0 : Value} {p1 : ByteArray} {res : Bool} (h0 : RS tStr f a0 p0) (hm : slices_Contains_string_string n p0 p1 = some res) : Gives Tryd.prog 14 [a0, .string p1] f (.bool res) := by
 unfold slices_Contains_string_string at hm
 intro w0 L w hC
 obtain ⟨rw1, hR2, hW3⟩ := h0
 refine enter Tryd.func14 rfl Tryd.ntmps14 (by simp) hC fun a hs => ?_
 have hle := Fz.le.refl f
 refine W_seq fun K1 hK1 => ?_
 refine W_region ?_
 refine sy (v := .bool (false)) hs (y_assign rfl) ?_; clear hs; (try clear a w); intro a w hs
 refine RL_nil ?_
 refine hK1 _ _ ?_; clear hK1
 refine W_seq fun K2 hK2 => ?_
 refine W_region ?_
 refine sy (v := a0) hs (y_move rfl) ?_; clear hs; (try clear a w); intro a w hs
 refine sy (v := .string (p1)) hs (y_move rfl) ?_; clear hs; (try clear a w); intro a w hs
 obtain ⟨x5, hx6, hm⟩ := ob hm
 refine sy hs (y_call rfl has28 rfl (slices_Index_string_string_ok n (f := f) (a0 := a0) ⟨rw1, hR2, hW3⟩ hx6)) ?_; clear hs; (try clear a w); intro a w hs
 refine sy hs (y_geq rfl rfl) ?_; clear hs; (try clear a w); intro a w hs
 refine sy (v := .bool (decide (0 ≤ x5))) hs (y_assign rfl) ?_; clear hs; (try clear a w); intro a w hs
 refine RL_nil ?_
 refine hK2 _ _ ?_; clear hK2
 refine W_ret ?_
 obtain rfl := Option.some.inj hm
 refine RtV1 hs rfl (rv_t hs rfl) ?_
 exact ⟨rfl, (hs.weak hle).cw⟩
/-! casement/tree.in -/
def tree_in (n : Nat) (p0 : ByteArray) (p1 : (List ByteArray)) : Option Bool :=
  (slices_Contains_string_string n p1 p0).bind fun x5 =>
  some x5
set_option maxRecDepth 20000 in
set_option maxHeartbeats 4000000 in
theorem tree_in_ok (n : Nat) {f : Fz} {p0 : ByteArray} {p1 : (List ByteArray)} {a1 : Value} {res : Bool} (h1 : RS tStr f a1 p1) (hm : tree_in n p0 p1 = some res) : Gives Tryd.prog 31 [.string p0, a1] f (.bool res) := by
 unfold tree_in at hm
 intro w0 L w hC
 obtain ⟨rw1, hR2, hW3⟩ := h1
 refine enter Tryd.func31 rfl Tryd.ntmps31 (by simp) hC fun a hs => ?_
 have hle := Fz.le.refl f
 refine W_seq fun K1 hK1 => ?_
 refine W_region ?_
 refine sy (v := .bool (false)) hs (y_assign rfl) ?_; clear hs; (try clear a w); intro a w hs
 refine RL_nil ?_
 refine hK1 _ _ ?_; clear hK1
 refine W_seq fun K2 hK2 => ?_
 refine W_region ?_
 refine sy (v := a1) hs (y_move rfl) ?_; clear hs; (try clear a w); intro a w hs
 refine sy (v := .string (p0)) hs (y_move rfl) ?_; clear hs; (try clear a w); intro a w hs
 obtain ⟨x5, hx6, hm⟩ := ob hm
 refine sy hs (y_call rfl has14 rfl (slices_Contains_string_string_ok n (f := f) (a0 := a1) ⟨rw1, hR2, hW3⟩ hx6)) ?_; clear hs; (try clear a w); intro a w hs
 refine sy (v := .bool (x5)) hs (y_assign rfl) ?_; clear hs; (try clear a w); intro a w hs
 refine RL_nil ?_
 refine hK2 _ _ ?_; clear hK2
 refine W_ret ?_
 obtain rfl := Option.some.inj hm
 refine RtV1 hs rfl (rv_t hs rfl) ?_
 exact ⟨rfl, (hs.weak hle).cw⟩
/-! casement/tree.Void -/
def tree_Void (n : Nat) (p0 : ByteArray) : Option Bool :=
  (tree_in n p0 [(bs [98, 114]), (bs [104, 114]), (bs [105, 109, 103]), (bs [105, 110, 112, 117, 116]), (bs [108, 105, 110, 107]), (bs [109, 101, 116, 97])]).bind fun x6 =>
  some x6
set_option maxRecDepth 20000 in
set_option maxHeartbeats 4000000 in
theorem tree_Void_ok (n : Nat) {f : Fz} {p0 : ByteArray} {res : Bool}  (hm : tree_Void n p0 = some res) : Gives Tryd.prog 18 [.string p0] f (.bool res) := by
 unfold tree_Void at hm
 intro w0 L w hC
 refine enter Tryd.func18 rfl Tryd.ntmps18 (by simp) hC fun a hs => ?_
 have hle := Fz.le.refl f
 refine W_seq fun K1 hK1 => ?_
 refine W_region ?_
 refine sy (v := .bool (false)) hs (y_assign rfl) ?_; clear hs; (try clear a w); intro a w hs
 refine RL_nil ?_
 refine hK1 _ _ ?_; clear hK1
 refine W_seq fun K2 hK2 => ?_
 refine W_region ?_
 refine sy (v := .string (p0)) hs (y_move rfl) ?_; clear hs; (try clear a w); intro a w hs
 refine RL_bsN (parts := [(0, .const (.string (bs [98, 114]))), (1, .const (.string (bs [104, 114]))), (2, .const (.string (bs [105, 109, 103]))), (3, .const (.string (bs [105, 110, 112, 117, 116]))), (4, .const (.string (bs [108, 105, 110, 107]))), (5, .const (.string (bs [109, 101, 116, 97])))]) (us := [.string ((bs [98, 114])), .string ((bs [104, 114])), .string ((bs [105, 109, 103])), .string ((bs [105, 110, 112, 117, 116])), .string ((bs [108, 105, 110, 107])), .string ((bs [109, 101, 116, 97]))]) (rows := [[.string ((bs [98, 114]))], [.string ((bs [104, 114]))], [.string ((bs [105, 109, 103]))], [.string ((bs [105, 110, 112, 117, 116]))], [.string ((bs [108, 105, 110, 107]))], [.string ((bs [109, 101, 116, 97]))]]) hs rfl Tryd.underlying47 ti9 (by decide) rfl rfl (by intro r hr; simp only [List.mem_cons, List.mem_nil_iff, or_false] at hr; rcases hr with rfl | rfl | rfl | rfl | rfl | rfl; exact AllC.row ⟨rfl, trivial⟩ rfl; exact AllC.row ⟨rfl, trivial⟩ rfl; exact AllC.row ⟨rfl, trivial⟩ rfl; exact AllC.row ⟨rfl, trivial⟩ rfl; exact AllC.row ⟨rfl, trivial⟩ rfl; exact AllC.row ⟨rfl, trivial⟩ rfl) ?_; clear hs; (try clear a w); intro v1 a w hs
 have hW2 : RW tStr f [[.string ((bs [98, 114]))], [.string ((bs [104, 114]))], [.string ((bs [105, 109, 103]))], [.string ((bs [105, 110, 112, 117, 116]))], [.string ((bs [108, 105, 110, 107]))], [.string ((bs [109, 101, 116, 97]))]] [(bs [98, 114]), (bs [104, 114]), (bs [105, 109, 103]), (bs [105, 110, 112, 117, 116]), (bs [108, 105, 110, 107]), (bs [109, 101, 116, 97])] := ⟨rfl, ⟨rfl, ⟨rfl, ⟨rfl, ⟨rfl, ⟨rfl, trivial⟩⟩⟩⟩⟩⟩
 generalize hgrw3 : ([[.string ((bs [98, 114]))], [.string ((bs [104, 114]))], [.string ((bs [105, 109, 103]))], [.string ((bs [105, 110, 112, 117, 116]))], [.string ((bs [108, 105, 110, 107]))], [.string ((bs [109, 101, 116, 97]))]] : List (List Value)) = rw3 at hs hW2; clear hgrw3
 replace hs : St _ _ _ (.row v1 9 1 rw3 :: L) _ _ _ := hs
 obtain ⟨x6, hx7, hm⟩ := ob hm
 refine sy hs (y_callCK (cap := []) rfl has31 rfl (fun w9 hw9 => callsP (Lr := [.row v1 9 1 rw3]) (Lf := L) (perm_at _ 0 rfl) hw9 (fun Lz w9 hw9 => lent0 hw9 (fun f9_0 w9 hle9_0 hRl0 hw9 => (tree_in_ok n (f := f9_0) (a1 := v1) ⟨rw3, hRl0, hW2.le hle9_0⟩ hx7) w0 _ w9 hw9)))) ?_; clear hs; (try clear a w); intro a w hs
 refine sy (v := .bool (x6)) hs (y_assign rfl) ?_; clear hs; (try clear a w); intro a w hs
 refine RL_nil ?_
 refine hK2 _ _ ?_; clear hK2
 refine W_ret ?_
 obtain rfl := Option.some.inj hm
 refine RtV1 hs rfl (rv_t hs rfl) ?_
 exact ⟨rfl, ((hs.subL (.cons _ (.refl _))).weak hle).cw⟩
/-! casement/write.within -/
def write_within (_n : Nat) (p0 : ByteArray) : Option ByteArray :=
  (bif (decide (p0 = (bs [116, 114]))) then some (bs [116, 97, 98, 108, 101]) else
  (bif (decide (p0 = (bs [116, 100]))) then some (bs [116, 114]) else
  (bif (decide (p0 = (bs [108, 105]))) then some (bs [117, 108]) else
  some (bs []))))
set_option maxRecDepth 20000 in
set_option maxHeartbeats 4000000 in
theorem write_within_ok (n : Nat) {f : Fz} {p0 : ByteArray} {res : ByteArray}  (hm : write_within n p0 = some res) : Gives Tryd.prog 15 [.string p0] f (.string res) := by
 unfold write_within at hm
 intro w0 L w hC
 refine enter Tryd.func15 rfl Tryd.ntmps15 (by simp) hC fun a hs => ?_
 have hle := Fz.le.refl f
 refine W_seq fun K1 hK1 => ?_
 refine W_region ?_
 refine sy (v := .string ((bs []))) hs (y_assign rfl) ?_; clear hs; (try clear a w); intro a w hs
 refine RL_nil ?_
 refine hK1 _ _ ?_; clear hK1
 refine W_seq fun K2 hK2 => ?_
 refine W_seq fun K3 hK3 => ?_
 refine W_region ?_
 refine sy (v := .string (p0)) hs (y_move rfl) ?_; clear hs; (try clear a w); intro a w hs
 refine RL_nil ?_
 refine hK3 _ _ ?_; clear hK3
 refine W_block fun Qe4 hB4 hO4 => ?_
 refine W_seq fun K5 hK5 => ?_
 refine W_region ?_
 refine sy hs (y_seql rfl rfl) ?_; clear hs; (try clear a w); intro a w hs
 refine sy (v := .bool (decide (p0 = (bs [116, 114])))) hs (y_assign rfl) ?_; clear hs; (try clear a w); intro a w hs
 refine RL_nil ?_
 refine hK5 _ _ ?_; clear hK5
 refine W_cond hs rfl (fun hg1 => ?_) (fun hg1 => ?_)
 ·replace hm := oc_t hg1 hm
  refine W_seq fun K6 hK6 => ?_
  refine W_region ?_
  refine sy (v := .string ((bs [116, 97, 98, 108, 101]))) hs (y_assign rfl) ?_; clear hs; (try clear a w); intro a w hs
  refine RL_nil ?_
  refine hK6 _ _ ?_; clear hK6
  refine W_ret ?_
  obtain rfl := Option.some.inj hm
  refine RtV1 hs rfl (rv_t hs rfl) ?_
  exact ⟨rfl, (hs.weak hle).cw⟩
 ·replace hm := oc_f hg1 hm
  refine W_seq fun K7 hK7 => ?_
  refine W_region ?_
  refine sy hs (y_seql rfl rfl) ?_; clear hs; (try clear a w); intro a w hs
  refine sy (v := .bool (decide (p0 = (bs [116, 100])))) hs (y_assign rfl) ?_; clear hs; (try clear a w); intro a w hs
  refine RL_nil ?_
  refine hK7 _ _ ?_; clear hK7
  refine W_cond hs rfl (fun hg2 => ?_) (fun hg2 => ?_)
  ·replace hm := oc_t hg2 hm
   refine W_seq fun K8 hK8 => ?_
   refine W_region ?_
   refine sy (v := .string ((bs [116, 114]))) hs (y_assign rfl) ?_; clear hs; (try clear a w); intro a w hs
   refine RL_nil ?_
   refine hK8 _ _ ?_; clear hK8
   refine W_ret ?_
   obtain rfl := Option.some.inj hm
   refine RtV1 hs rfl (rv_t hs rfl) ?_
   exact ⟨rfl, (hs.weak hle).cw⟩
  ·replace hm := oc_f hg2 hm
   refine W_seq fun K9 hK9 => ?_
   refine W_region ?_
   refine sy hs (y_seql rfl rfl) ?_; clear hs; (try clear a w); intro a w hs
   refine sy (v := .bool (decide (p0 = (bs [108, 105])))) hs (y_assign rfl) ?_; clear hs; (try clear a w); intro a w hs
   refine RL_nil ?_
   refine hK9 _ _ ?_; clear hK9
   refine W_cond hs rfl (fun hg3 => ?_) (fun hg3 => ?_)
   ·replace hm := oc_t hg3 hm
    refine W_seq fun K10 hK10 => ?_
    refine W_region ?_
    refine sy (v := .string ((bs [117, 108]))) hs (y_assign rfl) ?_; clear hs; (try clear a w); intro a w hs
    refine RL_nil ?_
    refine hK10 _ _ ?_; clear hK10
    refine W_ret ?_
    obtain rfl := Option.some.inj hm
    refine RtV1 hs rfl (rv_t hs rfl) ?_
    exact ⟨rfl, (hs.weak hle).cw⟩
   ·replace hm := oc_f hg3 hm
    refine W_skip ?_
    refine hK2 _ _ ?_; clear hK2
    refine W_seq fun K11 hK11 => ?_
    refine W_region ?_
    refine sy (v := .string ((bs []))) hs (y_assign rfl) ?_; clear hs; (try clear a w); intro a w hs
    refine RL_nil ?_
    refine hK11 _ _ ?_; clear hK11
    refine W_ret ?_
    obtain rfl := Option.some.inj hm
    refine RtV1 hs rfl (rv_t hs rfl) ?_
    exact ⟨rfl, (hs.weak hle).cw⟩
/-! casement/write.known -/
def write_known (n : Nat) (p0 : ByteArray) : Option Bool :=
  (slices_Contains_string_string n [(bs [97]), (bs [98]), (bs [98, 114]), (bs [100, 105, 118]), (bs [101, 109]), (bs [104, 49]), (bs [104, 114]), (bs [105]), (bs [105, 109, 103]), (bs [108, 105]), (bs [112]), (bs [115, 112, 97, 110]), (bs [116, 97, 98, 108, 101]), (bs [116, 100]), (bs [116, 114]), (bs [117]), (bs [117, 108])] p0).bind fun x6 =>
  some x6
set_option maxRecDepth 20000 in
set_option maxHeartbeats 4000000 in
theorem write_known_ok (n : Nat) {f : Fz} {p0 : ByteArray} {res : Bool}  (hm : write_known n p0 = some res) : Gives Tryd.prog 17 [.string p0] f (.bool res) := by
 unfold write_known at hm
 intro w0 L w hC
 refine enter Tryd.func17 rfl Tryd.ntmps17 (by simp) hC fun a hs => ?_
 have hle := Fz.le.refl f
 refine W_seq fun K1 hK1 => ?_
 refine W_region ?_
 refine sy (v := .bool (false)) hs (y_assign rfl) ?_; clear hs; (try clear a w); intro a w hs
 refine RL_nil ?_
 refine hK1 _ _ ?_; clear hK1
 refine W_seq fun K2 hK2 => ?_
 refine W_region ?_
 refine RL_bsN (parts := [(0, .const (.string (bs [97]))), (1, .const (.string (bs [98]))), (2, .const (.string (bs [98, 114]))), (3, .const (.string (bs [100, 105, 118]))), (4, .const (.string (bs [101, 109]))), (5, .const (.string (bs [104, 49]))), (6, .const (.string (bs [104, 114]))), (7, .const (.string (bs [105]))), (8, .const (.string (bs [105, 109, 103]))), (9, .const (.string (bs [108, 105]))), (10, .const (.string (bs [112]))), (11, .const (.string (bs [115, 112, 97, 110]))), (12, .const (.string (bs [116, 97, 98, 108, 101]))), (13, .const (.string (bs [116, 100]))), (14, .const (.string (bs [116, 114]))), (15, .const (.string (bs [117]))), (16, .const (.string (bs [117, 108])))]) (us := [.string ((bs [97])), .string ((bs [98])), .string ((bs [98, 114])), .string ((bs [100, 105, 118])), .string ((bs [101, 109])), .string ((bs [104, 49])), .string ((bs [104, 114])), .string ((bs [105])), .string ((bs [105, 109, 103])), .string ((bs [108, 105])), .string ((bs [112])), .string ((bs [115, 112, 97, 110])), .string ((bs [116, 97, 98, 108, 101])), .string ((bs [116, 100])), .string ((bs [116, 114])), .string ((bs [117])), .string ((bs [117, 108]))]) (rows := [[.string ((bs [97]))], [.string ((bs [98]))], [.string ((bs [98, 114]))], [.string ((bs [100, 105, 118]))], [.string ((bs [101, 109]))], [.string ((bs [104, 49]))], [.string ((bs [104, 114]))], [.string ((bs [105]))], [.string ((bs [105, 109, 103]))], [.string ((bs [108, 105]))], [.string ((bs [112]))], [.string ((bs [115, 112, 97, 110]))], [.string ((bs [116, 97, 98, 108, 101]))], [.string ((bs [116, 100]))], [.string ((bs [116, 114]))], [.string ((bs [117]))], [.string ((bs [117, 108]))]]) hs rfl Tryd.underlying47 ti9 (by decide) rfl rfl (by intro r hr; simp only [List.mem_cons, List.mem_nil_iff, or_false] at hr; rcases hr with rfl | rfl | rfl | rfl | rfl | rfl | rfl | rfl | rfl | rfl | rfl | rfl | rfl | rfl | rfl | rfl | rfl; exact AllC.row ⟨rfl, trivial⟩ rfl; exact AllC.row ⟨rfl, trivial⟩ rfl; exact AllC.row ⟨rfl, trivial⟩ rfl; exact AllC.row ⟨rfl, trivial⟩ rfl; exact AllC.row ⟨rfl, trivial⟩ rfl; exact AllC.row ⟨rfl, trivial⟩ rfl; exact AllC.row ⟨rfl, trivial⟩ rfl; exact AllC.row ⟨rfl, trivial⟩ rfl; exact AllC.row ⟨rfl, trivial⟩ rfl; exact AllC.row ⟨rfl, trivial⟩ rfl; exact AllC.row ⟨rfl, trivial⟩ rfl; exact AllC.row ⟨rfl, trivial⟩ rfl; exact AllC.row ⟨rfl, trivial⟩ rfl; exact AllC.row ⟨rfl, trivial⟩ rfl; exact AllC.row ⟨rfl, trivial⟩ rfl; exact AllC.row ⟨rfl, trivial⟩ rfl; exact AllC.row ⟨rfl, trivial⟩ rfl) ?_; clear hs; (try clear a w); intro v1 a w hs
 have hW2 : RW tStr f [[.string ((bs [97]))], [.string ((bs [98]))], [.string ((bs [98, 114]))], [.string ((bs [100, 105, 118]))], [.string ((bs [101, 109]))], [.string ((bs [104, 49]))], [.string ((bs [104, 114]))], [.string ((bs [105]))], [.string ((bs [105, 109, 103]))], [.string ((bs [108, 105]))], [.string ((bs [112]))], [.string ((bs [115, 112, 97, 110]))], [.string ((bs [116, 97, 98, 108, 101]))], [.string ((bs [116, 100]))], [.string ((bs [116, 114]))], [.string ((bs [117]))], [.string ((bs [117, 108]))]] [(bs [97]), (bs [98]), (bs [98, 114]), (bs [100, 105, 118]), (bs [101, 109]), (bs [104, 49]), (bs [104, 114]), (bs [105]), (bs [105, 109, 103]), (bs [108, 105]), (bs [112]), (bs [115, 112, 97, 110]), (bs [116, 97, 98, 108, 101]), (bs [116, 100]), (bs [116, 114]), (bs [117]), (bs [117, 108])] := ⟨rfl, ⟨rfl, ⟨rfl, ⟨rfl, ⟨rfl, ⟨rfl, ⟨rfl, ⟨rfl, ⟨rfl, ⟨rfl, ⟨rfl, ⟨rfl, ⟨rfl, ⟨rfl, ⟨rfl, ⟨rfl, ⟨rfl, trivial⟩⟩⟩⟩⟩⟩⟩⟩⟩⟩⟩⟩⟩⟩⟩⟩⟩
 generalize hgrw3 : ([[.string ((bs [97]))], [.string ((bs [98]))], [.string ((bs [98, 114]))], [.string ((bs [100, 105, 118]))], [.string ((bs [101, 109]))], [.string ((bs [104, 49]))], [.string ((bs [104, 114]))], [.string ((bs [105]))], [.string ((bs [105, 109, 103]))], [.string ((bs [108, 105]))], [.string ((bs [112]))], [.string ((bs [115, 112, 97, 110]))], [.string ((bs [116, 97, 98, 108, 101]))], [.string ((bs [116, 100]))], [.string ((bs [116, 114]))], [.string ((bs [117]))], [.string ((bs [117, 108]))]] : List (List Value)) = rw3 at hs hW2; clear hgrw3
 replace hs : St _ _ _ (.row v1 9 1 rw3 :: L) _ _ _ := hs
 refine sy (v := .string (p0)) hs (y_move rfl) ?_; clear hs; (try clear a w); intro a w hs
 obtain ⟨x6, hx7, hm⟩ := ob hm
 refine sy hs (y_callCK (cap := []) rfl has14 rfl (fun w9 hw9 => callsP (Lr := [.row v1 9 1 rw3]) (Lf := L) (perm_at _ 0 rfl) hw9 (fun Lz w9 hw9 => lent0 hw9 (fun f9_0 w9 hle9_0 hRl0 hw9 => (slices_Contains_string_string_ok n (f := f9_0) (a0 := v1) ⟨rw3, hRl0, hW2.le hle9_0⟩ hx7) w0 _ w9 hw9)))) ?_; clear hs; (try clear a w); intro a w hs
 refine sy (v := .bool (x6)) hs (y_assign rfl) ?_; clear hs; (try clear a w); intro a w hs
 refine RL_nil ?_
 refine hK2 _ _ ?_; clear hK2
 refine W_ret ?_
 obtain rfl := Option.some.inj hm
 refine RtV1 hs rfl (rv_t hs rfl) ?_
 exact ⟨rfl, ((hs.subL (.cons _ (.refl _))).weak hle).cw⟩
/-! casement/write.attribute -/
def write_attribute_k1 (p0 : ByteArray) : Option Bool :=
  some (decide (p0 ≠ (bs [])))
def write_attribute_l2 (p0 : ByteArray) : Nat → Nat → Option Bool
  | 0, _ => none
  | k4 + 1, y3 =>
  (bif decide (y3 < p0.size) then (bif (bif (decide (97 ≤ ((Utf8.decode p0 y3).1 : Int))) then (bif (decide (((Utf8.decode p0 y3).1 : Int) ≤ 122)) then false else (bif (decide (0 < (y3 : Int))) then (bif (decide (48 ≤ ((Utf8.decode p0 y3).1 : Int))) then (bif (decide (((Utf8.decode p0 y3).1 : Int) ≤ 57)) then false else (!(decide (((Utf8.decode p0 y3).1 : Int) = 45)))) else (!(decide (((Utf8.decode p0 y3).1 : Int) = 45)))) else true)) else (bif (decide (0 < (y3 : Int))) then (bif (decide (48 ≤ ((Utf8.decode p0 y3).1 : Int))) then (bif (decide (((Utf8.decode p0 y3).1 : Int) ≤ 57)) then false else (!(decide (((Utf8.decode p0 y3).1 : Int) = 45)))) else (!(decide (((Utf8.decode p0 y3).1 : Int) = 45)))) else true)) then some false else
  (write_attribute_l2 p0 k4) (y3 + (Utf8.decode p0 y3).2)) else
  write_attribute_k1 p0)
def write_attribute (n : Nat) (p0 : ByteArray) : Option Bool :=
  write_attribute_l2 p0 n (0 : Nat)
set_option maxRecDepth 20000 in
set_option maxHeartbeats 4000000 in
theorem write_attribute_ok (n : Nat) {f : Fz} {p0 : ByteArray} {res : Bool}  (hm : write_attribute n p0 = some res) : Gives Tryd.prog 19 [.string p0] f (.bool res) := by
 unfold write_attribute at hm
 intro w0 L w hC
 refine enter Tryd.func19 rfl Tryd.ntmps19 (by simp) hC fun a hs => ?_
 have hle := Fz.le.refl f
 refine W_seq fun K1 hK1 => ?_
 refine W_region ?_
 refine sy (v := .bool (false)) hs (y_assign rfl) ?_; clear hs; (try clear a w); intro a w hs
 refine RL_nil ?_
 refine hK1 _ _ ?_; clear hK1
 refine W_seq fun K2 hK2 => ?_
 refine W_seq fun K3 hK3 => ?_
 refine W_region ?_
 refine sy (v := .string (p0)) hs (y_move rfl) ?_; clear hs; (try clear a w); intro a w hs
 refine RL_range hs rfl Tryd.underlying9 ?_; clear hs; (try clear a w); intro b1 a w hs
 replace hs : St _ _ _ (.blk b1 (.stringIter p0 (0 : Nat)) :: L) _ _ _ := hs
 refine RL_nil ?_
 refine hK3 _ _ ?_; clear hK3
 refine W_post (fun a w => write_attribute_k1 p0 = some res ∧ St 36 w0 f (L) [(0, .string (p0))] a w) ?_ ?_
 ·clear hs hm
  rintro a w ⟨hm, hs⟩
  replace hs : St _ _ _ (L) _ _ _ := hs
  unfold write_attribute_k1 at hm
  refine hK2 _ _ ?_; clear hK2
  refine W_seq fun K4 hK4 => ?_
  refine W_region ?_
  refine sy (v := .string (p0)) hs (y_move rfl) ?_; clear hs; (try clear a w); intro a w hs
  refine sy hs (y_sneq rfl rfl) ?_; clear hs; (try clear a w); intro a w hs
  refine sy (v := .bool (decide (p0 ≠ (bs [])))) hs (y_assign rfl) ?_; clear hs; (try clear a w); intro a w hs
  refine RL_nil ?_
  refine hK4 _ _ ?_; clear hK4
  refine W_ret ?_
  obtain rfl := Option.some.inj hm
  refine RtV1 hs rfl (rv_t hs rfl) ?_
  exact ⟨rfl, (hs.weak hle).cw⟩
 ·refine W_block fun Qe5 hB5 hO5 => ?_
  refine W_loop (fun (k : Nat) a w => ∃ (y3 : Nat), write_attribute_l2 p0 k y3 = some res ∧ St 36 w0 f (.blk b1 (.stringIter p0 y3) :: L) [(0, .string (p0)), (6, .pointer (some ⟨b1, 0, none⟩))] a w) (fun k => k) n ⟨(0 : Nat), hm, hs.sub ⟨rfl, rfl, trivial⟩⟩ ?_
  clear hs hm
  intro k
  rintro a w ⟨y3, hm, hs⟩
  replace hs : St _ _ _ (.blk b1 (.stringIter p0 y3) :: L) _ _ _ := hs
  intro K6 hK6
  cases k with
  | zero => simp [write_attribute_l2] at hm
  | succ k4 =>
   rw [write_attribute_l2] at hm
   refine W_seq fun K7 hK7 => ?_
   refine W_region ?_
   refine RL_next (i := 0) hs rfl rfl (fun hg5 => ?_) (fun hg5 => ?_)
   ·replace hm := oc_t (decide_eq_true hg5) hm; clear hs; (try clear a w); intro a w hs
    replace hs : St _ _ _ (.blk b1 (.stringIter p0 (y3 + (Utf8.decode p0 y3).2)) :: L) _ _ _ := hs
    refine sy (v := .bool (true)) hs (y_extract rfl rfl) ?_; clear hs; (try clear a w); intro a w hs
    refine RL_nil ?_
    refine hK7 _ _ ?_; clear hK7
    refine W_seq fun K8 hK8 => ?_
    refine W_condT hs rfl ?_
    refine W_skip ?_
    refine hK8 _ _ ?_; clear hK8
    refine W_block fun Qe9 hB9 hO9 => ?_
    refine W_seq fun K10 hK10 => ?_
    refine W_region ?_
    refine sy (v := .int .i64 ((y3 : Int))) hs (y_extract rfl rfl) ?_; clear hs; (try clear a w); intro a w hs
    refine sy (v := .int .i32 (((Utf8.decode p0 y3).1 : Int))) hs (y_extract rfl rfl) ?_; clear hs; (try clear a w); intro a w hs
    refine sy (v := .int .i64 ((y3 : Int))) hs (y_assign rfl) ?_; clear hs; (try clear a w); intro a w hs
    refine sy (v := .int .i32 (((Utf8.decode p0 y3).1 : Int))) hs (y_assign rfl) ?_; clear hs; (try clear a w); intro a w hs
    refine RL_nil ?_
    refine hK10 _ _ ?_; clear hK10
    refine W_seq fun K11 hK11 => ?_
    refine W_post (fun a w => St 36 w0 f (.blk b1 (.stringIter p0 (y3 + (Utf8.decode p0 y3).2)) :: L) [(0, .string (p0)), (6, .pointer (some ⟨b1, 0, none⟩)), (33, .bool ((bif (decide (97 ≤ ((Utf8.decode p0 y3).1 : Int))) then (bif (decide (((Utf8.decode p0 y3).1 : Int) ≤ 122)) then false else (bif (decide (0 < (y3 : Int))) then (bif (decide (48 ≤ ((Utf8.decode p0 y3).1 : Int))) then (bif (decide (((Utf8.decode p0 y3).1 : Int) ≤ 57)) then false else (!(decide (((Utf8.decode p0 y3).1 : Int) = 45)))) else (!(decide (((Utf8.decode p0 y3).1 : Int) = 45)))) else true)) else (bif (decide (0 < (y3 : Int))) then (bif (decide (48 ≤ ((Utf8.decode p0 y3).1 : Int))) then (bif (decide (((Utf8.decode p0 y3).1 : Int) ≤ 57)) then false else (!(decide (((Utf8.decode p0 y3).1 : Int) = 45)))) else (!(decide (((Utf8.decode p0 y3).1 : Int) = 45)))) else true))))] a w) ?_ ?_
    ·clear hs; intro a w hs
     refine hK11 _ _ ?_; clear hK11
     refine W_cond hs rfl (fun hg6 => ?_) (fun hg6 => ?_)
     ·replace hm := oc_t hg6 hm
      refine W_seq fun K12 hK12 => ?_
      refine W_region ?_
      refine sy (v := .bool (false)) hs (y_assign rfl) ?_; clear hs; (try clear a w); intro a w hs
      refine RL_nil ?_
      refine hK12 _ _ ?_; clear hK12
      refine W_ret ?_
      obtain rfl := Option.some.inj hm
      refine RtV1 hs rfl (rv_t hs rfl) ?_
      exact ⟨rfl, ((hs.subL (.cons _ (.refl _))).weak hle).cw⟩
     ·replace hm := oc_f hg6 hm
      refine W_skip ?_
      exact hK6 k4 _ _ (Nat.lt_succ_self _) ⟨(y3 + (Utf8.decode p0 y3).2), hm, hs.sub ⟨rfl, rfl, trivial⟩⟩
    ·refine W_region ?_
     refine sy (v := .int .i32 (((Utf8.decode p0 y3).1 : Int))) hs (y_move rfl) ?_; clear hs; (try clear a w); intro a w hs
     refine sy hs (y_geq rfl rfl) ?_; clear hs; (try clear a w); intro a w hs
     refine sy (v := .bool (decide (97 ≤ ((Utf8.decode p0 y3).1 : Int)))) hs (y_move rfl) ?_; clear hs; (try clear a w); intro a w hs
     refine St.split hs (t := 13) rfl (fun hg7 hq => ?_) (fun hg7 hq => ?_)
     ·clear hs; have hs := hq; clear hq
      refine syg (v := .int .i32 (((Utf8.decode p0 y3).1 : Int))) hs (y_move rfl) ?_; clear hs; (try clear a w); intro a w hs
      refine syg hs (y_leq rfl rfl) ?_; clear hs; (try clear a w); intro a w hs
      refine sy (v := .bool (decide (((Utf8.decode p0 y3).1 : Int) ≤ 122))) hs (y_pick rfl rfl) ?_; clear hs; (try clear a w); intro a w hs
      refine sy (v := .bool (decide (((Utf8.decode p0 y3).1 : Int) ≤ 122))) hs (y_move rfl) ?_; clear hs; (try clear a w); intro a w hs
      refine St.split hs (t := 17) rfl (fun hg8 hq => ?_) (fun hg8 hq => ?_)
      ·clear hs; have hs := hq; clear hq
       refine sno hs ?_; clear hs; (try clear a w); intro a w hs
       refine sno hs ?_; clear hs; (try clear a w); intro a w hs
       refine sno hs ?_; clear hs; (try clear a w); intro a w hs
       refine sun hs ?_; clear hs; (try clear a w); intro a w hs
       refine sun hs ?_; clear hs; (try clear a w); intro a w hs
       refine sun hs ?_; clear hs; (try clear a w); intro a w hs
       refine sun hs ?_; clear hs; (try clear a w); intro a w hs
       refine sun hs ?_; clear hs; (try clear a w); intro a w hs
       refine sun hs ?_; clear hs; (try clear a w); intro a w hs
       refine sun hs ?_; clear hs; (try clear a w); intro a w hs
       refine sun hs ?_; clear hs; (try clear a w); intro a w hs
       refine sun hs ?_; clear hs; (try clear a w); intro a w hs
       refine sun hs ?_; clear hs; (try clear a w); intro a w hs
       refine sno hs ?_; clear hs; (try clear a w); intro a w hs
       refine sy (v := .bool (true)) hs (y_pick rfl rfl) ?_; clear hs; (try clear a w); intro a w hs
       refine sy (v := .bool (false)) hs (y_not (b := true) rfl) ?_; clear hs; (try clear a w); intro a w hs
       refine RL_nil ?_
       exact hs.sub ⟨rfl, rfl, (lkB (((bif_t hg7).trans ((bif_t hg8).trans rfl))) rfl), trivial⟩
      ·clear hs; have hs := hq; clear hq
       refine syg (v := .int .i64 ((y3 : Int))) hs (y_move rfl) ?_; clear hs; (try clear a w); intro a w hs
       refine syg hs (y_gtr rfl rfl) ?_; clear hs; (try clear a w); intro a w hs
       refine syg (v := .bool (decide (0 < (y3 : Int)))) hs (y_move rfl) ?_; clear hs; (try clear a w); intro a w hs
       refine St.split hs (t := 20) rfl (fun hg9 hq => ?_) (fun hg9 hq => ?_)
       ·clear hs; have hs := hq; clear hq
        refine syg (v := .int .i32 (((Utf8.decode p0 y3).1 : Int))) hs (y_move rfl) ?_; clear hs; (try clear a w); intro a w hs
        refine syg hs (y_geq rfl rfl) ?_; clear hs; (try clear a w); intro a w hs
        refine syg (v := .bool (decide (48 ≤ ((Utf8.decode p0 y3).1 : Int)))) hs (y_move rfl) ?_; clear hs; (try clear a w); intro a w hs
        refine St.split hs (t := 23) rfl (fun hg10 hq => ?_) (fun hg10 hq => ?_)
        ·clear hs; have hs := hq; clear hq
         refine syg (v := .int .i32 (((Utf8.decode p0 y3).1 : Int))) hs (y_move rfl) ?_; clear hs; (try clear a w); intro a w hs
         refine syg hs (y_leq rfl rfl) ?_; clear hs; (try clear a w); intro a w hs
         refine syg (v := .bool (decide (((Utf8.decode p0 y3).1 : Int) ≤ 57))) hs (y_pick rfl rfl) ?_; clear hs; (try clear a w); intro a w hs
         refine syg (v := .bool (decide (((Utf8.decode p0 y3).1 : Int) ≤ 57))) hs (y_move rfl) ?_; clear hs; (try clear a w); intro a w hs
         refine St.split hs (t := 27) rfl (fun hg11 hq => ?_) (fun hg11 hq => ?_)
         ·clear hs; have hs := hq; clear hq
          refine sno hs ?_; clear hs; (try clear a w); intro a w hs
          refine sno hs ?_; clear hs; (try clear a w); intro a w hs
          refine syg (v := .bool (true)) hs (y_pick rfl rfl) ?_; clear hs; (try clear a w); intro a w hs
          refine syg (v := .bool (true)) hs (y_pick rfl rfl) ?_; clear hs; (try clear a w); intro a w hs
          refine sy (v := .bool (true)) hs (y_pick rfl rfl) ?_; clear hs; (try clear a w); intro a w hs
          refine sy (v := .bool (false)) hs (y_not (b := true) rfl) ?_; clear hs; (try clear a w); intro a w hs
          refine RL_nil ?_
          exact hs.sub ⟨rfl, rfl, (lkB (((bif_t hg7).trans ((bif_f hg8).trans ((bif_t hg9).trans ((bif_t hg10).trans ((bif_t hg11).trans rfl)))))) rfl), trivial⟩
         ·clear hs; have hs := hq; clear hq
          refine syg (v := .int .i32 (((Utf8.decode p0 y3).1 : Int))) hs (y_move rfl) ?_; clear hs; (try clear a w); intro a w hs
          refine syg hs (y_eql rfl rfl) ?_; clear hs; (try clear a w); intro a w hs
          refine syg (v := .bool (decide (((Utf8.decode p0 y3).1 : Int) = 45))) hs (y_pick rfl rfl) ?_; clear hs; (try clear a w); intro a w hs
          refine syg (v := .bool (decide (((Utf8.decode p0 y3).1 : Int) = 45))) hs (y_pick rfl rfl) ?_; clear hs; (try clear a w); intro a w hs
          refine sy (v := .bool (decide (((Utf8.decode p0 y3).1 : Int) = 45))) hs (y_pick rfl rfl) ?_; clear hs; (try clear a w); intro a w hs
          refine sy (v := .bool ((!(decide (((Utf8.decode p0 y3).1 : Int) = 45))))) hs (y_not rfl) ?_; clear hs; (try clear a w); intro a w hs
          refine RL_nil ?_
          exact hs.sub ⟨rfl, rfl, (lkB (((bif_t hg7).trans ((bif_f hg8).trans ((bif_t hg9).trans ((bif_t hg10).trans ((bif_f hg11).trans rfl)))))) rfl), trivial⟩
        ·clear hs; have hs := hq; clear hq
         refine sno hs ?_; clear hs; (try clear a w); intro a w hs
         refine sno hs ?_; clear hs; (try clear a w); intro a w hs
         refine syg (v := .bool (false)) hs (y_pick rfl rfl) ?_; clear hs; (try clear a w); intro a w hs
         refine syg (v := .bool (false)) hs (y_move rfl) ?_; clear hs; (try clear a w); intro a w hs
         refine syg (v := .int .i32 (((Utf8.decode p0 y3).1 : Int))) hs (y_move rfl) ?_; clear hs; (try clear a w); intro a w hs
         refine syg hs (y_eql rfl rfl) ?_; clear hs; (try clear a w); intro a w hs
         refine syg (v := .bool (decide (((Utf8.decode p0 y3).1 : Int) = 45))) hs (y_pick rfl rfl) ?_; clear hs; (try clear a w); intro a w hs
         refine syg (v := .bool (decide (((Utf8.decode p0 y3).1 : Int) = 45))) hs (y_pick rfl rfl) ?_; clear hs; (try clear a w); intro a w hs
         refine sy (v := .bool (decide (((Utf8.decode p0 y3).1 : Int) = 45))) hs (y_pick rfl rfl) ?_; clear hs; (try clear a w); intro a w hs
         refine sy (v := .bool ((!(decide (((Utf8.decode p0 y3).1 : Int) = 45))))) hs (y_not rfl) ?_; clear hs; (try clear a w); intro a w hs
         refine RL_nil ?_
         exact hs.sub ⟨rfl, rfl, (lkB (((bif_t hg7).trans ((bif_f hg8).trans ((bif_t hg9).trans ((bif_f hg10).trans rfl))))) rfl), trivial⟩
       ·clear hs; have hs := hq; clear hq
        refine sno hs ?_; clear hs; (try clear a w); intro a w hs
        refine sno hs ?_; clear hs; (try clear a w); intro a w hs
        refine sno hs ?_; clear hs; (try clear a w); intro a w hs
        refine sun hs ?_; clear hs; (try clear a w); intro a w hs
        refine sun hs ?_; clear hs; (try clear a w); intro a w hs
        refine sno hs ?_; clear hs; (try clear a w); intro a w hs
        refine sno hs ?_; clear hs; (try clear a w); intro a w hs
        refine sun hs ?_; clear hs; (try clear a w); intro a w hs
        refine sun hs ?_; clear hs; (try clear a w); intro a w hs
        refine sno hs ?_; clear hs; (try clear a w); intro a w hs
        refine syg (v := .bool (false)) hs (y_pick rfl rfl) ?_; clear hs; (try clear a w); intro a w hs
        refine sy (v := .bool (false)) hs (y_pick rfl rfl) ?_; clear hs; (try clear a w); intro a w hs
        refine sy (v := .bool (true)) hs (y_not (b := false) rfl) ?_; clear hs; (try clear a w); intro a w hs
        refine RL_nil ?_
        exact hs.sub ⟨rfl, rfl, (lkB (((bif_t hg7).trans ((bif_f hg8).trans ((bif_f hg9).trans rfl)))) rfl), trivial⟩
     ·clear hs; have hs := hq; clear hq
      refine sno hs ?_; clear hs; (try clear a w); intro a w hs
      refine sno hs ?_; clear hs; (try clear a w); intro a w hs
      refine sy (v := .bool (false)) hs (y_pick rfl rfl) ?_; clear hs; (try clear a w); intro a w hs
      refine sy (v := .bool (false)) hs (y_move rfl) ?_; clear hs; (try clear a w); intro a w hs
      refine syg (v := .int .i64 ((y3 : Int))) hs (y_move rfl) ?_; clear hs; (try clear a w); intro a w hs
      refine syg hs (y_gtr rfl rfl) ?_; clear hs; (try clear a w); intro a w hs
      refine syg (v := .bool (decide (0 < (y3 : Int)))) hs (y_move rfl) ?_; clear hs; (try clear a w); intro a w hs
      refine St.split hs (t := 20) rfl (fun hg12 hq => ?_) (fun hg12 hq => ?_)
      ·clear hs; have hs := hq; clear hq
       refine syg (v := .int .i32 (((Utf8.decode p0 y3).1 : Int))) hs (y_move rfl) ?_; clear hs; (try clear a w); intro a w hs
       refine syg hs (y_geq rfl rfl) ?_; clear hs; (try clear a w); intro a w hs
       refine syg (v := .bool (decide (48 ≤ ((Utf8.decode p0 y3).1 : Int)))) hs (y_move rfl) ?_; clear hs; (try clear a w); intro a w hs
       refine St.split hs (t := 23) rfl (fun hg13 hq => ?_) (fun hg13 hq => ?_)
       ·clear hs; have hs := hq; clear hq
        refine syg (v := .int .i32 (((Utf8.decode p0 y3).1 : Int))) hs (y_move rfl) ?_; clear hs; (try clear a w); intro a w hs
        refine syg hs (y_leq rfl rfl) ?_; clear hs; (try clear a w); intro a w hs
        refine syg (v := .bool (decide (((Utf8.decode p0 y3).1 : Int) ≤ 57))) hs (y_pick rfl rfl) ?_; clear hs; (try clear a w); intro a w hs
        refine syg (v := .bool (decide (((Utf8.decode p0 y3).1 : Int) ≤ 57))) hs (y_move rfl) ?_; clear hs; (try clear a w); intro a w hs
        refine St.split hs (t := 27) rfl (fun hg14 hq => ?_) (fun hg14 hq => ?_)
        ·clear hs; have hs := hq; clear hq
         refine sno hs ?_; clear hs; (try clear a w); intro a w hs
         refine sno hs ?_; clear hs; (try clear a w); intro a w hs
         refine syg (v := .bool (true)) hs (y_pick rfl rfl) ?_; clear hs; (try clear a w); intro a w hs
         refine syg (v := .bool (true)) hs (y_pick rfl rfl) ?_; clear hs; (try clear a w); intro a w hs
         refine sy (v := .bool (true)) hs (y_pick rfl rfl) ?_; clear hs; (try clear a w); intro a w hs
         refine sy (v := .bool (false)) hs (y_not (b := true) rfl) ?_; clear hs; (try clear a w); intro a w hs
         refine RL_nil ?_
         exact hs.sub ⟨rfl, rfl, (lkB (((bif_f hg7).trans ((bif_t hg12).trans ((bif_t hg13).trans ((bif_t hg14).trans rfl))))) rfl), trivial⟩
        ·clear hs; have hs := hq; clear hq
         refine syg (v := .int .i32 (((Utf8.decode p0 y3).1 : Int))) hs (y_move rfl) ?_; clear hs; (try clear a w); intro a w hs
         refine syg hs (y_eql rfl rfl) ?_; clear hs; (try clear a w); intro a w hs
         refine syg (v := .bool (decide (((Utf8.decode p0 y3).1 : Int) = 45))) hs (y_pick rfl rfl) ?_; clear hs; (try clear a w); intro a w hs
         refine syg (v := .bool (decide (((Utf8.decode p0 y3).1 : Int) = 45))) hs (y_pick rfl rfl) ?_; clear hs; (try clear a w); intro a w hs
         refine sy (v := .bool (decide (((Utf8.decode p0 y3).1 : Int) = 45))) hs (y_pick rfl rfl) ?_; clear hs; (try clear a w); intro a w hs
         refine sy (v := .bool ((!(decide (((Utf8.decode p0 y3).1 : Int) = 45))))) hs (y_not rfl) ?_; clear hs; (try clear a w); intro a w hs
         refine RL_nil ?_
         exact hs.sub ⟨rfl, rfl, (lkB (((bif_f hg7).trans ((bif_t hg12).trans ((bif_t hg13).trans ((bif_f hg14).trans rfl))))) rfl), trivial⟩
       ·clear hs; have hs := hq; clear hq
        refine sno hs ?_; clear hs; (try clear a w); intro a w hs
        refine sno hs ?_; clear hs; (try clear a w); intro a w hs
        refine syg (v := .bool (false)) hs (y_pick rfl rfl) ?_; clear hs; (try clear a w); intro a w hs
        refine syg (v := .bool (false)) hs (y_move rfl) ?_; clear hs; (try clear a w); intro a w hs
        refine syg (v := .int .i32 (((Utf8.decode p0 y3).1 : Int))) hs (y_move rfl) ?_; clear hs; (try clear a w); intro a w hs
        refine syg hs (y_eql rfl rfl) ?_; clear hs; (try clear a w); intro a w hs
        refine syg (v := .bool (decide (((Utf8.decode p0 y3).1 : Int) = 45))) hs (y_pick rfl rfl) ?_; clear hs; (try clear a w); intro a w hs
        refine syg (v := .bool (decide (((Utf8.decode p0 y3).1 : Int) = 45))) hs (y_pick rfl rfl) ?_; clear hs; (try clear a w); intro a w hs
        refine sy (v := .bool (decide (((Utf8.decode p0 y3).1 : Int) = 45))) hs (y_pick rfl rfl) ?_; clear hs; (try clear a w); intro a w hs
        refine sy (v := .bool ((!(decide (((Utf8.decode p0 y3).1 : Int) = 45))))) hs (y_not rfl) ?_; clear hs; (try clear a w); intro a w hs
        refine RL_nil ?_
        exact hs.sub ⟨rfl, rfl, (lkB (((bif_f hg7).trans ((bif_t hg12).trans ((bif_f hg13).trans rfl)))) rfl), trivial⟩
      ·clear hs; have hs := hq; clear hq
       refine sno hs ?_; clear hs; (try clear a w); intro a w hs
       refine sno hs ?_; clear hs; (try clear a w); intro a w hs
       refine sno hs ?_; clear hs; (try clear a w); intro a w hs
       refine sun hs ?_; clear hs; (try clear a w); intro a w hs
       refine sun hs ?_; clear hs; (try clear a w); intro a w hs
       refine sno hs ?_; clear hs; (try clear a w); intro a w hs
       refine sno hs ?_; clear hs; (try clear a w); intro a w hs
       refine sun hs ?_; clear hs; (try clear a w); intro a w hs
       refine sun hs ?_; clear hs; (try clear a w); intro a w hs
       refine sno hs ?_; clear hs; (try clear a w); intro a w hs
       refine syg (v := .bool (false)) hs (y_pick rfl rfl) ?_; clear hs; (try clear a w); intro a w hs
       refine sy (v := .bool (false)) hs (y_pick rfl rfl) ?_; clear hs; (try clear a w); intro a w hs
       refine sy (v := .bool (true)) hs (y_not (b := false) rfl) ?_; clear hs; (try clear a w); intro a w hs
       refine RL_nil ?_
       exact hs.sub ⟨rfl, rfl, (lkB (((bif_f hg7).trans ((bif_f hg12).trans rfl))) rfl), trivial⟩
   ·replace hm := oc_f (decide_eq_false (Nat.not_lt.2 hg5)) hm; clear hs; (try clear a w); intro a w hs
    refine sy (v := .bool (false)) hs (y_extract rfl rfl) ?_; clear hs; (try clear a w); intro a w hs
    refine RL_nil ?_
    refine hK7 _ _ ?_; clear hK7
    refine W_seq fun K13 hK13 => ?_
    refine W_condF hs rfl ?_
    refine W_exit ?_
    refine hB5 _ _ ?_
    exact ⟨hm, hs.subs ⟨rfl, trivial⟩ (.cons _ (.refl _))⟩
end Go.Proofs.YtklcdfnhdljkjaaDoor
