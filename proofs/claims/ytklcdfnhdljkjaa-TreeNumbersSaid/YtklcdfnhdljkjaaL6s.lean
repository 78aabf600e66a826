/-
  Walks and laws of this seat.
-/
import Derived.Test.YtklcdfnhdljkjaaBasg
import Derived.Test.YtklcdfnhdljkjaaY6
import Derived.Test.YtklcdfnhdljkjaaRows
namespace Go.Proofs.Ytklcdfnhdljkjaa
set_option linter.unusedVariables false
set_option linter.unusedSimpArgs false
set_option maxHeartbeats 4000000
set_option maxRecDepth 100000
open Go.RowKit Go.Sl
def zeo : Option Int :=
  some (-1)
def zb3 (p0 : (List ByteArray)) (p1 : ByteArray) : Nat → Int → Option Int
  | 0, _ => none
  | k6 + 1, y5 =>
  (bif (decide (y5 < (p0.length : Int))) then (geti p0 y5).bind fun x8 =>
  (bif (decide (p1 = x8)) then some y5 else
  (zb3 p0 p1 k6) (w64 (y5 + 1))) else
  zeo)
def ze3 (n : Nat) (p0 : (List ByteArray)) (p1 : ByteArray) : Option Int :=
  zb3 p0 p1 n 0
theorem zj9 (n : Nat) {f : Fz} {p0 : (List ByteArray)} {a0 : Value} {p1 : ByteArray} {res : Int} (h0 : RS tStr f a0 p0) (hm : ze3 n p0 p1 = some res) : Gives Try.prog 73 [a0, .string p1] f (.int .i64 res) := by
 unfold ze3 at hm
 intro w0 L w hC
 obtain ⟨rw1, hR2, hW3⟩ := h0
 refine enter Try.func73 rfl Try.ntmps73 (by simp) hC fun a hs => ?_
 have hle := Fz.le.refl f
 refine Wq fun hK1 => sA (v := .int .i64 (0)) hs rfl fun hs => za0 <| hK1 <| Ws fun hK2 => Wq fun hK3 => sM (v := a0) hs rfl fun hs => s1 hs (zb7 hR2 hW3 rfl Try.underlying78) fun hs => ?_
 refine sM (v := .int .i64 (0)) hs rfl fun hs => za0 <| hK3 ?_
 refine zai (fun a w => zeo = some res ∧ St 19 w0 f (L) [] a w) ?_ ?_
 ·clear hs hm
  rintro a w ⟨hm, hs⟩
  unfold zeo at hm
  refine hK2 <| Wq fun hK4 => sA (v := .int .i64 ((-1))) hs rfl fun hs => za0 <| hK4 <| zau ?_
  obtain rfl := Option.some.inj hm
  refine RtV1 hs rfl (rv_t hs rfl) ?_
  exact ⟨rfl, (hs.weak hle).cw⟩
 refine zam fun Qe5 hB5 hO5 => zcw (fun (k : Nat) a w => ∃ (y5 : Int), zb3 p0 p1 k y5 = some res ∧ St 19 w0 f (L) [(0, a0), (1, .string (p1)), (7, .int .i64 ((p0.length : Int))), (8, .int .i64 (y5))] a w) (fun k => k) n ⟨0, hm, hs.sub ⟨rfl, rfl, rfl, rfl, trivial⟩⟩ ?_
 clear hs hm
 intro k
 rintro a w ⟨y5, hm, hs⟩
 intro K6 hK6
 cases k with
 | zero => simp [zb3] at hm
 | succ k6 =>
  rw [zb3] at hm
  refine Wq fun hK7 => s1 hs (zg7 rfl rfl) fun hs => za0 <| hK7 <| Ws fun hK8 => ?_
  refine zaf hs rfl (fun hg7 => ?_) (fun hg7 => ?_)
  ·replace hm := oc_t hg7 hm
   refine zah <| hK8 <| Ws fun hK9 => zam fun Qe10 hB10 hO10 => Wq fun hK11 => sM (v := .int .i64 (y5)) hs rfl fun hs => sA (v := .int .i64 (y5)) hs rfl fun hs => za0 <| hK11 ?_
   refine Wq fun hK12 => sM (v := .string (p1)) hs rfl fun hs => sM (v := a0) hs rfl fun hs => sM (v := .int .i64 (y5)) hs rfl fun hs => ?_
   obtain ⟨x8, hx9, hm⟩ := ob hm
   obtain ⟨r10, hr11, hq12, hi13, hb14⟩ := hW3.geti hx9
   obtain rfl : _ = ([.string (x8)] : List Value) := hq12
   refine s1 hs (za8 hR2 rfl rfl hi13 hb14 Try.underlying78 ti9) fun hs => s1 (v := .string (x8)) hs (zaw (i := y5.toNat) (j := 0) hR2.up rfl hr11 rfl Try.underlying9 rfl) fun hs => s1 hs (zd9 rfl rfl) fun hs => za0 <| hK12 ?_
   refine zaf hs rfl (fun hg15 => ?_) (fun hg15 => ?_)
   ·replace hm := oc_t hg15 hm
    refine Wq fun hK13 => sM (v := .int .i64 (y5)) hs rfl fun hs => sA (v := .int .i64 (y5)) hs rfl fun hs => za0 <| hK13 <| zau ?_
    obtain rfl := Option.some.inj hm
    refine RtV1 hs rfl (rv_t hs rfl) ?_
    exact ⟨rfl, (hs.weak hle).cw⟩
   replace hm := oc_f hg15 hm
   refine zah <| hK9 <| za7 <| s1 hs (zeq rfl rfl rfl) fun hs => sM (v := .int .i64 ((w64 (y5 + 1)))) hs rfl fun hs => za0 ?_
   exact hK6 k6 _ _ (Nat.lt_succ_self _) ⟨(w64 (y5 + 1)), hm, hs.sub ⟨rfl, rfl, rfl, rfl, trivial⟩⟩
  replace hm := oc_f hg7 hm
  refine zc9 <| hB5 _ _ ?_
  exact ⟨hm, hs.sub trivial⟩
def zd8 (n : Nat) (p0 : (List ByteArray)) (p1 : ByteArray) : Option Bool :=
  (ze3 n p0 p1).bind fun x5 =>
  some (decide (0 ≤ x5))
theorem zip (n : Nat) {f : Fz} {p0 : (List ByteArray)} {a0 : Value} {p1 : ByteArray} {res : Bool} (h0 : RS tStr f a0 p0) (hm : zd8 n p0 p1 = some res) : Gives Try.prog 38 [a0, .string p1] f (.bool res) := by
 unfold zd8 at hm
 intro w0 L w hC
 obtain ⟨rw1, hR2, hW3⟩ := h0
 refine enter Try.func38 rfl Try.ntmps38 (by simp) hC fun a hs => ?_
 have hle := Fz.le.refl f
 refine Wq fun hK1 => sA (v := .bool (false)) hs rfl fun hs => za0 <| hK1 <| Wq fun hK2 => sM (v := a0) hs rfl fun hs => sM (v := .string (p1)) hs rfl fun hs => ?_
 obtain ⟨x5, hx6, hm⟩ := ob hm
 refine s1 hs (zbd rfl has73 rfl (zj9 n (f := f) (a0 := a0) ⟨rw1, hR2, hW3⟩ hx6)) fun hs => s1 hs (zmc rfl rfl) fun hs => sA (v := .bool (decide (0 ≤ x5))) hs rfl fun hs => za0 <| hK2 <| zau ?_
 obtain rfl := Option.some.inj hm
 refine RtV1 hs rfl (rv_t hs rfl) ?_
 exact ⟨rfl, (hs.weak hle).cw⟩
def zjr (n : Nat) (p0 : ByteArray) (p1 : (List ByteArray)) : Option Bool :=
  (zd8 n p1 p0).bind fun x5 =>
  some x5
theorem ziv (n : Nat) {f : Fz} {p0 : ByteArray} {p1 : (List ByteArray)} {a1 : Value} {res : Bool} (h1 : RS tStr f a1 p1) (hm : zjr n p0 p1 = some res) : Gives Try.prog 16 [.string p0, a1] f (.bool res) := by
 unfold zjr at hm
 intro w0 L w hC
 obtain ⟨rw1, hR2, hW3⟩ := h1
 refine enter Try.func16 rfl Try.ntmps16 (by simp) hC fun a hs => ?_
 have hle := Fz.le.refl f
 refine Wq fun hK1 => sA (v := .bool (false)) hs rfl fun hs => za0 <| hK1 <| Wq fun hK2 => sM (v := a1) hs rfl fun hs => sM (v := .string (p0)) hs rfl fun hs => ?_
 obtain ⟨x5, hx6, hm⟩ := ob hm
 refine s1 hs (zbd rfl has38 rfl (zip n (f := f) (a0 := a1) ⟨rw1, hR2, hW3⟩ hx6)) fun hs => sA (v := .bool (x5)) hs rfl fun hs => za0 <| hK2 <| zau ?_
 obtain rfl := Option.some.inj hm
 refine RtV1 hs rfl (rv_t hs rfl) ?_
 exact ⟨rfl, (hs.weak hle).cw⟩
def zh2 (n : Nat) (p0 : ByteArray) : Option Bool :=
  (zjr n p0 [(bs [98, 114]), (bs [104, 114]), (bs [105, 109, 103]), (bs [105, 110, 112, 117, 116]), (bs [108, 105, 110, 107]), (bs [109, 101, 116, 97])]).bind fun x6 =>
  some x6
theorem zh1 (n : Nat) {f : Fz} {p0 : ByteArray} {res : Bool}  (hm : zh2 n p0 = some res) : Gives Try.prog 8 [.string p0] f (.bool res) := by
 unfold zh2 at hm
 intro w0 L w hC
 refine enter Try.func8 rfl Try.ntmps8 (by simp) hC fun a hs => ?_
 have hle := Fz.le.refl f
 refine Wq fun hK1 => sA (v := .bool (false)) hs rfl fun hs => za0 <| hK1 <| Wq fun hK2 => sM (v := .string (p0)) hs rfl fun hs => ?_
 refine zpy (parts := [(0, .const (.string (bs [98, 114]))), (1, .const (.string (bs [104, 114]))), (2, .const (.string (bs [105, 109, 103]))), (3, .const (.string (bs [105, 110, 112, 117, 116]))), (4, .const (.string (bs [108, 105, 110, 107]))), (5, .const (.string (bs [109, 101, 116, 97])))]) (us := [.string ((bs [98, 114])), .string ((bs [104, 114])), .string ((bs [105, 109, 103])), .string ((bs [105, 110, 112, 117, 116])), .string ((bs [108, 105, 110, 107])), .string ((bs [109, 101, 116, 97]))]) (rows := [[.string ((bs [98, 114]))], [.string ((bs [104, 114]))], [.string ((bs [105, 109, 103]))], [.string ((bs [105, 110, 112, 117, 116]))], [.string ((bs [108, 105, 110, 107]))], [.string ((bs [109, 101, 116, 97]))]]) hs rfl Try.underlying78 ti9 (by decide) rfl rfl (by intro r hr; simp only [List.mem_cons, List.mem_nil_iff, or_false] at hr; rcases hr with rfl | rfl | rfl | rfl | rfl | rfl; exact AllC.row ⟨rfl, trivial⟩ rfl; exact AllC.row ⟨rfl, trivial⟩ rfl; exact AllC.row ⟨rfl, trivial⟩ rfl; exact AllC.row ⟨rfl, trivial⟩ rfl; exact AllC.row ⟨rfl, trivial⟩ rfl; exact AllC.row ⟨rfl, trivial⟩ rfl) fun v1 _ _ hs => ?_
 have hW2 : RW tStr f [[.string ((bs [98, 114]))], [.string ((bs [104, 114]))], [.string ((bs [105, 109, 103]))], [.string ((bs [105, 110, 112, 117, 116]))], [.string ((bs [108, 105, 110, 107]))], [.string ((bs [109, 101, 116, 97]))]] [(bs [98, 114]), (bs [104, 114]), (bs [105, 109, 103]), (bs [105, 110, 112, 117, 116]), (bs [108, 105, 110, 107]), (bs [109, 101, 116, 97])] := ⟨rfl, ⟨rfl, ⟨rfl, ⟨rfl, ⟨rfl, ⟨rfl, trivial⟩⟩⟩⟩⟩⟩
 generalize hgrw3 : ([[.string ((bs [98, 114]))], [.string ((bs [104, 114]))], [.string ((bs [105, 109, 103]))], [.string ((bs [105, 110, 112, 117, 116]))], [.string ((bs [108, 105, 110, 107]))], [.string ((bs [109, 101, 116, 97]))]] : List (List Value)) = rw3 at hs hW2; clear hgrw3
 obtain ⟨x6, hx7, hm⟩ := ob hm
 refine sy hs (zeh (cap := []) rfl has16 rfl (fun w9 hw9 => callsP (Lr := [.row v1 9 1 rw3]) (Lf := L) (zag _ 0 rfl) hw9 (fun Lz w9 hw9 => lent0 hw9 (fun f9_0 w9 hle9_0 hRl0 hw9 => (ziv n (f := f9_0) (a1 := v1) ⟨rw3, hRl0, hW2.le hle9_0⟩ hx7) w0 _ w9 hw9)))) fun _ _ hs => sA (v := .bool (x6)) hs rfl fun hs => za0 <| hK2 <| zau ?_
 obtain rfl := Option.some.inj hm
 refine RtV1 hs rfl (rv_t hs rfl) ?_
 exact ⟨rfl, ((hs.subL (.cons _ (.refl _))).weak hle).cw⟩
def zkg (n : Nat) (p0 : ByteArray) : Option Bool :=
  (zjr n p0 [(bs [100, 105, 118]), (bs [112]), (bs [117, 108]), (bs [108, 105]), (bs [104, 49]), (bs [116, 97, 98, 108, 101])]).bind fun x6 =>
  some x6
theorem zr6 (n : Nat) {f : Fz} {p0 : ByteArray} {res : Bool}  (hm : zkg n p0 = some res) : Gives Try.prog 48 [.string p0] f (.bool res) := by
 unfold zkg at hm
 intro w0 L w hC
 refine enter Try.func48 rfl Try.ntmps48 (by simp) hC fun a hs => ?_
 have hle := Fz.le.refl f
 refine Wq fun hK1 => sA (v := .bool (false)) hs rfl fun hs => za0 <| hK1 <| Wq fun hK2 => sM (v := .string (p0)) hs rfl fun hs => ?_
 refine zpy (parts := [(0, .const (.string (bs [100, 105, 118]))), (1, .const (.string (bs [112]))), (2, .const (.string (bs [117, 108]))), (3, .const (.string (bs [108, 105]))), (4, .const (.string (bs [104, 49]))), (5, .const (.string (bs [116, 97, 98, 108, 101])))]) (us := [.string ((bs [100, 105, 118])), .string ((bs [112])), .string ((bs [117, 108])), .string ((bs [108, 105])), .string ((bs [104, 49])), .string ((bs [116, 97, 98, 108, 101]))]) (rows := [[.string ((bs [100, 105, 118]))], [.string ((bs [112]))], [.string ((bs [117, 108]))], [.string ((bs [108, 105]))], [.string ((bs [104, 49]))], [.string ((bs [116, 97, 98, 108, 101]))]]) hs rfl Try.underlying78 ti9 (by decide) rfl rfl (by intro r hr; simp only [List.mem_cons, List.mem_nil_iff, or_false] at hr; rcases hr with rfl | rfl | rfl | rfl | rfl | rfl; exact AllC.row ⟨rfl, trivial⟩ rfl; exact AllC.row ⟨rfl, trivial⟩ rfl; exact AllC.row ⟨rfl, trivial⟩ rfl; exact AllC.row ⟨rfl, trivial⟩ rfl; exact AllC.row ⟨rfl, trivial⟩ rfl; exact AllC.row ⟨rfl, trivial⟩ rfl) fun v1 _ _ hs => ?_
 have hW2 : RW tStr f [[.string ((bs [100, 105, 118]))], [.string ((bs [112]))], [.string ((bs [117, 108]))], [.string ((bs [108, 105]))], [.string ((bs [104, 49]))], [.string ((bs [116, 97, 98, 108, 101]))]] [(bs [100, 105, 118]), (bs [112]), (bs [117, 108]), (bs [108, 105]), (bs [104, 49]), (bs [116, 97, 98, 108, 101])] := ⟨rfl, ⟨rfl, ⟨rfl, ⟨rfl, ⟨rfl, ⟨rfl, trivial⟩⟩⟩⟩⟩⟩
 generalize hgrw3 : ([[.string ((bs [100, 105, 118]))], [.string ((bs [112]))], [.string ((bs [117, 108]))], [.string ((bs [108, 105]))], [.string ((bs [104, 49]))], [.string ((bs [116, 97, 98, 108, 101]))]] : List (List Value)) = rw3 at hs hW2; clear hgrw3
 obtain ⟨x6, hx7, hm⟩ := ob hm
 refine sy hs (zeh (cap := []) rfl has16 rfl (fun w9 hw9 => callsP (Lr := [.row v1 9 1 rw3]) (Lf := L) (zag _ 0 rfl) hw9 (fun Lz w9 hw9 => lent0 hw9 (fun f9_0 w9 hle9_0 hRl0 hw9 => (ziv n (f := f9_0) (a1 := v1) ⟨rw3, hRl0, hW2.le hle9_0⟩ hx7) w0 _ w9 hw9)))) fun _ _ hs => sA (v := .bool (x6)) hs rfl fun hs => za0 <| hK2 <| zau ?_
 obtain rfl := Option.some.inj hm
 refine RtV1 hs rfl (rv_t hs rfl) ?_
 exact ⟨rfl, ((hs.subL (.cons _ (.refl _))).weak hle).cw⟩
def ziu (n : Nat) (p0 : ByteArray) : Option Bool :=
  (zjr n p0 [(bs [97]), (bs [98]), (bs [101, 109]), (bs [105]), (bs [117])]).bind fun x6 =>
  some x6
theorem zml (n : Nat) {f : Fz} {p0 : ByteArray} {res : Bool}  (hm : ziu n p0 = some res) : Gives Try.prog 55 [.string p0] f (.bool res) := by
 unfold ziu at hm
 intro w0 L w hC
 refine enter Try.func55 rfl Try.ntmps55 (by simp) hC fun a hs => ?_
 have hle := Fz.le.refl f
 refine Wq fun hK1 => sA (v := .bool (false)) hs rfl fun hs => za0 <| hK1 <| Wq fun hK2 => sM (v := .string (p0)) hs rfl fun hs => ?_
 refine zpy (parts := [(0, .const (.string (bs [97]))), (1, .const (.string (bs [98]))), (2, .const (.string (bs [101, 109]))), (3, .const (.string (bs [105]))), (4, .const (.string (bs [117])))]) (us := [.string ((bs [97])), .string ((bs [98])), .string ((bs [101, 109])), .string ((bs [105])), .string ((bs [117]))]) (rows := [[.string ((bs [97]))], [.string ((bs [98]))], [.string ((bs [101, 109]))], [.string ((bs [105]))], [.string ((bs [117]))]]) hs rfl Try.underlying78 ti9 (by decide) rfl rfl (by intro r hr; simp only [List.mem_cons, List.mem_nil_iff, or_false] at hr; rcases hr with rfl | rfl | rfl | rfl | rfl; exact AllC.row ⟨rfl, trivial⟩ rfl; exact AllC.row ⟨rfl, trivial⟩ rfl; exact AllC.row ⟨rfl, trivial⟩ rfl; exact AllC.row ⟨rfl, trivial⟩ rfl; exact AllC.row ⟨rfl, trivial⟩ rfl) fun v1 _ _ hs => ?_
 have hW2 : RW tStr f [[.string ((bs [97]))], [.string ((bs [98]))], [.string ((bs [101, 109]))], [.string ((bs [105]))], [.string ((bs [117]))]] [(bs [97]), (bs [98]), (bs [101, 109]), (bs [105]), (bs [117])] := ⟨rfl, ⟨rfl, ⟨rfl, ⟨rfl, ⟨rfl, trivial⟩⟩⟩⟩⟩
 generalize hgrw3 : ([[.string ((bs [97]))], [.string ((bs [98]))], [.string ((bs [101, 109]))], [.string ((bs [105]))], [.string ((bs [117]))]] : List (List Value)) = rw3 at hs hW2; clear hgrw3
 obtain ⟨x6, hx7, hm⟩ := ob hm
 refine sy hs (zeh (cap := []) rfl has16 rfl (fun w9 hw9 => callsP (Lr := [.row v1 9 1 rw3]) (Lf := L) (zag _ 0 rfl) hw9 (fun Lz w9 hw9 => lent0 hw9 (fun f9_0 w9 hle9_0 hRl0 hw9 => (ziv n (f := f9_0) (a1 := v1) ⟨rw3, hRl0, hW2.le hle9_0⟩ hx7) w0 _ w9 hw9)))) fun _ _ hs => sA (v := .bool (x6)) hs rfl fun hs => za0 <| hK2 <| zau ?_
 obtain rfl := Option.some.inj hm
 refine RtV1 hs rfl (rv_t hs rfl) ?_
 exact ⟨rfl, ((hs.subL (.cons _ (.refl _))).weak hle).cw⟩
def zk9 : Option Bool :=
  some true
def zey (p0 : ByteArray) : Nat → Nat → Option Bool
  | 0, _ => none
  | k4 + 1, y3 =>
  (bif decide (y3 < p0.size) then (bif ((decide (((Utf8.decode p0 y3).1 : Int) ≠ 9)) && ((decide (((Utf8.decode p0 y3).1 : Int) ≠ 10)) && ((decide (((Utf8.decode p0 y3).1 : Int) ≠ 12)) && (decide (((Utf8.decode p0 y3).1 : Int) ≠ 32))))) then some false else
  (zey p0 k4) (y3 + (Utf8.decode p0 y3).2)) else
  zk9)
def zkq (n : Nat) (p0 : ByteArray) : Option Bool :=
  zey p0 n (0 : Nat)
theorem zpz (n : Nat) {f : Fz} {p0 : ByteArray} {res : Bool}  (hm : zkq n p0 = some res) : Gives Try.prog 45 [.string p0] f (.bool res) := by
 unfold zkq at hm
 intro w0 L w hC
 refine enter Try.func45 rfl Try.ntmps45 (by simp) hC fun a hs => ?_
 have hle := Fz.le.refl f
 refine Wq fun hK1 => sA (v := .bool (false)) hs rfl fun hs => za0 <| hK1 <| Ws fun hK2 => Wq fun hK3 => sM (v := .string (p0)) hs rfl fun hs => RL_range hs rfl Try.underlying9 fun b1 _ _ hs => ?_
 refine za0 <| hK3 ?_
 refine zai (fun a w => zk9 = some res ∧ St 24 w0 f (L) [] a w) ?_ ?_
 ·clear hs hm
  rintro a w ⟨hm, hs⟩
  unfold zk9 at hm
  refine hK2 <| Wq fun hK4 => sA (v := .bool (true)) hs rfl fun hs => za0 <| hK4 <| zau ?_
  obtain rfl := Option.some.inj hm
  refine RtV1 hs rfl (rv_t hs rfl) ?_
  exact ⟨rfl, (hs.weak hle).cw⟩
 refine zam fun Qe5 hB5 hO5 => zcw (fun (k : Nat) a w => ∃ (y3 : Nat), zey p0 k y3 = some res ∧ St 24 w0 f (.blk b1 (.stringIter p0 y3) :: L) [(6, .pointer (some ⟨b1, 0, none⟩))] a w) (fun k => k) n ⟨(0 : Nat), hm, hs.sub ⟨rfl, trivial⟩⟩ ?_
 clear hs hm
 intro k
 rintro a w ⟨y3, hm, hs⟩
 intro K6 hK6
 cases k with
 | zero => simp [zey] at hm
 | succ k4 =>
  rw [zey] at hm
  refine Ws fun hK7 => za7 ?_
  refine RL_next (i := 0) hs rfl rfl (fun hg5 => ?_) (fun hg5 => ?_)
  ·replace hm := oc_t (decide_eq_true hg5) hm; clear hs; (try clear a w); intro a w hs
   refine s1 (v := .bool (true)) hs (zar rfl rfl) fun hs => za0 <| hK7 <| Ws fun hK8 => W_condT hs rfl <| zah <| hK8 <| zam fun Qe9 hB9 hO9 => Ws fun hK10 => za7 ?_
   refine s1 (v := .int .i32 (((Utf8.decode p0 y3).1 : Int))) hs (zar rfl rfl) fun hs => sA (v := .int .i32 (((Utf8.decode p0 y3).1 : Int))) hs rfl fun hs => za0 <| hK10 <| Ws fun hK11 => ?_
   refine zai (fun a w => St 24 w0 f (.blk b1 (.stringIter p0 (y3 + (Utf8.decode p0 y3).2)) :: L) [(6, .pointer (some ⟨b1, 0, none⟩)), (23, .bool (((decide (((Utf8.decode p0 y3).1 : Int) ≠ 9)) && ((decide (((Utf8.decode p0 y3).1 : Int) ≠ 10)) && ((decide (((Utf8.decode p0 y3).1 : Int) ≠ 12)) && (decide (((Utf8.decode p0 y3).1 : Int) ≠ 32)))))))] a w) ?_ ?_
   ·clear hs; intro a w hs
    refine hK11 ?_
    refine zaf hs rfl (fun hg6 => ?_) (fun hg6 => ?_)
    ·replace hm := oc_t hg6 hm
     refine Wq fun hK12 => sA (v := .bool (false)) hs rfl fun hs => za0 <| hK12 <| zau ?_
     obtain rfl := Option.some.inj hm
     refine RtV1 hs rfl (rv_t hs rfl) ?_
     exact ⟨rfl, ((hs.subL (.cons _ (.refl _))).weak hle).cw⟩
    replace hm := oc_f hg6 hm
    refine zah ?_
    exact hK6 k4 _ _ (Nat.lt_succ_self _) ⟨(y3 + (Utf8.decode p0 y3).2), hm, hs.sub ⟨rfl, trivial⟩⟩
   refine za7 <| sM (v := .int .i32 (((Utf8.decode p0 y3).1 : Int))) hs rfl fun hs => s1 hs (zez rfl rfl) fun hs => sM (v := .bool (decide (((Utf8.decode p0 y3).1 : Int) ≠ 9))) hs rfl fun hs => ?_
   refine St.split hs (t := 12) rfl (fun hg7 hs => ?_) (fun hg7 hs => ?_)
   ·refine s2 (v := .int .i32 (((Utf8.decode p0 y3).1 : Int))) hs (zaa rfl) fun hs => s2 hs (zez rfl rfl) fun hs => sP (v := .bool (decide (((Utf8.decode p0 y3).1 : Int) ≠ 10))) hs rfl rfl fun hs => sM (v := .bool (decide (((Utf8.decode p0 y3).1 : Int) ≠ 10))) hs rfl fun hs => ?_
    refine St.split hs (t := 16) rfl (fun hg8 hs => ?_) (fun hg8 hs => ?_)
    ·refine s2 (v := .int .i32 (((Utf8.decode p0 y3).1 : Int))) hs (zaa rfl) fun hs => s2 hs (zez rfl rfl) fun hs => sP (v := .bool (decide (((Utf8.decode p0 y3).1 : Int) ≠ 12))) hs rfl rfl fun hs => sM (v := .bool (decide (((Utf8.decode p0 y3).1 : Int) ≠ 12))) hs rfl fun hs => ?_
     refine St.split hs (t := 20) rfl (fun hg9 hs => ?_) (fun hg9 hs => ?_)
     ·refine s2 (v := .int .i32 (((Utf8.decode p0 y3).1 : Int))) hs (zaa rfl) fun hs => s2 hs (zez rfl rfl) fun hs => sP (v := .bool (decide (((Utf8.decode p0 y3).1 : Int) ≠ 32))) hs rfl rfl fun hs => za0 ?_
      exact hs.sub ⟨rfl, (lkB (((zgi hg7).trans ((zgi hg8).trans ((zgi hg9).trans rfl)))) rfl), trivial⟩
     refine s3 hs fun hs => s3 hs fun hs => sP (v := .bool (false)) hs rfl rfl fun hs => za0 ?_
     exact hs.sub ⟨rfl, (lkB (((zgi hg7).trans ((zgi hg8).trans ((zll hg9).trans rfl)))) rfl), trivial⟩
    refine s3 hs fun hs => s3 hs fun hs => sP (v := .bool (false)) hs rfl rfl fun hs => sM (v := .bool (false)) hs rfl fun hs => s3 hs fun hs => s3 hs fun hs => sP (v := .bool (false)) hs rfl rfl fun hs => za0 ?_
    exact hs.sub ⟨rfl, (lkB (((zgi hg7).trans ((zll hg8).trans rfl))) rfl), trivial⟩
   refine s3 hs fun hs => s3 hs fun hs => sP (v := .bool (false)) hs rfl rfl fun hs => sM (v := .bool (false)) hs rfl fun hs => s3 hs fun hs => s3 hs fun hs => sP (v := .bool (false)) hs rfl rfl fun hs => sM (v := .bool (false)) hs rfl fun hs => s3 hs fun hs => s3 hs fun hs => ?_
   refine sP (v := .bool (false)) hs rfl rfl fun hs => za0 ?_
   exact hs.sub ⟨rfl, (lkB (((zll hg7).trans rfl)) rfl), trivial⟩
  replace hm := oc_f (decide_eq_false (Nat.not_lt.2 hg5)) hm; clear hs; (try clear a w); intro a w hs
  refine s1 (v := .bool (false)) hs (zar rfl rfl) fun hs => za0 <| hK7 <| Ws fun hK13 => W_condF hs rfl <| zc9 <| hB5 _ _ ?_
  exact ⟨hm, hs.subs trivial (.cons _ (.refl _))⟩
end Go.Proofs.Ytklcdfnhdljkjaa
