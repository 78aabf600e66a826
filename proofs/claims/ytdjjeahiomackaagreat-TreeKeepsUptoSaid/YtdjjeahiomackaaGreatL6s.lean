/-
  Walks and laws of this seat.
-/
import Derived.Test.YtdjjeahiomackaaGreatBash
import Derived.Test.YtdjjeahiomackaaGreatT6
import Derived.Test.YtdjjeahiomackaaGreatRows
namespace Go.Proofs.YtdjjeahiomackaaGreat
set_option linter.unusedVariables false
set_option linter.unusedSimpArgs false
set_option linter.unusedSectionVars false
set_option maxHeartbeats 4000000
set_option maxRecDepth 100000
open Go.RowKit Go.Sl
def zd4 : Option Int :=
  some (-1)
def zaj (p0 : (List ByteArray)) (p1 : ByteArray) : Nat → Int → Option Int
  | 0, _ => none
  | k6 + 1, y5 =>
  (bif (decide (y5 < (p0.length : Int))) then (geti p0 y5).bind fun x8 =>
  (bif (decide (p1 = x8)) then some y5 else
  (zaj p0 p1 k6) (w64 (y5 + 1))) else
  zd4)
def zcm (n : Nat) (p0 : (List ByteArray)) (p1 : ByteArray) : Option Int :=
  zaj p0 p1 n 0
theorem zh6 (n : Nat) {f : Fz} {p0 : (List ByteArray)} {a0 : Value} {p1 : ByteArray} {res : Int} (h0 : RS tStr f a0 p0) (hm : zcm n p0 p1 = some res) : Gives Tryz.prog 80 [a0, .string p1] f (.int .i64 res) := by
 unfold zcm at hm
 intro w0 L w hC
 obtain ⟨rw1, hR2, hW3⟩ := h0
 refine enter Tryz.func80 rfl Tryz.ntmps80 (by simp) hC fun a hs => ?_
 have hle := Fz.le.refl f
 refine Wq fun hK1 => sA hs rfl fun hs => za1 <| hK1 <| Ws fun hK2 => Wq fun hK3 => sM hs rfl fun hs => s1 hs (ze4 hR2 hW3 rfl Tryz.underlying102) fun hs => ?_
 refine sM hs rfl fun hs => za1 <| hK3 ?_
 refine zay (fun a w => zd4 = some res ∧ St 19 w0 f (L) [] a w) ?_ ?_
 ·clear hs hm
  rintro a w ⟨hm, hs⟩
  unfold zd4 at hm
  refine hK2 <| Wq fun hK4 => sA hs rfl fun hs => za1 <| hK4 <| zbl ?_
  obtain rfl := Option.some.inj hm
  refine RtV1 hs rfl (rv_t hs rfl) ?_
  exact ⟨rfl,(hs.weak hle).cw⟩
 refine zas fun Qe5 hB5 hO5 => zeu (fun (k : Nat) a w => ∃ (y5 : Int), zaj p0 p1 k y5 = some res ∧ St 19 w0 f (L) [(0, a0),(1, .string (p1)),(7, .int .i64 ((p0.length : Int))),(8, .int .i64 (y5))] a w) (fun k => k) n ⟨0, hm, hs.sub ⟨rfl, rfl, rfl, rfl, trivial⟩⟩ ?_
 clear hs hm
 intro k
 rintro a w ⟨y5, hm, hs⟩
 intro K6 hK6
 cases k with
 | zero => simp [zaj] at hm
 | succ k6 =>
  rw [zaj] at hm
  refine Wq fun hK7 => s1 hs (zhw rfl rfl) fun hs => za1 <| hK7 <| Ws fun hK8 => ?_
  refine zag hs rfl (fun hg7 => ?_) (fun hg7 => ?_)
  ·replace hm := oc_t hg7 hm
   refine zak <| hK8 <| Ws fun hK9 => zas fun Qe10 hB10 hO10 => Wq fun hK11 => sM hs rfl fun hs => sA hs rfl fun hs => za1 <| hK11 ?_
   refine Wq fun hK12 => sM hs rfl fun hs => sM hs rfl fun hs => sM hs rfl fun hs => ?_
   obtain ⟨x8, hx9, hm⟩ := ob hm
   obtain ⟨r10, hr11, hq12, hi13, hb14⟩ := hW3.geti hx9
   obtain rfl : _ = ([.string (x8)] : List Value) := hq12
   refine s1 hs (zai hR2 rfl rfl hi13 hb14 Tryz.underlying102 ti9) fun hs => s1 (v := .string (x8)) hs (ze3 (i := y5.toNat) (j := 0) hR2.up rfl hr11 rfl Tryz.underlying9 rfl) fun hs => s1 hs (zfr rfl rfl) fun hs => za1 <| hK12 ?_
   refine zag hs rfl (fun hg15 => ?_) (fun hg15 => ?_)
   ·replace hm := oc_t hg15 hm
    refine Wq fun hK13 => sM hs rfl fun hs => sA hs rfl fun hs => za1 <| hK13 <| zbl ?_
    obtain rfl := Option.some.inj hm
    refine RtV1 hs rfl (rv_t hs rfl) ?_
    exact ⟨rfl,(hs.weak hle).cw⟩
   replace hm := oc_f hg15 hm
   refine zak <| hK9 <| za5 <| s1 hs (zga rfl rfl rfl) fun hs => sM hs rfl fun hs => za1 ?_
   exact hK6 k6 _ _ (Nat.lt_succ_self _) ⟨(w64 (y5 + 1)), hm, hs.sub ⟨rfl, rfl, rfl, rfl, trivial⟩⟩
  replace hm := oc_f hg7 hm
  refine ze8 <| hB5 _ _ ?_
  exact ⟨hm, hs.sub trivial⟩
def zc2 (n : Nat) (p0 : (List ByteArray)) (p1 : ByteArray) : Option Bool :=
  (zcm n p0 p1).bind fun x5 =>
  some (decide (0 ≤ x5))
theorem zgb (n : Nat) {f : Fz} {p0 : (List ByteArray)} {a0 : Value} {p1 : ByteArray} {res : Bool} (h0 : RS tStr f a0 p0) (hm : zc2 n p0 p1 = some res) : Gives Tryz.prog 61 [a0, .string p1] f (.bool res) := by
 unfold zc2 at hm
 intro w0 L w hC
 obtain ⟨rw1, hR2, hW3⟩ := h0
 refine enter Tryz.func61 rfl Tryz.ntmps61 (by simp) hC fun a hs => ?_
 have hle := Fz.le.refl f
 refine Wq fun hK1 => sA hs rfl fun hs => za1 <| hK1 <| Wq fun hK2 => sM hs rfl fun hs => sM hs rfl fun hs => ?_
 obtain ⟨x5, hx6, hm⟩ := ob hm
 refine s1 hs (zfu rfl has80 rfl (zh6 n ⟨rw1, hR2, hW3⟩ hx6)) fun hs => s1 hs (zqi rfl rfl) fun hs => sA hs rfl fun hs => za1 <| hK2 <| zbl ?_
 obtain rfl := Option.some.inj hm
 refine RtV1 hs rfl (rv_t hs rfl) ?_
 exact ⟨rfl,(hs.weak hle).cw⟩
def zhn (n : Nat) (p0 : ByteArray) (p1 : (List ByteArray)) : Option Bool :=
  (zc2 n p1 p0).bind fun x5 =>
  some x5
theorem zgf (n : Nat) {f : Fz} {p0 : ByteArray} {p1 : (List ByteArray)} {a1 : Value} {res : Bool} (h1 : RS tStr f a1 p1) (hm : zhn n p0 p1 = some res) : Gives Tryz.prog 33 [.string p0, a1] f (.bool res) := by
 unfold zhn at hm
 intro w0 L w hC
 obtain ⟨rw1, hR2, hW3⟩ := h1
 refine enter Tryz.func33 rfl Tryz.ntmps33 (by simp) hC fun a hs => ?_
 have hle := Fz.le.refl f
 refine Wq fun hK1 => sA hs rfl fun hs => za1 <| hK1 <| Wq fun hK2 => sM hs rfl fun hs => sM hs rfl fun hs => ?_
 obtain ⟨x5, hx6, hm⟩ := ob hm
 refine s1 hs (zfu rfl has61 rfl (zgb n ⟨rw1, hR2, hW3⟩ hx6)) fun hs => sA hs rfl fun hs => za1 <| hK2 <| zbl ?_
 obtain rfl := Option.some.inj hm
 refine RtV1 hs rfl (rv_t hs rfl) ?_
 exact ⟨rfl,(hs.weak hle).cw⟩
def zig (n : Nat) (p0 : ByteArray) : Option Bool :=
  (zhn n p0 [(bs [98,114]),(bs [104,114]),(bs [105,109,103]),(bs [105,110,112,117,116]),(bs [108,105,110,107]),(bs [109,101,116,97])]).bind fun x6 =>
  some x6
theorem zml (n : Nat) {f : Fz} {p0 : ByteArray} {res : Bool}  (hm : zig n p0 = some res) : Gives Tryz.prog 43 [.string p0] f (.bool res) := by
 unfold zig at hm
 intro w0 L w hC
 refine enter Tryz.func43 rfl Tryz.ntmps43 (by simp) hC fun a hs => ?_
 have hle := Fz.le.refl f
 refine Wq fun hK1 => sA hs rfl fun hs => za1 <| hK1 <| Wq fun hK2 => sM hs rfl fun hs => ?_
 refine zo8 (parts := [(0, .const (.string (bs [98,114]))),(1, .const (.string (bs [104,114]))),(2, .const (.string (bs [105,109,103]))),(3, .const (.string (bs [105,110,112,117,116]))),(4, .const (.string (bs [108,105,110,107]))),(5, .const (.string (bs [109,101,116,97])))]) (us := [.string ((bs [98,114])), .string ((bs [104,114])), .string ((bs [105,109,103])), .string ((bs [105,110,112,117,116])), .string ((bs [108,105,110,107])), .string ((bs [109,101,116,97]))]) (rows := [[.string ((bs [98,114]))],[.string ((bs [104,114]))],[.string ((bs [105,109,103]))],[.string ((bs [105,110,112,117,116]))],[.string ((bs [108,105,110,107]))],[.string ((bs [109,101,116,97]))]]) hs rfl Tryz.underlying102 ti9 (by decide) rfl rfl (by intro r hr; simp only [List.mem_cons, List.mem_nil_iff, or_false] at hr; rcases hr with rfl | rfl | rfl | rfl | rfl | rfl; exact AllC.row ⟨rfl, trivial⟩ rfl; exact AllC.row ⟨rfl, trivial⟩ rfl; exact AllC.row ⟨rfl, trivial⟩ rfl; exact AllC.row ⟨rfl, trivial⟩ rfl; exact AllC.row ⟨rfl, trivial⟩ rfl; exact AllC.row ⟨rfl, trivial⟩ rfl) fun v1 _ _ hs => ?_
 have hW2 : RW tStr f [[.string ((bs [98,114]))],[.string ((bs [104,114]))],[.string ((bs [105,109,103]))],[.string ((bs [105,110,112,117,116]))],[.string ((bs [108,105,110,107]))],[.string ((bs [109,101,116,97]))]] [(bs [98,114]),(bs [104,114]),(bs [105,109,103]),(bs [105,110,112,117,116]),(bs [108,105,110,107]),(bs [109,101,116,97])] := ⟨rfl, ⟨rfl, ⟨rfl, ⟨rfl, ⟨rfl, ⟨rfl, trivial⟩⟩⟩⟩⟩⟩
 generalize hgrw3 : ([[.string ((bs [98,114]))],[.string ((bs [104,114]))],[.string ((bs [105,109,103]))],[.string ((bs [105,110,112,117,116]))],[.string ((bs [108,105,110,107]))],[.string ((bs [109,101,116,97]))]] : List (List Value)) = rw3 at hs hW2; clear hgrw3
 obtain ⟨x6, hx7, hm⟩ := ob hm
 refine sy hs (zds (cap := []) rfl has33 rfl (fun w9 hw9 => callsP (Lr := [.row v1 9 1 rw3]) (Lf := L) (zae _ 0 rfl) hw9 (fun Lz w9 hw9 => lent0 hw9 (fun f9_0 w9 hle9_0 hRl0 hw9 => (zgf n ⟨rw3, hRl0, hW2.le hle9_0⟩ hx7) w0 _ w9 hw9)))) fun _ _ hs => sA hs rfl fun hs => za1 <| hK2 <| zbl ?_
 obtain rfl := Option.some.inj hm
 refine RtV1 hs rfl (rv_t hs rfl) ?_
 exact ⟨rfl,((hs.subL (.cons _ (.refl _))).weak hle).cw⟩
def zif (n : Nat) (p0 : ByteArray) : Option Bool :=
  (zhn n p0 [(bs [100,105,118]),(bs [112]),(bs [117,108]),(bs [108,105]),(bs [104,49]),(bs [116,97,98,108,101])]).bind fun x6 =>
  some x6
theorem zp9 (n : Nat) {f : Fz} {p0 : ByteArray} {res : Bool}  (hm : zif n p0 = some res) : Gives Tryz.prog 39 [.string p0] f (.bool res) := by
 unfold zif at hm
 intro w0 L w hC
 refine enter Tryz.func39 rfl Tryz.ntmps39 (by simp) hC fun a hs => ?_
 have hle := Fz.le.refl f
 refine Wq fun hK1 => sA hs rfl fun hs => za1 <| hK1 <| Wq fun hK2 => sM hs rfl fun hs => ?_
 refine zo8 (parts := [(0, .const (.string (bs [100,105,118]))),(1, .const (.string (bs [112]))),(2, .const (.string (bs [117,108]))),(3, .const (.string (bs [108,105]))),(4, .const (.string (bs [104,49]))),(5, .const (.string (bs [116,97,98,108,101])))]) (us := [.string ((bs [100,105,118])), .string ((bs [112])), .string ((bs [117,108])), .string ((bs [108,105])), .string ((bs [104,49])), .string ((bs [116,97,98,108,101]))]) (rows := [[.string ((bs [100,105,118]))],[.string ((bs [112]))],[.string ((bs [117,108]))],[.string ((bs [108,105]))],[.string ((bs [104,49]))],[.string ((bs [116,97,98,108,101]))]]) hs rfl Tryz.underlying102 ti9 (by decide) rfl rfl (by intro r hr; simp only [List.mem_cons, List.mem_nil_iff, or_false] at hr; rcases hr with rfl | rfl | rfl | rfl | rfl | rfl; exact AllC.row ⟨rfl, trivial⟩ rfl; exact AllC.row ⟨rfl, trivial⟩ rfl; exact AllC.row ⟨rfl, trivial⟩ rfl; exact AllC.row ⟨rfl, trivial⟩ rfl; exact AllC.row ⟨rfl, trivial⟩ rfl; exact AllC.row ⟨rfl, trivial⟩ rfl) fun v1 _ _ hs => ?_
 have hW2 : RW tStr f [[.string ((bs [100,105,118]))],[.string ((bs [112]))],[.string ((bs [117,108]))],[.string ((bs [108,105]))],[.string ((bs [104,49]))],[.string ((bs [116,97,98,108,101]))]] [(bs [100,105,118]),(bs [112]),(bs [117,108]),(bs [108,105]),(bs [104,49]),(bs [116,97,98,108,101])] := ⟨rfl, ⟨rfl, ⟨rfl, ⟨rfl, ⟨rfl, ⟨rfl, trivial⟩⟩⟩⟩⟩⟩
 generalize hgrw3 : ([[.string ((bs [100,105,118]))],[.string ((bs [112]))],[.string ((bs [117,108]))],[.string ((bs [108,105]))],[.string ((bs [104,49]))],[.string ((bs [116,97,98,108,101]))]] : List (List Value)) = rw3 at hs hW2; clear hgrw3
 obtain ⟨x6, hx7, hm⟩ := ob hm
 refine sy hs (zds (cap := []) rfl has33 rfl (fun w9 hw9 => callsP (Lr := [.row v1 9 1 rw3]) (Lf := L) (zae _ 0 rfl) hw9 (fun Lz w9 hw9 => lent0 hw9 (fun f9_0 w9 hle9_0 hRl0 hw9 => (zgf n ⟨rw3, hRl0, hW2.le hle9_0⟩ hx7) w0 _ w9 hw9)))) fun _ _ hs => sA hs rfl fun hs => za1 <| hK2 <| zbl ?_
 obtain rfl := Option.some.inj hm
 refine RtV1 hs rfl (rv_t hs rfl) ?_
 exact ⟨rfl,((hs.subL (.cons _ (.refl _))).weak hle).cw⟩
def zge (n : Nat) (p0 : ByteArray) : Option Bool :=
  (zhn n p0 [(bs [97]),(bs [98]),(bs [101,109]),(bs [105]),(bs [117])]).bind fun x6 =>
  some x6
theorem zkj (n : Nat) {f : Fz} {p0 : ByteArray} {res : Bool}  (hm : zge n p0 = some res) : Gives Tryz.prog 47 [.string p0] f (.bool res) := by
 unfold zge at hm
 intro w0 L w hC
 refine enter Tryz.func47 rfl Tryz.ntmps47 (by simp) hC fun a hs => ?_
 have hle := Fz.le.refl f
 refine Wq fun hK1 => sA hs rfl fun hs => za1 <| hK1 <| Wq fun hK2 => sM hs rfl fun hs => ?_
 refine zo8 (parts := [(0, .const (.string (bs [97]))),(1, .const (.string (bs [98]))),(2, .const (.string (bs [101,109]))),(3, .const (.string (bs [105]))),(4, .const (.string (bs [117])))]) (us := [.string ((bs [97])), .string ((bs [98])), .string ((bs [101,109])), .string ((bs [105])), .string ((bs [117]))]) (rows := [[.string ((bs [97]))],[.string ((bs [98]))],[.string ((bs [101,109]))],[.string ((bs [105]))],[.string ((bs [117]))]]) hs rfl Tryz.underlying102 ti9 (by decide) rfl rfl (by intro r hr; simp only [List.mem_cons, List.mem_nil_iff, or_false] at hr; rcases hr with rfl | rfl | rfl | rfl | rfl; exact AllC.row ⟨rfl, trivial⟩ rfl; exact AllC.row ⟨rfl, trivial⟩ rfl; exact AllC.row ⟨rfl, trivial⟩ rfl; exact AllC.row ⟨rfl, trivial⟩ rfl; exact AllC.row ⟨rfl, trivial⟩ rfl) fun v1 _ _ hs => ?_
 have hW2 : RW tStr f [[.string ((bs [97]))],[.string ((bs [98]))],[.string ((bs [101,109]))],[.string ((bs [105]))],[.string ((bs [117]))]] [(bs [97]),(bs [98]),(bs [101,109]),(bs [105]),(bs [117])] := ⟨rfl, ⟨rfl, ⟨rfl, ⟨rfl, ⟨rfl, trivial⟩⟩⟩⟩⟩
 generalize hgrw3 : ([[.string ((bs [97]))],[.string ((bs [98]))],[.string ((bs [101,109]))],[.string ((bs [105]))],[.string ((bs [117]))]] : List (List Value)) = rw3 at hs hW2; clear hgrw3
 obtain ⟨x6, hx7, hm⟩ := ob hm
 refine sy hs (zds (cap := []) rfl has33 rfl (fun w9 hw9 => callsP (Lr := [.row v1 9 1 rw3]) (Lf := L) (zae _ 0 rfl) hw9 (fun Lz w9 hw9 => lent0 hw9 (fun f9_0 w9 hle9_0 hRl0 hw9 => (zgf n ⟨rw3, hRl0, hW2.le hle9_0⟩ hx7) w0 _ w9 hw9)))) fun _ _ hs => sA hs rfl fun hs => za1 <| hK2 <| zbl ?_
 obtain rfl := Option.some.inj hm
 refine RtV1 hs rfl (rv_t hs rfl) ?_
 exact ⟨rfl,((hs.subL (.cons _ (.refl _))).weak hle).cw⟩
def zi4 : Option Bool :=
  some true
def zbz (p0 : ByteArray) : Nat → Nat → Option Bool
  | 0, _ => none
  | k4 + 1, y3 =>
  (bif decide (y3 < p0.size) then (bif ((decide (((Utf8.decode p0 y3).1 : Int) ≠ 9)) && ((decide (((Utf8.decode p0 y3).1 : Int) ≠ 10)) && ((decide (((Utf8.decode p0 y3).1 : Int) ≠ 12)) && (decide (((Utf8.decode p0 y3).1 : Int) ≠ 32))))) then some false else
  (zbz p0 k4) (y3 + (Utf8.decode p0 y3).2)) else
  zi4)
def zgg (n : Nat) (p0 : ByteArray) : Option Bool :=
  zbz p0 n (0 : Nat)
theorem zoc (n : Nat) {f : Fz} {p0 : ByteArray} {res : Bool}  (hm : zgg n p0 = some res) : Gives Tryz.prog 36 [.string p0] f (.bool res) := by
 unfold zgg at hm
 intro w0 L w hC
 refine enter Tryz.func36 rfl Tryz.ntmps36 (by simp) hC fun a hs => ?_
 have hle := Fz.le.refl f
 refine Wq fun hK1 => sA hs rfl fun hs => za1 <| hK1 <| Ws fun hK2 => Wq fun hK3 => sM hs rfl fun hs => zn7 hs rfl Tryz.underlying9 fun b1 _ _ hs => ?_
 refine za1 <| hK3 ?_
 refine zay (fun a w => zi4 = some res ∧ St 24 w0 f (L) [] a w) ?_ ?_
 ·clear hs hm
  rintro a w ⟨hm, hs⟩
  unfold zi4 at hm
  refine hK2 <| Wq fun hK4 => sA hs rfl fun hs => za1 <| hK4 <| zbl ?_
  obtain rfl := Option.some.inj hm
  refine RtV1 hs rfl (rv_t hs rfl) ?_
  exact ⟨rfl,(hs.weak hle).cw⟩
 refine zas fun Qe5 hB5 hO5 => zeu (fun (k : Nat) a w => ∃ (y3 : Nat), zbz p0 k y3 = some res ∧ St 24 w0 f (.blk b1 (.stringIter p0 y3) :: L) [(6, .pointer (some ⟨b1,0, none⟩))] a w) (fun k => k) n ⟨(0 : Nat), hm, hs.sub ⟨rfl, trivial⟩⟩ ?_
 clear hs hm
 intro k
 rintro a w ⟨y3, hm, hs⟩
 intro K6 hK6
 cases k with
 | zero => simp [zbz] at hm
 | succ k4 =>
  rw [zbz] at hm
  refine Ws fun hK7 => za5 ?_
  refine zo7 (i := 0) hs rfl rfl (fun hg5 => ?_) (fun hg5 => ?_)
  ·replace hm := oc_t (decide_eq_true hg5) hm; clear hs; (try clear a w); intro a w hs
   refine s1 (v := .bool (true)) hs (zan rfl rfl) fun hs => za1 <| hK7 <| Ws fun hK8 => zqc hs rfl <| zak <| hK8 <| zas fun Qe9 hB9 hO9 => Ws fun hK10 => za5 ?_
   refine s1 (v := .int .i32 (((Utf8.decode p0 y3).1 : Int))) hs (zan rfl rfl) fun hs => sA hs rfl fun hs => za1 <| hK10 <| Ws fun hK11 => ?_
   refine zay (fun a w => St 24 w0 f (.blk b1 (.stringIter p0 (y3 + (Utf8.decode p0 y3).2)) :: L) [(6, .pointer (some ⟨b1,0, none⟩)),(23, .bool (((decide (((Utf8.decode p0 y3).1 : Int) ≠ 9)) && ((decide (((Utf8.decode p0 y3).1 : Int) ≠ 10)) && ((decide (((Utf8.decode p0 y3).1 : Int) ≠ 12)) && (decide (((Utf8.decode p0 y3).1 : Int) ≠ 32)))))))] a w) ?_ ?_
   ·clear hs; intro a w hs
    refine hK11 ?_
    refine zag hs rfl (fun hg6 => ?_) (fun hg6 => ?_)
    ·replace hm := oc_t hg6 hm
     refine Wq fun hK12 => sA hs rfl fun hs => za1 <| hK12 <| zbl ?_
     obtain rfl := Option.some.inj hm
     refine RtV1 hs rfl (rv_t hs rfl) ?_
     exact ⟨rfl,((hs.subL (.cons _ (.refl _))).weak hle).cw⟩
    replace hm := oc_f hg6 hm
    refine zak ?_
    exact hK6 k4 _ _ (Nat.lt_succ_self _) ⟨(y3 + (Utf8.decode p0 y3).2), hm, hs.sub ⟨rfl, trivial⟩⟩
   refine za5 <| sM hs rfl fun hs => s1 hs (zje rfl rfl) fun hs => sM hs rfl fun hs => ?_
   refine St.split hs (t := 12) rfl (fun hg7 hs => ?_) (fun hg7 hs => ?_)
   ·refine s2 (v := .int .i32 (((Utf8.decode p0 y3).1 : Int))) hs (za9 rfl) fun hs => s2 hs (zje rfl rfl) fun hs => sP hs rfl rfl fun hs => sM hs rfl fun hs => ?_
    refine St.split hs (t := 16) rfl (fun hg8 hs => ?_) (fun hg8 hs => ?_)
    ·refine s2 (v := .int .i32 (((Utf8.decode p0 y3).1 : Int))) hs (za9 rfl) fun hs => s2 hs (zje rfl rfl) fun hs => sP hs rfl rfl fun hs => sM hs rfl fun hs => ?_
     refine St.split hs (t := 20) rfl (fun hg9 hs => ?_) (fun hg9 hs => ?_)
     ·refine s2 (v := .int .i32 (((Utf8.decode p0 y3).1 : Int))) hs (za9 rfl) fun hs => s2 hs (zje rfl rfl) fun hs => sP hs rfl rfl fun hs => za1 ?_
      exact hs.sub ⟨rfl,(lkB (((zj8 hg7).trans ((zj8 hg8).trans ((zj8 hg9).trans rfl)))) rfl), trivial⟩
     refine s3 hs fun hs => s3 hs fun hs => sP hs rfl rfl fun hs => za1 ?_
     exact hs.sub ⟨rfl,(lkB (((zj8 hg7).trans ((zj8 hg8).trans ((zoq hg9).trans rfl)))) rfl), trivial⟩
    refine s3 hs fun hs => s3 hs fun hs => sP hs rfl rfl fun hs => sM hs rfl fun hs => s3 hs fun hs => s3 hs fun hs => sP hs rfl rfl fun hs => za1 ?_
    exact hs.sub ⟨rfl,(lkB (((zj8 hg7).trans ((zoq hg8).trans rfl))) rfl), trivial⟩
   refine s3 hs fun hs => s3 hs fun hs => sP hs rfl rfl fun hs => sM hs rfl fun hs => s3 hs fun hs => s3 hs fun hs => sP hs rfl rfl fun hs => sM hs rfl fun hs => s3 hs fun hs => s3 hs fun hs => ?_
   refine sP hs rfl rfl fun hs => za1 ?_
   exact hs.sub ⟨rfl,(lkB (((zoq hg7).trans rfl)) rfl), trivial⟩
  replace hm := oc_f (decide_eq_false (Nat.not_lt.2 hg5)) hm; clear hs; (try clear a w); intro a w hs
  refine s1 (v := .bool (false)) hs (zan rfl rfl) fun hs => za1 <| hK7 <| Ws fun hK13 => zo6 hs rfl <| ze8 <| hB5 _ _ ?_
  exact ⟨hm, hs.subs trivial (.cons _ (.refl _))⟩
end Go.Proofs.YtdjjeahiomackaaGreat
