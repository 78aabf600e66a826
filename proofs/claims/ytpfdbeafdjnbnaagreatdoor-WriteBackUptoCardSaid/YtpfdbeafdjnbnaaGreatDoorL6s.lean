/-
  Walks and laws of this seat.
-/
import Derived.Test.YtpfdbeafdjnbnaaGreatDoorBash
import Derived.Test.YtpfdbeafdjnbnaaGreatDoorX3
import Derived.Test.YtpfdbeafdjnbnaaGreatDoorRows
namespace Go.Proofs.YtpfdbeafdjnbnaaGreatDoor
set_option linter.unusedVariables false
set_option linter.unusedSimpArgs false
set_option linter.unusedSectionVars false
set_option maxHeartbeats 4000000
set_option maxRecDepth 100000
open Go.RowKit Go.Sl
def zjk (n : Nat) (p0 : ByteArray) : Option Bool :=
  (zid n p0 [(bs [100,105,118]),(bs [112]),(bs [117,108]),(bs [108,105]),(bs [104,49]),(bs [116,97,98,108,101])]).bind fun x6 =>
  some x6
theorem zpm (n : Nat) {f : Fz} {p0 : ByteArray} {res : Bool}  (hm : zjk n p0 = some res) : Gives Tryz.prog 72 [.string p0] f (.bool res) := by
 unfold zjk at hm
 intro w0 L w hC
 refine enter Tryz.func72 rfl Tryz.ntmps72 (by simp) hC fun a hs => ?_
 have hle := Fz.le.refl f
 refine Wq fun hK1 => sA hs rfl fun hs => za0 <| hK1 <| Wq fun hK2 => sM hs rfl fun hs => ?_
 refine zjv (parts := [(0, .const (.string (bs [100,105,118]))),(1, .const (.string (bs [112]))),(2, .const (.string (bs [117,108]))),(3, .const (.string (bs [108,105]))),(4, .const (.string (bs [104,49]))),(5, .const (.string (bs [116,97,98,108,101])))]) (us := [.string ((bs [100,105,118])), .string ((bs [112])), .string ((bs [117,108])), .string ((bs [108,105])), .string ((bs [104,49])), .string ((bs [116,97,98,108,101]))]) (rows := [[.string ((bs [100,105,118]))],[.string ((bs [112]))],[.string ((bs [117,108]))],[.string ((bs [108,105]))],[.string ((bs [104,49]))],[.string ((bs [116,97,98,108,101]))]]) hs rfl U47 ti9 (by decide) rfl rfl (by intro r hr; simp only [List.mem_cons, List.mem_nil_iff, or_false] at hr; rcases hr with rfl | rfl | rfl | rfl | rfl | rfl; exact AllC.row ⟨rfl, trivial⟩ rfl; exact AllC.row ⟨rfl, trivial⟩ rfl; exact AllC.row ⟨rfl, trivial⟩ rfl; exact AllC.row ⟨rfl, trivial⟩ rfl; exact AllC.row ⟨rfl, trivial⟩ rfl; exact AllC.row ⟨rfl, trivial⟩ rfl) fun v1 _ _ hs => ?_
 have hW2 : RW tStr f [[.string ((bs [100,105,118]))],[.string ((bs [112]))],[.string ((bs [117,108]))],[.string ((bs [108,105]))],[.string ((bs [104,49]))],[.string ((bs [116,97,98,108,101]))]] [(bs [100,105,118]),(bs [112]),(bs [117,108]),(bs [108,105]),(bs [104,49]),(bs [116,97,98,108,101])] := ⟨rfl, ⟨rfl, ⟨rfl, ⟨rfl, ⟨rfl, ⟨rfl, trivial⟩⟩⟩⟩⟩⟩
 generalize hgrw3 : ([[.string ((bs [100,105,118]))],[.string ((bs [112]))],[.string ((bs [117,108]))],[.string ((bs [108,105]))],[.string ((bs [104,49]))],[.string ((bs [116,97,98,108,101]))]] : List (List Value)) = rw3 at hs hW2; clear hgrw3
 obtain ⟨x6, hx7, hm⟩ := ob hm
 refine sy hs (zdr (cap := []) rfl has40 rfl (fun w9 hw9 => callsP (Lr := [.row v1 9 1 rw3]) (Lf := L) (zal _ 0 rfl) hw9 (fun Lz w9 hw9 => lent0 hw9 (fun f9_0 w9 hle9_0 hRl0 hw9 => (zhu n ⟨rw3, hRl0, hW2.le hle9_0⟩ hx7) w0 _ w9 hw9)))) fun _ _ hs => sA hs rfl fun hs => za0 <| hK2 <| zax ?_
 obtain rfl := Option.some.inj hm
 refine RtV1 hs rfl (rv_t hs rfl) ?_
 exact ⟨rfl,((hs.subL (.cons _ (.refl _))).weak hle).cw⟩
def zht (n : Nat) (p0 : ByteArray) : Option Bool :=
  (zid n p0 [(bs [97]),(bs [98]),(bs [101,109]),(bs [105]),(bs [117])]).bind fun x6 =>
  some x6
theorem zla (n : Nat) {f : Fz} {p0 : ByteArray} {res : Bool}  (hm : zht n p0 = some res) : Gives Tryz.prog 79 [.string p0] f (.bool res) := by
 unfold zht at hm
 intro w0 L w hC
 refine enter Tryz.func79 rfl Tryz.ntmps79 (by simp) hC fun a hs => ?_
 have hle := Fz.le.refl f
 refine Wq fun hK1 => sA hs rfl fun hs => za0 <| hK1 <| Wq fun hK2 => sM hs rfl fun hs => ?_
 refine zjv (parts := [(0, .const (.string (bs [97]))),(1, .const (.string (bs [98]))),(2, .const (.string (bs [101,109]))),(3, .const (.string (bs [105]))),(4, .const (.string (bs [117])))]) (us := [.string ((bs [97])), .string ((bs [98])), .string ((bs [101,109])), .string ((bs [105])), .string ((bs [117]))]) (rows := [[.string ((bs [97]))],[.string ((bs [98]))],[.string ((bs [101,109]))],[.string ((bs [105]))],[.string ((bs [117]))]]) hs rfl U47 ti9 (by decide) rfl rfl (by intro r hr; simp only [List.mem_cons, List.mem_nil_iff, or_false] at hr; rcases hr with rfl | rfl | rfl | rfl | rfl; exact AllC.row ⟨rfl, trivial⟩ rfl; exact AllC.row ⟨rfl, trivial⟩ rfl; exact AllC.row ⟨rfl, trivial⟩ rfl; exact AllC.row ⟨rfl, trivial⟩ rfl; exact AllC.row ⟨rfl, trivial⟩ rfl) fun v1 _ _ hs => ?_
 have hW2 : RW tStr f [[.string ((bs [97]))],[.string ((bs [98]))],[.string ((bs [101,109]))],[.string ((bs [105]))],[.string ((bs [117]))]] [(bs [97]),(bs [98]),(bs [101,109]),(bs [105]),(bs [117])] := ⟨rfl, ⟨rfl, ⟨rfl, ⟨rfl, ⟨rfl, trivial⟩⟩⟩⟩⟩
 generalize hgrw3 : ([[.string ((bs [97]))],[.string ((bs [98]))],[.string ((bs [101,109]))],[.string ((bs [105]))],[.string ((bs [117]))]] : List (List Value)) = rw3 at hs hW2; clear hgrw3
 obtain ⟨x6, hx7, hm⟩ := ob hm
 refine sy hs (zdr (cap := []) rfl has40 rfl (fun w9 hw9 => callsP (Lr := [.row v1 9 1 rw3]) (Lf := L) (zal _ 0 rfl) hw9 (fun Lz w9 hw9 => lent0 hw9 (fun f9_0 w9 hle9_0 hRl0 hw9 => (zhu n ⟨rw3, hRl0, hW2.le hle9_0⟩ hx7) w0 _ w9 hw9)))) fun _ _ hs => sA hs rfl fun hs => za0 <| hK2 <| zax ?_
 obtain rfl := Option.some.inj hm
 refine RtV1 hs rfl (rv_t hs rfl) ?_
 exact ⟨rfl,((hs.subL (.cons _ (.refl _))).weak hle).cw⟩
def zja : Option Bool :=
  some true
def zgu (p0 : ByteArray) : Nat → Nat → Option Bool
  | 0, _ => none
  | k4 + 1, y3 =>
  (bif decide (y3 < p0.size) then (bif ((decide (((Utf8.decode p0 y3).1 : Int) ≠ 9)) && ((decide (((Utf8.decode p0 y3).1 : Int) ≠ 10)) && ((decide (((Utf8.decode p0 y3).1 : Int) ≠ 12)) && (decide (((Utf8.decode p0 y3).1 : Int) ≠ 32))))) then some false else
  (zgu p0 k4) (y3 + (Utf8.decode p0 y3).2)) else
  zja)
def zll (n : Nat) (p0 : ByteArray) : Option Bool :=
  zgu p0 n (0 : Nat)
theorem zoe (n : Nat) {f : Fz} {p0 : ByteArray} {res : Bool}  (hm : zll n p0 = some res) : Gives Tryz.prog 69 [.string p0] f (.bool res) := by
 unfold zll at hm
 intro w0 L w hC
 refine enter Tryz.func69 rfl Tryz.ntmps69 (by simp) hC fun a hs => ?_
 have hle := Fz.le.refl f
 refine Wq fun hK1 => sA hs rfl fun hs => za0 <| hK1 <| Ws fun hK2 => Wq fun hK3 => sM hs rfl fun hs => zql hs rfl U9 fun b1 _ _ hs => ?_
 refine za0 <| hK3 ?_
 refine zaq (fun a w => zja = some res ∧ St 24 w0 f (L) [] a w) ?_ ?_
 ·clear hs hm
  rintro a w ⟨hm, hs⟩
  unfold zja at hm
  refine hK2 <| Wq fun hK4 => sA hs rfl fun hs => za0 <| hK4 <| zax ?_
  obtain rfl := Option.some.inj hm
  refine RtV1 hs rfl (rv_t hs rfl) ?_
  exact ⟨rfl,(hs.weak hle).cw⟩
 refine zam fun Qe5 hB5 hO5 => zd1 (fun (k : Nat) a w => ∃ (y3 : Nat), zgu p0 k y3 = some res ∧ St 24 w0 f (.blk b1 (.stringIter p0 y3) :: L) [(6, pq b1 0)] a w) (fun k => k) n ⟨(0 : Nat), hm, hs.sub ⟨rfl, trivial⟩⟩ ?_
 clear hs hm
 intro k
 rintro a w ⟨y3, hm, hs⟩
 intro K6 hK6
 cases k with
 | zero => simp [zgu] at hm
 | succ k4 =>
  rw [zgu] at hm
  refine Ws fun hK7 => za2 ?_
  refine zsm (i := 0) hs rfl rfl (fun hg5 => ?_) (fun hg5 => ?_)
  ·replace hm := oc_t (decide_eq_true hg5) hm; clear hs; (try clear a w); intro a w hs
   refine s1 (v := .bool (true)) hs (zap rfl rfl) fun hs => za0 <| hK7 <| Ws fun hK8 => zdq hs rfl <| zaj <| hK8 <| zam fun Qe9 hB9 hO9 => Ws fun hK10 => za2 ?_
   refine s1 (v := .int .i32 (((Utf8.decode p0 y3).1 : Int))) hs (zap rfl rfl) fun hs => sA hs rfl fun hs => za0 <| hK10 <| Ws fun hK11 => ?_
   refine zaq (fun a w => St 24 w0 f (.blk b1 (.stringIter p0 (y3 + (Utf8.decode p0 y3).2)) :: L) [(6, pq b1 0),(23, .bool (((decide (((Utf8.decode p0 y3).1 : Int) ≠ 9)) && ((decide (((Utf8.decode p0 y3).1 : Int) ≠ 10)) && ((decide (((Utf8.decode p0 y3).1 : Int) ≠ 12)) && (decide (((Utf8.decode p0 y3).1 : Int) ≠ 32)))))))] a w) ?_ ?_
   ·clear hs; intro a w hs
    refine hK11 ?_
    refine zah hs rfl (fun hg6 => ?_) (fun hg6 => ?_)
    ·replace hm := oc_t hg6 hm
     refine Wq fun hK12 => sA hs rfl fun hs => za0 <| hK12 <| zax ?_
     obtain rfl := Option.some.inj hm
     refine RtV1 hs rfl (rv_t hs rfl) ?_
     exact ⟨rfl,((hs.subL (.cons _ (.refl _))).weak hle).cw⟩
    replace hm := oc_f hg6 hm
    refine zaj ?_
    exact hK6 k4 _ _ (Nat.lt_succ_self _) ⟨(y3 + (Utf8.decode p0 y3).2), hm, hs.sub ⟨rfl, trivial⟩⟩
   refine za2 <| sM hs rfl fun hs => s1 hs (zeo rfl rfl) fun hs => sM hs rfl fun hs => ?_
   refine St.split hs (t := 12) rfl (fun hg7 hs => ?_) (fun hg7 hs => ?_)
   ·refine s2 (v := .int .i32 (((Utf8.decode p0 y3).1 : Int))) hs (za3 rfl) fun hs => s2 hs (zeo rfl rfl) fun hs => sP hs rfl rfl fun hs => sM hs rfl fun hs => ?_
    refine St.split hs (t := 16) rfl (fun hg8 hs => ?_) (fun hg8 hs => ?_)
    ·refine s2 (v := .int .i32 (((Utf8.decode p0 y3).1 : Int))) hs (za3 rfl) fun hs => s2 hs (zeo rfl rfl) fun hs => sP hs rfl rfl fun hs => sM hs rfl fun hs => ?_
     refine St.split hs (t := 20) rfl (fun hg9 hs => ?_) (fun hg9 hs => ?_)
     ·refine s2 (v := .int .i32 (((Utf8.decode p0 y3).1 : Int))) hs (za3 rfl) fun hs => s2 hs (zeo rfl rfl) fun hs => sP hs rfl rfl fun hs => za0 ?_
      exact hs.sub ⟨rfl,(lkB (((zj0 hg7).trans ((zj0 hg8).trans ((zj0 hg9).trans rfl)))) rfl), trivial⟩
     refine s3 hs fun hs => s3 hs fun hs => sP hs rfl rfl fun hs => za0 ?_
     exact hs.sub ⟨rfl,(lkB (((zj0 hg7).trans ((zj0 hg8).trans ((zmd hg9).trans rfl)))) rfl), trivial⟩
    refine s3 hs fun hs => s3 hs fun hs => sP hs rfl rfl fun hs => sM hs rfl fun hs => s3 hs fun hs => s3 hs fun hs => sP hs rfl rfl fun hs => za0 ?_
    exact hs.sub ⟨rfl,(lkB (((zj0 hg7).trans ((zmd hg8).trans rfl))) rfl), trivial⟩
   refine s3 hs fun hs => s3 hs fun hs => sP hs rfl rfl fun hs => sM hs rfl fun hs => s3 hs fun hs => s3 hs fun hs => sP hs rfl rfl fun hs => sM hs rfl fun hs => s3 hs fun hs => s3 hs fun hs => ?_
   refine sP hs rfl rfl fun hs => za0 ?_
   exact hs.sub ⟨rfl,(lkB (((zmd hg7).trans rfl)) rfl), trivial⟩
  replace hm := oc_f (decide_eq_false (Nat.not_lt.2 hg5)) hm; clear hs; (try clear a w); intro a w hs
  refine s1 (v := .bool (false)) hs (zap rfl rfl) fun hs => za0 <| hK7 <| Ws fun hK13 => zdj hs rfl <| zc0 <| hB5 _ _ ?_
  exact ⟨hm, hs.subs trivial (.cons _ (.refl _))⟩
end Go.Proofs.YtpfdbeafdjnbnaaGreatDoor
