/-
  Walks and laws of this seat.
-/
import Derived.Test.YtpfdbeafdjnbnaaGreatDoorBash
import Derived.Test.YtpfdbeafdjnbnaaGreatDoorX0
import Derived.Test.YtpfdbeafdjnbnaaGreatDoorRows
namespace Go.V
set_option linter.unusedVariables false
set_option linter.unusedSimpArgs false
set_option linter.unusedSectionVars false
open Go.RowKit Go.Sl
variable {α β : Type}
def T (F : Nat → Nat → Option α) (Q : α → Prop) : Prop := ∃ r, Q r ∧ ∃ K, ∀ k n, K ≤ k → K ≤ n → F k n = some r
theorem T.some {r : α} {Q : α → Prop} (h : Q r) : T (fun _ _ => some r) Q := ⟨r, h,0, fun _ _ _ _ => rfl⟩
theorem T.bind {m : Nat → Nat → Option α} {G : Nat → Nat → α → Option β} {P : α → Prop} {Q : β → Prop} (h : T m P) (g : ∀ r, P r → T (fun k n => G k n r) Q) : T (fun k n => (m k n).bind fun r => G k n r) Q := by
  obtain ⟨r, h1, K, h2⟩ := h
  obtain ⟨s, g1, K2, g2⟩ := g r h1
  refine ⟨s, g1, K + K2, fun k n hk hn => ?_⟩
  show (m k n).bind _ = _
  rw [h2 k n (by omega) (by omega)]
  exact g2 k n (by omega) (by omega)
theorem T.bif {b : Bool} {x y : Nat → Nat → Option α} {Q : α → Prop} (h1 : b = true → T x Q) (h2 : b = false → T y Q) : T (fun k n => bif b then x k n else y k n) Q := by
  cases b with
  | true => exact h1 rfl
  | false => exact h2 rfl
theorem T.dec {p : Prop} [Decidable p] {x y : Nat → Nat → Option α} {Q : α → Prop} (h1 : p → T x Q) (h2 : ¬ p → T y Q) : T (fun k n => bif decide p then x k n else y k n) Q := by
  by_cases h : p
  · simpa [h] using h1 h
  · simpa [h] using h2 h
theorem T.app {b : Nat} {xs ys : List α} {G : Nat → Nat → List α → Option β} {Q : β → Prop} (h : (xs.length + ys.length) * b ≤ 140737488355328) (h' : xs.length + ys.length ≤ 9223372036854775807) (g : T (fun k n => G k n (xs ++ ys)) Q) : T (fun k n => (appM b xs ys).bind fun r => G k n r) Q := by
  have e : appM b xs ys = .some (xs ++ ys) := by simp [appM, roomB, h, h']
  rw [e]; exact g
theorem T.cut {xs : List α} {lo hi : Int} {G : Nat → Nat → List α → Option β} {Q : β → Prop} (h0 : 0 ≤ lo) (h1 : lo ≤ hi) (h2 : hi ≤ xs.length) (g : ∀ r : List α, r = (xs.take hi.toNat).drop lo.toNat → (r.length : Int) = hi - lo → T (fun k n => G k n r) Q) : T (fun k n => (cutM xs lo hi).bind fun r => G k n r) Q := by
  have e : cutM xs lo hi = .some ((xs.take hi.toNat).drop lo.toNat) := by simp [cutM, h0, h1, h2]
  rw [e]
  exact g _ rfl (by simp; omega)
theorem T.step {F : Nat → Nat → Option α} {Q : α → Prop} (h : T (fun k n => F k (n + 1)) Q) : T F Q := by
  obtain ⟨r, h1, K, h2⟩ := h
  refine ⟨r, h1, K + 1, fun k n hk hn => ?_⟩
  obtain ⟨m, rfl⟩ : ∃ m, n = m + 1 := ⟨n - 1, by omega⟩
  exact h2 k m (by omega) (by omega)
theorem T.diag {F : Nat → Nat → Option α} {Q : α → Prop} (h : T F Q) : T (fun k _ => F k k) Q := by
  obtain ⟨r, h1, K, h2⟩ := h
  exact ⟨r, h1, K, fun k n hk hn => h2 k k hk hk⟩
theorem T.mono {F : Nat → Nat → Option α} {P Q : α → Prop} (h : T F P) (g : ∀ r, P r → Q r) : T F Q := by
  obtain ⟨r, h1, h2⟩ := h
  exact ⟨r, g r h1, h2⟩
theorem T.of {m : Option α} {P : α → Prop} {r : α} (h : m = .some r) (hP : P r) : T (fun _ _ => m) P := ⟨r, hP,0, fun _ _ _ _ => h⟩
end Go.V
namespace Go.Proofs.YtpfdbeafdjnbnaaGreatDoor
set_option linter.unusedVariables false
set_option linter.unusedSimpArgs false
set_option linter.unusedSectionVars false
set_option maxHeartbeats 4000000
set_option maxRecDepth 100000
open Go.RowKit Go.Sl
def ze0 : Option Int :=
  some (-1)
def zas (p0 : (List ByteArray)) (p1 : ByteArray) : Nat → Int → Option Int
  | 0, _ => none
  | k6 + 1, y5 =>
  (bif (decide (y5 < (p0.length : Int))) then (geti p0 y5).bind fun x8 =>
  (bif (decide (p1 = x8)) then some y5 else
  (zas p0 p1 k6) (w64 (y5 + 1))) else
  ze0)
def zci (n : Nat) (p0 : (List ByteArray)) (p1 : ByteArray) : Option Int :=
  zas p0 p1 n 0
theorem zie (n : Nat) {f : Fz} {p0 : (List ByteArray)} {a0 : Value} {p1 : ByteArray} {res : Int} (h0 : RS tStr f a0 p0) (hm : zci n p0 p1 = some res) : Gives Tryz.prog 37 [a0, .string p1] f (.int .i64 res) := by
 unfold zci at hm
 intro w0 L w hC
 obtain ⟨rw1, hR2, hW3⟩ := h0
 refine enter Tryz.func37 rfl Tryz.ntmps37 (by simp) hC fun a hs => ?_
 have hle := Fz.le.refl f
 refine Wq fun hK1 => sA hs rfl fun hs => za0 <| hK1 <| Ws fun hK2 => Wq fun hK3 => sM hs rfl fun hs => s1 hs (zc3 hR2 hW3 rfl U47) fun hs => ?_
 refine sM hs rfl fun hs => za0 <| hK3 ?_
 refine zaq (fun a w => ze0 = some res ∧ St 19 w0 f (L) [] a w) ?_ ?_
 ·clear hs hm
  rintro a w ⟨hm, hs⟩
  unfold ze0 at hm
  refine hK2 <| Wq fun hK4 => sA hs rfl fun hs => za0 <| hK4 <| zax ?_
  obtain rfl := Option.some.inj hm
  refine RtV1 hs rfl (rv_t hs rfl) ?_
  exact ⟨rfl,(hs.weak hle).cw⟩
 refine zam fun Qe5 hB5 hO5 => zd1 (fun (k : Nat) a w => ∃ (y5 : Int), zas p0 p1 k y5 = some res ∧ St 19 w0 f (L) [(0, a0),(1, .string (p1)),(7, .int .i64 ((p0.length : Int))),(8, .int .i64 (y5))] a w) (fun k => k) n ⟨0, hm, hs.sub ⟨rfl, rfl, rfl, rfl, trivial⟩⟩ ?_
 clear hs hm
 intro k
 rintro a w ⟨y5, hm, hs⟩
 intro K6 hK6
 cases k with
 | zero => simp [zas] at hm
 | succ k6 =>
  rw [zas] at hm
  refine Wq fun hK7 => s1 hs (zgq rfl rfl) fun hs => za0 <| hK7 <| Ws fun hK8 => ?_
  refine zah hs rfl (fun hg7 => ?_) (fun hg7 => ?_)
  ·replace hm := oc_t hg7 hm
   refine zaj <| hK8 <| Ws fun hK9 => zam fun Qe10 hB10 hO10 => Wq fun hK11 => sM hs rfl fun hs => sA hs rfl fun hs => za0 <| hK11 ?_
   refine Wq fun hK12 => sM hs rfl fun hs => sM hs rfl fun hs => sM hs rfl fun hs => ?_
   obtain ⟨x8, hx9, hm⟩ := ob hm
   obtain ⟨r10, hr11, hq12, hi13, hb14⟩ := hW3.geti hx9
   obtain rfl : _ = ([.string (x8)] : List Value) := hq12
   refine s1 hs (zac hR2 rfl rfl hi13 hb14 U47 ti9) fun hs => s1 (v := .string (x8)) hs (zbm (i := y5.toNat) (j := 0) hR2.up rfl hr11 rfl U9 rfl) fun hs => s1 hs (zcs rfl rfl) fun hs => za0 <| hK12 ?_
   refine zah hs rfl (fun hg15 => ?_) (fun hg15 => ?_)
   ·replace hm := oc_t hg15 hm
    refine Wq fun hK13 => sM hs rfl fun hs => sA hs rfl fun hs => za0 <| hK13 <| zax ?_
    obtain rfl := Option.some.inj hm
    refine RtV1 hs rfl (rv_t hs rfl) ?_
    exact ⟨rfl,(hs.weak hle).cw⟩
   replace hm := oc_f hg15 hm
   refine zaj <| hK9 <| za2 <| s1 hs (zdz rfl rfl rfl) fun hs => sM hs rfl fun hs => za0 ?_
   exact hK6 k6 _ _ (Nat.lt_succ_self _) ⟨(w64 (y5 + 1)), hm, hs.sub ⟨rfl, rfl, rfl, rfl, trivial⟩⟩
  replace hm := oc_f hg7 hm
  refine zc0 <| hB5 _ _ ?_
  exact ⟨hm, hs.sub trivial⟩
def zat (n : Nat) (p0 : (List ByteArray)) (p1 : ByteArray) : Option Bool :=
  (zci n p0 p1).bind fun x5 =>
  some (decide (0 ≤ x5))
theorem zbs (n : Nat) {f : Fz} {p0 : (List ByteArray)} {a0 : Value} {p1 : ByteArray} {res : Bool} (h0 : RS tStr f a0 p0) (hm : zat n p0 p1 = some res) : Gives Tryz.prog 19 [a0, .string p1] f (.bool res) := by
 unfold zat at hm
 intro w0 L w hC
 obtain ⟨rw1, hR2, hW3⟩ := h0
 refine enter Tryz.func19 rfl Tryz.ntmps19 (by simp) hC fun a hs => ?_
 have hle := Fz.le.refl f
 refine Wq fun hK1 => sA hs rfl fun hs => za0 <| hK1 <| Wq fun hK2 => sM hs rfl fun hs => sM hs rfl fun hs => ?_
 obtain ⟨x5, hx6, hm⟩ := ob hm
 refine s1 hs (zbi rfl has37 rfl (zie n ⟨rw1, hR2, hW3⟩ hx6)) fun hs => s1 hs (zkf rfl rfl) fun hs => sA hs rfl fun hs => za0 <| hK2 <| zax ?_
 obtain rfl := Option.some.inj hm
 refine RtV1 hs rfl (rv_t hs rfl) ?_
 exact ⟨rfl,(hs.weak hle).cw⟩
def zid (n : Nat) (p0 : ByteArray) (p1 : (List ByteArray)) : Option Bool :=
  (zat n p1 p0).bind fun x5 =>
  some x5
theorem zhu (n : Nat) {f : Fz} {p0 : ByteArray} {p1 : (List ByteArray)} {a1 : Value} {res : Bool} (h1 : RS tStr f a1 p1) (hm : zid n p0 p1 = some res) : Gives Tryz.prog 40 [.string p0, a1] f (.bool res) := by
 unfold zid at hm
 intro w0 L w hC
 obtain ⟨rw1, hR2, hW3⟩ := h1
 refine enter Tryz.func40 rfl Tryz.ntmps40 (by simp) hC fun a hs => ?_
 have hle := Fz.le.refl f
 refine Wq fun hK1 => sA hs rfl fun hs => za0 <| hK1 <| Wq fun hK2 => sM hs rfl fun hs => sM hs rfl fun hs => ?_
 obtain ⟨x5, hx6, hm⟩ := ob hm
 refine s1 hs (zbi rfl has19 rfl (zbs n ⟨rw1, hR2, hW3⟩ hx6)) fun hs => sA hs rfl fun hs => za0 <| hK2 <| zax ?_
 obtain rfl := Option.some.inj hm
 refine RtV1 hs rfl (rv_t hs rfl) ?_
 exact ⟨rfl,(hs.weak hle).cw⟩
def zgc (n : Nat) (p0 : ByteArray) : Option Bool :=
  (zid n p0 [(bs [98,114]),(bs [104,114]),(bs [105,109,103]),(bs [105,110,112,117,116]),(bs [108,105,110,107]),(bs [109,101,116,97])]).bind fun x6 =>
  some x6
theorem zj5 (n : Nat) {f : Fz} {p0 : ByteArray} {res : Bool}  (hm : zgc n p0 = some res) : Gives Tryz.prog 23 [.string p0] f (.bool res) := by
 unfold zgc at hm
 intro w0 L w hC
 refine enter Tryz.func23 rfl Tryz.ntmps23 (by simp) hC fun a hs => ?_
 have hle := Fz.le.refl f
 refine Wq fun hK1 => sA hs rfl fun hs => za0 <| hK1 <| Wq fun hK2 => sM hs rfl fun hs => ?_
 refine zjv (parts := [(0, .const (.string (bs [98,114]))),(1, .const (.string (bs [104,114]))),(2, .const (.string (bs [105,109,103]))),(3, .const (.string (bs [105,110,112,117,116]))),(4, .const (.string (bs [108,105,110,107]))),(5, .const (.string (bs [109,101,116,97])))]) (us := [.string ((bs [98,114])), .string ((bs [104,114])), .string ((bs [105,109,103])), .string ((bs [105,110,112,117,116])), .string ((bs [108,105,110,107])), .string ((bs [109,101,116,97]))]) (rows := [[.string ((bs [98,114]))],[.string ((bs [104,114]))],[.string ((bs [105,109,103]))],[.string ((bs [105,110,112,117,116]))],[.string ((bs [108,105,110,107]))],[.string ((bs [109,101,116,97]))]]) hs rfl U47 ti9 (by decide) rfl rfl (by intro r hr; simp only [List.mem_cons, List.mem_nil_iff, or_false] at hr; rcases hr with rfl | rfl | rfl | rfl | rfl | rfl; exact AllC.row ⟨rfl, trivial⟩ rfl; exact AllC.row ⟨rfl, trivial⟩ rfl; exact AllC.row ⟨rfl, trivial⟩ rfl; exact AllC.row ⟨rfl, trivial⟩ rfl; exact AllC.row ⟨rfl, trivial⟩ rfl; exact AllC.row ⟨rfl, trivial⟩ rfl) fun v1 _ _ hs => ?_
 have hW2 : RW tStr f [[.string ((bs [98,114]))],[.string ((bs [104,114]))],[.string ((bs [105,109,103]))],[.string ((bs [105,110,112,117,116]))],[.string ((bs [108,105,110,107]))],[.string ((bs [109,101,116,97]))]] [(bs [98,114]),(bs [104,114]),(bs [105,109,103]),(bs [105,110,112,117,116]),(bs [108,105,110,107]),(bs [109,101,116,97])] := ⟨rfl, ⟨rfl, ⟨rfl, ⟨rfl, ⟨rfl, ⟨rfl, trivial⟩⟩⟩⟩⟩⟩
 generalize hgrw3 : ([[.string ((bs [98,114]))],[.string ((bs [104,114]))],[.string ((bs [105,109,103]))],[.string ((bs [105,110,112,117,116]))],[.string ((bs [108,105,110,107]))],[.string ((bs [109,101,116,97]))]] : List (List Value)) = rw3 at hs hW2; clear hgrw3
 obtain ⟨x6, hx7, hm⟩ := ob hm
 refine sy hs (zdr (cap := []) rfl has40 rfl (fun w9 hw9 => callsP (Lr := [.row v1 9 1 rw3]) (Lf := L) (zal _ 0 rfl) hw9 (fun Lz w9 hw9 => lent0 hw9 (fun f9_0 w9 hle9_0 hRl0 hw9 => (zhu n ⟨rw3, hRl0, hW2.le hle9_0⟩ hx7) w0 _ w9 hw9)))) fun _ _ hs => sA hs rfl fun hs => za0 <| hK2 <| zax ?_
 obtain rfl := Option.some.inj hm
 refine RtV1 hs rfl (rv_t hs rfl) ?_
 exact ⟨rfl,((hs.subL (.cons _ (.refl _))).weak hle).cw⟩
def zep (_n : Nat) (p0 : ByteArray) : Option ByteArray :=
  (bif (decide (p0 = (bs [116,114]))) then some (bs [116,97,98,108,101]) else
  (bif (decide (p0 = (bs [116,100]))) then some (bs [116,114]) else
  (bif (decide (p0 = (bs [108,105]))) then some (bs [117,108]) else
  some (bs []))))
theorem zg8 (n : Nat) {f : Fz} {p0 : ByteArray} {res : ByteArray}  (hm : zep n p0 = some res) : Gives Tryz.prog 20 [.string p0] f (.string res) := by
 unfold zep at hm
 intro w0 L w hC
 refine enter Tryz.func20 rfl Tryz.ntmps20 (by simp) hC fun a hs => ?_
 have hle := Fz.le.refl f
 refine Wq fun hK1 => sA hs rfl fun hs => za0 <| hK1 <| Ws fun hK2 => Wq fun hK3 => sM hs rfl fun hs => za0 ?_
 refine hK3 <| zam fun Qe4 hB4 hO4 => Wq fun hK5 => s1 hs (zcs rfl rfl) fun hs => sA hs rfl fun hs => za0 <| hK5 ?_
 refine zah hs rfl (fun hg1 => ?_) (fun hg1 => ?_)
 ·replace hm := oc_t hg1 hm
  refine Wq fun hK6 => sA hs rfl fun hs => za0 <| hK6 <| zax ?_
  obtain rfl := Option.some.inj hm
  refine RtV1 hs rfl (rv_t hs rfl) ?_
  exact ⟨rfl,(hs.weak hle).cw⟩
 replace hm := oc_f hg1 hm
 refine Wq fun hK7 => s1 hs (zcs rfl rfl) fun hs => sA hs rfl fun hs => za0 <| hK7 ?_
 refine zah hs rfl (fun hg2 => ?_) (fun hg2 => ?_)
 ·replace hm := oc_t hg2 hm
  refine Wq fun hK8 => sA hs rfl fun hs => za0 <| hK8 <| zax ?_
  obtain rfl := Option.some.inj hm
  refine RtV1 hs rfl (rv_t hs rfl) ?_
  exact ⟨rfl,(hs.weak hle).cw⟩
 replace hm := oc_f hg2 hm
 refine Wq fun hK9 => s1 hs (zcs rfl rfl) fun hs => sA hs rfl fun hs => za0 <| hK9 ?_
 refine zah hs rfl (fun hg3 => ?_) (fun hg3 => ?_)
 ·replace hm := oc_t hg3 hm
  refine Wq fun hK10 => sA hs rfl fun hs => za0 <| hK10 <| zax ?_
  obtain rfl := Option.some.inj hm
  refine RtV1 hs rfl (rv_t hs rfl) ?_
  exact ⟨rfl,(hs.weak hle).cw⟩
 replace hm := oc_f hg3 hm
 refine zaj <| hK2 <| Wq fun hK11 => sA hs rfl fun hs => za0 <| hK11 <| zax ?_
 obtain rfl := Option.some.inj hm
 refine RtV1 hs rfl (rv_t hs rfl) ?_
 exact ⟨rfl,(hs.weak hle).cw⟩
def zio (n : Nat) (p0 : ByteArray) : Option Bool :=
  (zat n [(bs [97]),(bs [98]),(bs [98,114]),(bs [100,105,118]),(bs [101,109]),(bs [104,49]),(bs [104,114]),(bs [105]),(bs [105,109,103]),(bs [108,105]),(bs [112]),(bs [115,112,97,110]),(bs [116,97,98,108,101]),(bs [116,100]),(bs [116,114]),(bs [117]),(bs [117,108])] p0).bind fun x6 =>
  some x6
theorem zod (n : Nat) {f : Fz} {p0 : ByteArray} {res : Bool}  (hm : zio n p0 = some res) : Gives Tryz.prog 22 [.string p0] f (.bool res) := by
 unfold zio at hm
 intro w0 L w hC
 refine enter Tryz.func22 rfl Tryz.ntmps22 (by simp) hC fun a hs => ?_
 have hle := Fz.le.refl f
 refine Wq fun hK1 => sA hs rfl fun hs => za0 <| hK1 <| Ws fun hK2 => za2 ?_
 refine zjv (parts := [(0, .const (.string (bs [97]))),(1, .const (.string (bs [98]))),(2, .const (.string (bs [98,114]))),(3, .const (.string (bs [100,105,118]))),(4, .const (.string (bs [101,109]))),(5, .const (.string (bs [104,49]))),(6, .const (.string (bs [104,114]))),(7, .const (.string (bs [105]))),(8, .const (.string (bs [105,109,103]))),(9, .const (.string (bs [108,105]))),(10, .const (.string (bs [112]))),(11, .const (.string (bs [115,112,97,110]))),(12, .const (.string (bs [116,97,98,108,101]))),(13, .const (.string (bs [116,100]))),(14, .const (.string (bs [116,114]))),(15, .const (.string (bs [117]))),(16, .const (.string (bs [117,108])))]) (us := [.string ((bs [97])), .string ((bs [98])), .string ((bs [98,114])), .string ((bs [100,105,118])), .string ((bs [101,109])), .string ((bs [104,49])), .string ((bs [104,114])), .string ((bs [105])), .string ((bs [105,109,103])), .string ((bs [108,105])), .string ((bs [112])), .string ((bs [115,112,97,110])), .string ((bs [116,97,98,108,101])), .string ((bs [116,100])), .string ((bs [116,114])), .string ((bs [117])), .string ((bs [117,108]))]) (rows := [[.string ((bs [97]))],[.string ((bs [98]))],[.string ((bs [98,114]))],[.string ((bs [100,105,118]))],[.string ((bs [101,109]))],[.string ((bs [104,49]))],[.string ((bs [104,114]))],[.string ((bs [105]))],[.string ((bs [105,109,103]))],[.string ((bs [108,105]))],[.string ((bs [112]))],[.string ((bs [115,112,97,110]))],[.string ((bs [116,97,98,108,101]))],[.string ((bs [116,100]))],[.string ((bs [116,114]))],[.string ((bs [117]))],[.string ((bs [117,108]))]]) hs rfl U47 ti9 (by decide) rfl rfl (by intro r hr; simp only [List.mem_cons, List.mem_nil_iff, or_false] at hr; rcases hr with rfl | rfl | rfl | rfl | rfl | rfl | rfl | rfl | rfl | rfl | rfl | rfl | rfl | rfl | rfl | rfl | rfl; exact AllC.row ⟨rfl, trivial⟩ rfl; exact AllC.row ⟨rfl, trivial⟩ rfl; exact AllC.row ⟨rfl, trivial⟩ rfl; exact AllC.row ⟨rfl, trivial⟩ rfl; exact AllC.row ⟨rfl, trivial⟩ rfl; exact AllC.row ⟨rfl, trivial⟩ rfl; exact AllC.row ⟨rfl, trivial⟩ rfl; exact AllC.row ⟨rfl, trivial⟩ rfl; exact AllC.row ⟨rfl, trivial⟩ rfl; exact AllC.row ⟨rfl, trivial⟩ rfl; exact AllC.row ⟨rfl, trivial⟩ rfl; exact AllC.row ⟨rfl, trivial⟩ rfl; exact AllC.row ⟨rfl, trivial⟩ rfl; exact AllC.row ⟨rfl, trivial⟩ rfl; exact AllC.row ⟨rfl, trivial⟩ rfl; exact AllC.row ⟨rfl, trivial⟩ rfl; exact AllC.row ⟨rfl, trivial⟩ rfl) fun v1 _ _ hs => ?_
 have hW2 : RW tStr f [[.string ((bs [97]))],[.string ((bs [98]))],[.string ((bs [98,114]))],[.string ((bs [100,105,118]))],[.string ((bs [101,109]))],[.string ((bs [104,49]))],[.string ((bs [104,114]))],[.string ((bs [105]))],[.string ((bs [105,109,103]))],[.string ((bs [108,105]))],[.string ((bs [112]))],[.string ((bs [115,112,97,110]))],[.string ((bs [116,97,98,108,101]))],[.string ((bs [116,100]))],[.string ((bs [116,114]))],[.string ((bs [117]))],[.string ((bs [117,108]))]] [(bs [97]),(bs [98]),(bs [98,114]),(bs [100,105,118]),(bs [101,109]),(bs [104,49]),(bs [104,114]),(bs [105]),(bs [105,109,103]),(bs [108,105]),(bs [112]),(bs [115,112,97,110]),(bs [116,97,98,108,101]),(bs [116,100]),(bs [116,114]),(bs [117]),(bs [117,108])] := ⟨rfl, ⟨rfl, ⟨rfl, ⟨rfl, ⟨rfl, ⟨rfl, ⟨rfl, ⟨rfl, ⟨rfl, ⟨rfl, ⟨rfl, ⟨rfl, ⟨rfl, ⟨rfl, ⟨rfl, ⟨rfl, ⟨rfl, trivial⟩⟩⟩⟩⟩⟩⟩⟩⟩⟩⟩⟩⟩⟩⟩⟩⟩
 generalize hgrw3 : ([[.string ((bs [97]))],[.string ((bs [98]))],[.string ((bs [98,114]))],[.string ((bs [100,105,118]))],[.string ((bs [101,109]))],[.string ((bs [104,49]))],[.string ((bs [104,114]))],[.string ((bs [105]))],[.string ((bs [105,109,103]))],[.string ((bs [108,105]))],[.string ((bs [112]))],[.string ((bs [115,112,97,110]))],[.string ((bs [116,97,98,108,101]))],[.string ((bs [116,100]))],[.string ((bs [116,114]))],[.string ((bs [117]))],[.string ((bs [117,108]))]] : List (List Value)) = rw3 at hs hW2; clear hgrw3
 refine sM hs rfl fun hs => ?_
 obtain ⟨x6, hx7, hm⟩ := ob hm
 refine sy hs (zdr (cap := []) rfl has19 rfl (fun w9 hw9 => callsP (Lr := [.row v1 9 1 rw3]) (Lf := L) (zal _ 0 rfl) hw9 (fun Lz w9 hw9 => lent0 hw9 (fun f9_0 w9 hle9_0 hRl0 hw9 => (zbs n ⟨rw3, hRl0, hW2.le hle9_0⟩ hx7) w0 _ w9 hw9)))) fun _ _ hs => sA hs rfl fun hs => za0 <| hK2 <| zax ?_
 obtain rfl := Option.some.inj hm
 refine RtV1 hs rfl (rv_t hs rfl) ?_
 exact ⟨rfl,((hs.subL (.cons _ (.refl _))).weak hle).cw⟩
def zg3 (p0 : ByteArray) : Option Bool :=
  some (decide (p0 ≠ (bs [])))
def zb9 (p0 : ByteArray) : Nat → Nat → Option Bool
  | 0, _ => none
  | k4 + 1, y3 =>
  (bif decide (y3 < p0.size) then (bif (bif (decide (97 ≤ ((Utf8.decode p0 y3).1 : Int))) then (bif (decide (((Utf8.decode p0 y3).1 : Int) ≤ 122)) then false else (bif (decide (0 < (y3 : Int))) then (bif (decide (48 ≤ ((Utf8.decode p0 y3).1 : Int))) then (bif (decide (((Utf8.decode p0 y3).1 : Int) ≤ 57)) then false else (!(decide (((Utf8.decode p0 y3).1 : Int) = 45)))) else (!(decide (((Utf8.decode p0 y3).1 : Int) = 45)))) else true)) else (bif (decide (0 < (y3 : Int))) then (bif (decide (48 ≤ ((Utf8.decode p0 y3).1 : Int))) then (bif (decide (((Utf8.decode p0 y3).1 : Int) ≤ 57)) then false else (!(decide (((Utf8.decode p0 y3).1 : Int) = 45)))) else (!(decide (((Utf8.decode p0 y3).1 : Int) = 45)))) else true)) then some false else
  (zb9 p0 k4) (y3 + (Utf8.decode p0 y3).2)) else
  zg3 p0)
def zed (n : Nat) (p0 : ByteArray) : Option Bool :=
  zb9 p0 n (0 : Nat)
theorem zlv (n : Nat) {f : Fz} {p0 : ByteArray} {res : Bool}  (hm : zed n p0 = some res) : Gives Tryz.prog 24 [.string p0] f (.bool res) := by
 unfold zed at hm
 intro w0 L w hC
 refine enter Tryz.func24 rfl Tryz.ntmps24 (by simp) hC fun a hs => ?_
 have hle := Fz.le.refl f
 refine Wq fun hK1 => sA hs rfl fun hs => za0 <| hK1 <| Ws fun hK2 => Wq fun hK3 => sM hs rfl fun hs => zql hs rfl U9 fun b1 _ _ hs => ?_
 refine za0 <| hK3 ?_
 refine zaq (fun a w => zg3 p0 = some res ∧ St 36 w0 f (L) [(0, .string (p0))] a w) ?_ ?_
 ·clear hs hm
  rintro a w ⟨hm, hs⟩
  unfold zg3 at hm
  refine hK2 <| Wq fun hK4 => sM hs rfl fun hs => s1 hs (zhr rfl rfl) fun hs => sA hs rfl fun hs => za0 <| hK4 <| zax ?_
  obtain rfl := Option.some.inj hm
  refine RtV1 hs rfl (rv_t hs rfl) ?_
  exact ⟨rfl,(hs.weak hle).cw⟩
 refine zam fun Qe5 hB5 hO5 => zd1 (fun (k : Nat) a w => ∃ (y3 : Nat), zb9 p0 k y3 = some res ∧ St 36 w0 f (.blk b1 (.stringIter p0 y3) :: L) [(0, .string (p0)),(6, pq b1 0)] a w) (fun k => k) n ⟨(0 : Nat), hm, hs.sub ⟨rfl, rfl, trivial⟩⟩ ?_
 clear hs hm
 intro k
 rintro a w ⟨y3, hm, hs⟩
 intro K6 hK6
 cases k with
 | zero => simp [zb9] at hm
 | succ k4 =>
  rw [zb9] at hm
  refine Ws fun hK7 => za2 ?_
  refine zsm (i := 0) hs rfl rfl (fun hg5 => ?_) (fun hg5 => ?_)
  ·replace hm := oc_t (decide_eq_true hg5) hm; clear hs; (try clear a w); intro a w hs
   refine s1 (v := .bool (true)) hs (zap rfl rfl) fun hs => za0 <| hK7 <| Ws fun hK8 => zdq hs rfl <| zaj <| hK8 <| zam fun Qe9 hB9 hO9 => Ws fun hK10 => za2 ?_
   refine s1 (v := .int .i64 ((y3 : Int))) hs (zap rfl rfl) fun hs => s1 (v := .int .i32 (((Utf8.decode p0 y3).1 : Int))) hs (zap rfl rfl) fun hs => sA hs rfl fun hs => sA hs rfl fun hs => za0 <| hK10 <| Ws fun hK11 => ?_
   refine zaq (fun a w => St 36 w0 f (.blk b1 (.stringIter p0 (y3 + (Utf8.decode p0 y3).2)) :: L) [(0, .string (p0)),(6, pq b1 0),(33, .bool ((bif (decide (97 ≤ ((Utf8.decode p0 y3).1 : Int))) then (bif (decide (((Utf8.decode p0 y3).1 : Int) ≤ 122)) then false else (bif (decide (0 < (y3 : Int))) then (bif (decide (48 ≤ ((Utf8.decode p0 y3).1 : Int))) then (bif (decide (((Utf8.decode p0 y3).1 : Int) ≤ 57)) then false else (!(decide (((Utf8.decode p0 y3).1 : Int) = 45)))) else (!(decide (((Utf8.decode p0 y3).1 : Int) = 45)))) else true)) else (bif (decide (0 < (y3 : Int))) then (bif (decide (48 ≤ ((Utf8.decode p0 y3).1 : Int))) then (bif (decide (((Utf8.decode p0 y3).1 : Int) ≤ 57)) then false else (!(decide (((Utf8.decode p0 y3).1 : Int) = 45)))) else (!(decide (((Utf8.decode p0 y3).1 : Int) = 45)))) else true))))] a w) ?_ ?_
   ·clear hs; intro a w hs
    refine hK11 ?_
    refine zah hs rfl (fun hg6 => ?_) (fun hg6 => ?_)
    ·replace hm := oc_t hg6 hm
     refine Wq fun hK12 => sA hs rfl fun hs => za0 <| hK12 <| zax ?_
     obtain rfl := Option.some.inj hm
     refine RtV1 hs rfl (rv_t hs rfl) ?_
     exact ⟨rfl,((hs.subL (.cons _ (.refl _))).weak hle).cw⟩
    replace hm := oc_f hg6 hm
    refine zaj ?_
    exact hK6 k4 _ _ (Nat.lt_succ_self _) ⟨(y3 + (Utf8.decode p0 y3).2), hm, hs.sub ⟨rfl, rfl, trivial⟩⟩
   refine za2 <| sM hs rfl fun hs => s1 hs (zkf rfl rfl) fun hs => sM hs rfl fun hs => ?_
   refine St.split hs (t := 13) rfl (fun hg7 hs => ?_) (fun hg7 hs => ?_)
   ·refine s2 (v := .int .i32 (((Utf8.decode p0 y3).1 : Int))) hs (za3 rfl) fun hs => s2 hs (zpj rfl rfl) fun hs => sP hs rfl rfl fun hs => sM hs rfl fun hs => ?_
    refine St.split hs (t := 17) rfl (fun hg8 hs => ?_) (fun hg8 hs => ?_)
    ·refine s3 hs fun hs => s3 hs fun hs => s3 hs fun hs => s4 hs fun hs => s4 hs fun hs => s4 hs fun hs => s4 hs fun hs => s4 hs fun hs => s4 hs fun hs => s4 hs fun hs => ?_
     refine s4 hs fun hs => s4 hs fun hs => s4 hs fun hs => s3 hs fun hs => sP hs rfl rfl fun hs => s1 (v := .bool (false)) hs (zfc (b := true) rfl) fun hs => za0 ?_
     exact hs.sub ⟨rfl, rfl,(lkB (((zjf hg7).trans ((zjf hg8).trans rfl))) rfl), trivial⟩
    refine s2 (v := .int .i64 ((y3 : Int))) hs (za3 rfl) fun hs => s2 hs (zhq rfl rfl) fun hs => s2 (v := .bool (decide (0 < (y3 : Int)))) hs (za3 rfl) fun hs => ?_
    refine St.split hs (t := 20) rfl (fun hg9 hs => ?_) (fun hg9 hs => ?_)
    ·refine s2 (v := .int .i32 (((Utf8.decode p0 y3).1 : Int))) hs (za3 rfl) fun hs => s2 hs (zkf rfl rfl) fun hs => s2 (v := .bool (decide (48 ≤ ((Utf8.decode p0 y3).1 : Int)))) hs (za3 rfl) fun hs => ?_
     refine St.split hs (t := 23) rfl (fun hg10 hs => ?_) (fun hg10 hs => ?_)
     ·refine s2 (v := .int .i32 (((Utf8.decode p0 y3).1 : Int))) hs (za3 rfl) fun hs => s2 hs (zpj rfl rfl) fun hs => s2 (v := .bool (decide (((Utf8.decode p0 y3).1 : Int) ≤ 57))) hs (zaz rfl rfl) fun hs => s2 (v := .bool (decide (((Utf8.decode p0 y3).1 : Int) ≤ 57))) hs (za3 rfl) fun hs => ?_
      refine St.split hs (t := 27) rfl (fun hg11 hs => ?_) (fun hg11 hs => ?_)
      ·refine s3 hs fun hs => s3 hs fun hs => s2 (v := .bool (true)) hs (zaz rfl rfl) fun hs => s2 (v := .bool (true)) hs (zaz rfl rfl) fun hs => sP hs rfl rfl fun hs => s1 (v := .bool (false)) hs (zfc (b := true) rfl) fun hs => za0 ?_
       exact hs.sub ⟨rfl, rfl,(lkB (((zjf hg7).trans ((zl9 hg8).trans ((zjf hg9).trans ((zjf hg10).trans ((zjf hg11).trans rfl)))))) rfl), trivial⟩
      refine s2 (v := .int .i32 (((Utf8.decode p0 y3).1 : Int))) hs (za3 rfl) fun hs => s2 hs (zct rfl rfl) fun hs => s2 (v := .bool (decide (((Utf8.decode p0 y3).1 : Int) = 45))) hs (zaz rfl rfl) fun hs => s2 (v := .bool (decide (((Utf8.decode p0 y3).1 : Int) = 45))) hs (zaz rfl rfl) fun hs => sP hs rfl rfl fun hs => s1 (v := .bool ((!(decide (((Utf8.decode p0 y3).1 : Int) = 45))))) hs (zfc rfl) fun hs => za0 ?_
      exact hs.sub ⟨rfl, rfl,(lkB (((zjf hg7).trans ((zl9 hg8).trans ((zjf hg9).trans ((zjf hg10).trans ((zl9 hg11).trans rfl)))))) rfl), trivial⟩
     refine s3 hs fun hs => s3 hs fun hs => s2 (v := .bool (false)) hs (zaz rfl rfl) fun hs => s2 (v := .bool (false)) hs (za3 rfl) fun hs => s2 (v := .int .i32 (((Utf8.decode p0 y3).1 : Int))) hs (za3 rfl) fun hs => s2 hs (zct rfl rfl) fun hs => s2 (v := .bool (decide (((Utf8.decode p0 y3).1 : Int) = 45))) hs (zaz rfl rfl) fun hs => s2 (v := .bool (decide (((Utf8.decode p0 y3).1 : Int) = 45))) hs (zaz rfl rfl) fun hs => sP hs rfl rfl fun hs => s1 (v := .bool ((!(decide (((Utf8.decode p0 y3).1 : Int) = 45))))) hs (zfc rfl) fun hs => ?_
     refine za0 ?_
     exact hs.sub ⟨rfl, rfl,(lkB (((zjf hg7).trans ((zl9 hg8).trans ((zjf hg9).trans ((zl9 hg10).trans rfl))))) rfl), trivial⟩
    refine s3 hs fun hs => s3 hs fun hs => s3 hs fun hs => s4 hs fun hs => s4 hs fun hs => s3 hs fun hs => s3 hs fun hs => s4 hs fun hs => s4 hs fun hs => s3 hs fun hs => ?_
    refine s2 (v := .bool (false)) hs (zaz rfl rfl) fun hs => sP hs rfl rfl fun hs => s1 (v := .bool (true)) hs (zfc (b := false) rfl) fun hs => za0 ?_
    exact hs.sub ⟨rfl, rfl,(lkB (((zjf hg7).trans ((zl9 hg8).trans ((zl9 hg9).trans rfl)))) rfl), trivial⟩
   refine s3 hs fun hs => s3 hs fun hs => sP hs rfl rfl fun hs => sM hs rfl fun hs => s2 (v := .int .i64 ((y3 : Int))) hs (za3 rfl) fun hs => s2 hs (zhq rfl rfl) fun hs => s2 (v := .bool (decide (0 < (y3 : Int)))) hs (za3 rfl) fun hs => ?_
   refine St.split hs (t := 20) rfl (fun hg12 hs => ?_) (fun hg12 hs => ?_)
   ·refine s2 (v := .int .i32 (((Utf8.decode p0 y3).1 : Int))) hs (za3 rfl) fun hs => s2 hs (zkf rfl rfl) fun hs => s2 (v := .bool (decide (48 ≤ ((Utf8.decode p0 y3).1 : Int)))) hs (za3 rfl) fun hs => ?_
    refine St.split hs (t := 23) rfl (fun hg13 hs => ?_) (fun hg13 hs => ?_)
    ·refine s2 (v := .int .i32 (((Utf8.decode p0 y3).1 : Int))) hs (za3 rfl) fun hs => s2 hs (zpj rfl rfl) fun hs => s2 (v := .bool (decide (((Utf8.decode p0 y3).1 : Int) ≤ 57))) hs (zaz rfl rfl) fun hs => s2 (v := .bool (decide (((Utf8.decode p0 y3).1 : Int) ≤ 57))) hs (za3 rfl) fun hs => ?_
     refine St.split hs (t := 27) rfl (fun hg14 hs => ?_) (fun hg14 hs => ?_)
     ·refine s3 hs fun hs => s3 hs fun hs => s2 (v := .bool (true)) hs (zaz rfl rfl) fun hs => s2 (v := .bool (true)) hs (zaz rfl rfl) fun hs => sP hs rfl rfl fun hs => s1 (v := .bool (false)) hs (zfc (b := true) rfl) fun hs => za0 ?_
      exact hs.sub ⟨rfl, rfl,(lkB (((zl9 hg7).trans ((zjf hg12).trans ((zjf hg13).trans ((zjf hg14).trans rfl))))) rfl), trivial⟩
     refine s2 (v := .int .i32 (((Utf8.decode p0 y3).1 : Int))) hs (za3 rfl) fun hs => s2 hs (zct rfl rfl) fun hs => s2 (v := .bool (decide (((Utf8.decode p0 y3).1 : Int) = 45))) hs (zaz rfl rfl) fun hs => s2 (v := .bool (decide (((Utf8.decode p0 y3).1 : Int) = 45))) hs (zaz rfl rfl) fun hs => sP hs rfl rfl fun hs => s1 (v := .bool ((!(decide (((Utf8.decode p0 y3).1 : Int) = 45))))) hs (zfc rfl) fun hs => za0 ?_
     exact hs.sub ⟨rfl, rfl,(lkB (((zl9 hg7).trans ((zjf hg12).trans ((zjf hg13).trans ((zl9 hg14).trans rfl))))) rfl), trivial⟩
    refine s3 hs fun hs => s3 hs fun hs => s2 (v := .bool (false)) hs (zaz rfl rfl) fun hs => s2 (v := .bool (false)) hs (za3 rfl) fun hs => s2 (v := .int .i32 (((Utf8.decode p0 y3).1 : Int))) hs (za3 rfl) fun hs => s2 hs (zct rfl rfl) fun hs => s2 (v := .bool (decide (((Utf8.decode p0 y3).1 : Int) = 45))) hs (zaz rfl rfl) fun hs => s2 (v := .bool (decide (((Utf8.decode p0 y3).1 : Int) = 45))) hs (zaz rfl rfl) fun hs => sP hs rfl rfl fun hs => s1 (v := .bool ((!(decide (((Utf8.decode p0 y3).1 : Int) = 45))))) hs (zfc rfl) fun hs => ?_
    refine za0 ?_
    exact hs.sub ⟨rfl, rfl,(lkB (((zl9 hg7).trans ((zjf hg12).trans ((zl9 hg13).trans rfl)))) rfl), trivial⟩
   refine s3 hs fun hs => s3 hs fun hs => s3 hs fun hs => s4 hs fun hs => s4 hs fun hs => s3 hs fun hs => s3 hs fun hs => s4 hs fun hs => s4 hs fun hs => s3 hs fun hs => ?_
   refine s2 (v := .bool (false)) hs (zaz rfl rfl) fun hs => sP hs rfl rfl fun hs => s1 (v := .bool (true)) hs (zfc (b := false) rfl) fun hs => za0 ?_
   exact hs.sub ⟨rfl, rfl,(lkB (((zl9 hg7).trans ((zl9 hg12).trans rfl))) rfl), trivial⟩
  replace hm := oc_f (decide_eq_false (Nat.not_lt.2 hg5)) hm; clear hs; (try clear a w); intro a w hs
  refine s1 (v := .bool (false)) hs (zap rfl rfl) fun hs => za0 <| hK7 <| Ws fun hK13 => zdj hs rfl <| zc0 <| hB5 _ _ ?_
  exact ⟨hm, hs.subs ⟨rfl, trivial⟩ (.cons _ (.refl _))⟩
end Go.Proofs.YtpfdbeafdjnbnaaGreatDoor
