/-
  Walks and laws of this seat.
-/
import Derived.Test.YtpfdbeafdjnbnaaGreatDoorBash
import Derived.Test.YtpfdbeafdjnbnaaGreatDoorL6s
import Derived.Test.YtpfdbeafdjnbnaaGreatDoorRows
namespace Go.Proofs.YtpfdbeafdjnbnaaGreatDoor
set_option linter.unusedVariables false
set_option linter.unusedSimpArgs false
set_option linter.unusedSectionVars false
set_option maxHeartbeats 4000000
set_option maxRecDepth 100000
open Go.RowKit Go.Sl
def zbc (n : Nat) (p0 : za7) (A : (List za4)) : Option (Int × za7) :=
  (geti p0.open_ (w64 ((p0.open_.length : Int) - 1))).bind fun x4 =>
  some (x4,({open_ := p0.open_, count := p0.count, deep := p0.deep} : za7))
theorem zd6 (n : Nat) {f : Fz} {ab : List Nat} {A : List za4} {p0 : za7} {pb0 : Nat} {pv0_0 : Value} {pv0_0r : List (List Value)} {res : (Int × za7)} (pv0_0h : RW (tP ab) f pv0_0r p0.open_) (hm : zbc n p0 A = some res) : DoesR nsh Tryz.prog 67 [pq pb0 0] f [.blk pb0 (.cells #[pv0_0, .int .i64 p0.count, .bool p0.deep] 102 (0,0)), .row pv0_0 96 1 pv0_0r] ab A (fun r f' L' => ∃ (u0 : Value) (dp0_0 : Value) (dp0_0r : List (List Value)), L' = [.blk pb0 (.cells #[dp0_0, .int .i64 res.2.count, .bool res.2.deep] 102 (0,0)), .row dp0_0 96 1 dp0_0r] ∧ r = u0 ∧ RP ab u0 res.1 ∧ RW (tP ab) f' dp0_0r res.2.open_) := by
 unfold zbc at hm
 intro w0 L0 L w hA hC
 replace hC : Cw w0 f (.blk pb0 (.cells #[pv0_0, .int .i64 p0.count, .bool p0.deep] 102 (0,0)) :: .row pv0_0 96 1 pv0_0r :: L) w := hC
 refine enter Tryz.func67 rfl Tryz.ntmps67 (by simp) hC fun a hs => ?_
 have hle := Fz.le.refl f
 refine Wq fun hK1 => sA hs rfl fun hs => za0 <| hK1 <| Ws fun hK2 => ?_
 refine zju hs mixed (by kernel_rfl) ?_; intro a he
 refine qy (v := pq pb0 0) he (za3 rfl) fun _ he => qy he (za5 rfl) fun _ he => qy (v := pq pb0 0) he (za1 rfl (FO.of (off := 0) U102 rfl rfl ti97 (by decide))) fun _ he => qy (v := pv0_0) he (y_ld rfl U97 rfl (Cell.blk (.head _) rfl)) fun _ he => qy (v := pq pb0 0) he (za3 rfl) fun _ he => qy he (za5 rfl) fun _ he => qy (v := pq pb0 0) he (za1 rfl (FO.of (off := 0) U102 rfl rfl ti97 (by decide))) fun _ he => qy (v := pv0_0) he (y_ld rfl U97 rfl (Cell.blk (.head _) rfl)) fun _ he => qy he (zc3 (Rd.st hs (.tail _ (.head _))) pv0_0h rfl U97) fun _ he => qy he (zn2 rfl rfl rfl) fun _ he => ?_
 obtain ⟨x4, hx5, hm⟩ := ob hm
 obtain ⟨r6, hr7, hq8, hi9, hb10⟩ := pv0_0h.geti hx5
 obtain ⟨v11, rfl, hp12⟩ := hq8
 refine qy he (zac (Rd.st hs (.tail _ (.head _))) rfl rfl hi9 hb10 U97 ti96) fun _ he => qy (v := v11) he (zbm (i := (w64 ((p0.open_.length : Int) - 1)).toNat) (j := 0) (Rd.st hs (.tail _ (.head _))) rfl hr7 rfl U96 rfl) fun _ he => qy (v := v11) he (za9 rfl) fun _ he => ?_
 refine zfw he ?_; clear he; (try clear hs); (try clear a); intro a w hs
 refine hK2 <| zax ?_
 obtain rfl := Option.some.inj hm
 refine RtV1 hs rfl (rv_t hs rfl) ?_
 exact ⟨_, f,[.blk pb0 (.cells #[pv0_0, .int .i64 (p0.count), .bool (p0.deep)] 102 (0,0)), .row pv0_0 96 1 pv0_0r], rfl, hle, hs.cw, v11, pv0_0, pv0_0r, rfl, rfl, hp12, pv0_0h⟩
def zgs : Option Int :=
  some (-1)
def zbt (A : (List za4)) (p0 : za7) (p1 : Int) (p2 : ByteArray) : Nat → Int → Option Int
  | 0, _ => none
  | k5 + 1, y4 =>
  (bif (decide (p1 < y4)) then (geti p0.open_ y4).bind fun x7 =>
  (focM A [] x7).bind fun x16 =>
  (bif (decide (x16.name = p2)) then some y4 else
  (zbt A p0 p1 p2 k5) (w64 (y4 - 1))) else
  zgs)
def zdh (n : Nat) (p0 : za7) (p1 : Int) (p2 : ByteArray) (A : (List za4)) : Option Int :=
  zbt A p0 p1 p2 n (w64 ((p0.open_.length : Int) - 1))
theorem zgr (n : Nat) {f : Fz} {ab : List Nat} {A : List za4} {p0 : za7} {pb0 : Nat} {pv0_0 : Value} {pv0_0r : List (List Value)} {p1 : Int} {p2 : ByteArray} {res : Int} (pv0_0h : RW (tP ab) f pv0_0r p0.open_) (hm : zdh n p0 p1 p2 A = some res) : GivesR nsh Tryz.prog 76 [pq pb0 0, .int .i64 p1, .string p2] f [.blk pb0 (.cells #[pv0_0, .int .i64 p0.count, .bool p0.deep] 102 (0,0)), .row pv0_0 96 1 pv0_0r] ab A (.int .i64 res) := by
 unfold zdh at hm
 intro w0 L0 L w hA hC
 replace hC : Cw w0 f (.blk pb0 (.cells #[pv0_0, .int .i64 p0.count, .bool p0.deep] 102 (0,0)) :: .row pv0_0 96 1 pv0_0r :: L) w := hC
 refine enter Tryz.func76 rfl Tryz.ntmps76 (by simp) hC fun a hs => ?_
 have hle := Fz.le.refl f
 refine Wq fun hK1 => sA hs rfl fun hs => za0 <| hK1 <| Ws fun hK2 => Wq fun hK3 => sM hs rfl fun hs => s1 hs (za5 rfl) fun hs => ?_
 refine s1 (v := pq pb0 0) hs (za1 rfl (FO.of (off := 0) U102 rfl rfl ti97 (by decide))) fun hs => s1 (v := pv0_0) hs (y_ld rfl U97 rfl (Cell.blk (.head _) rfl)) fun hs => s1 hs (zc3 (Rd.st hs (.tail _ (.head _))) pv0_0h rfl U97) fun hs => s1 hs (zn2 rfl rfl rfl) fun hs => sA hs rfl fun hs => za0 <| hK3 ?_
 refine zaq (fun a w => zgs = some res ∧ St 32 w0 f (.blk pb0 (.cells #[pv0_0, .int .i64 (p0.count), .bool (p0.deep)] 102 (0,0)) :: .row pv0_0 96 1 pv0_0r :: L) [] a w) ?_ ?_
 ·clear hs hm
  rintro a w ⟨hm, hs⟩
  unfold zgs at hm
  refine hK2 <| Wq fun hK4 => sA hs rfl fun hs => za0 <| hK4 <| zax ?_
  obtain rfl := Option.some.inj hm
  refine RtV1 hs rfl (rv_t hs rfl) ?_
  exact ⟨rfl,(hs.weak hle).cw⟩
 refine zam fun Qe5 hB5 hO5 => zd1 (fun (k : Nat) a w => ∃ (y4 : Int), zbt A p0 p1 p2 k y4 = some res ∧ St 32 w0 f (.blk pb0 (.cells #[pv0_0, .int .i64 (p0.count), .bool (p0.deep)] 102 (0,0)) :: .row pv0_0 96 1 pv0_0r :: L) [(0, pq pb0 0),(1, .int .i64 (p1)),(2, .string (p2)),(7, .int .i64 (y4))] a w) (fun k => k) n ⟨(w64 ((p0.open_.length : Int) - 1)), hm, hs.sub ⟨rfl, rfl, rfl, rfl, trivial⟩⟩ ?_
 clear hs hm
 intro k
 rintro a w ⟨y4, hm, hs⟩
 intro K6 hK6
 cases k with
 | zero => simp [zbt] at hm
 | succ k5 =>
  rw [zbt] at hm
  refine Ws fun hK7 => Wq fun hK8 => sM hs rfl fun hs => sM hs rfl fun hs => s1 hs (zhq rfl rfl) fun hs => za0 <| hK8 ?_
  refine zah hs rfl (fun hg6 => ?_) (fun hg6 => ?_)
  ·replace hm := oc_t hg6 hm
   refine zaj <| hK7 <| Ws fun hK9 => zam fun Qe10 hB10 hO10 => Wq fun hK11 => sM hs rfl fun hs => s1 hs (za5 rfl) fun hs => s1 (v := pq pb0 0) hs (za1 rfl (FO.of (off := 0) U102 rfl rfl ti97 (by decide))) fun hs => s1 (v := pv0_0) hs (y_ld rfl U97 rfl (Cell.blk (.head _) rfl)) fun hs => ?_
   refine sM hs rfl fun hs => ?_
   obtain ⟨x7, hx8, hm⟩ := ob hm
   obtain ⟨r9, hr10, hq11, hi12, hb13⟩ := pv0_0h.geti hx8
   obtain ⟨v14, rfl, hp15⟩ := hq11
   refine s1 hs (zac (Rd.st hs (.tail _ (.head _))) rfl rfl hi12 hb13 U97 ti96) fun hs => s1 (v := v14) hs (zbm (i := y4.toNat) (j := 0) (Rd.st hs (.tail _ (.head _))) rfl hr10 rfl U96 rfl) fun hs => ?_
   obtain ⟨x16, hx17, hm⟩ := ob hm
   obtain ⟨b32, rfl, _, ⟨v20, v25, v27, rw28, rfl, ⟨rw21, hR22, hW23⟩, hp26, hW29⟩, hpm31⟩ := AR.peek hA hx17 hp15
   have hm18 := hpm31 _ (.head _); have hm19 := hpm31 _ (.tail _ (.head _)); clear hpm31
   refine s1 hs (za5 rfl) fun hs => s1 (v := pq b32 0) hs (za1 rfl (FO.of (off := 0) U99 rfl rfl ti9 (by decide))) fun hs => s1 (v := .string (x16.name)) hs (y_ld rfl U9 rfl (Cell.blk (.tail _ (.tail _ (hm18))) rfl)) fun hs => sM hs rfl fun hs => s1 hs (zcs rfl rfl) fun hs => za0 <| hK11 ?_
   refine zah hs rfl (fun hg33 => ?_) (fun hg33 => ?_)
   ·replace hm := oc_t hg33 hm
    refine Wq fun hK12 => sM hs rfl fun hs => sA hs rfl fun hs => za0 <| hK12 <| zax ?_
    obtain rfl := Option.some.inj hm
    refine RtV1 hs rfl (rv_t hs rfl) ?_
    exact ⟨rfl,(hs.weak hle).cw⟩
   replace hm := oc_f hg33 hm
   refine zaj <| hK9 <| za2 <| sM hs rfl fun hs => s1 hs (zn2 rfl rfl rfl) fun hs => sA hs rfl fun hs => za0 ?_
   exact hK6 k5 _ _ (Nat.lt_succ_self _) ⟨(w64 (y4 - 1)), hm, hs.sub ⟨rfl, rfl, rfl, rfl, trivial⟩⟩
  replace hm := oc_f hg6 hm
  refine zc0 <| hB5 _ _ ?_
  exact ⟨hm, hs.sub trivial⟩
def zh6 : Option Int :=
  some 0
def zc1 (n : Nat) (A : (List za4)) (p0 : za7) (p1 : (List ByteArray)) : Nat → Int → Option Int
  | 0, _ => none
  | k9 + 1, y8 =>
  (bif (decide (0 < y8)) then (geti p0.open_ y8).bind fun x11 =>
  (focM A [] x11).bind fun x20 =>
  (zid n x20.name p1).bind fun x37 =>
  (bif x37 then some y8 else
  (zc1 n A p0 p1 k9) (w64 (y8 - 1))) else
  zh6)
def zcc (n : Nat) (p0 : za7) (p1 : (List ByteArray)) (A : (List za4)) : Option Int :=
  zc1 n A p0 p1 n (w64 ((p0.open_.length : Int) - 1))
theorem zeg (n : Nat) {f : Fz} {ab : List Nat} {A : List za4} {p0 : za7} {pb0 : Nat} {pv0_0 : Value} {pv0_0r : List (List Value)} {p1 : (List ByteArray)} {a1 : Value} {res : Int} (pv0_0h : RW (tP ab) f pv0_0r p0.open_) (h1 : RS tStr f a1 p1) (hm : zcc n p0 p1 A = some res) : GivesR nsh Tryz.prog 74 [pq pb0 0, a1] f [.blk pb0 (.cells #[pv0_0, .int .i64 p0.count, .bool p0.deep] 102 (0,0)), .row pv0_0 96 1 pv0_0r] ab A (.int .i64 res) := by
 unfold zcc at hm
 intro w0 L0 L w hA hC
 replace hC : Cw w0 f (.blk pb0 (.cells #[pv0_0, .int .i64 p0.count, .bool p0.deep] 102 (0,0)) :: .row pv0_0 96 1 pv0_0r :: L) w := hC
 obtain ⟨rw4, hR5, hW6⟩ := h1
 refine enter Tryz.func74 rfl Tryz.ntmps74 (by simp) hC fun a hs => ?_
 have hle := Fz.le.refl f
 refine Wq fun hK1 => sA hs rfl fun hs => za0 <| hK1 <| Ws fun hK2 => Wq fun hK3 => sM hs rfl fun hs => s1 hs (za5 rfl) fun hs => ?_
 refine s1 (v := pq pb0 0) hs (za1 rfl (FO.of (off := 0) U102 rfl rfl ti97 (by decide))) fun hs => s1 (v := pv0_0) hs (y_ld rfl U97 rfl (Cell.blk (.head _) rfl)) fun hs => s1 hs (zc3 (Rd.st hs (.tail _ (.head _))) pv0_0h rfl U97) fun hs => s1 hs (zn2 rfl rfl rfl) fun hs => sA hs rfl fun hs => za0 <| hK3 ?_
 refine zaq (fun a w => zh6 = some res ∧ St 29 w0 f (.blk pb0 (.cells #[pv0_0, .int .i64 (p0.count), .bool (p0.deep)] 102 (0,0)) :: .row pv0_0 96 1 pv0_0r :: L) [] a w) ?_ ?_
 ·clear hs hm
  rintro a w ⟨hm, hs⟩
  unfold zh6 at hm
  refine hK2 <| Wq fun hK4 => sA hs rfl fun hs => za0 <| hK4 <| zax ?_
  obtain rfl := Option.some.inj hm
  refine RtV1 hs rfl (rv_t hs rfl) ?_
  exact ⟨rfl,(hs.weak hle).cw⟩
 refine zam fun Qe5 hB5 hO5 => zd1 (fun (k : Nat) a w => ∃ (y8 : Int), zc1 n A p0 p1 k y8 = some res ∧ St 29 w0 f (.blk pb0 (.cells #[pv0_0, .int .i64 (p0.count), .bool (p0.deep)] 102 (0,0)) :: .row pv0_0 96 1 pv0_0r :: L) [(0, pq pb0 0),(1, a1),(5, .int .i64 (y8))] a w) (fun k => k) n ⟨(w64 ((p0.open_.length : Int) - 1)), hm, hs.sub ⟨rfl, rfl, rfl, trivial⟩⟩ ?_
 clear hs hm
 intro k
 rintro a w ⟨y8, hm, hs⟩
 intro K6 hK6
 cases k with
 | zero => simp [zc1] at hm
 | succ k9 =>
  rw [zc1] at hm
  refine Ws fun hK7 => Wq fun hK8 => sM hs rfl fun hs => s1 hs (zhq rfl rfl) fun hs => za0 <| hK8 ?_
  refine zah hs rfl (fun hg10 => ?_) (fun hg10 => ?_)
  ·replace hm := oc_t hg10 hm
   refine zaj <| hK7 <| Ws fun hK9 => zam fun Qe10 hB10 hO10 => Wq fun hK11 => sM hs rfl fun hs => s1 hs (za5 rfl) fun hs => s1 (v := pq pb0 0) hs (za1 rfl (FO.of (off := 0) U102 rfl rfl ti97 (by decide))) fun hs => s1 (v := pv0_0) hs (y_ld rfl U97 rfl (Cell.blk (.head _) rfl)) fun hs => ?_
   refine sM hs rfl fun hs => ?_
   obtain ⟨x11, hx12, hm⟩ := ob hm
   obtain ⟨r13, hr14, hq15, hi16, hb17⟩ := pv0_0h.geti hx12
   obtain ⟨v18, rfl, hp19⟩ := hq15
   refine s1 hs (zac (Rd.st hs (.tail _ (.head _))) rfl rfl hi16 hb17 U97 ti96) fun hs => s1 (v := v18) hs (zbm (i := y8.toNat) (j := 0) (Rd.st hs (.tail _ (.head _))) rfl hr14 rfl U96 rfl) fun hs => ?_
   obtain ⟨x20, hx21, hm⟩ := ob hm
   obtain ⟨b36, rfl, _, ⟨v24, v29, v31, rw32, rfl, ⟨rw25, hR26, hW27⟩, hp30, hW33⟩, hpm35⟩ := AR.peek hA hx21 hp19
   have hm22 := hpm35 _ (.head _); have hm23 := hpm35 _ (.tail _ (.head _)); clear hpm35
   refine s1 hs (za5 rfl) fun hs => s1 (v := pq b36 0) hs (za1 rfl (FO.of (off := 0) U99 rfl rfl ti9 (by decide))) fun hs => s1 (v := .string (x20.name)) hs (y_ld rfl U9 rfl (Cell.blk (.tail _ (.tail _ (hm22))) rfl)) fun hs => sM hs rfl fun hs => ?_
   obtain ⟨x37, hx38, hm⟩ := ob hm
   refine s1 hs (zbi rfl has40 rfl (zhu n ⟨rw4, hR5, hW6⟩ hx38)) fun hs => za0 <| hK11 ?_
   refine zah hs rfl (fun hg39 => ?_) (fun hg39 => ?_)
   ·replace hm := oc_t hg39 hm
    refine Wq fun hK12 => sM hs rfl fun hs => sA hs rfl fun hs => za0 <| hK12 <| zax ?_
    obtain rfl := Option.some.inj hm
    refine RtV1 hs rfl (rv_t hs rfl) ?_
    exact ⟨rfl,(hs.weak hle).cw⟩
   replace hm := oc_f hg39 hm
   refine zaj <| hK9 <| za2 <| sM hs rfl fun hs => s1 hs (zn2 rfl rfl rfl) fun hs => sA hs rfl fun hs => za0 ?_
   exact hK6 k9 _ _ (Nat.lt_succ_self _) ⟨(w64 (y8 - 1)), hm, hs.sub ⟨rfl, rfl, rfl, trivial⟩⟩
  replace hm := oc_f hg10 hm
  refine zc0 <| hB5 _ _ ?_
  exact ⟨hm, hs.sub trivial⟩
def zdw (n : Nat) (p0 : za7) (p1 : Int) : Option za7 :=
  (cutM p0.open_ (0 : Int) p1).bind fun x4 =>
  some ({open_ := x4, count := p0.count, deep := p0.deep} : za7)
theorem zi5 (n : Nat) {f : Fz} {ab : List Nat} {p0 : za7} {pb0 : Nat} {pv0_0 : Value} {pv0_0r : List (List Value)} {p1 : Int} {res : za7} (pv0_0h : RW (tP ab) f pv0_0r p0.open_) (hm : zdw n p0 p1 = some res) : Does Tryz.prog 77 [pq pb0 0, .int .i64 p1] f [.blk pb0 (.cells #[pv0_0, .int .i64 p0.count, .bool p0.deep] 102 (0,0)), .row pv0_0 96 1 pv0_0r] (fun r f' L' => ∃ (dp0_0 : Value) (dp0_0r : List (List Value)), L' = [.blk pb0 (.cells #[dp0_0, .int .i64 res.count, .bool res.deep] 102 (0,0)), .row dp0_0 96 1 dp0_0r] ∧ r = .tuple #[] ∧ RW (tP ab) f' dp0_0r res.open_) := by
 unfold zdw at hm
 intro w0 L w hC
 replace hC : Cw w0 f (.blk pb0 (.cells #[pv0_0, .int .i64 p0.count, .bool p0.deep] 102 (0,0)) :: .row pv0_0 96 1 pv0_0r :: L) w := hC
 refine enter Tryz.func77 rfl Tryz.ntmps77 (by simp) hC fun a hs => ?_
 have hle := Fz.le.refl f
 refine za2 <| sM hs rfl fun hs => sM hs rfl fun hs => s1 hs (za5 rfl) fun hs => s1 (v := pq pb0 0) hs (za1 rfl (FO.of (off := 0) U102 rfl rfl ti97 (by decide))) fun hs => s1 (v := pv0_0) hs (y_ld rfl U97 rfl (Cell.blk (.head _) rfl)) fun hs => sM hs rfl fun hs => ?_
 obtain ⟨x4, hx5, hm⟩ := ob hm
 obtain ⟨⟨hlx4, hhx4, h1x4, h2x4⟩, hex4⟩ := zm9 hx5
 have hW6 := (pv0_0h.take p1.toNat).drop (Int.toNat 0); rw [hex4] at hW6
 simp only [Int.toNat_zero, List.drop_zero] at hW6
 refine s1 hs (zpg (lo := (0 : Nat)) (hi := p1.toNat) rfl U97 ti96 (.inl ⟨rfl, rfl⟩) (.inr ⟨_, rfl, by rw [← hhx4]; rfl⟩) h1x4 (by rw [RW.len pv0_0h]; exact h2x4) (Rd.st hs (.tail _ (.head _)))) fun hs => ?_
 replace hs := hs.shrink (i := 1) rfl (m := p1.toNat) (by rw [RW.len pv0_0h]; exact h2x4)
 generalize hgrw8 : List.take _ pv0_0r = rw8 at hs hW6; clear hgrw8
 generalize hgv9 : cutv pv0_0 1 0 _ = v9 at hs; clear hgv9
 refine s1 hs (za5 rfl) fun hs => s1 (v := pq pb0 0) hs (za1 rfl (FO.of (off := 0) U102 rfl rfl ti97 (by decide))) fun hs => sstore 0 hs rfl rfl rfl ti97 ((hs.one (i := 1) rfl)) fun _ _ hs => za0 ?_
 obtain rfl := Option.some.inj hm
 refine RtV0 hs rfl  ?_
 exact ⟨_, f,[.blk pb0 (.cells #[v9, .int .i64 (p0.count), .bool (p0.deep)] 102 (0,0)), .row v9 96 1 rw8], rfl, hle, hs.cw, v9, rw8, rfl, rfl, hW6⟩
def zca (y8 : (List Int)) (y13 : Int) (y14 : Bool) : Option za7 :=
  some ({open_ := y8, count := y13, deep := y14} : za7)
def zbj (n : Nat) (p0 : za7) (p1 : Int) (p2 : ByteArray) (A : (List za4)) : Option za7 :=
  (zdh n p0 p1 p2 A).bind fun x4 =>
  (bif (decide (0 < x4)) then (zdw n p0 x4).bind fun x17 =>
  zca x17.open_ x17.count x17.deep else
  zca p0.open_ p0.count p0.deep)
theorem zd7 (n : Nat) {f : Fz} {ab : List Nat} {A : List za4} {p0 : za7} {pb0 : Nat} {pv0_0 : Value} {pv0_0r : List (List Value)} {p1 : Int} {p2 : ByteArray} {res : za7} (pv0_0h : RW (tP ab) f pv0_0r p0.open_) (hm : zbj n p0 p1 p2 A = some res) : DoesR nsh Tryz.prog 73 [pq pb0 0, .int .i64 p1, .string p2] f [.blk pb0 (.cells #[pv0_0, .int .i64 p0.count, .bool p0.deep] 102 (0,0)), .row pv0_0 96 1 pv0_0r] ab A (fun r f' L' => ∃ (dp0_0 : Value) (dp0_0r : List (List Value)), L' = [.blk pb0 (.cells #[dp0_0, .int .i64 res.count, .bool res.deep] 102 (0,0)), .row dp0_0 96 1 dp0_0r] ∧ r = .tuple #[] ∧ RW (tP ab) f' dp0_0r res.open_) := by
 unfold zbj at hm
 intro w0 L0 L w hA hC
 replace hC : Cw w0 f (.blk pb0 (.cells #[pv0_0, .int .i64 p0.count, .bool p0.deep] 102 (0,0)) :: .row pv0_0 96 1 pv0_0r :: L) w := hC
 refine enter Tryz.func73 rfl Tryz.ntmps73 (by simp) hC fun a hs => ?_
 have hle := Fz.le.refl f
 refine Wq fun hK1 => sM hs rfl fun hs => sM hs rfl fun hs => sM hs rfl fun hs => ?_
 obtain ⟨x4, hx5, hm⟩ := ob hm
 refine s1 hs (zpk (cap := []) (X := []) hA rfl has76 rfl ((zal _ 1 rfl).trans (zal _ 1 rfl)) (zgr n pv0_0h hx5)) fun hs => sA hs rfl fun hs => za0 <| hK1 <| Wq fun hK2 => sM hs rfl fun hs => s1 hs (zhq rfl rfl) fun hs => za0 <| hK2 ?_
 have hbase15 := Fz.le.refl f
 refine zaq (fun a w => ∃ (f6 : Fz) (y8 : (List Int)) (y13 : Int) (y14 : Bool) (v9 : Value) (rw10 : List (List Value)), Fz.le f f6 ∧ zca y8 y13 y14 = some res ∧ RW (tP ab) f6 rw10 y8 ∧ St 16 w0 f6 (.blk pb0 (.cells #[v9, .int .i64 (y13), .bool (y14)] 102 (0,0)) :: .row v9 96 1 rw10 :: L) [] a w) ?_ ?_
 ·clear hs hm
  clear hbase15
  rintro a w ⟨f6, y8, y13, y14, v9, rw10, hl7, hm, hW11, hs⟩
  replace hle := hle.trans hl7
  unfold zca at hm
  obtain rfl := Option.some.inj hm
  refine RtV0 hs rfl  ?_
  exact ⟨_, f6,[.blk pb0 (.cells #[v9, .int .i64 (y13), .bool (y14)] 102 (0,0)), .row v9 96 1 rw10], rfl, hle, hs.cw, v9, rw10, rfl, rfl, hW11⟩
 refine zah hs rfl (fun hg16 => ?_) (fun hg16 => ?_)
 ·replace hm := oc_t hg16 hm
  refine za2 <| sM hs rfl fun hs => sM hs rfl fun hs => ?_
  obtain ⟨x17, hx18, hm⟩ := ob hm
  replace hs := hs.front 1
  replace hs := hs.front 1
  refine zbb (Lr := [.blk pb0 (.cells #[pv0_0, .int .i64 (p0.count), .bool (p0.deep)] 102 (0,0)), .row pv0_0 96 1 pv0_0r]) (Lf := L) hs rfl has77 rfl rfl (zi5 n pv0_0h hx18) (.free rfl) (by decide) ?_; clear hs; (try clear a w)
  rintro _ f19 _ a w hf20 ⟨v21, rw22, rfl, rfl, hW23⟩ hs
  replace hbase15 := hbase15.trans hf20
  refine za0 ?_
  exact ⟨_, x17.open_, x17.count, x17.deep, v21, rw22, hbase15, hm, hW23, hs.sub trivial⟩
 replace hm := oc_f hg16 hm
 refine zaj ?_
 exact ⟨_, p0.open_, p0.count, p0.deep, pv0_0, pv0_0r,(Fz.le.refl _), hm, pv0_0h, hs.sub trivial⟩
def zhd (n : Nat) (p0 : za7) (A : (List za4)) : Option (Int × za7) :=
  (zdh n p0 0 (bs [116,97,98,108,101]) A).bind fun x4 =>
  (bif (decide (x4 < 0)) then some ((-1 : Int),({open_ := p0.open_, count := p0.count, deep := p0.deep} : za7)) else
  (geti p0.open_ x4).bind fun x7 =>
  some (x7,({open_ := p0.open_, count := p0.count, deep := p0.deep} : za7)))
theorem zkk (n : Nat) {f : Fz} {ab : List Nat} {A : List za4} {p0 : za7} {pb0 : Nat} {pv0_0 : Value} {pv0_0r : List (List Value)} {res : (Int × za7)} (pv0_0h : RW (tP ab) f pv0_0r p0.open_) (hm : zhd n p0 A = some res) : DoesR nsh Tryz.prog 68 [pq pb0 0] f [.blk pb0 (.cells #[pv0_0, .int .i64 p0.count, .bool p0.deep] 102 (0,0)), .row pv0_0 96 1 pv0_0r] ab A (fun r f' L' => ∃ (u0 : Value) (dp0_0 : Value) (dp0_0r : List (List Value)), L' = [.blk pb0 (.cells #[dp0_0, .int .i64 res.2.count, .bool res.2.deep] 102 (0,0)), .row dp0_0 96 1 dp0_0r] ∧ r = u0 ∧ RP ab u0 res.1 ∧ RW (tP ab) f' dp0_0r res.2.open_) := by
 unfold zhd at hm
 intro w0 L0 L w hA hC
 replace hC : Cw w0 f (.blk pb0 (.cells #[pv0_0, .int .i64 p0.count, .bool p0.deep] 102 (0,0)) :: .row pv0_0 96 1 pv0_0r :: L) w := hC
 refine enter Tryz.func68 rfl Tryz.ntmps68 (by simp) hC fun a hs => ?_
 have hle := Fz.le.refl f
 refine Wq fun hK1 => sA hs rfl fun hs => za0 <| hK1 <| Wq fun hK2 => sM hs rfl fun hs => ?_
 obtain ⟨x4, hx5, hm⟩ := ob hm
 refine s1 hs (zpk (cap := []) (X := []) hA rfl has76 rfl ((zal _ 1 rfl).trans (zal _ 1 rfl)) (zgr n pv0_0h hx5)) fun hs => sA hs rfl fun hs => za0 <| hK2 <| Ws fun hK3 => Wq fun hK4 => sM hs rfl fun hs => s1 hs (zgq rfl rfl) fun hs => za0 ?_
 refine hK4 ?_
 refine zah hs rfl (fun hg6 => ?_) (fun hg6 => ?_)
 ·replace hm := oc_t hg6 hm
  refine Wq fun hK5 => sA hs rfl fun hs => za0 <| hK5 <| zax ?_
  obtain rfl := Option.some.inj hm
  refine RtV1 hs rfl (rv_t hs rfl) ?_
  exact ⟨_, f,[.blk pb0 (.cells #[pv0_0, .int .i64 (p0.count), .bool (p0.deep)] 102 (0,0)), .row pv0_0 96 1 pv0_0r], rfl, hle, hs.cw, .pointer none, pv0_0, pv0_0r, rfl, rfl, RP.nil, pv0_0h⟩
 replace hm := oc_f hg6 hm
 refine zaj <| hK3 <| Wq fun hK6 => sM hs rfl fun hs => s1 hs (za5 rfl) fun hs => s1 (v := pq pb0 0) hs (za1 rfl (FO.of (off := 0) U102 rfl rfl ti97 (by decide))) fun hs => s1 (v := pv0_0) hs (y_ld rfl U97 rfl (Cell.blk (.head _) rfl)) fun hs => sM hs rfl fun hs => ?_
 obtain ⟨x7, hx8, hm⟩ := ob hm
 obtain ⟨r9, hr10, hq11, hi12, hb13⟩ := pv0_0h.geti hx8
 obtain ⟨v14, rfl, hp15⟩ := hq11
 refine s1 hs (zac (Rd.st hs (.tail _ (.head _))) rfl rfl hi12 hb13 U97 ti96) fun hs => s1 (v := v14) hs (zbm (i := x4.toNat) (j := 0) (Rd.st hs (.tail _ (.head _))) rfl hr10 rfl U96 rfl) fun hs => sA hs rfl fun hs => za0 <| hK6 <| zax ?_
 obtain rfl := Option.some.inj hm
 refine RtV1 hs rfl (rv_t hs rfl) ?_
 exact ⟨_, f,[.blk pb0 (.cells #[pv0_0, .int .i64 (p0.count), .bool (p0.deep)] 102 (0,0)), .row pv0_0 96 1 pv0_0r], rfl, hle, hs.cw, v14, pv0_0, pv0_0r, rfl, rfl, hp15, pv0_0h⟩
def zeq (n : Nat) (p0 : Int) (A : (List za4)) : Option Bool :=
  (focM A [] p0).bind fun x1 =>
  (zht n x1.name).bind fun x18 =>
  some (!x18)
theorem zjj (n : Nat) {f : Fz} {ab : List Nat} {A : List za4} {p0 : Int} {a0 : Value} {res : Bool} (h0 : RP ab a0 p0) (hm : zeq n p0 A = some res) : GivesR nsh Tryz.prog 81 [a0] f [] ab A (.bool res) := by
 unfold zeq at hm
 intro w0 L0 L w hA hC
 refine enter Tryz.func81 rfl Tryz.ntmps81 (by simp) hC fun a hs => ?_
 have hle := Fz.le.refl f
 refine Wq fun hK1 => sA hs rfl fun hs => za0 <| hK1 <| Wq fun hK2 => sM hs rfl fun hs => ?_
 obtain ⟨x1, hx2, hm⟩ := ob hm
 obtain ⟨b17, rfl, _, ⟨v5, v10, v12, rw13, rfl, ⟨rw6, hR7, hW8⟩, hp11, hW14⟩, hpm16⟩ := AR.peek hA hx2 h0
 have hm3 := hpm16 _ (.head _); have hm4 := hpm16 _ (.tail _ (.head _)); clear hpm16
 refine s1 hs (za5 rfl) fun hs => s1 (v := pq b17 0) hs (za1 rfl (FO.of (off := 0) U99 rfl rfl ti9 (by decide))) fun hs => s1 (v := .string (x1.name)) hs (y_ld rfl U9 rfl (Cell.blk (hm3) rfl)) fun hs => ?_
 obtain ⟨x18, hx19, hm⟩ := ob hm
 refine s1 hs (zbi rfl has79 rfl (zla n  hx19)) fun hs => s1 (v := .bool ((!x18))) hs (zfc rfl) fun hs => sA hs rfl fun hs => za0 <| hK2 <| zax ?_
 obtain rfl := Option.some.inj hm
 refine RtV1 hs rfl (rv_t hs rfl) ?_
 exact ⟨rfl,(hs.weak hle).cw⟩
def zf4 (x6 : za4) (y32 : (List za8)) : Option za8 :=
  some ({Name := x6.name, Text := x6.text, Attrs := x6.attrs, Kids := y32} : za8)
def zcd (A : (List za4)) (slf : Int → (List za4) → Option za8) (x6 : za4) : Nat → (List za8) → Int → Option za8
  | 0, _, _ => none
  | k54 + 1, y44, y49 =>
  (bif (decide (y49 < (x6.kids.length : Int))) then (geti x6.kids y49).bind fun x57 =>
  (slf x57 A).bind fun x67 =>
  (appM 80 y44 [x67]).bind fun x94 =>
  (zcd A slf x6 k54) x94 (w64 (y49 + 1)) else
  zf4 x6 y44)
def zfo (slf : Int → (List za4) → Option za8) (n : Nat) (p0 : Int) (A : (List za4)) : Option za8 :=
  (focM A [] p0).bind fun x6 =>
  zcd A slf x6 n ([] : List za8) 0
def ze6 : Nat → Int → (List za4) → Option za8
  | 0, _, _ => none
  | n + 1, p0, A => zfo (ze6 n) n p0 A
theorem zly {slf : Int → (List za4) → Option za8} (n : Nat) (slf_ok : ∀ {f : Fz} {ab : List Nat} {A : List za4} {p0 : Int} {a0 : Value} {res : za8} (_ : RP ab a0 p0) (_ : slf p0 A = some res), DoesR nsh Tryz.prog 46 [a0] f [] ab A (fun r f' L' => ∃ (u0 : List Value), L' = [] ∧ r = .agg u0.toArray ∧ zcy.R f' u0 res)) {f : Fz} {ab : List Nat} {A : List za4} {p0 : Int} {a0 : Value} {res : za8} (h0 : RP ab a0 p0) (hm : zfo slf n p0 A = some res) : DoesR nsh Tryz.prog 46 [a0] f [] ab A (fun r f' L' => ∃ (u0 : List Value), L' = [] ∧ r = .agg u0.toArray ∧ zcy.R f' u0 res) := by
 unfold zfo at hm
 intro w0 L0 L w hA hC
 refine enter Tryz.func46 rfl Tryz.ntmps46 (by simp) hC fun a hs => ?_
 have hle := Fz.le.refl f
 refine Wq fun hK1 => zbl hs ti46 (.free rfl) (by decide) fun b1 _ _ hs => za0 <| hK1 <| Ws fun hK2 => ?_
 have hsD := hs.subL (L' := L) (.cons _ (.refl _))
 have hbd5 := Fz.le.refl f
 refine zj2 hs (L) [14] (.look 0 (.look 1 (.look 2 (.look 3 (.look 4 (.look 5 (.look 6 (.look 7 (.look 8 (.look 9 (.look 10 (.look 11 (.look 12 (.any [13] (fun _ => .any [14] (fun _ => .done)))))))))))))))) mixed (by kernel_rfl) fun _ he => uy (v := a0) 0 he rfl (za3 rfl) fun _ he => ?_
 obtain ⟨x6, hx7, hm⟩ := ob hm
 obtain ⟨b22, rfl, _, ⟨v10, v15, v17, rw18, rfl, ⟨rw11, hR12, hW13⟩, hp16, hW19⟩, hpm21⟩ := AR.peek hA hx7 h0
 have hm8 := hpm21 _ (.head _); have hm9 := hpm21 _ (.tail _ (.head _)); clear hpm21
 refine uy 1 he rfl (za5 rfl) fun _ he => uy (v := pq b22 0) 2 he rfl (za1 rfl (FO.of (off := 0) U99 rfl rfl ti9 (by decide))) fun _ he => uy (v := .string (x6.name)) 3 he rfl (y_ld rfl U9 rfl (Cell.blk (hm8) rfl)) fun _ he => uy (v := pq b22 0) 4 he rfl (za3 rfl) fun _ he => uy 5 he rfl (za5 rfl) fun _ he => uy (v := pq b22 1) 6 he rfl (za1 rfl (FO.of (off := 1) U99 rfl rfl ti9 (by decide))) fun _ he => uy (v := .string (x6.text)) 7 he rfl (y_ld rfl U9 rfl (Cell.blk (hm8) rfl)) fun _ he => uy (v := pq b22 0) 8 he rfl (za3 rfl) fun _ he => uy 9 he rfl (za5 rfl) fun _ he => uy (v := pq b22 2) 10 he rfl (za1 rfl (FO.of (off := 2) U99 rfl rfl ti43 (by decide))) fun _ he => ?_
 refine uy (v := v10) 11 he rfl (y_ld rfl U43 rfl (Cell.blk (hm8) rfl)) fun _ he => uy 12 he rfl (ze4 (places := [(0,1),(1,1),(2,1),(3,1)]) (cs := [.string (x6.name), .string (x6.text), v10,(.slice none 0 0)]) rfl U46 ti46 (by kernel_rfl) (by decide) rfl ⟨rfl, rfl, hR12.one, trivial⟩) fun _ he => ?_
 refine zeh he rfl ?_; clear he; (try clear a); intro a w hs
 refine zbl hs ti46 (.free rfl) (by decide) fun b25 _ _ hs => uon hs fun _ he => ?_
 refine zeh he rfl ?_; clear he; (try clear a); intro a w hs
 refine zb5 (i := 0) hs rfl rfl rfl ti46 ⟨rfl, rfl⟩ (AllC.arr (r := [.string (x6.name), .string (x6.text), v10,(.slice none 0 0)]) ⟨rfl, rfl, hR12.one, rfl, trivial⟩) (.free rfl) fun _ _ hs => uend hs fun _ he => ?_
 refine zmg he ?_; clear he; (try clear a); intro w hs; try clear hsD
 refine hK2 <| Ws fun hK3 => Wq fun hK4 => sM hs rfl fun hs => s1 hs (za5 rfl) fun hs => s1 (v := pq b22 4) hs (za1 rfl (FO.of (off := 4) U99 rfl rfl ti97 (by decide))) fun hs => s1 (v := v17) hs (y_ld rfl U97 rfl (Cell.blk (.tail _ (.tail _ (hm8))) rfl)) fun hs => s1 hs (zc3 (Rd.st hs (.tail _ (.tail _ (hm9)))) hW19 rfl U97) fun hs => sM hs rfl fun hs => ?_
 refine za0 <| hK4 ?_
 have hbase37 := Fz.le.refl f
 refine zaq (fun a w => ∃ (f29 : Fz) (y32 : (List za8)) (v33 : Value) (rw34 : List (List Value)), Fz.le f f29 ∧ zf4 x6 y32 = some res ∧ RW zcy f29 rw34 y32 ∧ St 37 w0 f29 (.row v33 46 4 rw34 :: .blk b25 (.cells #[.string (x6.name), .string (x6.text), v10, v33] 46 (0,0)) :: .blk b1 (.cells #[.string ((bs [])), .string ((bs [])),(.slice none 0 0),(.slice none 0 0)] 46 (0,0)) :: L) [(2, pq b1 0),(3, pq b25 0)] a w) ?_ ?_
 ·clear hs hm
  clear hbase37
  rintro a w ⟨f29, y32, v33, rw34, hl30, hm, hW35, hs⟩
  replace hR12 := hR12.le hl30
  replace hW13 := hW13.le hl30
  replace hle := hle.trans hl30
  unfold zf4 at hm
  refine hK3 <| Wq fun hK5 => s1 hs (zj3 rfl U46 rfl ti46 (.tail _ (.head _)) rfl) fun hs => zb5 (i := 2) hs rfl rfl rfl ti46 ⟨rfl, rfl⟩ (AllC.arr (r := [.string (x6.name), .string (x6.text), v10, v33]) ⟨rfl, rfl, hR12.one,(hs.one (i := 0) rfl), trivial⟩) (.free rfl) fun _ _ hs => za0 <| hK5 <| zax ?_
  obtain ⟨f38, hf39, hs2, hR40⟩ := hs.frzAt 0 rfl
  clear hs; have hs := hs2; clear hs2
  replace hR12 := hR12.le hf39
  replace hW13 := hW13.le hf39
  replace hW35 := hW35.le hf39
  replace hle := hle.trans hf39
  obtain rfl := Option.some.inj hm
  refine RtV1 hs rfl (rv_a hs rfl U46 rfl ti46 (fun j u hj => Cell.blk (.tail _ (.head _)) hj) rfl) ?_
  exact ⟨_, f38,[], rfl, hle,(hs.subL (.cons _ (.cons _ (.refl _)))).cw,[.string (x6.name), .string (x6.text), v10, v33], rfl, rfl, R_dom_Part.of (x := ({Name := x6.name, Text := x6.text, Attrs := x6.attrs, Kids := y32} : za8)) ⟨rw11, hR12, hW13⟩ ⟨rw34, hR40, hW35⟩⟩
 refine zam fun Qe6 hB6 hO6 => ?_
 have hbase := Fz.le.refl f
 replace hs := hs.nilRow 46 4
 have hW50 : RW zcy f [] ([] : List za8) := trivial
 generalize hgrw51 : ([] : List (List Value)) = rw51 at hs hW50; clear hgrw51
 refine zd1 (fun (k : Nat) a w => ∃ (f41 : Fz) (y44 : (List za8)) (y49 : Int) (v45 : Value) (rw46 : List (List Value)), Fz.le f f41 ∧ zcd A slf x6 k y44 y49 = some res ∧ RW zcy f41 rw46 y44 ∧ St 37 w0 f41 (.row v45 46 4 rw46 :: .blk b25 (.cells #[.string (x6.name), .string (x6.text), v10, v45] 46 (0,0)) :: .blk b1 (.cells #[.string ((bs [])), .string ((bs [])),(.slice none 0 0),(.slice none 0 0)] 46 (0,0)) :: L) [(2, pq b1 0),(3, pq b25 0),(22, v17),(23, .int .i64 ((x6.kids.length : Int))),(24, .int .i64 (y49))] a w) (fun k => k) n ⟨_,([] : List za8),0,(.slice none 0 0), rw51,(Fz.le.refl _), hm, hW50, hs.sub ⟨rfl, rfl, rfl, rfl, rfl, trivial⟩⟩ ?_
 clear hs hm
 intro k
 rintro a w ⟨f41, y44, y49, v45, rw46, hl42, hm, hW47, hs⟩
 replace hA := hA.le hl42
 replace hR12 := hR12.le hl42
 replace hW13 := hW13.le hl42
 replace hW19 := hW19.le hl42
 replace hbase37 := hbase37.trans hl42
 intro K7 hK7
 cases k with
 | zero => simp [zcd] at hm
 | succ k54 =>
  rw [zcd] at hm
  have hbase55 := hl42
  refine Wq fun hK8 => s1 hs (zgq rfl rfl) fun hs => za0 <| hK8 <| Ws fun hK9 => ?_
  refine zah hs rfl (fun hg56 => ?_) (fun hg56 => ?_)
  ·replace hm := oc_t hg56 hm
   refine zaj <| hK9 <| Ws fun hK10 => zam fun Qe11 hB11 hO11 => Ws fun hK12 => za2 ?_
   obtain ⟨x57, hx58, hm⟩ := ob hm
   obtain ⟨r59, hr60, hq61, hi62, hb63⟩ := hW19.geti hx58
   obtain ⟨v64, rfl, hp65⟩ := hq61
   refine s1 hs (zac (Rd.st hs (.tail _ (.tail _ (.tail _ (hm9))))) rfl rfl hi62 hb63 U97 ti96) fun hs => s1 (v := v64) hs (zbm (i := y49.toNat) (j := 0) (Rd.st hs (.tail _ (.tail _ (.tail _ (hm9))))) rfl hr60 rfl U96 rfl) fun hs => sA hs rfl fun hs => za0 <| hK12 ?_
   have hsD := hs.subL (L' := .blk b25 (.cells #[.string (x6.name), .string (x6.text), v10, v45] 46 (0,0)) :: []) (.cons _ (.cons_cons _ (.cons _ (List.nil_sublist _))))
   have hbd66 := Fz.le.refl f41
   refine zj2 hs (.blk b25 (.cells #[.string (x6.name), .string (x6.text), v10, v45] 46 (0,0)) :: []) [7] (.look 0 (.look 1 (.look 2 (.any [3] (fun _ => .any [4] (fun _ => .any [5] (fun _ => .look 6 (.any [7] (fun _ => .done))))))))) mixed (by kernel_rfl) fun _ he => uy (v := pq b25 3) 0 he rfl (za1 rfl (FO.of (off := 3) U46 rfl rfl ti44 (by decide))) fun _ he => uy (v := v45) 1 he rfl (y_ld rfl U44 rfl (Cell.blk (.head _) rfl)) fun _ he => uy (v := v64) 2 he rfl (za3 rfl) fun _ he => ?_
   refine zeh he rfl ?_; clear he; (try clear a); intro a w hs
   obtain ⟨x67, hx68, hm⟩ := ob hm
   refine zgp (Lr := []) [.row v45 46 4 rw46, .blk b25 (.cells #[.string (x6.name), .string (x6.text), v10, v45] 46 (0,0)), .blk b1 (.cells #[.string ((bs [])), .string ((bs [])),(.slice none 0 0),(.slice none 0 0)] 46 (0,0))] hA hs rfl has46 rfl (slf_ok (f := f41) (a0 := v64) (A := A) hp65 hx68) (.free rfl) (by decide) ?_; clear hs; (try clear a w)
   rintro _ f69 _ a w hf70 ⟨r71, rfl, rfl, hq72⟩ hs
   have hA73 := hA.le hf70
   have hR74 := hR12.le hf70
   have hW75 := hW13.le hf70
   have hW76 := hW19.le hf70
   have hW77 := hW47.le hf70
   replace hbase55 := hbase55.trans hf70
   obtain ⟨v78, v83, rfl, ⟨rw79, hR80, hW81⟩, ⟨rw84, hR85, hW86⟩⟩ := R_dom_Part.ex hq72
   refine uon hs fun _ he => ?_
   refine zeh he rfl ?_; clear he; (try clear a); intro a w hs
   refine zka hs rfl U44 ti46 (by decide) (AllC.row ⟨rfl, rfl, hR80.one, hR85.one, trivial⟩ rfl) fun v88 _ _ hs => ?_
   have hW89 : RW zcy f69 [[.string (x67.Name), .string (x67.Text), v78, v83]] [x67] := RW.single (R_dom_Part.of (x := x67) ⟨rw79, hR80, hW81⟩ ⟨rw84, hR85, hW86⟩)
   generalize hgrw90 : ([[.string (x67.Name), .string (x67.Text), v78, v83]] : List (List Value)) = rw90 at hs hW89; clear hgrw90
   have ho93 : v88.oneCell' = true := hs.one (i := 0) rfl
   refine uon hs fun _ he => ?_
   refine zeh he rfl ?_; clear he; (try clear a); intro a w hs
   obtain ⟨x94, hx95, hm⟩ := ob hm
   obtain ⟨hbx94, hex94⟩ := zcb hx95
   have hW98 := hW77.append hW89; rw [hex94] at hW98
   refine zc9 (i := 1) hs rfl rfl rfl (Rd.st hs (.head _)) U44 ti46 (by decide) (by rw [RW.len hW77, RW.len hW89]; exact hbx94) (.free rfl) (by decide) fun v96 _ _ hs => ?_
   generalize hgx94 : rw46 ++ rw90 = rw97 at hs hW98; clear hgx94
   replace hs := hs.erase 0
   have ho100 : v96.oneCell' = true := hs.one (i := 0) rfl
   refine uon hs fun _ he => uy (v := pq b25 3) 6 he rfl (za1 rfl (FO.of (off := 3) U46 rfl rfl ti44 (by decide))) fun _ he => ?_
   refine zeh he rfl ?_; clear he; (try clear a); intro a w hs
   refine sstore 1 hs rfl rfl rfl ti44 ho100 fun _ _ hs => uend hs fun _ he => ?_
   refine zmg he ?_; clear he; (try clear a); intro w hs; try clear hsD
   refine hK10 <| za2 <| s1 hs (zdz rfl rfl rfl) fun hs => sM hs rfl fun hs => za0 ?_
   exact hK7 k54 _ _ (Nat.lt_succ_self _) ⟨_, x94,(w64 (y49 + 1)), v96, rw97, hbase55, hm, hW98, hs.sub ⟨rfl, rfl, rfl, rfl, rfl, trivial⟩⟩
  replace hm := oc_f hg56 hm
  refine zc0 <| hB6 _ _ ?_
  exact ⟨_, y44, v45, rw46, hbase37, hm, hW47, hs.sub ⟨rfl, rfl, trivial⟩⟩
theorem zji : ∀ (n : Nat) {f : Fz} {ab : List Nat} {A : List za4} {p0 : Int} {a0 : Value} {res : za8} (h0 : RP ab a0 p0) (_ : ze6 n p0 A = some res), DoesR nsh Tryz.prog 46 [a0] f [] ab A (fun r f' L' => ∃ (u0 : List Value), L' = [] ∧ r = .agg u0.toArray ∧ zcy.R f' u0 res)
  | 0, f, ab, A, p0, a0, res, h0, hm => by simp [ze6] at hm
  | n + 1, f, ab, A, p0, a0, res, h0, hm => zly n (zji n) h0 hm
end Go.Proofs.YtpfdbeafdjnbnaaGreatDoor
