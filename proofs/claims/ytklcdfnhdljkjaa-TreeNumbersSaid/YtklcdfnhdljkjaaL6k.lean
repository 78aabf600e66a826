/-
  Walks and laws of this seat.
-/
import Derived.Test.YtklcdfnhdljkjaaBasg
import Derived.Test.YtklcdfnhdljkjaaL6w
import Derived.Test.YtklcdfnhdljkjaaL6r
import Derived.Test.YtklcdfnhdljkjaaRows
namespace Go.Proofs.Ytklcdfnhdljkjaa
set_option linter.unusedVariables false
set_option linter.unusedSimpArgs false
set_option maxHeartbeats 4000000
set_option maxRecDepth 100000
open Go.RowKit Go.Sl
def zl5 (y17 : ByteArray) : Option ByteArray :=
  some y17
def zjl (y19 : Int) (lp20 : ByteArray → Int → Option ByteArray) (y22 : ByteArray) : Option ByteArray :=
  lp20 y22 (w64 (y19 + 1))
def zge (p0 : zae) (slf : zae → Int → Option ByteArray) (x8 : (List Int)) : Nat → ByteArray → Int → Option ByteArray
  | 0, _, _ => none
  | k20 + 1, y18, y19 =>
  (bif (decide (y19 < (x8.length : Int))) then (geti x8 y19).bind fun x23 =>
  (geti p0.Nodes x23).bind fun x30 =>
  (bif (decide (x30.Kind = 2)) then (geti x8 y19).bind fun x43 =>
  (geti p0.Nodes x43).bind fun x50 =>
  (addS y18 x50.Text).bind fun x62 =>
  (addS x62 (bs [59])).bind fun x64 =>
  zjl y19 (zge p0 slf x8 k20) x64 else
  (geti x8 y19).bind fun x66 =>
  (geti p0.Nodes x66).bind fun x73 =>
  (addS y18 x73.Name).bind fun x85 =>
  (addS x85 (bs [40])).bind fun x87 =>
  (geti x8 y19).bind fun x89 =>
  (slf p0 x89).bind fun x96 =>
  (addS x87 x96).bind fun x98 =>
  (addS x98 (bs [41])).bind fun x100 =>
  zjl y19 (zge p0 slf x8 k20) x100) else
  zl5 y18)
def zlu (slf : zae → Int → Option ByteArray) (n : Nat) (p0 : zae) (p1 : Int) : Option ByteArray :=
  (zpd n p0 p1).bind fun x8 =>
  zge p0 slf x8 n (bs []) 0
def zm9 : Nat → zae → Int → Option ByteArray
  | 0, _, _ => none
  | n + 1, p0, p1 => zlu (zm9 n) n p0 p1
theorem zqb {slf : zae → Int → Option ByteArray} (n : Nat) (slf_ok : ∀ {f : Fz} {p0 : zae} {a0 : List Value} {p1 : Int} {res : ByteArray} (_ : zff.R f a0 p0) (_ : slf p0 p1 = some res), Gives Try.prog 18 [.agg a0.toArray, .int .i64 p1] f (.string res)) {f : Fz} {p0 : zae} {a0 : List Value} {p1 : Int} {res : ByteArray} (h0 : zff.R f a0 p0) (hm : zlu slf n p0 p1 = some res) : Gives Try.prog 18 [.agg a0.toArray, .int .i64 p1] f (.string res) := by
 unfold zlu at hm
 intro w0 L w hC
 obtain ⟨v1, rfl, ⟨rw2, hR3, hW4⟩⟩ := h0
 refine enter Try.func18 rfl Try.ntmps18 (by simp) hC fun a hs => ?_
 have hle := Fz.le.refl f
 refine Wq fun hK1 => sbox hs rfl fun b6 _ _ hs => sA (v := .string ((bs []))) hs rfl fun hs => za0 <| hK1 <| Wq fun hK2 => sA (v := .string ((bs []))) hs rfl fun hs => za0 ?_
 refine hK2 <| Wq fun hK3 => s1 hs (zk8 rfl Try.underlying24 rfl ti24 (.head _) rfl) fun hs => sM (v := .int .i64 (p1)) hs rfl fun hs => ?_
 obtain ⟨x8, hx9, hm⟩ := ob hm
 refine zen hs rfl has40 rfl (ref5_Kids_ok n (f := f) (a0 := [v1]) ⟨_, rfl, ⟨rw2, hR3, hW4⟩⟩ hx9) ?_; clear hs; (try clear a w)
 rintro v12 f10 _ a w hf11 ⟨_, rfl, rfl, ⟨rw13, hR14, hW15⟩⟩ hs
 replace hR3 := hR3.le hf11
 replace hW4 := hW4.le hf11
 replace hle := hle.trans hf11
 refine sA (v := v12) hs rfl fun hs => za0 <| hK3 <| Ws fun hK4 => Wq fun hK5 => sA (v := .int .i64 (0)) hs rfl fun hs => za0 <| hK5 ?_
 refine zai (fun a w => ∃ (y17 : ByteArray), zl5 y17 = some res ∧ St 60 w0 f10 (L) [(5, .string (y17))] a w) ?_ ?_
 ·clear hs hm
  rintro a w ⟨y17, hm, hs⟩
  unfold zl5 at hm
  refine hK4 <| Wq fun hK6 => sM (v := .string (y17)) hs rfl fun hs => sA (v := .string (y17)) hs rfl fun hs => za0 <| hK6 <| zau ?_
  obtain rfl := Option.some.inj hm
  refine RtV1 hs rfl (rv_t hs rfl) ?_
  exact ⟨rfl, (hs.weak hle).cw⟩
 refine zam fun Qe7 hB7 hO7 => zcw (fun (k : Nat) a w => ∃ (y18 : ByteArray) (y19 : Int), zge p0 slf x8 k y18 y19 = some res ∧ St 60 w0 f10 (.blk b6 (.cells #[v1] 24 (0, 0)) :: L) [(2, .pointer (some ⟨b6, 0, none⟩)), (5, .string (y18)), (6, v12), (7, .int .i64 (y19))] a w) (fun k => k) n ⟨(bs []), 0, hm, hs.sub ⟨rfl, rfl, rfl, rfl, trivial⟩⟩ ?_
 clear hs hm
 intro k
 rintro a w ⟨y18, y19, hm, hs⟩
 intro K8 hK8
 cases k with
 | zero => simp [zge] at hm
 | succ k20 =>
  rw [zge] at hm
  refine Ws fun hK9 => Wq fun hK10 => sM (v := .int .i64 (y19)) hs rfl fun hs => sM (v := v12) hs rfl fun hs => s1 hs (zb7 hR14 hW15 rfl Try.underlying46) fun hs => s1 hs (zg7 rfl rfl) fun hs => za0 <| hK10 ?_
  refine zaf hs rfl (fun hg21 => ?_) (fun hg21 => ?_)
  ·replace hm := oc_t hg21 hm
   refine zah <| hK9 <| Ws fun hK11 => ?_
   refine zai (fun a w => ∃ (y22 : ByteArray), zjl y19 (zge p0 slf x8 k20) y22 = some res ∧ St 60 w0 f10 (.blk b6 (.cells #[v1] 24 (0, 0)) :: L) [(2, .pointer (some ⟨b6, 0, none⟩)), (5, .string (y22)), (6, v12), (7, .int .i64 (y19))] a w) ?_ ?_
   ·clear hs hm
    rintro a w ⟨y22, hm, hs⟩
    unfold zjl at hm
    refine hK11 <| za7 <| sM (v := .int .i64 (y19)) hs rfl fun hs => s1 hs (zeq rfl rfl rfl) fun hs => sA (v := .int .i64 ((w64 (y19 + 1)))) hs rfl fun hs => za0 ?_
    exact hK8 k20 _ _ (Nat.lt_succ_self _) ⟨y22, (w64 (y19 + 1)), hm, hs.sub ⟨rfl, rfl, rfl, rfl, trivial⟩⟩
   refine zam fun Qe12 hB12 hO12 => Ws fun hK13 => Ws fun hK14 => ?_
   refine zk7 hs mixed (by kernel_rfl) ?_; intro a he
   refine qy (v := .pointer (some ⟨b6, 0, none⟩)) he (za1 rfl (FO.of (off := 0) Try.underlying24 rfl rfl ti22 (by decide))) fun _ he => qy (v := v1) he (y_ld rfl Try.underlying22 rfl (Cell.blk (.head _) rfl)) fun _ he => qy (v := v12) he (zaa rfl) fun _ he => qy (v := .int .i64 (y19)) he (zaa rfl) fun _ he => ?_
   obtain ⟨x23, hx24, hm⟩ := ob hm
   obtain ⟨r25, hr26, hq27, hi28, hb29⟩ := hW15.geti hx24
   obtain rfl : _ = ([.int .i64 (x23)] : List Value) := hq27
   refine qy he (za8 hR14 rfl rfl hi28 hb29 Try.underlying46 ti3) fun _ he => qy (v := .int .i64 (x23)) he (zaw (i := y19.toNat) (j := 0) hR14.up rfl hr26 rfl Try.underlying3 rfl) fun _ he => ?_
   obtain ⟨x30, hx31, hm⟩ := ob hm
   obtain ⟨r32, hr33, hq34, hi35, hb36⟩ := hW4.geti hx31
   obtain ⟨v37, rfl, ⟨rw38, hR39, hW40⟩⟩ := hq34
   refine qy he (za8 hR3 rfl rfl hi35 hb36 Try.underlying22 ti36) fun _ he => qy (v := eaddr v1 9 x23.toNat 0) he (zal (i := x23.toNat) (j := 0) hR3 rfl hb36 (FO.of (off := 0) Try.underlying36 rfl rfl ti3 (by decide))) fun _ he => qy (v := .int .i64 (x30.Kind)) he (zaw (i := x23.toNat) (j := 0) hR3.up rfl hr33 rfl Try.underlying3 rfl) fun _ he => qy he (zd3 rfl rfl) fun _ he => ?_
   refine zgy he ?_; clear he; (try clear hs); (try clear a); intro a w hs
   refine hK14 ?_
   refine zaf hs rfl (fun hg42 => ?_) (fun hg42 => ?_)
   ·replace hm := oc_t hg42 hm
    refine Ws fun hK15 => ?_
    refine zk7 hs mixed (by kernel_rfl) ?_; intro a he
    refine qy (v := .string (y18)) he (zaa rfl) fun _ he => qy (v := .pointer (some ⟨b6, 0, none⟩)) he (za1 rfl (FO.of (off := 0) Try.underlying24 rfl rfl ti22 (by decide))) fun _ he => qy (v := v1) he (y_ld rfl Try.underlying22 rfl (Cell.blk (.head _) rfl)) fun _ he => qy (v := v12) he (zaa rfl) fun _ he => qy (v := .int .i64 (y19)) he (zaa rfl) fun _ he => ?_
    obtain ⟨x43, hx44, hm⟩ := ob hm
    obtain ⟨r45, hr46, hq47, hi48, hb49⟩ := hW15.geti hx44
    obtain rfl : _ = ([.int .i64 (x43)] : List Value) := hq47
    refine qy he (za8 hR14 rfl rfl hi48 hb49 Try.underlying46 ti3) fun _ he => qy (v := .int .i64 (x43)) he (zaw (i := y19.toNat) (j := 0) hR14.up rfl hr46 rfl Try.underlying3 rfl) fun _ he => ?_
    obtain ⟨x50, hx51, hm⟩ := ob hm
    obtain ⟨r52, hr53, hq54, hi55, hb56⟩ := hW4.geti hx51
    obtain ⟨v57, rfl, ⟨rw58, hR59, hW60⟩⟩ := hq54
    refine qy he (za8 hR3 rfl rfl hi55 hb56 Try.underlying22 ti36) fun _ he => qy (v := eaddr v1 9 x43.toNat 2) he (zal (i := x43.toNat) (j := 0) hR3 rfl hb56 (FO.of (off := 2) Try.underlying36 rfl rfl ti9 (by decide))) fun _ he => qy (v := .string (x50.Text)) he (zaw (i := x43.toNat) (j := 2) hR3.up rfl hr53 rfl Try.underlying9 rfl) fun _ he => ?_
    obtain ⟨x62, hx63, hm⟩ := ob hm
    obtain ⟨hbx62, hex62⟩ := zg6 hx63
    refine qy he (zir rfl rfl hbx62 hex62) fun _ he => ?_
    obtain ⟨x64, hx65, hm⟩ := ob hm
    obtain ⟨hbx64, hex64⟩ := zg6 hx65
    refine qy he (zir rfl rfl hbx64 hex64) fun _ he => qy (v := .string (x64)) he (zca rfl) fun _ he => ?_
    refine zgy he ?_; clear he; (try clear hs); (try clear a); intro a w hs
    refine hK15 <| zc9 <| hB12 _ _ ?_
    exact ⟨x64, hm, hs.sub ⟨rfl, rfl, rfl, rfl, trivial⟩⟩
   replace hm := oc_f hg42 hm
   refine zah <| hK13 ?_
   refine zk7 hs mixed (by kernel_rfl) ?_; intro a he
   refine qy (v := .string (y18)) he (zaa rfl) fun _ he => qy (v := .pointer (some ⟨b6, 0, none⟩)) he (za1 rfl (FO.of (off := 0) Try.underlying24 rfl rfl ti22 (by decide))) fun _ he => qy (v := v1) he (y_ld rfl Try.underlying22 rfl (Cell.blk (.head _) rfl)) fun _ he => qy (v := v12) he (zaa rfl) fun _ he => qy (v := .int .i64 (y19)) he (zaa rfl) fun _ he => ?_
   obtain ⟨x66, hx67, hm⟩ := ob hm
   obtain ⟨r68, hr69, hq70, hi71, hb72⟩ := hW15.geti hx67
   obtain rfl : _ = ([.int .i64 (x66)] : List Value) := hq70
   refine qy he (za8 hR14 rfl rfl hi71 hb72 Try.underlying46 ti3) fun _ he => qy (v := .int .i64 (x66)) he (zaw (i := y19.toNat) (j := 0) hR14.up rfl hr69 rfl Try.underlying3 rfl) fun _ he => ?_
   obtain ⟨x73, hx74, hm⟩ := ob hm
   obtain ⟨r75, hr76, hq77, hi78, hb79⟩ := hW4.geti hx74
   obtain ⟨v80, rfl, ⟨rw81, hR82, hW83⟩⟩ := hq77
   refine qy he (za8 hR3 rfl rfl hi78 hb79 Try.underlying22 ti36) fun _ he => qy (v := eaddr v1 9 x66.toNat 1) he (zal (i := x66.toNat) (j := 0) hR3 rfl hb79 (FO.of (off := 1) Try.underlying36 rfl rfl ti9 (by decide))) fun _ he => qy (v := .string (x73.Name)) he (zaw (i := x66.toNat) (j := 1) hR3.up rfl hr76 rfl Try.underlying9 rfl) fun _ he => ?_
   obtain ⟨x85, hx86, hm⟩ := ob hm
   obtain ⟨hbx85, hex85⟩ := zg6 hx86
   refine qy he (zir rfl rfl hbx85 hex85) fun _ he => ?_
   obtain ⟨x87, hx88, hm⟩ := ob hm
   obtain ⟨hbx87, hex87⟩ := zg6 hx88
   refine qy he (zir rfl rfl hbx87 hex87) fun _ he => qy he (zk8 rfl Try.underlying24 rfl ti24 (.head _) rfl) fun _ he => qy (v := v12) he (zaa rfl) fun _ he => qy (v := .int .i64 (y19)) he (zaa rfl) fun _ he => ?_
   obtain ⟨x89, hx90, hm⟩ := ob hm
   obtain ⟨r91, hr92, hq93, hi94, hb95⟩ := hW15.geti hx90
   obtain rfl : _ = ([.int .i64 (x89)] : List Value) := hq93
   refine qy he (za8 hR14 rfl rfl hi94 hb95 Try.underlying46 ti3) fun _ he => qy (v := .int .i64 (x89)) he (zaw (i := y19.toNat) (j := 0) hR14.up rfl hr92 rfl Try.underlying3 rfl) fun _ he => ?_
   obtain ⟨x96, hx97, hm⟩ := ob hm
   refine qy he (zbd rfl has18 rfl (slf_ok (f := f10) (a0 := [v1]) ⟨_, rfl, ⟨rw2, hR3, hW4⟩⟩ hx97)) fun _ he => ?_
   obtain ⟨x98, hx99, hm⟩ := ob hm
   obtain ⟨hbx98, hex98⟩ := zg6 hx99
   refine qy he (zir rfl rfl hbx98 hex98) fun _ he => ?_
   obtain ⟨x100, hx101, hm⟩ := ob hm
   obtain ⟨hbx100, hex100⟩ := zg6 hx101
   refine qy he (zir rfl rfl hbx100 hex100) fun _ he => qy (v := .string (x100)) he (zca rfl) fun _ he => ?_
   refine zgy he ?_; clear he; (try clear hs); (try clear a); intro a w hs
   exact ⟨x100, hm, hs.sub ⟨rfl, rfl, rfl, rfl, trivial⟩⟩
  replace hm := oc_f hg21 hm
  refine zc9 <| hB7 _ _ ?_
  exact ⟨y18, hm, hs.subs ⟨rfl, trivial⟩ (.cons _ (.refl _))⟩
theorem zni : ∀ (n : Nat) {f : Fz} {p0 : zae} {a0 : List Value} {p1 : Int} {res : ByteArray} (h0 : zff.R f a0 p0) (_ : zm9 n p0 p1 = some res), Gives Try.prog 18 [.agg a0.toArray, .int .i64 p1] f (.string res)
  | 0, f, p0, a0, p1, res, h0, hm => by simp [zm9] at hm
  | n + 1, f, p0, a0, p1, res, h0, hm => zqb n (zni n) h0 hm
def ziw (y25 : Bool) : Option Bool :=
  some y25
def zfe (n : Nat) (p0 : ByteArray) (p1 : ByteArray) : Option Bool :=
  (runesM p0).bind fun x1 =>
  (zbp n x1).bind fun x11 =>
  (bif (decide (x11.2 = 0)) then (bif (decide (0 < (x11.1.Nodes.length : Int))) then (geti x11.1.Nodes 0).bind fun x28 =>
  (bif (decide (x28.Name = (bs [114, 111, 111, 116]))) then (znz n x11.1).bind fun x41 =>
  (bif (decide (x41 = 0)) then (zm9 n x11.1 0).bind fun x44 =>
  ziw (decide (x44 = p1)) else
  ziw false) else
  ziw false) else
  ziw false) else
  ziw false)
theorem zg5 (n : Nat) {f : Fz} {p0 : ByteArray} {p1 : ByteArray} {res : Bool}  (hm : zfe n p0 p1 = some res) : Gives Try.prog 9 [.string p0, .string p1] f (.bool res) := by
 unfold zfe at hm
 intro w0 L w hC
 refine enter Try.func9 rfl Try.ntmps9 (by simp) hC fun a hs => ?_
 have hle := Fz.le.refl f
 refine Wq fun hK1 => sA (v := .bool (false)) hs rfl fun hs => za0 <| hK1 <| Wq fun hK2 => sM (v := .string (p0)) hs rfl fun hs => ?_
 obtain ⟨x1, hx2, hm⟩ := ob hm
 refine zld hx2 hs rfl Try.underlying9 Try.underlying28 Try.underlying21 fun v3 rw4 _ _ hW5 hs => ?_
 obtain ⟨f8, hf9, hs2, hR10⟩ := hs.frzAt 0 rfl
 clear hs; have hs := hs2; clear hs2
 replace hW5 := hW5.le hf9
 replace hle := hle.trans hf9
 obtain ⟨x11, hx12, hm⟩ := ob hm
 refine zen hs rfl has7 rfl (zet n (f := f8) (a0 := v3) ⟨rw4, hR10, hW5⟩ hx12) ?_; clear hs; (try clear a w)
 rintro _ f13 _ a w hf14 ⟨r15, rfl, rfl, hq16⟩ hs
 replace hW5 := hW5.le hf14
 replace hR10 := hR10.le hf14
 replace hle := hle.trans hf14
 obtain ⟨v17, rfl, ⟨rw18, hR19, hW20⟩⟩ := hq16
 refine sM (v := .tuple #[.agg #[v17], .int .i64 (x11.2)]) hs rfl fun hs => s1 (v := .agg #[v17]) hs (zar rfl rfl) fun hs => s1 (v := .int .i64 (x11.2)) hs (zar rfl rfl) fun hs => zbt hs ti24 (.free rfl) (by decide) fun b22 _ _ hs => zat (i := 0) hs rfl rfl rfl ti24 ⟨rfl, rfl⟩ (AllC.arr (r := [v17]) ⟨hR19.one, trivial⟩) (.free rfl) fun _ _ hs => sA (v := .int .i64 (x11.2)) hs rfl fun hs => za0 <| hK2 <| Ws fun hK3 => ?_
 refine zai (fun a w => ∃ (y25 : Bool), ziw y25 = some res ∧ St 40 w0 f13 (L) [(4, .bool (y25))] a w) ?_ ?_
 ·clear hs hm
  rintro a w ⟨y25, hm, hs⟩
  unfold ziw at hm
  refine hK3 <| zau ?_
  obtain rfl := Option.some.inj hm
  refine RtV1 hs rfl (rv_t hs rfl) ?_
  exact ⟨rfl, (hs.weak hle).cw⟩
 refine za7 <| sM (v := .int .i64 (x11.2)) hs rfl fun hs => s1 hs (zd3 rfl rfl) fun hs => sM (v := .bool (decide (x11.2 = 0))) hs rfl fun hs => ?_
 refine St.split hs (t := 15) rfl (fun hg26 hs => ?_) (fun hg26 hs => ?_)
 ·replace hm := oc_t hg26 hm
  refine s2 (v := .pointer (some ⟨b22, 0, none⟩)) hs (za1 rfl (FO.of (off := 0) Try.underlying24 rfl rfl ti22 (by decide))) fun hs => s2 (v := v17) hs (y_ld rfl Try.underlying22 rfl (Cell.blk (.head _) rfl)) fun hs => s2 hs (zb7 hR19 hW20 rfl Try.underlying22) fun hs => s2 hs (zis rfl rfl) fun hs => sP (v := .bool (decide (0 < (x11.1.Nodes.length : Int)))) hs rfl rfl fun hs => sM (v := .bool (decide (0 < (x11.1.Nodes.length : Int)))) hs rfl fun hs => ?_
  refine St.split hs (t := 21) rfl (fun hg27 hs => ?_) (fun hg27 hs => ?_)
  ·replace hm := oc_t hg27 hm
   refine s2 (v := .pointer (some ⟨b22, 0, none⟩)) hs (za1 rfl (FO.of (off := 0) Try.underlying24 rfl rfl ti22 (by decide))) fun hs => s2 (v := v17) hs (y_ld rfl Try.underlying22 rfl (Cell.blk (.head _) rfl)) fun hs => ?_
   obtain ⟨x28, hx29, hm⟩ := ob hm
   obtain ⟨r30, hr31, hq32, hi33, hb34⟩ := hW20.geti hx29
   obtain ⟨v35, rfl, ⟨rw36, hR37, hW38⟩⟩ := hq32
   refine s2 hs (za8 hR19 rfl rfl hi33 hb34 Try.underlying22 ti36) fun hs => s2 (v := eaddr v17 9 ((0 : Int).toNat) 1) hs (zal (i := (0 : Int).toNat) (j := 0) hR19 rfl hb34 (FO.of (off := 1) Try.underlying36 rfl rfl ti9 (by decide))) fun hs => s2 (v := .string (x28.Name)) hs (zaw (i := (0 : Int).toNat) (j := 1) hR19.up rfl hr31 rfl Try.underlying9 rfl) fun hs => s2 hs (zd9 rfl rfl) fun hs => sP (v := .bool (decide (x28.Name = (bs [114, 111, 111, 116])))) hs rfl rfl fun hs => sM (v := .bool (decide (x28.Name = (bs [114, 111, 111, 116])))) hs rfl fun hs => ?_
   refine St.split hs (t := 29) rfl (fun hg40 hs => ?_) (fun hg40 hs => ?_)
   ·replace hm := oc_t hg40 hm
    refine s2 hs (zk8 rfl Try.underlying24 rfl ti24 (.head _) rfl) fun hs => ?_
    obtain ⟨x41, hx42, hm⟩ := ob hm
    refine s2 hs (zbd rfl has17 rfl (zrk n (f := f13) (a0 := [v17]) ⟨_, rfl, ⟨rw18, hR19, hW20⟩⟩ hx42)) fun hs => s2 hs (zd3 rfl rfl) fun hs => sP (v := .bool (decide (x41 = 0))) hs rfl rfl fun hs => sM (v := .bool (decide (x41 = 0))) hs rfl fun hs => ?_
    refine St.split hs (t := 34) rfl (fun hg43 hs => ?_) (fun hg43 hs => ?_)
    ·replace hm := oc_t hg43 hm
     refine s2 hs (zk8 rfl Try.underlying24 rfl ti24 (.head _) rfl) fun hs => ?_
     obtain ⟨x44, hx45, hm⟩ := ob hm
     refine s2 hs (zbd rfl has18 rfl (zni n (f := f13) (a0 := [v17]) ⟨_, rfl, ⟨rw18, hR19, hW20⟩⟩ hx45)) fun hs => s2 (v := .string (p1)) hs (zaa rfl) fun hs => s2 hs (zd9 rfl rfl) fun hs => sP (v := .bool (decide (x44 = p1))) hs rfl rfl fun hs => sA (v := .bool (decide (x44 = p1))) hs rfl fun hs => za0 ?_
     exact ⟨decide (x44 = p1), hm, hs.subs ⟨rfl, trivial⟩ (.cons _ (.refl _))⟩
    replace hm := oc_f hg43 hm
    refine s3 hs fun hs => s3 hs fun hs => s3 hs fun hs => s3 hs fun hs => sP (v := .bool (false)) hs rfl rfl fun hs => sA (v := .bool (false)) hs rfl fun hs => za0 ?_
    exact ⟨false, hm, hs.subs ⟨rfl, trivial⟩ (.cons _ (.refl _))⟩
   replace hm := oc_f hg40 hm
   refine s3 hs fun hs => s3 hs fun hs => s3 hs fun hs => sP (v := .bool (false)) hs rfl rfl fun hs => sM (v := .bool (false)) hs rfl fun hs => s3 hs fun hs => s3 hs fun hs => s3 hs fun hs => s3 hs fun hs => sP (v := .bool (false)) hs rfl rfl fun hs => ?_
   refine sA (v := .bool (false)) hs rfl fun hs => za0 ?_
   exact ⟨false, hm, hs.subs ⟨rfl, trivial⟩ (.cons _ (.refl _))⟩
  replace hm := oc_f hg27 hm
  refine s3 hs fun hs => s3 hs fun hs => s3 hs fun hs => s3 hs fun hs => s3 hs fun hs => s3 hs fun hs => sP (v := .bool (false)) hs rfl rfl fun hs => sM (v := .bool (false)) hs rfl fun hs => s3 hs fun hs => s3 hs fun hs => ?_
  refine s3 hs fun hs => sP (v := .bool (false)) hs rfl rfl fun hs => sM (v := .bool (false)) hs rfl fun hs => s3 hs fun hs => s3 hs fun hs => s3 hs fun hs => s3 hs fun hs => sP (v := .bool (false)) hs rfl rfl fun hs => sA (v := .bool (false)) hs rfl fun hs => za0 ?_
  exact ⟨false, hm, hs.subs ⟨rfl, trivial⟩ (.cons _ (.refl _))⟩
 replace hm := oc_f hg26 hm
 refine s3 hs fun hs => s3 hs fun hs => s3 hs fun hs => s3 hs fun hs => sP (v := .bool (false)) hs rfl rfl fun hs => sM (v := .bool (false)) hs rfl fun hs => s3 hs fun hs => s3 hs fun hs => s3 hs fun hs => s3 hs fun hs => ?_
 refine s3 hs fun hs => s3 hs fun hs => sP (v := .bool (false)) hs rfl rfl fun hs => sM (v := .bool (false)) hs rfl fun hs => s3 hs fun hs => s3 hs fun hs => s3 hs fun hs => sP (v := .bool (false)) hs rfl rfl fun hs => sM (v := .bool (false)) hs rfl fun hs => s3 hs fun hs => ?_
 refine s3 hs fun hs => s3 hs fun hs => s3 hs fun hs => sP (v := .bool (false)) hs rfl rfl fun hs => sA (v := .bool (false)) hs rfl fun hs => za0 ?_
 exact ⟨false, hm, hs.subs ⟨rfl, trivial⟩ (.cons _ (.refl _))⟩
def zjm (y1 : Bool) : Option Bool :=
  some y1
def zfj (n : Nat) : Option Bool :=
  (zfe n (bs [97, 60, 112, 62, 98, 60, 100, 105, 118, 62, 99]) (bs [97, 59, 112, 40, 98, 59, 41, 100, 105, 118, 40, 99, 59, 41])).bind fun x2 =>
  (bif x2 then (zfe n (bs [60, 116, 97, 98, 108, 101, 62, 120, 60, 116, 100, 62, 49, 60, 116, 100, 62, 50, 60, 116, 114, 62, 60, 116, 100, 62, 51, 60, 47, 116, 97, 98, 108, 101, 62]) (bs [120, 59, 116, 97, 98, 108, 101, 40, 116, 114, 40, 116, 100, 40, 49, 59, 41, 116, 100, 40, 50, 59, 41, 41, 116, 114, 40, 116, 100, 40, 51, 59, 41, 41, 41])).bind fun x5 =>
  zjm x5 else
  zjm false)
theorem zfu (n : Nat) {f : Fz}  {res : Bool}  (hm : zfj n = some res) : Gives Try.prog 10 [] f (.bool res) := by
 unfold zfj at hm
 intro w0 L w hC
 refine enter Try.func10 rfl Try.ntmps10 (by simp) hC fun a hs => ?_
 have hle := Fz.le.refl f
 refine Wq fun hK1 => sA (v := .bool (false)) hs rfl fun hs => za0 <| hK1 <| Ws fun hK2 => ?_
 refine zai (fun a w => ∃ (y1 : Bool), zjm y1 = some res ∧ St 5 w0 f (L) [(0, .bool (y1))] a w) ?_ ?_
 ·clear hs hm
  rintro a w ⟨y1, hm, hs⟩
  unfold zjm at hm
  refine hK2 <| zau ?_
  obtain rfl := Option.some.inj hm
  refine RtV1 hs rfl (rv_t hs rfl) ?_
  exact ⟨rfl, (hs.weak hle).cw⟩
 refine za7 ?_
 obtain ⟨x2, hx3, hm⟩ := ob hm
 refine s1 hs (zbd rfl has9 rfl (zg5 n (f := f)  hx3)) fun hs => sM (v := .bool (x2)) hs rfl fun hs => ?_
 refine St.split hs (t := 2) rfl (fun hg4 hs => ?_) (fun hg4 hs => ?_)
 ·replace hm := oc_t hg4 hm
  obtain ⟨x5, hx6, hm⟩ := ob hm
  refine s2 hs (zbd rfl has9 rfl (zg5 n (f := f)  hx6)) fun hs => sP (v := .bool (x5)) hs rfl rfl fun hs => sA (v := .bool (x5)) hs rfl fun hs => za0 ?_
  exact ⟨x5, hm, hs.sub ⟨rfl, trivial⟩⟩
 replace hm := oc_f hg4 hm
 refine s3 hs fun hs => sP (v := .bool (false)) hs rfl rfl fun hs => sA (v := .bool (false)) hs rfl fun hs => za0 ?_
 exact ⟨false, hm, hs.sub ⟨rfl, trivial⟩⟩
end Go.Proofs.Ytklcdfnhdljkjaa
