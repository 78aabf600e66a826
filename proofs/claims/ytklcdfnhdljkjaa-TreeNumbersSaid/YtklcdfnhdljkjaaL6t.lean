/-
  Walks and laws of this seat.
-/
import Derived.Test.YtklcdfnhdljkjaaBasg
import Derived.Test.YtklcdfnhdljkjaaL6s
import Derived.Test.YtklcdfnhdljkjaaRows
namespace Go.Proofs.Ytklcdfnhdljkjaa
set_option linter.unusedVariables false
set_option linter.unusedSimpArgs false
set_option maxHeartbeats 4000000
set_option maxRecDepth 100000
open Go.RowKit Go.Sl
def zbr (n : Nat) (p0 : za6) (A : (List za2)) : Option (Int × za6) :=
  (geti p0.open_ (w64 ((p0.open_.length : Int) - 1))).bind fun x4 =>
  some (x4, ({open_ := p0.open_, count := p0.count, deep := p0.deep} : za6))
theorem zdj (n : Nat) {f : Fz} {ab : List Nat} {A : List za2} {p0 : za6} {pb0 : Nat} {pv0_0 : Value} {pv0_0r : List (List Value)} {res : (Int × za6)} (pv0_0h : RW (tP ab) f pv0_0r p0.open_) (hm : zbr n p0 A = some res) : DoesR nsh Try.prog 43 [.pointer (some ⟨pb0, 0, none⟩)] f [.blk pb0 (.cells #[pv0_0, .int .i64 p0.count, .bool p0.deep] 54 (0, 0)), .row pv0_0 48 1 pv0_0r] ab A (fun r f' L' => ∃ (u0 : Value) (dp0_0 : Value) (dp0_0r : List (List Value)), L' = [.blk pb0 (.cells #[dp0_0, .int .i64 res.2.count, .bool res.2.deep] 54 (0, 0)), .row dp0_0 48 1 dp0_0r] ∧ r = u0 ∧ RP ab u0 res.1 ∧ RW (tP ab) f' dp0_0r res.2.open_) := by
 unfold zbr at hm
 intro w0 L0 L w hA hC
 replace hC : Cw w0 f (.blk pb0 (.cells #[pv0_0, .int .i64 p0.count, .bool p0.deep] 54 (0, 0)) :: .row pv0_0 48 1 pv0_0r :: L) w := hC
 refine enter Try.func43 rfl Try.ntmps43 (by simp) hC fun a hs => ?_
 have hle := Fz.le.refl f
 refine Wq fun hK1 => sA (v := .pointer none) hs rfl fun hs => za0 <| hK1 <| Ws fun hK2 => ?_
 refine zk7 hs mixed (by kernel_rfl) ?_; intro a he
 refine qy (v := .pointer (some ⟨pb0, 0, none⟩)) he (zaa rfl) fun _ he => qy he (zab rfl) fun _ he => qy (v := .pointer (some ⟨pb0, 0, none⟩)) he (za1 rfl (FO.of (off := 0) Try.underlying54 rfl rfl ti49 (by decide))) fun _ he => qy (v := pv0_0) he (y_ld rfl Try.underlying49 rfl (Cell.blk (.head _) rfl)) fun _ he => qy (v := .pointer (some ⟨pb0, 0, none⟩)) he (zaa rfl) fun _ he => qy he (zab rfl) fun _ he => qy (v := .pointer (some ⟨pb0, 0, none⟩)) he (za1 rfl (FO.of (off := 0) Try.underlying54 rfl rfl ti49 (by decide))) fun _ he => qy (v := pv0_0) he (y_ld rfl Try.underlying49 rfl (Cell.blk (.head _) rfl)) fun _ he => qy he (zb7 (Rd.st hs (.tail _ (.head _))) pv0_0h rfl Try.underlying49) fun _ he => qy he (zmt rfl rfl rfl) fun _ he => ?_
 obtain ⟨x4, hx5, hm⟩ := ob hm
 obtain ⟨r6, hr7, hq8, hi9, hb10⟩ := pv0_0h.geti hx5
 obtain ⟨v11, rfl, hp12⟩ := hq8
 refine qy he (za8 (Rd.st hs (.tail _ (.head _))) rfl rfl hi9 hb10 Try.underlying49 ti48) fun _ he => qy (v := v11) he (zaw (i := (w64 ((p0.open_.length : Int) - 1)).toNat) (j := 0) (Rd.st hs (.tail _ (.head _))) rfl hr7 rfl Try.underlying48 rfl) fun _ he => qy (v := v11) he (zca rfl) fun _ he => ?_
 refine zgy he ?_; clear he; (try clear hs); (try clear a); intro a w hs
 refine hK2 <| zau ?_
 obtain rfl := Option.some.inj hm
 refine RtV1 hs rfl (rv_t hs rfl) ?_
 exact ⟨_, f, [.blk pb0 (.cells #[pv0_0, .int .i64 (p0.count), .bool (p0.deep)] 54 (0, 0)), .row pv0_0 48 1 pv0_0r], rfl, hle, hs.cw, v11, pv0_0, pv0_0r, rfl, rfl, hp12, pv0_0h⟩
def zhp : Option Int :=
  some (-1)
def zcd (A : (List za2)) (p0 : za6) (p1 : Int) (p2 : ByteArray) : Nat → Int → Option Int
  | 0, _ => none
  | k5 + 1, y4 =>
  (bif (decide (p1 < y4)) then (geti p0.open_ y4).bind fun x7 =>
  (focM A [] x7).bind fun x16 =>
  (bif (decide (x16.name = p2)) then some y4 else
  (zcd A p0 p1 p2 k5) (w64 (y4 - 1))) else
  zhp)
def ze8 (n : Nat) (p0 : za6) (p1 : Int) (p2 : ByteArray) (A : (List za2)) : Option Int :=
  zcd A p0 p1 p2 n (w64 ((p0.open_.length : Int) - 1))
theorem zho (n : Nat) {f : Fz} {ab : List Nat} {A : List za2} {p0 : za6} {pb0 : Nat} {pv0_0 : Value} {pv0_0r : List (List Value)} {p1 : Int} {p2 : ByteArray} {res : Int} (pv0_0h : RW (tP ab) f pv0_0r p0.open_) (hm : ze8 n p0 p1 p2 A = some res) : GivesR nsh Try.prog 52 [.pointer (some ⟨pb0, 0, none⟩), .int .i64 p1, .string p2] f [.blk pb0 (.cells #[pv0_0, .int .i64 p0.count, .bool p0.deep] 54 (0, 0)), .row pv0_0 48 1 pv0_0r] ab A (.int .i64 res) := by
 unfold ze8 at hm
 intro w0 L0 L w hA hC
 replace hC : Cw w0 f (.blk pb0 (.cells #[pv0_0, .int .i64 p0.count, .bool p0.deep] 54 (0, 0)) :: .row pv0_0 48 1 pv0_0r :: L) w := hC
 refine enter Try.func52 rfl Try.ntmps52 (by simp) hC fun a hs => ?_
 have hle := Fz.le.refl f
 refine Wq fun hK1 => sA (v := .int .i64 (0)) hs rfl fun hs => za0 <| hK1 <| Ws fun hK2 => Wq fun hK3 => sM (v := .pointer (some ⟨pb0, 0, none⟩)) hs rfl fun hs => s1 hs (zab rfl) fun hs => ?_
 refine s1 (v := .pointer (some ⟨pb0, 0, none⟩)) hs (za1 rfl (FO.of (off := 0) Try.underlying54 rfl rfl ti49 (by decide))) fun hs => s1 (v := pv0_0) hs (y_ld rfl Try.underlying49 rfl (Cell.blk (.head _) rfl)) fun hs => s1 hs (zb7 (Rd.st hs (.tail _ (.head _))) pv0_0h rfl Try.underlying49) fun hs => s1 hs (zmt rfl rfl rfl) fun hs => sA (v := .int .i64 ((w64 ((p0.open_.length : Int) - 1)))) hs rfl fun hs => za0 <| hK3 ?_
 refine zai (fun a w => zhp = some res ∧ St 32 w0 f (.blk pb0 (.cells #[pv0_0, .int .i64 (p0.count), .bool (p0.deep)] 54 (0, 0)) :: .row pv0_0 48 1 pv0_0r :: L) [] a w) ?_ ?_
 ·clear hs hm
  rintro a w ⟨hm, hs⟩
  unfold zhp at hm
  refine hK2 <| Wq fun hK4 => sA (v := .int .i64 ((-1))) hs rfl fun hs => za0 <| hK4 <| zau ?_
  obtain rfl := Option.some.inj hm
  refine RtV1 hs rfl (rv_t hs rfl) ?_
  exact ⟨rfl, (hs.weak hle).cw⟩
 refine zam fun Qe5 hB5 hO5 => zcw (fun (k : Nat) a w => ∃ (y4 : Int), zcd A p0 p1 p2 k y4 = some res ∧ St 32 w0 f (.blk pb0 (.cells #[pv0_0, .int .i64 (p0.count), .bool (p0.deep)] 54 (0, 0)) :: .row pv0_0 48 1 pv0_0r :: L) [(0, .pointer (some ⟨pb0, 0, none⟩)), (1, .int .i64 (p1)), (2, .string (p2)), (7, .int .i64 (y4))] a w) (fun k => k) n ⟨(w64 ((p0.open_.length : Int) - 1)), hm, hs.sub ⟨rfl, rfl, rfl, rfl, trivial⟩⟩ ?_
 clear hs hm
 intro k
 rintro a w ⟨y4, hm, hs⟩
 intro K6 hK6
 cases k with
 | zero => simp [zcd] at hm
 | succ k5 =>
  rw [zcd] at hm
  refine Ws fun hK7 => Wq fun hK8 => sM (v := .int .i64 (y4)) hs rfl fun hs => sM (v := .int .i64 (p1)) hs rfl fun hs => s1 hs (zis rfl rfl) fun hs => za0 <| hK8 ?_
  refine zaf hs rfl (fun hg6 => ?_) (fun hg6 => ?_)
  ·replace hm := oc_t hg6 hm
   refine zah <| hK7 <| Ws fun hK9 => zam fun Qe10 hB10 hO10 => Wq fun hK11 => sM (v := .pointer (some ⟨pb0, 0, none⟩)) hs rfl fun hs => s1 hs (zab rfl) fun hs => s1 (v := .pointer (some ⟨pb0, 0, none⟩)) hs (za1 rfl (FO.of (off := 0) Try.underlying54 rfl rfl ti49 (by decide))) fun hs => s1 (v := pv0_0) hs (y_ld rfl Try.underlying49 rfl (Cell.blk (.head _) rfl)) fun hs => ?_
   refine sM (v := .int .i64 (y4)) hs rfl fun hs => ?_
   obtain ⟨x7, hx8, hm⟩ := ob hm
   obtain ⟨r9, hr10, hq11, hi12, hb13⟩ := pv0_0h.geti hx8
   obtain ⟨v14, rfl, hp15⟩ := hq11
   refine s1 hs (za8 (Rd.st hs (.tail _ (.head _))) rfl rfl hi12 hb13 Try.underlying49 ti48) fun hs => s1 (v := v14) hs (zaw (i := y4.toNat) (j := 0) (Rd.st hs (.tail _ (.head _))) rfl hr10 rfl Try.underlying48 rfl) fun hs => ?_
   obtain ⟨x16, hx17, hm⟩ := ob hm
   obtain ⟨b32, rfl, _, ⟨v20, v25, v27, rw28, rfl, ⟨rw21, hR22, hW23⟩, hp26, hW29⟩, hpm31⟩ := AR.peek hA hx17 hp15
   have hm18 := hpm31 _ (.head _); have hm19 := hpm31 _ (.tail _ (.head _)); clear hpm31
   refine s1 hs (zab rfl) fun hs => s1 (v := .pointer (some ⟨b32, 0, none⟩)) hs (za1 rfl (FO.of (off := 0) Try.underlying51 rfl rfl ti9 (by decide))) fun hs => s1 (v := .string (x16.name)) hs (y_ld rfl Try.underlying9 rfl (Cell.blk (.tail _ (.tail _ (hm18))) rfl)) fun hs => sM (v := .string (p2)) hs rfl fun hs => s1 hs (zd9 rfl rfl) fun hs => za0 <| hK11 ?_
   refine zaf hs rfl (fun hg33 => ?_) (fun hg33 => ?_)
   ·replace hm := oc_t hg33 hm
    refine Wq fun hK12 => sM (v := .int .i64 (y4)) hs rfl fun hs => sA (v := .int .i64 (y4)) hs rfl fun hs => za0 <| hK12 <| zau ?_
    obtain rfl := Option.some.inj hm
    refine RtV1 hs rfl (rv_t hs rfl) ?_
    exact ⟨rfl, (hs.weak hle).cw⟩
   replace hm := oc_f hg33 hm
   refine zah <| hK9 <| za7 <| sM (v := .int .i64 (y4)) hs rfl fun hs => s1 hs (zmt rfl rfl rfl) fun hs => sA (v := .int .i64 ((w64 (y4 - 1)))) hs rfl fun hs => za0 ?_
   exact hK6 k5 _ _ (Nat.lt_succ_self _) ⟨(w64 (y4 - 1)), hm, hs.sub ⟨rfl, rfl, rfl, rfl, trivial⟩⟩
  replace hm := oc_f hg6 hm
  refine zc9 <| hB5 _ _ ?_
  exact ⟨hm, hs.sub trivial⟩
def zi0 : Option Int :=
  some 0
def zcm (n : Nat) (A : (List za2)) (p0 : za6) (p1 : (List ByteArray)) : Nat → Int → Option Int
  | 0, _ => none
  | k9 + 1, y8 =>
  (bif (decide (0 < y8)) then (geti p0.open_ y8).bind fun x11 =>
  (focM A [] x11).bind fun x20 =>
  (zjr n x20.name p1).bind fun x37 =>
  (bif x37 then some y8 else
  (zcm n A p0 p1 k9) (w64 (y8 - 1))) else
  zi0)
def zct (n : Nat) (p0 : za6) (p1 : (List ByteArray)) (A : (List za2)) : Option Int :=
  zcm n A p0 p1 n (w64 ((p0.open_.length : Int) - 1))
theorem zf7 (n : Nat) {f : Fz} {ab : List Nat} {A : List za2} {p0 : za6} {pb0 : Nat} {pv0_0 : Value} {pv0_0r : List (List Value)} {p1 : (List ByteArray)} {a1 : Value} {res : Int} (pv0_0h : RW (tP ab) f pv0_0r p0.open_) (h1 : RS tStr f a1 p1) (hm : zct n p0 p1 A = some res) : GivesR nsh Try.prog 50 [.pointer (some ⟨pb0, 0, none⟩), a1] f [.blk pb0 (.cells #[pv0_0, .int .i64 p0.count, .bool p0.deep] 54 (0, 0)), .row pv0_0 48 1 pv0_0r] ab A (.int .i64 res) := by
 unfold zct at hm
 intro w0 L0 L w hA hC
 replace hC : Cw w0 f (.blk pb0 (.cells #[pv0_0, .int .i64 p0.count, .bool p0.deep] 54 (0, 0)) :: .row pv0_0 48 1 pv0_0r :: L) w := hC
 obtain ⟨rw4, hR5, hW6⟩ := h1
 refine enter Try.func50 rfl Try.ntmps50 (by simp) hC fun a hs => ?_
 have hle := Fz.le.refl f
 refine Wq fun hK1 => sA (v := .int .i64 (0)) hs rfl fun hs => za0 <| hK1 <| Ws fun hK2 => Wq fun hK3 => sM (v := .pointer (some ⟨pb0, 0, none⟩)) hs rfl fun hs => s1 hs (zab rfl) fun hs => ?_
 refine s1 (v := .pointer (some ⟨pb0, 0, none⟩)) hs (za1 rfl (FO.of (off := 0) Try.underlying54 rfl rfl ti49 (by decide))) fun hs => s1 (v := pv0_0) hs (y_ld rfl Try.underlying49 rfl (Cell.blk (.head _) rfl)) fun hs => s1 hs (zb7 (Rd.st hs (.tail _ (.head _))) pv0_0h rfl Try.underlying49) fun hs => s1 hs (zmt rfl rfl rfl) fun hs => sA (v := .int .i64 ((w64 ((p0.open_.length : Int) - 1)))) hs rfl fun hs => za0 <| hK3 ?_
 refine zai (fun a w => zi0 = some res ∧ St 29 w0 f (.blk pb0 (.cells #[pv0_0, .int .i64 (p0.count), .bool (p0.deep)] 54 (0, 0)) :: .row pv0_0 48 1 pv0_0r :: L) [] a w) ?_ ?_
 ·clear hs hm
  rintro a w ⟨hm, hs⟩
  unfold zi0 at hm
  refine hK2 <| Wq fun hK4 => sA (v := .int .i64 (0)) hs rfl fun hs => za0 <| hK4 <| zau ?_
  obtain rfl := Option.some.inj hm
  refine RtV1 hs rfl (rv_t hs rfl) ?_
  exact ⟨rfl, (hs.weak hle).cw⟩
 refine zam fun Qe5 hB5 hO5 => zcw (fun (k : Nat) a w => ∃ (y8 : Int), zcm n A p0 p1 k y8 = some res ∧ St 29 w0 f (.blk pb0 (.cells #[pv0_0, .int .i64 (p0.count), .bool (p0.deep)] 54 (0, 0)) :: .row pv0_0 48 1 pv0_0r :: L) [(0, .pointer (some ⟨pb0, 0, none⟩)), (1, a1), (5, .int .i64 (y8))] a w) (fun k => k) n ⟨(w64 ((p0.open_.length : Int) - 1)), hm, hs.sub ⟨rfl, rfl, rfl, trivial⟩⟩ ?_
 clear hs hm
 intro k
 rintro a w ⟨y8, hm, hs⟩
 intro K6 hK6
 cases k with
 | zero => simp [zcm] at hm
 | succ k9 =>
  rw [zcm] at hm
  refine Ws fun hK7 => Wq fun hK8 => sM (v := .int .i64 (y8)) hs rfl fun hs => s1 hs (zis rfl rfl) fun hs => za0 <| hK8 ?_
  refine zaf hs rfl (fun hg10 => ?_) (fun hg10 => ?_)
  ·replace hm := oc_t hg10 hm
   refine zah <| hK7 <| Ws fun hK9 => zam fun Qe10 hB10 hO10 => Wq fun hK11 => sM (v := .pointer (some ⟨pb0, 0, none⟩)) hs rfl fun hs => s1 hs (zab rfl) fun hs => s1 (v := .pointer (some ⟨pb0, 0, none⟩)) hs (za1 rfl (FO.of (off := 0) Try.underlying54 rfl rfl ti49 (by decide))) fun hs => s1 (v := pv0_0) hs (y_ld rfl Try.underlying49 rfl (Cell.blk (.head _) rfl)) fun hs => ?_
   refine sM (v := .int .i64 (y8)) hs rfl fun hs => ?_
   obtain ⟨x11, hx12, hm⟩ := ob hm
   obtain ⟨r13, hr14, hq15, hi16, hb17⟩ := pv0_0h.geti hx12
   obtain ⟨v18, rfl, hp19⟩ := hq15
   refine s1 hs (za8 (Rd.st hs (.tail _ (.head _))) rfl rfl hi16 hb17 Try.underlying49 ti48) fun hs => s1 (v := v18) hs (zaw (i := y8.toNat) (j := 0) (Rd.st hs (.tail _ (.head _))) rfl hr14 rfl Try.underlying48 rfl) fun hs => ?_
   obtain ⟨x20, hx21, hm⟩ := ob hm
   obtain ⟨b36, rfl, _, ⟨v24, v29, v31, rw32, rfl, ⟨rw25, hR26, hW27⟩, hp30, hW33⟩, hpm35⟩ := AR.peek hA hx21 hp19
   have hm22 := hpm35 _ (.head _); have hm23 := hpm35 _ (.tail _ (.head _)); clear hpm35
   refine s1 hs (zab rfl) fun hs => s1 (v := .pointer (some ⟨b36, 0, none⟩)) hs (za1 rfl (FO.of (off := 0) Try.underlying51 rfl rfl ti9 (by decide))) fun hs => s1 (v := .string (x20.name)) hs (y_ld rfl Try.underlying9 rfl (Cell.blk (.tail _ (.tail _ (hm22))) rfl)) fun hs => sM (v := a1) hs rfl fun hs => ?_
   obtain ⟨x37, hx38, hm⟩ := ob hm
   refine s1 hs (zbd rfl has16 rfl (ziv n (f := f) (a1 := a1) ⟨rw4, hR5, hW6⟩ hx38)) fun hs => za0 <| hK11 ?_
   refine zaf hs rfl (fun hg39 => ?_) (fun hg39 => ?_)
   ·replace hm := oc_t hg39 hm
    refine Wq fun hK12 => sM (v := .int .i64 (y8)) hs rfl fun hs => sA (v := .int .i64 (y8)) hs rfl fun hs => za0 <| hK12 <| zau ?_
    obtain rfl := Option.some.inj hm
    refine RtV1 hs rfl (rv_t hs rfl) ?_
    exact ⟨rfl, (hs.weak hle).cw⟩
   replace hm := oc_f hg39 hm
   refine zah <| hK9 <| za7 <| sM (v := .int .i64 (y8)) hs rfl fun hs => s1 hs (zmt rfl rfl rfl) fun hs => sA (v := .int .i64 ((w64 (y8 - 1)))) hs rfl fun hs => za0 ?_
   exact hK6 k9 _ _ (Nat.lt_succ_self _) ⟨(w64 (y8 - 1)), hm, hs.sub ⟨rfl, rfl, rfl, trivial⟩⟩
  replace hm := oc_f hg10 hm
  refine zc9 <| hB5 _ _ ?_
  exact ⟨hm, hs.sub trivial⟩
def zdm (n : Nat) (p0 : za6) (p1 : Int) : Option za6 :=
  (cutM p0.open_ (0 : Int) p1).bind fun x4 =>
  some ({open_ := x4, count := p0.count, deep := p0.deep} : za6)
theorem zh0 (n : Nat) {f : Fz} {ab : List Nat} {p0 : za6} {pb0 : Nat} {pv0_0 : Value} {pv0_0r : List (List Value)} {p1 : Int} {res : za6} (pv0_0h : RW (tP ab) f pv0_0r p0.open_) (hm : zdm n p0 p1 = some res) : Does Try.prog 53 [.pointer (some ⟨pb0, 0, none⟩), .int .i64 p1] f [.blk pb0 (.cells #[pv0_0, .int .i64 p0.count, .bool p0.deep] 54 (0, 0)), .row pv0_0 48 1 pv0_0r] (fun r f' L' => ∃ (dp0_0 : Value) (dp0_0r : List (List Value)), L' = [.blk pb0 (.cells #[dp0_0, .int .i64 res.count, .bool res.deep] 54 (0, 0)), .row dp0_0 48 1 dp0_0r] ∧ r = .tuple #[] ∧ RW (tP ab) f' dp0_0r res.open_) := by
 unfold zdm at hm
 intro w0 L w hC
 replace hC : Cw w0 f (.blk pb0 (.cells #[pv0_0, .int .i64 p0.count, .bool p0.deep] 54 (0, 0)) :: .row pv0_0 48 1 pv0_0r :: L) w := hC
 refine enter Try.func53 rfl Try.ntmps53 (by simp) hC fun a hs => ?_
 have hle := Fz.le.refl f
 refine za7 <| sM (v := .pointer (some ⟨pb0, 0, none⟩)) hs rfl fun hs => sM (v := .pointer (some ⟨pb0, 0, none⟩)) hs rfl fun hs => s1 hs (zab rfl) fun hs => s1 (v := .pointer (some ⟨pb0, 0, none⟩)) hs (za1 rfl (FO.of (off := 0) Try.underlying54 rfl rfl ti49 (by decide))) fun hs => s1 (v := pv0_0) hs (y_ld rfl Try.underlying49 rfl (Cell.blk (.head _) rfl)) fun hs => sM (v := .int .i64 (p1)) hs rfl fun hs => ?_
 obtain ⟨x4, hx5, hm⟩ := ob hm
 obtain ⟨⟨hlx4, hhx4, h1x4, h2x4⟩, hex4⟩ := zj7 hx5
 have hW6 := (pv0_0h.take p1.toNat).drop (Int.toNat 0); rw [hex4] at hW6
 simp only [Int.toNat_zero, List.drop_zero] at hW6
 refine s1 hs (zln (lo := (0 : Nat)) (hi := p1.toNat) rfl Try.underlying49 ti48 (.inl ⟨rfl, rfl⟩) (.inr ⟨_, rfl, by rw [← hhx4]; rfl⟩) h1x4 (by rw [RW.len pv0_0h]; exact h2x4) (Rd.st hs (.tail _ (.head _)))) fun hs => ?_
 replace hs := hs.shrink (i := 1) rfl (m := p1.toNat) (by rw [RW.len pv0_0h]; exact h2x4)
 generalize hgrw8 : List.take _ pv0_0r = rw8 at hs hW6; clear hgrw8
 generalize hgv9 : cutv pv0_0 1 0 _ = v9 at hs; clear hgv9
 refine s1 hs (zab rfl) fun hs => s1 (v := .pointer (some ⟨pb0, 0, none⟩)) hs (za1 rfl (FO.of (off := 0) Try.underlying54 rfl rfl ti49 (by decide))) fun hs => sstore 0 hs rfl rfl rfl ti49 ((hs.one (i := 1) rfl)) fun _ _ hs => za0 ?_
 obtain rfl := Option.some.inj hm
 refine RtV0 hs rfl  ?_
 exact ⟨_, f, [.blk pb0 (.cells #[v9, .int .i64 (p0.count), .bool (p0.deep)] 54 (0, 0)), .row v9 48 1 rw8], rfl, hle, hs.cw, v9, rw8, rfl, rfl, hW6⟩
def zdl (y8 : (List Int)) (y13 : Int) (y14 : Bool) : Option za6 :=
  some ({open_ := y8, count := y13, deep := y14} : za6)
def zb8 (n : Nat) (p0 : za6) (p1 : Int) (p2 : ByteArray) (A : (List za2)) : Option za6 :=
  (ze8 n p0 p1 p2 A).bind fun x4 =>
  (bif (decide (0 < x4)) then (zdm n p0 x4).bind fun x17 =>
  zdl x17.open_ x17.count x17.deep else
  zdl p0.open_ p0.count p0.deep)
theorem zdk (n : Nat) {f : Fz} {ab : List Nat} {A : List za2} {p0 : za6} {pb0 : Nat} {pv0_0 : Value} {pv0_0r : List (List Value)} {p1 : Int} {p2 : ByteArray} {res : za6} (pv0_0h : RW (tP ab) f pv0_0r p0.open_) (hm : zb8 n p0 p1 p2 A = some res) : DoesR nsh Try.prog 49 [.pointer (some ⟨pb0, 0, none⟩), .int .i64 p1, .string p2] f [.blk pb0 (.cells #[pv0_0, .int .i64 p0.count, .bool p0.deep] 54 (0, 0)), .row pv0_0 48 1 pv0_0r] ab A (fun r f' L' => ∃ (dp0_0 : Value) (dp0_0r : List (List Value)), L' = [.blk pb0 (.cells #[dp0_0, .int .i64 res.count, .bool res.deep] 54 (0, 0)), .row dp0_0 48 1 dp0_0r] ∧ r = .tuple #[] ∧ RW (tP ab) f' dp0_0r res.open_) := by
 unfold zb8 at hm
 intro w0 L0 L w hA hC
 replace hC : Cw w0 f (.blk pb0 (.cells #[pv0_0, .int .i64 p0.count, .bool p0.deep] 54 (0, 0)) :: .row pv0_0 48 1 pv0_0r :: L) w := hC
 refine enter Try.func49 rfl Try.ntmps49 (by simp) hC fun a hs => ?_
 have hle := Fz.le.refl f
 refine Wq fun hK1 => sM (v := .pointer (some ⟨pb0, 0, none⟩)) hs rfl fun hs => sM (v := .int .i64 (p1)) hs rfl fun hs => sM (v := .string (p2)) hs rfl fun hs => ?_
 obtain ⟨x4, hx5, hm⟩ := ob hm
 refine s1 hs (zn7 (cap := []) (X := []) hA rfl has52 rfl ((zag _ 1 rfl).trans (zag _ 1 rfl)) (zho n (f := f) (p0 := p0) (pb0 := pb0) (pv0_0 := pv0_0) (pv0_0r := pv0_0r) (p1 := p1) (p2 := p2) (A := A) pv0_0h hx5)) fun hs => sA (v := .int .i64 (x4)) hs rfl fun hs => za0 <| hK1 <| Wq fun hK2 => sM (v := .int .i64 (x4)) hs rfl fun hs => s1 hs (zis rfl rfl) fun hs => za0 <| hK2 ?_
 have hbase15 := Fz.le.refl f
 refine zai (fun a w => ∃ (f6 : Fz) (y8 : (List Int)) (y13 : Int) (y14 : Bool) (v9 : Value) (rw10 : List (List Value)), Fz.le f f6 ∧ zdl y8 y13 y14 = some res ∧ RW (tP ab) f6 rw10 y8 ∧ St 16 w0 f6 (.blk pb0 (.cells #[v9, .int .i64 (y13), .bool (y14)] 54 (0, 0)) :: .row v9 48 1 rw10 :: L) [] a w) ?_ ?_
 ·clear hs hm
  clear hbase15
  rintro a w ⟨f6, y8, y13, y14, v9, rw10, hl7, hm, hW11, hs⟩
  replace hA := hA.le hl7
  replace pv0_0h := pv0_0h.le hl7
  replace hle := hle.trans hl7
  unfold zdl at hm
  obtain rfl := Option.some.inj hm
  refine RtV0 hs rfl  ?_
  exact ⟨_, f6, [.blk pb0 (.cells #[v9, .int .i64 (y13), .bool (y14)] 54 (0, 0)), .row v9 48 1 rw10], rfl, hle, hs.cw, v9, rw10, rfl, rfl, hW11⟩
 refine zaf hs rfl (fun hg16 => ?_) (fun hg16 => ?_)
 ·replace hm := oc_t hg16 hm
  refine za7 <| sM (v := .pointer (some ⟨pb0, 0, none⟩)) hs rfl fun hs => sM (v := .int .i64 (x4)) hs rfl fun hs => ?_
  obtain ⟨x17, hx18, hm⟩ := ob hm
  replace hs := hs.front 1
  replace hs := hs.front 1
  refine zbx (Lr := [.blk pb0 (.cells #[pv0_0, .int .i64 (p0.count), .bool (p0.deep)] 54 (0, 0)), .row pv0_0 48 1 pv0_0r]) (Lf := L) hs rfl has53 rfl rfl (zh0 n (f := f) (p0 := p0) (pb0 := pb0) (pv0_0 := pv0_0) (pv0_0r := pv0_0r) (p1 := x4) pv0_0h hx18) (.free rfl) (by decide) ?_; clear hs; (try clear a w)
  rintro _ f19 _ a w hf20 ⟨v21, rw22, rfl, rfl, hW23⟩ hs
  replace hA := hA.le hf20
  replace pv0_0h := pv0_0h.le hf20
  replace hle := hle.trans hf20
  replace hbase15 := hbase15.trans hf20
  refine za0 ?_
  exact ⟨_, x17.open_, x17.count, x17.deep, v21, rw22, hbase15, hm, hW23, hs.sub trivial⟩
 replace hm := oc_f hg16 hm
 refine zah ?_
 exact ⟨_, p0.open_, p0.count, p0.deep, pv0_0, pv0_0r, (Fz.le.refl _), hm, pv0_0h, hs.sub trivial⟩
def zdn (n : Nat) (p0 : za6) (A : (List za2)) : Option (Int × za6) :=
  (ze8 n p0 0 (bs [116, 97, 98, 108, 101]) A).bind fun x4 =>
  (bif (decide (x4 < 0)) then some ((-1 : Int), ({open_ := p0.open_, count := p0.count, deep := p0.deep} : za6)) else
  (geti p0.open_ x4).bind fun x7 =>
  some (x7, ({open_ := p0.open_, count := p0.count, deep := p0.deep} : za6)))
theorem zj1 (n : Nat) {f : Fz} {ab : List Nat} {A : List za2} {p0 : za6} {pb0 : Nat} {pv0_0 : Value} {pv0_0r : List (List Value)} {res : (Int × za6)} (pv0_0h : RW (tP ab) f pv0_0r p0.open_) (hm : zdn n p0 A = some res) : DoesR nsh Try.prog 44 [.pointer (some ⟨pb0, 0, none⟩)] f [.blk pb0 (.cells #[pv0_0, .int .i64 p0.count, .bool p0.deep] 54 (0, 0)), .row pv0_0 48 1 pv0_0r] ab A (fun r f' L' => ∃ (u0 : Value) (dp0_0 : Value) (dp0_0r : List (List Value)), L' = [.blk pb0 (.cells #[dp0_0, .int .i64 res.2.count, .bool res.2.deep] 54 (0, 0)), .row dp0_0 48 1 dp0_0r] ∧ r = u0 ∧ RP ab u0 res.1 ∧ RW (tP ab) f' dp0_0r res.2.open_) := by
 unfold zdn at hm
 intro w0 L0 L w hA hC
 replace hC : Cw w0 f (.blk pb0 (.cells #[pv0_0, .int .i64 p0.count, .bool p0.deep] 54 (0, 0)) :: .row pv0_0 48 1 pv0_0r :: L) w := hC
 refine enter Try.func44 rfl Try.ntmps44 (by simp) hC fun a hs => ?_
 have hle := Fz.le.refl f
 refine Wq fun hK1 => sA (v := .pointer none) hs rfl fun hs => za0 <| hK1 <| Wq fun hK2 => sM (v := .pointer (some ⟨pb0, 0, none⟩)) hs rfl fun hs => ?_
 obtain ⟨x4, hx5, hm⟩ := ob hm
 refine s1 hs (zn7 (cap := []) (X := []) hA rfl has52 rfl ((zag _ 1 rfl).trans (zag _ 1 rfl)) (zho n (f := f) (p0 := p0) (pb0 := pb0) (pv0_0 := pv0_0) (pv0_0r := pv0_0r) (p1 := 0) (p2 := (bs [116, 97, 98, 108, 101])) (A := A) pv0_0h hx5)) fun hs => sA (v := .int .i64 (x4)) hs rfl fun hs => za0 <| hK2 <| Ws fun hK3 => Wq fun hK4 => sM (v := .int .i64 (x4)) hs rfl fun hs => s1 hs (zg7 rfl rfl) fun hs => za0 ?_
 refine hK4 ?_
 refine zaf hs rfl (fun hg6 => ?_) (fun hg6 => ?_)
 ·replace hm := oc_t hg6 hm
  refine Wq fun hK5 => sA (v := .pointer none) hs rfl fun hs => za0 <| hK5 <| zau ?_
  obtain rfl := Option.some.inj hm
  refine RtV1 hs rfl (rv_t hs rfl) ?_
  exact ⟨_, f, [.blk pb0 (.cells #[pv0_0, .int .i64 (p0.count), .bool (p0.deep)] 54 (0, 0)), .row pv0_0 48 1 pv0_0r], rfl, hle, hs.cw, .pointer none, pv0_0, pv0_0r, rfl, rfl, RP.nil, pv0_0h⟩
 replace hm := oc_f hg6 hm
 refine zah <| hK3 <| Wq fun hK6 => sM (v := .pointer (some ⟨pb0, 0, none⟩)) hs rfl fun hs => s1 hs (zab rfl) fun hs => s1 (v := .pointer (some ⟨pb0, 0, none⟩)) hs (za1 rfl (FO.of (off := 0) Try.underlying54 rfl rfl ti49 (by decide))) fun hs => s1 (v := pv0_0) hs (y_ld rfl Try.underlying49 rfl (Cell.blk (.head _) rfl)) fun hs => sM (v := .int .i64 (x4)) hs rfl fun hs => ?_
 obtain ⟨x7, hx8, hm⟩ := ob hm
 obtain ⟨r9, hr10, hq11, hi12, hb13⟩ := pv0_0h.geti hx8
 obtain ⟨v14, rfl, hp15⟩ := hq11
 refine s1 hs (za8 (Rd.st hs (.tail _ (.head _))) rfl rfl hi12 hb13 Try.underlying49 ti48) fun hs => s1 (v := v14) hs (zaw (i := x4.toNat) (j := 0) (Rd.st hs (.tail _ (.head _))) rfl hr10 rfl Try.underlying48 rfl) fun hs => sA (v := v14) hs rfl fun hs => za0 <| hK6 <| zau ?_
 obtain rfl := Option.some.inj hm
 refine RtV1 hs rfl (rv_t hs rfl) ?_
 exact ⟨_, f, [.blk pb0 (.cells #[pv0_0, .int .i64 (p0.count), .bool (p0.deep)] 54 (0, 0)), .row pv0_0 48 1 pv0_0r], rfl, hle, hs.cw, v14, pv0_0, pv0_0r, rfl, rfl, hp15, pv0_0h⟩
def zc0 (n : Nat) (p0 : Int) (A : (List za2)) : Option Bool :=
  (focM A [] p0).bind fun x1 =>
  (ziu n x1.name).bind fun x18 =>
  some (!x18)
theorem zkf (n : Nat) {f : Fz} {ab : List Nat} {A : List za2} {p0 : Int} {a0 : Value} {res : Bool} (h0 : RP ab a0 p0) (hm : zc0 n p0 A = some res) : GivesR nsh Try.prog 57 [a0] f [] ab A (.bool res) := by
 unfold zc0 at hm
 intro w0 L0 L w hA hC
 refine enter Try.func57 rfl Try.ntmps57 (by simp) hC fun a hs => ?_
 have hle := Fz.le.refl f
 refine Wq fun hK1 => sA (v := .bool (false)) hs rfl fun hs => za0 <| hK1 <| Wq fun hK2 => sM (v := a0) hs rfl fun hs => ?_
 obtain ⟨x1, hx2, hm⟩ := ob hm
 obtain ⟨b17, rfl, _, ⟨v5, v10, v12, rw13, rfl, ⟨rw6, hR7, hW8⟩, hp11, hW14⟩, hpm16⟩ := AR.peek hA hx2 h0
 have hm3 := hpm16 _ (.head _); have hm4 := hpm16 _ (.tail _ (.head _)); clear hpm16
 refine s1 hs (zab rfl) fun hs => s1 (v := .pointer (some ⟨b17, 0, none⟩)) hs (za1 rfl (FO.of (off := 0) Try.underlying51 rfl rfl ti9 (by decide))) fun hs => s1 (v := .string (x1.name)) hs (y_ld rfl Try.underlying9 rfl (Cell.blk (hm3) rfl)) fun hs => ?_
 obtain ⟨x18, hx19, hm⟩ := ob hm
 refine s1 hs (zbd rfl has55 rfl (zml n (f := f)  hx19)) fun hs => s1 (v := .bool ((!x18))) hs (zj8 rfl) fun hs => sA (v := .bool ((!x18))) hs rfl fun hs => za0 <| hK2 <| zau ?_
 obtain rfl := Option.some.inj hm
 refine RtV1 hs rfl (rv_t hs rfl) ?_
 exact ⟨rfl, (hs.weak hle).cw⟩
def zit (x6 : za2) (y32 : (List zad)) : Option zad :=
  some ({Name := x6.name, Text := x6.text, Attrs := x6.attrs, Kids := y32} : zad)
def zda (A : (List za2)) (slf : Int → (List za2) → Option zad) (x6 : za2) : Nat → (List zad) → Int → Option zad
  | 0, _, _ => none
  | k54 + 1, y44, y49 =>
  (bif (decide (y49 < (x6.kids.length : Int))) then (geti x6.kids y49).bind fun x57 =>
  (slf x57 A).bind fun x67 =>
  (appM 80 y44 [x67]).bind fun x94 =>
  (zda A slf x6 k54) x94 (w64 (y49 + 1)) else
  zit x6 y44)
def zhx (slf : Int → (List za2) → Option zad) (n : Nat) (p0 : Int) (A : (List za2)) : Option zad :=
  (focM A [] p0).bind fun x6 =>
  zda A slf x6 n ([] : List zad) 0
def zex : Nat → Int → (List za2) → Option zad
  | 0, _, _ => none
  | n + 1, p0, A => zhx (zex n) n p0 A
theorem zn9 {slf : Int → (List za2) → Option zad} (n : Nat) (slf_ok : ∀ {f : Fz} {ab : List Nat} {A : List za2} {p0 : Int} {a0 : Value} {res : zad} (_ : RP ab a0 p0) (_ : slf p0 A = some res), DoesR nsh Try.prog 25 [a0] f [] ab A (fun r f' L' => ∃ (u0 : List Value), L' = [] ∧ r = .agg u0.toArray ∧ ze9.R f' u0 res)) {f : Fz} {ab : List Nat} {A : List za2} {p0 : Int} {a0 : Value} {res : zad} (h0 : RP ab a0 p0) (hm : zhx slf n p0 A = some res) : DoesR nsh Try.prog 25 [a0] f [] ab A (fun r f' L' => ∃ (u0 : List Value), L' = [] ∧ r = .agg u0.toArray ∧ ze9.R f' u0 res) := by
 unfold zhx at hm
 intro w0 L0 L w hA hC
 refine enter Try.func25 rfl Try.ntmps25 (by simp) hC fun a hs => ?_
 have hle := Fz.le.refl f
 refine Wq fun hK1 => zbt hs ti62 (.free rfl) (by decide) fun b1 _ _ hs => za0 <| hK1 <| Ws fun hK2 => ?_
 have hsD := hs.subL (L' := L) (.cons _ (.refl _))
 have hbd5 := Fz.le.refl f
 refine zjc hs (L) [14] (.look 0 (.look 1 (.look 2 (.look 3 (.look 4 (.look 5 (.look 6 (.look 7 (.look 8 (.look 9 (.look 10 (.look 11 (.look 12 (.any [13] (fun _ => .any [14] (fun _ => .done)))))))))))))))) mixed (by kernel_rfl) fun _ he => uy (v := a0) 0 he rfl (zaa rfl) fun _ he => ?_
 obtain ⟨x6, hx7, hm⟩ := ob hm
 obtain ⟨b22, rfl, _, ⟨v10, v15, v17, rw18, rfl, ⟨rw11, hR12, hW13⟩, hp16, hW19⟩, hpm21⟩ := AR.peek hA hx7 h0
 have hm8 := hpm21 _ (.head _); have hm9 := hpm21 _ (.tail _ (.head _)); clear hpm21
 refine uy 1 he rfl (zab rfl) fun _ he => uy (v := .pointer (some ⟨b22, 0, none⟩)) 2 he rfl (za1 rfl (FO.of (off := 0) Try.underlying51 rfl rfl ti9 (by decide))) fun _ he => uy (v := .string (x6.name)) 3 he rfl (y_ld rfl Try.underlying9 rfl (Cell.blk (hm8) rfl)) fun _ he => uy (v := .pointer (some ⟨b22, 0, none⟩)) 4 he rfl (zaa rfl) fun _ he => uy 5 he rfl (zab rfl) fun _ he => uy (v := .pointer (some ⟨b22, 1, none⟩)) 6 he rfl (za1 rfl (FO.of (off := 1) Try.underlying51 rfl rfl ti9 (by decide))) fun _ he => uy (v := .string (x6.text)) 7 he rfl (y_ld rfl Try.underlying9 rfl (Cell.blk (hm8) rfl)) fun _ he => uy (v := .pointer (some ⟨b22, 0, none⟩)) 8 he rfl (zaa rfl) fun _ he => uy 9 he rfl (zab rfl) fun _ he => uy (v := .pointer (some ⟨b22, 2, none⟩)) 10 he rfl (za1 rfl (FO.of (off := 2) Try.underlying51 rfl rfl ti34 (by decide))) fun _ he => ?_
 refine uy (v := v10) 11 he rfl (y_ld rfl Try.underlying34 rfl (Cell.blk (hm8) rfl)) fun _ he => uy 12 he rfl (zes (places := [(0, 1), (1, 1), (2, 1), (3, 1)]) (cs := [.string (x6.name), .string (x6.text), v10, (.slice none 0 0)]) rfl Try.underlying62 ti62 (by kernel_rfl) (by decide) rfl ⟨rfl, rfl, hR12.one, trivial⟩) fun _ he => ?_
 refine ze2 he rfl ?_; clear he; (try clear a); intro a w hs
 refine zbt hs ti62 (.free rfl) (by decide) fun b25 _ _ hs => uon hs fun _ he => ?_
 refine ze2 he rfl ?_; clear he; (try clear a); intro a w hs
 refine zat (i := 0) hs rfl rfl rfl ti62 ⟨rfl, rfl⟩ (AllC.arr (r := [.string (x6.name), .string (x6.text), v10, (.slice none 0 0)]) ⟨rfl, rfl, hR12.one, rfl, trivial⟩) (.free rfl) fun _ _ hs => uend hs fun _ he => ?_
 refine znq he ?_; clear he; (try clear a); intro w hs; try clear hsD
 refine hK2 <| Ws fun hK3 => Wq fun hK4 => sM (v := .pointer (some ⟨b22, 0, none⟩)) hs rfl fun hs => s1 hs (zab rfl) fun hs => s1 (v := .pointer (some ⟨b22, 4, none⟩)) hs (za1 rfl (FO.of (off := 4) Try.underlying51 rfl rfl ti49 (by decide))) fun hs => s1 (v := v17) hs (y_ld rfl Try.underlying49 rfl (Cell.blk (.tail _ (.tail _ (hm8))) rfl)) fun hs => s1 hs (zb7 (Rd.st hs (.tail _ (.tail _ (hm9)))) hW19 rfl Try.underlying49) fun hs => sM (v := .int .i64 (0)) hs rfl fun hs => ?_
 refine za0 <| hK4 ?_
 have hbase37 := Fz.le.refl f
 refine zai (fun a w => ∃ (f29 : Fz) (y32 : (List zad)) (v33 : Value) (rw34 : List (List Value)), Fz.le f f29 ∧ zit x6 y32 = some res ∧ RW ze9 f29 rw34 y32 ∧ St 37 w0 f29 (.row v33 62 4 rw34 :: .blk b25 (.cells #[.string (x6.name), .string (x6.text), v10, v33] 62 (0, 0)) :: .blk b1 (.cells #[.string ((bs [])), .string ((bs [])), (.slice none 0 0), (.slice none 0 0)] 62 (0, 0)) :: L) [(2, .pointer (some ⟨b1, 0, none⟩)), (3, .pointer (some ⟨b25, 0, none⟩))] a w) ?_ ?_
 ·clear hs hm
  clear hbase37
  rintro a w ⟨f29, y32, v33, rw34, hl30, hm, hW35, hs⟩
  replace hA := hA.le hl30
  replace hR12 := hR12.le hl30
  replace hW13 := hW13.le hl30
  replace hW19 := hW19.le hl30
  replace hle := hle.trans hl30
  unfold zit at hm
  refine hK3 <| Wq fun hK5 => s1 hs (zk8 rfl Try.underlying62 rfl ti62 (.tail _ (.head _)) rfl) fun hs => zat (i := 2) hs rfl rfl rfl ti62 ⟨rfl, rfl⟩ (AllC.arr (r := [.string (x6.name), .string (x6.text), v10, v33]) ⟨rfl, rfl, hR12.one, (hs.one (i := 0) rfl), trivial⟩) (.free rfl) fun _ _ hs => za0 <| hK5 <| zau ?_
  obtain ⟨f38, hf39, hs2, hR40⟩ := hs.frzAt 0 rfl
  clear hs; have hs := hs2; clear hs2
  replace hA := hA.le hf39
  replace hR12 := hR12.le hf39
  replace hW13 := hW13.le hf39
  replace hW19 := hW19.le hf39
  replace hW35 := hW35.le hf39
  replace hle := hle.trans hf39
  obtain rfl := Option.some.inj hm
  refine RtV1 hs rfl (rv_a hs rfl Try.underlying62 rfl ti62 (fun j u hj => Cell.blk (.tail _ (.head _)) hj) rfl) ?_
  exact ⟨_, f38, [], rfl, hle, (hs.subL (.cons _ (.cons _ (.refl _)))).cw, [.string (x6.name), .string (x6.text), v10, v33], rfl, rfl, zck.of (x := ({Name := x6.name, Text := x6.text, Attrs := x6.attrs, Kids := y32} : zad)) ⟨rw11, hR12, hW13⟩ ⟨rw34, hR40, hW35⟩⟩
 refine zam fun Qe6 hB6 hO6 => ?_
 have hbase := Fz.le.refl f
 replace hs := hs.nilRow 62 4
 have hW50 : RW ze9 f [] ([] : List zad) := trivial
 generalize hgrw51 : ([] : List (List Value)) = rw51 at hs hW50; clear hgrw51
 refine zcw (fun (k : Nat) a w => ∃ (f41 : Fz) (y44 : (List zad)) (y49 : Int) (v45 : Value) (rw46 : List (List Value)), Fz.le f f41 ∧ zda A slf x6 k y44 y49 = some res ∧ RW ze9 f41 rw46 y44 ∧ St 37 w0 f41 (.row v45 62 4 rw46 :: .blk b25 (.cells #[.string (x6.name), .string (x6.text), v10, v45] 62 (0, 0)) :: .blk b1 (.cells #[.string ((bs [])), .string ((bs [])), (.slice none 0 0), (.slice none 0 0)] 62 (0, 0)) :: L) [(2, .pointer (some ⟨b1, 0, none⟩)), (3, .pointer (some ⟨b25, 0, none⟩)), (22, v17), (23, .int .i64 ((x6.kids.length : Int))), (24, .int .i64 (y49))] a w) (fun k => k) n ⟨_, ([] : List zad), 0, (.slice none 0 0), rw51, (Fz.le.refl _), hm, hW50, hs.sub ⟨rfl, rfl, rfl, rfl, rfl, trivial⟩⟩ ?_
 clear hs hm
 intro k
 rintro a w ⟨f41, y44, y49, v45, rw46, hl42, hm, hW47, hs⟩
 replace hA := hA.le hl42
 replace hR12 := hR12.le hl42
 replace hW13 := hW13.le hl42
 replace hW19 := hW19.le hl42
 replace hle := hle.trans hl42
 replace hbase37 := hbase37.trans hl42
 intro K7 hK7
 cases k with
 | zero => simp [zda] at hm
 | succ k54 =>
  rw [zda] at hm
  have hbase55 := hl42
  refine Wq fun hK8 => s1 hs (zg7 rfl rfl) fun hs => za0 <| hK8 <| Ws fun hK9 => ?_
  refine zaf hs rfl (fun hg56 => ?_) (fun hg56 => ?_)
  ·replace hm := oc_t hg56 hm
   refine zah <| hK9 <| Ws fun hK10 => zam fun Qe11 hB11 hO11 => Ws fun hK12 => za7 ?_
   obtain ⟨x57, hx58, hm⟩ := ob hm
   obtain ⟨r59, hr60, hq61, hi62, hb63⟩ := hW19.geti hx58
   obtain ⟨v64, rfl, hp65⟩ := hq61
   refine s1 hs (za8 (Rd.st hs (.tail _ (.tail _ (.tail _ (hm9))))) rfl rfl hi62 hb63 Try.underlying49 ti48) fun hs => s1 (v := v64) hs (zaw (i := y49.toNat) (j := 0) (Rd.st hs (.tail _ (.tail _ (.tail _ (hm9))))) rfl hr60 rfl Try.underlying48 rfl) fun hs => sA (v := v64) hs rfl fun hs => za0 <| hK12 ?_
   have hsD := hs.subL (L' := .blk b25 (.cells #[.string (x6.name), .string (x6.text), v10, v45] 62 (0, 0)) :: []) (.cons _ (.cons_cons _ (.cons _ (List.nil_sublist _))))
   have hbd66 := Fz.le.refl f41
   refine zjc hs (.blk b25 (.cells #[.string (x6.name), .string (x6.text), v10, v45] 62 (0, 0)) :: []) [7] (.look 0 (.look 1 (.look 2 (.any [3] (fun _ => .any [4] (fun _ => .any [5] (fun _ => .look 6 (.any [7] (fun _ => .done))))))))) mixed (by kernel_rfl) fun _ he => uy (v := .pointer (some ⟨b25, 3, none⟩)) 0 he rfl (za1 rfl (FO.of (off := 3) Try.underlying62 rfl rfl ti60 (by decide))) fun _ he => uy (v := v45) 1 he rfl (y_ld rfl Try.underlying60 rfl (Cell.blk (.head _) rfl)) fun _ he => uy (v := v64) 2 he rfl (zaa rfl) fun _ he => ?_
   refine ze2 he rfl ?_; clear he; (try clear a); intro a w hs
   obtain ⟨x67, hx68, hm⟩ := ob hm
   refine zgx (Lr := []) [.row v45 62 4 rw46, .blk b25 (.cells #[.string (x6.name), .string (x6.text), v10, v45] 62 (0, 0)), .blk b1 (.cells #[.string ((bs [])), .string ((bs [])), (.slice none 0 0), (.slice none 0 0)] 62 (0, 0))] hA hs rfl has25 rfl (slf_ok (f := f41) (a0 := v64) (A := A) hp65 hx68) (.free rfl) (by decide) ?_; clear hs; (try clear a w)
   rintro _ f69 _ a w hf70 ⟨r71, rfl, rfl, hq72⟩ hs
   have hA73 := hA.le hf70
   have hR74 := hR12.le hf70
   have hW75 := hW13.le hf70
   have hW76 := hW19.le hf70
   have hW77 := hW47.le hf70
   replace hle := hle.trans hf70
   replace hbase37 := hbase37.trans hf70
   replace hbase55 := hbase55.trans hf70
   replace hbd66 := hbd66.trans hf70
   obtain ⟨v78, v83, rfl, ⟨rw79, hR80, hW81⟩, ⟨rw84, hR85, hW86⟩⟩ := zck.ex hq72
   refine uon hs fun _ he => ?_
   refine ze2 he rfl ?_; clear he; (try clear a); intro a w hs
   refine zn5 hs rfl Try.underlying60 ti62 (by decide) (AllC.row ⟨rfl, rfl, hR80.one, hR85.one, trivial⟩ rfl) fun v88 _ _ hs => ?_
   have hW89 : RW ze9 f69 [[.string (x67.Name), .string (x67.Text), v78, v83]] [x67] := RW.single (zck.of (x := x67) ⟨rw79, hR80, hW81⟩ ⟨rw84, hR85, hW86⟩)
   generalize hgrw90 : ([[.string (x67.Name), .string (x67.Text), v78, v83]] : List (List Value)) = rw90 at hs hW89; clear hgrw90
   have ho93 : v88.oneCell' = true := hs.one (i := 0) rfl
   refine uon hs fun _ he => ?_
   refine ze2 he rfl ?_; clear he; (try clear a); intro a w hs
   obtain ⟨x94, hx95, hm⟩ := ob hm
   obtain ⟨hbx94, hex94⟩ := zcj hx95
   have hW98 := hW77.append hW89; rw [hex94] at hW98
   refine zcs (i := 1) hs rfl rfl rfl (Rd.st hs (.head _)) Try.underlying60 ti62 (by decide) (by rw [RW.len hW77, RW.len hW89]; exact hbx94) (.free rfl) (by decide) fun v96 _ _ hs => ?_
   generalize hgx94 : rw46 ++ rw90 = rw97 at hs hW98; clear hgx94
   replace hs := hs.erase 0
   have ho100 : v96.oneCell' = true := hs.one (i := 0) rfl
   refine uon hs fun _ he => uy (v := .pointer (some ⟨b25, 3, none⟩)) 6 he rfl (za1 rfl (FO.of (off := 3) Try.underlying62 rfl rfl ti60 (by decide))) fun _ he => ?_
   refine ze2 he rfl ?_; clear he; (try clear a); intro a w hs
   refine sstore 1 hs rfl rfl rfl ti60 ho100 fun _ _ hs => uend hs fun _ he => ?_
   refine znq he ?_; clear he; (try clear a); intro w hs; try clear hsD
   refine hK10 <| za7 <| s1 hs (zeq rfl rfl rfl) fun hs => sM (v := .int .i64 ((w64 (y49 + 1)))) hs rfl fun hs => za0 ?_
   exact hK7 k54 _ _ (Nat.lt_succ_self _) ⟨_, x94, (w64 (y49 + 1)), v96, rw97, hbase55, hm, hW98, hs.sub ⟨rfl, rfl, rfl, rfl, rfl, trivial⟩⟩
  replace hm := oc_f hg56 hm
  refine zc9 <| hB6 _ _ ?_
  exact ⟨_, y44, v45, rw46, hbase37, hm, hW47, hs.sub ⟨rfl, rfl, trivial⟩⟩
theorem zke : ∀ (n : Nat) {f : Fz} {ab : List Nat} {A : List za2} {p0 : Int} {a0 : Value} {res : zad} (h0 : RP ab a0 p0) (_ : zex n p0 A = some res), DoesR nsh Try.prog 25 [a0] f [] ab A (fun r f' L' => ∃ (u0 : List Value), L' = [] ∧ r = .agg u0.toArray ∧ ze9.R f' u0 res)
  | 0, f, ab, A, p0, a0, res, h0, hm => by simp [zex] at hm
  | n + 1, f, ab, A, p0, a0, res, h0, hm => zn9 n (zke n) h0 hm
end Go.Proofs.Ytklcdfnhdljkjaa
