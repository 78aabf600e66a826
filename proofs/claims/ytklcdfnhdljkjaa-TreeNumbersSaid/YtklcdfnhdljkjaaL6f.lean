/-
  Walks and laws of this seat.
-/
import Derived.Test.YtklcdfnhdljkjaaBasg
import Derived.Test.YtklcdfnhdljkjaaL6e
import Derived.Test.YtklcdfnhdljkjaaRows
namespace Go.Proofs.Ytklcdfnhdljkjaa
set_option linter.unusedVariables false
set_option linter.unusedSimpArgs false
set_option maxHeartbeats 4000000
set_option maxRecDepth 100000
open Go.RowKit Go.Sl
def zfq (y482 : ByteArray) (lg705_0 : (List Int) → Int → (List za5) → ByteArray → (List za9) → Bool → za9 → Option (za5 × Bool × za3)) (y716 : Bool) (x759 : ByteArray) (y782 : (List Int)) (y787 : Int) (y788 : (List za5)) (y793 : ByteArray) (y796 : (List za9)) : Option (za5 × Bool × za3) :=
  lg705_0 y782 y787 y788 y482 y796 y716 ({Name := x759, Value := y793} : za9)
def zfr (y482 : ByteArray) (y484 : (List za9)) (lg705_0 : (List Int) → Int → (List za5) → ByteArray → (List za9) → Bool → za9 → Option (za5 × Bool × za3)) (y716 : Bool) (x759 : ByteArray) (y782 : (List Int)) (y787 : Int) (y788 : (List za5)) (y793 : ByteArray) (y795 : Bool) : Option (za5 × Bool × za3) :=
  (bif y795 then (appM 32 y484 [({Name := x759, Value := y793} : za9)]).bind fun x807 =>
  zfq y482 lg705_0 y716 x759 y782 y787 y788 y793 x807 else
  zfq y482 lg705_0 y716 x759 y782 y787 y788 y793 y484)
def zdr (n : Nat) (y482 : ByteArray) (y484 : (List za9)) (lg705_0 : (List Int) → Int → (List za5) → ByteArray → (List za9) → Bool → za9 → Option (za5 × Bool × za3)) (y716 : Bool) (x759 : ByteArray) (y782 : (List Int)) (y787 : Int) (y788 : (List za5)) (y793 : ByteArray) : Option (za5 × Bool × za3) :=
  (bif (decide ((y484.length : Int) < 64)) then (zp0 n y484 x759).bind fun x814 =>
  zfr y482 y484 lg705_0 y716 x759 y782 y787 y788 y793 (!x814) else
  zfr y482 y484 lg705_0 y716 x759 y782 y787 y788 y793 false)
def zei (n : Nat) (p1 : Int) (y475 : (List za5)) (y482 : ByteArray) (y484 : (List za9)) (lg705_0 : (List Int) → Int → (List za5) → ByteArray → (List za9) → Bool → za9 → Option (za5 × Bool × za3)) (lg705_1 : ByteArray → (List za9) → Bool → (List Int) → Int → (List za5) → Option (za5 × Bool × za3)) (y710 : (List Int)) (y715 : Int) (y716 : Bool) : Option (za5 × Bool × za3) :=
  (zaj n ({l := y710, at_ := y715} : za4)).bind fun x718 =>
  (bif (!x718.2.1) then some (({Kind := p1, Name := y482, Text := (bs []), Attrs := y484, Closed := y716} : za5), false, ({c := x718.2.2, out := y475} : za3)) else
  (bif (decide (x718.1 = 62)) then lg705_1 y482 y484 y716 x718.2.2.l x718.2.2.at_ y475 else
  (zcc n ({c := x718.2.2, out := y475} : za3) (fun z0 => zf1 n z0)).bind fun x736 =>
  (appM 4 [x718.1] x736.1).bind fun x753 =>
  (zg0 n x753).bind fun x759 =>
  (zcc n x736.2 (fun z0 => zec n z0)).bind fun x761 =>
  (zee n x761.2 0 (bs [61])).bind fun x778 =>
  (bif x778 then (zaj n x761.2.c).bind fun x817 =>
  (zcc n ({c := x817.2.2, out := x761.2.out} : za3) (fun z0 => zec n z0)).bind fun x825 =>
  (zf0 n x825.2).bind fun x842 =>
  (bif (!x842.2.1) then some (({Kind := p1, Name := y482, Text := (bs []), Attrs := y484, Closed := y716} : za5), false, x842.2.2) else
  (zgd n x842.1).bind fun x858 =>
  zdr n y482 y484 lg705_0 y716 x759 x842.2.2.c.l x842.2.2.c.at_ x842.2.2.out x858) else
  zdr n y482 y484 lg705_0 y716 x759 x761.2.c.l x761.2.c.at_ x761.2.out (bs []))))
def zdq (n : Nat) (p1 : Int) (y475 : (List za5)) (y482 : ByteArray) (y484 : (List za9)) (lg705_0 : (List Int) → Int → (List za5) → ByteArray → (List za9) → Bool → za9 → Option (za5 × Bool × za3)) (lg705_1 : ByteArray → (List za9) → Bool → (List Int) → Int → (List za5) → Option (za5 × Bool × za3)) (y862 : (List Int)) (y867 : Int) (y868 : Bool) (y869 : Int) (lp870 : (List Int) → Int → Bool → Int → Option (za5 × Bool × za3)) (y872 : Bool) : Option (za5 × Bool × za3) :=
  (bif y872 then (zaj n ({l := y862, at_ := y867} : za4)).bind fun x874 =>
  (zbu n ({c := x874.2.2, out := y475} : za3) 0).bind fun x882 =>
  lp870 x874.2.2.l x874.2.2.at_ (decide (y869 = 47)) x882 else
  zei n p1 y475 y482 y484 lg705_0 lg705_1 y862 y867 y868)
def zbl (n : Nat) (p1 : Int) (y475 : (List za5)) (y482 : ByteArray) (y484 : (List za9)) (lg705_0 : (List Int) → Int → (List za5) → ByteArray → (List za9) → Bool → za9 → Option (za5 × Bool × za3)) (lg705_1 : ByteArray → (List za9) → Bool → (List Int) → Int → (List za5) → Option (za5 × Bool × za3)) : Nat → (List Int) → Int → Bool → Int → Option (za5 × Bool × za3)
  | 0, _, _, _, _ => none
  | k870 + 1, y862, y867, y868, y869 =>
  (zec n y869).bind fun x884 =>
  (bif x884 then zdq n p1 y475 y482 y484 lg705_0 lg705_1 y862 y867 y868 y869 (zbl n p1 y475 y482 y484 lg705_0 lg705_1 k870) true else
  zdq n p1 y475 y482 y484 lg705_0 lg705_1 y862 y867 y868 y869 (zbl n p1 y475 y482 y484 lg705_0 lg705_1 k870) (decide (y869 = 47)))
mutual
def zav (n : Nat) (p1 : Int) : Nat → (List Int) → Int → (List za5) → ByteArray → (List za9) → Bool → za9 → Option (za5 × Bool × za3)
  | 0, _, _, _, _, _, _, _ => none
  | k705 + 1, y469, y474, y475, y482, y484, y489, y492 =>
  (zbu n ({c := ({l := y469, at_ := y474} : za4), out := y475} : za3) 0).bind fun x706 =>
  zbl n p1 y475 y482 y484 (zav n p1 k705) (zbh n p1 k705) n y469 y474 false x706
def zbh (n : Nat) (p1 : Int) : Nat → ByteArray → (List za9) → Bool → (List Int) → Int → (List za5) → Option (za5 × Bool × za3)
  | 0, _, _, _, _, _, _ => none
  | k887 + 1, y499, y501, y506, y507, y512, y513 =>
  (bif (decide (p1 = 3)) then some (({Kind := 3, Name := y499, Text := (bs []), Attrs := ([] : List za9), Closed := false} : za5), true, ({c := ({l := y507, at_ := y512} : za4), out := y513} : za3)) else
  some (({Kind := p1, Name := y499, Text := (bs []), Attrs := y501, Closed := y506} : za5), true, ({c := ({l := y507, at_ := y512} : za4), out := y513} : za3)))
end
def zg2 (n : Nat) (p0 : za3) (p1 : Int) : Option (za5 × Bool × za3) :=
  (zcc n p0 (fun z0 => zg1 n z0)).bind fun x899 =>
  (zg0 n x899.1).bind fun x916 =>
  zav n p1 n x899.2.c.l x899.2.c.at_ x899.2.out x916 ([] : List za9) false ({Name := (bs []), Value := (bs [])} : za9)
theorem zk4 (n : Nat) {f : Fz} {p0 : za3} {pb0 : Nat} {pv0_0 : Nat} {pv0_1 : Value} {pv0_1r : List (List Value)} {pv0_2 : Value} {pv0_2r : List (List Value)} {p1 : Int} {res : (za5 × Bool × za3)} (pv0_1h : RW (tInt .i32) f pv0_1r p0.c.l) (pv0_2h : RW zap f pv0_2r p0.out) (hm : zg2 n p0 p1 = some res) : Does Try.prog 36 [.pointer (some ⟨pb0, 0, none⟩), .int .i64 p1] f [.blk pb0 (.cells #[.pointer (some ⟨pv0_0, 0, none⟩), pv0_2] 68 (0, 0)), .blk pv0_0 (.cells #[pv0_1, .int .i64 p0.c.at_] 98 (0, 0)), .row pv0_1 21 1 pv0_1r, .row pv0_2 56 5 pv0_2r] (fun r f' L' => ∃ (u0 : List Value) (dp0_1 : Value) (dp0_1r : List (List Value)) (dp0_2 : Value) (dp0_2r : List (List Value)), L' = [.blk pb0 (.cells #[.pointer (some ⟨pv0_0, 0, none⟩), dp0_2] 68 (0, 0)), .blk pv0_0 (.cells #[dp0_1, .int .i64 res.2.2.c.at_] 98 (0, 0)), .row dp0_1 21 1 dp0_1r, .row dp0_2 56 5 dp0_2r] ∧ r = .tuple #[.agg u0.toArray, .bool res.2.1] ∧ zap.R f' u0 res.1 ∧ RW (tInt .i32) f' dp0_1r res.2.2.c.l ∧ RW zap f' dp0_2r res.2.2.out) := by
 unfold zg2 at hm
 intro w0 L w hC
 replace hC : Cw w0 f (.blk pb0 (.cells #[.pointer (some ⟨pv0_0, 0, none⟩), pv0_2] 68 (0, 0)) :: .blk pv0_0 (.cells #[pv0_1, .int .i64 p0.c.at_] 98 (0, 0)) :: .row pv0_1 21 1 pv0_1r :: .row pv0_2 56 5 pv0_2r :: L) w := hC
 refine enter Try.func36 rfl Try.ntmps36 (by simp) hC fun a hs => ?_
 have hle := Fz.le.refl f
 refine Wq fun hK1 => zbt hs ti56 (.free rfl) (by decide) fun b7 _ _ hs => sA (v := .bool (false)) hs rfl fun hs => za0 <| hK1 ?_
 have hbase704 := Fz.le.refl f
 refine W_scopeS (fun (l k : Nat) a w => (l = 0 ∧ ∃ (f467 : Fz) (y469 : (List Int)) (y474 : Int) (y475 : (List za5)) (y482 : ByteArray) (y484 : (List za9)) (y489 : Bool) (y492 : za9) (v470 : Value) (rw471 : List (List Value)) (v476 : Value) (rw477 : List (List Value)) (b481 : Nat) (v485 : Value) (rw486 : List (List Value)) (b491 : Nat) (r493 : List Value), Fz.le f f467 ∧ zav n p1 k y469 y474 y475 y482 y484 y489 y492 = some res ∧ RW (tInt .i32) f467 rw471 y469 ∧ RW zap f467 rw477 y475 ∧ RW zcb f467 rw486 y484 ∧ zcb.R f467 r493 y492 ∧ St 104 w0 f467 (.blk b481 (.cells #[.int .i64 (p1), .string (y482), .string ((bs [])), v485, .bool (y489)] 56 (0, 0)) :: .row v485 84 2 rw486 :: .blk b491 (.cells r493.toArray 84 (0, 0)) :: .blk b7 (.cells #[.int .i64 (0), .string ((bs [])), .string ((bs [])), (.slice none 0 0), .bool (false)] 56 (0, 0)) :: .blk pb0 (.cells #[.pointer (some ⟨pv0_0, 0, none⟩), v476] 68 (0, 0)) :: .blk pv0_0 (.cells #[v470, .int .i64 (y474)] 98 (0, 0)) :: .row v470 21 1 rw471 :: .row v476 56 5 rw477 :: L) [(0, .pointer (some ⟨pb0, 0, none⟩)), (1, .int .i64 (p1)), (4, .pointer (some ⟨b7, 0, none⟩)), (6, .pointer (some ⟨b481, 0, none⟩)), (7, .pointer (some ⟨b491, 0, none⟩))] a w) ∨ (l = 1 ∧ ∃ (f495 : Fz) (y499 : ByteArray) (y501 : (List za9)) (y506 : Bool) (y507 : (List Int)) (y512 : Int) (y513 : (List za5)) (b498 : Nat) (v502 : Value) (rw503 : List (List Value)) (v508 : Value) (rw509 : List (List Value)) (v514 : Value) (rw515 : List (List Value)), Fz.le f f495 ∧ zbh n p1 k y499 y501 y506 y507 y512 y513 = some res ∧ RW zcb f495 rw503 y501 ∧ RW (tInt .i32) f495 rw509 y507 ∧ RW zap f495 rw515 y513 ∧ St 104 w0 f495 (.blk b498 (.cells #[.int .i64 (p1), .string (y499), .string ((bs [])), v502, .bool (y506)] 56 (0, 0)) :: .row v502 84 2 rw503 :: .blk b7 (.cells #[.int .i64 (0), .string ((bs [])), .string ((bs [])), (.slice none 0 0), .bool (false)] 56 (0, 0)) :: .blk pb0 (.cells #[.pointer (some ⟨pv0_0, 0, none⟩), v514] 68 (0, 0)) :: .blk pv0_0 (.cells #[v508, .int .i64 (y512)] 98 (0, 0)) :: .row v508 21 1 rw509 :: .row v514 56 5 rw515 :: L) [(1, .int .i64 (p1)), (4, .pointer (some ⟨b7, 0, none⟩)), (6, .pointer (some ⟨b498, 0, none⟩))] a w)) rfl ?_ ?_
 ·(try clear hs); (try clear hm)
  intro k ih l a w R hl hJ G2 hG2
  rcases hJ with ⟨rfl, hJ⟩ | ⟨rfl, hJ⟩
  ·cases hl; revert a w
   rintro a w ⟨f467, y469, y474, y475, y482, y484, y489, y492, v470, rw471, v476, rw477, b481, v485, rw486, b491, r493, hl468, hm, hW472, hW478, hW487, hq494, hs⟩
   replace pv0_1h := pv0_1h.le hl468
   replace pv0_2h := pv0_2h.le hl468
   replace hle := hle.trans hl468
   obtain rfl : _ = ([.string (y492.Name), .string (y492.Value)] : List Value) := hq494
   have hbase704 := hl468
   cases k with
   | zero => simp [zav] at hm
   | succ k705 =>
    rw [zav] at hm
    refine Wq fun hK3 => s1 (v := .pointer (some ⟨b481, 4, none⟩)) hs (za1 rfl (FO.of (off := 4) Try.underlying56 rfl rfl ti4 (by decide))) fun hs => sstore 0 hs rfl rfl rfl ti4 rfl fun _ _ hs => za0 <| hK3 <| Ws fun hK4 => Wq fun hK5 => sM (v := .pointer (some ⟨pb0, 0, none⟩)) hs rfl fun hs => ?_
    obtain ⟨x706, hx707, hm⟩ := ob hm
    refine s1 hs (zeg (cap := []) (Lf := .blk b481 (.cells #[.int .i64 (p1), .string (y482), .string ((bs [])), v485, .bool (false)] 56 (0, 0)) :: .row v485 84 2 rw486 :: .blk b491 (.cells #[.string (y492.Name), .string (y492.Value)] 84 (0, 0)) :: .blk b7 (.cells #[.int .i64 (0), .string ((bs [])), .string ((bs [])), (.slice none 0 0), .bool (false)] 56 (0, 0)) :: L) rfl has30 rfl ((((zag _ 7 rfl).trans (zag _ 7 rfl)).trans (zag _ 7 rfl)).trans (zag _ 7 rfl)) (zco n (f := f467) (p0 := ({c := ({l := y469, at_ := y474} : za4), out := y475} : za3)) (pb0 := pb0) (pv0_0 := pv0_0) (pv0_1 := v470) (pv0_1r := rw471) (pv0_2 := v476) (pv0_2r := rw477) (p1 := 0) hW472 hW478 hx707)) fun hs => sA (v := .int .i32 (x706)) hs rfl fun hs => za0 <| hK5 ?_
    have hbase717 := Fz.le.refl f467
    refine zai (fun a w => ∃ (f708 : Fz) (y710 : (List Int)) (y715 : Int) (y716 : Bool) (v711 : Value) (rw712 : List (List Value)), Fz.le f467 f708 ∧ zei n p1 y475 y482 y484 (zav n p1 k705) (zbh n p1 k705) y710 y715 y716 = some res ∧ RW (tInt .i32) f708 rw712 y710 ∧ St 104 w0 f708 (.blk b481 (.cells #[.int .i64 (p1), .string (y482), .string ((bs [])), v485, .bool (y716)] 56 (0, 0)) :: .row v485 84 2 rw486 :: .blk b491 (.cells #[.string (y492.Name), .string (y492.Value)] 84 (0, 0)) :: .blk b7 (.cells #[.int .i64 (0), .string ((bs [])), .string ((bs [])), (.slice none 0 0), .bool (false)] 56 (0, 0)) :: .blk pb0 (.cells #[.pointer (some ⟨pv0_0, 0, none⟩), v476] 68 (0, 0)) :: .blk pv0_0 (.cells #[v711, .int .i64 (y715)] 98 (0, 0)) :: .row v711 21 1 rw712 :: .row v476 56 5 rw477 :: L) [(0, .pointer (some ⟨pb0, 0, none⟩)), (1, .int .i64 (p1)), (4, .pointer (some ⟨b7, 0, none⟩)), (6, .pointer (some ⟨b481, 0, none⟩)), (7, .pointer (some ⟨b491, 0, none⟩))] a w) ?_ ?_
    ·clear hs hm
     clear hbase717
     rintro a w ⟨f708, y710, y715, y716, v711, rw712, hl709, hm, hW713, hs⟩
     replace pv0_1h := pv0_1h.le hl709
     replace pv0_2h := pv0_2h.le hl709
     replace hW472 := hW472.le hl709
     replace hW478 := hW478.le hl709
     replace hW487 := hW487.le hl709
     replace hle := hle.trans hl709
     replace hbase704 := hbase704.trans hl709
     unfold zei at hm
     refine hK4 <| Wq fun hK6 => sM (v := .pointer (some ⟨pb0, 0, none⟩)) hs rfl fun hs => s1 hs (zab rfl) fun hs => s1 (v := .pointer (some ⟨pb0, 0, none⟩)) hs (za1 rfl (FO.of (off := 0) Try.underlying68 rfl rfl ti65 (by decide))) fun hs => s1 (v := .pointer (some ⟨pv0_0, 0, none⟩)) hs (y_ld rfl Try.underlying65 rfl (Cell.blk (.tail _ (.tail _ (.tail _ (.tail _ (.head _))))) rfl)) fun hs => ?_
     obtain ⟨x718, hx719, hm⟩ := ob hm
     replace hs := hs.front 6
     replace hs := hs.front 6
     refine zbx (Lr := [.blk pv0_0 (.cells #[v711, .int .i64 (y715)] 98 (0, 0)), .row v711 21 1 rw712]) (Lf := .blk b481 (.cells #[.int .i64 (p1), .string (y482), .string ((bs [])), v485, .bool (y716)] 56 (0, 0)) :: .row v485 84 2 rw486 :: .blk b491 (.cells #[.string (y492.Name), .string (y492.Value)] 84 (0, 0)) :: .blk b7 (.cells #[.int .i64 (0), .string ((bs [])), .string ((bs [])), (.slice none 0 0), .bool (false)] 56 (0, 0)) :: .blk pb0 (.cells #[.pointer (some ⟨pv0_0, 0, none⟩), v476] 68 (0, 0)) :: .row v476 56 5 rw477 :: L) hs rfl has34 rfl rfl (zao n (f := f708) (p0 := ({l := y710, at_ := y715} : za4)) (pb0 := pv0_0) (pv0_0 := v711) (pv0_0r := rw712) hW713 hx719) (.free rfl) (by decide) ?_; clear hs; (try clear a w)
     rintro _ f720 _ a w hf721 ⟨v722, rw723, rfl, rfl, hW724⟩ hs
     replace pv0_1h := pv0_1h.le hf721
     replace pv0_2h := pv0_2h.le hf721
     replace hW472 := hW472.le hf721
     replace hW478 := hW478.le hf721
     replace hW487 := hW487.le hf721
     replace hW713 := hW713.le hf721
     replace hle := hle.trans hf721
     replace hbase704 := hbase704.trans hf721
     refine sM (v := .tuple #[.int .i32 (x718.1), .bool (x718.2.1)]) hs rfl fun hs => s1 (v := .int .i32 (x718.1)) hs (zar rfl rfl) fun hs => s1 (v := .bool (x718.2.1)) hs (zar rfl rfl) fun hs => sA (v := .int .i32 (x718.1)) hs rfl fun hs => sA (v := .bool (x718.2.1)) hs rfl fun hs => za0 <| hK6 <| Ws fun hK7 => Ws fun hK8 => za7 ?_
     refine sM (v := .bool (x718.2.1)) hs rfl fun hs => s1 (v := .bool ((!x718.2.1))) hs (zj8 rfl) fun hs => za0 <| hK8 ?_
     refine zaf hs rfl (fun hg726 => ?_) (fun hg726 => ?_)
     ·replace hm := oc_t hg726 hm
      refine Wq fun hK9 => s1 hs (zk8 rfl Try.underlying56 rfl ti56 (.tail _ (.tail _ (.head _))) rfl) fun hs => zat (i := 5) hs rfl rfl rfl ti56 ⟨rfl, rfl⟩ (AllC.arr (r := [.int .i64 (p1), .string (y482), .string ((bs [])), v485, .bool (y716)]) ⟨rfl, rfl, rfl, (hs.one (i := 3) rfl), rfl, trivial⟩) (.free rfl) fun _ _ hs => sA (v := .bool (false)) hs rfl fun hs => za0 <| hK9 <| zau ?_
      obtain ⟨f727, hf728, hs2, hR729⟩ := hs.frzAt 3 rfl
      clear hs; have hs := hs2; clear hs2
      replace hW478 := hW478.le hf728
      replace hW487 := hW487.le hf728
      replace hW724 := hW724.le hf728
      replace hle := hle.trans hf728
      replace hbase704 := hbase704.trans hf728
      obtain rfl := Option.some.inj hm
      replace hs := hs.front 6
      replace hs := hs.front 2
      replace hs := hs.front 2
      replace hs := hs.front 6
      refine RtV2 hs rfl (rv_a hs rfl Try.underlying56 rfl ti56 (fun j u hj => Cell.blk (.tail _ (.tail _ (.tail _ (.tail _ (.tail _ (.tail _ (.head _))))))) hj) rfl) (rv_t hs rfl) ?_
      exact ⟨_, f727, [.blk pb0 (.cells #[.pointer (some ⟨pv0_0, 0, none⟩), v476] 68 (0, 0)), .blk pv0_0 (.cells #[v722, .int .i64 (x718.2.2.at_)] 98 (0, 0)), .row v722 21 1 rw723, .row v476 56 5 rw477], rfl, hle, (hs.subL (.cons_cons _ (.cons_cons _ (.cons_cons _ (.cons_cons _ (.cons _ (.cons _ (.cons _ (.refl _))))))))).cw, [.int .i64 (p1), .string (y482), .string ((bs [])), v485, .bool (y716)], v722, rw723, v476, rw477, rfl, rfl, ⟨_, rfl, ⟨rw486, hR729, hW487⟩⟩, hW724, hW478⟩
     replace hm := oc_f hg726 hm
     refine zah <| hK7 <| Ws fun hK10 => Wq fun hK11 => sM (v := .int .i32 (x718.1)) hs rfl fun hs => s1 hs (zd3 rfl rfl) fun hs => za0 <| hK11 ?_
     refine zaf hs rfl (fun hg730 => ?_) (fun hg730 => ?_)
     ·replace hm := oc_t hg730 hm
      refine zms ?_
      replace hs := hs.front 7
      replace hs := hs.front 2
      replace hs := hs.front 2
      replace hs := hs.front 7
      replace hs := hs.front 7
      replace hs := hs.front 6
      replace hs := hs.front 6
      exact hG2.at_ 1 _ _ rfl ⟨k705, Nat.lt_succ_self _, (.inr (⟨rfl, ⟨_, y482, y484, y716, x718.2.2.l, x718.2.2.at_, y475, b481, v485, rw486, v722, rw723, v476, rw477, hbase704, hm, hW487, hW724, hW478, hs.subs ⟨rfl, rfl, rfl, trivial⟩ (.cons_cons _ (.cons_cons _ (.cons_cons _ (.cons_cons _ (.cons_cons _ (.cons_cons _ (.cons_cons _ (.cons _ (.refl _)))))))))⟩⟩))⟩
     replace hm := oc_f hg730 hm
     refine zah <| hK10 <| Wq fun hK12 => sM (v := .int .i32 (x718.1)) hs rfl fun hs => zfz hs rfl Try.underlying28 ti21 rfl rfl fun v731 _ _ hs => ?_
     have hW732 : RW (tInt .i32) f720 [[.int .i32 (x718.1)]] [x718.1] := RW.single (rfl)
     generalize hgrw733 : ([[.int .i32 (x718.1)]] : List (List Value)) = rw733 at hs hW732; clear hgrw733
     refine sM (v := .pointer (some ⟨pb0, 0, none⟩)) hs rfl fun hs => ?_
     obtain ⟨x736, hx737, hm⟩ := ob hm
     replace hs := hs.front 8
     replace hs := hs.front 3
     replace hs := hs.front 3
     replace hs := hs.front 8
     refine zbx (Lr := [.blk pb0 (.cells #[.pointer (some ⟨pv0_0, 0, none⟩), v476] 68 (0, 0)), .blk pv0_0 (.cells #[v722, .int .i64 (x718.2.2.at_)] 98 (0, 0)), .row v722 21 1 rw723, .row v476 56 5 rw477]) (Lf := .row v731 21 1 rw733 :: .blk b481 (.cells #[.int .i64 (p1), .string (y482), .string ((bs [])), v485, .bool (y716)] 56 (0, 0)) :: .row v485 84 2 rw486 :: .blk b491 (.cells #[.string (y492.Name), .string (y492.Value)] 84 (0, 0)) :: .blk b7 (.cells #[.int .i64 (0), .string ((bs [])), .string ((bs [])), (.slice none 0 0), .bool (false)] 56 (0, 0)) :: L) hs rfl has67 rfl rfl (zdu n (f := f720) (p0 := ({c := x718.2.2, out := y475} : za3)) (pb0 := pb0) (pv0_0 := pv0_0) (pv0_1 := v722) (pv0_1r := rw723) (pv0_2 := v476) (pv0_2r := rw477) (g1 := 70) (cap1 := []) hW724 hW478 has70 (fun f9 hle9 z0 r9  h9 => zme n (f := f9)   h9) hx737) (.free rfl) (by decide) ?_; clear hs; (try clear a w)
     rintro v740 f738 _ a w hf739 ⟨_, v744, rw745, v747, rw748, rfl, rfl, ⟨rw741, hR742, hW743⟩, hW746, hW749⟩ hs
     replace pv0_1h := pv0_1h.le hf739
     replace pv0_2h := pv0_2h.le hf739
     replace hW472 := hW472.le hf739
     replace hW478 := hW478.le hf739
     replace hW487 := hW487.le hf739
     replace hW713 := hW713.le hf739
     replace hW724 := hW724.le hf739
     replace hW732 := hW732.le hf739
     replace hle := hle.trans hf739
     replace hbase704 := hbase704.trans hf739
     obtain ⟨x753, hx754, hm⟩ := ob hm
     obtain ⟨hbx753, hex753⟩ := zcj hx754
     have hW757 := hW732.append hW743; rw [hex753] at hW757
     refine zcs (i := 4) hs rfl rfl rfl hR742.up Try.underlying28 ti21 (by decide) (by rw [RW.len hW732, RW.len hW743]; exact hbx753) (.free rfl) (by decide) fun v755 _ _ hs => ?_
     generalize hgx753 : rw733 ++ rw741 = rw756 at hs hW757; clear hgx753
     obtain ⟨x759, hx760, hm⟩ := ob hm
     refine sy hs (zeh (cap := []) rfl has66 rfl (fun w9 hw9 => callsP (Lr := [.row v755 21 1 rw756]) (Lf := .blk pb0 (.cells #[.pointer (some ⟨pv0_0, 0, none⟩), v747] 68 (0, 0)) :: .blk pv0_0 (.cells #[v744, .int .i64 (x736.2.c.at_)] 98 (0, 0)) :: .row v744 21 1 rw745 :: .row v747 56 5 rw748 :: .blk b481 (.cells #[.int .i64 (p1), .string (y482), .string ((bs [])), v485, .bool (y716)] 56 (0, 0)) :: .row v485 84 2 rw486 :: .blk b491 (.cells #[.string (y492.Name), .string (y492.Value)] 84 (0, 0)) :: .blk b7 (.cells #[.int .i64 (0), .string ((bs [])), .string ((bs [])), (.slice none 0 0), .bool (false)] 56 (0, 0)) :: L) (zag _ 4 rfl) hw9 (fun Lz w9 hw9 => lent0 hw9 (fun f9_0 w9 hle9_0 hRl0 hw9 => (zjk n (f := f9_0) (a0 := v755) ⟨rw756, hRl0, hW757.le hle9_0⟩ hx760) w0 _ w9 hw9)))) fun _ _ hs => s1 hs (zes (places := [(0, 1), (1, 1)]) (cs := [.string (x759), .string ((bs []))]) rfl Try.underlying84 ti84 (by kernel_rfl) (by decide) rfl ⟨rfl, trivial⟩) fun hs => zat (i := 7) hs rfl rfl rfl ti84 ⟨rfl, rfl⟩ (AllC.arr (r := [.string (x759), .string ((bs []))]) ⟨rfl, rfl, trivial⟩) (.free rfl) fun _ _ hs => za0 <| hK12 <| Wq fun hK13 => sM (v := .pointer (some ⟨pb0, 0, none⟩)) hs rfl fun hs => ?_
     obtain ⟨x761, hx762, hm⟩ := ob hm
     replace hs := hs.front 3
     replace hs := hs.front 3
     replace hs := hs.front 3
     replace hs := hs.front 3
     refine zbx (Lr := [.blk pb0 (.cells #[.pointer (some ⟨pv0_0, 0, none⟩), v747] 68 (0, 0)), .blk pv0_0 (.cells #[v744, .int .i64 (x736.2.c.at_)] 98 (0, 0)), .row v744 21 1 rw745, .row v747 56 5 rw748]) (Lf := .row v755 21 1 rw756 :: .blk b481 (.cells #[.int .i64 (p1), .string (y482), .string ((bs [])), v485, .bool (y716)] 56 (0, 0)) :: .row v485 84 2 rw486 :: .blk b491 (.cells #[.string (x759), .string ((bs []))] 84 (0, 0)) :: .blk b7 (.cells #[.int .i64 (0), .string ((bs [])), .string ((bs [])), (.slice none 0 0), .bool (false)] 56 (0, 0)) :: L) hs rfl has67 rfl rfl (zdu n (f := f738) (p0 := x736.2) (pb0 := pb0) (pv0_0 := pv0_0) (pv0_1 := v744) (pv0_1r := rw745) (pv0_2 := v747) (pv0_2r := rw748) (g1 := 69) (cap1 := []) hW746 hW749 has69 (fun f9 hle9 z0 r9  h9 => zgc n (f := f9)   h9) hx762) (.free rfl) (by decide) ?_; clear hs; (try clear a w)
     rintro v765 f763 _ a w hf764 ⟨_, v769, rw770, v772, rw773, rfl, rfl, ⟨rw766, hR767, hW768⟩, hW771, hW774⟩ hs
     replace pv0_1h := pv0_1h.le hf764
     replace pv0_2h := pv0_2h.le hf764
     replace hW472 := hW472.le hf764
     replace hW478 := hW478.le hf764
     replace hW487 := hW487.le hf764
     replace hW713 := hW713.le hf764
     replace hW724 := hW724.le hf764
     replace hW732 := hW732.le hf764
     replace hR742 := hR742.le hf764
     replace hW743 := hW743.le hf764
     replace hW746 := hW746.le hf764
     replace hW749 := hW749.le hf764
     replace hW757 := hW757.le hf764
     replace hle := hle.trans hf764
     replace hbase704 := hbase704.trans hf764
     refine za0 <| hK13 <| Ws fun hK14 => Wq fun hK15 => sM (v := .pointer (some ⟨pb0, 0, none⟩)) hs rfl fun hs => ?_
     obtain ⟨x778, hx779, hm⟩ := ob hm
     refine s1 hs (zeg (cap := []) (Lf := .row v755 21 1 rw756 :: .blk b481 (.cells #[.int .i64 (p1), .string (y482), .string ((bs [])), v485, .bool (y716)] 56 (0, 0)) :: .row v485 84 2 rw486 :: .blk b491 (.cells #[.string (x759), .string ((bs []))] 84 (0, 0)) :: .blk b7 (.cells #[.int .i64 (0), .string ((bs [])), .string ((bs [])), (.slice none 0 0), .bool (false)] 56 (0, 0)) :: L) rfl has31 rfl ((((zag _ 3 rfl).trans (zag _ 3 rfl)).trans (zag _ 3 rfl)).trans (zag _ 3 rfl)) (zg4 n (f := f763) (p0 := x761.2) (pb0 := pb0) (pv0_0 := pv0_0) (pv0_1 := v769) (pv0_1r := rw770) (pv0_2 := v772) (pv0_2r := rw773) (p1 := 0) (p2 := (bs [61])) hW771 hW774 hx779)) fun hs => za0 <| hK15 ?_
     have hbase794 := Fz.le.refl f763
     refine zai (fun a w => ∃ (f780 : Fz) (y782 : (List Int)) (y787 : Int) (y788 : (List za5)) (y793 : ByteArray) (v783 : Value) (rw784 : List (List Value)) (v789 : Value) (rw790 : List (List Value)), Fz.le f763 f780 ∧ zdr n y482 y484 (zav n p1 k705) y716 x759 y782 y787 y788 y793 = some res ∧ RW (tInt .i32) f780 rw784 y782 ∧ RW zap f780 rw790 y788 ∧ St 104 w0 f780 (.blk pb0 (.cells #[.pointer (some ⟨pv0_0, 0, none⟩), v789] 68 (0, 0)) :: .blk pv0_0 (.cells #[v783, .int .i64 (y787)] 98 (0, 0)) :: .row v783 21 1 rw784 :: .row v789 56 5 rw790 :: .blk b481 (.cells #[.int .i64 (p1), .string (y482), .string ((bs [])), v485, .bool (y716)] 56 (0, 0)) :: .row v485 84 2 rw486 :: .blk b491 (.cells #[.string (x759), .string (y793)] 84 (0, 0)) :: .blk b7 (.cells #[.int .i64 (0), .string ((bs [])), .string ((bs [])), (.slice none 0 0), .bool (false)] 56 (0, 0)) :: L) [(0, .pointer (some ⟨pb0, 0, none⟩)), (1, .int .i64 (p1)), (4, .pointer (some ⟨b7, 0, none⟩)), (6, .pointer (some ⟨b481, 0, none⟩)), (7, .pointer (some ⟨b491, 0, none⟩))] a w) ?_ ?_
     ·clear hs hm
      clear hbase794
      rintro a w ⟨f780, y782, y787, y788, y793, v783, rw784, v789, rw790, hl781, hm, hW785, hW791, hs⟩
      replace pv0_1h := pv0_1h.le hl781
      replace pv0_2h := pv0_2h.le hl781
      replace hW472 := hW472.le hl781
      replace hW478 := hW478.le hl781
      replace hW487 := hW487.le hl781
      replace hW713 := hW713.le hl781
      replace hW724 := hW724.le hl781
      replace hW732 := hW732.le hl781
      replace hR742 := hR742.le hl781
      replace hW743 := hW743.le hl781
      replace hW746 := hW746.le hl781
      replace hW749 := hW749.le hl781
      replace hW757 := hW757.le hl781
      replace hR767 := hR767.le hl781
      replace hW768 := hW768.le hl781
      replace hW771 := hW771.le hl781
      replace hW774 := hW774.le hl781
      replace hle := hle.trans hl781
      replace hbase704 := hbase704.trans hl781
      unfold zdr at hm
      refine hK14 <| Ws fun hK16 => Ws fun hK17 => ?_
      refine zai (fun a w => ∃ (y795 : Bool), zfr y482 y484 (zav n p1 k705) y716 x759 y782 y787 y788 y793 y795 = some res ∧ St 104 w0 f780 (.blk pb0 (.cells #[.pointer (some ⟨pv0_0, 0, none⟩), v789] 68 (0, 0)) :: .blk pv0_0 (.cells #[v783, .int .i64 (y787)] 98 (0, 0)) :: .row v783 21 1 rw784 :: .row v789 56 5 rw790 :: .blk b481 (.cells #[.int .i64 (p1), .string (y482), .string ((bs [])), v485, .bool (y716)] 56 (0, 0)) :: .row v485 84 2 rw486 :: .blk b491 (.cells #[.string (x759), .string (y793)] 84 (0, 0)) :: .blk b7 (.cells #[.int .i64 (0), .string ((bs [])), .string ((bs [])), (.slice none 0 0), .bool (false)] 56 (0, 0)) :: L) [(0, .pointer (some ⟨pb0, 0, none⟩)), (1, .int .i64 (p1)), (4, .pointer (some ⟨b7, 0, none⟩)), (6, .pointer (some ⟨b481, 0, none⟩)), (7, .pointer (some ⟨b491, 0, none⟩)), (91, .bool (y795))] a w) ?_ ?_
      ·clear hs hm
       rintro a w ⟨y795, hm, hs⟩
       unfold zfr at hm
       refine hK17 ?_
       refine zai (fun a w => ∃ (y796 : (List za9)) (v797 : Value) (rw798 : List (List Value)), zfq y482 (zav n p1 k705) y716 x759 y782 y787 y788 y793 y796 = some res ∧ RW zcb f780 rw798 y796 ∧ St 104 w0 f780 (.blk pb0 (.cells #[.pointer (some ⟨pv0_0, 0, none⟩), v789] 68 (0, 0)) :: .blk pv0_0 (.cells #[v783, .int .i64 (y787)] 98 (0, 0)) :: .row v783 21 1 rw784 :: .row v789 56 5 rw790 :: .blk b481 (.cells #[.int .i64 (p1), .string (y482), .string ((bs [])), v797, .bool (y716)] 56 (0, 0)) :: .row v797 84 2 rw798 :: .blk b491 (.cells #[.string (x759), .string (y793)] 84 (0, 0)) :: .blk b7 (.cells #[.int .i64 (0), .string ((bs [])), .string ((bs [])), (.slice none 0 0), .bool (false)] 56 (0, 0)) :: L) [(0, .pointer (some ⟨pb0, 0, none⟩)), (1, .int .i64 (p1)), (4, .pointer (some ⟨b7, 0, none⟩)), (6, .pointer (some ⟨b481, 0, none⟩)), (7, .pointer (some ⟨b491, 0, none⟩))] a w) ?_ ?_
       ·clear hs hm
        rintro a w ⟨y796, v797, rw798, hm, hW799, hs⟩
        unfold zfq at hm
        refine hK16 <| Ws fun hK18 => zms ?_
        replace hs := hs.front 3
        replace hs := hs.front 3
        replace hs := hs.front 3
        replace hs := hs.front 3
        replace hs := hs.front 7
        replace hs := hs.front 7
        replace hs := hs.front 7
        replace hs := hs.front 7
        exact hG2.at_ 0 _ _ rfl ⟨k705, Nat.lt_succ_self _, (.inl ⟨rfl, ⟨_, y782, y787, y788, y482, y796, y716, ({Name := x759, Value := y793} : za9), v783, rw784, v789, rw790, b481, v797, rw798, b491, [.string (x759), .string (y793)], hbase704, hm, hW785, hW791, hW799, rfl, hs.sub ⟨rfl, rfl, rfl, rfl, rfl, trivial⟩⟩⟩)⟩
       refine zaf hs rfl (fun hg801 => ?_) (fun hg801 => ?_)
       ·replace hm := oc_t hg801 hm
        refine za7 <| s1 (v := .pointer (some ⟨b481, 3, none⟩)) hs (za1 rfl (FO.of (off := 3) Try.underlying56 rfl rfl ti34 (by decide))) fun hs => s1 (v := v485) hs (y_ld rfl Try.underlying34 rfl (Cell.blk (.tail _ (.tail _ (.tail _ (.tail _ (.head _))))) rfl)) fun hs => s1 hs (zk8 rfl Try.underlying84 rfl ti84 (.tail _ (.tail _ (.tail _ (.tail _ (.tail _ (.tail _ (.head _))))))) rfl) fun hs => zn5 hs rfl Try.underlying34 ti84 (by decide) (AllC.row ⟨rfl, rfl, trivial⟩ rfl) fun v802 _ _ hs => ?_
        have hW803 : RW zcb f780 [[.string (x759), .string (y793)]] [({Name := x759, Value := y793} : za9)] := RW.single (rfl)
        generalize hgrw804 : ([[.string (x759), .string (y793)]] : List (List Value)) = rw804 at hs hW803; clear hgrw804
        obtain ⟨x807, hx808, hm⟩ := ob hm
        obtain ⟨hbx807, hex807⟩ := zcj hx808
        have hW811 := hW487.append hW803; rw [hex807] at hW811
        refine zcs (i := 6) hs rfl rfl rfl (Rd.st hs (.head _)) Try.underlying34 ti84 (by decide) (by rw [RW.len hW487, RW.len hW803]; exact hbx807) (.free rfl) (by decide) fun v809 _ _ hs => ?_
        generalize hgx807 : rw486 ++ rw804 = rw810 at hs hW811; clear hgx807
        replace hs := hs.erase 0
        refine s1 (v := .pointer (some ⟨b481, 3, none⟩)) hs (za1 rfl (FO.of (off := 3) Try.underlying56 rfl rfl ti34 (by decide))) fun hs => sstore 4 hs rfl rfl rfl ti34 ((hs.one (i := 5) rfl)) fun _ _ hs => za0 ?_
        exact ⟨x807, v809, rw810, hm, hW811, hs.sub ⟨rfl, rfl, rfl, rfl, rfl, trivial⟩⟩
       replace hm := oc_f hg801 hm
       refine zah ?_
       exact ⟨y484, v485, rw486, hm, hW487, hs.sub ⟨rfl, rfl, rfl, rfl, rfl, trivial⟩⟩
      refine za7 <| s1 (v := .pointer (some ⟨b481, 3, none⟩)) hs (za1 rfl (FO.of (off := 3) Try.underlying56 rfl rfl ti34 (by decide))) fun hs => s1 (v := v485) hs (y_ld rfl Try.underlying34 rfl (Cell.blk (.tail _ (.tail _ (.tail _ (.tail _ (.head _))))) rfl)) fun hs => s1 hs (zb7 (Rd.st hs (.tail _ (.tail _ (.tail _ (.tail _ (.tail _ (.head _))))))) hW487 rfl Try.underlying34) fun hs => s1 hs (zg7 rfl rfl) fun hs => sM (v := .bool (decide ((y484.length : Int) < 64))) hs rfl fun hs => ?_
      refine St.split hs (t := 84) rfl (fun hg813 hs => ?_) (fun hg813 hs => ?_)
      ·replace hm := oc_t hg813 hm
       refine s2 (v := .pointer (some ⟨b481, 3, none⟩)) hs (za1 rfl (FO.of (off := 3) Try.underlying56 rfl rfl ti34 (by decide))) fun hs => s2 (v := v485) hs (y_ld rfl Try.underlying34 rfl (Cell.blk (.tail _ (.tail _ (.tail _ (.tail _ (.head _))))) rfl)) fun hs => s2 (v := .pointer (some ⟨b491, 0, none⟩)) hs (za1 rfl (FO.of (off := 0) Try.underlying84 rfl rfl ti9 (by decide))) fun hs => s2 (v := .string (x759)) hs (y_ld rfl Try.underlying9 rfl (Cell.blk (.tail _ (.tail _ (.tail _ (.tail _ (.tail _ (.tail _ (.head _))))))) rfl)) fun hs => ?_
       obtain ⟨x814, hx815, hm⟩ := ob hm
       refine syg hs (zeh (cap := []) rfl has72 rfl (fun w9 hw9 => callsP (Lr := [.row v485 84 2 rw486]) (Lf := .blk pb0 (.cells #[.pointer (some ⟨pv0_0, 0, none⟩), v789] 68 (0, 0)) :: .blk pv0_0 (.cells #[v783, .int .i64 (y787)] 98 (0, 0)) :: .row v783 21 1 rw784 :: .row v789 56 5 rw790 :: .blk b481 (.cells #[.int .i64 (p1), .string (y482), .string ((bs [])), v485, .bool (y716)] 56 (0, 0)) :: .blk b491 (.cells #[.string (x759), .string (y793)] 84 (0, 0)) :: .blk b7 (.cells #[.int .i64 (0), .string ((bs [])), .string ((bs [])), (.slice none 0 0), .bool (false)] 56 (0, 0)) :: L) (zag _ 5 rfl) hw9 (fun Lz w9 hw9 => lent0 hw9 (fun f9_0 w9 hle9_0 hRl0 hw9 => (mark_has_ok n (f := f9_0) (a0 := v485) ⟨rw486, hRl0, hW487.le hle9_0⟩ hx815) w0 _ w9 hw9)))) fun _ _ hs => s2 (v := .bool ((!x814))) hs (zj8 rfl) fun hs => sP (v := .bool ((!x814))) hs rfl rfl fun hs => za0 ?_
       exact ⟨(!x814), hm, hs.sub ⟨rfl, rfl, rfl, rfl, rfl, rfl, trivial⟩⟩
      replace hm := oc_f hg813 hm
      refine s3 hs fun hs => s3 hs fun hs => s3 hs fun hs => s3 hs fun hs => s3 hs fun hs => s3 hs fun hs => sP (v := .bool (false)) hs rfl rfl fun hs => za0 ?_
      exact ⟨false, hm, hs.sub ⟨rfl, rfl, rfl, rfl, rfl, rfl, trivial⟩⟩
     refine zaf hs rfl (fun hg816 => ?_) (fun hg816 => ?_)
     ·replace hm := oc_t hg816 hm
      refine Wq fun hK19 => sM (v := .pointer (some ⟨pb0, 0, none⟩)) hs rfl fun hs => s1 hs (zab rfl) fun hs => s1 (v := .pointer (some ⟨pb0, 0, none⟩)) hs (za1 rfl (FO.of (off := 0) Try.underlying68 rfl rfl ti65 (by decide))) fun hs => s1 (v := .pointer (some ⟨pv0_0, 0, none⟩)) hs (y_ld rfl Try.underlying65 rfl (Cell.blk (.head _) rfl)) fun hs => ?_
      obtain ⟨x817, hx818, hm⟩ := ob hm
      replace hs := hs.front 2
      replace hs := hs.front 2
      refine zbx (Lr := [.blk pv0_0 (.cells #[v769, .int .i64 (x761.2.c.at_)] 98 (0, 0)), .row v769 21 1 rw770]) (Lf := .blk pb0 (.cells #[.pointer (some ⟨pv0_0, 0, none⟩), v772] 68 (0, 0)) :: .row v772 56 5 rw773 :: .row v755 21 1 rw756 :: .blk b481 (.cells #[.int .i64 (p1), .string (y482), .string ((bs [])), v485, .bool (y716)] 56 (0, 0)) :: .row v485 84 2 rw486 :: .blk b491 (.cells #[.string (x759), .string ((bs []))] 84 (0, 0)) :: .blk b7 (.cells #[.int .i64 (0), .string ((bs [])), .string ((bs [])), (.slice none 0 0), .bool (false)] 56 (0, 0)) :: L) hs rfl has34 rfl rfl (zao n (f := f763) (p0 := x761.2.c) (pb0 := pv0_0) (pv0_0 := v769) (pv0_0r := rw770) hW771 hx818) (.free rfl) (by decide) ?_; clear hs; (try clear a w)
      rintro _ f819 _ a w hf820 ⟨v821, rw822, rfl, rfl, hW823⟩ hs
      replace pv0_1h := pv0_1h.le hf820
      replace pv0_2h := pv0_2h.le hf820
      replace hW472 := hW472.le hf820
      replace hW478 := hW478.le hf820
      replace hW487 := hW487.le hf820
      replace hW713 := hW713.le hf820
      replace hW724 := hW724.le hf820
      replace hW732 := hW732.le hf820
      replace hR742 := hR742.le hf820
      replace hW743 := hW743.le hf820
      replace hW746 := hW746.le hf820
      replace hW749 := hW749.le hf820
      replace hW757 := hW757.le hf820
      replace hR767 := hR767.le hf820
      replace hW768 := hW768.le hf820
      replace hW771 := hW771.le hf820
      replace hW774 := hW774.le hf820
      replace hle := hle.trans hf820
      replace hbase704 := hbase704.trans hf820
      replace hbase794 := hbase794.trans hf820
      refine za0 <| hK19 <| Wq fun hK20 => sM (v := .pointer (some ⟨pb0, 0, none⟩)) hs rfl fun hs => ?_
      obtain ⟨x825, hx826, hm⟩ := ob hm
      replace hs := hs.front 3
      replace hs := hs.front 2
      replace hs := hs.front 2
      replace hs := hs.front 3
      refine zbx (Lr := [.blk pb0 (.cells #[.pointer (some ⟨pv0_0, 0, none⟩), v772] 68 (0, 0)), .blk pv0_0 (.cells #[v821, .int .i64 (x817.2.2.at_)] 98 (0, 0)), .row v821 21 1 rw822, .row v772 56 5 rw773]) (Lf := .row v755 21 1 rw756 :: .blk b481 (.cells #[.int .i64 (p1), .string (y482), .string ((bs [])), v485, .bool (y716)] 56 (0, 0)) :: .row v485 84 2 rw486 :: .blk b491 (.cells #[.string (x759), .string ((bs []))] 84 (0, 0)) :: .blk b7 (.cells #[.int .i64 (0), .string ((bs [])), .string ((bs [])), (.slice none 0 0), .bool (false)] 56 (0, 0)) :: L) hs rfl has67 rfl rfl (zdu n (f := f819) (p0 := ({c := x817.2.2, out := x761.2.out} : za3)) (pb0 := pb0) (pv0_0 := pv0_0) (pv0_1 := v821) (pv0_1r := rw822) (pv0_2 := v772) (pv0_2r := rw773) (g1 := 69) (cap1 := []) hW823 hW774 has69 (fun f9 hle9 z0 r9  h9 => zgc n (f := f9)   h9) hx826) (.free rfl) (by decide) ?_; clear hs; (try clear a w)
      rintro v829 f827 _ a w hf828 ⟨_, v833, rw834, v836, rw837, rfl, rfl, ⟨rw830, hR831, hW832⟩, hW835, hW838⟩ hs
      replace pv0_1h := pv0_1h.le hf828
      replace pv0_2h := pv0_2h.le hf828
      replace hW472 := hW472.le hf828
      replace hW478 := hW478.le hf828
      replace hW487 := hW487.le hf828
      replace hW713 := hW713.le hf828
      replace hW724 := hW724.le hf828
      replace hW732 := hW732.le hf828
      replace hR742 := hR742.le hf828
      replace hW743 := hW743.le hf828
      replace hW746 := hW746.le hf828
      replace hW749 := hW749.le hf828
      replace hW757 := hW757.le hf828
      replace hR767 := hR767.le hf828
      replace hW768 := hW768.le hf828
      replace hW771 := hW771.le hf828
      replace hW774 := hW774.le hf828
      replace hW823 := hW823.le hf828
      replace hle := hle.trans hf828
      replace hbase704 := hbase704.trans hf828
      replace hbase794 := hbase794.trans hf828
      refine za0 <| hK20 <| Wq fun hK21 => sM (v := .pointer (some ⟨pb0, 0, none⟩)) hs rfl fun hs => ?_
      obtain ⟨x842, hx843, hm⟩ := ob hm
      replace hs := hs.front 3
      replace hs := hs.front 3
      replace hs := hs.front 3
      replace hs := hs.front 3
      refine zbx (Lr := [.blk pb0 (.cells #[.pointer (some ⟨pv0_0, 0, none⟩), v836] 68 (0, 0)), .blk pv0_0 (.cells #[v833, .int .i64 (x825.2.c.at_)] 98 (0, 0)), .row v833 21 1 rw834, .row v836 56 5 rw837]) (Lf := .row v755 21 1 rw756 :: .blk b481 (.cells #[.int .i64 (p1), .string (y482), .string ((bs [])), v485, .bool (y716)] 56 (0, 0)) :: .row v485 84 2 rw486 :: .blk b491 (.cells #[.string (x759), .string ((bs []))] 84 (0, 0)) :: .blk b7 (.cells #[.int .i64 (0), .string ((bs [])), .string ((bs [])), (.slice none 0 0), .bool (false)] 56 (0, 0)) :: L) hs rfl has71 rfl rfl (zmd n (f := f827) (p0 := x825.2) (pb0 := pb0) (pv0_0 := pv0_0) (pv0_1 := v833) (pv0_1r := rw834) (pv0_2 := v836) (pv0_2r := rw837) hW835 hW838 hx843) (.free rfl) (by decide) ?_; clear hs; (try clear a w)
      rintro _ f844 _ a w hf845 ⟨v846, rw847, v849, rw850, rfl, rfl, hW848, hW851⟩ hs
      replace pv0_1h := pv0_1h.le hf845
      replace pv0_2h := pv0_2h.le hf845
      replace hW472 := hW472.le hf845
      replace hW478 := hW478.le hf845
      replace hW487 := hW487.le hf845
      replace hW713 := hW713.le hf845
      replace hW724 := hW724.le hf845
      replace hW732 := hW732.le hf845
      replace hR742 := hR742.le hf845
      replace hW743 := hW743.le hf845
      replace hW746 := hW746.le hf845
      replace hW749 := hW749.le hf845
      replace hW757 := hW757.le hf845
      replace hR767 := hR767.le hf845
      replace hW768 := hW768.le hf845
      replace hW771 := hW771.le hf845
      replace hW774 := hW774.le hf845
      replace hW823 := hW823.le hf845
      replace hR831 := hR831.le hf845
      replace hW832 := hW832.le hf845
      replace hW835 := hW835.le hf845
      replace hW838 := hW838.le hf845
      replace hle := hle.trans hf845
      replace hbase704 := hbase704.trans hf845
      replace hbase794 := hbase794.trans hf845
      refine sM (v := .tuple #[.string (x842.1), .bool (x842.2.1)]) hs rfl fun hs => s1 (v := .string (x842.1)) hs (zar rfl rfl) fun hs => s1 (v := .bool (x842.2.1)) hs (zar rfl rfl) fun hs => s1 (v := .pointer (some ⟨b491, 1, none⟩)) hs (za1 rfl (FO.of (off := 1) Try.underlying84 rfl rfl ti9 (by decide))) fun hs => sstore 7 hs rfl rfl rfl ti9 rfl fun _ _ hs => sA (v := .bool (x842.2.1)) hs rfl fun hs => za0 <| hK21 <| Ws fun hK22 => Ws fun hK23 => ?_
      refine za7 <| sM (v := .bool (x842.2.1)) hs rfl fun hs => s1 (v := .bool ((!x842.2.1))) hs (zj8 rfl) fun hs => za0 <| hK23 ?_
      refine zaf hs rfl (fun hg854 => ?_) (fun hg854 => ?_)
      ·replace hm := oc_t hg854 hm
       refine Wq fun hK24 => s1 hs (zk8 rfl Try.underlying56 rfl ti56 (.tail _ (.tail _ (.tail _ (.tail _ (.tail _ (.head _)))))) rfl) fun hs => zat (i := 8) hs rfl rfl rfl ti56 ⟨rfl, rfl⟩ (AllC.arr (r := [.int .i64 (p1), .string (y482), .string ((bs [])), v485, .bool (y716)]) ⟨rfl, rfl, rfl, (hs.one (i := 6) rfl), rfl, trivial⟩) (.free rfl) fun _ _ hs => sA (v := .bool (false)) hs rfl fun hs => za0 <| hK24 <| zau ?_
       obtain ⟨f855, hf856, hs2, hR857⟩ := hs.frzAt 6 rfl
       clear hs; have hs := hs2; clear hs2
       replace hW487 := hW487.le hf856
       replace hW732 := hW732.le hf856
       replace hR742 := hR742.le hf856
       replace hW743 := hW743.le hf856
       replace hW757 := hW757.le hf856
       replace hR767 := hR767.le hf856
       replace hW768 := hW768.le hf856
       replace hR831 := hR831.le hf856
       replace hW832 := hW832.le hf856
       replace hW848 := hW848.le hf856
       replace hW851 := hW851.le hf856
       replace hle := hle.trans hf856
       replace hbase704 := hbase704.trans hf856
       replace hbase794 := hbase794.trans hf856
       obtain rfl := Option.some.inj hm
       refine RtV2 hs rfl (rv_a hs rfl Try.underlying56 rfl ti56 (fun j u hj => Cell.blk (.tail _ (.tail _ (.tail _ (.tail _ (.tail _ (.tail _ (.tail _ (.head _)))))))) hj) rfl) (rv_t hs rfl) ?_
       exact ⟨_, f855, [.blk pb0 (.cells #[.pointer (some ⟨pv0_0, 0, none⟩), v849] 68 (0, 0)), .blk pv0_0 (.cells #[v846, .int .i64 (x842.2.2.c.at_)] 98 (0, 0)), .row v846 21 1 rw847, .row v849 56 5 rw850], rfl, hle, (hs.subL (.cons_cons _ (.cons_cons _ (.cons_cons _ (.cons_cons _ (.cons _ (.cons _ (.cons _ (.cons _ (.refl _)))))))))).cw, [.int .i64 (p1), .string (y482), .string ((bs [])), v485, .bool (y716)], v846, rw847, v849, rw850, rfl, rfl, ⟨_, rfl, ⟨rw486, hR857, hW487⟩⟩, hW848, hW851⟩
      replace hm := oc_f hg854 hm
      refine zah <| hK22 <| za7 <| s1 (v := .pointer (some ⟨b491, 1, none⟩)) hs (za1 rfl (FO.of (off := 1) Try.underlying84 rfl rfl ti9 (by decide))) fun hs => s1 (v := .string (x842.1)) hs (y_ld rfl Try.underlying9 rfl (Cell.blk (.tail _ (.tail _ (.tail _ (.tail _ (.tail _ (.tail _ (.tail _ (.head _)))))))) rfl)) fun hs => ?_
      obtain ⟨x858, hx859, hm⟩ := ob hm
      refine s1 hs (zbd rfl has35 rfl (zlf n (f := f844)  hx859)) fun hs => s1 (v := .pointer (some ⟨b491, 1, none⟩)) hs (za1 rfl (FO.of (off := 1) Try.underlying84 rfl rfl ti9 (by decide))) fun hs => sstore 7 hs rfl rfl rfl ti9 rfl fun _ _ hs => za0 ?_
      exact ⟨_, x842.2.2.c.l, x842.2.2.c.at_, x842.2.2.out, x858, v846, rw847, v849, rw850, hbase794, hm, hW848, hW851, hs.subs ⟨rfl, rfl, rfl, rfl, rfl, trivial⟩ (.cons_cons _ (.cons_cons _ (.cons_cons _ (.cons_cons _ (.cons _ (.cons_cons _ (.cons_cons _ (.cons_cons _ (.cons_cons _ (.refl _))))))))))⟩
     replace hm := oc_f hg816 hm
     refine zah ?_
     exact ⟨_, x761.2.c.l, x761.2.c.at_, x761.2.out, (bs []), v769, rw770, v772, rw773, (Fz.le.refl _), hm, hW771, hW774, hs.subs ⟨rfl, rfl, rfl, rfl, rfl, trivial⟩ (.cons_cons _ (.cons_cons _ (.cons_cons _ (.cons_cons _ (.cons _ (.cons_cons _ (.cons_cons _ (.cons_cons _ (.cons_cons _ (.refl _))))))))))⟩
    refine zam fun Qe25 hB25 hO25 => ?_
    have hbase := Fz.le.refl f467
    refine zcw (fun (k : Nat) a w => ∃ (f860 : Fz) (y862 : (List Int)) (y867 : Int) (y868 : Bool) (y869 : Int) (v863 : Value) (rw864 : List (List Value)), Fz.le f467 f860 ∧ zbl n p1 y475 y482 y484 (zav n p1 k705) (zbh n p1 k705) k y862 y867 y868 y869 = some res ∧ RW (tInt .i32) f860 rw864 y862 ∧ St 104 w0 f860 (.blk b481 (.cells #[.int .i64 (p1), .string (y482), .string ((bs [])), v485, .bool (y868)] 56 (0, 0)) :: .row v485 84 2 rw486 :: .blk b491 (.cells #[.string (y492.Name), .string (y492.Value)] 84 (0, 0)) :: .blk b7 (.cells #[.int .i64 (0), .string ((bs [])), .string ((bs [])), (.slice none 0 0), .bool (false)] 56 (0, 0)) :: .blk pb0 (.cells #[.pointer (some ⟨pv0_0, 0, none⟩), v476] 68 (0, 0)) :: .blk pv0_0 (.cells #[v863, .int .i64 (y867)] 98 (0, 0)) :: .row v863 21 1 rw864 :: .row v476 56 5 rw477 :: L) [(0, .pointer (some ⟨pb0, 0, none⟩)), (1, .int .i64 (p1)), (4, .pointer (some ⟨b7, 0, none⟩)), (6, .pointer (some ⟨b481, 0, none⟩)), (7, .pointer (some ⟨b491, 0, none⟩)), (10, .int .i32 (y869))] a w) (fun k => k) n ⟨_, y469, y474, false, x706, v470, rw471, (Fz.le.refl _), hm, hW472, hs.sub ⟨rfl, rfl, rfl, rfl, rfl, rfl, trivial⟩⟩ ?_
    clear hs hm
    intro k
    rintro a w ⟨f860, y862, y867, y868, y869, v863, rw864, hl861, hm, hW865, hs⟩
    replace pv0_1h := pv0_1h.le hl861
    replace pv0_2h := pv0_2h.le hl861
    replace hW472 := hW472.le hl861
    replace hW478 := hW478.le hl861
    replace hW487 := hW487.le hl861
    replace hle := hle.trans hl861
    replace hbase704 := hbase704.trans hl861
    replace hbase717 := hbase717.trans hl861
    intro K26 hK26
    cases k with
    | zero => simp [zbl] at hm
    | succ k870 =>
     rw [zbl] at hm
     have hbase871 := hl861
     refine Ws fun hK27 => Ws fun hK28 => ?_
     refine zai (fun a w => ∃ (y872 : Bool), zdq n p1 y475 y482 y484 (zav n p1 k705) (zbh n p1 k705) y862 y867 y868 y869 (zbl n p1 y475 y482 y484 (zav n p1 k705) (zbh n p1 k705) k870) y872 = some res ∧ St 104 w0 f860 (.blk b481 (.cells #[.int .i64 (p1), .string (y482), .string ((bs [])), v485, .bool (y868)] 56 (0, 0)) :: .row v485 84 2 rw486 :: .blk b491 (.cells #[.string (y492.Name), .string (y492.Value)] 84 (0, 0)) :: .blk b7 (.cells #[.int .i64 (0), .string ((bs [])), .string ((bs [])), (.slice none 0 0), .bool (false)] 56 (0, 0)) :: .blk pb0 (.cells #[.pointer (some ⟨pv0_0, 0, none⟩), v476] 68 (0, 0)) :: .blk pv0_0 (.cells #[v863, .int .i64 (y867)] 98 (0, 0)) :: .row v863 21 1 rw864 :: .row v476 56 5 rw477 :: L) [(0, .pointer (some ⟨pb0, 0, none⟩)), (1, .int .i64 (p1)), (4, .pointer (some ⟨b7, 0, none⟩)), (6, .pointer (some ⟨b481, 0, none⟩)), (7, .pointer (some ⟨b491, 0, none⟩)), (10, .int .i32 (y869)), (25, .bool (y872))] a w) ?_ ?_
     ·clear hs hm
      rintro a w ⟨y872, hm, hs⟩
      unfold zdq at hm
      refine hK28 ?_
      refine zaf hs rfl (fun hg873 => ?_) (fun hg873 => ?_)
      ·replace hm := oc_t hg873 hm
       refine zah <| hK27 <| Ws fun hK29 => zam fun Qe30 hB30 hO30 => Wq fun hK31 => sM (v := .int .i32 (y869)) hs rfl fun hs => s1 hs (zd3 rfl rfl) fun hs => s1 (v := .pointer (some ⟨b481, 4, none⟩)) hs (za1 rfl (FO.of (off := 4) Try.underlying56 rfl rfl ti4 (by decide))) fun hs => sstore 0 hs rfl rfl rfl ti4 rfl fun _ _ hs => ?_
       refine za0 <| hK31 <| za7 <| sM (v := .pointer (some ⟨pb0, 0, none⟩)) hs rfl fun hs => s1 hs (zab rfl) fun hs => s1 (v := .pointer (some ⟨pb0, 0, none⟩)) hs (za1 rfl (FO.of (off := 0) Try.underlying68 rfl rfl ti65 (by decide))) fun hs => s1 (v := .pointer (some ⟨pv0_0, 0, none⟩)) hs (y_ld rfl Try.underlying65 rfl (Cell.blk (.tail _ (.tail _ (.tail _ (.tail _ (.head _))))) rfl)) fun hs => ?_
       obtain ⟨x874, hx875, hm⟩ := ob hm
       replace hs := hs.front 6
       replace hs := hs.front 6
       refine zbx (Lr := [.blk pv0_0 (.cells #[v863, .int .i64 (y867)] 98 (0, 0)), .row v863 21 1 rw864]) (Lf := .blk b481 (.cells #[.int .i64 (p1), .string (y482), .string ((bs [])), v485, .bool (decide (y869 = 47))] 56 (0, 0)) :: .row v485 84 2 rw486 :: .blk b491 (.cells #[.string (y492.Name), .string (y492.Value)] 84 (0, 0)) :: .blk b7 (.cells #[.int .i64 (0), .string ((bs [])), .string ((bs [])), (.slice none 0 0), .bool (false)] 56 (0, 0)) :: .blk pb0 (.cells #[.pointer (some ⟨pv0_0, 0, none⟩), v476] 68 (0, 0)) :: .row v476 56 5 rw477 :: L) hs rfl has34 rfl rfl (zao n (f := f860) (p0 := ({l := y862, at_ := y867} : za4)) (pb0 := pv0_0) (pv0_0 := v863) (pv0_0r := rw864) hW865 hx875) (.free rfl) (by decide) ?_; clear hs; (try clear a w)
       rintro _ f876 _ a w hf877 ⟨v878, rw879, rfl, rfl, hW880⟩ hs
       replace pv0_1h := pv0_1h.le hf877
       replace pv0_2h := pv0_2h.le hf877
       replace hW472 := hW472.le hf877
       replace hW478 := hW478.le hf877
       replace hW487 := hW487.le hf877
       replace hW865 := hW865.le hf877
       replace hle := hle.trans hf877
       replace hbase704 := hbase704.trans hf877
       replace hbase717 := hbase717.trans hf877
       replace hbase871 := hbase871.trans hf877
       refine za0 <| hK29 <| za7 <| sM (v := .pointer (some ⟨pb0, 0, none⟩)) hs rfl fun hs => ?_
       obtain ⟨x882, hx883, hm⟩ := ob hm
       refine s1 hs (zeg (cap := []) (Lf := .blk b481 (.cells #[.int .i64 (p1), .string (y482), .string ((bs [])), v485, .bool (decide (y869 = 47))] 56 (0, 0)) :: .row v485 84 2 rw486 :: .blk b491 (.cells #[.string (y492.Name), .string (y492.Value)] 84 (0, 0)) :: .blk b7 (.cells #[.int .i64 (0), .string ((bs [])), .string ((bs [])), (.slice none 0 0), .bool (false)] 56 (0, 0)) :: L) rfl has30 rfl ((((zag _ 7 rfl).trans (zag _ 2 rfl)).trans (zag _ 2 rfl)).trans (zag _ 7 rfl)) (zco n (f := f876) (p0 := ({c := x874.2.2, out := y475} : za3)) (pb0 := pb0) (pv0_0 := pv0_0) (pv0_1 := v878) (pv0_1r := rw879) (pv0_2 := v476) (pv0_2r := rw477) (p1 := 0) hW880 hW478 hx883)) fun hs => sA (v := .int .i32 (x882)) hs rfl fun hs => za0 ?_
       replace hs := hs.front 7
       replace hs := hs.front 2
       replace hs := hs.front 2
       replace hs := hs.front 7
       replace hs := hs.front 7
       replace hs := hs.front 7
       replace hs := hs.front 7
       replace hs := hs.front 7
       exact hK26 k870 _ _ (Nat.lt_succ_self _) ⟨_, x874.2.2.l, x874.2.2.at_, decide (y869 = 47), x882, v878, rw879, hbase871, hm, hW880, hs.sub ⟨rfl, rfl, rfl, rfl, rfl, rfl, trivial⟩⟩
      replace hm := oc_f hg873 hm
      refine zc9 <| hB25 _ _ ?_
      exact ⟨_, y862, y867, y868, v863, rw864, hbase717, hm, hW865, hs.sub ⟨rfl, rfl, rfl, rfl, rfl, trivial⟩⟩
     refine za7 <| sM (v := .int .i32 (y869)) hs rfl fun hs => ?_
     obtain ⟨x884, hx885, hm⟩ := ob hm
     refine s1 hs (zbd rfl has69 rfl (zgc n (f := f860)  hx885)) fun hs => sM (v := .bool (x884)) hs rfl fun hs => ?_
     refine St.split hs (t := 22) rfl (fun hg886 hs => ?_) (fun hg886 hs => ?_)
     ·replace hm := oc_t hg886 hm
      refine s3 hs fun hs => s3 hs fun hs => sP (v := .bool (true)) hs rfl rfl fun hs => za0 ?_
      exact ⟨true, hm, hs.sub ⟨rfl, rfl, rfl, rfl, rfl, rfl, rfl, trivial⟩⟩
     replace hm := oc_f hg886 hm
     refine s2 (v := .int .i32 (y869)) hs (zaa rfl) fun hs => s2 hs (zd3 rfl rfl) fun hs => sP (v := .bool (decide (y869 = 47))) hs rfl rfl fun hs => za0 ?_
     exact ⟨decide (y869 = 47), hm, hs.sub ⟨rfl, rfl, rfl, rfl, rfl, rfl, rfl, trivial⟩⟩
  cases hl; revert a w
  rintro a w ⟨f495, y499, y501, y506, y507, y512, y513, b498, v502, rw503, v508, rw509, v514, rw515, hl496, hm, hW504, hW510, hW516, hs⟩
  replace pv0_1h := pv0_1h.le hl496
  replace pv0_2h := pv0_2h.le hl496
  replace hle := hle.trans hl496
  have hbase704 := hl496
  cases k with
  | zero => simp [zbh] at hm
  | succ k887 =>
   rw [zbh] at hm
   refine Ws fun hK32 => Wq fun hK33 => sM (v := .int .i64 (p1)) hs rfl fun hs => s1 hs (zd3 rfl rfl) fun hs => za0 <| hK33 ?_
   refine zaf hs rfl (fun hg888 => ?_) (fun hg888 => ?_)
   ·replace hm := oc_t hg888 hm
    refine Wq fun hK34 => s1 (v := .pointer (some ⟨b498, 1, none⟩)) hs (za1 rfl (FO.of (off := 1) Try.underlying56 rfl rfl ti9 (by decide))) fun hs => s1 (v := .string (y499)) hs (y_ld rfl Try.underlying9 rfl (Cell.blk (.head _) rfl)) fun hs => s1 hs (zes (places := [(0, 1), (1, 1), (2, 1), (3, 1), (4, 1)]) (cs := [.int .i64 (3), .string (y499), .string ((bs [])), (.slice none 0 0), .bool (false)]) rfl Try.underlying56 ti56 (by kernel_rfl) (by decide) rfl ⟨rfl, rfl, trivial⟩) fun hs => zat (i := 2) hs rfl rfl rfl ti56 ⟨rfl, rfl⟩ (AllC.arr (r := [.int .i64 (3), .string (y499), .string ((bs [])), (.slice none 0 0), .bool (false)]) ⟨rfl, rfl, rfl, rfl, rfl, trivial⟩) (.free rfl) fun _ _ hs => sA (v := .bool (true)) hs rfl fun hs => za0 <| hK34 <| zau ?_
    obtain rfl := Option.some.inj hm
    refine RtV2 hs rfl (rv_a hs rfl Try.underlying56 rfl ti56 (fun j u hj => Cell.blk (.tail _ (.tail _ (.head _))) hj) rfl) (rv_t hs rfl) ?_
    exact ⟨_, f495, [.blk pb0 (.cells #[.pointer (some ⟨pv0_0, 0, none⟩), v514] 68 (0, 0)), .blk pv0_0 (.cells #[v508, .int .i64 (y512)] 98 (0, 0)), .row v508 21 1 rw509, .row v514 56 5 rw515], rfl, hle, (hs.subL (.cons _ (.cons _ (.cons _ (.cons_cons _ (.cons_cons _ (.cons_cons _ (.cons_cons _ (.refl _))))))))).cw, [.int .i64 (3), .string (y499), .string ((bs [])), (.slice none 0 0), .bool (false)], v508, rw509, v514, rw515, rfl, rfl, ⟨_, rfl, RS.nil⟩, hW510, hW516⟩
   replace hm := oc_f hg888 hm
   refine zah <| hK32 <| Wq fun hK35 => s1 hs (zk8 rfl Try.underlying56 rfl ti56 (.head _) rfl) fun hs => zat (i := 2) hs rfl rfl rfl ti56 ⟨rfl, rfl⟩ (AllC.arr (r := [.int .i64 (p1), .string (y499), .string ((bs [])), v502, .bool (y506)]) ⟨rfl, rfl, rfl, (hs.one (i := 1) rfl), rfl, trivial⟩) (.free rfl) fun _ _ hs => sA (v := .bool (true)) hs rfl fun hs => za0 <| hK35 <| zau ?_
   obtain ⟨f890, hf891, hs2, hR892⟩ := hs.frzAt 1 rfl
   clear hs; have hs := hs2; clear hs2
   replace hW504 := hW504.le hf891
   replace hW510 := hW510.le hf891
   replace hW516 := hW516.le hf891
   replace hle := hle.trans hf891
   replace hbase704 := hbase704.trans hf891
   obtain rfl := Option.some.inj hm
   refine RtV2 hs rfl (rv_a hs rfl Try.underlying56 rfl ti56 (fun j u hj => Cell.blk (.tail _ (.head _)) hj) rfl) (rv_t hs rfl) ?_
   exact ⟨_, f890, [.blk pb0 (.cells #[.pointer (some ⟨pv0_0, 0, none⟩), v514] 68 (0, 0)), .blk pv0_0 (.cells #[v508, .int .i64 (y512)] 98 (0, 0)), .row v508 21 1 rw509, .row v514 56 5 rw515], rfl, hle, (hs.subL (.cons _ (.cons _ (.cons_cons _ (.cons_cons _ (.cons_cons _ (.cons_cons _ (.refl _)))))))).cw, [.int .i64 (p1), .string (y499), .string ((bs [])), v502, .bool (y506)], v508, rw509, v514, rw515, rfl, rfl, ⟨_, rfl, ⟨rw503, hR892, hW504⟩⟩, hW510, hW516⟩
 intro hB2g G2 hG2
 refine Wq fun hK36 => sM (v := .int .i64 (p1)) hs rfl fun hs => s1 hs (zes (places := [(0, 1), (1, 1), (2, 1), (3, 1), (4, 1)]) (cs := [.int .i64 (p1), .string ((bs [])), .string ((bs [])), (.slice none 0 0), .bool (false)]) rfl Try.underlying56 ti56 (by kernel_rfl) (by decide) rfl ⟨rfl, trivial⟩) fun hs => zbt hs ti56 (.free rfl) (by decide) fun b894 _ _ hs => zat (i := 0) hs rfl rfl rfl ti56 ⟨rfl, rfl⟩ (AllC.arr (r := [.int .i64 (p1), .string ((bs [])), .string ((bs [])), (.slice none 0 0), .bool (false)]) ⟨rfl, rfl, rfl, rfl, rfl, trivial⟩) (.free rfl) fun _ _ hs => za0 <| hK36 <| Ws fun hK37 => za7 ?_
 refine zbt hs ti84 (.free rfl) (by decide) fun b897 _ _ hs => za0 <| hK37 <| Wq fun hK38 => sA (v := .int .i32 (0)) hs rfl fun hs => za0 <| hK38 <| Ws fun hK39 => za7 ?_
 refine sA (v := .bool (false)) hs rfl fun hs => za0 <| hK39 <| Wq fun hK40 => sM (v := .pointer (some ⟨pb0, 0, none⟩)) hs rfl fun hs => ?_
 obtain ⟨x899, hx900, hm⟩ := ob hm
 replace hs := hs.front 6
 replace hs := hs.front 6
 replace hs := hs.front 6
 replace hs := hs.front 6
 refine zbx (Lr := [.blk pb0 (.cells #[.pointer (some ⟨pv0_0, 0, none⟩), pv0_2] 68 (0, 0)), .blk pv0_0 (.cells #[pv0_1, .int .i64 (p0.c.at_)] 98 (0, 0)), .row pv0_1 21 1 pv0_1r, .row pv0_2 56 5 pv0_2r]) (Lf := .blk b897 (.cells #[.string ((bs [])), .string ((bs []))] 84 (0, 0)) :: .blk b894 (.cells #[.int .i64 (p1), .string ((bs [])), .string ((bs [])), (.slice none 0 0), .bool (false)] 56 (0, 0)) :: .blk b7 (.cells #[.int .i64 (0), .string ((bs [])), .string ((bs [])), (.slice none 0 0), .bool (false)] 56 (0, 0)) :: L) hs rfl has67 rfl rfl (zdu n (f := f) (p0 := p0) (pb0 := pb0) (pv0_0 := pv0_0) (pv0_1 := pv0_1) (pv0_1r := pv0_1r) (pv0_2 := pv0_2) (pv0_2r := pv0_2r) (g1 := 68) (cap1 := []) pv0_1h pv0_2h has68 (fun f9 hle9 z0 r9  h9 => zmf n (f := f9)   h9) hx900) (.free rfl) (by decide) ?_; clear hs; (try clear a w)
 rintro v903 f901 _ a w hf902 ⟨_, v907, rw908, v910, rw911, rfl, rfl, ⟨rw904, hR905, hW906⟩, hW909, hW912⟩ hs
 replace pv0_1h := pv0_1h.le hf902
 replace pv0_2h := pv0_2h.le hf902
 replace hle := hle.trans hf902
 replace hbase704 := hbase704.trans hf902
 obtain ⟨x916, hx917, hm⟩ := ob hm
 refine s1 hs (zbd rfl has66 rfl (zjk n (f := f901) (a0 := v903) ⟨rw904, hR905, hW906⟩ hx917)) fun hs => s1 (v := .pointer (some ⟨b894, 1, none⟩)) hs (za1 rfl (FO.of (off := 1) Try.underlying56 rfl rfl ti9 (by decide))) fun hs => sstore 5 hs rfl rfl rfl ti9 rfl fun _ _ hs => za0 <| hK40 ?_
 replace hs := hs.nilRow 84 2
 have hW918 : RW zcb f901 [] ([] : List za9) := trivial
 generalize hgrw919 : ([] : List (List Value)) = rw919 at hs hW918; clear hgrw919
 replace hs := hs.front 4
 replace hs := hs.front 4
 replace hs := hs.front 4
 replace hs := hs.front 4
 replace hs := hs.front 7
 replace hs := hs.front 6
 replace hs := hs.front 6
 replace hs := hs.front 7
 exact (hB2g n).into (l := 0) rfl (.inl ⟨rfl, ⟨_, x899.2.c.l, x899.2.c.at_, x899.2.out, x916, ([] : List za9), false, ({Name := (bs []), Value := (bs [])} : za9), v907, rw908, v910, rw911, b894, (.slice none 0 0), rw919, b897, [.string ((bs [])), .string ((bs []))], hbase704, hm, hW909, hW912, hW918, rfl, hs.sub ⟨rfl, rfl, rfl, rfl, rfl, trivial⟩⟩⟩) hG2 (fun l a w k'' _ hJ => ⟨k'', hJ⟩)
def zfy (n : Nat) (y828 : (List Int)) (y833 : Int) (y835 : (List za5)) (y842 : za5) (lg1205_3 : (List Int) → Int → (List za5) → za5 → Option (List za5)) (lg1205_2 : (List Int) → Int → (List za5) → za5 → Option (List za5)) (y1225 : Bool) : Option (List za5) :=
  (bif y1225 then lg1205_2 y828 y833 y835 y842 else
  (zee n ({c := ({l := y828, at_ := y833} : za4), out := y835} : za3) 0 (bs [60, 33, 45, 45])).bind fun x1227 =>
  (bif x1227 then (zg3 n ({c := ({l := y828, at_ := y833} : za4), out := y835} : za3)).bind fun x1230 =>
  (zfg n x1230 (bs [45, 45, 62])).bind fun x1242 =>
  lg1205_3 x1242.c.l x1242.c.at_ x1242.out y842 else
  (zfg n ({c := ({l := y828, at_ := y833} : za4), out := y835} : za3) (bs [62])).bind fun x1254 =>
  lg1205_3 x1254.c.l x1254.c.at_ x1254.out y842))
def zht (n : Nat) (y859 : (List za5)) (y866 : za5) (lg1273_3 : (List Int) → Int → (List za5) → za5 → Option (List za5)) (y1282 : (List Int)) (y1287 : Int) (y1289 : (List Int)) : Option (List za5) :=
  (zgd n (textOf y1289)).bind fun x1296 =>
  (appM 72 y859 [({Kind := 1, Name := (bs []), Text := x1296, Attrs := ([] : List za9), Closed := false} : za5)]).bind fun x1305 =>
  lg1273_3 y1282 y1287 x1305 y866
def zgr (n : Nat) (y859 : (List za5)) (y866 : za5) (lg1273_3 : (List Int) → Int → (List za5) → za5 → Option (List za5)) (y1314 : (List Int)) (y1319 : Int) (y1321 : (List Int)) (lp1330 : (List Int) → Int → (List Int) → Option (List za5)) (y1332 : Bool) : Option (List za5) :=
  (bif y1332 then (zaj n ({l := y1314, at_ := y1319} : za4)).bind fun x1334 =>
  (appM 4 y1321 [x1334.1]).bind fun x1347 =>
  lp1330 x1334.2.2.l x1334.2.2.at_ x1347 else
  zht n y859 y866 lg1273_3 y1314 y1319 y1321)
def zdg (n : Nat) (y859 : (List za5)) (y866 : za5) (lg1273_3 : (List Int) → Int → (List za5) → za5 → Option (List za5)) : Nat → (List Int) → Int → (List Int) → Option (List za5)
  | 0, _, _, _ => none
  | k1330 + 1, y1314, y1319, y1321 =>
  (zbc n ({l := y1314, at_ := y1319} : za4)).bind fun x1353 =>
  (bif (decide (0 < x1353)) then (zel n ({c := ({l := y1314, at_ := y1319} : za4), out := y859} : za3)).bind fun x1356 =>
  zgr n y859 y866 lg1273_3 y1314 y1319 y1321 (zdg n y859 y866 lg1273_3 k1330) (!x1356) else
  zgr n y859 y866 lg1273_3 y1314 y1319 y1321 (zdg n y859 y866 lg1273_3 k1330) false)
def zgq (lg1358_3 : (List Int) → Int → (List za5) → za5 → Option (List za5)) (x1372 : (za5 × Bool × za3)) (y1411 : (List Int)) (y1416 : Int) (y1417 : (List za5)) : Option (List za5) :=
  lg1358_3 y1411 y1416 y1417 x1372.1
mutual
def zay (n : Nat) : Nat → (List Int) → Int → (List za5) → za5 → Option (List za5)
  | 0, _, _, _, _ => none
  | k1205 + 1, y828, y833, y835, y842 =>
  (zbc n ({l := y828, at_ := y833} : za4)).bind fun x1211 =>
  (bif (decide (x1211 = 0)) then some y835 else
  (zel n ({c := ({l := y828, at_ := y833} : za4), out := y835} : za3)).bind fun x1217 =>
  (bif (!x1217) then (zgn n k1205) y828 y833 y835 y842 else
  (zbu n ({c := ({l := y828, at_ := y833} : za4), out := y835} : za3) 1).bind fun x1220 =>
  (zi2 n x1220).bind fun x1222 =>
  (bif x1222 then (zgm n k1205) y828 y833 y835 y842 else
  (zbu n ({c := ({l := y828, at_ := y833} : za4), out := y835} : za3) 1).bind fun x1266 =>
  (bif (decide (x1266 = 47)) then (zbu n ({c := ({l := y828, at_ := y833} : za4), out := y835} : za3) 2).bind fun x1269 =>
  (zi2 n x1269).bind fun x1271 =>
  zfy n y828 y833 y835 y842 (zay n k1205) (zdy n k1205) x1271 else
  zfy n y828 y833 y835 y842 (zay n k1205) (zdy n k1205) false))))
def zgn (n : Nat) : Nat → (List Int) → Int → (List za5) → za5 → Option (List za5)
  | 0, _, _, _, _ => none
  | k1273 + 1, y852, y857, y859, y866 =>
  zdg n y859 y866 (zay n k1273) n y852 y857 ([] : List Int)
def zgm (n : Nat) : Nat → (List Int) → Int → (List za5) → za5 → Option (List za5)
  | 0, _, _, _, _ => none
  | k1358 + 1, y876, y881, y883, y890 =>
  (zaj n ({l := y876, at_ := y881} : za4)).bind fun x1364 =>
  (zg2 n ({c := x1364.2.2, out := y883} : za3) 2).bind fun x1372 =>
  (bif (!x1372.2.1) then some x1372.2.2.out else
  (appM 72 x1372.2.2.out [x1372.1]).bind fun x1402 =>
  (bif ((decide (x1372.1.Name = (bs [115, 116, 121, 108, 101]))) || (decide (x1372.1.Name = (bs [115, 99, 114, 105, 112, 116])))) then (zh6 n ({c := x1372.2.2.c, out := x1402} : za3) x1372.1.Name).bind fun x1424 =>
  zgq (zay n k1358) x1372 x1424.c.l x1424.c.at_ x1424.out else
  zgq (zay n k1358) x1372 x1372.2.2.c.l x1372.2.2.c.at_ x1402))
def zdy (n : Nat) : Nat → (List Int) → Int → (List za5) → za5 → Option (List za5)
  | 0, _, _, _, _ => none
  | k1437 + 1, y900, y905, y907, y914 =>
  (zaj n ({l := y900, at_ := y905} : za4)).bind fun x1443 =>
  (zaj n x1443.2.2).bind fun x1451 =>
  (zg2 n ({c := x1451.2.2, out := y907} : za3) 3).bind fun x1459 =>
  (bif (!x1459.2.1) then some x1459.2.2.out else
  (appM 72 x1459.2.2.out [x1459.1]).bind fun x1489 =>
  (zay n k1437) x1459.2.2.c.l x1459.2.2.c.at_ x1489 x1459.1)
end
def zjx (n : Nat) (p0 : (List Int)) : Option (List za5) :=
  (zia n p0).bind fun x1496 =>
  zay n n x1496.l x1496.at_ ([] : List za5) ({Kind := 0, Name := (bs []), Text := (bs []), Attrs := ([] : List za9), Closed := false} : za5)
theorem zq9 (n : Nat) {f : Fz} {p0 : (List Int)} {a0 : Value} {res : (List za5)} (h0 : RS (tInt .i32) f a0 p0) (hm : zjx n p0 = some res) : Does Try.prog 15 [a0] f [] (fun r f' L' => ∃ (u0 : Value), L' = [] ∧ r = u0 ∧ RS zap f' u0 res) := by
 unfold zjx at hm
 intro w0 L w hC
 obtain ⟨rw1, hR2, hW3⟩ := h0
 refine enter Try.func15 rfl Try.ntmps15 (by simp) hC fun a hs => ?_
 have hle := Fz.le.refl f
 refine Wq fun hK1 => sA (v := (.slice none 0 0)) hs rfl fun hs => za0 <| hK1 ?_
 have hbase1204 := Fz.le.refl f
 refine W_scopeS (fun (l k : Nat) a w => (l = 3 ∧ ∃ (f821 : Fz) (y828 : (List Int)) (y833 : Int) (y835 : (List za5)) (y842 : za5) (b824 : Nat) (b826 : Nat) (v829 : Value) (rw830 : List (List Value)) (v836 : Value) (rw837 : List (List Value)) (b841 : Nat) (r843 : List Value), Fz.le f f821 ∧ zay n k y828 y833 y835 y842 = some res ∧ RW (tInt .i32) f821 rw830 y828 ∧ RW zap f821 rw837 y835 ∧ zap.R f821 r843 y842 ∧ St 155 w0 f821 (.blk b824 (.cells #[.pointer (some ⟨b826, 0, none⟩), v836] 68 (0, 0)) :: .blk b826 (.cells #[v829, .int .i64 (y833)] 98 (0, 0)) :: .row v829 21 1 rw830 :: .row v836 56 5 rw837 :: .blk b841 (.cells r843.toArray 56 (0, 0)) :: L) [(3, .pointer (some ⟨b824, 0, none⟩)), (4, .pointer (some ⟨b841, 0, none⟩))] a w) ∨ (l = 0 ∧ ∃ (f845 : Fz) (y852 : (List Int)) (y857 : Int) (y859 : (List za5)) (y866 : za5) (b848 : Nat) (b850 : Nat) (v853 : Value) (rw854 : List (List Value)) (v860 : Value) (rw861 : List (List Value)) (b865 : Nat) (r867 : List Value), Fz.le f f845 ∧ zgn n k y852 y857 y859 y866 = some res ∧ RW (tInt .i32) f845 rw854 y852 ∧ RW zap f845 rw861 y859 ∧ zap.R f845 r867 y866 ∧ St 155 w0 f845 (.blk b848 (.cells #[.pointer (some ⟨b850, 0, none⟩), v860] 68 (0, 0)) :: .blk b850 (.cells #[v853, .int .i64 (y857)] 98 (0, 0)) :: .row v853 21 1 rw854 :: .row v860 56 5 rw861 :: .blk b865 (.cells r867.toArray 56 (0, 0)) :: L) [(3, .pointer (some ⟨b848, 0, none⟩)), (4, .pointer (some ⟨b865, 0, none⟩))] a w) ∨ (l = 1 ∧ ∃ (f869 : Fz) (y876 : (List Int)) (y881 : Int) (y883 : (List za5)) (y890 : za5) (b872 : Nat) (b874 : Nat) (v877 : Value) (rw878 : List (List Value)) (v884 : Value) (rw885 : List (List Value)) (b889 : Nat) (r891 : List Value), Fz.le f f869 ∧ zgm n k y876 y881 y883 y890 = some res ∧ RW (tInt .i32) f869 rw878 y876 ∧ RW zap f869 rw885 y883 ∧ zap.R f869 r891 y890 ∧ St 155 w0 f869 (.blk b872 (.cells #[.pointer (some ⟨b874, 0, none⟩), v884] 68 (0, 0)) :: .blk b874 (.cells #[v877, .int .i64 (y881)] 98 (0, 0)) :: .row v877 21 1 rw878 :: .row v884 56 5 rw885 :: .blk b889 (.cells r891.toArray 56 (0, 0)) :: L) [(3, .pointer (some ⟨b872, 0, none⟩)), (4, .pointer (some ⟨b889, 0, none⟩))] a w) ∨ (l = 2 ∧ ∃ (f893 : Fz) (y900 : (List Int)) (y905 : Int) (y907 : (List za5)) (y914 : za5) (b896 : Nat) (b898 : Nat) (v901 : Value) (rw902 : List (List Value)) (v908 : Value) (rw909 : List (List Value)) (b913 : Nat) (r915 : List Value), Fz.le f f893 ∧ zdy n k y900 y905 y907 y914 = some res ∧ RW (tInt .i32) f893 rw902 y900 ∧ RW zap f893 rw909 y907 ∧ zap.R f893 r915 y914 ∧ St 155 w0 f893 (.blk b896 (.cells #[.pointer (some ⟨b898, 0, none⟩), v908] 68 (0, 0)) :: .blk b898 (.cells #[v901, .int .i64 (y905)] 98 (0, 0)) :: .row v901 21 1 rw902 :: .row v908 56 5 rw909 :: .blk b913 (.cells r915.toArray 56 (0, 0)) :: L) [(3, .pointer (some ⟨b896, 0, none⟩)), (4, .pointer (some ⟨b913, 0, none⟩))] a w)) rfl ?_ ?_
 ·(try clear hs); (try clear hm)
  intro k ih l a w R hl hJ G2 hG2
  rcases hJ with ⟨rfl, hJ⟩ | ⟨rfl, hJ⟩ | ⟨rfl, hJ⟩ | ⟨rfl, hJ⟩
  ·cases hl; revert a w
   rintro a w ⟨f821, y828, y833, y835, y842, b824, b826, v829, rw830, v836, rw837, b841, r843, hl822, hm, hW831, hW838, hq844, hs⟩
   replace hR2 := hR2.le hl822
   replace hW3 := hW3.le hl822
   replace hle := hle.trans hl822
   obtain ⟨v1206, rfl, ⟨rw1207, hR1208, hW1209⟩⟩ := hq844
   have hbase1204 := hl822
   cases k with
   | zero => simp [zay] at hm
   | succ k1205 =>
    rw [zay] at hm
    refine Ws fun hK3 => zam fun Qe4 hB4 hO4 => Wq fun hK5 => sM (v := .pointer (some ⟨b824, 0, none⟩)) hs rfl fun hs => s1 hs (zab rfl) fun hs => s1 (v := .pointer (some ⟨b824, 0, none⟩)) hs (za1 rfl (FO.of (off := 0) Try.underlying68 rfl rfl ti65 (by decide))) fun hs => s1 (v := .pointer (some ⟨b826, 0, none⟩)) hs (y_ld rfl Try.underlying65 rfl (Cell.blk (.head _) rfl)) fun hs => ?_
    obtain ⟨x1211, hx1212, hm⟩ := ob hm
    refine s1 hs (zeg (cap := []) (Lf := .blk b824 (.cells #[.pointer (some ⟨b826, 0, none⟩), v836] 68 (0, 0)) :: .row v836 56 5 rw837 :: .blk b841 (.cells #[.int .i64 (y842.Kind), .string (y842.Name), .string (y842.Text), v1206, .bool (y842.Closed)] 56 (0, 0)) :: L) rfl has27 rfl ((zag _ 2 rfl).trans (zag _ 2 rfl)) (zcv n (f := f821) (p0 := ({l := y828, at_ := y833} : za4)) (pb0 := b826) (pv0_0 := v829) (pv0_0r := rw830) hW831 hx1212)) fun hs => s1 hs (zd3 rfl rfl) fun hs => sA (v := .bool (decide (x1211 = 0))) hs rfl fun hs => za0 <| hK5 ?_
    refine zaf hs rfl (fun hg1213 => ?_) (fun hg1213 => ?_)
    ·replace hm := oc_t hg1213 hm
     refine Wq fun hK6 => sM (v := .pointer (some ⟨b824, 0, none⟩)) hs rfl fun hs => s1 hs (zab rfl) fun hs => s1 (v := .pointer (some ⟨b824, 1, none⟩)) hs (za1 rfl (FO.of (off := 1) Try.underlying68 rfl rfl ti40 (by decide))) fun hs => s1 (v := v836) hs (y_ld rfl Try.underlying40 rfl (Cell.blk (.head _) rfl)) fun hs => sA (v := v836) hs rfl fun hs => za0 <| hK6 <| zau ?_
     obtain ⟨f1214, hf1215, hs2, hR1216⟩ := hs.frzAt 3 rfl
     clear hs; have hs := hs2; clear hs2
     replace hW831 := hW831.le hf1215
     replace hW838 := hW838.le hf1215
     replace hR1208 := hR1208.le hf1215
     replace hW1209 := hW1209.le hf1215
     replace hle := hle.trans hf1215
     replace hbase1204 := hbase1204.trans hf1215
     obtain rfl := Option.some.inj hm
     refine RtV1 hs rfl (rv_t hs rfl) ?_
     exact ⟨_, f1214, [], rfl, hle, (hs.subL (.cons _ (.cons _ (.cons _ (.cons _ (.refl _)))))).cw, v836, rfl, rfl, ⟨rw837, hR1216, hW838⟩⟩
    replace hm := oc_f hg1213 hm
    refine Wq fun hK7 => sM (v := .pointer (some ⟨b824, 0, none⟩)) hs rfl fun hs => ?_
    obtain ⟨x1217, hx1218, hm⟩ := ob hm
    refine s1 hs (zeg (cap := []) (Lf := .blk b841 (.cells #[.int .i64 (y842.Kind), .string (y842.Name), .string (y842.Text), v1206, .bool (y842.Closed)] 56 (0, 0)) :: L) rfl has28 rfl ((((zag _ 3 rfl).trans (zag _ 3 rfl)).trans (zag _ 3 rfl)).trans (zag _ 3 rfl)) (zj4 n (f := f821) (p0 := ({c := ({l := y828, at_ := y833} : za4), out := y835} : za3)) (pb0 := b824) (pv0_0 := b826) (pv0_1 := v829) (pv0_1r := rw830) (pv0_2 := v836) (pv0_2r := rw837) hW831 hW838 hx1218)) fun hs => s1 (v := .bool ((!x1217))) hs (zj8 rfl) fun hs => sA (v := .bool ((!x1217))) hs rfl fun hs => za0 <| hK7 ?_
    refine zaf hs rfl (fun hg1219 => ?_) (fun hg1219 => ?_)
    ·replace hm := oc_t hg1219 hm
     refine zms ?_
     exact hG2.at_ 0 _ _ rfl ⟨k1205, Nat.lt_succ_self _, (.inr (.inl ⟨rfl, ⟨_, y828, y833, y835, y842, b824, b826, v829, rw830, v836, rw837, b841, [.int .i64 (y842.Kind), .string (y842.Name), .string (y842.Text), v1206, .bool (y842.Closed)], hbase1204, hm, hW831, hW838, ⟨_, rfl, ⟨rw1207, hR1208, hW1209⟩⟩, hs.sub ⟨rfl, rfl, trivial⟩⟩⟩))⟩
    replace hm := oc_f hg1219 hm
    refine Wq fun hK8 => sM (v := .pointer (some ⟨b824, 0, none⟩)) hs rfl fun hs => ?_
    obtain ⟨x1220, hx1221, hm⟩ := ob hm
    refine s1 hs (zeg (cap := []) (Lf := .blk b841 (.cells #[.int .i64 (y842.Kind), .string (y842.Name), .string (y842.Text), v1206, .bool (y842.Closed)] 56 (0, 0)) :: L) rfl has30 rfl ((((zag _ 3 rfl).trans (zag _ 3 rfl)).trans (zag _ 3 rfl)).trans (zag _ 3 rfl)) (zco n (f := f821) (p0 := ({c := ({l := y828, at_ := y833} : za4), out := y835} : za3)) (pb0 := b824) (pv0_0 := b826) (pv0_1 := v829) (pv0_1r := rw830) (pv0_2 := v836) (pv0_2r := rw837) (p1 := 1) hW831 hW838 hx1221)) fun hs => ?_
    obtain ⟨x1222, hx1223, hm⟩ := ob hm
    refine s1 hs (zbd rfl has29 rfl (zkb n (f := f821)  hx1223)) fun hs => sA (v := .bool (x1222)) hs rfl fun hs => za0 <| hK8 ?_
    refine zaf hs rfl (fun hg1224 => ?_) (fun hg1224 => ?_)
    ·replace hm := oc_t hg1224 hm
     refine zms ?_
     exact hG2.at_ 1 _ _ rfl ⟨k1205, Nat.lt_succ_self _, (.inr (.inr (.inl ⟨rfl, ⟨_, y828, y833, y835, y842, b824, b826, v829, rw830, v836, rw837, b841, [.int .i64 (y842.Kind), .string (y842.Name), .string (y842.Text), v1206, .bool (y842.Closed)], hbase1204, hm, hW831, hW838, ⟨_, rfl, ⟨rw1207, hR1208, hW1209⟩⟩, hs.sub ⟨rfl, rfl, trivial⟩⟩⟩)))⟩
    replace hm := oc_f hg1224 hm
    refine Ws fun hK9 => ?_
    refine zai (fun a w => ∃ (y1225 : Bool), zfy n y828 y833 y835 y842 (zay n k1205) (zdy n k1205) y1225 = some res ∧ St 155 w0 f821 (.blk b824 (.cells #[.pointer (some ⟨b826, 0, none⟩), v836] 68 (0, 0)) :: .blk b826 (.cells #[v829, .int .i64 (y833)] 98 (0, 0)) :: .row v829 21 1 rw830 :: .row v836 56 5 rw837 :: .blk b841 (.cells #[.int .i64 (y842.Kind), .string (y842.Name), .string (y842.Text), v1206, .bool (y842.Closed)] 56 (0, 0)) :: L) [(3, .pointer (some ⟨b824, 0, none⟩)), (4, .pointer (some ⟨b841, 0, none⟩)), (32, .bool (y1225))] a w) ?_ ?_
    ·clear hs hm
     rintro a w ⟨y1225, hm, hs⟩
     unfold zfy at hm
     refine hK9 ?_
     refine zaf hs rfl (fun hg1226 => ?_) (fun hg1226 => ?_)
     ·replace hm := oc_t hg1226 hm
      refine zms ?_
      exact hG2.at_ 2 _ _ rfl ⟨k1205, Nat.lt_succ_self _, (.inr (.inr (.inr (⟨rfl, ⟨_, y828, y833, y835, y842, b824, b826, v829, rw830, v836, rw837, b841, [.int .i64 (y842.Kind), .string (y842.Name), .string (y842.Text), v1206, .bool (y842.Closed)], hbase1204, hm, hW831, hW838, ⟨_, rfl, ⟨rw1207, hR1208, hW1209⟩⟩, hs.sub ⟨rfl, rfl, trivial⟩⟩⟩))))⟩
     replace hm := oc_f hg1226 hm
     refine Wq fun hK10 => sM (v := .pointer (some ⟨b824, 0, none⟩)) hs rfl fun hs => ?_
     obtain ⟨x1227, hx1228, hm⟩ := ob hm
     refine s1 hs (zeg (cap := []) (Lf := .blk b841 (.cells #[.int .i64 (y842.Kind), .string (y842.Name), .string (y842.Text), v1206, .bool (y842.Closed)] 56 (0, 0)) :: L) rfl has31 rfl ((((zag _ 3 rfl).trans (zag _ 3 rfl)).trans (zag _ 3 rfl)).trans (zag _ 3 rfl)) (zg4 n (f := f821) (p0 := ({c := ({l := y828, at_ := y833} : za4), out := y835} : za3)) (pb0 := b824) (pv0_0 := b826) (pv0_1 := v829) (pv0_1r := rw830) (pv0_2 := v836) (pv0_2r := rw837) (p1 := 0) (p2 := (bs [60, 33, 45, 45])) hW831 hW838 hx1228)) fun hs => sA (v := .bool (x1227)) hs rfl fun hs => za0 <| hK10 ?_
     refine zaf hs rfl (fun hg1229 => ?_) (fun hg1229 => ?_)
     ·replace hm := oc_t hg1229 hm
      refine Wq fun hK11 => sM (v := .pointer (some ⟨b824, 0, none⟩)) hs rfl fun hs => ?_
      obtain ⟨x1230, hx1231, hm⟩ := ob hm
      replace hs := hs.front 3
      replace hs := hs.front 3
      replace hs := hs.front 3
      replace hs := hs.front 3
      refine zbx (Lr := [.blk b824 (.cells #[.pointer (some ⟨b826, 0, none⟩), v836] 68 (0, 0)), .blk b826 (.cells #[v829, .int .i64 (y833)] 98 (0, 0)), .row v829 21 1 rw830, .row v836 56 5 rw837]) (Lf := .blk b841 (.cells #[.int .i64 (y842.Kind), .string (y842.Name), .string (y842.Text), v1206, .bool (y842.Closed)] 56 (0, 0)) :: L) hs rfl has32 rfl rfl (zmg n (f := f821) (p0 := ({c := ({l := y828, at_ := y833} : za4), out := y835} : za3)) (pb0 := b824) (pv0_0 := b826) (pv0_1 := v829) (pv0_1r := rw830) (pv0_2 := v836) (pv0_2r := rw837) hW831 hW838 hx1231) (.free rfl) (by decide) ?_; clear hs; (try clear a w)
      rintro _ f1232 _ a w hf1233 ⟨v1234, rw1235, v1237, rw1238, rfl, rfl, hW1236, hW1239⟩ hs
      replace hR2 := hR2.le hf1233
      replace hW3 := hW3.le hf1233
      replace hW831 := hW831.le hf1233
      replace hW838 := hW838.le hf1233
      replace hR1208 := hR1208.le hf1233
      replace hW1209 := hW1209.le hf1233
      replace hle := hle.trans hf1233
      replace hbase1204 := hbase1204.trans hf1233
      refine za0 <| hK11 <| Wq fun hK12 => sM (v := .pointer (some ⟨b824, 0, none⟩)) hs rfl fun hs => ?_
      obtain ⟨x1242, hx1243, hm⟩ := ob hm
      replace hs := hs.front 3
      replace hs := hs.front 3
      replace hs := hs.front 3
      replace hs := hs.front 3
      refine zbx (Lr := [.blk b824 (.cells #[.pointer (some ⟨b826, 0, none⟩), v1237] 68 (0, 0)), .blk b826 (.cells #[v1234, .int .i64 (x1230.c.at_)] 98 (0, 0)), .row v1234 21 1 rw1235, .row v1237 56 5 rw1238]) (Lf := .blk b841 (.cells #[.int .i64 (y842.Kind), .string (y842.Name), .string (y842.Text), v1206, .bool (y842.Closed)] 56 (0, 0)) :: L) hs rfl has33 rfl rfl (zjw n (f := f1232) (p0 := x1230) (pb0 := b824) (pv0_0 := b826) (pv0_1 := v1234) (pv0_1r := rw1235) (pv0_2 := v1237) (pv0_2r := rw1238) (p1 := (bs [45, 45, 62])) hW1236 hW1239 hx1243) (.free rfl) (by decide) ?_; clear hs; (try clear a w)
      rintro _ f1244 _ a w hf1245 ⟨v1246, rw1247, v1249, rw1250, rfl, rfl, hW1248, hW1251⟩ hs
      replace hR2 := hR2.le hf1245
      replace hW3 := hW3.le hf1245
      replace hW831 := hW831.le hf1245
      replace hW838 := hW838.le hf1245
      replace hR1208 := hR1208.le hf1245
      replace hW1209 := hW1209.le hf1245
      replace hW1236 := hW1236.le hf1245
      replace hW1239 := hW1239.le hf1245
      replace hle := hle.trans hf1245
      replace hbase1204 := hbase1204.trans hf1245
      refine za0 <| hK12 <| zms ?_
      exact hG2.at_ 3 _ _ rfl ⟨k1205, Nat.lt_succ_self _, (.inl ⟨rfl, ⟨_, x1242.c.l, x1242.c.at_, x1242.out, y842, b824, b826, v1246, rw1247, v1249, rw1250, b841, [.int .i64 (y842.Kind), .string (y842.Name), .string (y842.Text), v1206, .bool (y842.Closed)], hbase1204, hm, hW1248, hW1251, ⟨_, rfl, ⟨rw1207, hR1208, hW1209⟩⟩, hs.sub ⟨rfl, rfl, trivial⟩⟩⟩)⟩
     replace hm := oc_f hg1229 hm
     refine zah <| hK3 <| Wq fun hK13 => sM (v := .pointer (some ⟨b824, 0, none⟩)) hs rfl fun hs => ?_
     obtain ⟨x1254, hx1255, hm⟩ := ob hm
     replace hs := hs.front 3
     replace hs := hs.front 3
     replace hs := hs.front 3
     replace hs := hs.front 3
     refine zbx (Lr := [.blk b824 (.cells #[.pointer (some ⟨b826, 0, none⟩), v836] 68 (0, 0)), .blk b826 (.cells #[v829, .int .i64 (y833)] 98 (0, 0)), .row v829 21 1 rw830, .row v836 56 5 rw837]) (Lf := .blk b841 (.cells #[.int .i64 (y842.Kind), .string (y842.Name), .string (y842.Text), v1206, .bool (y842.Closed)] 56 (0, 0)) :: L) hs rfl has33 rfl rfl (zjw n (f := f821) (p0 := ({c := ({l := y828, at_ := y833} : za4), out := y835} : za3)) (pb0 := b824) (pv0_0 := b826) (pv0_1 := v829) (pv0_1r := rw830) (pv0_2 := v836) (pv0_2r := rw837) (p1 := (bs [62])) hW831 hW838 hx1255) (.free rfl) (by decide) ?_; clear hs; (try clear a w)
     rintro _ f1256 _ a w hf1257 ⟨v1258, rw1259, v1261, rw1262, rfl, rfl, hW1260, hW1263⟩ hs
     replace hR2 := hR2.le hf1257
     replace hW3 := hW3.le hf1257
     replace hW831 := hW831.le hf1257
     replace hW838 := hW838.le hf1257
     replace hR1208 := hR1208.le hf1257
     replace hW1209 := hW1209.le hf1257
     replace hle := hle.trans hf1257
     replace hbase1204 := hbase1204.trans hf1257
     refine za0 <| hK13 <| Ws fun hK14 => zms ?_
     exact hG2.at_ 3 _ _ rfl ⟨k1205, Nat.lt_succ_self _, (.inl ⟨rfl, ⟨_, x1254.c.l, x1254.c.at_, x1254.out, y842, b824, b826, v1258, rw1259, v1261, rw1262, b841, [.int .i64 (y842.Kind), .string (y842.Name), .string (y842.Text), v1206, .bool (y842.Closed)], hbase1204, hm, hW1260, hW1263, ⟨_, rfl, ⟨rw1207, hR1208, hW1209⟩⟩, hs.sub ⟨rfl, rfl, trivial⟩⟩⟩)⟩
    refine za7 <| sM (v := .pointer (some ⟨b824, 0, none⟩)) hs rfl fun hs => ?_
    obtain ⟨x1266, hx1267, hm⟩ := ob hm
    refine s1 hs (zeg (cap := []) (Lf := .blk b841 (.cells #[.int .i64 (y842.Kind), .string (y842.Name), .string (y842.Text), v1206, .bool (y842.Closed)] 56 (0, 0)) :: L) rfl has30 rfl ((((zag _ 3 rfl).trans (zag _ 3 rfl)).trans (zag _ 3 rfl)).trans (zag _ 3 rfl)) (zco n (f := f821) (p0 := ({c := ({l := y828, at_ := y833} : za4), out := y835} : za3)) (pb0 := b824) (pv0_0 := b826) (pv0_1 := v829) (pv0_1r := rw830) (pv0_2 := v836) (pv0_2r := rw837) (p1 := 1) hW831 hW838 hx1267)) fun hs => s1 hs (zd3 rfl rfl) fun hs => sM (v := .bool (decide (x1266 = 47))) hs rfl fun hs => ?_
    refine St.split hs (t := 36) rfl (fun hg1268 hs => ?_) (fun hg1268 hs => ?_)
    ·replace hm := oc_t hg1268 hm
     refine s2 (v := .pointer (some ⟨b824, 0, none⟩)) hs (zaa rfl) fun hs => ?_
     obtain ⟨x1269, hx1270, hm⟩ := ob hm
     refine s2 hs (zeg (cap := []) (Lf := .blk b841 (.cells #[.int .i64 (y842.Kind), .string (y842.Name), .string (y842.Text), v1206, .bool (y842.Closed)] 56 (0, 0)) :: L) rfl has30 rfl ((((zag _ 3 rfl).trans (zag _ 3 rfl)).trans (zag _ 3 rfl)).trans (zag _ 3 rfl)) (zco n (f := f821) (p0 := ({c := ({l := y828, at_ := y833} : za4), out := y835} : za3)) (pb0 := b824) (pv0_0 := b826) (pv0_1 := v829) (pv0_1r := rw830) (pv0_2 := v836) (pv0_2r := rw837) (p1 := 2) hW831 hW838 hx1270)) fun hs => ?_
     obtain ⟨x1271, hx1272, hm⟩ := ob hm
     refine s2 hs (zbd rfl has29 rfl (zkb n (f := f821)  hx1272)) fun hs => sP (v := .bool (x1271)) hs rfl rfl fun hs => sA (v := .bool (x1271)) hs rfl fun hs => za0 ?_
     exact ⟨x1271, hm, hs.sub ⟨rfl, rfl, rfl, trivial⟩⟩
    replace hm := oc_f hg1268 hm
    refine s3 hs fun hs => s3 hs fun hs => s3 hs fun hs => sP (v := .bool (false)) hs rfl rfl fun hs => sA (v := .bool (false)) hs rfl fun hs => za0 ?_
    exact ⟨false, hm, hs.sub ⟨rfl, rfl, rfl, trivial⟩⟩
  ·cases hl; revert a w
   rintro a w ⟨f845, y852, y857, y859, y866, b848, b850, v853, rw854, v860, rw861, b865, r867, hl846, hm, hW855, hW862, hq868, hs⟩
   replace hR2 := hR2.le hl846
   replace hW3 := hW3.le hl846
   replace hle := hle.trans hl846
   obtain ⟨v1274, rfl, ⟨rw1275, hR1276, hW1277⟩⟩ := hq868
   have hbase1204 := hl846
   cases k with
   | zero => simp [zgn] at hm
   | succ k1273 =>
    rw [zgn] at hm
    refine Wq fun hK15 => sA (v := (.slice none 0 0)) hs rfl fun hs => za0 <| hK15 <| Ws fun hK16 => ?_
    have hbase1294 := Fz.le.refl f845
    refine zai (fun a w => ∃ (f1280 : Fz) (y1282 : (List Int)) (y1287 : Int) (y1289 : (List Int)) (v1283 : Value) (rw1284 : List (List Value)) (v1290 : Value) (rw1291 : List (List Value)), Fz.le f845 f1280 ∧ zht n y859 y866 (zay n k1273) y1282 y1287 y1289 = some res ∧ RW (tInt .i32) f1280 rw1284 y1282 ∧ RW (tInt .i32) f1280 rw1291 y1289 ∧ St 155 w0 f1280 (.row v1290 21 1 rw1291 :: .blk b848 (.cells #[.pointer (some ⟨b850, 0, none⟩), v860] 68 (0, 0)) :: .blk b850 (.cells #[v1283, .int .i64 (y1287)] 98 (0, 0)) :: .row v1283 21 1 rw1284 :: .row v860 56 5 rw861 :: .blk b865 (.cells #[.int .i64 (y866.Kind), .string (y866.Name), .string (y866.Text), v1274, .bool (y866.Closed)] 56 (0, 0)) :: L) [(3, .pointer (some ⟨b848, 0, none⟩)), (4, .pointer (some ⟨b865, 0, none⟩)), (6, v1290)] a w) ?_ ?_
    ·clear hs hm
     clear hbase1294
     rintro a w ⟨f1280, y1282, y1287, y1289, v1283, rw1284, v1290, rw1291, hl1281, hm, hW1285, hW1292, hs⟩
     replace hR2 := hR2.le hl1281
     replace hW3 := hW3.le hl1281
     replace hW855 := hW855.le hl1281
     replace hW862 := hW862.le hl1281
     replace hR1276 := hR1276.le hl1281
     replace hW1277 := hW1277.le hl1281
     replace hle := hle.trans hl1281
     replace hbase1204 := hbase1204.trans hl1281
     unfold zht at hm
     refine hK16 <| Ws fun hK17 => ?_
     have hsD := hs.subL (L' := .row v1290 21 1 rw1291 :: .blk b848 (.cells #[.pointer (some ⟨b850, 0, none⟩), v860] 68 (0, 0)) :: []) (.cons_cons _ (.cons_cons _ (.cons _ (.cons _ (.cons _ (.cons _ (List.nil_sublist _)))))))
     have hbd1295 := Fz.le.refl f1280
     refine zjc hs (.row v1290 21 1 rw1291 :: .blk b848 (.cells #[.pointer (some ⟨b850, 0, none⟩), v860] 68 (0, 0)) :: []) [13] (.look 0 (.look 1 (.look 2 (.look 3 (.look 4 (.look 5 (.look 6 (.look 7 (.look 8 (.any [9] (fun _ => .any [10] (fun _ => .look 11 (.look 12 (.any [13] (fun _ => .done))))))))))))))) mixed (by kernel_rfl) fun _ he => uy (v := .pointer (some ⟨b848, 0, none⟩)) 0 he rfl (zaa rfl) fun _ he => uy (v := .pointer (some ⟨b848, 0, none⟩)) 1 he rfl (zaa rfl) fun _ he => uy 2 he rfl (zab rfl) fun _ he => uy (v := .pointer (some ⟨b848, 1, none⟩)) 3 he rfl (za1 rfl (FO.of (off := 1) Try.underlying68 rfl rfl ti40 (by decide))) fun _ he => uy (v := v860) 4 he rfl (y_ld rfl Try.underlying40 rfl (Cell.blk (.tail _ (.head _)) rfl)) fun _ he => uy (v := v1290) 5 he rfl (zaa rfl) fun _ he => uy (v := .string ((textOf y1289))) 6 he rfl (zp4 rfl Try.underlying28 Try.underlying21 Try.underlying9 (Rd.st hsD (.head _)) hW1292) fun _ he => ?_
     obtain ⟨x1296, hx1297, hm⟩ := ob hm
     refine ucall 7 he rfl rfl has35 rfl (fun f9 L9 w9 hfc _ hw9 => (zlf n (f := f9)  hx1297) w0 L9 w9 hw9) fun _ he => uy 8 he rfl (zes (places := [(0, 1), (1, 1), (2, 1), (3, 1), (4, 1)]) (cs := [.int .i64 (1), .string ((bs [])), .string (x1296), (.slice none 0 0), .bool (false)]) rfl Try.underlying56 ti56 (by kernel_rfl) (by decide) rfl ⟨rfl, rfl, trivial⟩) fun _ he => ?_
     refine ze2 he rfl ?_; clear he; (try clear a); intro a w hs
     refine zn5 hs rfl Try.underlying40 ti56 (by decide) (AllC.row ⟨rfl, rfl, rfl, rfl, rfl, trivial⟩ rfl) fun v1299 _ _ hs => ?_
     have hW1300 : RW zap f1280 [[.int .i64 (1), .string ((bs [])), .string (x1296), (.slice none 0 0), .bool (false)]] [({Kind := 1, Name := (bs []), Text := x1296, Attrs := ([] : List za9), Closed := false} : za5)] := RW.single (⟨_, rfl, RS.nil⟩)
     generalize hgrw1301 : ([[.int .i64 (1), .string ((bs [])), .string (x1296), (.slice none 0 0), .bool (false)]] : List (List Value)) = rw1301 at hs hW1300; clear hgrw1301
     have ho1304 : v1299.oneCell' = true := hs.one (i := 0) rfl
     refine uon hs fun _ he => ?_
     refine ze2 he rfl ?_; clear he; (try clear a); intro a w hs
     obtain ⟨x1305, hx1306, hm⟩ := ob hm
     obtain ⟨hbx1305, hex1305⟩ := zcj hx1306
     have hW1309 := hW862.append hW1300; rw [hex1305] at hW1309
     refine zcs (i := 5) hs rfl rfl rfl (Rd.st hs (.head _)) Try.underlying40 ti56 (by decide) (by rw [RW.len hW862, RW.len hW1300]; exact hbx1305) (.free rfl) (by decide) fun v1307 _ _ hs => ?_
     generalize hgx1305 : rw861 ++ rw1301 = rw1308 at hs hW1309; clear hgx1305
     replace hs := hs.erase 0
     have ho1311 : v1307.oneCell' = true := hs.one (i := 4) rfl
     refine uon hs fun _ he => uy 11 he rfl (zab rfl) fun _ he => uy (v := .pointer (some ⟨b848, 1, none⟩)) 12 he rfl (za1 rfl (FO.of (off := 1) Try.underlying68 rfl rfl ti40 (by decide))) fun _ he => ?_
     refine ze2 he rfl ?_; clear he; (try clear a); intro a w hs
     refine sstore 1 hs rfl rfl rfl ti40 ho1311 fun _ _ hs => uend hs fun _ he => ?_
     refine znq he ?_; clear he; (try clear a); intro w hs; try clear hsD
     refine hK17 <| Ws fun hK18 => zms ?_
     exact hG2.at_ 3 _ _ rfl ⟨k1273, Nat.lt_succ_self _, (.inl ⟨rfl, ⟨_, y1282, y1287, x1305, y866, b848, b850, v1283, rw1284, v1307, rw1308, b865, [.int .i64 (y866.Kind), .string (y866.Name), .string (y866.Text), v1274, .bool (y866.Closed)], hbase1204, hm, hW1285, hW1309, ⟨_, rfl, ⟨rw1275, hR1276, hW1277⟩⟩, hs.subs ⟨rfl, rfl, trivial⟩ (.cons _ (.cons_cons _ (.cons_cons _ (.cons_cons _ (.cons_cons _ (.cons_cons _ (.refl _)))))))⟩⟩)⟩
    refine zam fun Qe19 hB19 hO19 => ?_
    have hbase := Fz.le.refl f845
    replace hs := hs.nilRow 21 1
    have hW1326 : RW (tInt .i32) f845 [] ([] : List Int) := trivial
    generalize hgrw1327 : ([] : List (List Value)) = rw1327 at hs hW1326; clear hgrw1327
    refine zcw (fun (k : Nat) a w => ∃ (f1312 : Fz) (y1314 : (List Int)) (y1319 : Int) (y1321 : (List Int)) (v1315 : Value) (rw1316 : List (List Value)) (v1322 : Value) (rw1323 : List (List Value)), Fz.le f845 f1312 ∧ zdg n y859 y866 (zay n k1273) k y1314 y1319 y1321 = some res ∧ RW (tInt .i32) f1312 rw1316 y1314 ∧ RW (tInt .i32) f1312 rw1323 y1321 ∧ St 155 w0 f1312 (.row v1322 21 1 rw1323 :: .blk b848 (.cells #[.pointer (some ⟨b850, 0, none⟩), v860] 68 (0, 0)) :: .blk b850 (.cells #[v1315, .int .i64 (y1319)] 98 (0, 0)) :: .row v1315 21 1 rw1316 :: .row v860 56 5 rw861 :: .blk b865 (.cells #[.int .i64 (y866.Kind), .string (y866.Name), .string (y866.Text), v1274, .bool (y866.Closed)] 56 (0, 0)) :: L) [(3, .pointer (some ⟨b848, 0, none⟩)), (4, .pointer (some ⟨b865, 0, none⟩)), (6, v1322)] a w) (fun k => k) n ⟨_, y852, y857, ([] : List Int), v853, rw854, (.slice none 0 0), rw1327, (Fz.le.refl _), hm, hW855, hW1326, hs.sub ⟨rfl, rfl, rfl, trivial⟩⟩ ?_
    clear hs hm
    intro k
    rintro a w ⟨f1312, y1314, y1319, y1321, v1315, rw1316, v1322, rw1323, hl1313, hm, hW1317, hW1324, hs⟩
    replace hR2 := hR2.le hl1313
    replace hW3 := hW3.le hl1313
    replace hW855 := hW855.le hl1313
    replace hW862 := hW862.le hl1313
    replace hR1276 := hR1276.le hl1313
    replace hW1277 := hW1277.le hl1313
    replace hle := hle.trans hl1313
    replace hbase1204 := hbase1204.trans hl1313
    replace hbase1294 := hbase1294.trans hl1313
    intro K20 hK20
    cases k with
    | zero => simp [zdg] at hm
    | succ k1330 =>
     rw [zdg] at hm
     have hbase1331 := hl1313
     refine Ws fun hK21 => Ws fun hK22 => ?_
     refine zai (fun a w => ∃ (y1332 : Bool), zgr n y859 y866 (zay n k1273) y1314 y1319 y1321 (zdg n y859 y866 (zay n k1273) k1330) y1332 = some res ∧ St 155 w0 f1312 (.row v1322 21 1 rw1323 :: .blk b848 (.cells #[.pointer (some ⟨b850, 0, none⟩), v860] 68 (0, 0)) :: .blk b850 (.cells #[v1315, .int .i64 (y1319)] 98 (0, 0)) :: .row v1315 21 1 rw1316 :: .row v860 56 5 rw861 :: .blk b865 (.cells #[.int .i64 (y866.Kind), .string (y866.Name), .string (y866.Text), v1274, .bool (y866.Closed)] 56 (0, 0)) :: L) [(3, .pointer (some ⟨b848, 0, none⟩)), (4, .pointer (some ⟨b865, 0, none⟩)), (6, v1322), (60, .bool (y1332))] a w) ?_ ?_
     ·clear hs hm
      rintro a w ⟨y1332, hm, hs⟩
      unfold zgr at hm
      refine hK22 ?_
      refine zaf hs rfl (fun hg1333 => ?_) (fun hg1333 => ?_)
      ·replace hm := oc_t hg1333 hm
       refine zah <| hK21 <| zam fun Qe23 hB23 hO23 => Wq fun hK24 => sM (v := .pointer (some ⟨b848, 0, none⟩)) hs rfl fun hs => s1 hs (zab rfl) fun hs => s1 (v := .pointer (some ⟨b848, 0, none⟩)) hs (za1 rfl (FO.of (off := 0) Try.underlying68 rfl rfl ti65 (by decide))) fun hs => s1 (v := .pointer (some ⟨b850, 0, none⟩)) hs (y_ld rfl Try.underlying65 rfl (Cell.blk (.tail _ (.head _)) rfl)) fun hs => ?_
       obtain ⟨x1334, hx1335, hm⟩ := ob hm
       replace hs := hs.front 3
       replace hs := hs.front 3
       refine zbx (Lr := [.blk b850 (.cells #[v1315, .int .i64 (y1319)] 98 (0, 0)), .row v1315 21 1 rw1316]) (Lf := .row v1322 21 1 rw1323 :: .blk b848 (.cells #[.pointer (some ⟨b850, 0, none⟩), v860] 68 (0, 0)) :: .row v860 56 5 rw861 :: .blk b865 (.cells #[.int .i64 (y866.Kind), .string (y866.Name), .string (y866.Text), v1274, .bool (y866.Closed)] 56 (0, 0)) :: L) hs rfl has34 rfl rfl (zao n (f := f1312) (p0 := ({l := y1314, at_ := y1319} : za4)) (pb0 := b850) (pv0_0 := v1315) (pv0_0r := rw1316) hW1317 hx1335) (.free rfl) (by decide) ?_; clear hs; (try clear a w)
       rintro _ f1336 _ a w hf1337 ⟨v1338, rw1339, rfl, rfl, hW1340⟩ hs
       replace hR2 := hR2.le hf1337
       replace hW3 := hW3.le hf1337
       replace hW855 := hW855.le hf1337
       replace hW862 := hW862.le hf1337
       replace hR1276 := hR1276.le hf1337
       replace hW1277 := hW1277.le hf1337
       replace hW1317 := hW1317.le hf1337
       replace hW1324 := hW1324.le hf1337
       replace hle := hle.trans hf1337
       replace hbase1204 := hbase1204.trans hf1337
       replace hbase1294 := hbase1294.trans hf1337
       replace hbase1331 := hbase1331.trans hf1337
       refine sM (v := .tuple #[.int .i32 (x1334.1), .bool (x1334.2.1)]) hs rfl fun hs => s1 (v := .int .i32 (x1334.1)) hs (zar rfl rfl) fun hs => s1 (v := .bool (x1334.2.1)) hs (zar rfl rfl) fun hs => sA (v := .int .i32 (x1334.1)) hs rfl fun hs => sA (v := .bool (x1334.2.1)) hs rfl fun hs => za0 <| hK24 <| za7 <| sM (v := v1322) hs rfl fun hs => sM (v := .int .i32 (x1334.1)) hs rfl fun hs => ?_
       refine zfz hs rfl Try.underlying28 ti21 rfl rfl fun v1342 _ _ hs => ?_
       have hW1343 : RW (tInt .i32) f1336 [[.int .i32 (x1334.1)]] [x1334.1] := RW.single (rfl)
       generalize hgrw1344 : ([[.int .i32 (x1334.1)]] : List (List Value)) = rw1344 at hs hW1343; clear hgrw1344
       obtain ⟨x1347, hx1348, hm⟩ := ob hm
       obtain ⟨hbx1347, hex1347⟩ := zcj hx1348
       have hW1351 := hW1324.append hW1343; rw [hex1347] at hW1351
       refine zcs (i := 3) hs rfl rfl rfl (Rd.st hs (.head _)) Try.underlying28 ti21 (by decide) (by rw [RW.len hW1324, RW.len hW1343]; exact hbx1347) (.free rfl) (by decide) fun v1349 _ _ hs => ?_
       generalize hgx1347 : rw1323 ++ rw1344 = rw1350 at hs hW1351; clear hgx1347
       replace hs := hs.erase 0
       refine sA (v := v1349) hs rfl fun hs => za0 ?_
       replace hs := hs.front 5
       replace hs := hs.front 5
       replace hs := hs.front 3
       replace hs := hs.front 3
       replace hs := hs.front 5
       replace hs := hs.front 5
       exact hK20 k1330 _ _ (Nat.lt_succ_self _) ⟨_, x1334.2.2.l, x1334.2.2.at_, x1347, v1338, rw1339, v1349, rw1350, hbase1331, hm, hW1340, hW1351, hs.sub ⟨rfl, rfl, rfl, trivial⟩⟩
      replace hm := oc_f hg1333 hm
      refine zc9 <| hB19 _ _ ?_
      exact ⟨_, y1314, y1319, y1321, v1315, rw1316, v1322, rw1323, hbase1294, hm, hW1317, hW1324, hs.sub ⟨rfl, rfl, rfl, trivial⟩⟩
     refine za7 <| sM (v := .pointer (some ⟨b848, 0, none⟩)) hs rfl fun hs => s1 hs (zab rfl) fun hs => s1 (v := .pointer (some ⟨b848, 0, none⟩)) hs (za1 rfl (FO.of (off := 0) Try.underlying68 rfl rfl ti65 (by decide))) fun hs => s1 (v := .pointer (some ⟨b850, 0, none⟩)) hs (y_ld rfl Try.underlying65 rfl (Cell.blk (.tail _ (.head _)) rfl)) fun hs => ?_
     obtain ⟨x1353, hx1354, hm⟩ := ob hm
     refine s1 hs (zeg (cap := []) (Lf := .row v1322 21 1 rw1323 :: .blk b848 (.cells #[.pointer (some ⟨b850, 0, none⟩), v860] 68 (0, 0)) :: .row v860 56 5 rw861 :: .blk b865 (.cells #[.int .i64 (y866.Kind), .string (y866.Name), .string (y866.Text), v1274, .bool (y866.Closed)] 56 (0, 0)) :: L) rfl has27 rfl ((zag _ 3 rfl).trans (zag _ 3 rfl)) (zcv n (f := f1312) (p0 := ({l := y1314, at_ := y1319} : za4)) (pb0 := b850) (pv0_0 := v1315) (pv0_0r := rw1316) hW1317 hx1354)) fun hs => s1 hs (zis rfl rfl) fun hs => sM (v := .bool (decide (0 < x1353))) hs rfl fun hs => ?_
     refine St.split hs (t := 56) rfl (fun hg1355 hs => ?_) (fun hg1355 hs => ?_)
     ·replace hm := oc_t hg1355 hm
      refine s2 (v := .pointer (some ⟨b848, 0, none⟩)) hs (zaa rfl) fun hs => ?_
      obtain ⟨x1356, hx1357, hm⟩ := ob hm
      refine s2 hs (zeg (cap := []) (Lf := .row v1322 21 1 rw1323 :: .blk b865 (.cells #[.int .i64 (y866.Kind), .string (y866.Name), .string (y866.Text), v1274, .bool (y866.Closed)] 56 (0, 0)) :: L) rfl has28 rfl ((((zag _ 4 rfl).trans (zag _ 4 rfl)).trans (zag _ 4 rfl)).trans (zag _ 4 rfl)) (zj4 n (f := f1312) (p0 := ({c := ({l := y1314, at_ := y1319} : za4), out := y859} : za3)) (pb0 := b848) (pv0_0 := b850) (pv0_1 := v1315) (pv0_1r := rw1316) (pv0_2 := v860) (pv0_2r := rw861) hW1317 hW862 hx1357)) fun hs => s2 (v := .bool ((!x1356))) hs (zj8 rfl) fun hs => sP (v := .bool ((!x1356))) hs rfl rfl fun hs => za0 ?_
      exact ⟨(!x1356), hm, hs.sub ⟨rfl, rfl, rfl, rfl, trivial⟩⟩
     replace hm := oc_f hg1355 hm
     refine s3 hs fun hs => s3 hs fun hs => s3 hs fun hs => sP (v := .bool (false)) hs rfl rfl fun hs => za0 ?_
     exact ⟨false, hm, hs.sub ⟨rfl, rfl, rfl, rfl, trivial⟩⟩
  ·cases hl; revert a w
   rintro a w ⟨f869, y876, y881, y883, y890, b872, b874, v877, rw878, v884, rw885, b889, r891, hl870, hm, hW879, hW886, hq892, hs⟩
   replace hR2 := hR2.le hl870
   replace hW3 := hW3.le hl870
   replace hle := hle.trans hl870
   obtain ⟨v1359, rfl, ⟨rw1360, hR1361, hW1362⟩⟩ := hq892
   have hbase1204 := hl870
   cases k with
   | zero => simp [zgm] at hm
   | succ k1358 =>
    rw [zgm] at hm
    refine Wq fun hK25 => sM (v := .pointer (some ⟨b872, 0, none⟩)) hs rfl fun hs => s1 hs (zab rfl) fun hs => s1 (v := .pointer (some ⟨b872, 0, none⟩)) hs (za1 rfl (FO.of (off := 0) Try.underlying68 rfl rfl ti65 (by decide))) fun hs => s1 (v := .pointer (some ⟨b874, 0, none⟩)) hs (y_ld rfl Try.underlying65 rfl (Cell.blk (.head _) rfl)) fun hs => ?_
    obtain ⟨x1364, hx1365, hm⟩ := ob hm
    replace hs := hs.front 2
    replace hs := hs.front 2
    refine zbx (Lr := [.blk b874 (.cells #[v877, .int .i64 (y881)] 98 (0, 0)), .row v877 21 1 rw878]) (Lf := .blk b872 (.cells #[.pointer (some ⟨b874, 0, none⟩), v884] 68 (0, 0)) :: .row v884 56 5 rw885 :: .blk b889 (.cells #[.int .i64 (y890.Kind), .string (y890.Name), .string (y890.Text), v1359, .bool (y890.Closed)] 56 (0, 0)) :: L) hs rfl has34 rfl rfl (zao n (f := f869) (p0 := ({l := y876, at_ := y881} : za4)) (pb0 := b874) (pv0_0 := v877) (pv0_0r := rw878) hW879 hx1365) (.free rfl) (by decide) ?_; clear hs; (try clear a w)
    rintro _ f1366 _ a w hf1367 ⟨v1368, rw1369, rfl, rfl, hW1370⟩ hs
    replace hR2 := hR2.le hf1367
    replace hW3 := hW3.le hf1367
    replace hW879 := hW879.le hf1367
    replace hW886 := hW886.le hf1367
    replace hR1361 := hR1361.le hf1367
    replace hW1362 := hW1362.le hf1367
    replace hle := hle.trans hf1367
    replace hbase1204 := hbase1204.trans hf1367
    refine za0 <| hK25 <| Wq fun hK26 => sM (v := .pointer (some ⟨b872, 0, none⟩)) hs rfl fun hs => ?_
    obtain ⟨x1372, hx1373, hm⟩ := ob hm
    replace hs := hs.front 3
    replace hs := hs.front 2
    replace hs := hs.front 2
    replace hs := hs.front 3
    refine zbx (Lr := [.blk b872 (.cells #[.pointer (some ⟨b874, 0, none⟩), v884] 68 (0, 0)), .blk b874 (.cells #[v1368, .int .i64 (x1364.2.2.at_)] 98 (0, 0)), .row v1368 21 1 rw1369, .row v884 56 5 rw885]) (Lf := .blk b889 (.cells #[.int .i64 (y890.Kind), .string (y890.Name), .string (y890.Text), v1359, .bool (y890.Closed)] 56 (0, 0)) :: L) hs rfl has36 rfl rfl (zk4 n (f := f1366) (p0 := ({c := x1364.2.2, out := y883} : za3)) (pb0 := b872) (pv0_0 := b874) (pv0_1 := v1368) (pv0_1r := rw1369) (pv0_2 := v884) (pv0_2r := rw885) (p1 := 2) hW1370 hW886 hx1373) (.free rfl) (by decide) ?_; clear hs; (try clear a w)
    rintro _ f1374 _ a w hf1375 ⟨r1376, v1378, rw1379, v1381, rw1382, rfl, rfl, hq1377, hW1380, hW1383⟩ hs
    replace hR2 := hR2.le hf1375
    replace hW3 := hW3.le hf1375
    replace hW879 := hW879.le hf1375
    replace hW886 := hW886.le hf1375
    replace hR1361 := hR1361.le hf1375
    replace hW1362 := hW1362.le hf1375
    replace hW1370 := hW1370.le hf1375
    replace hle := hle.trans hf1375
    replace hbase1204 := hbase1204.trans hf1375
    obtain ⟨v1384, rfl, ⟨rw1385, hR1386, hW1387⟩⟩ := hq1377
    refine sM (v := .tuple #[.agg #[.int .i64 (x1372.1.Kind), .string (x1372.1.Name), .string (x1372.1.Text), v1384, .bool (x1372.1.Closed)], .bool (x1372.2.1)]) hs rfl fun hs => s1 (v := .agg #[.int .i64 (x1372.1.Kind), .string (x1372.1.Name), .string (x1372.1.Text), v1384, .bool (x1372.1.Closed)]) hs (zar rfl rfl) fun hs => s1 (v := .bool (x1372.2.1)) hs (zar rfl rfl) fun hs => zat (i := 4) hs rfl rfl rfl ti56 ⟨rfl, rfl⟩ (AllC.arr (r := [.int .i64 (x1372.1.Kind), .string (x1372.1.Name), .string (x1372.1.Text), v1384, .bool (x1372.1.Closed)]) ⟨rfl, rfl, rfl, hR1386.one, rfl, trivial⟩) (.free rfl) fun _ _ hs => sA (v := .bool (x1372.2.1)) hs rfl fun hs => za0 <| hK26 <| Ws fun hK27 => Ws fun hK28 => za7 ?_
    refine sM (v := .bool (x1372.2.1)) hs rfl fun hs => s1 (v := .bool ((!x1372.2.1))) hs (zj8 rfl) fun hs => za0 <| hK28 ?_
    refine zaf hs rfl (fun hg1391 => ?_) (fun hg1391 => ?_)
    ·replace hm := oc_t hg1391 hm
     refine Wq fun hK29 => sM (v := .pointer (some ⟨b872, 0, none⟩)) hs rfl fun hs => s1 hs (zab rfl) fun hs => s1 (v := .pointer (some ⟨b872, 1, none⟩)) hs (za1 rfl (FO.of (off := 1) Try.underlying68 rfl rfl ti40 (by decide))) fun hs => s1 (v := v1381) hs (y_ld rfl Try.underlying40 rfl (Cell.blk (.head _) rfl)) fun hs => sA (v := v1381) hs rfl fun hs => za0 <| hK29 <| zau ?_
     obtain ⟨f1392, hf1393, hs2, hR1394⟩ := hs.frzAt 3 rfl
     clear hs; have hs := hs2; clear hs2
     replace hR1386 := hR1386.le hf1393
     replace hW1387 := hW1387.le hf1393
     replace hW1380 := hW1380.le hf1393
     replace hW1383 := hW1383.le hf1393
     replace hle := hle.trans hf1393
     replace hbase1204 := hbase1204.trans hf1393
     obtain rfl := Option.some.inj hm
     refine RtV1 hs rfl (rv_t hs rfl) ?_
     exact ⟨_, f1392, [], rfl, hle, (hs.subL (.cons _ (.cons _ (.cons _ (.cons _ (.refl _)))))).cw, v1381, rfl, rfl, ⟨rw1382, hR1394, hW1383⟩⟩
    replace hm := oc_f hg1391 hm
    refine zah <| hK27 <| Ws fun hK30 => ?_
    have hsD := hs.subL (L' := .blk b872 (.cells #[.pointer (some ⟨b874, 0, none⟩), v1381] 68 (0, 0)) :: .blk b889 (.cells #[.int .i64 (x1372.1.Kind), .string (x1372.1.Name), .string (x1372.1.Text), v1384, .bool (x1372.1.Closed)] 56 (0, 0)) :: []) (.cons_cons _ (.cons _ (.cons _ (.cons _ (.cons_cons _ (List.nil_sublist _))))))
    have hbd1395 := Fz.le.refl f1374
    refine zjc hs (.blk b872 (.cells #[.pointer (some ⟨b874, 0, none⟩), v1381] 68 (0, 0)) :: .blk b889 (.cells #[.int .i64 (x1372.1.Kind), .string (x1372.1.Name), .string (x1372.1.Text), v1384, .bool (x1372.1.Closed)] 56 (0, 0)) :: []) [10] (.look 0 (.look 1 (.look 2 (.look 3 (.look 4 (.look 5 (.any [6] (fun _ => .any [7] (fun _ => .look 8 (.look 9 (.any [10] (fun _ => .done)))))))))))) mixed (by kernel_rfl) fun _ he => uy (v := .pointer (some ⟨b872, 0, none⟩)) 0 he rfl (zaa rfl) fun _ he => uy (v := .pointer (some ⟨b872, 0, none⟩)) 1 he rfl (zaa rfl) fun _ he => uy 2 he rfl (zab rfl) fun _ he => uy (v := .pointer (some ⟨b872, 1, none⟩)) 3 he rfl (za1 rfl (FO.of (off := 1) Try.underlying68 rfl rfl ti40 (by decide))) fun _ he => uy (v := v1381) 4 he rfl (y_ld rfl Try.underlying40 rfl (Cell.blk (.head _) rfl)) fun _ he => uy 5 he rfl (zk8 rfl Try.underlying56 rfl ti56 (.tail _ (.head _)) rfl) fun _ he => ?_
    refine ze2 he rfl ?_; clear he; (try clear a); intro a w hs
    refine zn5 hs rfl Try.underlying40 ti56 (by decide) (AllC.row ⟨rfl, rfl, rfl, hR1386.one, rfl, trivial⟩ rfl) fun v1396 _ _ hs => ?_
    have hW1397 : RW zap f1374 [[.int .i64 (x1372.1.Kind), .string (x1372.1.Name), .string (x1372.1.Text), v1384, .bool (x1372.1.Closed)]] [x1372.1] := RW.single (⟨_, rfl, ⟨rw1385, hR1386, hW1387⟩⟩)
    generalize hgrw1398 : ([[.int .i64 (x1372.1.Kind), .string (x1372.1.Name), .string (x1372.1.Text), v1384, .bool (x1372.1.Closed)]] : List (List Value)) = rw1398 at hs hW1397; clear hgrw1398
    have ho1401 : v1396.oneCell' = true := hs.one (i := 0) rfl
    refine uon hs fun _ he => ?_
    refine ze2 he rfl ?_; clear he; (try clear a); intro a w hs
    obtain ⟨x1402, hx1403, hm⟩ := ob hm
    obtain ⟨hbx1402, hex1402⟩ := zcj hx1403
    have hW1406 := hW1383.append hW1397; rw [hex1402] at hW1406
    refine zcs (i := 4) hs rfl rfl rfl (Rd.st hs (.head _)) Try.underlying40 ti56 (by decide) (by rw [RW.len hW1383, RW.len hW1397]; exact hbx1402) (.free rfl) (by decide) fun v1404 _ _ hs => ?_
    generalize hgx1402 : rw1382 ++ rw1398 = rw1405 at hs hW1406; clear hgx1402
    replace hs := hs.erase 0
    have ho1408 : v1404.oneCell' = true := hs.one (i := 3) rfl
    refine uon hs fun _ he => uy 8 he rfl (zab rfl) fun _ he => uy (v := .pointer (some ⟨b872, 1, none⟩)) 9 he rfl (za1 rfl (FO.of (off := 1) Try.underlying68 rfl rfl ti40 (by decide))) fun _ he => ?_
    refine ze2 he rfl ?_; clear he; (try clear a); intro a w hs
    refine sstore 0 hs rfl rfl rfl ti40 ho1408 fun _ _ hs => uend hs fun _ he => ?_
    refine znq he ?_; clear he; (try clear a); intro w hs; try clear hsD
    refine hK30 <| Ws fun hK31 => Ws fun hK32 => ?_
    refine zai (fun a w => St 155 w0 f1374 (.blk b872 (.cells #[.pointer (some ⟨b874, 0, none⟩), v1404] 68 (0, 0)) :: .blk b874 (.cells #[v1378, .int .i64 (x1372.2.2.c.at_)] 98 (0, 0)) :: .row v1378 21 1 rw1379 :: .row v1404 56 5 rw1405 :: .blk b889 (.cells #[.int .i64 (x1372.1.Kind), .string (x1372.1.Name), .string (x1372.1.Text), v1384, .bool (x1372.1.Closed)] 56 (0, 0)) :: L) [(3, .pointer (some ⟨b872, 0, none⟩)), (4, .pointer (some ⟨b889, 0, none⟩)), (119, .bool (((decide (x1372.1.Name = (bs [115, 116, 121, 108, 101]))) || (decide (x1372.1.Name = (bs [115, 99, 114, 105, 112, 116]))))))] a w) ?_ ?_
    ·clear hs; intro a w hs
     refine hK32 ?_
     have hbase1422 := Fz.le.refl f1374
     refine zai (fun a w => ∃ (f1409 : Fz) (y1411 : (List Int)) (y1416 : Int) (y1417 : (List za5)) (v1412 : Value) (rw1413 : List (List Value)) (v1418 : Value) (rw1419 : List (List Value)), Fz.le f1374 f1409 ∧ zgq (zay n k1358) x1372 y1411 y1416 y1417 = some res ∧ RW (tInt .i32) f1409 rw1413 y1411 ∧ RW zap f1409 rw1419 y1417 ∧ St 155 w0 f1409 (.blk b872 (.cells #[.pointer (some ⟨b874, 0, none⟩), v1418] 68 (0, 0)) :: .blk b874 (.cells #[v1412, .int .i64 (y1416)] 98 (0, 0)) :: .row v1412 21 1 rw1413 :: .row v1418 56 5 rw1419 :: .blk b889 (.cells #[.int .i64 (x1372.1.Kind), .string (x1372.1.Name), .string (x1372.1.Text), v1384, .bool (x1372.1.Closed)] 56 (0, 0)) :: L) [(3, .pointer (some ⟨b872, 0, none⟩)), (4, .pointer (some ⟨b889, 0, none⟩))] a w) ?_ ?_
     ·clear hs hm
      clear hbase1422
      rintro a w ⟨f1409, y1411, y1416, y1417, v1412, rw1413, v1418, rw1419, hl1410, hm, hW1414, hW1420, hs⟩
      replace hR2 := hR2.le hl1410
      replace hW3 := hW3.le hl1410
      replace hW879 := hW879.le hl1410
      replace hW886 := hW886.le hl1410
      replace hR1361 := hR1361.le hl1410
      replace hW1362 := hW1362.le hl1410
      replace hW1370 := hW1370.le hl1410
      replace hR1386 := hR1386.le hl1410
      replace hW1387 := hW1387.le hl1410
      replace hW1380 := hW1380.le hl1410
      replace hW1383 := hW1383.le hl1410
      replace hW1397 := hW1397.le hl1410
      replace hW1406 := hW1406.le hl1410
      replace hle := hle.trans hl1410
      replace hbase1204 := hbase1204.trans hl1410
      unfold zgq at hm
      refine hK31 <| Ws fun hK33 => zms ?_
      exact hG2.at_ 3 _ _ rfl ⟨k1358, Nat.lt_succ_self _, (.inl ⟨rfl, ⟨_, y1411, y1416, y1417, x1372.1, b872, b874, v1412, rw1413, v1418, rw1419, b889, [.int .i64 (x1372.1.Kind), .string (x1372.1.Name), .string (x1372.1.Text), v1384, .bool (x1372.1.Closed)], hbase1204, hm, hW1414, hW1420, ⟨_, rfl, ⟨rw1385, hR1386, hW1387⟩⟩, hs.sub ⟨rfl, rfl, trivial⟩⟩⟩)⟩
     refine zaf hs rfl (fun hg1423 => ?_) (fun hg1423 => ?_)
     ·replace hm := oc_t hg1423 hm
      refine za7 <| sM (v := .pointer (some ⟨b872, 0, none⟩)) hs rfl fun hs => s1 (v := .pointer (some ⟨b889, 1, none⟩)) hs (za1 rfl (FO.of (off := 1) Try.underlying56 rfl rfl ti9 (by decide))) fun hs => s1 (v := .string (x1372.1.Name)) hs (y_ld rfl Try.underlying9 rfl (Cell.blk (.tail _ (.tail _ (.tail _ (.tail _ (.head _))))) rfl)) fun hs => ?_
      obtain ⟨x1424, hx1425, hm⟩ := ob hm
      replace hs := hs.front 3
      replace hs := hs.front 3
      replace hs := hs.front 3
      replace hs := hs.front 3
      refine zbx (Lr := [.blk b872 (.cells #[.pointer (some ⟨b874, 0, none⟩), v1404] 68 (0, 0)), .blk b874 (.cells #[v1378, .int .i64 (x1372.2.2.c.at_)] 98 (0, 0)), .row v1378 21 1 rw1379, .row v1404 56 5 rw1405]) (Lf := .blk b889 (.cells #[.int .i64 (x1372.1.Kind), .string (x1372.1.Name), .string (x1372.1.Text), v1384, .bool (x1372.1.Closed)] 56 (0, 0)) :: L) hs rfl has37 rfl rfl (zng n (f := f1374) (p0 := ({c := x1372.2.2.c, out := x1402} : za3)) (pb0 := b872) (pv0_0 := b874) (pv0_1 := v1378) (pv0_1r := rw1379) (pv0_2 := v1404) (pv0_2r := rw1405) (p1 := x1372.1.Name) hW1380 hW1406 hx1425) (.free rfl) (by decide) ?_; clear hs; (try clear a w)
      rintro _ f1426 _ a w hf1427 ⟨v1428, rw1429, v1431, rw1432, rfl, rfl, hW1430, hW1433⟩ hs
      replace hR2 := hR2.le hf1427
      replace hW3 := hW3.le hf1427
      replace hW879 := hW879.le hf1427
      replace hW886 := hW886.le hf1427
      replace hR1361 := hR1361.le hf1427
      replace hW1362 := hW1362.le hf1427
      replace hW1370 := hW1370.le hf1427
      replace hR1386 := hR1386.le hf1427
      replace hW1387 := hW1387.le hf1427
      replace hW1380 := hW1380.le hf1427
      replace hW1383 := hW1383.le hf1427
      replace hW1397 := hW1397.le hf1427
      replace hW1406 := hW1406.le hf1427
      replace hle := hle.trans hf1427
      replace hbase1204 := hbase1204.trans hf1427
      replace hbase1422 := hbase1422.trans hf1427
      refine za0 ?_
      exact ⟨_, x1424.c.l, x1424.c.at_, x1424.out, v1428, rw1429, v1431, rw1432, hbase1422, hm, hW1430, hW1433, hs.sub ⟨rfl, rfl, trivial⟩⟩
     replace hm := oc_f hg1423 hm
     refine zah ?_
     exact ⟨_, x1372.2.2.c.l, x1372.2.2.c.at_, x1402, v1378, rw1379, v1404, rw1405, (Fz.le.refl _), hm, hW1380, hW1406, hs.sub ⟨rfl, rfl, trivial⟩⟩
    refine za7 <| s1 (v := .pointer (some ⟨b889, 1, none⟩)) hs (za1 rfl (FO.of (off := 1) Try.underlying56 rfl rfl ti9 (by decide))) fun hs => s1 (v := .string (x1372.1.Name)) hs (y_ld rfl Try.underlying9 rfl (Cell.blk (.tail _ (.tail _ (.tail _ (.tail _ (.head _))))) rfl)) fun hs => s1 hs (zd9 rfl rfl) fun hs => sM (v := .bool (decide (x1372.1.Name = (bs [115, 116, 121, 108, 101])))) hs rfl fun hs => ?_
    refine St.split hs (t := 115) rfl (fun hg1436 hs => ?_) (fun hg1436 hs => ?_)
    ·refine s3 hs fun hs => s3 hs fun hs => s3 hs fun hs => sP (v := .bool (true)) hs rfl rfl fun hs => za0 ?_
     exact hs.sub ⟨rfl, rfl, (lkB (((or_t hg1436).trans rfl)) rfl), trivial⟩
    refine s2 (v := .pointer (some ⟨b889, 1, none⟩)) hs (za1 rfl (FO.of (off := 1) Try.underlying56 rfl rfl ti9 (by decide))) fun hs => s2 (v := .string (x1372.1.Name)) hs (y_ld rfl Try.underlying9 rfl (Cell.blk (.tail _ (.tail _ (.tail _ (.tail _ (.head _))))) rfl)) fun hs => s2 hs (zd9 rfl rfl) fun hs => sP (v := .bool (decide (x1372.1.Name = (bs [115, 99, 114, 105, 112, 116])))) hs rfl rfl fun hs => za0 ?_
    exact hs.sub ⟨rfl, rfl, (lkB (((or_f hg1436).trans rfl)) rfl), trivial⟩
  cases hl; revert a w
  rintro a w ⟨f893, y900, y905, y907, y914, b896, b898, v901, rw902, v908, rw909, b913, r915, hl894, hm, hW903, hW910, hq916, hs⟩
  replace hR2 := hR2.le hl894
  replace hW3 := hW3.le hl894
  replace hle := hle.trans hl894
  obtain ⟨v1438, rfl, ⟨rw1439, hR1440, hW1441⟩⟩ := hq916
  have hbase1204 := hl894
  cases k with
  | zero => simp [zdy] at hm
  | succ k1437 =>
   rw [zdy] at hm
   refine Wq fun hK34 => sM (v := .pointer (some ⟨b896, 0, none⟩)) hs rfl fun hs => s1 hs (zab rfl) fun hs => s1 (v := .pointer (some ⟨b896, 0, none⟩)) hs (za1 rfl (FO.of (off := 0) Try.underlying68 rfl rfl ti65 (by decide))) fun hs => s1 (v := .pointer (some ⟨b898, 0, none⟩)) hs (y_ld rfl Try.underlying65 rfl (Cell.blk (.head _) rfl)) fun hs => ?_
   obtain ⟨x1443, hx1444, hm⟩ := ob hm
   replace hs := hs.front 2
   replace hs := hs.front 2
   refine zbx (Lr := [.blk b898 (.cells #[v901, .int .i64 (y905)] 98 (0, 0)), .row v901 21 1 rw902]) (Lf := .blk b896 (.cells #[.pointer (some ⟨b898, 0, none⟩), v908] 68 (0, 0)) :: .row v908 56 5 rw909 :: .blk b913 (.cells #[.int .i64 (y914.Kind), .string (y914.Name), .string (y914.Text), v1438, .bool (y914.Closed)] 56 (0, 0)) :: L) hs rfl has34 rfl rfl (zao n (f := f893) (p0 := ({l := y900, at_ := y905} : za4)) (pb0 := b898) (pv0_0 := v901) (pv0_0r := rw902) hW903 hx1444) (.free rfl) (by decide) ?_; clear hs; (try clear a w)
   rintro _ f1445 _ a w hf1446 ⟨v1447, rw1448, rfl, rfl, hW1449⟩ hs
   replace hR2 := hR2.le hf1446
   replace hW3 := hW3.le hf1446
   replace hW903 := hW903.le hf1446
   replace hW910 := hW910.le hf1446
   replace hR1440 := hR1440.le hf1446
   replace hW1441 := hW1441.le hf1446
   replace hle := hle.trans hf1446
   replace hbase1204 := hbase1204.trans hf1446
   refine za0 <| hK34 <| Wq fun hK35 => sM (v := .pointer (some ⟨b896, 0, none⟩)) hs rfl fun hs => s1 hs (zab rfl) fun hs => s1 (v := .pointer (some ⟨b896, 0, none⟩)) hs (za1 rfl (FO.of (off := 0) Try.underlying68 rfl rfl ti65 (by decide))) fun hs => s1 (v := .pointer (some ⟨b898, 0, none⟩)) hs (y_ld rfl Try.underlying65 rfl (Cell.blk (.tail _ (.tail _ (.head _))) rfl)) fun hs => ?_
   obtain ⟨x1451, hx1452, hm⟩ := ob hm
   replace hs := hs.front 1
   replace hs := hs.front 1
   refine zbx (Lr := [.blk b898 (.cells #[v1447, .int .i64 (x1443.2.2.at_)] 98 (0, 0)), .row v1447 21 1 rw1448]) (Lf := .blk b896 (.cells #[.pointer (some ⟨b898, 0, none⟩), v908] 68 (0, 0)) :: .row v908 56 5 rw909 :: .blk b913 (.cells #[.int .i64 (y914.Kind), .string (y914.Name), .string (y914.Text), v1438, .bool (y914.Closed)] 56 (0, 0)) :: L) hs rfl has34 rfl rfl (zao n (f := f1445) (p0 := x1443.2.2) (pb0 := b898) (pv0_0 := v1447) (pv0_0r := rw1448) hW1449 hx1452) (.free rfl) (by decide) ?_; clear hs; (try clear a w)
   rintro _ f1453 _ a w hf1454 ⟨v1455, rw1456, rfl, rfl, hW1457⟩ hs
   replace hR2 := hR2.le hf1454
   replace hW3 := hW3.le hf1454
   replace hW903 := hW903.le hf1454
   replace hW910 := hW910.le hf1454
   replace hR1440 := hR1440.le hf1454
   replace hW1441 := hW1441.le hf1454
   replace hW1449 := hW1449.le hf1454
   replace hle := hle.trans hf1454
   replace hbase1204 := hbase1204.trans hf1454
   refine za0 <| hK35 <| Wq fun hK36 => sM (v := .pointer (some ⟨b896, 0, none⟩)) hs rfl fun hs => ?_
   obtain ⟨x1459, hx1460, hm⟩ := ob hm
   replace hs := hs.front 3
   replace hs := hs.front 2
   replace hs := hs.front 2
   replace hs := hs.front 3
   refine zbx (Lr := [.blk b896 (.cells #[.pointer (some ⟨b898, 0, none⟩), v908] 68 (0, 0)), .blk b898 (.cells #[v1455, .int .i64 (x1451.2.2.at_)] 98 (0, 0)), .row v1455 21 1 rw1456, .row v908 56 5 rw909]) (Lf := .blk b913 (.cells #[.int .i64 (y914.Kind), .string (y914.Name), .string (y914.Text), v1438, .bool (y914.Closed)] 56 (0, 0)) :: L) hs rfl has36 rfl rfl (zk4 n (f := f1453) (p0 := ({c := x1451.2.2, out := y907} : za3)) (pb0 := b896) (pv0_0 := b898) (pv0_1 := v1455) (pv0_1r := rw1456) (pv0_2 := v908) (pv0_2r := rw909) (p1 := 3) hW1457 hW910 hx1460) (.free rfl) (by decide) ?_; clear hs; (try clear a w)
   rintro _ f1461 _ a w hf1462 ⟨r1463, v1465, rw1466, v1468, rw1469, rfl, rfl, hq1464, hW1467, hW1470⟩ hs
   replace hR2 := hR2.le hf1462
   replace hW3 := hW3.le hf1462
   replace hW903 := hW903.le hf1462
   replace hW910 := hW910.le hf1462
   replace hR1440 := hR1440.le hf1462
   replace hW1441 := hW1441.le hf1462
   replace hW1449 := hW1449.le hf1462
   replace hW1457 := hW1457.le hf1462
   replace hle := hle.trans hf1462
   replace hbase1204 := hbase1204.trans hf1462
   obtain ⟨v1471, rfl, ⟨rw1472, hR1473, hW1474⟩⟩ := hq1464
   refine sM (v := .tuple #[.agg #[.int .i64 (x1459.1.Kind), .string (x1459.1.Name), .string (x1459.1.Text), v1471, .bool (x1459.1.Closed)], .bool (x1459.2.1)]) hs rfl fun hs => s1 (v := .agg #[.int .i64 (x1459.1.Kind), .string (x1459.1.Name), .string (x1459.1.Text), v1471, .bool (x1459.1.Closed)]) hs (zar rfl rfl) fun hs => s1 (v := .bool (x1459.2.1)) hs (zar rfl rfl) fun hs => zat (i := 4) hs rfl rfl rfl ti56 ⟨rfl, rfl⟩ (AllC.arr (r := [.int .i64 (x1459.1.Kind), .string (x1459.1.Name), .string (x1459.1.Text), v1471, .bool (x1459.1.Closed)]) ⟨rfl, rfl, rfl, hR1473.one, rfl, trivial⟩) (.free rfl) fun _ _ hs => sA (v := .bool (x1459.2.1)) hs rfl fun hs => za0 <| hK36 <| Ws fun hK37 => Ws fun hK38 => za7 ?_
   refine sM (v := .bool (x1459.2.1)) hs rfl fun hs => s1 (v := .bool ((!x1459.2.1))) hs (zj8 rfl) fun hs => za0 <| hK38 ?_
   refine zaf hs rfl (fun hg1478 => ?_) (fun hg1478 => ?_)
   ·replace hm := oc_t hg1478 hm
    refine Wq fun hK39 => sM (v := .pointer (some ⟨b896, 0, none⟩)) hs rfl fun hs => s1 hs (zab rfl) fun hs => s1 (v := .pointer (some ⟨b896, 1, none⟩)) hs (za1 rfl (FO.of (off := 1) Try.underlying68 rfl rfl ti40 (by decide))) fun hs => s1 (v := v1468) hs (y_ld rfl Try.underlying40 rfl (Cell.blk (.head _) rfl)) fun hs => sA (v := v1468) hs rfl fun hs => za0 <| hK39 <| zau ?_
    obtain ⟨f1479, hf1480, hs2, hR1481⟩ := hs.frzAt 3 rfl
    clear hs; have hs := hs2; clear hs2
    replace hR1473 := hR1473.le hf1480
    replace hW1474 := hW1474.le hf1480
    replace hW1467 := hW1467.le hf1480
    replace hW1470 := hW1470.le hf1480
    replace hle := hle.trans hf1480
    replace hbase1204 := hbase1204.trans hf1480
    obtain rfl := Option.some.inj hm
    refine RtV1 hs rfl (rv_t hs rfl) ?_
    exact ⟨_, f1479, [], rfl, hle, (hs.subL (.cons _ (.cons _ (.cons _ (.cons _ (.refl _)))))).cw, v1468, rfl, rfl, ⟨rw1469, hR1481, hW1470⟩⟩
   replace hm := oc_f hg1478 hm
   refine zah <| hK37 <| Ws fun hK40 => ?_
   have hsD := hs.subL (L' := .blk b896 (.cells #[.pointer (some ⟨b898, 0, none⟩), v1468] 68 (0, 0)) :: .blk b913 (.cells #[.int .i64 (x1459.1.Kind), .string (x1459.1.Name), .string (x1459.1.Text), v1471, .bool (x1459.1.Closed)] 56 (0, 0)) :: []) (.cons_cons _ (.cons _ (.cons _ (.cons _ (.cons_cons _ (List.nil_sublist _))))))
   have hbd1482 := Fz.le.refl f1461
   refine zjc hs (.blk b896 (.cells #[.pointer (some ⟨b898, 0, none⟩), v1468] 68 (0, 0)) :: .blk b913 (.cells #[.int .i64 (x1459.1.Kind), .string (x1459.1.Name), .string (x1459.1.Text), v1471, .bool (x1459.1.Closed)] 56 (0, 0)) :: []) [10] (.look 0 (.look 1 (.look 2 (.look 3 (.look 4 (.look 5 (.any [6] (fun _ => .any [7] (fun _ => .look 8 (.look 9 (.any [10] (fun _ => .done)))))))))))) mixed (by kernel_rfl) fun _ he => uy (v := .pointer (some ⟨b896, 0, none⟩)) 0 he rfl (zaa rfl) fun _ he => uy (v := .pointer (some ⟨b896, 0, none⟩)) 1 he rfl (zaa rfl) fun _ he => uy 2 he rfl (zab rfl) fun _ he => uy (v := .pointer (some ⟨b896, 1, none⟩)) 3 he rfl (za1 rfl (FO.of (off := 1) Try.underlying68 rfl rfl ti40 (by decide))) fun _ he => uy (v := v1468) 4 he rfl (y_ld rfl Try.underlying40 rfl (Cell.blk (.head _) rfl)) fun _ he => uy 5 he rfl (zk8 rfl Try.underlying56 rfl ti56 (.tail _ (.head _)) rfl) fun _ he => ?_
   refine ze2 he rfl ?_; clear he; (try clear a); intro a w hs
   refine zn5 hs rfl Try.underlying40 ti56 (by decide) (AllC.row ⟨rfl, rfl, rfl, hR1473.one, rfl, trivial⟩ rfl) fun v1483 _ _ hs => ?_
   have hW1484 : RW zap f1461 [[.int .i64 (x1459.1.Kind), .string (x1459.1.Name), .string (x1459.1.Text), v1471, .bool (x1459.1.Closed)]] [x1459.1] := RW.single (⟨_, rfl, ⟨rw1472, hR1473, hW1474⟩⟩)
   generalize hgrw1485 : ([[.int .i64 (x1459.1.Kind), .string (x1459.1.Name), .string (x1459.1.Text), v1471, .bool (x1459.1.Closed)]] : List (List Value)) = rw1485 at hs hW1484; clear hgrw1485
   have ho1488 : v1483.oneCell' = true := hs.one (i := 0) rfl
   refine uon hs fun _ he => ?_
   refine ze2 he rfl ?_; clear he; (try clear a); intro a w hs
   obtain ⟨x1489, hx1490, hm⟩ := ob hm
   obtain ⟨hbx1489, hex1489⟩ := zcj hx1490
   have hW1493 := hW1470.append hW1484; rw [hex1489] at hW1493
   refine zcs (i := 4) hs rfl rfl rfl (Rd.st hs (.head _)) Try.underlying40 ti56 (by decide) (by rw [RW.len hW1470, RW.len hW1484]; exact hbx1489) (.free rfl) (by decide) fun v1491 _ _ hs => ?_
   generalize hgx1489 : rw1469 ++ rw1485 = rw1492 at hs hW1493; clear hgx1489
   replace hs := hs.erase 0
   have ho1495 : v1491.oneCell' = true := hs.one (i := 3) rfl
   refine uon hs fun _ he => uy 8 he rfl (zab rfl) fun _ he => uy (v := .pointer (some ⟨b896, 1, none⟩)) 9 he rfl (za1 rfl (FO.of (off := 1) Try.underlying68 rfl rfl ti40 (by decide))) fun _ he => ?_
   refine ze2 he rfl ?_; clear he; (try clear a); intro a w hs
   refine sstore 0 hs rfl rfl rfl ti40 ho1495 fun _ _ hs => uend hs fun _ he => ?_
   refine znq he ?_; clear he; (try clear a); intro w hs; try clear hsD
   refine hK40 <| zms ?_
   exact hG2.at_ 3 _ _ rfl ⟨k1437, Nat.lt_succ_self _, (.inl ⟨rfl, ⟨_, x1459.2.2.c.l, x1459.2.2.c.at_, x1489, x1459.1, b896, b898, v1465, rw1466, v1491, rw1492, b913, [.int .i64 (x1459.1.Kind), .string (x1459.1.Name), .string (x1459.1.Text), v1471, .bool (x1459.1.Closed)], hbase1204, hm, hW1467, hW1493, ⟨_, rfl, ⟨rw1472, hR1473, hW1474⟩⟩, hs.sub ⟨rfl, rfl, trivial⟩⟩⟩)⟩
 intro hB2g G2 hG2
 refine Wq fun hK41 => sM (v := a0) hs rfl fun hs => ?_
 obtain ⟨x1496, hx1497, hm⟩ := ob hm
 refine zen hs rfl has26 rfl (znd n (f := f) (a0 := a0) ⟨rw1, hR2, hW3⟩ hx1497) ?_; clear hs; (try clear a w)
 rintro _ f1498 _ a w hf1499 ⟨b1500, v1501, rw1502, rfl, rfl, hW1503⟩ hs
 replace hR2 := hR2.le hf1499
 replace hW3 := hW3.le hf1499
 replace hle := hle.trans hf1499
 replace hbase1204 := hbase1204.trans hf1499
 refine s1 hs (zes (places := [(0, 1), (1, 1)]) (cs := [.pointer (some ⟨b1500, 0, none⟩), (.slice none 0 0)]) rfl Try.underlying68 ti68 (by kernel_rfl) (by decide) rfl ⟨rfl, trivial⟩) fun hs => sbox hs rfl fun b1508 _ _ hs => sA (v := .pointer (some ⟨b1508, 0, none⟩)) hs rfl fun hs => za0 <| hK41 <| Wq fun hK42 => zbt hs ti56 (.free rfl) (by decide) fun b1510 _ _ hs => za0 <| hK42 ?_
 refine Wq fun hK43 => sA (v := .bool (false)) hs rfl fun hs => za0 <| hK43 <| Wq fun hK44 => sA (v := (.slice none 0 0)) hs rfl fun hs => za0 <| hK44 ?_
 replace hs := hs.nilRow 56 5
 have hW1514 : RW zap f1498 [] ([] : List za5) := trivial
 generalize hgrw1515 : ([] : List (List Value)) = rw1515 at hs hW1514; clear hgrw1515
 replace hs := hs.front 1
 replace hs := hs.front 1
 replace hs := hs.front 4
 replace hs := hs.front 4
 replace hs := hs.front 4
 exact (hB2g n).into (l := 3) rfl (.inl ⟨rfl, ⟨_, x1496.l, x1496.at_, ([] : List za5), ({Kind := 0, Name := (bs []), Text := (bs []), Attrs := ([] : List za9), Closed := false} : za5), b1508, b1500, v1501, rw1502, (.slice none 0 0), rw1515, b1510, [.int .i64 (0), .string ((bs [])), .string ((bs [])), (.slice none 0 0), .bool (false)], hbase1204, hm, hW1503, hW1514, ⟨_, rfl, RS.nil⟩, hs.sub ⟨rfl, rfl, trivial⟩⟩⟩) hG2 (fun l a w k'' _ hJ => ⟨k'', hJ⟩)
end Go.Proofs.Ytklcdfnhdljkjaa
