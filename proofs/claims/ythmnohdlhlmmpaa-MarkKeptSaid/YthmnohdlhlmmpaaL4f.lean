/-
  Walks and laws of this seat; the base is the text Base.
-/
import Derived.Test.YthmnohdlhlmmpaaL4e
import Derived.Test.YthmnohdlhlmmpaaRows
/-
  Models of functions, and that the functions compute them. Printed by lift.py.
-/
namespace Go.Proofs.Ythmnohdlhlmmpaa
open Go.RowKit Go.Sl
/-! (*casement/mark.cutter).tag -/
def mark_cutter_tag_k5 (y482 : ByteArray) (lg705_0 : (List Int) → Int → (List mark_Token) → ByteArray → (List api_Attr) → Bool → api_Attr → Option (mark_Token × Bool × mark_cutter)) (y716 : Bool) (x759 : ByteArray) (y782 : (List Int)) (y787 : Int) (y788 : (List mark_Token)) (y793 : ByteArray) (y796 : (List api_Attr)) : Option (mark_Token × Bool × mark_cutter) :=
  lg705_0 y782 y787 y788 y482 y796 y716 ({Name := x759, Value := y793} : api_Attr)
def mark_cutter_tag_k4 (y482 : ByteArray) (y484 : (List api_Attr)) (lg705_0 : (List Int) → Int → (List mark_Token) → ByteArray → (List api_Attr) → Bool → api_Attr → Option (mark_Token × Bool × mark_cutter)) (y716 : Bool) (x759 : ByteArray) (y782 : (List Int)) (y787 : Int) (y788 : (List mark_Token)) (y793 : ByteArray) (y795 : Bool) : Option (mark_Token × Bool × mark_cutter) :=
  (bif y795 then (appM 32 y484 [({Name := x759, Value := y793} : api_Attr)]).bind fun x807 =>
  mark_cutter_tag_k5 y482 lg705_0 y716 x759 y782 y787 y788 y793 x807 else
  mark_cutter_tag_k5 y482 lg705_0 y716 x759 y782 y787 y788 y793 y484)
def mark_cutter_tag_k3 (n : Nat) (y482 : ByteArray) (y484 : (List api_Attr)) (lg705_0 : (List Int) → Int → (List mark_Token) → ByteArray → (List api_Attr) → Bool → api_Attr → Option (mark_Token × Bool × mark_cutter)) (y716 : Bool) (x759 : ByteArray) (y782 : (List Int)) (y787 : Int) (y788 : (List mark_Token)) (y793 : ByteArray) : Option (mark_Token × Bool × mark_cutter) :=
  (bif (decide ((y484.length : Int) < 64)) then (mark_has n y484 x759).bind fun x814 =>
  mark_cutter_tag_k4 y482 y484 lg705_0 y716 x759 y782 y787 y788 y793 (!x814) else
  mark_cutter_tag_k4 y482 y484 lg705_0 y716 x759 y782 y787 y788 y793 false)
def mark_cutter_tag_k2 (n : Nat) (p1 : Int) (y475 : (List mark_Token)) (y482 : ByteArray) (y484 : (List api_Attr)) (lg705_0 : (List Int) → Int → (List mark_Token) → ByteArray → (List api_Attr) → Bool → api_Attr → Option (mark_Token × Bool × mark_cutter)) (lg705_1 : ByteArray → (List api_Attr) → Bool → (List Int) → Int → (List mark_Token) → Option (mark_Token × Bool × mark_cutter)) (y710 : (List Int)) (y715 : Int) (y716 : Bool) : Option (mark_Token × Bool × mark_cutter) :=
  (source_Cursor_rune_Next n ({l := y710, at_ := y715} : source_Cursor_rune_)).bind fun x718 =>
  (bif (!x718.2.1) then some (({Kind := p1, Name := y482, Text := (bs []), Attrs := y484, Closed := y716} : mark_Token), false, ({c := x718.2.2, out := y475} : mark_cutter)) else
  (bif (decide (x718.1 = 62)) then lg705_1 y482 y484 y716 x718.2.2.l x718.2.2.at_ y475 else
  (mark_cutter_while n ({c := x718.2.2, out := y475} : mark_cutter) (fun z0 => mark_cutter_tag_2 n z0)).bind fun x736 =>
  (appM 4 [x718.1] x736.1).bind fun x753 =>
  (mark_small n x753).bind fun x759 =>
  (mark_cutter_while n x736.2 (fun z0 => mark_blank n z0)).bind fun x761 =>
  (mark_cutter_is n x761.2 0 (bs [61])).bind fun x778 =>
  (bif x778 then (source_Cursor_rune_Next n x761.2.c).bind fun x817 =>
  (mark_cutter_while n ({c := x817.2.2, out := x761.2.out} : mark_cutter) (fun z0 => mark_blank n z0)).bind fun x825 =>
  (mark_cutter_value n x825.2).bind fun x842 =>
  (bif (!x842.2.1) then some (({Kind := p1, Name := y482, Text := (bs []), Attrs := y484, Closed := y716} : mark_Token), false, x842.2.2) else
  (mark_Unescape n x842.1).bind fun x858 =>
  mark_cutter_tag_k3 n y482 y484 lg705_0 y716 x759 x842.2.2.c.l x842.2.2.c.at_ x842.2.2.out x858) else
  mark_cutter_tag_k3 n y482 y484 lg705_0 y716 x759 x761.2.c.l x761.2.c.at_ x761.2.out (bs []))))
def mark_cutter_tag_k7 (n : Nat) (p1 : Int) (y475 : (List mark_Token)) (y482 : ByteArray) (y484 : (List api_Attr)) (lg705_0 : (List Int) → Int → (List mark_Token) → ByteArray → (List api_Attr) → Bool → api_Attr → Option (mark_Token × Bool × mark_cutter)) (lg705_1 : ByteArray → (List api_Attr) → Bool → (List Int) → Int → (List mark_Token) → Option (mark_Token × Bool × mark_cutter)) (y862 : (List Int)) (y867 : Int) (y868 : Bool) (y869 : Int) (lp870 : (List Int) → Int → Bool → Int → Option (mark_Token × Bool × mark_cutter)) (y872 : Bool) : Option (mark_Token × Bool × mark_cutter) :=
  (bif y872 then (source_Cursor_rune_Next n ({l := y862, at_ := y867} : source_Cursor_rune_)).bind fun x874 =>
  (mark_cutter_peek n ({c := x874.2.2, out := y475} : mark_cutter) 0).bind fun x882 =>
  lp870 x874.2.2.l x874.2.2.at_ (decide (y869 = 47)) x882 else
  mark_cutter_tag_k2 n p1 y475 y482 y484 lg705_0 lg705_1 y862 y867 y868)
def mark_cutter_tag_l6 (n : Nat) (p1 : Int) (y475 : (List mark_Token)) (y482 : ByteArray) (y484 : (List api_Attr)) (lg705_0 : (List Int) → Int → (List mark_Token) → ByteArray → (List api_Attr) → Bool → api_Attr → Option (mark_Token × Bool × mark_cutter)) (lg705_1 : ByteArray → (List api_Attr) → Bool → (List Int) → Int → (List mark_Token) → Option (mark_Token × Bool × mark_cutter)) : Nat → (List Int) → Int → Bool → Int → Option (mark_Token × Bool × mark_cutter)
  | 0, _, _, _, _ => none
  | k870 + 1, y862, y867, y868, y869 =>
  (mark_blank n y869).bind fun x884 =>
  (bif x884 then mark_cutter_tag_k7 n p1 y475 y482 y484 lg705_0 lg705_1 y862 y867 y868 y869 (mark_cutter_tag_l6 n p1 y475 y482 y484 lg705_0 lg705_1 k870) true else
  mark_cutter_tag_k7 n p1 y475 y482 y484 lg705_0 lg705_1 y862 y867 y868 y869 (mark_cutter_tag_l6 n p1 y475 y482 y484 lg705_0 lg705_1 k870) (decide (y869 = 47)))
mutual
def mark_cutter_tag_g1_0 (n : Nat) (p1 : Int) : Nat → (List Int) → Int → (List mark_Token) → ByteArray → (List api_Attr) → Bool → api_Attr → Option (mark_Token × Bool × mark_cutter)
  | 0, _, _, _, _, _, _, _ => none
  | k705 + 1, y469, y474, y475, y482, y484, _y489, _y492 =>
  (mark_cutter_peek n ({c := ({l := y469, at_ := y474} : source_Cursor_rune_), out := y475} : mark_cutter) 0).bind fun x706 =>
  mark_cutter_tag_l6 n p1 y475 y482 y484 (mark_cutter_tag_g1_0 n p1 k705) (mark_cutter_tag_g1_1 n p1 k705) n y469 y474 false x706
def mark_cutter_tag_g1_1 (_n : Nat) (p1 : Int) : Nat → ByteArray → (List api_Attr) → Bool → (List Int) → Int → (List mark_Token) → Option (mark_Token × Bool × mark_cutter)
  | 0, _, _, _, _, _, _ => none
  | _k887 + 1, y499, y501, y506, y507, y512, y513 =>
  (bif (decide (p1 = 3)) then some (({Kind := 3, Name := y499, Text := (bs []), Attrs := ([] : List api_Attr), Closed := false} : mark_Token), true, ({c := ({l := y507, at_ := y512} : source_Cursor_rune_), out := y513} : mark_cutter)) else
  some (({Kind := p1, Name := y499, Text := (bs []), Attrs := y501, Closed := y506} : mark_Token), true, ({c := ({l := y507, at_ := y512} : source_Cursor_rune_), out := y513} : mark_cutter)))
end
def mark_cutter_tag (n : Nat) (p0 : mark_cutter) (p1 : Int) : Option (mark_Token × Bool × mark_cutter) :=
  (mark_cutter_while n p0 (fun z0 => mark_cutter_tag_1 n z0)).bind fun x899 =>
  (mark_small n x899.1).bind fun x916 =>
  mark_cutter_tag_g1_0 n p1 n x899.2.c.l x899.2.c.at_ x899.2.out x916 ([] : List api_Attr) false ({Name := (bs []), Value := (bs [])} : api_Attr)
set_option maxRecDepth 20000 in
set_option maxHeartbeats 4000000 in
theorem mark_cutter_tag_ok (n : Nat) {Q : LQ} {f : Fz} {p0 : mark_cutter} {pb0 : Nat} {pv0_0 : Nat} {pv0_1 : Value} {pv0_1r : List (List Value)} {pv0_2 : Value} {pv0_2r : List (List Value)} {p1 : Int} {res : (mark_Token × Bool × mark_cutter)} (pv0_1h : RW (tInt .i32) f pv0_1r p0.c.l) (pv0_2h : Q.R f pv0_2r p0.out) (hm : mark_cutter_tag n p0 p1 = some res) : Does Try.prog 48 [.pointer (some ⟨pb0, 0, none⟩), .int .i64 p1] f [.blk pb0 (.cells #[.pointer (some ⟨pv0_0, 0, none⟩), pv0_2] 71 (0, 0)), .blk pv0_0 (.cells #[pv0_1, .int .i64 p0.c.at_] 94 (0, 0)), .row pv0_1 21 1 pv0_1r, .row pv0_2 44 5 pv0_2r] (fun r f' L' => ∃ (u0 : List Value) (dp0_1 : Value) (dp0_1r : List (List Value)) (dp0_2 : Value) (dp0_2r : List (List Value)), L' = [.blk pb0 (.cells #[.pointer (some ⟨pv0_0, 0, none⟩), dp0_2] 71 (0, 0)), .blk pv0_0 (.cells #[dp0_1, .int .i64 res.2.2.c.at_] 94 (0, 0)), .row dp0_1 21 1 dp0_1r, .row dp0_2 44 5 dp0_2r] ∧ r = .tuple #[.agg u0.toArray, .bool res.2.1] ∧ (tO f).R f' u0 res.1 ∧ RW (tInt .i32) f' dp0_1r res.2.2.c.l ∧ Q.R f' dp0_2r res.2.2.out) := by
 unfold mark_cutter_tag at hm
 intro w0 L w hC
 replace hC : Cw w0 f (.blk pb0 (.cells #[.pointer (some ⟨pv0_0, 0, none⟩), pv0_2] 71 (0, 0)) :: .blk pv0_0 (.cells #[pv0_1, .int .i64 p0.c.at_] 94 (0, 0)) :: .row pv0_1 21 1 pv0_1r :: .row pv0_2 44 5 pv0_2r :: L) w := hC
 refine enter Try.func48 rfl Try.ntmps48 (by simp) hC fun a hs => ?_
 have hle := Fz.le.refl f
 refine W_seq fun K1 hK1 => ?_
 refine W_region ?_
 refine RL_alloc hs ti44 (.free rfl) (by decide) ?_; clear hs; (try clear a w); intro b7 a w hs
 replace hs : St _ _ _ (.blk b7 (.cells #[.int .i64 (0), .string ((bs [])), .string ((bs [])), (.slice none 0 0), .bool (false)] 44 (0, 0)) :: .blk pb0 (.cells #[.pointer (some ⟨pv0_0, 0, none⟩), pv0_2] 71 (0, 0)) :: .blk pv0_0 (.cells #[pv0_1, .int .i64 (p0.c.at_)] 94 (0, 0)) :: .row pv0_1 21 1 pv0_1r :: .row pv0_2 44 5 pv0_2r :: L) _ _ _ := hs
 refine sy (v := .bool (false)) hs (y_assign rfl) ?_; clear hs; (try clear a w); intro a w hs
 refine RL_nil ?_
 refine hK1 _ _ ?_; clear hK1
 have hbase704 := Fz.le.refl f
 refine W_scopeS (fun (l k : Nat) a w => (l = 0 ∧ ∃ (f467 : Fz) (y469 : (List Int)) (y474 : Int) (y475 : (List mark_Token)) (y482 : ByteArray) (y484 : (List api_Attr)) (y489 : Bool) (y492 : api_Attr) (v470 : Value) (rw471 : List (List Value)) (v476 : Value) (rw477 : List (List Value)) (b481 : Nat) (v485 : Value) (rw486 : List (List Value)) (b491 : Nat) (r493 : List Value), Fz.le f f467 ∧ mark_cutter_tag_g1_0 n p1 k y469 y474 y475 y482 y484 y489 y492 = some res ∧ RW (tInt .i32) f467 rw471 y469 ∧ Q.R f467 rw477 y475 ∧ RW t_api_Attr f467 rw486 y484 ∧ t_api_Attr.R f467 r493 y492 ∧ St 104 w0 f467 (.blk b481 (.cells #[.int .i64 (p1), .string (y482), .string ((bs [])), v485, .bool (y489)] 44 (0, 0)) :: .row v485 29 2 rw486 :: .blk b491 (.cells r493.toArray 29 (0, 0)) :: .blk b7 (.cells #[.int .i64 (0), .string ((bs [])), .string ((bs [])), (.slice none 0 0), .bool (false)] 44 (0, 0)) :: .blk pb0 (.cells #[.pointer (some ⟨pv0_0, 0, none⟩), v476] 71 (0, 0)) :: .blk pv0_0 (.cells #[v470, .int .i64 (y474)] 94 (0, 0)) :: .row v470 21 1 rw471 :: .row v476 44 5 rw477 :: L) [(0, .pointer (some ⟨pb0, 0, none⟩)), (1, .int .i64 (p1)), (4, .pointer (some ⟨b7, 0, none⟩)), (6, .pointer (some ⟨b481, 0, none⟩)), (7, .pointer (some ⟨b491, 0, none⟩))] a w) ∨ (l = 1 ∧ ∃ (f495 : Fz) (y499 : ByteArray) (y501 : (List api_Attr)) (y506 : Bool) (y507 : (List Int)) (y512 : Int) (y513 : (List mark_Token)) (b498 : Nat) (v502 : Value) (rw503 : List (List Value)) (v508 : Value) (rw509 : List (List Value)) (v514 : Value) (rw515 : List (List Value)), Fz.le f f495 ∧ mark_cutter_tag_g1_1 n p1 k y499 y501 y506 y507 y512 y513 = some res ∧ RW t_api_Attr f495 rw503 y501 ∧ RW (tInt .i32) f495 rw509 y507 ∧ Q.R f495 rw515 y513 ∧ St 104 w0 f495 (.blk b498 (.cells #[.int .i64 (p1), .string (y499), .string ((bs [])), v502, .bool (y506)] 44 (0, 0)) :: .row v502 29 2 rw503 :: .blk b7 (.cells #[.int .i64 (0), .string ((bs [])), .string ((bs [])), (.slice none 0 0), .bool (false)] 44 (0, 0)) :: .blk pb0 (.cells #[.pointer (some ⟨pv0_0, 0, none⟩), v514] 71 (0, 0)) :: .blk pv0_0 (.cells #[v508, .int .i64 (y512)] 94 (0, 0)) :: .row v508 21 1 rw509 :: .row v514 44 5 rw515 :: L) [(1, .int .i64 (p1)), (4, .pointer (some ⟨b7, 0, none⟩)), (6, .pointer (some ⟨b498, 0, none⟩))] a w)) rfl ?_ ?_
 ·(try clear hs); (try clear hm)
  intro k ih l a w R hl hJ G2 hG2
  rcases hJ with ⟨rfl, hJ⟩ | ⟨rfl, hJ⟩
  ·cases hl; revert a w
   rintro a w ⟨f467, y469, y474, y475, y482, y484, y489, y492, v470, rw471, v476, rw477, b481, v485, rw486, b491, r493, hl468, hm, hW472, hW478, hW487, hq494, hs⟩
   replace pv0_1h := pv0_1h.le hl468
   replace pv0_2h := pv0_2h.le hl468
   replace hle := hle.trans hl468
   obtain rfl : _ = ([.string (y492.Name), .string (y492.Value)] : List Value) := hq494
   replace hs : St _ _ _ (.blk b481 (.cells #[.int .i64 (p1), .string (y482), .string ((bs [])), v485, .bool (y489)] 44 (0, 0)) :: .row v485 29 2 rw486 :: .blk b491 (.cells #[.string (y492.Name), .string (y492.Value)] 29 (0, 0)) :: .blk b7 (.cells #[.int .i64 (0), .string ((bs [])), .string ((bs [])), (.slice none 0 0), .bool (false)] 44 (0, 0)) :: .blk pb0 (.cells #[.pointer (some ⟨pv0_0, 0, none⟩), v476] 71 (0, 0)) :: .blk pv0_0 (.cells #[v470, .int .i64 (y474)] 94 (0, 0)) :: .row v470 21 1 rw471 :: .row v476 44 5 rw477 :: L) _ _ _ := hs
   have hbase704 := hl468
   cases k with
   | zero => simp [mark_cutter_tag_g1_0] at hm
   | succ k705 =>
    rw [mark_cutter_tag_g1_0] at hm
    refine W_seq fun K3 hK3 => ?_
    refine W_region ?_
    refine sy (v := .pointer (some ⟨b481, 4, none⟩)) hs (y_fieldAddr rfl (FO.of (off := 4) Try.underlying44 rfl rfl ti4 (by decide))) ?_; clear hs; (try clear a w); intro a w hs
    refine sstore 0 hs rfl rfl rfl ti4 rfl ?_; clear hs; (try clear a w); intro a w hs
    replace hs : St _ _ _ (.blk b481 (.cells #[.int .i64 (p1), .string (y482), .string ((bs [])), v485, .bool (false)] 44 (0, 0)) :: .row v485 29 2 rw486 :: .blk b491 (.cells #[.string (y492.Name), .string (y492.Value)] 29 (0, 0)) :: .blk b7 (.cells #[.int .i64 (0), .string ((bs [])), .string ((bs [])), (.slice none 0 0), .bool (false)] 44 (0, 0)) :: .blk pb0 (.cells #[.pointer (some ⟨pv0_0, 0, none⟩), v476] 71 (0, 0)) :: .blk pv0_0 (.cells #[v470, .int .i64 (y474)] 94 (0, 0)) :: .row v470 21 1 rw471 :: .row v476 44 5 rw477 :: L) _ _ _ := hs
    refine RL_nil ?_
    refine hK3 _ _ ?_; clear hK3
    refine W_seq fun K4 hK4 => ?_
    refine W_seq fun K5 hK5 => ?_
    refine W_region ?_
    refine sy (v := .pointer (some ⟨pb0, 0, none⟩)) hs (y_move rfl) ?_; clear hs; (try clear a w); intro a w hs
    obtain ⟨x706, hx707, hm⟩ := ob hm
    refine sy hs (y_callR (cap := []) (Lf := .blk b481 (.cells #[.int .i64 (p1), .string (y482), .string ((bs [])), v485, .bool (false)] 44 (0, 0)) :: .row v485 29 2 rw486 :: .blk b491 (.cells #[.string (y492.Name), .string (y492.Value)] 29 (0, 0)) :: .blk b7 (.cells #[.int .i64 (0), .string ((bs [])), .string ((bs [])), (.slice none 0 0), .bool (false)] 44 (0, 0)) :: L) rfl has43 rfl ((((perm_at _ 7 rfl).trans (perm_at _ 7 rfl)).trans (perm_at _ 7 rfl)).trans (perm_at _ 7 rfl)) (mark_cutter_peek_ok n (f := f467) (p0 := ({c := ({l := y469, at_ := y474} : source_Cursor_rune_), out := y475} : mark_cutter)) (pb0 := pb0) (pv0_0 := pv0_0) (pv0_1 := v470) (pv0_1r := rw471) (pv0_2 := v476) (pv0_2r := rw477) (p1 := 0) hW472 hW478 hx707)) ?_; clear hs; (try clear a w); intro a w hs
    refine sy (v := .int .i32 (x706)) hs (y_assign rfl) ?_; clear hs; (try clear a w); intro a w hs
    refine RL_nil ?_
    refine hK5 _ _ ?_; clear hK5
    have hbase717 := Fz.le.refl f467
    refine W_post (fun a w => ∃ (f708 : Fz) (y710 : (List Int)) (y715 : Int) (y716 : Bool) (v711 : Value) (rw712 : List (List Value)), Fz.le f467 f708 ∧ mark_cutter_tag_k2 n p1 y475 y482 y484 (mark_cutter_tag_g1_0 n p1 k705) (mark_cutter_tag_g1_1 n p1 k705) y710 y715 y716 = some res ∧ RW (tInt .i32) f708 rw712 y710 ∧ St 104 w0 f708 (.blk b481 (.cells #[.int .i64 (p1), .string (y482), .string ((bs [])), v485, .bool (y716)] 44 (0, 0)) :: .row v485 29 2 rw486 :: .blk b491 (.cells #[.string (y492.Name), .string (y492.Value)] 29 (0, 0)) :: .blk b7 (.cells #[.int .i64 (0), .string ((bs [])), .string ((bs [])), (.slice none 0 0), .bool (false)] 44 (0, 0)) :: .blk pb0 (.cells #[.pointer (some ⟨pv0_0, 0, none⟩), v476] 71 (0, 0)) :: .blk pv0_0 (.cells #[v711, .int .i64 (y715)] 94 (0, 0)) :: .row v711 21 1 rw712 :: .row v476 44 5 rw477 :: L) [(0, .pointer (some ⟨pb0, 0, none⟩)), (1, .int .i64 (p1)), (4, .pointer (some ⟨b7, 0, none⟩)), (6, .pointer (some ⟨b481, 0, none⟩)), (7, .pointer (some ⟨b491, 0, none⟩))] a w) ?_ ?_
    ·clear hs hm
     clear hbase717
     rintro a w ⟨f708, y710, y715, y716, v711, rw712, hl709, hm, hW713, hs⟩
     replace pv0_1h := pv0_1h.le hl709
     replace pv0_2h := pv0_2h.le hl709
     replace hW472 := hW472.le hl709
     replace hW478 := hW478.le hl709
     replace hW487 := hW487.le hl709
     replace hle := hle.trans hl709
     replace hbase704 := hbase704.trans hl709
     replace hs : St _ _ _ (.blk b481 (.cells #[.int .i64 (p1), .string (y482), .string ((bs [])), v485, .bool (y716)] 44 (0, 0)) :: .row v485 29 2 rw486 :: .blk b491 (.cells #[.string (y492.Name), .string (y492.Value)] 29 (0, 0)) :: .blk b7 (.cells #[.int .i64 (0), .string ((bs [])), .string ((bs [])), (.slice none 0 0), .bool (false)] 44 (0, 0)) :: .blk pb0 (.cells #[.pointer (some ⟨pv0_0, 0, none⟩), v476] 71 (0, 0)) :: .blk pv0_0 (.cells #[v711, .int .i64 (y715)] 94 (0, 0)) :: .row v711 21 1 rw712 :: .row v476 44 5 rw477 :: L) _ _ _ := hs
     unfold mark_cutter_tag_k2 at hm
     refine hK4 _ _ ?_; clear hK4
     refine W_seq fun K6 hK6 => ?_
     refine W_region ?_
     refine sy (v := .pointer (some ⟨pb0, 0, none⟩)) hs (y_move rfl) ?_; clear hs; (try clear a w); intro a w hs
     refine sy hs (y_nilCheck rfl) ?_; clear hs; (try clear a w); intro a w hs
     refine sy (v := .pointer (some ⟨pb0, 0, none⟩)) hs (y_fieldAddr rfl (FO.of (off := 0) Try.underlying71 rfl rfl ti68 (by decide))) ?_; clear hs; (try clear a w); intro a w hs
     refine sy (v := .pointer (some ⟨pv0_0, 0, none⟩)) hs (y_ld rfl Try.underlying68 rfl (Cell.blk (.tail _ (.tail _ (.tail _ (.tail _ (.head _))))) rfl)) ?_; clear hs; (try clear a w); intro a w hs
     obtain ⟨x718, hx719, hm⟩ := ob hm
     replace hs := hs.front 6
     replace hs := hs.front 6
     replace hs : St _ _ _ (.blk pv0_0 (.cells #[v711, .int .i64 (y715)] 94 (0, 0)) :: .row v711 21 1 rw712 :: .blk b481 (.cells #[.int .i64 (p1), .string (y482), .string ((bs [])), v485, .bool (y716)] 44 (0, 0)) :: .row v485 29 2 rw486 :: .blk b491 (.cells #[.string (y492.Name), .string (y492.Value)] 29 (0, 0)) :: .blk b7 (.cells #[.int .i64 (0), .string ((bs [])), .string ((bs [])), (.slice none 0 0), .bool (false)] 44 (0, 0)) :: .blk pb0 (.cells #[.pointer (some ⟨pv0_0, 0, none⟩), v476] 71 (0, 0)) :: .row v476 44 5 rw477 :: L) _ _ _ := hs
     refine RL_call (Lr := [.blk pv0_0 (.cells #[v711, .int .i64 (y715)] 94 (0, 0)), .row v711 21 1 rw712]) (Lf := .blk b481 (.cells #[.int .i64 (p1), .string (y482), .string ((bs [])), v485, .bool (y716)] 44 (0, 0)) :: .row v485 29 2 rw486 :: .blk b491 (.cells #[.string (y492.Name), .string (y492.Value)] 29 (0, 0)) :: .blk b7 (.cells #[.int .i64 (0), .string ((bs [])), .string ((bs [])), (.slice none 0 0), .bool (false)] 44 (0, 0)) :: .blk pb0 (.cells #[.pointer (some ⟨pv0_0, 0, none⟩), v476] 71 (0, 0)) :: .row v476 44 5 rw477 :: L) hs rfl has47 rfl rfl (source_Cursor_rune_Next_ok n (f := f708) (p0 := ({l := y710, at_ := y715} : source_Cursor_rune_)) (pb0 := pv0_0) (pv0_0 := v711) (pv0_0r := rw712) hW713 hx719) (.free rfl) (by decide) ?_; clear hs; (try clear a w)
     rintro _ f720 _ a w hf721 ⟨v722, rw723, rfl, rfl, hW724⟩ hs
     replace pv0_1h := pv0_1h.le hf721
     replace pv0_2h := pv0_2h.le hf721
     replace hW472 := hW472.le hf721
     replace hW478 := hW478.le hf721
     replace hW487 := hW487.le hf721
     replace hW713 := hW713.le hf721
     replace hle := hle.trans hf721
     replace hbase704 := hbase704.trans hf721
     replace hs : St _ _ _ (.blk pv0_0 (.cells #[v722, .int .i64 (x718.2.2.at_)] 94 (0, 0)) :: .row v722 21 1 rw723 :: .blk b481 (.cells #[.int .i64 (p1), .string (y482), .string ((bs [])), v485, .bool (y716)] 44 (0, 0)) :: .row v485 29 2 rw486 :: .blk b491 (.cells #[.string (y492.Name), .string (y492.Value)] 29 (0, 0)) :: .blk b7 (.cells #[.int .i64 (0), .string ((bs [])), .string ((bs [])), (.slice none 0 0), .bool (false)] 44 (0, 0)) :: .blk pb0 (.cells #[.pointer (some ⟨pv0_0, 0, none⟩), v476] 71 (0, 0)) :: .row v476 44 5 rw477 :: L) _ _ _ := hs
     refine sy (v := .tuple #[.int .i32 (x718.1), .bool (x718.2.1)]) hs (y_move rfl) ?_; clear hs; (try clear a w); intro a w hs
     refine sy (v := .int .i32 (x718.1)) hs (y_extract rfl rfl) ?_; clear hs; (try clear a w); intro a w hs
     refine sy (v := .bool (x718.2.1)) hs (y_extract rfl rfl) ?_; clear hs; (try clear a w); intro a w hs
     refine sy (v := .int .i32 (x718.1)) hs (y_assign rfl) ?_; clear hs; (try clear a w); intro a w hs
     refine sy (v := .bool (x718.2.1)) hs (y_assign rfl) ?_; clear hs; (try clear a w); intro a w hs
     refine RL_nil ?_
     refine hK6 _ _ ?_; clear hK6
     refine W_seq fun K7 hK7 => ?_
     refine W_seq fun K8 hK8 => ?_
     refine W_region ?_
     refine sy (v := .bool (x718.2.1)) hs (y_move rfl) ?_; clear hs; (try clear a w); intro a w hs
     refine sy (v := .bool ((!x718.2.1))) hs (y_not rfl) ?_; clear hs; (try clear a w); intro a w hs
     refine RL_nil ?_
     refine hK8 _ _ ?_; clear hK8
     refine W_cond hs rfl (fun hg726 => ?_) (fun hg726 => ?_)
     ·replace hm := oc_t hg726 hm
      refine W_seq fun K9 hK9 => ?_
      refine W_region ?_
      refine sy hs (y_ldB rfl Try.underlying44 rfl ti44 (.tail _ (.tail _ (.head _))) rfl) ?_; clear hs; (try clear a w); intro a w hs
      refine RL_storeAll (i := 5) hs rfl rfl rfl ti44 ⟨rfl, rfl⟩ (AllC.arr (r := [.int .i64 (p1), .string (y482), .string ((bs [])), v485, .bool (y716)]) ⟨rfl, rfl, rfl, (hs.one (i := 3) rfl), rfl, trivial⟩) (.free rfl) ?_; clear hs; (try clear a w); intro a w hs
      replace hs : St _ _ _ (.blk pv0_0 (.cells #[v722, .int .i64 (x718.2.2.at_)] 94 (0, 0)) :: .row v722 21 1 rw723 :: .blk b481 (.cells #[.int .i64 (p1), .string (y482), .string ((bs [])), v485, .bool (y716)] 44 (0, 0)) :: .row v485 29 2 rw486 :: .blk b491 (.cells #[.string (y492.Name), .string (y492.Value)] 29 (0, 0)) :: .blk b7 (.cells #[.int .i64 (p1), .string (y482), .string ((bs [])), v485, .bool (y716)] 44 (0, 0)) :: .blk pb0 (.cells #[.pointer (some ⟨pv0_0, 0, none⟩), v476] 71 (0, 0)) :: .row v476 44 5 rw477 :: L) _ _ _ := hs
      refine sy (v := .bool (false)) hs (y_assign rfl) ?_; clear hs; (try clear a w); intro a w hs
      refine RL_nil ?_
      refine hK9 _ _ ?_; clear hK9
      refine W_ret ?_
      obtain ⟨f727, hf728, hs2, hR729, hO⟩ := hs.frzO 3 rfl hle
      clear hs; have hs := hs2; clear hs2
      replace hW478 := hW478.le hf728
      replace hW487 := hW487.le hf728
      replace hW724 := hW724.le hf728
      replace hle := hle.trans hf728
      replace hbase704 := hbase704.trans hf728
      replace hs : St _ _ _ (.blk pv0_0 (.cells #[v722, .int .i64 (x718.2.2.at_)] 94 (0, 0)) :: .row v722 21 1 rw723 :: .blk b481 (.cells #[.int .i64 (p1), .string (y482), .string ((bs [])), v485, .bool (y716)] 44 (0, 0)) :: .blk b491 (.cells #[.string (y492.Name), .string (y492.Value)] 29 (0, 0)) :: .blk b7 (.cells #[.int .i64 (p1), .string (y482), .string ((bs [])), v485, .bool (y716)] 44 (0, 0)) :: .blk pb0 (.cells #[.pointer (some ⟨pv0_0, 0, none⟩), v476] 71 (0, 0)) :: .row v476 44 5 rw477 :: L) _ _ _ := hs
      obtain rfl := Option.some.inj hm
      replace hs := hs.front 6
      replace hs := hs.front 2
      replace hs := hs.front 2
      replace hs := hs.front 6
      replace hs : St _ _ _ (.blk pb0 (.cells #[.pointer (some ⟨pv0_0, 0, none⟩), v476] 71 (0, 0)) :: .blk pv0_0 (.cells #[v722, .int .i64 (x718.2.2.at_)] 94 (0, 0)) :: .row v722 21 1 rw723 :: .row v476 44 5 rw477 :: .blk b481 (.cells #[.int .i64 (p1), .string (y482), .string ((bs [])), v485, .bool (y716)] 44 (0, 0)) :: .blk b491 (.cells #[.string (y492.Name), .string (y492.Value)] 29 (0, 0)) :: .blk b7 (.cells #[.int .i64 (p1), .string (y482), .string ((bs [])), v485, .bool (y716)] 44 (0, 0)) :: L) _ _ _ := hs
      refine RtV2 hs rfl (rv_a hs rfl Try.underlying44 rfl ti44 (fun j u hj => Cell.blk (.tail _ (.tail _ (.tail _ (.tail _ (.tail _ (.tail _ (.head _))))))) hj) rfl) (rv_t hs rfl) ?_
      exact ⟨_, f727, [.blk pb0 (.cells #[.pointer (some ⟨pv0_0, 0, none⟩), v476] 71 (0, 0)), .blk pv0_0 (.cells #[v722, .int .i64 (x718.2.2.at_)] 94 (0, 0)), .row v722 21 1 rw723, .row v476 44 5 rw477], rfl, hle, (hs.subL (.cons_cons _ (.cons_cons _ (.cons_cons _ (.cons_cons _ (.cons _ (.cons _ (.cons _ (.refl _))))))))).cw, [.int .i64 (p1), .string (y482), .string ((bs [])), v485, .bool (y716)], v722, rw723, v476, rw477, rfl, rfl, ⟨_, rfl, ⟨rw486, hR729, hW487⟩, hO⟩, hW724, hW478⟩
     ·replace hm := oc_f hg726 hm
      refine W_skip ?_
      refine hK7 _ _ ?_; clear hK7
      refine W_seq fun K10 hK10 => ?_
      refine W_seq fun K11 hK11 => ?_
      refine W_region ?_
      refine sy (v := .int .i32 (x718.1)) hs (y_move rfl) ?_; clear hs; (try clear a w); intro a w hs
      refine sy hs (y_eql rfl rfl) ?_; clear hs; (try clear a w); intro a w hs
      refine RL_nil ?_
      refine hK11 _ _ ?_; clear hK11
      refine W_cond hs rfl (fun hg730 => ?_) (fun hg730 => ?_)
      ·replace hm := oc_t hg730 hm
       refine W_goto ?_
       replace hs : St _ _ _ (.blk pv0_0 (.cells #[v722, .int .i64 (x718.2.2.at_)] 94 (0, 0)) :: .row v722 21 1 rw723 :: .blk b481 (.cells #[.int .i64 (p1), .string (y482), .string ((bs [])), v485, .bool (y716)] 44 (0, 0)) :: .row v485 29 2 rw486 :: .blk b491 (.cells #[.string (y492.Name), .string (y492.Value)] 29 (0, 0)) :: .blk b7 (.cells #[.int .i64 (0), .string ((bs [])), .string ((bs [])), (.slice none 0 0), .bool (false)] 44 (0, 0)) :: .blk pb0 (.cells #[.pointer (some ⟨pv0_0, 0, none⟩), v476] 71 (0, 0)) :: .row v476 44 5 rw477 :: L) _ _ _ := hs
       replace hs : St _ _ _ (.blk pv0_0 (.cells #[v722, .int .i64 (x718.2.2.at_)] 94 (0, 0)) :: .row v722 21 1 rw723 :: .blk b481 (.cells #[.int .i64 (p1), .string (y482), .string ((bs [])), v485, .bool (y716)] 44 (0, 0)) :: .row v485 29 2 rw486 :: .blk b491 (.cells #[.string (y492.Name), .string (y492.Value)] 29 (0, 0)) :: .blk b7 (.cells #[.int .i64 (0), .string ((bs [])), .string ((bs [])), (.slice none 0 0), .bool (false)] 44 (0, 0)) :: .blk pb0 (.cells #[.pointer (some ⟨pv0_0, 0, none⟩), v476] 71 (0, 0)) :: .row v476 44 5 rw477 :: L) _ _ _ := hs
       replace hs := hs.front 7
       replace hs := hs.front 2
       replace hs := hs.front 2
       replace hs := hs.front 7
       replace hs := hs.front 7
       replace hs := hs.front 6
       replace hs := hs.front 6
       replace hs : St _ _ _ (.blk b481 (.cells #[.int .i64 (p1), .string (y482), .string ((bs [])), v485, .bool (y716)] 44 (0, 0)) :: .row v485 29 2 rw486 :: .blk b7 (.cells #[.int .i64 (0), .string ((bs [])), .string ((bs [])), (.slice none 0 0), .bool (false)] 44 (0, 0)) :: .blk pb0 (.cells #[.pointer (some ⟨pv0_0, 0, none⟩), v476] 71 (0, 0)) :: .blk pv0_0 (.cells #[v722, .int .i64 (x718.2.2.at_)] 94 (0, 0)) :: .row v722 21 1 rw723 :: .row v476 44 5 rw477 :: .blk b491 (.cells #[.string (y492.Name), .string (y492.Value)] 29 (0, 0)) :: L) _ _ _ := hs
       exact hG2.at_ 1 _ _ rfl ⟨k705, Nat.lt_succ_self _, (.inr (⟨rfl, ⟨_, y482, y484, y716, x718.2.2.l, x718.2.2.at_, y475, b481, v485, rw486, v722, rw723, v476, rw477, hbase704, hm, hW487, hW724, hW478, hs.subs ⟨rfl, rfl, rfl, trivial⟩ (.cons_cons _ (.cons_cons _ (.cons_cons _ (.cons_cons _ (.cons_cons _ (.cons_cons _ (.cons_cons _ (.cons _ (.refl _)))))))))⟩⟩))⟩
      ·replace hm := oc_f hg730 hm
       refine W_skip ?_
       refine hK10 _ _ ?_; clear hK10
       refine W_seq fun K12 hK12 => ?_
       refine W_region ?_
       refine sy (v := .int .i32 (x718.1)) hs (y_move rfl) ?_; clear hs; (try clear a w); intro a w hs
       refine RL_bs1s hs rfl Try.underlying32 ti21 rfl rfl ?_; clear hs; (try clear a w); intro v731 a w hs
       have hW732 : RW (tInt .i32) f720 [[.int .i32 (x718.1)]] [x718.1] := RW.single (rfl)
       generalize hgrw733 : ([[.int .i32 (x718.1)]] : List (List Value)) = rw733 at hs hW732; clear hgrw733
       replace hs : St _ _ _ (.row v731 21 1 rw733 :: .blk pv0_0 (.cells #[v722, .int .i64 (x718.2.2.at_)] 94 (0, 0)) :: .row v722 21 1 rw723 :: .blk b481 (.cells #[.int .i64 (p1), .string (y482), .string ((bs [])), v485, .bool (y716)] 44 (0, 0)) :: .row v485 29 2 rw486 :: .blk b491 (.cells #[.string (y492.Name), .string (y492.Value)] 29 (0, 0)) :: .blk b7 (.cells #[.int .i64 (0), .string ((bs [])), .string ((bs [])), (.slice none 0 0), .bool (false)] 44 (0, 0)) :: .blk pb0 (.cells #[.pointer (some ⟨pv0_0, 0, none⟩), v476] 71 (0, 0)) :: .row v476 44 5 rw477 :: L) _ _ _ := hs
       refine sy (v := .pointer (some ⟨pb0, 0, none⟩)) hs (y_move rfl) ?_; clear hs; (try clear a w); intro a w hs
       obtain ⟨x736, hx737, hm⟩ := ob hm
       replace hs := hs.front 8
       replace hs := hs.front 3
       replace hs := hs.front 3
       replace hs := hs.front 8
       replace hs : St _ _ _ (.blk pb0 (.cells #[.pointer (some ⟨pv0_0, 0, none⟩), v476] 71 (0, 0)) :: .blk pv0_0 (.cells #[v722, .int .i64 (x718.2.2.at_)] 94 (0, 0)) :: .row v722 21 1 rw723 :: .row v476 44 5 rw477 :: .row v731 21 1 rw733 :: .blk b481 (.cells #[.int .i64 (p1), .string (y482), .string ((bs [])), v485, .bool (y716)] 44 (0, 0)) :: .row v485 29 2 rw486 :: .blk b491 (.cells #[.string (y492.Name), .string (y492.Value)] 29 (0, 0)) :: .blk b7 (.cells #[.int .i64 (0), .string ((bs [])), .string ((bs [])), (.slice none 0 0), .bool (false)] 44 (0, 0)) :: L) _ _ _ := hs
       refine RL_call (Lr := [.blk pb0 (.cells #[.pointer (some ⟨pv0_0, 0, none⟩), v476] 71 (0, 0)), .blk pv0_0 (.cells #[v722, .int .i64 (x718.2.2.at_)] 94 (0, 0)), .row v722 21 1 rw723, .row v476 44 5 rw477]) (Lf := .row v731 21 1 rw733 :: .blk b481 (.cells #[.int .i64 (p1), .string (y482), .string ((bs [])), v485, .bool (y716)] 44 (0, 0)) :: .row v485 29 2 rw486 :: .blk b491 (.cells #[.string (y492.Name), .string (y492.Value)] 29 (0, 0)) :: .blk b7 (.cells #[.int .i64 (0), .string ((bs [])), .string ((bs [])), (.slice none 0 0), .bool (false)] 44 (0, 0)) :: L) hs rfl has67 rfl rfl (mark_cutter_while_ok n (f := f720) (p0 := ({c := x718.2.2, out := y475} : mark_cutter)) (pb0 := pb0) (pv0_0 := pv0_0) (pv0_1 := v722) (pv0_1r := rw723) (pv0_2 := v476) (pv0_2r := rw477) (g1 := 70) (cap1 := []) hW724 hW478 has70 (fun f9 hle9 z0 r9  h9 => mark_cutter_tag_2_ok n (f := f9)   h9) hx737) (.free rfl) (by decide) ?_; clear hs; (try clear a w)
       rintro v740 f738 _ a w hf739 ⟨_, v744, rw745, v747, rw748, rfl, rfl, ⟨rw741, hR742, hW743⟩, hW746, hW749⟩ hs
       replace pv0_1h := pv0_1h.le hf739
       replace pv0_2h := pv0_2h.le hf739
       replace hW472 := hW472.le hf739
       replace hW478 := hW478.le hf739
       replace hW487 := hW487.le hf739
       replace hW713 := hW713.le hf739
       replace hW724 := hW724.le hf739
       replace hW732 := hW732.le hf739
       replace hle := hle.trans hf739
       replace hbase704 := hbase704.trans hf739
       replace hs : St _ _ _ (.blk pb0 (.cells #[.pointer (some ⟨pv0_0, 0, none⟩), v747] 71 (0, 0)) :: .blk pv0_0 (.cells #[v744, .int .i64 (x736.2.c.at_)] 94 (0, 0)) :: .row v744 21 1 rw745 :: .row v747 44 5 rw748 :: .row v731 21 1 rw733 :: .blk b481 (.cells #[.int .i64 (p1), .string (y482), .string ((bs [])), v485, .bool (y716)] 44 (0, 0)) :: .row v485 29 2 rw486 :: .blk b491 (.cells #[.string (y492.Name), .string (y492.Value)] 29 (0, 0)) :: .blk b7 (.cells #[.int .i64 (0), .string ((bs [])), .string ((bs [])), (.slice none 0 0), .bool (false)] 44 (0, 0)) :: L) _ _ _ := hs
       obtain ⟨x753, hx754, hm⟩ := ob hm
       obtain ⟨hbx753, hex753⟩ := appM_some hx754
       have hW757 := hW732.append hW743; rw [hex753] at hW757
       refine RL_append (i := 4) hs rfl rfl rfl hR742.up Try.underlying32 ti21 (by decide) (by rw [RW.len hW732, RW.len hW743]; exact hbx753) (.free rfl) (by decide) ?_; clear hs; (try clear a w); intro v755 a w hs
       generalize hgx753 : rw733 ++ rw741 = rw756 at hs hW757; clear hgx753
       replace hs : St _ _ _ (.blk pb0 (.cells #[.pointer (some ⟨pv0_0, 0, none⟩), v747] 71 (0, 0)) :: .blk pv0_0 (.cells #[v744, .int .i64 (x736.2.c.at_)] 94 (0, 0)) :: .row v744 21 1 rw745 :: .row v747 44 5 rw748 :: .row v755 21 1 rw756 :: .blk b481 (.cells #[.int .i64 (p1), .string (y482), .string ((bs [])), v485, .bool (y716)] 44 (0, 0)) :: .row v485 29 2 rw486 :: .blk b491 (.cells #[.string (y492.Name), .string (y492.Value)] 29 (0, 0)) :: .blk b7 (.cells #[.int .i64 (0), .string ((bs [])), .string ((bs [])), (.slice none 0 0), .bool (false)] 44 (0, 0)) :: L) _ _ _ := hs
       obtain ⟨x759, hx760, hm⟩ := ob hm
       refine sy hs (y_callCK (cap := []) rfl has66 rfl (fun w9 hw9 => callsP (Lr := [.row v755 21 1 rw756]) (Lf := .blk pb0 (.cells #[.pointer (some ⟨pv0_0, 0, none⟩), v747] 71 (0, 0)) :: .blk pv0_0 (.cells #[v744, .int .i64 (x736.2.c.at_)] 94 (0, 0)) :: .row v744 21 1 rw745 :: .row v747 44 5 rw748 :: .blk b481 (.cells #[.int .i64 (p1), .string (y482), .string ((bs [])), v485, .bool (y716)] 44 (0, 0)) :: .row v485 29 2 rw486 :: .blk b491 (.cells #[.string (y492.Name), .string (y492.Value)] 29 (0, 0)) :: .blk b7 (.cells #[.int .i64 (0), .string ((bs [])), .string ((bs [])), (.slice none 0 0), .bool (false)] 44 (0, 0)) :: L) (perm_at _ 4 rfl) hw9 (fun Lz w9 hw9 => lent0 hw9 (fun f9_0 w9 hle9_0 hRl0 hw9 => (mark_small_ok n (f := f9_0) (a0 := v755) ⟨rw756, hRl0, hW757.le hle9_0⟩ hx760) w0 _ w9 hw9)))) ?_; clear hs; (try clear a w); intro a w hs
       refine sy hs (y_buildS (places := [(0, 1), (1, 1)]) (cs := [.string (x759), .string ((bs []))]) rfl Try.underlying29 ti29 (by kernel_rfl) (by decide) rfl ⟨rfl, trivial⟩) ?_; clear hs; (try clear a w); intro a w hs
       refine RL_storeAll (i := 7) hs rfl rfl rfl ti29 ⟨rfl, rfl⟩ (AllC.arr (r := [.string (x759), .string ((bs []))]) ⟨rfl, rfl, trivial⟩) (.free rfl) ?_; clear hs; (try clear a w); intro a w hs
       replace hs : St _ _ _ (.blk pb0 (.cells #[.pointer (some ⟨pv0_0, 0, none⟩), v747] 71 (0, 0)) :: .blk pv0_0 (.cells #[v744, .int .i64 (x736.2.c.at_)] 94 (0, 0)) :: .row v744 21 1 rw745 :: .row v747 44 5 rw748 :: .row v755 21 1 rw756 :: .blk b481 (.cells #[.int .i64 (p1), .string (y482), .string ((bs [])), v485, .bool (y716)] 44 (0, 0)) :: .row v485 29 2 rw486 :: .blk b491 (.cells #[.string (x759), .string ((bs []))] 29 (0, 0)) :: .blk b7 (.cells #[.int .i64 (0), .string ((bs [])), .string ((bs [])), (.slice none 0 0), .bool (false)] 44 (0, 0)) :: L) _ _ _ := hs
       refine RL_nil ?_
       refine hK12 _ _ ?_; clear hK12
       refine W_seq fun K13 hK13 => ?_
       refine W_region ?_
       refine sy (v := .pointer (some ⟨pb0, 0, none⟩)) hs (y_move rfl) ?_; clear hs; (try clear a w); intro a w hs
       obtain ⟨x761, hx762, hm⟩ := ob hm
       replace hs := hs.front 3
       replace hs := hs.front 3
       replace hs := hs.front 3
       replace hs := hs.front 3
       replace hs : St _ _ _ (.blk pb0 (.cells #[.pointer (some ⟨pv0_0, 0, none⟩), v747] 71 (0, 0)) :: .blk pv0_0 (.cells #[v744, .int .i64 (x736.2.c.at_)] 94 (0, 0)) :: .row v744 21 1 rw745 :: .row v747 44 5 rw748 :: .row v755 21 1 rw756 :: .blk b481 (.cells #[.int .i64 (p1), .string (y482), .string ((bs [])), v485, .bool (y716)] 44 (0, 0)) :: .row v485 29 2 rw486 :: .blk b491 (.cells #[.string (x759), .string ((bs []))] 29 (0, 0)) :: .blk b7 (.cells #[.int .i64 (0), .string ((bs [])), .string ((bs [])), (.slice none 0 0), .bool (false)] 44 (0, 0)) :: L) _ _ _ := hs
       refine RL_call (Lr := [.blk pb0 (.cells #[.pointer (some ⟨pv0_0, 0, none⟩), v747] 71 (0, 0)), .blk pv0_0 (.cells #[v744, .int .i64 (x736.2.c.at_)] 94 (0, 0)), .row v744 21 1 rw745, .row v747 44 5 rw748]) (Lf := .row v755 21 1 rw756 :: .blk b481 (.cells #[.int .i64 (p1), .string (y482), .string ((bs [])), v485, .bool (y716)] 44 (0, 0)) :: .row v485 29 2 rw486 :: .blk b491 (.cells #[.string (x759), .string ((bs []))] 29 (0, 0)) :: .blk b7 (.cells #[.int .i64 (0), .string ((bs [])), .string ((bs [])), (.slice none 0 0), .bool (false)] 44 (0, 0)) :: L) hs rfl has67 rfl rfl (mark_cutter_while_ok n (f := f738) (p0 := x736.2) (pb0 := pb0) (pv0_0 := pv0_0) (pv0_1 := v744) (pv0_1r := rw745) (pv0_2 := v747) (pv0_2r := rw748) (g1 := 69) (cap1 := []) hW746 hW749 has69 (fun f9 hle9 z0 r9  h9 => mark_blank_ok n (f := f9)   h9) hx762) (.free rfl) (by decide) ?_; clear hs; (try clear a w)
       rintro v765 f763 _ a w hf764 ⟨_, v769, rw770, v772, rw773, rfl, rfl, ⟨rw766, hR767, hW768⟩, hW771, hW774⟩ hs
       replace pv0_1h := pv0_1h.le hf764
       replace pv0_2h := pv0_2h.le hf764
       replace hW472 := hW472.le hf764
       replace hW478 := hW478.le hf764
       replace hW487 := hW487.le hf764
       replace hW713 := hW713.le hf764
       replace hW724 := hW724.le hf764
       replace hW732 := hW732.le hf764
       replace hR742 := hR742.le hf764
       replace hW743 := hW743.le hf764
       replace hW746 := hW746.le hf764
       replace hW749 := hW749.le hf764
       replace hW757 := hW757.le hf764
       replace hle := hle.trans hf764
       replace hbase704 := hbase704.trans hf764
       replace hs : St _ _ _ (.blk pb0 (.cells #[.pointer (some ⟨pv0_0, 0, none⟩), v772] 71 (0, 0)) :: .blk pv0_0 (.cells #[v769, .int .i64 (x761.2.c.at_)] 94 (0, 0)) :: .row v769 21 1 rw770 :: .row v772 44 5 rw773 :: .row v755 21 1 rw756 :: .blk b481 (.cells #[.int .i64 (p1), .string (y482), .string ((bs [])), v485, .bool (y716)] 44 (0, 0)) :: .row v485 29 2 rw486 :: .blk b491 (.cells #[.string (x759), .string ((bs []))] 29 (0, 0)) :: .blk b7 (.cells #[.int .i64 (0), .string ((bs [])), .string ((bs [])), (.slice none 0 0), .bool (false)] 44 (0, 0)) :: L) _ _ _ := hs
       refine RL_nil ?_
       refine hK13 _ _ ?_; clear hK13
       refine W_seq fun K14 hK14 => ?_
       refine W_seq fun K15 hK15 => ?_
       refine W_region ?_
       refine sy (v := .pointer (some ⟨pb0, 0, none⟩)) hs (y_move rfl) ?_; clear hs; (try clear a w); intro a w hs
       obtain ⟨x778, hx779, hm⟩ := ob hm
       refine sy hs (y_callR (cap := []) (Lf := .row v755 21 1 rw756 :: .blk b481 (.cells #[.int .i64 (p1), .string (y482), .string ((bs [])), v485, .bool (y716)] 44 (0, 0)) :: .row v485 29 2 rw486 :: .blk b491 (.cells #[.string (x759), .string ((bs []))] 29 (0, 0)) :: .blk b7 (.cells #[.int .i64 (0), .string ((bs [])), .string ((bs [])), (.slice none 0 0), .bool (false)] 44 (0, 0)) :: L) rfl has44 rfl ((((perm_at _ 3 rfl).trans (perm_at _ 3 rfl)).trans (perm_at _ 3 rfl)).trans (perm_at _ 3 rfl)) (mark_cutter_is_ok n (f := f763) (p0 := x761.2) (pb0 := pb0) (pv0_0 := pv0_0) (pv0_1 := v769) (pv0_1r := rw770) (pv0_2 := v772) (pv0_2r := rw773) (p1 := 0) (p2 := (bs [61])) hW771 hW774 hx779)) ?_; clear hs; (try clear a w); intro a w hs
       refine RL_nil ?_
       refine hK15 _ _ ?_; clear hK15
       have hbase794 := Fz.le.refl f763
       refine W_post (fun a w => ∃ (f780 : Fz) (y782 : (List Int)) (y787 : Int) (y788 : (List mark_Token)) (y793 : ByteArray) (v783 : Value) (rw784 : List (List Value)) (v789 : Value) (rw790 : List (List Value)), Fz.le f763 f780 ∧ mark_cutter_tag_k3 n y482 y484 (mark_cutter_tag_g1_0 n p1 k705) y716 x759 y782 y787 y788 y793 = some res ∧ RW (tInt .i32) f780 rw784 y782 ∧ Q.R f780 rw790 y788 ∧ St 104 w0 f780 (.blk pb0 (.cells #[.pointer (some ⟨pv0_0, 0, none⟩), v789] 71 (0, 0)) :: .blk pv0_0 (.cells #[v783, .int .i64 (y787)] 94 (0, 0)) :: .row v783 21 1 rw784 :: .row v789 44 5 rw790 :: .blk b481 (.cells #[.int .i64 (p1), .string (y482), .string ((bs [])), v485, .bool (y716)] 44 (0, 0)) :: .row v485 29 2 rw486 :: .blk b491 (.cells #[.string (x759), .string (y793)] 29 (0, 0)) :: .blk b7 (.cells #[.int .i64 (0), .string ((bs [])), .string ((bs [])), (.slice none 0 0), .bool (false)] 44 (0, 0)) :: L) [(0, .pointer (some ⟨pb0, 0, none⟩)), (1, .int .i64 (p1)), (4, .pointer (some ⟨b7, 0, none⟩)), (6, .pointer (some ⟨b481, 0, none⟩)), (7, .pointer (some ⟨b491, 0, none⟩))] a w) ?_ ?_
       ·clear hs hm
        clear hbase794
        rintro a w ⟨f780, y782, y787, y788, y793, v783, rw784, v789, rw790, hl781, hm, hW785, hW791, hs⟩
        replace pv0_1h := pv0_1h.le hl781
        replace pv0_2h := pv0_2h.le hl781
        replace hW472 := hW472.le hl781
        replace hW478 := hW478.le hl781
        replace hW487 := hW487.le hl781
        replace hW713 := hW713.le hl781
        replace hW724 := hW724.le hl781
        replace hW732 := hW732.le hl781
        replace hR742 := hR742.le hl781
        replace hW743 := hW743.le hl781
        replace hW746 := hW746.le hl781
        replace hW749 := hW749.le hl781
        replace hW757 := hW757.le hl781
        replace hR767 := hR767.le hl781
        replace hW768 := hW768.le hl781
        replace hW771 := hW771.le hl781
        replace hW774 := hW774.le hl781
        replace hle := hle.trans hl781
        replace hbase704 := hbase704.trans hl781
        replace hs : St _ _ _ (.blk pb0 (.cells #[.pointer (some ⟨pv0_0, 0, none⟩), v789] 71 (0, 0)) :: .blk pv0_0 (.cells #[v783, .int .i64 (y787)] 94 (0, 0)) :: .row v783 21 1 rw784 :: .row v789 44 5 rw790 :: .blk b481 (.cells #[.int .i64 (p1), .string (y482), .string ((bs [])), v485, .bool (y716)] 44 (0, 0)) :: .row v485 29 2 rw486 :: .blk b491 (.cells #[.string (x759), .string (y793)] 29 (0, 0)) :: .blk b7 (.cells #[.int .i64 (0), .string ((bs [])), .string ((bs [])), (.slice none 0 0), .bool (false)] 44 (0, 0)) :: L) _ _ _ := hs
        unfold mark_cutter_tag_k3 at hm
        refine hK14 _ _ ?_; clear hK14
        refine W_seq fun K16 hK16 => ?_
        refine W_seq fun K17 hK17 => ?_
        refine W_post (fun a w => ∃ (y795 : Bool), mark_cutter_tag_k4 y482 y484 (mark_cutter_tag_g1_0 n p1 k705) y716 x759 y782 y787 y788 y793 y795 = some res ∧ St 104 w0 f780 (.blk pb0 (.cells #[.pointer (some ⟨pv0_0, 0, none⟩), v789] 71 (0, 0)) :: .blk pv0_0 (.cells #[v783, .int .i64 (y787)] 94 (0, 0)) :: .row v783 21 1 rw784 :: .row v789 44 5 rw790 :: .blk b481 (.cells #[.int .i64 (p1), .string (y482), .string ((bs [])), v485, .bool (y716)] 44 (0, 0)) :: .row v485 29 2 rw486 :: .blk b491 (.cells #[.string (x759), .string (y793)] 29 (0, 0)) :: .blk b7 (.cells #[.int .i64 (0), .string ((bs [])), .string ((bs [])), (.slice none 0 0), .bool (false)] 44 (0, 0)) :: L) [(0, .pointer (some ⟨pb0, 0, none⟩)), (1, .int .i64 (p1)), (4, .pointer (some ⟨b7, 0, none⟩)), (6, .pointer (some ⟨b481, 0, none⟩)), (7, .pointer (some ⟨b491, 0, none⟩)), (91, .bool (y795))] a w) ?_ ?_
        ·clear hs hm
         rintro a w ⟨y795, hm, hs⟩
         replace hs : St _ _ _ (.blk pb0 (.cells #[.pointer (some ⟨pv0_0, 0, none⟩), v789] 71 (0, 0)) :: .blk pv0_0 (.cells #[v783, .int .i64 (y787)] 94 (0, 0)) :: .row v783 21 1 rw784 :: .row v789 44 5 rw790 :: .blk b481 (.cells #[.int .i64 (p1), .string (y482), .string ((bs [])), v485, .bool (y716)] 44 (0, 0)) :: .row v485 29 2 rw486 :: .blk b491 (.cells #[.string (x759), .string (y793)] 29 (0, 0)) :: .blk b7 (.cells #[.int .i64 (0), .string ((bs [])), .string ((bs [])), (.slice none 0 0), .bool (false)] 44 (0, 0)) :: L) _ _ _ := hs
         unfold mark_cutter_tag_k4 at hm
         refine hK17 _ _ ?_; clear hK17
         refine W_post (fun a w => ∃ (y796 : (List api_Attr)) (v797 : Value) (rw798 : List (List Value)), mark_cutter_tag_k5 y482 (mark_cutter_tag_g1_0 n p1 k705) y716 x759 y782 y787 y788 y793 y796 = some res ∧ RW t_api_Attr f780 rw798 y796 ∧ St 104 w0 f780 (.blk pb0 (.cells #[.pointer (some ⟨pv0_0, 0, none⟩), v789] 71 (0, 0)) :: .blk pv0_0 (.cells #[v783, .int .i64 (y787)] 94 (0, 0)) :: .row v783 21 1 rw784 :: .row v789 44 5 rw790 :: .blk b481 (.cells #[.int .i64 (p1), .string (y482), .string ((bs [])), v797, .bool (y716)] 44 (0, 0)) :: .row v797 29 2 rw798 :: .blk b491 (.cells #[.string (x759), .string (y793)] 29 (0, 0)) :: .blk b7 (.cells #[.int .i64 (0), .string ((bs [])), .string ((bs [])), (.slice none 0 0), .bool (false)] 44 (0, 0)) :: L) [(0, .pointer (some ⟨pb0, 0, none⟩)), (1, .int .i64 (p1)), (4, .pointer (some ⟨b7, 0, none⟩)), (6, .pointer (some ⟨b481, 0, none⟩)), (7, .pointer (some ⟨b491, 0, none⟩))] a w) ?_ ?_
         ·clear hs hm
          rintro a w ⟨y796, v797, rw798, hm, hW799, hs⟩
          replace hs : St _ _ _ (.blk pb0 (.cells #[.pointer (some ⟨pv0_0, 0, none⟩), v789] 71 (0, 0)) :: .blk pv0_0 (.cells #[v783, .int .i64 (y787)] 94 (0, 0)) :: .row v783 21 1 rw784 :: .row v789 44 5 rw790 :: .blk b481 (.cells #[.int .i64 (p1), .string (y482), .string ((bs [])), v797, .bool (y716)] 44 (0, 0)) :: .row v797 29 2 rw798 :: .blk b491 (.cells #[.string (x759), .string (y793)] 29 (0, 0)) :: .blk b7 (.cells #[.int .i64 (0), .string ((bs [])), .string ((bs [])), (.slice none 0 0), .bool (false)] 44 (0, 0)) :: L) _ _ _ := hs
          unfold mark_cutter_tag_k5 at hm
          refine hK16 _ _ ?_; clear hK16
          refine W_seq fun K18 hK18 => ?_
          refine W_goto ?_
          replace hs : St _ _ _ (.blk pb0 (.cells #[.pointer (some ⟨pv0_0, 0, none⟩), v789] 71 (0, 0)) :: .blk pv0_0 (.cells #[v783, .int .i64 (y787)] 94 (0, 0)) :: .row v783 21 1 rw784 :: .row v789 44 5 rw790 :: .blk b481 (.cells #[.int .i64 (p1), .string (y482), .string ((bs [])), v797, .bool (y716)] 44 (0, 0)) :: .row v797 29 2 rw798 :: .blk b491 (.cells #[.string (x759), .string (y793)] 29 (0, 0)) :: .blk b7 (.cells #[.int .i64 (0), .string ((bs [])), .string ((bs [])), (.slice none 0 0), .bool (false)] 44 (0, 0)) :: L) _ _ _ := hs
          replace hs : St _ _ _ (.blk pb0 (.cells #[.pointer (some ⟨pv0_0, 0, none⟩), v789] 71 (0, 0)) :: .blk pv0_0 (.cells #[v783, .int .i64 (y787)] 94 (0, 0)) :: .row v783 21 1 rw784 :: .row v789 44 5 rw790 :: .blk b481 (.cells #[.int .i64 (p1), .string (y482), .string ((bs [])), v797, .bool (y716)] 44 (0, 0)) :: .row v797 29 2 rw798 :: .blk b491 (.cells #[.string (x759), .string (y793)] 29 (0, 0)) :: .blk b7 (.cells #[.int .i64 (0), .string ((bs [])), .string ((bs [])), (.slice none 0 0), .bool (false)] 44 (0, 0)) :: L) _ _ _ := hs
          replace hs := hs.front 3
          replace hs := hs.front 3
          replace hs := hs.front 3
          replace hs := hs.front 3
          replace hs := hs.front 7
          replace hs := hs.front 7
          replace hs := hs.front 7
          replace hs := hs.front 7
          replace hs : St _ _ _ (.blk b481 (.cells #[.int .i64 (p1), .string (y482), .string ((bs [])), v797, .bool (y716)] 44 (0, 0)) :: .row v797 29 2 rw798 :: .blk b491 (.cells #[.string (x759), .string (y793)] 29 (0, 0)) :: .blk b7 (.cells #[.int .i64 (0), .string ((bs [])), .string ((bs [])), (.slice none 0 0), .bool (false)] 44 (0, 0)) :: .blk pb0 (.cells #[.pointer (some ⟨pv0_0, 0, none⟩), v789] 71 (0, 0)) :: .blk pv0_0 (.cells #[v783, .int .i64 (y787)] 94 (0, 0)) :: .row v783 21 1 rw784 :: .row v789 44 5 rw790 :: L) _ _ _ := hs
          exact hG2.at_ 0 _ _ rfl ⟨k705, Nat.lt_succ_self _, (.inl ⟨rfl, ⟨_, y782, y787, y788, y482, y796, y716, ({Name := x759, Value := y793} : api_Attr), v783, rw784, v789, rw790, b481, v797, rw798, b491, [.string (x759), .string (y793)], hbase704, hm, hW785, hW791, hW799, rfl, hs.sub ⟨rfl, rfl, rfl, rfl, rfl, trivial⟩⟩⟩)⟩
         ·refine W_cond hs rfl (fun hg801 => ?_) (fun hg801 => ?_)
          ·replace hm := oc_t hg801 hm
           refine W_region ?_
           refine sy (v := .pointer (some ⟨b481, 3, none⟩)) hs (y_fieldAddr rfl (FO.of (off := 3) Try.underlying44 rfl rfl ti23 (by decide))) ?_; clear hs; (try clear a w); intro a w hs
           refine sy (v := v485) hs (y_ld rfl Try.underlying23 rfl (Cell.blk (.tail _ (.tail _ (.tail _ (.tail _ (.head _))))) rfl)) ?_; clear hs; (try clear a w); intro a w hs
           refine sy hs (y_ldB rfl Try.underlying29 rfl ti29 (.tail _ (.tail _ (.tail _ (.tail _ (.tail _ (.tail _ (.head _))))))) rfl) ?_; clear hs; (try clear a w); intro a w hs
           refine RL_bs1a hs rfl Try.underlying23 ti29 (by decide) (AllC.row ⟨rfl, rfl, trivial⟩ rfl) ?_; clear hs; (try clear a w); intro v802 a w hs
           have hW803 : RW t_api_Attr f780 [[.string (x759), .string (y793)]] [({Name := x759, Value := y793} : api_Attr)] := RW.single (rfl)
           generalize hgrw804 : ([[.string (x759), .string (y793)]] : List (List Value)) = rw804 at hs hW803; clear hgrw804
           replace hs : St _ _ _ (.row v802 29 2 rw804 :: .blk pb0 (.cells #[.pointer (some ⟨pv0_0, 0, none⟩), v789] 71 (0, 0)) :: .blk pv0_0 (.cells #[v783, .int .i64 (y787)] 94 (0, 0)) :: .row v783 21 1 rw784 :: .row v789 44 5 rw790 :: .blk b481 (.cells #[.int .i64 (p1), .string (y482), .string ((bs [])), v485, .bool (y716)] 44 (0, 0)) :: .row v485 29 2 rw486 :: .blk b491 (.cells #[.string (x759), .string (y793)] 29 (0, 0)) :: .blk b7 (.cells #[.int .i64 (0), .string ((bs [])), .string ((bs [])), (.slice none 0 0), .bool (false)] 44 (0, 0)) :: L) _ _ _ := hs
           obtain ⟨x807, hx808, hm⟩ := ob hm
           obtain ⟨hbx807, hex807⟩ := appM_some hx808
           have hW811 := hW487.append hW803; rw [hex807] at hW811
           refine RL_append (i := 6) hs rfl rfl rfl (Rd.st hs (.head _)) Try.underlying23 ti29 (by decide) (by rw [RW.len hW487, RW.len hW803]; exact hbx807) (.free rfl) (by decide) ?_; clear hs; (try clear a w); intro v809 a w hs
           generalize hgx807 : rw486 ++ rw804 = rw810 at hs hW811; clear hgx807
           replace hs := hs.erase 0
           replace hs : St _ _ _ (.blk pb0 (.cells #[.pointer (some ⟨pv0_0, 0, none⟩), v789] 71 (0, 0)) :: .blk pv0_0 (.cells #[v783, .int .i64 (y787)] 94 (0, 0)) :: .row v783 21 1 rw784 :: .row v789 44 5 rw790 :: .blk b481 (.cells #[.int .i64 (p1), .string (y482), .string ((bs [])), v485, .bool (y716)] 44 (0, 0)) :: .row v809 29 2 rw810 :: .blk b491 (.cells #[.string (x759), .string (y793)] 29 (0, 0)) :: .blk b7 (.cells #[.int .i64 (0), .string ((bs [])), .string ((bs [])), (.slice none 0 0), .bool (false)] 44 (0, 0)) :: L) _ _ _ := hs
           refine sy (v := .pointer (some ⟨b481, 3, none⟩)) hs (y_fieldAddr rfl (FO.of (off := 3) Try.underlying44 rfl rfl ti23 (by decide))) ?_; clear hs; (try clear a w); intro a w hs
           refine sstore 4 hs rfl rfl rfl ti23 ((hs.one (i := 5) rfl)) ?_; clear hs; (try clear a w); intro a w hs
           replace hs : St _ _ _ (.blk pb0 (.cells #[.pointer (some ⟨pv0_0, 0, none⟩), v789] 71 (0, 0)) :: .blk pv0_0 (.cells #[v783, .int .i64 (y787)] 94 (0, 0)) :: .row v783 21 1 rw784 :: .row v789 44 5 rw790 :: .blk b481 (.cells #[.int .i64 (p1), .string (y482), .string ((bs [])), v809, .bool (y716)] 44 (0, 0)) :: .row v809 29 2 rw810 :: .blk b491 (.cells #[.string (x759), .string (y793)] 29 (0, 0)) :: .blk b7 (.cells #[.int .i64 (0), .string ((bs [])), .string ((bs [])), (.slice none 0 0), .bool (false)] 44 (0, 0)) :: L) _ _ _ := hs
           refine RL_nil ?_
           replace hs : St _ _ _ (.blk pb0 (.cells #[.pointer (some ⟨pv0_0, 0, none⟩), v789] 71 (0, 0)) :: .blk pv0_0 (.cells #[v783, .int .i64 (y787)] 94 (0, 0)) :: .row v783 21 1 rw784 :: .row v789 44 5 rw790 :: .blk b481 (.cells #[.int .i64 (p1), .string (y482), .string ((bs [])), v809, .bool (y716)] 44 (0, 0)) :: .row v809 29 2 rw810 :: .blk b491 (.cells #[.string (x759), .string (y793)] 29 (0, 0)) :: .blk b7 (.cells #[.int .i64 (0), .string ((bs [])), .string ((bs [])), (.slice none 0 0), .bool (false)] 44 (0, 0)) :: L) _ _ _ := hs
           replace hs : St _ _ _ (.blk pb0 (.cells #[.pointer (some ⟨pv0_0, 0, none⟩), v789] 71 (0, 0)) :: .blk pv0_0 (.cells #[v783, .int .i64 (y787)] 94 (0, 0)) :: .row v783 21 1 rw784 :: .row v789 44 5 rw790 :: .blk b481 (.cells #[.int .i64 (p1), .string (y482), .string ((bs [])), v809, .bool (y716)] 44 (0, 0)) :: .row v809 29 2 rw810 :: .blk b491 (.cells #[.string (x759), .string (y793)] 29 (0, 0)) :: .blk b7 (.cells #[.int .i64 (0), .string ((bs [])), .string ((bs [])), (.slice none 0 0), .bool (false)] 44 (0, 0)) :: L) _ _ _ := hs
           replace hs : St _ _ _ (.blk pb0 (.cells #[.pointer (some ⟨pv0_0, 0, none⟩), v789] 71 (0, 0)) :: .blk pv0_0 (.cells #[v783, .int .i64 (y787)] 94 (0, 0)) :: .row v783 21 1 rw784 :: .row v789 44 5 rw790 :: .blk b481 (.cells #[.int .i64 (p1), .string (y482), .string ((bs [])), v809, .bool (y716)] 44 (0, 0)) :: .row v809 29 2 rw810 :: .blk b491 (.cells #[.string (x759), .string (y793)] 29 (0, 0)) :: .blk b7 (.cells #[.int .i64 (0), .string ((bs [])), .string ((bs [])), (.slice none 0 0), .bool (false)] 44 (0, 0)) :: L) _ _ _ := hs
           exact ⟨x807, v809, rw810, hm, hW811, hs.sub ⟨rfl, rfl, rfl, rfl, rfl, trivial⟩⟩
          ·replace hm := oc_f hg801 hm
           refine W_skip ?_
           replace hs : St _ _ _ (.blk pb0 (.cells #[.pointer (some ⟨pv0_0, 0, none⟩), v789] 71 (0, 0)) :: .blk pv0_0 (.cells #[v783, .int .i64 (y787)] 94 (0, 0)) :: .row v783 21 1 rw784 :: .row v789 44 5 rw790 :: .blk b481 (.cells #[.int .i64 (p1), .string (y482), .string ((bs [])), v485, .bool (y716)] 44 (0, 0)) :: .row v485 29 2 rw486 :: .blk b491 (.cells #[.string (x759), .string (y793)] 29 (0, 0)) :: .blk b7 (.cells #[.int .i64 (0), .string ((bs [])), .string ((bs [])), (.slice none 0 0), .bool (false)] 44 (0, 0)) :: L) _ _ _ := hs
           replace hs : St _ _ _ (.blk pb0 (.cells #[.pointer (some ⟨pv0_0, 0, none⟩), v789] 71 (0, 0)) :: .blk pv0_0 (.cells #[v783, .int .i64 (y787)] 94 (0, 0)) :: .row v783 21 1 rw784 :: .row v789 44 5 rw790 :: .blk b481 (.cells #[.int .i64 (p1), .string (y482), .string ((bs [])), v485, .bool (y716)] 44 (0, 0)) :: .row v485 29 2 rw486 :: .blk b491 (.cells #[.string (x759), .string (y793)] 29 (0, 0)) :: .blk b7 (.cells #[.int .i64 (0), .string ((bs [])), .string ((bs [])), (.slice none 0 0), .bool (false)] 44 (0, 0)) :: L) _ _ _ := hs
           replace hs : St _ _ _ (.blk pb0 (.cells #[.pointer (some ⟨pv0_0, 0, none⟩), v789] 71 (0, 0)) :: .blk pv0_0 (.cells #[v783, .int .i64 (y787)] 94 (0, 0)) :: .row v783 21 1 rw784 :: .row v789 44 5 rw790 :: .blk b481 (.cells #[.int .i64 (p1), .string (y482), .string ((bs [])), v485, .bool (y716)] 44 (0, 0)) :: .row v485 29 2 rw486 :: .blk b491 (.cells #[.string (x759), .string (y793)] 29 (0, 0)) :: .blk b7 (.cells #[.int .i64 (0), .string ((bs [])), .string ((bs [])), (.slice none 0 0), .bool (false)] 44 (0, 0)) :: L) _ _ _ := hs
           exact ⟨y484, v485, rw486, hm, hW487, hs.sub ⟨rfl, rfl, rfl, rfl, rfl, trivial⟩⟩
        ·refine W_region ?_
         refine sy (v := .pointer (some ⟨b481, 3, none⟩)) hs (y_fieldAddr rfl (FO.of (off := 3) Try.underlying44 rfl rfl ti23 (by decide))) ?_; clear hs; (try clear a w); intro a w hs
         refine sy (v := v485) hs (y_ld rfl Try.underlying23 rfl (Cell.blk (.tail _ (.tail _ (.tail _ (.tail _ (.head _))))) rfl)) ?_; clear hs; (try clear a w); intro a w hs
         refine sy hs (y_lenW (Rd.st hs (.tail _ (.tail _ (.tail _ (.tail _ (.tail _ (.head _))))))) hW487 rfl Try.underlying23) ?_; clear hs; (try clear a w); intro a w hs
         refine sy hs (y_lss rfl rfl) ?_; clear hs; (try clear a w); intro a w hs
         refine sy (v := .bool (decide ((y484.length : Int) < 64))) hs (y_move rfl) ?_; clear hs; (try clear a w); intro a w hs
         refine St.split hs (t := 84) rfl (fun hg813 hq => ?_) (fun hg813 hq => ?_)
         ·clear hs; have hs := hq; clear hq
          replace hm := oc_t hg813 hm
          refine syg (v := .pointer (some ⟨b481, 3, none⟩)) hs (y_fieldAddr rfl (FO.of (off := 3) Try.underlying44 rfl rfl ti23 (by decide))) ?_; clear hs; (try clear a w); intro a w hs
          refine syg (v := v485) hs (y_ld rfl Try.underlying23 rfl (Cell.blk (.tail _ (.tail _ (.tail _ (.tail _ (.head _))))) rfl)) ?_; clear hs; (try clear a w); intro a w hs
          refine syg (v := .pointer (some ⟨b491, 0, none⟩)) hs (y_fieldAddr rfl (FO.of (off := 0) Try.underlying29 rfl rfl ti9 (by decide))) ?_; clear hs; (try clear a w); intro a w hs
          refine syg (v := .string (x759)) hs (y_ld rfl Try.underlying9 rfl (Cell.blk (.tail _ (.tail _ (.tail _ (.tail _ (.tail _ (.tail _ (.head _))))))) rfl)) ?_; clear hs; (try clear a w); intro a w hs
          obtain ⟨x814, hx815, hm⟩ := ob hm
          refine syg hs (y_callCK (cap := []) rfl has72 rfl (fun w9 hw9 => callsP (Lr := [.row v485 29 2 rw486]) (Lf := .blk pb0 (.cells #[.pointer (some ⟨pv0_0, 0, none⟩), v789] 71 (0, 0)) :: .blk pv0_0 (.cells #[v783, .int .i64 (y787)] 94 (0, 0)) :: .row v783 21 1 rw784 :: .row v789 44 5 rw790 :: .blk b481 (.cells #[.int .i64 (p1), .string (y482), .string ((bs [])), v485, .bool (y716)] 44 (0, 0)) :: .blk b491 (.cells #[.string (x759), .string (y793)] 29 (0, 0)) :: .blk b7 (.cells #[.int .i64 (0), .string ((bs [])), .string ((bs [])), (.slice none 0 0), .bool (false)] 44 (0, 0)) :: L) (perm_at _ 5 rfl) hw9 (fun Lz w9 hw9 => lent0 hw9 (fun f9_0 w9 hle9_0 hRl0 hw9 => (mark_has_ok n (f := f9_0) (a0 := v485) ⟨rw486, hRl0, hW487.le hle9_0⟩ hx815) w0 _ w9 hw9)))) ?_; clear hs; (try clear a w); intro a w hs
          refine syg (v := .bool ((!x814))) hs (y_not rfl) ?_; clear hs; (try clear a w); intro a w hs
          refine sy (v := .bool ((!x814))) hs (y_pick rfl rfl) ?_; clear hs; (try clear a w); intro a w hs
          refine RL_nil ?_
          replace hs : St _ _ _ (.blk pb0 (.cells #[.pointer (some ⟨pv0_0, 0, none⟩), v789] 71 (0, 0)) :: .blk pv0_0 (.cells #[v783, .int .i64 (y787)] 94 (0, 0)) :: .row v783 21 1 rw784 :: .row v789 44 5 rw790 :: .blk b481 (.cells #[.int .i64 (p1), .string (y482), .string ((bs [])), v485, .bool (y716)] 44 (0, 0)) :: .row v485 29 2 rw486 :: .blk b491 (.cells #[.string (x759), .string (y793)] 29 (0, 0)) :: .blk b7 (.cells #[.int .i64 (0), .string ((bs [])), .string ((bs [])), (.slice none 0 0), .bool (false)] 44 (0, 0)) :: L) _ _ _ := hs
          replace hs : St _ _ _ (.blk pb0 (.cells #[.pointer (some ⟨pv0_0, 0, none⟩), v789] 71 (0, 0)) :: .blk pv0_0 (.cells #[v783, .int .i64 (y787)] 94 (0, 0)) :: .row v783 21 1 rw784 :: .row v789 44 5 rw790 :: .blk b481 (.cells #[.int .i64 (p1), .string (y482), .string ((bs [])), v485, .bool (y716)] 44 (0, 0)) :: .row v485 29 2 rw486 :: .blk b491 (.cells #[.string (x759), .string (y793)] 29 (0, 0)) :: .blk b7 (.cells #[.int .i64 (0), .string ((bs [])), .string ((bs [])), (.slice none 0 0), .bool (false)] 44 (0, 0)) :: L) _ _ _ := hs
          replace hs : St _ _ _ (.blk pb0 (.cells #[.pointer (some ⟨pv0_0, 0, none⟩), v789] 71 (0, 0)) :: .blk pv0_0 (.cells #[v783, .int .i64 (y787)] 94 (0, 0)) :: .row v783 21 1 rw784 :: .row v789 44 5 rw790 :: .blk b481 (.cells #[.int .i64 (p1), .string (y482), .string ((bs [])), v485, .bool (y716)] 44 (0, 0)) :: .row v485 29 2 rw486 :: .blk b491 (.cells #[.string (x759), .string (y793)] 29 (0, 0)) :: .blk b7 (.cells #[.int .i64 (0), .string ((bs [])), .string ((bs [])), (.slice none 0 0), .bool (false)] 44 (0, 0)) :: L) _ _ _ := hs
          exact ⟨(!x814), hm, hs.sub ⟨rfl, rfl, rfl, rfl, rfl, rfl, trivial⟩⟩
         ·clear hs; have hs := hq; clear hq
          replace hm := oc_f hg813 hm
          refine sno hs ?_; clear hs; (try clear a w); intro a w hs
          refine sno hs ?_; clear hs; (try clear a w); intro a w hs
          refine sno hs ?_; clear hs; (try clear a w); intro a w hs
          refine sno hs ?_; clear hs; (try clear a w); intro a w hs
          refine sno hs ?_; clear hs; (try clear a w); intro a w hs
          refine sno hs ?_; clear hs; (try clear a w); intro a w hs
          refine sy (v := .bool (false)) hs (y_pick rfl rfl) ?_; clear hs; (try clear a w); intro a w hs
          refine RL_nil ?_
          replace hs : St _ _ _ (.blk pb0 (.cells #[.pointer (some ⟨pv0_0, 0, none⟩), v789] 71 (0, 0)) :: .blk pv0_0 (.cells #[v783, .int .i64 (y787)] 94 (0, 0)) :: .row v783 21 1 rw784 :: .row v789 44 5 rw790 :: .blk b481 (.cells #[.int .i64 (p1), .string (y482), .string ((bs [])), v485, .bool (y716)] 44 (0, 0)) :: .row v485 29 2 rw486 :: .blk b491 (.cells #[.string (x759), .string (y793)] 29 (0, 0)) :: .blk b7 (.cells #[.int .i64 (0), .string ((bs [])), .string ((bs [])), (.slice none 0 0), .bool (false)] 44 (0, 0)) :: L) _ _ _ := hs
          replace hs : St _ _ _ (.blk pb0 (.cells #[.pointer (some ⟨pv0_0, 0, none⟩), v789] 71 (0, 0)) :: .blk pv0_0 (.cells #[v783, .int .i64 (y787)] 94 (0, 0)) :: .row v783 21 1 rw784 :: .row v789 44 5 rw790 :: .blk b481 (.cells #[.int .i64 (p1), .string (y482), .string ((bs [])), v485, .bool (y716)] 44 (0, 0)) :: .row v485 29 2 rw486 :: .blk b491 (.cells #[.string (x759), .string (y793)] 29 (0, 0)) :: .blk b7 (.cells #[.int .i64 (0), .string ((bs [])), .string ((bs [])), (.slice none 0 0), .bool (false)] 44 (0, 0)) :: L) _ _ _ := hs
          replace hs : St _ _ _ (.blk pb0 (.cells #[.pointer (some ⟨pv0_0, 0, none⟩), v789] 71 (0, 0)) :: .blk pv0_0 (.cells #[v783, .int .i64 (y787)] 94 (0, 0)) :: .row v783 21 1 rw784 :: .row v789 44 5 rw790 :: .blk b481 (.cells #[.int .i64 (p1), .string (y482), .string ((bs [])), v485, .bool (y716)] 44 (0, 0)) :: .row v485 29 2 rw486 :: .blk b491 (.cells #[.string (x759), .string (y793)] 29 (0, 0)) :: .blk b7 (.cells #[.int .i64 (0), .string ((bs [])), .string ((bs [])), (.slice none 0 0), .bool (false)] 44 (0, 0)) :: L) _ _ _ := hs
          exact ⟨false, hm, hs.sub ⟨rfl, rfl, rfl, rfl, rfl, rfl, trivial⟩⟩
       ·refine W_cond hs rfl (fun hg816 => ?_) (fun hg816 => ?_)
        ·replace hm := oc_t hg816 hm
         refine W_seq fun K19 hK19 => ?_
         refine W_region ?_
         refine sy (v := .pointer (some ⟨pb0, 0, none⟩)) hs (y_move rfl) ?_; clear hs; (try clear a w); intro a w hs
         refine sy hs (y_nilCheck rfl) ?_; clear hs; (try clear a w); intro a w hs
         refine sy (v := .pointer (some ⟨pb0, 0, none⟩)) hs (y_fieldAddr rfl (FO.of (off := 0) Try.underlying71 rfl rfl ti68 (by decide))) ?_; clear hs; (try clear a w); intro a w hs
         refine sy (v := .pointer (some ⟨pv0_0, 0, none⟩)) hs (y_ld rfl Try.underlying68 rfl (Cell.blk (.head _) rfl)) ?_; clear hs; (try clear a w); intro a w hs
         obtain ⟨x817, hx818, hm⟩ := ob hm
         replace hs := hs.front 2
         replace hs := hs.front 2
         replace hs : St _ _ _ (.blk pv0_0 (.cells #[v769, .int .i64 (x761.2.c.at_)] 94 (0, 0)) :: .row v769 21 1 rw770 :: .blk pb0 (.cells #[.pointer (some ⟨pv0_0, 0, none⟩), v772] 71 (0, 0)) :: .row v772 44 5 rw773 :: .row v755 21 1 rw756 :: .blk b481 (.cells #[.int .i64 (p1), .string (y482), .string ((bs [])), v485, .bool (y716)] 44 (0, 0)) :: .row v485 29 2 rw486 :: .blk b491 (.cells #[.string (x759), .string ((bs []))] 29 (0, 0)) :: .blk b7 (.cells #[.int .i64 (0), .string ((bs [])), .string ((bs [])), (.slice none 0 0), .bool (false)] 44 (0, 0)) :: L) _ _ _ := hs
         refine RL_call (Lr := [.blk pv0_0 (.cells #[v769, .int .i64 (x761.2.c.at_)] 94 (0, 0)), .row v769 21 1 rw770]) (Lf := .blk pb0 (.cells #[.pointer (some ⟨pv0_0, 0, none⟩), v772] 71 (0, 0)) :: .row v772 44 5 rw773 :: .row v755 21 1 rw756 :: .blk b481 (.cells #[.int .i64 (p1), .string (y482), .string ((bs [])), v485, .bool (y716)] 44 (0, 0)) :: .row v485 29 2 rw486 :: .blk b491 (.cells #[.string (x759), .string ((bs []))] 29 (0, 0)) :: .blk b7 (.cells #[.int .i64 (0), .string ((bs [])), .string ((bs [])), (.slice none 0 0), .bool (false)] 44 (0, 0)) :: L) hs rfl has47 rfl rfl (source_Cursor_rune_Next_ok n (f := f763) (p0 := x761.2.c) (pb0 := pv0_0) (pv0_0 := v769) (pv0_0r := rw770) hW771 hx818) (.free rfl) (by decide) ?_; clear hs; (try clear a w)
         rintro _ f819 _ a w hf820 ⟨v821, rw822, rfl, rfl, hW823⟩ hs
         replace pv0_1h := pv0_1h.le hf820
         replace pv0_2h := pv0_2h.le hf820
         replace hW472 := hW472.le hf820
         replace hW478 := hW478.le hf820
         replace hW487 := hW487.le hf820
         replace hW713 := hW713.le hf820
         replace hW724 := hW724.le hf820
         replace hW732 := hW732.le hf820
         replace hR742 := hR742.le hf820
         replace hW743 := hW743.le hf820
         replace hW746 := hW746.le hf820
         replace hW749 := hW749.le hf820
         replace hW757 := hW757.le hf820
         replace hR767 := hR767.le hf820
         replace hW768 := hW768.le hf820
         replace hW771 := hW771.le hf820
         replace hW774 := hW774.le hf820
         replace hle := hle.trans hf820
         replace hbase704 := hbase704.trans hf820
         replace hbase794 := hbase794.trans hf820
         replace hs : St _ _ _ (.blk pv0_0 (.cells #[v821, .int .i64 (x817.2.2.at_)] 94 (0, 0)) :: .row v821 21 1 rw822 :: .blk pb0 (.cells #[.pointer (some ⟨pv0_0, 0, none⟩), v772] 71 (0, 0)) :: .row v772 44 5 rw773 :: .row v755 21 1 rw756 :: .blk b481 (.cells #[.int .i64 (p1), .string (y482), .string ((bs [])), v485, .bool (y716)] 44 (0, 0)) :: .row v485 29 2 rw486 :: .blk b491 (.cells #[.string (x759), .string ((bs []))] 29 (0, 0)) :: .blk b7 (.cells #[.int .i64 (0), .string ((bs [])), .string ((bs [])), (.slice none 0 0), .bool (false)] 44 (0, 0)) :: L) _ _ _ := hs
         refine RL_nil ?_
         refine hK19 _ _ ?_; clear hK19
         refine W_seq fun K20 hK20 => ?_
         refine W_region ?_
         refine sy (v := .pointer (some ⟨pb0, 0, none⟩)) hs (y_move rfl) ?_; clear hs; (try clear a w); intro a w hs
         obtain ⟨x825, hx826, hm⟩ := ob hm
         replace hs := hs.front 3
         replace hs := hs.front 2
         replace hs := hs.front 2
         replace hs := hs.front 3
         replace hs : St _ _ _ (.blk pb0 (.cells #[.pointer (some ⟨pv0_0, 0, none⟩), v772] 71 (0, 0)) :: .blk pv0_0 (.cells #[v821, .int .i64 (x817.2.2.at_)] 94 (0, 0)) :: .row v821 21 1 rw822 :: .row v772 44 5 rw773 :: .row v755 21 1 rw756 :: .blk b481 (.cells #[.int .i64 (p1), .string (y482), .string ((bs [])), v485, .bool (y716)] 44 (0, 0)) :: .row v485 29 2 rw486 :: .blk b491 (.cells #[.string (x759), .string ((bs []))] 29 (0, 0)) :: .blk b7 (.cells #[.int .i64 (0), .string ((bs [])), .string ((bs [])), (.slice none 0 0), .bool (false)] 44 (0, 0)) :: L) _ _ _ := hs
         refine RL_call (Lr := [.blk pb0 (.cells #[.pointer (some ⟨pv0_0, 0, none⟩), v772] 71 (0, 0)), .blk pv0_0 (.cells #[v821, .int .i64 (x817.2.2.at_)] 94 (0, 0)), .row v821 21 1 rw822, .row v772 44 5 rw773]) (Lf := .row v755 21 1 rw756 :: .blk b481 (.cells #[.int .i64 (p1), .string (y482), .string ((bs [])), v485, .bool (y716)] 44 (0, 0)) :: .row v485 29 2 rw486 :: .blk b491 (.cells #[.string (x759), .string ((bs []))] 29 (0, 0)) :: .blk b7 (.cells #[.int .i64 (0), .string ((bs [])), .string ((bs [])), (.slice none 0 0), .bool (false)] 44 (0, 0)) :: L) hs rfl has67 rfl rfl (mark_cutter_while_ok n (f := f819) (p0 := ({c := x817.2.2, out := x761.2.out} : mark_cutter)) (pb0 := pb0) (pv0_0 := pv0_0) (pv0_1 := v821) (pv0_1r := rw822) (pv0_2 := v772) (pv0_2r := rw773) (g1 := 69) (cap1 := []) hW823 hW774 has69 (fun f9 hle9 z0 r9  h9 => mark_blank_ok n (f := f9)   h9) hx826) (.free rfl) (by decide) ?_; clear hs; (try clear a w)
         rintro v829 f827 _ a w hf828 ⟨_, v833, rw834, v836, rw837, rfl, rfl, ⟨rw830, hR831, hW832⟩, hW835, hW838⟩ hs
         replace pv0_1h := pv0_1h.le hf828
         replace pv0_2h := pv0_2h.le hf828
         replace hW472 := hW472.le hf828
         replace hW478 := hW478.le hf828
         replace hW487 := hW487.le hf828
         replace hW713 := hW713.le hf828
         replace hW724 := hW724.le hf828
         replace hW732 := hW732.le hf828
         replace hR742 := hR742.le hf828
         replace hW743 := hW743.le hf828
         replace hW746 := hW746.le hf828
         replace hW749 := hW749.le hf828
         replace hW757 := hW757.le hf828
         replace hR767 := hR767.le hf828
         replace hW768 := hW768.le hf828
         replace hW771 := hW771.le hf828
         replace hW774 := hW774.le hf828
         replace hW823 := hW823.le hf828
         replace hle := hle.trans hf828
         replace hbase704 := hbase704.trans hf828
         replace hbase794 := hbase794.trans hf828
         replace hs : St _ _ _ (.blk pb0 (.cells #[.pointer (some ⟨pv0_0, 0, none⟩), v836] 71 (0, 0)) :: .blk pv0_0 (.cells #[v833, .int .i64 (x825.2.c.at_)] 94 (0, 0)) :: .row v833 21 1 rw834 :: .row v836 44 5 rw837 :: .row v755 21 1 rw756 :: .blk b481 (.cells #[.int .i64 (p1), .string (y482), .string ((bs [])), v485, .bool (y716)] 44 (0, 0)) :: .row v485 29 2 rw486 :: .blk b491 (.cells #[.string (x759), .string ((bs []))] 29 (0, 0)) :: .blk b7 (.cells #[.int .i64 (0), .string ((bs [])), .string ((bs [])), (.slice none 0 0), .bool (false)] 44 (0, 0)) :: L) _ _ _ := hs
         refine RL_nil ?_
         refine hK20 _ _ ?_; clear hK20
         refine W_seq fun K21 hK21 => ?_
         refine W_region ?_
         refine sy (v := .pointer (some ⟨pb0, 0, none⟩)) hs (y_move rfl) ?_; clear hs; (try clear a w); intro a w hs
         obtain ⟨x842, hx843, hm⟩ := ob hm
         replace hs := hs.front 3
         replace hs := hs.front 3
         replace hs := hs.front 3
         replace hs := hs.front 3
         replace hs : St _ _ _ (.blk pb0 (.cells #[.pointer (some ⟨pv0_0, 0, none⟩), v836] 71 (0, 0)) :: .blk pv0_0 (.cells #[v833, .int .i64 (x825.2.c.at_)] 94 (0, 0)) :: .row v833 21 1 rw834 :: .row v836 44 5 rw837 :: .row v755 21 1 rw756 :: .blk b481 (.cells #[.int .i64 (p1), .string (y482), .string ((bs [])), v485, .bool (y716)] 44 (0, 0)) :: .row v485 29 2 rw486 :: .blk b491 (.cells #[.string (x759), .string ((bs []))] 29 (0, 0)) :: .blk b7 (.cells #[.int .i64 (0), .string ((bs [])), .string ((bs [])), (.slice none 0 0), .bool (false)] 44 (0, 0)) :: L) _ _ _ := hs
         refine RL_call (Lr := [.blk pb0 (.cells #[.pointer (some ⟨pv0_0, 0, none⟩), v836] 71 (0, 0)), .blk pv0_0 (.cells #[v833, .int .i64 (x825.2.c.at_)] 94 (0, 0)), .row v833 21 1 rw834, .row v836 44 5 rw837]) (Lf := .row v755 21 1 rw756 :: .blk b481 (.cells #[.int .i64 (p1), .string (y482), .string ((bs [])), v485, .bool (y716)] 44 (0, 0)) :: .row v485 29 2 rw486 :: .blk b491 (.cells #[.string (x759), .string ((bs []))] 29 (0, 0)) :: .blk b7 (.cells #[.int .i64 (0), .string ((bs [])), .string ((bs [])), (.slice none 0 0), .bool (false)] 44 (0, 0)) :: L) hs rfl has71 rfl rfl (mark_cutter_value_ok n (f := f827) (p0 := x825.2) (pb0 := pb0) (pv0_0 := pv0_0) (pv0_1 := v833) (pv0_1r := rw834) (pv0_2 := v836) (pv0_2r := rw837) hW835 hW838 hx843) (.free rfl) (by decide) ?_; clear hs; (try clear a w)
         rintro _ f844 _ a w hf845 ⟨v846, rw847, v849, rw850, rfl, rfl, hW848, hW851⟩ hs
         replace pv0_1h := pv0_1h.le hf845
         replace pv0_2h := pv0_2h.le hf845
         replace hW472 := hW472.le hf845
         replace hW478 := hW478.le hf845
         replace hW487 := hW487.le hf845
         replace hW713 := hW713.le hf845
         replace hW724 := hW724.le hf845
         replace hW732 := hW732.le hf845
         replace hR742 := hR742.le hf845
         replace hW743 := hW743.le hf845
         replace hW746 := hW746.le hf845
         replace hW749 := hW749.le hf845
         replace hW757 := hW757.le hf845
         replace hR767 := hR767.le hf845
         replace hW768 := hW768.le hf845
         replace hW771 := hW771.le hf845
         replace hW774 := hW774.le hf845
         replace hW823 := hW823.le hf845
         replace hR831 := hR831.le hf845
         replace hW832 := hW832.le hf845
         replace hW835 := hW835.le hf845
         replace hW838 := hW838.le hf845
         replace hle := hle.trans hf845
         replace hbase704 := hbase704.trans hf845
         replace hbase794 := hbase794.trans hf845
         replace hs : St _ _ _ (.blk pb0 (.cells #[.pointer (some ⟨pv0_0, 0, none⟩), v849] 71 (0, 0)) :: .blk pv0_0 (.cells #[v846, .int .i64 (x842.2.2.c.at_)] 94 (0, 0)) :: .row v846 21 1 rw847 :: .row v849 44 5 rw850 :: .row v755 21 1 rw756 :: .blk b481 (.cells #[.int .i64 (p1), .string (y482), .string ((bs [])), v485, .bool (y716)] 44 (0, 0)) :: .row v485 29 2 rw486 :: .blk b491 (.cells #[.string (x759), .string ((bs []))] 29 (0, 0)) :: .blk b7 (.cells #[.int .i64 (0), .string ((bs [])), .string ((bs [])), (.slice none 0 0), .bool (false)] 44 (0, 0)) :: L) _ _ _ := hs
         refine sy (v := .tuple #[.string (x842.1), .bool (x842.2.1)]) hs (y_move rfl) ?_; clear hs; (try clear a w); intro a w hs
         refine sy (v := .string (x842.1)) hs (y_extract rfl rfl) ?_; clear hs; (try clear a w); intro a w hs
         refine sy (v := .bool (x842.2.1)) hs (y_extract rfl rfl) ?_; clear hs; (try clear a w); intro a w hs
         refine sy (v := .pointer (some ⟨b491, 1, none⟩)) hs (y_fieldAddr rfl (FO.of (off := 1) Try.underlying29 rfl rfl ti9 (by decide))) ?_; clear hs; (try clear a w); intro a w hs
         refine sstore 7 hs rfl rfl rfl ti9 rfl ?_; clear hs; (try clear a w); intro a w hs
         replace hs : St _ _ _ (.blk pb0 (.cells #[.pointer (some ⟨pv0_0, 0, none⟩), v849] 71 (0, 0)) :: .blk pv0_0 (.cells #[v846, .int .i64 (x842.2.2.c.at_)] 94 (0, 0)) :: .row v846 21 1 rw847 :: .row v849 44 5 rw850 :: .row v755 21 1 rw756 :: .blk b481 (.cells #[.int .i64 (p1), .string (y482), .string ((bs [])), v485, .bool (y716)] 44 (0, 0)) :: .row v485 29 2 rw486 :: .blk b491 (.cells #[.string (x759), .string (x842.1)] 29 (0, 0)) :: .blk b7 (.cells #[.int .i64 (0), .string ((bs [])), .string ((bs [])), (.slice none 0 0), .bool (false)] 44 (0, 0)) :: L) _ _ _ := hs
         refine sy (v := .bool (x842.2.1)) hs (y_assign rfl) ?_; clear hs; (try clear a w); intro a w hs
         refine RL_nil ?_
         refine hK21 _ _ ?_; clear hK21
         refine W_seq fun K22 hK22 => ?_
         refine W_seq fun K23 hK23 => ?_
         refine W_region ?_
         refine sy (v := .bool (x842.2.1)) hs (y_move rfl) ?_; clear hs; (try clear a w); intro a w hs
         refine sy (v := .bool ((!x842.2.1))) hs (y_not rfl) ?_; clear hs; (try clear a w); intro a w hs
         refine RL_nil ?_
         refine hK23 _ _ ?_; clear hK23
         refine W_cond hs rfl (fun hg854 => ?_) (fun hg854 => ?_)
         ·replace hm := oc_t hg854 hm
          refine W_seq fun K24 hK24 => ?_
          refine W_region ?_
          refine sy hs (y_ldB rfl Try.underlying44 rfl ti44 (.tail _ (.tail _ (.tail _ (.tail _ (.tail _ (.head _)))))) rfl) ?_; clear hs; (try clear a w); intro a w hs
          refine RL_storeAll (i := 8) hs rfl rfl rfl ti44 ⟨rfl, rfl⟩ (AllC.arr (r := [.int .i64 (p1), .string (y482), .string ((bs [])), v485, .bool (y716)]) ⟨rfl, rfl, rfl, (hs.one (i := 6) rfl), rfl, trivial⟩) (.free rfl) ?_; clear hs; (try clear a w); intro a w hs
          replace hs : St _ _ _ (.blk pb0 (.cells #[.pointer (some ⟨pv0_0, 0, none⟩), v849] 71 (0, 0)) :: .blk pv0_0 (.cells #[v846, .int .i64 (x842.2.2.c.at_)] 94 (0, 0)) :: .row v846 21 1 rw847 :: .row v849 44 5 rw850 :: .row v755 21 1 rw756 :: .blk b481 (.cells #[.int .i64 (p1), .string (y482), .string ((bs [])), v485, .bool (y716)] 44 (0, 0)) :: .row v485 29 2 rw486 :: .blk b491 (.cells #[.string (x759), .string (x842.1)] 29 (0, 0)) :: .blk b7 (.cells #[.int .i64 (p1), .string (y482), .string ((bs [])), v485, .bool (y716)] 44 (0, 0)) :: L) _ _ _ := hs
          refine sy (v := .bool (false)) hs (y_assign rfl) ?_; clear hs; (try clear a w); intro a w hs
          refine RL_nil ?_
          refine hK24 _ _ ?_; clear hK24
          refine W_ret ?_
          obtain ⟨f855, hf856, hs2, hR857, hO⟩ := hs.frzO 6 rfl hle
          clear hs; have hs := hs2; clear hs2
          replace hW487 := hW487.le hf856
          replace hW732 := hW732.le hf856
          replace hR742 := hR742.le hf856
          replace hW743 := hW743.le hf856
          replace hW757 := hW757.le hf856
          replace hR767 := hR767.le hf856
          replace hW768 := hW768.le hf856
          replace hR831 := hR831.le hf856
          replace hW832 := hW832.le hf856
          replace hW848 := hW848.le hf856
          replace hW851 := hW851.le hf856
          replace hle := hle.trans hf856
          replace hbase704 := hbase704.trans hf856
          replace hbase794 := hbase794.trans hf856
          replace hs : St _ _ _ (.blk pb0 (.cells #[.pointer (some ⟨pv0_0, 0, none⟩), v849] 71 (0, 0)) :: .blk pv0_0 (.cells #[v846, .int .i64 (x842.2.2.c.at_)] 94 (0, 0)) :: .row v846 21 1 rw847 :: .row v849 44 5 rw850 :: .row v755 21 1 rw756 :: .blk b481 (.cells #[.int .i64 (p1), .string (y482), .string ((bs [])), v485, .bool (y716)] 44 (0, 0)) :: .blk b491 (.cells #[.string (x759), .string (x842.1)] 29 (0, 0)) :: .blk b7 (.cells #[.int .i64 (p1), .string (y482), .string ((bs [])), v485, .bool (y716)] 44 (0, 0)) :: L) _ _ _ := hs
          obtain rfl := Option.some.inj hm
          refine RtV2 hs rfl (rv_a hs rfl Try.underlying44 rfl ti44 (fun j u hj => Cell.blk (.tail _ (.tail _ (.tail _ (.tail _ (.tail _ (.tail _ (.tail _ (.head _)))))))) hj) rfl) (rv_t hs rfl) ?_
          exact ⟨_, f855, [.blk pb0 (.cells #[.pointer (some ⟨pv0_0, 0, none⟩), v849] 71 (0, 0)), .blk pv0_0 (.cells #[v846, .int .i64 (x842.2.2.c.at_)] 94 (0, 0)), .row v846 21 1 rw847, .row v849 44 5 rw850], rfl, hle, (hs.subL (.cons_cons _ (.cons_cons _ (.cons_cons _ (.cons_cons _ (.cons _ (.cons _ (.cons _ (.cons _ (.refl _)))))))))).cw, [.int .i64 (p1), .string (y482), .string ((bs [])), v485, .bool (y716)], v846, rw847, v849, rw850, rfl, rfl, ⟨_, rfl, ⟨rw486, hR857, hW487⟩, hO⟩, hW848, hW851⟩
         ·replace hm := oc_f hg854 hm
          refine W_skip ?_
          refine hK22 _ _ ?_; clear hK22
          refine W_region ?_
          refine sy (v := .pointer (some ⟨b491, 1, none⟩)) hs (y_fieldAddr rfl (FO.of (off := 1) Try.underlying29 rfl rfl ti9 (by decide))) ?_; clear hs; (try clear a w); intro a w hs
          refine sy (v := .string (x842.1)) hs (y_ld rfl Try.underlying9 rfl (Cell.blk (.tail _ (.tail _ (.tail _ (.tail _ (.tail _ (.tail _ (.tail _ (.head _)))))))) rfl)) ?_; clear hs; (try clear a w); intro a w hs
          obtain ⟨x858, hx859, hm⟩ := ob hm
          refine sy hs (y_call rfl has16 rfl (mark_Unescape_ok n (f := f844)  hx859)) ?_; clear hs; (try clear a w); intro a w hs
          refine sy (v := .pointer (some ⟨b491, 1, none⟩)) hs (y_fieldAddr rfl (FO.of (off := 1) Try.underlying29 rfl rfl ti9 (by decide))) ?_; clear hs; (try clear a w); intro a w hs
          refine sstore 7 hs rfl rfl rfl ti9 rfl ?_; clear hs; (try clear a w); intro a w hs
          replace hs : St _ _ _ (.blk pb0 (.cells #[.pointer (some ⟨pv0_0, 0, none⟩), v849] 71 (0, 0)) :: .blk pv0_0 (.cells #[v846, .int .i64 (x842.2.2.c.at_)] 94 (0, 0)) :: .row v846 21 1 rw847 :: .row v849 44 5 rw850 :: .row v755 21 1 rw756 :: .blk b481 (.cells #[.int .i64 (p1), .string (y482), .string ((bs [])), v485, .bool (y716)] 44 (0, 0)) :: .row v485 29 2 rw486 :: .blk b491 (.cells #[.string (x759), .string (x858)] 29 (0, 0)) :: .blk b7 (.cells #[.int .i64 (0), .string ((bs [])), .string ((bs [])), (.slice none 0 0), .bool (false)] 44 (0, 0)) :: L) _ _ _ := hs
          refine RL_nil ?_
          replace hs : St _ _ _ (.blk pb0 (.cells #[.pointer (some ⟨pv0_0, 0, none⟩), v849] 71 (0, 0)) :: .blk pv0_0 (.cells #[v846, .int .i64 (x842.2.2.c.at_)] 94 (0, 0)) :: .row v846 21 1 rw847 :: .row v849 44 5 rw850 :: .row v755 21 1 rw756 :: .blk b481 (.cells #[.int .i64 (p1), .string (y482), .string ((bs [])), v485, .bool (y716)] 44 (0, 0)) :: .row v485 29 2 rw486 :: .blk b491 (.cells #[.string (x759), .string (x858)] 29 (0, 0)) :: .blk b7 (.cells #[.int .i64 (0), .string ((bs [])), .string ((bs [])), (.slice none 0 0), .bool (false)] 44 (0, 0)) :: L) _ _ _ := hs
          replace hs : St _ _ _ (.blk pb0 (.cells #[.pointer (some ⟨pv0_0, 0, none⟩), v849] 71 (0, 0)) :: .blk pv0_0 (.cells #[v846, .int .i64 (x842.2.2.c.at_)] 94 (0, 0)) :: .row v846 21 1 rw847 :: .row v849 44 5 rw850 :: .row v755 21 1 rw756 :: .blk b481 (.cells #[.int .i64 (p1), .string (y482), .string ((bs [])), v485, .bool (y716)] 44 (0, 0)) :: .row v485 29 2 rw486 :: .blk b491 (.cells #[.string (x759), .string (x858)] 29 (0, 0)) :: .blk b7 (.cells #[.int .i64 (0), .string ((bs [])), .string ((bs [])), (.slice none 0 0), .bool (false)] 44 (0, 0)) :: L) _ _ _ := hs
          replace hs : St _ _ _ (.blk pb0 (.cells #[.pointer (some ⟨pv0_0, 0, none⟩), v849] 71 (0, 0)) :: .blk pv0_0 (.cells #[v846, .int .i64 (x842.2.2.c.at_)] 94 (0, 0)) :: .row v846 21 1 rw847 :: .row v849 44 5 rw850 :: .row v755 21 1 rw756 :: .blk b481 (.cells #[.int .i64 (p1), .string (y482), .string ((bs [])), v485, .bool (y716)] 44 (0, 0)) :: .row v485 29 2 rw486 :: .blk b491 (.cells #[.string (x759), .string (x858)] 29 (0, 0)) :: .blk b7 (.cells #[.int .i64 (0), .string ((bs [])), .string ((bs [])), (.slice none 0 0), .bool (false)] 44 (0, 0)) :: L) _ _ _ := hs
          exact ⟨_, x842.2.2.c.l, x842.2.2.c.at_, x842.2.2.out, x858, v846, rw847, v849, rw850, hbase794, hm, hW848, hW851, hs.subs ⟨rfl, rfl, rfl, rfl, rfl, trivial⟩ (.cons_cons _ (.cons_cons _ (.cons_cons _ (.cons_cons _ (.cons _ (.cons_cons _ (.cons_cons _ (.cons_cons _ (.cons_cons _ (.refl _))))))))))⟩
        ·replace hm := oc_f hg816 hm
         refine W_skip ?_
         replace hs : St _ _ _ (.blk pb0 (.cells #[.pointer (some ⟨pv0_0, 0, none⟩), v772] 71 (0, 0)) :: .blk pv0_0 (.cells #[v769, .int .i64 (x761.2.c.at_)] 94 (0, 0)) :: .row v769 21 1 rw770 :: .row v772 44 5 rw773 :: .row v755 21 1 rw756 :: .blk b481 (.cells #[.int .i64 (p1), .string (y482), .string ((bs [])), v485, .bool (y716)] 44 (0, 0)) :: .row v485 29 2 rw486 :: .blk b491 (.cells #[.string (x759), .string ((bs []))] 29 (0, 0)) :: .blk b7 (.cells #[.int .i64 (0), .string ((bs [])), .string ((bs [])), (.slice none 0 0), .bool (false)] 44 (0, 0)) :: L) _ _ _ := hs
         replace hs : St _ _ _ (.blk pb0 (.cells #[.pointer (some ⟨pv0_0, 0, none⟩), v772] 71 (0, 0)) :: .blk pv0_0 (.cells #[v769, .int .i64 (x761.2.c.at_)] 94 (0, 0)) :: .row v769 21 1 rw770 :: .row v772 44 5 rw773 :: .row v755 21 1 rw756 :: .blk b481 (.cells #[.int .i64 (p1), .string (y482), .string ((bs [])), v485, .bool (y716)] 44 (0, 0)) :: .row v485 29 2 rw486 :: .blk b491 (.cells #[.string (x759), .string ((bs []))] 29 (0, 0)) :: .blk b7 (.cells #[.int .i64 (0), .string ((bs [])), .string ((bs [])), (.slice none 0 0), .bool (false)] 44 (0, 0)) :: L) _ _ _ := hs
         replace hs : St _ _ _ (.blk pb0 (.cells #[.pointer (some ⟨pv0_0, 0, none⟩), v772] 71 (0, 0)) :: .blk pv0_0 (.cells #[v769, .int .i64 (x761.2.c.at_)] 94 (0, 0)) :: .row v769 21 1 rw770 :: .row v772 44 5 rw773 :: .row v755 21 1 rw756 :: .blk b481 (.cells #[.int .i64 (p1), .string (y482), .string ((bs [])), v485, .bool (y716)] 44 (0, 0)) :: .row v485 29 2 rw486 :: .blk b491 (.cells #[.string (x759), .string ((bs []))] 29 (0, 0)) :: .blk b7 (.cells #[.int .i64 (0), .string ((bs [])), .string ((bs [])), (.slice none 0 0), .bool (false)] 44 (0, 0)) :: L) _ _ _ := hs
         exact ⟨_, x761.2.c.l, x761.2.c.at_, x761.2.out, (bs []), v769, rw770, v772, rw773, (Fz.le.refl _), hm, hW771, hW774, hs.subs ⟨rfl, rfl, rfl, rfl, rfl, trivial⟩ (.cons_cons _ (.cons_cons _ (.cons_cons _ (.cons_cons _ (.cons _ (.cons_cons _ (.cons_cons _ (.cons_cons _ (.cons_cons _ (.refl _))))))))))⟩
    ·refine W_block fun Qe25 hB25 hO25 => ?_
     have hbase := Fz.le.refl f467
     replace hs : St _ _ _ (.blk b481 (.cells #[.int .i64 (p1), .string (y482), .string ((bs [])), v485, .bool (false)] 44 (0, 0)) :: .row v485 29 2 rw486 :: .blk b491 (.cells #[.string (y492.Name), .string (y492.Value)] 29 (0, 0)) :: .blk b7 (.cells #[.int .i64 (0), .string ((bs [])), .string ((bs [])), (.slice none 0 0), .bool (false)] 44 (0, 0)) :: .blk pb0 (.cells #[.pointer (some ⟨pv0_0, 0, none⟩), v476] 71 (0, 0)) :: .blk pv0_0 (.cells #[v470, .int .i64 (y474)] 94 (0, 0)) :: .row v470 21 1 rw471 :: .row v476 44 5 rw477 :: L) _ _ _ := hs
     replace hs : St _ _ _ (.blk b481 (.cells #[.int .i64 (p1), .string (y482), .string ((bs [])), v485, .bool (false)] 44 (0, 0)) :: .row v485 29 2 rw486 :: .blk b491 (.cells #[.string (y492.Name), .string (y492.Value)] 29 (0, 0)) :: .blk b7 (.cells #[.int .i64 (0), .string ((bs [])), .string ((bs [])), (.slice none 0 0), .bool (false)] 44 (0, 0)) :: .blk pb0 (.cells #[.pointer (some ⟨pv0_0, 0, none⟩), v476] 71 (0, 0)) :: .blk pv0_0 (.cells #[v470, .int .i64 (y474)] 94 (0, 0)) :: .row v470 21 1 rw471 :: .row v476 44 5 rw477 :: L) _ _ _ := hs
     replace hs : St _ _ _ (.blk b481 (.cells #[.int .i64 (p1), .string (y482), .string ((bs [])), v485, .bool (false)] 44 (0, 0)) :: .row v485 29 2 rw486 :: .blk b491 (.cells #[.string (y492.Name), .string (y492.Value)] 29 (0, 0)) :: .blk b7 (.cells #[.int .i64 (0), .string ((bs [])), .string ((bs [])), (.slice none 0 0), .bool (false)] 44 (0, 0)) :: .blk pb0 (.cells #[.pointer (some ⟨pv0_0, 0, none⟩), v476] 71 (0, 0)) :: .blk pv0_0 (.cells #[v470, .int .i64 (y474)] 94 (0, 0)) :: .row v470 21 1 rw471 :: .row v476 44 5 rw477 :: L) _ _ _ := hs
     refine W_loop (fun (k : Nat) a w => ∃ (f860 : Fz) (y862 : (List Int)) (y867 : Int) (y868 : Bool) (y869 : Int) (v863 : Value) (rw864 : List (List Value)), Fz.le f467 f860 ∧ mark_cutter_tag_l6 n p1 y475 y482 y484 (mark_cutter_tag_g1_0 n p1 k705) (mark_cutter_tag_g1_1 n p1 k705) k y862 y867 y868 y869 = some res ∧ RW (tInt .i32) f860 rw864 y862 ∧ St 104 w0 f860 (.blk b481 (.cells #[.int .i64 (p1), .string (y482), .string ((bs [])), v485, .bool (y868)] 44 (0, 0)) :: .row v485 29 2 rw486 :: .blk b491 (.cells #[.string (y492.Name), .string (y492.Value)] 29 (0, 0)) :: .blk b7 (.cells #[.int .i64 (0), .string ((bs [])), .string ((bs [])), (.slice none 0 0), .bool (false)] 44 (0, 0)) :: .blk pb0 (.cells #[.pointer (some ⟨pv0_0, 0, none⟩), v476] 71 (0, 0)) :: .blk pv0_0 (.cells #[v863, .int .i64 (y867)] 94 (0, 0)) :: .row v863 21 1 rw864 :: .row v476 44 5 rw477 :: L) [(0, .pointer (some ⟨pb0, 0, none⟩)), (1, .int .i64 (p1)), (4, .pointer (some ⟨b7, 0, none⟩)), (6, .pointer (some ⟨b481, 0, none⟩)), (7, .pointer (some ⟨b491, 0, none⟩)), (10, .int .i32 (y869))] a w) (fun k => k) n ⟨_, y469, y474, false, x706, v470, rw471, (Fz.le.refl _), hm, hW472, hs.sub ⟨rfl, rfl, rfl, rfl, rfl, rfl, trivial⟩⟩ ?_
     clear hs hm
     intro k
     rintro a w ⟨f860, y862, y867, y868, y869, v863, rw864, hl861, hm, hW865, hs⟩
     replace pv0_1h := pv0_1h.le hl861
     replace pv0_2h := pv0_2h.le hl861
     replace hW472 := hW472.le hl861
     replace hW478 := hW478.le hl861
     replace hW487 := hW487.le hl861
     replace hle := hle.trans hl861
     replace hbase704 := hbase704.trans hl861
     replace hbase717 := hbase717.trans hl861
     replace hs : St _ _ _ (.blk b481 (.cells #[.int .i64 (p1), .string (y482), .string ((bs [])), v485, .bool (y868)] 44 (0, 0)) :: .row v485 29 2 rw486 :: .blk b491 (.cells #[.string (y492.Name), .string (y492.Value)] 29 (0, 0)) :: .blk b7 (.cells #[.int .i64 (0), .string ((bs [])), .string ((bs [])), (.slice none 0 0), .bool (false)] 44 (0, 0)) :: .blk pb0 (.cells #[.pointer (some ⟨pv0_0, 0, none⟩), v476] 71 (0, 0)) :: .blk pv0_0 (.cells #[v863, .int .i64 (y867)] 94 (0, 0)) :: .row v863 21 1 rw864 :: .row v476 44 5 rw477 :: L) _ _ _ := hs
     intro K26 hK26
     cases k with
     | zero => simp [mark_cutter_tag_l6] at hm
     | succ k870 =>
      rw [mark_cutter_tag_l6] at hm
      have hbase871 := hl861
      refine W_seq fun K27 hK27 => ?_
      refine W_seq fun K28 hK28 => ?_
      refine W_post (fun a w => ∃ (y872 : Bool), mark_cutter_tag_k7 n p1 y475 y482 y484 (mark_cutter_tag_g1_0 n p1 k705) (mark_cutter_tag_g1_1 n p1 k705) y862 y867 y868 y869 (mark_cutter_tag_l6 n p1 y475 y482 y484 (mark_cutter_tag_g1_0 n p1 k705) (mark_cutter_tag_g1_1 n p1 k705) k870) y872 = some res ∧ St 104 w0 f860 (.blk b481 (.cells #[.int .i64 (p1), .string (y482), .string ((bs [])), v485, .bool (y868)] 44 (0, 0)) :: .row v485 29 2 rw486 :: .blk b491 (.cells #[.string (y492.Name), .string (y492.Value)] 29 (0, 0)) :: .blk b7 (.cells #[.int .i64 (0), .string ((bs [])), .string ((bs [])), (.slice none 0 0), .bool (false)] 44 (0, 0)) :: .blk pb0 (.cells #[.pointer (some ⟨pv0_0, 0, none⟩), v476] 71 (0, 0)) :: .blk pv0_0 (.cells #[v863, .int .i64 (y867)] 94 (0, 0)) :: .row v863 21 1 rw864 :: .row v476 44 5 rw477 :: L) [(0, .pointer (some ⟨pb0, 0, none⟩)), (1, .int .i64 (p1)), (4, .pointer (some ⟨b7, 0, none⟩)), (6, .pointer (some ⟨b481, 0, none⟩)), (7, .pointer (some ⟨b491, 0, none⟩)), (10, .int .i32 (y869)), (25, .bool (y872))] a w) ?_ ?_
      ·clear hs hm
       rintro a w ⟨y872, hm, hs⟩
       replace hs : St _ _ _ (.blk b481 (.cells #[.int .i64 (p1), .string (y482), .string ((bs [])), v485, .bool (y868)] 44 (0, 0)) :: .row v485 29 2 rw486 :: .blk b491 (.cells #[.string (y492.Name), .string (y492.Value)] 29 (0, 0)) :: .blk b7 (.cells #[.int .i64 (0), .string ((bs [])), .string ((bs [])), (.slice none 0 0), .bool (false)] 44 (0, 0)) :: .blk pb0 (.cells #[.pointer (some ⟨pv0_0, 0, none⟩), v476] 71 (0, 0)) :: .blk pv0_0 (.cells #[v863, .int .i64 (y867)] 94 (0, 0)) :: .row v863 21 1 rw864 :: .row v476 44 5 rw477 :: L) _ _ _ := hs
       unfold mark_cutter_tag_k7 at hm
       refine hK28 _ _ ?_; clear hK28
       refine W_cond hs rfl (fun hg873 => ?_) (fun hg873 => ?_)
       ·replace hm := oc_t hg873 hm
        refine W_skip ?_
        refine hK27 _ _ ?_; clear hK27
        refine W_seq fun K29 hK29 => ?_
        refine W_block fun Qe30 hB30 hO30 => ?_
        refine W_seq fun K31 hK31 => ?_
        refine W_region ?_
        refine sy (v := .int .i32 (y869)) hs (y_move rfl) ?_; clear hs; (try clear a w); intro a w hs
        refine sy hs (y_eql rfl rfl) ?_; clear hs; (try clear a w); intro a w hs
        refine sy (v := .pointer (some ⟨b481, 4, none⟩)) hs (y_fieldAddr rfl (FO.of (off := 4) Try.underlying44 rfl rfl ti4 (by decide))) ?_; clear hs; (try clear a w); intro a w hs
        refine sstore 0 hs rfl rfl rfl ti4 rfl ?_; clear hs; (try clear a w); intro a w hs
        replace hs : St _ _ _ (.blk b481 (.cells #[.int .i64 (p1), .string (y482), .string ((bs [])), v485, .bool (decide (y869 = 47))] 44 (0, 0)) :: .row v485 29 2 rw486 :: .blk b491 (.cells #[.string (y492.Name), .string (y492.Value)] 29 (0, 0)) :: .blk b7 (.cells #[.int .i64 (0), .string ((bs [])), .string ((bs [])), (.slice none 0 0), .bool (false)] 44 (0, 0)) :: .blk pb0 (.cells #[.pointer (some ⟨pv0_0, 0, none⟩), v476] 71 (0, 0)) :: .blk pv0_0 (.cells #[v863, .int .i64 (y867)] 94 (0, 0)) :: .row v863 21 1 rw864 :: .row v476 44 5 rw477 :: L) _ _ _ := hs
        refine RL_nil ?_
        refine hK31 _ _ ?_; clear hK31
        refine W_region ?_
        refine sy (v := .pointer (some ⟨pb0, 0, none⟩)) hs (y_move rfl) ?_; clear hs; (try clear a w); intro a w hs
        refine sy hs (y_nilCheck rfl) ?_; clear hs; (try clear a w); intro a w hs
        refine sy (v := .pointer (some ⟨pb0, 0, none⟩)) hs (y_fieldAddr rfl (FO.of (off := 0) Try.underlying71 rfl rfl ti68 (by decide))) ?_; clear hs; (try clear a w); intro a w hs
        refine sy (v := .pointer (some ⟨pv0_0, 0, none⟩)) hs (y_ld rfl Try.underlying68 rfl (Cell.blk (.tail _ (.tail _ (.tail _ (.tail _ (.head _))))) rfl)) ?_; clear hs; (try clear a w); intro a w hs
        obtain ⟨x874, hx875, hm⟩ := ob hm
        replace hs := hs.front 6
        replace hs := hs.front 6
        replace hs : St _ _ _ (.blk pv0_0 (.cells #[v863, .int .i64 (y867)] 94 (0, 0)) :: .row v863 21 1 rw864 :: .blk b481 (.cells #[.int .i64 (p1), .string (y482), .string ((bs [])), v485, .bool (decide (y869 = 47))] 44 (0, 0)) :: .row v485 29 2 rw486 :: .blk b491 (.cells #[.string (y492.Name), .string (y492.Value)] 29 (0, 0)) :: .blk b7 (.cells #[.int .i64 (0), .string ((bs [])), .string ((bs [])), (.slice none 0 0), .bool (false)] 44 (0, 0)) :: .blk pb0 (.cells #[.pointer (some ⟨pv0_0, 0, none⟩), v476] 71 (0, 0)) :: .row v476 44 5 rw477 :: L) _ _ _ := hs
        refine RL_call (Lr := [.blk pv0_0 (.cells #[v863, .int .i64 (y867)] 94 (0, 0)), .row v863 21 1 rw864]) (Lf := .blk b481 (.cells #[.int .i64 (p1), .string (y482), .string ((bs [])), v485, .bool (decide (y869 = 47))] 44 (0, 0)) :: .row v485 29 2 rw486 :: .blk b491 (.cells #[.string (y492.Name), .string (y492.Value)] 29 (0, 0)) :: .blk b7 (.cells #[.int .i64 (0), .string ((bs [])), .string ((bs [])), (.slice none 0 0), .bool (false)] 44 (0, 0)) :: .blk pb0 (.cells #[.pointer (some ⟨pv0_0, 0, none⟩), v476] 71 (0, 0)) :: .row v476 44 5 rw477 :: L) hs rfl has47 rfl rfl (source_Cursor_rune_Next_ok n (f := f860) (p0 := ({l := y862, at_ := y867} : source_Cursor_rune_)) (pb0 := pv0_0) (pv0_0 := v863) (pv0_0r := rw864) hW865 hx875) (.free rfl) (by decide) ?_; clear hs; (try clear a w)
        rintro _ f876 _ a w hf877 ⟨v878, rw879, rfl, rfl, hW880⟩ hs
        replace pv0_1h := pv0_1h.le hf877
        replace pv0_2h := pv0_2h.le hf877
        replace hW472 := hW472.le hf877
        replace hW478 := hW478.le hf877
        replace hW487 := hW487.le hf877
        replace hW865 := hW865.le hf877
        replace hle := hle.trans hf877
        replace hbase704 := hbase704.trans hf877
        replace hbase717 := hbase717.trans hf877
        replace hbase871 := hbase871.trans hf877
        replace hs : St _ _ _ (.blk pv0_0 (.cells #[v878, .int .i64 (x874.2.2.at_)] 94 (0, 0)) :: .row v878 21 1 rw879 :: .blk b481 (.cells #[.int .i64 (p1), .string (y482), .string ((bs [])), v485, .bool (decide (y869 = 47))] 44 (0, 0)) :: .row v485 29 2 rw486 :: .blk b491 (.cells #[.string (y492.Name), .string (y492.Value)] 29 (0, 0)) :: .blk b7 (.cells #[.int .i64 (0), .string ((bs [])), .string ((bs [])), (.slice none 0 0), .bool (false)] 44 (0, 0)) :: .blk pb0 (.cells #[.pointer (some ⟨pv0_0, 0, none⟩), v476] 71 (0, 0)) :: .row v476 44 5 rw477 :: L) _ _ _ := hs
        refine RL_nil ?_
        refine hK29 _ _ ?_; clear hK29
        refine W_region ?_
        refine sy (v := .pointer (some ⟨pb0, 0, none⟩)) hs (y_move rfl) ?_; clear hs; (try clear a w); intro a w hs
        obtain ⟨x882, hx883, hm⟩ := ob hm
        refine sy hs (y_callR (cap := []) (Lf := .blk b481 (.cells #[.int .i64 (p1), .string (y482), .string ((bs [])), v485, .bool (decide (y869 = 47))] 44 (0, 0)) :: .row v485 29 2 rw486 :: .blk b491 (.cells #[.string (y492.Name), .string (y492.Value)] 29 (0, 0)) :: .blk b7 (.cells #[.int .i64 (0), .string ((bs [])), .string ((bs [])), (.slice none 0 0), .bool (false)] 44 (0, 0)) :: L) rfl has43 rfl ((((perm_at _ 7 rfl).trans (perm_at _ 2 rfl)).trans (perm_at _ 2 rfl)).trans (perm_at _ 7 rfl)) (mark_cutter_peek_ok n (f := f876) (p0 := ({c := x874.2.2, out := y475} : mark_cutter)) (pb0 := pb0) (pv0_0 := pv0_0) (pv0_1 := v878) (pv0_1r := rw879) (pv0_2 := v476) (pv0_2r := rw477) (p1 := 0) hW880 hW478 hx883)) ?_; clear hs; (try clear a w); intro a w hs
        refine sy (v := .int .i32 (x882)) hs (y_assign rfl) ?_; clear hs; (try clear a w); intro a w hs
        refine RL_nil ?_
        replace hs : St _ _ _ (.blk pv0_0 (.cells #[v878, .int .i64 (x874.2.2.at_)] 94 (0, 0)) :: .row v878 21 1 rw879 :: .blk b481 (.cells #[.int .i64 (p1), .string (y482), .string ((bs [])), v485, .bool (decide (y869 = 47))] 44 (0, 0)) :: .row v485 29 2 rw486 :: .blk b491 (.cells #[.string (y492.Name), .string (y492.Value)] 29 (0, 0)) :: .blk b7 (.cells #[.int .i64 (0), .string ((bs [])), .string ((bs [])), (.slice none 0 0), .bool (false)] 44 (0, 0)) :: .blk pb0 (.cells #[.pointer (some ⟨pv0_0, 0, none⟩), v476] 71 (0, 0)) :: .row v476 44 5 rw477 :: L) _ _ _ := hs
        replace hs : St _ _ _ (.blk pv0_0 (.cells #[v878, .int .i64 (x874.2.2.at_)] 94 (0, 0)) :: .row v878 21 1 rw879 :: .blk b481 (.cells #[.int .i64 (p1), .string (y482), .string ((bs [])), v485, .bool (decide (y869 = 47))] 44 (0, 0)) :: .row v485 29 2 rw486 :: .blk b491 (.cells #[.string (y492.Name), .string (y492.Value)] 29 (0, 0)) :: .blk b7 (.cells #[.int .i64 (0), .string ((bs [])), .string ((bs [])), (.slice none 0 0), .bool (false)] 44 (0, 0)) :: .blk pb0 (.cells #[.pointer (some ⟨pv0_0, 0, none⟩), v476] 71 (0, 0)) :: .row v476 44 5 rw477 :: L) _ _ _ := hs
        replace hs : St _ _ _ (.blk pv0_0 (.cells #[v878, .int .i64 (x874.2.2.at_)] 94 (0, 0)) :: .row v878 21 1 rw879 :: .blk b481 (.cells #[.int .i64 (p1), .string (y482), .string ((bs [])), v485, .bool (decide (y869 = 47))] 44 (0, 0)) :: .row v485 29 2 rw486 :: .blk b491 (.cells #[.string (y492.Name), .string (y492.Value)] 29 (0, 0)) :: .blk b7 (.cells #[.int .i64 (0), .string ((bs [])), .string ((bs [])), (.slice none 0 0), .bool (false)] 44 (0, 0)) :: .blk pb0 (.cells #[.pointer (some ⟨pv0_0, 0, none⟩), v476] 71 (0, 0)) :: .row v476 44 5 rw477 :: L) _ _ _ := hs
        replace hs := hs.front 7
        replace hs := hs.front 2
        replace hs := hs.front 2
        replace hs := hs.front 7
        replace hs := hs.front 7
        replace hs := hs.front 7
        replace hs := hs.front 7
        replace hs := hs.front 7
        replace hs : St _ _ _ (.blk b481 (.cells #[.int .i64 (p1), .string (y482), .string ((bs [])), v485, .bool (decide (y869 = 47))] 44 (0, 0)) :: .row v485 29 2 rw486 :: .blk b491 (.cells #[.string (y492.Name), .string (y492.Value)] 29 (0, 0)) :: .blk b7 (.cells #[.int .i64 (0), .string ((bs [])), .string ((bs [])), (.slice none 0 0), .bool (false)] 44 (0, 0)) :: .blk pb0 (.cells #[.pointer (some ⟨pv0_0, 0, none⟩), v476] 71 (0, 0)) :: .blk pv0_0 (.cells #[v878, .int .i64 (x874.2.2.at_)] 94 (0, 0)) :: .row v878 21 1 rw879 :: .row v476 44 5 rw477 :: L) _ _ _ := hs
        exact hK26 k870 _ _ (Nat.lt_succ_self _) ⟨_, x874.2.2.l, x874.2.2.at_, decide (y869 = 47), x882, v878, rw879, hbase871, hm, hW880, hs.sub ⟨rfl, rfl, rfl, rfl, rfl, rfl, trivial⟩⟩
       ·replace hm := oc_f hg873 hm
        refine W_exit ?_
        refine hB25 _ _ ?_
        replace hs : St _ _ _ (.blk b481 (.cells #[.int .i64 (p1), .string (y482), .string ((bs [])), v485, .bool (y868)] 44 (0, 0)) :: .row v485 29 2 rw486 :: .blk b491 (.cells #[.string (y492.Name), .string (y492.Value)] 29 (0, 0)) :: .blk b7 (.cells #[.int .i64 (0), .string ((bs [])), .string ((bs [])), (.slice none 0 0), .bool (false)] 44 (0, 0)) :: .blk pb0 (.cells #[.pointer (some ⟨pv0_0, 0, none⟩), v476] 71 (0, 0)) :: .blk pv0_0 (.cells #[v863, .int .i64 (y867)] 94 (0, 0)) :: .row v863 21 1 rw864 :: .row v476 44 5 rw477 :: L) _ _ _ := hs
        replace hs : St _ _ _ (.blk b481 (.cells #[.int .i64 (p1), .string (y482), .string ((bs [])), v485, .bool (y868)] 44 (0, 0)) :: .row v485 29 2 rw486 :: .blk b491 (.cells #[.string (y492.Name), .string (y492.Value)] 29 (0, 0)) :: .blk b7 (.cells #[.int .i64 (0), .string ((bs [])), .string ((bs [])), (.slice none 0 0), .bool (false)] 44 (0, 0)) :: .blk pb0 (.cells #[.pointer (some ⟨pv0_0, 0, none⟩), v476] 71 (0, 0)) :: .blk pv0_0 (.cells #[v863, .int .i64 (y867)] 94 (0, 0)) :: .row v863 21 1 rw864 :: .row v476 44 5 rw477 :: L) _ _ _ := hs
        replace hs : St _ _ _ (.blk b481 (.cells #[.int .i64 (p1), .string (y482), .string ((bs [])), v485, .bool (y868)] 44 (0, 0)) :: .row v485 29 2 rw486 :: .blk b491 (.cells #[.string (y492.Name), .string (y492.Value)] 29 (0, 0)) :: .blk b7 (.cells #[.int .i64 (0), .string ((bs [])), .string ((bs [])), (.slice none 0 0), .bool (false)] 44 (0, 0)) :: .blk pb0 (.cells #[.pointer (some ⟨pv0_0, 0, none⟩), v476] 71 (0, 0)) :: .blk pv0_0 (.cells #[v863, .int .i64 (y867)] 94 (0, 0)) :: .row v863 21 1 rw864 :: .row v476 44 5 rw477 :: L) _ _ _ := hs
        exact ⟨_, y862, y867, y868, v863, rw864, hbase717, hm, hW865, hs.sub ⟨rfl, rfl, rfl, rfl, rfl, trivial⟩⟩
      ·refine W_region ?_
       refine sy (v := .int .i32 (y869)) hs (y_move rfl) ?_; clear hs; (try clear a w); intro a w hs
       obtain ⟨x884, hx885, hm⟩ := ob hm
       refine sy hs (y_call rfl has69 rfl (mark_blank_ok n (f := f860)  hx885)) ?_; clear hs; (try clear a w); intro a w hs
       refine sy (v := .bool (x884)) hs (y_move rfl) ?_; clear hs; (try clear a w); intro a w hs
       refine St.split hs (t := 22) rfl (fun hg886 hq => ?_) (fun hg886 hq => ?_)
       ·clear hs; have hs := hq; clear hq
        replace hm := oc_t hg886 hm
        refine sno hs ?_; clear hs; (try clear a w); intro a w hs
        refine sno hs ?_; clear hs; (try clear a w); intro a w hs
        refine sy (v := .bool (true)) hs (y_pick rfl rfl) ?_; clear hs; (try clear a w); intro a w hs
        refine RL_nil ?_
        replace hs : St _ _ _ (.blk b481 (.cells #[.int .i64 (p1), .string (y482), .string ((bs [])), v485, .bool (y868)] 44 (0, 0)) :: .row v485 29 2 rw486 :: .blk b491 (.cells #[.string (y492.Name), .string (y492.Value)] 29 (0, 0)) :: .blk b7 (.cells #[.int .i64 (0), .string ((bs [])), .string ((bs [])), (.slice none 0 0), .bool (false)] 44 (0, 0)) :: .blk pb0 (.cells #[.pointer (some ⟨pv0_0, 0, none⟩), v476] 71 (0, 0)) :: .blk pv0_0 (.cells #[v863, .int .i64 (y867)] 94 (0, 0)) :: .row v863 21 1 rw864 :: .row v476 44 5 rw477 :: L) _ _ _ := hs
        replace hs : St _ _ _ (.blk b481 (.cells #[.int .i64 (p1), .string (y482), .string ((bs [])), v485, .bool (y868)] 44 (0, 0)) :: .row v485 29 2 rw486 :: .blk b491 (.cells #[.string (y492.Name), .string (y492.Value)] 29 (0, 0)) :: .blk b7 (.cells #[.int .i64 (0), .string ((bs [])), .string ((bs [])), (.slice none 0 0), .bool (false)] 44 (0, 0)) :: .blk pb0 (.cells #[.pointer (some ⟨pv0_0, 0, none⟩), v476] 71 (0, 0)) :: .blk pv0_0 (.cells #[v863, .int .i64 (y867)] 94 (0, 0)) :: .row v863 21 1 rw864 :: .row v476 44 5 rw477 :: L) _ _ _ := hs
        replace hs : St _ _ _ (.blk b481 (.cells #[.int .i64 (p1), .string (y482), .string ((bs [])), v485, .bool (y868)] 44 (0, 0)) :: .row v485 29 2 rw486 :: .blk b491 (.cells #[.string (y492.Name), .string (y492.Value)] 29 (0, 0)) :: .blk b7 (.cells #[.int .i64 (0), .string ((bs [])), .string ((bs [])), (.slice none 0 0), .bool (false)] 44 (0, 0)) :: .blk pb0 (.cells #[.pointer (some ⟨pv0_0, 0, none⟩), v476] 71 (0, 0)) :: .blk pv0_0 (.cells #[v863, .int .i64 (y867)] 94 (0, 0)) :: .row v863 21 1 rw864 :: .row v476 44 5 rw477 :: L) _ _ _ := hs
        exact ⟨true, hm, hs.sub ⟨rfl, rfl, rfl, rfl, rfl, rfl, rfl, trivial⟩⟩
       ·clear hs; have hs := hq; clear hq
        replace hm := oc_f hg886 hm
        refine syg (v := .int .i32 (y869)) hs (y_move rfl) ?_; clear hs; (try clear a w); intro a w hs
        refine syg hs (y_eql rfl rfl) ?_; clear hs; (try clear a w); intro a w hs
        refine sy (v := .bool (decide (y869 = 47))) hs (y_pick rfl rfl) ?_; clear hs; (try clear a w); intro a w hs
        refine RL_nil ?_
        replace hs : St _ _ _ (.blk b481 (.cells #[.int .i64 (p1), .string (y482), .string ((bs [])), v485, .bool (y868)] 44 (0, 0)) :: .row v485 29 2 rw486 :: .blk b491 (.cells #[.string (y492.Name), .string (y492.Value)] 29 (0, 0)) :: .blk b7 (.cells #[.int .i64 (0), .string ((bs [])), .string ((bs [])), (.slice none 0 0), .bool (false)] 44 (0, 0)) :: .blk pb0 (.cells #[.pointer (some ⟨pv0_0, 0, none⟩), v476] 71 (0, 0)) :: .blk pv0_0 (.cells #[v863, .int .i64 (y867)] 94 (0, 0)) :: .row v863 21 1 rw864 :: .row v476 44 5 rw477 :: L) _ _ _ := hs
        replace hs : St _ _ _ (.blk b481 (.cells #[.int .i64 (p1), .string (y482), .string ((bs [])), v485, .bool (y868)] 44 (0, 0)) :: .row v485 29 2 rw486 :: .blk b491 (.cells #[.string (y492.Name), .string (y492.Value)] 29 (0, 0)) :: .blk b7 (.cells #[.int .i64 (0), .string ((bs [])), .string ((bs [])), (.slice none 0 0), .bool (false)] 44 (0, 0)) :: .blk pb0 (.cells #[.pointer (some ⟨pv0_0, 0, none⟩), v476] 71 (0, 0)) :: .blk pv0_0 (.cells #[v863, .int .i64 (y867)] 94 (0, 0)) :: .row v863 21 1 rw864 :: .row v476 44 5 rw477 :: L) _ _ _ := hs
        replace hs : St _ _ _ (.blk b481 (.cells #[.int .i64 (p1), .string (y482), .string ((bs [])), v485, .bool (y868)] 44 (0, 0)) :: .row v485 29 2 rw486 :: .blk b491 (.cells #[.string (y492.Name), .string (y492.Value)] 29 (0, 0)) :: .blk b7 (.cells #[.int .i64 (0), .string ((bs [])), .string ((bs [])), (.slice none 0 0), .bool (false)] 44 (0, 0)) :: .blk pb0 (.cells #[.pointer (some ⟨pv0_0, 0, none⟩), v476] 71 (0, 0)) :: .blk pv0_0 (.cells #[v863, .int .i64 (y867)] 94 (0, 0)) :: .row v863 21 1 rw864 :: .row v476 44 5 rw477 :: L) _ _ _ := hs
        exact ⟨decide (y869 = 47), hm, hs.sub ⟨rfl, rfl, rfl, rfl, rfl, rfl, rfl, trivial⟩⟩
  ·cases hl; revert a w
   rintro a w ⟨f495, y499, y501, y506, y507, y512, y513, b498, v502, rw503, v508, rw509, v514, rw515, hl496, hm, hW504, hW510, hW516, hs⟩
   replace pv0_1h := pv0_1h.le hl496
   replace pv0_2h := pv0_2h.le hl496
   replace hle := hle.trans hl496
   replace hs : St _ _ _ (.blk b498 (.cells #[.int .i64 (p1), .string (y499), .string ((bs [])), v502, .bool (y506)] 44 (0, 0)) :: .row v502 29 2 rw503 :: .blk b7 (.cells #[.int .i64 (0), .string ((bs [])), .string ((bs [])), (.slice none 0 0), .bool (false)] 44 (0, 0)) :: .blk pb0 (.cells #[.pointer (some ⟨pv0_0, 0, none⟩), v514] 71 (0, 0)) :: .blk pv0_0 (.cells #[v508, .int .i64 (y512)] 94 (0, 0)) :: .row v508 21 1 rw509 :: .row v514 44 5 rw515 :: L) _ _ _ := hs
   have hbase704 := hl496
   cases k with
   | zero => simp [mark_cutter_tag_g1_1] at hm
   | succ k887 =>
    rw [mark_cutter_tag_g1_1] at hm
    refine W_seq fun K32 hK32 => ?_
    refine W_seq fun K33 hK33 => ?_
    refine W_region ?_
    refine sy (v := .int .i64 (p1)) hs (y_move rfl) ?_; clear hs; (try clear a w); intro a w hs
    refine sy hs (y_eql rfl rfl) ?_; clear hs; (try clear a w); intro a w hs
    refine RL_nil ?_
    refine hK33 _ _ ?_; clear hK33
    refine W_cond hs rfl (fun hg888 => ?_) (fun hg888 => ?_)
    ·replace hm := oc_t hg888 hm
     refine W_seq fun K34 hK34 => ?_
     refine W_region ?_
     refine sy (v := .pointer (some ⟨b498, 1, none⟩)) hs (y_fieldAddr rfl (FO.of (off := 1) Try.underlying44 rfl rfl ti9 (by decide))) ?_; clear hs; (try clear a w); intro a w hs
     refine sy (v := .string (y499)) hs (y_ld rfl Try.underlying9 rfl (Cell.blk (.head _) rfl)) ?_; clear hs; (try clear a w); intro a w hs
     refine sy hs (y_buildS (places := [(0, 1), (1, 1), (2, 1), (3, 1), (4, 1)]) (cs := [.int .i64 (3), .string (y499), .string ((bs [])), (.slice none 0 0), .bool (false)]) rfl Try.underlying44 ti44 (by kernel_rfl) (by decide) rfl ⟨rfl, rfl, trivial⟩) ?_; clear hs; (try clear a w); intro a w hs
     refine RL_storeAll (i := 2) hs rfl rfl rfl ti44 ⟨rfl, rfl⟩ (AllC.arr (r := [.int .i64 (3), .string (y499), .string ((bs [])), (.slice none 0 0), .bool (false)]) ⟨rfl, rfl, rfl, rfl, rfl, trivial⟩) (.free rfl) ?_; clear hs; (try clear a w); intro a w hs
     replace hs : St _ _ _ (.blk b498 (.cells #[.int .i64 (p1), .string (y499), .string ((bs [])), v502, .bool (y506)] 44 (0, 0)) :: .row v502 29 2 rw503 :: .blk b7 (.cells #[.int .i64 (3), .string (y499), .string ((bs [])), (.slice none 0 0), .bool (false)] 44 (0, 0)) :: .blk pb0 (.cells #[.pointer (some ⟨pv0_0, 0, none⟩), v514] 71 (0, 0)) :: .blk pv0_0 (.cells #[v508, .int .i64 (y512)] 94 (0, 0)) :: .row v508 21 1 rw509 :: .row v514 44 5 rw515 :: L) _ _ _ := hs
     refine sy (v := .bool (true)) hs (y_assign rfl) ?_; clear hs; (try clear a w); intro a w hs
     refine RL_nil ?_
     refine hK34 _ _ ?_; clear hK34
     refine W_ret ?_
     obtain rfl := Option.some.inj hm
     refine RtV2 hs rfl (rv_a hs rfl Try.underlying44 rfl ti44 (fun j u hj => Cell.blk (.tail _ (.tail _ (.head _))) hj) rfl) (rv_t hs rfl) ?_
     exact ⟨_, f495, [.blk pb0 (.cells #[.pointer (some ⟨pv0_0, 0, none⟩), v514] 71 (0, 0)), .blk pv0_0 (.cells #[v508, .int .i64 (y512)] 94 (0, 0)), .row v508 21 1 rw509, .row v514 44 5 rw515], rfl, hle, (hs.subL (.cons _ (.cons _ (.cons _ (.cons_cons _ (.cons_cons _ (.cons_cons _ (.cons_cons _ (.refl _))))))))).cw, [.int .i64 (3), .string (y499), .string ((bs [])), (.slice none 0 0), .bool (false)], v508, rw509, v514, rw515, rfl, rfl, ⟨_, rfl, RS.nil, .inl rfl⟩, hW510, hW516⟩
    ·replace hm := oc_f hg888 hm
     refine W_skip ?_
     refine hK32 _ _ ?_; clear hK32
     refine W_seq fun K35 hK35 => ?_
     refine W_region ?_
     refine sy hs (y_ldB rfl Try.underlying44 rfl ti44 (.head _) rfl) ?_; clear hs; (try clear a w); intro a w hs
     refine RL_storeAll (i := 2) hs rfl rfl rfl ti44 ⟨rfl, rfl⟩ (AllC.arr (r := [.int .i64 (p1), .string (y499), .string ((bs [])), v502, .bool (y506)]) ⟨rfl, rfl, rfl, (hs.one (i := 1) rfl), rfl, trivial⟩) (.free rfl) ?_; clear hs; (try clear a w); intro a w hs
     replace hs : St _ _ _ (.blk b498 (.cells #[.int .i64 (p1), .string (y499), .string ((bs [])), v502, .bool (y506)] 44 (0, 0)) :: .row v502 29 2 rw503 :: .blk b7 (.cells #[.int .i64 (p1), .string (y499), .string ((bs [])), v502, .bool (y506)] 44 (0, 0)) :: .blk pb0 (.cells #[.pointer (some ⟨pv0_0, 0, none⟩), v514] 71 (0, 0)) :: .blk pv0_0 (.cells #[v508, .int .i64 (y512)] 94 (0, 0)) :: .row v508 21 1 rw509 :: .row v514 44 5 rw515 :: L) _ _ _ := hs
     refine sy (v := .bool (true)) hs (y_assign rfl) ?_; clear hs; (try clear a w); intro a w hs
     refine RL_nil ?_
     refine hK35 _ _ ?_; clear hK35
     refine W_ret ?_
     obtain ⟨f890, hf891, hs2, hR892, hO⟩ := hs.frzO 1 rfl hle
     clear hs; have hs := hs2; clear hs2
     replace hW504 := hW504.le hf891
     replace hW510 := hW510.le hf891
     replace hW516 := hW516.le hf891
     replace hle := hle.trans hf891
     replace hbase704 := hbase704.trans hf891
     replace hs : St _ _ _ (.blk b498 (.cells #[.int .i64 (p1), .string (y499), .string ((bs [])), v502, .bool (y506)] 44 (0, 0)) :: .blk b7 (.cells #[.int .i64 (p1), .string (y499), .string ((bs [])), v502, .bool (y506)] 44 (0, 0)) :: .blk pb0 (.cells #[.pointer (some ⟨pv0_0, 0, none⟩), v514] 71 (0, 0)) :: .blk pv0_0 (.cells #[v508, .int .i64 (y512)] 94 (0, 0)) :: .row v508 21 1 rw509 :: .row v514 44 5 rw515 :: L) _ _ _ := hs
     obtain rfl := Option.some.inj hm
     refine RtV2 hs rfl (rv_a hs rfl Try.underlying44 rfl ti44 (fun j u hj => Cell.blk (.tail _ (.head _)) hj) rfl) (rv_t hs rfl) ?_
     exact ⟨_, f890, [.blk pb0 (.cells #[.pointer (some ⟨pv0_0, 0, none⟩), v514] 71 (0, 0)), .blk pv0_0 (.cells #[v508, .int .i64 (y512)] 94 (0, 0)), .row v508 21 1 rw509, .row v514 44 5 rw515], rfl, hle, (hs.subL (.cons _ (.cons _ (.cons_cons _ (.cons_cons _ (.cons_cons _ (.cons_cons _ (.refl _)))))))).cw, [.int .i64 (p1), .string (y499), .string ((bs [])), v502, .bool (y506)], v508, rw509, v514, rw515, rfl, rfl, ⟨_, rfl, ⟨rw503, hR892, hW504⟩, hO⟩, hW510, hW516⟩
 ·intro hB2g G2 hG2
  refine W_seq fun K36 hK36 => ?_
  refine W_region ?_
  refine sy (v := .int .i64 (p1)) hs (y_move rfl) ?_; clear hs; (try clear a w); intro a w hs
  refine sy hs (y_buildS (places := [(0, 1), (1, 1), (2, 1), (3, 1), (4, 1)]) (cs := [.int .i64 (p1), .string ((bs [])), .string ((bs [])), (.slice none 0 0), .bool (false)]) rfl Try.underlying44 ti44 (by kernel_rfl) (by decide) rfl ⟨rfl, trivial⟩) ?_; clear hs; (try clear a w); intro a w hs
  refine RL_alloc hs ti44 (.free rfl) (by decide) ?_; clear hs; (try clear a w); intro b894 a w hs
  replace hs : St _ _ _ (.blk b894 (.cells #[.int .i64 (0), .string ((bs [])), .string ((bs [])), (.slice none 0 0), .bool (false)] 44 (0, 0)) :: .blk b7 (.cells #[.int .i64 (0), .string ((bs [])), .string ((bs [])), (.slice none 0 0), .bool (false)] 44 (0, 0)) :: .blk pb0 (.cells #[.pointer (some ⟨pv0_0, 0, none⟩), pv0_2] 71 (0, 0)) :: .blk pv0_0 (.cells #[pv0_1, .int .i64 (p0.c.at_)] 94 (0, 0)) :: .row pv0_1 21 1 pv0_1r :: .row pv0_2 44 5 pv0_2r :: L) _ _ _ := hs
  refine RL_storeAll (i := 0) hs rfl rfl rfl ti44 ⟨rfl, rfl⟩ (AllC.arr (r := [.int .i64 (p1), .string ((bs [])), .string ((bs [])), (.slice none 0 0), .bool (false)]) ⟨rfl, rfl, rfl, rfl, rfl, trivial⟩) (.free rfl) ?_; clear hs; (try clear a w); intro a w hs
  replace hs : St _ _ _ (.blk b894 (.cells #[.int .i64 (p1), .string ((bs [])), .string ((bs [])), (.slice none 0 0), .bool (false)] 44 (0, 0)) :: .blk b7 (.cells #[.int .i64 (0), .string ((bs [])), .string ((bs [])), (.slice none 0 0), .bool (false)] 44 (0, 0)) :: .blk pb0 (.cells #[.pointer (some ⟨pv0_0, 0, none⟩), pv0_2] 71 (0, 0)) :: .blk pv0_0 (.cells #[pv0_1, .int .i64 (p0.c.at_)] 94 (0, 0)) :: .row pv0_1 21 1 pv0_1r :: .row pv0_2 44 5 pv0_2r :: L) _ _ _ := hs
  refine RL_nil ?_
  refine hK36 _ _ ?_; clear hK36
  refine W_seq fun K37 hK37 => ?_
  refine W_region ?_
  refine RL_alloc hs ti29 (.free rfl) (by decide) ?_; clear hs; (try clear a w); intro b897 a w hs
  replace hs : St _ _ _ (.blk b897 (.cells #[.string ((bs [])), .string ((bs []))] 29 (0, 0)) :: .blk b894 (.cells #[.int .i64 (p1), .string ((bs [])), .string ((bs [])), (.slice none 0 0), .bool (false)] 44 (0, 0)) :: .blk b7 (.cells #[.int .i64 (0), .string ((bs [])), .string ((bs [])), (.slice none 0 0), .bool (false)] 44 (0, 0)) :: .blk pb0 (.cells #[.pointer (some ⟨pv0_0, 0, none⟩), pv0_2] 71 (0, 0)) :: .blk pv0_0 (.cells #[pv0_1, .int .i64 (p0.c.at_)] 94 (0, 0)) :: .row pv0_1 21 1 pv0_1r :: .row pv0_2 44 5 pv0_2r :: L) _ _ _ := hs
  refine RL_nil ?_
  refine hK37 _ _ ?_; clear hK37
  refine W_seq fun K38 hK38 => ?_
  refine W_region ?_
  refine sy (v := .int .i32 (0)) hs (y_assign rfl) ?_; clear hs; (try clear a w); intro a w hs
  refine RL_nil ?_
  refine hK38 _ _ ?_; clear hK38
  refine W_seq fun K39 hK39 => ?_
  refine W_region ?_
  refine sy (v := .bool (false)) hs (y_assign rfl) ?_; clear hs; (try clear a w); intro a w hs
  refine RL_nil ?_
  refine hK39 _ _ ?_; clear hK39
  refine W_seq fun K40 hK40 => ?_
  refine W_region ?_
  refine sy (v := .pointer (some ⟨pb0, 0, none⟩)) hs (y_move rfl) ?_; clear hs; (try clear a w); intro a w hs
  obtain ⟨x899, hx900, hm⟩ := ob hm
  replace hs := hs.front 6
  replace hs := hs.front 6
  replace hs := hs.front 6
  replace hs := hs.front 6
  replace hs : St _ _ _ (.blk pb0 (.cells #[.pointer (some ⟨pv0_0, 0, none⟩), pv0_2] 71 (0, 0)) :: .blk pv0_0 (.cells #[pv0_1, .int .i64 (p0.c.at_)] 94 (0, 0)) :: .row pv0_1 21 1 pv0_1r :: .row pv0_2 44 5 pv0_2r :: .blk b897 (.cells #[.string ((bs [])), .string ((bs []))] 29 (0, 0)) :: .blk b894 (.cells #[.int .i64 (p1), .string ((bs [])), .string ((bs [])), (.slice none 0 0), .bool (false)] 44 (0, 0)) :: .blk b7 (.cells #[.int .i64 (0), .string ((bs [])), .string ((bs [])), (.slice none 0 0), .bool (false)] 44 (0, 0)) :: L) _ _ _ := hs
  refine RL_call (Lr := [.blk pb0 (.cells #[.pointer (some ⟨pv0_0, 0, none⟩), pv0_2] 71 (0, 0)), .blk pv0_0 (.cells #[pv0_1, .int .i64 (p0.c.at_)] 94 (0, 0)), .row pv0_1 21 1 pv0_1r, .row pv0_2 44 5 pv0_2r]) (Lf := .blk b897 (.cells #[.string ((bs [])), .string ((bs []))] 29 (0, 0)) :: .blk b894 (.cells #[.int .i64 (p1), .string ((bs [])), .string ((bs [])), (.slice none 0 0), .bool (false)] 44 (0, 0)) :: .blk b7 (.cells #[.int .i64 (0), .string ((bs [])), .string ((bs [])), (.slice none 0 0), .bool (false)] 44 (0, 0)) :: L) hs rfl has67 rfl rfl (mark_cutter_while_ok n (f := f) (p0 := p0) (pb0 := pb0) (pv0_0 := pv0_0) (pv0_1 := pv0_1) (pv0_1r := pv0_1r) (pv0_2 := pv0_2) (pv0_2r := pv0_2r) (g1 := 68) (cap1 := []) pv0_1h pv0_2h has68 (fun f9 hle9 z0 r9  h9 => mark_cutter_tag_1_ok n (f := f9)   h9) hx900) (.free rfl) (by decide) ?_; clear hs; (try clear a w)
  rintro v903 f901 _ a w hf902 ⟨_, v907, rw908, v910, rw911, rfl, rfl, ⟨rw904, hR905, hW906⟩, hW909, hW912⟩ hs
  replace pv0_1h := pv0_1h.le hf902
  replace pv0_2h := pv0_2h.le hf902
  replace hle := hle.trans hf902
  replace hbase704 := hbase704.trans hf902
  replace hs : St _ _ _ (.blk pb0 (.cells #[.pointer (some ⟨pv0_0, 0, none⟩), v910] 71 (0, 0)) :: .blk pv0_0 (.cells #[v907, .int .i64 (x899.2.c.at_)] 94 (0, 0)) :: .row v907 21 1 rw908 :: .row v910 44 5 rw911 :: .blk b897 (.cells #[.string ((bs [])), .string ((bs []))] 29 (0, 0)) :: .blk b894 (.cells #[.int .i64 (p1), .string ((bs [])), .string ((bs [])), (.slice none 0 0), .bool (false)] 44 (0, 0)) :: .blk b7 (.cells #[.int .i64 (0), .string ((bs [])), .string ((bs [])), (.slice none 0 0), .bool (false)] 44 (0, 0)) :: L) _ _ _ := hs
  obtain ⟨x916, hx917, hm⟩ := ob hm
  refine sy hs (y_call rfl has66 rfl (mark_small_ok n (f := f901) (a0 := v903) ⟨rw904, hR905, hW906⟩ hx917)) ?_; clear hs; (try clear a w); intro a w hs
  refine sy (v := .pointer (some ⟨b894, 1, none⟩)) hs (y_fieldAddr rfl (FO.of (off := 1) Try.underlying44 rfl rfl ti9 (by decide))) ?_; clear hs; (try clear a w); intro a w hs
  refine sstore 5 hs rfl rfl rfl ti9 rfl ?_; clear hs; (try clear a w); intro a w hs
  replace hs : St _ _ _ (.blk pb0 (.cells #[.pointer (some ⟨pv0_0, 0, none⟩), v910] 71 (0, 0)) :: .blk pv0_0 (.cells #[v907, .int .i64 (x899.2.c.at_)] 94 (0, 0)) :: .row v907 21 1 rw908 :: .row v910 44 5 rw911 :: .blk b897 (.cells #[.string ((bs [])), .string ((bs []))] 29 (0, 0)) :: .blk b894 (.cells #[.int .i64 (p1), .string (x916), .string ((bs [])), (.slice none 0 0), .bool (false)] 44 (0, 0)) :: .blk b7 (.cells #[.int .i64 (0), .string ((bs [])), .string ((bs [])), (.slice none 0 0), .bool (false)] 44 (0, 0)) :: L) _ _ _ := hs
  refine RL_nil ?_
  refine hK40 _ _ ?_; clear hK40
  replace hs : St _ _ _ (.blk pb0 (.cells #[.pointer (some ⟨pv0_0, 0, none⟩), v910] 71 (0, 0)) :: .blk pv0_0 (.cells #[v907, .int .i64 (x899.2.c.at_)] 94 (0, 0)) :: .row v907 21 1 rw908 :: .row v910 44 5 rw911 :: .blk b897 (.cells #[.string ((bs [])), .string ((bs []))] 29 (0, 0)) :: .blk b894 (.cells #[.int .i64 (p1), .string (x916), .string ((bs [])), (.slice none 0 0), .bool (false)] 44 (0, 0)) :: .blk b7 (.cells #[.int .i64 (0), .string ((bs [])), .string ((bs [])), (.slice none 0 0), .bool (false)] 44 (0, 0)) :: L) _ _ _ := hs
  replace hs : St _ _ _ (.blk pb0 (.cells #[.pointer (some ⟨pv0_0, 0, none⟩), v910] 71 (0, 0)) :: .blk pv0_0 (.cells #[v907, .int .i64 (x899.2.c.at_)] 94 (0, 0)) :: .row v907 21 1 rw908 :: .row v910 44 5 rw911 :: .blk b897 (.cells #[.string ((bs [])), .string ((bs []))] 29 (0, 0)) :: .blk b894 (.cells #[.int .i64 (p1), .string (x916), .string ((bs [])), (.slice none 0 0), .bool (false)] 44 (0, 0)) :: .blk b7 (.cells #[.int .i64 (0), .string ((bs [])), .string ((bs [])), (.slice none 0 0), .bool (false)] 44 (0, 0)) :: L) _ _ _ := hs
  replace hs := hs.nilRow 29 2
  have hW918 : RW t_api_Attr f901 [] ([] : List api_Attr) := trivial
  generalize hgrw919 : ([] : List (List Value)) = rw919 at hs hW918; clear hgrw919
  replace hs : St _ _ _ (.row (.slice none 0 0) 29 2 rw919 :: .blk pb0 (.cells #[.pointer (some ⟨pv0_0, 0, none⟩), v910] 71 (0, 0)) :: .blk pv0_0 (.cells #[v907, .int .i64 (x899.2.c.at_)] 94 (0, 0)) :: .row v907 21 1 rw908 :: .row v910 44 5 rw911 :: .blk b897 (.cells #[.string ((bs [])), .string ((bs []))] 29 (0, 0)) :: .blk b894 (.cells #[.int .i64 (p1), .string (x916), .string ((bs [])), (.slice none 0 0), .bool (false)] 44 (0, 0)) :: .blk b7 (.cells #[.int .i64 (0), .string ((bs [])), .string ((bs [])), (.slice none 0 0), .bool (false)] 44 (0, 0)) :: L) _ _ _ := hs
  replace hs : St _ _ _ (.row (.slice none 0 0) 29 2 rw919 :: .blk pb0 (.cells #[.pointer (some ⟨pv0_0, 0, none⟩), v910] 71 (0, 0)) :: .blk pv0_0 (.cells #[v907, .int .i64 (x899.2.c.at_)] 94 (0, 0)) :: .row v907 21 1 rw908 :: .row v910 44 5 rw911 :: .blk b897 (.cells #[.string ((bs [])), .string ((bs []))] 29 (0, 0)) :: .blk b894 (.cells #[.int .i64 (p1), .string (x916), .string ((bs [])), (.slice none 0 0), .bool (false)] 44 (0, 0)) :: .blk b7 (.cells #[.int .i64 (0), .string ((bs [])), .string ((bs [])), (.slice none 0 0), .bool (false)] 44 (0, 0)) :: L) _ _ _ := hs
  replace hs := hs.front 4
  replace hs := hs.front 4
  replace hs := hs.front 4
  replace hs := hs.front 4
  replace hs := hs.front 7
  replace hs := hs.front 6
  replace hs := hs.front 6
  replace hs := hs.front 7
  replace hs : St _ _ _ (.blk b894 (.cells #[.int .i64 (p1), .string (x916), .string ((bs [])), (.slice none 0 0), .bool (false)] 44 (0, 0)) :: .row (.slice none 0 0) 29 2 rw919 :: .blk b897 (.cells #[.string ((bs [])), .string ((bs []))] 29 (0, 0)) :: .blk b7 (.cells #[.int .i64 (0), .string ((bs [])), .string ((bs [])), (.slice none 0 0), .bool (false)] 44 (0, 0)) :: .blk pb0 (.cells #[.pointer (some ⟨pv0_0, 0, none⟩), v910] 71 (0, 0)) :: .blk pv0_0 (.cells #[v907, .int .i64 (x899.2.c.at_)] 94 (0, 0)) :: .row v907 21 1 rw908 :: .row v910 44 5 rw911 :: L) _ _ _ := hs
  exact (hB2g n).into (l := 0) rfl (.inl ⟨rfl, ⟨_, x899.2.c.l, x899.2.c.at_, x899.2.out, x916, ([] : List api_Attr), false, ({Name := (bs []), Value := (bs [])} : api_Attr), v907, rw908, v910, rw911, b894, (.slice none 0 0), rw919, b897, [.string ((bs [])), .string ((bs []))], hbase704, hm, hW909, hW912, hW918, rfl, hs.sub ⟨rfl, rfl, rfl, rfl, rfl, trivial⟩⟩⟩) hG2 (fun l a w k'' _ hJ => ⟨k'', hJ⟩)
/-! casement/mark.Tokens -/
def mark_Tokens_k2 (n : Nat) (y822 : (List Int)) (y827 : Int) (y829 : (List mark_Token)) (y836 : mark_Token) (lg1196_3 : (List Int) → Int → (List mark_Token) → mark_Token → Option (List mark_Token)) (lg1196_2 : (List Int) → Int → (List mark_Token) → mark_Token → Option (List mark_Token)) (y1216 : Bool) : Option (List mark_Token) :=
  (bif y1216 then lg1196_2 y822 y827 y829 y836 else
  (mark_cutter_is n ({c := ({l := y822, at_ := y827} : source_Cursor_rune_), out := y829} : mark_cutter) 0 (bs [60, 33, 45, 45])).bind fun x1218 =>
  (bif x1218 then (mark_cutter_skip4 n ({c := ({l := y822, at_ := y827} : source_Cursor_rune_), out := y829} : mark_cutter)).bind fun x1221 =>
  (mark_cutter_skip n x1221 (bs [45, 45, 62])).bind fun x1233 =>
  lg1196_3 x1233.c.l x1233.c.at_ x1233.out y836 else
  (mark_cutter_skip n ({c := ({l := y822, at_ := y827} : source_Cursor_rune_), out := y829} : mark_cutter) (bs [62])).bind fun x1245 =>
  lg1196_3 x1245.c.l x1245.c.at_ x1245.out y836))
def mark_Tokens_k3 (n : Nat) (y853 : (List mark_Token)) (y860 : mark_Token) (lg1264_3 : (List Int) → Int → (List mark_Token) → mark_Token → Option (List mark_Token)) (y1273 : (List Int)) (y1278 : Int) (y1280 : (List Int)) : Option (List mark_Token) :=
  (mark_Unescape n (textOf y1280)).bind fun x1286 =>
  (appM 72 y853 [({Kind := 1, Name := (bs []), Text := x1286, Attrs := ([] : List api_Attr), Closed := false} : mark_Token)]).bind fun x1295 =>
  lg1264_3 y1273 y1278 x1295 y860
def mark_Tokens_k5 (n : Nat) (y853 : (List mark_Token)) (y860 : mark_Token) (lg1264_3 : (List Int) → Int → (List mark_Token) → mark_Token → Option (List mark_Token)) (y1304 : (List Int)) (y1309 : Int) (y1311 : (List Int)) (lp1320 : (List Int) → Int → (List Int) → Option (List mark_Token)) (y1322 : Bool) : Option (List mark_Token) :=
  (bif y1322 then (source_Cursor_rune_Next n ({l := y1304, at_ := y1309} : source_Cursor_rune_)).bind fun x1324 =>
  (appM 4 y1311 [x1324.1]).bind fun x1337 =>
  lp1320 x1324.2.2.l x1324.2.2.at_ x1337 else
  mark_Tokens_k3 n y853 y860 lg1264_3 y1304 y1309 y1311)
def mark_Tokens_l4 (n : Nat) (y853 : (List mark_Token)) (y860 : mark_Token) (lg1264_3 : (List Int) → Int → (List mark_Token) → mark_Token → Option (List mark_Token)) : Nat → (List Int) → Int → (List Int) → Option (List mark_Token)
  | 0, _, _, _ => none
  | k1320 + 1, y1304, y1309, y1311 =>
  (source_Cursor_rune_Left n ({l := y1304, at_ := y1309} : source_Cursor_rune_)).bind fun x1343 =>
  (bif (decide (0 < x1343)) then (mark_cutter_begins n ({c := ({l := y1304, at_ := y1309} : source_Cursor_rune_), out := y853} : mark_cutter)).bind fun x1346 =>
  mark_Tokens_k5 n y853 y860 lg1264_3 y1304 y1309 y1311 (mark_Tokens_l4 n y853 y860 lg1264_3 k1320) (!x1346) else
  mark_Tokens_k5 n y853 y860 lg1264_3 y1304 y1309 y1311 (mark_Tokens_l4 n y853 y860 lg1264_3 k1320) false)
def mark_Tokens_k6 (lg1348_3 : (List Int) → Int → (List mark_Token) → mark_Token → Option (List mark_Token)) (x1362 : (mark_Token × Bool × mark_cutter)) (y1400 : (List Int)) (y1405 : Int) (y1406 : (List mark_Token)) : Option (List mark_Token) :=
  lg1348_3 y1400 y1405 y1406 x1362.1
mutual
def mark_Tokens_g1_3 (n : Nat) : Nat → (List Int) → Int → (List mark_Token) → mark_Token → Option (List mark_Token)
  | 0, _, _, _, _ => none
  | k1196 + 1, y822, y827, y829, y836 =>
  (source_Cursor_rune_Left n ({l := y822, at_ := y827} : source_Cursor_rune_)).bind fun x1202 =>
  (bif (decide (x1202 = 0)) then some y829 else
  (mark_cutter_begins n ({c := ({l := y822, at_ := y827} : source_Cursor_rune_), out := y829} : mark_cutter)).bind fun x1208 =>
  (bif (!x1208) then (mark_Tokens_g1_0 n k1196) y822 y827 y829 y836 else
  (mark_cutter_peek n ({c := ({l := y822, at_ := y827} : source_Cursor_rune_), out := y829} : mark_cutter) 1).bind fun x1211 =>
  (mark_letter n x1211).bind fun x1213 =>
  (bif x1213 then (mark_Tokens_g1_1 n k1196) y822 y827 y829 y836 else
  (mark_cutter_peek n ({c := ({l := y822, at_ := y827} : source_Cursor_rune_), out := y829} : mark_cutter) 1).bind fun x1257 =>
  (bif (decide (x1257 = 47)) then (mark_cutter_peek n ({c := ({l := y822, at_ := y827} : source_Cursor_rune_), out := y829} : mark_cutter) 2).bind fun x1260 =>
  (mark_letter n x1260).bind fun x1262 =>
  mark_Tokens_k2 n y822 y827 y829 y836 (mark_Tokens_g1_3 n k1196) (mark_Tokens_g1_2 n k1196) x1262 else
  mark_Tokens_k2 n y822 y827 y829 y836 (mark_Tokens_g1_3 n k1196) (mark_Tokens_g1_2 n k1196) false))))
def mark_Tokens_g1_0 (n : Nat) : Nat → (List Int) → Int → (List mark_Token) → mark_Token → Option (List mark_Token)
  | 0, _, _, _, _ => none
  | k1264 + 1, y846, y851, y853, y860 =>
  mark_Tokens_l4 n y853 y860 (mark_Tokens_g1_3 n k1264) n y846 y851 ([] : List Int)
def mark_Tokens_g1_1 (n : Nat) : Nat → (List Int) → Int → (List mark_Token) → mark_Token → Option (List mark_Token)
  | 0, _, _, _, _ => none
  | k1348 + 1, y870, y875, y877, _y884 =>
  (source_Cursor_rune_Next n ({l := y870, at_ := y875} : source_Cursor_rune_)).bind fun x1354 =>
  (mark_cutter_tag n ({c := x1354.2.2, out := y877} : mark_cutter) 2).bind fun x1362 =>
  (bif (!x1362.2.1) then some x1362.2.2.out else
  (appM 72 x1362.2.2.out [x1362.1]).bind fun x1391 =>
  (bif ((decide (x1362.1.Name = (bs [115, 116, 121, 108, 101]))) || (decide (x1362.1.Name = (bs [115, 99, 114, 105, 112, 116])))) then (mark_cutter_raw n ({c := x1362.2.2.c, out := x1391} : mark_cutter) x1362.1.Name).bind fun x1413 =>
  mark_Tokens_k6 (mark_Tokens_g1_3 n k1348) x1362 x1413.c.l x1413.c.at_ x1413.out else
  mark_Tokens_k6 (mark_Tokens_g1_3 n k1348) x1362 x1362.2.2.c.l x1362.2.2.c.at_ x1391))
def mark_Tokens_g1_2 (n : Nat) : Nat → (List Int) → Int → (List mark_Token) → mark_Token → Option (List mark_Token)
  | 0, _, _, _, _ => none
  | k1426 + 1, y894, y899, y901, _y908 =>
  (source_Cursor_rune_Next n ({l := y894, at_ := y899} : source_Cursor_rune_)).bind fun x1432 =>
  (source_Cursor_rune_Next n x1432.2.2).bind fun x1440 =>
  (mark_cutter_tag n ({c := x1440.2.2, out := y901} : mark_cutter) 3).bind fun x1448 =>
  (bif (!x1448.2.1) then some x1448.2.2.out else
  (appM 72 x1448.2.2.out [x1448.1]).bind fun x1477 =>
  (mark_Tokens_g1_3 n k1426) x1448.2.2.c.l x1448.2.2.c.at_ x1477 x1448.1)
end
def mark_Tokens (n : Nat) (p0 : (List Int)) : Option (List mark_Token) :=
  (source_New_rune n p0).bind fun x1484 =>
  mark_Tokens_g1_3 n n x1484.l x1484.at_ ([] : List mark_Token) ({Kind := 0, Name := (bs []), Text := (bs []), Attrs := ([] : List api_Attr), Closed := false} : mark_Token)
set_option maxRecDepth 20000 in
set_option maxHeartbeats 4000000 in
theorem mark_Tokens_own (n : Nat) {f : Fz} {p0 : (List Int)} {a0 : Value} {res : (List mark_Token)} (h0 : RS (tInt .i32) f a0 p0) (hm : mark_Tokens n p0 = some res) : Does Try.prog 22 [a0] f [] (fun r f' L' => ∃ (rw : List (List Value)), L' = [.row r 44 5 rw] ∧ (LQ.own f).R f' rw res) := by
 unfold mark_Tokens at hm
 intro w0 L w hC
 obtain ⟨rw1, hR2, hW3⟩ := h0
 refine enter Try.func22 rfl Try.ntmps22 (by simp) hC fun a hs => ?_
 have hle := Fz.le.refl f
 refine W_seq fun K1 hK1 => ?_
 refine W_region ?_
 refine sy (v := (.slice none 0 0)) hs (y_assign rfl) ?_; clear hs; (try clear a w); intro a w hs
 refine RL_nil ?_
 refine hK1 _ _ ?_; clear hK1
 have hbase1195 := Fz.le.refl f
 refine W_scopeS (fun (l k : Nat) a w => (l = 3 ∧ ∃ (f815 : Fz) (y822 : (List Int)) (y827 : Int) (y829 : (List mark_Token)) (y836 : mark_Token) (b818 : Nat) (b820 : Nat) (v823 : Value) (rw824 : List (List Value)) (v830 : Value) (rw831 : List (List Value)) (b835 : Nat) (r837 : List Value), Fz.le f f815 ∧ mark_Tokens_g1_3 n k y822 y827 y829 y836 = some res ∧ RW (tInt .i32) f815 rw824 y822 ∧ (LQ.own f).R f815 rw831 y829 ∧ t_mark_Token.R f815 r837 y836 ∧ St 155 w0 f815 (.blk b818 (.cells #[.pointer (some ⟨b820, 0, none⟩), v830] 71 (0, 0)) :: .blk b820 (.cells #[v823, .int .i64 (y827)] 94 (0, 0)) :: .row v823 21 1 rw824 :: .row v830 44 5 rw831 :: .blk b835 (.cells r837.toArray 44 (0, 0)) :: L) [(3, .pointer (some ⟨b818, 0, none⟩)), (4, .pointer (some ⟨b835, 0, none⟩))] a w) ∨ (l = 0 ∧ ∃ (f839 : Fz) (y846 : (List Int)) (y851 : Int) (y853 : (List mark_Token)) (y860 : mark_Token) (b842 : Nat) (b844 : Nat) (v847 : Value) (rw848 : List (List Value)) (v854 : Value) (rw855 : List (List Value)) (b859 : Nat) (r861 : List Value), Fz.le f f839 ∧ mark_Tokens_g1_0 n k y846 y851 y853 y860 = some res ∧ RW (tInt .i32) f839 rw848 y846 ∧ (LQ.own f).R f839 rw855 y853 ∧ t_mark_Token.R f839 r861 y860 ∧ St 155 w0 f839 (.blk b842 (.cells #[.pointer (some ⟨b844, 0, none⟩), v854] 71 (0, 0)) :: .blk b844 (.cells #[v847, .int .i64 (y851)] 94 (0, 0)) :: .row v847 21 1 rw848 :: .row v854 44 5 rw855 :: .blk b859 (.cells r861.toArray 44 (0, 0)) :: L) [(3, .pointer (some ⟨b842, 0, none⟩)), (4, .pointer (some ⟨b859, 0, none⟩))] a w) ∨ (l = 1 ∧ ∃ (f863 : Fz) (y870 : (List Int)) (y875 : Int) (y877 : (List mark_Token)) (y884 : mark_Token) (b866 : Nat) (b868 : Nat) (v871 : Value) (rw872 : List (List Value)) (v878 : Value) (rw879 : List (List Value)) (b883 : Nat) (r885 : List Value), Fz.le f f863 ∧ mark_Tokens_g1_1 n k y870 y875 y877 y884 = some res ∧ RW (tInt .i32) f863 rw872 y870 ∧ (LQ.own f).R f863 rw879 y877 ∧ t_mark_Token.R f863 r885 y884 ∧ St 155 w0 f863 (.blk b866 (.cells #[.pointer (some ⟨b868, 0, none⟩), v878] 71 (0, 0)) :: .blk b868 (.cells #[v871, .int .i64 (y875)] 94 (0, 0)) :: .row v871 21 1 rw872 :: .row v878 44 5 rw879 :: .blk b883 (.cells r885.toArray 44 (0, 0)) :: L) [(3, .pointer (some ⟨b866, 0, none⟩)), (4, .pointer (some ⟨b883, 0, none⟩))] a w) ∨ (l = 2 ∧ ∃ (f887 : Fz) (y894 : (List Int)) (y899 : Int) (y901 : (List mark_Token)) (y908 : mark_Token) (b890 : Nat) (b892 : Nat) (v895 : Value) (rw896 : List (List Value)) (v902 : Value) (rw903 : List (List Value)) (b907 : Nat) (r909 : List Value), Fz.le f f887 ∧ mark_Tokens_g1_2 n k y894 y899 y901 y908 = some res ∧ RW (tInt .i32) f887 rw896 y894 ∧ (LQ.own f).R f887 rw903 y901 ∧ t_mark_Token.R f887 r909 y908 ∧ St 155 w0 f887 (.blk b890 (.cells #[.pointer (some ⟨b892, 0, none⟩), v902] 71 (0, 0)) :: .blk b892 (.cells #[v895, .int .i64 (y899)] 94 (0, 0)) :: .row v895 21 1 rw896 :: .row v902 44 5 rw903 :: .blk b907 (.cells r909.toArray 44 (0, 0)) :: L) [(3, .pointer (some ⟨b890, 0, none⟩)), (4, .pointer (some ⟨b907, 0, none⟩))] a w)) rfl ?_ ?_
 ·(try clear hs); (try clear hm)
  intro k ih l a w R hl hJ G2 hG2
  rcases hJ with ⟨rfl, hJ⟩ | ⟨rfl, hJ⟩ | ⟨rfl, hJ⟩ | ⟨rfl, hJ⟩
  ·cases hl; revert a w
   rintro a w ⟨f815, y822, y827, y829, y836, b818, b820, v823, rw824, v830, rw831, b835, r837, hl816, hm, hW825, hW832, hq838, hs⟩
   replace hR2 := hR2.le hl816
   replace hW3 := hW3.le hl816
   replace hle := hle.trans hl816
   obtain ⟨v1197, rfl, ⟨rw1198, hR1199, hW1200⟩⟩ := hq838
   replace hs : St _ _ _ (.blk b818 (.cells #[.pointer (some ⟨b820, 0, none⟩), v830] 71 (0, 0)) :: .blk b820 (.cells #[v823, .int .i64 (y827)] 94 (0, 0)) :: .row v823 21 1 rw824 :: .row v830 44 5 rw831 :: .blk b835 (.cells #[.int .i64 (y836.Kind), .string (y836.Name), .string (y836.Text), v1197, .bool (y836.Closed)] 44 (0, 0)) :: L) _ _ _ := hs
   have hbase1195 := hl816
   cases k with
   | zero => simp [mark_Tokens_g1_3] at hm
   | succ k1196 =>
    rw [mark_Tokens_g1_3] at hm
    refine W_seq fun K3 hK3 => ?_
    refine W_block fun Qe4 hB4 hO4 => ?_
    refine W_seq fun K5 hK5 => ?_
    refine W_region ?_
    refine sy (v := .pointer (some ⟨b818, 0, none⟩)) hs (y_move rfl) ?_; clear hs; (try clear a w); intro a w hs
    refine sy hs (y_nilCheck rfl) ?_; clear hs; (try clear a w); intro a w hs
    refine sy (v := .pointer (some ⟨b818, 0, none⟩)) hs (y_fieldAddr rfl (FO.of (off := 0) Try.underlying71 rfl rfl ti68 (by decide))) ?_; clear hs; (try clear a w); intro a w hs
    refine sy (v := .pointer (some ⟨b820, 0, none⟩)) hs (y_ld rfl Try.underlying68 rfl (Cell.blk (.head _) rfl)) ?_; clear hs; (try clear a w); intro a w hs
    obtain ⟨x1202, hx1203, hm⟩ := ob hm
    refine sy hs (y_callR (cap := []) (Lf := .blk b818 (.cells #[.pointer (some ⟨b820, 0, none⟩), v830] 71 (0, 0)) :: .row v830 44 5 rw831 :: .blk b835 (.cells #[.int .i64 (y836.Kind), .string (y836.Name), .string (y836.Text), v1197, .bool (y836.Closed)] 44 (0, 0)) :: L) rfl has40 rfl ((perm_at _ 2 rfl).trans (perm_at _ 2 rfl)) (source_Cursor_rune_Left_ok n (f := f815) (p0 := ({l := y822, at_ := y827} : source_Cursor_rune_)) (pb0 := b820) (pv0_0 := v823) (pv0_0r := rw824) hW825 hx1203)) ?_; clear hs; (try clear a w); intro a w hs
    refine sy hs (y_eql rfl rfl) ?_; clear hs; (try clear a w); intro a w hs
    refine sy (v := .bool (decide (x1202 = 0))) hs (y_assign rfl) ?_; clear hs; (try clear a w); intro a w hs
    refine RL_nil ?_
    refine hK5 _ _ ?_; clear hK5
    refine W_cond hs rfl (fun hg1204 => ?_) (fun hg1204 => ?_)
    ·replace hm := oc_t hg1204 hm
     refine W_seq fun K6 hK6 => ?_
     refine W_region ?_
     refine sy (v := .pointer (some ⟨b818, 0, none⟩)) hs (y_move rfl) ?_; clear hs; (try clear a w); intro a w hs
     refine sy hs (y_nilCheck rfl) ?_; clear hs; (try clear a w); intro a w hs
     refine sy (v := .pointer (some ⟨b818, 1, none⟩)) hs (y_fieldAddr rfl (FO.of (off := 1) Try.underlying71 rfl rfl ti37 (by decide))) ?_; clear hs; (try clear a w); intro a w hs
     refine sy (v := v830) hs (y_ld rfl Try.underlying37 rfl (Cell.blk (.head _) rfl)) ?_; clear hs; (try clear a w); intro a w hs
     refine sy (v := v830) hs (y_assign rfl) ?_; clear hs; (try clear a w); intro a w hs
     refine RL_nil ?_
     refine hK6 _ _ ?_; clear hK6
     refine W_ret ?_
     obtain rfl := Option.some.inj hm
     refine RtV1 hs rfl (rv_t hs rfl) ?_
     exact ⟨_, _, [.row v830 44 5 rw831], rfl, hle, (hs.subL (.cons _ (.cons _ (.cons _ (.cons_cons _ (.cons _ (.refl _))))))).cw, rw831, rfl, hW832⟩
    ·replace hm := oc_f hg1204 hm
     refine W_seq fun K7 hK7 => ?_
     refine W_region ?_
     refine sy (v := .pointer (some ⟨b818, 0, none⟩)) hs (y_move rfl) ?_; clear hs; (try clear a w); intro a w hs
     obtain ⟨x1208, hx1209, hm⟩ := ob hm
     refine sy hs (y_callR (cap := []) (Lf := .blk b835 (.cells #[.int .i64 (y836.Kind), .string (y836.Name), .string (y836.Text), v1197, .bool (y836.Closed)] 44 (0, 0)) :: L) rfl has41 rfl ((((perm_at _ 3 rfl).trans (perm_at _ 3 rfl)).trans (perm_at _ 3 rfl)).trans (perm_at _ 3 rfl)) (mark_cutter_begins_ok n (f := f815) (p0 := ({c := ({l := y822, at_ := y827} : source_Cursor_rune_), out := y829} : mark_cutter)) (pb0 := b818) (pv0_0 := b820) (pv0_1 := v823) (pv0_1r := rw824) (pv0_2 := v830) (pv0_2r := rw831) hW825 hW832 hx1209)) ?_; clear hs; (try clear a w); intro a w hs
     refine sy (v := .bool ((!x1208))) hs (y_not rfl) ?_; clear hs; (try clear a w); intro a w hs
     refine sy (v := .bool ((!x1208))) hs (y_assign rfl) ?_; clear hs; (try clear a w); intro a w hs
     refine RL_nil ?_
     refine hK7 _ _ ?_; clear hK7
     refine W_cond hs rfl (fun hg1210 => ?_) (fun hg1210 => ?_)
     ·replace hm := oc_t hg1210 hm
      refine W_goto ?_
      exact hG2.at_ 0 _ _ rfl ⟨k1196, Nat.lt_succ_self _, (.inr (.inl ⟨rfl, ⟨_, y822, y827, y829, y836, b818, b820, v823, rw824, v830, rw831, b835, [.int .i64 (y836.Kind), .string (y836.Name), .string (y836.Text), v1197, .bool (y836.Closed)], hbase1195, hm, hW825, hW832, ⟨_, rfl, ⟨rw1198, hR1199, hW1200⟩⟩, hs.sub ⟨rfl, rfl, trivial⟩⟩⟩))⟩
     ·replace hm := oc_f hg1210 hm
      refine W_seq fun K8 hK8 => ?_
      refine W_region ?_
      refine sy (v := .pointer (some ⟨b818, 0, none⟩)) hs (y_move rfl) ?_; clear hs; (try clear a w); intro a w hs
      obtain ⟨x1211, hx1212, hm⟩ := ob hm
      refine sy hs (y_callR (cap := []) (Lf := .blk b835 (.cells #[.int .i64 (y836.Kind), .string (y836.Name), .string (y836.Text), v1197, .bool (y836.Closed)] 44 (0, 0)) :: L) rfl has43 rfl ((((perm_at _ 3 rfl).trans (perm_at _ 3 rfl)).trans (perm_at _ 3 rfl)).trans (perm_at _ 3 rfl)) (mark_cutter_peek_ok n (f := f815) (p0 := ({c := ({l := y822, at_ := y827} : source_Cursor_rune_), out := y829} : mark_cutter)) (pb0 := b818) (pv0_0 := b820) (pv0_1 := v823) (pv0_1r := rw824) (pv0_2 := v830) (pv0_2r := rw831) (p1 := 1) hW825 hW832 hx1212)) ?_; clear hs; (try clear a w); intro a w hs
      obtain ⟨x1213, hx1214, hm⟩ := ob hm
      refine sy hs (y_call rfl has42 rfl (mark_letter_ok n (f := f815)  hx1214)) ?_; clear hs; (try clear a w); intro a w hs
      refine sy (v := .bool (x1213)) hs (y_assign rfl) ?_; clear hs; (try clear a w); intro a w hs
      refine RL_nil ?_
      refine hK8 _ _ ?_; clear hK8
      refine W_cond hs rfl (fun hg1215 => ?_) (fun hg1215 => ?_)
      ·replace hm := oc_t hg1215 hm
       refine W_goto ?_
       exact hG2.at_ 1 _ _ rfl ⟨k1196, Nat.lt_succ_self _, (.inr (.inr (.inl ⟨rfl, ⟨_, y822, y827, y829, y836, b818, b820, v823, rw824, v830, rw831, b835, [.int .i64 (y836.Kind), .string (y836.Name), .string (y836.Text), v1197, .bool (y836.Closed)], hbase1195, hm, hW825, hW832, ⟨_, rfl, ⟨rw1198, hR1199, hW1200⟩⟩, hs.sub ⟨rfl, rfl, trivial⟩⟩⟩)))⟩
      ·replace hm := oc_f hg1215 hm
       refine W_seq fun K9 hK9 => ?_
       refine W_post (fun a w => ∃ (y1216 : Bool), mark_Tokens_k2 n y822 y827 y829 y836 (mark_Tokens_g1_3 n k1196) (mark_Tokens_g1_2 n k1196) y1216 = some res ∧ St 155 w0 f815 (.blk b818 (.cells #[.pointer (some ⟨b820, 0, none⟩), v830] 71 (0, 0)) :: .blk b820 (.cells #[v823, .int .i64 (y827)] 94 (0, 0)) :: .row v823 21 1 rw824 :: .row v830 44 5 rw831 :: .blk b835 (.cells #[.int .i64 (y836.Kind), .string (y836.Name), .string (y836.Text), v1197, .bool (y836.Closed)] 44 (0, 0)) :: L) [(3, .pointer (some ⟨b818, 0, none⟩)), (4, .pointer (some ⟨b835, 0, none⟩)), (32, .bool (y1216))] a w) ?_ ?_
       ·clear hs hm
        rintro a w ⟨y1216, hm, hs⟩
        replace hs : St _ _ _ (.blk b818 (.cells #[.pointer (some ⟨b820, 0, none⟩), v830] 71 (0, 0)) :: .blk b820 (.cells #[v823, .int .i64 (y827)] 94 (0, 0)) :: .row v823 21 1 rw824 :: .row v830 44 5 rw831 :: .blk b835 (.cells #[.int .i64 (y836.Kind), .string (y836.Name), .string (y836.Text), v1197, .bool (y836.Closed)] 44 (0, 0)) :: L) _ _ _ := hs
        unfold mark_Tokens_k2 at hm
        refine hK9 _ _ ?_; clear hK9
        refine W_cond hs rfl (fun hg1217 => ?_) (fun hg1217 => ?_)
        ·replace hm := oc_t hg1217 hm
         refine W_goto ?_
         exact hG2.at_ 2 _ _ rfl ⟨k1196, Nat.lt_succ_self _, (.inr (.inr (.inr (⟨rfl, ⟨_, y822, y827, y829, y836, b818, b820, v823, rw824, v830, rw831, b835, [.int .i64 (y836.Kind), .string (y836.Name), .string (y836.Text), v1197, .bool (y836.Closed)], hbase1195, hm, hW825, hW832, ⟨_, rfl, ⟨rw1198, hR1199, hW1200⟩⟩, hs.sub ⟨rfl, rfl, trivial⟩⟩⟩))))⟩
        ·replace hm := oc_f hg1217 hm
         refine W_seq fun K10 hK10 => ?_
         refine W_region ?_
         refine sy (v := .pointer (some ⟨b818, 0, none⟩)) hs (y_move rfl) ?_; clear hs; (try clear a w); intro a w hs
         obtain ⟨x1218, hx1219, hm⟩ := ob hm
         refine sy hs (y_callR (cap := []) (Lf := .blk b835 (.cells #[.int .i64 (y836.Kind), .string (y836.Name), .string (y836.Text), v1197, .bool (y836.Closed)] 44 (0, 0)) :: L) rfl has44 rfl ((((perm_at _ 3 rfl).trans (perm_at _ 3 rfl)).trans (perm_at _ 3 rfl)).trans (perm_at _ 3 rfl)) (mark_cutter_is_ok n (f := f815) (p0 := ({c := ({l := y822, at_ := y827} : source_Cursor_rune_), out := y829} : mark_cutter)) (pb0 := b818) (pv0_0 := b820) (pv0_1 := v823) (pv0_1r := rw824) (pv0_2 := v830) (pv0_2r := rw831) (p1 := 0) (p2 := (bs [60, 33, 45, 45])) hW825 hW832 hx1219)) ?_; clear hs; (try clear a w); intro a w hs
         refine sy (v := .bool (x1218)) hs (y_assign rfl) ?_; clear hs; (try clear a w); intro a w hs
         refine RL_nil ?_
         refine hK10 _ _ ?_; clear hK10
         refine W_cond hs rfl (fun hg1220 => ?_) (fun hg1220 => ?_)
         ·replace hm := oc_t hg1220 hm
          refine W_seq fun K11 hK11 => ?_
          refine W_region ?_
          refine sy (v := .pointer (some ⟨b818, 0, none⟩)) hs (y_move rfl) ?_; clear hs; (try clear a w); intro a w hs
          obtain ⟨x1221, hx1222, hm⟩ := ob hm
          replace hs := hs.front 3
          replace hs := hs.front 3
          replace hs := hs.front 3
          replace hs := hs.front 3
          replace hs : St _ _ _ (.blk b818 (.cells #[.pointer (some ⟨b820, 0, none⟩), v830] 71 (0, 0)) :: .blk b820 (.cells #[v823, .int .i64 (y827)] 94 (0, 0)) :: .row v823 21 1 rw824 :: .row v830 44 5 rw831 :: .blk b835 (.cells #[.int .i64 (y836.Kind), .string (y836.Name), .string (y836.Text), v1197, .bool (y836.Closed)] 44 (0, 0)) :: L) _ _ _ := hs
          refine RL_call (Lr := [.blk b818 (.cells #[.pointer (some ⟨b820, 0, none⟩), v830] 71 (0, 0)), .blk b820 (.cells #[v823, .int .i64 (y827)] 94 (0, 0)), .row v823 21 1 rw824, .row v830 44 5 rw831]) (Lf := .blk b835 (.cells #[.int .i64 (y836.Kind), .string (y836.Name), .string (y836.Text), v1197, .bool (y836.Closed)] 44 (0, 0)) :: L) hs rfl has45 rfl rfl (mark_cutter_skip4_ok n (f := f815) (p0 := ({c := ({l := y822, at_ := y827} : source_Cursor_rune_), out := y829} : mark_cutter)) (pb0 := b818) (pv0_0 := b820) (pv0_1 := v823) (pv0_1r := rw824) (pv0_2 := v830) (pv0_2r := rw831) hW825 hW832 hx1222) (.free rfl) (by decide) ?_; clear hs; (try clear a w)
          rintro _ f1223 _ a w hf1224 ⟨v1225, rw1226, v1228, rw1229, rfl, rfl, hW1227, hW1230⟩ hs
          replace hR2 := hR2.le hf1224
          replace hW3 := hW3.le hf1224
          replace hW825 := hW825.le hf1224
          replace hW832 := hW832.le hf1224
          replace hR1199 := hR1199.le hf1224
          replace hW1200 := hW1200.le hf1224
          replace hle := hle.trans hf1224
          replace hbase1195 := hbase1195.trans hf1224
          replace hs : St _ _ _ (.blk b818 (.cells #[.pointer (some ⟨b820, 0, none⟩), v1228] 71 (0, 0)) :: .blk b820 (.cells #[v1225, .int .i64 (x1221.c.at_)] 94 (0, 0)) :: .row v1225 21 1 rw1226 :: .row v1228 44 5 rw1229 :: .blk b835 (.cells #[.int .i64 (y836.Kind), .string (y836.Name), .string (y836.Text), v1197, .bool (y836.Closed)] 44 (0, 0)) :: L) _ _ _ := hs
          refine RL_nil ?_
          refine hK11 _ _ ?_; clear hK11
          refine W_seq fun K12 hK12 => ?_
          refine W_region ?_
          refine sy (v := .pointer (some ⟨b818, 0, none⟩)) hs (y_move rfl) ?_; clear hs; (try clear a w); intro a w hs
          obtain ⟨x1233, hx1234, hm⟩ := ob hm
          replace hs := hs.front 3
          replace hs := hs.front 3
          replace hs := hs.front 3
          replace hs := hs.front 3
          replace hs : St _ _ _ (.blk b818 (.cells #[.pointer (some ⟨b820, 0, none⟩), v1228] 71 (0, 0)) :: .blk b820 (.cells #[v1225, .int .i64 (x1221.c.at_)] 94 (0, 0)) :: .row v1225 21 1 rw1226 :: .row v1228 44 5 rw1229 :: .blk b835 (.cells #[.int .i64 (y836.Kind), .string (y836.Name), .string (y836.Text), v1197, .bool (y836.Closed)] 44 (0, 0)) :: L) _ _ _ := hs
          refine RL_call (Lr := [.blk b818 (.cells #[.pointer (some ⟨b820, 0, none⟩), v1228] 71 (0, 0)), .blk b820 (.cells #[v1225, .int .i64 (x1221.c.at_)] 94 (0, 0)), .row v1225 21 1 rw1226, .row v1228 44 5 rw1229]) (Lf := .blk b835 (.cells #[.int .i64 (y836.Kind), .string (y836.Name), .string (y836.Text), v1197, .bool (y836.Closed)] 44 (0, 0)) :: L) hs rfl has46 rfl rfl (mark_cutter_skip_ok n (f := f1223) (p0 := x1221) (pb0 := b818) (pv0_0 := b820) (pv0_1 := v1225) (pv0_1r := rw1226) (pv0_2 := v1228) (pv0_2r := rw1229) (p1 := (bs [45, 45, 62])) hW1227 hW1230 hx1234) (.free rfl) (by decide) ?_; clear hs; (try clear a w)
          rintro _ f1235 _ a w hf1236 ⟨v1237, rw1238, v1240, rw1241, rfl, rfl, hW1239, hW1242⟩ hs
          replace hR2 := hR2.le hf1236
          replace hW3 := hW3.le hf1236
          replace hW825 := hW825.le hf1236
          replace hW832 := hW832.le hf1236
          replace hR1199 := hR1199.le hf1236
          replace hW1200 := hW1200.le hf1236
          replace hW1227 := hW1227.le hf1236
          replace hW1230 := hW1230.le hf1236
          replace hle := hle.trans hf1236
          replace hbase1195 := hbase1195.trans hf1236
          replace hs : St _ _ _ (.blk b818 (.cells #[.pointer (some ⟨b820, 0, none⟩), v1240] 71 (0, 0)) :: .blk b820 (.cells #[v1237, .int .i64 (x1233.c.at_)] 94 (0, 0)) :: .row v1237 21 1 rw1238 :: .row v1240 44 5 rw1241 :: .blk b835 (.cells #[.int .i64 (y836.Kind), .string (y836.Name), .string (y836.Text), v1197, .bool (y836.Closed)] 44 (0, 0)) :: L) _ _ _ := hs
          refine RL_nil ?_
          refine hK12 _ _ ?_; clear hK12
          refine W_goto ?_
          exact hG2.at_ 3 _ _ rfl ⟨k1196, Nat.lt_succ_self _, (.inl ⟨rfl, ⟨_, x1233.c.l, x1233.c.at_, x1233.out, y836, b818, b820, v1237, rw1238, v1240, rw1241, b835, [.int .i64 (y836.Kind), .string (y836.Name), .string (y836.Text), v1197, .bool (y836.Closed)], hbase1195, hm, hW1239, hW1242, ⟨_, rfl, ⟨rw1198, hR1199, hW1200⟩⟩, hs.sub ⟨rfl, rfl, trivial⟩⟩⟩)⟩
         ·replace hm := oc_f hg1220 hm
          refine W_skip ?_
          refine hK3 _ _ ?_; clear hK3
          refine W_seq fun K13 hK13 => ?_
          refine W_region ?_
          refine sy (v := .pointer (some ⟨b818, 0, none⟩)) hs (y_move rfl) ?_; clear hs; (try clear a w); intro a w hs
          obtain ⟨x1245, hx1246, hm⟩ := ob hm
          replace hs := hs.front 3
          replace hs := hs.front 3
          replace hs := hs.front 3
          replace hs := hs.front 3
          replace hs : St _ _ _ (.blk b818 (.cells #[.pointer (some ⟨b820, 0, none⟩), v830] 71 (0, 0)) :: .blk b820 (.cells #[v823, .int .i64 (y827)] 94 (0, 0)) :: .row v823 21 1 rw824 :: .row v830 44 5 rw831 :: .blk b835 (.cells #[.int .i64 (y836.Kind), .string (y836.Name), .string (y836.Text), v1197, .bool (y836.Closed)] 44 (0, 0)) :: L) _ _ _ := hs
          refine RL_call (Lr := [.blk b818 (.cells #[.pointer (some ⟨b820, 0, none⟩), v830] 71 (0, 0)), .blk b820 (.cells #[v823, .int .i64 (y827)] 94 (0, 0)), .row v823 21 1 rw824, .row v830 44 5 rw831]) (Lf := .blk b835 (.cells #[.int .i64 (y836.Kind), .string (y836.Name), .string (y836.Text), v1197, .bool (y836.Closed)] 44 (0, 0)) :: L) hs rfl has46 rfl rfl (mark_cutter_skip_ok n (f := f815) (p0 := ({c := ({l := y822, at_ := y827} : source_Cursor_rune_), out := y829} : mark_cutter)) (pb0 := b818) (pv0_0 := b820) (pv0_1 := v823) (pv0_1r := rw824) (pv0_2 := v830) (pv0_2r := rw831) (p1 := (bs [62])) hW825 hW832 hx1246) (.free rfl) (by decide) ?_; clear hs; (try clear a w)
          rintro _ f1247 _ a w hf1248 ⟨v1249, rw1250, v1252, rw1253, rfl, rfl, hW1251, hW1254⟩ hs
          replace hR2 := hR2.le hf1248
          replace hW3 := hW3.le hf1248
          replace hW825 := hW825.le hf1248
          replace hW832 := hW832.le hf1248
          replace hR1199 := hR1199.le hf1248
          replace hW1200 := hW1200.le hf1248
          replace hle := hle.trans hf1248
          replace hbase1195 := hbase1195.trans hf1248
          replace hs : St _ _ _ (.blk b818 (.cells #[.pointer (some ⟨b820, 0, none⟩), v1252] 71 (0, 0)) :: .blk b820 (.cells #[v1249, .int .i64 (x1245.c.at_)] 94 (0, 0)) :: .row v1249 21 1 rw1250 :: .row v1252 44 5 rw1253 :: .blk b835 (.cells #[.int .i64 (y836.Kind), .string (y836.Name), .string (y836.Text), v1197, .bool (y836.Closed)] 44 (0, 0)) :: L) _ _ _ := hs
          refine RL_nil ?_
          refine hK13 _ _ ?_; clear hK13
          refine W_seq fun K14 hK14 => ?_
          refine W_goto ?_
          exact hG2.at_ 3 _ _ rfl ⟨k1196, Nat.lt_succ_self _, (.inl ⟨rfl, ⟨_, x1245.c.l, x1245.c.at_, x1245.out, y836, b818, b820, v1249, rw1250, v1252, rw1253, b835, [.int .i64 (y836.Kind), .string (y836.Name), .string (y836.Text), v1197, .bool (y836.Closed)], hbase1195, hm, hW1251, hW1254, ⟨_, rfl, ⟨rw1198, hR1199, hW1200⟩⟩, hs.sub ⟨rfl, rfl, trivial⟩⟩⟩)⟩
       ·refine W_region ?_
        refine sy (v := .pointer (some ⟨b818, 0, none⟩)) hs (y_move rfl) ?_; clear hs; (try clear a w); intro a w hs
        obtain ⟨x1257, hx1258, hm⟩ := ob hm
        refine sy hs (y_callR (cap := []) (Lf := .blk b835 (.cells #[.int .i64 (y836.Kind), .string (y836.Name), .string (y836.Text), v1197, .bool (y836.Closed)] 44 (0, 0)) :: L) rfl has43 rfl ((((perm_at _ 3 rfl).trans (perm_at _ 3 rfl)).trans (perm_at _ 3 rfl)).trans (perm_at _ 3 rfl)) (mark_cutter_peek_ok n (f := f815) (p0 := ({c := ({l := y822, at_ := y827} : source_Cursor_rune_), out := y829} : mark_cutter)) (pb0 := b818) (pv0_0 := b820) (pv0_1 := v823) (pv0_1r := rw824) (pv0_2 := v830) (pv0_2r := rw831) (p1 := 1) hW825 hW832 hx1258)) ?_; clear hs; (try clear a w); intro a w hs
        refine sy hs (y_eql rfl rfl) ?_; clear hs; (try clear a w); intro a w hs
        refine sy (v := .bool (decide (x1257 = 47))) hs (y_move rfl) ?_; clear hs; (try clear a w); intro a w hs
        refine St.split hs (t := 36) rfl (fun hg1259 hq => ?_) (fun hg1259 hq => ?_)
        ·clear hs; have hs := hq; clear hq
         replace hm := oc_t hg1259 hm
         refine syg (v := .pointer (some ⟨b818, 0, none⟩)) hs (y_move rfl) ?_; clear hs; (try clear a w); intro a w hs
         obtain ⟨x1260, hx1261, hm⟩ := ob hm
         refine syg hs (y_callR (cap := []) (Lf := .blk b835 (.cells #[.int .i64 (y836.Kind), .string (y836.Name), .string (y836.Text), v1197, .bool (y836.Closed)] 44 (0, 0)) :: L) rfl has43 rfl ((((perm_at _ 3 rfl).trans (perm_at _ 3 rfl)).trans (perm_at _ 3 rfl)).trans (perm_at _ 3 rfl)) (mark_cutter_peek_ok n (f := f815) (p0 := ({c := ({l := y822, at_ := y827} : source_Cursor_rune_), out := y829} : mark_cutter)) (pb0 := b818) (pv0_0 := b820) (pv0_1 := v823) (pv0_1r := rw824) (pv0_2 := v830) (pv0_2r := rw831) (p1 := 2) hW825 hW832 hx1261)) ?_; clear hs; (try clear a w); intro a w hs
         obtain ⟨x1262, hx1263, hm⟩ := ob hm
         refine syg hs (y_call rfl has42 rfl (mark_letter_ok n (f := f815)  hx1263)) ?_; clear hs; (try clear a w); intro a w hs
         refine sy (v := .bool (x1262)) hs (y_pick rfl rfl) ?_; clear hs; (try clear a w); intro a w hs
         refine sy (v := .bool (x1262)) hs (y_assign rfl) ?_; clear hs; (try clear a w); intro a w hs
         refine RL_nil ?_
         replace hs : St _ _ _ (.blk b818 (.cells #[.pointer (some ⟨b820, 0, none⟩), v830] 71 (0, 0)) :: .blk b820 (.cells #[v823, .int .i64 (y827)] 94 (0, 0)) :: .row v823 21 1 rw824 :: .row v830 44 5 rw831 :: .blk b835 (.cells #[.int .i64 (y836.Kind), .string (y836.Name), .string (y836.Text), v1197, .bool (y836.Closed)] 44 (0, 0)) :: L) _ _ _ := hs
         replace hs : St _ _ _ (.blk b818 (.cells #[.pointer (some ⟨b820, 0, none⟩), v830] 71 (0, 0)) :: .blk b820 (.cells #[v823, .int .i64 (y827)] 94 (0, 0)) :: .row v823 21 1 rw824 :: .row v830 44 5 rw831 :: .blk b835 (.cells #[.int .i64 (y836.Kind), .string (y836.Name), .string (y836.Text), v1197, .bool (y836.Closed)] 44 (0, 0)) :: L) _ _ _ := hs
         exact ⟨x1262, hm, hs.sub ⟨rfl, rfl, rfl, trivial⟩⟩
        ·clear hs; have hs := hq; clear hq
         replace hm := oc_f hg1259 hm
         refine sno hs ?_; clear hs; (try clear a w); intro a w hs
         refine sno hs ?_; clear hs; (try clear a w); intro a w hs
         refine sno hs ?_; clear hs; (try clear a w); intro a w hs
         refine sy (v := .bool (false)) hs (y_pick rfl rfl) ?_; clear hs; (try clear a w); intro a w hs
         refine sy (v := .bool (false)) hs (y_assign rfl) ?_; clear hs; (try clear a w); intro a w hs
         refine RL_nil ?_
         replace hs : St _ _ _ (.blk b818 (.cells #[.pointer (some ⟨b820, 0, none⟩), v830] 71 (0, 0)) :: .blk b820 (.cells #[v823, .int .i64 (y827)] 94 (0, 0)) :: .row v823 21 1 rw824 :: .row v830 44 5 rw831 :: .blk b835 (.cells #[.int .i64 (y836.Kind), .string (y836.Name), .string (y836.Text), v1197, .bool (y836.Closed)] 44 (0, 0)) :: L) _ _ _ := hs
         replace hs : St _ _ _ (.blk b818 (.cells #[.pointer (some ⟨b820, 0, none⟩), v830] 71 (0, 0)) :: .blk b820 (.cells #[v823, .int .i64 (y827)] 94 (0, 0)) :: .row v823 21 1 rw824 :: .row v830 44 5 rw831 :: .blk b835 (.cells #[.int .i64 (y836.Kind), .string (y836.Name), .string (y836.Text), v1197, .bool (y836.Closed)] 44 (0, 0)) :: L) _ _ _ := hs
         exact ⟨false, hm, hs.sub ⟨rfl, rfl, rfl, trivial⟩⟩
  ·cases hl; revert a w
   rintro a w ⟨f839, y846, y851, y853, y860, b842, b844, v847, rw848, v854, rw855, b859, r861, hl840, hm, hW849, hW856, hq862, hs⟩
   replace hR2 := hR2.le hl840
   replace hW3 := hW3.le hl840
   replace hle := hle.trans hl840
   obtain ⟨v1265, rfl, ⟨rw1266, hR1267, hW1268⟩⟩ := hq862
   replace hs : St _ _ _ (.blk b842 (.cells #[.pointer (some ⟨b844, 0, none⟩), v854] 71 (0, 0)) :: .blk b844 (.cells #[v847, .int .i64 (y851)] 94 (0, 0)) :: .row v847 21 1 rw848 :: .row v854 44 5 rw855 :: .blk b859 (.cells #[.int .i64 (y860.Kind), .string (y860.Name), .string (y860.Text), v1265, .bool (y860.Closed)] 44 (0, 0)) :: L) _ _ _ := hs
   have hbase1195 := hl840
   cases k with
   | zero => simp [mark_Tokens_g1_0] at hm
   | succ k1264 =>
    rw [mark_Tokens_g1_0] at hm
    refine W_seq fun K15 hK15 => ?_
    refine W_region ?_
    refine sy (v := (.slice none 0 0)) hs (y_assign rfl) ?_; clear hs; (try clear a w); intro a w hs
    refine RL_nil ?_
    refine hK15 _ _ ?_; clear hK15
    refine W_seq fun K16 hK16 => ?_
    have hbase1285 := Fz.le.refl f839
    refine W_post (fun a w => ∃ (f1271 : Fz) (y1273 : (List Int)) (y1278 : Int) (y1280 : (List Int)) (v1274 : Value) (rw1275 : List (List Value)) (v1281 : Value) (rw1282 : List (List Value)), Fz.le f839 f1271 ∧ mark_Tokens_k3 n y853 y860 (mark_Tokens_g1_3 n k1264) y1273 y1278 y1280 = some res ∧ RW (tInt .i32) f1271 rw1275 y1273 ∧ RW (tInt .i32) f1271 rw1282 y1280 ∧ St 155 w0 f1271 (.row v1281 21 1 rw1282 :: .blk b842 (.cells #[.pointer (some ⟨b844, 0, none⟩), v854] 71 (0, 0)) :: .blk b844 (.cells #[v1274, .int .i64 (y1278)] 94 (0, 0)) :: .row v1274 21 1 rw1275 :: .row v854 44 5 rw855 :: .blk b859 (.cells #[.int .i64 (y860.Kind), .string (y860.Name), .string (y860.Text), v1265, .bool (y860.Closed)] 44 (0, 0)) :: L) [(3, .pointer (some ⟨b842, 0, none⟩)), (4, .pointer (some ⟨b859, 0, none⟩)), (6, v1281)] a w) ?_ ?_
    ·clear hs hm
     clear hbase1285
     rintro a w ⟨f1271, y1273, y1278, y1280, v1274, rw1275, v1281, rw1282, hl1272, hm, hW1276, hW1283, hs⟩
     replace hR2 := hR2.le hl1272
     replace hW3 := hW3.le hl1272
     replace hW849 := hW849.le hl1272
     replace hW856 := hW856.le hl1272
     replace hR1267 := hR1267.le hl1272
     replace hW1268 := hW1268.le hl1272
     replace hle := hle.trans hl1272
     replace hbase1195 := hbase1195.trans hl1272
     replace hs : St _ _ _ (.row v1281 21 1 rw1282 :: .blk b842 (.cells #[.pointer (some ⟨b844, 0, none⟩), v854] 71 (0, 0)) :: .blk b844 (.cells #[v1274, .int .i64 (y1278)] 94 (0, 0)) :: .row v1274 21 1 rw1275 :: .row v854 44 5 rw855 :: .blk b859 (.cells #[.int .i64 (y860.Kind), .string (y860.Name), .string (y860.Text), v1265, .bool (y860.Closed)] 44 (0, 0)) :: L) _ _ _ := hs
     unfold mark_Tokens_k3 at hm
     refine hK16 _ _ ?_; clear hK16
     refine W_seq fun K17 hK17 => ?_
     have hsD := hs.subL (L' := .row v1281 21 1 rw1282 :: .blk b842 (.cells #[.pointer (some ⟨b844, 0, none⟩), v854] 71 (0, 0)) :: []) (.cons_cons _ (.cons_cons _ (.cons _ (.cons _ (.cons _ (.cons _ (List.nil_sublist _)))))))
     refine T_start hs (.row v1281 21 1 rw1282 :: .blk b842 (.cells #[.pointer (some ⟨b844, 0, none⟩), v854] 71 (0, 0)) :: []) [13] (.look 0 (.look 1 (.look 2 (.look 3 (.look 4 (.look 5 (.look 6 (.look 7 (.look 8 (.any [9] (fun _ => .any [10] (fun _ => .look 11 (.look 12 (.any [13] (fun _ => .done))))))))))))))) mixed (by kernel_rfl) ?_; clear hs; (try clear a w); intro a he
     refine uy (v := .pointer (some ⟨b842, 0, none⟩)) 0 he rfl (y_move rfl) ?_; clear he; (try clear a); intro a he
     refine uy (v := .pointer (some ⟨b842, 0, none⟩)) 1 he rfl (y_move rfl) ?_; clear he; (try clear a); intro a he
     refine uy 2 he rfl (y_nilCheck rfl) ?_; clear he; (try clear a); intro a he
     refine uy (v := .pointer (some ⟨b842, 1, none⟩)) 3 he rfl (y_fieldAddr rfl (FO.of (off := 1) Try.underlying71 rfl rfl ti37 (by decide))) ?_; clear he; (try clear a); intro a he
     refine uy (v := v854) 4 he rfl (y_ld rfl Try.underlying37 rfl (Cell.blk (.tail _ (.head _)) rfl)) ?_; clear he; (try clear a); intro a he
     refine uy (v := v1281) 5 he rfl (y_move rfl) ?_; clear he; (try clear a); intro a he
     refine uy (v := .string ((textOf y1280))) 6 he rfl (y_r2sW rfl Try.underlying32 Try.underlying21 Try.underlying9 (Rd.st hsD (.head _)) hW1283) ?_; clear he; (try clear a); intro a he
     obtain ⟨x1286, hx1287, hm⟩ := ob hm
     refine ucall 7 he rfl rfl has16 rfl (fun f9 L9 w9 hfc _ hw9 => (mark_Unescape_ok n (f := f9)  hx1287) w0 L9 w9 hw9) ?_; clear he; (try clear a); intro a he
     refine uy 8 he rfl (y_buildS (places := [(0, 1), (1, 1), (2, 1), (3, 1), (4, 1)]) (cs := [.int .i64 (1), .string ((bs [])), .string (x1286), (.slice none 0 0), .bool (false)]) rfl Try.underlying44 ti44 (by kernel_rfl) (by decide) rfl ⟨rfl, rfl, trivial⟩) ?_; clear he; (try clear a); intro a he
     refine T_any1 he rfl ?_; clear he; (try clear a); intro a w hs
     refine RL_bs1a hs rfl Try.underlying37 ti44 (by decide) (AllC.row ⟨rfl, rfl, rfl, rfl, rfl, trivial⟩ rfl) ?_; clear hs; (try clear a w); intro v1289 a w hs
     have hW1290 : LQ.Add (LQ.own f) (LQ.own f) f1271 [[.int .i64 (1), .string ((bs [])), .string (x1286), (.slice none 0 0), .bool (false)]] [({Kind := 1, Name := (bs []), Text := x1286, Attrs := ([] : List api_Attr), Closed := false} : mark_Token)] := (LQ.own f).add f1271 _
     generalize hgrw1291 : ([[.int .i64 (1), .string ((bs [])), .string (x1286), (.slice none 0 0), .bool (false)]] : List (List Value)) = rw1291 at hs hW1290; clear hgrw1291
     replace hs : St _ _ _ (.row v1289 44 5 rw1291 :: .row v1281 21 1 rw1282 :: .blk b842 (.cells #[.pointer (some ⟨b844, 0, none⟩), v854] 71 (0, 0)) :: .blk b844 (.cells #[v1274, .int .i64 (y1278)] 94 (0, 0)) :: .row v1274 21 1 rw1275 :: .row v854 44 5 rw855 :: .blk b859 (.cells #[.int .i64 (y860.Kind), .string (y860.Name), .string (y860.Text), v1265, .bool (y860.Closed)] 44 (0, 0)) :: L) _ _ _ := hs
     have ho1294 : v1289.oneCell' = true := hs.one (i := 0) rfl
     refine uon hs ?_; clear hs; (try clear a w); intro a he
     refine T_any1 he rfl ?_; clear he; (try clear a); intro a w hs
     obtain ⟨x1295, hx1296, hm⟩ := ob hm
     obtain ⟨hbx1295, hex1295⟩ := appM_some hx1296
     have hW1299 := hW856.append hW1290; rw [hex1295] at hW1299
     refine RL_append (i := 5) hs rfl rfl rfl (Rd.st hs (.head _)) Try.underlying37 ti44 (by decide) (by rw [LQ.len _ hW856, hW1290.1]; exact hbx1295) (.free rfl) (by decide) ?_; clear hs; (try clear a w); intro v1297 a w hs
     generalize hgx1295 : rw855 ++ rw1291 = rw1298 at hs hW1299; clear hgx1295
     replace hs := hs.erase 0
     replace hs : St _ _ _ (.row v1281 21 1 rw1282 :: .blk b842 (.cells #[.pointer (some ⟨b844, 0, none⟩), v854] 71 (0, 0)) :: .blk b844 (.cells #[v1274, .int .i64 (y1278)] 94 (0, 0)) :: .row v1274 21 1 rw1275 :: .row v1297 44 5 rw1298 :: .blk b859 (.cells #[.int .i64 (y860.Kind), .string (y860.Name), .string (y860.Text), v1265, .bool (y860.Closed)] 44 (0, 0)) :: L) _ _ _ := hs
     have ho1301 : v1297.oneCell' = true := hs.one (i := 4) rfl
     refine uon hs ?_; clear hs; (try clear a w); intro a he
     refine uy 11 he rfl (y_nilCheck rfl) ?_; clear he; (try clear a); intro a he
     refine uy (v := .pointer (some ⟨b842, 1, none⟩)) 12 he rfl (y_fieldAddr rfl (FO.of (off := 1) Try.underlying71 rfl rfl ti37 (by decide))) ?_; clear he; (try clear a); intro a he
     refine T_any1 he rfl ?_; clear he; (try clear a); intro a w hs
     refine sstore 1 hs rfl rfl rfl ti37 ho1301 ?_; clear hs; (try clear a w); intro a w hs
     replace hs : St _ _ _ (.row v1281 21 1 rw1282 :: .blk b842 (.cells #[.pointer (some ⟨b844, 0, none⟩), v1297] 71 (0, 0)) :: .blk b844 (.cells #[v1274, .int .i64 (y1278)] 94 (0, 0)) :: .row v1274 21 1 rw1275 :: .row v1297 44 5 rw1298 :: .blk b859 (.cells #[.int .i64 (y860.Kind), .string (y860.Name), .string (y860.Text), v1265, .bool (y860.Closed)] 44 (0, 0)) :: L) _ _ _ := hs
     refine uend hs ?_; clear hs; (try clear a w); intro a he
     refine T_nil he ?_; clear he; (try clear a); intro w hs; try clear hsD
     refine hK17 _ _ ?_; clear hK17
     refine W_seq fun K18 hK18 => ?_
     refine W_goto ?_
     exact hG2.at_ 3 _ _ rfl ⟨k1264, Nat.lt_succ_self _, (.inl ⟨rfl, ⟨_, y1273, y1278, x1295, y860, b842, b844, v1274, rw1275, v1297, rw1298, b859, [.int .i64 (y860.Kind), .string (y860.Name), .string (y860.Text), v1265, .bool (y860.Closed)], hbase1195, hm, hW1276, hW1299, ⟨_, rfl, ⟨rw1266, hR1267, hW1268⟩⟩, hs.subs ⟨rfl, rfl, trivial⟩ (.cons _ (.cons_cons _ (.cons_cons _ (.cons_cons _ (.cons_cons _ (.cons_cons _ (.refl _)))))))⟩⟩)⟩
    ·refine W_block fun Qe19 hB19 hO19 => ?_
     have hbase := Fz.le.refl f839
     replace hs : St _ _ _ (.blk b842 (.cells #[.pointer (some ⟨b844, 0, none⟩), v854] 71 (0, 0)) :: .blk b844 (.cells #[v847, .int .i64 (y851)] 94 (0, 0)) :: .row v847 21 1 rw848 :: .row v854 44 5 rw855 :: .blk b859 (.cells #[.int .i64 (y860.Kind), .string (y860.Name), .string (y860.Text), v1265, .bool (y860.Closed)] 44 (0, 0)) :: L) _ _ _ := hs
     replace hs : St _ _ _ (.blk b842 (.cells #[.pointer (some ⟨b844, 0, none⟩), v854] 71 (0, 0)) :: .blk b844 (.cells #[v847, .int .i64 (y851)] 94 (0, 0)) :: .row v847 21 1 rw848 :: .row v854 44 5 rw855 :: .blk b859 (.cells #[.int .i64 (y860.Kind), .string (y860.Name), .string (y860.Text), v1265, .bool (y860.Closed)] 44 (0, 0)) :: L) _ _ _ := hs
     replace hs := hs.nilRow 21 1
     have hW1316 : RW (tInt .i32) f839 [] ([] : List Int) := trivial
     generalize hgrw1317 : ([] : List (List Value)) = rw1317 at hs hW1316; clear hgrw1317
     replace hs : St _ _ _ (.row (.slice none 0 0) 21 1 rw1317 :: .blk b842 (.cells #[.pointer (some ⟨b844, 0, none⟩), v854] 71 (0, 0)) :: .blk b844 (.cells #[v847, .int .i64 (y851)] 94 (0, 0)) :: .row v847 21 1 rw848 :: .row v854 44 5 rw855 :: .blk b859 (.cells #[.int .i64 (y860.Kind), .string (y860.Name), .string (y860.Text), v1265, .bool (y860.Closed)] 44 (0, 0)) :: L) _ _ _ := hs
     refine W_loop (fun (k : Nat) a w => ∃ (f1302 : Fz) (y1304 : (List Int)) (y1309 : Int) (y1311 : (List Int)) (v1305 : Value) (rw1306 : List (List Value)) (v1312 : Value) (rw1313 : List (List Value)), Fz.le f839 f1302 ∧ mark_Tokens_l4 n y853 y860 (mark_Tokens_g1_3 n k1264) k y1304 y1309 y1311 = some res ∧ RW (tInt .i32) f1302 rw1306 y1304 ∧ RW (tInt .i32) f1302 rw1313 y1311 ∧ St 155 w0 f1302 (.row v1312 21 1 rw1313 :: .blk b842 (.cells #[.pointer (some ⟨b844, 0, none⟩), v854] 71 (0, 0)) :: .blk b844 (.cells #[v1305, .int .i64 (y1309)] 94 (0, 0)) :: .row v1305 21 1 rw1306 :: .row v854 44 5 rw855 :: .blk b859 (.cells #[.int .i64 (y860.Kind), .string (y860.Name), .string (y860.Text), v1265, .bool (y860.Closed)] 44 (0, 0)) :: L) [(3, .pointer (some ⟨b842, 0, none⟩)), (4, .pointer (some ⟨b859, 0, none⟩)), (6, v1312)] a w) (fun k => k) n ⟨_, y846, y851, ([] : List Int), v847, rw848, (.slice none 0 0), rw1317, (Fz.le.refl _), hm, hW849, hW1316, hs.sub ⟨rfl, rfl, rfl, trivial⟩⟩ ?_
     clear hs hm
     intro k
     rintro a w ⟨f1302, y1304, y1309, y1311, v1305, rw1306, v1312, rw1313, hl1303, hm, hW1307, hW1314, hs⟩
     replace hR2 := hR2.le hl1303
     replace hW3 := hW3.le hl1303
     replace hW849 := hW849.le hl1303
     replace hW856 := hW856.le hl1303
     replace hR1267 := hR1267.le hl1303
     replace hW1268 := hW1268.le hl1303
     replace hle := hle.trans hl1303
     replace hbase1195 := hbase1195.trans hl1303
     replace hbase1285 := hbase1285.trans hl1303
     replace hs : St _ _ _ (.row v1312 21 1 rw1313 :: .blk b842 (.cells #[.pointer (some ⟨b844, 0, none⟩), v854] 71 (0, 0)) :: .blk b844 (.cells #[v1305, .int .i64 (y1309)] 94 (0, 0)) :: .row v1305 21 1 rw1306 :: .row v854 44 5 rw855 :: .blk b859 (.cells #[.int .i64 (y860.Kind), .string (y860.Name), .string (y860.Text), v1265, .bool (y860.Closed)] 44 (0, 0)) :: L) _ _ _ := hs
     intro K20 hK20
     cases k with
     | zero => simp [mark_Tokens_l4] at hm
     | succ k1320 =>
      rw [mark_Tokens_l4] at hm
      have hbase1321 := hl1303
      refine W_seq fun K21 hK21 => ?_
      refine W_seq fun K22 hK22 => ?_
      refine W_post (fun a w => ∃ (y1322 : Bool), mark_Tokens_k5 n y853 y860 (mark_Tokens_g1_3 n k1264) y1304 y1309 y1311 (mark_Tokens_l4 n y853 y860 (mark_Tokens_g1_3 n k1264) k1320) y1322 = some res ∧ St 155 w0 f1302 (.row v1312 21 1 rw1313 :: .blk b842 (.cells #[.pointer (some ⟨b844, 0, none⟩), v854] 71 (0, 0)) :: .blk b844 (.cells #[v1305, .int .i64 (y1309)] 94 (0, 0)) :: .row v1305 21 1 rw1306 :: .row v854 44 5 rw855 :: .blk b859 (.cells #[.int .i64 (y860.Kind), .string (y860.Name), .string (y860.Text), v1265, .bool (y860.Closed)] 44 (0, 0)) :: L) [(3, .pointer (some ⟨b842, 0, none⟩)), (4, .pointer (some ⟨b859, 0, none⟩)), (6, v1312), (60, .bool (y1322))] a w) ?_ ?_
      ·clear hs hm
       rintro a w ⟨y1322, hm, hs⟩
       replace hs : St _ _ _ (.row v1312 21 1 rw1313 :: .blk b842 (.cells #[.pointer (some ⟨b844, 0, none⟩), v854] 71 (0, 0)) :: .blk b844 (.cells #[v1305, .int .i64 (y1309)] 94 (0, 0)) :: .row v1305 21 1 rw1306 :: .row v854 44 5 rw855 :: .blk b859 (.cells #[.int .i64 (y860.Kind), .string (y860.Name), .string (y860.Text), v1265, .bool (y860.Closed)] 44 (0, 0)) :: L) _ _ _ := hs
       unfold mark_Tokens_k5 at hm
       refine hK22 _ _ ?_; clear hK22
       refine W_cond hs rfl (fun hg1323 => ?_) (fun hg1323 => ?_)
       ·replace hm := oc_t hg1323 hm
        refine W_skip ?_
        refine hK21 _ _ ?_; clear hK21
        refine W_block fun Qe23 hB23 hO23 => ?_
        refine W_seq fun K24 hK24 => ?_
        refine W_region ?_
        refine sy (v := .pointer (some ⟨b842, 0, none⟩)) hs (y_move rfl) ?_; clear hs; (try clear a w); intro a w hs
        refine sy hs (y_nilCheck rfl) ?_; clear hs; (try clear a w); intro a w hs
        refine sy (v := .pointer (some ⟨b842, 0, none⟩)) hs (y_fieldAddr rfl (FO.of (off := 0) Try.underlying71 rfl rfl ti68 (by decide))) ?_; clear hs; (try clear a w); intro a w hs
        refine sy (v := .pointer (some ⟨b844, 0, none⟩)) hs (y_ld rfl Try.underlying68 rfl (Cell.blk (.tail _ (.head _)) rfl)) ?_; clear hs; (try clear a w); intro a w hs
        obtain ⟨x1324, hx1325, hm⟩ := ob hm
        replace hs := hs.front 3
        replace hs := hs.front 3
        replace hs : St _ _ _ (.blk b844 (.cells #[v1305, .int .i64 (y1309)] 94 (0, 0)) :: .row v1305 21 1 rw1306 :: .row v1312 21 1 rw1313 :: .blk b842 (.cells #[.pointer (some ⟨b844, 0, none⟩), v854] 71 (0, 0)) :: .row v854 44 5 rw855 :: .blk b859 (.cells #[.int .i64 (y860.Kind), .string (y860.Name), .string (y860.Text), v1265, .bool (y860.Closed)] 44 (0, 0)) :: L) _ _ _ := hs
        refine RL_call (Lr := [.blk b844 (.cells #[v1305, .int .i64 (y1309)] 94 (0, 0)), .row v1305 21 1 rw1306]) (Lf := .row v1312 21 1 rw1313 :: .blk b842 (.cells #[.pointer (some ⟨b844, 0, none⟩), v854] 71 (0, 0)) :: .row v854 44 5 rw855 :: .blk b859 (.cells #[.int .i64 (y860.Kind), .string (y860.Name), .string (y860.Text), v1265, .bool (y860.Closed)] 44 (0, 0)) :: L) hs rfl has47 rfl rfl (source_Cursor_rune_Next_ok n (f := f1302) (p0 := ({l := y1304, at_ := y1309} : source_Cursor_rune_)) (pb0 := b844) (pv0_0 := v1305) (pv0_0r := rw1306) hW1307 hx1325) (.free rfl) (by decide) ?_; clear hs; (try clear a w)
        rintro _ f1326 _ a w hf1327 ⟨v1328, rw1329, rfl, rfl, hW1330⟩ hs
        replace hR2 := hR2.le hf1327
        replace hW3 := hW3.le hf1327
        replace hW849 := hW849.le hf1327
        replace hW856 := hW856.le hf1327
        replace hR1267 := hR1267.le hf1327
        replace hW1268 := hW1268.le hf1327
        replace hW1307 := hW1307.le hf1327
        replace hW1314 := hW1314.le hf1327
        replace hle := hle.trans hf1327
        replace hbase1195 := hbase1195.trans hf1327
        replace hbase1285 := hbase1285.trans hf1327
        replace hbase1321 := hbase1321.trans hf1327
        replace hs : St _ _ _ (.blk b844 (.cells #[v1328, .int .i64 (x1324.2.2.at_)] 94 (0, 0)) :: .row v1328 21 1 rw1329 :: .row v1312 21 1 rw1313 :: .blk b842 (.cells #[.pointer (some ⟨b844, 0, none⟩), v854] 71 (0, 0)) :: .row v854 44 5 rw855 :: .blk b859 (.cells #[.int .i64 (y860.Kind), .string (y860.Name), .string (y860.Text), v1265, .bool (y860.Closed)] 44 (0, 0)) :: L) _ _ _ := hs
        refine sy (v := .tuple #[.int .i32 (x1324.1), .bool (x1324.2.1)]) hs (y_move rfl) ?_; clear hs; (try clear a w); intro a w hs
        refine sy (v := .int .i32 (x1324.1)) hs (y_extract rfl rfl) ?_; clear hs; (try clear a w); intro a w hs
        refine sy (v := .bool (x1324.2.1)) hs (y_extract rfl rfl) ?_; clear hs; (try clear a w); intro a w hs
        refine sy (v := .int .i32 (x1324.1)) hs (y_assign rfl) ?_; clear hs; (try clear a w); intro a w hs
        refine sy (v := .bool (x1324.2.1)) hs (y_assign rfl) ?_; clear hs; (try clear a w); intro a w hs
        refine RL_nil ?_
        refine hK24 _ _ ?_; clear hK24
        refine W_region ?_
        refine sy (v := v1312) hs (y_move rfl) ?_; clear hs; (try clear a w); intro a w hs
        refine sy (v := .int .i32 (x1324.1)) hs (y_move rfl) ?_; clear hs; (try clear a w); intro a w hs
        refine RL_bs1s hs rfl Try.underlying32 ti21 rfl rfl ?_; clear hs; (try clear a w); intro v1332 a w hs
        have hW1333 : RW (tInt .i32) f1326 [[.int .i32 (x1324.1)]] [x1324.1] := RW.single (rfl)
        generalize hgrw1334 : ([[.int .i32 (x1324.1)]] : List (List Value)) = rw1334 at hs hW1333; clear hgrw1334
        replace hs : St _ _ _ (.row v1332 21 1 rw1334 :: .blk b844 (.cells #[v1328, .int .i64 (x1324.2.2.at_)] 94 (0, 0)) :: .row v1328 21 1 rw1329 :: .row v1312 21 1 rw1313 :: .blk b842 (.cells #[.pointer (some ⟨b844, 0, none⟩), v854] 71 (0, 0)) :: .row v854 44 5 rw855 :: .blk b859 (.cells #[.int .i64 (y860.Kind), .string (y860.Name), .string (y860.Text), v1265, .bool (y860.Closed)] 44 (0, 0)) :: L) _ _ _ := hs
        obtain ⟨x1337, hx1338, hm⟩ := ob hm
        obtain ⟨hbx1337, hex1337⟩ := appM_some hx1338
        have hW1341 := hW1314.append hW1333; rw [hex1337] at hW1341
        refine RL_append (i := 3) hs rfl rfl rfl (Rd.st hs (.head _)) Try.underlying32 ti21 (by decide) (by rw [RW.len hW1314, RW.len hW1333]; exact hbx1337) (.free rfl) (by decide) ?_; clear hs; (try clear a w); intro v1339 a w hs
        generalize hgx1337 : rw1313 ++ rw1334 = rw1340 at hs hW1341; clear hgx1337
        replace hs := hs.erase 0
        replace hs : St _ _ _ (.blk b844 (.cells #[v1328, .int .i64 (x1324.2.2.at_)] 94 (0, 0)) :: .row v1328 21 1 rw1329 :: .row v1339 21 1 rw1340 :: .blk b842 (.cells #[.pointer (some ⟨b844, 0, none⟩), v854] 71 (0, 0)) :: .row v854 44 5 rw855 :: .blk b859 (.cells #[.int .i64 (y860.Kind), .string (y860.Name), .string (y860.Text), v1265, .bool (y860.Closed)] 44 (0, 0)) :: L) _ _ _ := hs
        refine sy (v := v1339) hs (y_assign rfl) ?_; clear hs; (try clear a w); intro a w hs
        refine RL_nil ?_
        replace hs : St _ _ _ (.blk b844 (.cells #[v1328, .int .i64 (x1324.2.2.at_)] 94 (0, 0)) :: .row v1328 21 1 rw1329 :: .row v1339 21 1 rw1340 :: .blk b842 (.cells #[.pointer (some ⟨b844, 0, none⟩), v854] 71 (0, 0)) :: .row v854 44 5 rw855 :: .blk b859 (.cells #[.int .i64 (y860.Kind), .string (y860.Name), .string (y860.Text), v1265, .bool (y860.Closed)] 44 (0, 0)) :: L) _ _ _ := hs
        replace hs : St _ _ _ (.blk b844 (.cells #[v1328, .int .i64 (x1324.2.2.at_)] 94 (0, 0)) :: .row v1328 21 1 rw1329 :: .row v1339 21 1 rw1340 :: .blk b842 (.cells #[.pointer (some ⟨b844, 0, none⟩), v854] 71 (0, 0)) :: .row v854 44 5 rw855 :: .blk b859 (.cells #[.int .i64 (y860.Kind), .string (y860.Name), .string (y860.Text), v1265, .bool (y860.Closed)] 44 (0, 0)) :: L) _ _ _ := hs
        replace hs := hs.front 5
        replace hs := hs.front 5
        replace hs := hs.front 3
        replace hs := hs.front 3
        replace hs := hs.front 5
        replace hs := hs.front 5
        replace hs : St _ _ _ (.row v1339 21 1 rw1340 :: .blk b842 (.cells #[.pointer (some ⟨b844, 0, none⟩), v854] 71 (0, 0)) :: .blk b844 (.cells #[v1328, .int .i64 (x1324.2.2.at_)] 94 (0, 0)) :: .row v1328 21 1 rw1329 :: .row v854 44 5 rw855 :: .blk b859 (.cells #[.int .i64 (y860.Kind), .string (y860.Name), .string (y860.Text), v1265, .bool (y860.Closed)] 44 (0, 0)) :: L) _ _ _ := hs
        exact hK20 k1320 _ _ (Nat.lt_succ_self _) ⟨_, x1324.2.2.l, x1324.2.2.at_, x1337, v1328, rw1329, v1339, rw1340, hbase1321, hm, hW1330, hW1341, hs.sub ⟨rfl, rfl, rfl, trivial⟩⟩
       ·replace hm := oc_f hg1323 hm
        refine W_exit ?_
        refine hB19 _ _ ?_
        replace hs : St _ _ _ (.row v1312 21 1 rw1313 :: .blk b842 (.cells #[.pointer (some ⟨b844, 0, none⟩), v854] 71 (0, 0)) :: .blk b844 (.cells #[v1305, .int .i64 (y1309)] 94 (0, 0)) :: .row v1305 21 1 rw1306 :: .row v854 44 5 rw855 :: .blk b859 (.cells #[.int .i64 (y860.Kind), .string (y860.Name), .string (y860.Text), v1265, .bool (y860.Closed)] 44 (0, 0)) :: L) _ _ _ := hs
        replace hs : St _ _ _ (.row v1312 21 1 rw1313 :: .blk b842 (.cells #[.pointer (some ⟨b844, 0, none⟩), v854] 71 (0, 0)) :: .blk b844 (.cells #[v1305, .int .i64 (y1309)] 94 (0, 0)) :: .row v1305 21 1 rw1306 :: .row v854 44 5 rw855 :: .blk b859 (.cells #[.int .i64 (y860.Kind), .string (y860.Name), .string (y860.Text), v1265, .bool (y860.Closed)] 44 (0, 0)) :: L) _ _ _ := hs
        exact ⟨_, y1304, y1309, y1311, v1305, rw1306, v1312, rw1313, hbase1285, hm, hW1307, hW1314, hs.sub ⟨rfl, rfl, rfl, trivial⟩⟩
      ·refine W_region ?_
       refine sy (v := .pointer (some ⟨b842, 0, none⟩)) hs (y_move rfl) ?_; clear hs; (try clear a w); intro a w hs
       refine sy hs (y_nilCheck rfl) ?_; clear hs; (try clear a w); intro a w hs
       refine sy (v := .pointer (some ⟨b842, 0, none⟩)) hs (y_fieldAddr rfl (FO.of (off := 0) Try.underlying71 rfl rfl ti68 (by decide))) ?_; clear hs; (try clear a w); intro a w hs
       refine sy (v := .pointer (some ⟨b844, 0, none⟩)) hs (y_ld rfl Try.underlying68 rfl (Cell.blk (.tail _ (.head _)) rfl)) ?_; clear hs; (try clear a w); intro a w hs
       obtain ⟨x1343, hx1344, hm⟩ := ob hm
       refine sy hs (y_callR (cap := []) (Lf := .row v1312 21 1 rw1313 :: .blk b842 (.cells #[.pointer (some ⟨b844, 0, none⟩), v854] 71 (0, 0)) :: .row v854 44 5 rw855 :: .blk b859 (.cells #[.int .i64 (y860.Kind), .string (y860.Name), .string (y860.Text), v1265, .bool (y860.Closed)] 44 (0, 0)) :: L) rfl has40 rfl ((perm_at _ 3 rfl).trans (perm_at _ 3 rfl)) (source_Cursor_rune_Left_ok n (f := f1302) (p0 := ({l := y1304, at_ := y1309} : source_Cursor_rune_)) (pb0 := b844) (pv0_0 := v1305) (pv0_0r := rw1306) hW1307 hx1344)) ?_; clear hs; (try clear a w); intro a w hs
       refine sy hs (y_gtr rfl rfl) ?_; clear hs; (try clear a w); intro a w hs
       refine sy (v := .bool (decide (0 < x1343))) hs (y_move rfl) ?_; clear hs; (try clear a w); intro a w hs
       refine St.split hs (t := 56) rfl (fun hg1345 hq => ?_) (fun hg1345 hq => ?_)
       ·clear hs; have hs := hq; clear hq
        replace hm := oc_t hg1345 hm
        refine syg (v := .pointer (some ⟨b842, 0, none⟩)) hs (y_move rfl) ?_; clear hs; (try clear a w); intro a w hs
        obtain ⟨x1346, hx1347, hm⟩ := ob hm
        refine syg hs (y_callR (cap := []) (Lf := .row v1312 21 1 rw1313 :: .blk b859 (.cells #[.int .i64 (y860.Kind), .string (y860.Name), .string (y860.Text), v1265, .bool (y860.Closed)] 44 (0, 0)) :: L) rfl has41 rfl ((((perm_at _ 4 rfl).trans (perm_at _ 4 rfl)).trans (perm_at _ 4 rfl)).trans (perm_at _ 4 rfl)) (mark_cutter_begins_ok n (f := f1302) (p0 := ({c := ({l := y1304, at_ := y1309} : source_Cursor_rune_), out := y853} : mark_cutter)) (pb0 := b842) (pv0_0 := b844) (pv0_1 := v1305) (pv0_1r := rw1306) (pv0_2 := v854) (pv0_2r := rw855) hW1307 hW856 hx1347)) ?_; clear hs; (try clear a w); intro a w hs
        refine syg (v := .bool ((!x1346))) hs (y_not rfl) ?_; clear hs; (try clear a w); intro a w hs
        refine sy (v := .bool ((!x1346))) hs (y_pick rfl rfl) ?_; clear hs; (try clear a w); intro a w hs
        refine RL_nil ?_
        replace hs : St _ _ _ (.row v1312 21 1 rw1313 :: .blk b842 (.cells #[.pointer (some ⟨b844, 0, none⟩), v854] 71 (0, 0)) :: .blk b844 (.cells #[v1305, .int .i64 (y1309)] 94 (0, 0)) :: .row v1305 21 1 rw1306 :: .row v854 44 5 rw855 :: .blk b859 (.cells #[.int .i64 (y860.Kind), .string (y860.Name), .string (y860.Text), v1265, .bool (y860.Closed)] 44 (0, 0)) :: L) _ _ _ := hs
        replace hs : St _ _ _ (.row v1312 21 1 rw1313 :: .blk b842 (.cells #[.pointer (some ⟨b844, 0, none⟩), v854] 71 (0, 0)) :: .blk b844 (.cells #[v1305, .int .i64 (y1309)] 94 (0, 0)) :: .row v1305 21 1 rw1306 :: .row v854 44 5 rw855 :: .blk b859 (.cells #[.int .i64 (y860.Kind), .string (y860.Name), .string (y860.Text), v1265, .bool (y860.Closed)] 44 (0, 0)) :: L) _ _ _ := hs
        exact ⟨(!x1346), hm, hs.sub ⟨rfl, rfl, rfl, rfl, trivial⟩⟩
       ·clear hs; have hs := hq; clear hq
        replace hm := oc_f hg1345 hm
        refine sno hs ?_; clear hs; (try clear a w); intro a w hs
        refine sno hs ?_; clear hs; (try clear a w); intro a w hs
        refine sno hs ?_; clear hs; (try clear a w); intro a w hs
        refine sy (v := .bool (false)) hs (y_pick rfl rfl) ?_; clear hs; (try clear a w); intro a w hs
        refine RL_nil ?_
        replace hs : St _ _ _ (.row v1312 21 1 rw1313 :: .blk b842 (.cells #[.pointer (some ⟨b844, 0, none⟩), v854] 71 (0, 0)) :: .blk b844 (.cells #[v1305, .int .i64 (y1309)] 94 (0, 0)) :: .row v1305 21 1 rw1306 :: .row v854 44 5 rw855 :: .blk b859 (.cells #[.int .i64 (y860.Kind), .string (y860.Name), .string (y860.Text), v1265, .bool (y860.Closed)] 44 (0, 0)) :: L) _ _ _ := hs
        replace hs : St _ _ _ (.row v1312 21 1 rw1313 :: .blk b842 (.cells #[.pointer (some ⟨b844, 0, none⟩), v854] 71 (0, 0)) :: .blk b844 (.cells #[v1305, .int .i64 (y1309)] 94 (0, 0)) :: .row v1305 21 1 rw1306 :: .row v854 44 5 rw855 :: .blk b859 (.cells #[.int .i64 (y860.Kind), .string (y860.Name), .string (y860.Text), v1265, .bool (y860.Closed)] 44 (0, 0)) :: L) _ _ _ := hs
        exact ⟨false, hm, hs.sub ⟨rfl, rfl, rfl, rfl, trivial⟩⟩
  ·cases hl; revert a w
   rintro a w ⟨f863, y870, y875, y877, y884, b866, b868, v871, rw872, v878, rw879, b883, r885, hl864, hm, hW873, hW880, hq886, hs⟩
   replace hR2 := hR2.le hl864
   replace hW3 := hW3.le hl864
   replace hle := hle.trans hl864
   obtain ⟨v1349, rfl, ⟨rw1350, hR1351, hW1352⟩⟩ := hq886
   replace hs : St _ _ _ (.blk b866 (.cells #[.pointer (some ⟨b868, 0, none⟩), v878] 71 (0, 0)) :: .blk b868 (.cells #[v871, .int .i64 (y875)] 94 (0, 0)) :: .row v871 21 1 rw872 :: .row v878 44 5 rw879 :: .blk b883 (.cells #[.int .i64 (y884.Kind), .string (y884.Name), .string (y884.Text), v1349, .bool (y884.Closed)] 44 (0, 0)) :: L) _ _ _ := hs
   have hbase1195 := hl864
   cases k with
   | zero => simp [mark_Tokens_g1_1] at hm
   | succ k1348 =>
    rw [mark_Tokens_g1_1] at hm
    refine W_seq fun K25 hK25 => ?_
    refine W_region ?_
    refine sy (v := .pointer (some ⟨b866, 0, none⟩)) hs (y_move rfl) ?_; clear hs; (try clear a w); intro a w hs
    refine sy hs (y_nilCheck rfl) ?_; clear hs; (try clear a w); intro a w hs
    refine sy (v := .pointer (some ⟨b866, 0, none⟩)) hs (y_fieldAddr rfl (FO.of (off := 0) Try.underlying71 rfl rfl ti68 (by decide))) ?_; clear hs; (try clear a w); intro a w hs
    refine sy (v := .pointer (some ⟨b868, 0, none⟩)) hs (y_ld rfl Try.underlying68 rfl (Cell.blk (.head _) rfl)) ?_; clear hs; (try clear a w); intro a w hs
    obtain ⟨x1354, hx1355, hm⟩ := ob hm
    replace hs := hs.front 2
    replace hs := hs.front 2
    replace hs : St _ _ _ (.blk b868 (.cells #[v871, .int .i64 (y875)] 94 (0, 0)) :: .row v871 21 1 rw872 :: .blk b866 (.cells #[.pointer (some ⟨b868, 0, none⟩), v878] 71 (0, 0)) :: .row v878 44 5 rw879 :: .blk b883 (.cells #[.int .i64 (y884.Kind), .string (y884.Name), .string (y884.Text), v1349, .bool (y884.Closed)] 44 (0, 0)) :: L) _ _ _ := hs
    refine RL_call (Lr := [.blk b868 (.cells #[v871, .int .i64 (y875)] 94 (0, 0)), .row v871 21 1 rw872]) (Lf := .blk b866 (.cells #[.pointer (some ⟨b868, 0, none⟩), v878] 71 (0, 0)) :: .row v878 44 5 rw879 :: .blk b883 (.cells #[.int .i64 (y884.Kind), .string (y884.Name), .string (y884.Text), v1349, .bool (y884.Closed)] 44 (0, 0)) :: L) hs rfl has47 rfl rfl (source_Cursor_rune_Next_ok n (f := f863) (p0 := ({l := y870, at_ := y875} : source_Cursor_rune_)) (pb0 := b868) (pv0_0 := v871) (pv0_0r := rw872) hW873 hx1355) (.free rfl) (by decide) ?_; clear hs; (try clear a w)
    rintro _ f1356 _ a w hf1357 ⟨v1358, rw1359, rfl, rfl, hW1360⟩ hs
    replace hR2 := hR2.le hf1357
    replace hW3 := hW3.le hf1357
    replace hW873 := hW873.le hf1357
    replace hW880 := hW880.le hf1357
    replace hR1351 := hR1351.le hf1357
    replace hW1352 := hW1352.le hf1357
    replace hle := hle.trans hf1357
    replace hbase1195 := hbase1195.trans hf1357
    replace hs : St _ _ _ (.blk b868 (.cells #[v1358, .int .i64 (x1354.2.2.at_)] 94 (0, 0)) :: .row v1358 21 1 rw1359 :: .blk b866 (.cells #[.pointer (some ⟨b868, 0, none⟩), v878] 71 (0, 0)) :: .row v878 44 5 rw879 :: .blk b883 (.cells #[.int .i64 (y884.Kind), .string (y884.Name), .string (y884.Text), v1349, .bool (y884.Closed)] 44 (0, 0)) :: L) _ _ _ := hs
    refine RL_nil ?_
    refine hK25 _ _ ?_; clear hK25
    refine W_seq fun K26 hK26 => ?_
    refine W_region ?_
    refine sy (v := .pointer (some ⟨b866, 0, none⟩)) hs (y_move rfl) ?_; clear hs; (try clear a w); intro a w hs
    obtain ⟨x1362, hx1363, hm⟩ := ob hm
    replace hs := hs.front 3
    replace hs := hs.front 2
    replace hs := hs.front 2
    replace hs := hs.front 3
    replace hs : St _ _ _ (.blk b866 (.cells #[.pointer (some ⟨b868, 0, none⟩), v878] 71 (0, 0)) :: .blk b868 (.cells #[v1358, .int .i64 (x1354.2.2.at_)] 94 (0, 0)) :: .row v1358 21 1 rw1359 :: .row v878 44 5 rw879 :: .blk b883 (.cells #[.int .i64 (y884.Kind), .string (y884.Name), .string (y884.Text), v1349, .bool (y884.Closed)] 44 (0, 0)) :: L) _ _ _ := hs
    refine RL_call (Lr := [.blk b866 (.cells #[.pointer (some ⟨b868, 0, none⟩), v878] 71 (0, 0)), .blk b868 (.cells #[v1358, .int .i64 (x1354.2.2.at_)] 94 (0, 0)), .row v1358 21 1 rw1359, .row v878 44 5 rw879]) (Lf := .blk b883 (.cells #[.int .i64 (y884.Kind), .string (y884.Name), .string (y884.Text), v1349, .bool (y884.Closed)] 44 (0, 0)) :: L) hs rfl has48 rfl rfl (mark_cutter_tag_ok n (Q := (LQ.own f).at f1356) (f := f1356) (p0 := ({c := x1354.2.2, out := y877} : mark_cutter)) (pb0 := b866) (pv0_0 := b868) (pv0_1 := v1358) (pv0_1r := rw1359) (pv0_2 := v878) (pv0_2r := rw879) (p1 := 2) hW1360 hW880.here hx1363) (.free rfl) (by decide) ?_; clear hs; (try clear a w)
    have hle1376 := hle
    rintro _ f1364 _ a w hf1365 ⟨r1366, v1368, rw1369, v1371, rw1372, rfl, rfl, hq1367, hW1370, hW1373⟩ hs
    replace hR2 := hR2.le hf1365
    replace hW3 := hW3.le hf1365
    replace hW873 := hW873.le hf1365
    replace hW880 := hW880.le hf1365
    replace hR1351 := hR1351.le hf1365
    replace hW1352 := hW1352.le hf1365
    replace hW1360 := hW1360.le hf1365
    replace hle := hle.trans hf1365
    replace hbase1195 := hbase1195.trans hf1365
    obtain ⟨v1374, rfl, ⟨rw1375, hR1376, hW1377⟩, hO1376⟩ := hq1367
    replace hs : St _ _ _ (.blk b866 (.cells #[.pointer (some ⟨b868, 0, none⟩), v1371] 71 (0, 0)) :: .blk b868 (.cells #[v1368, .int .i64 (x1362.2.2.c.at_)] 94 (0, 0)) :: .row v1368 21 1 rw1369 :: .row v1371 44 5 rw1372 :: .blk b883 (.cells #[.int .i64 (y884.Kind), .string (y884.Name), .string (y884.Text), v1349, .bool (y884.Closed)] 44 (0, 0)) :: L) _ _ _ := hs
    refine sy (v := .tuple #[.agg #[.int .i64 (x1362.1.Kind), .string (x1362.1.Name), .string (x1362.1.Text), v1374, .bool (x1362.1.Closed)], .bool (x1362.2.1)]) hs (y_move rfl) ?_; clear hs; (try clear a w); intro a w hs
    refine sy (v := .agg #[.int .i64 (x1362.1.Kind), .string (x1362.1.Name), .string (x1362.1.Text), v1374, .bool (x1362.1.Closed)]) hs (y_extract rfl rfl) ?_; clear hs; (try clear a w); intro a w hs
    refine sy (v := .bool (x1362.2.1)) hs (y_extract rfl rfl) ?_; clear hs; (try clear a w); intro a w hs
    refine RL_storeAll (i := 4) hs rfl rfl rfl ti44 ⟨rfl, rfl⟩ (AllC.arr (r := [.int .i64 (x1362.1.Kind), .string (x1362.1.Name), .string (x1362.1.Text), v1374, .bool (x1362.1.Closed)]) ⟨rfl, rfl, rfl, hR1376.one, rfl, trivial⟩) (.free rfl) ?_; clear hs; (try clear a w); intro a w hs
    replace hs : St _ _ _ (.blk b866 (.cells #[.pointer (some ⟨b868, 0, none⟩), v1371] 71 (0, 0)) :: .blk b868 (.cells #[v1368, .int .i64 (x1362.2.2.c.at_)] 94 (0, 0)) :: .row v1368 21 1 rw1369 :: .row v1371 44 5 rw1372 :: .blk b883 (.cells #[.int .i64 (x1362.1.Kind), .string (x1362.1.Name), .string (x1362.1.Text), v1374, .bool (x1362.1.Closed)] 44 (0, 0)) :: L) _ _ _ := hs
    refine sy (v := .bool (x1362.2.1)) hs (y_assign rfl) ?_; clear hs; (try clear a w); intro a w hs
    refine RL_nil ?_
    refine hK26 _ _ ?_; clear hK26
    refine W_seq fun K27 hK27 => ?_
    refine W_seq fun K28 hK28 => ?_
    refine W_region ?_
    refine sy (v := .bool (x1362.2.1)) hs (y_move rfl) ?_; clear hs; (try clear a w); intro a w hs
    refine sy (v := .bool ((!x1362.2.1))) hs (y_not rfl) ?_; clear hs; (try clear a w); intro a w hs
    refine RL_nil ?_
    refine hK28 _ _ ?_; clear hK28
    refine W_cond hs rfl (fun hg1381 => ?_) (fun hg1381 => ?_)
    ·replace hm := oc_t hg1381 hm
     refine W_seq fun K29 hK29 => ?_
     refine W_region ?_
     refine sy (v := .pointer (some ⟨b866, 0, none⟩)) hs (y_move rfl) ?_; clear hs; (try clear a w); intro a w hs
     refine sy hs (y_nilCheck rfl) ?_; clear hs; (try clear a w); intro a w hs
     refine sy (v := .pointer (some ⟨b866, 1, none⟩)) hs (y_fieldAddr rfl (FO.of (off := 1) Try.underlying71 rfl rfl ti37 (by decide))) ?_; clear hs; (try clear a w); intro a w hs
     refine sy (v := v1371) hs (y_ld rfl Try.underlying37 rfl (Cell.blk (.head _) rfl)) ?_; clear hs; (try clear a w); intro a w hs
     refine sy (v := v1371) hs (y_assign rfl) ?_; clear hs; (try clear a w); intro a w hs
     refine RL_nil ?_
     refine hK29 _ _ ?_; clear hK29
     refine W_ret ?_
     obtain rfl := Option.some.inj hm
     refine RtV1 hs rfl (rv_t hs rfl) ?_
     exact ⟨_, _, [.row v1371 44 5 rw1372], rfl, hle, (hs.subL (.cons _ (.cons _ (.cons _ (.cons_cons _ (.cons _ (.refl _))))))).cw, rw1372, rfl, hW1373.1⟩
    ·replace hm := oc_f hg1381 hm
     refine W_skip ?_
     refine hK27 _ _ ?_; clear hK27
     refine W_seq fun K30 hK30 => ?_
     have hsD := hs.subL (L' := .blk b866 (.cells #[.pointer (some ⟨b868, 0, none⟩), v1371] 71 (0, 0)) :: .blk b883 (.cells #[.int .i64 (x1362.1.Kind), .string (x1362.1.Name), .string (x1362.1.Text), v1374, .bool (x1362.1.Closed)] 44 (0, 0)) :: []) (.cons_cons _ (.cons _ (.cons _ (.cons _ (.cons_cons _ (List.nil_sublist _))))))
     refine T_start hs (.blk b866 (.cells #[.pointer (some ⟨b868, 0, none⟩), v1371] 71 (0, 0)) :: .blk b883 (.cells #[.int .i64 (x1362.1.Kind), .string (x1362.1.Name), .string (x1362.1.Text), v1374, .bool (x1362.1.Closed)] 44 (0, 0)) :: []) [10] (.look 0 (.look 1 (.look 2 (.look 3 (.look 4 (.look 5 (.any [6] (fun _ => .any [7] (fun _ => .look 8 (.look 9 (.any [10] (fun _ => .done)))))))))))) mixed (by kernel_rfl) ?_; clear hs; (try clear a w); intro a he
     refine uy (v := .pointer (some ⟨b866, 0, none⟩)) 0 he rfl (y_move rfl) ?_; clear he; (try clear a); intro a he
     refine uy (v := .pointer (some ⟨b866, 0, none⟩)) 1 he rfl (y_move rfl) ?_; clear he; (try clear a); intro a he
     refine uy 2 he rfl (y_nilCheck rfl) ?_; clear he; (try clear a); intro a he
     refine uy (v := .pointer (some ⟨b866, 1, none⟩)) 3 he rfl (y_fieldAddr rfl (FO.of (off := 1) Try.underlying71 rfl rfl ti37 (by decide))) ?_; clear he; (try clear a); intro a he
     refine uy (v := v1371) 4 he rfl (y_ld rfl Try.underlying37 rfl (Cell.blk (.head _) rfl)) ?_; clear he; (try clear a); intro a he
     refine uy 5 he rfl (y_ldB rfl Try.underlying44 rfl ti44 (.tail _ (.head _)) rfl) ?_; clear he; (try clear a); intro a he
     refine T_any1 he rfl ?_; clear he; (try clear a); intro a w hs
     refine RL_bs1a hs rfl Try.underlying37 ti44 (by decide) (AllC.row ⟨rfl, rfl, rfl, hR1376.one, rfl, trivial⟩ rfl) ?_; clear hs; (try clear a w); intro v1385 a w hs
     have hW1386 : LQ.Add ((LQ.own f).at f1356) (LQ.own f) f1364 [[.int .i64 (x1362.1.Kind), .string (x1362.1.Name), .string (x1362.1.Text), v1374, .bool (x1362.1.Closed)]] [x1362.1] := LQ.addO ⟨_, rfl, ⟨rw1375, hR1376, hW1377⟩, hO1376⟩ hle1376
     generalize hgrw1387 : ([[.int .i64 (x1362.1.Kind), .string (x1362.1.Name), .string (x1362.1.Text), v1374, .bool (x1362.1.Closed)]] : List (List Value)) = rw1387 at hs hW1386; clear hgrw1387
     replace hs : St _ _ _ (.row v1385 44 5 rw1387 :: .blk b866 (.cells #[.pointer (some ⟨b868, 0, none⟩), v1371] 71 (0, 0)) :: .blk b868 (.cells #[v1368, .int .i64 (x1362.2.2.c.at_)] 94 (0, 0)) :: .row v1368 21 1 rw1369 :: .row v1371 44 5 rw1372 :: .blk b883 (.cells #[.int .i64 (x1362.1.Kind), .string (x1362.1.Name), .string (x1362.1.Text), v1374, .bool (x1362.1.Closed)] 44 (0, 0)) :: L) _ _ _ := hs
     have ho1390 : v1385.oneCell' = true := hs.one (i := 0) rfl
     refine uon hs ?_; clear hs; (try clear a w); intro a he
     refine T_any1 he rfl ?_; clear he; (try clear a); intro a w hs
     obtain ⟨x1391, hx1392, hm⟩ := ob hm
     obtain ⟨hbx1391, hex1391⟩ := appM_some hx1392
     have hW1395 := hW1373.append hW1386; rw [hex1391] at hW1395
     refine RL_append (i := 4) hs rfl rfl rfl (Rd.st hs (.head _)) Try.underlying37 ti44 (by decide) (by rw [LQ.len _ hW1373, hW1386.1]; exact hbx1391) (.free rfl) (by decide) ?_; clear hs; (try clear a w); intro v1393 a w hs
     generalize hgx1391 : rw1372 ++ rw1387 = rw1394 at hs hW1395; clear hgx1391
     replace hs := hs.erase 0
     replace hs : St _ _ _ (.blk b866 (.cells #[.pointer (some ⟨b868, 0, none⟩), v1371] 71 (0, 0)) :: .blk b868 (.cells #[v1368, .int .i64 (x1362.2.2.c.at_)] 94 (0, 0)) :: .row v1368 21 1 rw1369 :: .row v1393 44 5 rw1394 :: .blk b883 (.cells #[.int .i64 (x1362.1.Kind), .string (x1362.1.Name), .string (x1362.1.Text), v1374, .bool (x1362.1.Closed)] 44 (0, 0)) :: L) _ _ _ := hs
     have ho1397 : v1393.oneCell' = true := hs.one (i := 3) rfl
     refine uon hs ?_; clear hs; (try clear a w); intro a he
     refine uy 8 he rfl (y_nilCheck rfl) ?_; clear he; (try clear a); intro a he
     refine uy (v := .pointer (some ⟨b866, 1, none⟩)) 9 he rfl (y_fieldAddr rfl (FO.of (off := 1) Try.underlying71 rfl rfl ti37 (by decide))) ?_; clear he; (try clear a); intro a he
     refine T_any1 he rfl ?_; clear he; (try clear a); intro a w hs
     refine sstore 0 hs rfl rfl rfl ti37 ho1397 ?_; clear hs; (try clear a w); intro a w hs
     replace hs : St _ _ _ (.blk b866 (.cells #[.pointer (some ⟨b868, 0, none⟩), v1393] 71 (0, 0)) :: .blk b868 (.cells #[v1368, .int .i64 (x1362.2.2.c.at_)] 94 (0, 0)) :: .row v1368 21 1 rw1369 :: .row v1393 44 5 rw1394 :: .blk b883 (.cells #[.int .i64 (x1362.1.Kind), .string (x1362.1.Name), .string (x1362.1.Text), v1374, .bool (x1362.1.Closed)] 44 (0, 0)) :: L) _ _ _ := hs
     refine uend hs ?_; clear hs; (try clear a w); intro a he
     refine T_nil he ?_; clear he; (try clear a); intro w hs; try clear hsD
     refine hK30 _ _ ?_; clear hK30
     refine W_seq fun K31 hK31 => ?_
     refine W_seq fun K32 hK32 => ?_
     refine W_post (fun a w => St 155 w0 f1364 (.blk b866 (.cells #[.pointer (some ⟨b868, 0, none⟩), v1393] 71 (0, 0)) :: .blk b868 (.cells #[v1368, .int .i64 (x1362.2.2.c.at_)] 94 (0, 0)) :: .row v1368 21 1 rw1369 :: .row v1393 44 5 rw1394 :: .blk b883 (.cells #[.int .i64 (x1362.1.Kind), .string (x1362.1.Name), .string (x1362.1.Text), v1374, .bool (x1362.1.Closed)] 44 (0, 0)) :: L) [(3, .pointer (some ⟨b866, 0, none⟩)), (4, .pointer (some ⟨b883, 0, none⟩)), (119, .bool (((decide (x1362.1.Name = (bs [115, 116, 121, 108, 101]))) || (decide (x1362.1.Name = (bs [115, 99, 114, 105, 112, 116]))))))] a w) ?_ ?_
     ·clear hs; intro a w hs
      refine hK32 _ _ ?_; clear hK32
      have hbase1411 := Fz.le.refl f1364
      refine W_post (fun a w => ∃ (f1398 : Fz) (y1400 : (List Int)) (y1405 : Int) (y1406 : (List mark_Token)) (v1401 : Value) (rw1402 : List (List Value)) (v1407 : Value) (rw1408 : List (List Value)), Fz.le f1364 f1398 ∧ mark_Tokens_k6 (mark_Tokens_g1_3 n k1348) x1362 y1400 y1405 y1406 = some res ∧ RW (tInt .i32) f1398 rw1402 y1400 ∧ (LQ.own f).R f1398 rw1408 y1406 ∧ St 155 w0 f1398 (.blk b866 (.cells #[.pointer (some ⟨b868, 0, none⟩), v1407] 71 (0, 0)) :: .blk b868 (.cells #[v1401, .int .i64 (y1405)] 94 (0, 0)) :: .row v1401 21 1 rw1402 :: .row v1407 44 5 rw1408 :: .blk b883 (.cells #[.int .i64 (x1362.1.Kind), .string (x1362.1.Name), .string (x1362.1.Text), v1374, .bool (x1362.1.Closed)] 44 (0, 0)) :: L) [(3, .pointer (some ⟨b866, 0, none⟩)), (4, .pointer (some ⟨b883, 0, none⟩))] a w) ?_ ?_
      ·clear hs hm
       clear hbase1411
       rintro a w ⟨f1398, y1400, y1405, y1406, v1401, rw1402, v1407, rw1408, hl1399, hm, hW1403, hW1409, hs⟩
       replace hR2 := hR2.le hl1399
       replace hW3 := hW3.le hl1399
       replace hW873 := hW873.le hl1399
       replace hW880 := hW880.le hl1399
       replace hR1351 := hR1351.le hl1399
       replace hW1352 := hW1352.le hl1399
       replace hW1360 := hW1360.le hl1399
       replace hR1376 := hR1376.le hl1399
       replace hW1377 := hW1377.le hl1399
       replace hW1370 := hW1370.le hl1399
       replace hW1373 := hW1373.le hl1399
       replace hW1395 := hW1395.le hl1399
       replace hle := hle.trans hl1399
       replace hbase1195 := hbase1195.trans hl1399
       replace hs : St _ _ _ (.blk b866 (.cells #[.pointer (some ⟨b868, 0, none⟩), v1407] 71 (0, 0)) :: .blk b868 (.cells #[v1401, .int .i64 (y1405)] 94 (0, 0)) :: .row v1401 21 1 rw1402 :: .row v1407 44 5 rw1408 :: .blk b883 (.cells #[.int .i64 (x1362.1.Kind), .string (x1362.1.Name), .string (x1362.1.Text), v1374, .bool (x1362.1.Closed)] 44 (0, 0)) :: L) _ _ _ := hs
       unfold mark_Tokens_k6 at hm
       refine hK31 _ _ ?_; clear hK31
       refine W_seq fun K33 hK33 => ?_
       refine W_goto ?_
       exact hG2.at_ 3 _ _ rfl ⟨k1348, Nat.lt_succ_self _, (.inl ⟨rfl, ⟨_, y1400, y1405, y1406, x1362.1, b866, b868, v1401, rw1402, v1407, rw1408, b883, [.int .i64 (x1362.1.Kind), .string (x1362.1.Name), .string (x1362.1.Text), v1374, .bool (x1362.1.Closed)], hbase1195, hm, hW1403, hW1409, ⟨_, rfl, ⟨rw1375, hR1376, hW1377⟩⟩, hs.sub ⟨rfl, rfl, trivial⟩⟩⟩)⟩
      ·refine W_cond hs rfl (fun hg1412 => ?_) (fun hg1412 => ?_)
       ·replace hm := oc_t hg1412 hm
        refine W_region ?_
        refine sy (v := .pointer (some ⟨b866, 0, none⟩)) hs (y_move rfl) ?_; clear hs; (try clear a w); intro a w hs
        refine sy (v := .pointer (some ⟨b883, 1, none⟩)) hs (y_fieldAddr rfl (FO.of (off := 1) Try.underlying44 rfl rfl ti9 (by decide))) ?_; clear hs; (try clear a w); intro a w hs
        refine sy (v := .string (x1362.1.Name)) hs (y_ld rfl Try.underlying9 rfl (Cell.blk (.tail _ (.tail _ (.tail _ (.tail _ (.head _))))) rfl)) ?_; clear hs; (try clear a w); intro a w hs
        obtain ⟨x1413, hx1414, hm⟩ := ob hm
        replace hs := hs.front 3
        replace hs := hs.front 3
        replace hs := hs.front 3
        replace hs := hs.front 3
        replace hs : St _ _ _ (.blk b866 (.cells #[.pointer (some ⟨b868, 0, none⟩), v1393] 71 (0, 0)) :: .blk b868 (.cells #[v1368, .int .i64 (x1362.2.2.c.at_)] 94 (0, 0)) :: .row v1368 21 1 rw1369 :: .row v1393 44 5 rw1394 :: .blk b883 (.cells #[.int .i64 (x1362.1.Kind), .string (x1362.1.Name), .string (x1362.1.Text), v1374, .bool (x1362.1.Closed)] 44 (0, 0)) :: L) _ _ _ := hs
        refine RL_call (Lr := [.blk b866 (.cells #[.pointer (some ⟨b868, 0, none⟩), v1393] 71 (0, 0)), .blk b868 (.cells #[v1368, .int .i64 (x1362.2.2.c.at_)] 94 (0, 0)), .row v1368 21 1 rw1369, .row v1393 44 5 rw1394]) (Lf := .blk b883 (.cells #[.int .i64 (x1362.1.Kind), .string (x1362.1.Name), .string (x1362.1.Text), v1374, .bool (x1362.1.Closed)] 44 (0, 0)) :: L) hs rfl has49 rfl rfl (mark_cutter_raw_ok n (f := f1364) (p0 := ({c := x1362.2.2.c, out := x1391} : mark_cutter)) (pb0 := b866) (pv0_0 := b868) (pv0_1 := v1368) (pv0_1r := rw1369) (pv0_2 := v1393) (pv0_2r := rw1394) (p1 := x1362.1.Name) hW1370 hW1395 hx1414) (.free rfl) (by decide) ?_; clear hs; (try clear a w)
        rintro _ f1415 _ a w hf1416 ⟨v1417, rw1418, v1420, rw1421, rfl, rfl, hW1419, hW1422⟩ hs
        replace hR2 := hR2.le hf1416
        replace hW3 := hW3.le hf1416
        replace hW873 := hW873.le hf1416
        replace hW880 := hW880.le hf1416
        replace hR1351 := hR1351.le hf1416
        replace hW1352 := hW1352.le hf1416
        replace hW1360 := hW1360.le hf1416
        replace hR1376 := hR1376.le hf1416
        replace hW1377 := hW1377.le hf1416
        replace hW1370 := hW1370.le hf1416
        replace hW1373 := hW1373.le hf1416
        replace hW1395 := hW1395.le hf1416
        replace hle := hle.trans hf1416
        replace hbase1195 := hbase1195.trans hf1416
        replace hbase1411 := hbase1411.trans hf1416
        replace hs : St _ _ _ (.blk b866 (.cells #[.pointer (some ⟨b868, 0, none⟩), v1420] 71 (0, 0)) :: .blk b868 (.cells #[v1417, .int .i64 (x1413.c.at_)] 94 (0, 0)) :: .row v1417 21 1 rw1418 :: .row v1420 44 5 rw1421 :: .blk b883 (.cells #[.int .i64 (x1362.1.Kind), .string (x1362.1.Name), .string (x1362.1.Text), v1374, .bool (x1362.1.Closed)] 44 (0, 0)) :: L) _ _ _ := hs
        refine RL_nil ?_
        replace hs : St _ _ _ (.blk b866 (.cells #[.pointer (some ⟨b868, 0, none⟩), v1420] 71 (0, 0)) :: .blk b868 (.cells #[v1417, .int .i64 (x1413.c.at_)] 94 (0, 0)) :: .row v1417 21 1 rw1418 :: .row v1420 44 5 rw1421 :: .blk b883 (.cells #[.int .i64 (x1362.1.Kind), .string (x1362.1.Name), .string (x1362.1.Text), v1374, .bool (x1362.1.Closed)] 44 (0, 0)) :: L) _ _ _ := hs
        replace hs : St _ _ _ (.blk b866 (.cells #[.pointer (some ⟨b868, 0, none⟩), v1420] 71 (0, 0)) :: .blk b868 (.cells #[v1417, .int .i64 (x1413.c.at_)] 94 (0, 0)) :: .row v1417 21 1 rw1418 :: .row v1420 44 5 rw1421 :: .blk b883 (.cells #[.int .i64 (x1362.1.Kind), .string (x1362.1.Name), .string (x1362.1.Text), v1374, .bool (x1362.1.Closed)] 44 (0, 0)) :: L) _ _ _ := hs
        exact ⟨_, x1413.c.l, x1413.c.at_, x1413.out, v1417, rw1418, v1420, rw1421, hbase1411, hm, hW1419, hW1422, hs.sub ⟨rfl, rfl, trivial⟩⟩
       ·replace hm := oc_f hg1412 hm
        refine W_skip ?_
        replace hs : St _ _ _ (.blk b866 (.cells #[.pointer (some ⟨b868, 0, none⟩), v1393] 71 (0, 0)) :: .blk b868 (.cells #[v1368, .int .i64 (x1362.2.2.c.at_)] 94 (0, 0)) :: .row v1368 21 1 rw1369 :: .row v1393 44 5 rw1394 :: .blk b883 (.cells #[.int .i64 (x1362.1.Kind), .string (x1362.1.Name), .string (x1362.1.Text), v1374, .bool (x1362.1.Closed)] 44 (0, 0)) :: L) _ _ _ := hs
        replace hs : St _ _ _ (.blk b866 (.cells #[.pointer (some ⟨b868, 0, none⟩), v1393] 71 (0, 0)) :: .blk b868 (.cells #[v1368, .int .i64 (x1362.2.2.c.at_)] 94 (0, 0)) :: .row v1368 21 1 rw1369 :: .row v1393 44 5 rw1394 :: .blk b883 (.cells #[.int .i64 (x1362.1.Kind), .string (x1362.1.Name), .string (x1362.1.Text), v1374, .bool (x1362.1.Closed)] 44 (0, 0)) :: L) _ _ _ := hs
        exact ⟨_, x1362.2.2.c.l, x1362.2.2.c.at_, x1391, v1368, rw1369, v1393, rw1394, (Fz.le.refl _), hm, hW1370, hW1395, hs.sub ⟨rfl, rfl, trivial⟩⟩
     ·refine W_region ?_
      refine sy (v := .pointer (some ⟨b883, 1, none⟩)) hs (y_fieldAddr rfl (FO.of (off := 1) Try.underlying44 rfl rfl ti9 (by decide))) ?_; clear hs; (try clear a w); intro a w hs
      refine sy (v := .string (x1362.1.Name)) hs (y_ld rfl Try.underlying9 rfl (Cell.blk (.tail _ (.tail _ (.tail _ (.tail _ (.head _))))) rfl)) ?_; clear hs; (try clear a w); intro a w hs
      refine sy hs (y_seql rfl rfl) ?_; clear hs; (try clear a w); intro a w hs
      refine sy (v := .bool (decide (x1362.1.Name = (bs [115, 116, 121, 108, 101])))) hs (y_move rfl) ?_; clear hs; (try clear a w); intro a w hs
      refine St.split hs (t := 115) rfl (fun hg1425 hq => ?_) (fun hg1425 hq => ?_)
      ·clear hs; have hs := hq; clear hq
       refine sno hs ?_; clear hs; (try clear a w); intro a w hs
       refine sno hs ?_; clear hs; (try clear a w); intro a w hs
       refine sno hs ?_; clear hs; (try clear a w); intro a w hs
       refine sy (v := .bool (true)) hs (y_pick rfl rfl) ?_; clear hs; (try clear a w); intro a w hs
       refine RL_nil ?_
       exact hs.sub ⟨rfl, rfl, (lkB (((or_t hg1425).trans rfl)) rfl), trivial⟩
      ·clear hs; have hs := hq; clear hq
       refine syg (v := .pointer (some ⟨b883, 1, none⟩)) hs (y_fieldAddr rfl (FO.of (off := 1) Try.underlying44 rfl rfl ti9 (by decide))) ?_; clear hs; (try clear a w); intro a w hs
       refine syg (v := .string (x1362.1.Name)) hs (y_ld rfl Try.underlying9 rfl (Cell.blk (.tail _ (.tail _ (.tail _ (.tail _ (.head _))))) rfl)) ?_; clear hs; (try clear a w); intro a w hs
       refine syg hs (y_seql rfl rfl) ?_; clear hs; (try clear a w); intro a w hs
       refine sy (v := .bool (decide (x1362.1.Name = (bs [115, 99, 114, 105, 112, 116])))) hs (y_pick rfl rfl) ?_; clear hs; (try clear a w); intro a w hs
       refine RL_nil ?_
       exact hs.sub ⟨rfl, rfl, (lkB (((or_f hg1425).trans rfl)) rfl), trivial⟩
  ·cases hl; revert a w
   rintro a w ⟨f887, y894, y899, y901, y908, b890, b892, v895, rw896, v902, rw903, b907, r909, hl888, hm, hW897, hW904, hq910, hs⟩
   replace hR2 := hR2.le hl888
   replace hW3 := hW3.le hl888
   replace hle := hle.trans hl888
   obtain ⟨v1427, rfl, ⟨rw1428, hR1429, hW1430⟩⟩ := hq910
   replace hs : St _ _ _ (.blk b890 (.cells #[.pointer (some ⟨b892, 0, none⟩), v902] 71 (0, 0)) :: .blk b892 (.cells #[v895, .int .i64 (y899)] 94 (0, 0)) :: .row v895 21 1 rw896 :: .row v902 44 5 rw903 :: .blk b907 (.cells #[.int .i64 (y908.Kind), .string (y908.Name), .string (y908.Text), v1427, .bool (y908.Closed)] 44 (0, 0)) :: L) _ _ _ := hs
   have hbase1195 := hl888
   cases k with
   | zero => simp [mark_Tokens_g1_2] at hm
   | succ k1426 =>
    rw [mark_Tokens_g1_2] at hm
    refine W_seq fun K34 hK34 => ?_
    refine W_region ?_
    refine sy (v := .pointer (some ⟨b890, 0, none⟩)) hs (y_move rfl) ?_; clear hs; (try clear a w); intro a w hs
    refine sy hs (y_nilCheck rfl) ?_; clear hs; (try clear a w); intro a w hs
    refine sy (v := .pointer (some ⟨b890, 0, none⟩)) hs (y_fieldAddr rfl (FO.of (off := 0) Try.underlying71 rfl rfl ti68 (by decide))) ?_; clear hs; (try clear a w); intro a w hs
    refine sy (v := .pointer (some ⟨b892, 0, none⟩)) hs (y_ld rfl Try.underlying68 rfl (Cell.blk (.head _) rfl)) ?_; clear hs; (try clear a w); intro a w hs
    obtain ⟨x1432, hx1433, hm⟩ := ob hm
    replace hs := hs.front 2
    replace hs := hs.front 2
    replace hs : St _ _ _ (.blk b892 (.cells #[v895, .int .i64 (y899)] 94 (0, 0)) :: .row v895 21 1 rw896 :: .blk b890 (.cells #[.pointer (some ⟨b892, 0, none⟩), v902] 71 (0, 0)) :: .row v902 44 5 rw903 :: .blk b907 (.cells #[.int .i64 (y908.Kind), .string (y908.Name), .string (y908.Text), v1427, .bool (y908.Closed)] 44 (0, 0)) :: L) _ _ _ := hs
    refine RL_call (Lr := [.blk b892 (.cells #[v895, .int .i64 (y899)] 94 (0, 0)), .row v895 21 1 rw896]) (Lf := .blk b890 (.cells #[.pointer (some ⟨b892, 0, none⟩), v902] 71 (0, 0)) :: .row v902 44 5 rw903 :: .blk b907 (.cells #[.int .i64 (y908.Kind), .string (y908.Name), .string (y908.Text), v1427, .bool (y908.Closed)] 44 (0, 0)) :: L) hs rfl has47 rfl rfl (source_Cursor_rune_Next_ok n (f := f887) (p0 := ({l := y894, at_ := y899} : source_Cursor_rune_)) (pb0 := b892) (pv0_0 := v895) (pv0_0r := rw896) hW897 hx1433) (.free rfl) (by decide) ?_; clear hs; (try clear a w)
    rintro _ f1434 _ a w hf1435 ⟨v1436, rw1437, rfl, rfl, hW1438⟩ hs
    replace hR2 := hR2.le hf1435
    replace hW3 := hW3.le hf1435
    replace hW897 := hW897.le hf1435
    replace hW904 := hW904.le hf1435
    replace hR1429 := hR1429.le hf1435
    replace hW1430 := hW1430.le hf1435
    replace hle := hle.trans hf1435
    replace hbase1195 := hbase1195.trans hf1435
    replace hs : St _ _ _ (.blk b892 (.cells #[v1436, .int .i64 (x1432.2.2.at_)] 94 (0, 0)) :: .row v1436 21 1 rw1437 :: .blk b890 (.cells #[.pointer (some ⟨b892, 0, none⟩), v902] 71 (0, 0)) :: .row v902 44 5 rw903 :: .blk b907 (.cells #[.int .i64 (y908.Kind), .string (y908.Name), .string (y908.Text), v1427, .bool (y908.Closed)] 44 (0, 0)) :: L) _ _ _ := hs
    refine RL_nil ?_
    refine hK34 _ _ ?_; clear hK34
    refine W_seq fun K35 hK35 => ?_
    refine W_region ?_
    refine sy (v := .pointer (some ⟨b890, 0, none⟩)) hs (y_move rfl) ?_; clear hs; (try clear a w); intro a w hs
    refine sy hs (y_nilCheck rfl) ?_; clear hs; (try clear a w); intro a w hs
    refine sy (v := .pointer (some ⟨b890, 0, none⟩)) hs (y_fieldAddr rfl (FO.of (off := 0) Try.underlying71 rfl rfl ti68 (by decide))) ?_; clear hs; (try clear a w); intro a w hs
    refine sy (v := .pointer (some ⟨b892, 0, none⟩)) hs (y_ld rfl Try.underlying68 rfl (Cell.blk (.tail _ (.tail _ (.head _))) rfl)) ?_; clear hs; (try clear a w); intro a w hs
    obtain ⟨x1440, hx1441, hm⟩ := ob hm
    replace hs := hs.front 1
    replace hs := hs.front 1
    replace hs : St _ _ _ (.blk b892 (.cells #[v1436, .int .i64 (x1432.2.2.at_)] 94 (0, 0)) :: .row v1436 21 1 rw1437 :: .blk b890 (.cells #[.pointer (some ⟨b892, 0, none⟩), v902] 71 (0, 0)) :: .row v902 44 5 rw903 :: .blk b907 (.cells #[.int .i64 (y908.Kind), .string (y908.Name), .string (y908.Text), v1427, .bool (y908.Closed)] 44 (0, 0)) :: L) _ _ _ := hs
    refine RL_call (Lr := [.blk b892 (.cells #[v1436, .int .i64 (x1432.2.2.at_)] 94 (0, 0)), .row v1436 21 1 rw1437]) (Lf := .blk b890 (.cells #[.pointer (some ⟨b892, 0, none⟩), v902] 71 (0, 0)) :: .row v902 44 5 rw903 :: .blk b907 (.cells #[.int .i64 (y908.Kind), .string (y908.Name), .string (y908.Text), v1427, .bool (y908.Closed)] 44 (0, 0)) :: L) hs rfl has47 rfl rfl (source_Cursor_rune_Next_ok n (f := f1434) (p0 := x1432.2.2) (pb0 := b892) (pv0_0 := v1436) (pv0_0r := rw1437) hW1438 hx1441) (.free rfl) (by decide) ?_; clear hs; (try clear a w)
    rintro _ f1442 _ a w hf1443 ⟨v1444, rw1445, rfl, rfl, hW1446⟩ hs
    replace hR2 := hR2.le hf1443
    replace hW3 := hW3.le hf1443
    replace hW897 := hW897.le hf1443
    replace hW904 := hW904.le hf1443
    replace hR1429 := hR1429.le hf1443
    replace hW1430 := hW1430.le hf1443
    replace hW1438 := hW1438.le hf1443
    replace hle := hle.trans hf1443
    replace hbase1195 := hbase1195.trans hf1443
    replace hs : St _ _ _ (.blk b892 (.cells #[v1444, .int .i64 (x1440.2.2.at_)] 94 (0, 0)) :: .row v1444 21 1 rw1445 :: .blk b890 (.cells #[.pointer (some ⟨b892, 0, none⟩), v902] 71 (0, 0)) :: .row v902 44 5 rw903 :: .blk b907 (.cells #[.int .i64 (y908.Kind), .string (y908.Name), .string (y908.Text), v1427, .bool (y908.Closed)] 44 (0, 0)) :: L) _ _ _ := hs
    refine RL_nil ?_
    refine hK35 _ _ ?_; clear hK35
    refine W_seq fun K36 hK36 => ?_
    refine W_region ?_
    refine sy (v := .pointer (some ⟨b890, 0, none⟩)) hs (y_move rfl) ?_; clear hs; (try clear a w); intro a w hs
    obtain ⟨x1448, hx1449, hm⟩ := ob hm
    replace hs := hs.front 3
    replace hs := hs.front 2
    replace hs := hs.front 2
    replace hs := hs.front 3
    replace hs : St _ _ _ (.blk b890 (.cells #[.pointer (some ⟨b892, 0, none⟩), v902] 71 (0, 0)) :: .blk b892 (.cells #[v1444, .int .i64 (x1440.2.2.at_)] 94 (0, 0)) :: .row v1444 21 1 rw1445 :: .row v902 44 5 rw903 :: .blk b907 (.cells #[.int .i64 (y908.Kind), .string (y908.Name), .string (y908.Text), v1427, .bool (y908.Closed)] 44 (0, 0)) :: L) _ _ _ := hs
    refine RL_call (Lr := [.blk b890 (.cells #[.pointer (some ⟨b892, 0, none⟩), v902] 71 (0, 0)), .blk b892 (.cells #[v1444, .int .i64 (x1440.2.2.at_)] 94 (0, 0)), .row v1444 21 1 rw1445, .row v902 44 5 rw903]) (Lf := .blk b907 (.cells #[.int .i64 (y908.Kind), .string (y908.Name), .string (y908.Text), v1427, .bool (y908.Closed)] 44 (0, 0)) :: L) hs rfl has48 rfl rfl (mark_cutter_tag_ok n (Q := (LQ.own f).at f1442) (f := f1442) (p0 := ({c := x1440.2.2, out := y901} : mark_cutter)) (pb0 := b890) (pv0_0 := b892) (pv0_1 := v1444) (pv0_1r := rw1445) (pv0_2 := v902) (pv0_2r := rw903) (p1 := 3) hW1446 hW904.here hx1449) (.free rfl) (by decide) ?_; clear hs; (try clear a w)
    have hle1462 := hle
    rintro _ f1450 _ a w hf1451 ⟨r1452, v1454, rw1455, v1457, rw1458, rfl, rfl, hq1453, hW1456, hW1459⟩ hs
    replace hR2 := hR2.le hf1451
    replace hW3 := hW3.le hf1451
    replace hW897 := hW897.le hf1451
    replace hW904 := hW904.le hf1451
    replace hR1429 := hR1429.le hf1451
    replace hW1430 := hW1430.le hf1451
    replace hW1438 := hW1438.le hf1451
    replace hW1446 := hW1446.le hf1451
    replace hle := hle.trans hf1451
    replace hbase1195 := hbase1195.trans hf1451
    obtain ⟨v1460, rfl, ⟨rw1461, hR1462, hW1463⟩, hO1462⟩ := hq1453
    replace hs : St _ _ _ (.blk b890 (.cells #[.pointer (some ⟨b892, 0, none⟩), v1457] 71 (0, 0)) :: .blk b892 (.cells #[v1454, .int .i64 (x1448.2.2.c.at_)] 94 (0, 0)) :: .row v1454 21 1 rw1455 :: .row v1457 44 5 rw1458 :: .blk b907 (.cells #[.int .i64 (y908.Kind), .string (y908.Name), .string (y908.Text), v1427, .bool (y908.Closed)] 44 (0, 0)) :: L) _ _ _ := hs
    refine sy (v := .tuple #[.agg #[.int .i64 (x1448.1.Kind), .string (x1448.1.Name), .string (x1448.1.Text), v1460, .bool (x1448.1.Closed)], .bool (x1448.2.1)]) hs (y_move rfl) ?_; clear hs; (try clear a w); intro a w hs
    refine sy (v := .agg #[.int .i64 (x1448.1.Kind), .string (x1448.1.Name), .string (x1448.1.Text), v1460, .bool (x1448.1.Closed)]) hs (y_extract rfl rfl) ?_; clear hs; (try clear a w); intro a w hs
    refine sy (v := .bool (x1448.2.1)) hs (y_extract rfl rfl) ?_; clear hs; (try clear a w); intro a w hs
    refine RL_storeAll (i := 4) hs rfl rfl rfl ti44 ⟨rfl, rfl⟩ (AllC.arr (r := [.int .i64 (x1448.1.Kind), .string (x1448.1.Name), .string (x1448.1.Text), v1460, .bool (x1448.1.Closed)]) ⟨rfl, rfl, rfl, hR1462.one, rfl, trivial⟩) (.free rfl) ?_; clear hs; (try clear a w); intro a w hs
    replace hs : St _ _ _ (.blk b890 (.cells #[.pointer (some ⟨b892, 0, none⟩), v1457] 71 (0, 0)) :: .blk b892 (.cells #[v1454, .int .i64 (x1448.2.2.c.at_)] 94 (0, 0)) :: .row v1454 21 1 rw1455 :: .row v1457 44 5 rw1458 :: .blk b907 (.cells #[.int .i64 (x1448.1.Kind), .string (x1448.1.Name), .string (x1448.1.Text), v1460, .bool (x1448.1.Closed)] 44 (0, 0)) :: L) _ _ _ := hs
    refine sy (v := .bool (x1448.2.1)) hs (y_assign rfl) ?_; clear hs; (try clear a w); intro a w hs
    refine RL_nil ?_
    refine hK36 _ _ ?_; clear hK36
    refine W_seq fun K37 hK37 => ?_
    refine W_seq fun K38 hK38 => ?_
    refine W_region ?_
    refine sy (v := .bool (x1448.2.1)) hs (y_move rfl) ?_; clear hs; (try clear a w); intro a w hs
    refine sy (v := .bool ((!x1448.2.1))) hs (y_not rfl) ?_; clear hs; (try clear a w); intro a w hs
    refine RL_nil ?_
    refine hK38 _ _ ?_; clear hK38
    refine W_cond hs rfl (fun hg1467 => ?_) (fun hg1467 => ?_)
    ·replace hm := oc_t hg1467 hm
     refine W_seq fun K39 hK39 => ?_
     refine W_region ?_
     refine sy (v := .pointer (some ⟨b890, 0, none⟩)) hs (y_move rfl) ?_; clear hs; (try clear a w); intro a w hs
     refine sy hs (y_nilCheck rfl) ?_; clear hs; (try clear a w); intro a w hs
     refine sy (v := .pointer (some ⟨b890, 1, none⟩)) hs (y_fieldAddr rfl (FO.of (off := 1) Try.underlying71 rfl rfl ti37 (by decide))) ?_; clear hs; (try clear a w); intro a w hs
     refine sy (v := v1457) hs (y_ld rfl Try.underlying37 rfl (Cell.blk (.head _) rfl)) ?_; clear hs; (try clear a w); intro a w hs
     refine sy (v := v1457) hs (y_assign rfl) ?_; clear hs; (try clear a w); intro a w hs
     refine RL_nil ?_
     refine hK39 _ _ ?_; clear hK39
     refine W_ret ?_
     obtain rfl := Option.some.inj hm
     refine RtV1 hs rfl (rv_t hs rfl) ?_
     exact ⟨_, _, [.row v1457 44 5 rw1458], rfl, hle, (hs.subL (.cons _ (.cons _ (.cons _ (.cons_cons _ (.cons _ (.refl _))))))).cw, rw1458, rfl, hW1459.1⟩
    ·replace hm := oc_f hg1467 hm
     refine W_skip ?_
     refine hK37 _ _ ?_; clear hK37
     refine W_seq fun K40 hK40 => ?_
     have hsD := hs.subL (L' := .blk b890 (.cells #[.pointer (some ⟨b892, 0, none⟩), v1457] 71 (0, 0)) :: .blk b907 (.cells #[.int .i64 (x1448.1.Kind), .string (x1448.1.Name), .string (x1448.1.Text), v1460, .bool (x1448.1.Closed)] 44 (0, 0)) :: []) (.cons_cons _ (.cons _ (.cons _ (.cons _ (.cons_cons _ (List.nil_sublist _))))))
     refine T_start hs (.blk b890 (.cells #[.pointer (some ⟨b892, 0, none⟩), v1457] 71 (0, 0)) :: .blk b907 (.cells #[.int .i64 (x1448.1.Kind), .string (x1448.1.Name), .string (x1448.1.Text), v1460, .bool (x1448.1.Closed)] 44 (0, 0)) :: []) [10] (.look 0 (.look 1 (.look 2 (.look 3 (.look 4 (.look 5 (.any [6] (fun _ => .any [7] (fun _ => .look 8 (.look 9 (.any [10] (fun _ => .done)))))))))))) mixed (by kernel_rfl) ?_; clear hs; (try clear a w); intro a he
     refine uy (v := .pointer (some ⟨b890, 0, none⟩)) 0 he rfl (y_move rfl) ?_; clear he; (try clear a); intro a he
     refine uy (v := .pointer (some ⟨b890, 0, none⟩)) 1 he rfl (y_move rfl) ?_; clear he; (try clear a); intro a he
     refine uy 2 he rfl (y_nilCheck rfl) ?_; clear he; (try clear a); intro a he
     refine uy (v := .pointer (some ⟨b890, 1, none⟩)) 3 he rfl (y_fieldAddr rfl (FO.of (off := 1) Try.underlying71 rfl rfl ti37 (by decide))) ?_; clear he; (try clear a); intro a he
     refine uy (v := v1457) 4 he rfl (y_ld rfl Try.underlying37 rfl (Cell.blk (.head _) rfl)) ?_; clear he; (try clear a); intro a he
     refine uy 5 he rfl (y_ldB rfl Try.underlying44 rfl ti44 (.tail _ (.head _)) rfl) ?_; clear he; (try clear a); intro a he
     refine T_any1 he rfl ?_; clear he; (try clear a); intro a w hs
     refine RL_bs1a hs rfl Try.underlying37 ti44 (by decide) (AllC.row ⟨rfl, rfl, rfl, hR1462.one, rfl, trivial⟩ rfl) ?_; clear hs; (try clear a w); intro v1471 a w hs
     have hW1472 : LQ.Add ((LQ.own f).at f1442) (LQ.own f) f1450 [[.int .i64 (x1448.1.Kind), .string (x1448.1.Name), .string (x1448.1.Text), v1460, .bool (x1448.1.Closed)]] [x1448.1] := LQ.addO ⟨_, rfl, ⟨rw1461, hR1462, hW1463⟩, hO1462⟩ hle1462
     generalize hgrw1473 : ([[.int .i64 (x1448.1.Kind), .string (x1448.1.Name), .string (x1448.1.Text), v1460, .bool (x1448.1.Closed)]] : List (List Value)) = rw1473 at hs hW1472; clear hgrw1473
     replace hs : St _ _ _ (.row v1471 44 5 rw1473 :: .blk b890 (.cells #[.pointer (some ⟨b892, 0, none⟩), v1457] 71 (0, 0)) :: .blk b892 (.cells #[v1454, .int .i64 (x1448.2.2.c.at_)] 94 (0, 0)) :: .row v1454 21 1 rw1455 :: .row v1457 44 5 rw1458 :: .blk b907 (.cells #[.int .i64 (x1448.1.Kind), .string (x1448.1.Name), .string (x1448.1.Text), v1460, .bool (x1448.1.Closed)] 44 (0, 0)) :: L) _ _ _ := hs
     have ho1476 : v1471.oneCell' = true := hs.one (i := 0) rfl
     refine uon hs ?_; clear hs; (try clear a w); intro a he
     refine T_any1 he rfl ?_; clear he; (try clear a); intro a w hs
     obtain ⟨x1477, hx1478, hm⟩ := ob hm
     obtain ⟨hbx1477, hex1477⟩ := appM_some hx1478
     have hW1481 := hW1459.append hW1472; rw [hex1477] at hW1481
     refine RL_append (i := 4) hs rfl rfl rfl (Rd.st hs (.head _)) Try.underlying37 ti44 (by decide) (by rw [LQ.len _ hW1459, hW1472.1]; exact hbx1477) (.free rfl) (by decide) ?_; clear hs; (try clear a w); intro v1479 a w hs
     generalize hgx1477 : rw1458 ++ rw1473 = rw1480 at hs hW1481; clear hgx1477
     replace hs := hs.erase 0
     replace hs : St _ _ _ (.blk b890 (.cells #[.pointer (some ⟨b892, 0, none⟩), v1457] 71 (0, 0)) :: .blk b892 (.cells #[v1454, .int .i64 (x1448.2.2.c.at_)] 94 (0, 0)) :: .row v1454 21 1 rw1455 :: .row v1479 44 5 rw1480 :: .blk b907 (.cells #[.int .i64 (x1448.1.Kind), .string (x1448.1.Name), .string (x1448.1.Text), v1460, .bool (x1448.1.Closed)] 44 (0, 0)) :: L) _ _ _ := hs
     have ho1483 : v1479.oneCell' = true := hs.one (i := 3) rfl
     refine uon hs ?_; clear hs; (try clear a w); intro a he
     refine uy 8 he rfl (y_nilCheck rfl) ?_; clear he; (try clear a); intro a he
     refine uy (v := .pointer (some ⟨b890, 1, none⟩)) 9 he rfl (y_fieldAddr rfl (FO.of (off := 1) Try.underlying71 rfl rfl ti37 (by decide))) ?_; clear he; (try clear a); intro a he
     refine T_any1 he rfl ?_; clear he; (try clear a); intro a w hs
     refine sstore 0 hs rfl rfl rfl ti37 ho1483 ?_; clear hs; (try clear a w); intro a w hs
     replace hs : St _ _ _ (.blk b890 (.cells #[.pointer (some ⟨b892, 0, none⟩), v1479] 71 (0, 0)) :: .blk b892 (.cells #[v1454, .int .i64 (x1448.2.2.c.at_)] 94 (0, 0)) :: .row v1454 21 1 rw1455 :: .row v1479 44 5 rw1480 :: .blk b907 (.cells #[.int .i64 (x1448.1.Kind), .string (x1448.1.Name), .string (x1448.1.Text), v1460, .bool (x1448.1.Closed)] 44 (0, 0)) :: L) _ _ _ := hs
     refine uend hs ?_; clear hs; (try clear a w); intro a he
     refine T_nil he ?_; clear he; (try clear a); intro w hs; try clear hsD
     refine hK40 _ _ ?_; clear hK40
     refine W_goto ?_
     exact hG2.at_ 3 _ _ rfl ⟨k1426, Nat.lt_succ_self _, (.inl ⟨rfl, ⟨_, x1448.2.2.c.l, x1448.2.2.c.at_, x1477, x1448.1, b890, b892, v1454, rw1455, v1479, rw1480, b907, [.int .i64 (x1448.1.Kind), .string (x1448.1.Name), .string (x1448.1.Text), v1460, .bool (x1448.1.Closed)], hbase1195, hm, hW1456, hW1481, ⟨_, rfl, ⟨rw1461, hR1462, hW1463⟩⟩, hs.sub ⟨rfl, rfl, trivial⟩⟩⟩)⟩
 ·intro hB2g G2 hG2
  refine W_seq fun K41 hK41 => ?_
  refine W_region ?_
  refine sy (v := a0) hs (y_move rfl) ?_; clear hs; (try clear a w); intro a w hs
  obtain ⟨x1484, hx1485, hm⟩ := ob hm
  refine RL_callV hs rfl has39 rfl (source_New_rune_ok n (f := f) (a0 := a0) ⟨rw1, hR2, hW3⟩ hx1485) ?_; clear hs; (try clear a w)
  rintro _ f1486 _ a w hf1487 ⟨b1488, v1489, rw1490, rfl, rfl, hW1491⟩ hs
  replace hR2 := hR2.le hf1487
  replace hW3 := hW3.le hf1487
  replace hle := hle.trans hf1487
  replace hbase1195 := hbase1195.trans hf1487
  replace hs : St _ _ _ (.blk b1488 (.cells #[v1489, .int .i64 (x1484.at_)] 94 (0, 0)) :: .row v1489 21 1 rw1490 :: L) _ _ _ := hs
  refine sy hs (y_buildS (places := [(0, 1), (1, 1)]) (cs := [.pointer (some ⟨b1488, 0, none⟩), (.slice none 0 0)]) rfl Try.underlying71 ti71 (by kernel_rfl) (by decide) rfl ⟨rfl, trivial⟩) ?_; clear hs; (try clear a w); intro a w hs
  refine sbox hs rfl ?_; clear hs; (try clear a w); intro b1496 a w hs
  replace hs : St _ _ _ (.blk b1496 (.cells #[.pointer (some ⟨b1488, 0, none⟩), (.slice none 0 0)] 71 (0, 0)) :: .blk b1488 (.cells #[v1489, .int .i64 (x1484.at_)] 94 (0, 0)) :: .row v1489 21 1 rw1490 :: L) _ _ _ := hs
  refine sy (v := .pointer (some ⟨b1496, 0, none⟩)) hs (y_assign rfl) ?_; clear hs; (try clear a w); intro a w hs
  refine RL_nil ?_
  refine hK41 _ _ ?_; clear hK41
  refine W_seq fun K42 hK42 => ?_
  refine W_region ?_
  refine RL_alloc hs ti44 (.free rfl) (by decide) ?_; clear hs; (try clear a w); intro b1498 a w hs
  replace hs : St _ _ _ (.blk b1498 (.cells #[.int .i64 (0), .string ((bs [])), .string ((bs [])), (.slice none 0 0), .bool (false)] 44 (0, 0)) :: .blk b1496 (.cells #[.pointer (some ⟨b1488, 0, none⟩), (.slice none 0 0)] 71 (0, 0)) :: .blk b1488 (.cells #[v1489, .int .i64 (x1484.at_)] 94 (0, 0)) :: .row v1489 21 1 rw1490 :: L) _ _ _ := hs
  refine RL_nil ?_
  refine hK42 _ _ ?_; clear hK42
  refine W_seq fun K43 hK43 => ?_
  refine W_region ?_
  refine sy (v := .bool (false)) hs (y_assign rfl) ?_; clear hs; (try clear a w); intro a w hs
  refine RL_nil ?_
  refine hK43 _ _ ?_; clear hK43
  refine W_seq fun K44 hK44 => ?_
  refine W_region ?_
  refine sy (v := (.slice none 0 0)) hs (y_assign rfl) ?_; clear hs; (try clear a w); intro a w hs
  refine RL_nil ?_
  refine hK44 _ _ ?_; clear hK44
  replace hs := hs.nilRow 44 5
  have hW1502 : (LQ.own f).R f1486 [] ([] : List mark_Token) := ⟨trivial, List.Pairwise.nil⟩
  generalize hgrw1503 : ([] : List (List Value)) = rw1503 at hs hW1502; clear hgrw1503
  replace hs : St _ _ _ (.row (.slice none 0 0) 44 5 rw1503 :: .blk b1498 (.cells #[.int .i64 (0), .string ((bs [])), .string ((bs [])), (.slice none 0 0), .bool (false)] 44 (0, 0)) :: .blk b1496 (.cells #[.pointer (some ⟨b1488, 0, none⟩), (.slice none 0 0)] 71 (0, 0)) :: .blk b1488 (.cells #[v1489, .int .i64 (x1484.at_)] 94 (0, 0)) :: .row v1489 21 1 rw1490 :: L) _ _ _ := hs
  replace hs : St _ _ _ (.row (.slice none 0 0) 44 5 rw1503 :: .blk b1498 (.cells #[.int .i64 (0), .string ((bs [])), .string ((bs [])), (.slice none 0 0), .bool (false)] 44 (0, 0)) :: .blk b1496 (.cells #[.pointer (some ⟨b1488, 0, none⟩), (.slice none 0 0)] 71 (0, 0)) :: .blk b1488 (.cells #[v1489, .int .i64 (x1484.at_)] 94 (0, 0)) :: .row v1489 21 1 rw1490 :: L) _ _ _ := hs
  replace hs := hs.front 1
  replace hs := hs.front 1
  replace hs := hs.front 4
  replace hs := hs.front 4
  replace hs := hs.front 4
  replace hs : St _ _ _ (.blk b1496 (.cells #[.pointer (some ⟨b1488, 0, none⟩), (.slice none 0 0)] 71 (0, 0)) :: .blk b1488 (.cells #[v1489, .int .i64 (x1484.at_)] 94 (0, 0)) :: .row v1489 21 1 rw1490 :: .row (.slice none 0 0) 44 5 rw1503 :: .blk b1498 (.cells #[.int .i64 (0), .string ((bs [])), .string ((bs [])), (.slice none 0 0), .bool (false)] 44 (0, 0)) :: L) _ _ _ := hs
  exact (hB2g n).into (l := 3) rfl (.inl ⟨rfl, ⟨_, x1484.l, x1484.at_, ([] : List mark_Token), ({Kind := 0, Name := (bs []), Text := (bs []), Attrs := ([] : List api_Attr), Closed := false} : mark_Token), b1496, b1488, v1489, rw1490, (.slice none 0 0), rw1503, b1498, [.int .i64 (0), .string ((bs [])), .string ((bs [])), (.slice none 0 0), .bool (false)], hbase1195, hm, hW1491, hW1502, ⟨_, rfl, RS.nil⟩, hs.sub ⟨rfl, rfl, trivial⟩⟩⟩) hG2 (fun l a w k'' _ hJ => ⟨k'', hJ⟩)
theorem mark_Tokens_ok (n : Nat) {f : Fz} {p0 : (List Int)} {a0 : Value} {res : (List mark_Token)} (h0 : RS (tInt .i32) f a0 p0) (hm : mark_Tokens n p0 = some res) : Does Try.prog 22 [a0] f [] (fun r f' L' => ∃ (u0 : Value), L' = [] ∧ r = u0 ∧ RS t_mark_Token f' u0 res) := by
  intro w0 L w hC
  refine (mark_Tokens_own n h0 hm w0 L w hC).mono fun e w' h => ?_
  obtain ⟨r, f1, L1, h1, h2, h3, rw1, rfl, h4⟩ := h
  obtain ⟨f2, g1, g2, _, g3⟩ := Rd.frozenAt (i := 0) h3 rfl
  exact ⟨r, f2, [], h1, h2.trans g1, g2, _, rfl, rfl, ⟨rw1, g3, (RW.forget h4.1).le g1⟩⟩
end Go.Proofs.Ythmnohdlhlmmpaa
