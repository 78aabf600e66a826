/-
  Walks and laws of this seat.
-/
import Derived.Test.YtpfdbeafdjnbnaaGreatDoorBash
import Derived.Test.YtpfdbeafdjnbnaaGreatDoorL6e
import Derived.Test.YtpfdbeafdjnbnaaGreatDoorRows
namespace Go.Proofs.YtpfdbeafdjnbnaaGreatDoor
set_option linter.unusedVariables false
set_option linter.unusedSimpArgs false
set_option linter.unusedSectionVars false
set_option maxHeartbeats 4000000
set_option maxRecDepth 100000
open Go.RowKit Go.Sl
def zet (y476 : ByteArray) (lg693_0 : (List Int) → Int → (List za6) → ByteArray → (List zab) → Bool → zab → Option (za6 × Bool × zag)) (y704 : Bool) (x744 : ByteArray) (y767 : (List Int)) (y772 : Int) (y773 : (List za6)) (y778 : ByteArray) (y781 : (List zab)) : Option (za6 × Bool × zag) :=
  lg693_0 y767 y772 y773 y476 y781 y704 ({Name := x744, Value := y778} : zab)
def zeu (y476 : ByteArray) (y478 : (List zab)) (lg693_0 : (List Int) → Int → (List za6) → ByteArray → (List zab) → Bool → zab → Option (za6 × Bool × zag)) (y704 : Bool) (x744 : ByteArray) (y767 : (List Int)) (y772 : Int) (y773 : (List za6)) (y778 : ByteArray) (y780 : Bool) : Option (za6 × Bool × zag) :=
  (bif y780 then (appM 32 y478 [({Name := x744, Value := y778} : zab)]).bind fun x792 =>
  zet y476 lg693_0 y704 x744 y767 y772 y773 y778 x792 else
  zet y476 lg693_0 y704 x744 y767 y772 y773 y778 y478)
def zev (n : Nat) (y476 : ByteArray) (y478 : (List zab)) (lg693_0 : (List Int) → Int → (List za6) → ByteArray → (List zab) → Bool → zab → Option (za6 × Bool × zag)) (y704 : Bool) (x744 : ByteArray) (y767 : (List Int)) (y772 : Int) (y773 : (List za6)) (y778 : ByteArray) : Option (za6 × Bool × zag) :=
  (bif (decide ((y478.length : Int) < 64)) then (znc n y478 x744).bind fun x799 =>
  zeu y476 y478 lg693_0 y704 x744 y767 y772 y773 y778 (!x799) else
  zeu y476 y478 lg693_0 y704 x744 y767 y772 y773 y778 false)
def zcl (n : Nat) (y469 : (List za6)) (y476 : ByteArray) (y478 : (List zab)) (lg693_0 : (List Int) → Int → (List za6) → ByteArray → (List zab) → Bool → zab → Option (za6 × Bool × zag)) (lg693_1 : ByteArray → (List zab) → Bool → (List Int) → Int → (List za6) → Option (za6 × Bool × zag)) (y698 : (List Int)) (y703 : Int) (y704 : Bool) : Option (za6 × Bool × zag) :=
  (zar n ({l := y698, at_ := y703} : zaf)).bind fun x706 =>
  (bif (!x706.2.1) then none else
  (bif (decide (x706.1 = 62)) then lg693_1 y476 y478 y704 x706.2.2.l x706.2.2.at_ y469 else
  (zce n ({c := x706.2.2, out := y469} : zag) (fun z0 => ze9 n z0)).bind fun x721 =>
  (appM 4 [x706.1] x721.1).bind fun x738 =>
  (zhv n x738).bind fun x744 =>
  (zce n x721.2 (fun z0 => zgi n z0)).bind fun x746 =>
  (zdk n x746.2 0 (bs [61])).bind fun x763 =>
  (bif x763 then (zar n x746.2.c).bind fun x802 =>
  (zce n ({c := x802.2.2, out := x746.2.out} : zag) (fun z0 => zgi n z0)).bind fun x810 =>
  (zf6 n x810.2).bind fun x827 =>
  (bif (!x827.2.1) then none else
  (zdl n x827.1).bind fun x840 =>
  zev n y476 y478 lg693_0 y704 x744 x827.2.2.c.l x827.2.2.c.at_ x827.2.2.out x840) else
  zev n y476 y478 lg693_0 y704 x744 x746.2.c.l x746.2.c.at_ x746.2.out (bs []))))
def zdy (n : Nat) (y469 : (List za6)) (y476 : ByteArray) (y478 : (List zab)) (lg693_0 : (List Int) → Int → (List za6) → ByteArray → (List zab) → Bool → zab → Option (za6 × Bool × zag)) (lg693_1 : ByteArray → (List zab) → Bool → (List Int) → Int → (List za6) → Option (za6 × Bool × zag)) (y844 : (List Int)) (y849 : Int) (y850 : Bool) (y851 : Int) (lp852 : (List Int) → Int → Bool → Int → Option (za6 × Bool × zag)) (y854 : Bool) : Option (za6 × Bool × zag) :=
  (bif y854 then (zar n ({l := y844, at_ := y849} : zaf)).bind fun x856 =>
  (zbg n ({c := x856.2.2, out := y469} : zag) 0).bind fun x864 =>
  lp852 x856.2.2.l x856.2.2.at_ (decide (y851 = 47)) x864 else
  zcl n y469 y476 y478 lg693_0 lg693_1 y844 y849 y850)
def zbf (n : Nat) (y469 : (List za6)) (y476 : ByteArray) (y478 : (List zab)) (lg693_0 : (List Int) → Int → (List za6) → ByteArray → (List zab) → Bool → zab → Option (za6 × Bool × zag)) (lg693_1 : ByteArray → (List zab) → Bool → (List Int) → Int → (List za6) → Option (za6 × Bool × zag)) : Nat → (List Int) → Int → Bool → Int → Option (za6 × Bool × zag)
  | 0, _, _, _, _ => none
  | k852 + 1, y844, y849, y850, y851 =>
  (zgi n y851).bind fun x866 =>
  (bif x866 then zdy n y469 y476 y478 lg693_0 lg693_1 y844 y849 y850 y851 (zbf n y469 y476 y478 lg693_0 lg693_1 k852) true else
  zdy n y469 y476 y478 lg693_0 lg693_1 y844 y849 y850 y851 (zbf n y469 y476 y478 lg693_0 lg693_1 k852) (decide (y851 = 47)))
mutual
def zau (n : Nat) (p1 : Int) : Nat → (List Int) → Int → (List za6) → ByteArray → (List zab) → Bool → zab → Option (za6 × Bool × zag)
  | 0, _, _, _, _, _, _, _ => none
  | k693 + 1, y463, y468, y469, y476, y478, y483, y486 =>
  (zbg n ({c := ({l := y463, at_ := y468} : zaf), out := y469} : zag) 0).bind fun x694 =>
  zbf n y469 y476 y478 (zau n p1 k693) (zbe n p1 k693) n y463 y468 false x694
def zbe (n : Nat) (p1 : Int) : Nat → ByteArray → (List zab) → Bool → (List Int) → Int → (List za6) → Option (za6 × Bool × zag)
  | 0, _, _, _, _, _, _ => none
  | k869 + 1, y493, y495, y500, y501, y506, y507 =>
  (bif (decide (p1 = 3)) then some (({Kind := 3, Name := y493, Text := (bs []), Attrs := ([] : List zab), Closed := false} : za6), true,({c := ({l := y501, at_ := y506} : zaf), out := y507} : zag)) else
  some (({Kind := p1, Name := y493, Text := (bs []), Attrs := y495, Closed := y500} : za6), true,({c := ({l := y501, at_ := y506} : zaf), out := y507} : zag)))
end
def zf7 (n : Nat) (p0 : zag) (p1 : Int) : Option (za6 × Bool × zag) :=
  (zce n p0 (fun z0 => zea n z0)).bind fun x881 =>
  (zhv n x881.1).bind fun x898 =>
  zau n p1 n x881.2.c.l x881.2.c.at_ x881.2.out x898 ([] : List zab) false ({Name := (bs []), Value := (bs [])} : zab)
theorem zj7 (n : Nat) {f : Fz} {p0 : zag} {pb0 : Nat} {pv0_0 : Nat} {pv0_1 : Value} {pv0_1r : List (List Value)} {pv0_2 : Value} {pv0_2r : List (List Value)} {p1 : Int} {res : (za6 × Bool × zag)} (pv0_1h : RW (tInt .i32) f pv0_1r p0.c.l) (pv0_2h : RW zb1 f pv0_2r p0.out) (hm : zf7 n p0 p1 = some res) : Does Tryz.prog 57 [pq pb0 0, .int .i64 p1] f [.blk pb0 (.cells #[pq pv0_0 0, pv0_2] 112 (0,0)), .blk pv0_0 (.cells #[pv0_1, .int .i64 p0.c.at_] 144 (0,0)), .row pv0_1 21 1 pv0_1r, .row pv0_2 104 5 pv0_2r] (fun r f' L' => ∃ (u0 : List Value) (dp0_1 : Value) (dp0_1r : List (List Value)) (dp0_2 : Value) (dp0_2r : List (List Value)), L' = [.blk pb0 (.cells #[pq pv0_0 0, dp0_2] 112 (0,0)), .blk pv0_0 (.cells #[dp0_1, .int .i64 res.2.2.c.at_] 144 (0,0)), .row dp0_1 21 1 dp0_1r, .row dp0_2 104 5 dp0_2r] ∧ r = .tuple #[.agg u0.toArray, .bool res.2.1] ∧ zb1.R f' u0 res.1 ∧ RW (tInt .i32) f' dp0_1r res.2.2.c.l ∧ RW zb1 f' dp0_2r res.2.2.out) := by
 unfold zf7 at hm
 intro w0 L w hC
 replace hC : Cw w0 f (.blk pb0 (.cells #[pq pv0_0 0, pv0_2] 112 (0,0)) :: .blk pv0_0 (.cells #[pv0_1, .int .i64 p0.c.at_] 144 (0,0)) :: .row pv0_1 21 1 pv0_1r :: .row pv0_2 104 5 pv0_2r :: L) w := hC
 refine enter Tryz.func57 rfl Tryz.ntmps57 (by simp) hC fun a hs => ?_
 have hle := Fz.le.refl f
 refine Wq fun hK1 => zbl hs ti104 (.free rfl) (by decide) fun b7 _ _ hs => sA hs rfl fun hs => za0 <| hK1 ?_
 have hbase692 := Fz.le.refl f
 refine ztd (fun (l k : Nat) a w => (l = 0 ∧ ∃ (f461 : Fz) (y463 : (List Int)) (y468 : Int) (y469 : (List za6)) (y476 : ByteArray) (y478 : (List zab)) (y483 : Bool) (y486 : zab) (v464 : Value) (rw465 : List (List Value)) (v470 : Value) (rw471 : List (List Value)) (b475 : Nat) (v479 : Value) (rw480 : List (List Value)) (b485 : Nat) (r487 : List Value), Fz.le f f461 ∧ zau n p1 k y463 y468 y469 y476 y478 y483 y486 = some res ∧ RW (tInt .i32) f461 rw465 y463 ∧ RW zb1 f461 rw471 y469 ∧ RW zbv f461 rw480 y478 ∧ zbv.R f461 r487 y486 ∧ St 104 w0 f461 (.blk b475 (.cells #[.int .i64 (p1), .string (y476), .string ((bs [])), v479, .bool (y483)] 104 (0,0)) :: .row v479 42 2 rw480 :: .blk b485 (.cells r487.toArray 42 (0,0)) :: .blk b7 (.cells #[.int .i64 (0), .string ((bs [])), .string ((bs [])),(.slice none 0 0), .bool (false)] 104 (0,0)) :: .blk pb0 (.cells #[pq pv0_0 0, v470] 112 (0,0)) :: .blk pv0_0 (.cells #[v464, .int .i64 (y468)] 144 (0,0)) :: .row v464 21 1 rw465 :: .row v470 104 5 rw471 :: L) [(0, pq pb0 0),(1, .int .i64 (p1)),(4, pq b7 0),(6, pq b475 0),(7, pq b485 0)] a w) ∨ (l = 1 ∧ ∃ (f489 : Fz) (y493 : ByteArray) (y495 : (List zab)) (y500 : Bool) (y501 : (List Int)) (y506 : Int) (y507 : (List za6)) (b492 : Nat) (v496 : Value) (rw497 : List (List Value)) (v502 : Value) (rw503 : List (List Value)) (v508 : Value) (rw509 : List (List Value)), Fz.le f f489 ∧ zbe n p1 k y493 y495 y500 y501 y506 y507 = some res ∧ RW zbv f489 rw497 y495 ∧ RW (tInt .i32) f489 rw503 y501 ∧ RW zb1 f489 rw509 y507 ∧ St 104 w0 f489 (.blk b492 (.cells #[.int .i64 (p1), .string (y493), .string ((bs [])), v496, .bool (y500)] 104 (0,0)) :: .row v496 42 2 rw497 :: .blk b7 (.cells #[.int .i64 (0), .string ((bs [])), .string ((bs [])),(.slice none 0 0), .bool (false)] 104 (0,0)) :: .blk pb0 (.cells #[pq pv0_0 0, v508] 112 (0,0)) :: .blk pv0_0 (.cells #[v502, .int .i64 (y506)] 144 (0,0)) :: .row v502 21 1 rw503 :: .row v508 104 5 rw509 :: L) [(1, .int .i64 (p1)),(4, pq b7 0),(6, pq b492 0)] a w)) rfl ?_ ?_
 ·(try clear hs); (try clear hm)
  intro k ih l a w R hl hJ G2 hG2
  rcases hJ with ⟨rfl, hJ⟩ | ⟨rfl, hJ⟩
  ·cases hl; revert a w
   rintro a w ⟨f461, y463, y468, y469, y476, y478, y483, y486, v464, rw465, v470, rw471, b475, v479, rw480, b485, r487, hl462, hm, hW466, hW472, hW481, hq488, hs⟩
   obtain rfl : _ = ([.string (y486.Name), .string (y486.Value)] : List Value) := hq488
   have hbase692 := hl462
   cases k with
   | zero => simp [zau] at hm
   | succ k693 =>
    rw [zau] at hm
    refine Wq fun hK3 => s1 (v := pq b475 4) hs (za1 rfl (FO.of (off := 4) U104 rfl rfl ti4 (by decide))) fun hs => sstore 0 hs rfl rfl rfl ti4 rfl fun _ _ hs => za0 <| hK3 <| Ws fun hK4 => Wq fun hK5 => sM hs rfl fun hs => ?_
    obtain ⟨x694, hx695, hm⟩ := ob hm
    refine s1 hs (zec (cap := []) (Lf := .blk b475 (.cells #[.int .i64 (p1), .string (y476), .string ((bs [])), v479, .bool (false)] 104 (0,0)) :: .row v479 42 2 rw480 :: .blk b485 (.cells #[.string (y486.Name), .string (y486.Value)] 42 (0,0)) :: .blk b7 (.cells #[.int .i64 (0), .string ((bs [])), .string ((bs [])),(.slice none 0 0), .bool (false)] 104 (0,0)) :: L) rfl has51 rfl ((((zal _ 7 rfl).trans (zal _ 7 rfl)).trans (zal _ 7 rfl)).trans (zal _ 7 rfl)) (zcw n hW466 hW472 hx695)) fun hs => sA hs rfl fun hs => za0 <| hK5 ?_
    have hbase705 := Fz.le.refl f461
    refine zaq (fun a w => ∃ (f696 : Fz) (y698 : (List Int)) (y703 : Int) (y704 : Bool) (v699 : Value) (rw700 : List (List Value)), Fz.le f461 f696 ∧ zcl n y469 y476 y478 (zau n p1 k693) (zbe n p1 k693) y698 y703 y704 = some res ∧ RW (tInt .i32) f696 rw700 y698 ∧ St 104 w0 f696 (.blk b475 (.cells #[.int .i64 (p1), .string (y476), .string ((bs [])), v479, .bool (y704)] 104 (0,0)) :: .row v479 42 2 rw480 :: .blk b485 (.cells #[.string (y486.Name), .string (y486.Value)] 42 (0,0)) :: .blk b7 (.cells #[.int .i64 (0), .string ((bs [])), .string ((bs [])),(.slice none 0 0), .bool (false)] 104 (0,0)) :: .blk pb0 (.cells #[pq pv0_0 0, v470] 112 (0,0)) :: .blk pv0_0 (.cells #[v699, .int .i64 (y703)] 144 (0,0)) :: .row v699 21 1 rw700 :: .row v470 104 5 rw471 :: L) [(0, pq pb0 0),(1, .int .i64 (p1)),(4, pq b7 0),(6, pq b475 0),(7, pq b485 0)] a w) ?_ ?_
    ·clear hs hm
     clear hbase705
     rintro a w ⟨f696, y698, y703, y704, v699, rw700, hl697, hm, hW701, hs⟩
     replace hW472 := hW472.le hl697
     replace hW481 := hW481.le hl697
     replace hbase692 := hbase692.trans hl697
     unfold zcl at hm
     refine hK4 <| Wq fun hK6 => sM hs rfl fun hs => s1 hs (za5 rfl) fun hs => s1 (v := pq pb0 0) hs (za1 rfl (FO.of (off := 0) U112 rfl rfl ti109 (by decide))) fun hs => s1 (v := pq pv0_0 0) hs (y_ld rfl U109 rfl (Cell.blk (.tail _ (.tail _ (.tail _ (.tail _ (.head _))))) rfl)) fun hs => ?_
     obtain ⟨x706, hx707, hm⟩ := ob hm
     replace hs := hs.front 6
     replace hs := hs.front 6
     refine zbb (Lr := [.blk pv0_0 (.cells #[v699, .int .i64 (y703)] 144 (0,0)), .row v699 21 1 rw700]) (Lf := .blk b475 (.cells #[.int .i64 (p1), .string (y476), .string ((bs [])), v479, .bool (y704)] 104 (0,0)) :: .row v479 42 2 rw480 :: .blk b485 (.cells #[.string (y486.Name), .string (y486.Value)] 42 (0,0)) :: .blk b7 (.cells #[.int .i64 (0), .string ((bs [])), .string ((bs [])),(.slice none 0 0), .bool (false)] 104 (0,0)) :: .blk pb0 (.cells #[pq pv0_0 0, v470] 112 (0,0)) :: .row v470 104 5 rw471 :: L) hs rfl has55 rfl rfl (zb0 n hW701 hx707) (.free rfl) (by decide) ?_; clear hs; (try clear a w)
     rintro _ f708 _ a w hf709 ⟨v710, rw711, rfl, rfl, hW712⟩ hs
     replace hW472 := hW472.le hf709
     replace hW481 := hW481.le hf709
     replace hbase692 := hbase692.trans hf709
     refine sM hs rfl fun hs => s1 (v := .int .i32 (x706.1)) hs (zap rfl rfl) fun hs => s1 (v := .bool (x706.2.1)) hs (zap rfl rfl) fun hs => sA hs rfl fun hs => sA hs rfl fun hs => za0 <| hK6 <| Ws fun hK7 => Ws fun hK8 => za2 ?_
     refine sM hs rfl fun hs => s1 (v := .bool ((!x706.2.1))) hs (zfc rfl) fun hs => za0 <| hK8 ?_
     refine zah hs rfl (fun hg714 => ?_) (fun hg714 => ?_)
     ·replace hm := oc_t hg714 hm
      refine Ws fun hK9 => ?_
      cases hm
     replace hm := oc_f hg714 hm
     refine zaj <| hK7 <| Ws fun hK10 => Wq fun hK11 => sM hs rfl fun hs => s1 hs (zct rfl rfl) fun hs => za0 <| hK11 ?_
     refine zah hs rfl (fun hg715 => ?_) (fun hg715 => ?_)
     ·replace hm := oc_t hg715 hm
      refine zn1 ?_
      replace hs := hs.front 7
      replace hs := hs.front 2
      replace hs := hs.front 2
      replace hs := hs.front 7
      replace hs := hs.front 7
      replace hs := hs.front 6
      replace hs := hs.front 6
      exact hG2.at_ 1 _ _ rfl ⟨k693, Nat.lt_succ_self _,(.inr (⟨rfl, ⟨_, y476, y478, y704, x706.2.2.l, x706.2.2.at_, y469, b475, v479, rw480, v710, rw711, v470, rw471, hbase692, hm, hW481, hW712, hW472, hs.subs ⟨rfl, rfl, rfl, trivial⟩ (.cons_cons _ (.cons_cons _ (.cons_cons _ (.cons_cons _ (.cons_cons _ (.cons_cons _ (.cons_cons _ (.cons _ (.refl _)))))))))⟩⟩))⟩
     replace hm := oc_f hg715 hm
     refine zaj <| hK10 <| Wq fun hK12 => sM hs rfl fun hs => zg1 hs rfl U24 ti21 rfl rfl fun v716 _ _ hs => ?_
     have hW717 : RW (tInt .i32) f708 [[.int .i32 (x706.1)]] [x706.1] := RW.single (rfl)
     generalize hgrw718 : ([[.int .i32 (x706.1)]] : List (List Value)) = rw718 at hs hW717; clear hgrw718
     refine sM hs rfl fun hs => ?_
     obtain ⟨x721, hx722, hm⟩ := ob hm
     replace hs := hs.front 8
     replace hs := hs.front 3
     replace hs := hs.front 3
     replace hs := hs.front 8
     refine zbb (Lr := [.blk pb0 (.cells #[pq pv0_0 0, v470] 112 (0,0)), .blk pv0_0 (.cells #[v710, .int .i64 (x706.2.2.at_)] 144 (0,0)), .row v710 21 1 rw711, .row v470 104 5 rw471]) (Lf := .row v716 21 1 rw718 :: .blk b475 (.cells #[.int .i64 (p1), .string (y476), .string ((bs [])), v479, .bool (y704)] 104 (0,0)) :: .row v479 42 2 rw480 :: .blk b485 (.cells #[.string (y486.Name), .string (y486.Value)] 42 (0,0)) :: .blk b7 (.cells #[.int .i64 (0), .string ((bs [])), .string ((bs [])),(.slice none 0 0), .bool (false)] 104 (0,0)) :: L) hs rfl has87 rfl rfl (ze3 n hW712 hW472 has90 (fun f9 hle9 z0 r9  h9 => zl6 n   h9) hx722) (.free rfl) (by decide) ?_; clear hs; (try clear a w)
     rintro v725 f723 _ a w hf724 ⟨_, v729, rw730, v732, rw733, rfl, rfl, ⟨rw726, hR727, hW728⟩, hW731, hW734⟩ hs
     replace hW481 := hW481.le hf724
     replace hW717 := hW717.le hf724
     replace hbase692 := hbase692.trans hf724
     obtain ⟨x738, hx739, hm⟩ := ob hm
     obtain ⟨hbx738, hex738⟩ := zcb hx739
     have hW742 := hW717.append hW728; rw [hex738] at hW742
     refine zc9 (i := 4) hs rfl rfl rfl hR727.up U24 ti21 (by decide) (by rw [RW.len hW717, RW.len hW728]; exact hbx738) (.free rfl) (by decide) fun v740 _ _ hs => ?_
     generalize hgx738 : rw718 ++ rw726 = rw741 at hs hW742; clear hgx738
     obtain ⟨x744, hx745, hm⟩ := ob hm
     refine sy hs (zdr (cap := []) rfl has86 rfl (fun w9 hw9 => callsP (Lr := [.row v740 21 1 rw741]) (Lf := .blk pb0 (.cells #[pq pv0_0 0, v732] 112 (0,0)) :: .blk pv0_0 (.cells #[v729, .int .i64 (x721.2.c.at_)] 144 (0,0)) :: .row v729 21 1 rw730 :: .row v732 104 5 rw733 :: .blk b475 (.cells #[.int .i64 (p1), .string (y476), .string ((bs [])), v479, .bool (y704)] 104 (0,0)) :: .row v479 42 2 rw480 :: .blk b485 (.cells #[.string (y486.Name), .string (y486.Value)] 42 (0,0)) :: .blk b7 (.cells #[.int .i64 (0), .string ((bs [])), .string ((bs [])),(.slice none 0 0), .bool (false)] 104 (0,0)) :: L) (zal _ 4 rfl) hw9 (fun Lz w9 hw9 => lent0 hw9 (fun f9_0 w9 hle9_0 hRl0 hw9 => (zjz n ⟨rw741, hRl0, hW742.le hle9_0⟩ hx745) w0 _ w9 hw9)))) fun _ _ hs => s1 hs (ze4 (places := [(0,1),(1,1)]) (cs := [.string (x744), .string ((bs []))]) rfl U42 ti42 (by kernel_rfl) (by decide) rfl ⟨rfl, trivial⟩) fun hs => zb5 (i := 7) hs rfl rfl rfl ti42 ⟨rfl, rfl⟩ (AllC.arr (r := [.string (x744), .string ((bs []))]) ⟨rfl, rfl, trivial⟩) (.free rfl) fun _ _ hs => za0 <| hK12 <| Wq fun hK13 => sM hs rfl fun hs => ?_
     obtain ⟨x746, hx747, hm⟩ := ob hm
     replace hs := hs.front 3
     replace hs := hs.front 3
     replace hs := hs.front 3
     replace hs := hs.front 3
     refine zbb (Lr := [.blk pb0 (.cells #[pq pv0_0 0, v732] 112 (0,0)), .blk pv0_0 (.cells #[v729, .int .i64 (x721.2.c.at_)] 144 (0,0)), .row v729 21 1 rw730, .row v732 104 5 rw733]) (Lf := .row v740 21 1 rw741 :: .blk b475 (.cells #[.int .i64 (p1), .string (y476), .string ((bs [])), v479, .bool (y704)] 104 (0,0)) :: .row v479 42 2 rw480 :: .blk b485 (.cells #[.string (x744), .string ((bs []))] 42 (0,0)) :: .blk b7 (.cells #[.int .i64 (0), .string ((bs [])), .string ((bs [])),(.slice none 0 0), .bool (false)] 104 (0,0)) :: L) hs rfl has87 rfl rfl (ze3 n hW731 hW734 has89 (fun f9 hle9 z0 r9  h9 => zhh n   h9) hx747) (.free rfl) (by decide) ?_; clear hs; (try clear a w)
     rintro v750 f748 _ a w hf749 ⟨_, v754, rw755, v757, rw758, rfl, rfl, ⟨rw751, hR752, hW753⟩, hW756, hW759⟩ hs
     replace hW481 := hW481.le hf749
     replace hbase692 := hbase692.trans hf749
     refine za0 <| hK13 <| Ws fun hK14 => Wq fun hK15 => sM hs rfl fun hs => ?_
     obtain ⟨x763, hx764, hm⟩ := ob hm
     refine s1 hs (zec (cap := []) (Lf := .row v740 21 1 rw741 :: .blk b475 (.cells #[.int .i64 (p1), .string (y476), .string ((bs [])), v479, .bool (y704)] 104 (0,0)) :: .row v479 42 2 rw480 :: .blk b485 (.cells #[.string (x744), .string ((bs []))] 42 (0,0)) :: .blk b7 (.cells #[.int .i64 (0), .string ((bs [])), .string ((bs [])),(.slice none 0 0), .bool (false)] 104 (0,0)) :: L) rfl has52 rfl ((((zal _ 3 rfl).trans (zal _ 3 rfl)).trans (zal _ 3 rfl)).trans (zal _ 3 rfl)) (zhw n hW756 hW759 hx764)) fun hs => za0 <| hK15 ?_
     have hbase779 := Fz.le.refl f748
     refine zaq (fun a w => ∃ (f765 : Fz) (y767 : (List Int)) (y772 : Int) (y773 : (List za6)) (y778 : ByteArray) (v768 : Value) (rw769 : List (List Value)) (v774 : Value) (rw775 : List (List Value)), Fz.le f748 f765 ∧ zev n y476 y478 (zau n p1 k693) y704 x744 y767 y772 y773 y778 = some res ∧ RW (tInt .i32) f765 rw769 y767 ∧ RW zb1 f765 rw775 y773 ∧ St 104 w0 f765 (.blk pb0 (.cells #[pq pv0_0 0, v774] 112 (0,0)) :: .blk pv0_0 (.cells #[v768, .int .i64 (y772)] 144 (0,0)) :: .row v768 21 1 rw769 :: .row v774 104 5 rw775 :: .blk b475 (.cells #[.int .i64 (p1), .string (y476), .string ((bs [])), v479, .bool (y704)] 104 (0,0)) :: .row v479 42 2 rw480 :: .blk b485 (.cells #[.string (x744), .string (y778)] 42 (0,0)) :: .blk b7 (.cells #[.int .i64 (0), .string ((bs [])), .string ((bs [])),(.slice none 0 0), .bool (false)] 104 (0,0)) :: L) [(0, pq pb0 0),(1, .int .i64 (p1)),(4, pq b7 0),(6, pq b475 0),(7, pq b485 0)] a w) ?_ ?_
     ·clear hs hm
      clear hbase779
      rintro a w ⟨f765, y767, y772, y773, y778, v768, rw769, v774, rw775, hl766, hm, hW770, hW776, hs⟩
      replace hW481 := hW481.le hl766
      replace hbase692 := hbase692.trans hl766
      unfold zev at hm
      refine hK14 <| Ws fun hK16 => Ws fun hK17 => ?_
      refine zaq (fun a w => ∃ (y780 : Bool), zeu y476 y478 (zau n p1 k693) y704 x744 y767 y772 y773 y778 y780 = some res ∧ St 104 w0 f765 (.blk pb0 (.cells #[pq pv0_0 0, v774] 112 (0,0)) :: .blk pv0_0 (.cells #[v768, .int .i64 (y772)] 144 (0,0)) :: .row v768 21 1 rw769 :: .row v774 104 5 rw775 :: .blk b475 (.cells #[.int .i64 (p1), .string (y476), .string ((bs [])), v479, .bool (y704)] 104 (0,0)) :: .row v479 42 2 rw480 :: .blk b485 (.cells #[.string (x744), .string (y778)] 42 (0,0)) :: .blk b7 (.cells #[.int .i64 (0), .string ((bs [])), .string ((bs [])),(.slice none 0 0), .bool (false)] 104 (0,0)) :: L) [(0, pq pb0 0),(1, .int .i64 (p1)),(4, pq b7 0),(6, pq b475 0),(7, pq b485 0),(91, .bool (y780))] a w) ?_ ?_
      ·clear hs hm
       rintro a w ⟨y780, hm, hs⟩
       unfold zeu at hm
       refine hK17 ?_
       refine zaq (fun a w => ∃ (y781 : (List zab)) (v782 : Value) (rw783 : List (List Value)), zet y476 (zau n p1 k693) y704 x744 y767 y772 y773 y778 y781 = some res ∧ RW zbv f765 rw783 y781 ∧ St 104 w0 f765 (.blk pb0 (.cells #[pq pv0_0 0, v774] 112 (0,0)) :: .blk pv0_0 (.cells #[v768, .int .i64 (y772)] 144 (0,0)) :: .row v768 21 1 rw769 :: .row v774 104 5 rw775 :: .blk b475 (.cells #[.int .i64 (p1), .string (y476), .string ((bs [])), v782, .bool (y704)] 104 (0,0)) :: .row v782 42 2 rw783 :: .blk b485 (.cells #[.string (x744), .string (y778)] 42 (0,0)) :: .blk b7 (.cells #[.int .i64 (0), .string ((bs [])), .string ((bs [])),(.slice none 0 0), .bool (false)] 104 (0,0)) :: L) [(0, pq pb0 0),(1, .int .i64 (p1)),(4, pq b7 0),(6, pq b475 0),(7, pq b485 0)] a w) ?_ ?_
       ·clear hs hm
        rintro a w ⟨y781, v782, rw783, hm, hW784, hs⟩
        unfold zet at hm
        refine hK16 <| Ws fun hK18 => zn1 ?_
        replace hs := hs.front 3
        replace hs := hs.front 3
        replace hs := hs.front 3
        replace hs := hs.front 3
        replace hs := hs.front 7
        replace hs := hs.front 7
        replace hs := hs.front 7
        replace hs := hs.front 7
        exact hG2.at_ 0 _ _ rfl ⟨k693, Nat.lt_succ_self _,(.inl ⟨rfl, ⟨_, y767, y772, y773, y476, y781, y704,({Name := x744, Value := y778} : zab), v768, rw769, v774, rw775, b475, v782, rw783, b485,[.string (x744), .string (y778)], hbase692, hm, hW770, hW776, hW784, rfl, hs.sub ⟨rfl, rfl, rfl, rfl, rfl, trivial⟩⟩⟩)⟩
       refine zah hs rfl (fun hg786 => ?_) (fun hg786 => ?_)
       ·replace hm := oc_t hg786 hm
        refine za2 <| s1 (v := pq b475 3) hs (za1 rfl (FO.of (off := 3) U104 rfl rfl ti43 (by decide))) fun hs => s1 (v := v479) hs (y_ld rfl U43 rfl (Cell.blk (.tail _ (.tail _ (.tail _ (.tail _ (.head _))))) rfl)) fun hs => s1 hs (zj3 rfl U42 rfl ti42 (.tail _ (.tail _ (.tail _ (.tail _ (.tail _ (.tail _ (.head _))))))) rfl) fun hs => zka hs rfl U43 ti42 (by decide) (AllC.row ⟨rfl, rfl, trivial⟩ rfl) fun v787 _ _ hs => ?_
        have hW788 : RW zbv f765 [[.string (x744), .string (y778)]] [({Name := x744, Value := y778} : zab)] := RW.single (rfl)
        generalize hgrw789 : ([[.string (x744), .string (y778)]] : List (List Value)) = rw789 at hs hW788; clear hgrw789
        obtain ⟨x792, hx793, hm⟩ := ob hm
        obtain ⟨hbx792, hex792⟩ := zcb hx793
        have hW796 := hW481.append hW788; rw [hex792] at hW796
        refine zc9 (i := 6) hs rfl rfl rfl (Rd.st hs (.head _)) U43 ti42 (by decide) (by rw [RW.len hW481, RW.len hW788]; exact hbx792) (.free rfl) (by decide) fun v794 _ _ hs => ?_
        generalize hgx792 : rw480 ++ rw789 = rw795 at hs hW796; clear hgx792
        replace hs := hs.erase 0
        refine s1 (v := pq b475 3) hs (za1 rfl (FO.of (off := 3) U104 rfl rfl ti43 (by decide))) fun hs => sstore 4 hs rfl rfl rfl ti43 ((hs.one (i := 5) rfl)) fun _ _ hs => za0 ?_
        exact ⟨x792, v794, rw795, hm, hW796, hs.sub ⟨rfl, rfl, rfl, rfl, rfl, trivial⟩⟩
       replace hm := oc_f hg786 hm
       refine zaj ?_
       exact ⟨y478, v479, rw480, hm, hW481, hs.sub ⟨rfl, rfl, rfl, rfl, rfl, trivial⟩⟩
      refine za2 <| s1 (v := pq b475 3) hs (za1 rfl (FO.of (off := 3) U104 rfl rfl ti43 (by decide))) fun hs => s1 (v := v479) hs (y_ld rfl U43 rfl (Cell.blk (.tail _ (.tail _ (.tail _ (.tail _ (.head _))))) rfl)) fun hs => s1 hs (zc3 (Rd.st hs (.tail _ (.tail _ (.tail _ (.tail _ (.tail _ (.head _))))))) hW481 rfl U43) fun hs => s1 hs (zgq rfl rfl) fun hs => sM hs rfl fun hs => ?_
      refine St.split hs (t := 84) rfl (fun hg798 hs => ?_) (fun hg798 hs => ?_)
      ·replace hm := oc_t hg798 hm
       refine s2 (v := pq b475 3) hs (za1 rfl (FO.of (off := 3) U104 rfl rfl ti43 (by decide))) fun hs => s2 (v := v479) hs (y_ld rfl U43 rfl (Cell.blk (.tail _ (.tail _ (.tail _ (.tail _ (.head _))))) rfl)) fun hs => s2 (v := pq b485 0) hs (za1 rfl (FO.of (off := 0) U42 rfl rfl ti9 (by decide))) fun hs => s2 (v := .string (x744)) hs (y_ld rfl U9 rfl (Cell.blk (.tail _ (.tail _ (.tail _ (.tail _ (.tail _ (.tail _ (.head _))))))) rfl)) fun hs => ?_
       obtain ⟨x799, hx800, hm⟩ := ob hm
       refine syg hs (zdr (cap := []) rfl has92 rfl (fun w9 hw9 => callsP (Lr := [.row v479 42 2 rw480]) (Lf := .blk pb0 (.cells #[pq pv0_0 0, v774] 112 (0,0)) :: .blk pv0_0 (.cells #[v768, .int .i64 (y772)] 144 (0,0)) :: .row v768 21 1 rw769 :: .row v774 104 5 rw775 :: .blk b475 (.cells #[.int .i64 (p1), .string (y476), .string ((bs [])), v479, .bool (y704)] 104 (0,0)) :: .blk b485 (.cells #[.string (x744), .string (y778)] 42 (0,0)) :: .blk b7 (.cells #[.int .i64 (0), .string ((bs [])), .string ((bs [])),(.slice none 0 0), .bool (false)] 104 (0,0)) :: L) (zal _ 5 rfl) hw9 (fun Lz w9 hw9 => lent0 hw9 (fun f9_0 w9 hle9_0 hRl0 hw9 => (zsb n ⟨rw480, hRl0, hW481.le hle9_0⟩ hx800) w0 _ w9 hw9)))) fun _ _ hs => s2 (v := .bool ((!x799))) hs (zfc rfl) fun hs => sP hs rfl rfl fun hs => za0 ?_
       exact ⟨(!x799), hm, hs.sub ⟨rfl, rfl, rfl, rfl, rfl, rfl, trivial⟩⟩
      replace hm := oc_f hg798 hm
      refine s3 hs fun hs => s3 hs fun hs => s3 hs fun hs => s3 hs fun hs => s3 hs fun hs => s3 hs fun hs => sP hs rfl rfl fun hs => za0 ?_
      exact ⟨false, hm, hs.sub ⟨rfl, rfl, rfl, rfl, rfl, rfl, trivial⟩⟩
     refine zah hs rfl (fun hg801 => ?_) (fun hg801 => ?_)
     ·replace hm := oc_t hg801 hm
      refine Wq fun hK19 => sM hs rfl fun hs => s1 hs (za5 rfl) fun hs => s1 (v := pq pb0 0) hs (za1 rfl (FO.of (off := 0) U112 rfl rfl ti109 (by decide))) fun hs => s1 (v := pq pv0_0 0) hs (y_ld rfl U109 rfl (Cell.blk (.head _) rfl)) fun hs => ?_
      obtain ⟨x802, hx803, hm⟩ := ob hm
      replace hs := hs.front 2
      replace hs := hs.front 2
      refine zbb (Lr := [.blk pv0_0 (.cells #[v754, .int .i64 (x746.2.c.at_)] 144 (0,0)), .row v754 21 1 rw755]) (Lf := .blk pb0 (.cells #[pq pv0_0 0, v757] 112 (0,0)) :: .row v757 104 5 rw758 :: .row v740 21 1 rw741 :: .blk b475 (.cells #[.int .i64 (p1), .string (y476), .string ((bs [])), v479, .bool (y704)] 104 (0,0)) :: .row v479 42 2 rw480 :: .blk b485 (.cells #[.string (x744), .string ((bs []))] 42 (0,0)) :: .blk b7 (.cells #[.int .i64 (0), .string ((bs [])), .string ((bs [])),(.slice none 0 0), .bool (false)] 104 (0,0)) :: L) hs rfl has55 rfl rfl (zb0 n hW756 hx803) (.free rfl) (by decide) ?_; clear hs; (try clear a w)
      rintro _ f804 _ a w hf805 ⟨v806, rw807, rfl, rfl, hW808⟩ hs
      replace hW759 := hW759.le hf805
      replace hbase779 := hbase779.trans hf805
      refine za0 <| hK19 <| Wq fun hK20 => sM hs rfl fun hs => ?_
      obtain ⟨x810, hx811, hm⟩ := ob hm
      replace hs := hs.front 3
      replace hs := hs.front 2
      replace hs := hs.front 2
      replace hs := hs.front 3
      refine zbb (Lr := [.blk pb0 (.cells #[pq pv0_0 0, v757] 112 (0,0)), .blk pv0_0 (.cells #[v806, .int .i64 (x802.2.2.at_)] 144 (0,0)), .row v806 21 1 rw807, .row v757 104 5 rw758]) (Lf := .row v740 21 1 rw741 :: .blk b475 (.cells #[.int .i64 (p1), .string (y476), .string ((bs [])), v479, .bool (y704)] 104 (0,0)) :: .row v479 42 2 rw480 :: .blk b485 (.cells #[.string (x744), .string ((bs []))] 42 (0,0)) :: .blk b7 (.cells #[.int .i64 (0), .string ((bs [])), .string ((bs [])),(.slice none 0 0), .bool (false)] 104 (0,0)) :: L) hs rfl has87 rfl rfl (ze3 n (f := f804) (p0 := ({c := x802.2.2, out := x746.2.out} : zag)) (pb0 := pb0) (pv0_0 := pv0_0) (pv0_1 := v806) (pv0_1r := rw807) (pv0_2 := v757) (pv0_2r := rw758) (g1 := 89) (cap1 := []) hW808 hW759 has89 (fun f9 hle9 z0 r9  h9 => zhh n (f := f9)   h9) hx811) (.free rfl) (by decide) ?_; clear hs; (try clear a w)
      rintro v814 f812 _ a w hf813 ⟨_, v818, rw819, v821, rw822, rfl, rfl, ⟨rw815, hR816, hW817⟩, hW820, hW823⟩ hs
      replace hbase779 := hbase779.trans hf813
      refine za0 <| hK20 <| Wq fun hK21 => sM hs rfl fun hs => ?_
      obtain ⟨x827, hx828, hm⟩ := ob hm
      replace hs := hs.front 3
      replace hs := hs.front 3
      replace hs := hs.front 3
      replace hs := hs.front 3
      refine zbb (Lr := [.blk pb0 (.cells #[pq pv0_0 0, v821] 112 (0,0)), .blk pv0_0 (.cells #[v818, .int .i64 (x810.2.c.at_)] 144 (0,0)), .row v818 21 1 rw819, .row v821 104 5 rw822]) (Lf := .row v740 21 1 rw741 :: .blk b475 (.cells #[.int .i64 (p1), .string (y476), .string ((bs [])), v479, .bool (y704)] 104 (0,0)) :: .row v479 42 2 rw480 :: .blk b485 (.cells #[.string (x744), .string ((bs []))] 42 (0,0)) :: .blk b7 (.cells #[.int .i64 (0), .string ((bs [])), .string ((bs [])),(.slice none 0 0), .bool (false)] 104 (0,0)) :: L) hs rfl has91 rfl rfl (zl5 n hW820 hW823 hx828) (.free rfl) (by decide) ?_; clear hs; (try clear a w)
      rintro _ f829 _ a w hf830 ⟨v831, rw832, v834, rw835, rfl, rfl, hW833, hW836⟩ hs
      replace hbase779 := hbase779.trans hf830
      refine sM hs rfl fun hs => s1 (v := .string (x827.1)) hs (zap rfl rfl) fun hs => s1 (v := .bool (x827.2.1)) hs (zap rfl rfl) fun hs => s1 (v := pq b485 1) hs (za1 rfl (FO.of (off := 1) U42 rfl rfl ti9 (by decide))) fun hs => sstore 7 hs rfl rfl rfl ti9 rfl fun _ _ hs => sA hs rfl fun hs => za0 <| hK21 <| Ws fun hK22 => Ws fun hK23 => ?_
      refine za2 <| sM hs rfl fun hs => s1 (v := .bool ((!x827.2.1))) hs (zfc rfl) fun hs => za0 <| hK23 ?_
      refine zah hs rfl (fun hg839 => ?_) (fun hg839 => ?_)
      ·replace hm := oc_t hg839 hm
       refine Ws fun hK24 => ?_
       cases hm
      replace hm := oc_f hg839 hm
      refine zaj <| hK22 <| za2 <| s1 (v := pq b485 1) hs (za1 rfl (FO.of (off := 1) U42 rfl rfl ti9 (by decide))) fun hs => s1 (v := .string (x827.1)) hs (y_ld rfl U9 rfl (Cell.blk (.tail _ (.tail _ (.tail _ (.tail _ (.tail _ (.tail _ (.tail _ (.head _)))))))) rfl)) fun hs => ?_
      obtain ⟨x840, hx841, hm⟩ := ob hm
      refine s1 hs (zbi rfl has56 rfl (zkb n  hx841)) fun hs => s1 (v := pq b485 1) hs (za1 rfl (FO.of (off := 1) U42 rfl rfl ti9 (by decide))) fun hs => sstore 7 hs rfl rfl rfl ti9 rfl fun _ _ hs => za0 ?_
      exact ⟨_, x827.2.2.c.l, x827.2.2.c.at_, x827.2.2.out, x840, v831, rw832, v834, rw835, hbase779, hm, hW833, hW836, hs.subs ⟨rfl, rfl, rfl, rfl, rfl, trivial⟩ (.cons_cons _ (.cons_cons _ (.cons_cons _ (.cons_cons _ (.cons _ (.cons_cons _ (.cons_cons _ (.cons_cons _ (.cons_cons _ (.refl _))))))))))⟩
     replace hm := oc_f hg801 hm
     refine zaj ?_
     exact ⟨_, x746.2.c.l, x746.2.c.at_, x746.2.out,(bs []), v754, rw755, v757, rw758,(Fz.le.refl _), hm, hW756, hW759, hs.subs ⟨rfl, rfl, rfl, rfl, rfl, trivial⟩ (.cons_cons _ (.cons_cons _ (.cons_cons _ (.cons_cons _ (.cons _ (.cons_cons _ (.cons_cons _ (.cons_cons _ (.cons_cons _ (.refl _))))))))))⟩
    refine zam fun Qe25 hB25 hO25 => ?_
    have hbase := Fz.le.refl f461
    refine zd1 (fun (k : Nat) a w => ∃ (f842 : Fz) (y844 : (List Int)) (y849 : Int) (y850 : Bool) (y851 : Int) (v845 : Value) (rw846 : List (List Value)), Fz.le f461 f842 ∧ zbf n y469 y476 y478 (zau n p1 k693) (zbe n p1 k693) k y844 y849 y850 y851 = some res ∧ RW (tInt .i32) f842 rw846 y844 ∧ St 104 w0 f842 (.blk b475 (.cells #[.int .i64 (p1), .string (y476), .string ((bs [])), v479, .bool (y850)] 104 (0,0)) :: .row v479 42 2 rw480 :: .blk b485 (.cells #[.string (y486.Name), .string (y486.Value)] 42 (0,0)) :: .blk b7 (.cells #[.int .i64 (0), .string ((bs [])), .string ((bs [])),(.slice none 0 0), .bool (false)] 104 (0,0)) :: .blk pb0 (.cells #[pq pv0_0 0, v470] 112 (0,0)) :: .blk pv0_0 (.cells #[v845, .int .i64 (y849)] 144 (0,0)) :: .row v845 21 1 rw846 :: .row v470 104 5 rw471 :: L) [(0, pq pb0 0),(1, .int .i64 (p1)),(4, pq b7 0),(6, pq b475 0),(7, pq b485 0),(10, .int .i32 (y851))] a w) (fun k => k) n ⟨_, y463, y468, false, x694, v464, rw465,(Fz.le.refl _), hm, hW466, hs.sub ⟨rfl, rfl, rfl, rfl, rfl, rfl, trivial⟩⟩ ?_
    clear hs hm
    intro k
    rintro a w ⟨f842, y844, y849, y850, y851, v845, rw846, hl843, hm, hW847, hs⟩
    replace hW472 := hW472.le hl843
    replace hbase705 := hbase705.trans hl843
    intro K26 hK26
    cases k with
    | zero => simp [zbf] at hm
    | succ k852 =>
     rw [zbf] at hm
     have hbase853 := hl843
     refine Ws fun hK27 => Ws fun hK28 => ?_
     refine zaq (fun a w => ∃ (y854 : Bool), zdy n y469 y476 y478 (zau n p1 k693) (zbe n p1 k693) y844 y849 y850 y851 (zbf n y469 y476 y478 (zau n p1 k693) (zbe n p1 k693) k852) y854 = some res ∧ St 104 w0 f842 (.blk b475 (.cells #[.int .i64 (p1), .string (y476), .string ((bs [])), v479, .bool (y850)] 104 (0,0)) :: .row v479 42 2 rw480 :: .blk b485 (.cells #[.string (y486.Name), .string (y486.Value)] 42 (0,0)) :: .blk b7 (.cells #[.int .i64 (0), .string ((bs [])), .string ((bs [])),(.slice none 0 0), .bool (false)] 104 (0,0)) :: .blk pb0 (.cells #[pq pv0_0 0, v470] 112 (0,0)) :: .blk pv0_0 (.cells #[v845, .int .i64 (y849)] 144 (0,0)) :: .row v845 21 1 rw846 :: .row v470 104 5 rw471 :: L) [(0, pq pb0 0),(1, .int .i64 (p1)),(4, pq b7 0),(6, pq b475 0),(7, pq b485 0),(10, .int .i32 (y851)),(25, .bool (y854))] a w) ?_ ?_
     ·clear hs hm
      rintro a w ⟨y854, hm, hs⟩
      unfold zdy at hm
      refine hK28 ?_
      refine zah hs rfl (fun hg855 => ?_) (fun hg855 => ?_)
      ·replace hm := oc_t hg855 hm
       refine zaj <| hK27 <| Ws fun hK29 => zam fun Qe30 hB30 hO30 => Wq fun hK31 => sM hs rfl fun hs => s1 hs (zct rfl rfl) fun hs => s1 (v := pq b475 4) hs (za1 rfl (FO.of (off := 4) U104 rfl rfl ti4 (by decide))) fun hs => sstore 0 hs rfl rfl rfl ti4 rfl fun _ _ hs => ?_
       refine za0 <| hK31 <| za2 <| sM hs rfl fun hs => s1 hs (za5 rfl) fun hs => s1 (v := pq pb0 0) hs (za1 rfl (FO.of (off := 0) U112 rfl rfl ti109 (by decide))) fun hs => s1 (v := pq pv0_0 0) hs (y_ld rfl U109 rfl (Cell.blk (.tail _ (.tail _ (.tail _ (.tail _ (.head _))))) rfl)) fun hs => ?_
       obtain ⟨x856, hx857, hm⟩ := ob hm
       replace hs := hs.front 6
       replace hs := hs.front 6
       refine zbb (Lr := [.blk pv0_0 (.cells #[v845, .int .i64 (y849)] 144 (0,0)), .row v845 21 1 rw846]) (Lf := .blk b475 (.cells #[.int .i64 (p1), .string (y476), .string ((bs [])), v479, .bool (decide (y851 = 47))] 104 (0,0)) :: .row v479 42 2 rw480 :: .blk b485 (.cells #[.string (y486.Name), .string (y486.Value)] 42 (0,0)) :: .blk b7 (.cells #[.int .i64 (0), .string ((bs [])), .string ((bs [])),(.slice none 0 0), .bool (false)] 104 (0,0)) :: .blk pb0 (.cells #[pq pv0_0 0, v470] 112 (0,0)) :: .row v470 104 5 rw471 :: L) hs rfl has55 rfl rfl (zb0 n hW847 hx857) (.free rfl) (by decide) ?_; clear hs; (try clear a w)
       rintro _ f858 _ a w hf859 ⟨v860, rw861, rfl, rfl, hW862⟩ hs
       replace hW472 := hW472.le hf859
       replace hbase853 := hbase853.trans hf859
       refine za0 <| hK29 <| za2 <| sM hs rfl fun hs => ?_
       obtain ⟨x864, hx865, hm⟩ := ob hm
       refine s1 hs (zec (cap := []) (Lf := .blk b475 (.cells #[.int .i64 (p1), .string (y476), .string ((bs [])), v479, .bool (decide (y851 = 47))] 104 (0,0)) :: .row v479 42 2 rw480 :: .blk b485 (.cells #[.string (y486.Name), .string (y486.Value)] 42 (0,0)) :: .blk b7 (.cells #[.int .i64 (0), .string ((bs [])), .string ((bs [])),(.slice none 0 0), .bool (false)] 104 (0,0)) :: L) rfl has51 rfl ((((zal _ 7 rfl).trans (zal _ 2 rfl)).trans (zal _ 2 rfl)).trans (zal _ 7 rfl)) (zcw n hW862 hW472 hx865)) fun hs => sA hs rfl fun hs => za0 ?_
       replace hs := hs.front 7
       replace hs := hs.front 2
       replace hs := hs.front 2
       replace hs := hs.front 7
       replace hs := hs.front 7
       replace hs := hs.front 7
       replace hs := hs.front 7
       replace hs := hs.front 7
       exact hK26 k852 _ _ (Nat.lt_succ_self _) ⟨_, x856.2.2.l, x856.2.2.at_, decide (y851 = 47), x864, v860, rw861, hbase853, hm, hW862, hs.sub ⟨rfl, rfl, rfl, rfl, rfl, rfl, trivial⟩⟩
      replace hm := oc_f hg855 hm
      refine zc0 <| hB25 _ _ ?_
      exact ⟨_, y844, y849, y850, v845, rw846, hbase705, hm, hW847, hs.sub ⟨rfl, rfl, rfl, rfl, rfl, trivial⟩⟩
     refine za2 <| sM hs rfl fun hs => ?_
     obtain ⟨x866, hx867, hm⟩ := ob hm
     refine s1 hs (zbi rfl has89 rfl (zhh n  hx867)) fun hs => sM hs rfl fun hs => ?_
     refine St.split hs (t := 22) rfl (fun hg868 hs => ?_) (fun hg868 hs => ?_)
     ·replace hm := oc_t hg868 hm
      refine s3 hs fun hs => s3 hs fun hs => sP hs rfl rfl fun hs => za0 ?_
      exact ⟨true, hm, hs.sub ⟨rfl, rfl, rfl, rfl, rfl, rfl, rfl, trivial⟩⟩
     replace hm := oc_f hg868 hm
     refine s2 (v := .int .i32 (y851)) hs (za3 rfl) fun hs => s2 hs (zct rfl rfl) fun hs => sP hs rfl rfl fun hs => za0 ?_
     exact ⟨decide (y851 = 47), hm, hs.sub ⟨rfl, rfl, rfl, rfl, rfl, rfl, rfl, trivial⟩⟩
  cases hl; revert a w
  rintro a w ⟨f489, y493, y495, y500, y501, y506, y507, b492, v496, rw497, v502, rw503, v508, rw509, hl490, hm, hW498, hW504, hW510, hs⟩
  replace hle := hle.trans hl490
  have hbase692 := hl490
  cases k with
  | zero => simp [zbe] at hm
  | succ k869 =>
   rw [zbe] at hm
   refine Ws fun hK32 => Wq fun hK33 => sM hs rfl fun hs => s1 hs (zct rfl rfl) fun hs => za0 <| hK33 ?_
   refine zah hs rfl (fun hg870 => ?_) (fun hg870 => ?_)
   ·replace hm := oc_t hg870 hm
    refine Wq fun hK34 => s1 (v := pq b492 1) hs (za1 rfl (FO.of (off := 1) U104 rfl rfl ti9 (by decide))) fun hs => s1 (v := .string (y493)) hs (y_ld rfl U9 rfl (Cell.blk (.head _) rfl)) fun hs => s1 hs (ze4 (places := [(0,1),(1,1),(2,1),(3,1),(4,1)]) (cs := [.int .i64 (3), .string (y493), .string ((bs [])),(.slice none 0 0), .bool (false)]) rfl U104 ti104 (by kernel_rfl) (by decide) rfl ⟨rfl, rfl, trivial⟩) fun hs => zb5 (i := 2) hs rfl rfl rfl ti104 ⟨rfl, rfl⟩ (AllC.arr (r := [.int .i64 (3), .string (y493), .string ((bs [])),(.slice none 0 0), .bool (false)]) ⟨rfl, rfl, rfl, rfl, rfl, trivial⟩) (.free rfl) fun _ _ hs => sA hs rfl fun hs => za0 <| hK34 <| zax ?_
    obtain rfl := Option.some.inj hm
    refine RtV2 hs rfl (rv_a hs rfl U104 rfl ti104 (fun j u hj => Cell.blk (.tail _ (.tail _ (.head _))) hj) rfl) (rv_t hs rfl) ?_
    exact ⟨_, f489,[.blk pb0 (.cells #[pq pv0_0 0, v508] 112 (0,0)), .blk pv0_0 (.cells #[v502, .int .i64 (y506)] 144 (0,0)), .row v502 21 1 rw503, .row v508 104 5 rw509], rfl, hle,(hs.subL (.cons _ (.cons _ (.cons _ (.cons_cons _ (.cons_cons _ (.cons_cons _ (.cons_cons _ (.refl _))))))))).cw,[.int .i64 (3), .string (y493), .string ((bs [])),(.slice none 0 0), .bool (false)], v502, rw503, v508, rw509, rfl, rfl, ⟨_, rfl, RS.nil⟩, hW504, hW510⟩
   replace hm := oc_f hg870 hm
   refine zaj <| hK32 <| Wq fun hK35 => s1 hs (zj3 rfl U104 rfl ti104 (.head _) rfl) fun hs => zb5 (i := 2) hs rfl rfl rfl ti104 ⟨rfl, rfl⟩ (AllC.arr (r := [.int .i64 (p1), .string (y493), .string ((bs [])), v496, .bool (y500)]) ⟨rfl, rfl, rfl,(hs.one (i := 1) rfl), rfl, trivial⟩) (.free rfl) fun _ _ hs => sA hs rfl fun hs => za0 <| hK35 <| zax ?_
   obtain ⟨f872, hf873, hs2, hR874⟩ := hs.frzAt 1 rfl
   clear hs; have hs := hs2; clear hs2
   replace hW498 := hW498.le hf873
   replace hW504 := hW504.le hf873
   replace hW510 := hW510.le hf873
   replace hle := hle.trans hf873
   obtain rfl := Option.some.inj hm
   refine RtV2 hs rfl (rv_a hs rfl U104 rfl ti104 (fun j u hj => Cell.blk (.tail _ (.head _)) hj) rfl) (rv_t hs rfl) ?_
   exact ⟨_, f872,[.blk pb0 (.cells #[pq pv0_0 0, v508] 112 (0,0)), .blk pv0_0 (.cells #[v502, .int .i64 (y506)] 144 (0,0)), .row v502 21 1 rw503, .row v508 104 5 rw509], rfl, hle,(hs.subL (.cons _ (.cons _ (.cons_cons _ (.cons_cons _ (.cons_cons _ (.cons_cons _ (.refl _)))))))).cw,[.int .i64 (p1), .string (y493), .string ((bs [])), v496, .bool (y500)], v502, rw503, v508, rw509, rfl, rfl, ⟨_, rfl, ⟨rw497, hR874, hW498⟩⟩, hW504, hW510⟩
 intro hB2g G2 hG2
 refine Wq fun hK36 => sM hs rfl fun hs => s1 hs (ze4 (places := [(0,1),(1,1),(2,1),(3,1),(4,1)]) (cs := [.int .i64 (p1), .string ((bs [])), .string ((bs [])),(.slice none 0 0), .bool (false)]) rfl U104 ti104 (by kernel_rfl) (by decide) rfl ⟨rfl, trivial⟩) fun hs => zbl hs ti104 (.free rfl) (by decide) fun b876 _ _ hs => zb5 (i := 0) hs rfl rfl rfl ti104 ⟨rfl, rfl⟩ (AllC.arr (r := [.int .i64 (p1), .string ((bs [])), .string ((bs [])),(.slice none 0 0), .bool (false)]) ⟨rfl, rfl, rfl, rfl, rfl, trivial⟩) (.free rfl) fun _ _ hs => za0 <| hK36 <| Ws fun hK37 => za2 ?_
 refine zbl hs ti42 (.free rfl) (by decide) fun b879 _ _ hs => za0 <| hK37 <| Wq fun hK38 => sA hs rfl fun hs => za0 <| hK38 <| Ws fun hK39 => za2 ?_
 refine sA hs rfl fun hs => za0 <| hK39 <| Wq fun hK40 => sM hs rfl fun hs => ?_
 obtain ⟨x881, hx882, hm⟩ := ob hm
 replace hs := hs.front 6
 replace hs := hs.front 6
 replace hs := hs.front 6
 replace hs := hs.front 6
 refine zbb (Lr := [.blk pb0 (.cells #[pq pv0_0 0, pv0_2] 112 (0,0)), .blk pv0_0 (.cells #[pv0_1, .int .i64 (p0.c.at_)] 144 (0,0)), .row pv0_1 21 1 pv0_1r, .row pv0_2 104 5 pv0_2r]) (Lf := .blk b879 (.cells #[.string ((bs [])), .string ((bs []))] 42 (0,0)) :: .blk b876 (.cells #[.int .i64 (p1), .string ((bs [])), .string ((bs [])),(.slice none 0 0), .bool (false)] 104 (0,0)) :: .blk b7 (.cells #[.int .i64 (0), .string ((bs [])), .string ((bs [])),(.slice none 0 0), .bool (false)] 104 (0,0)) :: L) hs rfl has87 rfl rfl (ze3 n pv0_1h pv0_2h has88 (fun f9 hle9 z0 r9  h9 => zl7 n   h9) hx882) (.free rfl) (by decide) ?_; clear hs; (try clear a w)
 rintro v885 f883 _ a w hf884 ⟨_, v889, rw890, v892, rw893, rfl, rfl, ⟨rw886, hR887, hW888⟩, hW891, hW894⟩ hs
 replace hbase692 := hbase692.trans hf884
 obtain ⟨x898, hx899, hm⟩ := ob hm
 refine s1 hs (zbi rfl has86 rfl (zjz n ⟨rw886, hR887, hW888⟩ hx899)) fun hs => s1 (v := pq b876 1) hs (za1 rfl (FO.of (off := 1) U104 rfl rfl ti9 (by decide))) fun hs => sstore 5 hs rfl rfl rfl ti9 rfl fun _ _ hs => za0 <| hK40 ?_
 replace hs := hs.nilRow 42 2
 have hW900 : RW zbv f883 [] ([] : List zab) := trivial
 generalize hgrw901 : ([] : List (List Value)) = rw901 at hs hW900; clear hgrw901
 replace hs := hs.front 4
 replace hs := hs.front 4
 replace hs := hs.front 4
 replace hs := hs.front 4
 replace hs := hs.front 7
 replace hs := hs.front 6
 replace hs := hs.front 6
 replace hs := hs.front 7
 exact (hB2g n).into (l := 0) rfl (.inl ⟨rfl, ⟨_, x881.2.c.l, x881.2.c.at_, x881.2.out, x898,([] : List zab), false,({Name := (bs []), Value := (bs [])} : zab), v889, rw890, v892, rw893, b876,(.slice none 0 0), rw901, b879,[.string ((bs [])), .string ((bs []))], hbase692, hm, hW891, hW894, hW900, rfl, hs.sub ⟨rfl, rfl, rfl, rfl, rfl, trivial⟩⟩⟩) hG2 (fun l a w k'' _ hJ => ⟨k'', hJ⟩)
end Go.Proofs.YtpfdbeafdjnbnaaGreatDoor
