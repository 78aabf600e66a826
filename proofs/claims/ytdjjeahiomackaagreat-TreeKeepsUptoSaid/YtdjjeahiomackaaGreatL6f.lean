/-
  Walks and laws of this seat.
-/
import Derived.Test.YtdjjeahiomackaaGreatBash
import Derived.Test.YtdjjeahiomackaaGreatGa
import Derived.Test.YtdjjeahiomackaaGreatRows
namespace Go.Proofs.YtdjjeahiomackaaGreat
set_option linter.unusedVariables false
set_option linter.unusedSimpArgs false
set_option linter.unusedSectionVars false
set_option maxHeartbeats 4000000
set_option maxRecDepth 100000
open Go.RowKit Go.Sl
def zg8 (n : Nat) (y72 : (List Int)) (y77 : Int) (y78 : (List za4)) (y85 : ByteArray) (lg125_1 : ByteArray → (List Int) → Int → (List za4) → Option (za4 × Bool × zac)) : Option (za4 × Bool × zac) :=
  (zb3 n ({l := y72, at_ := y77} : za7)).bind fun x128 =>
  (bif (!x128.2.1) then none else
  (bif (decide (x128.1 = 62)) then lg125_1 y85 x128.2.2.l x128.2.2.at_ y78 else
  none))
def zer (n : Nat) (y72 : (List Int)) (y77 : Int) (y78 : (List za4)) (y85 : ByteArray) (lg125_1 : ByteArray → (List Int) → Int → (List za4) → Option (za4 × Bool × zac)) (y139 : Bool) : Option (za4 × Bool × zac) :=
  (bif y139 then none else
  zg8 n y72 y77 y78 y85 lg125_1)
def zeq (n : Nat) (y72 : (List Int)) (y77 : Int) (y78 : (List za4)) (y85 : ByteArray) (lg125_1 : ByteArray → (List Int) → Int → (List za4) → Option (za4 × Bool × zac)) (x126 : Int) : Nat → Option (za4 × Bool × zac)
  | 0 => none
  | k138 + 1 =>
  (zk9 n x126).bind fun x141 =>
  (bif x141 then zer n y72 y77 y78 y85 lg125_1 true else
  zer n y72 y77 y78 y85 lg125_1 (decide (x126 = 47)))
mutual
def ze2 (n : Nat) (p1 : Int) : Nat → (List Int) → Int → (List za4) → ByteArray → Option (za4 × Bool × zac)
  | 0, _, _, _, _ => none
  | k125 + 1, y72, y77, y78, y85 =>
  (zd7 n ({c := ({l := y72, at_ := y77} : za7), out := y78} : zac) 0).bind fun x126 =>
  zeq n y72 y77 y78 y85 (zbt n p1 k125) x126 n
def zbt (n : Nat) (p1 : Int) : Nat → ByteArray → (List Int) → Int → (List za4) → Option (za4 × Bool × zac)
  | 0, _, _, _, _ => none
  | k144 + 1, y91, y93, y98, y99 =>
  (bif (decide (p1 = 3)) then some (({Kind := 3, Name := y91, Text := (bs []), Attrs := ([] : List zam), Closed := false} : za4), true,({c := ({l := y93, at_ := y98} : za7), out := y99} : zac)) else
  some (({Kind := p1, Name := y91, Text := (bs []), Attrs := ([] : List zam), Closed := false} : za4), true,({c := ({l := y93, at_ := y98} : za7), out := y99} : zac)))
end
def zg9 (n : Nat) (p0 : zac) (p1 : Int) : Option (za4 × Bool × zac) :=
  (zgn n p0 (fun z0 => zgo n z0)).bind fun x153 =>
  (zmb n x153.1).bind fun x170 =>
  ze2 n p1 n x153.2.c.l x153.2.c.at_ x153.2.out x170
theorem zi0 (n : Nat) {f : Fz} {p0 : zac} {pb0 : Nat} {pv0_0 : Nat} {pv0_1 : Value} {pv0_1r : List (List Value)} {pv0_2 : Value} {pv0_2r : List (List Value)} {p1 : Int} {res : (za4 × Bool × zac)} (pv0_1h : RW (tInt .i32) f pv0_1r p0.c.l) (pv0_2h : RW zaf f pv0_2r p0.out) (hm : zg9 n p0 p1 = some res) : Does Tryz.prog 77 [.pointer (some ⟨pb0,0, none⟩), .int .i64 p1] f [.blk pb0 (.cells #[.pointer (some ⟨pv0_0,0, none⟩), pv0_2] 113 (0,0)), .blk pv0_0 (.cells #[pv0_1, .int .i64 p0.c.at_] 126 (0,0)), .row pv0_1 21 1 pv0_1r, .row pv0_2 27 5 pv0_2r] (fun r f' L' => ∃ (u0 : List Value) (dp0_1 : Value) (dp0_1r : List (List Value)) (dp0_2 : Value) (dp0_2r : List (List Value)), L' = [.blk pb0 (.cells #[.pointer (some ⟨pv0_0,0, none⟩), dp0_2] 113 (0,0)), .blk pv0_0 (.cells #[dp0_1, .int .i64 res.2.2.c.at_] 126 (0,0)), .row dp0_1 21 1 dp0_1r, .row dp0_2 27 5 dp0_2r] ∧ r = .tuple #[.agg u0.toArray, .bool res.2.1] ∧ zaf.R f' u0 res.1 ∧ RW (tInt .i32) f' dp0_1r res.2.2.c.l ∧ RW zaf f' dp0_2r res.2.2.out) := by
 unfold zg9 at hm
 intro w0 L w hC
 replace hC : Cw w0 f (.blk pb0 (.cells #[.pointer (some ⟨pv0_0,0, none⟩), pv0_2] 113 (0,0)) :: .blk pv0_0 (.cells #[pv0_1, .int .i64 p0.c.at_] 126 (0,0)) :: .row pv0_1 21 1 pv0_1r :: .row pv0_2 27 5 pv0_2r :: L) w := hC
 refine enter Tryz.func77 rfl Tryz.ntmps77 (by simp) hC fun a hs => ?_
 have hle := Fz.le.refl f
 refine Wq fun hK1 => zd3 hs ti27 (.free rfl) (by decide) fun b7 _ _ hs => sA hs rfl fun hs => za1 <| hK1 ?_
 have hbase124 := Fz.le.refl f
 refine zto (fun (l k : Nat) a w => (l = 0 ∧ ∃ (f70 : Fz) (y72 : (List Int)) (y77 : Int) (y78 : (List za4)) (y85 : ByteArray) (v73 : Value) (rw74 : List (List Value)) (v79 : Value) (rw80 : List (List Value)) (b84 : Nat), Fz.le f f70 ∧ ze2 n p1 k y72 y77 y78 y85 = some res ∧ RW (tInt .i32) f70 rw74 y72 ∧ RW zaf f70 rw80 y78 ∧ St 104 w0 f70 (.blk b84 (.cells #[.int .i64 (p1), .string (y85), .string ((bs [])),(.slice none 0 0), .bool (false)] 27 (0,0)) :: .blk b7 (.cells #[.int .i64 (0), .string ((bs [])), .string ((bs [])),(.slice none 0 0), .bool (false)] 27 (0,0)) :: .blk pb0 (.cells #[.pointer (some ⟨pv0_0,0, none⟩), v79] 113 (0,0)) :: .blk pv0_0 (.cells #[v73, .int .i64 (y77)] 126 (0,0)) :: .row v73 21 1 rw74 :: .row v79 27 5 rw80 :: L) [(0, .pointer (some ⟨pb0,0, none⟩)),(1, .int .i64 (p1)),(4, .pointer (some ⟨b7,0, none⟩)),(6, .pointer (some ⟨b84,0, none⟩))] a w) ∨ (l = 1 ∧ ∃ (f87 : Fz) (y91 : ByteArray) (y93 : (List Int)) (y98 : Int) (y99 : (List za4)) (b90 : Nat) (v94 : Value) (rw95 : List (List Value)) (v100 : Value) (rw101 : List (List Value)), Fz.le f f87 ∧ zbt n p1 k y91 y93 y98 y99 = some res ∧ RW (tInt .i32) f87 rw95 y93 ∧ RW zaf f87 rw101 y99 ∧ St 104 w0 f87 (.blk b90 (.cells #[.int .i64 (p1), .string (y91), .string ((bs [])),(.slice none 0 0), .bool (false)] 27 (0,0)) :: .blk b7 (.cells #[.int .i64 (0), .string ((bs [])), .string ((bs [])),(.slice none 0 0), .bool (false)] 27 (0,0)) :: .blk pb0 (.cells #[.pointer (some ⟨pv0_0,0, none⟩), v100] 113 (0,0)) :: .blk pv0_0 (.cells #[v94, .int .i64 (y98)] 126 (0,0)) :: .row v94 21 1 rw95 :: .row v100 27 5 rw101 :: L) [(1, .int .i64 (p1)),(4, .pointer (some ⟨b7,0, none⟩)),(6, .pointer (some ⟨b90,0, none⟩))] a w)) rfl ?_ ?_
 ·(try clear hs); (try clear hm)
  intro k ih l a w R hl hJ G2 hG2
  rcases hJ with ⟨rfl, hJ⟩ | ⟨rfl, hJ⟩
  ·cases hl; revert a w
   rintro a w ⟨f70, y72, y77, y78, y85, v73, rw74, v79, rw80, b84, hl71, hm, hW75, hW81, hs⟩
   have hbase124 := hl71
   cases k with
   | zero => simp [ze2] at hm
   | succ k125 =>
    rw [ze2] at hm
    refine Wq fun hK3 => s1 (v := .pointer (some ⟨b84,4, none⟩)) hs (za3 rfl (FO.of (off := 4) Tryz.underlying27 rfl rfl ti4 (by decide))) fun hs => sstore 0 hs rfl rfl rfl ti4 rfl fun _ _ hs => za1 <| hK3 <| Ws fun hK4 => Wq fun hK5 => sM hs rfl fun hs => ?_
    obtain ⟨x126, hx127, hm⟩ := ob hm
    refine s1 hs (zex (cap := []) (Lf := .blk b84 (.cells #[.int .i64 (p1), .string (y85), .string ((bs [])),(.slice none 0 0), .bool (false)] 27 (0,0)) :: .blk b7 (.cells #[.int .i64 (0), .string ((bs [])), .string ((bs [])),(.slice none 0 0), .bool (false)] 27 (0,0)) :: L) rfl has71 rfl ((((zae _ 5 rfl).trans (zae _ 5 rfl)).trans (zae _ 5 rfl)).trans (zae _ 5 rfl)) (zdk n hW75 hW81 hx127)) fun hs => sA hs rfl fun hs => za1 <| hK5 ?_
    refine zay (fun a w => zg8 n y72 y77 y78 y85 (zbt n p1 k125) = some res ∧ St 104 w0 f70 (.blk b84 (.cells #[.int .i64 (p1), .string (y85), .string ((bs [])),(.slice none 0 0), .bool (false)] 27 (0,0)) :: .blk b7 (.cells #[.int .i64 (0), .string ((bs [])), .string ((bs [])),(.slice none 0 0), .bool (false)] 27 (0,0)) :: .blk pb0 (.cells #[.pointer (some ⟨pv0_0,0, none⟩), v79] 113 (0,0)) :: .blk pv0_0 (.cells #[v73, .int .i64 (y77)] 126 (0,0)) :: .row v73 21 1 rw74 :: .row v79 27 5 rw80 :: L) [(0, .pointer (some ⟨pb0,0, none⟩)),(1, .int .i64 (p1)),(4, .pointer (some ⟨b7,0, none⟩)),(6, .pointer (some ⟨b84,0, none⟩))] a w) ?_ ?_
    ·clear hs hm
     rintro a w ⟨hm, hs⟩
     unfold zg8 at hm
     refine hK4 <| Wq fun hK6 => sM hs rfl fun hs => s1 hs (za6 rfl) fun hs => s1 (v := .pointer (some ⟨pb0,0, none⟩)) hs (za3 rfl (FO.of (off := 0) Tryz.underlying113 rfl rfl ti110 (by decide))) fun hs => s1 (v := .pointer (some ⟨pv0_0,0, none⟩)) hs (y_ld rfl Tryz.underlying110 rfl (Cell.blk (.tail _ (.tail _ (.head _))) rfl)) fun hs => ?_
     obtain ⟨x128, hx129, hm⟩ := ob hm
     replace hs := hs.front 4
     replace hs := hs.front 4
     refine zdo (Lr := [.blk pv0_0 (.cells #[v73, .int .i64 (y77)] 126 (0,0)), .row v73 21 1 rw74]) (Lf := .blk b84 (.cells #[.int .i64 (p1), .string (y85), .string ((bs [])),(.slice none 0 0), .bool (false)] 27 (0,0)) :: .blk b7 (.cells #[.int .i64 (0), .string ((bs [])), .string ((bs [])),(.slice none 0 0), .bool (false)] 27 (0,0)) :: .blk pb0 (.cells #[.pointer (some ⟨pv0_0,0, none⟩), v79] 113 (0,0)) :: .row v79 27 5 rw80 :: L) hs rfl has75 rfl rfl (zbb n hW75 hx129) (.free rfl) (by decide) ?_; clear hs; (try clear a w)
     rintro _ f130 _ a w hf131 ⟨v132, rw133, rfl, rfl, hW134⟩ hs
     replace hW81 := hW81.le hf131
     replace hbase124 := hbase124.trans hf131
     refine sM hs rfl fun hs => s1 (v := .int .i32 (x128.1)) hs (zan rfl rfl) fun hs => s1 (v := .bool (x128.2.1)) hs (zan rfl rfl) fun hs => sA hs rfl fun hs => sA hs rfl fun hs => za1 <| hK6 <| Ws fun hK7 => Ws fun hK8 => za5 ?_
     refine sM hs rfl fun hs => s1 (v := .bool ((!x128.2.1))) hs (zku rfl) fun hs => za1 <| hK8 ?_
     refine zag hs rfl (fun hg136 => ?_) (fun hg136 => ?_)
     ·replace hm := oc_t hg136 hm
      refine Ws fun hK9 => ?_
      cases hm
     replace hm := oc_f hg136 hm
     refine zak <| hK7 <| Ws fun hK10 => Wq fun hK11 => sM hs rfl fun hs => s1 hs (zh5 rfl rfl) fun hs => za1 <| hK11 ?_
     refine zag hs rfl (fun hg137 => ?_) (fun hg137 => ?_)
     ·replace hm := oc_t hg137 hm
      refine zo5 ?_
      replace hs := hs.front 5
      replace hs := hs.front 2
      replace hs := hs.front 2
      replace hs := hs.front 5
      replace hs := hs.front 5
      replace hs := hs.front 5
      exact hG2.at_ 1 _ _ rfl ⟨k125, Nat.lt_succ_self _,(.inr (⟨rfl, ⟨_, y85, x128.2.2.l, x128.2.2.at_, y78, b84, v132, rw133, v79, rw80, hbase124, hm, hW134, hW81, hs.sub ⟨rfl, rfl, rfl, trivial⟩⟩⟩))⟩
     replace hm := oc_f hg137 hm
     refine zak <| hK10 <| Ws fun hK12 => ?_
     cases hm
    refine zas fun Qe13 hB13 hO13 => zeu (fun (k : Nat) a w => zeq n y72 y77 y78 y85 (zbt n p1 k125) x126 k = some res ∧ St 104 w0 f70 (.blk b84 (.cells #[.int .i64 (p1), .string (y85), .string ((bs [])),(.slice none 0 0), .bool (false)] 27 (0,0)) :: .blk b7 (.cells #[.int .i64 (0), .string ((bs [])), .string ((bs [])),(.slice none 0 0), .bool (false)] 27 (0,0)) :: .blk pb0 (.cells #[.pointer (some ⟨pv0_0,0, none⟩), v79] 113 (0,0)) :: .blk pv0_0 (.cells #[v73, .int .i64 (y77)] 126 (0,0)) :: .row v73 21 1 rw74 :: .row v79 27 5 rw80 :: L) [(0, .pointer (some ⟨pb0,0, none⟩)),(1, .int .i64 (p1)),(4, .pointer (some ⟨b7,0, none⟩)),(6, .pointer (some ⟨b84,0, none⟩)),(10, .int .i32 (x126))] a w) (fun k => k) n ⟨hm, hs.sub ⟨rfl, rfl, rfl, rfl, rfl, trivial⟩⟩ ?_
    clear hs hm
    intro k
    rintro a w ⟨hm, hs⟩
    intro K14 hK14
    cases k with
    | zero => simp [zeq] at hm
    | succ k138 =>
     rw [zeq] at hm
     refine Ws fun hK15 => Ws fun hK16 => ?_
     refine zay (fun a w => ∃ (y139 : Bool), zer n y72 y77 y78 y85 (zbt n p1 k125) y139 = some res ∧ St 104 w0 f70 (.blk b84 (.cells #[.int .i64 (p1), .string (y85), .string ((bs [])),(.slice none 0 0), .bool (false)] 27 (0,0)) :: .blk b7 (.cells #[.int .i64 (0), .string ((bs [])), .string ((bs [])),(.slice none 0 0), .bool (false)] 27 (0,0)) :: .blk pb0 (.cells #[.pointer (some ⟨pv0_0,0, none⟩), v79] 113 (0,0)) :: .blk pv0_0 (.cells #[v73, .int .i64 (y77)] 126 (0,0)) :: .row v73 21 1 rw74 :: .row v79 27 5 rw80 :: L) [(0, .pointer (some ⟨pb0,0, none⟩)),(1, .int .i64 (p1)),(4, .pointer (some ⟨b7,0, none⟩)),(6, .pointer (some ⟨b84,0, none⟩)),(25, .bool (y139))] a w) ?_ ?_
     ·clear hs hm
      rintro a w ⟨y139, hm, hs⟩
      unfold zer at hm
      refine hK16 ?_
      refine zag hs rfl (fun hg140 => ?_) (fun hg140 => ?_)
      ·replace hm := oc_t hg140 hm
       refine zak <| hK15 <| Ws fun hK17 => zas fun Qe18 hB18 hO18 => Ws fun hK19 => ?_
       cases hm
      replace hm := oc_f hg140 hm
      refine ze8 <| hB13 _ _ ?_
      exact ⟨hm, hs.sub ⟨rfl, rfl, rfl, rfl, trivial⟩⟩
     refine za5 <| sM hs rfl fun hs => ?_
     obtain ⟨x141, hx142, hm⟩ := ob hm
     refine s1 hs (zfu rfl has93 rfl (zlj n  hx142)) fun hs => sM hs rfl fun hs => ?_
     refine St.split hs (t := 22) rfl (fun hg143 hs => ?_) (fun hg143 hs => ?_)
     ·replace hm := oc_t hg143 hm
      refine s3 hs fun hs => s3 hs fun hs => sP hs rfl rfl fun hs => za1 ?_
      exact ⟨true, hm, hs.sub ⟨rfl, rfl, rfl, rfl, rfl, trivial⟩⟩
     replace hm := oc_f hg143 hm
     refine s2 (v := .int .i32 (x126)) hs (za9 rfl) fun hs => s2 hs (zh5 rfl rfl) fun hs => sP hs rfl rfl fun hs => za1 ?_
     exact ⟨decide (x126 = 47), hm, hs.sub ⟨rfl, rfl, rfl, rfl, rfl, trivial⟩⟩
  cases hl; revert a w
  rintro a w ⟨f87, y91, y93, y98, y99, b90, v94, rw95, v100, rw101, hl88, hm, hW96, hW102, hs⟩
  replace hle := hle.trans hl88
  have hbase124 := hl88
  cases k with
  | zero => simp [zbt] at hm
  | succ k144 =>
   rw [zbt] at hm
   refine Ws fun hK20 => Wq fun hK21 => sM hs rfl fun hs => s1 hs (zh5 rfl rfl) fun hs => za1 <| hK21 ?_
   refine zag hs rfl (fun hg145 => ?_) (fun hg145 => ?_)
   ·replace hm := oc_t hg145 hm
    refine Wq fun hK22 => s1 (v := .pointer (some ⟨b90,1, none⟩)) hs (za3 rfl (FO.of (off := 1) Tryz.underlying27 rfl rfl ti9 (by decide))) fun hs => s1 (v := .string (y91)) hs (y_ld rfl Tryz.underlying9 rfl (Cell.blk (.head _) rfl)) fun hs => s1 hs (zea (places := [(0,1),(1,1),(2,1),(3,1),(4,1)]) (cs := [.int .i64 (3), .string (y91), .string ((bs [])),(.slice none 0 0), .bool (false)]) rfl Tryz.underlying27 ti27 (by kernel_rfl) (by decide) rfl ⟨rfl, rfl, trivial⟩) fun hs => zbe (i := 1) hs rfl rfl rfl ti27 ⟨rfl, rfl⟩ (AllC.arr (r := [.int .i64 (3), .string (y91), .string ((bs [])),(.slice none 0 0), .bool (false)]) ⟨rfl, rfl, rfl, rfl, rfl, trivial⟩) (.free rfl) fun _ _ hs => sA hs rfl fun hs => za1 <| hK22 <| zbl ?_
    obtain rfl := Option.some.inj hm
    refine RtV2 hs rfl (rv_a hs rfl Tryz.underlying27 rfl ti27 (fun j u hj => Cell.blk (.tail _ (.head _)) hj) rfl) (rv_t hs rfl) ?_
    exact ⟨_, f87,[.blk pb0 (.cells #[.pointer (some ⟨pv0_0,0, none⟩), v100] 113 (0,0)), .blk pv0_0 (.cells #[v94, .int .i64 (y98)] 126 (0,0)), .row v94 21 1 rw95, .row v100 27 5 rw101], rfl, hle,(hs.subL (.cons _ (.cons _ (.cons_cons _ (.cons_cons _ (.cons_cons _ (.cons_cons _ (.refl _)))))))).cw,[.int .i64 (3), .string (y91), .string ((bs [])),(.slice none 0 0), .bool (false)], v94, rw95, v100, rw101, rfl, rfl, ⟨_, rfl, RS.nil⟩, hW96, hW102⟩
   replace hm := oc_f hg145 hm
   refine zak <| hK20 <| Wq fun hK23 => s1 hs (zp7 rfl Tryz.underlying27 rfl ti27 (.head _) rfl) fun hs => zbe (i := 1) hs rfl rfl rfl ti27 ⟨rfl, rfl⟩ (AllC.arr (r := [.int .i64 (p1), .string (y91), .string ((bs [])),(.slice none 0 0), .bool (false)]) ⟨rfl, rfl, rfl, rfl, rfl, trivial⟩) (.free rfl) fun _ _ hs => sA hs rfl fun hs => za1 <| hK23 <| zbl ?_
   obtain rfl := Option.some.inj hm
   refine RtV2 hs rfl (rv_a hs rfl Tryz.underlying27 rfl ti27 (fun j u hj => Cell.blk (.tail _ (.head _)) hj) rfl) (rv_t hs rfl) ?_
   exact ⟨_, f87,[.blk pb0 (.cells #[.pointer (some ⟨pv0_0,0, none⟩), v100] 113 (0,0)), .blk pv0_0 (.cells #[v94, .int .i64 (y98)] 126 (0,0)), .row v94 21 1 rw95, .row v100 27 5 rw101], rfl, hle,(hs.subL (.cons _ (.cons _ (.cons_cons _ (.cons_cons _ (.cons_cons _ (.cons_cons _ (.refl _)))))))).cw,[.int .i64 (p1), .string (y91), .string ((bs [])),(.slice none 0 0), .bool (false)], v94, rw95, v100, rw101, rfl, rfl, ⟨_, rfl, RS.nil⟩, hW96, hW102⟩
 intro hB2g G2 hG2
 refine Wq fun hK24 => sM hs rfl fun hs => s1 hs (zea (places := [(0,1),(1,1),(2,1),(3,1),(4,1)]) (cs := [.int .i64 (p1), .string ((bs [])), .string ((bs [])),(.slice none 0 0), .bool (false)]) rfl Tryz.underlying27 ti27 (by kernel_rfl) (by decide) rfl ⟨rfl, trivial⟩) fun hs => zd3 hs ti27 (.free rfl) (by decide) fun b148 _ _ hs => zbe (i := 0) hs rfl rfl rfl ti27 ⟨rfl, rfl⟩ (AllC.arr (r := [.int .i64 (p1), .string ((bs [])), .string ((bs [])),(.slice none 0 0), .bool (false)]) ⟨rfl, rfl, rfl, rfl, rfl, trivial⟩) (.free rfl) fun _ _ hs => za1 <| hK24 <| Ws fun hK25 => za5 ?_
 refine zd3 hs ti38 (.free rfl) (by decide) fun b151 _ _ hs => za1 <| hK25 <| Wq fun hK26 => sA hs rfl fun hs => za1 <| hK26 <| Ws fun hK27 => za5 ?_
 refine sA hs rfl fun hs => za1 <| hK27 <| Wq fun hK28 => sM hs rfl fun hs => ?_
 obtain ⟨x153, hx154, hm⟩ := ob hm
 replace hs := hs.front 6
 replace hs := hs.front 6
 replace hs := hs.front 6
 replace hs := hs.front 6
 refine zdo (Lr := [.blk pb0 (.cells #[.pointer (some ⟨pv0_0,0, none⟩), pv0_2] 113 (0,0)), .blk pv0_0 (.cells #[pv0_1, .int .i64 (p0.c.at_)] 126 (0,0)), .row pv0_1 21 1 pv0_1r, .row pv0_2 27 5 pv0_2r]) (Lf := .blk b151 (.cells #[.string ((bs [])), .string ((bs []))] 38 (0,0)) :: .blk b148 (.cells #[.int .i64 (p1), .string ((bs [])), .string ((bs [])),(.slice none 0 0), .bool (false)] 27 (0,0)) :: .blk b7 (.cells #[.int .i64 (0), .string ((bs [])), .string ((bs [])),(.slice none 0 0), .bool (false)] 27 (0,0)) :: L) hs rfl has91 rfl rfl (zke n pv0_1h pv0_2h has92 (fun f9 hle9 z0 r9  h9 => zkf n   h9) hx154) (.free rfl) (by decide) ?_; clear hs; (try clear a w)
 rintro v157 f155 _ a w hf156 ⟨_, v161, rw162, v164, rw165, rfl, rfl, ⟨rw158, hR159, hW160⟩, hW163, hW166⟩ hs
 replace hbase124 := hbase124.trans hf156
 obtain ⟨x170, hx171, hm⟩ := ob hm
 refine s1 hs (zfu rfl has90 rfl (zpq n ⟨rw158, hR159, hW160⟩ hx171)) fun hs => s1 (v := .pointer (some ⟨b148,1, none⟩)) hs (za3 rfl (FO.of (off := 1) Tryz.underlying27 rfl rfl ti9 (by decide))) fun hs => sstore 5 hs rfl rfl rfl ti9 rfl fun _ _ hs => za1 <| hK28 ?_
 replace hs := hs.front 3
 replace hs := hs.front 3
 replace hs := hs.front 3
 replace hs := hs.front 3
 replace hs := hs.front 6
 replace hs := hs.front 6
 exact (hB2g n).into (l := 0) rfl (.inl ⟨rfl, ⟨_, x153.2.c.l, x153.2.c.at_, x153.2.out, x170, v161, rw162, v164, rw165, b148, hbase124, hm, hW163, hW166, hs.subs ⟨rfl, rfl, rfl, rfl, trivial⟩ (.cons_cons _ (.cons_cons _ (.cons_cons _ (.cons_cons _ (.cons_cons _ (.cons_cons _ (.cons _ (.refl _))))))))⟩⟩) hG2 (fun l a w k'' _ hJ => ⟨k'', hJ⟩)
def zgv (n : Nat) (y652 : (List Int)) (y657 : Int) (y659 : (List za4)) (y666 : za4) (lg961_2 : (List Int) → Int → (List za4) → za4 → Option (List za4)) (y981 : Bool) : Option (List za4) :=
  (bif y981 then lg961_2 y652 y657 y659 y666 else
  (zgt n ({c := ({l := y652, at_ := y657} : za7), out := y659} : zac) 0 (bs [60,33,45,45])).bind fun x983 =>
  (bif x983 then none else
  none))
def zia (n : Nat) (y683 : (List za4)) (y690 : za4) (lg993_3 : (List Int) → Int → (List za4) → za4 → Option (List za4)) (y1002 : (List Int)) (y1007 : Int) (y1009 : (List Int)) : Option (List za4) :=
  (zj4 n (textOf y1009)).bind fun x1016 =>
  (appM 72 y683 [({Kind := 1, Name := (bs []), Text := x1016, Attrs := ([] : List zam), Closed := false} : za4)]).bind fun x1025 =>
  lg993_3 y1002 y1007 x1025 y690
def zgu (n : Nat) (y683 : (List za4)) (y690 : za4) (lg993_3 : (List Int) → Int → (List za4) → za4 → Option (List za4)) (y1034 : (List Int)) (y1039 : Int) (y1041 : (List Int)) (lp1050 : (List Int) → Int → (List Int) → Option (List za4)) (y1052 : Bool) : Option (List za4) :=
  (bif y1052 then (zb3 n ({l := y1034, at_ := y1039} : za7)).bind fun x1054 =>
  (appM 4 y1041 [x1054.1]).bind fun x1067 =>
  lp1050 x1054.2.2.l x1054.2.2.at_ x1067 else
  zia n y683 y690 lg993_3 y1034 y1039 y1041)
def zdy (n : Nat) (y683 : (List za4)) (y690 : za4) (lg993_3 : (List Int) → Int → (List za4) → za4 → Option (List za4)) : Nat → (List Int) → Int → (List Int) → Option (List za4)
  | 0, _, _, _ => none
  | k1050 + 1, y1034, y1039, y1041 =>
  (zcd n ({l := y1034, at_ := y1039} : za7)).bind fun x1073 =>
  (bif (decide (0 < x1073)) then (zes n ({c := ({l := y1034, at_ := y1039} : za7), out := y683} : zac)).bind fun x1076 =>
  zgu n y683 y690 lg993_3 y1034 y1039 y1041 (zdy n y683 y690 lg993_3 k1050) (!x1076) else
  zgu n y683 y690 lg993_3 y1034 y1039 y1041 (zdy n y683 y690 lg993_3 k1050) false)
mutual
def zbf (n : Nat) : Nat → (List Int) → Int → (List za4) → za4 → Option (List za4)
  | 0, _, _, _, _ => none
  | k961 + 1, y652, y657, y659, y666 =>
  (zcd n ({l := y652, at_ := y657} : za7)).bind fun x967 =>
  (bif (decide (x967 = 0)) then some y659 else
  (zes n ({c := ({l := y652, at_ := y657} : za7), out := y659} : zac)).bind fun x973 =>
  (bif (!x973) then (zfn n k961) y652 y657 y659 y666 else
  (zd7 n ({c := ({l := y652, at_ := y657} : za7), out := y659} : zac) 1).bind fun x976 =>
  (zht n x976).bind fun x978 =>
  (bif x978 then (zfm n k961) y652 y657 y659 y666 else
  (zd7 n ({c := ({l := y652, at_ := y657} : za7), out := y659} : zac) 1).bind fun x986 =>
  (bif (decide (x986 = 47)) then (zd7 n ({c := ({l := y652, at_ := y657} : za7), out := y659} : zac) 2).bind fun x989 =>
  (zht n x989).bind fun x991 =>
  zgv n y652 y657 y659 y666 (zdr n k961) x991 else
  zgv n y652 y657 y659 y666 (zdr n k961) false))))
def zfn (n : Nat) : Nat → (List Int) → Int → (List za4) → za4 → Option (List za4)
  | 0, _, _, _, _ => none
  | k993 + 1, y676, y681, y683, y690 =>
  zdy n y683 y690 (zbf n k993) n y676 y681 ([] : List Int)
def zfm (n : Nat) : Nat → (List Int) → Int → (List za4) → za4 → Option (List za4)
  | 0, _, _, _, _ => none
  | k1078 + 1, y700, y705, y707, y714 =>
  (zb3 n ({l := y700, at_ := y705} : za7)).bind fun x1084 =>
  (zg9 n ({c := x1084.2.2, out := y707} : zac) 2).bind fun x1092 =>
  (bif (!x1092.2.1) then none else
  (appM 72 x1092.2.2.out [x1092.1]).bind fun x1119 =>
  (bif ((decide (x1092.1.Name = (bs [115,116,121,108,101]))) || (decide (x1092.1.Name = (bs [115,99,114,105,112,116])))) then none else
  (zbf n k1078) x1092.2.2.c.l x1092.2.2.c.at_ x1119 x1092.1))
def zdr (n : Nat) : Nat → (List Int) → Int → (List za4) → za4 → Option (List za4)
  | 0, _, _, _, _ => none
  | k1128 + 1, y724, y729, y731, y738 =>
  (zb3 n ({l := y724, at_ := y729} : za7)).bind fun x1134 =>
  (zb3 n x1134.2.2).bind fun x1142 =>
  (zg9 n ({c := x1142.2.2, out := y731} : zac) 3).bind fun x1150 =>
  (bif (!x1150.2.1) then none else
  (appM 72 x1150.2.2.out [x1150.1]).bind fun x1177 =>
  (zbf n k1128) x1150.2.2.c.l x1150.2.2.c.at_ x1177 x1150.1)
end
def zkz (n : Nat) (p0 : (List Int)) : Option (List za4) :=
  (zhp n p0).bind fun x1184 =>
  zbf n n x1184.l x1184.at_ ([] : List za4) ({Kind := 0, Name := (bs []), Text := (bs []), Attrs := ([] : List zam), Closed := false} : za4)
theorem zoj (n : Nat) {f : Fz} {p0 : (List Int)} {a0 : Value} {res : (List za4)} (h0 : RS (tInt .i32) f a0 p0) (hm : zkz n p0 = some res) : Does Tryz.prog 58 [a0] f [] (fun r f' L' => ∃ (u0 : Value), L' = [] ∧ r = u0 ∧ RS zaf f' u0 res) := by
 unfold zkz at hm
 intro w0 L w hC
 obtain ⟨rw1, hR2, hW3⟩ := h0
 refine enter Tryz.func58 rfl Tryz.ntmps58 (by simp) hC fun a hs => ?_
 have hle := Fz.le.refl f
 refine Wq fun hK1 => sA hs rfl fun hs => za1 <| hK1 ?_
 have hbase960 := Fz.le.refl f
 refine zto (fun (l k : Nat) a w => (l = 3 ∧ ∃ (f645 : Fz) (y652 : (List Int)) (y657 : Int) (y659 : (List za4)) (y666 : za4) (b648 : Nat) (b650 : Nat) (v653 : Value) (rw654 : List (List Value)) (v660 : Value) (rw661 : List (List Value)) (b665 : Nat) (r667 : List Value), Fz.le f f645 ∧ zbf n k y652 y657 y659 y666 = some res ∧ RW (tInt .i32) f645 rw654 y652 ∧ RW zaf f645 rw661 y659 ∧ zaf.R f645 r667 y666 ∧ St 155 w0 f645 (.blk b648 (.cells #[.pointer (some ⟨b650,0, none⟩), v660] 113 (0,0)) :: .blk b650 (.cells #[v653, .int .i64 (y657)] 126 (0,0)) :: .row v653 21 1 rw654 :: .row v660 27 5 rw661 :: .blk b665 (.cells r667.toArray 27 (0,0)) :: L) [(3, .pointer (some ⟨b648,0, none⟩)),(4, .pointer (some ⟨b665,0, none⟩))] a w) ∨ (l = 0 ∧ ∃ (f669 : Fz) (y676 : (List Int)) (y681 : Int) (y683 : (List za4)) (y690 : za4) (b672 : Nat) (b674 : Nat) (v677 : Value) (rw678 : List (List Value)) (v684 : Value) (rw685 : List (List Value)) (b689 : Nat) (r691 : List Value), Fz.le f f669 ∧ zfn n k y676 y681 y683 y690 = some res ∧ RW (tInt .i32) f669 rw678 y676 ∧ RW zaf f669 rw685 y683 ∧ zaf.R f669 r691 y690 ∧ St 155 w0 f669 (.blk b672 (.cells #[.pointer (some ⟨b674,0, none⟩), v684] 113 (0,0)) :: .blk b674 (.cells #[v677, .int .i64 (y681)] 126 (0,0)) :: .row v677 21 1 rw678 :: .row v684 27 5 rw685 :: .blk b689 (.cells r691.toArray 27 (0,0)) :: L) [(3, .pointer (some ⟨b672,0, none⟩)),(4, .pointer (some ⟨b689,0, none⟩))] a w) ∨ (l = 1 ∧ ∃ (f693 : Fz) (y700 : (List Int)) (y705 : Int) (y707 : (List za4)) (y714 : za4) (b696 : Nat) (b698 : Nat) (v701 : Value) (rw702 : List (List Value)) (v708 : Value) (rw709 : List (List Value)) (b713 : Nat) (r715 : List Value), Fz.le f f693 ∧ zfm n k y700 y705 y707 y714 = some res ∧ RW (tInt .i32) f693 rw702 y700 ∧ RW zaf f693 rw709 y707 ∧ zaf.R f693 r715 y714 ∧ St 155 w0 f693 (.blk b696 (.cells #[.pointer (some ⟨b698,0, none⟩), v708] 113 (0,0)) :: .blk b698 (.cells #[v701, .int .i64 (y705)] 126 (0,0)) :: .row v701 21 1 rw702 :: .row v708 27 5 rw709 :: .blk b713 (.cells r715.toArray 27 (0,0)) :: L) [(3, .pointer (some ⟨b696,0, none⟩)),(4, .pointer (some ⟨b713,0, none⟩))] a w) ∨ (l = 2 ∧ ∃ (f717 : Fz) (y724 : (List Int)) (y729 : Int) (y731 : (List za4)) (y738 : za4) (b720 : Nat) (b722 : Nat) (v725 : Value) (rw726 : List (List Value)) (v732 : Value) (rw733 : List (List Value)) (b737 : Nat) (r739 : List Value), Fz.le f f717 ∧ zdr n k y724 y729 y731 y738 = some res ∧ RW (tInt .i32) f717 rw726 y724 ∧ RW zaf f717 rw733 y731 ∧ zaf.R f717 r739 y738 ∧ St 155 w0 f717 (.blk b720 (.cells #[.pointer (some ⟨b722,0, none⟩), v732] 113 (0,0)) :: .blk b722 (.cells #[v725, .int .i64 (y729)] 126 (0,0)) :: .row v725 21 1 rw726 :: .row v732 27 5 rw733 :: .blk b737 (.cells r739.toArray 27 (0,0)) :: L) [(3, .pointer (some ⟨b720,0, none⟩)),(4, .pointer (some ⟨b737,0, none⟩))] a w)) rfl ?_ ?_
 ·(try clear hs); (try clear hm)
  intro k ih l a w R hl hJ G2 hG2
  rcases hJ with ⟨rfl, hJ⟩ | ⟨rfl, hJ⟩ | ⟨rfl, hJ⟩ | ⟨rfl, hJ⟩
  ·cases hl; revert a w
   rintro a w ⟨f645, y652, y657, y659, y666, b648, b650, v653, rw654, v660, rw661, b665, r667, hl646, hm, hW655, hW662, hq668, hs⟩
   replace hle := hle.trans hl646
   obtain ⟨v962, rfl, ⟨rw963, hR964, hW965⟩⟩ := hq668
   have hbase960 := hl646
   cases k with
   | zero => simp [zbf] at hm
   | succ k961 =>
    rw [zbf] at hm
    refine Ws fun hK3 => zas fun Qe4 hB4 hO4 => Wq fun hK5 => sM hs rfl fun hs => s1 hs (za6 rfl) fun hs => s1 (v := .pointer (some ⟨b648,0, none⟩)) hs (za3 rfl (FO.of (off := 0) Tryz.underlying113 rfl rfl ti110 (by decide))) fun hs => s1 (v := .pointer (some ⟨b650,0, none⟩)) hs (y_ld rfl Tryz.underlying110 rfl (Cell.blk (.head _) rfl)) fun hs => ?_
    obtain ⟨x967, hx968, hm⟩ := ob hm
    refine s1 hs (zex (cap := []) (Lf := .blk b648 (.cells #[.pointer (some ⟨b650,0, none⟩), v660] 113 (0,0)) :: .row v660 27 5 rw661 :: .blk b665 (.cells #[.int .i64 (y666.Kind), .string (y666.Name), .string (y666.Text), v962, .bool (y666.Closed)] 27 (0,0)) :: L) rfl has68 rfl ((zae _ 2 rfl).trans (zae _ 2 rfl)) (zdn n hW655 hx968)) fun hs => s1 hs (zh5 rfl rfl) fun hs => sA hs rfl fun hs => za1 <| hK5 ?_
    refine zag hs rfl (fun hg969 => ?_) (fun hg969 => ?_)
    ·replace hm := oc_t hg969 hm
     refine Wq fun hK6 => sM hs rfl fun hs => s1 hs (za6 rfl) fun hs => s1 (v := .pointer (some ⟨b648,1, none⟩)) hs (za3 rfl (FO.of (off := 1) Tryz.underlying113 rfl rfl ti22 (by decide))) fun hs => s1 (v := v660) hs (y_ld rfl Tryz.underlying22 rfl (Cell.blk (.head _) rfl)) fun hs => sA hs rfl fun hs => za1 <| hK6 <| zbl ?_
     obtain ⟨f970, hf971, hs2, hR972⟩ := hs.frzAt 3 rfl
     clear hs; have hs := hs2; clear hs2
     replace hW662 := hW662.le hf971
     replace hle := hle.trans hf971
     obtain rfl := Option.some.inj hm
     refine RtV1 hs rfl (rv_t hs rfl) ?_
     exact ⟨_, f970,[], rfl, hle,(hs.subL (.cons _ (.cons _ (.cons _ (.cons _ (.refl _)))))).cw, v660, rfl, rfl, ⟨rw661, hR972, hW662⟩⟩
    replace hm := oc_f hg969 hm
    refine Wq fun hK7 => sM hs rfl fun hs => ?_
    obtain ⟨x973, hx974, hm⟩ := ob hm
    refine s1 hs (zex (cap := []) (Lf := .blk b665 (.cells #[.int .i64 (y666.Kind), .string (y666.Name), .string (y666.Text), v962, .bool (y666.Closed)] 27 (0,0)) :: L) rfl has69 rfl ((((zae _ 3 rfl).trans (zae _ 3 rfl)).trans (zae _ 3 rfl)).trans (zae _ 3 rfl)) (zh0 n hW655 hW662 hx974)) fun hs => s1 (v := .bool ((!x973))) hs (zku rfl) fun hs => sA hs rfl fun hs => za1 <| hK7 ?_
    refine zag hs rfl (fun hg975 => ?_) (fun hg975 => ?_)
    ·replace hm := oc_t hg975 hm
     refine zo5 ?_
     exact hG2.at_ 0 _ _ rfl ⟨k961, Nat.lt_succ_self _,(.inr (.inl ⟨rfl, ⟨_, y652, y657, y659, y666, b648, b650, v653, rw654, v660, rw661, b665,[.int .i64 (y666.Kind), .string (y666.Name), .string (y666.Text), v962, .bool (y666.Closed)], hbase960, hm, hW655, hW662, ⟨_, rfl, ⟨rw963, hR964, hW965⟩⟩, hs.sub ⟨rfl, rfl, trivial⟩⟩⟩))⟩
    replace hm := oc_f hg975 hm
    refine Wq fun hK8 => sM hs rfl fun hs => ?_
    obtain ⟨x976, hx977, hm⟩ := ob hm
    refine s1 hs (zex (cap := []) (Lf := .blk b665 (.cells #[.int .i64 (y666.Kind), .string (y666.Name), .string (y666.Text), v962, .bool (y666.Closed)] 27 (0,0)) :: L) rfl has71 rfl ((((zae _ 3 rfl).trans (zae _ 3 rfl)).trans (zae _ 3 rfl)).trans (zae _ 3 rfl)) (zdk n hW655 hW662 hx977)) fun hs => ?_
    obtain ⟨x978, hx979, hm⟩ := ob hm
    refine s1 hs (zfu rfl has70 rfl (zi9 n  hx979)) fun hs => sA hs rfl fun hs => za1 <| hK8 ?_
    refine zag hs rfl (fun hg980 => ?_) (fun hg980 => ?_)
    ·replace hm := oc_t hg980 hm
     refine zo5 ?_
     exact hG2.at_ 1 _ _ rfl ⟨k961, Nat.lt_succ_self _,(.inr (.inr (.inl ⟨rfl, ⟨_, y652, y657, y659, y666, b648, b650, v653, rw654, v660, rw661, b665,[.int .i64 (y666.Kind), .string (y666.Name), .string (y666.Text), v962, .bool (y666.Closed)], hbase960, hm, hW655, hW662, ⟨_, rfl, ⟨rw963, hR964, hW965⟩⟩, hs.sub ⟨rfl, rfl, trivial⟩⟩⟩)))⟩
    replace hm := oc_f hg980 hm
    refine Ws fun hK9 => ?_
    refine zay (fun a w => ∃ (y981 : Bool), zgv n y652 y657 y659 y666 (zdr n k961) y981 = some res ∧ St 155 w0 f645 (.blk b648 (.cells #[.pointer (some ⟨b650,0, none⟩), v660] 113 (0,0)) :: .blk b650 (.cells #[v653, .int .i64 (y657)] 126 (0,0)) :: .row v653 21 1 rw654 :: .row v660 27 5 rw661 :: .blk b665 (.cells #[.int .i64 (y666.Kind), .string (y666.Name), .string (y666.Text), v962, .bool (y666.Closed)] 27 (0,0)) :: L) [(3, .pointer (some ⟨b648,0, none⟩)),(4, .pointer (some ⟨b665,0, none⟩)),(32, .bool (y981))] a w) ?_ ?_
    ·clear hs hm
     rintro a w ⟨y981, hm, hs⟩
     unfold zgv at hm
     refine hK9 ?_
     refine zag hs rfl (fun hg982 => ?_) (fun hg982 => ?_)
     ·replace hm := oc_t hg982 hm
      refine zo5 ?_
      exact hG2.at_ 2 _ _ rfl ⟨k961, Nat.lt_succ_self _,(.inr (.inr (.inr (⟨rfl, ⟨_, y652, y657, y659, y666, b648, b650, v653, rw654, v660, rw661, b665,[.int .i64 (y666.Kind), .string (y666.Name), .string (y666.Text), v962, .bool (y666.Closed)], hbase960, hm, hW655, hW662, ⟨_, rfl, ⟨rw963, hR964, hW965⟩⟩, hs.sub ⟨rfl, rfl, trivial⟩⟩⟩))))⟩
     replace hm := oc_f hg982 hm
     refine Wq fun hK10 => sM hs rfl fun hs => ?_
     obtain ⟨x983, hx984, hm⟩ := ob hm
     refine s1 hs (zex (cap := []) (Lf := .blk b665 (.cells #[.int .i64 (y666.Kind), .string (y666.Name), .string (y666.Text), v962, .bool (y666.Closed)] 27 (0,0)) :: L) rfl has72 rfl ((((zae _ 3 rfl).trans (zae _ 3 rfl)).trans (zae _ 3 rfl)).trans (zae _ 3 rfl)) (zim n hW655 hW662 hx984)) fun hs => sA hs rfl fun hs => za1 <| hK10 ?_
     refine zag hs rfl (fun hg985 => ?_) (fun hg985 => ?_)
     ·replace hm := oc_t hg985 hm
      refine Ws fun hK11 => ?_
      cases hm
     replace hm := oc_f hg985 hm
     refine zak <| hK3 <| Ws fun hK12 => ?_
     cases hm
    refine za5 <| sM hs rfl fun hs => ?_
    obtain ⟨x986, hx987, hm⟩ := ob hm
    refine s1 hs (zex (cap := []) (Lf := .blk b665 (.cells #[.int .i64 (y666.Kind), .string (y666.Name), .string (y666.Text), v962, .bool (y666.Closed)] 27 (0,0)) :: L) rfl has71 rfl ((((zae _ 3 rfl).trans (zae _ 3 rfl)).trans (zae _ 3 rfl)).trans (zae _ 3 rfl)) (zdk n hW655 hW662 hx987)) fun hs => s1 hs (zh5 rfl rfl) fun hs => sM hs rfl fun hs => ?_
    refine St.split hs (t := 36) rfl (fun hg988 hs => ?_) (fun hg988 hs => ?_)
    ·replace hm := oc_t hg988 hm
     refine s2 (v := .pointer (some ⟨b648,0, none⟩)) hs (za9 rfl) fun hs => ?_
     obtain ⟨x989, hx990, hm⟩ := ob hm
     refine s2 hs (zex (cap := []) (Lf := .blk b665 (.cells #[.int .i64 (y666.Kind), .string (y666.Name), .string (y666.Text), v962, .bool (y666.Closed)] 27 (0,0)) :: L) rfl has71 rfl ((((zae _ 3 rfl).trans (zae _ 3 rfl)).trans (zae _ 3 rfl)).trans (zae _ 3 rfl)) (zdk n hW655 hW662 hx990)) fun hs => ?_
     obtain ⟨x991, hx992, hm⟩ := ob hm
     refine s2 hs (zfu rfl has70 rfl (zi9 n  hx992)) fun hs => sP hs rfl rfl fun hs => sA hs rfl fun hs => za1 ?_
     exact ⟨x991, hm, hs.sub ⟨rfl, rfl, rfl, trivial⟩⟩
    replace hm := oc_f hg988 hm
    refine s3 hs fun hs => s3 hs fun hs => s3 hs fun hs => sP hs rfl rfl fun hs => sA hs rfl fun hs => za1 ?_
    exact ⟨false, hm, hs.sub ⟨rfl, rfl, rfl, trivial⟩⟩
  ·cases hl; revert a w
   rintro a w ⟨f669, y676, y681, y683, y690, b672, b674, v677, rw678, v684, rw685, b689, r691, hl670, hm, hW679, hW686, hq692, hs⟩
   obtain ⟨v994, rfl, ⟨rw995, hR996, hW997⟩⟩ := hq692
   have hbase960 := hl670
   cases k with
   | zero => simp [zfn] at hm
   | succ k993 =>
    rw [zfn] at hm
    refine Wq fun hK13 => sA hs rfl fun hs => za1 <| hK13 <| Ws fun hK14 => ?_
    have hbase1014 := Fz.le.refl f669
    refine zay (fun a w => ∃ (f1000 : Fz) (y1002 : (List Int)) (y1007 : Int) (y1009 : (List Int)) (v1003 : Value) (rw1004 : List (List Value)) (v1010 : Value) (rw1011 : List (List Value)), Fz.le f669 f1000 ∧ zia n y683 y690 (zbf n k993) y1002 y1007 y1009 = some res ∧ RW (tInt .i32) f1000 rw1004 y1002 ∧ RW (tInt .i32) f1000 rw1011 y1009 ∧ St 155 w0 f1000 (.row v1010 21 1 rw1011 :: .blk b672 (.cells #[.pointer (some ⟨b674,0, none⟩), v684] 113 (0,0)) :: .blk b674 (.cells #[v1003, .int .i64 (y1007)] 126 (0,0)) :: .row v1003 21 1 rw1004 :: .row v684 27 5 rw685 :: .blk b689 (.cells #[.int .i64 (y690.Kind), .string (y690.Name), .string (y690.Text), v994, .bool (y690.Closed)] 27 (0,0)) :: L) [(3, .pointer (some ⟨b672,0, none⟩)),(4, .pointer (some ⟨b689,0, none⟩)),(6, v1010)] a w) ?_ ?_
    ·clear hs hm
     clear hbase1014
     rintro a w ⟨f1000, y1002, y1007, y1009, v1003, rw1004, v1010, rw1011, hl1001, hm, hW1005, hW1012, hs⟩
     replace hW686 := hW686.le hl1001
     replace hR996 := hR996.le hl1001
     replace hW997 := hW997.le hl1001
     replace hbase960 := hbase960.trans hl1001
     unfold zia at hm
     refine hK14 <| Ws fun hK15 => ?_
     have hsD := hs.subL (L' := .row v1010 21 1 rw1011 :: .blk b672 (.cells #[.pointer (some ⟨b674,0, none⟩), v684] 113 (0,0)) :: []) (.cons_cons _ (.cons_cons _ (.cons _ (.cons _ (.cons _ (.cons _ (List.nil_sublist _)))))))
     have hbd1015 := Fz.le.refl f1000
     refine zhu hs (.row v1010 21 1 rw1011 :: .blk b672 (.cells #[.pointer (some ⟨b674,0, none⟩), v684] 113 (0,0)) :: []) [13] (.look 0 (.look 1 (.look 2 (.look 3 (.look 4 (.look 5 (.look 6 (.look 7 (.look 8 (.any [9] (fun _ => .any [10] (fun _ => .look 11 (.look 12 (.any [13] (fun _ => .done))))))))))))))) mixed (by kernel_rfl) fun _ he => uy (v := .pointer (some ⟨b672,0, none⟩)) 0 he rfl (za9 rfl) fun _ he => uy (v := .pointer (some ⟨b672,0, none⟩)) 1 he rfl (za9 rfl) fun _ he => uy 2 he rfl (za6 rfl) fun _ he => uy (v := .pointer (some ⟨b672,1, none⟩)) 3 he rfl (za3 rfl (FO.of (off := 1) Tryz.underlying113 rfl rfl ti22 (by decide))) fun _ he => uy (v := v684) 4 he rfl (y_ld rfl Tryz.underlying22 rfl (Cell.blk (.tail _ (.head _)) rfl)) fun _ he => uy (v := v1010) 5 he rfl (za9 rfl) fun _ he => uy (v := .string ((textOf y1009))) 6 he rfl (zuf rfl Tryz.underlying45 Tryz.underlying21 Tryz.underlying9 (Rd.st hsD (.head _)) hW1012) fun _ he => ?_
     obtain ⟨x1016, hx1017, hm⟩ := ob hm
     refine ucall 7 he rfl rfl has76 rfl (fun f9 L9 w9 hfc _ hw9 => (zn0 n  hx1017) w0 L9 w9 hw9) fun _ he => uy 8 he rfl (zea (places := [(0,1),(1,1),(2,1),(3,1),(4,1)]) (cs := [.int .i64 (1), .string ((bs [])), .string (x1016),(.slice none 0 0), .bool (false)]) rfl Tryz.underlying27 ti27 (by kernel_rfl) (by decide) rfl ⟨rfl, rfl, trivial⟩) fun _ he => ?_
     refine zd1 he rfl ?_; clear he; (try clear a); intro a w hs
     refine zo9 hs rfl Tryz.underlying22 ti27 (by decide) (AllC.row ⟨rfl, rfl, rfl, rfl, rfl, trivial⟩ rfl) fun v1019 _ _ hs => ?_
     have hW1020 : RW zaf f1000 [[.int .i64 (1), .string ((bs [])), .string (x1016),(.slice none 0 0), .bool (false)]] [({Kind := 1, Name := (bs []), Text := x1016, Attrs := ([] : List zam), Closed := false} : za4)] := RW.single (⟨_, rfl, RS.nil⟩)
     generalize hgrw1021 : ([[.int .i64 (1), .string ((bs [])), .string (x1016),(.slice none 0 0), .bool (false)]] : List (List Value)) = rw1021 at hs hW1020; clear hgrw1021
     have ho1024 : v1019.oneCell' = true := hs.one (i := 0) rfl
     refine uon hs fun _ he => ?_
     refine zd1 he rfl ?_; clear he; (try clear a); intro a w hs
     obtain ⟨x1025, hx1026, hm⟩ := ob hm
     obtain ⟨hbx1025, hex1025⟩ := zcs hx1026
     have hW1029 := hW686.append hW1020; rw [hex1025] at hW1029
     refine zdb (i := 5) hs rfl rfl rfl (Rd.st hs (.head _)) Tryz.underlying22 ti27 (by decide) (by rw [RW.len hW686, RW.len hW1020]; exact hbx1025) (.free rfl) (by decide) fun v1027 _ _ hs => ?_
     generalize hgx1025 : rw685 ++ rw1021 = rw1028 at hs hW1029; clear hgx1025
     replace hs := hs.erase 0
     have ho1031 : v1027.oneCell' = true := hs.one (i := 4) rfl
     refine uon hs fun _ he => uy 11 he rfl (za6 rfl) fun _ he => uy (v := .pointer (some ⟨b672,1, none⟩)) 12 he rfl (za3 rfl (FO.of (off := 1) Tryz.underlying113 rfl rfl ti22 (by decide))) fun _ he => ?_
     refine zd1 he rfl ?_; clear he; (try clear a); intro a w hs
     refine sstore 1 hs rfl rfl rfl ti22 ho1031 fun _ _ hs => uend hs fun _ he => ?_
     refine zmj he ?_; clear he; (try clear a); intro w hs; try clear hsD
     refine hK15 <| Ws fun hK16 => zo5 ?_
     exact hG2.at_ 3 _ _ rfl ⟨k993, Nat.lt_succ_self _,(.inl ⟨rfl, ⟨_, y1002, y1007, x1025, y690, b672, b674, v1003, rw1004, v1027, rw1028, b689,[.int .i64 (y690.Kind), .string (y690.Name), .string (y690.Text), v994, .bool (y690.Closed)], hbase960, hm, hW1005, hW1029, ⟨_, rfl, ⟨rw995, hR996, hW997⟩⟩, hs.subs ⟨rfl, rfl, trivial⟩ (.cons _ (.cons_cons _ (.cons_cons _ (.cons_cons _ (.cons_cons _ (.cons_cons _ (.refl _)))))))⟩⟩)⟩
    refine zas fun Qe17 hB17 hO17 => ?_
    have hbase := Fz.le.refl f669
    replace hs := hs.nilRow 21 1
    have hW1046 : RW (tInt .i32) f669 [] ([] : List Int) := trivial
    generalize hgrw1047 : ([] : List (List Value)) = rw1047 at hs hW1046; clear hgrw1047
    refine zeu (fun (k : Nat) a w => ∃ (f1032 : Fz) (y1034 : (List Int)) (y1039 : Int) (y1041 : (List Int)) (v1035 : Value) (rw1036 : List (List Value)) (v1042 : Value) (rw1043 : List (List Value)), Fz.le f669 f1032 ∧ zdy n y683 y690 (zbf n k993) k y1034 y1039 y1041 = some res ∧ RW (tInt .i32) f1032 rw1036 y1034 ∧ RW (tInt .i32) f1032 rw1043 y1041 ∧ St 155 w0 f1032 (.row v1042 21 1 rw1043 :: .blk b672 (.cells #[.pointer (some ⟨b674,0, none⟩), v684] 113 (0,0)) :: .blk b674 (.cells #[v1035, .int .i64 (y1039)] 126 (0,0)) :: .row v1035 21 1 rw1036 :: .row v684 27 5 rw685 :: .blk b689 (.cells #[.int .i64 (y690.Kind), .string (y690.Name), .string (y690.Text), v994, .bool (y690.Closed)] 27 (0,0)) :: L) [(3, .pointer (some ⟨b672,0, none⟩)),(4, .pointer (some ⟨b689,0, none⟩)),(6, v1042)] a w) (fun k => k) n ⟨_, y676, y681,([] : List Int), v677, rw678,(.slice none 0 0), rw1047,(Fz.le.refl _), hm, hW679, hW1046, hs.sub ⟨rfl, rfl, rfl, trivial⟩⟩ ?_
    clear hs hm
    intro k
    rintro a w ⟨f1032, y1034, y1039, y1041, v1035, rw1036, v1042, rw1043, hl1033, hm, hW1037, hW1044, hs⟩
    replace hW686 := hW686.le hl1033
    replace hbase1014 := hbase1014.trans hl1033
    intro K18 hK18
    cases k with
    | zero => simp [zdy] at hm
    | succ k1050 =>
     rw [zdy] at hm
     have hbase1051 := hl1033
     refine Ws fun hK19 => Ws fun hK20 => ?_
     refine zay (fun a w => ∃ (y1052 : Bool), zgu n y683 y690 (zbf n k993) y1034 y1039 y1041 (zdy n y683 y690 (zbf n k993) k1050) y1052 = some res ∧ St 155 w0 f1032 (.row v1042 21 1 rw1043 :: .blk b672 (.cells #[.pointer (some ⟨b674,0, none⟩), v684] 113 (0,0)) :: .blk b674 (.cells #[v1035, .int .i64 (y1039)] 126 (0,0)) :: .row v1035 21 1 rw1036 :: .row v684 27 5 rw685 :: .blk b689 (.cells #[.int .i64 (y690.Kind), .string (y690.Name), .string (y690.Text), v994, .bool (y690.Closed)] 27 (0,0)) :: L) [(3, .pointer (some ⟨b672,0, none⟩)),(4, .pointer (some ⟨b689,0, none⟩)),(6, v1042),(60, .bool (y1052))] a w) ?_ ?_
     ·clear hs hm
      rintro a w ⟨y1052, hm, hs⟩
      unfold zgu at hm
      refine hK20 ?_
      refine zag hs rfl (fun hg1053 => ?_) (fun hg1053 => ?_)
      ·replace hm := oc_t hg1053 hm
       refine zak <| hK19 <| zas fun Qe21 hB21 hO21 => Wq fun hK22 => sM hs rfl fun hs => s1 hs (za6 rfl) fun hs => s1 (v := .pointer (some ⟨b672,0, none⟩)) hs (za3 rfl (FO.of (off := 0) Tryz.underlying113 rfl rfl ti110 (by decide))) fun hs => s1 (v := .pointer (some ⟨b674,0, none⟩)) hs (y_ld rfl Tryz.underlying110 rfl (Cell.blk (.tail _ (.head _)) rfl)) fun hs => ?_
       obtain ⟨x1054, hx1055, hm⟩ := ob hm
       replace hs := hs.front 3
       replace hs := hs.front 3
       refine zdo (Lr := [.blk b674 (.cells #[v1035, .int .i64 (y1039)] 126 (0,0)), .row v1035 21 1 rw1036]) (Lf := .row v1042 21 1 rw1043 :: .blk b672 (.cells #[.pointer (some ⟨b674,0, none⟩), v684] 113 (0,0)) :: .row v684 27 5 rw685 :: .blk b689 (.cells #[.int .i64 (y690.Kind), .string (y690.Name), .string (y690.Text), v994, .bool (y690.Closed)] 27 (0,0)) :: L) hs rfl has75 rfl rfl (zbb n hW1037 hx1055) (.free rfl) (by decide) ?_; clear hs; (try clear a w)
       rintro _ f1056 _ a w hf1057 ⟨v1058, rw1059, rfl, rfl, hW1060⟩ hs
       replace hW1044 := hW1044.le hf1057
       replace hbase1051 := hbase1051.trans hf1057
       refine sM hs rfl fun hs => s1 (v := .int .i32 (x1054.1)) hs (zan rfl rfl) fun hs => s1 (v := .bool (x1054.2.1)) hs (zan rfl rfl) fun hs => sA hs rfl fun hs => sA hs rfl fun hs => za1 <| hK22 <| za5 <| sM hs rfl fun hs => sM hs rfl fun hs => ?_
       refine zh8 hs rfl Tryz.underlying45 ti21 rfl rfl fun v1062 _ _ hs => ?_
       have hW1063 : RW (tInt .i32) f1056 [[.int .i32 (x1054.1)]] [x1054.1] := RW.single (rfl)
       generalize hgrw1064 : ([[.int .i32 (x1054.1)]] : List (List Value)) = rw1064 at hs hW1063; clear hgrw1064
       obtain ⟨x1067, hx1068, hm⟩ := ob hm
       obtain ⟨hbx1067, hex1067⟩ := zcs hx1068
       have hW1071 := hW1044.append hW1063; rw [hex1067] at hW1071
       refine zdb (i := 3) hs rfl rfl rfl (Rd.st hs (.head _)) Tryz.underlying45 ti21 (by decide) (by rw [RW.len hW1044, RW.len hW1063]; exact hbx1067) (.free rfl) (by decide) fun v1069 _ _ hs => ?_
       generalize hgx1067 : rw1043 ++ rw1064 = rw1070 at hs hW1071; clear hgx1067
       replace hs := hs.erase 0
       refine sA hs rfl fun hs => za1 ?_
       replace hs := hs.front 5
       replace hs := hs.front 5
       replace hs := hs.front 3
       replace hs := hs.front 3
       replace hs := hs.front 5
       replace hs := hs.front 5
       exact hK18 k1050 _ _ (Nat.lt_succ_self _) ⟨_, x1054.2.2.l, x1054.2.2.at_, x1067, v1058, rw1059, v1069, rw1070, hbase1051, hm, hW1060, hW1071, hs.sub ⟨rfl, rfl, rfl, trivial⟩⟩
      replace hm := oc_f hg1053 hm
      refine ze8 <| hB17 _ _ ?_
      exact ⟨_, y1034, y1039, y1041, v1035, rw1036, v1042, rw1043, hbase1014, hm, hW1037, hW1044, hs.sub ⟨rfl, rfl, rfl, trivial⟩⟩
     refine za5 <| sM hs rfl fun hs => s1 hs (za6 rfl) fun hs => s1 (v := .pointer (some ⟨b672,0, none⟩)) hs (za3 rfl (FO.of (off := 0) Tryz.underlying113 rfl rfl ti110 (by decide))) fun hs => s1 (v := .pointer (some ⟨b674,0, none⟩)) hs (y_ld rfl Tryz.underlying110 rfl (Cell.blk (.tail _ (.head _)) rfl)) fun hs => ?_
     obtain ⟨x1073, hx1074, hm⟩ := ob hm
     refine s1 hs (zex (cap := []) (Lf := .row v1042 21 1 rw1043 :: .blk b672 (.cells #[.pointer (some ⟨b674,0, none⟩), v684] 113 (0,0)) :: .row v684 27 5 rw685 :: .blk b689 (.cells #[.int .i64 (y690.Kind), .string (y690.Name), .string (y690.Text), v994, .bool (y690.Closed)] 27 (0,0)) :: L) rfl has68 rfl ((zae _ 3 rfl).trans (zae _ 3 rfl)) (zdn n hW1037 hx1074)) fun hs => s1 hs (zm0 rfl rfl) fun hs => sM hs rfl fun hs => ?_
     refine St.split hs (t := 56) rfl (fun hg1075 hs => ?_) (fun hg1075 hs => ?_)
     ·replace hm := oc_t hg1075 hm
      refine s2 (v := .pointer (some ⟨b672,0, none⟩)) hs (za9 rfl) fun hs => ?_
      obtain ⟨x1076, hx1077, hm⟩ := ob hm
      refine s2 hs (zex (cap := []) (Lf := .row v1042 21 1 rw1043 :: .blk b689 (.cells #[.int .i64 (y690.Kind), .string (y690.Name), .string (y690.Text), v994, .bool (y690.Closed)] 27 (0,0)) :: L) rfl has69 rfl ((((zae _ 4 rfl).trans (zae _ 4 rfl)).trans (zae _ 4 rfl)).trans (zae _ 4 rfl)) (zh0 n hW1037 hW686 hx1077)) fun hs => s2 (v := .bool ((!x1076))) hs (zku rfl) fun hs => sP hs rfl rfl fun hs => za1 ?_
      exact ⟨(!x1076), hm, hs.sub ⟨rfl, rfl, rfl, rfl, trivial⟩⟩
     replace hm := oc_f hg1075 hm
     refine s3 hs fun hs => s3 hs fun hs => s3 hs fun hs => sP hs rfl rfl fun hs => za1 ?_
     exact ⟨false, hm, hs.sub ⟨rfl, rfl, rfl, rfl, trivial⟩⟩
  ·cases hl; revert a w
   rintro a w ⟨f693, y700, y705, y707, y714, b696, b698, v701, rw702, v708, rw709, b713, r715, hl694, hm, hW703, hW710, hq716, hs⟩
   obtain ⟨v1079, rfl, ⟨rw1080, hR1081, hW1082⟩⟩ := hq716
   have hbase960 := hl694
   cases k with
   | zero => simp [zfm] at hm
   | succ k1078 =>
    rw [zfm] at hm
    refine Wq fun hK23 => sM hs rfl fun hs => s1 hs (za6 rfl) fun hs => s1 (v := .pointer (some ⟨b696,0, none⟩)) hs (za3 rfl (FO.of (off := 0) Tryz.underlying113 rfl rfl ti110 (by decide))) fun hs => s1 (v := .pointer (some ⟨b698,0, none⟩)) hs (y_ld rfl Tryz.underlying110 rfl (Cell.blk (.head _) rfl)) fun hs => ?_
    obtain ⟨x1084, hx1085, hm⟩ := ob hm
    replace hs := hs.front 2
    replace hs := hs.front 2
    refine zdo (Lr := [.blk b698 (.cells #[v701, .int .i64 (y705)] 126 (0,0)), .row v701 21 1 rw702]) (Lf := .blk b696 (.cells #[.pointer (some ⟨b698,0, none⟩), v708] 113 (0,0)) :: .row v708 27 5 rw709 :: .blk b713 (.cells #[.int .i64 (y714.Kind), .string (y714.Name), .string (y714.Text), v1079, .bool (y714.Closed)] 27 (0,0)) :: L) hs rfl has75 rfl rfl (zbb n hW703 hx1085) (.free rfl) (by decide) ?_; clear hs; (try clear a w)
    rintro _ f1086 _ a w hf1087 ⟨v1088, rw1089, rfl, rfl, hW1090⟩ hs
    replace hW710 := hW710.le hf1087
    replace hbase960 := hbase960.trans hf1087
    refine za1 <| hK23 <| Wq fun hK24 => sM hs rfl fun hs => ?_
    obtain ⟨x1092, hx1093, hm⟩ := ob hm
    replace hs := hs.front 3
    replace hs := hs.front 2
    replace hs := hs.front 2
    replace hs := hs.front 3
    refine zdo (Lr := [.blk b696 (.cells #[.pointer (some ⟨b698,0, none⟩), v708] 113 (0,0)), .blk b698 (.cells #[v1088, .int .i64 (x1084.2.2.at_)] 126 (0,0)), .row v1088 21 1 rw1089, .row v708 27 5 rw709]) (Lf := .blk b713 (.cells #[.int .i64 (y714.Kind), .string (y714.Name), .string (y714.Text), v1079, .bool (y714.Closed)] 27 (0,0)) :: L) hs rfl has77 rfl rfl (zi0 n hW1090 hW710 hx1093) (.free rfl) (by decide) ?_; clear hs; (try clear a w)
    rintro _ f1094 _ a w hf1095 ⟨r1096, v1098, rw1099, v1101, rw1102, rfl, rfl, hq1097, hW1100, hW1103⟩ hs
    replace hbase960 := hbase960.trans hf1095
    obtain ⟨v1104, rfl, ⟨rw1105, hR1106, hW1107⟩⟩ := hq1097
    refine sM hs rfl fun hs => s1 (v := .agg #[.int .i64 (x1092.1.Kind), .string (x1092.1.Name), .string (x1092.1.Text), v1104, .bool (x1092.1.Closed)]) hs (zan rfl rfl) fun hs => s1 (v := .bool (x1092.2.1)) hs (zan rfl rfl) fun hs => zbe (i := 4) hs rfl rfl rfl ti27 ⟨rfl, rfl⟩ (AllC.arr (r := [.int .i64 (x1092.1.Kind), .string (x1092.1.Name), .string (x1092.1.Text), v1104, .bool (x1092.1.Closed)]) ⟨rfl, rfl, rfl, hR1106.one, rfl, trivial⟩) (.free rfl) fun _ _ hs => sA hs rfl fun hs => za1 <| hK24 <| Ws fun hK25 => Ws fun hK26 => za5 ?_
    refine sM hs rfl fun hs => s1 (v := .bool ((!x1092.2.1))) hs (zku rfl) fun hs => za1 <| hK26 ?_
    refine zag hs rfl (fun hg1111 => ?_) (fun hg1111 => ?_)
    ·replace hm := oc_t hg1111 hm
     refine Ws fun hK27 => ?_
     cases hm
    replace hm := oc_f hg1111 hm
    refine zak <| hK25 <| Ws fun hK28 => ?_
    have hsD := hs.subL (L' := .blk b696 (.cells #[.pointer (some ⟨b698,0, none⟩), v1101] 113 (0,0)) :: .blk b713 (.cells #[.int .i64 (x1092.1.Kind), .string (x1092.1.Name), .string (x1092.1.Text), v1104, .bool (x1092.1.Closed)] 27 (0,0)) :: []) (.cons_cons _ (.cons _ (.cons _ (.cons _ (.cons_cons _ (List.nil_sublist _))))))
    have hbd1112 := Fz.le.refl f1094
    refine zhu hs (.blk b696 (.cells #[.pointer (some ⟨b698,0, none⟩), v1101] 113 (0,0)) :: .blk b713 (.cells #[.int .i64 (x1092.1.Kind), .string (x1092.1.Name), .string (x1092.1.Text), v1104, .bool (x1092.1.Closed)] 27 (0,0)) :: []) [10] (.look 0 (.look 1 (.look 2 (.look 3 (.look 4 (.look 5 (.any [6] (fun _ => .any [7] (fun _ => .look 8 (.look 9 (.any [10] (fun _ => .done)))))))))))) mixed (by kernel_rfl) fun _ he => uy (v := .pointer (some ⟨b696,0, none⟩)) 0 he rfl (za9 rfl) fun _ he => uy (v := .pointer (some ⟨b696,0, none⟩)) 1 he rfl (za9 rfl) fun _ he => uy 2 he rfl (za6 rfl) fun _ he => uy (v := .pointer (some ⟨b696,1, none⟩)) 3 he rfl (za3 rfl (FO.of (off := 1) Tryz.underlying113 rfl rfl ti22 (by decide))) fun _ he => uy (v := v1101) 4 he rfl (y_ld rfl Tryz.underlying22 rfl (Cell.blk (.head _) rfl)) fun _ he => uy 5 he rfl (zp7 rfl Tryz.underlying27 rfl ti27 (.tail _ (.head _)) rfl) fun _ he => ?_
    refine zd1 he rfl ?_; clear he; (try clear a); intro a w hs
    refine zo9 hs rfl Tryz.underlying22 ti27 (by decide) (AllC.row ⟨rfl, rfl, rfl, hR1106.one, rfl, trivial⟩ rfl) fun v1113 _ _ hs => ?_
    have hW1114 : RW zaf f1094 [[.int .i64 (x1092.1.Kind), .string (x1092.1.Name), .string (x1092.1.Text), v1104, .bool (x1092.1.Closed)]] [x1092.1] := RW.single (⟨_, rfl, ⟨rw1105, hR1106, hW1107⟩⟩)
    generalize hgrw1115 : ([[.int .i64 (x1092.1.Kind), .string (x1092.1.Name), .string (x1092.1.Text), v1104, .bool (x1092.1.Closed)]] : List (List Value)) = rw1115 at hs hW1114; clear hgrw1115
    have ho1118 : v1113.oneCell' = true := hs.one (i := 0) rfl
    refine uon hs fun _ he => ?_
    refine zd1 he rfl ?_; clear he; (try clear a); intro a w hs
    obtain ⟨x1119, hx1120, hm⟩ := ob hm
    obtain ⟨hbx1119, hex1119⟩ := zcs hx1120
    have hW1123 := hW1103.append hW1114; rw [hex1119] at hW1123
    refine zdb (i := 4) hs rfl rfl rfl (Rd.st hs (.head _)) Tryz.underlying22 ti27 (by decide) (by rw [RW.len hW1103, RW.len hW1114]; exact hbx1119) (.free rfl) (by decide) fun v1121 _ _ hs => ?_
    generalize hgx1119 : rw1102 ++ rw1115 = rw1122 at hs hW1123; clear hgx1119
    replace hs := hs.erase 0
    have ho1125 : v1121.oneCell' = true := hs.one (i := 3) rfl
    refine uon hs fun _ he => uy 8 he rfl (za6 rfl) fun _ he => uy (v := .pointer (some ⟨b696,1, none⟩)) 9 he rfl (za3 rfl (FO.of (off := 1) Tryz.underlying113 rfl rfl ti22 (by decide))) fun _ he => ?_
    refine zd1 he rfl ?_; clear he; (try clear a); intro a w hs
    refine sstore 0 hs rfl rfl rfl ti22 ho1125 fun _ _ hs => uend hs fun _ he => ?_
    refine zmj he ?_; clear he; (try clear a); intro w hs; try clear hsD
    refine hK28 <| Ws fun hK29 => Ws fun hK30 => ?_
    refine zay (fun a w => St 155 w0 f1094 (.blk b696 (.cells #[.pointer (some ⟨b698,0, none⟩), v1121] 113 (0,0)) :: .blk b698 (.cells #[v1098, .int .i64 (x1092.2.2.c.at_)] 126 (0,0)) :: .row v1098 21 1 rw1099 :: .row v1121 27 5 rw1122 :: .blk b713 (.cells #[.int .i64 (x1092.1.Kind), .string (x1092.1.Name), .string (x1092.1.Text), v1104, .bool (x1092.1.Closed)] 27 (0,0)) :: L) [(3, .pointer (some ⟨b696,0, none⟩)),(4, .pointer (some ⟨b713,0, none⟩)),(119, .bool (((decide (x1092.1.Name = (bs [115,116,121,108,101]))) || (decide (x1092.1.Name = (bs [115,99,114,105,112,116]))))))] a w) ?_ ?_
    ·clear hs; intro a w hs
     refine hK30 ?_
     refine zag hs rfl (fun hg1126 => ?_) (fun hg1126 => ?_)
     ·replace hm := oc_t hg1126 hm
      cases hm
     replace hm := oc_f hg1126 hm
     refine zak <| hK29 <| Ws fun hK31 => zo5 ?_
     exact hG2.at_ 3 _ _ rfl ⟨k1078, Nat.lt_succ_self _,(.inl ⟨rfl, ⟨_, x1092.2.2.c.l, x1092.2.2.c.at_, x1119, x1092.1, b696, b698, v1098, rw1099, v1121, rw1122, b713,[.int .i64 (x1092.1.Kind), .string (x1092.1.Name), .string (x1092.1.Text), v1104, .bool (x1092.1.Closed)], hbase960, hm, hW1100, hW1123, ⟨_, rfl, ⟨rw1105, hR1106, hW1107⟩⟩, hs.sub ⟨rfl, rfl, trivial⟩⟩⟩)⟩
    refine za5 <| s1 (v := .pointer (some ⟨b713,1, none⟩)) hs (za3 rfl (FO.of (off := 1) Tryz.underlying27 rfl rfl ti9 (by decide))) fun hs => s1 (v := .string (x1092.1.Name)) hs (y_ld rfl Tryz.underlying9 rfl (Cell.blk (.tail _ (.tail _ (.tail _ (.tail _ (.head _))))) rfl)) fun hs => s1 hs (zfr rfl rfl) fun hs => sM hs rfl fun hs => ?_
    refine St.split hs (t := 115) rfl (fun hg1127 hs => ?_) (fun hg1127 hs => ?_)
    ·refine s3 hs fun hs => s3 hs fun hs => s3 hs fun hs => sP hs rfl rfl fun hs => za1 ?_
     exact hs.sub ⟨rfl, rfl,(lkB (((or_t hg1127).trans rfl)) rfl), trivial⟩
    refine s2 (v := .pointer (some ⟨b713,1, none⟩)) hs (za3 rfl (FO.of (off := 1) Tryz.underlying27 rfl rfl ti9 (by decide))) fun hs => s2 (v := .string (x1092.1.Name)) hs (y_ld rfl Tryz.underlying9 rfl (Cell.blk (.tail _ (.tail _ (.tail _ (.tail _ (.head _))))) rfl)) fun hs => s2 hs (zfr rfl rfl) fun hs => sP hs rfl rfl fun hs => za1 ?_
    exact hs.sub ⟨rfl, rfl,(lkB (((or_f hg1127).trans rfl)) rfl), trivial⟩
  cases hl; revert a w
  rintro a w ⟨f717, y724, y729, y731, y738, b720, b722, v725, rw726, v732, rw733, b737, r739, hl718, hm, hW727, hW734, hq740, hs⟩
  obtain ⟨v1129, rfl, ⟨rw1130, hR1131, hW1132⟩⟩ := hq740
  have hbase960 := hl718
  cases k with
  | zero => simp [zdr] at hm
  | succ k1128 =>
   rw [zdr] at hm
   refine Wq fun hK32 => sM hs rfl fun hs => s1 hs (za6 rfl) fun hs => s1 (v := .pointer (some ⟨b720,0, none⟩)) hs (za3 rfl (FO.of (off := 0) Tryz.underlying113 rfl rfl ti110 (by decide))) fun hs => s1 (v := .pointer (some ⟨b722,0, none⟩)) hs (y_ld rfl Tryz.underlying110 rfl (Cell.blk (.head _) rfl)) fun hs => ?_
   obtain ⟨x1134, hx1135, hm⟩ := ob hm
   replace hs := hs.front 2
   replace hs := hs.front 2
   refine zdo (Lr := [.blk b722 (.cells #[v725, .int .i64 (y729)] 126 (0,0)), .row v725 21 1 rw726]) (Lf := .blk b720 (.cells #[.pointer (some ⟨b722,0, none⟩), v732] 113 (0,0)) :: .row v732 27 5 rw733 :: .blk b737 (.cells #[.int .i64 (y738.Kind), .string (y738.Name), .string (y738.Text), v1129, .bool (y738.Closed)] 27 (0,0)) :: L) hs rfl has75 rfl rfl (zbb n hW727 hx1135) (.free rfl) (by decide) ?_; clear hs; (try clear a w)
   rintro _ f1136 _ a w hf1137 ⟨v1138, rw1139, rfl, rfl, hW1140⟩ hs
   replace hW734 := hW734.le hf1137
   replace hbase960 := hbase960.trans hf1137
   refine za1 <| hK32 <| Wq fun hK33 => sM hs rfl fun hs => s1 hs (za6 rfl) fun hs => s1 (v := .pointer (some ⟨b720,0, none⟩)) hs (za3 rfl (FO.of (off := 0) Tryz.underlying113 rfl rfl ti110 (by decide))) fun hs => s1 (v := .pointer (some ⟨b722,0, none⟩)) hs (y_ld rfl Tryz.underlying110 rfl (Cell.blk (.tail _ (.tail _ (.head _))) rfl)) fun hs => ?_
   obtain ⟨x1142, hx1143, hm⟩ := ob hm
   replace hs := hs.front 1
   replace hs := hs.front 1
   refine zdo (Lr := [.blk b722 (.cells #[v1138, .int .i64 (x1134.2.2.at_)] 126 (0,0)), .row v1138 21 1 rw1139]) (Lf := .blk b720 (.cells #[.pointer (some ⟨b722,0, none⟩), v732] 113 (0,0)) :: .row v732 27 5 rw733 :: .blk b737 (.cells #[.int .i64 (y738.Kind), .string (y738.Name), .string (y738.Text), v1129, .bool (y738.Closed)] 27 (0,0)) :: L) hs rfl has75 rfl rfl (zbb n hW1140 hx1143) (.free rfl) (by decide) ?_; clear hs; (try clear a w)
   rintro _ f1144 _ a w hf1145 ⟨v1146, rw1147, rfl, rfl, hW1148⟩ hs
   replace hW734 := hW734.le hf1145
   replace hbase960 := hbase960.trans hf1145
   refine za1 <| hK33 <| Wq fun hK34 => sM hs rfl fun hs => ?_
   obtain ⟨x1150, hx1151, hm⟩ := ob hm
   replace hs := hs.front 3
   replace hs := hs.front 2
   replace hs := hs.front 2
   replace hs := hs.front 3
   refine zdo (Lr := [.blk b720 (.cells #[.pointer (some ⟨b722,0, none⟩), v732] 113 (0,0)), .blk b722 (.cells #[v1146, .int .i64 (x1142.2.2.at_)] 126 (0,0)), .row v1146 21 1 rw1147, .row v732 27 5 rw733]) (Lf := .blk b737 (.cells #[.int .i64 (y738.Kind), .string (y738.Name), .string (y738.Text), v1129, .bool (y738.Closed)] 27 (0,0)) :: L) hs rfl has77 rfl rfl (zi0 n hW1148 hW734 hx1151) (.free rfl) (by decide) ?_; clear hs; (try clear a w)
   rintro _ f1152 _ a w hf1153 ⟨r1154, v1156, rw1157, v1159, rw1160, rfl, rfl, hq1155, hW1158, hW1161⟩ hs
   replace hbase960 := hbase960.trans hf1153
   obtain ⟨v1162, rfl, ⟨rw1163, hR1164, hW1165⟩⟩ := hq1155
   refine sM hs rfl fun hs => s1 (v := .agg #[.int .i64 (x1150.1.Kind), .string (x1150.1.Name), .string (x1150.1.Text), v1162, .bool (x1150.1.Closed)]) hs (zan rfl rfl) fun hs => s1 (v := .bool (x1150.2.1)) hs (zan rfl rfl) fun hs => zbe (i := 4) hs rfl rfl rfl ti27 ⟨rfl, rfl⟩ (AllC.arr (r := [.int .i64 (x1150.1.Kind), .string (x1150.1.Name), .string (x1150.1.Text), v1162, .bool (x1150.1.Closed)]) ⟨rfl, rfl, rfl, hR1164.one, rfl, trivial⟩) (.free rfl) fun _ _ hs => sA hs rfl fun hs => za1 <| hK34 <| Ws fun hK35 => Ws fun hK36 => za5 ?_
   refine sM hs rfl fun hs => s1 (v := .bool ((!x1150.2.1))) hs (zku rfl) fun hs => za1 <| hK36 ?_
   refine zag hs rfl (fun hg1169 => ?_) (fun hg1169 => ?_)
   ·replace hm := oc_t hg1169 hm
    refine Ws fun hK37 => ?_
    cases hm
   replace hm := oc_f hg1169 hm
   refine zak <| hK35 <| Ws fun hK38 => ?_
   have hsD := hs.subL (L' := .blk b720 (.cells #[.pointer (some ⟨b722,0, none⟩), v1159] 113 (0,0)) :: .blk b737 (.cells #[.int .i64 (x1150.1.Kind), .string (x1150.1.Name), .string (x1150.1.Text), v1162, .bool (x1150.1.Closed)] 27 (0,0)) :: []) (.cons_cons _ (.cons _ (.cons _ (.cons _ (.cons_cons _ (List.nil_sublist _))))))
   have hbd1170 := Fz.le.refl f1152
   refine zhu hs (.blk b720 (.cells #[.pointer (some ⟨b722,0, none⟩), v1159] 113 (0,0)) :: .blk b737 (.cells #[.int .i64 (x1150.1.Kind), .string (x1150.1.Name), .string (x1150.1.Text), v1162, .bool (x1150.1.Closed)] 27 (0,0)) :: []) [10] (.look 0 (.look 1 (.look 2 (.look 3 (.look 4 (.look 5 (.any [6] (fun _ => .any [7] (fun _ => .look 8 (.look 9 (.any [10] (fun _ => .done)))))))))))) mixed (by kernel_rfl) fun _ he => uy (v := .pointer (some ⟨b720,0, none⟩)) 0 he rfl (za9 rfl) fun _ he => uy (v := .pointer (some ⟨b720,0, none⟩)) 1 he rfl (za9 rfl) fun _ he => uy 2 he rfl (za6 rfl) fun _ he => uy (v := .pointer (some ⟨b720,1, none⟩)) 3 he rfl (za3 rfl (FO.of (off := 1) Tryz.underlying113 rfl rfl ti22 (by decide))) fun _ he => uy (v := v1159) 4 he rfl (y_ld rfl Tryz.underlying22 rfl (Cell.blk (.head _) rfl)) fun _ he => uy 5 he rfl (zp7 rfl Tryz.underlying27 rfl ti27 (.tail _ (.head _)) rfl) fun _ he => ?_
   refine zd1 he rfl ?_; clear he; (try clear a); intro a w hs
   refine zo9 hs rfl Tryz.underlying22 ti27 (by decide) (AllC.row ⟨rfl, rfl, rfl, hR1164.one, rfl, trivial⟩ rfl) fun v1171 _ _ hs => ?_
   have hW1172 : RW zaf f1152 [[.int .i64 (x1150.1.Kind), .string (x1150.1.Name), .string (x1150.1.Text), v1162, .bool (x1150.1.Closed)]] [x1150.1] := RW.single (⟨_, rfl, ⟨rw1163, hR1164, hW1165⟩⟩)
   generalize hgrw1173 : ([[.int .i64 (x1150.1.Kind), .string (x1150.1.Name), .string (x1150.1.Text), v1162, .bool (x1150.1.Closed)]] : List (List Value)) = rw1173 at hs hW1172; clear hgrw1173
   have ho1176 : v1171.oneCell' = true := hs.one (i := 0) rfl
   refine uon hs fun _ he => ?_
   refine zd1 he rfl ?_; clear he; (try clear a); intro a w hs
   obtain ⟨x1177, hx1178, hm⟩ := ob hm
   obtain ⟨hbx1177, hex1177⟩ := zcs hx1178
   have hW1181 := hW1161.append hW1172; rw [hex1177] at hW1181
   refine zdb (i := 4) hs rfl rfl rfl (Rd.st hs (.head _)) Tryz.underlying22 ti27 (by decide) (by rw [RW.len hW1161, RW.len hW1172]; exact hbx1177) (.free rfl) (by decide) fun v1179 _ _ hs => ?_
   generalize hgx1177 : rw1160 ++ rw1173 = rw1180 at hs hW1181; clear hgx1177
   replace hs := hs.erase 0
   have ho1183 : v1179.oneCell' = true := hs.one (i := 3) rfl
   refine uon hs fun _ he => uy 8 he rfl (za6 rfl) fun _ he => uy (v := .pointer (some ⟨b720,1, none⟩)) 9 he rfl (za3 rfl (FO.of (off := 1) Tryz.underlying113 rfl rfl ti22 (by decide))) fun _ he => ?_
   refine zd1 he rfl ?_; clear he; (try clear a); intro a w hs
   refine sstore 0 hs rfl rfl rfl ti22 ho1183 fun _ _ hs => uend hs fun _ he => ?_
   refine zmj he ?_; clear he; (try clear a); intro w hs; try clear hsD
   refine hK38 <| zo5 ?_
   exact hG2.at_ 3 _ _ rfl ⟨k1128, Nat.lt_succ_self _,(.inl ⟨rfl, ⟨_, x1150.2.2.c.l, x1150.2.2.c.at_, x1177, x1150.1, b720, b722, v1156, rw1157, v1179, rw1180, b737,[.int .i64 (x1150.1.Kind), .string (x1150.1.Name), .string (x1150.1.Text), v1162, .bool (x1150.1.Closed)], hbase960, hm, hW1158, hW1181, ⟨_, rfl, ⟨rw1163, hR1164, hW1165⟩⟩, hs.sub ⟨rfl, rfl, trivial⟩⟩⟩)⟩
 intro hB2g G2 hG2
 refine Wq fun hK39 => sM hs rfl fun hs => ?_
 obtain ⟨x1184, hx1185, hm⟩ := ob hm
 refine zi2 hs rfl has67 rfl (zld n ⟨rw1, hR2, hW3⟩ hx1185) ?_; clear hs; (try clear a w)
 rintro _ f1186 _ a w hf1187 ⟨b1188, v1189, rw1190, rfl, rfl, hW1191⟩ hs
 replace hbase960 := hbase960.trans hf1187
 refine s1 hs (zea (places := [(0,1),(1,1)]) (cs := [.pointer (some ⟨b1188,0, none⟩),(.slice none 0 0)]) rfl Tryz.underlying113 ti113 (by kernel_rfl) (by decide) rfl ⟨rfl, trivial⟩) fun hs => sbox hs rfl fun b1196 _ _ hs => sA hs rfl fun hs => za1 <| hK39 <| Wq fun hK40 => zd3 hs ti27 (.free rfl) (by decide) fun b1198 _ _ hs => za1 <| hK40 ?_
 refine Wq fun hK41 => sA hs rfl fun hs => za1 <| hK41 <| Wq fun hK42 => sA hs rfl fun hs => za1 <| hK42 ?_
 replace hs := hs.nilRow 27 5
 have hW1202 : RW zaf f1186 [] ([] : List za4) := trivial
 generalize hgrw1203 : ([] : List (List Value)) = rw1203 at hs hW1202; clear hgrw1203
 replace hs := hs.front 1
 replace hs := hs.front 1
 replace hs := hs.front 4
 replace hs := hs.front 4
 replace hs := hs.front 4
 exact (hB2g n).into (l := 3) rfl (.inl ⟨rfl, ⟨_, x1184.l, x1184.at_,([] : List za4),({Kind := 0, Name := (bs []), Text := (bs []), Attrs := ([] : List zam), Closed := false} : za4), b1196, b1188, v1189, rw1190,(.slice none 0 0), rw1203, b1198,[.int .i64 (0), .string ((bs [])), .string ((bs [])),(.slice none 0 0), .bool (false)], hbase960, hm, hW1191, hW1202, ⟨_, rfl, RS.nil⟩, hs.sub ⟨rfl, rfl, trivial⟩⟩⟩) hG2 (fun l a w k'' _ hJ => ⟨k'', hJ⟩)
end Go.Proofs.YtdjjeahiomackaaGreat
