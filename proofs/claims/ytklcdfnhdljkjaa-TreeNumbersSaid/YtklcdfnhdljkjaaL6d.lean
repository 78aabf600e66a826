/-
  Walks and laws of this seat.
-/
import Derived.Test.YtklcdfnhdljkjaaBasg
import Derived.Test.YtklcdfnhdljkjaaG6c
import Derived.Test.YtklcdfnhdljkjaaRows
namespace Go.Proofs.Ytklcdfnhdljkjaa
set_option linter.unusedVariables false
set_option linter.unusedSimpArgs false
set_option maxHeartbeats 4000000
set_option maxRecDepth 100000
open Go.RowKit Go.Sl
def zlx : Option Bool :=
  some true
def zh8 (y17 : (List (ByteArray × Int))) (y21 : Int) (lp22 : (List (ByteArray × Int)) → Int → Option Bool) (x24 : za9) (y33 : Bool) : Option Bool :=
  (bif y33 then some false else
  lp22 (mputM y17 x24.Name (w64 (((mgetM y17 x24.Name).getD 0) + 1))) (w64 (y21 + 1)))
def zfw (p0 : zac) : Nat → (List (ByteArray × Int)) → Int → Option Bool
  | 0, _, _ => none
  | k22 + 1, y17, y21 =>
  (bif (decide (y21 < (p0.Attrs.length : Int))) then (geti p0.Attrs y21).bind fun x24 =>
  (bif (decide (x24.Name = (bs []))) then zh8 y17 y21 (zfw p0 k22) x24 true else
  zh8 y17 y21 (zfw p0 k22) x24 (decide (0 < ((mgetM y17 x24.Name).getD 0)))) else
  zlx)
def zly (n : Nat) (p0 : zac) : Option Bool :=
  (bif (decide (p0.Kind = 2)) then some ((decide (p0.Name = (bs []))) && ((decide (p0.Text ≠ (bs []))) && ((decide ((p0.Attrs.length : Int) = 0)) && ((decide (p0.First = (-1))) && (decide (p0.Last = (-1))))))) else
  (bif ((decide (p0.Kind ≠ 1)) || ((decide (p0.Name = (bs []))) || ((decide (p0.Text ≠ (bs []))) || (decide (64 < (p0.Attrs.length : Int)))))) then some false else
  zfw p0 n ([] : List (ByteArray × Int)) 0))
theorem dom_alone_ok (n : Nat) {f : Fz} {p0 : zac} {a0 : List Value} {res : Bool} (h0 : zbw.R f a0 p0) (hm : zly n p0 = some res) : Gives Try.prog 41 [.agg a0.toArray] f (.bool res) := by
 unfold zly at hm
 intro w0 L w hC
 obtain ⟨v1, rfl, ⟨rw2, hR3, hW4⟩⟩ := h0
 refine enter Try.func41 rfl Try.ntmps41 (by simp) hC fun a hs => ?_
 have hle := Fz.le.refl f
 refine Wq fun hK1 => sbox hs rfl fun b6 _ _ hs => sA (v := .bool (false)) hs rfl fun hs => za0 <| hK1 <| Ws fun hK2 => Wq fun hK3 => s1 (v := .pointer (some ⟨b6, 0, none⟩)) hs (za1 rfl (FO.of (off := 0) Try.underlying36 rfl rfl ti3 (by decide))) fun hs => ?_
 refine s1 (v := .int .i64 (p0.Kind)) hs (y_ld rfl Try.underlying3 rfl (Cell.blk (.head _) rfl)) fun hs => s1 hs (zd3 rfl rfl) fun hs => za0 <| hK3 ?_
 refine zaf hs rfl (fun hg8 => ?_) (fun hg8 => ?_)
 ·replace hm := oc_t hg8 hm
  refine Ws fun hK4 => ?_
  refine zai (fun a w => St 76 w0 f (.blk b6 (.cells #[.int .i64 (p0.Kind), .string (p0.Name), .string (p0.Text), v1, .int .i64 (p0.Parent), .int .i64 (p0.First), .int .i64 (p0.Last), .int .i64 (p0.Prev), .int .i64 (p0.Next)] 36 (0, 0)) :: L) [(2, .bool (((decide (p0.Name = (bs []))) && ((decide (p0.Text ≠ (bs []))) && ((decide ((p0.Attrs.length : Int) = 0)) && ((decide (p0.First = (-1))) && (decide (p0.Last = (-1)))))))))] a w) ?_ ?_
  ·clear hs; intro a w hs
   refine hK4 <| zau ?_
   obtain rfl := Option.some.inj hm
   refine RtV1 hs rfl (rv_t hs rfl) ?_
   exact ⟨rfl, ((hs.subL (.cons _ (.refl _))).weak hle).cw⟩
  refine za7 <| s1 (v := .pointer (some ⟨b6, 1, none⟩)) hs (za1 rfl (FO.of (off := 1) Try.underlying36 rfl rfl ti9 (by decide))) fun hs => s1 (v := .string (p0.Name)) hs (y_ld rfl Try.underlying9 rfl (Cell.blk (.head _) rfl)) fun hs => s1 hs (zd9 rfl rfl) fun hs => sM (v := .bool (decide (p0.Name = (bs [])))) hs rfl fun hs => ?_
  refine St.split hs (t := 12) rfl (fun hg9 hs => ?_) (fun hg9 hs => ?_)
  ·refine s2 (v := .pointer (some ⟨b6, 2, none⟩)) hs (za1 rfl (FO.of (off := 2) Try.underlying36 rfl rfl ti9 (by decide))) fun hs => s2 (v := .string (p0.Text)) hs (y_ld rfl Try.underlying9 rfl (Cell.blk (.head _) rfl)) fun hs => s2 hs (zlm rfl rfl) fun hs => sP (v := .bool (decide (p0.Text ≠ (bs [])))) hs rfl rfl fun hs => sM (v := .bool (decide (p0.Text ≠ (bs [])))) hs rfl fun hs => ?_
   refine St.split hs (t := 17) rfl (fun hg10 hs => ?_) (fun hg10 hs => ?_)
   ·refine s2 (v := .pointer (some ⟨b6, 3, none⟩)) hs (za1 rfl (FO.of (off := 3) Try.underlying36 rfl rfl ti34 (by decide))) fun hs => s2 (v := v1) hs (y_ld rfl Try.underlying34 rfl (Cell.blk (.head _) rfl)) fun hs => s2 hs (zb7 hR3 hW4 rfl Try.underlying34) fun hs => s2 hs (zd3 rfl rfl) fun hs => sP (v := .bool (decide ((p0.Attrs.length : Int) = 0))) hs rfl rfl fun hs => sM (v := .bool (decide ((p0.Attrs.length : Int) = 0))) hs rfl fun hs => ?_
    refine St.split hs (t := 23) rfl (fun hg11 hs => ?_) (fun hg11 hs => ?_)
    ·refine s2 (v := .pointer (some ⟨b6, 5, none⟩)) hs (za1 rfl (FO.of (off := 5) Try.underlying36 rfl rfl ti3 (by decide))) fun hs => s2 (v := .int .i64 (p0.First)) hs (y_ld rfl Try.underlying3 rfl (Cell.blk (.head _) rfl)) fun hs => s2 hs (zd3 rfl rfl) fun hs => sP (v := .bool (decide (p0.First = (-1)))) hs rfl rfl fun hs => sM (v := .bool (decide (p0.First = (-1)))) hs rfl fun hs => ?_
     refine St.split hs (t := 28) rfl (fun hg12 hs => ?_) (fun hg12 hs => ?_)
     ·refine s2 (v := .pointer (some ⟨b6, 6, none⟩)) hs (za1 rfl (FO.of (off := 6) Try.underlying36 rfl rfl ti3 (by decide))) fun hs => s2 (v := .int .i64 (p0.Last)) hs (y_ld rfl Try.underlying3 rfl (Cell.blk (.head _) rfl)) fun hs => s2 hs (zd3 rfl rfl) fun hs => sP (v := .bool (decide (p0.Last = (-1)))) hs rfl rfl fun hs => sA (v := .bool (decide (p0.Last = (-1)))) hs rfl fun hs => za0 ?_
      exact hs.sub ⟨(lkB (((zgi hg9).trans ((zgi hg10).trans ((zgi hg11).trans ((zgi hg12).trans rfl))))) rfl), trivial⟩
     refine s3 hs fun hs => s3 hs fun hs => s3 hs fun hs => sP (v := .bool (false)) hs rfl rfl fun hs => sA (v := .bool (false)) hs rfl fun hs => za0 ?_
     exact hs.sub ⟨(lkB (((zgi hg9).trans ((zgi hg10).trans ((zgi hg11).trans ((zll hg12).trans rfl))))) rfl), trivial⟩
    refine s3 hs fun hs => s3 hs fun hs => s3 hs fun hs => sP (v := .bool (false)) hs rfl rfl fun hs => sM (v := .bool (false)) hs rfl fun hs => s3 hs fun hs => s3 hs fun hs => s3 hs fun hs => sP (v := .bool (false)) hs rfl rfl fun hs => sA (v := .bool (false)) hs rfl fun hs => ?_
    refine za0 ?_
    exact hs.sub ⟨(lkB (((zgi hg9).trans ((zgi hg10).trans ((zll hg11).trans rfl)))) rfl), trivial⟩
   refine s3 hs fun hs => s3 hs fun hs => s3 hs fun hs => s3 hs fun hs => sP (v := .bool (false)) hs rfl rfl fun hs => sM (v := .bool (false)) hs rfl fun hs => s3 hs fun hs => s3 hs fun hs => s3 hs fun hs => sP (v := .bool (false)) hs rfl rfl fun hs => ?_
   refine sM (v := .bool (false)) hs rfl fun hs => s3 hs fun hs => s3 hs fun hs => s3 hs fun hs => sP (v := .bool (false)) hs rfl rfl fun hs => sA (v := .bool (false)) hs rfl fun hs => za0 ?_
   exact hs.sub ⟨(lkB (((zgi hg9).trans ((zll hg10).trans rfl))) rfl), trivial⟩
  refine s3 hs fun hs => s3 hs fun hs => s3 hs fun hs => sP (v := .bool (false)) hs rfl rfl fun hs => sM (v := .bool (false)) hs rfl fun hs => s3 hs fun hs => s3 hs fun hs => s3 hs fun hs => s3 hs fun hs => sP (v := .bool (false)) hs rfl rfl fun hs => ?_
  refine sM (v := .bool (false)) hs rfl fun hs => s3 hs fun hs => s3 hs fun hs => s3 hs fun hs => sP (v := .bool (false)) hs rfl rfl fun hs => sM (v := .bool (false)) hs rfl fun hs => s3 hs fun hs => s3 hs fun hs => s3 hs fun hs => sP (v := .bool (false)) hs rfl rfl fun hs => ?_
  refine sA (v := .bool (false)) hs rfl fun hs => za0 ?_
  exact hs.sub ⟨(lkB (((zll hg9).trans rfl)) rfl), trivial⟩
 replace hm := oc_f hg8 hm
 refine zah <| hK2 <| Ws fun hK5 => Ws fun hK6 => ?_
 refine zai (fun a w => St 76 w0 f (.blk b6 (.cells #[.int .i64 (p0.Kind), .string (p0.Name), .string (p0.Text), v1, .int .i64 (p0.Parent), .int .i64 (p0.First), .int .i64 (p0.Last), .int .i64 (p0.Prev), .int .i64 (p0.Next)] 36 (0, 0)) :: L) [(1, .pointer (some ⟨b6, 0, none⟩)), (51, .bool (((decide (p0.Kind ≠ 1)) || ((decide (p0.Name = (bs []))) || ((decide (p0.Text ≠ (bs []))) || (decide (64 < (p0.Attrs.length : Int))))))))] a w) ?_ ?_
 ·clear hs; intro a w hs
  refine hK6 ?_
  refine zaf hs rfl (fun hg13 => ?_) (fun hg13 => ?_)
  ·replace hm := oc_t hg13 hm
   refine Wq fun hK7 => sA (v := .bool (false)) hs rfl fun hs => za0 <| hK7 <| zau ?_
   obtain rfl := Option.some.inj hm
   refine RtV1 hs rfl (rv_t hs rfl) ?_
   exact ⟨rfl, ((hs.subL (.cons _ (.refl _))).weak hle).cw⟩
  replace hm := oc_f hg13 hm
  refine zah <| hK5 <| Wq fun hK8 => RL_makeMap hs fun b14 _ _ hs => ?_
  have hS15 : SM (fun x => .int .i64 x) #[] [] := SM.nil
  refine sA (v := .map (some b14)) hs rfl fun hs => za0 <| hK8 <| Ws fun hK9 => Wq fun hK10 => s1 (v := .pointer (some ⟨b6, 3, none⟩)) hs (za1 rfl (FO.of (off := 3) Try.underlying36 rfl rfl ti34 (by decide))) fun hs => s1 (v := v1) hs (y_ld rfl Try.underlying34 rfl (Cell.blk (.tail _ (.head _)) rfl)) fun hs => s1 hs (zb7 hR3 hW4 rfl Try.underlying34) fun hs => sM (v := .int .i64 (0)) hs rfl fun hs => ?_
  refine za0 <| hK10 ?_
  refine zai (fun a w => zlx = some res ∧ St 76 w0 f (L) [] a w) ?_ ?_
  ·clear hs hm
   rintro a w ⟨hm, hs⟩
   unfold zlx at hm
   refine hK9 <| Wq fun hK11 => sA (v := .bool (true)) hs rfl fun hs => za0 <| hK11 <| zau ?_
   obtain rfl := Option.some.inj hm
   refine RtV1 hs rfl (rv_t hs rfl) ?_
   exact ⟨rfl, (hs.weak hle).cw⟩
  refine zam fun Qe12 hB12 hO12 => zcw (fun (k : Nat) a w => ∃ (y17 : (List (ByteArray × Int))) (y21 : Int) (es18 : Array MapEntry) (c19 : Nat), zfw p0 k y17 y21 = some res ∧ SM (fun x => .int .i64 x) es18 y17 ∧ St 76 w0 f (.blk b14 (.map es18 c19) :: L) [(3, .map (some b14)), (54, v1), (55, .int .i64 ((p0.Attrs.length : Int))), (56, .int .i64 (y21))] a w) (fun k => k) n ⟨([] : List (ByteArray × Int)), 0, #[], 0, hm, hS15, hs.subs ⟨rfl, rfl, rfl, rfl, trivial⟩ (.cons_cons _ (.cons _ (.refl _)))⟩ ?_
  clear hs hm
  intro k
  rintro a w ⟨y17, y21, es18, c19, hm, hS20, hs⟩
  intro K13 hK13
  cases k with
  | zero => simp [zfw] at hm
  | succ k22 =>
   rw [zfw] at hm
   refine Wq fun hK14 => s1 hs (zg7 rfl rfl) fun hs => za0 <| hK14 <| Ws fun hK15 => ?_
   refine zaf hs rfl (fun hg23 => ?_) (fun hg23 => ?_)
   ·replace hm := oc_t hg23 hm
    refine zah <| hK15 <| Ws fun hK16 => zam fun Qe17 hB17 hO17 => Ws fun hK18 => za7 ?_
    obtain ⟨x24, hx25, hm⟩ := ob hm
    obtain ⟨r26, hr27, hq28, hi29, hb30⟩ := hW4.geti hx25
    obtain rfl : _ = ([.string (x24.Name), .string (x24.Value)] : List Value) := hq28
    refine s1 hs (za8 hR3 rfl rfl hi29 hb30 Try.underlying34 ti84) fun hs => s1 hs (zfm hR3.up rfl hr27 Try.underlying84 rfl ti84) fun hs => zbt hs ti84 (.free rfl) (by decide) fun b31 _ _ hs => zat (i := 0) hs rfl rfl rfl ti84 ⟨rfl, rfl⟩ (AllC.arr (r := [.string (x24.Name), .string (x24.Value)]) ⟨rfl, rfl, trivial⟩) (.free rfl) fun _ _ hs => za0 <| hK18 <| Ws fun hK19 => Ws fun hK20 => ?_
    refine zai (fun a w => ∃ (y33 : Bool), zh8 y17 y21 (zfw p0 k22) x24 y33 = some res ∧ St 76 w0 f (.blk b31 (.cells #[.string (x24.Name), .string (x24.Value)] 84 (0, 0)) :: .blk b14 (.map es18 c19) :: L) [(3, .map (some b14)), (5, .pointer (some ⟨b31, 0, none⟩)), (54, v1), (55, .int .i64 ((p0.Attrs.length : Int))), (56, .int .i64 (y21)), (69, .bool (y33))] a w) ?_ ?_
    ·clear hs hm
     rintro a w ⟨y33, hm, hs⟩
     unfold zh8 at hm
     refine hK20 ?_
     refine zaf hs rfl (fun hg34 => ?_) (fun hg34 => ?_)
     ·replace hm := oc_t hg34 hm
      refine Wq fun hK21 => sA (v := .bool (false)) hs rfl fun hs => za0 <| hK21 <| zau ?_
      obtain rfl := Option.some.inj hm
      refine RtV1 hs rfl (rv_t hs rfl) ?_
      exact ⟨rfl, ((hs.subL (.cons _ (.cons _ (.refl _)))).weak hle).cw⟩
     replace hm := oc_f hg34 hm
     refine zah <| hK19 <| za7 <| sM (v := .map (some b14)) hs rfl fun hs => s1 (v := .pointer (some ⟨b31, 0, none⟩)) hs (za1 rfl (FO.of (off := 0) Try.underlying84 rfl rfl ti9 (by decide))) fun hs => s1 (v := .string (x24.Name)) hs (y_ld rfl Try.underlying9 rfl (Cell.blk (.head _) rfl)) fun hs => sy hs (y_lookupM (enc := (fun x => .int .i64 x)) (z := 0) rfl rfl Try.underlying118 Try.underlying9 ti3 (.tail _ (.head _)) hS20) fun _ _ hs => s1 hs (zeq rfl rfl rfl) fun hs => zs5 (enc := (fun x => .int .i64 x)) (u := (w64 (((mgetM y17 x24.Name).getD 0) + 1))) 1 hs rfl rfl rfl rfl Try.underlying118 Try.underlying9 hS20 fun es35 c36 _ _ hS37 hs => za0 ?_
     refine hK16 <| za7 <| s1 hs (zeq rfl rfl rfl) fun hs => sM (v := .int .i64 ((w64 (y21 + 1)))) hs rfl fun hs => za0 ?_
     exact hK13 k22 _ _ (Nat.lt_succ_self _) ⟨(mputM y17 x24.Name (w64 (((mgetM y17 x24.Name).getD 0) + 1))), (w64 (y21 + 1)), es35, c36, hm, hS37, hs.subs ⟨rfl, rfl, rfl, rfl, trivial⟩ (.cons _ (.cons_cons _ (.refl _)))⟩
    refine za7 <| s1 (v := .pointer (some ⟨b31, 0, none⟩)) hs (za1 rfl (FO.of (off := 0) Try.underlying84 rfl rfl ti9 (by decide))) fun hs => s1 (v := .string (x24.Name)) hs (y_ld rfl Try.underlying9 rfl (Cell.blk (.head _) rfl)) fun hs => s1 hs (zd9 rfl rfl) fun hs => sM (v := .bool (decide (x24.Name = (bs [])))) hs rfl fun hs => ?_
    refine St.split hs (t := 63) rfl (fun hg38 hs => ?_) (fun hg38 hs => ?_)
    ·replace hm := oc_t hg38 hm
     refine s3 hs fun hs => s3 hs fun hs => s3 hs fun hs => s3 hs fun hs => s3 hs fun hs => sP (v := .bool (true)) hs rfl rfl fun hs => za0 ?_
     exact ⟨true, hm, hs.sub ⟨rfl, rfl, rfl, rfl, rfl, rfl, trivial⟩⟩
    replace hm := oc_f hg38 hm
    refine s2 (v := .map (some b14)) hs (zaa rfl) fun hs => s2 (v := .pointer (some ⟨b31, 0, none⟩)) hs (za1 rfl (FO.of (off := 0) Try.underlying84 rfl rfl ti9 (by decide))) fun hs => s2 (v := .string (x24.Name)) hs (y_ld rfl Try.underlying9 rfl (Cell.blk (.head _) rfl)) fun hs => syg hs (y_lookupM (enc := (fun x => .int .i64 x)) (z := 0) rfl rfl Try.underlying118 Try.underlying9 ti3 (.tail _ (.head _)) hS20) fun _ _ hs => s2 hs (zis rfl rfl) fun hs => sP (v := .bool (decide (0 < ((mgetM y17 x24.Name).getD 0)))) hs rfl rfl fun hs => za0 ?_
    exact ⟨decide (0 < ((mgetM y17 x24.Name).getD 0)), hm, hs.sub ⟨rfl, rfl, rfl, rfl, rfl, rfl, trivial⟩⟩
   replace hm := oc_f hg23 hm
   refine zc9 <| hB12 _ _ ?_
   exact ⟨hm, hs.subs trivial (.cons _ (.refl _))⟩
 refine za7 <| s1 (v := .pointer (some ⟨b6, 0, none⟩)) hs (za1 rfl (FO.of (off := 0) Try.underlying36 rfl rfl ti3 (by decide))) fun hs => s1 (v := .int .i64 (p0.Kind)) hs (y_ld rfl Try.underlying3 rfl (Cell.blk (.head _) rfl)) fun hs => s1 hs (zez rfl rfl) fun hs => sM (v := .bool (decide (p0.Kind ≠ 1))) hs rfl fun hs => ?_
 refine St.split hs (t := 36) rfl (fun hg39 hs => ?_) (fun hg39 hs => ?_)
 ·refine s3 hs fun hs => s3 hs fun hs => s3 hs fun hs => sP (v := .bool (true)) hs rfl rfl fun hs => sM (v := .bool (true)) hs rfl fun hs => s3 hs fun hs => s3 hs fun hs => s3 hs fun hs => sP (v := .bool (true)) hs rfl rfl fun hs => sM (v := .bool (true)) hs rfl fun hs => ?_
  refine s3 hs fun hs => s3 hs fun hs => s3 hs fun hs => s3 hs fun hs => sP (v := .bool (true)) hs rfl rfl fun hs => za0 ?_
  exact hs.sub ⟨rfl, (lkB (((or_t hg39).trans rfl)) rfl), trivial⟩
 refine s2 (v := .pointer (some ⟨b6, 1, none⟩)) hs (za1 rfl (FO.of (off := 1) Try.underlying36 rfl rfl ti9 (by decide))) fun hs => s2 (v := .string (p0.Name)) hs (y_ld rfl Try.underlying9 rfl (Cell.blk (.head _) rfl)) fun hs => s2 hs (zd9 rfl rfl) fun hs => sP (v := .bool (decide (p0.Name = (bs [])))) hs rfl rfl fun hs => sM (v := .bool (decide (p0.Name = (bs [])))) hs rfl fun hs => ?_
 refine St.split hs (t := 41) rfl (fun hg40 hs => ?_) (fun hg40 hs => ?_)
 ·refine s3 hs fun hs => s3 hs fun hs => s3 hs fun hs => sP (v := .bool (true)) hs rfl rfl fun hs => sM (v := .bool (true)) hs rfl fun hs => s3 hs fun hs => s3 hs fun hs => s3 hs fun hs => s3 hs fun hs => sP (v := .bool (true)) hs rfl rfl fun hs => ?_
  refine za0 ?_
  exact hs.sub ⟨rfl, (lkB (((or_f hg39).trans ((or_t hg40).trans rfl))) rfl), trivial⟩
 refine s2 (v := .pointer (some ⟨b6, 2, none⟩)) hs (za1 rfl (FO.of (off := 2) Try.underlying36 rfl rfl ti9 (by decide))) fun hs => s2 (v := .string (p0.Text)) hs (y_ld rfl Try.underlying9 rfl (Cell.blk (.head _) rfl)) fun hs => s2 hs (zlm rfl rfl) fun hs => sP (v := .bool (decide (p0.Text ≠ (bs [])))) hs rfl rfl fun hs => sM (v := .bool (decide (p0.Text ≠ (bs [])))) hs rfl fun hs => ?_
 refine St.split hs (t := 46) rfl (fun hg41 hs => ?_) (fun hg41 hs => ?_)
 ·refine s3 hs fun hs => s3 hs fun hs => s3 hs fun hs => s3 hs fun hs => sP (v := .bool (true)) hs rfl rfl fun hs => za0 ?_
  exact hs.sub ⟨rfl, (lkB (((or_f hg39).trans ((or_f hg40).trans ((or_t hg41).trans rfl)))) rfl), trivial⟩
 refine s2 (v := .pointer (some ⟨b6, 3, none⟩)) hs (za1 rfl (FO.of (off := 3) Try.underlying36 rfl rfl ti34 (by decide))) fun hs => s2 (v := v1) hs (y_ld rfl Try.underlying34 rfl (Cell.blk (.head _) rfl)) fun hs => s2 hs (zb7 hR3 hW4 rfl Try.underlying34) fun hs => s2 hs (zis rfl rfl) fun hs => sP (v := .bool (decide (64 < (p0.Attrs.length : Int)))) hs rfl rfl fun hs => za0 ?_
 exact hs.sub ⟨rfl, (lkB (((or_f hg39).trans ((or_f hg40).trans ((or_f hg41).trans rfl)))) rfl), trivial⟩
def zl8 : Option Bool :=
  some true
def zdt (y41 : Int) (lp42 : Int → Option Bool) (y59 : Bool) : Option Bool :=
  (bif y59 then some false else
  lp42 (w64 (y41 + 1)))
def zc8 (p0 : zae) (y36 : (List Int)) : Nat → Int → Option Bool
  | 0, _ => none
  | k42 + 1, y41 =>
  (bif (decide (y41 < (p0.Nodes.length : Int))) then (geti p0.Nodes y41).bind fun x44 =>
  (geti y36 y41).bind fun x61 =>
  (bif (decide (x44.Last ≠ x61)) then zdt y41 (zc8 p0 y36 k42) true else
  (geti y36 y41).bind fun x69 =>
  (bif (decide (x69 = (-1))) then (bif (decide (x44.First ≠ (-1))) then zdt y41 (zc8 p0 y36 k42) true else
  (geti y36 y41).bind fun x78 =>
  (bif (decide (x78 ≠ (-1))) then (geti y36 y41).bind fun x86 =>
  (geti p0.Nodes x86).bind fun x93 =>
  zdt y41 (zc8 p0 y36 k42) (decide (x93.Next ≠ (-1))) else
  zdt y41 (zc8 p0 y36 k42) false)) else
  (geti y36 y41).bind fun x105 =>
  (bif (decide (x105 ≠ (-1))) then (geti y36 y41).bind fun x113 =>
  (geti p0.Nodes x113).bind fun x120 =>
  zdt y41 (zc8 p0 y36 k42) (decide (x120.Next ≠ (-1))) else
  zdt y41 (zc8 p0 y36 k42) false))) else
  zl8)
def zl9 (n : Nat) (p0 : zae) (y36 : (List Int)) : Option Bool :=
  zc8 p0 y36 n 0
def zgg (y142 : Int) (lp143 : (List Int) → (List Int) → Int → Option Bool) (y145 : (List Int)) (y150 : (List Int)) : Option Bool :=
  lp143 y145 y150 (w64 (y142 + 1))
def zgt (y142 : Int) (lp143 : (List Int) → (List Int) → Int → Option Bool) (x213 : (List Int)) (y218 : (List Int)) : Option Bool :=
  zgg y142 lp143 y218 x213
def zev (y142 : Int) (lp143 : (List Int) → (List Int) → Int → Option Bool) (x155 : zac) (x177 : (List Int)) (y197 : (List Int)) (y204 : Bool) : Option Bool :=
  (bif y204 then some false else
  (geti x177 x155.Parent).bind fun x206 =>
  (seti x177 x155.Parent y142).bind fun x213 =>
  (bif (decide (x155.Kind = 1)) then (appM 8 y197 [y142]).bind fun x229 =>
  zgt y142 lp143 x213 x229 else
  zgt y142 lp143 x213 y197))
def zim (p0 : zae) (y142 : Int) (lp143 : (List Int) → (List Int) → Int → Option Bool) (x155 : zac) (x177 : (List Int)) (y197 : (List Int)) (y202 : Bool) : Option Bool :=
  (bif y202 then some false else
  (bif (decide (x155.Prev = (-1))) then (geti p0.Nodes x155.Parent).bind fun x236 =>
  (bif (decide (x236.First ≠ y142)) then zev y142 lp143 x155 x177 y197 true else
  (bif (decide (x155.Prev ≠ (-1))) then (geti p0.Nodes x155.Prev).bind fun x250 =>
  zev y142 lp143 x155 x177 y197 (decide (x250.Next ≠ y142)) else
  zev y142 lp143 x155 x177 y197 false)) else
  (bif (decide (x155.Prev ≠ (-1))) then (geti p0.Nodes x155.Prev).bind fun x263 =>
  zev y142 lp143 x155 x177 y197 (decide (x263.Next ≠ y142)) else
  zev y142 lp143 x155 x177 y197 false)))
def zin (p0 : zae) (y142 : Int) (lp143 : (List Int) → (List Int) → Int → Option Bool) (x155 : zac) (x177 : (List Int)) (y197 : (List Int)) : Option Bool :=
  (bif (decide ((y197.length : Int) = 0)) then zim p0 y142 lp143 x155 x177 y197 true else
  (geti x177 x155.Parent).bind fun x276 =>
  zim p0 y142 lp143 x155 x177 y197 (decide (x155.Prev ≠ x276)))
def zhw (p0 : zae) (y142 : Int) (lp143 : (List Int) → (List Int) → Int → Option Bool) (x155 : zac) (x177 : (List Int)) (y283 : (List Int)) (lp288 : (List Int) → Option Bool) (y289 : Bool) : Option Bool :=
  (bif y289 then (cutM y283 (0 : Int) (w64 ((y283.length : Int) - 1))).bind fun x291 =>
  lp288 x291 else
  zin p0 y142 lp143 x155 x177 y283)
def zdi (p0 : zae) (y142 : Int) (lp143 : (List Int) → (List Int) → Int → Option Bool) (x155 : zac) (x177 : (List Int)) : Nat → (List Int) → Option Bool
  | 0, _ => none
  | k288 + 1, y283 =>
  (bif (decide (0 < (y283.length : Int))) then (geti y283 (w64 ((y283.length : Int) - 1))).bind fun x299 =>
  zhw p0 y142 lp143 x155 x177 y283 (zdi p0 y142 lp143 x155 x177 k288) (decide (x299 ≠ x155.Parent)) else
  zhw p0 y142 lp143 x155 x177 y283 (zdi p0 y142 lp143 x155 x177 k288) false)
def zbf (n : Nat) (p0 : zae) : Nat → (List Int) → (List Int) → Int → Option Bool
  | 0, _, _, _ => none
  | k143 + 1, y132, y137, y142 =>
  (bif (decide (y142 < (p0.Nodes.length : Int))) then (geti p0.Nodes y142).bind fun x155 =>
  (geti y137 y142).bind fun x170 =>
  (seti y137 y142 (-1)).bind fun x177 =>
  (zly n x155).bind fun x182 =>
  (bif (!x182) then some false else
  (bif (decide (y142 = 0)) then (appM 8 y132 [0]).bind fun x191 =>
  zgg y142 (zbf n p0 k143) x191 x177 else
  zdi p0 y142 (zbf n p0 k143) x155 x177 n y132)) else
  zl9 n p0 y137)
def zko (n : Nat) (p0 : zae) : Option Bool :=
  (geti p0.Nodes 0).bind fun x8 =>
  (bif ((decide (x8.Kind ≠ 1)) || ((decide (x8.Parent ≠ (-1))) || ((decide (x8.Prev ≠ (-1))) || (decide (x8.Next ≠ (-1)))))) then some false else
  (repM 8 (p0.Nodes.length : Int) (0 : Int)).bind fun x29 =>
  zbf n p0 n ([] : List Int) x29 0)
theorem zrt (n : Nat) {f : Fz} {p0 : zae} {a0 : List Value} {res : Bool} (h0 : zff.R f a0 p0) (hm : zko n p0 = some res) : Gives Try.prog 19 [.agg a0.toArray] f (.bool res) := by
 unfold zko at hm
 intro w0 L w hC
 obtain ⟨v1, rfl, ⟨rw2, hR3, hW4⟩⟩ := h0
 refine enter Try.func19 rfl Try.ntmps19 (by simp) hC fun a hs => ?_
 have hle := Fz.le.refl f
 refine Wq fun hK1 => sbox hs rfl fun b6 _ _ hs => sA (v := .bool (false)) hs rfl fun hs => za0 <| hK1 <| Wq fun hK2 => s1 (v := .pointer (some ⟨b6, 0, none⟩)) hs (za1 rfl (FO.of (off := 0) Try.underlying24 rfl rfl ti22 (by decide))) fun hs => s1 (v := v1) hs (y_ld rfl Try.underlying22 rfl (Cell.blk (.head _) rfl)) fun hs => ?_
 obtain ⟨x8, hx9, hm⟩ := ob hm
 obtain ⟨r10, hr11, hq12, hi13, hb14⟩ := hW4.geti hx9
 obtain ⟨v15, rfl, ⟨rw16, hR17, hW18⟩⟩ := hq12
 refine s1 hs (za8 hR3 rfl rfl hi13 hb14 Try.underlying22 ti36) fun hs => s1 hs (zfm hR3.up rfl hr11 Try.underlying36 rfl ti36) fun hs => zbt hs ti36 (.free rfl) (by decide) fun b20 _ _ hs => zat (i := 0) hs rfl rfl rfl ti36 ⟨rfl, rfl⟩ (AllC.arr (r := [.int .i64 (x8.Kind), .string (x8.Name), .string (x8.Text), v15, .int .i64 (x8.Parent), .int .i64 (x8.First), .int .i64 (x8.Last), .int .i64 (x8.Prev), .int .i64 (x8.Next)]) ⟨rfl, rfl, rfl, hR17.one, rfl, rfl, rfl, rfl, rfl, trivial⟩) (.free rfl) fun _ _ hs => za0 <| hK2 <| Ws fun hK3 => Ws fun hK4 => ?_
 refine zai (fun a w => St 178 w0 f (.blk b20 (.cells #[.int .i64 (x8.Kind), .string (x8.Name), .string (x8.Text), v15, .int .i64 (x8.Parent), .int .i64 (x8.First), .int .i64 (x8.Last), .int .i64 (x8.Prev), .int .i64 (x8.Next)] 36 (0, 0)) :: .blk b6 (.cells #[v1] 24 (0, 0)) :: L) [(1, .pointer (some ⟨b6, 0, none⟩)), (31, .bool (((decide (x8.Kind ≠ 1)) || ((decide (x8.Parent ≠ (-1))) || ((decide (x8.Prev ≠ (-1))) || (decide (x8.Next ≠ (-1))))))))] a w) ?_ ?_
 ·clear hs; intro a w hs
  refine hK4 ?_
  refine zaf hs rfl (fun hg23 => ?_) (fun hg23 => ?_)
  ·replace hm := oc_t hg23 hm
   refine Wq fun hK5 => sA (v := .bool (false)) hs rfl fun hs => za0 <| hK5 <| zau ?_
   obtain rfl := Option.some.inj hm
   refine RtV1 hs rfl (rv_t hs rfl) ?_
   exact ⟨rfl, ((hs.subL (.cons _ (.cons _ (.refl _)))).weak hle).cw⟩
  replace hm := oc_f hg23 hm
  refine zah <| hK3 <| Wq fun hK6 => RL_bs0 hs Try.underlying46 ti3 fun v24 _ _ hs => ?_
  have hW25 : RW (tInt .i64) f [] ([] : List Int) := trivial
  generalize hgrw26 : ([] : List (List Value)) = rw26 at hs hW25; clear hgrw26
  refine sA (v := v24) hs rfl fun hs => za0 <| hK6 <| Wq fun hK7 => s1 (v := .pointer (some ⟨b6, 0, none⟩)) hs (za1 rfl (FO.of (off := 0) Try.underlying24 rfl rfl ti22 (by decide))) fun hs => s1 (v := v1) hs (y_ld rfl Try.underlying22 rfl (Cell.blk (.tail _ (.tail _ (.head _))) rfl)) fun hs => s1 hs (zb7 hR3 hW4 rfl Try.underlying22) fun hs => ?_
  obtain ⟨x29, hx30, hm⟩ := ob hm
  obtain ⟨hix29, hbx29, hex29⟩ := zpb hx30
  refine zs6 hs rfl rfl hix29 Try.underlying46 ti3 (by decide) (AllC.row ⟨rfl, trivial⟩ rfl) hbx29 fun v31 _ _ hs => ?_
  replace hs : St _ _ _ (.row v31 3 1 (List.replicate (p0.Nodes.length : Int).toNat ([.int .i64 (0)] : List Value)) :: .row v24 3 1 rw26 :: .blk b20 (.cells #[.int .i64 (x8.Kind), .string (x8.Name), .string (x8.Text), v15, .int .i64 (x8.Parent), .int .i64 (x8.First), .int .i64 (x8.Last), .int .i64 (x8.Prev), .int .i64 (x8.Next)] 36 (0, 0)) :: .blk b6 (.cells #[v1] 24 (0, 0)) :: L) _ _ _ := hs
  have hW33 : RW (tInt .i64) f (List.replicate (p0.Nodes.length : Int).toNat ([.int .i64 (0)] : List Value)) x29 := by rw [← hex29]; exact RW.rep (t := (tInt .i64)) (r := [.int .i64 (0)]) (rfl) _
  generalize hgx29 : (List.replicate (p0.Nodes.length : Int).toNat ([.int .i64 (0)] : List Value)) = rw32 at hs hW33; clear hgx29
  replace hs : St _ _ _ (.row v31 3 1 rw32 :: .row v24 3 1 rw26 :: .blk b20 (.cells #[.int .i64 (x8.Kind), .string (x8.Name), .string (x8.Text), v15, .int .i64 (x8.Parent), .int .i64 (x8.First), .int .i64 (x8.Last), .int .i64 (x8.Prev), .int .i64 (x8.Next)] 36 (0, 0)) :: .blk b6 (.cells #[v1] 24 (0, 0)) :: L) _ _ _ := hs
  refine sA (v := v31) hs rfl fun hs => za0 <| hK7 <| Ws fun hK8 => Wq fun hK9 => s1 (v := .pointer (some ⟨b6, 0, none⟩)) hs (za1 rfl (FO.of (off := 0) Try.underlying24 rfl rfl ti22 (by decide))) fun hs => s1 (v := v1) hs (y_ld rfl Try.underlying22 rfl (Cell.blk (.tail _ (.tail _ (.tail _ (.head _)))) rfl)) fun hs => s1 hs (zb7 hR3 hW4 rfl Try.underlying22) fun hs => sM (v := .int .i64 (0)) hs rfl fun hs => ?_
  refine za0 <| hK9 ?_
  refine zai (fun a w => ∃ (y36 : (List Int)) (v37 : Value) (rw38 : List (List Value)), zl9 n p0 y36 = some res ∧ RW (tInt .i64) f rw38 y36 ∧ St 178 w0 f (.row v37 3 1 rw38 :: .blk b6 (.cells #[v1] 24 (0, 0)) :: L) [(1, .pointer (some ⟨b6, 0, none⟩)), (5, v37)] a w) ?_ ?_
  ·clear hs hm
   rintro a w ⟨y36, v37, rw38, hm, hW39, hs⟩
   replace hs : St _ _ _ (.row v37 3 1 rw38 :: .blk b6 (.cells #[v1] 24 (0, 0)) :: L) _ _ _ := hs
   unfold zl9 at hm
   refine hK8 <| Ws fun hK10 => Wq fun hK11 => s1 (v := .pointer (some ⟨b6, 0, none⟩)) hs (za1 rfl (FO.of (off := 0) Try.underlying24 rfl rfl ti22 (by decide))) fun hs => s1 (v := v1) hs (y_ld rfl Try.underlying22 rfl (Cell.blk (.tail _ (.head _)) rfl)) fun hs => s1 hs (zb7 hR3 hW4 rfl Try.underlying22) fun hs => sM (v := .int .i64 (0)) hs rfl fun hs => za0 <| hK11 ?_
   refine zai (fun a w => zl8 = some res ∧ St 178 w0 f (L) [] a w) ?_ ?_
   ·clear hs hm
    rintro a w ⟨hm, hs⟩
    replace hs : St _ _ _ (L) _ _ _ := hs
    unfold zl8 at hm
    refine hK10 <| Wq fun hK12 => sA (v := .bool (true)) hs rfl fun hs => za0 <| hK12 <| zau ?_
    obtain rfl := Option.some.inj hm
    refine RtV1 hs rfl (rv_t hs rfl) ?_
    exact ⟨rfl, (hs.weak hle).cw⟩
   refine zam fun Qe13 hB13 hO13 => zcw (fun (k : Nat) a w => ∃ (y41 : Int), zc8 p0 y36 k y41 = some res ∧ St 178 w0 f (.row v37 3 1 rw38 :: .blk b6 (.cells #[v1] 24 (0, 0)) :: L) [(1, .pointer (some ⟨b6, 0, none⟩)), (5, v37), (132, v1), (133, .int .i64 ((p0.Nodes.length : Int))), (134, .int .i64 (y41))] a w) (fun k => k) n ⟨0, hm, hs.sub ⟨rfl, rfl, rfl, rfl, rfl, trivial⟩⟩ ?_
   clear hs hm
   intro k
   rintro a w ⟨y41, hm, hs⟩
   replace hs : St _ _ _ (.row v37 3 1 rw38 :: .blk b6 (.cells #[v1] 24 (0, 0)) :: L) _ _ _ := hs
   intro K14 hK14
   cases k with
   | zero => simp [zc8] at hm
   | succ k42 =>
    rw [zc8] at hm
    refine Wq fun hK15 => s1 hs (zg7 rfl rfl) fun hs => za0 <| hK15 <| Ws fun hK16 => ?_
    refine zaf hs rfl (fun hg43 => ?_) (fun hg43 => ?_)
    ·replace hm := oc_t hg43 hm
     refine zah <| hK16 <| Ws fun hK17 => zam fun Qe18 hB18 hO18 => Wq fun hK19 => sM (v := .int .i64 (y41)) hs rfl fun hs => ?_
     obtain ⟨x44, hx45, hm⟩ := ob hm
     obtain ⟨r46, hr47, hq48, hi49, hb50⟩ := hW4.geti hx45
     obtain ⟨v51, rfl, ⟨rw52, hR53, hW54⟩⟩ := hq48
     refine s1 hs (za8 hR3 rfl rfl hi49 hb50 Try.underlying22 ti36) fun hs => s1 hs (zfm hR3.up rfl hr47 Try.underlying36 rfl ti36) fun hs => zbt hs ti36 (.free rfl) (by decide) fun b56 _ _ hs => ?_
     replace hs : St _ _ _ (.blk b56 (.cells #[.int .i64 (0), .string ((bs [])), .string ((bs [])), (.slice none 0 0), .int .i64 (0), .int .i64 (0), .int .i64 (0), .int .i64 (0), .int .i64 (0)] 36 (0, 0)) :: .row v37 3 1 rw38 :: .blk b6 (.cells #[v1] 24 (0, 0)) :: L) _ _ _ := hs
     refine sA (v := .int .i64 (y41)) hs rfl fun hs => zat (i := 0) hs rfl rfl rfl ti36 ⟨rfl, rfl⟩ (AllC.arr (r := [.int .i64 (x44.Kind), .string (x44.Name), .string (x44.Text), v51, .int .i64 (x44.Parent), .int .i64 (x44.First), .int .i64 (x44.Last), .int .i64 (x44.Prev), .int .i64 (x44.Next)]) ⟨rfl, rfl, rfl, hR53.one, rfl, rfl, rfl, rfl, rfl, trivial⟩) (.free rfl) fun _ _ hs => ?_
     replace hs : St _ _ _ (.blk b56 (.cells #[.int .i64 (x44.Kind), .string (x44.Name), .string (x44.Text), v51, .int .i64 (x44.Parent), .int .i64 (x44.First), .int .i64 (x44.Last), .int .i64 (x44.Prev), .int .i64 (x44.Next)] 36 (0, 0)) :: .row v37 3 1 rw38 :: .blk b6 (.cells #[v1] 24 (0, 0)) :: L) _ _ _ := hs
     refine za0 <| hK19 <| Ws fun hK20 => ?_
     refine zai (fun a w => ∃ (y59 : Bool), zdt y41 (zc8 p0 y36 k42) y59 = some res ∧ St 178 w0 f (.row v37 3 1 rw38 :: .blk b6 (.cells #[v1] 24 (0, 0)) :: L) [(1, .pointer (some ⟨b6, 0, none⟩)), (5, v37), (132, v1), (133, .int .i64 ((p0.Nodes.length : Int))), (134, .int .i64 (y41)), (176, .bool (y59))] a w) ?_ ?_
     ·clear hs hm
      rintro a w ⟨y59, hm, hs⟩
      replace hs : St _ _ _ (.row v37 3 1 rw38 :: .blk b6 (.cells #[v1] 24 (0, 0)) :: L) _ _ _ := hs
      unfold zdt at hm
      refine hK20 ?_
      refine zaf hs rfl (fun hg60 => ?_) (fun hg60 => ?_)
      ·replace hm := oc_t hg60 hm
       refine Wq fun hK21 => sA (v := .bool (false)) hs rfl fun hs => za0 <| hK21 <| zau ?_
       obtain rfl := Option.some.inj hm
       refine RtV1 hs rfl (rv_t hs rfl) ?_
       exact ⟨rfl, ((hs.subL (.cons _ (.cons _ (.refl _)))).weak hle).cw⟩
      replace hm := oc_f hg60 hm
      refine zah <| hK17 <| za7 <| s1 hs (zeq rfl rfl rfl) fun hs => sM (v := .int .i64 ((w64 (y41 + 1)))) hs rfl fun hs => za0 ?_
      exact hK14 k42 _ _ (Nat.lt_succ_self _) ⟨(w64 (y41 + 1)), hm, hs.sub ⟨rfl, rfl, rfl, rfl, rfl, trivial⟩⟩
     refine zk7 hs mixed (by kernel_rfl) ?_; intro a he
     refine qy (v := .pointer (some ⟨b56, 6, none⟩)) he (za1 rfl (FO.of (off := 6) Try.underlying36 rfl rfl ti3 (by decide))) fun _ he => qy (v := .int .i64 (x44.Last)) he (y_ld rfl Try.underlying3 rfl (Cell.blk (.head _) rfl)) fun _ he => qy (v := v37) he (zaa rfl) fun _ he => qy (v := .int .i64 (y41)) he (zaa rfl) fun _ he => ?_
     obtain ⟨x61, hx62, hm⟩ := ob hm
     obtain ⟨r63, hr64, hq65, hi66, hb67⟩ := hW39.geti hx62
     obtain rfl : _ = ([.int .i64 (x61)] : List Value) := hq65
     refine qy he (za8 (Rd.st hs (.tail _ (.head _))) rfl rfl hi66 hb67 Try.underlying46 ti3) fun _ he => qy (v := .int .i64 (x61)) he (zaw (i := y41.toNat) (j := 0) (Rd.st hs (.tail _ (.head _))) rfl hr64 rfl Try.underlying3 rfl) fun _ he => qy he (zez rfl rfl) fun _ he => qy (v := .bool (decide (x44.Last ≠ x61))) he (zaa rfl) fun _ he => ?_
     refine Ev.split he (t := 146) rfl (fun hg68 hq => ?_) (fun hg68 hq => ?_)
     ·clear he; have he := hq; clear hq
      replace hm := oc_t hg68 hm
      refine qno he fun _ he => qno he fun _ he => qno he fun _ he => qno he fun _ he => qno he fun _ he => qno he fun _ he => qun he fun _ he => qun he fun _ he => qun he fun _ he => qno he fun _ he => ?_
      refine qy (v := .bool (true)) he (zb4 rfl rfl) fun _ he => qy (v := .bool (true)) he (zaa rfl) fun _ he => qno he fun _ he => qno he fun _ he => qno he fun _ he => qno he fun _ he => qno he fun _ he => qno he fun _ he => qun he fun _ he => qun he fun _ he => ?_
      refine qun he fun _ he => qun he fun _ he => qun he fun _ he => qun he fun _ he => qun he fun _ he => qun he fun _ he => qun he fun _ he => qun he fun _ he => qno he fun _ he => qy (v := .bool (true)) he (zb4 rfl rfl) fun _ he => ?_
      refine zgy he ?_; clear he; (try clear hs); (try clear a); intro a w hs
      exact ⟨true, hm, hs.subs ⟨rfl, rfl, rfl, rfl, rfl, rfl, trivial⟩ (.cons _ (.cons_cons _ (.cons_cons _ (.refl _))))⟩
     clear he; have he := hq; clear hq
     replace hm := oc_f hg68 hm
     refine qyg (v := v37) he (zaa rfl) fun _ he => qyg (v := .int .i64 (y41)) he (zaa rfl) fun _ he => ?_
     obtain ⟨x69, hx70, hm⟩ := ob hm
     obtain ⟨r71, hr72, hq73, hi74, hb75⟩ := hW39.geti hx70
     obtain rfl : _ = ([.int .i64 (x69)] : List Value) := hq73
     refine qyg he (za8 (Rd.st hs (.tail _ (.head _))) rfl rfl hi74 hb75 Try.underlying46 ti3) fun _ he => qyg (v := .int .i64 (x69)) he (zaw (i := y41.toNat) (j := 0) (Rd.st hs (.tail _ (.head _))) rfl hr72 rfl Try.underlying3 rfl) fun _ he => qyg he (zd3 rfl rfl) fun _ he => qyg (v := .bool (decide (x69 = (-1)))) he (zaa rfl) fun _ he => ?_
     refine Ev.split he (t := 152) rfl (fun hg76 hq => ?_) (fun hg76 hq => ?_)
     ·clear he; have he := hq; clear hq
      replace hm := oc_t hg76 hm
      refine qyg (v := .pointer (some ⟨b56, 5, none⟩)) he (za1 rfl (FO.of (off := 5) Try.underlying36 rfl rfl ti3 (by decide))) fun _ he => qyg (v := .int .i64 (x44.First)) he (y_ld rfl Try.underlying3 rfl (Cell.blk (.head _) rfl)) fun _ he => qyg he (zez rfl rfl) fun _ he => qyg (v := .bool (decide (x44.First ≠ (-1)))) he (zb4 rfl rfl) fun _ he => qy (v := .bool (decide (x44.First ≠ (-1)))) he (zb4 rfl rfl) fun _ he => qy (v := .bool (decide (x44.First ≠ (-1)))) he (zaa rfl) fun _ he => ?_
      refine Ev.split he (t := 158) rfl (fun hg77 hq => ?_) (fun hg77 hq => ?_)
      ·clear he; have he := hq; clear hq
       replace hm := oc_t hg77 hm
       refine qno he fun _ he => qno he fun _ he => qno he fun _ he => qno he fun _ he => qno he fun _ he => qno he fun _ he => qun he fun _ he => qun he fun _ he => qun he fun _ he => qun he fun _ he => ?_
       refine qun he fun _ he => qun he fun _ he => qun he fun _ he => qun he fun _ he => qun he fun _ he => qun he fun _ he => qno he fun _ he => qy (v := .bool (true)) he (zb4 rfl rfl) fun _ he => ?_
       refine zgy he ?_; clear he; (try clear hs); (try clear a); intro a w hs
       exact ⟨true, hm, hs.subs ⟨rfl, rfl, rfl, rfl, rfl, rfl, trivial⟩ (.cons _ (.cons_cons _ (.cons_cons _ (.refl _))))⟩
      clear he; have he := hq; clear hq
      replace hm := oc_f hg77 hm
      refine qyg (v := v37) he (zaa rfl) fun _ he => qyg (v := .int .i64 (y41)) he (zaa rfl) fun _ he => ?_
      obtain ⟨x78, hx79, hm⟩ := ob hm
      obtain ⟨r80, hr81, hq82, hi83, hb84⟩ := hW39.geti hx79
      obtain rfl : _ = ([.int .i64 (x78)] : List Value) := hq82
      refine qyg he (za8 (Rd.st hs (.tail _ (.head _))) rfl rfl hi83 hb84 Try.underlying46 ti3) fun _ he => qyg (v := .int .i64 (x78)) he (zaw (i := y41.toNat) (j := 0) (Rd.st hs (.tail _ (.head _))) rfl hr81 rfl Try.underlying3 rfl) fun _ he => qyg he (zez rfl rfl) fun _ he => qyg (v := .bool (decide (x78 ≠ (-1)))) he (zaa rfl) fun _ he => ?_
      refine Ev.split he (t := 164) rfl (fun hg85 hq => ?_) (fun hg85 hq => ?_)
      ·clear he; have he := hq; clear hq
       replace hm := oc_t hg85 hm
       refine qyg (v := .pointer (some ⟨b6, 0, none⟩)) he (za1 rfl (FO.of (off := 0) Try.underlying24 rfl rfl ti22 (by decide))) fun _ he => qyg (v := v1) he (y_ld rfl Try.underlying22 rfl (Cell.blk (.tail _ (.tail _ (.head _))) rfl)) fun _ he => qyg (v := v37) he (zaa rfl) fun _ he => qyg (v := .int .i64 (y41)) he (zaa rfl) fun _ he => ?_
       obtain ⟨x86, hx87, hm⟩ := ob hm
       obtain ⟨r88, hr89, hq90, hi91, hb92⟩ := hW39.geti hx87
       obtain rfl : _ = ([.int .i64 (x86)] : List Value) := hq90
       refine qyg he (za8 (Rd.st hs (.tail _ (.head _))) rfl rfl hi91 hb92 Try.underlying46 ti3) fun _ he => qyg (v := .int .i64 (x86)) he (zaw (i := y41.toNat) (j := 0) (Rd.st hs (.tail _ (.head _))) rfl hr89 rfl Try.underlying3 rfl) fun _ he => ?_
       obtain ⟨x93, hx94, hm⟩ := ob hm
       obtain ⟨r95, hr96, hq97, hi98, hb99⟩ := hW4.geti hx94
       obtain ⟨v100, rfl, ⟨rw101, hR102, hW103⟩⟩ := hq97
       refine qyg he (za8 hR3 rfl rfl hi98 hb99 Try.underlying22 ti36) fun _ he => qyg (v := eaddr v1 9 x86.toNat 8) he (zal (i := x86.toNat) (j := 0) hR3 rfl hb99 (FO.of (off := 8) Try.underlying36 rfl rfl ti3 (by decide))) fun _ he => qyg (v := .int .i64 (x93.Next)) he (zaw (i := x86.toNat) (j := 8) hR3.up rfl hr96 rfl Try.underlying3 rfl) fun _ he => qyg he (zez rfl rfl) fun _ he => qyg (v := .bool (decide (x93.Next ≠ (-1)))) he (zb4 rfl rfl) fun _ he => qy (v := .bool (decide (x93.Next ≠ (-1)))) he (zb4 rfl rfl) fun _ he => ?_
       refine zgy he ?_; clear he; (try clear hs); (try clear a); intro a w hs
       exact ⟨decide (x93.Next ≠ (-1)), hm, hs.subs ⟨rfl, rfl, rfl, rfl, rfl, rfl, trivial⟩ (.cons _ (.cons_cons _ (.cons_cons _ (.refl _))))⟩
      clear he; have he := hq; clear hq
      replace hm := oc_f hg85 hm
      refine qno he fun _ he => qno he fun _ he => qno he fun _ he => qno he fun _ he => qno he fun _ he => qno he fun _ he => qno he fun _ he => qno he fun _ he => qno he fun _ he => qno he fun _ he => ?_
      refine qyg (v := .bool (false)) he (zb4 rfl rfl) fun _ he => qy (v := .bool (false)) he (zb4 rfl rfl) fun _ he => ?_
      refine zgy he ?_; clear he; (try clear hs); (try clear a); intro a w hs
      exact ⟨false, hm, hs.subs ⟨rfl, rfl, rfl, rfl, rfl, rfl, trivial⟩ (.cons _ (.cons_cons _ (.cons_cons _ (.refl _))))⟩
     clear he; have he := hq; clear hq
     replace hm := oc_f hg76 hm
     refine qno he fun _ he => qno he fun _ he => qno he fun _ he => qyg (v := .bool (false)) he (zb4 rfl rfl) fun _ he => qy (v := .bool (false)) he (zb4 rfl rfl) fun _ he => qy (v := .bool (false)) he (zaa rfl) fun _ he => qyg (v := v37) he (zaa rfl) fun _ he => qyg (v := .int .i64 (y41)) he (zaa rfl) fun _ he => ?_
     obtain ⟨x105, hx106, hm⟩ := ob hm
     obtain ⟨r107, hr108, hq109, hi110, hb111⟩ := hW39.geti hx106
     obtain rfl : _ = ([.int .i64 (x105)] : List Value) := hq109
     refine qyg he (za8 (Rd.st hs (.tail _ (.head _))) rfl rfl hi110 hb111 Try.underlying46 ti3) fun _ he => qyg (v := .int .i64 (x105)) he (zaw (i := y41.toNat) (j := 0) (Rd.st hs (.tail _ (.head _))) rfl hr108 rfl Try.underlying3 rfl) fun _ he => qyg he (zez rfl rfl) fun _ he => qyg (v := .bool (decide (x105 ≠ (-1)))) he (zaa rfl) fun _ he => ?_
     refine Ev.split he (t := 164) rfl (fun hg112 hq => ?_) (fun hg112 hq => ?_)
     ·clear he; have he := hq; clear hq
      replace hm := oc_t hg112 hm
      refine qyg (v := .pointer (some ⟨b6, 0, none⟩)) he (za1 rfl (FO.of (off := 0) Try.underlying24 rfl rfl ti22 (by decide))) fun _ he => qyg (v := v1) he (y_ld rfl Try.underlying22 rfl (Cell.blk (.tail _ (.tail _ (.head _))) rfl)) fun _ he => qyg (v := v37) he (zaa rfl) fun _ he => qyg (v := .int .i64 (y41)) he (zaa rfl) fun _ he => ?_
      obtain ⟨x113, hx114, hm⟩ := ob hm
      obtain ⟨r115, hr116, hq117, hi118, hb119⟩ := hW39.geti hx114
      obtain rfl : _ = ([.int .i64 (x113)] : List Value) := hq117
      refine qyg he (za8 (Rd.st hs (.tail _ (.head _))) rfl rfl hi118 hb119 Try.underlying46 ti3) fun _ he => qyg (v := .int .i64 (x113)) he (zaw (i := y41.toNat) (j := 0) (Rd.st hs (.tail _ (.head _))) rfl hr116 rfl Try.underlying3 rfl) fun _ he => ?_
      obtain ⟨x120, hx121, hm⟩ := ob hm
      obtain ⟨r122, hr123, hq124, hi125, hb126⟩ := hW4.geti hx121
      obtain ⟨v127, rfl, ⟨rw128, hR129, hW130⟩⟩ := hq124
      refine qyg he (za8 hR3 rfl rfl hi125 hb126 Try.underlying22 ti36) fun _ he => qyg (v := eaddr v1 9 x113.toNat 8) he (zal (i := x113.toNat) (j := 0) hR3 rfl hb126 (FO.of (off := 8) Try.underlying36 rfl rfl ti3 (by decide))) fun _ he => qyg (v := .int .i64 (x120.Next)) he (zaw (i := x113.toNat) (j := 8) hR3.up rfl hr123 rfl Try.underlying3 rfl) fun _ he => qyg he (zez rfl rfl) fun _ he => qyg (v := .bool (decide (x120.Next ≠ (-1)))) he (zb4 rfl rfl) fun _ he => qy (v := .bool (decide (x120.Next ≠ (-1)))) he (zb4 rfl rfl) fun _ he => ?_
      refine zgy he ?_; clear he; (try clear hs); (try clear a); intro a w hs
      exact ⟨decide (x120.Next ≠ (-1)), hm, hs.subs ⟨rfl, rfl, rfl, rfl, rfl, rfl, trivial⟩ (.cons _ (.cons_cons _ (.cons_cons _ (.refl _))))⟩
     clear he; have he := hq; clear hq
     replace hm := oc_f hg112 hm
     refine qno he fun _ he => qno he fun _ he => qno he fun _ he => qno he fun _ he => qno he fun _ he => qno he fun _ he => qno he fun _ he => qno he fun _ he => qno he fun _ he => qno he fun _ he => ?_
     refine qyg (v := .bool (false)) he (zb4 rfl rfl) fun _ he => qy (v := .bool (false)) he (zb4 rfl rfl) fun _ he => ?_
     refine zgy he ?_; clear he; (try clear hs); (try clear a); intro a w hs
     exact ⟨false, hm, hs.subs ⟨rfl, rfl, rfl, rfl, rfl, rfl, trivial⟩ (.cons _ (.cons_cons _ (.cons_cons _ (.refl _))))⟩
    replace hm := oc_f hg43 hm
    refine zc9 <| hB13 _ _ ?_
    exact ⟨hm, hs.subs trivial (.cons _ (.cons _ (.refl _)))⟩
  refine zam fun Qe22 hB22 hO22 => zcw (fun (k : Nat) a w => ∃ (y132 : (List Int)) (y137 : (List Int)) (y142 : Int) (v133 : Value) (rw134 : List (List Value)) (v138 : Value) (rw139 : List (List Value)), zbf n p0 k y132 y137 y142 = some res ∧ RW (tInt .i64) f rw134 y132 ∧ RW (tInt .i64) f rw139 y137 ∧ St 178 w0 f (.row v138 3 1 rw139 :: .row v133 3 1 rw134 :: .blk b6 (.cells #[v1] 24 (0, 0)) :: L) [(1, .pointer (some ⟨b6, 0, none⟩)), (4, v133), (5, v138), (38, v1), (39, .int .i64 ((p0.Nodes.length : Int))), (40, .int .i64 (y142))] a w) (fun k => k) n ⟨([] : List Int), x29, 0, v24, rw26, v31, rw32, hm, hW25, hW33, hs.subs ⟨rfl, rfl, rfl, rfl, rfl, rfl, trivial⟩ (.cons_cons _ (.cons_cons _ (.cons _ (.cons_cons _ (.refl _)))))⟩ ?_
  clear hs hm
  intro k
  rintro a w ⟨y132, y137, y142, v133, rw134, v138, rw139, hm, hW135, hW140, hs⟩
  intro K23 hK23
  cases k with
  | zero => simp [zbf] at hm
  | succ k143 =>
   rw [zbf] at hm
   refine Wq fun hK24 => s1 hs (zg7 rfl rfl) fun hs => za0 <| hK24 <| Ws fun hK25 => ?_
   refine zaf hs rfl (fun hg144 => ?_) (fun hg144 => ?_)
   ·replace hm := oc_t hg144 hm
    refine zah <| hK25 <| Ws fun hK26 => ?_
    refine zai (fun a w => ∃ (y145 : (List Int)) (y150 : (List Int)) (v146 : Value) (rw147 : List (List Value)) (v151 : Value) (rw152 : List (List Value)), zgg y142 (zbf n p0 k143) y145 y150 = some res ∧ RW (tInt .i64) f rw147 y145 ∧ RW (tInt .i64) f rw152 y150 ∧ St 178 w0 f (.row v151 3 1 rw152 :: .row v146 3 1 rw147 :: .blk b6 (.cells #[v1] 24 (0, 0)) :: L) [(1, .pointer (some ⟨b6, 0, none⟩)), (4, v146), (5, v151), (38, v1), (39, .int .i64 ((p0.Nodes.length : Int))), (40, .int .i64 (y142))] a w) ?_ ?_
    ·clear hs hm
     rintro a w ⟨y145, y150, v146, rw147, v151, rw152, hm, hW148, hW153, hs⟩
     unfold zgg at hm
     refine hK26 <| za7 <| s1 hs (zeq rfl rfl rfl) fun hs => sM (v := .int .i64 ((w64 (y142 + 1)))) hs rfl fun hs => za0 ?_
     exact hK23 k143 _ _ (Nat.lt_succ_self _) ⟨y145, y150, (w64 (y142 + 1)), v146, rw147, v151, rw152, hm, hW148, hW153, hs.sub ⟨rfl, rfl, rfl, rfl, rfl, rfl, trivial⟩⟩
    refine zam fun Qe27 hB27 hO27 => Wq fun hK28 => sM (v := .int .i64 (y142)) hs rfl fun hs => ?_
    obtain ⟨x155, hx156, hm⟩ := ob hm
    obtain ⟨r157, hr158, hq159, hi160, hb161⟩ := hW4.geti hx156
    obtain ⟨v162, rfl, ⟨rw163, hR164, hW165⟩⟩ := hq159
    refine s1 hs (za8 hR3 rfl rfl hi160 hb161 Try.underlying22 ti36) fun hs => s1 hs (zfm hR3.up rfl hr158 Try.underlying36 rfl ti36) fun hs => zbt hs ti36 (.free rfl) (by decide) fun b167 _ _ hs => sA (v := .int .i64 (y142)) hs rfl fun hs => zat (i := 0) hs rfl rfl rfl ti36 ⟨rfl, rfl⟩ (AllC.arr (r := [.int .i64 (x155.Kind), .string (x155.Name), .string (x155.Text), v162, .int .i64 (x155.Parent), .int .i64 (x155.First), .int .i64 (x155.Last), .int .i64 (x155.Prev), .int .i64 (x155.Next)]) ⟨rfl, rfl, rfl, hR164.one, rfl, rfl, rfl, rfl, rfl, trivial⟩) (.free rfl) fun _ _ hs => za0 <| hK28 <| Wq fun hK29 => sM (v := v138) hs rfl fun hs => ?_
    refine sM (v := .int .i64 (y142)) hs rfl fun hs => ?_
    obtain ⟨x170, hx171, hm⟩ := ob hm
    obtain ⟨r172, hr173, hq174, hi175, hb176⟩ := hW140.geti hx171
    obtain rfl : _ = ([.int .i64 (x170)] : List Value) := hq174
    refine s1 hs (za8 (Rd.st hs (.tail _ (.head _))) rfl rfl hi175 hb176 Try.underlying46 ti3) fun hs => ?_
    obtain ⟨x177, hx178, hm⟩ := ob hm
    have hex177 := zfo hx178
    have hW180 := RW.set (i := y142.toNat) (r := [.int .i64 ((-1))]) (x := ((-1) : Int)) hW140 (rfl); rw [hex177] at hW180
    refine zep (i := 1) (j := 0) (m := y142.toNat) hs rfl rfl rfl hr173 (by decide) ti3 rfl (.free rfl) fun _ _ hs => ?_
    replace hs : St _ _ _ (.blk b167 (.cells #[.int .i64 (x155.Kind), .string (x155.Name), .string (x155.Text), v162, .int .i64 (x155.Parent), .int .i64 (x155.First), .int .i64 (x155.Last), .int .i64 (x155.Prev), .int .i64 (x155.Next)] 36 (0, 0)) :: .row v138 3 1 (rw139.set y142.toNat [.int .i64 ((-1))]) :: .row v133 3 1 rw134 :: .blk b6 (.cells #[v1] 24 (0, 0)) :: L) _ _ _ := hs
    generalize hgrw179 : rw139.set y142.toNat [.int .i64 ((-1))] = rw179 at hs hW180; clear hgrw179
    refine za0 <| hK29 <| Ws fun hK30 => Wq fun hK31 => s1 hs (zk8 rfl Try.underlying36 rfl ti36 (.head _) rfl) fun hs => ?_
    obtain ⟨x182, hx183, hm⟩ := ob hm
    refine s1 hs (zbd rfl has41 rfl (dom_alone_ok n (f := f) (a0 := [.int .i64 (x155.Kind), .string (x155.Name), .string (x155.Text), v162, .int .i64 (x155.Parent), .int .i64 (x155.First), .int .i64 (x155.Last), .int .i64 (x155.Prev), .int .i64 (x155.Next)]) ⟨_, rfl, ⟨rw163, hR164, hW165⟩⟩ hx183)) fun hs => s1 (v := .bool ((!x182))) hs (zj8 rfl) fun hs => za0 <| hK31 ?_
    refine zaf hs rfl (fun hg184 => ?_) (fun hg184 => ?_)
    ·replace hm := oc_t hg184 hm
     refine Wq fun hK32 => sA (v := .bool (false)) hs rfl fun hs => za0 <| hK32 <| zau ?_
     obtain rfl := Option.some.inj hm
     refine RtV1 hs rfl (rv_t hs rfl) ?_
     exact ⟨rfl, ((hs.subL (.cons _ (.cons _ (.cons _ (.cons _ (.refl _)))))).weak hle).cw⟩
    replace hm := oc_f hg184 hm
    refine zah <| hK30 <| Ws fun hK33 => Wq fun hK34 => sM (v := .int .i64 (y142)) hs rfl fun hs => s1 hs (zd3 rfl rfl) fun hs => za0 <| hK34 ?_
    refine zaf hs rfl (fun hg185 => ?_) (fun hg185 => ?_)
    ·replace hm := oc_t hg185 hm
     refine Wq fun hK35 => sM (v := v133) hs rfl fun hs => zfz hs rfl Try.underlying46 ti3 rfl rfl fun v186 _ _ hs => ?_
     have hW187 : RW (tInt .i64) f [[.int .i64 (0)]] [0] := RW.single (rfl)
     generalize hgrw188 : ([[.int .i64 (0)]] : List (List Value)) = rw188 at hs hW187; clear hgrw188
     obtain ⟨x191, hx192, hm⟩ := ob hm
     obtain ⟨hbx191, hex191⟩ := zcj hx192
     have hW195 := hW135.append hW187; rw [hex191] at hW195
     refine zcs (i := 3) hs rfl rfl rfl (Rd.st hs (.head _)) Try.underlying46 ti3 (by decide) (by rw [RW.len hW135, RW.len hW187]; exact hbx191) (.free rfl) (by decide) fun v193 _ _ hs => ?_
     generalize hgx191 : rw134 ++ rw188 = rw194 at hs hW195; clear hgx191
     replace hs := hs.erase 0
     refine sA (v := v193) hs rfl fun hs => za0 <| hK35 <| zc9 <| hB27 _ _ ?_
     exact ⟨x191, x177, v193, rw194, v138, rw179, hm, hW195, hW180, hs.subs ⟨rfl, rfl, rfl, rfl, rfl, rfl, trivial⟩ (.cons _ (.cons_cons _ (.cons_cons _ (.cons_cons _ (.refl _)))))⟩
    replace hm := oc_f hg185 hm
    refine zah <| hK33 <| Ws fun hK36 => ?_
    refine zai (fun a w => ∃ (y197 : (List Int)) (v198 : Value) (rw199 : List (List Value)), zin p0 y142 (zbf n p0 k143) x155 x177 y197 = some res ∧ RW (tInt .i64) f rw199 y197 ∧ St 178 w0 f (.blk b167 (.cells #[.int .i64 (x155.Kind), .string (x155.Name), .string (x155.Text), v162, .int .i64 (x155.Parent), .int .i64 (x155.First), .int .i64 (x155.Last), .int .i64 (x155.Prev), .int .i64 (x155.Next)] 36 (0, 0)) :: .row v138 3 1 rw179 :: .row v198 3 1 rw199 :: .blk b6 (.cells #[v1] 24 (0, 0)) :: L) [(1, .pointer (some ⟨b6, 0, none⟩)), (4, v198), (5, v138), (6, .int .i64 (y142)), (7, .pointer (some ⟨b167, 0, none⟩)), (38, v1), (39, .int .i64 ((p0.Nodes.length : Int))), (40, .int .i64 (y142))] a w) ?_ ?_
    ·clear hs hm
     rintro a w ⟨y197, v198, rw199, hm, hW200, hs⟩
     unfold zin at hm
     refine hK36 <| Ws fun hK37 => Ws fun hK38 => ?_
     refine zai (fun a w => ∃ (y202 : Bool), zim p0 y142 (zbf n p0 k143) x155 x177 y197 y202 = some res ∧ St 178 w0 f (.blk b167 (.cells #[.int .i64 (x155.Kind), .string (x155.Name), .string (x155.Text), v162, .int .i64 (x155.Parent), .int .i64 (x155.First), .int .i64 (x155.Last), .int .i64 (x155.Prev), .int .i64 (x155.Next)] 36 (0, 0)) :: .row v138 3 1 rw179 :: .row v198 3 1 rw199 :: .blk b6 (.cells #[v1] 24 (0, 0)) :: L) [(1, .pointer (some ⟨b6, 0, none⟩)), (4, v198), (5, v138), (6, .int .i64 (y142)), (7, .pointer (some ⟨b167, 0, none⟩)), (38, v1), (39, .int .i64 ((p0.Nodes.length : Int))), (40, .int .i64 (y142)), (87, .bool (y202))] a w) ?_ ?_
     ·clear hs hm
      rintro a w ⟨y202, hm, hs⟩
      unfold zim at hm
      refine hK38 ?_
      refine zaf hs rfl (fun hg203 => ?_) (fun hg203 => ?_)
      ·replace hm := oc_t hg203 hm
       refine Wq fun hK39 => sA (v := .bool (false)) hs rfl fun hs => za0 <| hK39 <| zau ?_
       obtain rfl := Option.some.inj hm
       refine RtV1 hs rfl (rv_t hs rfl) ?_
       exact ⟨rfl, ((hs.subL (.cons _ (.cons _ (.cons _ (.cons _ (.refl _)))))).weak hle).cw⟩
      replace hm := oc_f hg203 hm
      refine zah <| hK37 <| Ws fun hK40 => Ws fun hK41 => ?_
      refine zai (fun a w => ∃ (y204 : Bool), zev y142 (zbf n p0 k143) x155 x177 y197 y204 = some res ∧ St 178 w0 f (.blk b167 (.cells #[.int .i64 (x155.Kind), .string (x155.Name), .string (x155.Text), v162, .int .i64 (x155.Parent), .int .i64 (x155.First), .int .i64 (x155.Last), .int .i64 (x155.Prev), .int .i64 (x155.Next)] 36 (0, 0)) :: .row v138 3 1 rw179 :: .row v198 3 1 rw199 :: .blk b6 (.cells #[v1] 24 (0, 0)) :: L) [(1, .pointer (some ⟨b6, 0, none⟩)), (4, v198), (5, v138), (6, .int .i64 (y142)), (7, .pointer (some ⟨b167, 0, none⟩)), (38, v1), (39, .int .i64 ((p0.Nodes.length : Int))), (40, .int .i64 (y142)), (117, .bool (y204))] a w) ?_ ?_
      ·clear hs hm
       rintro a w ⟨y204, hm, hs⟩
       unfold zev at hm
       refine hK41 ?_
       refine zaf hs rfl (fun hg205 => ?_) (fun hg205 => ?_)
       ·replace hm := oc_t hg205 hm
        refine Wq fun hK42 => sA (v := .bool (false)) hs rfl fun hs => za0 <| hK42 <| zau ?_
        obtain rfl := Option.some.inj hm
        refine RtV1 hs rfl (rv_t hs rfl) ?_
        exact ⟨rfl, ((hs.subL (.cons _ (.cons _ (.cons _ (.cons _ (.refl _)))))).weak hle).cw⟩
       replace hm := oc_f hg205 hm
       refine zah <| hK40 <| Wq fun hK43 => sM (v := v138) hs rfl fun hs => s1 (v := .pointer (some ⟨b167, 4, none⟩)) hs (za1 rfl (FO.of (off := 4) Try.underlying36 rfl rfl ti3 (by decide))) fun hs => s1 (v := .int .i64 (x155.Parent)) hs (y_ld rfl Try.underlying3 rfl (Cell.blk (.head _) rfl)) fun hs => sM (v := .int .i64 (y142)) hs rfl fun hs => ?_
       obtain ⟨x206, hx207, hm⟩ := ob hm
       obtain ⟨r208, hr209, hq210, hi211, hb212⟩ := hW180.geti hx207
       obtain rfl : _ = ([.int .i64 (x206)] : List Value) := hq210
       refine s1 hs (za8 (Rd.st hs (.tail _ (.head _))) rfl rfl hi211 hb212 Try.underlying46 ti3) fun hs => ?_
       obtain ⟨x213, hx214, hm⟩ := ob hm
       have hex213 := zfo hx214
       have hW216 := RW.set (i := x155.Parent.toNat) (r := [.int .i64 (y142)]) (x := (y142 : Int)) hW180 (rfl); rw [hex213] at hW216
       refine zep (i := 1) (j := 0) (m := x155.Parent.toNat) hs rfl rfl rfl hr209 (by decide) ti3 rfl (.free rfl) fun _ _ hs => ?_
       replace hs : St _ _ _ (.blk b167 (.cells #[.int .i64 (x155.Kind), .string (x155.Name), .string (x155.Text), v162, .int .i64 (x155.Parent), .int .i64 (x155.First), .int .i64 (x155.Last), .int .i64 (x155.Prev), .int .i64 (x155.Next)] 36 (0, 0)) :: .row v138 3 1 (rw179.set x155.Parent.toNat [.int .i64 (y142)]) :: .row v198 3 1 rw199 :: .blk b6 (.cells #[v1] 24 (0, 0)) :: L) _ _ _ := hs
       generalize hgrw215 : rw179.set x155.Parent.toNat [.int .i64 (y142)] = rw215 at hs hW216; clear hgrw215
       refine za0 <| hK43 <| Wq fun hK44 => s1 (v := .pointer (some ⟨b167, 0, none⟩)) hs (za1 rfl (FO.of (off := 0) Try.underlying36 rfl rfl ti3 (by decide))) fun hs => s1 (v := .int .i64 (x155.Kind)) hs (y_ld rfl Try.underlying3 rfl (Cell.blk (.head _) rfl)) fun hs => s1 hs (zd3 rfl rfl) fun hs => za0 <| hK44 ?_
       refine zai (fun a w => ∃ (y218 : (List Int)) (v219 : Value) (rw220 : List (List Value)), zgt y142 (zbf n p0 k143) x213 y218 = some res ∧ RW (tInt .i64) f rw220 y218 ∧ St 178 w0 f (.row v138 3 1 rw215 :: .row v219 3 1 rw220 :: .blk b6 (.cells #[v1] 24 (0, 0)) :: L) [(1, .pointer (some ⟨b6, 0, none⟩)), (4, v219), (5, v138), (38, v1), (39, .int .i64 ((p0.Nodes.length : Int))), (40, .int .i64 (y142))] a w) ?_ ?_
       ·clear hs hm
        rintro a w ⟨y218, v219, rw220, hm, hW221, hs⟩
        unfold zgt at hm
        exact ⟨y218, x213, v219, rw220, v138, rw215, hm, hW221, hW216, hs.sub ⟨rfl, rfl, rfl, rfl, rfl, rfl, trivial⟩⟩
       refine zaf hs rfl (fun hg223 => ?_) (fun hg223 => ?_)
       ·replace hm := oc_t hg223 hm
        refine za7 <| sM (v := v198) hs rfl fun hs => sM (v := .int .i64 (y142)) hs rfl fun hs => zfz hs rfl Try.underlying46 ti3 rfl rfl fun v224 _ _ hs => ?_
        have hW225 : RW (tInt .i64) f [[.int .i64 (y142)]] [y142] := RW.single (rfl)
        generalize hgrw226 : ([[.int .i64 (y142)]] : List (List Value)) = rw226 at hs hW225; clear hgrw226
        obtain ⟨x229, hx230, hm⟩ := ob hm
        obtain ⟨hbx229, hex229⟩ := zcj hx230
        have hW233 := hW200.append hW225; rw [hex229] at hW233
        refine zcs (i := 3) hs rfl rfl rfl (Rd.st hs (.head _)) Try.underlying46 ti3 (by decide) (by rw [RW.len hW200, RW.len hW225]; exact hbx229) (.free rfl) (by decide) fun v231 _ _ hs => ?_
        generalize hgx229 : rw199 ++ rw226 = rw232 at hs hW233; clear hgx229
        replace hs := hs.erase 0
        refine sA (v := v231) hs rfl fun hs => za0 ?_
        exact ⟨x229, v231, rw232, hm, hW233, hs.subs ⟨rfl, rfl, rfl, rfl, rfl, rfl, trivial⟩ (.cons _ (.cons_cons _ (.cons_cons _ (.cons_cons _ (.refl _)))))⟩
       replace hm := oc_f hg223 hm
       refine zah ?_
       exact ⟨y197, v198, rw199, hm, hW200, hs.subs ⟨rfl, rfl, rfl, rfl, rfl, rfl, trivial⟩ (.cons _ (.cons_cons _ (.cons_cons _ (.cons_cons _ (.refl _)))))⟩
      refine za7 <| s1 (v := .pointer (some ⟨b167, 7, none⟩)) hs (za1 rfl (FO.of (off := 7) Try.underlying36 rfl rfl ti3 (by decide))) fun hs => s1 (v := .int .i64 (x155.Prev)) hs (y_ld rfl Try.underlying3 rfl (Cell.blk (.head _) rfl)) fun hs => s1 hs (zd3 rfl rfl) fun hs => sM (v := .bool (decide (x155.Prev = (-1)))) hs rfl fun hs => ?_
      refine St.split hs (t := 91) rfl (fun hg235 hs => ?_) (fun hg235 hs => ?_)
      ·replace hm := oc_t hg235 hm
       refine s2 (v := .pointer (some ⟨b6, 0, none⟩)) hs (za1 rfl (FO.of (off := 0) Try.underlying24 rfl rfl ti22 (by decide))) fun hs => s2 (v := v1) hs (y_ld rfl Try.underlying22 rfl (Cell.blk (.tail _ (.tail _ (.tail _ (.head _)))) rfl)) fun hs => s2 (v := .pointer (some ⟨b167, 4, none⟩)) hs (za1 rfl (FO.of (off := 4) Try.underlying36 rfl rfl ti3 (by decide))) fun hs => s2 (v := .int .i64 (x155.Parent)) hs (y_ld rfl Try.underlying3 rfl (Cell.blk (.head _) rfl)) fun hs => ?_
       obtain ⟨x236, hx237, hm⟩ := ob hm
       obtain ⟨r238, hr239, hq240, hi241, hb242⟩ := hW4.geti hx237
       obtain ⟨v243, rfl, ⟨rw244, hR245, hW246⟩⟩ := hq240
       refine s2 hs (za8 hR3 rfl rfl hi241 hb242 Try.underlying22 ti36) fun hs => s2 (v := eaddr v1 9 x155.Parent.toNat 5) hs (zal (i := x155.Parent.toNat) (j := 0) hR3 rfl hb242 (FO.of (off := 5) Try.underlying36 rfl rfl ti3 (by decide))) fun hs => s2 (v := .int .i64 (x236.First)) hs (zaw (i := x155.Parent.toNat) (j := 5) hR3.up rfl hr239 rfl Try.underlying3 rfl) fun hs => s2 (v := .int .i64 (y142)) hs (zaa rfl) fun hs => s2 hs (zez rfl rfl) fun hs => sP (v := .bool (decide (x236.First ≠ y142))) hs rfl rfl fun hs => sM (v := .bool (decide (x236.First ≠ y142))) hs rfl fun hs => ?_
       refine St.split hs (t := 102) rfl (fun hg248 hs => ?_) (fun hg248 hs => ?_)
       ·replace hm := oc_t hg248 hm
        refine s3 hs fun hs => s3 hs fun hs => s3 hs fun hs => s3 hs fun hs => s4 hs fun hs => s4 hs fun hs => s4 hs fun hs => s4 hs fun hs => s4 hs fun hs => s4 hs fun hs => ?_
        refine s4 hs fun hs => s4 hs fun hs => s4 hs fun hs => s3 hs fun hs => sP (v := .bool (true)) hs rfl rfl fun hs => za0 ?_
        exact ⟨true, hm, hs.sub ⟨rfl, rfl, rfl, rfl, rfl, rfl, rfl, rfl, rfl, trivial⟩⟩
       replace hm := oc_f hg248 hm
       refine s2 (v := .pointer (some ⟨b167, 7, none⟩)) hs (za1 rfl (FO.of (off := 7) Try.underlying36 rfl rfl ti3 (by decide))) fun hs => s2 (v := .int .i64 (x155.Prev)) hs (y_ld rfl Try.underlying3 rfl (Cell.blk (.head _) rfl)) fun hs => s2 hs (zez rfl rfl) fun hs => s2 (v := .bool (decide (x155.Prev ≠ (-1)))) hs (zaa rfl) fun hs => ?_
       refine St.split hs (t := 106) rfl (fun hg249 hs => ?_) (fun hg249 hs => ?_)
       ·replace hm := oc_t hg249 hm
        refine s2 (v := .pointer (some ⟨b6, 0, none⟩)) hs (za1 rfl (FO.of (off := 0) Try.underlying24 rfl rfl ti22 (by decide))) fun hs => s2 (v := v1) hs (y_ld rfl Try.underlying22 rfl (Cell.blk (.tail _ (.tail _ (.tail _ (.head _)))) rfl)) fun hs => s2 (v := .pointer (some ⟨b167, 7, none⟩)) hs (za1 rfl (FO.of (off := 7) Try.underlying36 rfl rfl ti3 (by decide))) fun hs => s2 (v := .int .i64 (x155.Prev)) hs (y_ld rfl Try.underlying3 rfl (Cell.blk (.head _) rfl)) fun hs => ?_
        obtain ⟨x250, hx251, hm⟩ := ob hm
        obtain ⟨r252, hr253, hq254, hi255, hb256⟩ := hW4.geti hx251
        obtain ⟨v257, rfl, ⟨rw258, hR259, hW260⟩⟩ := hq254
        refine s2 hs (za8 hR3 rfl rfl hi255 hb256 Try.underlying22 ti36) fun hs => s2 (v := eaddr v1 9 x155.Prev.toNat 8) hs (zal (i := x155.Prev.toNat) (j := 0) hR3 rfl hb256 (FO.of (off := 8) Try.underlying36 rfl rfl ti3 (by decide))) fun hs => s2 (v := .int .i64 (x250.Next)) hs (zaw (i := x155.Prev.toNat) (j := 8) hR3.up rfl hr253 rfl Try.underlying3 rfl) fun hs => s2 (v := .int .i64 (y142)) hs (zaa rfl) fun hs => s2 hs (zez rfl rfl) fun hs => s2 (v := .bool (decide (x250.Next ≠ y142))) hs (zb4 rfl rfl) fun hs => sP (v := .bool (decide (x250.Next ≠ y142))) hs rfl rfl fun hs => za0 ?_
        exact ⟨decide (x250.Next ≠ y142), hm, hs.sub ⟨rfl, rfl, rfl, rfl, rfl, rfl, rfl, rfl, rfl, trivial⟩⟩
       replace hm := oc_f hg249 hm
       refine s3 hs fun hs => s3 hs fun hs => s3 hs fun hs => s3 hs fun hs => s3 hs fun hs => s3 hs fun hs => s3 hs fun hs => s3 hs fun hs => s3 hs fun hs => s2 (v := .bool (false)) hs (zb4 rfl rfl) fun hs => ?_
       refine sP (v := .bool (false)) hs rfl rfl fun hs => za0 ?_
       exact ⟨false, hm, hs.sub ⟨rfl, rfl, rfl, rfl, rfl, rfl, rfl, rfl, rfl, trivial⟩⟩
      replace hm := oc_f hg235 hm
      refine s3 hs fun hs => s3 hs fun hs => s3 hs fun hs => s3 hs fun hs => s3 hs fun hs => s3 hs fun hs => s3 hs fun hs => s3 hs fun hs => s3 hs fun hs => sP (v := .bool (false)) hs rfl rfl fun hs => ?_
      refine sM (v := .bool (false)) hs rfl fun hs => s2 (v := .pointer (some ⟨b167, 7, none⟩)) hs (za1 rfl (FO.of (off := 7) Try.underlying36 rfl rfl ti3 (by decide))) fun hs => s2 (v := .int .i64 (x155.Prev)) hs (y_ld rfl Try.underlying3 rfl (Cell.blk (.head _) rfl)) fun hs => s2 hs (zez rfl rfl) fun hs => s2 (v := .bool (decide (x155.Prev ≠ (-1)))) hs (zaa rfl) fun hs => ?_
      refine St.split hs (t := 106) rfl (fun hg262 hs => ?_) (fun hg262 hs => ?_)
      ·replace hm := oc_t hg262 hm
       refine s2 (v := .pointer (some ⟨b6, 0, none⟩)) hs (za1 rfl (FO.of (off := 0) Try.underlying24 rfl rfl ti22 (by decide))) fun hs => s2 (v := v1) hs (y_ld rfl Try.underlying22 rfl (Cell.blk (.tail _ (.tail _ (.tail _ (.head _)))) rfl)) fun hs => s2 (v := .pointer (some ⟨b167, 7, none⟩)) hs (za1 rfl (FO.of (off := 7) Try.underlying36 rfl rfl ti3 (by decide))) fun hs => s2 (v := .int .i64 (x155.Prev)) hs (y_ld rfl Try.underlying3 rfl (Cell.blk (.head _) rfl)) fun hs => ?_
       obtain ⟨x263, hx264, hm⟩ := ob hm
       obtain ⟨r265, hr266, hq267, hi268, hb269⟩ := hW4.geti hx264
       obtain ⟨v270, rfl, ⟨rw271, hR272, hW273⟩⟩ := hq267
       refine s2 hs (za8 hR3 rfl rfl hi268 hb269 Try.underlying22 ti36) fun hs => s2 (v := eaddr v1 9 x155.Prev.toNat 8) hs (zal (i := x155.Prev.toNat) (j := 0) hR3 rfl hb269 (FO.of (off := 8) Try.underlying36 rfl rfl ti3 (by decide))) fun hs => s2 (v := .int .i64 (x263.Next)) hs (zaw (i := x155.Prev.toNat) (j := 8) hR3.up rfl hr266 rfl Try.underlying3 rfl) fun hs => s2 (v := .int .i64 (y142)) hs (zaa rfl) fun hs => s2 hs (zez rfl rfl) fun hs => s2 (v := .bool (decide (x263.Next ≠ y142))) hs (zb4 rfl rfl) fun hs => sP (v := .bool (decide (x263.Next ≠ y142))) hs rfl rfl fun hs => za0 ?_
       exact ⟨decide (x263.Next ≠ y142), hm, hs.sub ⟨rfl, rfl, rfl, rfl, rfl, rfl, rfl, rfl, rfl, trivial⟩⟩
      replace hm := oc_f hg262 hm
      refine s3 hs fun hs => s3 hs fun hs => s3 hs fun hs => s3 hs fun hs => s3 hs fun hs => s3 hs fun hs => s3 hs fun hs => s3 hs fun hs => s3 hs fun hs => s2 (v := .bool (false)) hs (zb4 rfl rfl) fun hs => ?_
      refine sP (v := .bool (false)) hs rfl rfl fun hs => za0 ?_
      exact ⟨false, hm, hs.sub ⟨rfl, rfl, rfl, rfl, rfl, rfl, rfl, rfl, rfl, trivial⟩⟩
     refine zk7 hs mixed (by kernel_rfl) ?_; intro a he
     refine qy (v := v198) he (zaa rfl) fun _ he => qy he (zb7 (Rd.st hs (.tail _ (.tail _ (.head _)))) hW200 rfl Try.underlying46) fun _ he => qy he (zd3 rfl rfl) fun _ he => qy (v := .bool (decide ((y197.length : Int) = 0))) he (zaa rfl) fun _ he => ?_
     refine Ev.split he (t := 78) rfl (fun hg275 hq => ?_) (fun hg275 hq => ?_)
     ·clear he; have he := hq; clear hq
      replace hm := oc_t hg275 hm
      refine qno he fun _ he => qno he fun _ he => qno he fun _ he => qno he fun _ he => qno he fun _ he => qno he fun _ he => qno he fun _ he => qno he fun _ he => qy (v := .bool (true)) he (zb4 rfl rfl) fun _ he => ?_
      refine zgy he ?_; clear he; (try clear hs); (try clear a); intro a w hs
      exact ⟨true, hm, hs.sub ⟨rfl, rfl, rfl, rfl, rfl, rfl, rfl, rfl, rfl, trivial⟩⟩
     clear he; have he := hq; clear hq
     replace hm := oc_f hg275 hm
     refine qyg (v := .pointer (some ⟨b167, 7, none⟩)) he (za1 rfl (FO.of (off := 7) Try.underlying36 rfl rfl ti3 (by decide))) fun _ he => qyg (v := .int .i64 (x155.Prev)) he (y_ld rfl Try.underlying3 rfl (Cell.blk (.head _) rfl)) fun _ he => qyg (v := v138) he (zaa rfl) fun _ he => qyg (v := .pointer (some ⟨b167, 4, none⟩)) he (za1 rfl (FO.of (off := 4) Try.underlying36 rfl rfl ti3 (by decide))) fun _ he => qyg (v := .int .i64 (x155.Parent)) he (y_ld rfl Try.underlying3 rfl (Cell.blk (.head _) rfl)) fun _ he => ?_
     obtain ⟨x276, hx277, hm⟩ := ob hm
     obtain ⟨r278, hr279, hq280, hi281, hb282⟩ := hW180.geti hx277
     obtain rfl : _ = ([.int .i64 (x276)] : List Value) := hq280
     refine qyg he (za8 (Rd.st hs (.tail _ (.head _))) rfl rfl hi281 hb282 Try.underlying46 ti3) fun _ he => qyg (v := .int .i64 (x276)) he (zaw (i := x155.Parent.toNat) (j := 0) (Rd.st hs (.tail _ (.head _))) rfl hr279 rfl Try.underlying3 rfl) fun _ he => qyg he (zez rfl rfl) fun _ he => qy (v := .bool (decide (x155.Prev ≠ x276))) he (zb4 rfl rfl) fun _ he => ?_
     refine zgy he ?_; clear he; (try clear hs); (try clear a); intro a w hs
     exact ⟨decide (x155.Prev ≠ x276), hm, hs.sub ⟨rfl, rfl, rfl, rfl, rfl, rfl, rfl, rfl, rfl, trivial⟩⟩
    refine zam fun Qe45 hB45 hO45 => zcw (fun (k : Nat) a w => ∃ (y283 : (List Int)) (v284 : Value) (rw285 : List (List Value)), zdi p0 y142 (zbf n p0 k143) x155 x177 k y283 = some res ∧ RW (tInt .i64) f rw285 y283 ∧ St 178 w0 f (.blk b167 (.cells #[.int .i64 (x155.Kind), .string (x155.Name), .string (x155.Text), v162, .int .i64 (x155.Parent), .int .i64 (x155.First), .int .i64 (x155.Last), .int .i64 (x155.Prev), .int .i64 (x155.Next)] 36 (0, 0)) :: .row v138 3 1 rw179 :: .row v284 3 1 rw285 :: .blk b6 (.cells #[v1] 24 (0, 0)) :: L) [(1, .pointer (some ⟨b6, 0, none⟩)), (4, v284), (5, v138), (6, .int .i64 (y142)), (7, .pointer (some ⟨b167, 0, none⟩)), (38, v1), (39, .int .i64 ((p0.Nodes.length : Int))), (40, .int .i64 (y142))] a w) (fun k => k) n ⟨y132, v133, rw134, hm, hW135, hs.sub ⟨rfl, rfl, rfl, rfl, rfl, rfl, rfl, rfl, trivial⟩⟩ ?_
    clear hs hm
    intro k
    rintro a w ⟨y283, v284, rw285, hm, hW286, hs⟩
    intro K46 hK46
    cases k with
    | zero => simp [zdi] at hm
    | succ k288 =>
     rw [zdi] at hm
     refine Ws fun hK47 => Ws fun hK48 => ?_
     refine zai (fun a w => ∃ (y289 : Bool), zhw p0 y142 (zbf n p0 k143) x155 x177 y283 (zdi p0 y142 (zbf n p0 k143) x155 x177 k288) y289 = some res ∧ St 178 w0 f (.blk b167 (.cells #[.int .i64 (x155.Kind), .string (x155.Name), .string (x155.Text), v162, .int .i64 (x155.Parent), .int .i64 (x155.First), .int .i64 (x155.Last), .int .i64 (x155.Prev), .int .i64 (x155.Next)] 36 (0, 0)) :: .row v138 3 1 rw179 :: .row v284 3 1 rw285 :: .blk b6 (.cells #[v1] 24 (0, 0)) :: L) [(1, .pointer (some ⟨b6, 0, none⟩)), (4, v284), (5, v138), (6, .int .i64 (y142)), (7, .pointer (some ⟨b167, 0, none⟩)), (38, v1), (39, .int .i64 ((p0.Nodes.length : Int))), (40, .int .i64 (y142)), (69, .bool (y289))] a w) ?_ ?_
     ·clear hs hm
      rintro a w ⟨y289, hm, hs⟩
      unfold zhw at hm
      refine hK48 ?_
      refine zaf hs rfl (fun hg290 => ?_) (fun hg290 => ?_)
      ·replace hm := oc_t hg290 hm
       refine zah <| hK47 <| zam fun Qe49 hB49 hO49 => za7 <| sM (v := v284) hs rfl fun hs => sM (v := v284) hs rfl fun hs => s1 hs (zb7 (Rd.st hs (.tail _ (.tail _ (.head _)))) hW286 rfl Try.underlying46) fun hs => s1 hs (zmt rfl rfl rfl) fun hs => ?_
       obtain ⟨x291, hx292, hm⟩ := ob hm
       obtain ⟨⟨hlx291, hhx291, h1x291, h2x291⟩, hex291⟩ := zj7 hx292
       have hW293 := (hW286.take (w64 ((y283.length : Int) - 1)).toNat).drop (Int.toNat 0); rw [hex291] at hW293
       simp only [Int.toNat_zero, List.drop_zero] at hW293
       refine s1 hs (zln (lo := (0 : Nat)) (hi := (w64 ((y283.length : Int) - 1)).toNat) rfl Try.underlying46 ti3 (.inl ⟨rfl, rfl⟩) (.inr ⟨_, rfl, by rw [← hhx291]; rfl⟩) h1x291 (by rw [RW.len hW286]; exact h2x291) (Rd.st hs (.tail _ (.tail _ (.head _))))) fun hs => ?_
       replace hs := hs.shrink (i := 2) rfl (m := (w64 ((y283.length : Int) - 1)).toNat) (by rw [RW.len hW286]; exact h2x291)
       generalize hgrw295 : List.take _ rw285 = rw295 at hs hW293; clear hgrw295
       generalize hgv296 : cutv v284 1 0 _ = v296 at hs; clear hgv296
       refine sA (v := v296) hs rfl fun hs => za0 ?_
       exact hK46 k288 _ _ (Nat.lt_succ_self _) ⟨x291, v296, rw295, hm, hW293, hs.sub ⟨rfl, rfl, rfl, rfl, rfl, rfl, rfl, rfl, trivial⟩⟩
      replace hm := oc_f hg290 hm
      refine zc9 <| hB45 _ _ ?_
      exact ⟨y283, v284, rw285, hm, hW286, hs.sub ⟨rfl, rfl, rfl, rfl, rfl, rfl, rfl, rfl, trivial⟩⟩
     refine zk7 hs mixed (by kernel_rfl) ?_; intro a he
     refine qy (v := v284) he (zaa rfl) fun _ he => qy he (zb7 (Rd.st hs (.tail _ (.tail _ (.head _)))) hW286 rfl Try.underlying46) fun _ he => qy he (zis rfl rfl) fun _ he => qy (v := .bool (decide (0 < (y283.length : Int)))) he (zaa rfl) fun _ he => ?_
     refine Ev.split he (t := 59) rfl (fun hg298 hq => ?_) (fun hg298 hq => ?_)
     ·clear he; have he := hq; clear hq
      replace hm := oc_t hg298 hm
      refine qyg (v := v284) he (zaa rfl) fun _ he => qyg (v := v284) he (zaa rfl) fun _ he => qyg he (zb7 (Rd.st hs (.tail _ (.tail _ (.head _)))) hW286 rfl Try.underlying46) fun _ he => qyg he (zmt rfl rfl rfl) fun _ he => ?_
      obtain ⟨x299, hx300, hm⟩ := ob hm
      obtain ⟨r301, hr302, hq303, hi304, hb305⟩ := hW286.geti hx300
      obtain rfl : _ = ([.int .i64 (x299)] : List Value) := hq303
      refine qyg he (za8 (Rd.st hs (.tail _ (.tail _ (.head _)))) rfl rfl hi304 hb305 Try.underlying46 ti3) fun _ he => qyg (v := .int .i64 (x299)) he (zaw (i := (w64 ((y283.length : Int) - 1)).toNat) (j := 0) (Rd.st hs (.tail _ (.tail _ (.head _)))) rfl hr302 rfl Try.underlying3 rfl) fun _ he => qyg (v := .pointer (some ⟨b167, 4, none⟩)) he (za1 rfl (FO.of (off := 4) Try.underlying36 rfl rfl ti3 (by decide))) fun _ he => qyg (v := .int .i64 (x155.Parent)) he (y_ld rfl Try.underlying3 rfl (Cell.blk (.head _) rfl)) fun _ he => qyg he (zez rfl rfl) fun _ he => qy (v := .bool (decide (x299 ≠ x155.Parent))) he (zb4 rfl rfl) fun _ he => ?_
      refine zgy he ?_; clear he; (try clear hs); (try clear a); intro a w hs
      exact ⟨decide (x299 ≠ x155.Parent), hm, hs.sub ⟨rfl, rfl, rfl, rfl, rfl, rfl, rfl, rfl, rfl, trivial⟩⟩
     clear he; have he := hq; clear hq
     replace hm := oc_f hg298 hm
     refine qno he fun _ he => qno he fun _ he => qno he fun _ he => qno he fun _ he => qno he fun _ he => qno he fun _ he => qno he fun _ he => qno he fun _ he => qno he fun _ he => qy (v := .bool (false)) he (zb4 rfl rfl) fun _ he => ?_
     refine zgy he ?_; clear he; (try clear hs); (try clear a); intro a w hs
     exact ⟨false, hm, hs.sub ⟨rfl, rfl, rfl, rfl, rfl, rfl, rfl, rfl, rfl, trivial⟩⟩
   replace hm := oc_f hg144 hm
   refine zc9 <| hB22 _ _ ?_
   exact ⟨y137, v138, rw139, hm, hW140, hs.subs ⟨rfl, rfl, trivial⟩ (.cons_cons _ (.cons _ (.cons_cons _ (.refl _))))⟩
 refine za7 <| s1 (v := .pointer (some ⟨b20, 0, none⟩)) hs (za1 rfl (FO.of (off := 0) Try.underlying36 rfl rfl ti3 (by decide))) fun hs => s1 (v := .int .i64 (x8.Kind)) hs (y_ld rfl Try.underlying3 rfl (Cell.blk (.head _) rfl)) fun hs => s1 hs (zez rfl rfl) fun hs => sM (v := .bool (decide (x8.Kind ≠ 1))) hs rfl fun hs => ?_
 refine St.split hs (t := 17) rfl (fun hg306 hs => ?_) (fun hg306 hs => ?_)
 ·refine s3 hs fun hs => s3 hs fun hs => s3 hs fun hs => sP (v := .bool (true)) hs rfl rfl fun hs => sM (v := .bool (true)) hs rfl fun hs => s3 hs fun hs => s3 hs fun hs => s3 hs fun hs => sP (v := .bool (true)) hs rfl rfl fun hs => sM (v := .bool (true)) hs rfl fun hs => ?_
  refine s3 hs fun hs => s3 hs fun hs => s3 hs fun hs => sP (v := .bool (true)) hs rfl rfl fun hs => za0 ?_
  exact hs.sub ⟨rfl, (lkB (((or_t hg306).trans rfl)) rfl), trivial⟩
 refine s2 (v := .pointer (some ⟨b20, 4, none⟩)) hs (za1 rfl (FO.of (off := 4) Try.underlying36 rfl rfl ti3 (by decide))) fun hs => s2 (v := .int .i64 (x8.Parent)) hs (y_ld rfl Try.underlying3 rfl (Cell.blk (.head _) rfl)) fun hs => s2 hs (zez rfl rfl) fun hs => sP (v := .bool (decide (x8.Parent ≠ (-1)))) hs rfl rfl fun hs => sM (v := .bool (decide (x8.Parent ≠ (-1)))) hs rfl fun hs => ?_
 refine St.split hs (t := 22) rfl (fun hg307 hs => ?_) (fun hg307 hs => ?_)
 ·refine s3 hs fun hs => s3 hs fun hs => s3 hs fun hs => sP (v := .bool (true)) hs rfl rfl fun hs => sM (v := .bool (true)) hs rfl fun hs => s3 hs fun hs => s3 hs fun hs => s3 hs fun hs => sP (v := .bool (true)) hs rfl rfl fun hs => za0 ?_
  exact hs.sub ⟨rfl, (lkB (((or_f hg306).trans ((or_t hg307).trans rfl))) rfl), trivial⟩
 refine s2 (v := .pointer (some ⟨b20, 7, none⟩)) hs (za1 rfl (FO.of (off := 7) Try.underlying36 rfl rfl ti3 (by decide))) fun hs => s2 (v := .int .i64 (x8.Prev)) hs (y_ld rfl Try.underlying3 rfl (Cell.blk (.head _) rfl)) fun hs => s2 hs (zez rfl rfl) fun hs => sP (v := .bool (decide (x8.Prev ≠ (-1)))) hs rfl rfl fun hs => sM (v := .bool (decide (x8.Prev ≠ (-1)))) hs rfl fun hs => ?_
 refine St.split hs (t := 27) rfl (fun hg308 hs => ?_) (fun hg308 hs => ?_)
 ·refine s3 hs fun hs => s3 hs fun hs => s3 hs fun hs => sP (v := .bool (true)) hs rfl rfl fun hs => za0 ?_
  exact hs.sub ⟨rfl, (lkB (((or_f hg306).trans ((or_f hg307).trans ((or_t hg308).trans rfl)))) rfl), trivial⟩
 refine s2 (v := .pointer (some ⟨b20, 8, none⟩)) hs (za1 rfl (FO.of (off := 8) Try.underlying36 rfl rfl ti3 (by decide))) fun hs => s2 (v := .int .i64 (x8.Next)) hs (y_ld rfl Try.underlying3 rfl (Cell.blk (.head _) rfl)) fun hs => s2 hs (zez rfl rfl) fun hs => sP (v := .bool (decide (x8.Next ≠ (-1)))) hs rfl rfl fun hs => za0 ?_
 exact hs.sub ⟨rfl, (lkB (((or_f hg306).trans ((or_f hg307).trans ((or_f hg308).trans rfl)))) rfl), trivial⟩
def zlz : Option Int :=
  some 0
def zh9 (y25 : Int) (lp26 : (List Int) → Int → Option Int) (y55 : (List Int)) : Option Int :=
  (geti y55 y25).bind fun x60 =>
  (bif (decide (256 < x60)) then some 5 else
  lp26 y55 (w64 (y25 + 1)))
def ze1 (p0 : zae) : Nat → (List Int) → Int → Option Int
  | 0, _, _ => none
  | k26 + 1, y20, y25 =>
  (bif (decide (y25 < (p0.Nodes.length : Int))) then (geti p0.Nodes y25).bind fun x28 =>
  (geti y20 y25).bind fun x43 =>
  (seti y20 y25 1).bind fun x50 =>
  (bif (decide (0 < y25)) then (geti x50 x28.Parent).bind fun x69 =>
  (geti x50 y25).bind fun x76 =>
  (seti x50 y25 (w64 (x69 + 1))).bind fun x83 =>
  zh9 y25 (ze1 p0 k26) x83 else
  zh9 y25 (ze1 p0 k26) x50) else
  zlz)
def zjy (n : Nat) (p0 : zae) : Option Int :=
  (bif (decide ((p0.Nodes.length : Int) = 0)) then some 10 else
  (bif (decide (4096 < (p0.Nodes.length : Int))) then some 4 else
  (zko n p0).bind fun x10 =>
  (bif (!x10) then some 10 else
  (repM 8 (p0.Nodes.length : Int) (0 : Int)).bind fun x13 =>
  ze1 p0 n x13 0)))
theorem zom (n : Nat) {f : Fz} {p0 : zae} {a0 : List Value} {res : Int} (h0 : zff.R f a0 p0) (hm : zjy n p0 = some res) : Gives Try.prog 12 [.agg a0.toArray] f (.int .i64 res) := by
 unfold zjy at hm
 intro w0 L w hC
 obtain ⟨v1, rfl, ⟨rw2, hR3, hW4⟩⟩ := h0
 refine enter Try.func12 rfl Try.ntmps12 (by simp) hC fun a hs => ?_
 have hle := Fz.le.refl f
 refine Wq fun hK1 => sbox hs rfl fun b6 _ _ hs => sA (v := .int .i64 (0)) hs rfl fun hs => za0 <| hK1 <| Ws fun hK2 => zam fun Qe3 hB3 hO3 => Ws fun hK4 => za7 ?_
 refine s1 (v := .pointer (some ⟨b6, 0, none⟩)) hs (za1 rfl (FO.of (off := 0) Try.underlying24 rfl rfl ti22 (by decide))) fun hs => s1 (v := v1) hs (y_ld rfl Try.underlying22 rfl (Cell.blk (.head _) rfl)) fun hs => s1 hs (zb7 hR3 hW4 rfl Try.underlying22) fun hs => s1 hs (zd3 rfl rfl) fun hs => sA (v := .bool (decide ((p0.Nodes.length : Int) = 0))) hs rfl fun hs => za0 <| hK4 ?_
 refine zaf hs rfl (fun hg8 => ?_) (fun hg8 => ?_)
 ·replace hm := oc_t hg8 hm
  refine Wq fun hK5 => sA (v := .int .i64 (10)) hs rfl fun hs => za0 <| hK5 <| zau ?_
  obtain rfl := Option.some.inj hm
  refine RtV1 hs rfl (rv_t hs rfl) ?_
  exact ⟨rfl, ((hs.subL (.cons _ (.refl _))).weak hle).cw⟩
 replace hm := oc_f hg8 hm
 refine Wq fun hK6 => s1 (v := .pointer (some ⟨b6, 0, none⟩)) hs (za1 rfl (FO.of (off := 0) Try.underlying24 rfl rfl ti22 (by decide))) fun hs => s1 (v := v1) hs (y_ld rfl Try.underlying22 rfl (Cell.blk (.head _) rfl)) fun hs => s1 hs (zb7 hR3 hW4 rfl Try.underlying22) fun hs => s1 hs (zis rfl rfl) fun hs => sA (v := .bool (decide (4096 < (p0.Nodes.length : Int)))) hs rfl fun hs => za0 <| hK6 ?_
 refine zaf hs rfl (fun hg9 => ?_) (fun hg9 => ?_)
 ·replace hm := oc_t hg9 hm
  refine Wq fun hK7 => sA (v := .int .i64 (4)) hs rfl fun hs => za0 <| hK7 <| zau ?_
  obtain rfl := Option.some.inj hm
  refine RtV1 hs rfl (rv_t hs rfl) ?_
  exact ⟨rfl, ((hs.subL (.cons _ (.refl _))).weak hle).cw⟩
 replace hm := oc_f hg9 hm
 refine Wq fun hK8 => s1 hs (zk8 rfl Try.underlying24 rfl ti24 (.head _) rfl) fun hs => ?_
 obtain ⟨x10, hx11, hm⟩ := ob hm
 refine s1 hs (zbd rfl has19 rfl (zrt n (f := f) (a0 := [v1]) ⟨_, rfl, ⟨rw2, hR3, hW4⟩⟩ hx11)) fun hs => s1 (v := .bool ((!x10))) hs (zj8 rfl) fun hs => sA (v := .bool ((!x10))) hs rfl fun hs => za0 <| hK8 ?_
 refine zaf hs rfl (fun hg12 => ?_) (fun hg12 => ?_)
 ·replace hm := oc_t hg12 hm
  refine Wq fun hK9 => sA (v := .int .i64 (10)) hs rfl fun hs => za0 <| hK9 <| zau ?_
  obtain rfl := Option.some.inj hm
  refine RtV1 hs rfl (rv_t hs rfl) ?_
  exact ⟨rfl, ((hs.subL (.cons _ (.refl _))).weak hle).cw⟩
 replace hm := oc_f hg12 hm
 refine zah <| hK2 <| Wq fun hK10 => s1 (v := .pointer (some ⟨b6, 0, none⟩)) hs (za1 rfl (FO.of (off := 0) Try.underlying24 rfl rfl ti22 (by decide))) fun hs => s1 (v := v1) hs (y_ld rfl Try.underlying22 rfl (Cell.blk (.head _) rfl)) fun hs => s1 hs (zb7 hR3 hW4 rfl Try.underlying22) fun hs => ?_
 obtain ⟨x13, hx14, hm⟩ := ob hm
 obtain ⟨hix13, hbx13, hex13⟩ := zpb hx14
 refine zs6 hs rfl rfl hix13 Try.underlying46 ti3 (by decide) (AllC.row ⟨rfl, trivial⟩ rfl) hbx13 fun v15 _ _ hs => ?_
 replace hs : St _ _ _ (.row v15 3 1 (List.replicate (p0.Nodes.length : Int).toNat ([.int .i64 (0)] : List Value)) :: .blk b6 (.cells #[v1] 24 (0, 0)) :: L) _ _ _ := hs
 have hW17 : RW (tInt .i64) f (List.replicate (p0.Nodes.length : Int).toNat ([.int .i64 (0)] : List Value)) x13 := by rw [← hex13]; exact RW.rep (t := (tInt .i64)) (r := [.int .i64 (0)]) (rfl) _
 generalize hgx13 : (List.replicate (p0.Nodes.length : Int).toNat ([.int .i64 (0)] : List Value)) = rw16 at hs hW17; clear hgx13
 replace hs : St _ _ _ (.row v15 3 1 rw16 :: .blk b6 (.cells #[v1] 24 (0, 0)) :: L) _ _ _ := hs
 refine sA (v := v15) hs rfl fun hs => za0 <| hK10 <| Ws fun hK11 => Wq fun hK12 => s1 (v := .pointer (some ⟨b6, 0, none⟩)) hs (za1 rfl (FO.of (off := 0) Try.underlying24 rfl rfl ti22 (by decide))) fun hs => s1 (v := v1) hs (y_ld rfl Try.underlying22 rfl (Cell.blk (.tail _ (.head _)) rfl)) fun hs => s1 hs (zb7 hR3 hW4 rfl Try.underlying22) fun hs => sM (v := .int .i64 (0)) hs rfl fun hs => ?_
 refine za0 <| hK12 ?_
 refine zai (fun a w => zlz = some res ∧ St 52 w0 f (L) [] a w) ?_ ?_
 ·clear hs hm
  rintro a w ⟨hm, hs⟩
  replace hs : St _ _ _ (L) _ _ _ := hs
  unfold zlz at hm
  refine hK11 <| Wq fun hK13 => sA (v := .int .i64 (0)) hs rfl fun hs => za0 <| hK13 <| zau ?_
  obtain rfl := Option.some.inj hm
  refine RtV1 hs rfl (rv_t hs rfl) ?_
  exact ⟨rfl, (hs.weak hle).cw⟩
 refine zam fun Qe14 hB14 hO14 => zcw (fun (k : Nat) a w => ∃ (y20 : (List Int)) (y25 : Int) (v21 : Value) (rw22 : List (List Value)), ze1 p0 k y20 y25 = some res ∧ RW (tInt .i64) f rw22 y20 ∧ St 52 w0 f (.row v21 3 1 rw22 :: L) [(3, v21), (25, v1), (26, .int .i64 ((p0.Nodes.length : Int))), (27, .int .i64 (y25))] a w) (fun k => k) n ⟨x13, 0, v15, rw16, hm, hW17, hs.subs ⟨rfl, rfl, rfl, rfl, trivial⟩ (.cons_cons _ (.cons _ (.refl _)))⟩ ?_
 clear hs hm
 intro k
 rintro a w ⟨y20, y25, v21, rw22, hm, hW23, hs⟩
 intro K15 hK15
 cases k with
 | zero => simp [ze1] at hm
 | succ k26 =>
  rw [ze1] at hm
  refine Wq fun hK16 => s1 hs (zg7 rfl rfl) fun hs => za0 <| hK16 <| Ws fun hK17 => ?_
  refine zaf hs rfl (fun hg27 => ?_) (fun hg27 => ?_)
  ·replace hm := oc_t hg27 hm
   refine zah <| hK17 <| Ws fun hK18 => zam fun Qe19 hB19 hO19 => Wq fun hK20 => sM (v := .int .i64 (y25)) hs rfl fun hs => ?_
   obtain ⟨x28, hx29, hm⟩ := ob hm
   obtain ⟨r30, hr31, hq32, hi33, hb34⟩ := hW4.geti hx29
   obtain ⟨v35, rfl, ⟨rw36, hR37, hW38⟩⟩ := hq32
   refine s1 hs (za8 hR3 rfl rfl hi33 hb34 Try.underlying22 ti36) fun hs => s1 hs (zfm hR3.up rfl hr31 Try.underlying36 rfl ti36) fun hs => zbt hs ti36 (.free rfl) (by decide) fun b40 _ _ hs => sA (v := .int .i64 (y25)) hs rfl fun hs => zat (i := 0) hs rfl rfl rfl ti36 ⟨rfl, rfl⟩ (AllC.arr (r := [.int .i64 (x28.Kind), .string (x28.Name), .string (x28.Text), v35, .int .i64 (x28.Parent), .int .i64 (x28.First), .int .i64 (x28.Last), .int .i64 (x28.Prev), .int .i64 (x28.Next)]) ⟨rfl, rfl, rfl, hR37.one, rfl, rfl, rfl, rfl, rfl, trivial⟩) (.free rfl) fun _ _ hs => za0 <| hK20 <| Wq fun hK21 => sM (v := v21) hs rfl fun hs => ?_
   refine sM (v := .int .i64 (y25)) hs rfl fun hs => ?_
   obtain ⟨x43, hx44, hm⟩ := ob hm
   obtain ⟨r45, hr46, hq47, hi48, hb49⟩ := hW23.geti hx44
   obtain rfl : _ = ([.int .i64 (x43)] : List Value) := hq47
   refine s1 hs (za8 (Rd.st hs (.tail _ (.head _))) rfl rfl hi48 hb49 Try.underlying46 ti3) fun hs => ?_
   obtain ⟨x50, hx51, hm⟩ := ob hm
   have hex50 := zfo hx51
   have hW53 := RW.set (i := y25.toNat) (r := [.int .i64 (1)]) (x := (1 : Int)) hW23 (rfl); rw [hex50] at hW53
   refine zep (i := 1) (j := 0) (m := y25.toNat) hs rfl rfl rfl hr46 (by decide) ti3 rfl (.free rfl) fun _ _ hs => ?_
   replace hs : St _ _ _ (.blk b40 (.cells #[.int .i64 (x28.Kind), .string (x28.Name), .string (x28.Text), v35, .int .i64 (x28.Parent), .int .i64 (x28.First), .int .i64 (x28.Last), .int .i64 (x28.Prev), .int .i64 (x28.Next)] 36 (0, 0)) :: .row v21 3 1 (rw22.set y25.toNat [.int .i64 (1)]) :: L) _ _ _ := hs
   generalize hgrw52 : rw22.set y25.toNat [.int .i64 (1)] = rw52 at hs hW53; clear hgrw52
   refine za0 <| hK21 <| Ws fun hK22 => Wq fun hK23 => sM (v := .int .i64 (y25)) hs rfl fun hs => s1 hs (zis rfl rfl) fun hs => za0 <| hK23 ?_
   refine zai (fun a w => ∃ (y55 : (List Int)) (v56 : Value) (rw57 : List (List Value)), zh9 y25 (ze1 p0 k26) y55 = some res ∧ RW (tInt .i64) f rw57 y55 ∧ St 52 w0 f (.row v56 3 1 rw57 :: L) [(3, v56), (4, .int .i64 (y25)), (25, v1), (26, .int .i64 ((p0.Nodes.length : Int))), (27, .int .i64 (y25))] a w) ?_ ?_
   ·clear hs hm
    rintro a w ⟨y55, v56, rw57, hm, hW58, hs⟩
    unfold zh9 at hm
    refine hK22 <| Wq fun hK24 => sM (v := v56) hs rfl fun hs => sM (v := .int .i64 (y25)) hs rfl fun hs => ?_
    obtain ⟨x60, hx61, hm⟩ := ob hm
    obtain ⟨r62, hr63, hq64, hi65, hb66⟩ := hW58.geti hx61
    obtain rfl : _ = ([.int .i64 (x60)] : List Value) := hq64
    refine s1 hs (za8 (Rd.st hs (.head _)) rfl rfl hi65 hb66 Try.underlying46 ti3) fun hs => s1 (v := .int .i64 (x60)) hs (zaw (i := y25.toNat) (j := 0) (Rd.st hs (.head _)) rfl hr63 rfl Try.underlying3 rfl) fun hs => s1 hs (zis rfl rfl) fun hs => za0 <| hK24 ?_
    refine zaf hs rfl (fun hg67 => ?_) (fun hg67 => ?_)
    ·replace hm := oc_t hg67 hm
     refine Wq fun hK25 => sA (v := .int .i64 (5)) hs rfl fun hs => za0 <| hK25 <| zau ?_
     obtain rfl := Option.some.inj hm
     refine RtV1 hs rfl (rv_t hs rfl) ?_
     exact ⟨rfl, ((hs.subL (.cons _ (.refl _))).weak hle).cw⟩
    replace hm := oc_f hg67 hm
    refine zah <| hK18 <| za7 <| s1 hs (zeq rfl rfl rfl) fun hs => sM (v := .int .i64 ((w64 (y25 + 1)))) hs rfl fun hs => za0 ?_
    exact hK15 k26 _ _ (Nat.lt_succ_self _) ⟨y55, (w64 (y25 + 1)), v56, rw57, hm, hW58, hs.sub ⟨rfl, rfl, rfl, rfl, trivial⟩⟩
   refine zaf hs rfl (fun hg68 => ?_) (fun hg68 => ?_)
   ·replace hm := oc_t hg68 hm
    refine za7 <| sM (v := v21) hs rfl fun hs => sM (v := .int .i64 (y25)) hs rfl fun hs => sM (v := v21) hs rfl fun hs => s1 (v := .pointer (some ⟨b40, 4, none⟩)) hs (za1 rfl (FO.of (off := 4) Try.underlying36 rfl rfl ti3 (by decide))) fun hs => s1 (v := .int .i64 (x28.Parent)) hs (y_ld rfl Try.underlying3 rfl (Cell.blk (.head _) rfl)) fun hs => ?_
    obtain ⟨x69, hx70, hm⟩ := ob hm
    obtain ⟨r71, hr72, hq73, hi74, hb75⟩ := hW53.geti hx70
    obtain rfl : _ = ([.int .i64 (x69)] : List Value) := hq73
    refine s1 hs (za8 (Rd.st hs (.tail _ (.head _))) rfl rfl hi74 hb75 Try.underlying46 ti3) fun hs => s1 (v := .int .i64 (x69)) hs (zaw (i := x28.Parent.toNat) (j := 0) (Rd.st hs (.tail _ (.head _))) rfl hr72 rfl Try.underlying3 rfl) fun hs => s1 hs (zeq rfl rfl rfl) fun hs => ?_
    obtain ⟨x76, hx77, hm⟩ := ob hm
    obtain ⟨r78, hr79, hq80, hi81, hb82⟩ := hW53.geti hx77
    obtain rfl : _ = ([.int .i64 (x76)] : List Value) := hq80
    refine s1 hs (za8 (Rd.st hs (.tail _ (.head _))) rfl rfl hi81 hb82 Try.underlying46 ti3) fun hs => ?_
    obtain ⟨x83, hx84, hm⟩ := ob hm
    have hex83 := zfo hx84
    have hW86 := RW.set (i := y25.toNat) (r := [.int .i64 ((w64 (x69 + 1)))]) (x := ((w64 (x69 + 1)) : Int)) hW53 (rfl); rw [hex83] at hW86
    refine zep (i := 1) (j := 0) (m := y25.toNat) hs rfl rfl rfl hr79 (by decide) ti3 rfl (.free rfl) fun _ _ hs => ?_
    replace hs : St _ _ _ (.blk b40 (.cells #[.int .i64 (x28.Kind), .string (x28.Name), .string (x28.Text), v35, .int .i64 (x28.Parent), .int .i64 (x28.First), .int .i64 (x28.Last), .int .i64 (x28.Prev), .int .i64 (x28.Next)] 36 (0, 0)) :: .row v21 3 1 (rw52.set y25.toNat [.int .i64 ((w64 (x69 + 1)))]) :: L) _ _ _ := hs
    generalize hgrw85 : rw52.set y25.toNat [.int .i64 ((w64 (x69 + 1)))] = rw85 at hs hW86; clear hgrw85
    refine za0 ?_
    exact ⟨x83, v21, rw85, hm, hW86, hs.subs ⟨rfl, rfl, rfl, rfl, rfl, trivial⟩ (.cons _ (.cons_cons _ (.refl _)))⟩
   replace hm := oc_f hg68 hm
   refine zah ?_
   exact ⟨x50, v21, rw52, hm, hW53, hs.subs ⟨rfl, rfl, rfl, rfl, rfl, trivial⟩ (.cons _ (.cons_cons _ (.refl _)))⟩
  replace hm := oc_f hg27 hm
  refine zc9 <| hB14 _ _ ?_
  exact ⟨hm, hs.subs trivial (.cons _ (.refl _))⟩
def zio (q0 : zae) (y51 : (List zac)) (y56 : Int) : Option (Int × zae) :=
  (geti y51 (q0.Nodes.length : Int)).bind fun x58 =>
  (seti y51 (q0.Nodes.length : Int) ({x58 with Last := y56} : zac)).bind fun x70 =>
  some ((q0.Nodes.length : Int), ({Nodes := x70} : zae))
def zhj (q0 : zae) (y83 : Int) (lp84 : (List zac) → Int → Int → Option (Int × zae)) (x108 : (Int × zae)) (y116 : (List zac)) : Option (Int × zae) :=
  (bif (decide (4096 < (y116.length : Int))) then zio q0 y116 x108.1 else
  lp84 y116 x108.1 (w64 (y83 + 1)))
def zef (p0 : zad) (q0 : zae) (slf : zad → Int → Int → zae → Option (Int × zae)) : Nat → (List zac) → Int → Int → Option (Int × zae)
  | 0, _, _, _ => none
  | k84 + 1, y77, y82, y83 =>
  (bif (decide (y83 < (p0.Kids.length : Int))) then (geti p0.Kids y83).bind fun x87 =>
  (slf x87 (q0.Nodes.length : Int) y82 ({Nodes := y77} : zae)).bind fun x108 =>
  (bif (decide (y82 = (-1))) then (geti x108.2.Nodes (q0.Nodes.length : Int)).bind fun x123 =>
  (seti x108.2.Nodes (q0.Nodes.length : Int) ({x123 with First := x108.1} : zac)).bind fun x135 =>
  zhj q0 y83 (zef p0 q0 slf k84) x108 x135 else
  (geti x108.2.Nodes y82).bind fun x140 =>
  (seti x108.2.Nodes y82 ({x140 with Next := x108.1} : zac)).bind fun x152 =>
  zhj q0 y83 (zef p0 q0 slf k84) x108 x152) else
  zio q0 y77 y82)
def zhk (n : Nat) (p0 : zad) (q0 : zae) (slf : zad → Int → Int → zae → Option (Int × zae)) (y29 : zac) : Option (Int × zae) :=
  (appM 104 q0.Nodes [y29]).bind fun x42 =>
  (bif ((decide (4096 < (x42.length : Int))) || (decide (p0.Name = (bs [])))) then some ((q0.Nodes.length : Int), ({Nodes := x42} : zae)) else
  zef p0 q0 slf n x42 (-1) 0)
def zjn (n : Nat) (p0 : zad) (p1 : Int) (p2 : Int) (q0 : zae) (slf : zad → Int → Int → zae → Option (Int × zae)) (y21 : (List za9)) : Option (Int × zae) :=
  (bif (decide (p0.Name = (bs []))) then zhk n p0 q0 slf ({Kind := 2, Name := p0.Name, Text := p0.Text, Attrs := ([] : List za9), Parent := p1, First := (-1), Last := (-1), Prev := p2, Next := (-1)} : zac) else
  zhk n p0 q0 slf ({Kind := 1, Name := p0.Name, Text := (bs []), Attrs := y21, Parent := p1, First := (-1), Last := (-1), Prev := p2, Next := (-1)} : zac))
def zk5 (slf : zad → Int → Int → zae → Option (Int × zae)) (n : Nat) (p0 : zad) (p1 : Int) (p2 : Int) (q0 : zae) : Option (Int × zae) :=
  (zi6 n p0.Attrs).bind fun x162 =>
  zjn n p0 p1 p2 q0 slf x162
def zhl : Nat → zad → Int → Int → zae → Option (Int × zae)
  | 0, _, _, _, _ => none
  | n + 1, p0, p1, p2, q0 => zk5 (zhl n) n p0 p1 p2 q0
theorem zqc {slf : zad → Int → Int → zae → Option (Int × zae)} (n : Nat) (slf_ok : ∀ {f : Fz} {p0 : zad} {a0 : List Value} {p1 : Int} {p2 : Int} {cb0 : Nat} {q0 : zae} {cv0_0 : Value} {cv0_0r : List (List Value)} {cb1 : Nat} {res : (Int × zae)} (_ : ze9.R f a0 p0) (_ : RW zbw f cv0_0r q0.Nodes) (_ : f cb1 = some (.cells #[.func (.func 58) #[] #[.pointer (some ⟨cb0, 0, none⟩), .pointer (some ⟨cb1, 0, none⟩)]] 95 (0, 0))) (_ : slf p0 p1 p2 q0 = some res), Does Try.prog 58 [.agg a0.toArray, .int .i64 p1, .int .i64 p2, .pointer (some ⟨cb0, 0, none⟩), .pointer (some ⟨cb1, 0, none⟩)] f [.blk cb0 (.cells #[cv0_0] 24 (0, 0)), .row cv0_0 36 9 cv0_0r] (fun r f' L' => ∃ (dv0_0 : Value) (dv0_0r : List (List Value)), L' = [.blk cb0 (.cells #[dv0_0] 24 (0, 0)), .row dv0_0 36 9 dv0_0r] ∧ r = .int .i64 res.1 ∧ RW zbw f' dv0_0r res.2.Nodes)) {f : Fz} {p0 : zad} {a0 : List Value} {p1 : Int} {p2 : Int} {cb0 : Nat} {q0 : zae} {cv0_0 : Value} {cv0_0r : List (List Value)} {cb1 : Nat} {res : (Int × zae)} (h0 : ze9.R f a0 p0) (cv0_0h : RW zbw f cv0_0r q0.Nodes) (hc1 : f cb1 = some (.cells #[.func (.func 58) #[] #[.pointer (some ⟨cb0, 0, none⟩), .pointer (some ⟨cb1, 0, none⟩)]] 95 (0, 0))) (hm : zk5 slf n p0 p1 p2 q0 = some res) : Does Try.prog 58 [.agg a0.toArray, .int .i64 p1, .int .i64 p2, .pointer (some ⟨cb0, 0, none⟩), .pointer (some ⟨cb1, 0, none⟩)] f [.blk cb0 (.cells #[cv0_0] 24 (0, 0)), .row cv0_0 36 9 cv0_0r] (fun r f' L' => ∃ (dv0_0 : Value) (dv0_0r : List (List Value)), L' = [.blk cb0 (.cells #[dv0_0] 24 (0, 0)), .row dv0_0 36 9 dv0_0r] ∧ r = .int .i64 res.1 ∧ RW zbw f' dv0_0r res.2.Nodes) := by
 unfold zk5 at hm
 intro w0 L w hC
 replace hC : Cw w0 f (.blk cb0 (.cells #[cv0_0] 24 (0, 0)) :: .row cv0_0 36 9 cv0_0r :: L) w := hC
 obtain ⟨v1, v6, rfl, ⟨rw2, hR3, hW4⟩, ⟨rw7, hR8, hW9⟩⟩ := zck.ex h0
 refine enter Try.func58 rfl Try.ntmps58 (by simp) hC fun a hs => ?_
 have hle := Fz.le.refl f
 refine Wq fun hK1 => sbox hs rfl fun b15 _ _ hs => sA (v := .int .i64 (0)) hs rfl fun hs => za0 <| hK1 <| Wq fun hK2 => s1 (v := .pointer (some ⟨cb0, 0, none⟩)) hs (za1 rfl (FO.of (off := 0) Try.underlying24 rfl rfl ti22 (by decide))) fun hs => s1 (v := cv0_0) hs (y_ld rfl Try.underlying22 rfl (Cell.blk (.tail _ (.head _)) rfl)) fun hs => ?_
 refine s1 hs (zb7 (Rd.st hs (.tail _ (.tail _ (.head _)))) cv0_0h rfl Try.underlying22) fun hs => sA (v := .int .i64 ((q0.Nodes.length : Int))) hs rfl fun hs => za0 <| hK2 <| Ws fun hK3 => ?_
 have hbase28 := Fz.le.refl f
 refine zai (fun a w => ∃ (f17 : Fz) (y21 : (List za9)) (b20 : Nat) (v22 : Value), Fz.le f f17 ∧ zjn n p0 p1 p2 q0 slf y21 = some res ∧ RS zcb f17 v22 y21 ∧ St 89 w0 f17 (.blk b20 (.cells #[.int .i64 (1), .string (p0.Name), .string ((bs [])), v22, .int .i64 (p1), .int .i64 ((-1)), .int .i64 ((-1)), .int .i64 (p2), .int .i64 ((-1))] 36 (0, 0)) :: .blk b15 (.cells #[.string (p0.Name), .string (p0.Text), v1, v6] 62 (0, 0)) :: .blk cb0 (.cells #[cv0_0] 24 (0, 0)) :: .row cv0_0 36 9 cv0_0r :: L) [(3, .pointer (some ⟨cb0, 0, none⟩)), (4, .pointer (some ⟨cb1, 0, none⟩)), (5, .pointer (some ⟨b15, 0, none⟩)), (9, .int .i64 ((q0.Nodes.length : Int))), (10, .pointer (some ⟨b20, 0, none⟩))] a w) ?_ ?_
 ·clear hs hm
  clear hbase28
  rintro a w ⟨f17, y21, b20, v22, hl18, hm, hs23, hs⟩
  replace hR3 := hR3.le hl18
  replace hW4 := hW4.le hl18
  replace hR8 := hR8.le hl18
  replace hW9 := hW9.le hl18
  replace cv0_0h := cv0_0h.le hl18
  replace hc1 := hl18 _ _ hc1
  replace hle := hle.trans hl18
  obtain ⟨rw24, hR25, hW26⟩ := hs23
  unfold zjn at hm
  refine hK3 <| Ws fun hK4 => Wq fun hK5 => s1 (v := .pointer (some ⟨b15, 0, none⟩)) hs (za1 rfl (FO.of (off := 0) Try.underlying62 rfl rfl ti9 (by decide))) fun hs => s1 (v := .string (p0.Name)) hs (y_ld rfl Try.underlying9 rfl (Cell.blk (.tail _ (.head _)) rfl)) fun hs => s1 hs (zd9 rfl rfl) fun hs => za0 <| hK5 ?_
  refine zai (fun a w => ∃ (y29 : zac) (r30 : List Value), zhk n p0 q0 slf y29 = some res ∧ zbw.R f17 r30 y29 ∧ St 89 w0 f17 (.blk b20 (.cells r30.toArray 36 (0, 0)) :: .blk b15 (.cells #[.string (p0.Name), .string (p0.Text), v1, v6] 62 (0, 0)) :: .blk cb0 (.cells #[cv0_0] 24 (0, 0)) :: .row cv0_0 36 9 cv0_0r :: L) [(3, .pointer (some ⟨cb0, 0, none⟩)), (4, .pointer (some ⟨cb1, 0, none⟩)), (5, .pointer (some ⟨b15, 0, none⟩)), (9, .int .i64 ((q0.Nodes.length : Int))), (10, .pointer (some ⟨b20, 0, none⟩))] a w) ?_ ?_
  ·clear hs hm
   rintro a w ⟨y29, r30, hm, hq31, hs⟩
   obtain ⟨v32, rfl, ⟨rw33, hR34, hW35⟩⟩ := hq31
   unfold zhk at hm
   refine hK4 <| Wq fun hK6 => s1 (v := .pointer (some ⟨cb0, 0, none⟩)) hs (za1 rfl (FO.of (off := 0) Try.underlying24 rfl rfl ti22 (by decide))) fun hs => s1 (v := cv0_0) hs (y_ld rfl Try.underlying22 rfl (Cell.blk (.tail _ (.tail _ (.head _))) rfl)) fun hs => s1 hs (zk8 rfl Try.underlying36 rfl ti36 (.head _) rfl) fun hs => zn5 hs rfl Try.underlying22 ti36 (by decide) (AllC.row ⟨rfl, rfl, rfl, hR34.one, rfl, rfl, rfl, rfl, rfl, trivial⟩ rfl) fun v37 _ _ hs => ?_
   have hW38 : RW zbw f17 [[.int .i64 (y29.Kind), .string (y29.Name), .string (y29.Text), v32, .int .i64 (y29.Parent), .int .i64 (y29.First), .int .i64 (y29.Last), .int .i64 (y29.Prev), .int .i64 (y29.Next)]] [y29] := RW.single (⟨_, rfl, ⟨rw33, hR34, hW35⟩⟩)
   generalize hgrw39 : ([[.int .i64 (y29.Kind), .string (y29.Name), .string (y29.Text), v32, .int .i64 (y29.Parent), .int .i64 (y29.First), .int .i64 (y29.Last), .int .i64 (y29.Prev), .int .i64 (y29.Next)]] : List (List Value)) = rw39 at hs hW38; clear hgrw39
   obtain ⟨x42, hx43, hm⟩ := ob hm
   obtain ⟨hbx42, hex42⟩ := zcj hx43
   have hW46 := cv0_0h.append hW38; rw [hex42] at hW46
   refine zcs (i := 4) hs rfl rfl rfl (Rd.st hs (.head _)) Try.underlying22 ti36 (by decide) (by rw [RW.len cv0_0h, RW.len hW38]; exact hbx42) (.free rfl) (by decide) fun v44 _ _ hs => ?_
   generalize hgx42 : cv0_0r ++ rw39 = rw45 at hs hW46; clear hgx42
   replace hs := hs.erase 0
   refine s1 (v := .pointer (some ⟨cb0, 0, none⟩)) hs (za1 rfl (FO.of (off := 0) Try.underlying24 rfl rfl ti22 (by decide))) fun hs => sstore 2 hs rfl rfl rfl ti22 ((hs.one (i := 3) rfl)) fun _ _ hs => za0 <| hK6 <| Ws fun hK7 => Ws fun hK8 => ?_
   refine zai (fun a w => St 89 w0 f17 (.blk b20 (.cells #[.int .i64 (y29.Kind), .string (y29.Name), .string (y29.Text), v32, .int .i64 (y29.Parent), .int .i64 (y29.First), .int .i64 (y29.Last), .int .i64 (y29.Prev), .int .i64 (y29.Next)] 36 (0, 0)) :: .blk b15 (.cells #[.string (p0.Name), .string (p0.Text), v1, v6] 62 (0, 0)) :: .blk cb0 (.cells #[v44] 24 (0, 0)) :: .row v44 36 9 rw45 :: L) [(3, .pointer (some ⟨cb0, 0, none⟩)), (4, .pointer (some ⟨cb1, 0, none⟩)), (5, .pointer (some ⟨b15, 0, none⟩)), (9, .int .i64 ((q0.Nodes.length : Int))), (48, .bool (((decide (4096 < (x42.length : Int))) || (decide (p0.Name = (bs []))))))] a w) ?_ ?_
   ·clear hs; intro a w hs
    refine hK8 ?_
    refine zaf hs rfl (fun hg48 => ?_) (fun hg48 => ?_)
    ·replace hm := oc_t hg48 hm
     refine Wq fun hK9 => sM (v := .int .i64 ((q0.Nodes.length : Int))) hs rfl fun hs => sA (v := .int .i64 ((q0.Nodes.length : Int))) hs rfl fun hs => za0 <| hK9 <| zau ?_
     obtain rfl := Option.some.inj hm
     refine RtV1 hs rfl (rv_t hs rfl) ?_
     exact ⟨_, f17, [.blk cb0 (.cells #[v44] 24 (0, 0)), .row v44 36 9 rw45], rfl, hle, (hs.subL (.cons _ (.cons _ (.cons_cons _ (.cons_cons _ (.refl _)))))).cw, v44, rw45, rfl, rfl, hW46⟩
    replace hm := oc_f hg48 hm
    refine zah <| hK7 <| Wq fun hK10 => sA (v := .int .i64 ((-1))) hs rfl fun hs => za0 <| hK10 <| Ws fun hK11 => Ws fun hK12 => za7 ?_
    refine s1 (v := .pointer (some ⟨b15, 3, none⟩)) hs (za1 rfl (FO.of (off := 3) Try.underlying62 rfl rfl ti60 (by decide))) fun hs => s1 (v := v6) hs (y_ld rfl Try.underlying60 rfl (Cell.blk (.tail _ (.head _)) rfl)) fun hs => s1 hs (zb7 hR8 hW9 rfl Try.underlying60) fun hs => sM (v := .int .i64 (0)) hs rfl fun hs => za0 <| hK12 ?_
    have hbase57 := Fz.le.refl f17
    refine zai (fun a w => ∃ (f49 : Fz) (y51 : (List zac)) (y56 : Int) (v52 : Value) (rw53 : List (List Value)), Fz.le f17 f49 ∧ zio q0 y51 y56 = some res ∧ RW zbw f49 rw53 y51 ∧ St 89 w0 f49 (.blk cb0 (.cells #[v52] 24 (0, 0)) :: .row v52 36 9 rw53 :: L) [(3, .pointer (some ⟨cb0, 0, none⟩)), (9, .int .i64 ((q0.Nodes.length : Int))), (11, .int .i64 (y56))] a w) ?_ ?_
    ·clear hs hm
     clear hbase57
     rintro a w ⟨f49, y51, y56, v52, rw53, hl50, hm, hW54, hs⟩
     replace hR3 := hR3.le hl50
     replace hW4 := hW4.le hl50
     replace hR8 := hR8.le hl50
     replace hW9 := hW9.le hl50
     replace cv0_0h := cv0_0h.le hl50
     replace hc1 := hl50 _ _ hc1
     replace hR25 := hR25.le hl50
     replace hW26 := hW26.le hl50
     replace hR34 := hR34.le hl50
     replace hW35 := hW35.le hl50
     replace hW38 := hW38.le hl50
     replace hW46 := hW46.le hl50
     replace hle := hle.trans hl50
     unfold zio at hm
     refine hK11 <| Wq fun hK13 => s1 (v := .pointer (some ⟨cb0, 0, none⟩)) hs (za1 rfl (FO.of (off := 0) Try.underlying24 rfl rfl ti22 (by decide))) fun hs => s1 (v := v52) hs (y_ld rfl Try.underlying22 rfl (Cell.blk (.head _) rfl)) fun hs => sM (v := .int .i64 ((q0.Nodes.length : Int))) hs rfl fun hs => sM (v := .int .i64 (y56)) hs rfl fun hs => ?_
     obtain ⟨x58, hx59, hm⟩ := ob hm
     obtain ⟨r60, hr61, hq62, hi63, hb64⟩ := hW54.geti hx59
     obtain ⟨v65, rfl, ⟨rw66, hR67, hW68⟩⟩ := hq62
     refine s1 hs (za8 (Rd.st hs (.tail _ (.head _))) rfl rfl hi63 hb64 Try.underlying22 ti36) fun hs => s1 (v := eaddr v52 9 ((q0.Nodes.length : Int).toNat) 6) hs (zal (i := (q0.Nodes.length : Int).toNat) (j := 0) (Rd.st hs (.tail _ (.head _))) rfl hb64 (FO.of (off := 6) Try.underlying36 rfl rfl ti3 (by decide))) fun hs => ?_
     obtain ⟨x70, hx71, hm⟩ := ob hm
     have hex70 := zfo hx71
     have hW73 := RW.set (i := (q0.Nodes.length : Int).toNat) (r := [.int .i64 (x58.Kind), .string (x58.Name), .string (x58.Text), v65, .int .i64 (x58.Parent), .int .i64 (x58.First), .int .i64 (y56), .int .i64 (x58.Prev), .int .i64 (x58.Next)]) (x := (({x58 with Last := y56} : zac) : zac)) hW54 (⟨_, rfl, ⟨rw66, hR67, hW68⟩⟩); rw [hex70] at hW73
     refine zep (i := 1) (j := 6) (m := (q0.Nodes.length : Int).toNat) hs rfl rfl rfl hr61 (by decide) ti3 rfl (.free rfl) fun _ _ hs => ?_
     replace hs : St _ _ _ (.blk cb0 (.cells #[v52] 24 (0, 0)) :: .row v52 36 9 (rw53.set ((q0.Nodes.length : Int).toNat) [.int .i64 (x58.Kind), .string (x58.Name), .string (x58.Text), v65, .int .i64 (x58.Parent), .int .i64 (x58.First), .int .i64 (y56), .int .i64 (x58.Prev), .int .i64 (x58.Next)]) :: L) _ _ _ := hs
     generalize hgrw72 : rw53.set ((q0.Nodes.length : Int).toNat) [.int .i64 (x58.Kind), .string (x58.Name), .string (x58.Text), v65, .int .i64 (x58.Parent), .int .i64 (x58.First), .int .i64 (y56), .int .i64 (x58.Prev), .int .i64 (x58.Next)] = rw72 at hs hW73; clear hgrw72
     refine za0 <| hK13 <| Wq fun hK14 => sM (v := .int .i64 ((q0.Nodes.length : Int))) hs rfl fun hs => sA (v := .int .i64 ((q0.Nodes.length : Int))) hs rfl fun hs => za0 <| hK14 <| zau ?_
     obtain rfl := Option.some.inj hm
     refine RtV1 hs rfl (rv_t hs rfl) ?_
     exact ⟨_, f49, [.blk cb0 (.cells #[v52] 24 (0, 0)), .row v52 36 9 rw72], rfl, hle, hs.cw, v52, rw72, rfl, rfl, hW73⟩
    refine zam fun Qe15 hB15 hO15 => ?_
    have hbase := Fz.le.refl f17
    refine zcw (fun (k : Nat) a w => ∃ (f75 : Fz) (y77 : (List zac)) (y82 : Int) (y83 : Int) (v78 : Value) (rw79 : List (List Value)), Fz.le f17 f75 ∧ zef p0 q0 slf k y77 y82 y83 = some res ∧ RW zbw f75 rw79 y77 ∧ St 89 w0 f75 (.blk cb0 (.cells #[v78] 24 (0, 0)) :: .row v78 36 9 rw79 :: L) [(3, .pointer (some ⟨cb0, 0, none⟩)), (4, .pointer (some ⟨cb1, 0, none⟩)), (9, .int .i64 ((q0.Nodes.length : Int))), (11, .int .i64 (y82)), (51, v6), (52, .int .i64 ((p0.Kids.length : Int))), (53, .int .i64 (y83))] a w) (fun k => k) n ⟨_, x42, (-1), 0, v44, rw45, (Fz.le.refl _), hm, hW46, hs.subs ⟨rfl, rfl, rfl, rfl, rfl, rfl, rfl, trivial⟩ (.cons _ (.cons _ (.cons_cons _ (.cons_cons _ (.refl _)))))⟩ ?_
    clear hs hm
    intro k
    rintro a w ⟨f75, y77, y82, y83, v78, rw79, hl76, hm, hW80, hs⟩
    replace hR3 := hR3.le hl76
    replace hW4 := hW4.le hl76
    replace hR8 := hR8.le hl76
    replace hW9 := hW9.le hl76
    replace cv0_0h := cv0_0h.le hl76
    replace hc1 := hl76 _ _ hc1
    replace hR25 := hR25.le hl76
    replace hW26 := hW26.le hl76
    replace hR34 := hR34.le hl76
    replace hW35 := hW35.le hl76
    replace hW38 := hW38.le hl76
    replace hW46 := hW46.le hl76
    replace hle := hle.trans hl76
    replace hbase57 := hbase57.trans hl76
    intro K16 hK16
    cases k with
    | zero => simp [zef] at hm
    | succ k84 =>
     rw [zef] at hm
     have hbase85 := hl76
     refine Wq fun hK17 => s1 hs (zg7 rfl rfl) fun hs => za0 <| hK17 <| Ws fun hK18 => ?_
     refine zaf hs rfl (fun hg86 => ?_) (fun hg86 => ?_)
     ·replace hm := oc_t hg86 hm
      refine zah <| hK18 <| Ws fun hK19 => zam fun Qe20 hB20 hO20 => Ws fun hK21 => za7 ?_
      obtain ⟨x87, hx88, hm⟩ := ob hm
      obtain ⟨r89, hr90, hq91, hi92, hb93⟩ := hW9.geti hx88
      obtain ⟨v94, v99, rfl, ⟨rw95, hR96, hW97⟩, ⟨rw100, hR101, hW102⟩⟩ := zck.ex hq91
      refine s1 hs (za8 hR8 rfl rfl hi92 hb93 Try.underlying60 ti62) fun hs => s1 hs (zfm hR8.up rfl hr90 Try.underlying62 rfl ti62) fun hs => zbt hs ti62 (.free rfl) (by decide) fun b104 _ _ hs => zat (i := 0) hs rfl rfl rfl ti62 ⟨rfl, rfl⟩ (AllC.arr (r := [.string (x87.Name), .string (x87.Text), v94, v99]) ⟨rfl, rfl, hR96.one, hR101.one, trivial⟩) (.free rfl) fun _ _ hs => za0 <| hK21 <| Wq fun hK22 => s1 (v := .func (.func 58) #[] #[.pointer (some ⟨cb0, 0, none⟩), .pointer (some ⟨cb1, 0, none⟩)]) hs (y_ld rfl Try.underlying95 rfl (Cell.fz hc1 rfl)) fun hs => s1 hs (zk8 rfl Try.underlying62 rfl ti62 (.head _) rfl) fun hs => ?_
      refine sM (v := .int .i64 ((q0.Nodes.length : Int))) hs rfl fun hs => sM (v := .int .i64 (y82)) hs rfl fun hs => ?_
      obtain ⟨x108, hx109, hm⟩ := ob hm
      replace hs := hs.front 2
      replace hs := hs.front 2
      refine zbx (Lr := [.blk cb0 (.cells #[v78] 24 (0, 0)), .row v78 36 9 rw79]) (Lf := .blk b104 (.cells #[.string (x87.Name), .string (x87.Text), v94, v99] 62 (0, 0)) :: L) hs rfl has58 rfl rfl (slf_ok (f := f75) (a0 := [.string (x87.Name), .string (x87.Text), v94, v99]) (cb0 := cb0) (cb1 := cb1) (zck.of (x := x87) ⟨rw95, hR96, hW97⟩ ⟨rw100, hR101, hW102⟩) hW80 hc1 hx109) (.free rfl) (by decide) ?_; clear hs; (try clear a w)
      rintro _ f110 _ a w hf111 ⟨v112, rw113, rfl, rfl, hW114⟩ hs
      replace hR3 := hR3.le hf111
      replace hW4 := hW4.le hf111
      replace hR8 := hR8.le hf111
      replace hW9 := hW9.le hf111
      replace cv0_0h := cv0_0h.le hf111
      replace hc1 := hf111 _ _ hc1
      replace hR25 := hR25.le hf111
      replace hW26 := hW26.le hf111
      replace hR34 := hR34.le hf111
      replace hW35 := hW35.le hf111
      replace hW38 := hW38.le hf111
      replace hW46 := hW46.le hf111
      replace hW80 := hW80.le hf111
      replace hR96 := hR96.le hf111
      replace hW97 := hW97.le hf111
      replace hR101 := hR101.le hf111
      replace hW102 := hW102.le hf111
      replace hle := hle.trans hf111
      replace hbase57 := hbase57.trans hf111
      replace hbase85 := hbase85.trans hf111
      refine sA (v := .int .i64 (x108.1)) hs rfl fun hs => za0 <| hK22 <| Ws fun hK23 => Wq fun hK24 => sM (v := .int .i64 (y82)) hs rfl fun hs => s1 hs (zd3 rfl rfl) fun hs => za0 <| hK24 ?_
      refine zai (fun a w => ∃ (y116 : (List zac)) (v117 : Value) (rw118 : List (List Value)), zhj q0 y83 (zef p0 q0 slf k84) x108 y116 = some res ∧ RW zbw f110 rw118 y116 ∧ St 89 w0 f110 (.blk cb0 (.cells #[v117] 24 (0, 0)) :: .row v117 36 9 rw118 :: L) [(3, .pointer (some ⟨cb0, 0, none⟩)), (4, .pointer (some ⟨cb1, 0, none⟩)), (9, .int .i64 ((q0.Nodes.length : Int))), (14, .int .i64 (x108.1)), (51, v6), (52, .int .i64 ((p0.Kids.length : Int))), (53, .int .i64 (y83))] a w) ?_ ?_
      ·clear hs hm
       rintro a w ⟨y116, v117, rw118, hm, hW119, hs⟩
       unfold zhj at hm
       refine hK23 <| Wq fun hK25 => sM (v := .int .i64 (x108.1)) hs rfl fun hs => sA (v := .int .i64 (x108.1)) hs rfl fun hs => za0 <| hK25 <| Wq fun hK26 => s1 (v := .pointer (some ⟨cb0, 0, none⟩)) hs (za1 rfl (FO.of (off := 0) Try.underlying24 rfl rfl ti22 (by decide))) fun hs => ?_
       refine s1 (v := v117) hs (y_ld rfl Try.underlying22 rfl (Cell.blk (.head _) rfl)) fun hs => s1 hs (zb7 (Rd.st hs (.tail _ (.head _))) hW119 rfl Try.underlying22) fun hs => s1 hs (zis rfl rfl) fun hs => za0 <| hK26 ?_
       refine zaf hs rfl (fun hg121 => ?_) (fun hg121 => ?_)
       ·replace hm := oc_t hg121 hm
        refine zc9 <| hO20 _ rfl _ _ <| hB15 _ _ ?_
        exact ⟨_, y116, x108.1, v117, rw118, hbase57, hm, hW119, hs.sub ⟨rfl, rfl, rfl, trivial⟩⟩
       replace hm := oc_f hg121 hm
       refine zah <| hK19 <| za7 <| s1 hs (zeq rfl rfl rfl) fun hs => sM (v := .int .i64 ((w64 (y83 + 1)))) hs rfl fun hs => za0 ?_
       exact hK16 k84 _ _ (Nat.lt_succ_self _) ⟨_, y116, x108.1, (w64 (y83 + 1)), v117, rw118, hbase85, hm, hW119, hs.sub ⟨rfl, rfl, rfl, rfl, rfl, rfl, rfl, trivial⟩⟩
      refine zaf hs rfl (fun hg122 => ?_) (fun hg122 => ?_)
      ·replace hm := oc_t hg122 hm
       refine za7 <| s1 (v := .pointer (some ⟨cb0, 0, none⟩)) hs (za1 rfl (FO.of (off := 0) Try.underlying24 rfl rfl ti22 (by decide))) fun hs => s1 (v := v112) hs (y_ld rfl Try.underlying22 rfl (Cell.blk (.head _) rfl)) fun hs => sM (v := .int .i64 ((q0.Nodes.length : Int))) hs rfl fun hs => sM (v := .int .i64 (x108.1)) hs rfl fun hs => ?_
       obtain ⟨x123, hx124, hm⟩ := ob hm
       obtain ⟨r125, hr126, hq127, hi128, hb129⟩ := hW114.geti hx124
       obtain ⟨v130, rfl, ⟨rw131, hR132, hW133⟩⟩ := hq127
       refine s1 hs (za8 (Rd.st hs (.tail _ (.head _))) rfl rfl hi128 hb129 Try.underlying22 ti36) fun hs => s1 (v := eaddr v112 9 ((q0.Nodes.length : Int).toNat) 5) hs (zal (i := (q0.Nodes.length : Int).toNat) (j := 0) (Rd.st hs (.tail _ (.head _))) rfl hb129 (FO.of (off := 5) Try.underlying36 rfl rfl ti3 (by decide))) fun hs => ?_
       obtain ⟨x135, hx136, hm⟩ := ob hm
       have hex135 := zfo hx136
       have hW138 := RW.set (i := (q0.Nodes.length : Int).toNat) (r := [.int .i64 (x123.Kind), .string (x123.Name), .string (x123.Text), v130, .int .i64 (x123.Parent), .int .i64 (x108.1), .int .i64 (x123.Last), .int .i64 (x123.Prev), .int .i64 (x123.Next)]) (x := (({x123 with First := x108.1} : zac) : zac)) hW114 (⟨_, rfl, ⟨rw131, hR132, hW133⟩⟩); rw [hex135] at hW138
       refine zep (i := 1) (j := 5) (m := (q0.Nodes.length : Int).toNat) hs rfl rfl rfl hr126 (by decide) ti3 rfl (.free rfl) fun _ _ hs => ?_
       replace hs : St _ _ _ (.blk cb0 (.cells #[v112] 24 (0, 0)) :: .row v112 36 9 (rw113.set ((q0.Nodes.length : Int).toNat) [.int .i64 (x123.Kind), .string (x123.Name), .string (x123.Text), v130, .int .i64 (x123.Parent), .int .i64 (x108.1), .int .i64 (x123.Last), .int .i64 (x123.Prev), .int .i64 (x123.Next)]) :: .blk b104 (.cells #[.string (x87.Name), .string (x87.Text), v94, v99] 62 (0, 0)) :: L) _ _ _ := hs
       generalize hgrw137 : rw113.set ((q0.Nodes.length : Int).toNat) [.int .i64 (x123.Kind), .string (x123.Name), .string (x123.Text), v130, .int .i64 (x123.Parent), .int .i64 (x108.1), .int .i64 (x123.Last), .int .i64 (x123.Prev), .int .i64 (x123.Next)] = rw137 at hs hW138; clear hgrw137
       refine za0 ?_
       exact ⟨x135, v112, rw137, hm, hW138, hs.subs ⟨rfl, rfl, rfl, rfl, rfl, rfl, rfl, trivial⟩ (.cons_cons _ (.cons_cons _ (.cons _ (.refl _))))⟩
      replace hm := oc_f hg122 hm
      refine za7 <| s1 (v := .pointer (some ⟨cb0, 0, none⟩)) hs (za1 rfl (FO.of (off := 0) Try.underlying24 rfl rfl ti22 (by decide))) fun hs => s1 (v := v112) hs (y_ld rfl Try.underlying22 rfl (Cell.blk (.head _) rfl)) fun hs => sM (v := .int .i64 (y82)) hs rfl fun hs => sM (v := .int .i64 (x108.1)) hs rfl fun hs => ?_
      obtain ⟨x140, hx141, hm⟩ := ob hm
      obtain ⟨r142, hr143, hq144, hi145, hb146⟩ := hW114.geti hx141
      obtain ⟨v147, rfl, ⟨rw148, hR149, hW150⟩⟩ := hq144
      refine s1 hs (za8 (Rd.st hs (.tail _ (.head _))) rfl rfl hi145 hb146 Try.underlying22 ti36) fun hs => s1 (v := eaddr v112 9 y82.toNat 8) hs (zal (i := y82.toNat) (j := 0) (Rd.st hs (.tail _ (.head _))) rfl hb146 (FO.of (off := 8) Try.underlying36 rfl rfl ti3 (by decide))) fun hs => ?_
      obtain ⟨x152, hx153, hm⟩ := ob hm
      have hex152 := zfo hx153
      have hW155 := RW.set (i := y82.toNat) (r := [.int .i64 (x140.Kind), .string (x140.Name), .string (x140.Text), v147, .int .i64 (x140.Parent), .int .i64 (x140.First), .int .i64 (x140.Last), .int .i64 (x140.Prev), .int .i64 (x108.1)]) (x := (({x140 with Next := x108.1} : zac) : zac)) hW114 (⟨_, rfl, ⟨rw148, hR149, hW150⟩⟩); rw [hex152] at hW155
      refine zep (i := 1) (j := 8) (m := y82.toNat) hs rfl rfl rfl hr143 (by decide) ti3 rfl (.free rfl) fun _ _ hs => ?_
      replace hs : St _ _ _ (.blk cb0 (.cells #[v112] 24 (0, 0)) :: .row v112 36 9 (rw113.set y82.toNat [.int .i64 (x140.Kind), .string (x140.Name), .string (x140.Text), v147, .int .i64 (x140.Parent), .int .i64 (x140.First), .int .i64 (x140.Last), .int .i64 (x140.Prev), .int .i64 (x108.1)]) :: .blk b104 (.cells #[.string (x87.Name), .string (x87.Text), v94, v99] 62 (0, 0)) :: L) _ _ _ := hs
      generalize hgrw154 : rw113.set y82.toNat [.int .i64 (x140.Kind), .string (x140.Name), .string (x140.Text), v147, .int .i64 (x140.Parent), .int .i64 (x140.First), .int .i64 (x140.Last), .int .i64 (x140.Prev), .int .i64 (x108.1)] = rw154 at hs hW155; clear hgrw154
      refine za0 ?_
      exact ⟨x152, v112, rw154, hm, hW155, hs.subs ⟨rfl, rfl, rfl, rfl, rfl, rfl, rfl, trivial⟩ (.cons_cons _ (.cons_cons _ (.cons _ (.refl _))))⟩
     replace hm := oc_f hg86 hm
     refine zc9 <| hB15 _ _ ?_
     exact ⟨_, y77, y82, v78, rw79, hbase57, hm, hW80, hs.sub ⟨rfl, rfl, rfl, trivial⟩⟩
   refine za7 <| s1 (v := .pointer (some ⟨cb0, 0, none⟩)) hs (za1 rfl (FO.of (off := 0) Try.underlying24 rfl rfl ti22 (by decide))) fun hs => s1 (v := v44) hs (y_ld rfl Try.underlying22 rfl (Cell.blk (.tail _ (.tail _ (.head _))) rfl)) fun hs => s1 hs (zb7 (Rd.st hs (.tail _ (.tail _ (.tail _ (.head _))))) hW46 rfl Try.underlying22) fun hs => s1 hs (zis rfl rfl) fun hs => sM (v := .bool (decide (4096 < (x42.length : Int)))) hs rfl fun hs => ?_
   refine St.split hs (t := 44) rfl (fun hg157 hs => ?_) (fun hg157 hs => ?_)
   ·refine s3 hs fun hs => s3 hs fun hs => s3 hs fun hs => sP (v := .bool (true)) hs rfl rfl fun hs => za0 ?_
    exact hs.sub ⟨rfl, rfl, rfl, rfl, (lkB (((or_t hg157).trans rfl)) rfl), trivial⟩
   refine s2 (v := .pointer (some ⟨b15, 0, none⟩)) hs (za1 rfl (FO.of (off := 0) Try.underlying62 rfl rfl ti9 (by decide))) fun hs => s2 (v := .string (p0.Name)) hs (y_ld rfl Try.underlying9 rfl (Cell.blk (.tail _ (.head _)) rfl)) fun hs => s2 hs (zd9 rfl rfl) fun hs => sP (v := .bool (decide (p0.Name = (bs [])))) hs rfl rfl fun hs => za0 ?_
   exact hs.sub ⟨rfl, rfl, rfl, rfl, (lkB (((or_f hg157).trans rfl)) rfl), trivial⟩
  refine zaf hs rfl (fun hg158 => ?_) (fun hg158 => ?_)
  ·replace hm := oc_t hg158 hm
   have hsD := hs.subL (L' := .blk b15 (.cells #[.string (p0.Name), .string (p0.Text), v1, v6] 62 (0, 0)) :: []) (.cons _ (.cons_cons _ (.cons _ (.cons _ (List.nil_sublist _)))))
   have hbd159 := Fz.le.refl f17
   refine zjc hs (.blk b15 (.cells #[.string (p0.Name), .string (p0.Text), v1, v6] 62 (0, 0)) :: []) [7] (.look 0 (.look 1 (.look 2 (.any [3] (fun _ => .look 4 (.any [5] (fun _ => .look 6 (.any [7] (fun _ => .done))))))))) mixed (by kernel_rfl) fun _ he => uy (v := .pointer (some ⟨b15, 1, none⟩)) 0 he rfl (za1 rfl (FO.of (off := 1) Try.underlying62 rfl rfl ti9 (by decide))) fun _ he => uy (v := .string (p0.Text)) 1 he rfl (y_ld rfl Try.underlying9 rfl (Cell.blk (.head _) rfl)) fun _ he => uy (v := .pointer (some ⟨b20, 0, none⟩)) 2 he rfl (za1 rfl (FO.of (off := 0) Try.underlying36 rfl rfl ti3 (by decide))) fun _ he => ?_
   refine ze2 he rfl ?_; clear he; (try clear a); intro a w hs
   refine sstore 0 hs rfl rfl rfl ti3 rfl fun _ _ hs => uon hs fun _ he => uy (v := .pointer (some ⟨b20, 2, none⟩)) 4 he rfl (za1 rfl (FO.of (off := 2) Try.underlying36 rfl rfl ti9 (by decide))) fun _ he => ?_
   refine ze2 he rfl ?_; clear he; (try clear a); intro a w hs
   refine sstore 0 hs rfl rfl rfl ti9 rfl fun _ _ hs => uon hs fun _ he => uy (v := .pointer (some ⟨b20, 3, none⟩)) 6 he rfl (za1 rfl (FO.of (off := 3) Try.underlying36 rfl rfl ti34 (by decide))) fun _ he => ?_
   refine ze2 he rfl ?_; clear he; (try clear a); intro a w hs
   refine sstore 0 hs rfl rfl rfl ti34 rfl fun _ _ hs => uend hs fun _ he => ?_
   refine znq he ?_; clear he; (try clear a); intro w hs; try clear hsD
   exact ⟨({Kind := 2, Name := p0.Name, Text := p0.Text, Attrs := ([] : List za9), Parent := p1, First := (-1), Last := (-1), Prev := p2, Next := (-1)} : zac), [.int .i64 (2), .string (p0.Name), .string (p0.Text), (.slice none 0 0), .int .i64 (p1), .int .i64 ((-1)), .int .i64 ((-1)), .int .i64 (p2), .int .i64 ((-1))], hm, ⟨_, rfl, RS.nil⟩, hs.sub ⟨rfl, rfl, rfl, rfl, rfl, trivial⟩⟩
  replace hm := oc_f hg158 hm
  refine zah ?_
  exact ⟨({Kind := 1, Name := p0.Name, Text := (bs []), Attrs := y21, Parent := p1, First := (-1), Last := (-1), Prev := p2, Next := (-1)} : zac), [.int .i64 (1), .string (p0.Name), .string ((bs [])), v22, .int .i64 (p1), .int .i64 ((-1)), .int .i64 ((-1)), .int .i64 (p2), .int .i64 ((-1))], hm, ⟨_, rfl, ⟨rw24, hR25, hW26⟩⟩, hs.sub ⟨rfl, rfl, rfl, rfl, rfl, trivial⟩⟩
 have hsD := hs.subL (L' := .blk b15 (.cells #[.string (p0.Name), .string (p0.Text), v1, v6] 62 (0, 0)) :: []) (.cons_cons _ (.cons _ (.cons _ (List.nil_sublist _))))
 have hbd161 := Fz.le.refl f
 refine zjc hs (.blk b15 (.cells #[.string (p0.Name), .string (p0.Text), v1, v6] 62 (0, 0)) :: []) [9] (.look 0 (.look 1 (.look 2 (.look 3 (.look 5 (.look 6 (.any [4, 8] (fun i => bif Nat.beq i 4 then .look 7 (.any [8] (fun _ => .any [9] (fun _ => .done))) else .any [4] (fun _ => .look 7 (.any [9] (fun _ => .done))))))))))) mixed (by kernel_rfl) fun _ he => uy (v := .pointer (some ⟨b15, 0, none⟩)) 0 he rfl (za1 rfl (FO.of (off := 0) Try.underlying62 rfl rfl ti9 (by decide))) fun _ he => uy (v := .string (p0.Name)) 1 he rfl (y_ld rfl Try.underlying9 rfl (Cell.blk (.head _) rfl)) fun _ he => uy (v := .pointer (some ⟨b15, 2, none⟩)) 2 he rfl (za1 rfl (FO.of (off := 2) Try.underlying62 rfl rfl ti34 (by decide))) fun _ he => uy (v := v1) 3 he rfl (y_ld rfl Try.underlying34 rfl (Cell.blk (.head _) rfl)) fun _ he => uy (v := .int .i64 (p1)) 5 he rfl (zaa rfl) fun _ he => uy (v := .int .i64 (p2)) 6 he rfl (zaa rfl) fun _ he => ?_
 refine T_any2 he rfl rfl ?_ ?_ <;> (clear he; (try clear a); intro a w hs)
 ·obtain ⟨x162, hx163, hm⟩ := ob hm
  refine zen hs rfl has59 rfl (zjt n (f := f) (a0 := v1) ⟨rw2, hR3, hW4⟩ hx163) ?_; clear hs; (try clear a w)
  rintro v166 f164 _ a w hf165 ⟨_, rfl, rfl, ⟨rw167, hR168, hW169⟩⟩ hs
  have hR170 := hR3.le hf165
  have hW171 := hW4.le hf165
  have hR172 := hR8.le hf165
  have hW173 := hW9.le hf165
  have cv174 := cv0_0h.le hf165
  have hc175 := hf165 _ _ hc1
  replace hle := hle.trans hf165
  replace hbase28 := hbase28.trans hf165
  replace hbd161 := hbd161.trans hf165
  refine uon hs fun _ he => uy 7 he rfl (zes (places := [(0, 1), (1, 1), (2, 1), (3, 1), (4, 1), (5, 1), (6, 1), (7, 1), (8, 1)]) (cs := [.int .i64 (1), .string (p0.Name), .string ((bs [])), v166, .int .i64 (p1), .int .i64 ((-1)), .int .i64 ((-1)), .int .i64 (p2), .int .i64 ((-1))]) rfl Try.underlying36 ti36 (by kernel_rfl) (by decide) rfl ⟨rfl, rfl, hR168.one, rfl, rfl, rfl, rfl, rfl, trivial⟩) fun _ he => ?_
  refine ze2 he rfl ?_; clear he; (try clear a); intro a w hs
  refine zbt hs ti36 (.free rfl) (by decide) fun b178 _ _ hs => uon hs fun _ he => ?_
  refine ze2 he rfl ?_; clear he; (try clear a); intro a w hs
  refine zat (i := 0) hs rfl rfl rfl ti36 ⟨rfl, rfl⟩ (AllC.arr (r := [.int .i64 (1), .string (p0.Name), .string ((bs [])), v166, .int .i64 (p1), .int .i64 ((-1)), .int .i64 ((-1)), .int .i64 (p2), .int .i64 ((-1))]) ⟨rfl, rfl, rfl, hR168.one, rfl, rfl, rfl, rfl, rfl, trivial⟩) (.free rfl) fun _ _ hs => uend hs fun _ he => ?_
  refine znq he ?_; clear he; (try clear a); intro w hs; try clear hsD
  exact ⟨_, x162, b178, v166, hbase28, hm, ⟨rw167, hR168, hW169⟩, hs.sub ⟨rfl, rfl, rfl, rfl, rfl, trivial⟩⟩
 refine zbt hs ti36 (.free rfl) (by decide) fun b181 _ _ hs => uon hs fun _ he => ?_
 refine ze2 he rfl ?_; clear he; (try clear a); intro a w hs
 obtain ⟨x184, hx185, hm⟩ := ob hm
 refine zen hs rfl has59 rfl (zjt n (f := f) (a0 := v1) ⟨rw2, hR3, hW4⟩ hx185) ?_; clear hs; (try clear a w)
 rintro v188 f186 _ a w hf187 ⟨_, rfl, rfl, ⟨rw189, hR190, hW191⟩⟩ hs
 have hR192 := hR3.le hf187
 have hW193 := hW4.le hf187
 have hR194 := hR8.le hf187
 have hW195 := hW9.le hf187
 have cv196 := cv0_0h.le hf187
 have hc197 := hf187 _ _ hc1
 replace hle := hle.trans hf187
 replace hbase28 := hbase28.trans hf187
 replace hbd161 := hbd161.trans hf187
 refine uon hs fun _ he => uy 7 he rfl (zes (places := [(0, 1), (1, 1), (2, 1), (3, 1), (4, 1), (5, 1), (6, 1), (7, 1), (8, 1)]) (cs := [.int .i64 (1), .string (p0.Name), .string ((bs [])), v188, .int .i64 (p1), .int .i64 ((-1)), .int .i64 ((-1)), .int .i64 (p2), .int .i64 ((-1))]) rfl Try.underlying36 ti36 (by kernel_rfl) (by decide) rfl ⟨rfl, rfl, hR190.one, rfl, rfl, rfl, rfl, rfl, trivial⟩) fun _ he => ?_
 refine ze2 he rfl ?_; clear he; (try clear a); intro a w hs
 refine zat (i := 0) hs rfl rfl rfl ti36 ⟨rfl, rfl⟩ (AllC.arr (r := [.int .i64 (1), .string (p0.Name), .string ((bs [])), v188, .int .i64 (p1), .int .i64 ((-1)), .int .i64 ((-1)), .int .i64 (p2), .int .i64 ((-1))]) ⟨rfl, rfl, rfl, hR190.one, rfl, rfl, rfl, rfl, rfl, trivial⟩) (.free rfl) fun _ _ hs => uend hs fun _ he => ?_
 refine znq he ?_; clear he; (try clear a); intro w hs; try clear hsD
 exact ⟨_, x184, b181, v188, hbase28, hm, ⟨rw189, hR190, hW191⟩, hs.sub ⟨rfl, rfl, rfl, rfl, rfl, trivial⟩⟩
theorem zno : ∀ (n : Nat) {f : Fz} {p0 : zad} {a0 : List Value} {p1 : Int} {p2 : Int} {cb0 : Nat} {q0 : zae} {cv0_0 : Value} {cv0_0r : List (List Value)} {cb1 : Nat} {res : (Int × zae)} (h0 : ze9.R f a0 p0) (cv0_0h : RW zbw f cv0_0r q0.Nodes) (hc1 : f cb1 = some (.cells #[.func (.func 58) #[] #[.pointer (some ⟨cb0, 0, none⟩), .pointer (some ⟨cb1, 0, none⟩)]] 95 (0, 0))) (_ : zhl n p0 p1 p2 q0 = some res), Does Try.prog 58 [.agg a0.toArray, .int .i64 p1, .int .i64 p2, .pointer (some ⟨cb0, 0, none⟩), .pointer (some ⟨cb1, 0, none⟩)] f [.blk cb0 (.cells #[cv0_0] 24 (0, 0)), .row cv0_0 36 9 cv0_0r] (fun r f' L' => ∃ (dv0_0 : Value) (dv0_0r : List (List Value)), L' = [.blk cb0 (.cells #[dv0_0] 24 (0, 0)), .row dv0_0 36 9 dv0_0r] ∧ r = .int .i64 res.1 ∧ RW zbw f' dv0_0r res.2.Nodes)
  | 0, f, p0, a0, p1, p2, cb0, q0, cv0_0, cv0_0r, cb1, res, h0, cv0_0h, hc1, hm => by simp [zhl] at hm
  | n + 1, f, p0, a0, p1, p2, cb0, q0, cv0_0, cv0_0r, cb1, res, h0, cv0_0h, hc1, hm => zqc n (zno n) h0 cv0_0h hc1 hm
def zla (n : Nat) (p0 : zad) : Option (zae × Int) :=
  (zhl n p0 (-1) (-1) ({Nodes := ([] : List zac)} : zae)).bind fun x24 =>
  (zjy n x24.2).bind fun x36 =>
  (bif (decide (x36 ≠ 0)) then some (({Nodes := ([] : List zac)} : zae), x36) else
  some (x24.2, 0))
theorem dom_Make_ok (n : Nat) {f : Fz} {p0 : zad} {a0 : List Value} {res : (zae × Int)} (h0 : ze9.R f a0 p0) (hm : zla n p0 = some res) : Does Try.prog 24 [.agg a0.toArray] f [] (fun r f' L' => ∃ (u0 : List Value), L' = [] ∧ r = .tuple #[.agg u0.toArray, .int .i64 res.2] ∧ zff.R f' u0 res.1) := by
 unfold zla at hm
 intro w0 L w hC
 obtain ⟨v1, v6, rfl, ⟨rw2, hR3, hW4⟩, ⟨rw7, hR8, hW9⟩⟩ := zck.ex h0
 refine enter Try.func24 rfl Try.ntmps24 (by simp) hC fun a hs => ?_
 have hle := Fz.le.refl f
 refine Wq fun hK1 => sbox hs rfl fun b11 _ _ hs => zbt hs ti24 (.free rfl) (by decide) fun b13 _ _ hs => sA (v := .int .i64 (0)) hs rfl fun hs => za0 <| hK1 <| Wq fun hK2 => zbt hs ti24 (.free rfl) (by decide) fun b16 _ _ hs => ?_
 refine za0 <| hK2 <| Wq fun hK3 => zbt hs ti95 (.free rfl) (by decide) fun b19 _ _ hs => ?_
 replace hs : St _ _ _ (.blk b19 (.cells #[.nilFunc] 95 (0, 0)) :: .blk b16 (.cells #[(.slice none 0 0)] 24 (0, 0)) :: .blk b13 (.cells #[(.slice none 0 0)] 24 (0, 0)) :: .blk b11 (.cells #[.string (p0.Name), .string (p0.Text), v1, v6] 62 (0, 0)) :: L) _ _ _ := hs
 refine za0 <| hK3 <| Wq fun hK4 => s1 hs (zqe rfl) fun hs => sstore 0 hs rfl rfl rfl ti95 rfl fun _ _ hs => za0 <| hK4 <| Ws fun hK5 => za7 ?_
 refine s1 (v := .func (.func 58) #[] #[.pointer (some ⟨b16, 0, none⟩), .pointer (some ⟨b19, 0, none⟩)]) hs (y_ld rfl Try.underlying95 rfl (Cell.blk (.head _) rfl)) fun hs => s1 hs (zk8 rfl Try.underlying62 rfl ti62 (.tail _ (.tail _ (.tail _ (.head _)))) rfl) fun hs => ?_
 obtain ⟨f21, hf22, hs2, hB23⟩ := hs.frzB 0 rfl
 clear hs; have hs := hs2; clear hs2
 replace hR3 := hR3.le hf22
 replace hW4 := hW4.le hf22
 replace hR8 := hR8.le hf22
 replace hW9 := hW9.le hf22
 replace hle := hle.trans hf22
 obtain ⟨x24, hx25, hm⟩ := ob hm
 replace hs := hs.nilRow 36 9
 have hW26 : RW zbw f21 [] ([] : List zac) := trivial
 generalize hgrw27 : ([] : List (List Value)) = rw27 at hs hW26; clear hgrw27
 replace hs := hs.front 0
 replace hs := hs.front 1
 refine zbx (Lr := [.blk b16 (.cells #[(.slice none 0 0)] 24 (0, 0)), .row (.slice none 0 0) 36 9 rw27]) (Lf := .blk b13 (.cells #[(.slice none 0 0)] 24 (0, 0)) :: .blk b11 (.cells #[.string (p0.Name), .string (p0.Text), v1, v6] 62 (0, 0)) :: L) hs rfl has58 rfl rfl (zno n (f := f21) (a0 := [.string (p0.Name), .string (p0.Text), v1, v6]) (cb0 := b16) (cb1 := b19) (zck.of (x := p0) ⟨rw2, hR3, hW4⟩ ⟨rw7, hR8, hW9⟩) hW26 hB23 hx25) (.free rfl) (by decide) ?_; clear hs; (try clear a w)
 rintro _ f30 _ a w hf31 ⟨v32, rw33, rfl, rfl, hW34⟩ hs
 replace hR3 := hR3.le hf31
 replace hW4 := hW4.le hf31
 replace hR8 := hR8.le hf31
 replace hW9 := hW9.le hf31
 replace hB23 := hf31 _ _ hB23
 replace hW26 := hW26.le hf31
 replace hle := hle.trans hf31
 refine za0 <| hK5 <| Ws fun hK6 => Wq fun hK7 => s1 hs (zk8 rfl Try.underlying24 rfl ti24 (.head _) rfl) fun hs => ?_
 obtain ⟨x36, hx37, hm⟩ := ob hm
 refine sy hs (zeh (cap := []) rfl has12 rfl (fun w9 hw9 => callsP (Lr := [.row v32 36 9 rw33]) (Lf := .blk b16 (.cells #[v32] 24 (0, 0)) :: .blk b13 (.cells #[(.slice none 0 0)] 24 (0, 0)) :: .blk b11 (.cells #[.string (p0.Name), .string (p0.Text), v1, v6] 62 (0, 0)) :: L) (zag _ 1 rfl) hw9 (fun Lz w9 hw9 => lent0 hw9 (fun f9_0 w9 hle9_0 hRl0 hw9 => (zom n (f := f9_0) (a0 := [v32]) ⟨_, rfl, ⟨rw33, hRl0, hW34.le hle9_0⟩⟩ hx37) w0 _ w9 hw9)))) fun _ _ hs => sA (v := .int .i64 (x36)) hs rfl fun hs => za0 <| hK7 <| Wq fun hK8 => sM (v := .int .i64 (x36)) hs rfl fun hs => s1 hs (zez rfl rfl) fun hs => za0 <| hK8 ?_
 refine zaf hs rfl (fun hg38 => ?_) (fun hg38 => ?_)
 ·replace hm := oc_t hg38 hm
  refine Wq fun hK9 => s1 hs (zes (places := [(0, 1)]) (cs := [(.slice none 0 0)]) rfl Try.underlying24 ti24 (by kernel_rfl) (by decide) rfl trivial) fun hs => sM (v := .int .i64 (x36)) hs rfl fun hs => zat (i := 2) hs rfl rfl rfl ti24 ⟨rfl, rfl⟩ (AllC.arr (r := [(.slice none 0 0)]) ⟨rfl, trivial⟩) (.free rfl) fun _ _ hs => sA (v := .int .i64 (x36)) hs rfl fun hs => za0 <| hK9 <| zau ?_
  obtain rfl := Option.some.inj hm
  refine RtV2 hs rfl (rv_a hs rfl Try.underlying24 rfl ti24 (fun j u hj => Cell.blk (.tail _ (.tail _ (.head _))) hj) rfl) (rv_t hs rfl) ?_
  exact ⟨_, f30, [], rfl, hle, (hs.subL (.cons _ (.cons _ (.cons _ (.cons _ (.refl _)))))).cw, [(.slice none 0 0)], rfl, rfl, ⟨_, rfl, RS.nil⟩⟩
 replace hm := oc_f hg38 hm
 refine zah <| hK6 <| Wq fun hK10 => s1 hs (zk8 rfl Try.underlying24 rfl ti24 (.head _) rfl) fun hs => zat (i := 2) hs rfl rfl rfl ti24 ⟨rfl, rfl⟩ (AllC.arr (r := [v32]) ⟨(hs.one (i := 1) rfl), trivial⟩) (.free rfl) fun _ _ hs => sA (v := .int .i64 (0)) hs rfl fun hs => za0 <| hK10 <| zau ?_
 obtain ⟨f40, hf41, hs2, hR42⟩ := hs.frzAt 1 rfl
 clear hs; have hs := hs2; clear hs2
 replace hR3 := hR3.le hf41
 replace hW4 := hW4.le hf41
 replace hR8 := hR8.le hf41
 replace hW9 := hW9.le hf41
 replace hB23 := hf41 _ _ hB23
 replace hW34 := hW34.le hf41
 replace hle := hle.trans hf41
 obtain rfl := Option.some.inj hm
 refine RtV2 hs rfl (rv_a hs rfl Try.underlying24 rfl ti24 (fun j u hj => Cell.blk (.tail _ (.head _)) hj) rfl) (rv_t hs rfl) ?_
 exact ⟨_, f40, [], rfl, hle, (hs.subL (.cons _ (.cons _ (.cons _ (.refl _))))).cw, [v32], rfl, rfl, ⟨_, rfl, ⟨rw33, hR42, hW34⟩⟩⟩
end Go.Proofs.Ytklcdfnhdljkjaa
