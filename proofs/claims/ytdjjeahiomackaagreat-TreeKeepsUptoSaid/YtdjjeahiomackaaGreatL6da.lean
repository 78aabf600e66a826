/-
  Walks and laws of this seat.
-/
import Derived.Test.YtdjjeahiomackaaGreatBash
import Derived.Test.YtdjjeahiomackaaGreatT6
import Derived.Test.YtdjjeahiomackaaGreatRows
namespace Go.Proofs.YtdjjeahiomackaaGreat
set_option linter.unusedVariables false
set_option linter.unusedSimpArgs false
set_option linter.unusedSectionVars false
set_option maxHeartbeats 4000000
set_option maxRecDepth 100000
open Go.RowKit Go.Sl
def zk0 : Option Bool :=
  some true
def zh3 (y17 : (List (ByteArray × Int))) (y21 : Int) (lp22 : (List (ByteArray × Int)) → Int → Option Bool) (x24 : zam) (y33 : Bool) : Option Bool :=
  (bif y33 then some false else
  lp22 (mputM y17 x24.Name (w64 (((mgetM y17 x24.Name).getD 0) + 1))) (w64 (y21 + 1)))
def zci (p0 : zal) : Nat → (List (ByteArray × Int)) → Int → Option Bool
  | 0, _, _ => none
  | k22 + 1, y17, y21 =>
  (bif (decide (y21 < (p0.Attrs.length : Int))) then (geti p0.Attrs y21).bind fun x24 =>
  (bif (decide (x24.Name = (bs []))) then zh3 y17 y21 (zci p0 k22) x24 true else
  zh3 y17 y21 (zci p0 k22) x24 (decide (0 < ((mgetM y17 x24.Name).getD 0)))) else
  zk0)
def dom_alone (n : Nat) (p0 : zal) : Option Bool :=
  (bif (decide (p0.Kind = 2)) then some ((decide (p0.Name = (bs []))) && ((decide (p0.Text ≠ (bs []))) && ((decide ((p0.Attrs.length : Int) = 0)) && ((decide (p0.First = (-1))) && (decide (p0.Last = (-1))))))) else
  (bif ((decide (p0.Kind ≠ 1)) || ((decide (p0.Name = (bs []))) || ((decide (p0.Text ≠ (bs []))) || (decide (64 < (p0.Attrs.length : Int)))))) then some false else
  zci p0 n ([] : List (ByteArray × Int)) 0))
theorem dom_alone_ok (n : Nat) {f : Fz} {p0 : zal} {a0 : List Value} {res : Bool} (h0 : zcg.R f a0 p0) (hm : dom_alone n p0 = some res) : Gives Tryz.prog 83 [.agg a0.toArray] f (.bool res) := by
 unfold dom_alone at hm
 intro w0 L w hC
 obtain ⟨v1, rfl, ⟨rw2, hR3, hW4⟩⟩ := h0
 refine enter Tryz.func83 rfl Tryz.ntmps83 (by simp) hC fun a hs => ?_
 have hle := Fz.le.refl f
 refine Wq fun hK1 => sbox hs rfl fun b6 _ _ hs => sA hs rfl fun hs => za1 <| hK1 <| Ws fun hK2 => Wq fun hK3 => s1 (v := .pointer (some ⟨b6,0, none⟩)) hs (za3 rfl (FO.of (off := 0) Tryz.underlying42 rfl rfl ti3 (by decide))) fun hs => ?_
 refine s1 (v := .int .i64 (p0.Kind)) hs (y_ld rfl Tryz.underlying3 rfl (Cell.blk (.head _) rfl)) fun hs => s1 hs (zh5 rfl rfl) fun hs => za1 <| hK3 ?_
 refine zag hs rfl (fun hg8 => ?_) (fun hg8 => ?_)
 ·replace hm := oc_t hg8 hm
  refine Ws fun hK4 => ?_
  refine zay (fun a w => St 76 w0 f (.blk b6 (.cells #[.int .i64 (p0.Kind), .string (p0.Name), .string (p0.Text), v1, .int .i64 (p0.Parent), .int .i64 (p0.First), .int .i64 (p0.Last), .int .i64 (p0.Prev), .int .i64 (p0.Next)] 42 (0,0)) :: L) [(2, .bool (((decide (p0.Name = (bs []))) && ((decide (p0.Text ≠ (bs []))) && ((decide ((p0.Attrs.length : Int) = 0)) && ((decide (p0.First = (-1))) && (decide (p0.Last = (-1)))))))))] a w) ?_ ?_
  ·clear hs; intro a w hs
   refine hK4 <| zbl ?_
   obtain rfl := Option.some.inj hm
   refine RtV1 hs rfl (rv_t hs rfl) ?_
   exact ⟨rfl,((hs.subL (.cons _ (.refl _))).weak hle).cw⟩
  refine za5 <| s1 (v := .pointer (some ⟨b6,1, none⟩)) hs (za3 rfl (FO.of (off := 1) Tryz.underlying42 rfl rfl ti9 (by decide))) fun hs => s1 (v := .string (p0.Name)) hs (y_ld rfl Tryz.underlying9 rfl (Cell.blk (.head _) rfl)) fun hs => s1 hs (zfr rfl rfl) fun hs => sM hs rfl fun hs => ?_
  refine St.split hs (t := 12) rfl (fun hg9 hs => ?_) (fun hg9 hs => ?_)
  ·refine s2 (v := .pointer (some ⟨b6,2, none⟩)) hs (za3 rfl (FO.of (off := 2) Tryz.underlying42 rfl rfl ti9 (by decide))) fun hs => s2 (v := .string (p0.Text)) hs (y_ld rfl Tryz.underlying9 rfl (Cell.blk (.head _) rfl)) fun hs => s2 hs (zn8 rfl rfl) fun hs => sP hs rfl rfl fun hs => sM hs rfl fun hs => ?_
   refine St.split hs (t := 17) rfl (fun hg10 hs => ?_) (fun hg10 hs => ?_)
   ·refine s2 (v := .pointer (some ⟨b6,3, none⟩)) hs (za3 rfl (FO.of (off := 3) Tryz.underlying42 rfl rfl ti25 (by decide))) fun hs => s2 (v := v1) hs (y_ld rfl Tryz.underlying25 rfl (Cell.blk (.head _) rfl)) fun hs => s2 hs (ze4 hR3 hW4 rfl Tryz.underlying25) fun hs => s2 hs (zh5 rfl rfl) fun hs => sP hs rfl rfl fun hs => sM hs rfl fun hs => ?_
    refine St.split hs (t := 23) rfl (fun hg11 hs => ?_) (fun hg11 hs => ?_)
    ·refine s2 (v := .pointer (some ⟨b6,5, none⟩)) hs (za3 rfl (FO.of (off := 5) Tryz.underlying42 rfl rfl ti3 (by decide))) fun hs => s2 (v := .int .i64 (p0.First)) hs (y_ld rfl Tryz.underlying3 rfl (Cell.blk (.head _) rfl)) fun hs => s2 hs (zh5 rfl rfl) fun hs => sP hs rfl rfl fun hs => sM hs rfl fun hs => ?_
     refine St.split hs (t := 28) rfl (fun hg12 hs => ?_) (fun hg12 hs => ?_)
     ·refine s2 (v := .pointer (some ⟨b6,6, none⟩)) hs (za3 rfl (FO.of (off := 6) Tryz.underlying42 rfl rfl ti3 (by decide))) fun hs => s2 (v := .int .i64 (p0.Last)) hs (y_ld rfl Tryz.underlying3 rfl (Cell.blk (.head _) rfl)) fun hs => s2 hs (zh5 rfl rfl) fun hs => sP hs rfl rfl fun hs => sA hs rfl fun hs => za1 ?_
      exact hs.sub ⟨(lkB (((zj8 hg9).trans ((zj8 hg10).trans ((zj8 hg11).trans ((zj8 hg12).trans rfl))))) rfl), trivial⟩
     refine s3 hs fun hs => s3 hs fun hs => s3 hs fun hs => sP hs rfl rfl fun hs => sA hs rfl fun hs => za1 ?_
     exact hs.sub ⟨(lkB (((zj8 hg9).trans ((zj8 hg10).trans ((zj8 hg11).trans ((zoq hg12).trans rfl))))) rfl), trivial⟩
    refine s3 hs fun hs => s3 hs fun hs => s3 hs fun hs => sP hs rfl rfl fun hs => sM hs rfl fun hs => s3 hs fun hs => s3 hs fun hs => s3 hs fun hs => sP hs rfl rfl fun hs => sA hs rfl fun hs => ?_
    refine za1 ?_
    exact hs.sub ⟨(lkB (((zj8 hg9).trans ((zj8 hg10).trans ((zoq hg11).trans rfl)))) rfl), trivial⟩
   refine s3 hs fun hs => s3 hs fun hs => s3 hs fun hs => s3 hs fun hs => sP hs rfl rfl fun hs => sM hs rfl fun hs => s3 hs fun hs => s3 hs fun hs => s3 hs fun hs => sP hs rfl rfl fun hs => ?_
   refine sM hs rfl fun hs => s3 hs fun hs => s3 hs fun hs => s3 hs fun hs => sP hs rfl rfl fun hs => sA hs rfl fun hs => za1 ?_
   exact hs.sub ⟨(lkB (((zj8 hg9).trans ((zoq hg10).trans rfl))) rfl), trivial⟩
  refine s3 hs fun hs => s3 hs fun hs => s3 hs fun hs => sP hs rfl rfl fun hs => sM hs rfl fun hs => s3 hs fun hs => s3 hs fun hs => s3 hs fun hs => s3 hs fun hs => sP hs rfl rfl fun hs => ?_
  refine sM hs rfl fun hs => s3 hs fun hs => s3 hs fun hs => s3 hs fun hs => sP hs rfl rfl fun hs => sM hs rfl fun hs => s3 hs fun hs => s3 hs fun hs => s3 hs fun hs => sP hs rfl rfl fun hs => ?_
  refine sA hs rfl fun hs => za1 ?_
  exact hs.sub ⟨(lkB (((zoq hg9).trans rfl)) rfl), trivial⟩
 replace hm := oc_f hg8 hm
 refine zak <| hK2 <| Ws fun hK5 => Ws fun hK6 => ?_
 refine zay (fun a w => St 76 w0 f (.blk b6 (.cells #[.int .i64 (p0.Kind), .string (p0.Name), .string (p0.Text), v1, .int .i64 (p0.Parent), .int .i64 (p0.First), .int .i64 (p0.Last), .int .i64 (p0.Prev), .int .i64 (p0.Next)] 42 (0,0)) :: L) [(1, .pointer (some ⟨b6,0, none⟩)),(51, .bool (((decide (p0.Kind ≠ 1)) || ((decide (p0.Name = (bs []))) || ((decide (p0.Text ≠ (bs []))) || (decide (64 < (p0.Attrs.length : Int))))))))] a w) ?_ ?_
 ·clear hs; intro a w hs
  refine hK6 ?_
  refine zag hs rfl (fun hg13 => ?_) (fun hg13 => ?_)
  ·replace hm := oc_t hg13 hm
   refine Wq fun hK7 => sA hs rfl fun hs => za1 <| hK7 <| zbl ?_
   obtain rfl := Option.some.inj hm
   refine RtV1 hs rfl (rv_t hs rfl) ?_
   exact ⟨rfl,((hs.subL (.cons _ (.refl _))).weak hle).cw⟩
  replace hm := oc_f hg13 hm
  refine zak <| hK5 <| Wq fun hK8 => zp4 hs fun b14 _ _ hs => ?_
  have hS15 : SM (fun x => .int .i64 x) #[] [] := SM.nil
  refine sA hs rfl fun hs => za1 <| hK8 <| Ws fun hK9 => Wq fun hK10 => s1 (v := .pointer (some ⟨b6,3, none⟩)) hs (za3 rfl (FO.of (off := 3) Tryz.underlying42 rfl rfl ti25 (by decide))) fun hs => s1 (v := v1) hs (y_ld rfl Tryz.underlying25 rfl (Cell.blk (.tail _ (.head _)) rfl)) fun hs => s1 hs (ze4 hR3 hW4 rfl Tryz.underlying25) fun hs => sM hs rfl fun hs => ?_
  refine za1 <| hK10 ?_
  refine zay (fun a w => zk0 = some res ∧ St 76 w0 f (L) [] a w) ?_ ?_
  ·clear hs hm
   rintro a w ⟨hm, hs⟩
   unfold zk0 at hm
   refine hK9 <| Wq fun hK11 => sA hs rfl fun hs => za1 <| hK11 <| zbl ?_
   obtain rfl := Option.some.inj hm
   refine RtV1 hs rfl (rv_t hs rfl) ?_
   exact ⟨rfl,(hs.weak hle).cw⟩
  refine zas fun Qe12 hB12 hO12 => zeu (fun (k : Nat) a w => ∃ (y17 : (List (ByteArray × Int))) (y21 : Int) (es18 : Array MapEntry) (c19 : Nat), zci p0 k y17 y21 = some res ∧ SM (fun x => .int .i64 x) es18 y17 ∧ St 76 w0 f (.blk b14 (.map es18 c19) :: L) [(3, .map (some b14)),(54, v1),(55, .int .i64 ((p0.Attrs.length : Int))),(56, .int .i64 (y21))] a w) (fun k => k) n ⟨([] : List (ByteArray × Int)),0, #[],0, hm, hS15, hs.subs ⟨rfl, rfl, rfl, rfl, trivial⟩ (.cons_cons _ (.cons _ (.refl _)))⟩ ?_
  clear hs hm
  intro k
  rintro a w ⟨y17, y21, es18, c19, hm, hS20, hs⟩
  intro K13 hK13
  cases k with
  | zero => simp [zci] at hm
  | succ k22 =>
   rw [zci] at hm
   refine Wq fun hK14 => s1 hs (zhw rfl rfl) fun hs => za1 <| hK14 <| Ws fun hK15 => ?_
   refine zag hs rfl (fun hg23 => ?_) (fun hg23 => ?_)
   ·replace hm := oc_t hg23 hm
    refine zak <| hK15 <| Ws fun hK16 => zas fun Qe17 hB17 hO17 => Ws fun hK18 => za5 ?_
    obtain ⟨x24, hx25, hm⟩ := ob hm
    obtain ⟨r26, hr27, hq28, hi29, hb30⟩ := hW4.geti hx25
    obtain rfl : _ = ([.string (x24.Name), .string (x24.Value)] : List Value) := hq28
    refine s1 hs (zai hR3 rfl rfl hi29 hb30 Tryz.underlying25 ti38) fun hs => s1 hs (zn9 hR3.up rfl hr27 Tryz.underlying38 rfl ti38) fun hs => zd3 hs ti38 (.free rfl) (by decide) fun b31 _ _ hs => zbe (i := 0) hs rfl rfl rfl ti38 ⟨rfl, rfl⟩ (AllC.arr (r := [.string (x24.Name), .string (x24.Value)]) ⟨rfl, rfl, trivial⟩) (.free rfl) fun _ _ hs => za1 <| hK18 <| Ws fun hK19 => Ws fun hK20 => ?_
    refine zay (fun a w => ∃ (y33 : Bool), zh3 y17 y21 (zci p0 k22) x24 y33 = some res ∧ St 76 w0 f (.blk b31 (.cells #[.string (x24.Name), .string (x24.Value)] 38 (0,0)) :: .blk b14 (.map es18 c19) :: L) [(3, .map (some b14)),(5, .pointer (some ⟨b31,0, none⟩)),(54, v1),(55, .int .i64 ((p0.Attrs.length : Int))),(56, .int .i64 (y21)),(69, .bool (y33))] a w) ?_ ?_
    ·clear hs hm
     rintro a w ⟨y33, hm, hs⟩
     unfold zh3 at hm
     refine hK20 ?_
     refine zag hs rfl (fun hg34 => ?_) (fun hg34 => ?_)
     ·replace hm := oc_t hg34 hm
      refine Wq fun hK21 => sA hs rfl fun hs => za1 <| hK21 <| zbl ?_
      obtain rfl := Option.some.inj hm
      refine RtV1 hs rfl (rv_t hs rfl) ?_
      exact ⟨rfl,((hs.subL (.cons _ (.cons _ (.refl _)))).weak hle).cw⟩
     replace hm := oc_f hg34 hm
     refine zak <| hK19 <| za5 <| sM hs rfl fun hs => s1 (v := .pointer (some ⟨b31,0, none⟩)) hs (za3 rfl (FO.of (off := 0) Tryz.underlying38 rfl rfl ti9 (by decide))) fun hs => s1 (v := .string (x24.Name)) hs (y_ld rfl Tryz.underlying9 rfl (Cell.blk (.head _) rfl)) fun hs => sy hs (zqg (enc := (fun x => .int .i64 x)) (z := 0) rfl rfl Tryz.underlying142 Tryz.underlying9 ti3 (.tail _ (.head _)) hS20) fun _ _ hs => s1 hs (zga rfl rfl rfl) fun hs => zqf (enc := (fun x => .int .i64 x)) (u := (w64 (((mgetM y17 x24.Name).getD 0) + 1))) 1 hs rfl rfl rfl rfl Tryz.underlying142 Tryz.underlying9 hS20 fun es35 c36 _ _ hS37 hs => za1 ?_
     refine hK16 <| za5 <| s1 hs (zga rfl rfl rfl) fun hs => sM hs rfl fun hs => za1 ?_
     exact hK13 k22 _ _ (Nat.lt_succ_self _) ⟨(mputM y17 x24.Name (w64 (((mgetM y17 x24.Name).getD 0) + 1))),(w64 (y21 + 1)), es35, c36, hm, hS37, hs.subs ⟨rfl, rfl, rfl, rfl, trivial⟩ (.cons _ (.cons_cons _ (.refl _)))⟩
    refine za5 <| s1 (v := .pointer (some ⟨b31,0, none⟩)) hs (za3 rfl (FO.of (off := 0) Tryz.underlying38 rfl rfl ti9 (by decide))) fun hs => s1 (v := .string (x24.Name)) hs (y_ld rfl Tryz.underlying9 rfl (Cell.blk (.head _) rfl)) fun hs => s1 hs (zfr rfl rfl) fun hs => sM hs rfl fun hs => ?_
    refine St.split hs (t := 63) rfl (fun hg38 hs => ?_) (fun hg38 hs => ?_)
    ·replace hm := oc_t hg38 hm
     refine s3 hs fun hs => s3 hs fun hs => s3 hs fun hs => s3 hs fun hs => s3 hs fun hs => sP hs rfl rfl fun hs => za1 ?_
     exact ⟨true, hm, hs.sub ⟨rfl, rfl, rfl, rfl, rfl, rfl, trivial⟩⟩
    replace hm := oc_f hg38 hm
    refine s2 (v := .map (some b14)) hs (za9 rfl) fun hs => s2 (v := .pointer (some ⟨b31,0, none⟩)) hs (za3 rfl (FO.of (off := 0) Tryz.underlying38 rfl rfl ti9 (by decide))) fun hs => s2 (v := .string (x24.Name)) hs (y_ld rfl Tryz.underlying9 rfl (Cell.blk (.head _) rfl)) fun hs => syg hs (zqg (enc := (fun x => .int .i64 x)) (z := 0) rfl rfl Tryz.underlying142 Tryz.underlying9 ti3 (.tail _ (.head _)) hS20) fun _ _ hs => s2 hs (zm0 rfl rfl) fun hs => sP hs rfl rfl fun hs => za1 ?_
    exact ⟨decide (0 < ((mgetM y17 x24.Name).getD 0)), hm, hs.sub ⟨rfl, rfl, rfl, rfl, rfl, rfl, trivial⟩⟩
   replace hm := oc_f hg23 hm
   refine ze8 <| hB12 _ _ ?_
   exact ⟨hm, hs.subs trivial (.cons _ (.refl _))⟩
 refine za5 <| s1 (v := .pointer (some ⟨b6,0, none⟩)) hs (za3 rfl (FO.of (off := 0) Tryz.underlying42 rfl rfl ti3 (by decide))) fun hs => s1 (v := .int .i64 (p0.Kind)) hs (y_ld rfl Tryz.underlying3 rfl (Cell.blk (.head _) rfl)) fun hs => s1 hs (zje rfl rfl) fun hs => sM hs rfl fun hs => ?_
 refine St.split hs (t := 36) rfl (fun hg39 hs => ?_) (fun hg39 hs => ?_)
 ·refine s3 hs fun hs => s3 hs fun hs => s3 hs fun hs => sP hs rfl rfl fun hs => sM hs rfl fun hs => s3 hs fun hs => s3 hs fun hs => s3 hs fun hs => sP hs rfl rfl fun hs => sM hs rfl fun hs => ?_
  refine s3 hs fun hs => s3 hs fun hs => s3 hs fun hs => s3 hs fun hs => sP hs rfl rfl fun hs => za1 ?_
  exact hs.sub ⟨rfl,(lkB (((or_t hg39).trans rfl)) rfl), trivial⟩
 refine s2 (v := .pointer (some ⟨b6,1, none⟩)) hs (za3 rfl (FO.of (off := 1) Tryz.underlying42 rfl rfl ti9 (by decide))) fun hs => s2 (v := .string (p0.Name)) hs (y_ld rfl Tryz.underlying9 rfl (Cell.blk (.head _) rfl)) fun hs => s2 hs (zfr rfl rfl) fun hs => sP hs rfl rfl fun hs => sM hs rfl fun hs => ?_
 refine St.split hs (t := 41) rfl (fun hg40 hs => ?_) (fun hg40 hs => ?_)
 ·refine s3 hs fun hs => s3 hs fun hs => s3 hs fun hs => sP hs rfl rfl fun hs => sM hs rfl fun hs => s3 hs fun hs => s3 hs fun hs => s3 hs fun hs => s3 hs fun hs => sP hs rfl rfl fun hs => ?_
  refine za1 ?_
  exact hs.sub ⟨rfl,(lkB (((or_f hg39).trans ((or_t hg40).trans rfl))) rfl), trivial⟩
 refine s2 (v := .pointer (some ⟨b6,2, none⟩)) hs (za3 rfl (FO.of (off := 2) Tryz.underlying42 rfl rfl ti9 (by decide))) fun hs => s2 (v := .string (p0.Text)) hs (y_ld rfl Tryz.underlying9 rfl (Cell.blk (.head _) rfl)) fun hs => s2 hs (zn8 rfl rfl) fun hs => sP hs rfl rfl fun hs => sM hs rfl fun hs => ?_
 refine St.split hs (t := 46) rfl (fun hg41 hs => ?_) (fun hg41 hs => ?_)
 ·refine s3 hs fun hs => s3 hs fun hs => s3 hs fun hs => s3 hs fun hs => sP hs rfl rfl fun hs => za1 ?_
  exact hs.sub ⟨rfl,(lkB (((or_f hg39).trans ((or_f hg40).trans ((or_t hg41).trans rfl)))) rfl), trivial⟩
 refine s2 (v := .pointer (some ⟨b6,3, none⟩)) hs (za3 rfl (FO.of (off := 3) Tryz.underlying42 rfl rfl ti25 (by decide))) fun hs => s2 (v := v1) hs (y_ld rfl Tryz.underlying25 rfl (Cell.blk (.head _) rfl)) fun hs => s2 hs (ze4 hR3 hW4 rfl Tryz.underlying25) fun hs => s2 hs (zm0 rfl rfl) fun hs => sP hs rfl rfl fun hs => za1 ?_
 exact hs.sub ⟨rfl,(lkB (((or_f hg39).trans ((or_f hg40).trans ((or_f hg41).trans rfl)))) rfl), trivial⟩
end Go.Proofs.YtdjjeahiomackaaGreat
