/-
  Walks and laws of this seat.
-/
import Derived.Test.YteicdfkmpnmkmaaGreatNa
import Derived.Test.YteicdfkmpnmkmaaGreatBash
import Derived.Test.YteicdfkmpnmkmaaGreatVO
import Derived.Test.YteicdfkmpnmkmaaGreatM1
import Derived.Test.YteicdfkmpnmkmaaGreatRows
namespace Go.Proofs.YteicdfkmpnmkmaaGreat
set_option linter.unusedVariables false
set_option linter.unusedSimpArgs false
set_option linter.unusedSectionVars false
open Go.RowKit Go.Sl Go.V
set_option maxRecDepth 20000
section
variable [F0]
theorem attR {f : Fz} {r : List Value} {x : AttT} (h : cAttT.R f r x) : r = [.string x.1, .string x.2.1] := by
  obtain ⟨_, _, rfl, rfl, _, _, rfl, rfl, rfl⟩ := h
  rfl
theorem nodR {f : Fz} {r : List Value} {x : NodT} (h : cNodT.R f r x) : ∃ v rows, r = [.int .i64 x.1, .string x.2.1, .string x.2.2.1, v, .int .i64 x.2.2.2.2.1, .int .i64 x.2.2.2.2.2.1, .int .i64 x.2.2.2.2.2.2.1, .int .i64 x.2.2.2.2.2.2.2.1, .int .i64 x.2.2.2.2.2.2.2.2.1] ∧ Rd f [] v 2 rows ∧ RW cAttT.ty f rows x.2.2.2.1 := by
  obtain ⟨_, _, rfl, rfl, _, _, rfl, rfl, _, _, rfl, rfl, _, _, rfl, ⟨v, rfl, rows, h1, h2⟩, _, _, rfl, rfl, _, _, rfl, rfl, _, _, rfl, rfl, _, _, rfl, rfl, _, _, rfl, rfl, rfl⟩ := h
  exact ⟨v, rows, rfl, h1.1, zc9.1 h2⟩
def zm2 : Option Bool :=
  some true
def zhv (y17 : (List (ByteArray × Int))) (y21 : Int) (lp22 : (List (ByteArray × Int)) → Int → Option Bool) (x24 : AttT) (y33 : Bool) : Option Bool :=
  (bif y33 then some false else
  lp22 (mputM y17 x24.1 (w64 (((mgetM y17 x24.1).getD 0) + 1))) (w64 (y21 + 1)))
def zbm (p0 : NodT) : Nat → (List (ByteArray × Int)) → Int → Option Bool
  | 0, _, _ => none
  | k22 + 1, y17, y21 =>
  (bif (decide (y21 < (p0.2.2.2.1.length : Int))) then (geti p0.2.2.2.1 y21).bind fun x24 =>
  (bif (decide (x24.1 = (bs []))) then zhv y17 y21 (zbm p0 k22) x24 true else
  zhv y17 y21 (zbm p0 k22) x24 (decide (0 < ((mgetM y17 x24.1).getD 0)))) else
  zm2)
def dom_alone (n : Nat) (p0 : NodT) : Option Bool :=
  (bif (decide (p0.1 = 2)) then some ((decide (p0.2.1 = (bs []))) && ((decide (p0.2.2.1 ≠ (bs []))) && ((decide ((p0.2.2.2.1.length : Int) = 0)) && ((decide (p0.2.2.2.2.2.1 = (-1))) && (decide (p0.2.2.2.2.2.2.1 = (-1))))))) else
  (bif ((decide (p0.1 ≠ 1)) || ((decide (p0.2.1 = (bs []))) || ((decide (p0.2.2.1 ≠ (bs []))) || (decide (64 < (p0.2.2.2.1.length : Int)))))) then some false else
  zbm p0 n ([] : List (ByteArray × Int)) 0))
theorem dom_alone_ok (n : Nat) {f : Fz} {p0 : NodT} {a0 : List Value} {res : Bool} (h0 : cNodT.R f a0 p0) (hm : dom_alone n p0 = some res) : Gives Tryz.prog 100 [.agg a0.toArray] f (.bool res) := by
 unfold dom_alone at hm
 intro w0 L w hC
 obtain ⟨v1, rw2, rfl, hR3, hW4⟩ := nodR h0
 refine enter Tryz.func100 rfl Tryz.ntmps100 (by simp) hC fun a hs => ?_
 have hle := Fz.le.refl f
 refine zbc fun K1 hK1 => ?_
 refine zad ?_
 refine sbox hs rfl fun b6 a w hs => ?_
 replace hs : St _ _ _ (.blk b6 (.cells #[.int .i64 (p0.1), .string (p0.2.1), .string (p0.2.2.1), v1, .int .i64 (p0.2.2.2.2.1), .int .i64 (p0.2.2.2.2.2.1), .int .i64 (p0.2.2.2.2.2.2.1), .int .i64 (p0.2.2.2.2.2.2.2.1), .int .i64 (p0.2.2.2.2.2.2.2.2.1)] 57 (0,0)) :: L) _ _ _ := hs
 refine sy (v := .bool (false)) hs (zas rfl) fun a w hs => ?_
 refine zah ?_
 refine hK1 _ _ ?_; clear hK1
 refine zbc fun K2 hK2 => ?_
 refine zbc fun K3 hK3 => ?_
 refine zad ?_
 refine sy (v := .pointer (some ⟨b6,0, none⟩)) hs (zau rfl (FO.of (off := 0) Tryz.underlying57 rfl rfl ti3 (by decide))) fun a w hs => ?_
 refine sy (v := .int .i64 (p0.1)) hs (y_ld rfl Tryz.underlying3 rfl (Cell.blk (.head _) rfl)) fun a w hs => ?_
 refine sy hs (ye4 rfl rfl) fun a w hs => ?_
 refine zah ?_
 refine hK3 _ _ ?_; clear hK3
 refine zm3 hs rfl (fun hg8 => ?_) (fun hg8 => ?_)
 ·replace hm := oc_t hg8 hm
  refine zbc fun K4 hK4 => ?_
  refine ydl (fun a w => St 76 w0 f (.blk b6 (.cells #[.int .i64 (p0.1), .string (p0.2.1), .string (p0.2.2.1), v1, .int .i64 (p0.2.2.2.2.1), .int .i64 (p0.2.2.2.2.2.1), .int .i64 (p0.2.2.2.2.2.2.1), .int .i64 (p0.2.2.2.2.2.2.2.1), .int .i64 (p0.2.2.2.2.2.2.2.2.1)] 57 (0,0)) :: L) [(2, .bool (((decide (p0.2.1 = (bs []))) && ((decide (p0.2.2.1 ≠ (bs []))) && ((decide ((p0.2.2.2.1.length : Int) = 0)) && ((decide (p0.2.2.2.2.2.1 = (-1))) && (decide (p0.2.2.2.2.2.2.1 = (-1)))))))))] a w) ?_ ?_
  ·clear hs; intro a w hs
   refine hK4 _ _ ?_; clear hK4
   refine zrv ?_
   obtain rfl := Option.some.inj hm
   refine RtV1 hs rfl (rv_t hs rfl) ?_
   exact ⟨rfl,((hs.subL (.cons _ (.refl _))).weak hle).cw⟩
  ·refine zad ?_
   refine sy (v := .pointer (some ⟨b6,1, none⟩)) hs (zau rfl (FO.of (off := 1) Tryz.underlying57 rfl rfl ti9 (by decide))) fun a w hs => ?_
   refine sy (v := .string (p0.2.1)) hs (y_ld rfl Tryz.underlying9 rfl (Cell.blk (.head _) rfl)) fun a w hs => ?_
   refine sy hs (yck rfl rfl) fun a w hs => ?_
   refine sy (v := .bool (decide (p0.2.1 = (bs [])))) hs (zat rfl) fun a w hs => ?_
   refine St.split hs (t := 12) rfl (fun hg9 hq => ?_) (fun hg9 hq => ?_)
   ·clear hs; have hs := hq; clear hq
    refine syg (v := .pointer (some ⟨b6,2, none⟩)) hs (zau rfl (FO.of (off := 2) Tryz.underlying57 rfl rfl ti9 (by decide))) fun a w hs => ?_
    refine syg (v := .string (p0.2.2.1)) hs (y_ld rfl Tryz.underlying9 rfl (Cell.blk (.head _) rfl)) fun a w hs => ?_
    refine syg hs (yev rfl rfl) fun a w hs => ?_
    refine sy (v := .bool (decide (p0.2.2.1 ≠ (bs [])))) hs (zcq rfl rfl) fun a w hs => ?_
    refine sy (v := .bool (decide (p0.2.2.1 ≠ (bs [])))) hs (zat rfl) fun a w hs => ?_
    refine St.split hs (t := 17) rfl (fun hg10 hq => ?_) (fun hg10 hq => ?_)
    ·clear hs; have hs := hq; clear hq
     refine syg (v := .pointer (some ⟨b6,3, none⟩)) hs (zau rfl (FO.of (off := 3) Tryz.underlying57 rfl rfl ti55 (by decide))) fun a w hs => ?_
     refine syg (v := v1) hs (y_ld rfl Tryz.underlying55 rfl (Cell.blk (.head _) rfl)) fun a w hs => ?_
     refine syg hs (yf0 hR3 hW4 rfl Tryz.underlying55) fun a w hs => ?_
     refine syg hs (ye4 rfl rfl) fun a w hs => ?_
     refine sy (v := .bool (decide ((p0.2.2.2.1.length : Int) = 0))) hs (zcq rfl rfl) fun a w hs => ?_
     refine sy (v := .bool (decide ((p0.2.2.2.1.length : Int) = 0))) hs (zat rfl) fun a w hs => ?_
     refine St.split hs (t := 23) rfl (fun hg11 hq => ?_) (fun hg11 hq => ?_)
     ·clear hs; have hs := hq; clear hq
      refine syg (v := .pointer (some ⟨b6,5, none⟩)) hs (zau rfl (FO.of (off := 5) Tryz.underlying57 rfl rfl ti3 (by decide))) fun a w hs => ?_
      refine syg (v := .int .i64 (p0.2.2.2.2.2.1)) hs (y_ld rfl Tryz.underlying3 rfl (Cell.blk (.head _) rfl)) fun a w hs => ?_
      refine syg hs (ye4 rfl rfl) fun a w hs => ?_
      refine sy (v := .bool (decide (p0.2.2.2.2.2.1 = (-1)))) hs (zcq rfl rfl) fun a w hs => ?_
      refine sy (v := .bool (decide (p0.2.2.2.2.2.1 = (-1)))) hs (zat rfl) fun a w hs => ?_
      refine St.split hs (t := 28) rfl (fun hg12 hq => ?_) (fun hg12 hq => ?_)
      ·clear hs; have hs := hq; clear hq
       refine syg (v := .pointer (some ⟨b6,6, none⟩)) hs (zau rfl (FO.of (off := 6) Tryz.underlying57 rfl rfl ti3 (by decide))) fun a w hs => ?_
       refine syg (v := .int .i64 (p0.2.2.2.2.2.2.1)) hs (y_ld rfl Tryz.underlying3 rfl (Cell.blk (.head _) rfl)) fun a w hs => ?_
       refine syg hs (ye4 rfl rfl) fun a w hs => ?_
       refine sy (v := .bool (decide (p0.2.2.2.2.2.2.1 = (-1)))) hs (zcq rfl rfl) fun a w hs => ?_
       refine sy (v := .bool (decide (p0.2.2.2.2.2.2.1 = (-1)))) hs (zas rfl) fun a w hs => ?_
       refine zah ?_
       exact hs.sub ⟨(lkB (((zx8 hg9).trans ((zx8 hg10).trans ((zx8 hg11).trans ((zx8 hg12).trans rfl))))) rfl), trivial⟩
      ·clear hs; have hs := hq; clear hq
       refine sno hs fun a w hs => ?_
       refine sno hs fun a w hs => ?_
       refine sno hs fun a w hs => ?_
       refine sy (v := .bool (false)) hs (zcq rfl rfl) fun a w hs => ?_
       refine sy (v := .bool (false)) hs (zas rfl) fun a w hs => ?_
       refine zah ?_
       exact hs.sub ⟨(lkB (((zx8 hg9).trans ((zx8 hg10).trans ((zx8 hg11).trans ((and_f hg12).trans rfl))))) rfl), trivial⟩
     ·clear hs; have hs := hq; clear hq
      refine sno hs fun a w hs => ?_
      refine sno hs fun a w hs => ?_
      refine sno hs fun a w hs => ?_
      refine sy (v := .bool (false)) hs (zcq rfl rfl) fun a w hs => ?_
      refine sy (v := .bool (false)) hs (zat rfl) fun a w hs => ?_
      refine sno hs fun a w hs => ?_
      refine sno hs fun a w hs => ?_
      refine sno hs fun a w hs => ?_
      refine sy (v := .bool (false)) hs (zcq rfl rfl) fun a w hs => ?_
      refine sy (v := .bool (false)) hs (zas rfl) fun a w hs => ?_
      refine zah ?_
      exact hs.sub ⟨(lkB (((zx8 hg9).trans ((zx8 hg10).trans ((and_f hg11).trans rfl)))) rfl), trivial⟩
    ·clear hs; have hs := hq; clear hq
     refine sno hs fun a w hs => ?_
     refine sno hs fun a w hs => ?_
     refine sno hs fun a w hs => ?_
     refine sno hs fun a w hs => ?_
     refine sy (v := .bool (false)) hs (zcq rfl rfl) fun a w hs => ?_
     refine sy (v := .bool (false)) hs (zat rfl) fun a w hs => ?_
     refine sno hs fun a w hs => ?_
     refine sno hs fun a w hs => ?_
     refine sno hs fun a w hs => ?_
     refine sy (v := .bool (false)) hs (zcq rfl rfl) fun a w hs => ?_
     refine sy (v := .bool (false)) hs (zat rfl) fun a w hs => ?_
     refine sno hs fun a w hs => ?_
     refine sno hs fun a w hs => ?_
     refine sno hs fun a w hs => ?_
     refine sy (v := .bool (false)) hs (zcq rfl rfl) fun a w hs => ?_
     refine sy (v := .bool (false)) hs (zas rfl) fun a w hs => ?_
     refine zah ?_
     exact hs.sub ⟨(lkB (((zx8 hg9).trans ((and_f hg10).trans rfl))) rfl), trivial⟩
   ·clear hs; have hs := hq; clear hq
    refine sno hs fun a w hs => ?_
    refine sno hs fun a w hs => ?_
    refine sno hs fun a w hs => ?_
    refine sy (v := .bool (false)) hs (zcq rfl rfl) fun a w hs => ?_
    refine sy (v := .bool (false)) hs (zat rfl) fun a w hs => ?_
    refine sno hs fun a w hs => ?_
    refine sno hs fun a w hs => ?_
    refine sno hs fun a w hs => ?_
    refine sno hs fun a w hs => ?_
    refine sy (v := .bool (false)) hs (zcq rfl rfl) fun a w hs => ?_
    refine sy (v := .bool (false)) hs (zat rfl) fun a w hs => ?_
    refine sno hs fun a w hs => ?_
    refine sno hs fun a w hs => ?_
    refine sno hs fun a w hs => ?_
    refine sy (v := .bool (false)) hs (zcq rfl rfl) fun a w hs => ?_
    refine sy (v := .bool (false)) hs (zat rfl) fun a w hs => ?_
    refine sno hs fun a w hs => ?_
    refine sno hs fun a w hs => ?_
    refine sno hs fun a w hs => ?_
    refine sy (v := .bool (false)) hs (zcq rfl rfl) fun a w hs => ?_
    refine sy (v := .bool (false)) hs (zas rfl) fun a w hs => ?_
    refine zah ?_
    exact hs.sub ⟨(lkB (((and_f hg9).trans rfl)) rfl), trivial⟩
 ·replace hm := oc_f hg8 hm
  refine zo3 ?_
  refine hK2 _ _ ?_; clear hK2
  refine zbc fun K5 hK5 => ?_
  refine zbc fun K6 hK6 => ?_
  refine ydl (fun a w => St 76 w0 f (.blk b6 (.cells #[.int .i64 (p0.1), .string (p0.2.1), .string (p0.2.2.1), v1, .int .i64 (p0.2.2.2.2.1), .int .i64 (p0.2.2.2.2.2.1), .int .i64 (p0.2.2.2.2.2.2.1), .int .i64 (p0.2.2.2.2.2.2.2.1), .int .i64 (p0.2.2.2.2.2.2.2.2.1)] 57 (0,0)) :: L) [(1, .pointer (some ⟨b6,0, none⟩)),(51, .bool (((decide (p0.1 ≠ 1)) || ((decide (p0.2.1 = (bs []))) || ((decide (p0.2.2.1 ≠ (bs []))) || (decide (64 < (p0.2.2.2.1.length : Int))))))))] a w) ?_ ?_
  ·clear hs; intro a w hs
   refine hK6 _ _ ?_; clear hK6
   refine zm3 hs rfl (fun hg13 => ?_) (fun hg13 => ?_)
   ·replace hm := oc_t hg13 hm
    refine zbc fun K7 hK7 => ?_
    refine zad ?_
    refine sy (v := .bool (false)) hs (zas rfl) fun a w hs => ?_
    refine zah ?_
    refine hK7 _ _ ?_; clear hK7
    refine zrv ?_
    obtain rfl := Option.some.inj hm
    refine RtV1 hs rfl (rv_t hs rfl) ?_
    exact ⟨rfl,((hs.subL (.cons _ (.refl _))).weak hle).cw⟩
   ·replace hm := oc_f hg13 hm
    refine zo3 ?_
    refine hK5 _ _ ?_; clear hK5
    refine zbc fun K8 hK8 => ?_
    refine zad ?_
    refine yer hs fun b14 a w hs => ?_
    have hS15 : SM (fun x => .int .i64 x) #[] [] := SM.nil
    replace hs : St _ _ _ (.blk b14 (.map #[] 0) :: .blk b6 (.cells #[.int .i64 (p0.1), .string (p0.2.1), .string (p0.2.2.1), v1, .int .i64 (p0.2.2.2.2.1), .int .i64 (p0.2.2.2.2.2.1), .int .i64 (p0.2.2.2.2.2.2.1), .int .i64 (p0.2.2.2.2.2.2.2.1), .int .i64 (p0.2.2.2.2.2.2.2.2.1)] 57 (0,0)) :: L) _ _ _ := hs
    refine sy (v := .map (some b14)) hs (zas rfl) fun a w hs => ?_
    refine zah ?_
    refine hK8 _ _ ?_; clear hK8
    refine zbc fun K9 hK9 => ?_
    refine zbc fun K10 hK10 => ?_
    refine zad ?_
    refine sy (v := .pointer (some ⟨b6,3, none⟩)) hs (zau rfl (FO.of (off := 3) Tryz.underlying57 rfl rfl ti55 (by decide))) fun a w hs => ?_
    refine sy (v := v1) hs (y_ld rfl Tryz.underlying55 rfl (Cell.blk (.tail _ (.head _)) rfl)) fun a w hs => ?_
    refine sy hs (yf0 hR3 hW4 rfl Tryz.underlying55) fun a w hs => ?_
    refine sy (v := .int .i64 (0)) hs (zat rfl) fun a w hs => ?_
    refine zah ?_
    refine hK10 _ _ ?_; clear hK10
    refine ydl (fun a w => zm2 = some res ∧ St 76 w0 f (L) [] a w) ?_ ?_
    ·clear hs hm
     rintro a w ⟨hm, hs⟩
     replace hs : St _ _ _ (L) _ _ _ := hs
     unfold zm2 at hm
     refine hK9 _ _ ?_; clear hK9
     refine zbc fun K11 hK11 => ?_
     refine zad ?_
     refine sy (v := .bool (true)) hs (zas rfl) fun a w hs => ?_
     refine zah ?_
     refine hK11 _ _ ?_; clear hK11
     refine zrv ?_
     obtain rfl := Option.some.inj hm
     refine RtV1 hs rfl (rv_t hs rfl) ?_
     exact ⟨rfl,(hs.weak hle).cw⟩
    ·refine znp fun Qe12 hB12 hO12 => ?_
     refine ydm (fun (k : Nat) a w => ∃ (y17 : (List (ByteArray × Int))) (y21 : Int) (es18 : Array MapEntry) (c19 : Nat), zbm p0 k y17 y21 = some res ∧ SM (fun x => .int .i64 x) es18 y17 ∧ St 76 w0 f (.blk b14 (.map es18 c19) :: L) [(3, .map (some b14)),(54, v1),(55, .int .i64 ((p0.2.2.2.1.length : Int))),(56, .int .i64 (y21))] a w) (fun k => k) n ⟨([] : List (ByteArray × Int)),0, #[],0, hm, hS15, hs.subs ⟨rfl, rfl, rfl, rfl, trivial⟩ (.cons_cons _ (.cons _ (.refl _)))⟩ ?_
     clear hs hm
     intro k
     rintro a w ⟨y17, y21, es18, c19, hm, hS20, hs⟩
     replace hs : St _ _ _ (.blk b14 (.map es18 c19) :: L) _ _ _ := hs
     intro K13 hK13
     cases k with
     | zero => simp [zbm] at hm
     | succ k22 =>
      rw [zbm] at hm
      refine zbc fun K14 hK14 => ?_
      refine zad ?_
      refine sy hs (yex rfl rfl) fun a w hs => ?_
      refine zah ?_
      refine hK14 _ _ ?_; clear hK14
      refine zbc fun K15 hK15 => ?_
      refine zm3 hs rfl (fun hg23 => ?_) (fun hg23 => ?_)
      ·replace hm := oc_t hg23 hm
       refine zo3 ?_
       refine hK15 _ _ ?_; clear hK15
       refine zbc fun K16 hK16 => ?_
       refine znp fun Qe17 hB17 hO17 => ?_
       refine zbc fun K18 hK18 => ?_
       refine zad ?_
       obtain ⟨x24, hx25, hm⟩ := ob hm
       obtain ⟨r26, hr27, hq28, hi29, hb30⟩ := hW4.geti hx25
       obtain rfl := attR hq28
       refine sy hs (zds hR3 rfl rfl hi29 hb30 Tryz.underlying55 ti85) fun a w hs => ?_
       refine sy hs (zzt hR3.up rfl hr27 Tryz.underlying85 rfl ti85) fun a w hs => ?_
       refine zgk hs ti85 (.free rfl) (by decide) fun b31 a w hs => ?_
       replace hs : St _ _ _ (.blk b31 (.cells #[.string ((bs [])), .string ((bs []))] 85 (0,0)) :: .blk b14 (.map es18 c19) :: L) _ _ _ := hs
       refine zca (i := 0) hs rfl rfl rfl ti85 ⟨rfl, rfl⟩ (AllC.arr (r := [.string (x24.1), .string (x24.2.1)]) ⟨rfl, rfl, trivial⟩) (.free rfl) fun a w hs => ?_
       replace hs : St _ _ _ (.blk b31 (.cells #[.string (x24.1), .string (x24.2.1)] 85 (0,0)) :: .blk b14 (.map es18 c19) :: L) _ _ _ := hs
       refine zah ?_
       refine hK18 _ _ ?_; clear hK18
       refine zbc fun K19 hK19 => ?_
       refine zbc fun K20 hK20 => ?_
       refine ydl (fun a w => ∃ (y33 : Bool), zhv y17 y21 (zbm p0 k22) x24 y33 = some res ∧ St 76 w0 f (.blk b31 (.cells #[.string (x24.1), .string (x24.2.1)] 85 (0,0)) :: .blk b14 (.map es18 c19) :: L) [(3, .map (some b14)),(5, .pointer (some ⟨b31,0, none⟩)),(54, v1),(55, .int .i64 ((p0.2.2.2.1.length : Int))),(56, .int .i64 (y21)),(69, .bool (y33))] a w) ?_ ?_
       ·clear hs hm
        rintro a w ⟨y33, hm, hs⟩
        replace hs : St _ _ _ (.blk b31 (.cells #[.string (x24.1), .string (x24.2.1)] 85 (0,0)) :: .blk b14 (.map es18 c19) :: L) _ _ _ := hs
        unfold zhv at hm
        refine hK20 _ _ ?_; clear hK20
        refine zm3 hs rfl (fun hg34 => ?_) (fun hg34 => ?_)
        ·replace hm := oc_t hg34 hm
         refine zbc fun K21 hK21 => ?_
         refine zad ?_
         refine sy (v := .bool (false)) hs (zas rfl) fun a w hs => ?_
         refine zah ?_
         refine hK21 _ _ ?_; clear hK21
         refine zrv ?_
         obtain rfl := Option.some.inj hm
         refine RtV1 hs rfl (rv_t hs rfl) ?_
         exact ⟨rfl,((hs.subL (.cons _ (.cons _ (.refl _)))).weak hle).cw⟩
        ·replace hm := oc_f hg34 hm
         refine zo3 ?_
         refine hK19 _ _ ?_; clear hK19
         refine zad ?_
         refine sy (v := .map (some b14)) hs (zat rfl) fun a w hs => ?_
         refine sy (v := .pointer (some ⟨b31,0, none⟩)) hs (zau rfl (FO.of (off := 0) Tryz.underlying85 rfl rfl ti9 (by decide))) fun a w hs => ?_
         refine sy (v := .string (x24.1)) hs (y_ld rfl Tryz.underlying9 rfl (Cell.blk (.head _) rfl)) fun a w hs => ?_
         refine sy hs (zzs (enc := (fun x => .int .i64 x)) (z := 0) rfl rfl Tryz.underlying195 Tryz.underlying9 ti3 (.tail _ (.head _)) hS20) fun a w hs => ?_
         refine sy hs (zzx rfl rfl rfl) fun a w hs => ?_
         refine zzp (enc := (fun x => .int .i64 x)) (u := (w64 (((mgetM y17 x24.1).getD 0) + 1))) 1 hs rfl rfl rfl rfl Tryz.underlying195 Tryz.underlying9 hS20 fun es35 c36 a w hS37 hs => ?_
         replace hs : St _ _ _ (.blk b31 (.cells #[.string (x24.1), .string (x24.2.1)] 85 (0,0)) :: .blk b14 (.map es35 c36) :: L) _ _ _ := hs
         refine zah ?_
         refine hK16 _ _ ?_; clear hK16
         refine zad ?_
         refine sy hs (zzx rfl rfl rfl) fun a w hs => ?_
         refine sy (v := .int .i64 ((w64 (y21 + 1)))) hs (zat rfl) fun a w hs => ?_
         refine zah ?_
         exact hK13 k22 _ _ (Nat.lt_succ_self _) ⟨(mputM y17 x24.1 (w64 (((mgetM y17 x24.1).getD 0) + 1))),(w64 (y21 + 1)), es35, c36, hm, hS37, hs.subs ⟨rfl, rfl, rfl, rfl, trivial⟩ (.cons _ (.cons_cons _ (.refl _)))⟩
       ·refine zad ?_
        refine sy (v := .pointer (some ⟨b31,0, none⟩)) hs (zau rfl (FO.of (off := 0) Tryz.underlying85 rfl rfl ti9 (by decide))) fun a w hs => ?_
        refine sy (v := .string (x24.1)) hs (y_ld rfl Tryz.underlying9 rfl (Cell.blk (.head _) rfl)) fun a w hs => ?_
        refine sy hs (yck rfl rfl) fun a w hs => ?_
        refine sy (v := .bool (decide (x24.1 = (bs [])))) hs (zat rfl) fun a w hs => ?_
        refine St.split hs (t := 63) rfl (fun hg38 hq => ?_) (fun hg38 hq => ?_)
        ·clear hs; have hs := hq; clear hq
         replace hm := oc_t hg38 hm
         refine sno hs fun a w hs => ?_
         refine sno hs fun a w hs => ?_
         refine sno hs fun a w hs => ?_
         refine sno hs fun a w hs => ?_
         refine sno hs fun a w hs => ?_
         refine sy (v := .bool (true)) hs (zcq rfl rfl) fun a w hs => ?_
         refine zah ?_
         exact ⟨true, hm, hs.sub ⟨rfl, rfl, rfl, rfl, rfl, rfl, trivial⟩⟩
        ·clear hs; have hs := hq; clear hq
         replace hm := oc_f hg38 hm
         refine syg (v := .map (some b14)) hs (zat rfl) fun a w hs => ?_
         refine syg (v := .pointer (some ⟨b31,0, none⟩)) hs (zau rfl (FO.of (off := 0) Tryz.underlying85 rfl rfl ti9 (by decide))) fun a w hs => ?_
         refine syg (v := .string (x24.1)) hs (y_ld rfl Tryz.underlying9 rfl (Cell.blk (.head _) rfl)) fun a w hs => ?_
         refine syg hs (zzs (enc := (fun x => .int .i64 x)) (z := 0) rfl rfl Tryz.underlying195 Tryz.underlying9 ti3 (.tail _ (.head _)) hS20) fun a w hs => ?_
         refine syg hs (y_gtr rfl rfl) fun a w hs => ?_
         refine sy (v := .bool (decide (0 < ((mgetM y17 x24.1).getD 0)))) hs (zcq rfl rfl) fun a w hs => ?_
         refine zah ?_
         exact ⟨decide (0 < ((mgetM y17 x24.1).getD 0)), hm, hs.sub ⟨rfl, rfl, rfl, rfl, rfl, rfl, trivial⟩⟩
      ·replace hm := oc_f hg23 hm
       refine ybb ?_
       refine hB12 _ _ ?_
       exact ⟨hm, hs.subs trivial (.cons _ (.refl _))⟩
  ·refine zad ?_
   refine sy (v := .pointer (some ⟨b6,0, none⟩)) hs (zau rfl (FO.of (off := 0) Tryz.underlying57 rfl rfl ti3 (by decide))) fun a w hs => ?_
   refine sy (v := .int .i64 (p0.1)) hs (y_ld rfl Tryz.underlying3 rfl (Cell.blk (.head _) rfl)) fun a w hs => ?_
   refine sy hs (y_neq rfl rfl) fun a w hs => ?_
   refine sy (v := .bool (decide (p0.1 ≠ 1))) hs (zat rfl) fun a w hs => ?_
   refine St.split hs (t := 36) rfl (fun hg39 hq => ?_) (fun hg39 hq => ?_)
   ·clear hs; have hs := hq; clear hq
    refine sno hs fun a w hs => ?_
    refine sno hs fun a w hs => ?_
    refine sno hs fun a w hs => ?_
    refine sy (v := .bool (true)) hs (zcq rfl rfl) fun a w hs => ?_
    refine sy (v := .bool (true)) hs (zat rfl) fun a w hs => ?_
    refine sno hs fun a w hs => ?_
    refine sno hs fun a w hs => ?_
    refine sno hs fun a w hs => ?_
    refine sy (v := .bool (true)) hs (zcq rfl rfl) fun a w hs => ?_
    refine sy (v := .bool (true)) hs (zat rfl) fun a w hs => ?_
    refine sno hs fun a w hs => ?_
    refine sno hs fun a w hs => ?_
    refine sno hs fun a w hs => ?_
    refine sno hs fun a w hs => ?_
    refine sy (v := .bool (true)) hs (zcq rfl rfl) fun a w hs => ?_
    refine zah ?_
    exact hs.sub ⟨rfl,(lkB (((or_t hg39).trans rfl)) rfl), trivial⟩
   ·clear hs; have hs := hq; clear hq
    refine syg (v := .pointer (some ⟨b6,1, none⟩)) hs (zau rfl (FO.of (off := 1) Tryz.underlying57 rfl rfl ti9 (by decide))) fun a w hs => ?_
    refine syg (v := .string (p0.2.1)) hs (y_ld rfl Tryz.underlying9 rfl (Cell.blk (.head _) rfl)) fun a w hs => ?_
    refine syg hs (yck rfl rfl) fun a w hs => ?_
    refine sy (v := .bool (decide (p0.2.1 = (bs [])))) hs (zcq rfl rfl) fun a w hs => ?_
    refine sy (v := .bool (decide (p0.2.1 = (bs [])))) hs (zat rfl) fun a w hs => ?_
    refine St.split hs (t := 41) rfl (fun hg40 hq => ?_) (fun hg40 hq => ?_)
    ·clear hs; have hs := hq; clear hq
     refine sno hs fun a w hs => ?_
     refine sno hs fun a w hs => ?_
     refine sno hs fun a w hs => ?_
     refine sy (v := .bool (true)) hs (zcq rfl rfl) fun a w hs => ?_
     refine sy (v := .bool (true)) hs (zat rfl) fun a w hs => ?_
     refine sno hs fun a w hs => ?_
     refine sno hs fun a w hs => ?_
     refine sno hs fun a w hs => ?_
     refine sno hs fun a w hs => ?_
     refine sy (v := .bool (true)) hs (zcq rfl rfl) fun a w hs => ?_
     refine zah ?_
     exact hs.sub ⟨rfl,(lkB (((or_f hg39).trans ((or_t hg40).trans rfl))) rfl), trivial⟩
    ·clear hs; have hs := hq; clear hq
     refine syg (v := .pointer (some ⟨b6,2, none⟩)) hs (zau rfl (FO.of (off := 2) Tryz.underlying57 rfl rfl ti9 (by decide))) fun a w hs => ?_
     refine syg (v := .string (p0.2.2.1)) hs (y_ld rfl Tryz.underlying9 rfl (Cell.blk (.head _) rfl)) fun a w hs => ?_
     refine syg hs (yev rfl rfl) fun a w hs => ?_
     refine sy (v := .bool (decide (p0.2.2.1 ≠ (bs [])))) hs (zcq rfl rfl) fun a w hs => ?_
     refine sy (v := .bool (decide (p0.2.2.1 ≠ (bs [])))) hs (zat rfl) fun a w hs => ?_
     refine St.split hs (t := 46) rfl (fun hg41 hq => ?_) (fun hg41 hq => ?_)
     ·clear hs; have hs := hq; clear hq
      refine sno hs fun a w hs => ?_
      refine sno hs fun a w hs => ?_
      refine sno hs fun a w hs => ?_
      refine sno hs fun a w hs => ?_
      refine sy (v := .bool (true)) hs (zcq rfl rfl) fun a w hs => ?_
      refine zah ?_
      exact hs.sub ⟨rfl,(lkB (((or_f hg39).trans ((or_f hg40).trans ((or_t hg41).trans rfl)))) rfl), trivial⟩
     ·clear hs; have hs := hq; clear hq
      refine syg (v := .pointer (some ⟨b6,3, none⟩)) hs (zau rfl (FO.of (off := 3) Tryz.underlying57 rfl rfl ti55 (by decide))) fun a w hs => ?_
      refine syg (v := v1) hs (y_ld rfl Tryz.underlying55 rfl (Cell.blk (.head _) rfl)) fun a w hs => ?_
      refine syg hs (yf0 hR3 hW4 rfl Tryz.underlying55) fun a w hs => ?_
      refine syg hs (y_gtr rfl rfl) fun a w hs => ?_
      refine sy (v := .bool (decide (64 < (p0.2.2.2.1.length : Int)))) hs (zcq rfl rfl) fun a w hs => ?_
      refine zah ?_
      exact hs.sub ⟨rfl,(lkB (((or_f hg39).trans ((or_f hg40).trans ((or_f hg41).trans rfl)))) rfl), trivial⟩
end
end Go.Proofs.YteicdfkmpnmkmaaGreat
namespace Go.V
set_option linter.unusedVariables false
set_option linter.unusedSimpArgs false
set_option linter.unusedSectionVars false
open Go.RowKit Go.Sl Go.Proofs
theorem con_d1 [F0] {P : Go.Program} {g : Nat} {c c' : TC} {m : c.T → Option c'.T} (hh : Has P g) (val : c'.T → Go.Value) (hv : ∀ f y, VR f (fun _ => none) (c'.v y) (val y)) (h : ∀ (x : c.T) (y : c'.T), m x = some y → ∀ (f : Fz) (v : Go.Value), VR f (fun _ => none) (c.v x) v → Gives P g [v] f (val y)) : ConOk P g ⟨[.d c],[.d c'], m⟩ := by
  refine ⟨hh, fun x y hm f vs es hf0 hM => ?_⟩
  obtain ⟨v, rfl, hx, rfl⟩ := hM
  exact (h x y hm f v hx).does.mono fun u f' L' ⟨h1, h2, h3⟩ => ⟨[val y],[val y], rfl, h1, rfl, val y, rfl, hv f' y, h3⟩
abbrev dom_alone := Go.Proofs.YteicdfkmpnmkmaaGreat.dom_alone
def zt1 (k : Nat) : Con := ⟨[.d cNodT],[.d .bool], fun x => Go.Proofs.YteicdfkmpnmkmaaGreat.dom_alone k x⟩
set_option maxRecDepth 100000 in
theorem dom_alone_ok [F0] (k : Nat) : ConOk Tryz.prog 100 (zt1 k) :=
  con_d1 ⟨Tryz.f100, rfl, rfl, by decide⟩ (fun b => .bool b) (fun f y => rfl) fun x y hm f v hv => by
    obtain ⟨r, h1, rfl⟩ := TC.vR.1 hv
    exact Go.Proofs.YteicdfkmpnmkmaaGreat.dom_alone_ok k h1 hm
end Go.V
