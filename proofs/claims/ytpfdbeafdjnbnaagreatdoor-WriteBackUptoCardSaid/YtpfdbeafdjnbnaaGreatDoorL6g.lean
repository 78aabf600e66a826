/-
  Walks and laws of this seat.
-/
import Derived.Test.YtpfdbeafdjnbnaaGreatDoorBash
import Derived.Test.YtpfdbeafdjnbnaaGreatDoorL6f
import Derived.Test.YtpfdbeafdjnbnaaGreatDoorRows
namespace Go.Proofs.YtpfdbeafdjnbnaaGreatDoor
set_option linter.unusedVariables false
set_option linter.unusedSimpArgs false
set_option linter.unusedSectionVars false
set_option maxHeartbeats 4000000
set_option maxRecDepth 100000
open Go.RowKit Go.Sl
def zgw (n : Nat) (y652 : (List Int)) (y657 : Int) (y659 : (List za6)) (y666 : za6) (lg961_2 : (List Int) → Int → (List za6) → za6 → Option (List za6)) (y981 : Bool) : Option (List za6) :=
  (bif y981 then lg961_2 y652 y657 y659 y666 else
  (zdk n ({c := ({l := y652, at_ := y657} : zaf), out := y659} : zag) 0 (bs [60,33,45,45])).bind fun x983 =>
  (bif x983 then none else
  none))
def zfy (n : Nat) (y683 : (List za6)) (y690 : za6) (lg993_3 : (List Int) → Int → (List za6) → za6 → Option (List za6)) (y1002 : (List Int)) (y1007 : Int) (y1009 : (List Int)) : Option (List za6) :=
  (zdl n (textOf y1009)).bind fun x1016 =>
  (appM 72 y683 [({Kind := 1, Name := (bs []), Text := x1016, Attrs := ([] : List zab), Closed := false} : za6)]).bind fun x1025 =>
  lg993_3 y1002 y1007 x1025 y690
def zfx (n : Nat) (y683 : (List za6)) (y690 : za6) (lg993_3 : (List Int) → Int → (List za6) → za6 → Option (List za6)) (y1034 : (List Int)) (y1039 : Int) (y1041 : (List Int)) (lp1050 : (List Int) → Int → (List Int) → Option (List za6)) (y1052 : Bool) : Option (List za6) :=
  (bif y1052 then (zar n ({l := y1034, at_ := y1039} : zaf)).bind fun x1054 =>
  (appM 4 y1041 [x1054.1]).bind fun x1067 =>
  lp1050 x1054.2.2.l x1054.2.2.at_ x1067 else
  zfy n y683 y690 lg993_3 y1034 y1039 y1041)
def zd2 (n : Nat) (y683 : (List za6)) (y690 : za6) (lg993_3 : (List Int) → Int → (List za6) → za6 → Option (List za6)) : Nat → (List Int) → Int → (List Int) → Option (List za6)
  | 0, _, _, _ => none
  | k1050 + 1, y1034, y1039, y1041 =>
  (zb8 n ({l := y1034, at_ := y1039} : zaf)).bind fun x1073 =>
  (bif (decide (0 < x1073)) then (zby n ({c := ({l := y1034, at_ := y1039} : zaf), out := y683} : zag)).bind fun x1076 =>
  zfx n y683 y690 lg993_3 y1034 y1039 y1041 (zd2 n y683 y690 lg993_3 k1050) (!x1076) else
  zfx n y683 y690 lg993_3 y1034 y1039 y1041 (zd2 n y683 y690 lg993_3 k1050) false)
mutual
def zan (n : Nat) : Nat → (List Int) → Int → (List za6) → za6 → Option (List za6)
  | 0, _, _, _, _ => none
  | k961 + 1, y652, y657, y659, y666 =>
  (zb8 n ({l := y652, at_ := y657} : zaf)).bind fun x967 =>
  (bif (decide (x967 = 0)) then some y659 else
  (zby n ({c := ({l := y652, at_ := y657} : zaf), out := y659} : zag)).bind fun x973 =>
  (bif (!x973) then (zfv n k961) y652 y657 y659 y666 else
  (zbg n ({c := ({l := y652, at_ := y657} : zaf), out := y659} : zag) 1).bind fun x976 =>
  (zis n x976).bind fun x978 =>
  (bif x978 then (zfu n k961) y652 y657 y659 y666 else
  (zbg n ({c := ({l := y652, at_ := y657} : zaf), out := y659} : zag) 1).bind fun x986 =>
  (bif (decide (x986 = 47)) then (zbg n ({c := ({l := y652, at_ := y657} : zaf), out := y659} : zag) 2).bind fun x989 =>
  (zis n x989).bind fun x991 =>
  zgw n y652 y657 y659 y666 (ze1 n k961) x991 else
  zgw n y652 y657 y659 y666 (ze1 n k961) false))))
def zfv (n : Nat) : Nat → (List Int) → Int → (List za6) → za6 → Option (List za6)
  | 0, _, _, _, _ => none
  | k993 + 1, y676, y681, y683, y690 =>
  zd2 n y683 y690 (zan n k993) n y676 y681 ([] : List Int)
def zfu (n : Nat) : Nat → (List Int) → Int → (List za6) → za6 → Option (List za6)
  | 0, _, _, _, _ => none
  | k1078 + 1, y700, y705, y707, y714 =>
  (zar n ({l := y700, at_ := y705} : zaf)).bind fun x1084 =>
  (zf7 n ({c := x1084.2.2, out := y707} : zag) 2).bind fun x1092 =>
  (bif (!x1092.2.1) then none else
  (appM 72 x1092.2.2.out [x1092.1]).bind fun x1119 =>
  (bif ((decide (x1092.1.Name = (bs [115,116,121,108,101]))) || (decide (x1092.1.Name = (bs [115,99,114,105,112,116])))) then none else
  (zan n k1078) x1092.2.2.c.l x1092.2.2.c.at_ x1119 x1092.1))
def ze1 (n : Nat) : Nat → (List Int) → Int → (List za6) → za6 → Option (List za6)
  | 0, _, _, _, _ => none
  | k1128 + 1, y724, y729, y731, y738 =>
  (zar n ({l := y724, at_ := y729} : zaf)).bind fun x1134 =>
  (zar n x1134.2.2).bind fun x1142 =>
  (zf7 n ({c := x1142.2.2, out := y731} : zag) 3).bind fun x1150 =>
  (bif (!x1150.2.1) then none else
  (appM 72 x1150.2.2.out [x1150.1]).bind fun x1177 =>
  (zan n k1128) x1150.2.2.c.l x1150.2.2.c.at_ x1177 x1150.1)
end
def ziu (n : Nat) (p0 : (List Int)) : Option (List za6) :=
  (zhe n p0).bind fun x1184 =>
  zan n n x1184.l x1184.at_ ([] : List za6) ({Kind := 0, Name := (bs []), Text := (bs []), Attrs := ([] : List zab), Closed := false} : za6)
theorem zol (n : Nat) {f : Fz} {p0 : (List Int)} {a0 : Value} {res : (List za6)} (h0 : RS (tInt .i32) f a0 p0) (hm : ziu n p0 = some res) : Does Tryz.prog 30 [a0] f [] (fun r f' L' => ∃ (u0 : Value), L' = [] ∧ r = u0 ∧ RS zb1 f' u0 res) := by
 unfold ziu at hm
 intro w0 L w hC
 obtain ⟨rw1, hR2, hW3⟩ := h0
 refine enter Tryz.func30 rfl Tryz.ntmps30 (by simp) hC fun a hs => ?_
 have hle := Fz.le.refl f
 refine Wq fun hK1 => sA hs rfl fun hs => za0 <| hK1 ?_
 have hbase960 := Fz.le.refl f
 refine ztd (fun (l k : Nat) a w => (l = 3 ∧ ∃ (f645 : Fz) (y652 : (List Int)) (y657 : Int) (y659 : (List za6)) (y666 : za6) (b648 : Nat) (b650 : Nat) (v653 : Value) (rw654 : List (List Value)) (v660 : Value) (rw661 : List (List Value)) (b665 : Nat) (r667 : List Value), Fz.le f f645 ∧ zan n k y652 y657 y659 y666 = some res ∧ RW (tInt .i32) f645 rw654 y652 ∧ RW zb1 f645 rw661 y659 ∧ zb1.R f645 r667 y666 ∧ St 155 w0 f645 (.blk b648 (.cells #[pq b650 0, v660] 112 (0,0)) :: .blk b650 (.cells #[v653, .int .i64 (y657)] 144 (0,0)) :: .row v653 21 1 rw654 :: .row v660 104 5 rw661 :: .blk b665 (.cells r667.toArray 104 (0,0)) :: L) [(3, pq b648 0),(4, pq b665 0)] a w) ∨ (l = 0 ∧ ∃ (f669 : Fz) (y676 : (List Int)) (y681 : Int) (y683 : (List za6)) (y690 : za6) (b672 : Nat) (b674 : Nat) (v677 : Value) (rw678 : List (List Value)) (v684 : Value) (rw685 : List (List Value)) (b689 : Nat) (r691 : List Value), Fz.le f f669 ∧ zfv n k y676 y681 y683 y690 = some res ∧ RW (tInt .i32) f669 rw678 y676 ∧ RW zb1 f669 rw685 y683 ∧ zb1.R f669 r691 y690 ∧ St 155 w0 f669 (.blk b672 (.cells #[pq b674 0, v684] 112 (0,0)) :: .blk b674 (.cells #[v677, .int .i64 (y681)] 144 (0,0)) :: .row v677 21 1 rw678 :: .row v684 104 5 rw685 :: .blk b689 (.cells r691.toArray 104 (0,0)) :: L) [(3, pq b672 0),(4, pq b689 0)] a w) ∨ (l = 1 ∧ ∃ (f693 : Fz) (y700 : (List Int)) (y705 : Int) (y707 : (List za6)) (y714 : za6) (b696 : Nat) (b698 : Nat) (v701 : Value) (rw702 : List (List Value)) (v708 : Value) (rw709 : List (List Value)) (b713 : Nat) (r715 : List Value), Fz.le f f693 ∧ zfu n k y700 y705 y707 y714 = some res ∧ RW (tInt .i32) f693 rw702 y700 ∧ RW zb1 f693 rw709 y707 ∧ zb1.R f693 r715 y714 ∧ St 155 w0 f693 (.blk b696 (.cells #[pq b698 0, v708] 112 (0,0)) :: .blk b698 (.cells #[v701, .int .i64 (y705)] 144 (0,0)) :: .row v701 21 1 rw702 :: .row v708 104 5 rw709 :: .blk b713 (.cells r715.toArray 104 (0,0)) :: L) [(3, pq b696 0),(4, pq b713 0)] a w) ∨ (l = 2 ∧ ∃ (f717 : Fz) (y724 : (List Int)) (y729 : Int) (y731 : (List za6)) (y738 : za6) (b720 : Nat) (b722 : Nat) (v725 : Value) (rw726 : List (List Value)) (v732 : Value) (rw733 : List (List Value)) (b737 : Nat) (r739 : List Value), Fz.le f f717 ∧ ze1 n k y724 y729 y731 y738 = some res ∧ RW (tInt .i32) f717 rw726 y724 ∧ RW zb1 f717 rw733 y731 ∧ zb1.R f717 r739 y738 ∧ St 155 w0 f717 (.blk b720 (.cells #[pq b722 0, v732] 112 (0,0)) :: .blk b722 (.cells #[v725, .int .i64 (y729)] 144 (0,0)) :: .row v725 21 1 rw726 :: .row v732 104 5 rw733 :: .blk b737 (.cells r739.toArray 104 (0,0)) :: L) [(3, pq b720 0),(4, pq b737 0)] a w)) rfl ?_ ?_
 ·(try clear hs); (try clear hm)
  intro k ih l a w R hl hJ G2 hG2
  rcases hJ with ⟨rfl, hJ⟩ | ⟨rfl, hJ⟩ | ⟨rfl, hJ⟩ | ⟨rfl, hJ⟩
  ·cases hl; revert a w
   rintro a w ⟨f645, y652, y657, y659, y666, b648, b650, v653, rw654, v660, rw661, b665, r667, hl646, hm, hW655, hW662, hq668, hs⟩
   replace hle := hle.trans hl646
   obtain ⟨v962, rfl, ⟨rw963, hR964, hW965⟩⟩ := hq668
   have hbase960 := hl646
   cases k with
   | zero => simp [zan] at hm
   | succ k961 =>
    rw [zan] at hm
    refine Ws fun hK3 => zam fun Qe4 hB4 hO4 => Wq fun hK5 => sM hs rfl fun hs => s1 hs (za5 rfl) fun hs => s1 (v := pq b648 0) hs (za1 rfl (FO.of (off := 0) U112 rfl rfl ti109 (by decide))) fun hs => s1 (v := pq b650 0) hs (y_ld rfl U109 rfl (Cell.blk (.head _) rfl)) fun hs => ?_
    obtain ⟨x967, hx968, hm⟩ := ob hm
    refine s1 hs (zec (cap := []) (Lf := .blk b648 (.cells #[pq b650 0, v660] 112 (0,0)) :: .row v660 104 5 rw661 :: .blk b665 (.cells #[.int .i64 (y666.Kind), .string (y666.Name), .string (y666.Text), v962, .bool (y666.Closed)] 104 (0,0)) :: L) rfl has48 rfl ((zal _ 2 rfl).trans (zal _ 2 rfl)) (zel n hW655 hx968)) fun hs => s1 hs (zct rfl rfl) fun hs => sA hs rfl fun hs => za0 <| hK5 ?_
    refine zah hs rfl (fun hg969 => ?_) (fun hg969 => ?_)
    ·replace hm := oc_t hg969 hm
     refine Wq fun hK6 => sM hs rfl fun hs => s1 hs (za5 rfl) fun hs => s1 (v := pq b648 1) hs (za1 rfl (FO.of (off := 1) U112 rfl rfl ti69 (by decide))) fun hs => s1 (v := v660) hs (y_ld rfl U69 rfl (Cell.blk (.head _) rfl)) fun hs => sA hs rfl fun hs => za0 <| hK6 <| zax ?_
     obtain ⟨f970, hf971, hs2, hR972⟩ := hs.frzAt 3 rfl
     clear hs; have hs := hs2; clear hs2
     replace hW662 := hW662.le hf971
     replace hle := hle.trans hf971
     obtain rfl := Option.some.inj hm
     refine RtV1 hs rfl (rv_t hs rfl) ?_
     exact ⟨_, f970,[], rfl, hle,(hs.subL (.cons _ (.cons _ (.cons _ (.cons _ (.refl _)))))).cw, v660, rfl, rfl, ⟨rw661, hR972, hW662⟩⟩
    replace hm := oc_f hg969 hm
    refine Wq fun hK7 => sM hs rfl fun hs => ?_
    obtain ⟨x973, hx974, hm⟩ := ob hm
    refine s1 hs (zec (cap := []) (Lf := .blk b665 (.cells #[.int .i64 (y666.Kind), .string (y666.Name), .string (y666.Text), v962, .bool (y666.Closed)] 104 (0,0)) :: L) rfl has49 rfl ((((zal _ 3 rfl).trans (zal _ 3 rfl)).trans (zal _ 3 rfl)).trans (zal _ 3 rfl)) (zi8 n hW655 hW662 hx974)) fun hs => s1 (v := .bool ((!x973))) hs (zfc rfl) fun hs => sA hs rfl fun hs => za0 <| hK7 ?_
    refine zah hs rfl (fun hg975 => ?_) (fun hg975 => ?_)
    ·replace hm := oc_t hg975 hm
     refine zn1 ?_
     exact hG2.at_ 0 _ _ rfl ⟨k961, Nat.lt_succ_self _,(.inr (.inl ⟨rfl, ⟨_, y652, y657, y659, y666, b648, b650, v653, rw654, v660, rw661, b665,[.int .i64 (y666.Kind), .string (y666.Name), .string (y666.Text), v962, .bool (y666.Closed)], hbase960, hm, hW655, hW662, ⟨_, rfl, ⟨rw963, hR964, hW965⟩⟩, hs.sub ⟨rfl, rfl, trivial⟩⟩⟩))⟩
    replace hm := oc_f hg975 hm
    refine Wq fun hK8 => sM hs rfl fun hs => ?_
    obtain ⟨x976, hx977, hm⟩ := ob hm
    refine s1 hs (zec (cap := []) (Lf := .blk b665 (.cells #[.int .i64 (y666.Kind), .string (y666.Name), .string (y666.Text), v962, .bool (y666.Closed)] 104 (0,0)) :: L) rfl has51 rfl ((((zal _ 3 rfl).trans (zal _ 3 rfl)).trans (zal _ 3 rfl)).trans (zal _ 3 rfl)) (zcw n hW655 hW662 hx977)) fun hs => ?_
    obtain ⟨x978, hx979, hm⟩ := ob hm
    refine s1 hs (zbi rfl has50 rfl (zjd n  hx979)) fun hs => sA hs rfl fun hs => za0 <| hK8 ?_
    refine zah hs rfl (fun hg980 => ?_) (fun hg980 => ?_)
    ·replace hm := oc_t hg980 hm
     refine zn1 ?_
     exact hG2.at_ 1 _ _ rfl ⟨k961, Nat.lt_succ_self _,(.inr (.inr (.inl ⟨rfl, ⟨_, y652, y657, y659, y666, b648, b650, v653, rw654, v660, rw661, b665,[.int .i64 (y666.Kind), .string (y666.Name), .string (y666.Text), v962, .bool (y666.Closed)], hbase960, hm, hW655, hW662, ⟨_, rfl, ⟨rw963, hR964, hW965⟩⟩, hs.sub ⟨rfl, rfl, trivial⟩⟩⟩)))⟩
    replace hm := oc_f hg980 hm
    refine Ws fun hK9 => ?_
    refine zaq (fun a w => ∃ (y981 : Bool), zgw n y652 y657 y659 y666 (ze1 n k961) y981 = some res ∧ St 155 w0 f645 (.blk b648 (.cells #[pq b650 0, v660] 112 (0,0)) :: .blk b650 (.cells #[v653, .int .i64 (y657)] 144 (0,0)) :: .row v653 21 1 rw654 :: .row v660 104 5 rw661 :: .blk b665 (.cells #[.int .i64 (y666.Kind), .string (y666.Name), .string (y666.Text), v962, .bool (y666.Closed)] 104 (0,0)) :: L) [(3, pq b648 0),(4, pq b665 0),(32, .bool (y981))] a w) ?_ ?_
    ·clear hs hm
     rintro a w ⟨y981, hm, hs⟩
     unfold zgw at hm
     refine hK9 ?_
     refine zah hs rfl (fun hg982 => ?_) (fun hg982 => ?_)
     ·replace hm := oc_t hg982 hm
      refine zn1 ?_
      exact hG2.at_ 2 _ _ rfl ⟨k961, Nat.lt_succ_self _,(.inr (.inr (.inr (⟨rfl, ⟨_, y652, y657, y659, y666, b648, b650, v653, rw654, v660, rw661, b665,[.int .i64 (y666.Kind), .string (y666.Name), .string (y666.Text), v962, .bool (y666.Closed)], hbase960, hm, hW655, hW662, ⟨_, rfl, ⟨rw963, hR964, hW965⟩⟩, hs.sub ⟨rfl, rfl, trivial⟩⟩⟩))))⟩
     replace hm := oc_f hg982 hm
     refine Wq fun hK10 => sM hs rfl fun hs => ?_
     obtain ⟨x983, hx984, hm⟩ := ob hm
     refine s1 hs (zec (cap := []) (Lf := .blk b665 (.cells #[.int .i64 (y666.Kind), .string (y666.Name), .string (y666.Text), v962, .bool (y666.Closed)] 104 (0,0)) :: L) rfl has52 rfl ((((zal _ 3 rfl).trans (zal _ 3 rfl)).trans (zal _ 3 rfl)).trans (zal _ 3 rfl)) (zhw n hW655 hW662 hx984)) fun hs => sA hs rfl fun hs => za0 <| hK10 ?_
     refine zah hs rfl (fun hg985 => ?_) (fun hg985 => ?_)
     ·replace hm := oc_t hg985 hm
      refine Ws fun hK11 => ?_
      cases hm
     replace hm := oc_f hg985 hm
     refine zaj <| hK3 <| Ws fun hK12 => ?_
     cases hm
    refine za2 <| sM hs rfl fun hs => ?_
    obtain ⟨x986, hx987, hm⟩ := ob hm
    refine s1 hs (zec (cap := []) (Lf := .blk b665 (.cells #[.int .i64 (y666.Kind), .string (y666.Name), .string (y666.Text), v962, .bool (y666.Closed)] 104 (0,0)) :: L) rfl has51 rfl ((((zal _ 3 rfl).trans (zal _ 3 rfl)).trans (zal _ 3 rfl)).trans (zal _ 3 rfl)) (zcw n hW655 hW662 hx987)) fun hs => s1 hs (zct rfl rfl) fun hs => sM hs rfl fun hs => ?_
    refine St.split hs (t := 36) rfl (fun hg988 hs => ?_) (fun hg988 hs => ?_)
    ·replace hm := oc_t hg988 hm
     refine s2 (v := pq b648 0) hs (za3 rfl) fun hs => ?_
     obtain ⟨x989, hx990, hm⟩ := ob hm
     refine s2 hs (zec (cap := []) (Lf := .blk b665 (.cells #[.int .i64 (y666.Kind), .string (y666.Name), .string (y666.Text), v962, .bool (y666.Closed)] 104 (0,0)) :: L) rfl has51 rfl ((((zal _ 3 rfl).trans (zal _ 3 rfl)).trans (zal _ 3 rfl)).trans (zal _ 3 rfl)) (zcw n hW655 hW662 hx990)) fun hs => ?_
     obtain ⟨x991, hx992, hm⟩ := ob hm
     refine s2 hs (zbi rfl has50 rfl (zjd n  hx992)) fun hs => sP hs rfl rfl fun hs => sA hs rfl fun hs => za0 ?_
     exact ⟨x991, hm, hs.sub ⟨rfl, rfl, rfl, trivial⟩⟩
    replace hm := oc_f hg988 hm
    refine s3 hs fun hs => s3 hs fun hs => s3 hs fun hs => sP hs rfl rfl fun hs => sA hs rfl fun hs => za0 ?_
    exact ⟨false, hm, hs.sub ⟨rfl, rfl, rfl, trivial⟩⟩
  ·cases hl; revert a w
   rintro a w ⟨f669, y676, y681, y683, y690, b672, b674, v677, rw678, v684, rw685, b689, r691, hl670, hm, hW679, hW686, hq692, hs⟩
   obtain ⟨v994, rfl, ⟨rw995, hR996, hW997⟩⟩ := hq692
   have hbase960 := hl670
   cases k with
   | zero => simp [zfv] at hm
   | succ k993 =>
    rw [zfv] at hm
    refine Wq fun hK13 => sA hs rfl fun hs => za0 <| hK13 <| Ws fun hK14 => ?_
    have hbase1014 := Fz.le.refl f669
    refine zaq (fun a w => ∃ (f1000 : Fz) (y1002 : (List Int)) (y1007 : Int) (y1009 : (List Int)) (v1003 : Value) (rw1004 : List (List Value)) (v1010 : Value) (rw1011 : List (List Value)), Fz.le f669 f1000 ∧ zfy n y683 y690 (zan n k993) y1002 y1007 y1009 = some res ∧ RW (tInt .i32) f1000 rw1004 y1002 ∧ RW (tInt .i32) f1000 rw1011 y1009 ∧ St 155 w0 f1000 (.row v1010 21 1 rw1011 :: .blk b672 (.cells #[pq b674 0, v684] 112 (0,0)) :: .blk b674 (.cells #[v1003, .int .i64 (y1007)] 144 (0,0)) :: .row v1003 21 1 rw1004 :: .row v684 104 5 rw685 :: .blk b689 (.cells #[.int .i64 (y690.Kind), .string (y690.Name), .string (y690.Text), v994, .bool (y690.Closed)] 104 (0,0)) :: L) [(3, pq b672 0),(4, pq b689 0),(6, v1010)] a w) ?_ ?_
    ·clear hs hm
     clear hbase1014
     rintro a w ⟨f1000, y1002, y1007, y1009, v1003, rw1004, v1010, rw1011, hl1001, hm, hW1005, hW1012, hs⟩
     replace hW686 := hW686.le hl1001
     replace hR996 := hR996.le hl1001
     replace hW997 := hW997.le hl1001
     replace hbase960 := hbase960.trans hl1001
     unfold zfy at hm
     refine hK14 <| Ws fun hK15 => ?_
     have hsD := hs.subL (L' := .row v1010 21 1 rw1011 :: .blk b672 (.cells #[pq b674 0, v684] 112 (0,0)) :: []) (.cons_cons _ (.cons_cons _ (.cons _ (.cons _ (.cons _ (.cons _ (List.nil_sublist _)))))))
     have hbd1015 := Fz.le.refl f1000
     refine zj2 hs (.row v1010 21 1 rw1011 :: .blk b672 (.cells #[pq b674 0, v684] 112 (0,0)) :: []) [13] (.look 0 (.look 1 (.look 2 (.look 3 (.look 4 (.look 5 (.look 6 (.look 7 (.look 8 (.any [9] (fun _ => .any [10] (fun _ => .look 11 (.look 12 (.any [13] (fun _ => .done))))))))))))))) mixed (by kernel_rfl) fun _ he => uy (v := pq b672 0) 0 he rfl (za3 rfl) fun _ he => uy (v := pq b672 0) 1 he rfl (za3 rfl) fun _ he => uy 2 he rfl (za5 rfl) fun _ he => uy (v := pq b672 1) 3 he rfl (za1 rfl (FO.of (off := 1) U112 rfl rfl ti69 (by decide))) fun _ he => uy (v := v684) 4 he rfl (y_ld rfl U69 rfl (Cell.blk (.tail _ (.head _)) rfl)) fun _ he => uy (v := v1010) 5 he rfl (za3 rfl) fun _ he => uy (v := .string ((textOf y1009))) 6 he rfl (zu4 rfl U24 U21 U9 (Rd.st hsD (.head _)) hW1012) fun _ he => ?_
     obtain ⟨x1016, hx1017, hm⟩ := ob hm
     refine ucall 7 he rfl rfl has56 rfl (fun f9 L9 w9 hfc _ hw9 => (zkb n  hx1017) w0 L9 w9 hw9) fun _ he => uy 8 he rfl (ze4 (places := [(0,1),(1,1),(2,1),(3,1),(4,1)]) (cs := [.int .i64 (1), .string ((bs [])), .string (x1016),(.slice none 0 0), .bool (false)]) rfl U104 ti104 (by kernel_rfl) (by decide) rfl ⟨rfl, rfl, trivial⟩) fun _ he => ?_
     refine zeh he rfl ?_; clear he; (try clear a); intro a w hs
     refine zka hs rfl U69 ti104 (by decide) (AllC.row ⟨rfl, rfl, rfl, rfl, rfl, trivial⟩ rfl) fun v1019 _ _ hs => ?_
     have hW1020 : RW zb1 f1000 [[.int .i64 (1), .string ((bs [])), .string (x1016),(.slice none 0 0), .bool (false)]] [({Kind := 1, Name := (bs []), Text := x1016, Attrs := ([] : List zab), Closed := false} : za6)] := RW.single (⟨_, rfl, RS.nil⟩)
     generalize hgrw1021 : ([[.int .i64 (1), .string ((bs [])), .string (x1016),(.slice none 0 0), .bool (false)]] : List (List Value)) = rw1021 at hs hW1020; clear hgrw1021
     have ho1024 : v1019.oneCell' = true := hs.one (i := 0) rfl
     refine uon hs fun _ he => ?_
     refine zeh he rfl ?_; clear he; (try clear a); intro a w hs
     obtain ⟨x1025, hx1026, hm⟩ := ob hm
     obtain ⟨hbx1025, hex1025⟩ := zcb hx1026
     have hW1029 := hW686.append hW1020; rw [hex1025] at hW1029
     refine zc9 (i := 5) hs rfl rfl rfl (Rd.st hs (.head _)) U69 ti104 (by decide) (by rw [RW.len hW686, RW.len hW1020]; exact hbx1025) (.free rfl) (by decide) fun v1027 _ _ hs => ?_
     generalize hgx1025 : rw685 ++ rw1021 = rw1028 at hs hW1029; clear hgx1025
     replace hs := hs.erase 0
     have ho1031 : v1027.oneCell' = true := hs.one (i := 4) rfl
     refine uon hs fun _ he => uy 11 he rfl (za5 rfl) fun _ he => uy (v := pq b672 1) 12 he rfl (za1 rfl (FO.of (off := 1) U112 rfl rfl ti69 (by decide))) fun _ he => ?_
     refine zeh he rfl ?_; clear he; (try clear a); intro a w hs
     refine sstore 1 hs rfl rfl rfl ti69 ho1031 fun _ _ hs => uend hs fun _ he => ?_
     refine zmg he ?_; clear he; (try clear a); intro w hs; try clear hsD
     refine hK15 <| Ws fun hK16 => zn1 ?_
     exact hG2.at_ 3 _ _ rfl ⟨k993, Nat.lt_succ_self _,(.inl ⟨rfl, ⟨_, y1002, y1007, x1025, y690, b672, b674, v1003, rw1004, v1027, rw1028, b689,[.int .i64 (y690.Kind), .string (y690.Name), .string (y690.Text), v994, .bool (y690.Closed)], hbase960, hm, hW1005, hW1029, ⟨_, rfl, ⟨rw995, hR996, hW997⟩⟩, hs.subs ⟨rfl, rfl, trivial⟩ (.cons _ (.cons_cons _ (.cons_cons _ (.cons_cons _ (.cons_cons _ (.cons_cons _ (.refl _)))))))⟩⟩)⟩
    refine zam fun Qe17 hB17 hO17 => ?_
    have hbase := Fz.le.refl f669
    replace hs := hs.nilRow 21 1
    have hW1046 : RW (tInt .i32) f669 [] ([] : List Int) := trivial
    generalize hgrw1047 : ([] : List (List Value)) = rw1047 at hs hW1046; clear hgrw1047
    refine zd1 (fun (k : Nat) a w => ∃ (f1032 : Fz) (y1034 : (List Int)) (y1039 : Int) (y1041 : (List Int)) (v1035 : Value) (rw1036 : List (List Value)) (v1042 : Value) (rw1043 : List (List Value)), Fz.le f669 f1032 ∧ zd2 n y683 y690 (zan n k993) k y1034 y1039 y1041 = some res ∧ RW (tInt .i32) f1032 rw1036 y1034 ∧ RW (tInt .i32) f1032 rw1043 y1041 ∧ St 155 w0 f1032 (.row v1042 21 1 rw1043 :: .blk b672 (.cells #[pq b674 0, v684] 112 (0,0)) :: .blk b674 (.cells #[v1035, .int .i64 (y1039)] 144 (0,0)) :: .row v1035 21 1 rw1036 :: .row v684 104 5 rw685 :: .blk b689 (.cells #[.int .i64 (y690.Kind), .string (y690.Name), .string (y690.Text), v994, .bool (y690.Closed)] 104 (0,0)) :: L) [(3, pq b672 0),(4, pq b689 0),(6, v1042)] a w) (fun k => k) n ⟨_, y676, y681,([] : List Int), v677, rw678,(.slice none 0 0), rw1047,(Fz.le.refl _), hm, hW679, hW1046, hs.sub ⟨rfl, rfl, rfl, trivial⟩⟩ ?_
    clear hs hm
    intro k
    rintro a w ⟨f1032, y1034, y1039, y1041, v1035, rw1036, v1042, rw1043, hl1033, hm, hW1037, hW1044, hs⟩
    replace hW686 := hW686.le hl1033
    replace hbase1014 := hbase1014.trans hl1033
    intro K18 hK18
    cases k with
    | zero => simp [zd2] at hm
    | succ k1050 =>
     rw [zd2] at hm
     have hbase1051 := hl1033
     refine Ws fun hK19 => Ws fun hK20 => ?_
     refine zaq (fun a w => ∃ (y1052 : Bool), zfx n y683 y690 (zan n k993) y1034 y1039 y1041 (zd2 n y683 y690 (zan n k993) k1050) y1052 = some res ∧ St 155 w0 f1032 (.row v1042 21 1 rw1043 :: .blk b672 (.cells #[pq b674 0, v684] 112 (0,0)) :: .blk b674 (.cells #[v1035, .int .i64 (y1039)] 144 (0,0)) :: .row v1035 21 1 rw1036 :: .row v684 104 5 rw685 :: .blk b689 (.cells #[.int .i64 (y690.Kind), .string (y690.Name), .string (y690.Text), v994, .bool (y690.Closed)] 104 (0,0)) :: L) [(3, pq b672 0),(4, pq b689 0),(6, v1042),(60, .bool (y1052))] a w) ?_ ?_
     ·clear hs hm
      rintro a w ⟨y1052, hm, hs⟩
      unfold zfx at hm
      refine hK20 ?_
      refine zah hs rfl (fun hg1053 => ?_) (fun hg1053 => ?_)
      ·replace hm := oc_t hg1053 hm
       refine zaj <| hK19 <| zam fun Qe21 hB21 hO21 => Wq fun hK22 => sM hs rfl fun hs => s1 hs (za5 rfl) fun hs => s1 (v := pq b672 0) hs (za1 rfl (FO.of (off := 0) U112 rfl rfl ti109 (by decide))) fun hs => s1 (v := pq b674 0) hs (y_ld rfl U109 rfl (Cell.blk (.tail _ (.head _)) rfl)) fun hs => ?_
       obtain ⟨x1054, hx1055, hm⟩ := ob hm
       replace hs := hs.front 3
       replace hs := hs.front 3
       refine zbb (Lr := [.blk b674 (.cells #[v1035, .int .i64 (y1039)] 144 (0,0)), .row v1035 21 1 rw1036]) (Lf := .row v1042 21 1 rw1043 :: .blk b672 (.cells #[pq b674 0, v684] 112 (0,0)) :: .row v684 104 5 rw685 :: .blk b689 (.cells #[.int .i64 (y690.Kind), .string (y690.Name), .string (y690.Text), v994, .bool (y690.Closed)] 104 (0,0)) :: L) hs rfl has55 rfl rfl (zb0 n hW1037 hx1055) (.free rfl) (by decide) ?_; clear hs; (try clear a w)
       rintro _ f1056 _ a w hf1057 ⟨v1058, rw1059, rfl, rfl, hW1060⟩ hs
       replace hW1044 := hW1044.le hf1057
       replace hbase1051 := hbase1051.trans hf1057
       refine sM hs rfl fun hs => s1 (v := .int .i32 (x1054.1)) hs (zap rfl rfl) fun hs => s1 (v := .bool (x1054.2.1)) hs (zap rfl rfl) fun hs => sA hs rfl fun hs => sA hs rfl fun hs => za0 <| hK22 <| za2 <| sM hs rfl fun hs => sM hs rfl fun hs => ?_
       refine zg1 hs rfl U24 ti21 rfl rfl fun v1062 _ _ hs => ?_
       have hW1063 : RW (tInt .i32) f1056 [[.int .i32 (x1054.1)]] [x1054.1] := RW.single (rfl)
       generalize hgrw1064 : ([[.int .i32 (x1054.1)]] : List (List Value)) = rw1064 at hs hW1063; clear hgrw1064
       obtain ⟨x1067, hx1068, hm⟩ := ob hm
       obtain ⟨hbx1067, hex1067⟩ := zcb hx1068
       have hW1071 := hW1044.append hW1063; rw [hex1067] at hW1071
       refine zc9 (i := 3) hs rfl rfl rfl (Rd.st hs (.head _)) U24 ti21 (by decide) (by rw [RW.len hW1044, RW.len hW1063]; exact hbx1067) (.free rfl) (by decide) fun v1069 _ _ hs => ?_
       generalize hgx1067 : rw1043 ++ rw1064 = rw1070 at hs hW1071; clear hgx1067
       replace hs := hs.erase 0
       refine sA hs rfl fun hs => za0 ?_
       replace hs := hs.front 5
       replace hs := hs.front 5
       replace hs := hs.front 3
       replace hs := hs.front 3
       replace hs := hs.front 5
       replace hs := hs.front 5
       exact hK18 k1050 _ _ (Nat.lt_succ_self _) ⟨_, x1054.2.2.l, x1054.2.2.at_, x1067, v1058, rw1059, v1069, rw1070, hbase1051, hm, hW1060, hW1071, hs.sub ⟨rfl, rfl, rfl, trivial⟩⟩
      replace hm := oc_f hg1053 hm
      refine zc0 <| hB17 _ _ ?_
      exact ⟨_, y1034, y1039, y1041, v1035, rw1036, v1042, rw1043, hbase1014, hm, hW1037, hW1044, hs.sub ⟨rfl, rfl, rfl, trivial⟩⟩
     refine za2 <| sM hs rfl fun hs => s1 hs (za5 rfl) fun hs => s1 (v := pq b672 0) hs (za1 rfl (FO.of (off := 0) U112 rfl rfl ti109 (by decide))) fun hs => s1 (v := pq b674 0) hs (y_ld rfl U109 rfl (Cell.blk (.tail _ (.head _)) rfl)) fun hs => ?_
     obtain ⟨x1073, hx1074, hm⟩ := ob hm
     refine s1 hs (zec (cap := []) (Lf := .row v1042 21 1 rw1043 :: .blk b672 (.cells #[pq b674 0, v684] 112 (0,0)) :: .row v684 104 5 rw685 :: .blk b689 (.cells #[.int .i64 (y690.Kind), .string (y690.Name), .string (y690.Text), v994, .bool (y690.Closed)] 104 (0,0)) :: L) rfl has48 rfl ((zal _ 3 rfl).trans (zal _ 3 rfl)) (zel n hW1037 hx1074)) fun hs => s1 hs (zhq rfl rfl) fun hs => sM hs rfl fun hs => ?_
     refine St.split hs (t := 56) rfl (fun hg1075 hs => ?_) (fun hg1075 hs => ?_)
     ·replace hm := oc_t hg1075 hm
      refine s2 (v := pq b672 0) hs (za3 rfl) fun hs => ?_
      obtain ⟨x1076, hx1077, hm⟩ := ob hm
      refine s2 hs (zec (cap := []) (Lf := .row v1042 21 1 rw1043 :: .blk b689 (.cells #[.int .i64 (y690.Kind), .string (y690.Name), .string (y690.Text), v994, .bool (y690.Closed)] 104 (0,0)) :: L) rfl has49 rfl ((((zal _ 4 rfl).trans (zal _ 4 rfl)).trans (zal _ 4 rfl)).trans (zal _ 4 rfl)) (zi8 n hW1037 hW686 hx1077)) fun hs => s2 (v := .bool ((!x1076))) hs (zfc rfl) fun hs => sP hs rfl rfl fun hs => za0 ?_
      exact ⟨(!x1076), hm, hs.sub ⟨rfl, rfl, rfl, rfl, trivial⟩⟩
     replace hm := oc_f hg1075 hm
     refine s3 hs fun hs => s3 hs fun hs => s3 hs fun hs => sP hs rfl rfl fun hs => za0 ?_
     exact ⟨false, hm, hs.sub ⟨rfl, rfl, rfl, rfl, trivial⟩⟩
  ·cases hl; revert a w
   rintro a w ⟨f693, y700, y705, y707, y714, b696, b698, v701, rw702, v708, rw709, b713, r715, hl694, hm, hW703, hW710, hq716, hs⟩
   obtain ⟨v1079, rfl, ⟨rw1080, hR1081, hW1082⟩⟩ := hq716
   have hbase960 := hl694
   cases k with
   | zero => simp [zfu] at hm
   | succ k1078 =>
    rw [zfu] at hm
    refine Wq fun hK23 => sM hs rfl fun hs => s1 hs (za5 rfl) fun hs => s1 (v := pq b696 0) hs (za1 rfl (FO.of (off := 0) U112 rfl rfl ti109 (by decide))) fun hs => s1 (v := pq b698 0) hs (y_ld rfl U109 rfl (Cell.blk (.head _) rfl)) fun hs => ?_
    obtain ⟨x1084, hx1085, hm⟩ := ob hm
    replace hs := hs.front 2
    replace hs := hs.front 2
    refine zbb (Lr := [.blk b698 (.cells #[v701, .int .i64 (y705)] 144 (0,0)), .row v701 21 1 rw702]) (Lf := .blk b696 (.cells #[pq b698 0, v708] 112 (0,0)) :: .row v708 104 5 rw709 :: .blk b713 (.cells #[.int .i64 (y714.Kind), .string (y714.Name), .string (y714.Text), v1079, .bool (y714.Closed)] 104 (0,0)) :: L) hs rfl has55 rfl rfl (zb0 n hW703 hx1085) (.free rfl) (by decide) ?_; clear hs; (try clear a w)
    rintro _ f1086 _ a w hf1087 ⟨v1088, rw1089, rfl, rfl, hW1090⟩ hs
    replace hW710 := hW710.le hf1087
    replace hbase960 := hbase960.trans hf1087
    refine za0 <| hK23 <| Wq fun hK24 => sM hs rfl fun hs => ?_
    obtain ⟨x1092, hx1093, hm⟩ := ob hm
    replace hs := hs.front 3
    replace hs := hs.front 2
    replace hs := hs.front 2
    replace hs := hs.front 3
    refine zbb (Lr := [.blk b696 (.cells #[pq b698 0, v708] 112 (0,0)), .blk b698 (.cells #[v1088, .int .i64 (x1084.2.2.at_)] 144 (0,0)), .row v1088 21 1 rw1089, .row v708 104 5 rw709]) (Lf := .blk b713 (.cells #[.int .i64 (y714.Kind), .string (y714.Name), .string (y714.Text), v1079, .bool (y714.Closed)] 104 (0,0)) :: L) hs rfl has57 rfl rfl (zj7 n hW1090 hW710 hx1093) (.free rfl) (by decide) ?_; clear hs; (try clear a w)
    rintro _ f1094 _ a w hf1095 ⟨r1096, v1098, rw1099, v1101, rw1102, rfl, rfl, hq1097, hW1100, hW1103⟩ hs
    replace hbase960 := hbase960.trans hf1095
    obtain ⟨v1104, rfl, ⟨rw1105, hR1106, hW1107⟩⟩ := hq1097
    refine sM hs rfl fun hs => s1 (v := .agg #[.int .i64 (x1092.1.Kind), .string (x1092.1.Name), .string (x1092.1.Text), v1104, .bool (x1092.1.Closed)]) hs (zap rfl rfl) fun hs => s1 (v := .bool (x1092.2.1)) hs (zap rfl rfl) fun hs => zb5 (i := 4) hs rfl rfl rfl ti104 ⟨rfl, rfl⟩ (AllC.arr (r := [.int .i64 (x1092.1.Kind), .string (x1092.1.Name), .string (x1092.1.Text), v1104, .bool (x1092.1.Closed)]) ⟨rfl, rfl, rfl, hR1106.one, rfl, trivial⟩) (.free rfl) fun _ _ hs => sA hs rfl fun hs => za0 <| hK24 <| Ws fun hK25 => Ws fun hK26 => za2 ?_
    refine sM hs rfl fun hs => s1 (v := .bool ((!x1092.2.1))) hs (zfc rfl) fun hs => za0 <| hK26 ?_
    refine zah hs rfl (fun hg1111 => ?_) (fun hg1111 => ?_)
    ·replace hm := oc_t hg1111 hm
     refine Ws fun hK27 => ?_
     cases hm
    replace hm := oc_f hg1111 hm
    refine zaj <| hK25 <| Ws fun hK28 => ?_
    have hsD := hs.subL (L' := .blk b696 (.cells #[pq b698 0, v1101] 112 (0,0)) :: .blk b713 (.cells #[.int .i64 (x1092.1.Kind), .string (x1092.1.Name), .string (x1092.1.Text), v1104, .bool (x1092.1.Closed)] 104 (0,0)) :: []) (.cons_cons _ (.cons _ (.cons _ (.cons _ (.cons_cons _ (List.nil_sublist _))))))
    have hbd1112 := Fz.le.refl f1094
    refine zj2 hs (.blk b696 (.cells #[pq b698 0, v1101] 112 (0,0)) :: .blk b713 (.cells #[.int .i64 (x1092.1.Kind), .string (x1092.1.Name), .string (x1092.1.Text), v1104, .bool (x1092.1.Closed)] 104 (0,0)) :: []) [10] (.look 0 (.look 1 (.look 2 (.look 3 (.look 4 (.look 5 (.any [6] (fun _ => .any [7] (fun _ => .look 8 (.look 9 (.any [10] (fun _ => .done)))))))))))) mixed (by kernel_rfl) fun _ he => uy (v := pq b696 0) 0 he rfl (za3 rfl) fun _ he => uy (v := pq b696 0) 1 he rfl (za3 rfl) fun _ he => uy 2 he rfl (za5 rfl) fun _ he => uy (v := pq b696 1) 3 he rfl (za1 rfl (FO.of (off := 1) U112 rfl rfl ti69 (by decide))) fun _ he => uy (v := v1101) 4 he rfl (y_ld rfl U69 rfl (Cell.blk (.head _) rfl)) fun _ he => uy 5 he rfl (zj3 rfl U104 rfl ti104 (.tail _ (.head _)) rfl) fun _ he => ?_
    refine zeh he rfl ?_; clear he; (try clear a); intro a w hs
    refine zka hs rfl U69 ti104 (by decide) (AllC.row ⟨rfl, rfl, rfl, hR1106.one, rfl, trivial⟩ rfl) fun v1113 _ _ hs => ?_
    have hW1114 : RW zb1 f1094 [[.int .i64 (x1092.1.Kind), .string (x1092.1.Name), .string (x1092.1.Text), v1104, .bool (x1092.1.Closed)]] [x1092.1] := RW.single (⟨_, rfl, ⟨rw1105, hR1106, hW1107⟩⟩)
    generalize hgrw1115 : ([[.int .i64 (x1092.1.Kind), .string (x1092.1.Name), .string (x1092.1.Text), v1104, .bool (x1092.1.Closed)]] : List (List Value)) = rw1115 at hs hW1114; clear hgrw1115
    have ho1118 : v1113.oneCell' = true := hs.one (i := 0) rfl
    refine uon hs fun _ he => ?_
    refine zeh he rfl ?_; clear he; (try clear a); intro a w hs
    obtain ⟨x1119, hx1120, hm⟩ := ob hm
    obtain ⟨hbx1119, hex1119⟩ := zcb hx1120
    have hW1123 := hW1103.append hW1114; rw [hex1119] at hW1123
    refine zc9 (i := 4) hs rfl rfl rfl (Rd.st hs (.head _)) U69 ti104 (by decide) (by rw [RW.len hW1103, RW.len hW1114]; exact hbx1119) (.free rfl) (by decide) fun v1121 _ _ hs => ?_
    generalize hgx1119 : rw1102 ++ rw1115 = rw1122 at hs hW1123; clear hgx1119
    replace hs := hs.erase 0
    have ho1125 : v1121.oneCell' = true := hs.one (i := 3) rfl
    refine uon hs fun _ he => uy 8 he rfl (za5 rfl) fun _ he => uy (v := pq b696 1) 9 he rfl (za1 rfl (FO.of (off := 1) U112 rfl rfl ti69 (by decide))) fun _ he => ?_
    refine zeh he rfl ?_; clear he; (try clear a); intro a w hs
    refine sstore 0 hs rfl rfl rfl ti69 ho1125 fun _ _ hs => uend hs fun _ he => ?_
    refine zmg he ?_; clear he; (try clear a); intro w hs; try clear hsD
    refine hK28 <| Ws fun hK29 => Ws fun hK30 => ?_
    refine zaq (fun a w => St 155 w0 f1094 (.blk b696 (.cells #[pq b698 0, v1121] 112 (0,0)) :: .blk b698 (.cells #[v1098, .int .i64 (x1092.2.2.c.at_)] 144 (0,0)) :: .row v1098 21 1 rw1099 :: .row v1121 104 5 rw1122 :: .blk b713 (.cells #[.int .i64 (x1092.1.Kind), .string (x1092.1.Name), .string (x1092.1.Text), v1104, .bool (x1092.1.Closed)] 104 (0,0)) :: L) [(3, pq b696 0),(4, pq b713 0),(119, .bool (((decide (x1092.1.Name = (bs [115,116,121,108,101]))) || (decide (x1092.1.Name = (bs [115,99,114,105,112,116]))))))] a w) ?_ ?_
    ·clear hs; intro a w hs
     refine hK30 ?_
     refine zah hs rfl (fun hg1126 => ?_) (fun hg1126 => ?_)
     ·replace hm := oc_t hg1126 hm
      cases hm
     replace hm := oc_f hg1126 hm
     refine zaj <| hK29 <| Ws fun hK31 => zn1 ?_
     exact hG2.at_ 3 _ _ rfl ⟨k1078, Nat.lt_succ_self _,(.inl ⟨rfl, ⟨_, x1092.2.2.c.l, x1092.2.2.c.at_, x1119, x1092.1, b696, b698, v1098, rw1099, v1121, rw1122, b713,[.int .i64 (x1092.1.Kind), .string (x1092.1.Name), .string (x1092.1.Text), v1104, .bool (x1092.1.Closed)], hbase960, hm, hW1100, hW1123, ⟨_, rfl, ⟨rw1105, hR1106, hW1107⟩⟩, hs.sub ⟨rfl, rfl, trivial⟩⟩⟩)⟩
    refine za2 <| s1 (v := pq b713 1) hs (za1 rfl (FO.of (off := 1) U104 rfl rfl ti9 (by decide))) fun hs => s1 (v := .string (x1092.1.Name)) hs (y_ld rfl U9 rfl (Cell.blk (.tail _ (.tail _ (.tail _ (.tail _ (.head _))))) rfl)) fun hs => s1 hs (zcs rfl rfl) fun hs => sM hs rfl fun hs => ?_
    refine St.split hs (t := 115) rfl (fun hg1127 hs => ?_) (fun hg1127 hs => ?_)
    ·refine s3 hs fun hs => s3 hs fun hs => s3 hs fun hs => sP hs rfl rfl fun hs => za0 ?_
     exact hs.sub ⟨rfl, rfl,(lkB (((or_t hg1127).trans rfl)) rfl), trivial⟩
    refine s2 (v := pq b713 1) hs (za1 rfl (FO.of (off := 1) U104 rfl rfl ti9 (by decide))) fun hs => s2 (v := .string (x1092.1.Name)) hs (y_ld rfl U9 rfl (Cell.blk (.tail _ (.tail _ (.tail _ (.tail _ (.head _))))) rfl)) fun hs => s2 hs (zcs rfl rfl) fun hs => sP hs rfl rfl fun hs => za0 ?_
    exact hs.sub ⟨rfl, rfl,(lkB (((or_f hg1127).trans rfl)) rfl), trivial⟩
  cases hl; revert a w
  rintro a w ⟨f717, y724, y729, y731, y738, b720, b722, v725, rw726, v732, rw733, b737, r739, hl718, hm, hW727, hW734, hq740, hs⟩
  obtain ⟨v1129, rfl, ⟨rw1130, hR1131, hW1132⟩⟩ := hq740
  have hbase960 := hl718
  cases k with
  | zero => simp [ze1] at hm
  | succ k1128 =>
   rw [ze1] at hm
   refine Wq fun hK32 => sM hs rfl fun hs => s1 hs (za5 rfl) fun hs => s1 (v := pq b720 0) hs (za1 rfl (FO.of (off := 0) U112 rfl rfl ti109 (by decide))) fun hs => s1 (v := pq b722 0) hs (y_ld rfl U109 rfl (Cell.blk (.head _) rfl)) fun hs => ?_
   obtain ⟨x1134, hx1135, hm⟩ := ob hm
   replace hs := hs.front 2
   replace hs := hs.front 2
   refine zbb (Lr := [.blk b722 (.cells #[v725, .int .i64 (y729)] 144 (0,0)), .row v725 21 1 rw726]) (Lf := .blk b720 (.cells #[pq b722 0, v732] 112 (0,0)) :: .row v732 104 5 rw733 :: .blk b737 (.cells #[.int .i64 (y738.Kind), .string (y738.Name), .string (y738.Text), v1129, .bool (y738.Closed)] 104 (0,0)) :: L) hs rfl has55 rfl rfl (zb0 n hW727 hx1135) (.free rfl) (by decide) ?_; clear hs; (try clear a w)
   rintro _ f1136 _ a w hf1137 ⟨v1138, rw1139, rfl, rfl, hW1140⟩ hs
   replace hW734 := hW734.le hf1137
   replace hbase960 := hbase960.trans hf1137
   refine za0 <| hK32 <| Wq fun hK33 => sM hs rfl fun hs => s1 hs (za5 rfl) fun hs => s1 (v := pq b720 0) hs (za1 rfl (FO.of (off := 0) U112 rfl rfl ti109 (by decide))) fun hs => s1 (v := pq b722 0) hs (y_ld rfl U109 rfl (Cell.blk (.tail _ (.tail _ (.head _))) rfl)) fun hs => ?_
   obtain ⟨x1142, hx1143, hm⟩ := ob hm
   replace hs := hs.front 1
   replace hs := hs.front 1
   refine zbb (Lr := [.blk b722 (.cells #[v1138, .int .i64 (x1134.2.2.at_)] 144 (0,0)), .row v1138 21 1 rw1139]) (Lf := .blk b720 (.cells #[pq b722 0, v732] 112 (0,0)) :: .row v732 104 5 rw733 :: .blk b737 (.cells #[.int .i64 (y738.Kind), .string (y738.Name), .string (y738.Text), v1129, .bool (y738.Closed)] 104 (0,0)) :: L) hs rfl has55 rfl rfl (zb0 n hW1140 hx1143) (.free rfl) (by decide) ?_; clear hs; (try clear a w)
   rintro _ f1144 _ a w hf1145 ⟨v1146, rw1147, rfl, rfl, hW1148⟩ hs
   replace hW734 := hW734.le hf1145
   replace hbase960 := hbase960.trans hf1145
   refine za0 <| hK33 <| Wq fun hK34 => sM hs rfl fun hs => ?_
   obtain ⟨x1150, hx1151, hm⟩ := ob hm
   replace hs := hs.front 3
   replace hs := hs.front 2
   replace hs := hs.front 2
   replace hs := hs.front 3
   refine zbb (Lr := [.blk b720 (.cells #[pq b722 0, v732] 112 (0,0)), .blk b722 (.cells #[v1146, .int .i64 (x1142.2.2.at_)] 144 (0,0)), .row v1146 21 1 rw1147, .row v732 104 5 rw733]) (Lf := .blk b737 (.cells #[.int .i64 (y738.Kind), .string (y738.Name), .string (y738.Text), v1129, .bool (y738.Closed)] 104 (0,0)) :: L) hs rfl has57 rfl rfl (zj7 n hW1148 hW734 hx1151) (.free rfl) (by decide) ?_; clear hs; (try clear a w)
   rintro _ f1152 _ a w hf1153 ⟨r1154, v1156, rw1157, v1159, rw1160, rfl, rfl, hq1155, hW1158, hW1161⟩ hs
   replace hbase960 := hbase960.trans hf1153
   obtain ⟨v1162, rfl, ⟨rw1163, hR1164, hW1165⟩⟩ := hq1155
   refine sM hs rfl fun hs => s1 (v := .agg #[.int .i64 (x1150.1.Kind), .string (x1150.1.Name), .string (x1150.1.Text), v1162, .bool (x1150.1.Closed)]) hs (zap rfl rfl) fun hs => s1 (v := .bool (x1150.2.1)) hs (zap rfl rfl) fun hs => zb5 (i := 4) hs rfl rfl rfl ti104 ⟨rfl, rfl⟩ (AllC.arr (r := [.int .i64 (x1150.1.Kind), .string (x1150.1.Name), .string (x1150.1.Text), v1162, .bool (x1150.1.Closed)]) ⟨rfl, rfl, rfl, hR1164.one, rfl, trivial⟩) (.free rfl) fun _ _ hs => sA hs rfl fun hs => za0 <| hK34 <| Ws fun hK35 => Ws fun hK36 => za2 ?_
   refine sM hs rfl fun hs => s1 (v := .bool ((!x1150.2.1))) hs (zfc rfl) fun hs => za0 <| hK36 ?_
   refine zah hs rfl (fun hg1169 => ?_) (fun hg1169 => ?_)
   ·replace hm := oc_t hg1169 hm
    refine Ws fun hK37 => ?_
    cases hm
   replace hm := oc_f hg1169 hm
   refine zaj <| hK35 <| Ws fun hK38 => ?_
   have hsD := hs.subL (L' := .blk b720 (.cells #[pq b722 0, v1159] 112 (0,0)) :: .blk b737 (.cells #[.int .i64 (x1150.1.Kind), .string (x1150.1.Name), .string (x1150.1.Text), v1162, .bool (x1150.1.Closed)] 104 (0,0)) :: []) (.cons_cons _ (.cons _ (.cons _ (.cons _ (.cons_cons _ (List.nil_sublist _))))))
   have hbd1170 := Fz.le.refl f1152
   refine zj2 hs (.blk b720 (.cells #[pq b722 0, v1159] 112 (0,0)) :: .blk b737 (.cells #[.int .i64 (x1150.1.Kind), .string (x1150.1.Name), .string (x1150.1.Text), v1162, .bool (x1150.1.Closed)] 104 (0,0)) :: []) [10] (.look 0 (.look 1 (.look 2 (.look 3 (.look 4 (.look 5 (.any [6] (fun _ => .any [7] (fun _ => .look 8 (.look 9 (.any [10] (fun _ => .done)))))))))))) mixed (by kernel_rfl) fun _ he => uy (v := pq b720 0) 0 he rfl (za3 rfl) fun _ he => uy (v := pq b720 0) 1 he rfl (za3 rfl) fun _ he => uy 2 he rfl (za5 rfl) fun _ he => uy (v := pq b720 1) 3 he rfl (za1 rfl (FO.of (off := 1) U112 rfl rfl ti69 (by decide))) fun _ he => uy (v := v1159) 4 he rfl (y_ld rfl U69 rfl (Cell.blk (.head _) rfl)) fun _ he => uy 5 he rfl (zj3 rfl U104 rfl ti104 (.tail _ (.head _)) rfl) fun _ he => ?_
   refine zeh he rfl ?_; clear he; (try clear a); intro a w hs
   refine zka hs rfl U69 ti104 (by decide) (AllC.row ⟨rfl, rfl, rfl, hR1164.one, rfl, trivial⟩ rfl) fun v1171 _ _ hs => ?_
   have hW1172 : RW zb1 f1152 [[.int .i64 (x1150.1.Kind), .string (x1150.1.Name), .string (x1150.1.Text), v1162, .bool (x1150.1.Closed)]] [x1150.1] := RW.single (⟨_, rfl, ⟨rw1163, hR1164, hW1165⟩⟩)
   generalize hgrw1173 : ([[.int .i64 (x1150.1.Kind), .string (x1150.1.Name), .string (x1150.1.Text), v1162, .bool (x1150.1.Closed)]] : List (List Value)) = rw1173 at hs hW1172; clear hgrw1173
   have ho1176 : v1171.oneCell' = true := hs.one (i := 0) rfl
   refine uon hs fun _ he => ?_
   refine zeh he rfl ?_; clear he; (try clear a); intro a w hs
   obtain ⟨x1177, hx1178, hm⟩ := ob hm
   obtain ⟨hbx1177, hex1177⟩ := zcb hx1178
   have hW1181 := hW1161.append hW1172; rw [hex1177] at hW1181
   refine zc9 (i := 4) hs rfl rfl rfl (Rd.st hs (.head _)) U69 ti104 (by decide) (by rw [RW.len hW1161, RW.len hW1172]; exact hbx1177) (.free rfl) (by decide) fun v1179 _ _ hs => ?_
   generalize hgx1177 : rw1160 ++ rw1173 = rw1180 at hs hW1181; clear hgx1177
   replace hs := hs.erase 0
   have ho1183 : v1179.oneCell' = true := hs.one (i := 3) rfl
   refine uon hs fun _ he => uy 8 he rfl (za5 rfl) fun _ he => uy (v := pq b720 1) 9 he rfl (za1 rfl (FO.of (off := 1) U112 rfl rfl ti69 (by decide))) fun _ he => ?_
   refine zeh he rfl ?_; clear he; (try clear a); intro a w hs
   refine sstore 0 hs rfl rfl rfl ti69 ho1183 fun _ _ hs => uend hs fun _ he => ?_
   refine zmg he ?_; clear he; (try clear a); intro w hs; try clear hsD
   refine hK38 <| zn1 ?_
   exact hG2.at_ 3 _ _ rfl ⟨k1128, Nat.lt_succ_self _,(.inl ⟨rfl, ⟨_, x1150.2.2.c.l, x1150.2.2.c.at_, x1177, x1150.1, b720, b722, v1156, rw1157, v1179, rw1180, b737,[.int .i64 (x1150.1.Kind), .string (x1150.1.Name), .string (x1150.1.Text), v1162, .bool (x1150.1.Closed)], hbase960, hm, hW1158, hW1181, ⟨_, rfl, ⟨rw1163, hR1164, hW1165⟩⟩, hs.sub ⟨rfl, rfl, trivial⟩⟩⟩)⟩
 intro hB2g G2 hG2
 refine Wq fun hK39 => sM hs rfl fun hs => ?_
 obtain ⟨x1184, hx1185, hm⟩ := ob hm
 refine zhp hs rfl has47 rfl (zm0 n ⟨rw1, hR2, hW3⟩ hx1185) ?_; clear hs; (try clear a w)
 rintro _ f1186 _ a w hf1187 ⟨b1188, v1189, rw1190, rfl, rfl, hW1191⟩ hs
 replace hbase960 := hbase960.trans hf1187
 refine s1 hs (ze4 (places := [(0,1),(1,1)]) (cs := [pq b1188 0,(.slice none 0 0)]) rfl U112 ti112 (by kernel_rfl) (by decide) rfl ⟨rfl, trivial⟩) fun hs => sbox hs rfl fun b1196 _ _ hs => sA hs rfl fun hs => za0 <| hK39 <| Wq fun hK40 => zbl hs ti104 (.free rfl) (by decide) fun b1198 _ _ hs => za0 <| hK40 ?_
 refine Wq fun hK41 => sA hs rfl fun hs => za0 <| hK41 <| Wq fun hK42 => sA hs rfl fun hs => za0 <| hK42 ?_
 replace hs := hs.nilRow 104 5
 have hW1202 : RW zb1 f1186 [] ([] : List za6) := trivial
 generalize hgrw1203 : ([] : List (List Value)) = rw1203 at hs hW1202; clear hgrw1203
 replace hs := hs.front 1
 replace hs := hs.front 1
 replace hs := hs.front 4
 replace hs := hs.front 4
 replace hs := hs.front 4
 exact (hB2g n).into (l := 3) rfl (.inl ⟨rfl, ⟨_, x1184.l, x1184.at_,([] : List za6),({Kind := 0, Name := (bs []), Text := (bs []), Attrs := ([] : List zab), Closed := false} : za6), b1196, b1188, v1189, rw1190,(.slice none 0 0), rw1203, b1198,[.int .i64 (0), .string ((bs [])), .string ((bs [])),(.slice none 0 0), .bool (false)], hbase960, hm, hW1191, hW1202, ⟨_, rfl, RS.nil⟩, hs.sub ⟨rfl, rfl, trivial⟩⟩⟩) hG2 (fun l a w k'' _ hJ => ⟨k'', hJ⟩)
end Go.Proofs.YtpfdbeafdjnbnaaGreatDoor
