/-
  Walks and laws of this seat; the base is the text Base.
-/
import Derived.Test.YthmnohdlhlmmpaaL4g
import Derived.Test.YthmnohdlhlmmpaaL4k
import Derived.Test.YthmnohdlhlmmpaaRows
/-
  Models of functions, and that the functions compute them. Printed by lift.py.
-/
namespace Go.Proofs.Ythmnohdlhlmmpaa
open Go.RowKit Go.Sl
/-! casement/casementlaw4.MarkValues -/
def law4_MarkValues_k2 (y43 : Bool) : Option Bool :=
  some y43
def law4_MarkValues_k1 (n : Nat) (x1 : ByteArray) (y15 : ByteArray) : Option Bool :=
  (addS (bs [60, 105, 32, 113, 61, 34]) y15).bind fun x16 =>
  (addS x16 (bs [34, 32, 119, 32, 61, 32, 39])).bind fun x18 =>
  (addS x18 (bs [49])).bind fun x20 =>
  (addS x20 (bs [39, 62])).bind fun x22 =>
  (runesM x22).bind fun x24 =>
  (mark_Tokens n x24).bind fun x34 =>
  (bif (decide ((x34.length : Int) = 1)) then (geti x34 0).bind fun x45 =>
  (bif (decide ((x45.Attrs.length : Int) = 2)) then (geti x34 0).bind fun x58 =>
  (geti x58.Attrs 0).bind fun x70 =>
  (bif (decide (x70.Name = (bs [113])) && (decide (x70.Value = x1) && true)) then (geti x34 0).bind fun x78 =>
  (geti x78.Attrs 1).bind fun x90 =>
  (bif (decide (x90.Name = (bs [119])) && (decide (x90.Value = (bs [49])) && true)) then (law4_known n).bind fun x98 =>
  law4_MarkValues_k2 x98 else
  law4_MarkValues_k2 false) else
  law4_MarkValues_k2 false) else
  law4_MarkValues_k2 false) else
  law4_MarkValues_k2 false)
def law4_MarkValues_k4 (x1 : ByteArray) (y101 : Nat) (lp102 : ByteArray → Nat → Option Bool) (y104 : ByteArray) : Option Bool :=
  lp102 y104 (y101 + (Utf8.decode x1 y101).2)
def law4_MarkValues_k5 (x1 : ByteArray) (y101 : Nat) (lp102 : ByteArray → Nat → Option Bool) (y108 : ByteArray) : Option Bool :=
  law4_MarkValues_k4 x1 y101 lp102 y108
def law4_MarkValues_l3 (n : Nat) (x1 : ByteArray) : Nat → ByteArray → Nat → Option Bool
  | 0, _, _ => none
  | k102 + 1, y100, y101 =>
  (bif decide (y101 < x1.size) then (bif (decide (((Utf8.decode x1 y101).1 : Int) = 38)) then (addS y100 (bs [38, 97, 109, 112, 59])).bind fun x106 =>
  law4_MarkValues_k4 x1 y101 (law4_MarkValues_l3 n x1 k102) x106 else
  (bif (decide (((Utf8.decode x1 y101).1 : Int) = 34)) then (addS y100 (bs [38, 113, 117, 111, 116, 59])).bind fun x110 =>
  law4_MarkValues_k5 x1 y101 (law4_MarkValues_l3 n x1 k102) x110 else
  (addS y100 (Utf8.encode ((Utf8.decode x1 y101).1 : Int))).bind fun x112 =>
  law4_MarkValues_k5 x1 y101 (law4_MarkValues_l3 n x1 k102) x112)) else
  law4_MarkValues_k1 n x1 y100)
def law4_MarkValues (n : Nat) (p0 : ByteArray) : Option Bool :=
  (keep_Few n p0 300).bind fun x1 =>
  (runesM x1).bind fun x3 =>
  (bif (decide ((textOf x3) ≠ x1)) then (law4_known n).bind fun x11 =>
  some x11 else
  law4_MarkValues_l3 n x1 n (bs []) (0 : Nat))
set_option maxRecDepth 20000 in
set_option maxHeartbeats 4000000 in
theorem law4_MarkValues_ok (n : Nat) {f : Fz} {p0 : ByteArray} {res : Bool}  (hm : law4_MarkValues n p0 = some res) : Gives Try.prog 11 [.string p0] f (.bool res) := by
 unfold law4_MarkValues at hm
 intro w0 L w hC
 refine enter Try.func11 rfl Try.ntmps11 (by simp) hC fun a hs => ?_
 have hle := Fz.le.refl f
 refine W_seq fun K1 hK1 => ?_
 refine W_region ?_
 refine sy (v := .bool (false)) hs (y_assign rfl) ?_; clear hs; (try clear a w); intro a w hs
 refine RL_nil ?_
 refine hK1 _ _ ?_; clear hK1
 refine W_seq fun K2 hK2 => ?_
 refine W_region ?_
 refine sy (v := .string (p0)) hs (y_move rfl) ?_; clear hs; (try clear a w); intro a w hs
 obtain ⟨x1, hx2, hm⟩ := ob hm
 refine sy hs (y_call rfl has25 rfl (keep_Few_ok n (f := f)  hx2)) ?_; clear hs; (try clear a w); intro a w hs
 refine sy (v := .string (x1)) hs (y_assign rfl) ?_; clear hs; (try clear a w); intro a w hs
 refine RL_nil ?_
 refine hK2 _ _ ?_; clear hK2
 refine W_seq fun K3 hK3 => ?_
 refine W_seq fun K4 hK4 => ?_
 refine W_region ?_
 refine sy (v := .string (x1)) hs (y_move rfl) ?_; clear hs; (try clear a w); intro a w hs
 obtain ⟨x3, hx4, hm⟩ := ob hm
 refine RL_s2rW hx4 hs rfl Try.underlying9 Try.underlying32 Try.underlying21 ?_; clear hs; (try clear a w); intro v5 rw6 a w hW7 hs
 replace hs : St _ _ _ (.row v5 21 1 rw6 :: L) _ _ _ := hs
 refine sy (v := .string ((textOf x3))) hs (y_r2sW rfl Try.underlying32 Try.underlying21 Try.underlying9 (Rd.st hs (.head _)) hW7) ?_; clear hs; (try clear a w); intro a w hs
 refine sy (v := .string (x1)) hs (y_move rfl) ?_; clear hs; (try clear a w); intro a w hs
 refine sy hs (y_sneq rfl rfl) ?_; clear hs; (try clear a w); intro a w hs
 refine RL_nil ?_
 refine hK4 _ _ ?_; clear hK4
 refine W_cond hs rfl (fun hg10 => ?_) (fun hg10 => ?_)
 ·replace hm := oc_t hg10 hm
  refine W_seq fun K5 hK5 => ?_
  refine W_region ?_
  obtain ⟨x11, hx12, hm⟩ := ob hm
  refine sy hs (y_call rfl has17 rfl (law4_known_ok n (f := f)  hx12)) ?_; clear hs; (try clear a w); intro a w hs
  refine sy (v := .bool (x11)) hs (y_assign rfl) ?_; clear hs; (try clear a w); intro a w hs
  refine RL_nil ?_
  refine hK5 _ _ ?_; clear hK5
  refine W_ret ?_
  obtain rfl := Option.some.inj hm
  refine RtV1 hs rfl (rv_t hs rfl) ?_
  exact ⟨rfl, ((hs.subL (.cons _ (.refl _))).weak hle).cw⟩
 ·replace hm := oc_f hg10 hm
  refine W_skip ?_
  refine hK3 _ _ ?_; clear hK3
  refine W_seq fun K6 hK6 => ?_
  refine W_region ?_
  refine sy (v := .string ((bs []))) hs (y_assign rfl) ?_; clear hs; (try clear a w); intro a w hs
  refine RL_nil ?_
  refine hK6 _ _ ?_; clear hK6
  refine W_seq fun K7 hK7 => ?_
  refine W_seq fun K8 hK8 => ?_
  refine W_region ?_
  refine sy (v := .string (x1)) hs (y_move rfl) ?_; clear hs; (try clear a w); intro a w hs
  refine RL_range hs rfl Try.underlying9 ?_; clear hs; (try clear a w); intro b13 a w hs
  replace hs : St _ _ _ (.blk b13 (.stringIter x1 (0 : Nat)) :: .row v5 21 1 rw6 :: L) _ _ _ := hs
  refine RL_nil ?_
  refine hK8 _ _ ?_; clear hK8
  refine W_post (fun a w => ∃ (y15 : ByteArray), law4_MarkValues_k1 n x1 y15 = some res ∧ St 75 w0 f (L) [(0, .string (x1)), (3, .string (y15))] a w) ?_ ?_
  ·clear hs hm
   rintro a w ⟨y15, hm, hs⟩
   replace hs : St _ _ _ (L) _ _ _ := hs
   unfold law4_MarkValues_k1 at hm
   refine hK7 _ _ ?_; clear hK7
   refine W_seq fun K9 hK9 => ?_
   refine W_region ?_
   refine sy (v := .string (y15)) hs (y_move rfl) ?_; clear hs; (try clear a w); intro a w hs
   obtain ⟨x16, hx17, hm⟩ := ob hm
   obtain ⟨hbx16, hex16⟩ := addS_some hx17
   refine sy hs (y_saddW rfl rfl hbx16 hex16) ?_; clear hs; (try clear a w); intro a w hs
   obtain ⟨x18, hx19, hm⟩ := ob hm
   obtain ⟨hbx18, hex18⟩ := addS_some hx19
   refine sy hs (y_saddW rfl rfl hbx18 hex18) ?_; clear hs; (try clear a w); intro a w hs
   obtain ⟨x20, hx21, hm⟩ := ob hm
   obtain ⟨hbx20, hex20⟩ := addS_some hx21
   refine sy hs (y_saddW rfl rfl hbx20 hex20) ?_; clear hs; (try clear a w); intro a w hs
   obtain ⟨x22, hx23, hm⟩ := ob hm
   obtain ⟨hbx22, hex22⟩ := addS_some hx23
   refine sy hs (y_saddW rfl rfl hbx22 hex22) ?_; clear hs; (try clear a w); intro a w hs
   obtain ⟨x24, hx25, hm⟩ := ob hm
   refine RL_s2rW hx25 hs rfl Try.underlying9 Try.underlying32 Try.underlying21 ?_; clear hs; (try clear a w); intro v26 rw27 a w hW28 hs
   replace hs : St _ _ _ (.row v26 21 1 rw27 :: L) _ _ _ := hs
   obtain ⟨f31, hf32, hs2, hR33⟩ := hs.frzAt 0 rfl
   clear hs; have hs := hs2; clear hs2
   replace hW28 := hW28.le hf32
   replace hle := hle.trans hf32
   replace hs : St _ _ _ (L) _ _ _ := hs
   obtain ⟨x34, hx35, hm⟩ := ob hm
   refine RL_callV hs rfl has22 rfl (mark_Tokens_ok n (f := f31) (a0 := v26) ⟨rw27, hR33, hW28⟩ hx35) ?_; clear hs; (try clear a w)
   rintro v38 f36 _ a w hf37 ⟨_, rfl, rfl, ⟨rw39, hR40, hW41⟩⟩ hs
   replace hW28 := hW28.le hf37
   replace hR33 := hR33.le hf37
   replace hle := hle.trans hf37
   replace hs : St _ _ _ (L) _ _ _ := hs
   refine sy (v := v38) hs (y_assign rfl) ?_; clear hs; (try clear a w); intro a w hs
   refine RL_nil ?_
   refine hK9 _ _ ?_; clear hK9
   refine W_seq fun K10 hK10 => ?_
   refine W_post (fun a w => ∃ (y43 : Bool), law4_MarkValues_k2 y43 = some res ∧ St 75 w0 f36 (L) [(2, .bool (y43))] a w) ?_ ?_
   ·clear hs hm
    rintro a w ⟨y43, hm, hs⟩
    replace hs : St _ _ _ (L) _ _ _ := hs
    unfold law4_MarkValues_k2 at hm
    refine hK10 _ _ ?_; clear hK10
    refine W_ret ?_
    obtain rfl := Option.some.inj hm
    refine RtV1 hs rfl (rv_t hs rfl) ?_
    exact ⟨rfl, (hs.weak hle).cw⟩
   ·refine W_region ?_
    refine sy (v := v38) hs (y_move rfl) ?_; clear hs; (try clear a w); intro a w hs
    refine sy hs (y_lenW hR40 hW41 rfl Try.underlying37) ?_; clear hs; (try clear a w); intro a w hs
    refine sy hs (y_eql rfl rfl) ?_; clear hs; (try clear a w); intro a w hs
    refine sy (v := .bool (decide ((x34.length : Int) = 1))) hs (y_move rfl) ?_; clear hs; (try clear a w); intro a w hs
    refine St.split hs (t := 43) rfl (fun hg44 hq => ?_) (fun hg44 hq => ?_)
    ·clear hs; have hs := hq; clear hq
     replace hm := oc_t hg44 hm
     refine syg (v := v38) hs (y_move rfl) ?_; clear hs; (try clear a w); intro a w hs
     obtain ⟨x45, hx46, hm⟩ := ob hm
     obtain ⟨r47, hr48, hq49, hi50, hb51⟩ := hW41.geti hx46
     obtain ⟨v52, rfl, ⟨rw53, hR54, hW55⟩⟩ := hq49
     refine syg hs (y_indexAddr hR40 rfl rfl hi50 hb51 Try.underlying37 ti44) ?_; clear hs; (try clear a w); intro a w hs
     refine syg (v := eaddr v38 5 ((0 : Int).toNat) 3) hs (y_fieldAddrE (i := (0 : Int).toNat) (j := 0) hR40 rfl hb51 (FO.of (off := 3) Try.underlying44 rfl rfl ti23 (by decide))) ?_; clear hs; (try clear a w); intro a w hs
     refine syg (v := v52) hs (y_loadE (i := (0 : Int).toNat) (j := 3) hR40.up rfl hr48 rfl Try.underlying23 rfl) ?_; clear hs; (try clear a w); intro a w hs
     refine syg hs (y_lenW hR54 hW55 rfl Try.underlying23) ?_; clear hs; (try clear a w); intro a w hs
     refine syg hs (y_eql rfl rfl) ?_; clear hs; (try clear a w); intro a w hs
     refine sy (v := .bool (decide ((x45.Attrs.length : Int) = 2))) hs (y_pick rfl rfl) ?_; clear hs; (try clear a w); intro a w hs
     refine sy (v := .bool (decide ((x45.Attrs.length : Int) = 2))) hs (y_move rfl) ?_; clear hs; (try clear a w); intro a w hs
     refine St.split hs (t := 51) rfl (fun hg57 hq => ?_) (fun hg57 hq => ?_)
     ·clear hs; have hs := hq; clear hq
      replace hm := oc_t hg57 hm
      refine syg (v := v38) hs (y_move rfl) ?_; clear hs; (try clear a w); intro a w hs
      obtain ⟨x58, hx59, hm⟩ := ob hm
      obtain ⟨r60, hr61, hq62, hi63, hb64⟩ := hW41.geti hx59
      obtain ⟨v65, rfl, ⟨rw66, hR67, hW68⟩⟩ := hq62
      refine syg hs (y_indexAddr hR40 rfl rfl hi63 hb64 Try.underlying37 ti44) ?_; clear hs; (try clear a w); intro a w hs
      refine syg (v := eaddr v38 5 ((0 : Int).toNat) 3) hs (y_fieldAddrE (i := (0 : Int).toNat) (j := 0) hR40 rfl hb64 (FO.of (off := 3) Try.underlying44 rfl rfl ti23 (by decide))) ?_; clear hs; (try clear a w); intro a w hs
      refine syg (v := v65) hs (y_loadE (i := (0 : Int).toNat) (j := 3) hR40.up rfl hr61 rfl Try.underlying23 rfl) ?_; clear hs; (try clear a w); intro a w hs
      obtain ⟨x70, hx71, hm⟩ := ob hm
      obtain ⟨r72, hr73, hq74, hi75, hb76⟩ := hW68.geti hx71
      obtain rfl : _ = ([.string (x70.Name), .string (x70.Value)] : List Value) := hq74
      refine syg hs (y_indexAddr hR67 rfl rfl hi75 hb76 Try.underlying23 ti29) ?_; clear hs; (try clear a w); intro a w hs
      refine syg hs (y_loadRow hR67.up rfl hr73 Try.underlying29 rfl ti29) ?_; clear hs; (try clear a w); intro a w hs
      refine syg (v := .string (x1)) hs (y_move rfl) ?_; clear hs; (try clear a w); intro a w hs
      refine syg hs (y_buildS (places := [(0, 1), (1, 1)]) (cs := [.string ((bs [113])), .string (x1)]) rfl Try.underlying29 ti29 (by kernel_rfl) (by decide) rfl ⟨rfl, rfl, trivial⟩) ?_; clear hs; (try clear a w); intro a w hs
      refine syg hs (y_steql rfl rfl Try.underlying29 (by kernel_rfl) (by kernel_rfl) (fun w => (eqF_str rfl Try.underlying9 rfl rfl (eqF_str rfl Try.underlying9 rfl rfl eqF_nil)))) ?_; clear hs; (try clear a w); intro a w hs
      refine sy (v := .bool ((decide (x70.Name = (bs [113])) && (decide (x70.Value = x1) && true)))) hs (y_pick rfl rfl) ?_; clear hs; (try clear a w); intro a w hs
      refine sy (v := .bool ((decide (x70.Name = (bs [113])) && (decide (x70.Value = x1) && true)))) hs (y_move rfl) ?_; clear hs; (try clear a w); intro a w hs
      refine St.split hs (t := 62) rfl (fun hg77 hq => ?_) (fun hg77 hq => ?_)
      ·clear hs; have hs := hq; clear hq
       replace hm := oc_t hg77 hm
       refine syg (v := v38) hs (y_move rfl) ?_; clear hs; (try clear a w); intro a w hs
       obtain ⟨x78, hx79, hm⟩ := ob hm
       obtain ⟨r80, hr81, hq82, hi83, hb84⟩ := hW41.geti hx79
       obtain ⟨v85, rfl, ⟨rw86, hR87, hW88⟩⟩ := hq82
       refine syg hs (y_indexAddr hR40 rfl rfl hi83 hb84 Try.underlying37 ti44) ?_; clear hs; (try clear a w); intro a w hs
       refine syg (v := eaddr v38 5 ((0 : Int).toNat) 3) hs (y_fieldAddrE (i := (0 : Int).toNat) (j := 0) hR40 rfl hb84 (FO.of (off := 3) Try.underlying44 rfl rfl ti23 (by decide))) ?_; clear hs; (try clear a w); intro a w hs
       refine syg (v := v85) hs (y_loadE (i := (0 : Int).toNat) (j := 3) hR40.up rfl hr81 rfl Try.underlying23 rfl) ?_; clear hs; (try clear a w); intro a w hs
       obtain ⟨x90, hx91, hm⟩ := ob hm
       obtain ⟨r92, hr93, hq94, hi95, hb96⟩ := hW88.geti hx91
       obtain rfl : _ = ([.string (x90.Name), .string (x90.Value)] : List Value) := hq94
       refine syg hs (y_indexAddr hR87 rfl rfl hi95 hb96 Try.underlying23 ti29) ?_; clear hs; (try clear a w); intro a w hs
       refine syg hs (y_loadRow hR87.up rfl hr93 Try.underlying29 rfl ti29) ?_; clear hs; (try clear a w); intro a w hs
       refine syg hs (y_buildS (places := [(0, 1), (1, 1)]) (cs := [.string ((bs [119])), .string ((bs [49]))]) rfl Try.underlying29 ti29 (by kernel_rfl) (by decide) rfl ⟨rfl, rfl, trivial⟩) ?_; clear hs; (try clear a w); intro a w hs
       refine syg hs (y_steql rfl rfl Try.underlying29 (by kernel_rfl) (by kernel_rfl) (fun w => (eqF_str rfl Try.underlying9 rfl rfl (eqF_str rfl Try.underlying9 rfl rfl eqF_nil)))) ?_; clear hs; (try clear a w); intro a w hs
       refine sy (v := .bool ((decide (x90.Name = (bs [119])) && (decide (x90.Value = (bs [49])) && true)))) hs (y_pick rfl rfl) ?_; clear hs; (try clear a w); intro a w hs
       refine sy (v := .bool ((decide (x90.Name = (bs [119])) && (decide (x90.Value = (bs [49])) && true)))) hs (y_move rfl) ?_; clear hs; (try clear a w); intro a w hs
       refine St.split hs (t := 72) rfl (fun hg97 hq => ?_) (fun hg97 hq => ?_)
       ·clear hs; have hs := hq; clear hq
        replace hm := oc_t hg97 hm
        obtain ⟨x98, hx99, hm⟩ := ob hm
        refine syg hs (y_call rfl has17 rfl (law4_known_ok n (f := f36)  hx99)) ?_; clear hs; (try clear a w); intro a w hs
        refine sy (v := .bool (x98)) hs (y_pick rfl rfl) ?_; clear hs; (try clear a w); intro a w hs
        refine sy (v := .bool (x98)) hs (y_assign rfl) ?_; clear hs; (try clear a w); intro a w hs
        refine RL_nil ?_
        exact ⟨x98, hm, hs.sub ⟨rfl, trivial⟩⟩
       ·clear hs; have hs := hq; clear hq
        replace hm := oc_f hg97 hm
        refine sno hs ?_; clear hs; (try clear a w); intro a w hs
        refine sy (v := .bool (false)) hs (y_pick rfl rfl) ?_; clear hs; (try clear a w); intro a w hs
        refine sy (v := .bool (false)) hs (y_assign rfl) ?_; clear hs; (try clear a w); intro a w hs
        refine RL_nil ?_
        exact ⟨false, hm, hs.sub ⟨rfl, trivial⟩⟩
      ·clear hs; have hs := hq; clear hq
       replace hm := oc_f hg77 hm
       refine sno hs ?_; clear hs; (try clear a w); intro a w hs
       refine sno hs ?_; clear hs; (try clear a w); intro a w hs
       refine sno hs ?_; clear hs; (try clear a w); intro a w hs
       refine sno hs ?_; clear hs; (try clear a w); intro a w hs
       refine sno hs ?_; clear hs; (try clear a w); intro a w hs
       refine sno hs ?_; clear hs; (try clear a w); intro a w hs
       refine sno hs ?_; clear hs; (try clear a w); intro a w hs
       refine sno hs ?_; clear hs; (try clear a w); intro a w hs
       refine sy (v := .bool (false)) hs (y_pick rfl rfl) ?_; clear hs; (try clear a w); intro a w hs
       refine sy (v := .bool (false)) hs (y_move rfl) ?_; clear hs; (try clear a w); intro a w hs
       refine sno hs ?_; clear hs; (try clear a w); intro a w hs
       refine sy (v := .bool (false)) hs (y_pick rfl rfl) ?_; clear hs; (try clear a w); intro a w hs
       refine sy (v := .bool (false)) hs (y_assign rfl) ?_; clear hs; (try clear a w); intro a w hs
       refine RL_nil ?_
       exact ⟨false, hm, hs.sub ⟨rfl, trivial⟩⟩
     ·clear hs; have hs := hq; clear hq
      replace hm := oc_f hg57 hm
      refine sno hs ?_; clear hs; (try clear a w); intro a w hs
      refine sno hs ?_; clear hs; (try clear a w); intro a w hs
      refine sno hs ?_; clear hs; (try clear a w); intro a w hs
      refine sno hs ?_; clear hs; (try clear a w); intro a w hs
      refine sno hs ?_; clear hs; (try clear a w); intro a w hs
      refine sno hs ?_; clear hs; (try clear a w); intro a w hs
      refine sno hs ?_; clear hs; (try clear a w); intro a w hs
      refine sno hs ?_; clear hs; (try clear a w); intro a w hs
      refine sno hs ?_; clear hs; (try clear a w); intro a w hs
      refine sy (v := .bool (false)) hs (y_pick rfl rfl) ?_; clear hs; (try clear a w); intro a w hs
      refine sy (v := .bool (false)) hs (y_move rfl) ?_; clear hs; (try clear a w); intro a w hs
      refine sno hs ?_; clear hs; (try clear a w); intro a w hs
      refine sno hs ?_; clear hs; (try clear a w); intro a w hs
      refine sno hs ?_; clear hs; (try clear a w); intro a w hs
      refine sno hs ?_; clear hs; (try clear a w); intro a w hs
      refine sno hs ?_; clear hs; (try clear a w); intro a w hs
      refine sno hs ?_; clear hs; (try clear a w); intro a w hs
      refine sno hs ?_; clear hs; (try clear a w); intro a w hs
      refine sno hs ?_; clear hs; (try clear a w); intro a w hs
      refine sy (v := .bool (false)) hs (y_pick rfl rfl) ?_; clear hs; (try clear a w); intro a w hs
      refine sy (v := .bool (false)) hs (y_move rfl) ?_; clear hs; (try clear a w); intro a w hs
      refine sno hs ?_; clear hs; (try clear a w); intro a w hs
      refine sy (v := .bool (false)) hs (y_pick rfl rfl) ?_; clear hs; (try clear a w); intro a w hs
      refine sy (v := .bool (false)) hs (y_assign rfl) ?_; clear hs; (try clear a w); intro a w hs
      refine RL_nil ?_
      exact ⟨false, hm, hs.sub ⟨rfl, trivial⟩⟩
    ·clear hs; have hs := hq; clear hq
     replace hm := oc_f hg44 hm
     refine sno hs ?_; clear hs; (try clear a w); intro a w hs
     refine sno hs ?_; clear hs; (try clear a w); intro a w hs
     refine sno hs ?_; clear hs; (try clear a w); intro a w hs
     refine sno hs ?_; clear hs; (try clear a w); intro a w hs
     refine sno hs ?_; clear hs; (try clear a w); intro a w hs
     refine sno hs ?_; clear hs; (try clear a w); intro a w hs
     refine sy (v := .bool (false)) hs (y_pick rfl rfl) ?_; clear hs; (try clear a w); intro a w hs
     refine sy (v := .bool (false)) hs (y_move rfl) ?_; clear hs; (try clear a w); intro a w hs
     refine sno hs ?_; clear hs; (try clear a w); intro a w hs
     refine sno hs ?_; clear hs; (try clear a w); intro a w hs
     refine sno hs ?_; clear hs; (try clear a w); intro a w hs
     refine sno hs ?_; clear hs; (try clear a w); intro a w hs
     refine sno hs ?_; clear hs; (try clear a w); intro a w hs
     refine sno hs ?_; clear hs; (try clear a w); intro a w hs
     refine sno hs ?_; clear hs; (try clear a w); intro a w hs
     refine sno hs ?_; clear hs; (try clear a w); intro a w hs
     refine sno hs ?_; clear hs; (try clear a w); intro a w hs
     refine sy (v := .bool (false)) hs (y_pick rfl rfl) ?_; clear hs; (try clear a w); intro a w hs
     refine sy (v := .bool (false)) hs (y_move rfl) ?_; clear hs; (try clear a w); intro a w hs
     refine sno hs ?_; clear hs; (try clear a w); intro a w hs
     refine sno hs ?_; clear hs; (try clear a w); intro a w hs
     refine sno hs ?_; clear hs; (try clear a w); intro a w hs
     refine sno hs ?_; clear hs; (try clear a w); intro a w hs
     refine sno hs ?_; clear hs; (try clear a w); intro a w hs
     refine sno hs ?_; clear hs; (try clear a w); intro a w hs
     refine sno hs ?_; clear hs; (try clear a w); intro a w hs
     refine sno hs ?_; clear hs; (try clear a w); intro a w hs
     refine sy (v := .bool (false)) hs (y_pick rfl rfl) ?_; clear hs; (try clear a w); intro a w hs
     refine sy (v := .bool (false)) hs (y_move rfl) ?_; clear hs; (try clear a w); intro a w hs
     refine sno hs ?_; clear hs; (try clear a w); intro a w hs
     refine sy (v := .bool (false)) hs (y_pick rfl rfl) ?_; clear hs; (try clear a w); intro a w hs
     refine sy (v := .bool (false)) hs (y_assign rfl) ?_; clear hs; (try clear a w); intro a w hs
     refine RL_nil ?_
     exact ⟨false, hm, hs.sub ⟨rfl, trivial⟩⟩
  ·refine W_block fun Qe11 hB11 hO11 => ?_
   refine W_loop (fun (k : Nat) a w => ∃ (y100 : ByteArray) (y101 : Nat), law4_MarkValues_l3 n x1 k y100 y101 = some res ∧ St 75 w0 f (.blk b13 (.stringIter x1 y101) :: L) [(0, .string (x1)), (3, .string (y100)), (16, .pointer (some ⟨b13, 0, none⟩))] a w) (fun k => k) n ⟨(bs []), (0 : Nat), hm, hs.subs ⟨rfl, rfl, rfl, trivial⟩ (.cons_cons _ (.cons _ (.refl _)))⟩ ?_
   clear hs hm
   intro k
   rintro a w ⟨y100, y101, hm, hs⟩
   replace hs : St _ _ _ (.blk b13 (.stringIter x1 y101) :: L) _ _ _ := hs
   intro K12 hK12
   cases k with
   | zero => simp [law4_MarkValues_l3] at hm
   | succ k102 =>
    rw [law4_MarkValues_l3] at hm
    refine W_seq fun K13 hK13 => ?_
    refine W_region ?_
    refine RL_next (i := 0) hs rfl rfl (fun hg103 => ?_) (fun hg103 => ?_)
    ·replace hm := oc_t (decide_eq_true hg103) hm; clear hs; (try clear a w); intro a w hs
     replace hs : St _ _ _ (.blk b13 (.stringIter x1 (y101 + (Utf8.decode x1 y101).2)) :: L) _ _ _ := hs
     refine sy (v := .bool (true)) hs (y_extract rfl rfl) ?_; clear hs; (try clear a w); intro a w hs
     refine RL_nil ?_
     refine hK13 _ _ ?_; clear hK13
     refine W_seq fun K14 hK14 => ?_
     refine W_condT hs rfl ?_
     refine W_skip ?_
     refine hK14 _ _ ?_; clear hK14
     refine W_block fun Qe15 hB15 hO15 => ?_
     refine W_seq fun K16 hK16 => ?_
     refine W_region ?_
     refine sy (v := .int .i32 (((Utf8.decode x1 y101).1 : Int))) hs (y_extract rfl rfl) ?_; clear hs; (try clear a w); intro a w hs
     refine sy (v := .int .i32 (((Utf8.decode x1 y101).1 : Int))) hs (y_assign rfl) ?_; clear hs; (try clear a w); intro a w hs
     refine RL_nil ?_
     refine hK16 _ _ ?_; clear hK16
     refine W_seq fun K17 hK17 => ?_
     refine W_region ?_
     refine sy (v := .int .i32 (((Utf8.decode x1 y101).1 : Int))) hs (y_move rfl) ?_; clear hs; (try clear a w); intro a w hs
     refine RL_nil ?_
     refine hK17 _ _ ?_; clear hK17
     refine W_block fun Qe18 hB18 hO18 => ?_
     refine W_seq fun K19 hK19 => ?_
     refine W_region ?_
     refine sy hs (y_eql rfl rfl) ?_; clear hs; (try clear a w); intro a w hs
     refine sy (v := .bool (decide (((Utf8.decode x1 y101).1 : Int) = 38))) hs (y_assign rfl) ?_; clear hs; (try clear a w); intro a w hs
     refine RL_nil ?_
     refine hK19 _ _ ?_; clear hK19
     refine W_post (fun a w => ∃ (y104 : ByteArray), law4_MarkValues_k4 x1 y101 (law4_MarkValues_l3 n x1 k102) y104 = some res ∧ St 75 w0 f (.blk b13 (.stringIter x1 (y101 + (Utf8.decode x1 y101).2)) :: L) [(0, .string (x1)), (3, .string (y104)), (16, .pointer (some ⟨b13, 0, none⟩))] a w) ?_ ?_
     ·clear hs hm
      rintro a w ⟨y104, hm, hs⟩
      replace hs : St _ _ _ (.blk b13 (.stringIter x1 (y101 + (Utf8.decode x1 y101).2)) :: L) _ _ _ := hs
      unfold law4_MarkValues_k4 at hm
      exact hK12 k102 _ _ (Nat.lt_succ_self _) ⟨y104, (y101 + (Utf8.decode x1 y101).2), hm, hs.sub ⟨rfl, rfl, rfl, trivial⟩⟩
     ·refine W_cond hs rfl (fun hg105 => ?_) (fun hg105 => ?_)
      ·replace hm := oc_t hg105 hm
       refine W_region ?_
       refine sy (v := .string (y100)) hs (y_move rfl) ?_; clear hs; (try clear a w); intro a w hs
       obtain ⟨x106, hx107, hm⟩ := ob hm
       obtain ⟨hbx106, hex106⟩ := addS_some hx107
       refine sy hs (y_saddW rfl rfl hbx106 hex106) ?_; clear hs; (try clear a w); intro a w hs
       refine sy (v := .string (x106)) hs (y_assign rfl) ?_; clear hs; (try clear a w); intro a w hs
       refine RL_nil ?_
       exact ⟨x106, hm, hs.sub ⟨rfl, rfl, rfl, trivial⟩⟩
      ·replace hm := oc_f hg105 hm
       refine W_seq fun K20 hK20 => ?_
       refine W_region ?_
       refine sy hs (y_eql rfl rfl) ?_; clear hs; (try clear a w); intro a w hs
       refine sy (v := .bool (decide (((Utf8.decode x1 y101).1 : Int) = 34))) hs (y_assign rfl) ?_; clear hs; (try clear a w); intro a w hs
       refine RL_nil ?_
       refine hK20 _ _ ?_; clear hK20
       refine W_post (fun a w => ∃ (y108 : ByteArray), law4_MarkValues_k5 x1 y101 (law4_MarkValues_l3 n x1 k102) y108 = some res ∧ St 75 w0 f (.blk b13 (.stringIter x1 (y101 + (Utf8.decode x1 y101).2)) :: L) [(0, .string (x1)), (3, .string (y108)), (16, .pointer (some ⟨b13, 0, none⟩))] a w) ?_ ?_
       ·clear hs hm
        rintro a w ⟨y108, hm, hs⟩
        replace hs : St _ _ _ (.blk b13 (.stringIter x1 (y101 + (Utf8.decode x1 y101).2)) :: L) _ _ _ := hs
        unfold law4_MarkValues_k5 at hm
        exact ⟨y108, hm, hs.sub ⟨rfl, rfl, rfl, trivial⟩⟩
       ·refine W_cond hs rfl (fun hg109 => ?_) (fun hg109 => ?_)
        ·replace hm := oc_t hg109 hm
         refine W_region ?_
         refine sy (v := .string (y100)) hs (y_move rfl) ?_; clear hs; (try clear a w); intro a w hs
         obtain ⟨x110, hx111, hm⟩ := ob hm
         obtain ⟨hbx110, hex110⟩ := addS_some hx111
         refine sy hs (y_saddW rfl rfl hbx110 hex110) ?_; clear hs; (try clear a w); intro a w hs
         refine sy (v := .string (x110)) hs (y_assign rfl) ?_; clear hs; (try clear a w); intro a w hs
         refine RL_nil ?_
         exact ⟨x110, hm, hs.sub ⟨rfl, rfl, rfl, trivial⟩⟩
        ·replace hm := oc_f hg109 hm
         refine W_region ?_
         refine sy (v := .string (y100)) hs (y_move rfl) ?_; clear hs; (try clear a w); intro a w hs
         refine sy (v := .int .i32 (((Utf8.decode x1 y101).1 : Int))) hs (y_move rfl) ?_; clear hs; (try clear a w); intro a w hs
         refine sy (v := .string ((Utf8.encode ((Utf8.decode x1 y101).1 : Int)))) hs (y_i2s rfl (by rw [Try.underlying21]; rfl) Try.underlying9) ?_; clear hs; (try clear a w); intro a w hs
         obtain ⟨x112, hx113, hm⟩ := ob hm
         obtain ⟨hbx112, hex112⟩ := addS_some hx113
         refine sy hs (y_saddW rfl rfl hbx112 hex112) ?_; clear hs; (try clear a w); intro a w hs
         refine sy (v := .string (x112)) hs (y_assign rfl) ?_; clear hs; (try clear a w); intro a w hs
         refine RL_nil ?_
         exact ⟨x112, hm, hs.sub ⟨rfl, rfl, rfl, trivial⟩⟩
    ·replace hm := oc_f (decide_eq_false (Nat.not_lt.2 hg103)) hm; clear hs; (try clear a w); intro a w hs
     refine sy (v := .bool (false)) hs (y_extract rfl rfl) ?_; clear hs; (try clear a w); intro a w hs
     refine RL_nil ?_
     refine hK13 _ _ ?_; clear hK13
     refine W_seq fun K21 hK21 => ?_
     refine W_condF hs rfl ?_
     refine W_exit ?_
     refine hB11 _ _ ?_
     exact ⟨y100, hm, hs.subs ⟨rfl, rfl, trivial⟩ (.cons _ (.refl _))⟩
end Go.Proofs.Ythmnohdlhlmmpaa
