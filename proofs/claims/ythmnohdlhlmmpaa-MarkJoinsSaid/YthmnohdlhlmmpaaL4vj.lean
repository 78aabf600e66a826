/-
  Walks and laws of this seat; the base is the text Base.
-/
import Derived.Test.YthmnohdlhlmmpaaL4g
import Derived.Test.YthmnohdlhlmmpaaL4k
import Derived.Test.YthmnohdlhlmmpaaRows
/-
  Models of functions, and that the functions compute them. Printed by lift.py.
-/
namespace Go.Proofs.Ythmnohdlhlmmpaa
open Go.RowKit Go.Sl
/-! casement/casementlaw4.MarkJoins -/
def law4_MarkJoins_k2 (n : Nat) : Option Bool :=
  (law4_known n).bind fun x45 =>
  some x45
def law4_MarkJoins_l3 (n : Nat) (x15 : (List mark_Token)) (x34 : (List mark_Token)) : Nat → Int → Option Bool
  | 0, _ => none
  | k48 + 1, y47 =>
  (bif (decide (y47 < (x34.length : Int))) then (geti x15 (w64 (y47 + 1))).bind fun x50 =>
  (geti x34 y47).bind fun x62 =>
  (law4_same n x50 x62).bind fun x74 =>
  (bif (!x74) then some false else
  (law4_MarkJoins_l3 n x15 x34 k48) (w64 (y47 + 1))) else
  law4_MarkJoins_k2 n)
def law4_MarkJoins_k1 (n : Nat) (x15 : (List mark_Token)) (x34 : (List mark_Token)) (y43 : Bool) : Option Bool :=
  (bif y43 then some false else
  law4_MarkJoins_l3 n x15 x34 n 0)
def law4_MarkJoins (n : Nat) (p0 : ByteArray) : Option Bool :=
  (keep_Few n p0 500).bind fun x1 =>
  (addS (bs [60, 105, 62]) x1).bind fun x3 =>
  (runesM x3).bind fun x5 =>
  (mark_Tokens n x5).bind fun x15 =>
  (runesM x1).bind fun x24 =>
  (mark_Tokens n x24).bind fun x34 =>
  (bif (decide ((x15.length : Int) ≠ (w64 ((x34.length : Int) + 1)))) then law4_MarkJoins_k1 n x15 x34 true else
  (geti x15 0).bind fun x78 =>
  (bif (decide (x78.Kind ≠ 2)) then law4_MarkJoins_k1 n x15 x34 true else
  (geti x15 0).bind fun x91 =>
  law4_MarkJoins_k1 n x15 x34 (decide (x91.Name ≠ (bs [105])))))
set_option maxRecDepth 20000 in
set_option maxHeartbeats 4000000 in
theorem law4_MarkJoins_ok (n : Nat) {f : Fz} {p0 : ByteArray} {res : Bool}  (hm : law4_MarkJoins n p0 = some res) : Gives Try.prog 8 [.string p0] f (.bool res) := by
 unfold law4_MarkJoins at hm
 intro w0 L w hC
 refine enter Try.func8 rfl Try.ntmps8 (by simp) hC fun a hs => ?_
 have hle := Fz.le.refl f
 refine W_seq fun K1 hK1 => ?_
 refine W_region ?_
 refine sy (v := .bool (false)) hs (y_assign rfl) ?_; clear hs; (try clear a w); intro a w hs
 refine RL_nil ?_
 refine hK1 _ _ ?_; clear hK1
 refine W_seq fun K2 hK2 => ?_
 refine W_region ?_
 refine sy (v := .string (p0)) hs (y_move rfl) ?_; clear hs; (try clear a w); intro a w hs
 obtain ⟨x1, hx2, hm⟩ := ob hm
 refine sy hs (y_call rfl has25 rfl (keep_Few_ok n (f := f)  hx2)) ?_; clear hs; (try clear a w); intro a w hs
 refine sy (v := .string (x1)) hs (y_assign rfl) ?_; clear hs; (try clear a w); intro a w hs
 refine RL_nil ?_
 refine hK2 _ _ ?_; clear hK2
 refine W_seq fun K3 hK3 => ?_
 refine W_region ?_
 refine sy (v := .string (x1)) hs (y_move rfl) ?_; clear hs; (try clear a w); intro a w hs
 obtain ⟨x3, hx4, hm⟩ := ob hm
 obtain ⟨hbx3, hex3⟩ := addS_some hx4
 refine sy hs (y_saddW rfl rfl hbx3 hex3) ?_; clear hs; (try clear a w); intro a w hs
 obtain ⟨x5, hx6, hm⟩ := ob hm
 refine RL_s2rW hx6 hs rfl Try.underlying9 Try.underlying32 Try.underlying21 ?_; clear hs; (try clear a w); intro v7 rw8 a w hW9 hs
 replace hs : St _ _ _ (.row v7 21 1 rw8 :: L) _ _ _ := hs
 obtain ⟨f12, hf13, hs2, hR14⟩ := hs.frzAt 0 rfl
 clear hs; have hs := hs2; clear hs2
 replace hW9 := hW9.le hf13
 replace hle := hle.trans hf13
 replace hs : St _ _ _ (L) _ _ _ := hs
 obtain ⟨x15, hx16, hm⟩ := ob hm
 refine RL_callV hs rfl has22 rfl (mark_Tokens_ok n (f := f12) (a0 := v7) ⟨rw8, hR14, hW9⟩ hx16) ?_; clear hs; (try clear a w)
 rintro v19 f17 _ a w hf18 ⟨_, rfl, rfl, ⟨rw20, hR21, hW22⟩⟩ hs
 replace hW9 := hW9.le hf18
 replace hR14 := hR14.le hf18
 replace hle := hle.trans hf18
 replace hs : St _ _ _ (L) _ _ _ := hs
 refine sy (v := v19) hs (y_assign rfl) ?_; clear hs; (try clear a w); intro a w hs
 refine RL_nil ?_
 refine hK3 _ _ ?_; clear hK3
 refine W_seq fun K4 hK4 => ?_
 refine W_region ?_
 refine sy (v := .string (x1)) hs (y_move rfl) ?_; clear hs; (try clear a w); intro a w hs
 obtain ⟨x24, hx25, hm⟩ := ob hm
 refine RL_s2rW hx25 hs rfl Try.underlying9 Try.underlying32 Try.underlying21 ?_; clear hs; (try clear a w); intro v26 rw27 a w hW28 hs
 replace hs : St _ _ _ (.row v26 21 1 rw27 :: L) _ _ _ := hs
 obtain ⟨f31, hf32, hs2, hR33⟩ := hs.frzAt 0 rfl
 clear hs; have hs := hs2; clear hs2
 replace hW9 := hW9.le hf32
 replace hR14 := hR14.le hf32
 replace hR21 := hR21.le hf32
 replace hW22 := hW22.le hf32
 replace hW28 := hW28.le hf32
 replace hle := hle.trans hf32
 replace hs : St _ _ _ (L) _ _ _ := hs
 obtain ⟨x34, hx35, hm⟩ := ob hm
 refine RL_callV hs rfl has22 rfl (mark_Tokens_ok n (f := f31) (a0 := v26) ⟨rw27, hR33, hW28⟩ hx35) ?_; clear hs; (try clear a w)
 rintro v38 f36 _ a w hf37 ⟨_, rfl, rfl, ⟨rw39, hR40, hW41⟩⟩ hs
 replace hW9 := hW9.le hf37
 replace hR14 := hR14.le hf37
 replace hR21 := hR21.le hf37
 replace hW22 := hW22.le hf37
 replace hW28 := hW28.le hf37
 replace hR33 := hR33.le hf37
 replace hle := hle.trans hf37
 replace hs : St _ _ _ (L) _ _ _ := hs
 refine sy (v := v38) hs (y_assign rfl) ?_; clear hs; (try clear a w); intro a w hs
 refine RL_nil ?_
 refine hK4 _ _ ?_; clear hK4
 refine W_seq fun K5 hK5 => ?_
 refine W_seq fun K6 hK6 => ?_
 refine W_post (fun a w => ∃ (y43 : Bool), law4_MarkJoins_k1 n x15 x34 y43 = some res ∧ St 53 w0 f36 (L) [(3, v19), (4, v38), (34, .bool (y43))] a w) ?_ ?_
 ·clear hs hm
  rintro a w ⟨y43, hm, hs⟩
  replace hs : St _ _ _ (L) _ _ _ := hs
  unfold law4_MarkJoins_k1 at hm
  refine hK6 _ _ ?_; clear hK6
  refine W_cond hs rfl (fun hg44 => ?_) (fun hg44 => ?_)
  ·replace hm := oc_t hg44 hm
   refine W_seq fun K7 hK7 => ?_
   refine W_region ?_
   refine sy (v := .bool (false)) hs (y_assign rfl) ?_; clear hs; (try clear a w); intro a w hs
   refine RL_nil ?_
   refine hK7 _ _ ?_; clear hK7
   refine W_ret ?_
   obtain rfl := Option.some.inj hm
   refine RtV1 hs rfl (rv_t hs rfl) ?_
   exact ⟨rfl, (hs.weak hle).cw⟩
  ·replace hm := oc_f hg44 hm
   refine W_skip ?_
   refine hK5 _ _ ?_; clear hK5
   refine W_seq fun K8 hK8 => ?_
   refine W_seq fun K9 hK9 => ?_
   refine W_region ?_
   refine sy (v := .int .i64 (0)) hs (y_assign rfl) ?_; clear hs; (try clear a w); intro a w hs
   refine RL_nil ?_
   refine hK9 _ _ ?_; clear hK9
   refine W_post (fun a w => law4_MarkJoins_k2 n = some res ∧ St 53 w0 f36 (L) [] a w) ?_ ?_
   ·clear hs hm
    rintro a w ⟨hm, hs⟩
    replace hs : St _ _ _ (L) _ _ _ := hs
    unfold law4_MarkJoins_k2 at hm
    refine hK8 _ _ ?_; clear hK8
    refine W_seq fun K10 hK10 => ?_
    refine W_region ?_
    obtain ⟨x45, hx46, hm⟩ := ob hm
    refine sy hs (y_call rfl has17 rfl (law4_known_ok n (f := f36)  hx46)) ?_; clear hs; (try clear a w); intro a w hs
    refine sy (v := .bool (x45)) hs (y_assign rfl) ?_; clear hs; (try clear a w); intro a w hs
    refine RL_nil ?_
    refine hK10 _ _ ?_; clear hK10
    refine W_ret ?_
    obtain rfl := Option.some.inj hm
    refine RtV1 hs rfl (rv_t hs rfl) ?_
    exact ⟨rfl, (hs.weak hle).cw⟩
   ·refine W_block fun Qe11 hB11 hO11 => ?_
    refine W_loop (fun (k : Nat) a w => ∃ (y47 : Int), law4_MarkJoins_l3 n x15 x34 k y47 = some res ∧ St 53 w0 f36 (L) [(3, v19), (4, v38), (5, .int .i64 (y47))] a w) (fun k => k) n ⟨0, hm, hs.sub ⟨rfl, rfl, rfl, trivial⟩⟩ ?_
    clear hs hm
    intro k
    rintro a w ⟨y47, hm, hs⟩
    replace hs : St _ _ _ (L) _ _ _ := hs
    intro K12 hK12
    cases k with
    | zero => simp [law4_MarkJoins_l3] at hm
    | succ k48 =>
     rw [law4_MarkJoins_l3] at hm
     refine W_seq fun K13 hK13 => ?_
     refine W_seq fun K14 hK14 => ?_
     refine W_region ?_
     refine sy (v := .int .i64 (y47)) hs (y_move rfl) ?_; clear hs; (try clear a w); intro a w hs
     refine sy (v := v38) hs (y_move rfl) ?_; clear hs; (try clear a w); intro a w hs
     refine sy hs (y_lenW hR40 hW41 rfl Try.underlying37) ?_; clear hs; (try clear a w); intro a w hs
     refine sy hs (y_lss rfl rfl) ?_; clear hs; (try clear a w); intro a w hs
     refine RL_nil ?_
     refine hK14 _ _ ?_; clear hK14
     refine W_cond hs rfl (fun hg49 => ?_) (fun hg49 => ?_)
     ·replace hm := oc_t hg49 hm
      refine W_skip ?_
      refine hK13 _ _ ?_; clear hK13
      refine W_seq fun K15 hK15 => ?_
      refine W_block fun Qe16 hB16 hO16 => ?_
      refine W_seq fun K17 hK17 => ?_
      refine W_draw hs mixed (by kernel_rfl) ?_; intro a he
      refine qy (v := v19) he (y_move rfl) ?_; clear he; (try clear a); intro a he
      refine qy (v := .int .i64 (y47)) he (y_move rfl) ?_; clear he; (try clear a); intro a he
      refine qy he (y_add rfl rfl rfl) ?_; clear he; (try clear a); intro a he
      obtain ⟨x50, hx51, hm⟩ := ob hm
      obtain ⟨r52, hr53, hq54, hi55, hb56⟩ := hW22.geti hx51
      obtain ⟨v57, rfl, ⟨rw58, hR59, hW60⟩⟩ := hq54
      refine qy he (y_indexAddr hR21 rfl rfl hi55 hb56 Try.underlying37 ti44) ?_; clear he; (try clear a); intro a he
      refine qy he (y_loadRow hR21.up rfl hr53 Try.underlying44 rfl ti44) ?_; clear he; (try clear a); intro a he
      refine qy (v := v38) he (y_move rfl) ?_; clear he; (try clear a); intro a he
      refine qy (v := .int .i64 (y47)) he (y_move rfl) ?_; clear he; (try clear a); intro a he
      obtain ⟨x62, hx63, hm⟩ := ob hm
      obtain ⟨r64, hr65, hq66, hi67, hb68⟩ := hW41.geti hx63
      obtain ⟨v69, rfl, ⟨rw70, hR71, hW72⟩⟩ := hq66
      refine qy he (y_indexAddr hR40 rfl rfl hi67 hb68 Try.underlying37 ti44) ?_; clear he; (try clear a); intro a he
      refine qy he (y_loadRow hR40.up rfl hr65 Try.underlying44 rfl ti44) ?_; clear he; (try clear a); intro a he
      obtain ⟨x74, hx75, hm⟩ := ob hm
      refine qy he (y_call rfl has27 rfl (law4_same_ok n (f := f36) (a0 := [.int .i64 (x50.Kind), .string (x50.Name), .string (x50.Text), v57, .bool (x50.Closed)]) (a1 := [.int .i64 (x62.Kind), .string (x62.Name), .string (x62.Text), v69, .bool (x62.Closed)]) ⟨_, rfl, ⟨rw58, hR59, hW60⟩⟩ ⟨_, rfl, ⟨rw70, hR71, hW72⟩⟩ hx75)) ?_; clear he; (try clear a); intro a he
      refine qy (v := .bool ((!x74))) he (y_not rfl) ?_; clear he; (try clear a); intro a he
      refine QL_nil he ?_; clear he; (try clear hs); (try clear a); intro a w hs
      refine hK17 _ _ ?_; clear hK17
      refine W_cond hs rfl (fun hg76 => ?_) (fun hg76 => ?_)
      ·replace hm := oc_t hg76 hm
       refine W_seq fun K18 hK18 => ?_
       refine W_region ?_
       refine sy (v := .bool (false)) hs (y_assign rfl) ?_; clear hs; (try clear a w); intro a w hs
       refine RL_nil ?_
       refine hK18 _ _ ?_; clear hK18
       refine W_ret ?_
       obtain rfl := Option.some.inj hm
       refine RtV1 hs rfl (rv_t hs rfl) ?_
       exact ⟨rfl, (hs.weak hle).cw⟩
      ·replace hm := oc_f hg76 hm
       refine W_skip ?_
       refine hK15 _ _ ?_; clear hK15
       refine W_region ?_
       refine sy (v := .int .i64 (y47)) hs (y_move rfl) ?_; clear hs; (try clear a w); intro a w hs
       refine sy hs (y_add rfl rfl rfl) ?_; clear hs; (try clear a w); intro a w hs
       refine sy (v := .int .i64 ((w64 (y47 + 1)))) hs (y_assign rfl) ?_; clear hs; (try clear a w); intro a w hs
       refine RL_nil ?_
       exact hK12 k48 _ _ (Nat.lt_succ_self _) ⟨(w64 (y47 + 1)), hm, hs.sub ⟨rfl, rfl, rfl, trivial⟩⟩
     ·replace hm := oc_f hg49 hm
      refine W_exit ?_
      refine hB11 _ _ ?_
      exact ⟨hm, hs.sub trivial⟩
 ·refine W_region ?_
  refine sy (v := v19) hs (y_move rfl) ?_; clear hs; (try clear a w); intro a w hs
  refine sy hs (y_lenW hR21 hW22 rfl Try.underlying37) ?_; clear hs; (try clear a w); intro a w hs
  refine sy (v := v38) hs (y_move rfl) ?_; clear hs; (try clear a w); intro a w hs
  refine sy hs (y_lenW hR40 hW41 rfl Try.underlying37) ?_; clear hs; (try clear a w); intro a w hs
  refine sy hs (y_add rfl rfl rfl) ?_; clear hs; (try clear a w); intro a w hs
  refine sy hs (y_neq rfl rfl) ?_; clear hs; (try clear a w); intro a w hs
  refine sy (v := .bool (decide ((x15.length : Int) ≠ (w64 ((x34.length : Int) + 1))))) hs (y_move rfl) ?_; clear hs; (try clear a w); intro a w hs
  refine St.split hs (t := 21) rfl (fun hg77 hq => ?_) (fun hg77 hq => ?_)
  ·clear hs; have hs := hq; clear hq
   replace hm := oc_t hg77 hm
   refine sno hs ?_; clear hs; (try clear a w); intro a w hs
   refine sno hs ?_; clear hs; (try clear a w); intro a w hs
   refine sno hs ?_; clear hs; (try clear a w); intro a w hs
   refine sno hs ?_; clear hs; (try clear a w); intro a w hs
   refine sno hs ?_; clear hs; (try clear a w); intro a w hs
   refine sy (v := .bool (true)) hs (y_pick rfl rfl) ?_; clear hs; (try clear a w); intro a w hs
   refine sy (v := .bool (true)) hs (y_move rfl) ?_; clear hs; (try clear a w); intro a w hs
   refine sno hs ?_; clear hs; (try clear a w); intro a w hs
   refine sno hs ?_; clear hs; (try clear a w); intro a w hs
   refine sno hs ?_; clear hs; (try clear a w); intro a w hs
   refine sno hs ?_; clear hs; (try clear a w); intro a w hs
   refine sno hs ?_; clear hs; (try clear a w); intro a w hs
   refine sy (v := .bool (true)) hs (y_pick rfl rfl) ?_; clear hs; (try clear a w); intro a w hs
   refine RL_nil ?_
   exact ⟨true, hm, hs.sub ⟨rfl, rfl, rfl, trivial⟩⟩
  ·clear hs; have hs := hq; clear hq
   replace hm := oc_f hg77 hm
   refine syg (v := v19) hs (y_move rfl) ?_; clear hs; (try clear a w); intro a w hs
   obtain ⟨x78, hx79, hm⟩ := ob hm
   obtain ⟨r80, hr81, hq82, hi83, hb84⟩ := hW22.geti hx79
   obtain ⟨v85, rfl, ⟨rw86, hR87, hW88⟩⟩ := hq82
   refine syg hs (y_indexAddr hR21 rfl rfl hi83 hb84 Try.underlying37 ti44) ?_; clear hs; (try clear a w); intro a w hs
   refine syg (v := eaddr v19 5 ((0 : Int).toNat) 0) hs (y_fieldAddrE (i := (0 : Int).toNat) (j := 0) hR21 rfl hb84 (FO.of (off := 0) Try.underlying44 rfl rfl ti3 (by decide))) ?_; clear hs; (try clear a w); intro a w hs
   refine syg (v := .int .i64 (x78.Kind)) hs (y_loadE (i := (0 : Int).toNat) (j := 0) hR21.up rfl hr81 rfl Try.underlying3 rfl) ?_; clear hs; (try clear a w); intro a w hs
   refine syg hs (y_neq rfl rfl) ?_; clear hs; (try clear a w); intro a w hs
   refine sy (v := .bool (decide (x78.Kind ≠ 2))) hs (y_pick rfl rfl) ?_; clear hs; (try clear a w); intro a w hs
   refine sy (v := .bool (decide (x78.Kind ≠ 2))) hs (y_move rfl) ?_; clear hs; (try clear a w); intro a w hs
   refine St.split hs (t := 28) rfl (fun hg90 hq => ?_) (fun hg90 hq => ?_)
   ·clear hs; have hs := hq; clear hq
    replace hm := oc_t hg90 hm
    refine sno hs ?_; clear hs; (try clear a w); intro a w hs
    refine sno hs ?_; clear hs; (try clear a w); intro a w hs
    refine sno hs ?_; clear hs; (try clear a w); intro a w hs
    refine sno hs ?_; clear hs; (try clear a w); intro a w hs
    refine sno hs ?_; clear hs; (try clear a w); intro a w hs
    refine sy (v := .bool (true)) hs (y_pick rfl rfl) ?_; clear hs; (try clear a w); intro a w hs
    refine RL_nil ?_
    exact ⟨true, hm, hs.sub ⟨rfl, rfl, rfl, trivial⟩⟩
   ·clear hs; have hs := hq; clear hq
    replace hm := oc_f hg90 hm
    refine syg (v := v19) hs (y_move rfl) ?_; clear hs; (try clear a w); intro a w hs
    obtain ⟨x91, hx92, hm⟩ := ob hm
    obtain ⟨r93, hr94, hq95, hi96, hb97⟩ := hW22.geti hx92
    obtain ⟨v98, rfl, ⟨rw99, hR100, hW101⟩⟩ := hq95
    refine syg hs (y_indexAddr hR21 rfl rfl hi96 hb97 Try.underlying37 ti44) ?_; clear hs; (try clear a w); intro a w hs
    refine syg (v := eaddr v19 5 ((0 : Int).toNat) 1) hs (y_fieldAddrE (i := (0 : Int).toNat) (j := 0) hR21 rfl hb97 (FO.of (off := 1) Try.underlying44 rfl rfl ti9 (by decide))) ?_; clear hs; (try clear a w); intro a w hs
    refine syg (v := .string (x91.Name)) hs (y_loadE (i := (0 : Int).toNat) (j := 1) hR21.up rfl hr94 rfl Try.underlying9 rfl) ?_; clear hs; (try clear a w); intro a w hs
    refine syg hs (y_sneq rfl rfl) ?_; clear hs; (try clear a w); intro a w hs
    refine sy (v := .bool (decide (x91.Name ≠ (bs [105])))) hs (y_pick rfl rfl) ?_; clear hs; (try clear a w); intro a w hs
    refine RL_nil ?_
    exact ⟨decide (x91.Name ≠ (bs [105])), hm, hs.sub ⟨rfl, rfl, rfl, trivial⟩⟩
end Go.Proofs.Ythmnohdlhlmmpaa
