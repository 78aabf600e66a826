/-
  Walks and laws of this seat; the base is the text Base.
-/
import Derived.Test.YtmkcglpeidbblaaDoorL10r
import Derived.Test.YtmkcglpeidbblaaDoorRows
/-
  Models of functions, and that the functions compute them. Printed by lift.py.
-/
namespace Go.Proofs.YtmkcglpeidbblaaDoor
open Go.RowKit Go.Sl
/-! casement/casementref10.Match -/
def ref10_Match_k2 (p1 : Int) (y31 : (List Bool)) : Option Bool :=
  (geti y31 p1).bind fun x37 =>
  some x37
def ref10_Match_k4 (y52 : Int) (lp53 : (List Bool) → Int → Option Bool) (y65 : (List Bool)) : Option Bool :=
  lp53 y65 (w64 (y52 + 1))
def ref10_Match_k6 (y78 : Int) (lp79 : (List Bool) → Int → Option Bool) (y84 : (List Bool)) : Option Bool :=
  lp79 y84 (w64 (y78 + 1))
def ref10_Match_k7 (y78 : Int) (lp79 : (List Bool) → Int → Option Bool) (y139 : (List Bool)) : Option Bool :=
  ref10_Match_k6 y78 lp79 y139
def ref10_Match_k9 (y149 : Int) (lp150 : (List Bool) → Int → Option Bool) (y152 : (List Bool)) : Option Bool :=
  lp150 y152 (w64 (y149 + 1))
def ref10_Match_l8 (y47 : (List Bool)) (y78 : Int) (lp79 : (List Bool) → Int → Option Bool) (x117 : (List Int)) : Nat → (List Bool) → Int → Option Bool
  | 0, _, _ => none
  | k150 + 1, y144, y149 =>
  (bif (decide (y149 < (x117.length : Int))) then (geti y144 y78).bind fun x157 =>
  (bif x157 then (geti y144 y78).bind fun _x165 =>
  (seti y144 y78 true).bind fun x172 =>
  ref10_Match_k9 y149 (ref10_Match_l8 y47 y78 lp79 x117 k150) x172 else
  (geti x117 y149).bind fun x177 =>
  (geti y47 x177).bind fun x184 =>
  (geti y144 y78).bind fun _x191 =>
  (seti y144 y78 x184).bind fun x198 =>
  ref10_Match_k9 y149 (ref10_Match_l8 y47 y78 lp79 x117 k150) x198) else
  ref10_Match_k7 y78 lp79 y144)
def ref10_Match_l5 (n : Nat) (p0 : api_Tree) (p2 : ref9_Selector) (y47 : (List Bool)) (y52 : Int) (lp53 : (List Bool) → Int → Option Bool) : Nat → (List Bool) → Int → Option Bool
  | 0, _, _ => none
  | k79 + 1, y73, y78 =>
  (bif (decide (y78 < (p0.Nodes.length : Int))) then (geti p2.Steps y52).bind fun x90 =>
  (ref10_means n p0 y78 x90).bind fun x102 =>
  (bif (!x102) then ref10_Match_k6 y78 (ref10_Match_l5 n p0 p2 y47 y52 lp53 k79) y73 else
  (geti p2.Steps y52).bind fun x105 =>
  (ref10_ahead n p0 y78 x105.Comb).bind fun x117 =>
  ref10_Match_l8 y47 y78 (ref10_Match_l5 n p0 p2 y47 y52 lp53 k79) x117 n y73 0) else
  ref10_Match_k4 y52 lp53 y73)
def ref10_Match_l3 (n : Nat) (p0 : api_Tree) (p1 : Int) (p2 : ref9_Selector) : Nat → (List Bool) → Int → Option Bool
  | 0, _, _ => none
  | k53 + 1, y47, y52 =>
  (bif (decide (y52 < (p2.Steps.length : Int))) then (repM 1 (p0.Nodes.length : Int) false).bind fun x56 =>
  ref10_Match_l5 n p0 p2 y47 y52 (ref10_Match_l3 n p0 p1 p2 k53) n x56 0 else
  ref10_Match_k2 p1 y47)
def ref10_Match_k1 (n : Nat) (p0 : api_Tree) (p1 : Int) (p2 : ref9_Selector) (y23 : (List Bool)) : Option Bool :=
  ref10_Match_l3 n p0 p1 p2 n y23 1
def ref10_Match_l10 (n : Nat) (p0 : api_Tree) (p1 : Int) (p2 : ref9_Selector) : Nat → (List Bool) → Int → Option Bool
  | 0, _, _ => none
  | k209 + 1, y203, y208 =>
  (bif (decide (y208 < (p0.Nodes.length : Int))) then (geti p2.Steps 0).bind fun x211 =>
  (ref10_means n p0 y208 x211).bind fun x223 =>
  (geti y203 y208).bind fun _x225 =>
  (seti y203 y208 x223).bind fun x232 =>
  (ref10_Match_l10 n p0 p1 p2 k209) x232 (w64 (y208 + 1)) else
  ref10_Match_k1 n p0 p1 p2 y203)
def ref10_Match (n : Nat) (p0 : api_Tree) (p1 : Int) (p2 : ref9_Selector) : Option Bool :=
  (bif ((decide ((p2.Steps.length : Int) = 0)) || ((decide (p1 < 0)) || (decide ((p0.Nodes.length : Int) ≤ p1)))) then some false else
  (repM 1 (p0.Nodes.length : Int) false).bind fun x16 =>
  ref10_Match_l10 n p0 p1 p2 n x16 0)
set_option maxRecDepth 20000 in
set_option maxHeartbeats 4000000 in
theorem ref10_Match_ok (n : Nat) {f : Fz} {p0 : api_Tree} {a0 : List Value} {p1 : Int} {p2 : ref9_Selector} {a2 : List Value} {res : Bool} (h0 : t_api_Tree.R f a0 p0) (h2 : t_ref9_Selector.R f a2 p2) (hm : ref10_Match n p0 p1 p2 = some res) : Gives Tryd.prog 22 [.agg a0.toArray, .int .i64 p1, .agg a2.toArray] f (.bool res) := by
 unfold ref10_Match at hm
 intro w0 L w hC
 obtain ⟨v1, rfl, ⟨rw2, hR3, hW4⟩⟩ := h0
 obtain ⟨v6, rfl, ⟨rw7, hR8, hW9⟩⟩ := h2
 refine enter Tryd.func22 rfl Tryd.ntmps22 (by simp) hC fun a hs => ?_
 have hle := Fz.le.refl f
 refine W_seq fun K1 hK1 => ?_
 refine W_region ?_
 refine sbox hs rfl ?_; clear hs; intro b11 a w hs
 replace hs : St _ _ _ (.blk b11 (.cells #[v1] 24 (0, 0)) :: L) _ _ _ := hs
 refine sbox hs rfl ?_; clear hs; intro b13 a w hs
 replace hs : St _ _ _ (.blk b13 (.cells #[v6] 63 (0, 0)) :: .blk b11 (.cells #[v1] 24 (0, 0)) :: L) _ _ _ := hs
 refine sy (v := .bool (false)) hs (y_assign rfl) ?_; clear hs; intro a w hs
 refine RL_nil ?_
 refine hK1 _ _ ?_; clear hK1
 refine W_seq fun K2 hK2 => ?_
 refine W_seq fun K3 hK3 => ?_
 refine W_post (fun a w => St 113 w0 f (.blk b13 (.cells #[v6] 63 (0, 0)) :: .blk b11 (.cells #[v1] 24 (0, 0)) :: L) [(1, .int .i64 (p1)), (3, .pointer (some ⟨b11, 0, none⟩)), (5, .pointer (some ⟨b13, 0, none⟩)), (28, .bool (((decide ((p2.Steps.length : Int) = 0)) || ((decide (p1 < 0)) || (decide ((p0.Nodes.length : Int) ≤ p1))))))] a w) ?_ ?_
 ·clear hs; intro a w hs
  refine hK3 _ _ ?_; clear hK3
  refine W_cond hs rfl (fun hg15 => ?_) (fun hg15 => ?_)
  ·replace hm := oc_t hg15 hm
   refine W_seq fun K4 hK4 => ?_
   refine W_region ?_
   refine sy (v := .bool (false)) hs (y_assign rfl) ?_; clear hs; intro a w hs
   refine RL_nil ?_
   refine hK4 _ _ ?_; clear hK4
   refine W_ret ?_
   obtain rfl := Option.some.inj hm
   refine RtV1 hs rfl (rv_t hs rfl) ?_
   exact ⟨rfl, ((hs.subL (.cons _ (.cons _ (.refl _)))).weak hle).cw⟩
  ·replace hm := oc_f hg15 hm
   refine W_skip ?_
   refine hK2 _ _ ?_; clear hK2
   refine W_seq fun K5 hK5 => ?_
   refine W_region ?_
   refine sy (v := .pointer (some ⟨b11, 0, none⟩)) hs (y_fieldAddr rfl (FO.of (off := 0) Tryd.underlying24 rfl rfl ti22 (by decide))) ?_; clear hs; intro a w hs
   refine sy (v := v1) hs (y_ld rfl Tryd.underlying22 rfl (Cell.blk (.tail _ (.head _)) rfl)) ?_; clear hs; intro a w hs
   refine sy hs (y_lenW hR3 hW4 rfl Tryd.underlying22) ?_; clear hs; intro a w hs
   obtain ⟨x16, hx17, hm⟩ := ob hm
   obtain ⟨hix16, hbx16, hex16⟩ := repM_some hx17
   refine RL_makeW hs rfl rfl hix16 Tryd.underlying86 ti4 (by decide) (AllC.row ⟨rfl, trivial⟩ rfl) hbx16 ?_; clear hs; intro v18 a w hs
   replace hs : St _ _ _ (.row v18 4 1 (List.replicate (p0.Nodes.length : Int).toNat ([.bool (false)] : List Value)) :: .blk b13 (.cells #[v6] 63 (0, 0)) :: .blk b11 (.cells #[v1] 24 (0, 0)) :: L) _ _ _ := hs
   have hW20 : RW tBool f (List.replicate (p0.Nodes.length : Int).toNat ([.bool (false)] : List Value)) x16 := by rw [← hex16]; exact RW.rep (t := tBool) (r := [.bool (false)]) (rfl) _
   generalize hgx16 : (List.replicate (p0.Nodes.length : Int).toNat ([.bool (false)] : List Value)) = rw19 at hs hW20; clear hgx16
   replace hs : St _ _ _ (.row v18 4 1 rw19 :: .blk b13 (.cells #[v6] 63 (0, 0)) :: .blk b11 (.cells #[v1] 24 (0, 0)) :: L) _ _ _ := hs
   refine sy (v := v18) hs (y_assign rfl) ?_; clear hs; intro a w hs
   refine RL_nil ?_
   refine hK5 _ _ ?_; clear hK5
   refine W_seq fun K6 hK6 => ?_
   refine W_seq fun K7 hK7 => ?_
   refine W_region ?_
   refine sy (v := .int .i64 (0)) hs (y_assign rfl) ?_; clear hs; intro a w hs
   refine RL_nil ?_
   refine hK7 _ _ ?_; clear hK7
   refine W_post (fun a w => ∃ (y23 : (List Bool)) (v24 : Value) (rw25 : List (List Value)), ref10_Match_k1 n p0 p1 p2 y23 = some res ∧ RW tBool f rw25 y23 ∧ St 113 w0 f (.row v24 4 1 rw25 :: .blk b13 (.cells #[v6] 63 (0, 0)) :: .blk b11 (.cells #[v1] 24 (0, 0)) :: L) [(1, .int .i64 (p1)), (3, .pointer (some ⟨b11, 0, none⟩)), (5, .pointer (some ⟨b13, 0, none⟩)), (7, v24)] a w) ?_ ?_
   ·clear hs hm
    rintro a w ⟨y23, v24, rw25, hm, hW26, hs⟩
    replace hs : St _ _ _ (.row v24 4 1 rw25 :: .blk b13 (.cells #[v6] 63 (0, 0)) :: .blk b11 (.cells #[v1] 24 (0, 0)) :: L) _ _ _ := hs
    unfold ref10_Match_k1 at hm
    refine hK6 _ _ ?_; clear hK6
    refine W_seq fun K8 hK8 => ?_
    refine W_seq fun K9 hK9 => ?_
    refine W_region ?_
    refine sy (v := .int .i64 (1)) hs (y_assign rfl) ?_; clear hs; intro a w hs
    refine RL_nil ?_
    refine hK9 _ _ ?_; clear hK9
    have hbase36 := Fz.le.refl f
    refine W_post (fun a w => ∃ (f28 : Fz) (y31 : (List Bool)) (v32 : Value) (rw33 : List (List Value)), Fz.le f f28 ∧ ref10_Match_k2 p1 y31 = some res ∧ RW tBool f28 rw33 y31 ∧ St 113 w0 f28 (.row v32 4 1 rw33 :: L) [(1, .int .i64 (p1)), (7, v32)] a w) ?_ ?_
    ·clear hs hm
     clear hbase36
     rintro a w ⟨f28, y31, v32, rw33, hl29, hm, hW34, hs⟩
     replace hR3 := hR3.le hl29
     replace hW4 := hW4.le hl29
     replace hR8 := hR8.le hl29
     replace hW9 := hW9.le hl29
     replace hW20 := hW20.le hl29
     replace hW26 := hW26.le hl29
     replace hle := hle.trans hl29
     replace hs : St _ _ _ (.row v32 4 1 rw33 :: L) _ _ _ := hs
     unfold ref10_Match_k2 at hm
     refine hK8 _ _ ?_; clear hK8
     refine W_seq fun K10 hK10 => ?_
     refine W_region ?_
     refine sy (v := v32) hs (y_move rfl) ?_; clear hs; intro a w hs
     refine sy (v := .int .i64 (p1)) hs (y_move rfl) ?_; clear hs; intro a w hs
     obtain ⟨x37, hx38, hm⟩ := ob hm
     obtain ⟨r39, hr40, hq41, hi42, hb43⟩ := hW34.geti hx38
     obtain rfl : _ = ([.bool (x37)] : List Value) := hq41
     refine sy hs (y_indexAddr (Rd.st hs (.head _)) rfl rfl hi42 hb43 Tryd.underlying86 ti4) ?_; clear hs; intro a w hs
     refine sy (v := .bool (x37)) hs (y_loadE (i := p1.toNat) (j := 0) (Rd.st hs (.head _)) rfl hr40 rfl Tryd.underlying4 rfl) ?_; clear hs; intro a w hs
     refine sy (v := .bool (x37)) hs (y_assign rfl) ?_; clear hs; intro a w hs
     refine RL_nil ?_
     refine hK10 _ _ ?_; clear hK10
     refine W_ret ?_
     obtain rfl := Option.some.inj hm
     refine RtV1 hs rfl (rv_t hs rfl) ?_
     exact ⟨rfl, ((hs.subL (.cons _ (.refl _))).weak hle).cw⟩
    ·refine W_block fun Qe11 hB11 hO11 => ?_
     have hbase := Fz.le.refl f
     refine W_loop (fun (k : Nat) a w => ∃ (f44 : Fz) (y47 : (List Bool)) (y52 : Int) (v48 : Value) (rw49 : List (List Value)), Fz.le f f44 ∧ ref10_Match_l3 n p0 p1 p2 k y47 y52 = some res ∧ RW tBool f44 rw49 y47 ∧ St 113 w0 f44 (.row v48 4 1 rw49 :: .blk b13 (.cells #[v6] 63 (0, 0)) :: .blk b11 (.cells #[v1] 24 (0, 0)) :: L) [(1, .int .i64 (p1)), (3, .pointer (some ⟨b11, 0, none⟩)), (5, .pointer (some ⟨b13, 0, none⟩)), (7, v48), (9, .int .i64 (y52))] a w) (fun k => k) n ⟨_, y23, 1, v24, rw25, (Fz.le.refl _), hm, hW26, hs.sub ⟨rfl, rfl, rfl, rfl, rfl, trivial⟩⟩ ?_
     clear hs hm
     intro k
     rintro a w ⟨f44, y47, y52, v48, rw49, hl45, hm, hW50, hs⟩
     replace hR3 := hR3.le hl45
     replace hW4 := hW4.le hl45
     replace hR8 := hR8.le hl45
     replace hW9 := hW9.le hl45
     replace hW20 := hW20.le hl45
     replace hW26 := hW26.le hl45
     replace hle := hle.trans hl45
     replace hbase36 := hbase36.trans hl45
     replace hs : St _ _ _ (.row v48 4 1 rw49 :: .blk b13 (.cells #[v6] 63 (0, 0)) :: .blk b11 (.cells #[v1] 24 (0, 0)) :: L) _ _ _ := hs
     intro K12 hK12
     cases k with
     | zero => simp [ref10_Match_l3] at hm
     | succ k53 =>
      rw [ref10_Match_l3] at hm
      have hbase54 := hl45
      refine W_seq fun K13 hK13 => ?_
      refine W_seq fun K14 hK14 => ?_
      refine W_region ?_
      refine sy (v := .int .i64 (y52)) hs (y_move rfl) ?_; clear hs; intro a w hs
      refine sy (v := .pointer (some ⟨b13, 0, none⟩)) hs (y_fieldAddr rfl (FO.of (off := 0) Tryd.underlying63 rfl rfl ti61 (by decide))) ?_; clear hs; intro a w hs
      refine sy (v := v6) hs (y_ld rfl Tryd.underlying61 rfl (Cell.blk (.tail _ (.head _)) rfl)) ?_; clear hs; intro a w hs
      refine sy hs (y_lenW hR8 hW9 rfl Tryd.underlying61) ?_; clear hs; intro a w hs
      refine sy hs (y_lss rfl rfl) ?_; clear hs; intro a w hs
      refine RL_nil ?_
      refine hK14 _ _ ?_; clear hK14
      refine W_cond hs rfl (fun hg55 => ?_) (fun hg55 => ?_)
      ·replace hm := oc_t hg55 hm
       refine W_skip ?_
       refine hK13 _ _ ?_; clear hK13
       refine W_seq fun K15 hK15 => ?_
       refine W_block fun Qe16 hB16 hO16 => ?_
       refine W_seq fun K17 hK17 => ?_
       refine W_region ?_
       refine sy (v := .pointer (some ⟨b11, 0, none⟩)) hs (y_fieldAddr rfl (FO.of (off := 0) Tryd.underlying24 rfl rfl ti22 (by decide))) ?_; clear hs; intro a w hs
       refine sy (v := v1) hs (y_ld rfl Tryd.underlying22 rfl (Cell.blk (.tail _ (.tail _ (.head _))) rfl)) ?_; clear hs; intro a w hs
       refine sy hs (y_lenW hR3 hW4 rfl Tryd.underlying22) ?_; clear hs; intro a w hs
       obtain ⟨x56, hx57, hm⟩ := ob hm
       obtain ⟨hix56, hbx56, hex56⟩ := repM_some hx57
       refine RL_makeW hs rfl rfl hix56 Tryd.underlying86 ti4 (by decide) (AllC.row ⟨rfl, trivial⟩ rfl) hbx56 ?_; clear hs; intro v58 a w hs
       replace hs : St _ _ _ (.row v58 4 1 (List.replicate (p0.Nodes.length : Int).toNat ([.bool (false)] : List Value)) :: .row v48 4 1 rw49 :: .blk b13 (.cells #[v6] 63 (0, 0)) :: .blk b11 (.cells #[v1] 24 (0, 0)) :: L) _ _ _ := hs
       have hW60 : RW tBool f44 (List.replicate (p0.Nodes.length : Int).toNat ([.bool (false)] : List Value)) x56 := by rw [← hex56]; exact RW.rep (t := tBool) (r := [.bool (false)]) (rfl) _
       generalize hgx56 : (List.replicate (p0.Nodes.length : Int).toNat ([.bool (false)] : List Value)) = rw59 at hs hW60; clear hgx56
       replace hs : St _ _ _ (.row v58 4 1 rw59 :: .row v48 4 1 rw49 :: .blk b13 (.cells #[v6] 63 (0, 0)) :: .blk b11 (.cells #[v1] 24 (0, 0)) :: L) _ _ _ := hs
       refine sy (v := v58) hs (y_assign rfl) ?_; clear hs; intro a w hs
       refine RL_nil ?_
       refine hK17 _ _ ?_; clear hK17
       refine W_seq fun K18 hK18 => ?_
       refine W_seq fun K19 hK19 => ?_
       refine W_region ?_
       refine sy (v := .int .i64 (0)) hs (y_assign rfl) ?_; clear hs; intro a w hs
       refine RL_nil ?_
       refine hK19 _ _ ?_; clear hK19
       have hbase70 := Fz.le.refl f44
       refine W_post (fun a w => ∃ (f63 : Fz) (y65 : (List Bool)) (v66 : Value) (rw67 : List (List Value)), Fz.le f44 f63 ∧ ref10_Match_k4 y52 (ref10_Match_l3 n p0 p1 p2 k53) y65 = some res ∧ RW tBool f63 rw67 y65 ∧ St 113 w0 f63 (.row v66 4 1 rw67 :: .blk b13 (.cells #[v6] 63 (0, 0)) :: .blk b11 (.cells #[v1] 24 (0, 0)) :: L) [(1, .int .i64 (p1)), (3, .pointer (some ⟨b11, 0, none⟩)), (5, .pointer (some ⟨b13, 0, none⟩)), (9, .int .i64 (y52)), (10, v66)] a w) ?_ ?_
       ·clear hs hm
        clear hbase70
        rintro a w ⟨f63, y65, v66, rw67, hl64, hm, hW68, hs⟩
        replace hR3 := hR3.le hl64
        replace hW4 := hW4.le hl64
        replace hR8 := hR8.le hl64
        replace hW9 := hW9.le hl64
        replace hW20 := hW20.le hl64
        replace hW26 := hW26.le hl64
        replace hW50 := hW50.le hl64
        replace hW60 := hW60.le hl64
        replace hle := hle.trans hl64
        replace hbase36 := hbase36.trans hl64
        replace hbase54 := hbase54.trans hl64
        replace hs : St _ _ _ (.row v66 4 1 rw67 :: .blk b13 (.cells #[v6] 63 (0, 0)) :: .blk b11 (.cells #[v1] 24 (0, 0)) :: L) _ _ _ := hs
        unfold ref10_Match_k4 at hm
        refine hK18 _ _ ?_; clear hK18
        refine W_region ?_
        refine sy (v := v66) hs (y_move rfl) ?_; clear hs; intro a w hs
        refine sy (v := v66) hs (y_assign rfl) ?_; clear hs; intro a w hs
        refine RL_nil ?_
        refine hK15 _ _ ?_; clear hK15
        refine W_region ?_
        refine sy (v := .int .i64 (y52)) hs (y_move rfl) ?_; clear hs; intro a w hs
        refine sy hs (y_add rfl rfl rfl) ?_; clear hs; intro a w hs
        refine sy (v := .int .i64 ((w64 (y52 + 1)))) hs (y_assign rfl) ?_; clear hs; intro a w hs
        refine RL_nil ?_
        exact hK12 k53 _ _ (Nat.lt_succ_self _) ⟨_, y65, (w64 (y52 + 1)), v66, rw67, hbase54, hm, hW68, hs.sub ⟨rfl, rfl, rfl, rfl, rfl, trivial⟩⟩
       ·refine W_block fun Qe20 hB20 hO20 => ?_
        have hbase := Fz.le.refl f44
        refine W_loop (fun (k : Nat) a w => ∃ (f71 : Fz) (y73 : (List Bool)) (y78 : Int) (v74 : Value) (rw75 : List (List Value)), Fz.le f44 f71 ∧ ref10_Match_l5 n p0 p2 y47 y52 (ref10_Match_l3 n p0 p1 p2 k53) k y73 y78 = some res ∧ RW tBool f71 rw75 y73 ∧ St 113 w0 f71 (.row v74 4 1 rw75 :: .row v48 4 1 rw49 :: .blk b13 (.cells #[v6] 63 (0, 0)) :: .blk b11 (.cells #[v1] 24 (0, 0)) :: L) [(1, .int .i64 (p1)), (3, .pointer (some ⟨b11, 0, none⟩)), (5, .pointer (some ⟨b13, 0, none⟩)), (7, v48), (9, .int .i64 (y52)), (10, v74), (11, .int .i64 (y78))] a w) (fun k => k) n ⟨_, x56, 0, v58, rw59, (Fz.le.refl _), hm, hW60, hs.sub ⟨rfl, rfl, rfl, rfl, rfl, rfl, rfl, trivial⟩⟩ ?_
        clear hs hm
        intro k
        rintro a w ⟨f71, y73, y78, v74, rw75, hl72, hm, hW76, hs⟩
        replace hR3 := hR3.le hl72
        replace hW4 := hW4.le hl72
        replace hR8 := hR8.le hl72
        replace hW9 := hW9.le hl72
        replace hW20 := hW20.le hl72
        replace hW26 := hW26.le hl72
        replace hW50 := hW50.le hl72
        replace hW60 := hW60.le hl72
        replace hle := hle.trans hl72
        replace hbase36 := hbase36.trans hl72
        replace hbase54 := hbase54.trans hl72
        replace hbase70 := hbase70.trans hl72
        replace hs : St _ _ _ (.row v74 4 1 rw75 :: .row v48 4 1 rw49 :: .blk b13 (.cells #[v6] 63 (0, 0)) :: .blk b11 (.cells #[v1] 24 (0, 0)) :: L) _ _ _ := hs
        intro K21 hK21
        cases k with
        | zero => simp [ref10_Match_l5] at hm
        | succ k79 =>
         rw [ref10_Match_l5] at hm
         have hbase80 := hl72
         refine W_seq fun K22 hK22 => ?_
         refine W_seq fun K23 hK23 => ?_
         refine W_region ?_
         refine sy (v := .int .i64 (y78)) hs (y_move rfl) ?_; clear hs; intro a w hs
         refine sy (v := .pointer (some ⟨b11, 0, none⟩)) hs (y_fieldAddr rfl (FO.of (off := 0) Tryd.underlying24 rfl rfl ti22 (by decide))) ?_; clear hs; intro a w hs
         refine sy (v := v1) hs (y_ld rfl Tryd.underlying22 rfl (Cell.blk (.tail _ (.tail _ (.tail _ (.head _)))) rfl)) ?_; clear hs; intro a w hs
         refine sy hs (y_lenW hR3 hW4 rfl Tryd.underlying22) ?_; clear hs; intro a w hs
         refine sy hs (y_lss rfl rfl) ?_; clear hs; intro a w hs
         refine RL_nil ?_
         refine hK23 _ _ ?_; clear hK23
         refine W_cond hs rfl (fun hg81 => ?_) (fun hg81 => ?_)
         ·replace hm := oc_t hg81 hm
          refine W_skip ?_
          refine hK22 _ _ ?_; clear hK22
          refine W_seq fun K24 hK24 => ?_
          have hbase89 := Fz.le.refl f71
          refine W_post (fun a w => ∃ (f82 : Fz) (y84 : (List Bool)) (v85 : Value) (rw86 : List (List Value)), Fz.le f71 f82 ∧ ref10_Match_k6 y78 (ref10_Match_l5 n p0 p2 y47 y52 (ref10_Match_l3 n p0 p1 p2 k53) k79) y84 = some res ∧ RW tBool f82 rw86 y84 ∧ St 113 w0 f82 (.row v85 4 1 rw86 :: .row v48 4 1 rw49 :: .blk b13 (.cells #[v6] 63 (0, 0)) :: .blk b11 (.cells #[v1] 24 (0, 0)) :: L) [(1, .int .i64 (p1)), (3, .pointer (some ⟨b11, 0, none⟩)), (5, .pointer (some ⟨b13, 0, none⟩)), (7, v48), (9, .int .i64 (y52)), (10, v85), (11, .int .i64 (y78))] a w) ?_ ?_
          ·clear hs hm
           clear hbase89
           rintro a w ⟨f82, y84, v85, rw86, hl83, hm, hW87, hs⟩
           replace hR3 := hR3.le hl83
           replace hW4 := hW4.le hl83
           replace hR8 := hR8.le hl83
           replace hW9 := hW9.le hl83
           replace hW20 := hW20.le hl83
           replace hW26 := hW26.le hl83
           replace hW50 := hW50.le hl83
           replace hW60 := hW60.le hl83
           replace hW76 := hW76.le hl83
           replace hle := hle.trans hl83
           replace hbase36 := hbase36.trans hl83
           replace hbase54 := hbase54.trans hl83
           replace hbase70 := hbase70.trans hl83
           replace hbase80 := hbase80.trans hl83
           replace hs : St _ _ _ (.row v85 4 1 rw86 :: .row v48 4 1 rw49 :: .blk b13 (.cells #[v6] 63 (0, 0)) :: .blk b11 (.cells #[v1] 24 (0, 0)) :: L) _ _ _ := hs
           unfold ref10_Match_k6 at hm
           refine hK24 _ _ ?_; clear hK24
           refine W_region ?_
           refine sy (v := .int .i64 (y78)) hs (y_move rfl) ?_; clear hs; intro a w hs
           refine sy hs (y_add rfl rfl rfl) ?_; clear hs; intro a w hs
           refine sy (v := .int .i64 ((w64 (y78 + 1)))) hs (y_assign rfl) ?_; clear hs; intro a w hs
           refine RL_nil ?_
           exact hK21 k79 _ _ (Nat.lt_succ_self _) ⟨_, y84, (w64 (y78 + 1)), v85, rw86, hbase80, hm, hW87, hs.sub ⟨rfl, rfl, rfl, rfl, rfl, rfl, rfl, trivial⟩⟩
          ·refine W_block fun Qe25 hB25 hO25 => ?_
           refine W_seq fun K26 hK26 => ?_
           refine W_seq fun K27 hK27 => ?_
           refine W_draw hs mixed (by kernel_rfl) ?_; intro a he
           refine qy he (y_ldB rfl Tryd.underlying24 rfl ti24 (.tail _ (.tail _ (.tail _ (.head _)))) rfl) ?_; clear he; intro a he
           refine qy (v := .int .i64 (y78)) he (y_move rfl) ?_; clear he; intro a he
           refine qy (v := .pointer (some ⟨b13, 0, none⟩)) he (y_fieldAddr rfl (FO.of (off := 0) Tryd.underlying63 rfl rfl ti61 (by decide))) ?_; clear he; intro a he
           refine qy (v := v6) he (y_ld rfl Tryd.underlying61 rfl (Cell.blk (.tail _ (.tail _ (.head _))) rfl)) ?_; clear he; intro a he
           refine qy (v := .int .i64 (y52)) he (y_move rfl) ?_; clear he; intro a he
           obtain ⟨x90, hx91, hm⟩ := ob hm
           obtain ⟨r92, hr93, hq94, hi95, hb96⟩ := hW9.geti hx91
           obtain ⟨v97, rfl, ⟨rw98, hR99, hW100⟩⟩ := hq94
           refine qy he (y_indexAddr hR8 rfl rfl hi95 hb96 Tryd.underlying61 ti84) ?_; clear he; intro a he
           refine qy he (y_loadRow hR8.up rfl hr93 Tryd.underlying84 rfl ti84) ?_; clear he; intro a he
           obtain ⟨x102, hx103, hm⟩ := ob hm
           refine qy he (y_call rfl has35 rfl (ref10_means_ok n (f := f71) (a0 := [v1]) (a2 := [.int .i64 (x90.Comb), .string (x90.Name), v97]) ⟨_, rfl, ⟨rw2, hR3, hW4⟩⟩ ⟨_, rfl, ⟨rw98, hR99, hW100⟩⟩ hx103)) ?_; clear he; intro a he
           refine qy (v := .bool ((!x102))) he (y_not rfl) ?_; clear he; intro a he
           refine QL_nil he ?_; clear he; (try clear hs); intro a w hs
           refine hK27 _ _ ?_; clear hK27
           refine W_cond hs rfl (fun hg104 => ?_) (fun hg104 => ?_)
           ·replace hm := oc_t hg104 hm
            refine W_exit ?_
            refine hB25 _ _ ?_
            exact ⟨_, y73, v74, rw75, (Fz.le.refl _), hm, hW76, hs.sub ⟨rfl, rfl, rfl, rfl, rfl, rfl, rfl, trivial⟩⟩
           ·replace hm := oc_f hg104 hm
            refine W_skip ?_
            refine hK26 _ _ ?_; clear hK26
            refine W_seq fun K28 hK28 => ?_
            have hsD := hs.subL (L' := .blk b13 (.cells #[v6] 63 (0, 0)) :: .blk b11 (.cells #[v1] 24 (0, 0)) :: []) (.cons _ (.cons _ (.cons_cons _ (.cons_cons _ (List.nil_sublist _)))))
            refine T_start hs (.blk b13 (.cells #[v6] 63 (0, 0)) :: .blk b11 (.cells #[v1] 24 (0, 0)) :: []) [] (.look 0 (.look 1 (.look 2 (.look 3 (.look 4 (.look 5 (.look 6 (.look 7 (.any [8] (fun _ => .look 9 (.done))))))))))) mixed (by kernel_rfl) ?_; clear hs; intro a he
            refine uy 0 he rfl (y_ldB rfl Tryd.underlying24 rfl ti24 (.tail _ (.head _)) rfl) ?_; clear he; intro a he
            refine uy (v := .int .i64 (y78)) 1 he rfl (y_move rfl) ?_; clear he; intro a he
            refine uy (v := .pointer (some ⟨b13, 0, none⟩)) 2 he rfl (y_fieldAddr rfl (FO.of (off := 0) Tryd.underlying63 rfl rfl ti61 (by decide))) ?_; clear he; intro a he
            refine uy (v := v6) 3 he rfl (y_ld rfl Tryd.underlying61 rfl (Cell.blk (.head _) rfl)) ?_; clear he; intro a he
            refine uy (v := .int .i64 (y52)) 4 he rfl (y_move rfl) ?_; clear he; intro a he
            obtain ⟨x105, hx106, hm⟩ := ob hm
            obtain ⟨r107, hr108, hq109, hi110, hb111⟩ := hW9.geti hx106
            obtain ⟨v112, rfl, ⟨rw113, hR114, hW115⟩⟩ := hq109
            refine uy 5 he rfl (y_indexAddr hR8 rfl rfl hi110 hb111 Tryd.underlying61 ti84) ?_; clear he; intro a he
            refine uy (v := eaddr v6 3 y52.toNat 0) 6 he rfl (y_fieldAddrE (i := y52.toNat) (j := 0) hR8 rfl hb111 (FO.of (off := 0) Tryd.underlying84 rfl rfl ti3 (by decide))) ?_; clear he; intro a he
            refine uy (v := .int .i64 (x105.Comb)) 7 he rfl (y_loadE (i := y52.toNat) (j := 0) hR8.up rfl hr108 rfl Tryd.underlying3 rfl) ?_; clear he; intro a he
            refine T_any1 he rfl ?_; clear he; intro a w hs
            obtain ⟨x117, hx118, hm⟩ := ob hm
            refine RL_callV hs rfl has36 rfl (ref10_ahead_ok n (f := f71) (a0 := [v1]) ⟨_, rfl, ⟨rw2, hR3, hW4⟩⟩ hx118) ?_; clear hs
            rintro v121 f119 _ a w hf120 ⟨_, rfl, rfl, ⟨rw122, hR123, hW124⟩⟩ hs
            have hR125 := hR3.le hf120
            have hW126 := hW4.le hf120
            have hR127 := hR8.le hf120
            have hW128 := hW9.le hf120
            have hW129 := hW20.le hf120
            have hW130 := hW26.le hf120
            have hW131 := hW50.le hf120
            have hW132 := hW60.le hf120
            have hW133 := hW76.le hf120
            have hR134 := hR99.le hf120
            have hW135 := hW100.le hf120
            have hR136 := hR114.le hf120
            have hW137 := hW115.le hf120
            replace hle := hle.trans hf120
            replace hbase36 := hbase36.trans hf120
            replace hbase54 := hbase54.trans hf120
            replace hbase70 := hbase70.trans hf120
            replace hbase80 := hbase80.trans hf120
            replace hbase89 := hbase89.trans hf120
            replace hs : St _ _ _ (.row v74 4 1 rw75 :: .row v48 4 1 rw49 :: .blk b13 (.cells #[v6] 63 (0, 0)) :: .blk b11 (.cells #[v1] 24 (0, 0)) :: L) _ _ _ := hs
            refine uon hs ?_; clear hs; intro a he
            refine uy (v := v121) 9 he rfl (y_assign rfl) ?_; clear he; intro a he
            refine T_nil he ?_; clear he; intro w hs; try clear hsD
            refine hK28 _ _ ?_; clear hK28
            refine W_seq fun K29 hK29 => ?_
            refine W_region ?_
            refine sy (v := .int .i64 (0)) hs (y_assign rfl) ?_; clear hs; intro a w hs
            refine RL_nil ?_
            refine hK29 _ _ ?_; clear hK29
            refine W_post (fun a w => ∃ (y139 : (List Bool)) (v140 : Value) (rw141 : List (List Value)), ref10_Match_k7 y78 (ref10_Match_l5 n p0 p2 y47 y52 (ref10_Match_l3 n p0 p1 p2 k53) k79) y139 = some res ∧ RW tBool f119 rw141 y139 ∧ St 113 w0 f119 (.row v140 4 1 rw141 :: .row v48 4 1 rw49 :: .blk b13 (.cells #[v6] 63 (0, 0)) :: .blk b11 (.cells #[v1] 24 (0, 0)) :: L) [(1, .int .i64 (p1)), (3, .pointer (some ⟨b11, 0, none⟩)), (5, .pointer (some ⟨b13, 0, none⟩)), (7, v48), (9, .int .i64 (y52)), (10, v140), (11, .int .i64 (y78))] a w) ?_ ?_
            ·clear hs hm
             rintro a w ⟨y139, v140, rw141, hm, hW142, hs⟩
             replace hs : St _ _ _ (.row v140 4 1 rw141 :: .row v48 4 1 rw49 :: .blk b13 (.cells #[v6] 63 (0, 0)) :: .blk b11 (.cells #[v1] 24 (0, 0)) :: L) _ _ _ := hs
             unfold ref10_Match_k7 at hm
             exact ⟨_, y139, v140, rw141, hbase89, hm, hW142, hs.sub ⟨rfl, rfl, rfl, rfl, rfl, rfl, rfl, trivial⟩⟩
            ·refine W_block fun Qe30 hB30 hO30 => ?_
             refine W_loop (fun (k : Nat) a w => ∃ (y144 : (List Bool)) (y149 : Int) (v145 : Value) (rw146 : List (List Value)), ref10_Match_l8 y47 y78 (ref10_Match_l5 n p0 p2 y47 y52 (ref10_Match_l3 n p0 p1 p2 k53) k79) x117 k y144 y149 = some res ∧ RW tBool f119 rw146 y144 ∧ St 113 w0 f119 (.row v145 4 1 rw146 :: .row v48 4 1 rw49 :: .blk b13 (.cells #[v6] 63 (0, 0)) :: .blk b11 (.cells #[v1] 24 (0, 0)) :: L) [(1, .int .i64 (p1)), (3, .pointer (some ⟨b11, 0, none⟩)), (5, .pointer (some ⟨b13, 0, none⟩)), (7, v48), (9, .int .i64 (y52)), (10, v145), (11, .int .i64 (y78)), (12, v121), (13, .int .i64 (y149))] a w) (fun k => k) n ⟨y73, 0, v74, rw75, hm, hW133, hs.sub ⟨rfl, rfl, rfl, rfl, rfl, rfl, rfl, rfl, rfl, trivial⟩⟩ ?_
             clear hs hm
             intro k
             rintro a w ⟨y144, y149, v145, rw146, hm, hW147, hs⟩
             replace hs : St _ _ _ (.row v145 4 1 rw146 :: .row v48 4 1 rw49 :: .blk b13 (.cells #[v6] 63 (0, 0)) :: .blk b11 (.cells #[v1] 24 (0, 0)) :: L) _ _ _ := hs
             intro K31 hK31
             cases k with
             | zero => simp [ref10_Match_l8] at hm
             | succ k150 =>
              rw [ref10_Match_l8] at hm
              refine W_seq fun K32 hK32 => ?_
              refine W_seq fun K33 hK33 => ?_
              refine W_region ?_
              refine sy (v := .int .i64 (y149)) hs (y_move rfl) ?_; clear hs; intro a w hs
              refine sy (v := v121) hs (y_move rfl) ?_; clear hs; intro a w hs
              refine sy hs (y_lenW hR123 hW124 rfl Tryd.underlying46) ?_; clear hs; intro a w hs
              refine sy hs (y_lss rfl rfl) ?_; clear hs; intro a w hs
              refine RL_nil ?_
              refine hK33 _ _ ?_; clear hK33
              refine W_cond hs rfl (fun hg151 => ?_) (fun hg151 => ?_)
              ·replace hm := oc_t hg151 hm
               refine W_skip ?_
               refine hK32 _ _ ?_; clear hK32
               refine W_seq fun K34 hK34 => ?_
               refine W_block fun Qe35 hB35 hO35 => ?_
               refine W_post (fun a w => ∃ (y152 : (List Bool)) (v153 : Value) (rw154 : List (List Value)), ref10_Match_k9 y149 (ref10_Match_l8 y47 y78 (ref10_Match_l5 n p0 p2 y47 y52 (ref10_Match_l3 n p0 p1 p2 k53) k79) x117 k150) y152 = some res ∧ RW tBool f119 rw154 y152 ∧ St 113 w0 f119 (.row v153 4 1 rw154 :: .row v48 4 1 rw49 :: .blk b13 (.cells #[v6] 63 (0, 0)) :: .blk b11 (.cells #[v1] 24 (0, 0)) :: L) [(1, .int .i64 (p1)), (3, .pointer (some ⟨b11, 0, none⟩)), (5, .pointer (some ⟨b13, 0, none⟩)), (7, v48), (9, .int .i64 (y52)), (10, v153), (11, .int .i64 (y78)), (12, v121), (13, .int .i64 (y149))] a w) ?_ ?_
               ·clear hs hm
                rintro a w ⟨y152, v153, rw154, hm, hW155, hs⟩
                replace hs : St _ _ _ (.row v153 4 1 rw154 :: .row v48 4 1 rw49 :: .blk b13 (.cells #[v6] 63 (0, 0)) :: .blk b11 (.cells #[v1] 24 (0, 0)) :: L) _ _ _ := hs
                unfold ref10_Match_k9 at hm
                refine hK34 _ _ ?_; clear hK34
                refine W_region ?_
                refine sy (v := .int .i64 (y149)) hs (y_move rfl) ?_; clear hs; intro a w hs
                refine sy hs (y_add rfl rfl rfl) ?_; clear hs; intro a w hs
                refine sy (v := .int .i64 ((w64 (y149 + 1)))) hs (y_assign rfl) ?_; clear hs; intro a w hs
                refine RL_nil ?_
                exact hK31 k150 _ _ (Nat.lt_succ_self _) ⟨y152, (w64 (y149 + 1)), v153, rw154, hm, hW155, hs.sub ⟨rfl, rfl, rfl, rfl, rfl, rfl, rfl, rfl, rfl, trivial⟩⟩
               ·refine W_region ?_
                refine sy (v := v145) hs (y_move rfl) ?_; clear hs; intro a w hs
                refine sy (v := .int .i64 (y78)) hs (y_move rfl) ?_; clear hs; intro a w hs
                refine sy (v := v145) hs (y_move rfl) ?_; clear hs; intro a w hs
                refine sy (v := .int .i64 (y78)) hs (y_move rfl) ?_; clear hs; intro a w hs
                obtain ⟨x157, hx158, hm⟩ := ob hm
                obtain ⟨r159, hr160, hq161, hi162, hb163⟩ := hW147.geti hx158
                obtain rfl : _ = ([.bool (x157)] : List Value) := hq161
                refine sy hs (y_indexAddr (Rd.st hs (.head _)) rfl rfl hi162 hb163 Tryd.underlying86 ti4) ?_; clear hs; intro a w hs
                refine sy (v := .bool (x157)) hs (y_loadE (i := y78.toNat) (j := 0) (Rd.st hs (.head _)) rfl hr160 rfl Tryd.underlying4 rfl) ?_; clear hs; intro a w hs
                refine sy (v := .bool (x157)) hs (y_move rfl) ?_; clear hs; intro a w hs
                refine St.split hs (t := 98) rfl (fun hg164 hq => ?_) (fun hg164 hq => ?_)
                ·clear hs; have hs := hq; clear hq
                 replace hm := oc_t hg164 hm
                 refine sno hs ?_; clear hs; intro a w hs
                 refine sno hs ?_; clear hs; intro a w hs
                 refine sno hs ?_; clear hs; intro a w hs
                 refine sno hs ?_; clear hs; intro a w hs
                 refine sno hs ?_; clear hs; intro a w hs
                 refine sno hs ?_; clear hs; intro a w hs
                 refine sno hs ?_; clear hs; intro a w hs
                 refine sy (v := .bool (true)) hs (y_pick rfl rfl) ?_; clear hs; intro a w hs
                 obtain ⟨x165, hx166, hm⟩ := ob hm
                 obtain ⟨r167, hr168, hq169, hi170, hb171⟩ := hW147.geti hx166
                 obtain rfl : _ = ([.bool (x165)] : List Value) := hq169
                 refine sy hs (y_indexAddr (Rd.st hs (.head _)) rfl rfl hi170 hb171 Tryd.underlying86 ti4) ?_; clear hs; intro a w hs
                 obtain ⟨x172, hx173, hm⟩ := ob hm
                 have hex172 := seti_some hx173
                 have hW175 := RW.set (i := y78.toNat) (r := [.bool (true)]) (x := (true : Bool)) hW147 (rfl); rw [hex172] at hW175
                 refine RL_storeRow (i := 0) (j := 0) (m := y78.toNat) hs rfl rfl rfl hr168 (by decide) ti4 rfl (.free rfl) ?_; clear hs; intro a w hs
                 replace hs : St _ _ _ (.row v145 4 1 (rw146.set y78.toNat [.bool (true)]) :: .row v48 4 1 rw49 :: .blk b13 (.cells #[v6] 63 (0, 0)) :: .blk b11 (.cells #[v1] 24 (0, 0)) :: L) _ _ _ := hs
                 generalize hgrw174 : rw146.set y78.toNat [.bool (true)] = rw174 at hs hW175; clear hgrw174
                 replace hs : St _ _ _ (.row v145 4 1 rw174 :: .row v48 4 1 rw49 :: .blk b13 (.cells #[v6] 63 (0, 0)) :: .blk b11 (.cells #[v1] 24 (0, 0)) :: L) _ _ _ := hs
                 refine RL_nil ?_
                 exact ⟨x172, v145, rw174, hm, hW175, hs.sub ⟨rfl, rfl, rfl, rfl, rfl, rfl, rfl, rfl, rfl, trivial⟩⟩
                ·clear hs; have hs := hq; clear hq
                 replace hm := oc_f hg164 hm
                 refine syg (v := v48) hs (y_move rfl) ?_; clear hs; intro a w hs
                 refine syg (v := v121) hs (y_move rfl) ?_; clear hs; intro a w hs
                 refine syg (v := .int .i64 (y149)) hs (y_move rfl) ?_; clear hs; intro a w hs
                 obtain ⟨x177, hx178, hm⟩ := ob hm
                 obtain ⟨r179, hr180, hq181, hi182, hb183⟩ := hW124.geti hx178
                 obtain rfl : _ = ([.int .i64 (x177)] : List Value) := hq181
                 refine syg hs (y_indexAddr hR123 rfl rfl hi182 hb183 Tryd.underlying46 ti3) ?_; clear hs; intro a w hs
                 refine syg (v := .int .i64 (x177)) hs (y_loadE (i := y149.toNat) (j := 0) hR123.up rfl hr180 rfl Tryd.underlying3 rfl) ?_; clear hs; intro a w hs
                 obtain ⟨x184, hx185, hm⟩ := ob hm
                 obtain ⟨r186, hr187, hq188, hi189, hb190⟩ := hW131.geti hx185
                 obtain rfl : _ = ([.bool (x184)] : List Value) := hq188
                 refine syg hs (y_indexAddr (Rd.st hs (.tail _ (.head _))) rfl rfl hi189 hb190 Tryd.underlying86 ti4) ?_; clear hs; intro a w hs
                 refine syg (v := .bool (x184)) hs (y_loadE (i := x177.toNat) (j := 0) (Rd.st hs (.tail _ (.head _))) rfl hr187 rfl Tryd.underlying4 rfl) ?_; clear hs; intro a w hs
                 refine sy (v := .bool (x184)) hs (y_pick rfl rfl) ?_; clear hs; intro a w hs
                 obtain ⟨x191, hx192, hm⟩ := ob hm
                 obtain ⟨r193, hr194, hq195, hi196, hb197⟩ := hW147.geti hx192
                 obtain rfl : _ = ([.bool (x191)] : List Value) := hq195
                 refine sy hs (y_indexAddr (Rd.st hs (.head _)) rfl rfl hi196 hb197 Tryd.underlying86 ti4) ?_; clear hs; intro a w hs
                 obtain ⟨x198, hx199, hm⟩ := ob hm
                 have hex198 := seti_some hx199
                 have hW201 := RW.set (i := y78.toNat) (r := [.bool (x184)]) (x := (x184 : Bool)) hW147 (rfl); rw [hex198] at hW201
                 refine RL_storeRow (i := 0) (j := 0) (m := y78.toNat) hs rfl rfl rfl hr194 (by decide) ti4 rfl (.free rfl) ?_; clear hs; intro a w hs
                 replace hs : St _ _ _ (.row v145 4 1 (rw146.set y78.toNat [.bool (x184)]) :: .row v48 4 1 rw49 :: .blk b13 (.cells #[v6] 63 (0, 0)) :: .blk b11 (.cells #[v1] 24 (0, 0)) :: L) _ _ _ := hs
                 generalize hgrw200 : rw146.set y78.toNat [.bool (x184)] = rw200 at hs hW201; clear hgrw200
                 replace hs : St _ _ _ (.row v145 4 1 rw200 :: .row v48 4 1 rw49 :: .blk b13 (.cells #[v6] 63 (0, 0)) :: .blk b11 (.cells #[v1] 24 (0, 0)) :: L) _ _ _ := hs
                 refine RL_nil ?_
                 exact ⟨x198, v145, rw200, hm, hW201, hs.sub ⟨rfl, rfl, rfl, rfl, rfl, rfl, rfl, rfl, rfl, trivial⟩⟩
              ·replace hm := oc_f hg151 hm
               refine W_exit ?_
               refine hB30 _ _ ?_
               exact ⟨y144, v145, rw146, hm, hW147, hs.sub ⟨rfl, rfl, rfl, rfl, rfl, rfl, rfl, trivial⟩⟩
         ·replace hm := oc_f hg81 hm
          refine W_exit ?_
          refine hB20 _ _ ?_
          exact ⟨_, y73, v74, rw75, hbase70, hm, hW76, hs.subs ⟨rfl, rfl, rfl, rfl, rfl, trivial⟩ (.cons_cons _ (.cons _ (.cons_cons _ (.cons_cons _ (.refl _)))))⟩
      ·replace hm := oc_f hg55 hm
       refine W_exit ?_
       refine hB11 _ _ ?_
       exact ⟨_, y47, v48, rw49, hbase36, hm, hW50, hs.subs ⟨rfl, rfl, trivial⟩ (.cons_cons _ (.cons _ (.cons _ (.refl _))))⟩
   ·refine W_block fun Qe36 hB36 hO36 => ?_
    refine W_loop (fun (k : Nat) a w => ∃ (y203 : (List Bool)) (y208 : Int) (v204 : Value) (rw205 : List (List Value)), ref10_Match_l10 n p0 p1 p2 k y203 y208 = some res ∧ RW tBool f rw205 y203 ∧ St 113 w0 f (.row v204 4 1 rw205 :: .blk b13 (.cells #[v6] 63 (0, 0)) :: .blk b11 (.cells #[v1] 24 (0, 0)) :: L) [(1, .int .i64 (p1)), (3, .pointer (some ⟨b11, 0, none⟩)), (5, .pointer (some ⟨b13, 0, none⟩)), (7, v204), (8, .int .i64 (y208))] a w) (fun k => k) n ⟨x16, 0, v18, rw19, hm, hW20, hs.sub ⟨rfl, rfl, rfl, rfl, rfl, trivial⟩⟩ ?_
    clear hs hm
    intro k
    rintro a w ⟨y203, y208, v204, rw205, hm, hW206, hs⟩
    replace hs : St _ _ _ (.row v204 4 1 rw205 :: .blk b13 (.cells #[v6] 63 (0, 0)) :: .blk b11 (.cells #[v1] 24 (0, 0)) :: L) _ _ _ := hs
    intro K37 hK37
    cases k with
    | zero => simp [ref10_Match_l10] at hm
    | succ k209 =>
     rw [ref10_Match_l10] at hm
     refine W_seq fun K38 hK38 => ?_
     refine W_seq fun K39 hK39 => ?_
     refine W_region ?_
     refine sy (v := .int .i64 (y208)) hs (y_move rfl) ?_; clear hs; intro a w hs
     refine sy (v := .pointer (some ⟨b11, 0, none⟩)) hs (y_fieldAddr rfl (FO.of (off := 0) Tryd.underlying24 rfl rfl ti22 (by decide))) ?_; clear hs; intro a w hs
     refine sy (v := v1) hs (y_ld rfl Tryd.underlying22 rfl (Cell.blk (.tail _ (.tail _ (.head _))) rfl)) ?_; clear hs; intro a w hs
     refine sy hs (y_lenW hR3 hW4 rfl Tryd.underlying22) ?_; clear hs; intro a w hs
     refine sy hs (y_lss rfl rfl) ?_; clear hs; intro a w hs
     refine RL_nil ?_
     refine hK39 _ _ ?_; clear hK39
     refine W_cond hs rfl (fun hg210 => ?_) (fun hg210 => ?_)
     ·replace hm := oc_t hg210 hm
      refine W_skip ?_
      refine hK38 _ _ ?_; clear hK38
      refine W_seq fun K40 hK40 => ?_
      refine W_block fun Qe41 hB41 hO41 => ?_
      have hsD := hs.subL (L' := .row v204 4 1 rw205 :: .blk b13 (.cells #[v6] 63 (0, 0)) :: .blk b11 (.cells #[v1] 24 (0, 0)) :: []) (.cons_cons _ (.cons_cons _ (.cons_cons _ (List.nil_sublist _))))
      refine T_start hs (.row v204 4 1 rw205 :: .blk b13 (.cells #[v6] 63 (0, 0)) :: .blk b11 (.cells #[v1] 24 (0, 0)) :: []) [10] (.look 0 (.look 1 (.look 2 (.look 3 (.look 4 (.look 5 (.look 6 (.look 7 (.look 8 (.look 9 (.any [10] (fun _ => .done)))))))))))) mixed (by kernel_rfl) ?_; clear hs; intro a he
      refine uy (v := v204) 0 he rfl (y_move rfl) ?_; clear he; intro a he
      refine uy (v := .int .i64 (y208)) 1 he rfl (y_move rfl) ?_; clear he; intro a he
      refine uy 2 he rfl (y_ldB rfl Tryd.underlying24 rfl ti24 (.tail _ (.tail _ (.head _))) rfl) ?_; clear he; intro a he
      refine uy (v := .int .i64 (y208)) 3 he rfl (y_move rfl) ?_; clear he; intro a he
      refine uy (v := .pointer (some ⟨b13, 0, none⟩)) 4 he rfl (y_fieldAddr rfl (FO.of (off := 0) Tryd.underlying63 rfl rfl ti61 (by decide))) ?_; clear he; intro a he
      refine uy (v := v6) 5 he rfl (y_ld rfl Tryd.underlying61 rfl (Cell.blk (.tail _ (.head _)) rfl)) ?_; clear he; intro a he
      obtain ⟨x211, hx212, hm⟩ := ob hm
      obtain ⟨r213, hr214, hq215, hi216, hb217⟩ := hW9.geti hx212
      obtain ⟨v218, rfl, ⟨rw219, hR220, hW221⟩⟩ := hq215
      refine uy 6 he rfl (y_indexAddr hR8 rfl rfl hi216 hb217 Tryd.underlying61 ti84) ?_; clear he; intro a he
      refine uy 7 he rfl (y_loadRow hR8.up rfl hr214 Tryd.underlying84 rfl ti84) ?_; clear he; intro a he
      obtain ⟨x223, hx224, hm⟩ := ob hm
      refine ucall 8 he rfl rfl has35 rfl (fun f9 L9 w9 hfc _ hw9 => (ref10_means_ok n (f := f9) (a0 := [v1]) (a2 := [.int .i64 (x211.Comb), .string (x211.Name), v218]) ⟨_, rfl, ⟨rw2, hR3.le hfc, hW4.le hfc⟩⟩ ⟨_, rfl, ⟨rw219, hR220.le hfc, hW221.le hfc⟩⟩ hx224) w0 L9 w9 hw9) ?_; clear he; intro a he
      obtain ⟨x225, hx226, hm⟩ := ob hm
      obtain ⟨r227, hr228, hq229, hi230, hb231⟩ := hW206.geti hx226
      obtain rfl : _ = ([.bool (x225)] : List Value) := hq229
      refine uy 9 he rfl (y_indexAddr (Rd.st hsD (.head _)) rfl rfl hi230 hb231 Tryd.underlying86 ti4) ?_; clear he; intro a he
      refine T_any1 he rfl ?_; clear he; intro a w hs
      obtain ⟨x232, hx233, hm⟩ := ob hm
      have hex232 := seti_some hx233
      have hW235 := RW.set (i := y208.toNat) (r := [.bool (x223)]) (x := (x223 : Bool)) hW206 (rfl); rw [hex232] at hW235
      refine RL_storeRow (i := 0) (j := 0) (m := y208.toNat) hs rfl rfl rfl hr228 (by decide) ti4 rfl (.free rfl) ?_; clear hs; intro a w hs
      replace hs : St _ _ _ (.row v204 4 1 (rw205.set y208.toNat [.bool (x223)]) :: .blk b13 (.cells #[v6] 63 (0, 0)) :: .blk b11 (.cells #[v1] 24 (0, 0)) :: L) _ _ _ := hs
      generalize hgrw234 : rw205.set y208.toNat [.bool (x223)] = rw234 at hs hW235; clear hgrw234
      replace hs : St _ _ _ (.row v204 4 1 rw234 :: .blk b13 (.cells #[v6] 63 (0, 0)) :: .blk b11 (.cells #[v1] 24 (0, 0)) :: L) _ _ _ := hs
      refine uend hs ?_; clear hs; intro a he
      refine T_nil he ?_; clear he; intro w hs; try clear hsD
      refine hK40 _ _ ?_; clear hK40
      refine W_region ?_
      refine sy (v := .int .i64 (y208)) hs (y_move rfl) ?_; clear hs; intro a w hs
      refine sy hs (y_add rfl rfl rfl) ?_; clear hs; intro a w hs
      refine sy (v := .int .i64 ((w64 (y208 + 1)))) hs (y_assign rfl) ?_; clear hs; intro a w hs
      refine RL_nil ?_
      exact hK37 k209 _ _ (Nat.lt_succ_self _) ⟨x232, (w64 (y208 + 1)), v204, rw234, hm, hW235, hs.sub ⟨rfl, rfl, rfl, rfl, rfl, trivial⟩⟩
     ·replace hm := oc_f hg210 hm
      refine W_exit ?_
      refine hB36 _ _ ?_
      exact ⟨y203, v204, rw205, hm, hW206, hs.sub ⟨rfl, rfl, rfl, rfl, trivial⟩⟩
 ·refine W_region ?_
  refine sy (v := .pointer (some ⟨b13, 0, none⟩)) hs (y_fieldAddr rfl (FO.of (off := 0) Tryd.underlying63 rfl rfl ti61 (by decide))) ?_; clear hs; intro a w hs
  refine sy (v := v6) hs (y_ld rfl Tryd.underlying61 rfl (Cell.blk (.head _) rfl)) ?_; clear hs; intro a w hs
  refine sy hs (y_lenW hR8 hW9 rfl Tryd.underlying61) ?_; clear hs; intro a w hs
  refine sy hs (y_eql rfl rfl) ?_; clear hs; intro a w hs
  refine sy (v := .bool (decide ((p2.Steps.length : Int) = 0))) hs (y_move rfl) ?_; clear hs; intro a w hs
  refine St.split hs (t := 18) rfl (fun hg237 hq => ?_) (fun hg237 hq => ?_)
  ·clear hs; have hs := hq; clear hq
   refine sno hs ?_; clear hs; intro a w hs
   refine sno hs ?_; clear hs; intro a w hs
   refine sy (v := .bool (true)) hs (y_pick rfl rfl) ?_; clear hs; intro a w hs
   refine sy (v := .bool (true)) hs (y_move rfl) ?_; clear hs; intro a w hs
   refine sno hs ?_; clear hs; intro a w hs
   refine sno hs ?_; clear hs; intro a w hs
   refine sno hs ?_; clear hs; intro a w hs
   refine sno hs ?_; clear hs; intro a w hs
   refine sno hs ?_; clear hs; intro a w hs
   refine sy (v := .bool (true)) hs (y_pick rfl rfl) ?_; clear hs; intro a w hs
   refine RL_nil ?_
   exact hs.sub ⟨rfl, rfl, rfl, (lkB (((or_t hg237).trans rfl)) rfl), trivial⟩
  ·clear hs; have hs := hq; clear hq
   refine syg (v := .int .i64 (p1)) hs (y_move rfl) ?_; clear hs; intro a w hs
   refine syg hs (y_lss rfl rfl) ?_; clear hs; intro a w hs
   refine sy (v := .bool (decide (p1 < 0))) hs (y_pick rfl rfl) ?_; clear hs; intro a w hs
   refine sy (v := .bool (decide (p1 < 0))) hs (y_move rfl) ?_; clear hs; intro a w hs
   refine St.split hs (t := 22) rfl (fun hg238 hq => ?_) (fun hg238 hq => ?_)
   ·clear hs; have hs := hq; clear hq
    refine sno hs ?_; clear hs; intro a w hs
    refine sno hs ?_; clear hs; intro a w hs
    refine sno hs ?_; clear hs; intro a w hs
    refine sno hs ?_; clear hs; intro a w hs
    refine sno hs ?_; clear hs; intro a w hs
    refine sy (v := .bool (true)) hs (y_pick rfl rfl) ?_; clear hs; intro a w hs
    refine RL_nil ?_
    exact hs.sub ⟨rfl, rfl, rfl, (lkB (((or_f hg237).trans ((or_t hg238).trans rfl))) rfl), trivial⟩
   ·clear hs; have hs := hq; clear hq
    refine syg (v := .int .i64 (p1)) hs (y_move rfl) ?_; clear hs; intro a w hs
    refine syg (v := .pointer (some ⟨b11, 0, none⟩)) hs (y_fieldAddr rfl (FO.of (off := 0) Tryd.underlying24 rfl rfl ti22 (by decide))) ?_; clear hs; intro a w hs
    refine syg (v := v1) hs (y_ld rfl Tryd.underlying22 rfl (Cell.blk (.tail _ (.head _)) rfl)) ?_; clear hs; intro a w hs
    refine syg hs (y_lenW hR3 hW4 rfl Tryd.underlying22) ?_; clear hs; intro a w hs
    refine syg hs (y_geq rfl rfl) ?_; clear hs; intro a w hs
    refine sy (v := .bool (decide ((p0.Nodes.length : Int) ≤ p1))) hs (y_pick rfl rfl) ?_; clear hs; intro a w hs
    refine RL_nil ?_
    exact hs.sub ⟨rfl, rfl, rfl, (lkB (((or_f hg237).trans ((or_f hg238).trans rfl))) rfl), trivial⟩
/-! casement/casementref10.Weigh -/
def ref10_Weigh_k1 (y12 : ref10_Weight) : Option ref10_Weight :=
  some y12
def ref10_Weigh_k4 (y18 : Int) (lp19 : ref10_Weight → Int → Option ref10_Weight) (y34 : ref10_Weight) : Option ref10_Weight :=
  lp19 y34 (w64 (y18 + 1))
def ref10_Weigh_k6 (y40 : Int) (lp41 : ref10_Weight → Int → Option ref10_Weight) (y74 : ref10_Weight) : Option ref10_Weight :=
  lp41 y74 (w64 (y40 + 1))
def ref10_Weigh_l5 (p0 : ref9_Selector) (y18 : Int) (lp19 : ref10_Weight → Int → Option ref10_Weight) : Nat → ref10_Weight → Int → Option ref10_Weight
  | 0, _, _ => none
  | k41 + 1, y37, y40 =>
  (geti p0.Steps y18).bind fun x42 =>
  (bif (decide (y40 < (x42.Tests.length : Int))) then (geti p0.Steps y18).bind fun x55 =>
  (geti x55.Tests y40).bind fun x67 =>
  (bif (decide (x67.Kind = 1)) then ref10_Weigh_k6 y40 (ref10_Weigh_l5 p0 y18 lp19 k41) ({Ids := (w64 (y37.Ids + 1)), Tests := y37.Tests, Names := y37.Names} : ref10_Weight) else
  ref10_Weigh_k6 y40 (ref10_Weigh_l5 p0 y18 lp19 k41) ({Ids := y37.Ids, Tests := (w64 (y37.Tests + 1)), Names := y37.Names} : ref10_Weight)) else
  ref10_Weigh_k4 y18 lp19 y37)
def ref10_Weigh_k3 (n : Nat) (p0 : ref9_Selector) (y15 : ref10_Weight) (y18 : Int) (lp19 : ref10_Weight → Int → Option ref10_Weight) (y33 : Int) : Option ref10_Weight :=
  ref10_Weigh_l5 p0 y18 lp19 n ({Ids := y15.Ids, Tests := y15.Tests, Names := y33} : ref10_Weight) 0
def ref10_Weigh_l2 (n : Nat) (p0 : ref9_Selector) : Nat → ref10_Weight → Int → Option ref10_Weight
  | 0, _, _ => none
  | k19 + 1, y15, y18 =>
  (bif (decide (y18 < (p0.Steps.length : Int))) then (geti p0.Steps y18).bind fun x21 =>
  (bif (decide (x21.Name ≠ (bs []))) then ref10_Weigh_k3 n p0 y15 y18 (ref10_Weigh_l2 n p0 k19) (w64 (y15.Names + 1)) else
  ref10_Weigh_k3 n p0 y15 y18 (ref10_Weigh_l2 n p0 k19) y15.Names) else
  ref10_Weigh_k1 y15)
def ref10_Weigh (n : Nat) (p0 : ref9_Selector) : Option ref10_Weight :=
  ref10_Weigh_l2 n p0 n ({Ids := 0, Tests := 0, Names := 0} : ref10_Weight) 0
set_option maxRecDepth 20000 in
set_option maxHeartbeats 4000000 in
theorem ref10_Weigh_ok (n : Nat) {f : Fz} {p0 : ref9_Selector} {a0 : List Value} {res : ref10_Weight} (h0 : t_ref9_Selector.R f a0 p0) (hm : ref10_Weigh n p0 = some res) : Gives Tryd.prog 21 [.agg a0.toArray] f (.agg #[.int .i64 res.Ids, .int .i64 res.Tests, .int .i64 res.Names]) := by
 unfold ref10_Weigh at hm
 intro w0 L w hC
 obtain ⟨v1, rfl, ⟨rw2, hR3, hW4⟩⟩ := h0
 refine enter Tryd.func21 rfl Tryd.ntmps21 (by simp) hC fun a hs => ?_
 have hle := Fz.le.refl f
 refine W_seq fun K1 hK1 => ?_
 refine W_region ?_
 refine sbox hs rfl ?_; clear hs; intro b6 a w hs
 replace hs : St _ _ _ (.blk b6 (.cells #[v1] 63 (0, 0)) :: L) _ _ _ := hs
 refine RL_alloc hs ti59 (.free rfl) (by decide) ?_; clear hs; intro b8 a w hs
 replace hs : St _ _ _ (.blk b8 (.cells #[.int .i64 (0), .int .i64 (0), .int .i64 (0)] 59 (0, 0)) :: .blk b6 (.cells #[v1] 63 (0, 0)) :: L) _ _ _ := hs
 refine RL_nil ?_
 refine hK1 _ _ ?_; clear hK1
 refine W_seq fun K2 hK2 => ?_
 refine W_region ?_
 refine RL_alloc hs ti59 (.free rfl) (by decide) ?_; clear hs; intro b10 a w hs
 replace hs : St _ _ _ (.blk b10 (.cells #[.int .i64 (0), .int .i64 (0), .int .i64 (0)] 59 (0, 0)) :: .blk b8 (.cells #[.int .i64 (0), .int .i64 (0), .int .i64 (0)] 59 (0, 0)) :: .blk b6 (.cells #[v1] 63 (0, 0)) :: L) _ _ _ := hs
 refine RL_nil ?_
 refine hK2 _ _ ?_; clear hK2
 refine W_seq fun K3 hK3 => ?_
 refine W_seq fun K4 hK4 => ?_
 refine W_region ?_
 refine sy (v := .int .i64 (0)) hs (y_assign rfl) ?_; clear hs; intro a w hs
 refine RL_nil ?_
 refine hK4 _ _ ?_; clear hK4
 refine W_post (fun a w => ∃ (y12 : ref10_Weight) (r13 : List Value), ref10_Weigh_k1 y12 = some res ∧ t_ref10_Weight.R f r13 y12 ∧ St 55 w0 f (.blk b10 (.cells r13.toArray 59 (0, 0)) :: .blk b8 (.cells #[.int .i64 (0), .int .i64 (0), .int .i64 (0)] 59 (0, 0)) :: L) [(2, .pointer (some ⟨b8, 0, none⟩)), (3, .pointer (some ⟨b10, 0, none⟩))] a w) ?_ ?_
 ·clear hs hm
  rintro a w ⟨y12, r13, hm, hq14, hs⟩
  obtain rfl : _ = ([.int .i64 (y12.Ids), .int .i64 (y12.Tests), .int .i64 (y12.Names)] : List Value) := hq14
  replace hs : St _ _ _ (.blk b10 (.cells #[.int .i64 (y12.Ids), .int .i64 (y12.Tests), .int .i64 (y12.Names)] 59 (0, 0)) :: .blk b8 (.cells #[.int .i64 (0), .int .i64 (0), .int .i64 (0)] 59 (0, 0)) :: L) _ _ _ := hs
  unfold ref10_Weigh_k1 at hm
  refine hK3 _ _ ?_; clear hK3
  refine W_seq fun K5 hK5 => ?_
  refine W_region ?_
  refine sy hs (y_ldB rfl Tryd.underlying59 rfl ti59 (.head _) rfl) ?_; clear hs; intro a w hs
  refine RL_storeAll (i := 1) hs rfl rfl rfl ti59 ⟨rfl, rfl⟩ (AllC.arr (r := [.int .i64 (y12.Ids), .int .i64 (y12.Tests), .int .i64 (y12.Names)]) ⟨rfl, rfl, rfl, trivial⟩) (.free rfl) ?_; clear hs; intro a w hs
  replace hs : St _ _ _ (.blk b10 (.cells #[.int .i64 (y12.Ids), .int .i64 (y12.Tests), .int .i64 (y12.Names)] 59 (0, 0)) :: .blk b8 (.cells #[.int .i64 (y12.Ids), .int .i64 (y12.Tests), .int .i64 (y12.Names)] 59 (0, 0)) :: L) _ _ _ := hs
  refine RL_nil ?_
  refine hK5 _ _ ?_; clear hK5
  refine W_ret ?_
  obtain rfl := Option.some.inj hm
  refine RtV1 hs rfl (rv_a hs rfl Tryd.underlying59 rfl ti59 (fun j u hj => Cell.blk (.tail _ (.head _)) hj) rfl) ?_
  exact ⟨rfl, ((hs.subL (.cons _ (.cons _ (.refl _)))).weak hle).cw⟩
 ·refine W_block fun Qe6 hB6 hO6 => ?_
  refine W_loop (fun (k : Nat) a w => ∃ (y15 : ref10_Weight) (y18 : Int) (r16 : List Value), ref10_Weigh_l2 n p0 k y15 y18 = some res ∧ t_ref10_Weight.R f r16 y15 ∧ St 55 w0 f (.blk b10 (.cells r16.toArray 59 (0, 0)) :: .blk b8 (.cells #[.int .i64 (0), .int .i64 (0), .int .i64 (0)] 59 (0, 0)) :: .blk b6 (.cells #[v1] 63 (0, 0)) :: L) [(1, .pointer (some ⟨b6, 0, none⟩)), (2, .pointer (some ⟨b8, 0, none⟩)), (3, .pointer (some ⟨b10, 0, none⟩)), (4, .int .i64 (y18))] a w) (fun k => k) n ⟨({Ids := 0, Tests := 0, Names := 0} : ref10_Weight), 0, [.int .i64 (0), .int .i64 (0), .int .i64 (0)], hm, rfl, hs.sub ⟨rfl, rfl, rfl, rfl, trivial⟩⟩ ?_
  clear hs hm
  intro k
  rintro a w ⟨y15, y18, r16, hm, hq17, hs⟩
  obtain rfl : _ = ([.int .i64 (y15.Ids), .int .i64 (y15.Tests), .int .i64 (y15.Names)] : List Value) := hq17
  replace hs : St _ _ _ (.blk b10 (.cells #[.int .i64 (y15.Ids), .int .i64 (y15.Tests), .int .i64 (y15.Names)] 59 (0, 0)) :: .blk b8 (.cells #[.int .i64 (0), .int .i64 (0), .int .i64 (0)] 59 (0, 0)) :: .blk b6 (.cells #[v1] 63 (0, 0)) :: L) _ _ _ := hs
  intro K7 hK7
  cases k with
  | zero => simp [ref10_Weigh_l2] at hm
  | succ k19 =>
   rw [ref10_Weigh_l2] at hm
   refine W_seq fun K8 hK8 => ?_
   refine W_seq fun K9 hK9 => ?_
   refine W_region ?_
   refine sy (v := .int .i64 (y18)) hs (y_move rfl) ?_; clear hs; intro a w hs
   refine sy (v := .pointer (some ⟨b6, 0, none⟩)) hs (y_fieldAddr rfl (FO.of (off := 0) Tryd.underlying63 rfl rfl ti61 (by decide))) ?_; clear hs; intro a w hs
   refine sy (v := v1) hs (y_ld rfl Tryd.underlying61 rfl (Cell.blk (.tail _ (.tail _ (.head _))) rfl)) ?_; clear hs; intro a w hs
   refine sy hs (y_lenW hR3 hW4 rfl Tryd.underlying61) ?_; clear hs; intro a w hs
   refine sy hs (y_lss rfl rfl) ?_; clear hs; intro a w hs
   refine RL_nil ?_
   refine hK9 _ _ ?_; clear hK9
   refine W_cond hs rfl (fun hg20 => ?_) (fun hg20 => ?_)
   ·replace hm := oc_t hg20 hm
    refine W_skip ?_
    refine hK8 _ _ ?_; clear hK8
    refine W_seq fun K10 hK10 => ?_
    refine W_block fun Qe11 hB11 hO11 => ?_
    refine W_seq fun K12 hK12 => ?_
    refine W_seq fun K13 hK13 => ?_
    refine W_region ?_
    refine sy (v := .pointer (some ⟨b6, 0, none⟩)) hs (y_fieldAddr rfl (FO.of (off := 0) Tryd.underlying63 rfl rfl ti61 (by decide))) ?_; clear hs; intro a w hs
    refine sy (v := v1) hs (y_ld rfl Tryd.underlying61 rfl (Cell.blk (.tail _ (.tail _ (.head _))) rfl)) ?_; clear hs; intro a w hs
    refine sy (v := .int .i64 (y18)) hs (y_move rfl) ?_; clear hs; intro a w hs
    obtain ⟨x21, hx22, hm⟩ := ob hm
    obtain ⟨r23, hr24, hq25, hi26, hb27⟩ := hW4.geti hx22
    obtain ⟨v28, rfl, ⟨rw29, hR30, hW31⟩⟩ := hq25
    refine sy hs (y_indexAddr hR3 rfl rfl hi26 hb27 Tryd.underlying61 ti84) ?_; clear hs; intro a w hs
    refine sy (v := eaddr v1 3 y18.toNat 1) hs (y_fieldAddrE (i := y18.toNat) (j := 0) hR3 rfl hb27 (FO.of (off := 1) Tryd.underlying84 rfl rfl ti9 (by decide))) ?_; clear hs; intro a w hs
    refine sy (v := .string (x21.Name)) hs (y_loadE (i := y18.toNat) (j := 1) hR3.up rfl hr24 rfl Tryd.underlying9 rfl) ?_; clear hs; intro a w hs
    refine sy hs (y_sneq rfl rfl) ?_; clear hs; intro a w hs
    refine RL_nil ?_
    refine hK13 _ _ ?_; clear hK13
    refine W_post (fun a w => ∃ (y33 : Int), ref10_Weigh_k3 n p0 y15 y18 (ref10_Weigh_l2 n p0 k19) y33 = some res ∧ St 55 w0 f (.blk b10 (.cells #[.int .i64 (y15.Ids), .int .i64 (y15.Tests), .int .i64 (y33)] 59 (0, 0)) :: .blk b8 (.cells #[.int .i64 (0), .int .i64 (0), .int .i64 (0)] 59 (0, 0)) :: .blk b6 (.cells #[v1] 63 (0, 0)) :: L) [(1, .pointer (some ⟨b6, 0, none⟩)), (2, .pointer (some ⟨b8, 0, none⟩)), (3, .pointer (some ⟨b10, 0, none⟩)), (4, .int .i64 (y18))] a w) ?_ ?_
    ·clear hs hm
     rintro a w ⟨y33, hm, hs⟩
     replace hs : St _ _ _ (.blk b10 (.cells #[.int .i64 (y15.Ids), .int .i64 (y15.Tests), .int .i64 (y33)] 59 (0, 0)) :: .blk b8 (.cells #[.int .i64 (0), .int .i64 (0), .int .i64 (0)] 59 (0, 0)) :: .blk b6 (.cells #[v1] 63 (0, 0)) :: L) _ _ _ := hs
     unfold ref10_Weigh_k3 at hm
     refine hK12 _ _ ?_; clear hK12
     refine W_seq fun K14 hK14 => ?_
     refine W_region ?_
     refine sy (v := .int .i64 (0)) hs (y_assign rfl) ?_; clear hs; intro a w hs
     refine RL_nil ?_
     refine hK14 _ _ ?_; clear hK14
     refine W_post (fun a w => ∃ (y34 : ref10_Weight) (r35 : List Value), ref10_Weigh_k4 y18 (ref10_Weigh_l2 n p0 k19) y34 = some res ∧ t_ref10_Weight.R f r35 y34 ∧ St 55 w0 f (.blk b10 (.cells r35.toArray 59 (0, 0)) :: .blk b8 (.cells #[.int .i64 (0), .int .i64 (0), .int .i64 (0)] 59 (0, 0)) :: .blk b6 (.cells #[v1] 63 (0, 0)) :: L) [(1, .pointer (some ⟨b6, 0, none⟩)), (2, .pointer (some ⟨b8, 0, none⟩)), (3, .pointer (some ⟨b10, 0, none⟩)), (4, .int .i64 (y18))] a w) ?_ ?_
     ·clear hs hm
      rintro a w ⟨y34, r35, hm, hq36, hs⟩
      obtain rfl : _ = ([.int .i64 (y34.Ids), .int .i64 (y34.Tests), .int .i64 (y34.Names)] : List Value) := hq36
      replace hs : St _ _ _ (.blk b10 (.cells #[.int .i64 (y34.Ids), .int .i64 (y34.Tests), .int .i64 (y34.Names)] 59 (0, 0)) :: .blk b8 (.cells #[.int .i64 (0), .int .i64 (0), .int .i64 (0)] 59 (0, 0)) :: .blk b6 (.cells #[v1] 63 (0, 0)) :: L) _ _ _ := hs
      unfold ref10_Weigh_k4 at hm
      refine hK10 _ _ ?_; clear hK10
      refine W_region ?_
      refine sy (v := .int .i64 (y18)) hs (y_move rfl) ?_; clear hs; intro a w hs
      refine sy hs (y_add rfl rfl rfl) ?_; clear hs; intro a w hs
      refine sy (v := .int .i64 ((w64 (y18 + 1)))) hs (y_assign rfl) ?_; clear hs; intro a w hs
      refine RL_nil ?_
      exact hK7 k19 _ _ (Nat.lt_succ_self _) ⟨y34, (w64 (y18 + 1)), [.int .i64 (y34.Ids), .int .i64 (y34.Tests), .int .i64 (y34.Names)], hm, rfl, hs.sub ⟨rfl, rfl, rfl, rfl, trivial⟩⟩
     ·refine W_block fun Qe15 hB15 hO15 => ?_
      refine W_loop (fun (k : Nat) a w => ∃ (y37 : ref10_Weight) (y40 : Int) (r38 : List Value), ref10_Weigh_l5 p0 y18 (ref10_Weigh_l2 n p0 k19) k y37 y40 = some res ∧ t_ref10_Weight.R f r38 y37 ∧ St 55 w0 f (.blk b10 (.cells r38.toArray 59 (0, 0)) :: .blk b8 (.cells #[.int .i64 (0), .int .i64 (0), .int .i64 (0)] 59 (0, 0)) :: .blk b6 (.cells #[v1] 63 (0, 0)) :: L) [(1, .pointer (some ⟨b6, 0, none⟩)), (2, .pointer (some ⟨b8, 0, none⟩)), (3, .pointer (some ⟨b10, 0, none⟩)), (4, .int .i64 (y18)), (5, .int .i64 (y40))] a w) (fun k => k) n ⟨({Ids := y15.Ids, Tests := y15.Tests, Names := y33} : ref10_Weight), 0, [.int .i64 (y15.Ids), .int .i64 (y15.Tests), .int .i64 (y33)], hm, rfl, hs.sub ⟨rfl, rfl, rfl, rfl, rfl, trivial⟩⟩ ?_
      clear hs hm
      intro k
      rintro a w ⟨y37, y40, r38, hm, hq39, hs⟩
      obtain rfl : _ = ([.int .i64 (y37.Ids), .int .i64 (y37.Tests), .int .i64 (y37.Names)] : List Value) := hq39
      replace hs : St _ _ _ (.blk b10 (.cells #[.int .i64 (y37.Ids), .int .i64 (y37.Tests), .int .i64 (y37.Names)] 59 (0, 0)) :: .blk b8 (.cells #[.int .i64 (0), .int .i64 (0), .int .i64 (0)] 59 (0, 0)) :: .blk b6 (.cells #[v1] 63 (0, 0)) :: L) _ _ _ := hs
      intro K16 hK16
      cases k with
      | zero => simp [ref10_Weigh_l5] at hm
      | succ k41 =>
       rw [ref10_Weigh_l5] at hm
       refine W_seq fun K17 hK17 => ?_
       refine W_seq fun K18 hK18 => ?_
       refine W_region ?_
       refine sy (v := .int .i64 (y40)) hs (y_move rfl) ?_; clear hs; intro a w hs
       refine sy (v := .pointer (some ⟨b6, 0, none⟩)) hs (y_fieldAddr rfl (FO.of (off := 0) Tryd.underlying63 rfl rfl ti61 (by decide))) ?_; clear hs; intro a w hs
       refine sy (v := v1) hs (y_ld rfl Tryd.underlying61 rfl (Cell.blk (.tail _ (.tail _ (.head _))) rfl)) ?_; clear hs; intro a w hs
       refine sy (v := .int .i64 (y18)) hs (y_move rfl) ?_; clear hs; intro a w hs
       obtain ⟨x42, hx43, hm⟩ := ob hm
       obtain ⟨r44, hr45, hq46, hi47, hb48⟩ := hW4.geti hx43
       obtain ⟨v49, rfl, ⟨rw50, hR51, hW52⟩⟩ := hq46
       refine sy hs (y_indexAddr hR3 rfl rfl hi47 hb48 Tryd.underlying61 ti84) ?_; clear hs; intro a w hs
       refine sy (v := eaddr v1 3 y18.toNat 2) hs (y_fieldAddrE (i := y18.toNat) (j := 0) hR3 rfl hb48 (FO.of (off := 2) Tryd.underlying84 rfl rfl ti82 (by decide))) ?_; clear hs; intro a w hs
       refine sy (v := v49) hs (y_loadE (i := y18.toNat) (j := 2) hR3.up rfl hr45 rfl Tryd.underlying82 rfl) ?_; clear hs; intro a w hs
       refine sy hs (y_lenW hR51 hW52 rfl Tryd.underlying82) ?_; clear hs; intro a w hs
       refine sy hs (y_lss rfl rfl) ?_; clear hs; intro a w hs
       refine RL_nil ?_
       refine hK18 _ _ ?_; clear hK18
       refine W_cond hs rfl (fun hg54 => ?_) (fun hg54 => ?_)
       ·replace hm := oc_t hg54 hm
        refine W_skip ?_
        refine hK17 _ _ ?_; clear hK17
        refine W_seq fun K19 hK19 => ?_
        refine W_block fun Qe20 hB20 hO20 => ?_
        refine W_seq fun K21 hK21 => ?_
        refine W_region ?_
        refine sy (v := .pointer (some ⟨b6, 0, none⟩)) hs (y_fieldAddr rfl (FO.of (off := 0) Tryd.underlying63 rfl rfl ti61 (by decide))) ?_; clear hs; intro a w hs
        refine sy (v := v1) hs (y_ld rfl Tryd.underlying61 rfl (Cell.blk (.tail _ (.tail _ (.head _))) rfl)) ?_; clear hs; intro a w hs
        refine sy (v := .int .i64 (y18)) hs (y_move rfl) ?_; clear hs; intro a w hs
        obtain ⟨x55, hx56, hm⟩ := ob hm
        obtain ⟨r57, hr58, hq59, hi60, hb61⟩ := hW4.geti hx56
        obtain ⟨v62, rfl, ⟨rw63, hR64, hW65⟩⟩ := hq59
        refine sy hs (y_indexAddr hR3 rfl rfl hi60 hb61 Tryd.underlying61 ti84) ?_; clear hs; intro a w hs
        refine sy (v := eaddr v1 3 y18.toNat 2) hs (y_fieldAddrE (i := y18.toNat) (j := 0) hR3 rfl hb61 (FO.of (off := 2) Tryd.underlying84 rfl rfl ti82 (by decide))) ?_; clear hs; intro a w hs
        refine sy (v := v62) hs (y_loadE (i := y18.toNat) (j := 2) hR3.up rfl hr58 rfl Tryd.underlying82 rfl) ?_; clear hs; intro a w hs
        refine sy (v := .int .i64 (y40)) hs (y_move rfl) ?_; clear hs; intro a w hs
        obtain ⟨x67, hx68, hm⟩ := ob hm
        obtain ⟨r69, hr70, hq71, hi72, hb73⟩ := hW65.geti hx68
        obtain rfl : _ = ([.int .i64 (x67.Kind), .string (x67.Name), .string (x67.Value), .int .i64 (x67.N)] : List Value) := hq71
        refine sy hs (y_indexAddr hR64 rfl rfl hi72 hb73 Tryd.underlying82 ti85) ?_; clear hs; intro a w hs
        refine sy (v := eaddr v62 4 y40.toNat 0) hs (y_fieldAddrE (i := y40.toNat) (j := 0) hR64 rfl hb73 (FO.of (off := 0) Tryd.underlying85 rfl rfl ti3 (by decide))) ?_; clear hs; intro a w hs
        refine sy (v := .int .i64 (x67.Kind)) hs (y_loadE (i := y40.toNat) (j := 0) hR64.up rfl hr70 rfl Tryd.underlying3 rfl) ?_; clear hs; intro a w hs
        refine sy hs (y_eql rfl rfl) ?_; clear hs; intro a w hs
        refine RL_nil ?_
        refine hK21 _ _ ?_; clear hK21
        refine W_post (fun a w => ∃ (y74 : ref10_Weight) (r75 : List Value), ref10_Weigh_k6 y40 (ref10_Weigh_l5 p0 y18 (ref10_Weigh_l2 n p0 k19) k41) y74 = some res ∧ t_ref10_Weight.R f r75 y74 ∧ St 55 w0 f (.blk b10 (.cells r75.toArray 59 (0, 0)) :: .blk b8 (.cells #[.int .i64 (0), .int .i64 (0), .int .i64 (0)] 59 (0, 0)) :: .blk b6 (.cells #[v1] 63 (0, 0)) :: L) [(1, .pointer (some ⟨b6, 0, none⟩)), (2, .pointer (some ⟨b8, 0, none⟩)), (3, .pointer (some ⟨b10, 0, none⟩)), (4, .int .i64 (y18)), (5, .int .i64 (y40))] a w) ?_ ?_
        ·clear hs hm
         rintro a w ⟨y74, r75, hm, hq76, hs⟩
         obtain rfl : _ = ([.int .i64 (y74.Ids), .int .i64 (y74.Tests), .int .i64 (y74.Names)] : List Value) := hq76
         replace hs : St _ _ _ (.blk b10 (.cells #[.int .i64 (y74.Ids), .int .i64 (y74.Tests), .int .i64 (y74.Names)] 59 (0, 0)) :: .blk b8 (.cells #[.int .i64 (0), .int .i64 (0), .int .i64 (0)] 59 (0, 0)) :: .blk b6 (.cells #[v1] 63 (0, 0)) :: L) _ _ _ := hs
         unfold ref10_Weigh_k6 at hm
         refine hK19 _ _ ?_; clear hK19
         refine W_region ?_
         refine sy (v := .int .i64 (y40)) hs (y_move rfl) ?_; clear hs; intro a w hs
         refine sy hs (y_add rfl rfl rfl) ?_; clear hs; intro a w hs
         refine sy (v := .int .i64 ((w64 (y40 + 1)))) hs (y_assign rfl) ?_; clear hs; intro a w hs
         refine RL_nil ?_
         exact hK16 k41 _ _ (Nat.lt_succ_self _) ⟨y74, (w64 (y40 + 1)), [.int .i64 (y74.Ids), .int .i64 (y74.Tests), .int .i64 (y74.Names)], hm, rfl, hs.sub ⟨rfl, rfl, rfl, rfl, rfl, trivial⟩⟩
        ·refine W_cond hs rfl (fun hg77 => ?_) (fun hg77 => ?_)
         ·replace hm := oc_t hg77 hm
          refine W_region ?_
          refine sy (v := .pointer (some ⟨b10, 0, none⟩)) hs (y_fieldAddr rfl (FO.of (off := 0) Tryd.underlying59 rfl rfl ti3 (by decide))) ?_; clear hs; intro a w hs
          refine sy (v := .int .i64 (y37.Ids)) hs (y_ld rfl Tryd.underlying3 rfl (Cell.blk (.head _) rfl)) ?_; clear hs; intro a w hs
          refine sy hs (y_add rfl rfl rfl) ?_; clear hs; intro a w hs
          refine sy (v := .pointer (some ⟨b10, 0, none⟩)) hs (y_fieldAddr rfl (FO.of (off := 0) Tryd.underlying59 rfl rfl ti3 (by decide))) ?_; clear hs; intro a w hs
          refine sstore 0 hs rfl rfl rfl ti3 rfl ?_; clear hs; intro a w hs
          replace hs : St _ _ _ (.blk b10 (.cells #[.int .i64 ((w64 (y37.Ids + 1))), .int .i64 (y37.Tests), .int .i64 (y37.Names)] 59 (0, 0)) :: .blk b8 (.cells #[.int .i64 (0), .int .i64 (0), .int .i64 (0)] 59 (0, 0)) :: .blk b6 (.cells #[v1] 63 (0, 0)) :: L) _ _ _ := hs
          refine RL_nil ?_
          exact ⟨({Ids := (w64 (y37.Ids + 1)), Tests := y37.Tests, Names := y37.Names} : ref10_Weight), [.int .i64 ((w64 (y37.Ids + 1))), .int .i64 (y37.Tests), .int .i64 (y37.Names)], hm, rfl, hs.sub ⟨rfl, rfl, rfl, rfl, rfl, trivial⟩⟩
         ·replace hm := oc_f hg77 hm
          refine W_region ?_
          refine sy (v := .pointer (some ⟨b10, 1, none⟩)) hs (y_fieldAddr rfl (FO.of (off := 1) Tryd.underlying59 rfl rfl ti3 (by decide))) ?_; clear hs; intro a w hs
          refine sy (v := .int .i64 (y37.Tests)) hs (y_ld rfl Tryd.underlying3 rfl (Cell.blk (.head _) rfl)) ?_; clear hs; intro a w hs
          refine sy hs (y_add rfl rfl rfl) ?_; clear hs; intro a w hs
          refine sy (v := .pointer (some ⟨b10, 1, none⟩)) hs (y_fieldAddr rfl (FO.of (off := 1) Tryd.underlying59 rfl rfl ti3 (by decide))) ?_; clear hs; intro a w hs
          refine sstore 0 hs rfl rfl rfl ti3 rfl ?_; clear hs; intro a w hs
          replace hs : St _ _ _ (.blk b10 (.cells #[.int .i64 (y37.Ids), .int .i64 ((w64 (y37.Tests + 1))), .int .i64 (y37.Names)] 59 (0, 0)) :: .blk b8 (.cells #[.int .i64 (0), .int .i64 (0), .int .i64 (0)] 59 (0, 0)) :: .blk b6 (.cells #[v1] 63 (0, 0)) :: L) _ _ _ := hs
          refine RL_nil ?_
          exact ⟨({Ids := y37.Ids, Tests := (w64 (y37.Tests + 1)), Names := y37.Names} : ref10_Weight), [.int .i64 (y37.Ids), .int .i64 ((w64 (y37.Tests + 1))), .int .i64 (y37.Names)], hm, rfl, hs.sub ⟨rfl, rfl, rfl, rfl, rfl, trivial⟩⟩
       ·replace hm := oc_f hg54 hm
        refine W_exit ?_
        refine hB15 _ _ ?_
        exact ⟨y37, [.int .i64 (y37.Ids), .int .i64 (y37.Tests), .int .i64 (y37.Names)], hm, rfl, hs.sub ⟨rfl, rfl, rfl, rfl, trivial⟩⟩
    ·refine W_cond hs rfl (fun hg78 => ?_) (fun hg78 => ?_)
     ·replace hm := oc_t hg78 hm
      refine W_region ?_
      refine sy (v := .pointer (some ⟨b10, 2, none⟩)) hs (y_fieldAddr rfl (FO.of (off := 2) Tryd.underlying59 rfl rfl ti3 (by decide))) ?_; clear hs; intro a w hs
      refine sy (v := .int .i64 (y15.Names)) hs (y_ld rfl Tryd.underlying3 rfl (Cell.blk (.head _) rfl)) ?_; clear hs; intro a w hs
      refine sy hs (y_add rfl rfl rfl) ?_; clear hs; intro a w hs
      refine sy (v := .pointer (some ⟨b10, 2, none⟩)) hs (y_fieldAddr rfl (FO.of (off := 2) Tryd.underlying59 rfl rfl ti3 (by decide))) ?_; clear hs; intro a w hs
      refine sstore 0 hs rfl rfl rfl ti3 rfl ?_; clear hs; intro a w hs
      replace hs : St _ _ _ (.blk b10 (.cells #[.int .i64 (y15.Ids), .int .i64 (y15.Tests), .int .i64 ((w64 (y15.Names + 1)))] 59 (0, 0)) :: .blk b8 (.cells #[.int .i64 (0), .int .i64 (0), .int .i64 (0)] 59 (0, 0)) :: .blk b6 (.cells #[v1] 63 (0, 0)) :: L) _ _ _ := hs
      refine RL_nil ?_
      exact ⟨(w64 (y15.Names + 1)), hm, hs.sub ⟨rfl, rfl, rfl, rfl, trivial⟩⟩
     ·replace hm := oc_f hg78 hm
      refine W_skip ?_
      exact ⟨y15.Names, hm, hs.sub ⟨rfl, rfl, rfl, rfl, trivial⟩⟩
   ·replace hm := oc_f hg20 hm
    refine W_exit ?_
    refine hB6 _ _ ?_
    exact ⟨y15, [.int .i64 (y15.Ids), .int .i64 (y15.Tests), .int .i64 (y15.Names)], hm, rfl, hs.subs ⟨rfl, rfl, trivial⟩ (.cons_cons _ (.cons_cons _ (.cons _ (.refl _))))⟩
/-! casement/casementref10.Less -/
def ref10_Less (_n : Nat) (p0 : ref10_Weight) (p1 : ref10_Weight) : Option Bool :=
  (bif (decide (p0.Ids ≠ p1.Ids)) then some (decide (p0.Ids < p1.Ids)) else
  (bif (decide (p0.Tests ≠ p1.Tests)) then some (decide (p0.Tests < p1.Tests)) else
  some (decide (p0.Names < p1.Names))))
set_option maxRecDepth 20000 in
set_option maxHeartbeats 4000000 in
theorem ref10_Less_ok (n : Nat) {f : Fz} {p0 : ref10_Weight} {a0 : List Value} {p1 : ref10_Weight} {a1 : List Value} {res : Bool} (h0 : t_ref10_Weight.R f a0 p0) (h1 : t_ref10_Weight.R f a1 p1) (hm : ref10_Less n p0 p1 = some res) : Gives Tryd.prog 37 [.agg a0.toArray, .agg a1.toArray] f (.bool res) := by
 unfold ref10_Less at hm
 intro w0 L w hC
 obtain rfl : _ = ([.int .i64 (p0.Ids), .int .i64 (p0.Tests), .int .i64 (p0.Names)] : List Value) := h0
 obtain rfl : _ = ([.int .i64 (p1.Ids), .int .i64 (p1.Tests), .int .i64 (p1.Names)] : List Value) := h1
 refine enter Tryd.func37 rfl Tryd.ntmps37 (by simp) hC fun a hs => ?_
 have hle := Fz.le.refl f
 refine W_seq fun K1 hK1 => ?_
 refine W_region ?_
 refine sbox hs rfl ?_; clear hs; intro b1 a w hs
 replace hs : St _ _ _ (.blk b1 (.cells #[.int .i64 (p0.Ids), .int .i64 (p0.Tests), .int .i64 (p0.Names)] 59 (0, 0)) :: L) _ _ _ := hs
 refine sbox hs rfl ?_; clear hs; intro b3 a w hs
 replace hs : St _ _ _ (.blk b3 (.cells #[.int .i64 (p1.Ids), .int .i64 (p1.Tests), .int .i64 (p1.Names)] 59 (0, 0)) :: .blk b1 (.cells #[.int .i64 (p0.Ids), .int .i64 (p0.Tests), .int .i64 (p0.Names)] 59 (0, 0)) :: L) _ _ _ := hs
 refine sy (v := .bool (false)) hs (y_assign rfl) ?_; clear hs; intro a w hs
 refine RL_nil ?_
 refine hK1 _ _ ?_; clear hK1
 refine W_seq fun K2 hK2 => ?_
 refine W_seq fun K3 hK3 => ?_
 refine W_region ?_
 refine sy (v := .pointer (some ⟨b1, 0, none⟩)) hs (y_fieldAddr rfl (FO.of (off := 0) Tryd.underlying59 rfl rfl ti3 (by decide))) ?_; clear hs; intro a w hs
 refine sy (v := .int .i64 (p0.Ids)) hs (y_ld rfl Tryd.underlying3 rfl (Cell.blk (.tail _ (.head _)) rfl)) ?_; clear hs; intro a w hs
 refine sy (v := .pointer (some ⟨b3, 0, none⟩)) hs (y_fieldAddr rfl (FO.of (off := 0) Tryd.underlying59 rfl rfl ti3 (by decide))) ?_; clear hs; intro a w hs
 refine sy (v := .int .i64 (p1.Ids)) hs (y_ld rfl Tryd.underlying3 rfl (Cell.blk (.head _) rfl)) ?_; clear hs; intro a w hs
 refine sy hs (y_neq rfl rfl) ?_; clear hs; intro a w hs
 refine RL_nil ?_
 refine hK3 _ _ ?_; clear hK3
 refine W_cond hs rfl (fun hg5 => ?_) (fun hg5 => ?_)
 ·replace hm := oc_t hg5 hm
  refine W_seq fun K4 hK4 => ?_
  refine W_region ?_
  refine sy (v := .pointer (some ⟨b1, 0, none⟩)) hs (y_fieldAddr rfl (FO.of (off := 0) Tryd.underlying59 rfl rfl ti3 (by decide))) ?_; clear hs; intro a w hs
  refine sy (v := .int .i64 (p0.Ids)) hs (y_ld rfl Tryd.underlying3 rfl (Cell.blk (.tail _ (.head _)) rfl)) ?_; clear hs; intro a w hs
  refine sy (v := .pointer (some ⟨b3, 0, none⟩)) hs (y_fieldAddr rfl (FO.of (off := 0) Tryd.underlying59 rfl rfl ti3 (by decide))) ?_; clear hs; intro a w hs
  refine sy (v := .int .i64 (p1.Ids)) hs (y_ld rfl Tryd.underlying3 rfl (Cell.blk (.head _) rfl)) ?_; clear hs; intro a w hs
  refine sy hs (y_lss rfl rfl) ?_; clear hs; intro a w hs
  refine sy (v := .bool (decide (p0.Ids < p1.Ids))) hs (y_assign rfl) ?_; clear hs; intro a w hs
  refine RL_nil ?_
  refine hK4 _ _ ?_; clear hK4
  refine W_ret ?_
  obtain rfl := Option.some.inj hm
  refine RtV1 hs rfl (rv_t hs rfl) ?_
  exact ⟨rfl, ((hs.subL (.cons _ (.cons _ (.refl _)))).weak hle).cw⟩
 ·replace hm := oc_f hg5 hm
  refine W_skip ?_
  refine hK2 _ _ ?_; clear hK2
  refine W_seq fun K5 hK5 => ?_
  refine W_seq fun K6 hK6 => ?_
  refine W_region ?_
  refine sy (v := .pointer (some ⟨b1, 1, none⟩)) hs (y_fieldAddr rfl (FO.of (off := 1) Tryd.underlying59 rfl rfl ti3 (by decide))) ?_; clear hs; intro a w hs
  refine sy (v := .int .i64 (p0.Tests)) hs (y_ld rfl Tryd.underlying3 rfl (Cell.blk (.tail _ (.head _)) rfl)) ?_; clear hs; intro a w hs
  refine sy (v := .pointer (some ⟨b3, 1, none⟩)) hs (y_fieldAddr rfl (FO.of (off := 1) Tryd.underlying59 rfl rfl ti3 (by decide))) ?_; clear hs; intro a w hs
  refine sy (v := .int .i64 (p1.Tests)) hs (y_ld rfl Tryd.underlying3 rfl (Cell.blk (.head _) rfl)) ?_; clear hs; intro a w hs
  refine sy hs (y_neq rfl rfl) ?_; clear hs; intro a w hs
  refine RL_nil ?_
  refine hK6 _ _ ?_; clear hK6
  refine W_cond hs rfl (fun hg6 => ?_) (fun hg6 => ?_)
  ·replace hm := oc_t hg6 hm
   refine W_seq fun K7 hK7 => ?_
   refine W_region ?_
   refine sy (v := .pointer (some ⟨b1, 1, none⟩)) hs (y_fieldAddr rfl (FO.of (off := 1) Tryd.underlying59 rfl rfl ti3 (by decide))) ?_; clear hs; intro a w hs
   refine sy (v := .int .i64 (p0.Tests)) hs (y_ld rfl Tryd.underlying3 rfl (Cell.blk (.tail _ (.head _)) rfl)) ?_; clear hs; intro a w hs
   refine sy (v := .pointer (some ⟨b3, 1, none⟩)) hs (y_fieldAddr rfl (FO.of (off := 1) Tryd.underlying59 rfl rfl ti3 (by decide))) ?_; clear hs; intro a w hs
   refine sy (v := .int .i64 (p1.Tests)) hs (y_ld rfl Tryd.underlying3 rfl (Cell.blk (.head _) rfl)) ?_; clear hs; intro a w hs
   refine sy hs (y_lss rfl rfl) ?_; clear hs; intro a w hs
   refine sy (v := .bool (decide (p0.Tests < p1.Tests))) hs (y_assign rfl) ?_; clear hs; intro a w hs
   refine RL_nil ?_
   refine hK7 _ _ ?_; clear hK7
   refine W_ret ?_
   obtain rfl := Option.some.inj hm
   refine RtV1 hs rfl (rv_t hs rfl) ?_
   exact ⟨rfl, ((hs.subL (.cons _ (.cons _ (.refl _)))).weak hle).cw⟩
  ·replace hm := oc_f hg6 hm
   refine W_skip ?_
   refine hK5 _ _ ?_; clear hK5
   refine W_seq fun K8 hK8 => ?_
   refine W_region ?_
   refine sy (v := .pointer (some ⟨b1, 2, none⟩)) hs (y_fieldAddr rfl (FO.of (off := 2) Tryd.underlying59 rfl rfl ti3 (by decide))) ?_; clear hs; intro a w hs
   refine sy (v := .int .i64 (p0.Names)) hs (y_ld rfl Tryd.underlying3 rfl (Cell.blk (.tail _ (.head _)) rfl)) ?_; clear hs; intro a w hs
   refine sy (v := .pointer (some ⟨b3, 2, none⟩)) hs (y_fieldAddr rfl (FO.of (off := 2) Tryd.underlying59 rfl rfl ti3 (by decide))) ?_; clear hs; intro a w hs
   refine sy (v := .int .i64 (p1.Names)) hs (y_ld rfl Tryd.underlying3 rfl (Cell.blk (.head _) rfl)) ?_; clear hs; intro a w hs
   refine sy hs (y_lss rfl rfl) ?_; clear hs; intro a w hs
   refine sy (v := .bool (decide (p0.Names < p1.Names))) hs (y_assign rfl) ?_; clear hs; intro a w hs
   refine RL_nil ?_
   refine hK8 _ _ ?_; clear hK8
   refine W_ret ?_
   obtain rfl := Option.some.inj hm
   refine RtV1 hs rfl (rv_t hs rfl) ?_
   exact ⟨rfl, ((hs.subL (.cons _ (.cons _ (.refl _)))).weak hle).cw⟩
/-! casement/casementref10.Best -/
def ref10_Best_k1 (y16 : ref10_Weight) (y19 : Bool) : Option (ref10_Weight × Bool) :=
  some (y16, y19)
def ref10_Best_k3 (y24 : Int) (lp25 : ref10_Weight → Bool → Int → Option (ref10_Weight × Bool)) (y27 : ref10_Weight) (y30 : Bool) : Option (ref10_Weight × Bool) :=
  lp25 y27 y30 (w64 (y24 + 1))
def ref10_Best_k5 (y24 : Int) (lp25 : ref10_Weight → Bool → Int → Option (ref10_Weight × Bool)) (y63 : ref10_Weight) : Option (ref10_Weight × Bool) :=
  ref10_Best_k3 y24 lp25 y63 true
def ref10_Best_k4 (y20 : ref10_Weight) (y24 : Int) (lp25 : ref10_Weight → Bool → Int → Option (ref10_Weight × Bool)) (x58 : ref10_Weight) (y62 : Bool) : Option (ref10_Weight × Bool) :=
  (bif y62 then ref10_Best_k5 y24 lp25 x58 else
  ref10_Best_k5 y24 lp25 y20)
def ref10_Best_l2 (n : Nat) (p0 : api_Tree) (p1 : Int) (p2 : (List ref9_Selector)) : Nat → ref10_Weight → Bool → Int → Option (ref10_Weight × Bool)
  | 0, _, _, _ => none
  | k25 + 1, y20, y23, y24 =>
  (bif (decide (y24 < (p2.length : Int))) then (geti p2 y24).bind fun x31 =>
  (ref10_Match n p0 p1 x31).bind fun x43 =>
  (bif (!x43) then ref10_Best_k3 y24 (ref10_Best_l2 n p0 p1 p2 k25) y20 y23 else
  (geti p2 y24).bind fun x46 =>
  (ref10_Weigh n x46).bind fun x58 =>
  (bif (!y23) then ref10_Best_k4 y20 y24 (ref10_Best_l2 n p0 p1 p2 k25) x58 true else
  (ref10_Less n y20 x58).bind fun x68 =>
  ref10_Best_k4 y20 y24 (ref10_Best_l2 n p0 p1 p2 k25) x58 x68)) else
  ref10_Best_k1 y20 y23)
def ref10_Best (n : Nat) (p0 : api_Tree) (p1 : Int) (p2 : (List ref9_Selector)) : Option (ref10_Weight × Bool) :=
  ref10_Best_l2 n p0 p1 p2 n ({Ids := 0, Tests := 0, Names := 0} : ref10_Weight) false 0
set_option maxRecDepth 20000 in
set_option maxHeartbeats 4000000 in
theorem ref10_Best_ok (n : Nat) {f : Fz} {p0 : api_Tree} {a0 : List Value} {p1 : Int} {p2 : (List ref9_Selector)} {a2 : Value} {res : (ref10_Weight × Bool)} (h0 : t_api_Tree.R f a0 p0) (h2 : RS t_ref9_Selector f a2 p2) (hm : ref10_Best n p0 p1 p2 = some res) : Gives Tryd.prog 24 [.agg a0.toArray, .int .i64 p1, a2] f (.tuple #[.agg #[.int .i64 res.1.Ids, .int .i64 res.1.Tests, .int .i64 res.1.Names], .bool res.2]) := by
 unfold ref10_Best at hm
 intro w0 L w hC
 obtain ⟨v1, rfl, ⟨rw2, hR3, hW4⟩⟩ := h0
 obtain ⟨rw6, hR7, hW8⟩ := h2
 refine enter Tryd.func24 rfl Tryd.ntmps24 (by simp) hC fun a hs => ?_
 have hle := Fz.le.refl f
 refine W_seq fun K1 hK1 => ?_
 refine W_region ?_
 refine sbox hs rfl ?_; clear hs; intro b10 a w hs
 replace hs : St _ _ _ (.blk b10 (.cells #[v1] 24 (0, 0)) :: L) _ _ _ := hs
 refine RL_alloc hs ti59 (.free rfl) (by decide) ?_; clear hs; intro b12 a w hs
 replace hs : St _ _ _ (.blk b12 (.cells #[.int .i64 (0), .int .i64 (0), .int .i64 (0)] 59 (0, 0)) :: .blk b10 (.cells #[v1] 24 (0, 0)) :: L) _ _ _ := hs
 refine sy (v := .bool (false)) hs (y_assign rfl) ?_; clear hs; intro a w hs
 refine RL_nil ?_
 refine hK1 _ _ ?_; clear hK1
 refine W_seq fun K2 hK2 => ?_
 refine W_region ?_
 refine RL_alloc hs ti59 (.free rfl) (by decide) ?_; clear hs; intro b14 a w hs
 replace hs : St _ _ _ (.blk b14 (.cells #[.int .i64 (0), .int .i64 (0), .int .i64 (0)] 59 (0, 0)) :: .blk b12 (.cells #[.int .i64 (0), .int .i64 (0), .int .i64 (0)] 59 (0, 0)) :: .blk b10 (.cells #[v1] 24 (0, 0)) :: L) _ _ _ := hs
 refine RL_nil ?_
 refine hK2 _ _ ?_; clear hK2
 refine W_seq fun K3 hK3 => ?_
 refine W_region ?_
 refine sy (v := .bool (false)) hs (y_assign rfl) ?_; clear hs; intro a w hs
 refine RL_nil ?_
 refine hK3 _ _ ?_; clear hK3
 refine W_seq fun K4 hK4 => ?_
 refine W_seq fun K5 hK5 => ?_
 refine W_region ?_
 refine sy (v := .int .i64 (0)) hs (y_assign rfl) ?_; clear hs; intro a w hs
 refine RL_nil ?_
 refine hK5 _ _ ?_; clear hK5
 refine W_post (fun a w => ∃ (y16 : ref10_Weight) (y19 : Bool) (r17 : List Value), ref10_Best_k1 y16 y19 = some res ∧ t_ref10_Weight.R f r17 y16 ∧ St 41 w0 f (.blk b14 (.cells r17.toArray 59 (0, 0)) :: .blk b12 (.cells #[.int .i64 (0), .int .i64 (0), .int .i64 (0)] 59 (0, 0)) :: L) [(6, .pointer (some ⟨b12, 0, none⟩)), (8, .pointer (some ⟨b14, 0, none⟩)), (9, .bool (y19))] a w) ?_ ?_
 ·clear hs hm
  rintro a w ⟨y16, y19, r17, hm, hq18, hs⟩
  obtain rfl : _ = ([.int .i64 (y16.Ids), .int .i64 (y16.Tests), .int .i64 (y16.Names)] : List Value) := hq18
  replace hs : St _ _ _ (.blk b14 (.cells #[.int .i64 (y16.Ids), .int .i64 (y16.Tests), .int .i64 (y16.Names)] 59 (0, 0)) :: .blk b12 (.cells #[.int .i64 (0), .int .i64 (0), .int .i64 (0)] 59 (0, 0)) :: L) _ _ _ := hs
  unfold ref10_Best_k1 at hm
  refine hK4 _ _ ?_; clear hK4
  refine W_seq fun K6 hK6 => ?_
  refine W_region ?_
  refine sy hs (y_ldB rfl Tryd.underlying59 rfl ti59 (.head _) rfl) ?_; clear hs; intro a w hs
  refine sy (v := .bool (y19)) hs (y_move rfl) ?_; clear hs; intro a w hs
  refine RL_storeAll (i := 1) hs rfl rfl rfl ti59 ⟨rfl, rfl⟩ (AllC.arr (r := [.int .i64 (y16.Ids), .int .i64 (y16.Tests), .int .i64 (y16.Names)]) ⟨rfl, rfl, rfl, trivial⟩) (.free rfl) ?_; clear hs; intro a w hs
  replace hs : St _ _ _ (.blk b14 (.cells #[.int .i64 (y16.Ids), .int .i64 (y16.Tests), .int .i64 (y16.Names)] 59 (0, 0)) :: .blk b12 (.cells #[.int .i64 (y16.Ids), .int .i64 (y16.Tests), .int .i64 (y16.Names)] 59 (0, 0)) :: L) _ _ _ := hs
  refine sy (v := .bool (y19)) hs (y_assign rfl) ?_; clear hs; intro a w hs
  refine RL_nil ?_
  refine hK6 _ _ ?_; clear hK6
  refine W_ret ?_
  obtain rfl := Option.some.inj hm
  refine RtV2 hs rfl (rv_a hs rfl Tryd.underlying59 rfl ti59 (fun j u hj => Cell.blk (.tail _ (.head _)) hj) rfl) (rv_t hs rfl) ?_
  exact ⟨rfl, ((hs.subL (.cons _ (.cons _ (.refl _)))).weak hle).cw⟩
 ·refine W_block fun Qe7 hB7 hO7 => ?_
  refine W_loop (fun (k : Nat) a w => ∃ (y20 : ref10_Weight) (y23 : Bool) (y24 : Int) (r21 : List Value), ref10_Best_l2 n p0 p1 p2 k y20 y23 y24 = some res ∧ t_ref10_Weight.R f r21 y20 ∧ St 41 w0 f (.blk b14 (.cells r21.toArray 59 (0, 0)) :: .blk b12 (.cells #[.int .i64 (0), .int .i64 (0), .int .i64 (0)] 59 (0, 0)) :: .blk b10 (.cells #[v1] 24 (0, 0)) :: L) [(1, .int .i64 (p1)), (2, a2), (3, .pointer (some ⟨b10, 0, none⟩)), (6, .pointer (some ⟨b12, 0, none⟩)), (8, .pointer (some ⟨b14, 0, none⟩)), (9, .bool (y23)), (10, .int .i64 (y24))] a w) (fun k => k) n ⟨({Ids := 0, Tests := 0, Names := 0} : ref10_Weight), false, 0, [.int .i64 (0), .int .i64 (0), .int .i64 (0)], hm, rfl, hs.sub ⟨rfl, rfl, rfl, rfl, rfl, rfl, rfl, trivial⟩⟩ ?_
  clear hs hm
  intro k
  rintro a w ⟨y20, y23, y24, r21, hm, hq22, hs⟩
  obtain rfl : _ = ([.int .i64 (y20.Ids), .int .i64 (y20.Tests), .int .i64 (y20.Names)] : List Value) := hq22
  replace hs : St _ _ _ (.blk b14 (.cells #[.int .i64 (y20.Ids), .int .i64 (y20.Tests), .int .i64 (y20.Names)] 59 (0, 0)) :: .blk b12 (.cells #[.int .i64 (0), .int .i64 (0), .int .i64 (0)] 59 (0, 0)) :: .blk b10 (.cells #[v1] 24 (0, 0)) :: L) _ _ _ := hs
  intro K8 hK8
  cases k with
  | zero => simp [ref10_Best_l2] at hm
  | succ k25 =>
   rw [ref10_Best_l2] at hm
   refine W_seq fun K9 hK9 => ?_
   refine W_seq fun K10 hK10 => ?_
   refine W_region ?_
   refine sy (v := .int .i64 (y24)) hs (y_move rfl) ?_; clear hs; intro a w hs
   refine sy (v := a2) hs (y_move rfl) ?_; clear hs; intro a w hs
   refine sy hs (y_lenW hR7 hW8 rfl Tryd.underlying56) ?_; clear hs; intro a w hs
   refine sy hs (y_lss rfl rfl) ?_; clear hs; intro a w hs
   refine RL_nil ?_
   refine hK10 _ _ ?_; clear hK10
   refine W_cond hs rfl (fun hg26 => ?_) (fun hg26 => ?_)
   ·replace hm := oc_t hg26 hm
    refine W_skip ?_
    refine hK9 _ _ ?_; clear hK9
    refine W_seq fun K11 hK11 => ?_
    refine W_post (fun a w => ∃ (y27 : ref10_Weight) (y30 : Bool) (r28 : List Value), ref10_Best_k3 y24 (ref10_Best_l2 n p0 p1 p2 k25) y27 y30 = some res ∧ t_ref10_Weight.R f r28 y27 ∧ St 41 w0 f (.blk b14 (.cells r28.toArray 59 (0, 0)) :: .blk b12 (.cells #[.int .i64 (0), .int .i64 (0), .int .i64 (0)] 59 (0, 0)) :: .blk b10 (.cells #[v1] 24 (0, 0)) :: L) [(1, .int .i64 (p1)), (2, a2), (3, .pointer (some ⟨b10, 0, none⟩)), (6, .pointer (some ⟨b12, 0, none⟩)), (8, .pointer (some ⟨b14, 0, none⟩)), (9, .bool (y30)), (10, .int .i64 (y24))] a w) ?_ ?_
    ·clear hs hm
     rintro a w ⟨y27, y30, r28, hm, hq29, hs⟩
     obtain rfl : _ = ([.int .i64 (y27.Ids), .int .i64 (y27.Tests), .int .i64 (y27.Names)] : List Value) := hq29
     replace hs : St _ _ _ (.blk b14 (.cells #[.int .i64 (y27.Ids), .int .i64 (y27.Tests), .int .i64 (y27.Names)] 59 (0, 0)) :: .blk b12 (.cells #[.int .i64 (0), .int .i64 (0), .int .i64 (0)] 59 (0, 0)) :: .blk b10 (.cells #[v1] 24 (0, 0)) :: L) _ _ _ := hs
     unfold ref10_Best_k3 at hm
     refine hK11 _ _ ?_; clear hK11
     refine W_region ?_
     refine sy (v := .int .i64 (y24)) hs (y_move rfl) ?_; clear hs; intro a w hs
     refine sy hs (y_add rfl rfl rfl) ?_; clear hs; intro a w hs
     refine sy (v := .int .i64 ((w64 (y24 + 1)))) hs (y_assign rfl) ?_; clear hs; intro a w hs
     refine RL_nil ?_
     exact hK8 k25 _ _ (Nat.lt_succ_self _) ⟨y27, y30, (w64 (y24 + 1)), [.int .i64 (y27.Ids), .int .i64 (y27.Tests), .int .i64 (y27.Names)], hm, rfl, hs.sub ⟨rfl, rfl, rfl, rfl, rfl, rfl, rfl, trivial⟩⟩
    ·refine W_block fun Qe12 hB12 hO12 => ?_
     refine W_seq fun K13 hK13 => ?_
     refine W_seq fun K14 hK14 => ?_
     refine W_draw hs mixed (by kernel_rfl) ?_; intro a he
     refine qy he (y_ldB rfl Tryd.underlying24 rfl ti24 (.tail _ (.tail _ (.head _))) rfl) ?_; clear he; intro a he
     refine qy (v := .int .i64 (p1)) he (y_move rfl) ?_; clear he; intro a he
     refine qy (v := a2) he (y_move rfl) ?_; clear he; intro a he
     refine qy (v := .int .i64 (y24)) he (y_move rfl) ?_; clear he; intro a he
     obtain ⟨x31, hx32, hm⟩ := ob hm
     obtain ⟨r33, hr34, hq35, hi36, hb37⟩ := hW8.geti hx32
     obtain ⟨v38, rfl, ⟨rw39, hR40, hW41⟩⟩ := hq35
     refine qy he (y_indexAddr hR7 rfl rfl hi36 hb37 Tryd.underlying56 ti63) ?_; clear he; intro a he
     refine qy he (y_loadRow hR7.up rfl hr34 Tryd.underlying63 rfl ti63) ?_; clear he; intro a he
     obtain ⟨x43, hx44, hm⟩ := ob hm
     refine qy he (y_call rfl has22 rfl (ref10_Match_ok n (f := f) (a0 := [v1]) (a2 := [v38]) ⟨_, rfl, ⟨rw2, hR3, hW4⟩⟩ ⟨_, rfl, ⟨rw39, hR40, hW41⟩⟩ hx44)) ?_; clear he; intro a he
     refine qy (v := .bool ((!x43))) he (y_not rfl) ?_; clear he; intro a he
     refine QL_nil he ?_; clear he; (try clear hs); intro a w hs
     refine hK14 _ _ ?_; clear hK14
     refine W_cond hs rfl (fun hg45 => ?_) (fun hg45 => ?_)
     ·replace hm := oc_t hg45 hm
      refine W_exit ?_
      refine hB12 _ _ ?_
      exact ⟨y20, y23, [.int .i64 (y20.Ids), .int .i64 (y20.Tests), .int .i64 (y20.Names)], hm, rfl, hs.sub ⟨rfl, rfl, rfl, rfl, rfl, rfl, rfl, trivial⟩⟩
     ·replace hm := oc_f hg45 hm
      refine W_skip ?_
      refine hK13 _ _ ?_; clear hK13
      refine W_seq fun K15 hK15 => ?_
      refine W_region ?_
      refine sy (v := a2) hs (y_move rfl) ?_; clear hs; intro a w hs
      refine sy (v := .int .i64 (y24)) hs (y_move rfl) ?_; clear hs; intro a w hs
      obtain ⟨x46, hx47, hm⟩ := ob hm
      obtain ⟨r48, hr49, hq50, hi51, hb52⟩ := hW8.geti hx47
      obtain ⟨v53, rfl, ⟨rw54, hR55, hW56⟩⟩ := hq50
      refine sy hs (y_indexAddr hR7 rfl rfl hi51 hb52 Tryd.underlying56 ti63) ?_; clear hs; intro a w hs
      refine sy hs (y_loadRow hR7.up rfl hr49 Tryd.underlying63 rfl ti63) ?_; clear hs; intro a w hs
      obtain ⟨x58, hx59, hm⟩ := ob hm
      refine sy hs (y_call rfl has21 rfl (ref10_Weigh_ok n (f := f) (a0 := [v53]) ⟨_, rfl, ⟨rw54, hR55, hW56⟩⟩ hx59)) ?_; clear hs; intro a w hs
      refine RL_alloc hs ti59 (.free rfl) (by decide) ?_; clear hs; intro b60 a w hs
      replace hs : St _ _ _ (.blk b60 (.cells #[.int .i64 (0), .int .i64 (0), .int .i64 (0)] 59 (0, 0)) :: .blk b14 (.cells #[.int .i64 (y20.Ids), .int .i64 (y20.Tests), .int .i64 (y20.Names)] 59 (0, 0)) :: .blk b12 (.cells #[.int .i64 (0), .int .i64 (0), .int .i64 (0)] 59 (0, 0)) :: .blk b10 (.cells #[v1] 24 (0, 0)) :: L) _ _ _ := hs
      refine RL_storeAll (i := 0) hs rfl rfl rfl ti59 ⟨rfl, rfl⟩ (AllC.arr (r := [.int .i64 (x58.Ids), .int .i64 (x58.Tests), .int .i64 (x58.Names)]) ⟨rfl, rfl, rfl, trivial⟩) (.free rfl) ?_; clear hs; intro a w hs
      replace hs : St _ _ _ (.blk b60 (.cells #[.int .i64 (x58.Ids), .int .i64 (x58.Tests), .int .i64 (x58.Names)] 59 (0, 0)) :: .blk b14 (.cells #[.int .i64 (y20.Ids), .int .i64 (y20.Tests), .int .i64 (y20.Names)] 59 (0, 0)) :: .blk b12 (.cells #[.int .i64 (0), .int .i64 (0), .int .i64 (0)] 59 (0, 0)) :: .blk b10 (.cells #[v1] 24 (0, 0)) :: L) _ _ _ := hs
      refine RL_nil ?_
      refine hK15 _ _ ?_; clear hK15
      refine W_seq fun K16 hK16 => ?_
      refine W_seq fun K17 hK17 => ?_
      refine W_post (fun a w => ∃ (y62 : Bool), ref10_Best_k4 y20 y24 (ref10_Best_l2 n p0 p1 p2 k25) x58 y62 = some res ∧ St 41 w0 f (.blk b60 (.cells #[.int .i64 (x58.Ids), .int .i64 (x58.Tests), .int .i64 (x58.Names)] 59 (0, 0)) :: .blk b14 (.cells #[.int .i64 (y20.Ids), .int .i64 (y20.Tests), .int .i64 (y20.Names)] 59 (0, 0)) :: .blk b12 (.cells #[.int .i64 (0), .int .i64 (0), .int .i64 (0)] 59 (0, 0)) :: .blk b10 (.cells #[v1] 24 (0, 0)) :: L) [(1, .int .i64 (p1)), (2, a2), (3, .pointer (some ⟨b10, 0, none⟩)), (6, .pointer (some ⟨b12, 0, none⟩)), (8, .pointer (some ⟨b14, 0, none⟩)), (10, .int .i64 (y24)), (11, .pointer (some ⟨b60, 0, none⟩)), (37, .bool (y62))] a w) ?_ ?_
      ·clear hs hm
       rintro a w ⟨y62, hm, hs⟩
       replace hs : St _ _ _ (.blk b60 (.cells #[.int .i64 (x58.Ids), .int .i64 (x58.Tests), .int .i64 (x58.Names)] 59 (0, 0)) :: .blk b14 (.cells #[.int .i64 (y20.Ids), .int .i64 (y20.Tests), .int .i64 (y20.Names)] 59 (0, 0)) :: .blk b12 (.cells #[.int .i64 (0), .int .i64 (0), .int .i64 (0)] 59 (0, 0)) :: .blk b10 (.cells #[v1] 24 (0, 0)) :: L) _ _ _ := hs
       unfold ref10_Best_k4 at hm
       refine hK17 _ _ ?_; clear hK17
       refine W_post (fun a w => ∃ (y63 : ref10_Weight) (r64 : List Value), ref10_Best_k5 y24 (ref10_Best_l2 n p0 p1 p2 k25) y63 = some res ∧ t_ref10_Weight.R f r64 y63 ∧ St 41 w0 f (.blk b14 (.cells r64.toArray 59 (0, 0)) :: .blk b12 (.cells #[.int .i64 (0), .int .i64 (0), .int .i64 (0)] 59 (0, 0)) :: .blk b10 (.cells #[v1] 24 (0, 0)) :: L) [(1, .int .i64 (p1)), (2, a2), (3, .pointer (some ⟨b10, 0, none⟩)), (6, .pointer (some ⟨b12, 0, none⟩)), (8, .pointer (some ⟨b14, 0, none⟩)), (10, .int .i64 (y24))] a w) ?_ ?_
       ·clear hs hm
        rintro a w ⟨y63, r64, hm, hq65, hs⟩
        obtain rfl : _ = ([.int .i64 (y63.Ids), .int .i64 (y63.Tests), .int .i64 (y63.Names)] : List Value) := hq65
        replace hs : St _ _ _ (.blk b14 (.cells #[.int .i64 (y63.Ids), .int .i64 (y63.Tests), .int .i64 (y63.Names)] 59 (0, 0)) :: .blk b12 (.cells #[.int .i64 (0), .int .i64 (0), .int .i64 (0)] 59 (0, 0)) :: .blk b10 (.cells #[v1] 24 (0, 0)) :: L) _ _ _ := hs
        unfold ref10_Best_k5 at hm
        refine hK16 _ _ ?_; clear hK16
        refine W_region ?_
        refine sy (v := .bool (true)) hs (y_assign rfl) ?_; clear hs; intro a w hs
        refine RL_nil ?_
        exact ⟨y63, true, [.int .i64 (y63.Ids), .int .i64 (y63.Tests), .int .i64 (y63.Names)], hm, rfl, hs.sub ⟨rfl, rfl, rfl, rfl, rfl, rfl, rfl, trivial⟩⟩
       ·refine W_cond hs rfl (fun hg66 => ?_) (fun hg66 => ?_)
        ·replace hm := oc_t hg66 hm
         refine W_region ?_
         refine sy hs (y_ldB rfl Tryd.underlying59 rfl ti59 (.head _) rfl) ?_; clear hs; intro a w hs
         refine RL_storeAll (i := 1) hs rfl rfl rfl ti59 ⟨rfl, rfl⟩ (AllC.arr (r := [.int .i64 (x58.Ids), .int .i64 (x58.Tests), .int .i64 (x58.Names)]) ⟨rfl, rfl, rfl, trivial⟩) (.free rfl) ?_; clear hs; intro a w hs
         replace hs : St _ _ _ (.blk b60 (.cells #[.int .i64 (x58.Ids), .int .i64 (x58.Tests), .int .i64 (x58.Names)] 59 (0, 0)) :: .blk b14 (.cells #[.int .i64 (x58.Ids), .int .i64 (x58.Tests), .int .i64 (x58.Names)] 59 (0, 0)) :: .blk b12 (.cells #[.int .i64 (0), .int .i64 (0), .int .i64 (0)] 59 (0, 0)) :: .blk b10 (.cells #[v1] 24 (0, 0)) :: L) _ _ _ := hs
         refine RL_nil ?_
         exact ⟨x58, [.int .i64 (x58.Ids), .int .i64 (x58.Tests), .int .i64 (x58.Names)], hm, rfl, hs.subs ⟨rfl, rfl, rfl, rfl, rfl, rfl, trivial⟩ (.cons _ (.cons_cons _ (.cons_cons _ (.cons_cons _ (.refl _)))))⟩
        ·replace hm := oc_f hg66 hm
         refine W_skip ?_
         exact ⟨y20, [.int .i64 (y20.Ids), .int .i64 (y20.Tests), .int .i64 (y20.Names)], hm, rfl, hs.subs ⟨rfl, rfl, rfl, rfl, rfl, rfl, trivial⟩ (.cons _ (.cons_cons _ (.cons_cons _ (.cons_cons _ (.refl _)))))⟩
      ·refine W_region ?_
       refine sy (v := .bool (y23)) hs (y_move rfl) ?_; clear hs; intro a w hs
       refine sy (v := .bool ((!y23))) hs (y_not rfl) ?_; clear hs; intro a w hs
       refine sy (v := .bool ((!y23))) hs (y_move rfl) ?_; clear hs; intro a w hs
       refine St.split hs (t := 33) rfl (fun hg67 hq => ?_) (fun hg67 hq => ?_)
       ·clear hs; have hs := hq; clear hq
        replace hm := oc_t hg67 hm
        refine sno hs ?_; clear hs; intro a w hs
        refine sno hs ?_; clear hs; intro a w hs
        refine sno hs ?_; clear hs; intro a w hs
        refine sy (v := .bool (true)) hs (y_pick rfl rfl) ?_; clear hs; intro a w hs
        refine RL_nil ?_
        exact ⟨true, hm, hs.sub ⟨rfl, rfl, rfl, rfl, rfl, rfl, rfl, rfl, trivial⟩⟩
       ·clear hs; have hs := hq; clear hq
        replace hm := oc_f hg67 hm
        refine syg hs (y_ldB rfl Tryd.underlying59 rfl ti59 (.tail _ (.head _)) rfl) ?_; clear hs; intro a w hs
        refine syg hs (y_ldB rfl Tryd.underlying59 rfl ti59 (.head _) rfl) ?_; clear hs; intro a w hs
        obtain ⟨x68, hx69, hm⟩ := ob hm
        refine syg hs (y_call rfl has37 rfl (ref10_Less_ok n (f := f) (a0 := [.int .i64 (y20.Ids), .int .i64 (y20.Tests), .int .i64 (y20.Names)]) (a1 := [.int .i64 (x58.Ids), .int .i64 (x58.Tests), .int .i64 (x58.Names)]) rfl rfl hx69)) ?_; clear hs; intro a w hs
        refine sy (v := .bool (x68)) hs (y_pick rfl rfl) ?_; clear hs; intro a w hs
        refine RL_nil ?_
        exact ⟨x68, hm, hs.sub ⟨rfl, rfl, rfl, rfl, rfl, rfl, rfl, rfl, trivial⟩⟩
   ·replace hm := oc_f hg26 hm
    refine W_exit ?_
    refine hB7 _ _ ?_
    exact ⟨y20, y23, [.int .i64 (y20.Ids), .int .i64 (y20.Tests), .int .i64 (y20.Names)], hm, rfl, hs.subs ⟨rfl, rfl, rfl, trivial⟩ (.cons_cons _ (.cons_cons _ (.cons _ (.refl _))))⟩
end Go.Proofs.YtmkcglpeidbblaaDoor
