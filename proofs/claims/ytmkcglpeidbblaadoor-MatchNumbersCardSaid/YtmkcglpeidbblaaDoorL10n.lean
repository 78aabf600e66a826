/-
  Walks and laws of this seat; the base is the text Base.
-/
import Derived.Test.YtmkcglpeidbblaaDoorL10m
import Derived.Test.YtmkcglpeidbblaaDoorRows
/-
  Models of functions, and that the functions compute them. Printed by lift.py.
-/
namespace Go.Proofs.YtmkcglpeidbblaaDoor
open Go.RowKit Go.Sl
/-! casement/match.Match$1$1 -/
def match_Match_1_1 (n : Nat) (p0 : Int) (q0 : api_Tree) : Option (Int × Bool) :=
  (geti q0.Nodes p0).bind fun x7 =>
  (geti q0.Nodes p0).bind fun x19 =>
  (match_element n q0 x19.Parent).bind fun x31 =>
  some (x7.Parent, x31)
set_option maxRecDepth 20000 in
set_option maxHeartbeats 4000000 in
theorem match_Match_1_1_ok (n : Nat) {f : Fz} {p0 : Int} {cb0 : Nat} {q0 : api_Tree} {ca0 : List Value} {res : (Int × Bool)} (hq0 : t_api_Tree.R f ca0 q0) (hc0 : f cb0 = some (.cells ca0.toArray 24 (0, 0))) (hm : match_Match_1_1 n p0 q0 = some res) : Gives Tryd.prog 29 [.int .i64 p0, .pointer (some ⟨cb0, 0, none⟩)] f (.tuple #[.int .i64 res.1, .bool res.2]) := by
 unfold match_Match_1_1 at hm
 intro w0 L w hC
 obtain ⟨v2, rfl, ⟨rw3, hR4, hW5⟩⟩ := hq0
 refine enter Tryd.func29 rfl Tryd.ntmps29 (by simp) hC fun a hs => ?_
 have hle := Fz.le.refl f
 refine W_seq fun K1 hK1 => ?_
 refine W_region ?_
 refine sy (v := .int .i64 (0)) hs (y_assign rfl) ?_; clear hs; intro a w hs
 refine sy (v := .bool (false)) hs (y_assign rfl) ?_; clear hs; intro a w hs
 refine RL_nil ?_
 refine hK1 _ _ ?_; clear hK1
 refine W_seq fun K2 hK2 => ?_
 refine W_draw hs mixed (by kernel_rfl) ?_; intro a he
 refine qy (v := .pointer (some ⟨cb0, 0, none⟩)) he (y_fieldAddr rfl (FO.of (off := 0) Tryd.underlying24 rfl rfl ti22 (by decide))) ?_; clear he; intro a he
 refine qy (v := v2) he (y_ld rfl Tryd.underlying22 rfl (Cell.fz hc0 rfl)) ?_; clear he; intro a he
 refine qy (v := .int .i64 (p0)) he (y_move rfl) ?_; clear he; intro a he
 obtain ⟨x7, hx8, hm⟩ := ob hm
 obtain ⟨r9, hr10, hq11, hi12, hb13⟩ := hW5.geti hx8
 obtain ⟨v14, rfl, ⟨rw15, hR16, hW17⟩⟩ := hq11
 refine qy he (y_indexAddr hR4 rfl rfl hi12 hb13 Tryd.underlying22 ti42) ?_; clear he; intro a he
 refine qy (v := eaddr v2 9 p0.toNat 4) he (y_fieldAddrE (i := p0.toNat) (j := 0) hR4 rfl hb13 (FO.of (off := 4) Tryd.underlying42 rfl rfl ti3 (by decide))) ?_; clear he; intro a he
 refine qy (v := .int .i64 (x7.Parent)) he (y_loadE (i := p0.toNat) (j := 4) hR4.up rfl hr10 rfl Tryd.underlying3 rfl) ?_; clear he; intro a he
 refine qy he (y_ldF rfl Tryd.underlying24 rfl ti24 hc0 rfl) ?_; clear he; intro a he
 refine qy (v := .pointer (some ⟨cb0, 0, none⟩)) he (y_fieldAddr rfl (FO.of (off := 0) Tryd.underlying24 rfl rfl ti22 (by decide))) ?_; clear he; intro a he
 refine qy (v := v2) he (y_ld rfl Tryd.underlying22 rfl (Cell.fz hc0 rfl)) ?_; clear he; intro a he
 refine qy (v := .int .i64 (p0)) he (y_move rfl) ?_; clear he; intro a he
 obtain ⟨x19, hx20, hm⟩ := ob hm
 obtain ⟨r21, hr22, hq23, hi24, hb25⟩ := hW5.geti hx20
 obtain ⟨v26, rfl, ⟨rw27, hR28, hW29⟩⟩ := hq23
 refine qy he (y_indexAddr hR4 rfl rfl hi24 hb25 Tryd.underlying22 ti42) ?_; clear he; intro a he
 refine qy (v := eaddr v2 9 p0.toNat 4) he (y_fieldAddrE (i := p0.toNat) (j := 0) hR4 rfl hb25 (FO.of (off := 4) Tryd.underlying42 rfl rfl ti3 (by decide))) ?_; clear he; intro a he
 refine qy (v := .int .i64 (x19.Parent)) he (y_loadE (i := p0.toNat) (j := 4) hR4.up rfl hr22 rfl Tryd.underlying3 rfl) ?_; clear he; intro a he
 obtain ⟨x31, hx32, hm⟩ := ob hm
 refine qy he (y_call rfl has27 rfl (match_element_ok n (f := f) (a0 := [v2]) ⟨_, rfl, ⟨rw3, hR4, hW5⟩⟩ hx32)) ?_; clear he; intro a he
 refine qy (v := .int .i64 (x7.Parent)) he (y_assign rfl) ?_; clear he; intro a he
 refine qy (v := .bool (x31)) he (y_assign rfl) ?_; clear he; intro a he
 refine QL_nil he ?_; clear he; (try clear hs); intro a w hs
 refine hK2 _ _ ?_; clear hK2
 refine W_ret ?_
 obtain rfl := Option.some.inj hm
 refine RtV2 hs rfl (rv_t hs rfl) (rv_t hs rfl) ?_
 exact ⟨rfl, (hs.weak hle).cw⟩
/-! casement/match.Match$1$2 -/
def match_Match_1_2 (n : Nat) (p0 : Int) (q0 : api_Tree) : Option (Int × Bool) :=
  (match_beside n q0 p0 true).bind fun x7 =>
  some (x7.1, x7.2)
set_option maxRecDepth 20000 in
set_option maxHeartbeats 4000000 in
theorem match_Match_1_2_ok (n : Nat) {f : Fz} {p0 : Int} {cb0 : Nat} {q0 : api_Tree} {ca0 : List Value} {res : (Int × Bool)} (hq0 : t_api_Tree.R f ca0 q0) (hc0 : f cb0 = some (.cells ca0.toArray 24 (0, 0))) (hm : match_Match_1_2 n p0 q0 = some res) : Gives Tryd.prog 30 [.int .i64 p0, .pointer (some ⟨cb0, 0, none⟩)] f (.tuple #[.int .i64 res.1, .bool res.2]) := by
 unfold match_Match_1_2 at hm
 intro w0 L w hC
 obtain ⟨v2, rfl, ⟨rw3, hR4, hW5⟩⟩ := hq0
 refine enter Tryd.func30 rfl Tryd.ntmps30 (by simp) hC fun a hs => ?_
 have hle := Fz.le.refl f
 refine W_seq fun K1 hK1 => ?_
 refine W_region ?_
 refine sy (v := .int .i64 (0)) hs (y_assign rfl) ?_; clear hs; intro a w hs
 refine sy (v := .bool (false)) hs (y_assign rfl) ?_; clear hs; intro a w hs
 refine RL_nil ?_
 refine hK1 _ _ ?_; clear hK1
 refine W_seq fun K2 hK2 => ?_
 refine W_region ?_
 refine sy hs (y_ldF rfl Tryd.underlying24 rfl ti24 hc0 rfl) ?_; clear hs; intro a w hs
 refine sy (v := .int .i64 (p0)) hs (y_move rfl) ?_; clear hs; intro a w hs
 obtain ⟨x7, hx8, hm⟩ := ob hm
 refine sy hs (y_call rfl has31 rfl (match_beside_ok n (f := f) (a0 := [v2]) ⟨_, rfl, ⟨rw3, hR4, hW5⟩⟩ hx8)) ?_; clear hs; intro a w hs
 refine sy (v := .int .i64 (x7.1)) hs (y_extract rfl rfl) ?_; clear hs; intro a w hs
 refine sy (v := .bool (x7.2)) hs (y_extract rfl rfl) ?_; clear hs; intro a w hs
 refine sy (v := .int .i64 (x7.1)) hs (y_assign rfl) ?_; clear hs; intro a w hs
 refine sy (v := .bool (x7.2)) hs (y_assign rfl) ?_; clear hs; intro a w hs
 refine RL_nil ?_
 refine hK2 _ _ ?_; clear hK2
 refine W_ret ?_
 obtain rfl := Option.some.inj hm
 refine RtV2 hs rfl (rv_t hs rfl) (rv_t hs rfl) ?_
 exact ⟨rfl, (hs.weak hle).cw⟩
/-! casement/match.Match$1 -/
def match_Match_1_k1 (y35 : (List (match_place × Int))) : Option (Bool × (List (match_place × Int))) :=
  some (false, y35)
def match_Match_1_l2 (n : Nat) (p0 : Int) (q0 : api_Tree) (q1 : sheet_Selector) (slf : Int → Int → (List (match_place × Int)) → api_Tree → sheet_Selector → Option (Bool × (List (match_place × Int)))) : Nat → Int → Bool → (List (match_place × Int)) → Option (Bool × (List (match_place × Int)))
  | 0, _, _, _ => none
  | k48 + 1, y42, y43, y44 =>
  (bif y43 then (slf (w64 (p0 - 1)) y42 y44 q0 q1).bind fun x51 =>
  (bif x51.1 then some (true, x51.2) else
  (match_Match_1_1 n y42 q0).bind fun x59 =>
  (match_Match_1_l2 n p0 q0 q1 slf k48) x59.1 x59.2 x51.2) else
  match_Match_1_k1 y44)
def match_Match_1_k3 (y66 : (List (match_place × Int))) : Option (Bool × (List (match_place × Int))) :=
  some (false, y66)
def match_Match_1_l4 (p0 : Int) (q0 : api_Tree) (q1 : sheet_Selector) (q3 : (List (match_place × Int))) (slf : Int → Int → (List (match_place × Int)) → api_Tree → sheet_Selector → Option (Bool × (List (match_place × Int)))) (x62 : (Int × Bool)) : Nat → Option (Bool × (List (match_place × Int)))
  | 0 => none
  | _k71 + 1 =>
  (bif x62.2 then (slf (w64 (p0 - 1)) x62.1 q3 q0 q1).bind fun x73 =>
  (bif x73.1 then some (true, x73.2) else
  match_Match_1_k3 x73.2) else
  match_Match_1_k3 q3)
def match_Match_1_k6 (y86 : (List (match_place × Int))) : Option (Bool × (List (match_place × Int))) :=
  some (false, y86)
def match_Match_1_l7 (n : Nat) (p0 : Int) (q0 : api_Tree) (q1 : sheet_Selector) (slf : Int → Int → (List (match_place × Int)) → api_Tree → sheet_Selector → Option (Bool × (List (match_place × Int)))) (y81 : Bool) : Nat → Int → Bool → (List (match_place × Int)) → Option (Bool × (List (match_place × Int)))
  | 0, _, _, _ => none
  | k99 + 1, y93, y94, y95 =>
  (bif y94 then (slf (w64 (p0 - 1)) y93 y95 q0 q1).bind fun x102 =>
  (bif x102.1 then some (true, x102.2) else
  (bif y81 then match_Match_1_k6 x102.2 else
  (match_Match_1_2 n y93 q0).bind fun x111 =>
  (match_Match_1_l7 n p0 q0 q1 slf y81 k99) x111.1 x111.2 x102.2)) else
  match_Match_1_k6 y95)
def match_Match_1_k5 (n : Nat) (p0 : Int) (p1 : Int) (q0 : api_Tree) (q1 : sheet_Selector) (q3 : (List (match_place × Int))) (slf : Int → Int → (List (match_place × Int)) → api_Tree → sheet_Selector → Option (Bool × (List (match_place × Int)))) (y81 : Bool) : Option (Bool × (List (match_place × Int))) :=
  (match_Match_1_2 n p1 q0).bind fun x82 =>
  match_Match_1_l7 n p0 q0 q1 slf y81 n x82.1 x82.2 q3
def match_Match_1_b (slf : Int → Int → (List (match_place × Int)) → api_Tree → sheet_Selector → Option (Bool × (List (match_place × Int)))) (n : Nat) (p0 : Int) (p1 : Int) (q0 : api_Tree) (q1 : sheet_Selector) (q3 : (List (match_place × Int))) : Option (Bool × (List (match_place × Int))) :=
  (bif (decide (p0 = 0)) then some (true, q3) else
  (geti q1.Steps p0).bind fun x18 =>
  (bif (decide (x18.Comb = 1)) then (match_Match_1_1 n p1 q0).bind fun x31 =>
  match_Match_1_l2 n p0 q0 q1 slf n x31.1 x31.2 q3 else
  (bif (decide (x18.Comb = 2)) then (match_Match_1_1 n p1 q0).bind fun x62 =>
  match_Match_1_l4 p0 q0 q1 q3 slf x62 n else
  (bif (decide (x18.Comb = 3)) then match_Match_1_k5 n p0 p1 q0 q1 q3 slf true else
  (bif (decide (x18.Comb = 4)) then match_Match_1_k5 n p0 p1 q0 q1 q3 slf false else
  some (false, q3))))))
set_option maxRecDepth 20000 in
set_option maxHeartbeats 4000000 in
theorem match_Match_1_bok {slf : Int → Int → (List (match_place × Int)) → api_Tree → sheet_Selector → Option (Bool × (List (match_place × Int)))} (n : Nat) (slf_ok : ∀ {f : Fz} {o0 : Obj} {o1 : Obj} {p0 : Int} {p1 : Int} {cb0 : Nat} {q0 : (List (match_place × Int))} {mr0 : Nat} {me0 : Array MapEntry} {mc0 : Nat} {cb1 : Nat} {q1 : api_Tree} {ca1 : List Value} {cb2 : Nat} {q2 : sheet_Selector} {ca2 : List Value} {cb3 : Nat} {cb4 : Nat} {res : (Bool × (List (match_place × Int)))} (_ : f 0 = some o0) (_ : f 1 = some o1) (_ : Tabs o0 o1) (_ : f cb0 = some (.cells #[.map (some mr0)] 73 (0, 0))) (_ : SK ke_match_place (fun x => .int .i64 x) me0 q0) (_ : t_api_Tree.R f ca1 q1) (_ : f cb1 = some (.cells ca1.toArray 24 (0, 0))) (_ : t_sheet_Selector.R f ca2 q2) (_ : f cb2 = some (.cells ca2.toArray 27 (0, 0))) (_ : f cb3 = some (.cells #[.func (.func 28) #[] #[.pointer (some ⟨cb1, 0, none⟩), .pointer (some ⟨cb2, 0, none⟩), .pointer (some ⟨cb4, 0, none⟩)]] 74 (0, 0))) (_ : f cb4 = some (.cells #[.func (.func 32) #[] #[.pointer (some ⟨cb0, 0, none⟩), .pointer (some ⟨cb1, 0, none⟩), .pointer (some ⟨cb2, 0, none⟩), .pointer (some ⟨cb3, 0, none⟩)]] 74 (0, 0))) (_ : slf p0 p1 q0 q1 q2 = some res), Does Tryd.prog 32 [.int .i64 p0, .int .i64 p1, .pointer (some ⟨cb0, 0, none⟩), .pointer (some ⟨cb1, 0, none⟩), .pointer (some ⟨cb2, 0, none⟩), .pointer (some ⟨cb3, 0, none⟩)] f [.blk mr0 (.map me0 mc0)] (fun r _f' L' => ∃ (nme0 : Array MapEntry) (nmc0 : Nat), L' = [.blk mr0 (.map nme0 nmc0)] ∧ r = .bool res.1 ∧ SK ke_match_place (fun x => .int .i64 x) nme0 res.2)) {f : Fz} {o0 : Obj} {o1 : Obj} {p0 : Int} {p1 : Int} {cb0 : Nat} {q0 : api_Tree} {ca0 : List Value} {cb1 : Nat} {q1 : sheet_Selector} {ca1 : List Value} {cb2 : Nat} {cb3 : Nat} {q3 : (List (match_place × Int))} {mr3 : Nat} {me3 : Array MapEntry} {mc3 : Nat} {cb4 : Nat} {res : (Bool × (List (match_place × Int)))} (hT0 : f 0 = some o0) (hT1 : f 1 = some o1) (hTT : Tabs o0 o1) (hq0 : t_api_Tree.R f ca0 q0) (hc0 : f cb0 = some (.cells ca0.toArray 24 (0, 0))) (hq1 : t_sheet_Selector.R f ca1 q1) (hc1 : f cb1 = some (.cells ca1.toArray 27 (0, 0))) (hc2 : f cb2 = some (.cells #[.func (.func 32) #[] #[.pointer (some ⟨cb3, 0, none⟩), .pointer (some ⟨cb0, 0, none⟩), .pointer (some ⟨cb1, 0, none⟩), .pointer (some ⟨cb4, 0, none⟩)]] 74 (0, 0))) (hc3 : f cb3 = some (.cells #[.map (some mr3)] 73 (0, 0))) (hmc3 : SK ke_match_place (fun x => .int .i64 x) me3 q3) (hc4 : f cb4 = some (.cells #[.func (.func 28) #[] #[.pointer (some ⟨cb0, 0, none⟩), .pointer (some ⟨cb1, 0, none⟩), .pointer (some ⟨cb2, 0, none⟩)]] 74 (0, 0))) (hm : match_Match_1_b slf n p0 p1 q0 q1 q3 = some res) : Does Tryd.prog 28 [.int .i64 p0, .int .i64 p1, .pointer (some ⟨cb0, 0, none⟩), .pointer (some ⟨cb1, 0, none⟩), .pointer (some ⟨cb2, 0, none⟩)] f [.blk mr3 (.map me3 mc3)] (fun r _f' L' => ∃ (nme3 : Array MapEntry) (nmc3 : Nat), L' = [.blk mr3 (.map nme3 nmc3)] ∧ r = .bool res.1 ∧ SK ke_match_place (fun x => .int .i64 x) nme3 res.2) := by
 unfold match_Match_1_b at hm
 intro w0 L w hC
 replace hC : Cw w0 f (.blk mr3 (.map me3 mc3) :: L) w := hC
 obtain ⟨v2, rfl, ⟨rw3, hR4, hW5⟩⟩ := hq0
 obtain ⟨v8, rfl, ⟨rw9, hR10, hW11⟩⟩ := hq1
 refine enter Tryd.func28 rfl Tryd.ntmps28 (by simp) hC fun a hs => ?_
 have hle := Fz.le.refl f
 refine W_seq fun K1 hK1 => ?_
 refine W_region ?_
 refine sy (v := .bool (false)) hs (y_assign rfl) ?_; clear hs; intro a w hs
 refine RL_nil ?_
 refine hK1 _ _ ?_; clear hK1
 refine W_seq fun K2 hK2 => ?_
 refine W_seq fun K3 hK3 => ?_
 refine W_region ?_
 refine sy (v := .int .i64 (p0)) hs (y_move rfl) ?_; clear hs; intro a w hs
 refine sy hs (y_eql rfl rfl) ?_; clear hs; intro a w hs
 refine RL_nil ?_
 refine hK3 _ _ ?_; clear hK3
 refine W_cond hs rfl (fun hg17 => ?_) (fun hg17 => ?_)
 ·replace hm := oc_t hg17 hm
  refine W_seq fun K4 hK4 => ?_
  refine W_region ?_
  refine sy (v := .bool (true)) hs (y_assign rfl) ?_; clear hs; intro a w hs
  refine RL_nil ?_
  refine hK4 _ _ ?_; clear hK4
  refine W_ret ?_
  obtain rfl := Option.some.inj hm
  refine RtV1 hs rfl (rv_t hs rfl) ?_
  exact ⟨_, f, [.blk mr3 (.map me3 mc3)], rfl, hle, hs.cw, me3, mc3, rfl, rfl, hmc3⟩
 ·replace hm := oc_f hg17 hm
  refine W_skip ?_
  refine hK2 _ _ ?_; clear hK2
  refine W_seq fun K5 hK5 => ?_
  refine W_region ?_
  refine sy hs (y_makeFunc rfl) ?_; clear hs; intro a w hs
  refine sy (v := .func (.func 29) #[] #[.pointer (some ⟨cb0, 0, none⟩)]) hs (y_assign rfl) ?_; clear hs; intro a w hs
  refine RL_nil ?_
  refine hK5 _ _ ?_; clear hK5
  refine W_seq fun K6 hK6 => ?_
  refine W_region ?_
  refine sy hs (y_makeFunc rfl) ?_; clear hs; intro a w hs
  refine sy (v := .func (.func 30) #[] #[.pointer (some ⟨cb0, 0, none⟩)]) hs (y_assign rfl) ?_; clear hs; intro a w hs
  refine RL_nil ?_
  refine hK6 _ _ ?_; clear hK6
  refine W_seq fun K7 hK7 => ?_
  refine W_region ?_
  refine sy (v := .nilFunc) hs (y_assign rfl) ?_; clear hs; intro a w hs
  refine RL_nil ?_
  refine hK7 _ _ ?_; clear hK7
  refine W_seq fun K8 hK8 => ?_
  refine W_region ?_
  refine sy (v := .bool (false)) hs (y_assign rfl) ?_; clear hs; intro a w hs
  refine RL_nil ?_
  refine hK8 _ _ ?_; clear hK8
  refine W_seq fun K9 hK9 => ?_
  refine W_seq fun K10 hK10 => ?_
  refine W_region ?_
  refine sy (v := .pointer (some ⟨cb1, 0, none⟩)) hs (y_fieldAddr rfl (FO.of (off := 0) Tryd.underlying27 rfl rfl ti25 (by decide))) ?_; clear hs; intro a w hs
  refine sy (v := v8) hs (y_ld rfl Tryd.underlying25 rfl (Cell.fz hc1 rfl)) ?_; clear hs; intro a w hs
  refine sy (v := .int .i64 (p0)) hs (y_move rfl) ?_; clear hs; intro a w hs
  obtain ⟨x18, hx19, hm⟩ := ob hm
  obtain ⟨r20, hr21, hq22, hi23, hb24⟩ := hW11.geti hx19
  obtain ⟨v25, rfl, ⟨rw26, hR27, hW28⟩⟩ := hq22
  refine sy hs (y_indexAddr hR10 rfl rfl hi23 hb24 Tryd.underlying25 ti35) ?_; clear hs; intro a w hs
  refine sy (v := eaddr v8 3 p0.toNat 0) hs (y_fieldAddrE (i := p0.toNat) (j := 0) hR10 rfl hb24 (FO.of (off := 0) Tryd.underlying35 rfl rfl ti3 (by decide))) ?_; clear hs; intro a w hs
  refine sy (v := .int .i64 (x18.Comb)) hs (y_loadE (i := p0.toNat) (j := 0) hR10.up rfl hr21 rfl Tryd.underlying3 rfl) ?_; clear hs; intro a w hs
  refine RL_nil ?_
  refine hK10 _ _ ?_; clear hK10
  refine W_block fun Qe11 hB11 hO11 => ?_
  refine W_seq fun K12 hK12 => ?_
  refine W_region ?_
  refine sy hs (y_eql rfl rfl) ?_; clear hs; intro a w hs
  refine sy (v := .bool (decide (x18.Comb = 1))) hs (y_assign rfl) ?_; clear hs; intro a w hs
  refine RL_nil ?_
  refine hK12 _ _ ?_; clear hK12
  refine W_cond hs rfl (fun hg30 => ?_) (fun hg30 => ?_)
  ·replace hm := oc_t hg30 hm
   refine W_region ?_
   refine sy (v := .func (.func 29) #[] #[.pointer (some ⟨cb0, 0, none⟩)]) hs (y_move rfl) ?_; clear hs; intro a w hs
   refine sy (v := .func (.func 29) #[] #[.pointer (some ⟨cb0, 0, none⟩)]) hs (y_assign rfl) ?_; clear hs; intro a w hs
   refine RL_nil ?_
   refine hK9 _ _ ?_; clear hK9
   refine W_seq fun K13 hK13 => ?_
   refine W_seq fun K14 hK14 => ?_
   refine W_region ?_
   refine sy (v := .func (.func 29) #[] #[.pointer (some ⟨cb0, 0, none⟩)]) hs (y_move rfl) ?_; clear hs; intro a w hs
   refine sy (v := .int .i64 (p1)) hs (y_move rfl) ?_; clear hs; intro a w hs
   obtain ⟨x31, hx32, hm⟩ := ob hm
   refine sy hs (y_callK rfl has29 rfl (match_Match_1_1_ok n (f := f) (cb0 := cb0) (ca0 := [v2]) ⟨_, rfl, ⟨rw3, hR4, hW5⟩⟩ hc0 hx32)) ?_; clear hs; intro a w hs
   refine sy (v := .tuple #[.int .i64 (x31.1), .bool (x31.2)]) hs (y_move rfl) ?_; clear hs; intro a w hs
   refine sy (v := .int .i64 (x31.1)) hs (y_extract rfl rfl) ?_; clear hs; intro a w hs
   refine sy (v := .bool (x31.2)) hs (y_extract rfl rfl) ?_; clear hs; intro a w hs
   refine sy (v := .int .i64 (x31.1)) hs (y_assign rfl) ?_; clear hs; intro a w hs
   refine sy (v := .bool (x31.2)) hs (y_assign rfl) ?_; clear hs; intro a w hs
   refine RL_nil ?_
   refine hK14 _ _ ?_; clear hK14
   have hbase39 := Fz.le.refl f
   refine W_post (fun a w => ∃ (f33 : Fz) (y35 : (List (match_place × Int))) (es36 : Array MapEntry) (c37 : Nat), Fz.le f f33 ∧ match_Match_1_k1 y35 = some res ∧ SK ke_match_place (fun x => .int .i64 x) es36 y35 ∧ St 55 w0 f33 (.blk mr3 (.map es36 c37) :: L) [] a w) ?_ ?_
   ·clear hs hm
    clear hbase39
    rintro a w ⟨f33, y35, es36, c37, hl34, hm, hS38, hs⟩
    replace hT0 := hl34 _ _ hT0
    replace hT1 := hl34 _ _ hT1
    replace hR4 := hR4.le hl34
    replace hW5 := hW5.le hl34
    replace hc0 := hl34 _ _ hc0
    replace hR10 := hR10.le hl34
    replace hW11 := hW11.le hl34
    replace hc1 := hl34 _ _ hc1
    replace hc2 := hl34 _ _ hc2
    replace hc3 := hl34 _ _ hc3
    replace hc4 := hl34 _ _ hc4
    replace hR27 := hR27.le hl34
    replace hW28 := hW28.le hl34
    replace hle := hle.trans hl34
    replace hs : St _ _ _ (.blk mr3 (.map es36 c37) :: L) _ _ _ := hs
    unfold match_Match_1_k1 at hm
    refine hK13 _ _ ?_; clear hK13
    refine W_seq fun K15 hK15 => ?_
    refine W_region ?_
    refine sy (v := .bool (false)) hs (y_assign rfl) ?_; clear hs; intro a w hs
    refine RL_nil ?_
    refine hK15 _ _ ?_; clear hK15
    refine W_ret ?_
    obtain rfl := Option.some.inj hm
    refine RtV1 hs rfl (rv_t hs rfl) ?_
    exact ⟨_, f33, [.blk mr3 (.map es36 c37)], rfl, hle, hs.cw, es36, c37, rfl, rfl, hS38⟩
   ·refine W_block fun Qe16 hB16 hO16 => ?_
    have hbase := Fz.le.refl f
    refine W_loop (fun (k : Nat) a w => ∃ (f40 : Fz) (y42 : Int) (y43 : Bool) (y44 : (List (match_place × Int))) (es45 : Array MapEntry) (c46 : Nat), Fz.le f f40 ∧ match_Match_1_l2 n p0 q0 q1 slf k y42 y43 y44 = some res ∧ SK ke_match_place (fun x => .int .i64 x) es45 y44 ∧ St 55 w0 f40 (.blk mr3 (.map es45 c46) :: L) [(0, .int .i64 (p0)), (4, .pointer (some ⟨cb2, 0, none⟩)), (10, .func (.func 29) #[] #[.pointer (some ⟨cb0, 0, none⟩)]), (11, .bool (false)), (12, .int .i64 (y42)), (13, .bool (y43))] a w) (fun k => k) n ⟨_, x31.1, x31.2, q3, me3, mc3, (Fz.le.refl _), hm, hmc3, hs.sub ⟨rfl, rfl, rfl, rfl, rfl, rfl, trivial⟩⟩ ?_
    clear hs hm
    intro k
    rintro a w ⟨f40, y42, y43, y44, es45, c46, hl41, hm, hS47, hs⟩
    replace hT0 := hl41 _ _ hT0
    replace hT1 := hl41 _ _ hT1
    replace hR4 := hR4.le hl41
    replace hW5 := hW5.le hl41
    replace hc0 := hl41 _ _ hc0
    replace hR10 := hR10.le hl41
    replace hW11 := hW11.le hl41
    replace hc1 := hl41 _ _ hc1
    replace hc2 := hl41 _ _ hc2
    replace hc3 := hl41 _ _ hc3
    replace hc4 := hl41 _ _ hc4
    replace hR27 := hR27.le hl41
    replace hW28 := hW28.le hl41
    replace hle := hle.trans hl41
    replace hbase39 := hbase39.trans hl41
    replace hs : St _ _ _ (.blk mr3 (.map es45 c46) :: L) _ _ _ := hs
    intro K17 hK17
    cases k with
    | zero => simp [match_Match_1_l2] at hm
    | succ k48 =>
     rw [match_Match_1_l2] at hm
     have hbase49 := hl41
     refine W_seq fun K18 hK18 => ?_
     refine W_seq fun K19 hK19 => ?_
     refine W_region ?_
     refine sy (v := .bool (y43)) hs (y_move rfl) ?_; clear hs; intro a w hs
     refine RL_nil ?_
     refine hK19 _ _ ?_; clear hK19
     refine W_cond hs rfl (fun hg50 => ?_) (fun hg50 => ?_)
     ·replace hm := oc_t hg50 hm
      refine W_skip ?_
      refine hK18 _ _ ?_; clear hK18
      refine W_seq fun K20 hK20 => ?_
      refine W_block fun Qe21 hB21 hO21 => ?_
      refine W_seq fun K22 hK22 => ?_
      refine W_seq fun K23 hK23 => ?_
      refine W_region ?_
      refine sy (v := .func (.func 32) #[] #[.pointer (some ⟨cb3, 0, none⟩), .pointer (some ⟨cb0, 0, none⟩), .pointer (some ⟨cb1, 0, none⟩), .pointer (some ⟨cb4, 0, none⟩)]) hs (y_ld rfl Tryd.underlying74 rfl (Cell.fz hc2 rfl)) ?_; clear hs; intro a w hs
      refine sy (v := .int .i64 (p0)) hs (y_move rfl) ?_; clear hs; intro a w hs
      refine sy hs (y_sub rfl rfl rfl) ?_; clear hs; intro a w hs
      refine sy (v := .int .i64 (y42)) hs (y_move rfl) ?_; clear hs; intro a w hs
      obtain ⟨x51, hx52, hm⟩ := ob hm
      replace hs : St _ _ _ (.blk mr3 (.map es45 c46) :: L) _ _ _ := hs
      refine RL_call (Lr := [.blk mr3 (.map es45 c46)]) (Lf := L) hs rfl has32 rfl rfl (slf_ok (f := f40) (cb0 := cb3) (mr0 := mr3) (me0 := es45) (mc0 := c46) (cb1 := cb0) (ca1 := [v2]) (cb2 := cb1) (ca2 := [v8]) (cb3 := cb4) (cb4 := cb2) hT0 hT1 hTT hc3 hS47 ⟨_, rfl, ⟨rw3, hR4, hW5⟩⟩ hc0 ⟨_, rfl, ⟨rw9, hR10, hW11⟩⟩ hc1 hc4 hc2 hx52) (.free rfl) (by decide) ?_; clear hs
      rintro _ f53 _ a w hf54 ⟨es55, c56, rfl, rfl, hS57⟩ hs
      replace hT0 := hf54 _ _ hT0
      replace hT1 := hf54 _ _ hT1
      replace hR4 := hR4.le hf54
      replace hW5 := hW5.le hf54
      replace hc0 := hf54 _ _ hc0
      replace hR10 := hR10.le hf54
      replace hW11 := hW11.le hf54
      replace hc1 := hf54 _ _ hc1
      replace hc2 := hf54 _ _ hc2
      replace hc3 := hf54 _ _ hc3
      replace hc4 := hf54 _ _ hc4
      replace hR27 := hR27.le hf54
      replace hW28 := hW28.le hf54
      replace hle := hle.trans hf54
      replace hbase39 := hbase39.trans hf54
      replace hbase49 := hbase49.trans hf54
      replace hs : St _ _ _ (.blk mr3 (.map es55 c56) :: L) _ _ _ := hs
      refine RL_nil ?_
      refine hK23 _ _ ?_; clear hK23
      refine W_cond hs rfl (fun hg58 => ?_) (fun hg58 => ?_)
      ·replace hm := oc_t hg58 hm
       refine W_seq fun K24 hK24 => ?_
       refine W_region ?_
       refine sy (v := .bool (true)) hs (y_assign rfl) ?_; clear hs; intro a w hs
       refine RL_nil ?_
       refine hK24 _ _ ?_; clear hK24
       refine W_ret ?_
       obtain rfl := Option.some.inj hm
       refine RtV1 hs rfl (rv_t hs rfl) ?_
       exact ⟨_, f53, [.blk mr3 (.map es55 c56)], rfl, hle, hs.cw, es55, c56, rfl, rfl, hS57⟩
      ·replace hm := oc_f hg58 hm
       refine W_skip ?_
       refine hK22 _ _ ?_; clear hK22
       refine W_seq fun K25 hK25 => ?_
       refine W_region ?_
       refine sy (v := .bool (false)) hs (y_move rfl) ?_; clear hs; intro a w hs
       refine RL_nil ?_
       refine hK25 _ _ ?_; clear hK25
       refine W_condF hs rfl ?_
       refine W_skip ?_
       refine hK20 _ _ ?_; clear hK20
       refine W_region ?_
       refine sy (v := .func (.func 29) #[] #[.pointer (some ⟨cb0, 0, none⟩)]) hs (y_move rfl) ?_; clear hs; intro a w hs
       refine sy (v := .int .i64 (y42)) hs (y_move rfl) ?_; clear hs; intro a w hs
       obtain ⟨x59, hx60, hm⟩ := ob hm
       refine sy hs (y_callK rfl has29 rfl (match_Match_1_1_ok n (f := f53) (cb0 := cb0) (ca0 := [v2]) ⟨_, rfl, ⟨rw3, hR4, hW5⟩⟩ hc0 hx60)) ?_; clear hs; intro a w hs
       refine sy (v := .tuple #[.int .i64 (x59.1), .bool (x59.2)]) hs (y_move rfl) ?_; clear hs; intro a w hs
       refine sy (v := .int .i64 (x59.1)) hs (y_extract rfl rfl) ?_; clear hs; intro a w hs
       refine sy (v := .bool (x59.2)) hs (y_extract rfl rfl) ?_; clear hs; intro a w hs
       refine sy (v := .int .i64 (x59.1)) hs (y_assign rfl) ?_; clear hs; intro a w hs
       refine sy (v := .bool (x59.2)) hs (y_assign rfl) ?_; clear hs; intro a w hs
       refine RL_nil ?_
       exact hK17 k48 _ _ (Nat.lt_succ_self _) ⟨_, x59.1, x59.2, x51.2, es55, c56, hbase49, hm, hS57, hs.sub ⟨rfl, rfl, rfl, rfl, rfl, rfl, trivial⟩⟩
     ·replace hm := oc_f hg50 hm
      refine W_exit ?_
      refine hB16 _ _ ?_
      exact ⟨_, y44, es45, c46, hbase39, hm, hS47, hs.sub trivial⟩
  ·replace hm := oc_f hg30 hm
   refine W_seq fun K26 hK26 => ?_
   refine W_region ?_
   refine sy hs (y_eql rfl rfl) ?_; clear hs; intro a w hs
   refine sy (v := .bool (decide (x18.Comb = 2))) hs (y_assign rfl) ?_; clear hs; intro a w hs
   refine RL_nil ?_
   refine hK26 _ _ ?_; clear hK26
   refine W_cond hs rfl (fun hg61 => ?_) (fun hg61 => ?_)
   ·replace hm := oc_t hg61 hm
    refine W_region ?_
    refine sy (v := .func (.func 29) #[] #[.pointer (some ⟨cb0, 0, none⟩)]) hs (y_move rfl) ?_; clear hs; intro a w hs
    refine sy (v := .func (.func 29) #[] #[.pointer (some ⟨cb0, 0, none⟩)]) hs (y_assign rfl) ?_; clear hs; intro a w hs
    refine sy (v := .bool (true)) hs (y_assign rfl) ?_; clear hs; intro a w hs
    refine RL_nil ?_
    refine hK9 _ _ ?_; clear hK9
    refine W_seq fun K27 hK27 => ?_
    refine W_seq fun K28 hK28 => ?_
    refine W_region ?_
    refine sy (v := .func (.func 29) #[] #[.pointer (some ⟨cb0, 0, none⟩)]) hs (y_move rfl) ?_; clear hs; intro a w hs
    refine sy (v := .int .i64 (p1)) hs (y_move rfl) ?_; clear hs; intro a w hs
    obtain ⟨x62, hx63, hm⟩ := ob hm
    refine sy hs (y_callK rfl has29 rfl (match_Match_1_1_ok n (f := f) (cb0 := cb0) (ca0 := [v2]) ⟨_, rfl, ⟨rw3, hR4, hW5⟩⟩ hc0 hx63)) ?_; clear hs; intro a w hs
    refine sy (v := .tuple #[.int .i64 (x62.1), .bool (x62.2)]) hs (y_move rfl) ?_; clear hs; intro a w hs
    refine sy (v := .int .i64 (x62.1)) hs (y_extract rfl rfl) ?_; clear hs; intro a w hs
    refine sy (v := .bool (x62.2)) hs (y_extract rfl rfl) ?_; clear hs; intro a w hs
    refine sy (v := .int .i64 (x62.1)) hs (y_assign rfl) ?_; clear hs; intro a w hs
    refine sy (v := .bool (x62.2)) hs (y_assign rfl) ?_; clear hs; intro a w hs
    refine RL_nil ?_
    refine hK28 _ _ ?_; clear hK28
    have hbase70 := Fz.le.refl f
    refine W_post (fun a w => ∃ (f64 : Fz) (y66 : (List (match_place × Int))) (es67 : Array MapEntry) (c68 : Nat), Fz.le f f64 ∧ match_Match_1_k3 y66 = some res ∧ SK ke_match_place (fun x => .int .i64 x) es67 y66 ∧ St 55 w0 f64 (.blk mr3 (.map es67 c68) :: L) [] a w) ?_ ?_
    ·clear hs hm
     clear hbase70
     rintro a w ⟨f64, y66, es67, c68, hl65, hm, hS69, hs⟩
     replace hT0 := hl65 _ _ hT0
     replace hT1 := hl65 _ _ hT1
     replace hR4 := hR4.le hl65
     replace hW5 := hW5.le hl65
     replace hc0 := hl65 _ _ hc0
     replace hR10 := hR10.le hl65
     replace hW11 := hW11.le hl65
     replace hc1 := hl65 _ _ hc1
     replace hc2 := hl65 _ _ hc2
     replace hc3 := hl65 _ _ hc3
     replace hc4 := hl65 _ _ hc4
     replace hR27 := hR27.le hl65
     replace hW28 := hW28.le hl65
     replace hle := hle.trans hl65
     replace hs : St _ _ _ (.blk mr3 (.map es67 c68) :: L) _ _ _ := hs
     unfold match_Match_1_k3 at hm
     refine hK27 _ _ ?_; clear hK27
     refine W_seq fun K29 hK29 => ?_
     refine W_region ?_
     refine sy (v := .bool (false)) hs (y_assign rfl) ?_; clear hs; intro a w hs
     refine RL_nil ?_
     refine hK29 _ _ ?_; clear hK29
     refine W_ret ?_
     obtain rfl := Option.some.inj hm
     refine RtV1 hs rfl (rv_t hs rfl) ?_
     exact ⟨_, f64, [.blk mr3 (.map es67 c68)], rfl, hle, hs.cw, es67, c68, rfl, rfl, hS69⟩
    ·refine W_block fun Qe30 hB30 hO30 => ?_
     refine W_loop (fun (k : Nat) a w => match_Match_1_l4 p0 q0 q1 q3 slf x62 k = some res ∧ St 55 w0 f (.blk mr3 (.map me3 mc3) :: L) [(0, .int .i64 (p0)), (4, .pointer (some ⟨cb2, 0, none⟩)), (10, .func (.func 29) #[] #[.pointer (some ⟨cb0, 0, none⟩)]), (11, .bool (true)), (12, .int .i64 (x62.1)), (13, .bool (x62.2))] a w) (fun k => k) n ⟨hm, hs.sub ⟨rfl, rfl, rfl, rfl, rfl, rfl, trivial⟩⟩ ?_
     clear hs hm
     intro k
     rintro a w ⟨hm, hs⟩
     replace hs : St _ _ _ (.blk mr3 (.map me3 mc3) :: L) _ _ _ := hs
     intro K31 hK31
     cases k with
     | zero => simp [match_Match_1_l4] at hm
     | succ k71 =>
      rw [match_Match_1_l4] at hm
      refine W_seq fun K32 hK32 => ?_
      refine W_seq fun K33 hK33 => ?_
      refine W_region ?_
      refine sy (v := .bool (x62.2)) hs (y_move rfl) ?_; clear hs; intro a w hs
      refine RL_nil ?_
      refine hK33 _ _ ?_; clear hK33
      refine W_cond hs rfl (fun hg72 => ?_) (fun hg72 => ?_)
      ·replace hm := oc_t hg72 hm
       refine W_skip ?_
       refine hK32 _ _ ?_; clear hK32
       refine W_seq fun K34 hK34 => ?_
       refine W_block fun Qe35 hB35 hO35 => ?_
       refine W_seq fun K36 hK36 => ?_
       refine W_seq fun K37 hK37 => ?_
       refine W_region ?_
       refine sy (v := .func (.func 32) #[] #[.pointer (some ⟨cb3, 0, none⟩), .pointer (some ⟨cb0, 0, none⟩), .pointer (some ⟨cb1, 0, none⟩), .pointer (some ⟨cb4, 0, none⟩)]) hs (y_ld rfl Tryd.underlying74 rfl (Cell.fz hc2 rfl)) ?_; clear hs; intro a w hs
       refine sy (v := .int .i64 (p0)) hs (y_move rfl) ?_; clear hs; intro a w hs
       refine sy hs (y_sub rfl rfl rfl) ?_; clear hs; intro a w hs
       refine sy (v := .int .i64 (x62.1)) hs (y_move rfl) ?_; clear hs; intro a w hs
       obtain ⟨x73, hx74, hm⟩ := ob hm
       replace hs : St _ _ _ (.blk mr3 (.map me3 mc3) :: L) _ _ _ := hs
       refine RL_call (Lr := [.blk mr3 (.map me3 mc3)]) (Lf := L) hs rfl has32 rfl rfl (slf_ok (f := f) (cb0 := cb3) (mr0 := mr3) (me0 := me3) (mc0 := mc3) (cb1 := cb0) (ca1 := [v2]) (cb2 := cb1) (ca2 := [v8]) (cb3 := cb4) (cb4 := cb2) hT0 hT1 hTT hc3 hmc3 ⟨_, rfl, ⟨rw3, hR4, hW5⟩⟩ hc0 ⟨_, rfl, ⟨rw9, hR10, hW11⟩⟩ hc1 hc4 hc2 hx74) (.free rfl) (by decide) ?_; clear hs
       rintro _ f75 _ a w hf76 ⟨es77, c78, rfl, rfl, hS79⟩ hs
       replace hT0 := hf76 _ _ hT0
       replace hT1 := hf76 _ _ hT1
       replace hR4 := hR4.le hf76
       replace hW5 := hW5.le hf76
       replace hc0 := hf76 _ _ hc0
       replace hR10 := hR10.le hf76
       replace hW11 := hW11.le hf76
       replace hc1 := hf76 _ _ hc1
       replace hc2 := hf76 _ _ hc2
       replace hc3 := hf76 _ _ hc3
       replace hc4 := hf76 _ _ hc4
       replace hR27 := hR27.le hf76
       replace hW28 := hW28.le hf76
       replace hle := hle.trans hf76
       replace hbase70 := hbase70.trans hf76
       replace hs : St _ _ _ (.blk mr3 (.map es77 c78) :: L) _ _ _ := hs
       refine RL_nil ?_
       refine hK37 _ _ ?_; clear hK37
       refine W_cond hs rfl (fun hg80 => ?_) (fun hg80 => ?_)
       ·replace hm := oc_t hg80 hm
        refine W_seq fun K38 hK38 => ?_
        refine W_region ?_
        refine sy (v := .bool (true)) hs (y_assign rfl) ?_; clear hs; intro a w hs
        refine RL_nil ?_
        refine hK38 _ _ ?_; clear hK38
        refine W_ret ?_
        obtain rfl := Option.some.inj hm
        refine RtV1 hs rfl (rv_t hs rfl) ?_
        exact ⟨_, f75, [.blk mr3 (.map es77 c78)], rfl, hle, hs.cw, es77, c78, rfl, rfl, hS79⟩
       ·replace hm := oc_f hg80 hm
        refine W_skip ?_
        refine hK36 _ _ ?_; clear hK36
        refine W_seq fun K39 hK39 => ?_
        refine W_region ?_
        refine sy (v := .bool (true)) hs (y_move rfl) ?_; clear hs; intro a w hs
        refine RL_nil ?_
        refine hK39 _ _ ?_; clear hK39
        refine W_condT hs rfl ?_
        refine W_exit ?_
        refine hO35 _ rfl _ _ ?_
        refine hB30 _ _ ?_
        exact ⟨_, x73.2, es77, c78, hbase70, hm, hS79, hs.sub trivial⟩
      ·replace hm := oc_f hg72 hm
       refine W_exit ?_
       refine hB30 _ _ ?_
       exact ⟨_, q3, me3, mc3, (Fz.le.refl _), hm, hmc3, hs.sub trivial⟩
   ·replace hm := oc_f hg61 hm
    refine W_seq fun K40 hK40 => ?_
    refine W_region ?_
    refine sy hs (y_eql rfl rfl) ?_; clear hs; intro a w hs
    refine sy (v := .bool (decide (x18.Comb = 3))) hs (y_assign rfl) ?_; clear hs; intro a w hs
    refine RL_nil ?_
    refine hK40 _ _ ?_; clear hK40
    refine W_post (fun a w => ∃ (y81 : Bool), match_Match_1_k5 n p0 p1 q0 q1 q3 slf y81 = some res ∧ St 55 w0 f (.blk mr3 (.map me3 mc3) :: L) [(0, .int .i64 (p0)), (1, .int .i64 (p1)), (4, .pointer (some ⟨cb2, 0, none⟩)), (10, .func (.func 30) #[] #[.pointer (some ⟨cb0, 0, none⟩)]), (11, .bool (y81))] a w) ?_ ?_
    ·clear hs hm
     rintro a w ⟨y81, hm, hs⟩
     replace hs : St _ _ _ (.blk mr3 (.map me3 mc3) :: L) _ _ _ := hs
     unfold match_Match_1_k5 at hm
     refine hK9 _ _ ?_; clear hK9
     refine W_seq fun K41 hK41 => ?_
     refine W_seq fun K42 hK42 => ?_
     refine W_region ?_
     refine sy (v := .func (.func 30) #[] #[.pointer (some ⟨cb0, 0, none⟩)]) hs (y_move rfl) ?_; clear hs; intro a w hs
     refine sy (v := .int .i64 (p1)) hs (y_move rfl) ?_; clear hs; intro a w hs
     obtain ⟨x82, hx83, hm⟩ := ob hm
     refine sy hs (y_callK rfl has30 rfl (match_Match_1_2_ok n (f := f) (cb0 := cb0) (ca0 := [v2]) ⟨_, rfl, ⟨rw3, hR4, hW5⟩⟩ hc0 hx83)) ?_; clear hs; intro a w hs
     refine sy (v := .tuple #[.int .i64 (x82.1), .bool (x82.2)]) hs (y_move rfl) ?_; clear hs; intro a w hs
     refine sy (v := .int .i64 (x82.1)) hs (y_extract rfl rfl) ?_; clear hs; intro a w hs
     refine sy (v := .bool (x82.2)) hs (y_extract rfl rfl) ?_; clear hs; intro a w hs
     refine sy (v := .int .i64 (x82.1)) hs (y_assign rfl) ?_; clear hs; intro a w hs
     refine sy (v := .bool (x82.2)) hs (y_assign rfl) ?_; clear hs; intro a w hs
     refine RL_nil ?_
     refine hK42 _ _ ?_; clear hK42
     have hbase90 := Fz.le.refl f
     refine W_post (fun a w => ∃ (f84 : Fz) (y86 : (List (match_place × Int))) (es87 : Array MapEntry) (c88 : Nat), Fz.le f f84 ∧ match_Match_1_k6 y86 = some res ∧ SK ke_match_place (fun x => .int .i64 x) es87 y86 ∧ St 55 w0 f84 (.blk mr3 (.map es87 c88) :: L) [] a w) ?_ ?_
     ·clear hs hm
      clear hbase90
      rintro a w ⟨f84, y86, es87, c88, hl85, hm, hS89, hs⟩
      replace hT0 := hl85 _ _ hT0
      replace hT1 := hl85 _ _ hT1
      replace hR4 := hR4.le hl85
      replace hW5 := hW5.le hl85
      replace hc0 := hl85 _ _ hc0
      replace hR10 := hR10.le hl85
      replace hW11 := hW11.le hl85
      replace hc1 := hl85 _ _ hc1
      replace hc2 := hl85 _ _ hc2
      replace hc3 := hl85 _ _ hc3
      replace hc4 := hl85 _ _ hc4
      replace hR27 := hR27.le hl85
      replace hW28 := hW28.le hl85
      replace hle := hle.trans hl85
      replace hs : St _ _ _ (.blk mr3 (.map es87 c88) :: L) _ _ _ := hs
      unfold match_Match_1_k6 at hm
      refine hK41 _ _ ?_; clear hK41
      refine W_seq fun K43 hK43 => ?_
      refine W_region ?_
      refine sy (v := .bool (false)) hs (y_assign rfl) ?_; clear hs; intro a w hs
      refine RL_nil ?_
      refine hK43 _ _ ?_; clear hK43
      refine W_ret ?_
      obtain rfl := Option.some.inj hm
      refine RtV1 hs rfl (rv_t hs rfl) ?_
      exact ⟨_, f84, [.blk mr3 (.map es87 c88)], rfl, hle, hs.cw, es87, c88, rfl, rfl, hS89⟩
     ·refine W_block fun Qe44 hB44 hO44 => ?_
      have hbase := Fz.le.refl f
      refine W_loop (fun (k : Nat) a w => ∃ (f91 : Fz) (y93 : Int) (y94 : Bool) (y95 : (List (match_place × Int))) (es96 : Array MapEntry) (c97 : Nat), Fz.le f f91 ∧ match_Match_1_l7 n p0 q0 q1 slf y81 k y93 y94 y95 = some res ∧ SK ke_match_place (fun x => .int .i64 x) es96 y95 ∧ St 55 w0 f91 (.blk mr3 (.map es96 c97) :: L) [(0, .int .i64 (p0)), (4, .pointer (some ⟨cb2, 0, none⟩)), (10, .func (.func 30) #[] #[.pointer (some ⟨cb0, 0, none⟩)]), (11, .bool (y81)), (12, .int .i64 (y93)), (13, .bool (y94))] a w) (fun k => k) n ⟨_, x82.1, x82.2, q3, me3, mc3, (Fz.le.refl _), hm, hmc3, hs.sub ⟨rfl, rfl, rfl, rfl, rfl, rfl, trivial⟩⟩ ?_
      clear hs hm
      intro k
      rintro a w ⟨f91, y93, y94, y95, es96, c97, hl92, hm, hS98, hs⟩
      replace hT0 := hl92 _ _ hT0
      replace hT1 := hl92 _ _ hT1
      replace hR4 := hR4.le hl92
      replace hW5 := hW5.le hl92
      replace hc0 := hl92 _ _ hc0
      replace hR10 := hR10.le hl92
      replace hW11 := hW11.le hl92
      replace hc1 := hl92 _ _ hc1
      replace hc2 := hl92 _ _ hc2
      replace hc3 := hl92 _ _ hc3
      replace hc4 := hl92 _ _ hc4
      replace hR27 := hR27.le hl92
      replace hW28 := hW28.le hl92
      replace hle := hle.trans hl92
      replace hbase90 := hbase90.trans hl92
      replace hs : St _ _ _ (.blk mr3 (.map es96 c97) :: L) _ _ _ := hs
      intro K45 hK45
      cases k with
      | zero => simp [match_Match_1_l7] at hm
      | succ k99 =>
       rw [match_Match_1_l7] at hm
       have hbase100 := hl92
       refine W_seq fun K46 hK46 => ?_
       refine W_seq fun K47 hK47 => ?_
       refine W_region ?_
       refine sy (v := .bool (y94)) hs (y_move rfl) ?_; clear hs; intro a w hs
       refine RL_nil ?_
       refine hK47 _ _ ?_; clear hK47
       refine W_cond hs rfl (fun hg101 => ?_) (fun hg101 => ?_)
       ·replace hm := oc_t hg101 hm
        refine W_skip ?_
        refine hK46 _ _ ?_; clear hK46
        refine W_seq fun K48 hK48 => ?_
        refine W_block fun Qe49 hB49 hO49 => ?_
        refine W_seq fun K50 hK50 => ?_
        refine W_seq fun K51 hK51 => ?_
        refine W_region ?_
        refine sy (v := .func (.func 32) #[] #[.pointer (some ⟨cb3, 0, none⟩), .pointer (some ⟨cb0, 0, none⟩), .pointer (some ⟨cb1, 0, none⟩), .pointer (some ⟨cb4, 0, none⟩)]) hs (y_ld rfl Tryd.underlying74 rfl (Cell.fz hc2 rfl)) ?_; clear hs; intro a w hs
        refine sy (v := .int .i64 (p0)) hs (y_move rfl) ?_; clear hs; intro a w hs
        refine sy hs (y_sub rfl rfl rfl) ?_; clear hs; intro a w hs
        refine sy (v := .int .i64 (y93)) hs (y_move rfl) ?_; clear hs; intro a w hs
        obtain ⟨x102, hx103, hm⟩ := ob hm
        replace hs : St _ _ _ (.blk mr3 (.map es96 c97) :: L) _ _ _ := hs
        refine RL_call (Lr := [.blk mr3 (.map es96 c97)]) (Lf := L) hs rfl has32 rfl rfl (slf_ok (f := f91) (cb0 := cb3) (mr0 := mr3) (me0 := es96) (mc0 := c97) (cb1 := cb0) (ca1 := [v2]) (cb2 := cb1) (ca2 := [v8]) (cb3 := cb4) (cb4 := cb2) hT0 hT1 hTT hc3 hS98 ⟨_, rfl, ⟨rw3, hR4, hW5⟩⟩ hc0 ⟨_, rfl, ⟨rw9, hR10, hW11⟩⟩ hc1 hc4 hc2 hx103) (.free rfl) (by decide) ?_; clear hs
        rintro _ f104 _ a w hf105 ⟨es106, c107, rfl, rfl, hS108⟩ hs
        replace hT0 := hf105 _ _ hT0
        replace hT1 := hf105 _ _ hT1
        replace hR4 := hR4.le hf105
        replace hW5 := hW5.le hf105
        replace hc0 := hf105 _ _ hc0
        replace hR10 := hR10.le hf105
        replace hW11 := hW11.le hf105
        replace hc1 := hf105 _ _ hc1
        replace hc2 := hf105 _ _ hc2
        replace hc3 := hf105 _ _ hc3
        replace hc4 := hf105 _ _ hc4
        replace hR27 := hR27.le hf105
        replace hW28 := hW28.le hf105
        replace hle := hle.trans hf105
        replace hbase90 := hbase90.trans hf105
        replace hbase100 := hbase100.trans hf105
        replace hs : St _ _ _ (.blk mr3 (.map es106 c107) :: L) _ _ _ := hs
        refine RL_nil ?_
        refine hK51 _ _ ?_; clear hK51
        refine W_cond hs rfl (fun hg109 => ?_) (fun hg109 => ?_)
        ·replace hm := oc_t hg109 hm
         refine W_seq fun K52 hK52 => ?_
         refine W_region ?_
         refine sy (v := .bool (true)) hs (y_assign rfl) ?_; clear hs; intro a w hs
         refine RL_nil ?_
         refine hK52 _ _ ?_; clear hK52
         refine W_ret ?_
         obtain rfl := Option.some.inj hm
         refine RtV1 hs rfl (rv_t hs rfl) ?_
         exact ⟨_, f104, [.blk mr3 (.map es106 c107)], rfl, hle, hs.cw, es106, c107, rfl, rfl, hS108⟩
        ·replace hm := oc_f hg109 hm
         refine W_skip ?_
         refine hK50 _ _ ?_; clear hK50
         refine W_seq fun K53 hK53 => ?_
         refine W_region ?_
         refine sy (v := .bool (y81)) hs (y_move rfl) ?_; clear hs; intro a w hs
         refine RL_nil ?_
         refine hK53 _ _ ?_; clear hK53
         refine W_cond hs rfl (fun hg110 => ?_) (fun hg110 => ?_)
         ·replace hm := oc_t hg110 hm
          refine W_exit ?_
          refine hO49 _ rfl _ _ ?_
          refine hB44 _ _ ?_
          exact ⟨_, x102.2, es106, c107, hbase90, hm, hS108, hs.sub trivial⟩
         ·replace hm := oc_f hg110 hm
          refine W_skip ?_
          refine hK48 _ _ ?_; clear hK48
          refine W_region ?_
          refine sy (v := .func (.func 30) #[] #[.pointer (some ⟨cb0, 0, none⟩)]) hs (y_move rfl) ?_; clear hs; intro a w hs
          refine sy (v := .int .i64 (y93)) hs (y_move rfl) ?_; clear hs; intro a w hs
          obtain ⟨x111, hx112, hm⟩ := ob hm
          refine sy hs (y_callK rfl has30 rfl (match_Match_1_2_ok n (f := f104) (cb0 := cb0) (ca0 := [v2]) ⟨_, rfl, ⟨rw3, hR4, hW5⟩⟩ hc0 hx112)) ?_; clear hs; intro a w hs
          refine sy (v := .tuple #[.int .i64 (x111.1), .bool (x111.2)]) hs (y_move rfl) ?_; clear hs; intro a w hs
          refine sy (v := .int .i64 (x111.1)) hs (y_extract rfl rfl) ?_; clear hs; intro a w hs
          refine sy (v := .bool (x111.2)) hs (y_extract rfl rfl) ?_; clear hs; intro a w hs
          refine sy (v := .int .i64 (x111.1)) hs (y_assign rfl) ?_; clear hs; intro a w hs
          refine sy (v := .bool (x111.2)) hs (y_assign rfl) ?_; clear hs; intro a w hs
          refine RL_nil ?_
          exact hK45 k99 _ _ (Nat.lt_succ_self _) ⟨_, x111.1, x111.2, x102.2, es106, c107, hbase100, hm, hS108, hs.sub ⟨rfl, rfl, rfl, rfl, rfl, rfl, trivial⟩⟩
       ·replace hm := oc_f hg101 hm
        refine W_exit ?_
        refine hB44 _ _ ?_
        exact ⟨_, y95, es96, c97, hbase90, hm, hS98, hs.sub trivial⟩
    ·refine W_cond hs rfl (fun hg113 => ?_) (fun hg113 => ?_)
     ·replace hm := oc_t hg113 hm
      refine W_region ?_
      refine sy (v := .func (.func 30) #[] #[.pointer (some ⟨cb0, 0, none⟩)]) hs (y_move rfl) ?_; clear hs; intro a w hs
      refine sy (v := .func (.func 30) #[] #[.pointer (some ⟨cb0, 0, none⟩)]) hs (y_assign rfl) ?_; clear hs; intro a w hs
      refine sy (v := .bool (true)) hs (y_assign rfl) ?_; clear hs; intro a w hs
      refine RL_nil ?_
      exact ⟨true, hm, hs.sub ⟨rfl, rfl, rfl, rfl, rfl, trivial⟩⟩
     ·replace hm := oc_f hg113 hm
      refine W_seq fun K54 hK54 => ?_
      refine W_region ?_
      refine sy hs (y_eql rfl rfl) ?_; clear hs; intro a w hs
      refine sy (v := .bool (decide (x18.Comb = 4))) hs (y_assign rfl) ?_; clear hs; intro a w hs
      refine RL_nil ?_
      refine hK54 _ _ ?_; clear hK54
      refine W_cond hs rfl (fun hg114 => ?_) (fun hg114 => ?_)
      ·replace hm := oc_t hg114 hm
       refine W_region ?_
       refine sy (v := .func (.func 30) #[] #[.pointer (some ⟨cb0, 0, none⟩)]) hs (y_move rfl) ?_; clear hs; intro a w hs
       refine sy (v := .func (.func 30) #[] #[.pointer (some ⟨cb0, 0, none⟩)]) hs (y_assign rfl) ?_; clear hs; intro a w hs
       refine RL_nil ?_
       exact ⟨false, hm, hs.sub ⟨rfl, rfl, rfl, rfl, rfl, trivial⟩⟩
      ·replace hm := oc_f hg114 hm
       refine W_seq fun K55 hK55 => ?_
       refine W_region ?_
       refine sy (v := .bool (false)) hs (y_assign rfl) ?_; clear hs; intro a w hs
       refine RL_nil ?_
       refine hK55 _ _ ?_; clear hK55
       refine W_ret ?_
       obtain rfl := Option.some.inj hm
       refine RtV1 hs rfl (rv_t hs rfl) ?_
       exact ⟨_, f, [.blk mr3 (.map me3 mc3)], rfl, hle, hs.cw, me3, mc3, rfl, rfl, hmc3⟩
/-! casement/match.Match$2 -/
def match_Match_2_k2 (p0 : Int) (p1 : Int) (y31 : (List (match_place × Int))) : Option (Bool × (List (match_place × Int))) :=
  some ((decide (((kget y31 ({step := p0, node := p1} : match_place)).getD 0) = 2)), y31)
def match_Match_2_k1 (p0 : Int) (p1 : Int) (y25 : Bool) (y26 : (List (match_place × Int))) : Option (Bool × (List (match_place × Int))) :=
  (bif y25 then match_Match_2_k2 p0 p1 (kput y26 ({step := p0, node := p1} : match_place) 2) else
  match_Match_2_k2 p0 p1 y26)
def match_Match_2_b (slf : Int → Int → (List (match_place × Int)) → api_Tree → sheet_Selector → Option (Bool × (List (match_place × Int)))) (n : Nat) (p0 : Int) (p1 : Int) (q0 : (List (match_place × Int))) (q1 : api_Tree) (q2 : sheet_Selector) : Option (Bool × (List (match_place × Int))) :=
  (bif (decide (0 < ((kget q0 ({step := p0, node := p1} : match_place)).getD 0))) then some ((decide (((kget q0 ({step := p0, node := p1} : match_place)).getD 0) = 2)), q0) else
  (geti q2.Steps p0).bind fun x39 =>
  (match_means n q1 p1 x39).bind fun x51 =>
  (bif x51 then (match_Match_1_b slf n p0 p1 q1 q2 (kput q0 ({step := p0, node := p1} : match_place) 1)).bind fun x54 =>
  match_Match_2_k1 p0 p1 x54.1 x54.2 else
  match_Match_2_k1 p0 p1 false (kput q0 ({step := p0, node := p1} : match_place) 1)))
def match_Match_2 : Nat → Int → Int → (List (match_place × Int)) → api_Tree → sheet_Selector → Option (Bool × (List (match_place × Int)))
  | 0, _, _, _, _, _ => none
  | n + 1, p0, p1, q0, q1, q2 => match_Match_2_b (match_Match_2 n) n p0 p1 q0 q1 q2
set_option maxRecDepth 20000 in
set_option maxHeartbeats 4000000 in
theorem match_Match_2_bok {slf : Int → Int → (List (match_place × Int)) → api_Tree → sheet_Selector → Option (Bool × (List (match_place × Int)))} (n : Nat) (slf_ok : ∀ {f : Fz} {o0 : Obj} {o1 : Obj} {p0 : Int} {p1 : Int} {cb0 : Nat} {q0 : (List (match_place × Int))} {mr0 : Nat} {me0 : Array MapEntry} {mc0 : Nat} {cb1 : Nat} {q1 : api_Tree} {ca1 : List Value} {cb2 : Nat} {q2 : sheet_Selector} {ca2 : List Value} {cb3 : Nat} {cb4 : Nat} {res : (Bool × (List (match_place × Int)))} (_ : f 0 = some o0) (_ : f 1 = some o1) (_ : Tabs o0 o1) (_ : f cb0 = some (.cells #[.map (some mr0)] 73 (0, 0))) (_ : SK ke_match_place (fun x => .int .i64 x) me0 q0) (_ : t_api_Tree.R f ca1 q1) (_ : f cb1 = some (.cells ca1.toArray 24 (0, 0))) (_ : t_sheet_Selector.R f ca2 q2) (_ : f cb2 = some (.cells ca2.toArray 27 (0, 0))) (_ : f cb3 = some (.cells #[.func (.func 28) #[] #[.pointer (some ⟨cb1, 0, none⟩), .pointer (some ⟨cb2, 0, none⟩), .pointer (some ⟨cb4, 0, none⟩)]] 74 (0, 0))) (_ : f cb4 = some (.cells #[.func (.func 32) #[] #[.pointer (some ⟨cb0, 0, none⟩), .pointer (some ⟨cb1, 0, none⟩), .pointer (some ⟨cb2, 0, none⟩), .pointer (some ⟨cb3, 0, none⟩)]] 74 (0, 0))) (_ : slf p0 p1 q0 q1 q2 = some res), Does Tryd.prog 32 [.int .i64 p0, .int .i64 p1, .pointer (some ⟨cb0, 0, none⟩), .pointer (some ⟨cb1, 0, none⟩), .pointer (some ⟨cb2, 0, none⟩), .pointer (some ⟨cb3, 0, none⟩)] f [.blk mr0 (.map me0 mc0)] (fun r _f' L' => ∃ (nme0 : Array MapEntry) (nmc0 : Nat), L' = [.blk mr0 (.map nme0 nmc0)] ∧ r = .bool res.1 ∧ SK ke_match_place (fun x => .int .i64 x) nme0 res.2)) {f : Fz} {o0 : Obj} {o1 : Obj} {p0 : Int} {p1 : Int} {cb0 : Nat} {q0 : (List (match_place × Int))} {mr0 : Nat} {me0 : Array MapEntry} {mc0 : Nat} {cb1 : Nat} {q1 : api_Tree} {ca1 : List Value} {cb2 : Nat} {q2 : sheet_Selector} {ca2 : List Value} {cb3 : Nat} {cb4 : Nat} {res : (Bool × (List (match_place × Int)))} (hT0 : f 0 = some o0) (hT1 : f 1 = some o1) (hTT : Tabs o0 o1) (hc0 : f cb0 = some (.cells #[.map (some mr0)] 73 (0, 0))) (hmc0 : SK ke_match_place (fun x => .int .i64 x) me0 q0) (hq1 : t_api_Tree.R f ca1 q1) (hc1 : f cb1 = some (.cells ca1.toArray 24 (0, 0))) (hq2 : t_sheet_Selector.R f ca2 q2) (hc2 : f cb2 = some (.cells ca2.toArray 27 (0, 0))) (hc3 : f cb3 = some (.cells #[.func (.func 28) #[] #[.pointer (some ⟨cb1, 0, none⟩), .pointer (some ⟨cb2, 0, none⟩), .pointer (some ⟨cb4, 0, none⟩)]] 74 (0, 0))) (hc4 : f cb4 = some (.cells #[.func (.func 32) #[] #[.pointer (some ⟨cb0, 0, none⟩), .pointer (some ⟨cb1, 0, none⟩), .pointer (some ⟨cb2, 0, none⟩), .pointer (some ⟨cb3, 0, none⟩)]] 74 (0, 0))) (hm : match_Match_2_b slf n p0 p1 q0 q1 q2 = some res) : Does Tryd.prog 32 [.int .i64 p0, .int .i64 p1, .pointer (some ⟨cb0, 0, none⟩), .pointer (some ⟨cb1, 0, none⟩), .pointer (some ⟨cb2, 0, none⟩), .pointer (some ⟨cb3, 0, none⟩)] f [.blk mr0 (.map me0 mc0)] (fun r _f' L' => ∃ (nme0 : Array MapEntry) (nmc0 : Nat), L' = [.blk mr0 (.map nme0 nmc0)] ∧ r = .bool res.1 ∧ SK ke_match_place (fun x => .int .i64 x) nme0 res.2) := by
 unfold match_Match_2_b at hm
 intro w0 L w hC
 replace hC : Cw w0 f (.blk mr0 (.map me0 mc0) :: L) w := hC
 obtain ⟨v4, rfl, ⟨rw5, hR6, hW7⟩⟩ := hq1
 obtain ⟨v10, rfl, ⟨rw11, hR12, hW13⟩⟩ := hq2
 refine enter Tryd.func32 rfl Tryd.ntmps32 (by simp) hC fun a hs => ?_
 have hle := Fz.le.refl f
 refine W_seq fun K1 hK1 => ?_
 refine W_region ?_
 refine sy (v := .bool (false)) hs (y_assign rfl) ?_; clear hs; intro a w hs
 refine RL_nil ?_
 refine hK1 _ _ ?_; clear hK1
 refine W_seq fun K2 hK2 => ?_
 refine W_region ?_
 refine sy (v := .int .i64 (p0)) hs (y_move rfl) ?_; clear hs; intro a w hs
 refine sy (v := .int .i64 (p1)) hs (y_move rfl) ?_; clear hs; intro a w hs
 refine sy hs (y_buildS (places := [(0, 1), (1, 1)]) (cs := [.int .i64 (p0), .int .i64 (p1)]) rfl Tryd.underlying79 ti79 (by kernel_rfl) (by decide) rfl ⟨rfl, rfl, trivial⟩) ?_; clear hs; intro a w hs
 refine RL_alloc hs ti79 (.free rfl) (by decide) ?_; clear hs; intro b17 a w hs
 replace hs : St _ _ _ (.blk b17 (.cells #[.int .i64 (0), .int .i64 (0)] 79 (0, 0)) :: .blk mr0 (.map me0 mc0) :: L) _ _ _ := hs
 refine RL_storeAll (i := 0) hs rfl rfl rfl ti79 ⟨rfl, rfl⟩ (AllC.arr (r := [.int .i64 (p0), .int .i64 (p1)]) ⟨rfl, rfl, trivial⟩) (.free rfl) ?_; clear hs; intro a w hs
 replace hs : St _ _ _ (.blk b17 (.cells #[.int .i64 (p0), .int .i64 (p1)] 79 (0, 0)) :: .blk mr0 (.map me0 mc0) :: L) _ _ _ := hs
 refine RL_nil ?_
 refine hK2 _ _ ?_; clear hK2
 refine W_seq fun K3 hK3 => ?_
 refine W_seq fun K4 hK4 => ?_
 refine W_region ?_
 refine sy (v := .map (some mr0)) hs (y_ld rfl Tryd.underlying73 rfl (Cell.fz hc0 rfl)) ?_; clear hs; intro a w hs
 refine sy hs (y_ldB rfl Tryd.underlying79 rfl ti79 (.head _) rfl) ?_; clear hs; intro a w hs
 refine sy hs (y_lookupK (ke := ke_match_place) (enc := (fun x => .int .i64 x)) (k := ({step := p0, node := p1} : match_place)) (z := 0) rfl rfl Tryd.underlying73 ko_match_place ti3 (.tail _ (.head _)) hmc0) ?_; clear hs; intro a w hs
 refine sy (v := .int .i64 (((kget q0 ({step := p0, node := p1} : match_place)).getD 0))) hs (y_assign rfl) ?_; clear hs; intro a w hs
 refine RL_nil ?_
 refine hK4 _ _ ?_; clear hK4
 refine W_seq fun K5 hK5 => ?_
 refine W_region ?_
 refine sy (v := .int .i64 (((kget q0 ({step := p0, node := p1} : match_place)).getD 0))) hs (y_move rfl) ?_; clear hs; intro a w hs
 refine sy hs (y_gtr rfl rfl) ?_; clear hs; intro a w hs
 refine RL_nil ?_
 refine hK5 _ _ ?_; clear hK5
 refine W_cond hs rfl (fun hg19 => ?_) (fun hg19 => ?_)
 ·replace hm := oc_t hg19 hm
  refine W_seq fun K6 hK6 => ?_
  refine W_region ?_
  refine sy (v := .int .i64 (((kget q0 ({step := p0, node := p1} : match_place)).getD 0))) hs (y_move rfl) ?_; clear hs; intro a w hs
  refine sy hs (y_eql rfl rfl) ?_; clear hs; intro a w hs
  refine sy (v := .bool (decide (((kget q0 ({step := p0, node := p1} : match_place)).getD 0) = 2))) hs (y_assign rfl) ?_; clear hs; intro a w hs
  refine RL_nil ?_
  refine hK6 _ _ ?_; clear hK6
  refine W_ret ?_
  obtain rfl := Option.some.inj hm
  refine RtV1 hs rfl (rv_t hs rfl) ?_
  exact ⟨_, f, [.blk mr0 (.map me0 mc0)], rfl, hle, (hs.subL (.cons _ (.cons_cons _ (.refl _)))).cw, me0, mc0, rfl, rfl, hmc0⟩
 ·replace hm := oc_f hg19 hm
  refine W_skip ?_
  refine hK3 _ _ ?_; clear hK3
  refine W_seq fun K7 hK7 => ?_
  refine W_region ?_
  refine sy (v := .map (some mr0)) hs (y_ld rfl Tryd.underlying73 rfl (Cell.fz hc0 rfl)) ?_; clear hs; intro a w hs
  refine sy hs (y_ldB rfl Tryd.underlying79 rfl ti79 (.head _) rfl) ?_; clear hs; intro a w hs
  refine RL_mapUpdateK (ke := ke_match_place) (enc := (fun x => .int .i64 x)) (k := ({step := p0, node := p1} : match_place)) (u := 1) 1 hs rfl rfl rfl rfl Tryd.underlying73 ko_match_place hmc0 ?_; clear hs; intro es20 c21 a w hS22 hs
  replace hs : St _ _ _ (.blk b17 (.cells #[.int .i64 (p0), .int .i64 (p1)] 79 (0, 0)) :: .blk mr0 (.map es20 c21) :: L) _ _ _ := hs
  refine RL_nil ?_
  refine hK7 _ _ ?_; clear hK7
  refine W_seq fun K8 hK8 => ?_
  refine W_seq fun K9 hK9 => ?_
  have hbase30 := Fz.le.refl f
  refine W_post (fun a w => ∃ (f23 : Fz) (y25 : Bool) (y26 : (List (match_place × Int))) (es27 : Array MapEntry) (c28 : Nat), Fz.le f f23 ∧ match_Match_2_k1 p0 p1 y25 y26 = some res ∧ SK ke_match_place (fun x => .int .i64 x) es27 y26 ∧ St 43 w0 f23 (.blk b17 (.cells #[.int .i64 (p0), .int .i64 (p1)] 79 (0, 0)) :: .blk mr0 (.map es27 c28) :: L) [(2, .pointer (some ⟨cb0, 0, none⟩)), (9, .pointer (some ⟨b17, 0, none⟩)), (36, .bool (y25))] a w) ?_ ?_
  ·clear hs hm
   clear hbase30
   rintro a w ⟨f23, y25, y26, es27, c28, hl24, hm, hS29, hs⟩
   replace hT0 := hl24 _ _ hT0
   replace hT1 := hl24 _ _ hT1
   replace hc0 := hl24 _ _ hc0
   replace hR6 := hR6.le hl24
   replace hW7 := hW7.le hl24
   replace hc1 := hl24 _ _ hc1
   replace hR12 := hR12.le hl24
   replace hW13 := hW13.le hl24
   replace hc2 := hl24 _ _ hc2
   replace hc3 := hl24 _ _ hc3
   replace hc4 := hl24 _ _ hc4
   replace hle := hle.trans hl24
   replace hs : St _ _ _ (.blk b17 (.cells #[.int .i64 (p0), .int .i64 (p1)] 79 (0, 0)) :: .blk mr0 (.map es27 c28) :: L) _ _ _ := hs
   unfold match_Match_2_k1 at hm
   refine hK9 _ _ ?_; clear hK9
   refine W_post (fun a w => ∃ (y31 : (List (match_place × Int))) (es32 : Array MapEntry) (c33 : Nat), match_Match_2_k2 p0 p1 y31 = some res ∧ SK ke_match_place (fun x => .int .i64 x) es32 y31 ∧ St 43 w0 f23 (.blk b17 (.cells #[.int .i64 (p0), .int .i64 (p1)] 79 (0, 0)) :: .blk mr0 (.map es32 c33) :: L) [(2, .pointer (some ⟨cb0, 0, none⟩)), (9, .pointer (some ⟨b17, 0, none⟩))] a w) ?_ ?_
   ·clear hs hm
    rintro a w ⟨y31, es32, c33, hm, hS34, hs⟩
    replace hs : St _ _ _ (.blk b17 (.cells #[.int .i64 (p0), .int .i64 (p1)] 79 (0, 0)) :: .blk mr0 (.map es32 c33) :: L) _ _ _ := hs
    unfold match_Match_2_k2 at hm
    refine hK8 _ _ ?_; clear hK8
    refine W_seq fun K10 hK10 => ?_
    refine W_region ?_
    refine sy (v := .map (some mr0)) hs (y_ld rfl Tryd.underlying73 rfl (Cell.fz hc0 rfl)) ?_; clear hs; intro a w hs
    refine sy hs (y_ldB rfl Tryd.underlying79 rfl ti79 (.head _) rfl) ?_; clear hs; intro a w hs
    refine sy hs (y_lookupK (ke := ke_match_place) (enc := (fun x => .int .i64 x)) (k := ({step := p0, node := p1} : match_place)) (z := 0) rfl rfl Tryd.underlying73 ko_match_place ti3 (.tail _ (.head _)) hS34) ?_; clear hs; intro a w hs
    refine sy hs (y_eql rfl rfl) ?_; clear hs; intro a w hs
    refine sy (v := .bool (decide (((kget y31 ({step := p0, node := p1} : match_place)).getD 0) = 2))) hs (y_assign rfl) ?_; clear hs; intro a w hs
    refine RL_nil ?_
    refine hK10 _ _ ?_; clear hK10
    refine W_ret ?_
    obtain rfl := Option.some.inj hm
    refine RtV1 hs rfl (rv_t hs rfl) ?_
    exact ⟨_, f23, [.blk mr0 (.map es32 c33)], rfl, hle, (hs.subL (.cons _ (.cons_cons _ (.refl _)))).cw, es32, c33, rfl, rfl, hS34⟩
   ·refine W_cond hs rfl (fun hg35 => ?_) (fun hg35 => ?_)
    ·replace hm := oc_t hg35 hm
     refine W_region ?_
     refine sy (v := .map (some mr0)) hs (y_ld rfl Tryd.underlying73 rfl (Cell.fz hc0 rfl)) ?_; clear hs; intro a w hs
     refine sy hs (y_ldB rfl Tryd.underlying79 rfl ti79 (.head _) rfl) ?_; clear hs; intro a w hs
     refine RL_mapUpdateK (ke := ke_match_place) (enc := (fun x => .int .i64 x)) (k := ({step := p0, node := p1} : match_place)) (u := 2) 1 hs rfl rfl rfl rfl Tryd.underlying73 ko_match_place hS29 ?_; clear hs; intro es36 c37 a w hS38 hs
     replace hs : St _ _ _ (.blk b17 (.cells #[.int .i64 (p0), .int .i64 (p1)] 79 (0, 0)) :: .blk mr0 (.map es36 c37) :: L) _ _ _ := hs
     refine RL_nil ?_
     exact ⟨(kput y26 ({step := p0, node := p1} : match_place) 2), es36, c37, hm, hS38, hs.sub ⟨rfl, rfl, trivial⟩⟩
    ·replace hm := oc_f hg35 hm
     refine W_skip ?_
     exact ⟨y26, es27, c28, hm, hS29, hs.sub ⟨rfl, rfl, trivial⟩⟩
  ·refine T_start hs ([]) [] (.look 0 (.look 1 (.look 2 (.look 3 (.look 4 (.look 5 (.look 6 (.look 7 (.look 8 (.look 9 (.look 10 (.look 11 (.any [12] (fun _ => .look 13 (.done))))))))))))))) mixed (by kernel_rfl) ?_; clear hs; intro a he
   refine uy 0 he rfl (y_ldF rfl Tryd.underlying24 rfl ti24 hc1 rfl) ?_; clear he; intro a he
   refine uy (v := .int .i64 (p1)) 1 he rfl (y_move rfl) ?_; clear he; intro a he
   refine uy (v := .pointer (some ⟨cb2, 0, none⟩)) 2 he rfl (y_fieldAddr rfl (FO.of (off := 0) Tryd.underlying27 rfl rfl ti25 (by decide))) ?_; clear he; intro a he
   refine uy (v := v10) 3 he rfl (y_ld rfl Tryd.underlying25 rfl (Cell.fz hc2 rfl)) ?_; clear he; intro a he
   refine uy (v := .int .i64 (p0)) 4 he rfl (y_move rfl) ?_; clear he; intro a he
   obtain ⟨x39, hx40, hm⟩ := ob hm
   obtain ⟨r41, hr42, hq43, hi44, hb45⟩ := hW13.geti hx40
   obtain ⟨v46, rfl, ⟨rw47, hR48, hW49⟩⟩ := hq43
   refine uy 5 he rfl (y_indexAddr hR12 rfl rfl hi44 hb45 Tryd.underlying25 ti35) ?_; clear he; intro a he
   refine uy 6 he rfl (y_loadRow hR12.up rfl hr42 Tryd.underlying35 rfl ti35) ?_; clear he; intro a he
   obtain ⟨x51, hx52, hm⟩ := ob hm
   refine ucall 7 he rfl rfl has33 rfl (fun f9 L9 w9 hfc _ hw9 => (match_means_ok n (f := f9) (a0 := [v4]) (a2 := [.int .i64 (x39.Comb), .string (x39.Name), v46]) (hfc _ _ hT0) (hfc _ _ hT1) hTT ⟨_, rfl, ⟨rw5, hR6.le hfc, hW7.le hfc⟩⟩ ⟨_, rfl, ⟨rw47, hR48.le hfc, hW49.le hfc⟩⟩ hx52) w0 L9 w9 hw9) ?_; clear he; intro a he
   refine uy (v := .bool (x51)) 8 he rfl (y_move rfl) ?_; clear he; intro a he
   refine Ev.split he (t := 31) rfl (fun hg53 hq => ?_) (fun hg53 hq => ?_)
   ·clear he; have he := hq; clear hq
    replace hm := oc_t hg53 hm
    refine uyg (v := .func (.func 28) #[] #[.pointer (some ⟨cb1, 0, none⟩), .pointer (some ⟨cb2, 0, none⟩), .pointer (some ⟨cb4, 0, none⟩)]) 9 he rfl (y_ld rfl Tryd.underlying74 rfl (Cell.fz hc3 rfl)) ?_; clear he; intro a he
    refine uyg (v := .int .i64 (p0)) 10 he rfl (y_move rfl) ?_; clear he; intro a he
    refine uyg (v := .int .i64 (p1)) 11 he rfl (y_move rfl) ?_; clear he; intro a he
    refine T_any1 he rfl ?_; clear he; intro a w hs
    obtain ⟨x54, hx55, hm⟩ := ob hm
    refine RL_guard hs rfl rfl ?_
    replace hs := hs.front 1
    replace hs : St _ _ _ (.blk mr0 (.map es20 c21) :: .blk b17 (.cells #[.int .i64 (p0), .int .i64 (p1)] 79 (0, 0)) :: L) _ _ _ := hs
    refine RL_call (Lr := [.blk mr0 (.map es20 c21)]) (Lf := .blk b17 (.cells #[.int .i64 (p0), .int .i64 (p1)] 79 (0, 0)) :: L) hs rfl has28 rfl rfl (match_Match_1_bok n slf_ok (f := f) (cb0 := cb1) (ca0 := [v4]) (cb1 := cb2) (ca1 := [v10]) (cb2 := cb4) (cb3 := cb0) (mr3 := mr0) (me3 := es20) (mc3 := c21) (cb4 := cb3) hT0 hT1 hTT ⟨_, rfl, ⟨rw5, hR6, hW7⟩⟩ hc1 ⟨_, rfl, ⟨rw11, hR12, hW13⟩⟩ hc2 hc4 hc0 hS22 hc3 hx55) (.free rfl) (by decide) ?_; clear hs
    rintro _ f56 _ a w hf57 ⟨es58, c59, rfl, rfl, hS60⟩ hs
    have hT61 := hf57 _ _ hT0
    have hT62 := hf57 _ _ hT1
    have hc63 := hf57 _ _ hc0
    have hR64 := hR6.le hf57
    have hW65 := hW7.le hf57
    have hc66 := hf57 _ _ hc1
    have hR67 := hR12.le hf57
    have hW68 := hW13.le hf57
    have hc69 := hf57 _ _ hc2
    have hc70 := hf57 _ _ hc3
    have hc71 := hf57 _ _ hc4
    have hR72 := hR48.le hf57
    have hW73 := hW49.le hf57
    replace hle := hle.trans hf57
    replace hbase30 := hbase30.trans hf57
    replace hs : St _ _ _ (.blk mr0 (.map es58 c59) :: .blk b17 (.cells #[.int .i64 (p0), .int .i64 (p1)] 79 (0, 0)) :: L) _ _ _ := hs
    refine uon hs ?_; clear hs; intro a he
    refine uy (v := .bool (x54.1)) 13 he rfl (y_pick rfl rfl) ?_; clear he; intro a he
    refine T_nil he ?_; clear he; intro w hs; try clear hsD
    replace hs := hs.front 1
    replace hs : St _ _ _ (.blk b17 (.cells #[.int .i64 (p0), .int .i64 (p1)] 79 (0, 0)) :: .blk mr0 (.map es58 c59) :: L) _ _ _ := hs
    exact ⟨_, x54.1, x54.2, es58, c59, hbase30, hm, hS60, hs.sub ⟨rfl, rfl, rfl, trivial⟩⟩
   ·clear he; have he := hq; clear hq
    replace hm := oc_f hg53 hm
    refine uno 9 he rfl ?_; clear he; intro a he
    refine uno 10 he rfl ?_; clear he; intro a he
    refine uno 11 he rfl ?_; clear he; intro a he
    refine T_any1 he rfl ?_; clear he; intro a w hs
    refine sno hs ?_; clear hs; intro a w hs
    refine uon hs ?_; clear hs; intro a he
    refine uy (v := .bool (false)) 13 he rfl (y_pick rfl rfl) ?_; clear he; intro a he
    refine T_nil he ?_; clear he; intro w hs; try clear hsD
    exact ⟨_, false, (kput q0 ({step := p0, node := p1} : match_place) 1), es20, c21, (Fz.le.refl _), hm, hS22, hs.sub ⟨rfl, rfl, rfl, trivial⟩⟩
set_option maxRecDepth 20000 in
set_option maxHeartbeats 4000000 in
theorem match_Match_2_ok : ∀ (n : Nat) {f : Fz} {o0 : Obj} {o1 : Obj} {p0 : Int} {p1 : Int} {cb0 : Nat} {q0 : (List (match_place × Int))} {mr0 : Nat} {me0 : Array MapEntry} {mc0 : Nat} {cb1 : Nat} {q1 : api_Tree} {ca1 : List Value} {cb2 : Nat} {q2 : sheet_Selector} {ca2 : List Value} {cb3 : Nat} {cb4 : Nat} {res : (Bool × (List (match_place × Int)))} (_hT0 : f 0 = some o0) (_hT1 : f 1 = some o1) (_hTT : Tabs o0 o1) (_hc0 : f cb0 = some (.cells #[.map (some mr0)] 73 (0, 0))) (_hmc0 : SK ke_match_place (fun x => .int .i64 x) me0 q0) (_hq1 : t_api_Tree.R f ca1 q1) (_hc1 : f cb1 = some (.cells ca1.toArray 24 (0, 0))) (_hq2 : t_sheet_Selector.R f ca2 q2) (_hc2 : f cb2 = some (.cells ca2.toArray 27 (0, 0))) (_hc3 : f cb3 = some (.cells #[.func (.func 28) #[] #[.pointer (some ⟨cb1, 0, none⟩), .pointer (some ⟨cb2, 0, none⟩), .pointer (some ⟨cb4, 0, none⟩)]] 74 (0, 0))) (_hc4 : f cb4 = some (.cells #[.func (.func 32) #[] #[.pointer (some ⟨cb0, 0, none⟩), .pointer (some ⟨cb1, 0, none⟩), .pointer (some ⟨cb2, 0, none⟩), .pointer (some ⟨cb3, 0, none⟩)]] 74 (0, 0))) (_ : match_Match_2 n p0 p1 q0 q1 q2 = some res), Does Tryd.prog 32 [.int .i64 p0, .int .i64 p1, .pointer (some ⟨cb0, 0, none⟩), .pointer (some ⟨cb1, 0, none⟩), .pointer (some ⟨cb2, 0, none⟩), .pointer (some ⟨cb3, 0, none⟩)] f [.blk mr0 (.map me0 mc0)] (fun r _f' L' => ∃ (nme0 : Array MapEntry) (nmc0 : Nat), L' = [.blk mr0 (.map nme0 nmc0)] ∧ r = .bool res.1 ∧ SK ke_match_place (fun x => .int .i64 x) nme0 res.2)
  | 0, f, o0, o1, p0, p1, cb0, q0, mr0, me0, mc0, cb1, q1, ca1, cb2, q2, ca2, cb3, cb4, res, hT0, hT1, hTT, hc0, hmc0, hq1, hc1, hq2, hc2, hc3, hc4, hm => by simp [match_Match_2] at hm
  | n + 1, f, o0, o1, p0, p1, cb0, q0, mr0, me0, mc0, cb1, q1, ca1, cb2, q2, ca2, cb3, cb4, res, hT0, hT1, hTT, hc0, hmc0, hq1, hc1, hq2, hc2, hc3, hc4, hm => match_Match_2_bok n (match_Match_2_ok n) hT0 hT1 hTT hc0 hmc0 hq1 hc1 hq2 hc2 hc3 hc4 hm
/-! casement/match.Match -/
def match_Match_k1 (n : Nat) (p0 : api_Tree) (p1 : Int) (p2 : sheet_Selector) (y15 : Bool) : Option Bool :=
  (bif y15 then some false else
  (match_Match_2 n (w64 ((p2.Steps.length : Int) - 1)) p1 ([] : List (match_place × Int)) p0 p2).bind fun x41 =>
  some x41.1)
def match_Match (n : Nat) (p0 : api_Tree) (p1 : Int) (p2 : sheet_Selector) : Option Bool :=
  (match_element n p0 p1).bind fun x48 =>
  (bif (!x48) then match_Match_k1 n p0 p1 p2 true else
  match_Match_k1 n p0 p1 p2 (decide ((p2.Steps.length : Int) = 0)))
set_option maxRecDepth 20000 in
set_option maxHeartbeats 4000000 in
theorem match_Match_ok (n : Nat) {f : Fz} {o0 : Obj} {o1 : Obj} {p0 : api_Tree} {a0 : List Value} {p1 : Int} {p2 : sheet_Selector} {a2 : List Value} {res : Bool} (hT0 : f 0 = some o0) (hT1 : f 1 = some o1) (hTT : Tabs o0 o1) (h0 : t_api_Tree.R f a0 p0) (h2 : t_sheet_Selector.R f a2 p2) (hm : match_Match n p0 p1 p2 = some res) : Gives Tryd.prog 12 [.agg a0.toArray, .int .i64 p1, .agg a2.toArray] f (.bool res) := by
 unfold match_Match at hm
 intro w0 L w hC
 obtain ⟨v1, rfl, ⟨rw2, hR3, hW4⟩⟩ := h0
 obtain ⟨v6, rfl, ⟨rw7, hR8, hW9⟩⟩ := h2
 refine enter Tryd.func12 rfl Tryd.ntmps12 (by simp) hC fun a hs => ?_
 have hle := Fz.le.refl f
 refine W_seq fun K1 hK1 => ?_
 refine W_region ?_
 refine sbox hs rfl ?_; clear hs; intro b11 a w hs
 replace hs : St _ _ _ (.blk b11 (.cells #[v1] 24 (0, 0)) :: L) _ _ _ := hs
 refine sbox hs rfl ?_; clear hs; intro b13 a w hs
 replace hs : St _ _ _ (.blk b13 (.cells #[v6] 27 (0, 0)) :: .blk b11 (.cells #[v1] 24 (0, 0)) :: L) _ _ _ := hs
 refine sy (v := .bool (false)) hs (y_assign rfl) ?_; clear hs; intro a w hs
 refine RL_nil ?_
 refine hK1 _ _ ?_; clear hK1
 refine W_seq fun K2 hK2 => ?_
 refine W_seq fun K3 hK3 => ?_
 refine W_post (fun a w => ∃ (y15 : Bool), match_Match_k1 n p0 p1 p2 y15 = some res ∧ St 30 w0 f (.blk b13 (.cells #[v6] 27 (0, 0)) :: .blk b11 (.cells #[v1] 24 (0, 0)) :: L) [(1, .int .i64 (p1)), (3, .pointer (some ⟨b11, 0, none⟩)), (5, .pointer (some ⟨b13, 0, none⟩)), (19, .bool (y15))] a w) ?_ ?_
 ·clear hs hm
  rintro a w ⟨y15, hm, hs⟩
  replace hs : St _ _ _ (.blk b13 (.cells #[v6] 27 (0, 0)) :: .blk b11 (.cells #[v1] 24 (0, 0)) :: L) _ _ _ := hs
  unfold match_Match_k1 at hm
  refine hK3 _ _ ?_; clear hK3
  refine W_cond hs rfl (fun hg16 => ?_) (fun hg16 => ?_)
  ·replace hm := oc_t hg16 hm
   refine W_seq fun K4 hK4 => ?_
   refine W_region ?_
   refine sy (v := .bool (false)) hs (y_assign rfl) ?_; clear hs; intro a w hs
   refine RL_nil ?_
   refine hK4 _ _ ?_; clear hK4
   refine W_ret ?_
   obtain rfl := Option.some.inj hm
   refine RtV1 hs rfl (rv_t hs rfl) ?_
   exact ⟨rfl, ((hs.subL (.cons _ (.cons _ (.refl _)))).weak hle).cw⟩
  ·replace hm := oc_f hg16 hm
   refine W_skip ?_
   refine hK2 _ _ ?_; clear hK2
   refine W_seq fun K5 hK5 => ?_
   refine W_region ?_
   refine RL_makeMap hs ?_; clear hs; intro b17 a w hs
   have hS18 : SK ke_match_place (fun x => .int .i64 x) #[] [] := SK.nil
   replace hs : St _ _ _ (.blk b17 (.map #[] 0) :: .blk b13 (.cells #[v6] 27 (0, 0)) :: .blk b11 (.cells #[v1] 24 (0, 0)) :: L) _ _ _ := hs
   refine RL_alloc hs ti73 (.free rfl) (by decide) ?_; clear hs; intro b20 a w hs
   replace hs : St _ _ _ (.blk b20 (.cells #[.map none] 73 (0, 0)) :: .blk b17 (.map #[] 0) :: .blk b13 (.cells #[v6] 27 (0, 0)) :: .blk b11 (.cells #[v1] 24 (0, 0)) :: L) _ _ _ := hs
   refine sstore 0 hs rfl rfl rfl ti73 rfl ?_; clear hs; intro a w hs
   replace hs : St _ _ _ (.blk b20 (.cells #[.map (some b17)] 73 (0, 0)) :: .blk b17 (.map #[] 0) :: .blk b13 (.cells #[v6] 27 (0, 0)) :: .blk b11 (.cells #[v1] 24 (0, 0)) :: L) _ _ _ := hs
   refine RL_nil ?_
   refine hK5 _ _ ?_; clear hK5
   refine W_seq fun K6 hK6 => ?_
   refine W_region ?_
   refine RL_alloc hs ti74 (.free rfl) (by decide) ?_; clear hs; intro b22 a w hs
   replace hs : St _ _ _ (.blk b22 (.cells #[.nilFunc] 74 (0, 0)) :: .blk b20 (.cells #[.map (some b17)] 73 (0, 0)) :: .blk b17 (.map #[] 0) :: .blk b13 (.cells #[v6] 27 (0, 0)) :: .blk b11 (.cells #[v1] 24 (0, 0)) :: L) _ _ _ := hs
   refine RL_nil ?_
   refine hK6 _ _ ?_; clear hK6
   refine W_seq fun K7 hK7 => ?_
   refine W_region ?_
   obtain ⟨f24, hf25, hs2, hB26⟩ := hs.frzB 4 rfl
   clear hs; have hs := hs2; clear hs2
   replace hR3 := hR3.le hf25
   replace hW4 := hW4.le hf25
   replace hR8 := hR8.le hf25
   replace hW9 := hW9.le hf25
   replace hT0 := hf25 _ _ hT0
   replace hT1 := hf25 _ _ hT1
   replace hle := hle.trans hf25
   replace hs : St _ _ _ (.blk b22 (.cells #[.nilFunc] 74 (0, 0)) :: .blk b20 (.cells #[.map (some b17)] 73 (0, 0)) :: .blk b17 (.map #[] 0) :: .blk b13 (.cells #[v6] 27 (0, 0)) :: L) _ _ _ := hs
   obtain ⟨f27, hf28, hs2, hB29⟩ := hs.frzB 3 rfl
   clear hs; have hs := hs2; clear hs2
   replace hR3 := hR3.le hf28
   replace hW4 := hW4.le hf28
   replace hR8 := hR8.le hf28
   replace hW9 := hW9.le hf28
   replace hT0 := hf28 _ _ hT0
   replace hT1 := hf28 _ _ hT1
   replace hB26 := hf28 _ _ hB26
   replace hle := hle.trans hf28
   replace hs : St _ _ _ (.blk b22 (.cells #[.nilFunc] 74 (0, 0)) :: .blk b20 (.cells #[.map (some b17)] 73 (0, 0)) :: .blk b17 (.map #[] 0) :: L) _ _ _ := hs
   refine sy hs (y_makeFunc rfl) ?_; clear hs; intro a w hs
   refine RL_alloc hs ti74 (.free rfl) (by decide) ?_; clear hs; intro b30 a w hs
   replace hs : St _ _ _ (.blk b30 (.cells #[.nilFunc] 74 (0, 0)) :: .blk b22 (.cells #[.nilFunc] 74 (0, 0)) :: .blk b20 (.cells #[.map (some b17)] 73 (0, 0)) :: .blk b17 (.map #[] 0) :: L) _ _ _ := hs
   refine sstore 0 hs rfl rfl rfl ti74 rfl ?_; clear hs; intro a w hs
   replace hs : St _ _ _ (.blk b30 (.cells #[.func (.func 28) #[] #[.pointer (some ⟨b11, 0, none⟩), .pointer (some ⟨b13, 0, none⟩), .pointer (some ⟨b22, 0, none⟩)]] 74 (0, 0)) :: .blk b22 (.cells #[.nilFunc] 74 (0, 0)) :: .blk b20 (.cells #[.map (some b17)] 73 (0, 0)) :: .blk b17 (.map #[] 0) :: L) _ _ _ := hs
   refine RL_nil ?_
   refine hK7 _ _ ?_; clear hK7
   refine W_seq fun K8 hK8 => ?_
   refine W_region ?_
   refine sy hs (y_makeFunc rfl) ?_; clear hs; intro a w hs
   refine sstore 1 hs rfl rfl rfl ti74 rfl ?_; clear hs; intro a w hs
   replace hs : St _ _ _ (.blk b30 (.cells #[.func (.func 28) #[] #[.pointer (some ⟨b11, 0, none⟩), .pointer (some ⟨b13, 0, none⟩), .pointer (some ⟨b22, 0, none⟩)]] 74 (0, 0)) :: .blk b22 (.cells #[.func (.func 32) #[] #[.pointer (some ⟨b20, 0, none⟩), .pointer (some ⟨b11, 0, none⟩), .pointer (some ⟨b13, 0, none⟩), .pointer (some ⟨b30, 0, none⟩)]] 74 (0, 0)) :: .blk b20 (.cells #[.map (some b17)] 73 (0, 0)) :: .blk b17 (.map #[] 0) :: L) _ _ _ := hs
   refine RL_nil ?_
   refine hK8 _ _ ?_; clear hK8
   refine W_seq fun K9 hK9 => ?_
   refine W_region ?_
   refine sy (v := .func (.func 32) #[] #[.pointer (some ⟨b20, 0, none⟩), .pointer (some ⟨b11, 0, none⟩), .pointer (some ⟨b13, 0, none⟩), .pointer (some ⟨b30, 0, none⟩)]) hs (y_ld rfl Tryd.underlying74 rfl (Cell.blk (.tail _ (.head _)) rfl)) ?_; clear hs; intro a w hs
   refine sy (v := .pointer (some ⟨b13, 0, none⟩)) hs (y_fieldAddr rfl (FO.of (off := 0) Tryd.underlying27 rfl rfl ti25 (by decide))) ?_; clear hs; intro a w hs
   refine sy (v := v6) hs (y_ld rfl Tryd.underlying25 rfl (Cell.fz hB29 rfl)) ?_; clear hs; intro a w hs
   refine sy hs (y_lenW hR8 hW9 rfl Tryd.underlying25) ?_; clear hs; intro a w hs
   refine sy hs (y_sub rfl rfl rfl) ?_; clear hs; intro a w hs
   refine sy (v := .int .i64 (p1)) hs (y_move rfl) ?_; clear hs; intro a w hs
   obtain ⟨f32, hf33, hs2, hB34⟩ := hs.frzB 2 rfl
   clear hs; have hs := hs2; clear hs2
   replace hR3 := hR3.le hf33
   replace hW4 := hW4.le hf33
   replace hR8 := hR8.le hf33
   replace hW9 := hW9.le hf33
   replace hT0 := hf33 _ _ hT0
   replace hT1 := hf33 _ _ hT1
   replace hB26 := hf33 _ _ hB26
   replace hB29 := hf33 _ _ hB29
   replace hle := hle.trans hf33
   replace hs : St _ _ _ (.blk b30 (.cells #[.func (.func 28) #[] #[.pointer (some ⟨b11, 0, none⟩), .pointer (some ⟨b13, 0, none⟩), .pointer (some ⟨b22, 0, none⟩)]] 74 (0, 0)) :: .blk b22 (.cells #[.func (.func 32) #[] #[.pointer (some ⟨b20, 0, none⟩), .pointer (some ⟨b11, 0, none⟩), .pointer (some ⟨b13, 0, none⟩), .pointer (some ⟨b30, 0, none⟩)]] 74 (0, 0)) :: .blk b17 (.map #[] 0) :: L) _ _ _ := hs
   obtain ⟨f35, hf36, hs2, hB37⟩ := hs.frzB 0 rfl
   clear hs; have hs := hs2; clear hs2
   replace hR3 := hR3.le hf36
   replace hW4 := hW4.le hf36
   replace hR8 := hR8.le hf36
   replace hW9 := hW9.le hf36
   replace hT0 := hf36 _ _ hT0
   replace hT1 := hf36 _ _ hT1
   replace hB26 := hf36 _ _ hB26
   replace hB29 := hf36 _ _ hB29
   replace hB34 := hf36 _ _ hB34
   replace hle := hle.trans hf36
   replace hs : St _ _ _ (.blk b22 (.cells #[.func (.func 32) #[] #[.pointer (some ⟨b20, 0, none⟩), .pointer (some ⟨b11, 0, none⟩), .pointer (some ⟨b13, 0, none⟩), .pointer (some ⟨b30, 0, none⟩)]] 74 (0, 0)) :: .blk b17 (.map #[] 0) :: L) _ _ _ := hs
   obtain ⟨f38, hf39, hs2, hB40⟩ := hs.frzB 0 rfl
   clear hs; have hs := hs2; clear hs2
   replace hR3 := hR3.le hf39
   replace hW4 := hW4.le hf39
   replace hR8 := hR8.le hf39
   replace hW9 := hW9.le hf39
   replace hT0 := hf39 _ _ hT0
   replace hT1 := hf39 _ _ hT1
   replace hB26 := hf39 _ _ hB26
   replace hB29 := hf39 _ _ hB29
   replace hB34 := hf39 _ _ hB34
   replace hB37 := hf39 _ _ hB37
   replace hle := hle.trans hf39
   replace hs : St _ _ _ (.blk b17 (.map #[] 0) :: L) _ _ _ := hs
   obtain ⟨x41, hx42, hm⟩ := ob hm
   replace hs : St _ _ _ (.blk b17 (.map #[] 0) :: L) _ _ _ := hs
   refine RL_call (Lr := [.blk b17 (.map #[] 0)]) (Lf := L) hs rfl has32 rfl rfl (match_Match_2_ok n (f := f38) (cb0 := b20) (mr0 := b17) (me0 := #[]) (mc0 := 0) (cb1 := b11) (ca1 := [v1]) (cb2 := b13) (ca2 := [v6]) (cb3 := b30) (cb4 := b22) hT0 hT1 hTT hB34 hS18 ⟨_, rfl, ⟨rw2, hR3, hW4⟩⟩ hB26 ⟨_, rfl, ⟨rw7, hR8, hW9⟩⟩ hB29 hB37 hB40 hx42) (.free rfl) (by decide) ?_; clear hs
   rintro _ f43 _ a w hf44 ⟨es45, c46, rfl, rfl, hS47⟩ hs
   replace hR3 := hR3.le hf44
   replace hW4 := hW4.le hf44
   replace hR8 := hR8.le hf44
   replace hW9 := hW9.le hf44
   replace hT0 := hf44 _ _ hT0
   replace hT1 := hf44 _ _ hT1
   replace hB26 := hf44 _ _ hB26
   replace hB29 := hf44 _ _ hB29
   replace hB34 := hf44 _ _ hB34
   replace hB37 := hf44 _ _ hB37
   replace hB40 := hf44 _ _ hB40
   replace hle := hle.trans hf44
   replace hs : St _ _ _ (.blk b17 (.map es45 c46) :: L) _ _ _ := hs
   refine sy (v := .bool (x41.1)) hs (y_assign rfl) ?_; clear hs; intro a w hs
   refine RL_nil ?_
   refine hK9 _ _ ?_; clear hK9
   refine W_ret ?_
   obtain rfl := Option.some.inj hm
   refine RtV1 hs rfl (rv_t hs rfl) ?_
   exact ⟨rfl, ((hs.subL (.cons _ (.refl _))).weak hle).cw⟩
 ·refine W_region ?_
  refine sy hs (y_ldB rfl Tryd.underlying24 rfl ti24 (.tail _ (.head _)) rfl) ?_; clear hs; intro a w hs
  refine sy (v := .int .i64 (p1)) hs (y_move rfl) ?_; clear hs; intro a w hs
  obtain ⟨x48, hx49, hm⟩ := ob hm
  refine sy hs (y_call rfl has27 rfl (match_element_ok n (f := f) (a0 := [v1]) ⟨_, rfl, ⟨rw2, hR3, hW4⟩⟩ hx49)) ?_; clear hs; intro a w hs
  refine sy (v := .bool ((!x48))) hs (y_not rfl) ?_; clear hs; intro a w hs
  refine sy (v := .bool ((!x48))) hs (y_move rfl) ?_; clear hs; intro a w hs
  refine St.split hs (t := 14) rfl (fun hg50 hq => ?_) (fun hg50 hq => ?_)
  ·clear hs; have hs := hq; clear hq
   replace hm := oc_t hg50 hm
   refine sno hs ?_; clear hs; intro a w hs
   refine sno hs ?_; clear hs; intro a w hs
   refine sno hs ?_; clear hs; intro a w hs
   refine sno hs ?_; clear hs; intro a w hs
   refine sy (v := .bool (true)) hs (y_pick rfl rfl) ?_; clear hs; intro a w hs
   refine RL_nil ?_
   exact ⟨true, hm, hs.sub ⟨rfl, rfl, rfl, rfl, trivial⟩⟩
  ·clear hs; have hs := hq; clear hq
   replace hm := oc_f hg50 hm
   refine syg (v := .pointer (some ⟨b13, 0, none⟩)) hs (y_fieldAddr rfl (FO.of (off := 0) Tryd.underlying27 rfl rfl ti25 (by decide))) ?_; clear hs; intro a w hs
   refine syg (v := v6) hs (y_ld rfl Tryd.underlying25 rfl (Cell.blk (.head _) rfl)) ?_; clear hs; intro a w hs
   refine syg hs (y_lenW hR8 hW9 rfl Tryd.underlying25) ?_; clear hs; intro a w hs
   refine syg hs (y_eql rfl rfl) ?_; clear hs; intro a w hs
   refine sy (v := .bool (decide ((p2.Steps.length : Int) = 0))) hs (y_pick rfl rfl) ?_; clear hs; intro a w hs
   refine RL_nil ?_
   exact ⟨decide ((p2.Steps.length : Int) = 0), hm, hs.sub ⟨rfl, rfl, rfl, rfl, trivial⟩⟩
end Go.Proofs.YtmkcglpeidbblaaDoor
