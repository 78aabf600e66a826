/-
  Walks and laws of this seat; the base is the text Base.
-/
import Derived.Test.YtmkcglpeidbblaaDoorL10j
/-
  Models of functions, and that the functions compute them. Printed by lift.py.
-/
namespace Go.Proofs.YtmkcglpeidbblaaDoor
open Go.RowKit Go.Sl
/-! casement/casementlaw10.known -/
def law10_known_k1 (y17 : Bool) : Option Bool :=
  some y17
def law10_known (n : Nat) : Option Bool :=
  (law10_sample n).bind fun x1 =>
  (law10_name n 0 (bs [117, 108]) ([] : List sheet_Test)).bind fun x21 =>
  (law10_name n 2 (bs [108, 105]) ([] : List sheet_Test)).bind fun x37 =>
  (law10_name n 3 (bs [108, 105]) ([] : List sheet_Test)).bind fun x55 =>
  (law10_sel n [x21, x37, x55]).bind fun x94 =>
  (match_Match n x1 4 x94).bind fun x117 =>
  (bif x117 then (law10_name n 0 (bs []) [({Kind := 2, Name := (bs [97]), Value := (bs []), N := 0} : sheet_Test)]).bind fun x144 =>
  (law10_sel n [x144]).bind fun x199 =>
  (match_Match n x1 2 x199).bind fun x230 =>
  (bif x230 then (law10_name n 0 (bs [108, 105]) [({Kind := 6, Name := (bs []), Value := (bs []), N := 0} : sheet_Test)]).bind fun x265 =>
  (law10_sel n [x265]).bind fun x336 =>
  (match_Match n x1 2 x336).bind fun x375 =>
  law10_known_k1 (!x375) else
  law10_known_k1 false) else
  law10_known_k1 false)
set_option maxRecDepth 20000 in
set_option maxHeartbeats 4000000 in
theorem law10_known_ok (n : Nat) {f : Fz} {o0 : Obj} {o1 : Obj} {res : Bool} (hT0 : f 0 = some o0) (hT1 : f 1 = some o1) (hTT : Tabs o0 o1) (hm : law10_known n = some res) : Gives Tryd.prog 11 [] f (.bool res) := by
 unfold law10_known at hm
 intro w0 L w hC
 refine enter Tryd.func11 rfl Tryd.ntmps11 (by simp) hC fun a hs => ?_
 have hle := Fz.le.refl f
 refine W_seq fun K1 hK1 => ?_
 refine W_region ?_
 refine sy (v := .bool (false)) hs (y_assign rfl) ?_; clear hs; intro a w hs
 refine RL_nil ?_
 refine hK1 _ _ ?_; clear hK1
 refine W_seq fun K2 hK2 => ?_
 refine W_region ?_
 obtain ⟨x1, hx2, hm⟩ := ob hm
 refine RL_callV hs rfl has25 rfl (law10_sample_ok n (f := f)  hx2) ?_; clear hs
 rintro _ f3 _ a w hf4 ⟨r5, rfl, rfl, hq6⟩ hs
 replace hT0 := hf4 _ _ hT0
 replace hT1 := hf4 _ _ hT1
 replace hle := hle.trans hf4
 obtain ⟨v7, rfl, ⟨rw8, hR9, hW10⟩⟩ := hq6
 refine RL_alloc hs ti24 (.free rfl) (by decide) ?_; clear hs; intro b12 a w hs
 refine RL_storeAll (i := 0) hs rfl rfl rfl ti24 ⟨rfl, rfl⟩ (AllC.arr (r := [v7]) ⟨hR9.one, trivial⟩) (.free rfl) ?_; clear hs; intro a w hs
 refine RL_nil ?_
 refine hK2 _ _ ?_; clear hK2
 refine W_seq fun K3 hK3 => ?_
 have hbase18 := Fz.le.refl f3
 refine W_post (fun a w => ∃ (f15 : Fz) (y17 : Bool), Fz.le f3 f15 ∧ law10_known_k1 y17 = some res ∧ St 29 w0 f15 (L) [(0, .bool (y17))] a w) ?_ ?_
 ·clear hs hm
  clear hbase18
  rintro a w ⟨f15, y17, hl16, hm, hs⟩
  replace hT0 := hl16 _ _ hT0
  replace hT1 := hl16 _ _ hT1
  replace hR9 := hR9.le hl16
  replace hW10 := hW10.le hl16
  replace hle := hle.trans hl16
  unfold law10_known_k1 at hm
  refine hK3 _ _ ?_; clear hK3
  refine W_ret ?_
  obtain rfl := Option.some.inj hm
  refine RtV1 hs rfl (rv_t hs rfl) ?_
  exact ⟨rfl, (hs.weak hle).cw⟩
 ·have hsD := hs.subL (L' := .blk b12 (.cells #[v7] 24 (0, 0)) :: []) (.cons_cons _ (List.nil_sublist _))
  have hbd19 := Fz.le.refl f3
  refine T_start hs (.blk b12 (.cells #[v7] 24 (0, 0)) :: []) [] (.look 0 (.any [1] (fun _ => .any [2] (fun _ => .any [3] (fun _ => .any [4] (fun _ => .any [5] (fun _ => .any [6] (fun _ => .look 7 (.look 9 (.any [8, 10] (fun i => bif Nat.beq i 8 then .any [10] (fun _ => .any [11] (fun _ => .any [12] (fun _ => .any [13] (fun _ => .any [14] (fun _ => .look 15 (.look 16 (.look 18 (.any [17, 19] (fun i => bif Nat.beq i 17 then .any [19] (fun _ => .any [20] (fun _ => .any [21] (fun _ => .any [22] (fun _ => .any [23] (fun _ => .look 24 (.look 25 (.look 26 (.done)))))))) else .any [17, 20] (fun i => bif Nat.beq i 17 then .any [20] (fun _ => .any [21] (fun _ => .any [22] (fun _ => .any [23] (fun _ => .look 24 (.look 25 (.look 26 (.done))))))) else .any [17, 21] (fun i => bif Nat.beq i 17 then .any [21] (fun _ => .any [22] (fun _ => .any [23] (fun _ => .look 24 (.look 25 (.look 26 (.done)))))) else .any [17, 22] (fun i => bif Nat.beq i 17 then .any [22] (fun _ => .any [23] (fun _ => .look 24 (.look 25 (.look 26 (.done))))) else .any [17] (fun _ => .any [23] (fun _ => .look 24 (.look 25 (.look 26 (.done))))))))))))))))) else .any [8, 11] (fun i => bif Nat.beq i 8 then .any [11] (fun _ => .any [12] (fun _ => .any [13] (fun _ => .any [14] (fun _ => .look 15 (.look 16 (.look 18 (.any [17, 19] (fun i => bif Nat.beq i 17 then .any [19] (fun _ => .any [20] (fun _ => .any [21] (fun _ => .any [22] (fun _ => .any [23] (fun _ => .look 24 (.look 25 (.look 26 (.done)))))))) else .any [17, 20] (fun i => bif Nat.beq i 17 then .any [20] (fun _ => .any [21] (fun _ => .any [22] (fun _ => .any [23] (fun _ => .look 24 (.look 25 (.look 26 (.done))))))) else .any [17, 21] (fun i => bif Nat.beq i 17 then .any [21] (fun _ => .any [22] (fun _ => .any [23] (fun _ => .look 24 (.look 25 (.look 26 (.done)))))) else .any [17, 22] (fun i => bif Nat.beq i 17 then .any [22] (fun _ => .any [23] (fun _ => .look 24 (.look 25 (.look 26 (.done))))) else .any [17] (fun _ => .any [23] (fun _ => .look 24 (.look 25 (.look 26 (.done)))))))))))))))) else .any [8, 12] (fun i => bif Nat.beq i 8 then .any [12] (fun _ => .any [13] (fun _ => .any [14] (fun _ => .look 15 (.look 16 (.look 18 (.any [17, 19] (fun i => bif Nat.beq i 17 then .any [19] (fun _ => .any [20] (fun _ => .any [21] (fun _ => .any [22] (fun _ => .any [23] (fun _ => .look 24 (.look 25 (.look 26 (.done)))))))) else .any [17, 20] (fun i => bif Nat.beq i 17 then .any [20] (fun _ => .any [21] (fun _ => .any [22] (fun _ => .any [23] (fun _ => .look 24 (.look 25 (.look 26 (.done))))))) else .any [17, 21] (fun i => bif Nat.beq i 17 then .any [21] (fun _ => .any [22] (fun _ => .any [23] (fun _ => .look 24 (.look 25 (.look 26 (.done)))))) else .any [17, 22] (fun i => bif Nat.beq i 17 then .any [22] (fun _ => .any [23] (fun _ => .look 24 (.look 25 (.look 26 (.done))))) else .any [17] (fun _ => .any [23] (fun _ => .look 24 (.look 25 (.look 26 (.done))))))))))))))) else .any [8, 13] (fun i => bif Nat.beq i 8 then .any [13] (fun _ => .any [14] (fun _ => .look 15 (.look 16 (.look 18 (.any [17, 19] (fun i => bif Nat.beq i 17 then .any [19] (fun _ => .any [20] (fun _ => .any [21] (fun _ => .any [22] (fun _ => .any [23] (fun _ => .look 24 (.look 25 (.look 26 (.done)))))))) else .any [17, 20] (fun i => bif Nat.beq i 17 then .any [20] (fun _ => .any [21] (fun _ => .any [22] (fun _ => .any [23] (fun _ => .look 24 (.look 25 (.look 26 (.done))))))) else .any [17, 21] (fun i => bif Nat.beq i 17 then .any [21] (fun _ => .any [22] (fun _ => .any [23] (fun _ => .look 24 (.look 25 (.look 26 (.done)))))) else .any [17, 22] (fun i => bif Nat.beq i 17 then .any [22] (fun _ => .any [23] (fun _ => .look 24 (.look 25 (.look 26 (.done))))) else .any [17] (fun _ => .any [23] (fun _ => .look 24 (.look 25 (.look 26 (.done)))))))))))))) else .any [8] (fun _ => .any [14] (fun _ => .look 15 (.look 16 (.look 18 (.any [17, 19] (fun i => bif Nat.beq i 17 then .any [19] (fun _ => .any [20] (fun _ => .any [21] (fun _ => .any [22] (fun _ => .any [23] (fun _ => .look 24 (.look 25 (.look 26 (.done)))))))) else .any [17, 20] (fun i => bif Nat.beq i 17 then .any [20] (fun _ => .any [21] (fun _ => .any [22] (fun _ => .any [23] (fun _ => .look 24 (.look 25 (.look 26 (.done))))))) else .any [17, 21] (fun i => bif Nat.beq i 17 then .any [21] (fun _ => .any [22] (fun _ => .any [23] (fun _ => .look 24 (.look 25 (.look 26 (.done)))))) else .any [17, 22] (fun i => bif Nat.beq i 17 then .any [22] (fun _ => .any [23] (fun _ => .look 24 (.look 25 (.look 26 (.done))))) else .any [17] (fun _ => .any [23] (fun _ => .look 24 (.look 25 (.look 26 (.done)))))))))))))))))))))))))))) mixed (by kernel_rfl) ?_; clear hs; intro a he
  refine uy 0 he rfl (y_ldB rfl Tryd.underlying24 rfl ti24 (.head _) rfl) ?_; clear he; intro a he
  refine T_any1 he rfl ?_; clear he; intro a w hs
  obtain ⟨x21, hx22, hm⟩ := ob hm
  refine RL_callV hs rfl has15 rfl (law10_name_ok n (f := f3) (a2 := (.slice none 0 0)) RS.nil hx22) ?_; clear hs
  rintro _ f23 _ a w hf24 ⟨r25, rfl, rfl, hq26⟩ hs
  have hT27 := hf24 _ _ hT0
  have hT28 := hf24 _ _ hT1
  have hR29 := hR9.le hf24
  have hW30 := hW10.le hf24
  replace hle := hle.trans hf24
  replace hbase18 := hbase18.trans hf24
  replace hbd19 := hbd19.trans hf24
  obtain ⟨v31, rfl, ⟨rw32, hR33, hW34⟩⟩ := hq26
  refine uon hs ?_; clear hs; intro a he
  refine T_any1 he rfl ?_; clear he; intro a w hs
  obtain ⟨x37, hx38, hm⟩ := ob hm
  refine RL_callV hs rfl has15 rfl (law10_name_ok n (f := f23) (a2 := (.slice none 0 0)) RS.nil hx38) ?_; clear hs
  rintro _ f39 _ a w hf40 ⟨r41, rfl, rfl, hq42⟩ hs
  have hT43 := hf40 _ _ hT27
  have hT44 := hf40 _ _ hT28
  have hR45 := hR29.le hf40
  have hW46 := hW30.le hf40
  have hR47 := hR33.le hf40
  have hW48 := hW34.le hf40
  replace hle := hle.trans hf40
  replace hbase18 := hbase18.trans hf40
  replace hbd19 := hbd19.trans hf40
  obtain ⟨v49, rfl, ⟨rw50, hR51, hW52⟩⟩ := hq42
  refine uon hs ?_; clear hs; intro a he
  refine T_any1 he rfl ?_; clear he; intro a w hs
  obtain ⟨x55, hx56, hm⟩ := ob hm
  refine RL_callV hs rfl has15 rfl (law10_name_ok n (f := f39) (a2 := (.slice none 0 0)) RS.nil hx56) ?_; clear hs
  rintro _ f57 _ a w hf58 ⟨r59, rfl, rfl, hq60⟩ hs
  have hT61 := hf58 _ _ hT43
  have hT62 := hf58 _ _ hT44
  have hR63 := hR45.le hf58
  have hW64 := hW46.le hf58
  have hR65 := hR47.le hf58
  have hW66 := hW48.le hf58
  have hR67 := hR51.le hf58
  have hW68 := hW52.le hf58
  replace hle := hle.trans hf58
  replace hbase18 := hbase18.trans hf58
  replace hbd19 := hbd19.trans hf58
  obtain ⟨v69, rfl, ⟨rw70, hR71, hW72⟩⟩ := hq60
  refine uon hs ?_; clear hs; intro a he
  refine T_any1 he rfl ?_; clear he; intro a w hs
  refine RL_bsN (parts := [(0, .tmp 4), (1, .tmp 5), (2, .tmp 6)]) (us := [.agg #[.int .i64 (x21.Comb), .string (x21.Name), v31], .agg #[.int .i64 (x37.Comb), .string (x37.Name), v49], .agg #[.int .i64 (x55.Comb), .string (x55.Name), v69]]) (rows := [[.int .i64 (x21.Comb), .string (x21.Name), v31], [.int .i64 (x37.Comb), .string (x37.Name), v49], [.int .i64 (x55.Comb), .string (x55.Name), v69]]) hs rfl Tryd.underlying25 ti35 (by decide) rfl rfl (by intro r hr; simp only [List.mem_cons, List.mem_nil_iff, or_false] at hr; rcases hr with rfl | rfl | rfl; exact AllC.row ⟨rfl, rfl, hR65.one, trivial⟩ rfl; exact AllC.row ⟨rfl, rfl, hR67.one, trivial⟩ rfl; exact AllC.row ⟨rfl, rfl, hR71.one, trivial⟩ rfl) ?_; clear hs; intro v74 a w hs
  have hW75 : RW t_sheet_Step f57 [[.int .i64 (x21.Comb), .string (x21.Name), v31], [.int .i64 (x37.Comb), .string (x37.Name), v49], [.int .i64 (x55.Comb), .string (x55.Name), v69]] [x21, x37, x55] := ⟨⟨_, rfl, ⟨rw32, hR65, hW66⟩⟩, ⟨⟨_, rfl, ⟨rw50, hR67, hW68⟩⟩, ⟨⟨_, rfl, ⟨rw70, hR71, hW72⟩⟩, trivial⟩⟩⟩
  generalize hgrw76 : ([[.int .i64 (x21.Comb), .string (x21.Name), v31], [.int .i64 (x37.Comb), .string (x37.Name), v49], [.int .i64 (x55.Comb), .string (x55.Name), v69]] : List (List Value)) = rw76 at hs hW75; clear hgrw76
  have ho79 : v74.oneCell' = true := hs.one (i := 0) rfl
  refine uon hs ?_; clear hs; intro a he
  refine T_any1 he rfl ?_; clear he; intro a w hs
  obtain ⟨f80, hf81, hs2, hR82⟩ := hs.frzAt 0 rfl
  clear hs; have hs := hs2; clear hs2
  have hT83 := hf81 _ _ hT61
  have hT84 := hf81 _ _ hT62
  have hR85 := hR63.le hf81
  have hW86 := hW64.le hf81
  have hR87 := hR65.le hf81
  have hW88 := hW66.le hf81
  have hR89 := hR67.le hf81
  have hW90 := hW68.le hf81
  have hR91 := hR71.le hf81
  have hW92 := hW72.le hf81
  have hW93 := hW75.le hf81
  replace hle := hle.trans hf81
  replace hbase18 := hbase18.trans hf81
  replace hbd19 := hbd19.trans hf81
  obtain ⟨x94, hx95, hm⟩ := ob hm
  refine RL_callV hs rfl has14 rfl (law10_sel_ok n (f := f80) (a0 := v74) ⟨rw76, hR82, hW93⟩ hx95) ?_; clear hs
  rintro _ f96 _ a w hf97 ⟨r98, rfl, rfl, hq99⟩ hs
  have hT100 := hf97 _ _ hT83
  have hT101 := hf97 _ _ hT84
  have hR102 := hR85.le hf97
  have hW103 := hW86.le hf97
  have hR104 := hR87.le hf97
  have hW105 := hW88.le hf97
  have hR106 := hR89.le hf97
  have hW107 := hW90.le hf97
  have hR108 := hR91.le hf97
  have hW109 := hW92.le hf97
  have hW110 := hW93.le hf97
  have hR111 := hR82.le hf97
  replace hle := hle.trans hf97
  replace hbase18 := hbase18.trans hf97
  replace hbd19 := hbd19.trans hf97
  obtain ⟨v112, rfl, ⟨rw113, hR114, hW115⟩⟩ := hq99
  refine uon hs ?_; clear hs; intro a he
  refine T_any1 he rfl ?_; clear he; intro a w hs
  obtain ⟨x117, hx118, hm⟩ := ob hm
  refine sy hs (y_call rfl has12 rfl (match_Match_ok n (f := f96) (a0 := [v7]) (a2 := [v112]) hT100 hT101 hTT ⟨_, rfl, ⟨rw8, hR102, hW103⟩⟩ ⟨_, rfl, ⟨rw113, hR114, hW115⟩⟩ hx118)) ?_; clear hs; intro a w hs
  refine uon hs ?_; clear hs; intro a he
  refine uy (v := .bool (x117)) 7 he rfl (y_move rfl) ?_; clear he; intro a he
  refine Ev.split he (t := 10) rfl (fun hg119 hq => ?_) (fun hg119 hq => ?_)
  ·clear he; have he := hq; clear hq
   replace hm := oc_t hg119 hm
   refine uyg 9 he rfl (y_buildS (places := [(0, 1), (1, 1), (2, 1), (3, 1)]) (cs := [.int .i64 (2), .string ((bs [97])), .string ((bs [])), .int .i64 (0)]) rfl Tryd.underlying29 ti29 (by kernel_rfl) (by decide) rfl ⟨rfl, rfl, trivial⟩) ?_; clear he; intro a he
   refine T_any2 he rfl rfl ?_ ?_ <;> (clear he; intro a w hs)
   ·refine syg hs (y_ldB rfl Tryd.underlying24 rfl ti24 (.head _) rfl) ?_; clear hs; intro a w hs
    refine uon hs ?_; clear hs; intro a he
    refine T_any1 he rfl ?_; clear he; intro a w hs
    refine RL_guard hs rfl rfl ?_
    refine RL_bs1a hs rfl Tryd.underlying33 ti29 (by decide) (AllC.row ⟨rfl, rfl, rfl, rfl, trivial⟩ rfl) ?_; clear hs; intro v120 a w hs
    have hW121 : RW t_sheet_Test f96 [[.int .i64 (2), .string ((bs [97])), .string ((bs [])), .int .i64 (0)]] [({Kind := 2, Name := (bs [97]), Value := (bs []), N := 0} : sheet_Test)] := RW.single (rfl)
    generalize hgrw122 : ([[.int .i64 (2), .string ((bs [97])), .string ((bs [])), .int .i64 (0)]] : List (List Value)) = rw122 at hs hW121; clear hgrw122
    have ho125 : v120.oneCell' = true := hs.one (i := 0) rfl
    refine uon hs ?_; clear hs; intro a he
    refine T_any1 he rfl ?_; clear he; intro a w hs
    obtain ⟨f126, hf127, hs2, hR128⟩ := hs.frzAt 0 rfl
    clear hs; have hs := hs2; clear hs2
    have hT129 := hf127 _ _ hT100
    have hT130 := hf127 _ _ hT101
    have hR131 := hR102.le hf127
    have hW132 := hW103.le hf127
    have hR133 := hR104.le hf127
    have hW134 := hW105.le hf127
    have hR135 := hR106.le hf127
    have hW136 := hW107.le hf127
    have hR137 := hR108.le hf127
    have hW138 := hW109.le hf127
    have hW139 := hW110.le hf127
    have hR140 := hR111.le hf127
    have hR141 := hR114.le hf127
    have hW142 := hW115.le hf127
    have hW143 := hW121.le hf127
    replace hle := hle.trans hf127
    replace hbase18 := hbase18.trans hf127
    replace hbd19 := hbd19.trans hf127
    obtain ⟨x144, hx145, hm⟩ := ob hm
    refine RL_callVg hs rfl has15 rfl (law10_name_ok n (f := f126) (a2 := v120) ⟨rw122, hR128, hW143⟩ hx145) ?_; clear hs
    rintro _ f146 _ a w hf147 ⟨r148, rfl, rfl, hq149⟩ hs
    have hT150 := hf147 _ _ hT129
    have hT151 := hf147 _ _ hT130
    have hR152 := hR131.le hf147
    have hW153 := hW132.le hf147
    have hR154 := hR133.le hf147
    have hW155 := hW134.le hf147
    have hR156 := hR135.le hf147
    have hW157 := hW136.le hf147
    have hR158 := hR137.le hf147
    have hW159 := hW138.le hf147
    have hW160 := hW139.le hf147
    have hR161 := hR140.le hf147
    have hR162 := hR141.le hf147
    have hW163 := hW142.le hf147
    have hW164 := hW143.le hf147
    have hR165 := hR128.le hf147
    replace hle := hle.trans hf147
    replace hbase18 := hbase18.trans hf147
    replace hbd19 := hbd19.trans hf147
    obtain ⟨v166, rfl, ⟨rw167, hR168, hW169⟩⟩ := hq149
    refine uon hs ?_; clear hs; intro a he
    refine T_any1 he rfl ?_; clear he; intro a w hs
    refine RL_guard hs rfl rfl ?_
    refine RL_bs1a hs rfl Tryd.underlying25 ti35 (by decide) (AllC.row ⟨rfl, rfl, hR168.one, trivial⟩ rfl) ?_; clear hs; intro v171 a w hs
    have hW172 : RW t_sheet_Step f146 [[.int .i64 (x144.Comb), .string (x144.Name), v166]] [x144] := RW.single (⟨_, rfl, ⟨rw167, hR168, hW169⟩⟩)
    generalize hgrw173 : ([[.int .i64 (x144.Comb), .string (x144.Name), v166]] : List (List Value)) = rw173 at hs hW172; clear hgrw173
    have ho176 : v171.oneCell' = true := hs.one (i := 0) rfl
    refine uon hs ?_; clear hs; intro a he
    refine T_any1 he rfl ?_; clear he; intro a w hs
    obtain ⟨f177, hf178, hs2, hR179⟩ := hs.frzAt 0 rfl
    clear hs; have hs := hs2; clear hs2
    have hT180 := hf178 _ _ hT150
    have hT181 := hf178 _ _ hT151
    have hR182 := hR152.le hf178
    have hW183 := hW153.le hf178
    have hR184 := hR154.le hf178
    have hW185 := hW155.le hf178
    have hR186 := hR156.le hf178
    have hW187 := hW157.le hf178
    have hR188 := hR158.le hf178
    have hW189 := hW159.le hf178
    have hW190 := hW160.le hf178
    have hR191 := hR161.le hf178
    have hR192 := hR162.le hf178
    have hW193 := hW163.le hf178
    have hW194 := hW164.le hf178
    have hR195 := hR165.le hf178
    have hR196 := hR168.le hf178
    have hW197 := hW169.le hf178
    have hW198 := hW172.le hf178
    replace hle := hle.trans hf178
    replace hbase18 := hbase18.trans hf178
    replace hbd19 := hbd19.trans hf178
    obtain ⟨x199, hx200, hm⟩ := ob hm
    refine RL_callVg hs rfl has14 rfl (law10_sel_ok n (f := f177) (a0 := v171) ⟨rw173, hR179, hW198⟩ hx200) ?_; clear hs
    rintro _ f201 _ a w hf202 ⟨r203, rfl, rfl, hq204⟩ hs
    have hT205 := hf202 _ _ hT180
    have hT206 := hf202 _ _ hT181
    have hR207 := hR182.le hf202
    have hW208 := hW183.le hf202
    have hR209 := hR184.le hf202
    have hW210 := hW185.le hf202
    have hR211 := hR186.le hf202
    have hW212 := hW187.le hf202
    have hR213 := hR188.le hf202
    have hW214 := hW189.le hf202
    have hW215 := hW190.le hf202
    have hR216 := hR191.le hf202
    have hR217 := hR192.le hf202
    have hW218 := hW193.le hf202
    have hW219 := hW194.le hf202
    have hR220 := hR195.le hf202
    have hR221 := hR196.le hf202
    have hW222 := hW197.le hf202
    have hW223 := hW198.le hf202
    have hR224 := hR179.le hf202
    replace hle := hle.trans hf202
    replace hbase18 := hbase18.trans hf202
    replace hbd19 := hbd19.trans hf202
    obtain ⟨v225, rfl, ⟨rw226, hR227, hW228⟩⟩ := hq204
    refine uon hs ?_; clear hs; intro a he
    refine T_any1 he rfl ?_; clear he; intro a w hs
    obtain ⟨x230, hx231, hm⟩ := ob hm
    refine syg hs (y_call rfl has12 rfl (match_Match_ok n (f := f201) (a0 := [v7]) (a2 := [v225]) hT205 hT206 hTT ⟨_, rfl, ⟨rw8, hR207, hW208⟩⟩ ⟨_, rfl, ⟨rw226, hR227, hW228⟩⟩ hx231)) ?_; clear hs; intro a w hs
    refine uon hs ?_; clear hs; intro a he
    refine uy (v := .bool (x230)) 15 he rfl (y_pick rfl rfl) ?_; clear he; intro a he
    refine uy (v := .bool (x230)) 16 he rfl (y_move rfl) ?_; clear he; intro a he
    refine Ev.split he (t := 19) rfl (fun hg232 hq => ?_) (fun hg232 hq => ?_)
    ·clear he; have he := hq; clear hq
     replace hm := oc_t hg232 hm
     refine uyg 18 he rfl (y_buildS (places := [(0, 1), (1, 1), (2, 1), (3, 1)]) (cs := [.int .i64 (6), .string ((bs [])), .string ((bs [])), .int .i64 (0)]) rfl Tryd.underlying29 ti29 (by kernel_rfl) (by decide) rfl ⟨rfl, trivial⟩) ?_; clear he; intro a he
     refine T_any2 he rfl rfl ?_ ?_ <;> (clear he; intro a w hs)
     ·refine syg hs (y_ldB rfl Tryd.underlying24 rfl ti24 (.head _) rfl) ?_; clear hs; intro a w hs
      refine uon hs ?_; clear hs; intro a he
      refine T_any1 he rfl ?_; clear he; intro a w hs
      refine RL_guard hs rfl rfl ?_
      refine RL_bs1a hs rfl Tryd.underlying33 ti29 (by decide) (AllC.row ⟨rfl, rfl, rfl, rfl, trivial⟩ rfl) ?_; clear hs; intro v233 a w hs
      have hW234 : RW t_sheet_Test f201 [[.int .i64 (6), .string ((bs [])), .string ((bs [])), .int .i64 (0)]] [({Kind := 6, Name := (bs []), Value := (bs []), N := 0} : sheet_Test)] := RW.single (rfl)
      generalize hgrw235 : ([[.int .i64 (6), .string ((bs [])), .string ((bs [])), .int .i64 (0)]] : List (List Value)) = rw235 at hs hW234; clear hgrw235
      have ho238 : v233.oneCell' = true := hs.one (i := 0) rfl
      refine uon hs ?_; clear hs; intro a he
      refine T_any1 he rfl ?_; clear he; intro a w hs
      obtain ⟨f239, hf240, hs2, hR241⟩ := hs.frzAt 0 rfl
      clear hs; have hs := hs2; clear hs2
      have hT242 := hf240 _ _ hT205
      have hT243 := hf240 _ _ hT206
      have hR244 := hR207.le hf240
      have hW245 := hW208.le hf240
      have hR246 := hR209.le hf240
      have hW247 := hW210.le hf240
      have hR248 := hR211.le hf240
      have hW249 := hW212.le hf240
      have hR250 := hR213.le hf240
      have hW251 := hW214.le hf240
      have hW252 := hW215.le hf240
      have hR253 := hR216.le hf240
      have hR254 := hR217.le hf240
      have hW255 := hW218.le hf240
      have hW256 := hW219.le hf240
      have hR257 := hR220.le hf240
      have hR258 := hR221.le hf240
      have hW259 := hW222.le hf240
      have hW260 := hW223.le hf240
      have hR261 := hR224.le hf240
      have hR262 := hR227.le hf240
      have hW263 := hW228.le hf240
      have hW264 := hW234.le hf240
      replace hle := hle.trans hf240
      replace hbase18 := hbase18.trans hf240
      replace hbd19 := hbd19.trans hf240
      obtain ⟨x265, hx266, hm⟩ := ob hm
      refine RL_callVg hs rfl has15 rfl (law10_name_ok n (f := f239) (a2 := v233) ⟨rw235, hR241, hW264⟩ hx266) ?_; clear hs
      rintro _ f267 _ a w hf268 ⟨r269, rfl, rfl, hq270⟩ hs
      have hT271 := hf268 _ _ hT242
      have hT272 := hf268 _ _ hT243
      have hR273 := hR244.le hf268
      have hW274 := hW245.le hf268
      have hR275 := hR246.le hf268
      have hW276 := hW247.le hf268
      have hR277 := hR248.le hf268
      have hW278 := hW249.le hf268
      have hR279 := hR250.le hf268
      have hW280 := hW251.le hf268
      have hW281 := hW252.le hf268
      have hR282 := hR253.le hf268
      have hR283 := hR254.le hf268
      have hW284 := hW255.le hf268
      have hW285 := hW256.le hf268
      have hR286 := hR257.le hf268
      have hR287 := hR258.le hf268
      have hW288 := hW259.le hf268
      have hW289 := hW260.le hf268
      have hR290 := hR261.le hf268
      have hR291 := hR262.le hf268
      have hW292 := hW263.le hf268
      have hW293 := hW264.le hf268
      have hR294 := hR241.le hf268
      replace hle := hle.trans hf268
      replace hbase18 := hbase18.trans hf268
      replace hbd19 := hbd19.trans hf268
      obtain ⟨v295, rfl, ⟨rw296, hR297, hW298⟩⟩ := hq270
      refine uon hs ?_; clear hs; intro a he
      refine T_any1 he rfl ?_; clear he; intro a w hs
      refine RL_guard hs rfl rfl ?_
      refine RL_bs1a hs rfl Tryd.underlying25 ti35 (by decide) (AllC.row ⟨rfl, rfl, hR297.one, trivial⟩ rfl) ?_; clear hs; intro v300 a w hs
      have hW301 : RW t_sheet_Step f267 [[.int .i64 (x265.Comb), .string (x265.Name), v295]] [x265] := RW.single (⟨_, rfl, ⟨rw296, hR297, hW298⟩⟩)
      generalize hgrw302 : ([[.int .i64 (x265.Comb), .string (x265.Name), v295]] : List (List Value)) = rw302 at hs hW301; clear hgrw302
      have ho305 : v300.oneCell' = true := hs.one (i := 0) rfl
      refine uon hs ?_; clear hs; intro a he
      refine T_any1 he rfl ?_; clear he; intro a w hs
      obtain ⟨f306, hf307, hs2, hR308⟩ := hs.frzAt 0 rfl
      clear hs; have hs := hs2; clear hs2
      have hT309 := hf307 _ _ hT271
      have hT310 := hf307 _ _ hT272
      have hR311 := hR273.le hf307
      have hW312 := hW274.le hf307
      have hR313 := hR275.le hf307
      have hW314 := hW276.le hf307
      have hR315 := hR277.le hf307
      have hW316 := hW278.le hf307
      have hR317 := hR279.le hf307
      have hW318 := hW280.le hf307
      have hW319 := hW281.le hf307
      have hR320 := hR282.le hf307
      have hR321 := hR283.le hf307
      have hW322 := hW284.le hf307
      have hW323 := hW285.le hf307
      have hR324 := hR286.le hf307
      have hR325 := hR287.le hf307
      have hW326 := hW288.le hf307
      have hW327 := hW289.le hf307
      have hR328 := hR290.le hf307
      have hR329 := hR291.le hf307
      have hW330 := hW292.le hf307
      have hW331 := hW293.le hf307
      have hR332 := hR294.le hf307
      have hR333 := hR297.le hf307
      have hW334 := hW298.le hf307
      have hW335 := hW301.le hf307
      replace hle := hle.trans hf307
      replace hbase18 := hbase18.trans hf307
      replace hbd19 := hbd19.trans hf307
      obtain ⟨x336, hx337, hm⟩ := ob hm
      refine RL_callVg hs rfl has14 rfl (law10_sel_ok n (f := f306) (a0 := v300) ⟨rw302, hR308, hW335⟩ hx337) ?_; clear hs
      rintro _ f338 _ a w hf339 ⟨r340, rfl, rfl, hq341⟩ hs
      have hT342 := hf339 _ _ hT309
      have hT343 := hf339 _ _ hT310
      have hR344 := hR311.le hf339
      have hW345 := hW312.le hf339
      have hR346 := hR313.le hf339
      have hW347 := hW314.le hf339
      have hR348 := hR315.le hf339
      have hW349 := hW316.le hf339
      have hR350 := hR317.le hf339
      have hW351 := hW318.le hf339
      have hW352 := hW319.le hf339
      have hR353 := hR320.le hf339
      have hR354 := hR321.le hf339
      have hW355 := hW322.le hf339
      have hW356 := hW323.le hf339
      have hR357 := hR324.le hf339
      have hR358 := hR325.le hf339
      have hW359 := hW326.le hf339
      have hW360 := hW327.le hf339
      have hR361 := hR328.le hf339
      have hR362 := hR329.le hf339
      have hW363 := hW330.le hf339
      have hW364 := hW331.le hf339
      have hR365 := hR332.le hf339
      have hR366 := hR333.le hf339
      have hW367 := hW334.le hf339
      have hW368 := hW335.le hf339
      have hR369 := hR308.le hf339
      replace hle := hle.trans hf339
      replace hbase18 := hbase18.trans hf339
      replace hbd19 := hbd19.trans hf339
      obtain ⟨v370, rfl, ⟨rw371, hR372, hW373⟩⟩ := hq341
      refine uon hs ?_; clear hs; intro a he
      refine T_any1 he rfl ?_; clear he; intro a w hs
      obtain ⟨x375, hx376, hm⟩ := ob hm
      refine syg hs (y_call rfl has12 rfl (match_Match_ok n (f := f338) (a0 := [v7]) (a2 := [v370]) hT342 hT343 hTT ⟨_, rfl, ⟨rw8, hR344, hW345⟩⟩ ⟨_, rfl, ⟨rw371, hR372, hW373⟩⟩ hx376)) ?_; clear hs; intro a w hs
      refine uon hs ?_; clear hs; intro a he
      refine uyg (v := .bool ((!x375))) 24 he rfl (y_not rfl) ?_; clear he; intro a he
      refine uy (v := .bool ((!x375))) 25 he rfl (y_pick rfl rfl) ?_; clear he; intro a he
      refine uy (v := .bool ((!x375))) 26 he rfl (y_assign rfl) ?_; clear he; intro a he
      refine T_nil he ?_; clear he; intro w hs; try clear hsD
      exact ⟨_, (!x375), hbase18, hm, hs.subs ⟨rfl, trivial⟩ (.cons _ (.refl _))⟩
     ·refine RL_guard hs rfl rfl ?_
      refine RL_bs1a hs rfl Tryd.underlying33 ti29 (by decide) (AllC.row ⟨rfl, rfl, rfl, rfl, trivial⟩ rfl) ?_; clear hs; intro v377 a w hs
      have hW378 : RW t_sheet_Test f201 [[.int .i64 (6), .string ((bs [])), .string ((bs [])), .int .i64 (0)]] [({Kind := 6, Name := (bs []), Value := (bs []), N := 0} : sheet_Test)] := RW.single (rfl)
      generalize hgrw379 : ([[.int .i64 (6), .string ((bs [])), .string ((bs [])), .int .i64 (0)]] : List (List Value)) = rw379 at hs hW378; clear hgrw379
      have ho382 : v377.oneCell' = true := hs.one (i := 0) rfl
      refine uon hs ?_; clear hs; intro a he
      refine T_any2 he rfl rfl ?_ ?_ <;> (clear he; intro a w hs)
      ·refine syg hs (y_ldB rfl Tryd.underlying24 rfl ti24 (.tail _ (.head _)) rfl) ?_; clear hs; intro a w hs
       refine uon hs ?_; clear hs; intro a he
       refine T_any1 he rfl ?_; clear he; intro a w hs
       obtain ⟨f383, hf384, hs2, hR385⟩ := hs.frzAt 0 rfl
       clear hs; have hs := hs2; clear hs2
       have hT386 := hf384 _ _ hT205
       have hT387 := hf384 _ _ hT206
       have hR388 := hR207.le hf384
       have hW389 := hW208.le hf384
       have hR390 := hR209.le hf384
       have hW391 := hW210.le hf384
       have hR392 := hR211.le hf384
       have hW393 := hW212.le hf384
       have hR394 := hR213.le hf384
       have hW395 := hW214.le hf384
       have hW396 := hW215.le hf384
       have hR397 := hR216.le hf384
       have hR398 := hR217.le hf384
       have hW399 := hW218.le hf384
       have hW400 := hW219.le hf384
       have hR401 := hR220.le hf384
       have hR402 := hR221.le hf384
       have hW403 := hW222.le hf384
       have hW404 := hW223.le hf384
       have hR405 := hR224.le hf384
       have hR406 := hR227.le hf384
       have hW407 := hW228.le hf384
       have hW408 := hW378.le hf384
       replace hle := hle.trans hf384
       replace hbase18 := hbase18.trans hf384
       replace hbd19 := hbd19.trans hf384
       obtain ⟨x409, hx410, hm⟩ := ob hm
       refine RL_callVg hs rfl has15 rfl (law10_name_ok n (f := f383) (a2 := v377) ⟨rw379, hR385, hW408⟩ hx410) ?_; clear hs
       rintro _ f411 _ a w hf412 ⟨r413, rfl, rfl, hq414⟩ hs
       have hT415 := hf412 _ _ hT386
       have hT416 := hf412 _ _ hT387
       have hR417 := hR388.le hf412
       have hW418 := hW389.le hf412
       have hR419 := hR390.le hf412
       have hW420 := hW391.le hf412
       have hR421 := hR392.le hf412
       have hW422 := hW393.le hf412
       have hR423 := hR394.le hf412
       have hW424 := hW395.le hf412
       have hW425 := hW396.le hf412
       have hR426 := hR397.le hf412
       have hR427 := hR398.le hf412
       have hW428 := hW399.le hf412
       have hW429 := hW400.le hf412
       have hR430 := hR401.le hf412
       have hR431 := hR402.le hf412
       have hW432 := hW403.le hf412
       have hW433 := hW404.le hf412
       have hR434 := hR405.le hf412
       have hR435 := hR406.le hf412
       have hW436 := hW407.le hf412
       have hW437 := hW408.le hf412
       have hR438 := hR385.le hf412
       replace hle := hle.trans hf412
       replace hbase18 := hbase18.trans hf412
       replace hbd19 := hbd19.trans hf412
       obtain ⟨v439, rfl, ⟨rw440, hR441, hW442⟩⟩ := hq414
       refine uon hs ?_; clear hs; intro a he
       refine T_any1 he rfl ?_; clear he; intro a w hs
       refine RL_guard hs rfl rfl ?_
       refine RL_bs1a hs rfl Tryd.underlying25 ti35 (by decide) (AllC.row ⟨rfl, rfl, hR441.one, trivial⟩ rfl) ?_; clear hs; intro v444 a w hs
       have hW445 : RW t_sheet_Step f411 [[.int .i64 (x409.Comb), .string (x409.Name), v439]] [x409] := RW.single (⟨_, rfl, ⟨rw440, hR441, hW442⟩⟩)
       generalize hgrw446 : ([[.int .i64 (x409.Comb), .string (x409.Name), v439]] : List (List Value)) = rw446 at hs hW445; clear hgrw446
       have ho449 : v444.oneCell' = true := hs.one (i := 0) rfl
       refine uon hs ?_; clear hs; intro a he
       refine T_any1 he rfl ?_; clear he; intro a w hs
       obtain ⟨f450, hf451, hs2, hR452⟩ := hs.frzAt 0 rfl
       clear hs; have hs := hs2; clear hs2
       have hT453 := hf451 _ _ hT415
       have hT454 := hf451 _ _ hT416
       have hR455 := hR417.le hf451
       have hW456 := hW418.le hf451
       have hR457 := hR419.le hf451
       have hW458 := hW420.le hf451
       have hR459 := hR421.le hf451
       have hW460 := hW422.le hf451
       have hR461 := hR423.le hf451
       have hW462 := hW424.le hf451
       have hW463 := hW425.le hf451
       have hR464 := hR426.le hf451
       have hR465 := hR427.le hf451
       have hW466 := hW428.le hf451
       have hW467 := hW429.le hf451
       have hR468 := hR430.le hf451
       have hR469 := hR431.le hf451
       have hW470 := hW432.le hf451
       have hW471 := hW433.le hf451
       have hR472 := hR434.le hf451
       have hR473 := hR435.le hf451
       have hW474 := hW436.le hf451
       have hW475 := hW437.le hf451
       have hR476 := hR438.le hf451
       have hR477 := hR441.le hf451
       have hW478 := hW442.le hf451
       have hW479 := hW445.le hf451
       replace hle := hle.trans hf451
       replace hbase18 := hbase18.trans hf451
       replace hbd19 := hbd19.trans hf451
       obtain ⟨x480, hx481, hm⟩ := ob hm
       refine RL_callVg hs rfl has14 rfl (law10_sel_ok n (f := f450) (a0 := v444) ⟨rw446, hR452, hW479⟩ hx481) ?_; clear hs
       rintro _ f482 _ a w hf483 ⟨r484, rfl, rfl, hq485⟩ hs
       have hT486 := hf483 _ _ hT453
       have hT487 := hf483 _ _ hT454
       have hR488 := hR455.le hf483
       have hW489 := hW456.le hf483
       have hR490 := hR457.le hf483
       have hW491 := hW458.le hf483
       have hR492 := hR459.le hf483
       have hW493 := hW460.le hf483
       have hR494 := hR461.le hf483
       have hW495 := hW462.le hf483
       have hW496 := hW463.le hf483
       have hR497 := hR464.le hf483
       have hR498 := hR465.le hf483
       have hW499 := hW466.le hf483
       have hW500 := hW467.le hf483
       have hR501 := hR468.le hf483
       have hR502 := hR469.le hf483
       have hW503 := hW470.le hf483
       have hW504 := hW471.le hf483
       have hR505 := hR472.le hf483
       have hR506 := hR473.le hf483
       have hW507 := hW474.le hf483
       have hW508 := hW475.le hf483
       have hR509 := hR476.le hf483
       have hR510 := hR477.le hf483
       have hW511 := hW478.le hf483
       have hW512 := hW479.le hf483
       have hR513 := hR452.le hf483
       replace hle := hle.trans hf483
       replace hbase18 := hbase18.trans hf483
       replace hbd19 := hbd19.trans hf483
       obtain ⟨v514, rfl, ⟨rw515, hR516, hW517⟩⟩ := hq485
       refine uon hs ?_; clear hs; intro a he
       refine T_any1 he rfl ?_; clear he; intro a w hs
       obtain ⟨x519, hx520, hm⟩ := ob hm
       refine syg hs (y_call rfl has12 rfl (match_Match_ok n (f := f482) (a0 := [v7]) (a2 := [v514]) hT486 hT487 hTT ⟨_, rfl, ⟨rw8, hR488, hW489⟩⟩ ⟨_, rfl, ⟨rw515, hR516, hW517⟩⟩ hx520)) ?_; clear hs; intro a w hs
       refine uon hs ?_; clear hs; intro a he
       refine uyg (v := .bool ((!x519))) 24 he rfl (y_not rfl) ?_; clear he; intro a he
       refine uy (v := .bool ((!x519))) 25 he rfl (y_pick rfl rfl) ?_; clear he; intro a he
       refine uy (v := .bool ((!x519))) 26 he rfl (y_assign rfl) ?_; clear he; intro a he
       refine T_nil he ?_; clear he; intro w hs; try clear hsD
       exact ⟨_, (!x519), hbase18, hm, hs.subs ⟨rfl, trivial⟩ (.cons _ (.refl _))⟩
      ·obtain ⟨f521, hf522, hs2, hR523⟩ := hs.frzAt 0 rfl
       clear hs; have hs := hs2; clear hs2
       have hT524 := hf522 _ _ hT205
       have hT525 := hf522 _ _ hT206
       have hR526 := hR207.le hf522
       have hW527 := hW208.le hf522
       have hR528 := hR209.le hf522
       have hW529 := hW210.le hf522
       have hR530 := hR211.le hf522
       have hW531 := hW212.le hf522
       have hR532 := hR213.le hf522
       have hW533 := hW214.le hf522
       have hW534 := hW215.le hf522
       have hR535 := hR216.le hf522
       have hR536 := hR217.le hf522
       have hW537 := hW218.le hf522
       have hW538 := hW219.le hf522
       have hR539 := hR220.le hf522
       have hR540 := hR221.le hf522
       have hW541 := hW222.le hf522
       have hW542 := hW223.le hf522
       have hR543 := hR224.le hf522
       have hR544 := hR227.le hf522
       have hW545 := hW228.le hf522
       have hW546 := hW378.le hf522
       replace hle := hle.trans hf522
       replace hbase18 := hbase18.trans hf522
       replace hbd19 := hbd19.trans hf522
       obtain ⟨x547, hx548, hm⟩ := ob hm
       refine RL_callVg hs rfl has15 rfl (law10_name_ok n (f := f521) (a2 := v377) ⟨rw379, hR523, hW546⟩ hx548) ?_; clear hs
       rintro _ f549 _ a w hf550 ⟨r551, rfl, rfl, hq552⟩ hs
       have hT553 := hf550 _ _ hT524
       have hT554 := hf550 _ _ hT525
       have hR555 := hR526.le hf550
       have hW556 := hW527.le hf550
       have hR557 := hR528.le hf550
       have hW558 := hW529.le hf550
       have hR559 := hR530.le hf550
       have hW560 := hW531.le hf550
       have hR561 := hR532.le hf550
       have hW562 := hW533.le hf550
       have hW563 := hW534.le hf550
       have hR564 := hR535.le hf550
       have hR565 := hR536.le hf550
       have hW566 := hW537.le hf550
       have hW567 := hW538.le hf550
       have hR568 := hR539.le hf550
       have hR569 := hR540.le hf550
       have hW570 := hW541.le hf550
       have hW571 := hW542.le hf550
       have hR572 := hR543.le hf550
       have hR573 := hR544.le hf550
       have hW574 := hW545.le hf550
       have hW575 := hW546.le hf550
       have hR576 := hR523.le hf550
       replace hle := hle.trans hf550
       replace hbase18 := hbase18.trans hf550
       replace hbd19 := hbd19.trans hf550
       obtain ⟨v577, rfl, ⟨rw578, hR579, hW580⟩⟩ := hq552
       refine uon hs ?_; clear hs; intro a he
       refine T_any2 he rfl rfl ?_ ?_ <;> (clear he; intro a w hs)
       ·refine syg hs (y_ldB rfl Tryd.underlying24 rfl ti24 (.head _) rfl) ?_; clear hs; intro a w hs
        refine uon hs ?_; clear hs; intro a he
        refine T_any1 he rfl ?_; clear he; intro a w hs
        refine RL_guard hs rfl rfl ?_
        refine RL_bs1a hs rfl Tryd.underlying25 ti35 (by decide) (AllC.row ⟨rfl, rfl, hR579.one, trivial⟩ rfl) ?_; clear hs; intro v582 a w hs
        have hW583 : RW t_sheet_Step f549 [[.int .i64 (x547.Comb), .string (x547.Name), v577]] [x547] := RW.single (⟨_, rfl, ⟨rw578, hR579, hW580⟩⟩)
        generalize hgrw584 : ([[.int .i64 (x547.Comb), .string (x547.Name), v577]] : List (List Value)) = rw584 at hs hW583; clear hgrw584
        have ho587 : v582.oneCell' = true := hs.one (i := 0) rfl
        refine uon hs ?_; clear hs; intro a he
        refine T_any1 he rfl ?_; clear he; intro a w hs
        obtain ⟨f588, hf589, hs2, hR590⟩ := hs.frzAt 0 rfl
        clear hs; have hs := hs2; clear hs2
        have hT591 := hf589 _ _ hT553
        have hT592 := hf589 _ _ hT554
        have hR593 := hR555.le hf589
        have hW594 := hW556.le hf589
        have hR595 := hR557.le hf589
        have hW596 := hW558.le hf589
        have hR597 := hR559.le hf589
        have hW598 := hW560.le hf589
        have hR599 := hR561.le hf589
        have hW600 := hW562.le hf589
        have hW601 := hW563.le hf589
        have hR602 := hR564.le hf589
        have hR603 := hR565.le hf589
        have hW604 := hW566.le hf589
        have hW605 := hW567.le hf589
        have hR606 := hR568.le hf589
        have hR607 := hR569.le hf589
        have hW608 := hW570.le hf589
        have hW609 := hW571.le hf589
        have hR610 := hR572.le hf589
        have hR611 := hR573.le hf589
        have hW612 := hW574.le hf589
        have hW613 := hW575.le hf589
        have hR614 := hR576.le hf589
        have hR615 := hR579.le hf589
        have hW616 := hW580.le hf589
        have hW617 := hW583.le hf589
        replace hle := hle.trans hf589
        replace hbase18 := hbase18.trans hf589
        replace hbd19 := hbd19.trans hf589
        obtain ⟨x618, hx619, hm⟩ := ob hm
        refine RL_callVg hs rfl has14 rfl (law10_sel_ok n (f := f588) (a0 := v582) ⟨rw584, hR590, hW617⟩ hx619) ?_; clear hs
        rintro _ f620 _ a w hf621 ⟨r622, rfl, rfl, hq623⟩ hs
        have hT624 := hf621 _ _ hT591
        have hT625 := hf621 _ _ hT592
        have hR626 := hR593.le hf621
        have hW627 := hW594.le hf621
        have hR628 := hR595.le hf621
        have hW629 := hW596.le hf621
        have hR630 := hR597.le hf621
        have hW631 := hW598.le hf621
        have hR632 := hR599.le hf621
        have hW633 := hW600.le hf621
        have hW634 := hW601.le hf621
        have hR635 := hR602.le hf621
        have hR636 := hR603.le hf621
        have hW637 := hW604.le hf621
        have hW638 := hW605.le hf621
        have hR639 := hR606.le hf621
        have hR640 := hR607.le hf621
        have hW641 := hW608.le hf621
        have hW642 := hW609.le hf621
        have hR643 := hR610.le hf621
        have hR644 := hR611.le hf621
        have hW645 := hW612.le hf621
        have hW646 := hW613.le hf621
        have hR647 := hR614.le hf621
        have hR648 := hR615.le hf621
        have hW649 := hW616.le hf621
        have hW650 := hW617.le hf621
        have hR651 := hR590.le hf621
        replace hle := hle.trans hf621
        replace hbase18 := hbase18.trans hf621
        replace hbd19 := hbd19.trans hf621
        obtain ⟨v652, rfl, ⟨rw653, hR654, hW655⟩⟩ := hq623
        refine uon hs ?_; clear hs; intro a he
        refine T_any1 he rfl ?_; clear he; intro a w hs
        obtain ⟨x657, hx658, hm⟩ := ob hm
        refine syg hs (y_call rfl has12 rfl (match_Match_ok n (f := f620) (a0 := [v7]) (a2 := [v652]) hT624 hT625 hTT ⟨_, rfl, ⟨rw8, hR626, hW627⟩⟩ ⟨_, rfl, ⟨rw653, hR654, hW655⟩⟩ hx658)) ?_; clear hs; intro a w hs
        refine uon hs ?_; clear hs; intro a he
        refine uyg (v := .bool ((!x657))) 24 he rfl (y_not rfl) ?_; clear he; intro a he
        refine uy (v := .bool ((!x657))) 25 he rfl (y_pick rfl rfl) ?_; clear he; intro a he
        refine uy (v := .bool ((!x657))) 26 he rfl (y_assign rfl) ?_; clear he; intro a he
        refine T_nil he ?_; clear he; intro w hs; try clear hsD
        exact ⟨_, (!x657), hbase18, hm, hs.subs ⟨rfl, trivial⟩ (.cons _ (.refl _))⟩
       ·refine RL_guard hs rfl rfl ?_
        refine RL_bs1a hs rfl Tryd.underlying25 ti35 (by decide) (AllC.row ⟨rfl, rfl, hR579.one, trivial⟩ rfl) ?_; clear hs; intro v659 a w hs
        have hW660 : RW t_sheet_Step f549 [[.int .i64 (x547.Comb), .string (x547.Name), v577]] [x547] := RW.single (⟨_, rfl, ⟨rw578, hR579, hW580⟩⟩)
        generalize hgrw661 : ([[.int .i64 (x547.Comb), .string (x547.Name), v577]] : List (List Value)) = rw661 at hs hW660; clear hgrw661
        have ho664 : v659.oneCell' = true := hs.one (i := 0) rfl
        refine uon hs ?_; clear hs; intro a he
        refine T_any2 he rfl rfl ?_ ?_ <;> (clear he; intro a w hs)
        ·refine syg hs (y_ldB rfl Tryd.underlying24 rfl ti24 (.tail _ (.head _)) rfl) ?_; clear hs; intro a w hs
         refine uon hs ?_; clear hs; intro a he
         refine T_any1 he rfl ?_; clear he; intro a w hs
         obtain ⟨f665, hf666, hs2, hR667⟩ := hs.frzAt 0 rfl
         clear hs; have hs := hs2; clear hs2
         have hT668 := hf666 _ _ hT553
         have hT669 := hf666 _ _ hT554
         have hR670 := hR555.le hf666
         have hW671 := hW556.le hf666
         have hR672 := hR557.le hf666
         have hW673 := hW558.le hf666
         have hR674 := hR559.le hf666
         have hW675 := hW560.le hf666
         have hR676 := hR561.le hf666
         have hW677 := hW562.le hf666
         have hW678 := hW563.le hf666
         have hR679 := hR564.le hf666
         have hR680 := hR565.le hf666
         have hW681 := hW566.le hf666
         have hW682 := hW567.le hf666
         have hR683 := hR568.le hf666
         have hR684 := hR569.le hf666
         have hW685 := hW570.le hf666
         have hW686 := hW571.le hf666
         have hR687 := hR572.le hf666
         have hR688 := hR573.le hf666
         have hW689 := hW574.le hf666
         have hW690 := hW575.le hf666
         have hR691 := hR576.le hf666
         have hR692 := hR579.le hf666
         have hW693 := hW580.le hf666
         have hW694 := hW660.le hf666
         replace hle := hle.trans hf666
         replace hbase18 := hbase18.trans hf666
         replace hbd19 := hbd19.trans hf666
         obtain ⟨x695, hx696, hm⟩ := ob hm
         refine RL_callVg hs rfl has14 rfl (law10_sel_ok n (f := f665) (a0 := v659) ⟨rw661, hR667, hW694⟩ hx696) ?_; clear hs
         rintro _ f697 _ a w hf698 ⟨r699, rfl, rfl, hq700⟩ hs
         have hT701 := hf698 _ _ hT668
         have hT702 := hf698 _ _ hT669
         have hR703 := hR670.le hf698
         have hW704 := hW671.le hf698
         have hR705 := hR672.le hf698
         have hW706 := hW673.le hf698
         have hR707 := hR674.le hf698
         have hW708 := hW675.le hf698
         have hR709 := hR676.le hf698
         have hW710 := hW677.le hf698
         have hW711 := hW678.le hf698
         have hR712 := hR679.le hf698
         have hR713 := hR680.le hf698
         have hW714 := hW681.le hf698
         have hW715 := hW682.le hf698
         have hR716 := hR683.le hf698
         have hR717 := hR684.le hf698
         have hW718 := hW685.le hf698
         have hW719 := hW686.le hf698
         have hR720 := hR687.le hf698
         have hR721 := hR688.le hf698
         have hW722 := hW689.le hf698
         have hW723 := hW690.le hf698
         have hR724 := hR691.le hf698
         have hR725 := hR692.le hf698
         have hW726 := hW693.le hf698
         have hW727 := hW694.le hf698
         have hR728 := hR667.le hf698
         replace hle := hle.trans hf698
         replace hbase18 := hbase18.trans hf698
         replace hbd19 := hbd19.trans hf698
         obtain ⟨v729, rfl, ⟨rw730, hR731, hW732⟩⟩ := hq700
         refine uon hs ?_; clear hs; intro a he
         refine T_any1 he rfl ?_; clear he; intro a w hs
         obtain ⟨x734, hx735, hm⟩ := ob hm
         refine syg hs (y_call rfl has12 rfl (match_Match_ok n (f := f697) (a0 := [v7]) (a2 := [v729]) hT701 hT702 hTT ⟨_, rfl, ⟨rw8, hR703, hW704⟩⟩ ⟨_, rfl, ⟨rw730, hR731, hW732⟩⟩ hx735)) ?_; clear hs; intro a w hs
         refine uon hs ?_; clear hs; intro a he
         refine uyg (v := .bool ((!x734))) 24 he rfl (y_not rfl) ?_; clear he; intro a he
         refine uy (v := .bool ((!x734))) 25 he rfl (y_pick rfl rfl) ?_; clear he; intro a he
         refine uy (v := .bool ((!x734))) 26 he rfl (y_assign rfl) ?_; clear he; intro a he
         refine T_nil he ?_; clear he; intro w hs; try clear hsD
         exact ⟨_, (!x734), hbase18, hm, hs.subs ⟨rfl, trivial⟩ (.cons _ (.refl _))⟩
        ·obtain ⟨f736, hf737, hs2, hR738⟩ := hs.frzAt 0 rfl
         clear hs; have hs := hs2; clear hs2
         have hT739 := hf737 _ _ hT553
         have hT740 := hf737 _ _ hT554
         have hR741 := hR555.le hf737
         have hW742 := hW556.le hf737
         have hR743 := hR557.le hf737
         have hW744 := hW558.le hf737
         have hR745 := hR559.le hf737
         have hW746 := hW560.le hf737
         have hR747 := hR561.le hf737
         have hW748 := hW562.le hf737
         have hW749 := hW563.le hf737
         have hR750 := hR564.le hf737
         have hR751 := hR565.le hf737
         have hW752 := hW566.le hf737
         have hW753 := hW567.le hf737
         have hR754 := hR568.le hf737
         have hR755 := hR569.le hf737
         have hW756 := hW570.le hf737
         have hW757 := hW571.le hf737
         have hR758 := hR572.le hf737
         have hR759 := hR573.le hf737
         have hW760 := hW574.le hf737
         have hW761 := hW575.le hf737
         have hR762 := hR576.le hf737
         have hR763 := hR579.le hf737
         have hW764 := hW580.le hf737
         have hW765 := hW660.le hf737
         replace hle := hle.trans hf737
         replace hbase18 := hbase18.trans hf737
         replace hbd19 := hbd19.trans hf737
         obtain ⟨x766, hx767, hm⟩ := ob hm
         refine RL_callVg hs rfl has14 rfl (law10_sel_ok n (f := f736) (a0 := v659) ⟨rw661, hR738, hW765⟩ hx767) ?_; clear hs
         rintro _ f768 _ a w hf769 ⟨r770, rfl, rfl, hq771⟩ hs
         have hT772 := hf769 _ _ hT739
         have hT773 := hf769 _ _ hT740
         have hR774 := hR741.le hf769
         have hW775 := hW742.le hf769
         have hR776 := hR743.le hf769
         have hW777 := hW744.le hf769
         have hR778 := hR745.le hf769
         have hW779 := hW746.le hf769
         have hR780 := hR747.le hf769
         have hW781 := hW748.le hf769
         have hW782 := hW749.le hf769
         have hR783 := hR750.le hf769
         have hR784 := hR751.le hf769
         have hW785 := hW752.le hf769
         have hW786 := hW753.le hf769
         have hR787 := hR754.le hf769
         have hR788 := hR755.le hf769
         have hW789 := hW756.le hf769
         have hW790 := hW757.le hf769
         have hR791 := hR758.le hf769
         have hR792 := hR759.le hf769
         have hW793 := hW760.le hf769
         have hW794 := hW761.le hf769
         have hR795 := hR762.le hf769
         have hR796 := hR763.le hf769
         have hW797 := hW764.le hf769
         have hW798 := hW765.le hf769
         have hR799 := hR738.le hf769
         replace hle := hle.trans hf769
         replace hbase18 := hbase18.trans hf769
         replace hbd19 := hbd19.trans hf769
         obtain ⟨v800, rfl, ⟨rw801, hR802, hW803⟩⟩ := hq771
         refine uon hs ?_; clear hs; intro a he
         refine T_any1 he rfl ?_; clear he; intro a w hs
         refine syg hs (y_ldB rfl Tryd.underlying24 rfl ti24 (.head _) rfl) ?_; clear hs; intro a w hs
         refine uon hs ?_; clear hs; intro a he
         refine T_any1 he rfl ?_; clear he; intro a w hs
         obtain ⟨x805, hx806, hm⟩ := ob hm
         refine syg hs (y_call rfl has12 rfl (match_Match_ok n (f := f768) (a0 := [v7]) (a2 := [v800]) hT772 hT773 hTT ⟨_, rfl, ⟨rw8, hR774, hW775⟩⟩ ⟨_, rfl, ⟨rw801, hR802, hW803⟩⟩ hx806)) ?_; clear hs; intro a w hs
         refine uon hs ?_; clear hs; intro a he
         refine uyg (v := .bool ((!x805))) 24 he rfl (y_not rfl) ?_; clear he; intro a he
         refine uy (v := .bool ((!x805))) 25 he rfl (y_pick rfl rfl) ?_; clear he; intro a he
         refine uy (v := .bool ((!x805))) 26 he rfl (y_assign rfl) ?_; clear he; intro a he
         refine T_nil he ?_; clear he; intro w hs; try clear hsD
         exact ⟨_, (!x805), hbase18, hm, hs.subs ⟨rfl, trivial⟩ (.cons _ (.refl _))⟩
    ·clear he; have he := hq; clear hq
     replace hm := oc_f hg232 hm
     refine uno 18 he rfl ?_; clear he; intro a he
     refine T_any2 he rfl rfl ?_ ?_ <;> (clear he; intro a w hs)
     ·refine sno hs ?_; clear hs; intro a w hs
      refine uon hs ?_; clear hs; intro a he
      refine T_any1 he rfl ?_; clear he; intro a w hs
      refine sno hs ?_; clear hs; intro a w hs
      refine uon hs ?_; clear hs; intro a he
      refine T_any1 he rfl ?_; clear he; intro a w hs
      refine sno hs ?_; clear hs; intro a w hs
      refine uon hs ?_; clear hs; intro a he
      refine T_any1 he rfl ?_; clear he; intro a w hs
      refine sno hs ?_; clear hs; intro a w hs
      refine uon hs ?_; clear hs; intro a he
      refine T_any1 he rfl ?_; clear he; intro a w hs
      refine sno hs ?_; clear hs; intro a w hs
      refine uon hs ?_; clear hs; intro a he
      refine T_any1 he rfl ?_; clear he; intro a w hs
      refine sno hs ?_; clear hs; intro a w hs
      refine uon hs ?_; clear hs; intro a he
      refine uno 24 he rfl ?_; clear he; intro a he
      refine uy (v := .bool (false)) 25 he rfl (y_pick rfl rfl) ?_; clear he; intro a he
      refine uy (v := .bool (false)) 26 he rfl (y_assign rfl) ?_; clear he; intro a he
      refine T_nil he ?_; clear he; intro w hs; try clear hsD
      exact ⟨_, false, hbase18, hm, hs.subs ⟨rfl, trivial⟩ (.cons _ (.refl _))⟩
     ·refine sno hs ?_; clear hs; intro a w hs
      refine uon hs ?_; clear hs; intro a he
      refine T_any2 he rfl rfl ?_ ?_ <;> (clear he; intro a w hs)
      ·refine sno hs ?_; clear hs; intro a w hs
       refine uon hs ?_; clear hs; intro a he
       refine T_any1 he rfl ?_; clear he; intro a w hs
       refine sno hs ?_; clear hs; intro a w hs
       refine uon hs ?_; clear hs; intro a he
       refine T_any1 he rfl ?_; clear he; intro a w hs
       refine sno hs ?_; clear hs; intro a w hs
       refine uon hs ?_; clear hs; intro a he
       refine T_any1 he rfl ?_; clear he; intro a w hs
       refine sno hs ?_; clear hs; intro a w hs
       refine uon hs ?_; clear hs; intro a he
       refine T_any1 he rfl ?_; clear he; intro a w hs
       refine sno hs ?_; clear hs; intro a w hs
       refine uon hs ?_; clear hs; intro a he
       refine uno 24 he rfl ?_; clear he; intro a he
       refine uy (v := .bool (false)) 25 he rfl (y_pick rfl rfl) ?_; clear he; intro a he
       refine uy (v := .bool (false)) 26 he rfl (y_assign rfl) ?_; clear he; intro a he
       refine T_nil he ?_; clear he; intro w hs; try clear hsD
       exact ⟨_, false, hbase18, hm, hs.subs ⟨rfl, trivial⟩ (.cons _ (.refl _))⟩
      ·refine sno hs ?_; clear hs; intro a w hs
       refine uon hs ?_; clear hs; intro a he
       refine T_any2 he rfl rfl ?_ ?_ <;> (clear he; intro a w hs)
       ·refine sno hs ?_; clear hs; intro a w hs
        refine uon hs ?_; clear hs; intro a he
        refine T_any1 he rfl ?_; clear he; intro a w hs
        refine sno hs ?_; clear hs; intro a w hs
        refine uon hs ?_; clear hs; intro a he
        refine T_any1 he rfl ?_; clear he; intro a w hs
        refine sno hs ?_; clear hs; intro a w hs
        refine uon hs ?_; clear hs; intro a he
        refine T_any1 he rfl ?_; clear he; intro a w hs
        refine sno hs ?_; clear hs; intro a w hs
        refine uon hs ?_; clear hs; intro a he
        refine uno 24 he rfl ?_; clear he; intro a he
        refine uy (v := .bool (false)) 25 he rfl (y_pick rfl rfl) ?_; clear he; intro a he
        refine uy (v := .bool (false)) 26 he rfl (y_assign rfl) ?_; clear he; intro a he
        refine T_nil he ?_; clear he; intro w hs; try clear hsD
        exact ⟨_, false, hbase18, hm, hs.subs ⟨rfl, trivial⟩ (.cons _ (.refl _))⟩
       ·refine sno hs ?_; clear hs; intro a w hs
        refine uon hs ?_; clear hs; intro a he
        refine T_any2 he rfl rfl ?_ ?_ <;> (clear he; intro a w hs)
        ·refine sno hs ?_; clear hs; intro a w hs
         refine uon hs ?_; clear hs; intro a he
         refine T_any1 he rfl ?_; clear he; intro a w hs
         refine sno hs ?_; clear hs; intro a w hs
         refine uon hs ?_; clear hs; intro a he
         refine T_any1 he rfl ?_; clear he; intro a w hs
         refine sno hs ?_; clear hs; intro a w hs
         refine uon hs ?_; clear hs; intro a he
         refine uno 24 he rfl ?_; clear he; intro a he
         refine uy (v := .bool (false)) 25 he rfl (y_pick rfl rfl) ?_; clear he; intro a he
         refine uy (v := .bool (false)) 26 he rfl (y_assign rfl) ?_; clear he; intro a he
         refine T_nil he ?_; clear he; intro w hs; try clear hsD
         exact ⟨_, false, hbase18, hm, hs.subs ⟨rfl, trivial⟩ (.cons _ (.refl _))⟩
        ·refine sno hs ?_; clear hs; intro a w hs
         refine uon hs ?_; clear hs; intro a he
         refine T_any1 he rfl ?_; clear he; intro a w hs
         refine sno hs ?_; clear hs; intro a w hs
         refine uon hs ?_; clear hs; intro a he
         refine T_any1 he rfl ?_; clear he; intro a w hs
         refine sno hs ?_; clear hs; intro a w hs
         refine uon hs ?_; clear hs; intro a he
         refine uno 24 he rfl ?_; clear he; intro a he
         refine uy (v := .bool (false)) 25 he rfl (y_pick rfl rfl) ?_; clear he; intro a he
         refine uy (v := .bool (false)) 26 he rfl (y_assign rfl) ?_; clear he; intro a he
         refine T_nil he ?_; clear he; intro w hs; try clear hsD
         exact ⟨_, false, hbase18, hm, hs.subs ⟨rfl, trivial⟩ (.cons _ (.refl _))⟩
   ·refine RL_guard hs rfl rfl ?_
    refine RL_bs1a hs rfl Tryd.underlying33 ti29 (by decide) (AllC.row ⟨rfl, rfl, rfl, rfl, trivial⟩ rfl) ?_; clear hs; intro v807 a w hs
    have hW808 : RW t_sheet_Test f96 [[.int .i64 (2), .string ((bs [97])), .string ((bs [])), .int .i64 (0)]] [({Kind := 2, Name := (bs [97]), Value := (bs []), N := 0} : sheet_Test)] := RW.single (rfl)
    generalize hgrw809 : ([[.int .i64 (2), .string ((bs [97])), .string ((bs [])), .int .i64 (0)]] : List (List Value)) = rw809 at hs hW808; clear hgrw809
    have ho812 : v807.oneCell' = true := hs.one (i := 0) rfl
    refine uon hs ?_; clear hs; intro a he
    refine T_any2 he rfl rfl ?_ ?_ <;> (clear he; intro a w hs)
    ·refine syg hs (y_ldB rfl Tryd.underlying24 rfl ti24 (.tail _ (.head _)) rfl) ?_; clear hs; intro a w hs
     refine uon hs ?_; clear hs; intro a he
     refine T_any1 he rfl ?_; clear he; intro a w hs
     obtain ⟨f813, hf814, hs2, hR815⟩ := hs.frzAt 0 rfl
     clear hs; have hs := hs2; clear hs2
     have hT816 := hf814 _ _ hT100
     have hT817 := hf814 _ _ hT101
     have hR818 := hR102.le hf814
     have hW819 := hW103.le hf814
     have hR820 := hR104.le hf814
     have hW821 := hW105.le hf814
     have hR822 := hR106.le hf814
     have hW823 := hW107.le hf814
     have hR824 := hR108.le hf814
     have hW825 := hW109.le hf814
     have hW826 := hW110.le hf814
     have hR827 := hR111.le hf814
     have hR828 := hR114.le hf814
     have hW829 := hW115.le hf814
     have hW830 := hW808.le hf814
     replace hle := hle.trans hf814
     replace hbase18 := hbase18.trans hf814
     replace hbd19 := hbd19.trans hf814
     obtain ⟨x831, hx832, hm⟩ := ob hm
     refine RL_callVg hs rfl has15 rfl (law10_name_ok n (f := f813) (a2 := v807) ⟨rw809, hR815, hW830⟩ hx832) ?_; clear hs
     rintro _ f833 _ a w hf834 ⟨r835, rfl, rfl, hq836⟩ hs
     have hT837 := hf834 _ _ hT816
     have hT838 := hf834 _ _ hT817
     have hR839 := hR818.le hf834
     have hW840 := hW819.le hf834
     have hR841 := hR820.le hf834
     have hW842 := hW821.le hf834
     have hR843 := hR822.le hf834
     have hW844 := hW823.le hf834
     have hR845 := hR824.le hf834
     have hW846 := hW825.le hf834
     have hW847 := hW826.le hf834
     have hR848 := hR827.le hf834
     have hR849 := hR828.le hf834
     have hW850 := hW829.le hf834
     have hW851 := hW830.le hf834
     have hR852 := hR815.le hf834
     replace hle := hle.trans hf834
     replace hbase18 := hbase18.trans hf834
     replace hbd19 := hbd19.trans hf834
     obtain ⟨v853, rfl, ⟨rw854, hR855, hW856⟩⟩ := hq836
     refine uon hs ?_; clear hs; intro a he
     refine T_any1 he rfl ?_; clear he; intro a w hs
     refine RL_guard hs rfl rfl ?_
     refine RL_bs1a hs rfl Tryd.underlying25 ti35 (by decide) (AllC.row ⟨rfl, rfl, hR855.one, trivial⟩ rfl) ?_; clear hs; intro v858 a w hs
     have hW859 : RW t_sheet_Step f833 [[.int .i64 (x831.Comb), .string (x831.Name), v853]] [x831] := RW.single (⟨_, rfl, ⟨rw854, hR855, hW856⟩⟩)
     generalize hgrw860 : ([[.int .i64 (x831.Comb), .string (x831.Name), v853]] : List (List Value)) = rw860 at hs hW859; clear hgrw860
     have ho863 : v858.oneCell' = true := hs.one (i := 0) rfl
     refine uon hs ?_; clear hs; intro a he
     refine T_any1 he rfl ?_; clear he; intro a w hs
     obtain ⟨f864, hf865, hs2, hR866⟩ := hs.frzAt 0 rfl
     clear hs; have hs := hs2; clear hs2
     have hT867 := hf865 _ _ hT837
     have hT868 := hf865 _ _ hT838
     have hR869 := hR839.le hf865
     have hW870 := hW840.le hf865
     have hR871 := hR841.le hf865
     have hW872 := hW842.le hf865
     have hR873 := hR843.le hf865
     have hW874 := hW844.le hf865
     have hR875 := hR845.le hf865
     have hW876 := hW846.le hf865
     have hW877 := hW847.le hf865
     have hR878 := hR848.le hf865
     have hR879 := hR849.le hf865
     have hW880 := hW850.le hf865
     have hW881 := hW851.le hf865
     have hR882 := hR852.le hf865
     have hR883 := hR855.le hf865
     have hW884 := hW856.le hf865
     have hW885 := hW859.le hf865
     replace hle := hle.trans hf865
     replace hbase18 := hbase18.trans hf865
     replace hbd19 := hbd19.trans hf865
     obtain ⟨x886, hx887, hm⟩ := ob hm
     refine RL_callVg hs rfl has14 rfl (law10_sel_ok n (f := f864) (a0 := v858) ⟨rw860, hR866, hW885⟩ hx887) ?_; clear hs
     rintro _ f888 _ a w hf889 ⟨r890, rfl, rfl, hq891⟩ hs
     have hT892 := hf889 _ _ hT867
     have hT893 := hf889 _ _ hT868
     have hR894 := hR869.le hf889
     have hW895 := hW870.le hf889
     have hR896 := hR871.le hf889
     have hW897 := hW872.le hf889
     have hR898 := hR873.le hf889
     have hW899 := hW874.le hf889
     have hR900 := hR875.le hf889
     have hW901 := hW876.le hf889
     have hW902 := hW877.le hf889
     have hR903 := hR878.le hf889
     have hR904 := hR879.le hf889
     have hW905 := hW880.le hf889
     have hW906 := hW881.le hf889
     have hR907 := hR882.le hf889
     have hR908 := hR883.le hf889
     have hW909 := hW884.le hf889
     have hW910 := hW885.le hf889
     have hR911 := hR866.le hf889
     replace hle := hle.trans hf889
     replace hbase18 := hbase18.trans hf889
     replace hbd19 := hbd19.trans hf889
     obtain ⟨v912, rfl, ⟨rw913, hR914, hW915⟩⟩ := hq891
     refine uon hs ?_; clear hs; intro a he
     refine T_any1 he rfl ?_; clear he; intro a w hs
     obtain ⟨x917, hx918, hm⟩ := ob hm
     refine syg hs (y_call rfl has12 rfl (match_Match_ok n (f := f888) (a0 := [v7]) (a2 := [v912]) hT892 hT893 hTT ⟨_, rfl, ⟨rw8, hR894, hW895⟩⟩ ⟨_, rfl, ⟨rw913, hR914, hW915⟩⟩ hx918)) ?_; clear hs; intro a w hs
     refine uon hs ?_; clear hs; intro a he
     refine uy (v := .bool (x917)) 15 he rfl (y_pick rfl rfl) ?_; clear he; intro a he
     refine uy (v := .bool (x917)) 16 he rfl (y_move rfl) ?_; clear he; intro a he
     refine Ev.split he (t := 19) rfl (fun hg919 hq => ?_) (fun hg919 hq => ?_)
     ·clear he; have he := hq; clear hq
      replace hm := oc_t hg919 hm
      refine uyg 18 he rfl (y_buildS (places := [(0, 1), (1, 1), (2, 1), (3, 1)]) (cs := [.int .i64 (6), .string ((bs [])), .string ((bs [])), .int .i64 (0)]) rfl Tryd.underlying29 ti29 (by kernel_rfl) (by decide) rfl ⟨rfl, trivial⟩) ?_; clear he; intro a he
      refine T_any2 he rfl rfl ?_ ?_ <;> (clear he; intro a w hs)
      ·refine syg hs (y_ldB rfl Tryd.underlying24 rfl ti24 (.head _) rfl) ?_; clear hs; intro a w hs
       refine uon hs ?_; clear hs; intro a he
       refine T_any1 he rfl ?_; clear he; intro a w hs
       refine RL_guard hs rfl rfl ?_
       refine RL_bs1a hs rfl Tryd.underlying33 ti29 (by decide) (AllC.row ⟨rfl, rfl, rfl, rfl, trivial⟩ rfl) ?_; clear hs; intro v920 a w hs
       have hW921 : RW t_sheet_Test f888 [[.int .i64 (6), .string ((bs [])), .string ((bs [])), .int .i64 (0)]] [({Kind := 6, Name := (bs []), Value := (bs []), N := 0} : sheet_Test)] := RW.single (rfl)
       generalize hgrw922 : ([[.int .i64 (6), .string ((bs [])), .string ((bs [])), .int .i64 (0)]] : List (List Value)) = rw922 at hs hW921; clear hgrw922
       have ho925 : v920.oneCell' = true := hs.one (i := 0) rfl
       refine uon hs ?_; clear hs; intro a he
       refine T_any1 he rfl ?_; clear he; intro a w hs
       obtain ⟨f926, hf927, hs2, hR928⟩ := hs.frzAt 0 rfl
       clear hs; have hs := hs2; clear hs2
       have hT929 := hf927 _ _ hT892
       have hT930 := hf927 _ _ hT893
       have hR931 := hR894.le hf927
       have hW932 := hW895.le hf927
       have hR933 := hR896.le hf927
       have hW934 := hW897.le hf927
       have hR935 := hR898.le hf927
       have hW936 := hW899.le hf927
       have hR937 := hR900.le hf927
       have hW938 := hW901.le hf927
       have hW939 := hW902.le hf927
       have hR940 := hR903.le hf927
       have hR941 := hR904.le hf927
       have hW942 := hW905.le hf927
       have hW943 := hW906.le hf927
       have hR944 := hR907.le hf927
       have hR945 := hR908.le hf927
       have hW946 := hW909.le hf927
       have hW947 := hW910.le hf927
       have hR948 := hR911.le hf927
       have hR949 := hR914.le hf927
       have hW950 := hW915.le hf927
       have hW951 := hW921.le hf927
       replace hle := hle.trans hf927
       replace hbase18 := hbase18.trans hf927
       replace hbd19 := hbd19.trans hf927
       obtain ⟨x952, hx953, hm⟩ := ob hm
       refine RL_callVg hs rfl has15 rfl (law10_name_ok n (f := f926) (a2 := v920) ⟨rw922, hR928, hW951⟩ hx953) ?_; clear hs
       rintro _ f954 _ a w hf955 ⟨r956, rfl, rfl, hq957⟩ hs
       have hT958 := hf955 _ _ hT929
       have hT959 := hf955 _ _ hT930
       have hR960 := hR931.le hf955
       have hW961 := hW932.le hf955
       have hR962 := hR933.le hf955
       have hW963 := hW934.le hf955
       have hR964 := hR935.le hf955
       have hW965 := hW936.le hf955
       have hR966 := hR937.le hf955
       have hW967 := hW938.le hf955
       have hW968 := hW939.le hf955
       have hR969 := hR940.le hf955
       have hR970 := hR941.le hf955
       have hW971 := hW942.le hf955
       have hW972 := hW943.le hf955
       have hR973 := hR944.le hf955
       have hR974 := hR945.le hf955
       have hW975 := hW946.le hf955
       have hW976 := hW947.le hf955
       have hR977 := hR948.le hf955
       have hR978 := hR949.le hf955
       have hW979 := hW950.le hf955
       have hW980 := hW951.le hf955
       have hR981 := hR928.le hf955
       replace hle := hle.trans hf955
       replace hbase18 := hbase18.trans hf955
       replace hbd19 := hbd19.trans hf955
       obtain ⟨v982, rfl, ⟨rw983, hR984, hW985⟩⟩ := hq957
       refine uon hs ?_; clear hs; intro a he
       refine T_any1 he rfl ?_; clear he; intro a w hs
       refine RL_guard hs rfl rfl ?_
       refine RL_bs1a hs rfl Tryd.underlying25 ti35 (by decide) (AllC.row ⟨rfl, rfl, hR984.one, trivial⟩ rfl) ?_; clear hs; intro v987 a w hs
       have hW988 : RW t_sheet_Step f954 [[.int .i64 (x952.Comb), .string (x952.Name), v982]] [x952] := RW.single (⟨_, rfl, ⟨rw983, hR984, hW985⟩⟩)
       generalize hgrw989 : ([[.int .i64 (x952.Comb), .string (x952.Name), v982]] : List (List Value)) = rw989 at hs hW988; clear hgrw989
       have ho992 : v987.oneCell' = true := hs.one (i := 0) rfl
       refine uon hs ?_; clear hs; intro a he
       refine T_any1 he rfl ?_; clear he; intro a w hs
       obtain ⟨f993, hf994, hs2, hR995⟩ := hs.frzAt 0 rfl
       clear hs; have hs := hs2; clear hs2
       have hT996 := hf994 _ _ hT958
       have hT997 := hf994 _ _ hT959
       have hR998 := hR960.le hf994
       have hW999 := hW961.le hf994
       have hR1000 := hR962.le hf994
       have hW1001 := hW963.le hf994
       have hR1002 := hR964.le hf994
       have hW1003 := hW965.le hf994
       have hR1004 := hR966.le hf994
       have hW1005 := hW967.le hf994
       have hW1006 := hW968.le hf994
       have hR1007 := hR969.le hf994
       have hR1008 := hR970.le hf994
       have hW1009 := hW971.le hf994
       have hW1010 := hW972.le hf994
       have hR1011 := hR973.le hf994
       have hR1012 := hR974.le hf994
       have hW1013 := hW975.le hf994
       have hW1014 := hW976.le hf994
       have hR1015 := hR977.le hf994
       have hR1016 := hR978.le hf994
       have hW1017 := hW979.le hf994
       have hW1018 := hW980.le hf994
       have hR1019 := hR981.le hf994
       have hR1020 := hR984.le hf994
       have hW1021 := hW985.le hf994
       have hW1022 := hW988.le hf994
       replace hle := hle.trans hf994
       replace hbase18 := hbase18.trans hf994
       replace hbd19 := hbd19.trans hf994
       obtain ⟨x1023, hx1024, hm⟩ := ob hm
       refine RL_callVg hs rfl has14 rfl (law10_sel_ok n (f := f993) (a0 := v987) ⟨rw989, hR995, hW1022⟩ hx1024) ?_; clear hs
       rintro _ f1025 _ a w hf1026 ⟨r1027, rfl, rfl, hq1028⟩ hs
       have hT1029 := hf1026 _ _ hT996
       have hT1030 := hf1026 _ _ hT997
       have hR1031 := hR998.le hf1026
       have hW1032 := hW999.le hf1026
       have hR1033 := hR1000.le hf1026
       have hW1034 := hW1001.le hf1026
       have hR1035 := hR1002.le hf1026
       have hW1036 := hW1003.le hf1026
       have hR1037 := hR1004.le hf1026
       have hW1038 := hW1005.le hf1026
       have hW1039 := hW1006.le hf1026
       have hR1040 := hR1007.le hf1026
       have hR1041 := hR1008.le hf1026
       have hW1042 := hW1009.le hf1026
       have hW1043 := hW1010.le hf1026
       have hR1044 := hR1011.le hf1026
       have hR1045 := hR1012.le hf1026
       have hW1046 := hW1013.le hf1026
       have hW1047 := hW1014.le hf1026
       have hR1048 := hR1015.le hf1026
       have hR1049 := hR1016.le hf1026
       have hW1050 := hW1017.le hf1026
       have hW1051 := hW1018.le hf1026
       have hR1052 := hR1019.le hf1026
       have hR1053 := hR1020.le hf1026
       have hW1054 := hW1021.le hf1026
       have hW1055 := hW1022.le hf1026
       have hR1056 := hR995.le hf1026
       replace hle := hle.trans hf1026
       replace hbase18 := hbase18.trans hf1026
       replace hbd19 := hbd19.trans hf1026
       obtain ⟨v1057, rfl, ⟨rw1058, hR1059, hW1060⟩⟩ := hq1028
       refine uon hs ?_; clear hs; intro a he
       refine T_any1 he rfl ?_; clear he; intro a w hs
       obtain ⟨x1062, hx1063, hm⟩ := ob hm
       refine syg hs (y_call rfl has12 rfl (match_Match_ok n (f := f1025) (a0 := [v7]) (a2 := [v1057]) hT1029 hT1030 hTT ⟨_, rfl, ⟨rw8, hR1031, hW1032⟩⟩ ⟨_, rfl, ⟨rw1058, hR1059, hW1060⟩⟩ hx1063)) ?_; clear hs; intro a w hs
       refine uon hs ?_; clear hs; intro a he
       refine uyg (v := .bool ((!x1062))) 24 he rfl (y_not rfl) ?_; clear he; intro a he
       refine uy (v := .bool ((!x1062))) 25 he rfl (y_pick rfl rfl) ?_; clear he; intro a he
       refine uy (v := .bool ((!x1062))) 26 he rfl (y_assign rfl) ?_; clear he; intro a he
       refine T_nil he ?_; clear he; intro w hs; try clear hsD
       exact ⟨_, (!x1062), hbase18, hm, hs.subs ⟨rfl, trivial⟩ (.cons _ (.refl _))⟩
      ·refine RL_guard hs rfl rfl ?_
       refine RL_bs1a hs rfl Tryd.underlying33 ti29 (by decide) (AllC.row ⟨rfl, rfl, rfl, rfl, trivial⟩ rfl) ?_; clear hs; intro v1064 a w hs
       have hW1065 : RW t_sheet_Test f888 [[.int .i64 (6), .string ((bs [])), .string ((bs [])), .int .i64 (0)]] [({Kind := 6, Name := (bs []), Value := (bs []), N := 0} : sheet_Test)] := RW.single (rfl)
       generalize hgrw1066 : ([[.int .i64 (6), .string ((bs [])), .string ((bs [])), .int .i64 (0)]] : List (List Value)) = rw1066 at hs hW1065; clear hgrw1066
       have ho1069 : v1064.oneCell' = true := hs.one (i := 0) rfl
       refine uon hs ?_; clear hs; intro a he
       refine T_any2 he rfl rfl ?_ ?_ <;> (clear he; intro a w hs)
       ·refine syg hs (y_ldB rfl Tryd.underlying24 rfl ti24 (.tail _ (.head _)) rfl) ?_; clear hs; intro a w hs
        refine uon hs ?_; clear hs; intro a he
        refine T_any1 he rfl ?_; clear he; intro a w hs
        obtain ⟨f1070, hf1071, hs2, hR1072⟩ := hs.frzAt 0 rfl
        clear hs; have hs := hs2; clear hs2
        have hT1073 := hf1071 _ _ hT892
        have hT1074 := hf1071 _ _ hT893
        have hR1075 := hR894.le hf1071
        have hW1076 := hW895.le hf1071
        have hR1077 := hR896.le hf1071
        have hW1078 := hW897.le hf1071
        have hR1079 := hR898.le hf1071
        have hW1080 := hW899.le hf1071
        have hR1081 := hR900.le hf1071
        have hW1082 := hW901.le hf1071
        have hW1083 := hW902.le hf1071
        have hR1084 := hR903.le hf1071
        have hR1085 := hR904.le hf1071
        have hW1086 := hW905.le hf1071
        have hW1087 := hW906.le hf1071
        have hR1088 := hR907.le hf1071
        have hR1089 := hR908.le hf1071
        have hW1090 := hW909.le hf1071
        have hW1091 := hW910.le hf1071
        have hR1092 := hR911.le hf1071
        have hR1093 := hR914.le hf1071
        have hW1094 := hW915.le hf1071
        have hW1095 := hW1065.le hf1071
        replace hle := hle.trans hf1071
        replace hbase18 := hbase18.trans hf1071
        replace hbd19 := hbd19.trans hf1071
        obtain ⟨x1096, hx1097, hm⟩ := ob hm
        refine RL_callVg hs rfl has15 rfl (law10_name_ok n (f := f1070) (a2 := v1064) ⟨rw1066, hR1072, hW1095⟩ hx1097) ?_; clear hs
        rintro _ f1098 _ a w hf1099 ⟨r1100, rfl, rfl, hq1101⟩ hs
        have hT1102 := hf1099 _ _ hT1073
        have hT1103 := hf1099 _ _ hT1074
        have hR1104 := hR1075.le hf1099
        have hW1105 := hW1076.le hf1099
        have hR1106 := hR1077.le hf1099
        have hW1107 := hW1078.le hf1099
        have hR1108 := hR1079.le hf1099
        have hW1109 := hW1080.le hf1099
        have hR1110 := hR1081.le hf1099
        have hW1111 := hW1082.le hf1099
        have hW1112 := hW1083.le hf1099
        have hR1113 := hR1084.le hf1099
        have hR1114 := hR1085.le hf1099
        have hW1115 := hW1086.le hf1099
        have hW1116 := hW1087.le hf1099
        have hR1117 := hR1088.le hf1099
        have hR1118 := hR1089.le hf1099
        have hW1119 := hW1090.le hf1099
        have hW1120 := hW1091.le hf1099
        have hR1121 := hR1092.le hf1099
        have hR1122 := hR1093.le hf1099
        have hW1123 := hW1094.le hf1099
        have hW1124 := hW1095.le hf1099
        have hR1125 := hR1072.le hf1099
        replace hle := hle.trans hf1099
        replace hbase18 := hbase18.trans hf1099
        replace hbd19 := hbd19.trans hf1099
        obtain ⟨v1126, rfl, ⟨rw1127, hR1128, hW1129⟩⟩ := hq1101
        refine uon hs ?_; clear hs; intro a he
        refine T_any1 he rfl ?_; clear he; intro a w hs
        refine RL_guard hs rfl rfl ?_
        refine RL_bs1a hs rfl Tryd.underlying25 ti35 (by decide) (AllC.row ⟨rfl, rfl, hR1128.one, trivial⟩ rfl) ?_; clear hs; intro v1131 a w hs
        have hW1132 : RW t_sheet_Step f1098 [[.int .i64 (x1096.Comb), .string (x1096.Name), v1126]] [x1096] := RW.single (⟨_, rfl, ⟨rw1127, hR1128, hW1129⟩⟩)
        generalize hgrw1133 : ([[.int .i64 (x1096.Comb), .string (x1096.Name), v1126]] : List (List Value)) = rw1133 at hs hW1132; clear hgrw1133
        have ho1136 : v1131.oneCell' = true := hs.one (i := 0) rfl
        refine uon hs ?_; clear hs; intro a he
        refine T_any1 he rfl ?_; clear he; intro a w hs
        obtain ⟨f1137, hf1138, hs2, hR1139⟩ := hs.frzAt 0 rfl
        clear hs; have hs := hs2; clear hs2
        have hT1140 := hf1138 _ _ hT1102
        have hT1141 := hf1138 _ _ hT1103
        have hR1142 := hR1104.le hf1138
        have hW1143 := hW1105.le hf1138
        have hR1144 := hR1106.le hf1138
        have hW1145 := hW1107.le hf1138
        have hR1146 := hR1108.le hf1138
        have hW1147 := hW1109.le hf1138
        have hR1148 := hR1110.le hf1138
        have hW1149 := hW1111.le hf1138
        have hW1150 := hW1112.le hf1138
        have hR1151 := hR1113.le hf1138
        have hR1152 := hR1114.le hf1138
        have hW1153 := hW1115.le hf1138
        have hW1154 := hW1116.le hf1138
        have hR1155 := hR1117.le hf1138
        have hR1156 := hR1118.le hf1138
        have hW1157 := hW1119.le hf1138
        have hW1158 := hW1120.le hf1138
        have hR1159 := hR1121.le hf1138
        have hR1160 := hR1122.le hf1138
        have hW1161 := hW1123.le hf1138
        have hW1162 := hW1124.le hf1138
        have hR1163 := hR1125.le hf1138
        have hR1164 := hR1128.le hf1138
        have hW1165 := hW1129.le hf1138
        have hW1166 := hW1132.le hf1138
        replace hle := hle.trans hf1138
        replace hbase18 := hbase18.trans hf1138
        replace hbd19 := hbd19.trans hf1138
        obtain ⟨x1167, hx1168, hm⟩ := ob hm
        refine RL_callVg hs rfl has14 rfl (law10_sel_ok n (f := f1137) (a0 := v1131) ⟨rw1133, hR1139, hW1166⟩ hx1168) ?_; clear hs
        rintro _ f1169 _ a w hf1170 ⟨r1171, rfl, rfl, hq1172⟩ hs
        have hT1173 := hf1170 _ _ hT1140
        have hT1174 := hf1170 _ _ hT1141
        have hR1175 := hR1142.le hf1170
        have hW1176 := hW1143.le hf1170
        have hR1177 := hR1144.le hf1170
        have hW1178 := hW1145.le hf1170
        have hR1179 := hR1146.le hf1170
        have hW1180 := hW1147.le hf1170
        have hR1181 := hR1148.le hf1170
        have hW1182 := hW1149.le hf1170
        have hW1183 := hW1150.le hf1170
        have hR1184 := hR1151.le hf1170
        have hR1185 := hR1152.le hf1170
        have hW1186 := hW1153.le hf1170
        have hW1187 := hW1154.le hf1170
        have hR1188 := hR1155.le hf1170
        have hR1189 := hR1156.le hf1170
        have hW1190 := hW1157.le hf1170
        have hW1191 := hW1158.le hf1170
        have hR1192 := hR1159.le hf1170
        have hR1193 := hR1160.le hf1170
        have hW1194 := hW1161.le hf1170
        have hW1195 := hW1162.le hf1170
        have hR1196 := hR1163.le hf1170
        have hR1197 := hR1164.le hf1170
        have hW1198 := hW1165.le hf1170
        have hW1199 := hW1166.le hf1170
        have hR1200 := hR1139.le hf1170
        replace hle := hle.trans hf1170
        replace hbase18 := hbase18.trans hf1170
        replace hbd19 := hbd19.trans hf1170
        obtain ⟨v1201, rfl, ⟨rw1202, hR1203, hW1204⟩⟩ := hq1172
        refine uon hs ?_; clear hs; intro a he
        refine T_any1 he rfl ?_; clear he; intro a w hs
        obtain ⟨x1206, hx1207, hm⟩ := ob hm
        refine syg hs (y_call rfl has12 rfl (match_Match_ok n (f := f1169) (a0 := [v7]) (a2 := [v1201]) hT1173 hT1174 hTT ⟨_, rfl, ⟨rw8, hR1175, hW1176⟩⟩ ⟨_, rfl, ⟨rw1202, hR1203, hW1204⟩⟩ hx1207)) ?_; clear hs; intro a w hs
        refine uon hs ?_; clear hs; intro a he
        refine uyg (v := .bool ((!x1206))) 24 he rfl (y_not rfl) ?_; clear he; intro a he
        refine uy (v := .bool ((!x1206))) 25 he rfl (y_pick rfl rfl) ?_; clear he; intro a he
        refine uy (v := .bool ((!x1206))) 26 he rfl (y_assign rfl) ?_; clear he; intro a he
        refine T_nil he ?_; clear he; intro w hs; try clear hsD
        exact ⟨_, (!x1206), hbase18, hm, hs.subs ⟨rfl, trivial⟩ (.cons _ (.refl _))⟩
       ·obtain ⟨f1208, hf1209, hs2, hR1210⟩ := hs.frzAt 0 rfl
        clear hs; have hs := hs2; clear hs2
        have hT1211 := hf1209 _ _ hT892
        have hT1212 := hf1209 _ _ hT893
        have hR1213 := hR894.le hf1209
        have hW1214 := hW895.le hf1209
        have hR1215 := hR896.le hf1209
        have hW1216 := hW897.le hf1209
        have hR1217 := hR898.le hf1209
        have hW1218 := hW899.le hf1209
        have hR1219 := hR900.le hf1209
        have hW1220 := hW901.le hf1209
        have hW1221 := hW902.le hf1209
        have hR1222 := hR903.le hf1209
        have hR1223 := hR904.le hf1209
        have hW1224 := hW905.le hf1209
        have hW1225 := hW906.le hf1209
        have hR1226 := hR907.le hf1209
        have hR1227 := hR908.le hf1209
        have hW1228 := hW909.le hf1209
        have hW1229 := hW910.le hf1209
        have hR1230 := hR911.le hf1209
        have hR1231 := hR914.le hf1209
        have hW1232 := hW915.le hf1209
        have hW1233 := hW1065.le hf1209
        replace hle := hle.trans hf1209
        replace hbase18 := hbase18.trans hf1209
        replace hbd19 := hbd19.trans hf1209
        obtain ⟨x1234, hx1235, hm⟩ := ob hm
        refine RL_callVg hs rfl has15 rfl (law10_name_ok n (f := f1208) (a2 := v1064) ⟨rw1066, hR1210, hW1233⟩ hx1235) ?_; clear hs
        rintro _ f1236 _ a w hf1237 ⟨r1238, rfl, rfl, hq1239⟩ hs
        have hT1240 := hf1237 _ _ hT1211
        have hT1241 := hf1237 _ _ hT1212
        have hR1242 := hR1213.le hf1237
        have hW1243 := hW1214.le hf1237
        have hR1244 := hR1215.le hf1237
        have hW1245 := hW1216.le hf1237
        have hR1246 := hR1217.le hf1237
        have hW1247 := hW1218.le hf1237
        have hR1248 := hR1219.le hf1237
        have hW1249 := hW1220.le hf1237
        have hW1250 := hW1221.le hf1237
        have hR1251 := hR1222.le hf1237
        have hR1252 := hR1223.le hf1237
        have hW1253 := hW1224.le hf1237
        have hW1254 := hW1225.le hf1237
        have hR1255 := hR1226.le hf1237
        have hR1256 := hR1227.le hf1237
        have hW1257 := hW1228.le hf1237
        have hW1258 := hW1229.le hf1237
        have hR1259 := hR1230.le hf1237
        have hR1260 := hR1231.le hf1237
        have hW1261 := hW1232.le hf1237
        have hW1262 := hW1233.le hf1237
        have hR1263 := hR1210.le hf1237
        replace hle := hle.trans hf1237
        replace hbase18 := hbase18.trans hf1237
        replace hbd19 := hbd19.trans hf1237
        obtain ⟨v1264, rfl, ⟨rw1265, hR1266, hW1267⟩⟩ := hq1239
        refine uon hs ?_; clear hs; intro a he
        refine T_any2 he rfl rfl ?_ ?_ <;> (clear he; intro a w hs)
        ·refine syg hs (y_ldB rfl Tryd.underlying24 rfl ti24 (.head _) rfl) ?_; clear hs; intro a w hs
         refine uon hs ?_; clear hs; intro a he
         refine T_any1 he rfl ?_; clear he; intro a w hs
         refine RL_guard hs rfl rfl ?_
         refine RL_bs1a hs rfl Tryd.underlying25 ti35 (by decide) (AllC.row ⟨rfl, rfl, hR1266.one, trivial⟩ rfl) ?_; clear hs; intro v1269 a w hs
         have hW1270 : RW t_sheet_Step f1236 [[.int .i64 (x1234.Comb), .string (x1234.Name), v1264]] [x1234] := RW.single (⟨_, rfl, ⟨rw1265, hR1266, hW1267⟩⟩)
         generalize hgrw1271 : ([[.int .i64 (x1234.Comb), .string (x1234.Name), v1264]] : List (List Value)) = rw1271 at hs hW1270; clear hgrw1271
         have ho1274 : v1269.oneCell' = true := hs.one (i := 0) rfl
         refine uon hs ?_; clear hs; intro a he
         refine T_any1 he rfl ?_; clear he; intro a w hs
         obtain ⟨f1275, hf1276, hs2, hR1277⟩ := hs.frzAt 0 rfl
         clear hs; have hs := hs2; clear hs2
         have hT1278 := hf1276 _ _ hT1240
         have hT1279 := hf1276 _ _ hT1241
         have hR1280 := hR1242.le hf1276
         have hW1281 := hW1243.le hf1276
         have hR1282 := hR1244.le hf1276
         have hW1283 := hW1245.le hf1276
         have hR1284 := hR1246.le hf1276
         have hW1285 := hW1247.le hf1276
         have hR1286 := hR1248.le hf1276
         have hW1287 := hW1249.le hf1276
         have hW1288 := hW1250.le hf1276
         have hR1289 := hR1251.le hf1276
         have hR1290 := hR1252.le hf1276
         have hW1291 := hW1253.le hf1276
         have hW1292 := hW1254.le hf1276
         have hR1293 := hR1255.le hf1276
         have hR1294 := hR1256.le hf1276
         have hW1295 := hW1257.le hf1276
         have hW1296 := hW1258.le hf1276
         have hR1297 := hR1259.le hf1276
         have hR1298 := hR1260.le hf1276
         have hW1299 := hW1261.le hf1276
         have hW1300 := hW1262.le hf1276
         have hR1301 := hR1263.le hf1276
         have hR1302 := hR1266.le hf1276
         have hW1303 := hW1267.le hf1276
         have hW1304 := hW1270.le hf1276
         replace hle := hle.trans hf1276
         replace hbase18 := hbase18.trans hf1276
         replace hbd19 := hbd19.trans hf1276
         obtain ⟨x1305, hx1306, hm⟩ := ob hm
         refine RL_callVg hs rfl has14 rfl (law10_sel_ok n (f := f1275) (a0 := v1269) ⟨rw1271, hR1277, hW1304⟩ hx1306) ?_; clear hs
         rintro _ f1307 _ a w hf1308 ⟨r1309, rfl, rfl, hq1310⟩ hs
         have hT1311 := hf1308 _ _ hT1278
         have hT1312 := hf1308 _ _ hT1279
         have hR1313 := hR1280.le hf1308
         have hW1314 := hW1281.le hf1308
         have hR1315 := hR1282.le hf1308
         have hW1316 := hW1283.le hf1308
         have hR1317 := hR1284.le hf1308
         have hW1318 := hW1285.le hf1308
         have hR1319 := hR1286.le hf1308
         have hW1320 := hW1287.le hf1308
         have hW1321 := hW1288.le hf1308
         have hR1322 := hR1289.le hf1308
         have hR1323 := hR1290.le hf1308
         have hW1324 := hW1291.le hf1308
         have hW1325 := hW1292.le hf1308
         have hR1326 := hR1293.le hf1308
         have hR1327 := hR1294.le hf1308
         have hW1328 := hW1295.le hf1308
         have hW1329 := hW1296.le hf1308
         have hR1330 := hR1297.le hf1308
         have hR1331 := hR1298.le hf1308
         have hW1332 := hW1299.le hf1308
         have hW1333 := hW1300.le hf1308
         have hR1334 := hR1301.le hf1308
         have hR1335 := hR1302.le hf1308
         have hW1336 := hW1303.le hf1308
         have hW1337 := hW1304.le hf1308
         have hR1338 := hR1277.le hf1308
         replace hle := hle.trans hf1308
         replace hbase18 := hbase18.trans hf1308
         replace hbd19 := hbd19.trans hf1308
         obtain ⟨v1339, rfl, ⟨rw1340, hR1341, hW1342⟩⟩ := hq1310
         refine uon hs ?_; clear hs; intro a he
         refine T_any1 he rfl ?_; clear he; intro a w hs
         obtain ⟨x1344, hx1345, hm⟩ := ob hm
         refine syg hs (y_call rfl has12 rfl (match_Match_ok n (f := f1307) (a0 := [v7]) (a2 := [v1339]) hT1311 hT1312 hTT ⟨_, rfl, ⟨rw8, hR1313, hW1314⟩⟩ ⟨_, rfl, ⟨rw1340, hR1341, hW1342⟩⟩ hx1345)) ?_; clear hs; intro a w hs
         refine uon hs ?_; clear hs; intro a he
         refine uyg (v := .bool ((!x1344))) 24 he rfl (y_not rfl) ?_; clear he; intro a he
         refine uy (v := .bool ((!x1344))) 25 he rfl (y_pick rfl rfl) ?_; clear he; intro a he
         refine uy (v := .bool ((!x1344))) 26 he rfl (y_assign rfl) ?_; clear he; intro a he
         refine T_nil he ?_; clear he; intro w hs; try clear hsD
         exact ⟨_, (!x1344), hbase18, hm, hs.subs ⟨rfl, trivial⟩ (.cons _ (.refl _))⟩
        ·refine RL_guard hs rfl rfl ?_
         refine RL_bs1a hs rfl Tryd.underlying25 ti35 (by decide) (AllC.row ⟨rfl, rfl, hR1266.one, trivial⟩ rfl) ?_; clear hs; intro v1346 a w hs
         have hW1347 : RW t_sheet_Step f1236 [[.int .i64 (x1234.Comb), .string (x1234.Name), v1264]] [x1234] := RW.single (⟨_, rfl, ⟨rw1265, hR1266, hW1267⟩⟩)
         generalize hgrw1348 : ([[.int .i64 (x1234.Comb), .string (x1234.Name), v1264]] : List (List Value)) = rw1348 at hs hW1347; clear hgrw1348
         have ho1351 : v1346.oneCell' = true := hs.one (i := 0) rfl
         refine uon hs ?_; clear hs; intro a he
         refine T_any2 he rfl rfl ?_ ?_ <;> (clear he; intro a w hs)
         ·refine syg hs (y_ldB rfl Tryd.underlying24 rfl ti24 (.tail _ (.head _)) rfl) ?_; clear hs; intro a w hs
          refine uon hs ?_; clear hs; intro a he
          refine T_any1 he rfl ?_; clear he; intro a w hs
          obtain ⟨f1352, hf1353, hs2, hR1354⟩ := hs.frzAt 0 rfl
          clear hs; have hs := hs2; clear hs2
          have hT1355 := hf1353 _ _ hT1240
          have hT1356 := hf1353 _ _ hT1241
          have hR1357 := hR1242.le hf1353
          have hW1358 := hW1243.le hf1353
          have hR1359 := hR1244.le hf1353
          have hW1360 := hW1245.le hf1353
          have hR1361 := hR1246.le hf1353
          have hW1362 := hW1247.le hf1353
          have hR1363 := hR1248.le hf1353
          have hW1364 := hW1249.le hf1353
          have hW1365 := hW1250.le hf1353
          have hR1366 := hR1251.le hf1353
          have hR1367 := hR1252.le hf1353
          have hW1368 := hW1253.le hf1353
          have hW1369 := hW1254.le hf1353
          have hR1370 := hR1255.le hf1353
          have hR1371 := hR1256.le hf1353
          have hW1372 := hW1257.le hf1353
          have hW1373 := hW1258.le hf1353
          have hR1374 := hR1259.le hf1353
          have hR1375 := hR1260.le hf1353
          have hW1376 := hW1261.le hf1353
          have hW1377 := hW1262.le hf1353
          have hR1378 := hR1263.le hf1353
          have hR1379 := hR1266.le hf1353
          have hW1380 := hW1267.le hf1353
          have hW1381 := hW1347.le hf1353
          replace hle := hle.trans hf1353
          replace hbase18 := hbase18.trans hf1353
          replace hbd19 := hbd19.trans hf1353
          obtain ⟨x1382, hx1383, hm⟩ := ob hm
          refine RL_callVg hs rfl has14 rfl (law10_sel_ok n (f := f1352) (a0 := v1346) ⟨rw1348, hR1354, hW1381⟩ hx1383) ?_; clear hs
          rintro _ f1384 _ a w hf1385 ⟨r1386, rfl, rfl, hq1387⟩ hs
          have hT1388 := hf1385 _ _ hT1355
          have hT1389 := hf1385 _ _ hT1356
          have hR1390 := hR1357.le hf1385
          have hW1391 := hW1358.le hf1385
          have hR1392 := hR1359.le hf1385
          have hW1393 := hW1360.le hf1385
          have hR1394 := hR1361.le hf1385
          have hW1395 := hW1362.le hf1385
          have hR1396 := hR1363.le hf1385
          have hW1397 := hW1364.le hf1385
          have hW1398 := hW1365.le hf1385
          have hR1399 := hR1366.le hf1385
          have hR1400 := hR1367.le hf1385
          have hW1401 := hW1368.le hf1385
          have hW1402 := hW1369.le hf1385
          have hR1403 := hR1370.le hf1385
          have hR1404 := hR1371.le hf1385
          have hW1405 := hW1372.le hf1385
          have hW1406 := hW1373.le hf1385
          have hR1407 := hR1374.le hf1385
          have hR1408 := hR1375.le hf1385
          have hW1409 := hW1376.le hf1385
          have hW1410 := hW1377.le hf1385
          have hR1411 := hR1378.le hf1385
          have hR1412 := hR1379.le hf1385
          have hW1413 := hW1380.le hf1385
          have hW1414 := hW1381.le hf1385
          have hR1415 := hR1354.le hf1385
          replace hle := hle.trans hf1385
          replace hbase18 := hbase18.trans hf1385
          replace hbd19 := hbd19.trans hf1385
          obtain ⟨v1416, rfl, ⟨rw1417, hR1418, hW1419⟩⟩ := hq1387
          refine uon hs ?_; clear hs; intro a he
          refine T_any1 he rfl ?_; clear he; intro a w hs
          obtain ⟨x1421, hx1422, hm⟩ := ob hm
          refine syg hs (y_call rfl has12 rfl (match_Match_ok n (f := f1384) (a0 := [v7]) (a2 := [v1416]) hT1388 hT1389 hTT ⟨_, rfl, ⟨rw8, hR1390, hW1391⟩⟩ ⟨_, rfl, ⟨rw1417, hR1418, hW1419⟩⟩ hx1422)) ?_; clear hs; intro a w hs
          refine uon hs ?_; clear hs; intro a he
          refine uyg (v := .bool ((!x1421))) 24 he rfl (y_not rfl) ?_; clear he; intro a he
          refine uy (v := .bool ((!x1421))) 25 he rfl (y_pick rfl rfl) ?_; clear he; intro a he
          refine uy (v := .bool ((!x1421))) 26 he rfl (y_assign rfl) ?_; clear he; intro a he
          refine T_nil he ?_; clear he; intro w hs; try clear hsD
          exact ⟨_, (!x1421), hbase18, hm, hs.subs ⟨rfl, trivial⟩ (.cons _ (.refl _))⟩
         ·obtain ⟨f1423, hf1424, hs2, hR1425⟩ := hs.frzAt 0 rfl
          clear hs; have hs := hs2; clear hs2
          have hT1426 := hf1424 _ _ hT1240
          have hT1427 := hf1424 _ _ hT1241
          have hR1428 := hR1242.le hf1424
          have hW1429 := hW1243.le hf1424
          have hR1430 := hR1244.le hf1424
          have hW1431 := hW1245.le hf1424
          have hR1432 := hR1246.le hf1424
          have hW1433 := hW1247.le hf1424
          have hR1434 := hR1248.le hf1424
          have hW1435 := hW1249.le hf1424
          have hW1436 := hW1250.le hf1424
          have hR1437 := hR1251.le hf1424
          have hR1438 := hR1252.le hf1424
          have hW1439 := hW1253.le hf1424
          have hW1440 := hW1254.le hf1424
          have hR1441 := hR1255.le hf1424
          have hR1442 := hR1256.le hf1424
          have hW1443 := hW1257.le hf1424
          have hW1444 := hW1258.le hf1424
          have hR1445 := hR1259.le hf1424
          have hR1446 := hR1260.le hf1424
          have hW1447 := hW1261.le hf1424
          have hW1448 := hW1262.le hf1424
          have hR1449 := hR1263.le hf1424
          have hR1450 := hR1266.le hf1424
          have hW1451 := hW1267.le hf1424
          have hW1452 := hW1347.le hf1424
          replace hle := hle.trans hf1424
          replace hbase18 := hbase18.trans hf1424
          replace hbd19 := hbd19.trans hf1424
          obtain ⟨x1453, hx1454, hm⟩ := ob hm
          refine RL_callVg hs rfl has14 rfl (law10_sel_ok n (f := f1423) (a0 := v1346) ⟨rw1348, hR1425, hW1452⟩ hx1454) ?_; clear hs
          rintro _ f1455 _ a w hf1456 ⟨r1457, rfl, rfl, hq1458⟩ hs
          have hT1459 := hf1456 _ _ hT1426
          have hT1460 := hf1456 _ _ hT1427
          have hR1461 := hR1428.le hf1456
          have hW1462 := hW1429.le hf1456
          have hR1463 := hR1430.le hf1456
          have hW1464 := hW1431.le hf1456
          have hR1465 := hR1432.le hf1456
          have hW1466 := hW1433.le hf1456
          have hR1467 := hR1434.le hf1456
          have hW1468 := hW1435.le hf1456
          have hW1469 := hW1436.le hf1456
          have hR1470 := hR1437.le hf1456
          have hR1471 := hR1438.le hf1456
          have hW1472 := hW1439.le hf1456
          have hW1473 := hW1440.le hf1456
          have hR1474 := hR1441.le hf1456
          have hR1475 := hR1442.le hf1456
          have hW1476 := hW1443.le hf1456
          have hW1477 := hW1444.le hf1456
          have hR1478 := hR1445.le hf1456
          have hR1479 := hR1446.le hf1456
          have hW1480 := hW1447.le hf1456
          have hW1481 := hW1448.le hf1456
          have hR1482 := hR1449.le hf1456
          have hR1483 := hR1450.le hf1456
          have hW1484 := hW1451.le hf1456
          have hW1485 := hW1452.le hf1456
          have hR1486 := hR1425.le hf1456
          replace hle := hle.trans hf1456
          replace hbase18 := hbase18.trans hf1456
          replace hbd19 := hbd19.trans hf1456
          obtain ⟨v1487, rfl, ⟨rw1488, hR1489, hW1490⟩⟩ := hq1458
          refine uon hs ?_; clear hs; intro a he
          refine T_any1 he rfl ?_; clear he; intro a w hs
          refine syg hs (y_ldB rfl Tryd.underlying24 rfl ti24 (.head _) rfl) ?_; clear hs; intro a w hs
          refine uon hs ?_; clear hs; intro a he
          refine T_any1 he rfl ?_; clear he; intro a w hs
          obtain ⟨x1492, hx1493, hm⟩ := ob hm
          refine syg hs (y_call rfl has12 rfl (match_Match_ok n (f := f1455) (a0 := [v7]) (a2 := [v1487]) hT1459 hT1460 hTT ⟨_, rfl, ⟨rw8, hR1461, hW1462⟩⟩ ⟨_, rfl, ⟨rw1488, hR1489, hW1490⟩⟩ hx1493)) ?_; clear hs; intro a w hs
          refine uon hs ?_; clear hs; intro a he
          refine uyg (v := .bool ((!x1492))) 24 he rfl (y_not rfl) ?_; clear he; intro a he
          refine uy (v := .bool ((!x1492))) 25 he rfl (y_pick rfl rfl) ?_; clear he; intro a he
          refine uy (v := .bool ((!x1492))) 26 he rfl (y_assign rfl) ?_; clear he; intro a he
          refine T_nil he ?_; clear he; intro w hs; try clear hsD
          exact ⟨_, (!x1492), hbase18, hm, hs.subs ⟨rfl, trivial⟩ (.cons _ (.refl _))⟩
     ·clear he; have he := hq; clear hq
      replace hm := oc_f hg919 hm
      refine uno 18 he rfl ?_; clear he; intro a he
      refine T_any2 he rfl rfl ?_ ?_ <;> (clear he; intro a w hs)
      ·refine sno hs ?_; clear hs; intro a w hs
       refine uon hs ?_; clear hs; intro a he
       refine T_any1 he rfl ?_; clear he; intro a w hs
       refine sno hs ?_; clear hs; intro a w hs
       refine uon hs ?_; clear hs; intro a he
       refine T_any1 he rfl ?_; clear he; intro a w hs
       refine sno hs ?_; clear hs; intro a w hs
       refine uon hs ?_; clear hs; intro a he
       refine T_any1 he rfl ?_; clear he; intro a w hs
       refine sno hs ?_; clear hs; intro a w hs
       refine uon hs ?_; clear hs; intro a he
       refine T_any1 he rfl ?_; clear he; intro a w hs
       refine sno hs ?_; clear hs; intro a w hs
       refine uon hs ?_; clear hs; intro a he
       refine T_any1 he rfl ?_; clear he; intro a w hs
       refine sno hs ?_; clear hs; intro a w hs
       refine uon hs ?_; clear hs; intro a he
       refine uno 24 he rfl ?_; clear he; intro a he
       refine uy (v := .bool (false)) 25 he rfl (y_pick rfl rfl) ?_; clear he; intro a he
       refine uy (v := .bool (false)) 26 he rfl (y_assign rfl) ?_; clear he; intro a he
       refine T_nil he ?_; clear he; intro w hs; try clear hsD
       exact ⟨_, false, hbase18, hm, hs.subs ⟨rfl, trivial⟩ (.cons _ (.refl _))⟩
      ·refine sno hs ?_; clear hs; intro a w hs
       refine uon hs ?_; clear hs; intro a he
       refine T_any2 he rfl rfl ?_ ?_ <;> (clear he; intro a w hs)
       ·refine sno hs ?_; clear hs; intro a w hs
        refine uon hs ?_; clear hs; intro a he
        refine T_any1 he rfl ?_; clear he; intro a w hs
        refine sno hs ?_; clear hs; intro a w hs
        refine uon hs ?_; clear hs; intro a he
        refine T_any1 he rfl ?_; clear he; intro a w hs
        refine sno hs ?_; clear hs; intro a w hs
        refine uon hs ?_; clear hs; intro a he
        refine T_any1 he rfl ?_; clear he; intro a w hs
        refine sno hs ?_; clear hs; intro a w hs
        refine uon hs ?_; clear hs; intro a he
        refine T_any1 he rfl ?_; clear he; intro a w hs
        refine sno hs ?_; clear hs; intro a w hs
        refine uon hs ?_; clear hs; intro a he
        refine uno 24 he rfl ?_; clear he; intro a he
        refine uy (v := .bool (false)) 25 he rfl (y_pick rfl rfl) ?_; clear he; intro a he
        refine uy (v := .bool (false)) 26 he rfl (y_assign rfl) ?_; clear he; intro a he
        refine T_nil he ?_; clear he; intro w hs; try clear hsD
        exact ⟨_, false, hbase18, hm, hs.subs ⟨rfl, trivial⟩ (.cons _ (.refl _))⟩
       ·refine sno hs ?_; clear hs; intro a w hs
        refine uon hs ?_; clear hs; intro a he
        refine T_any2 he rfl rfl ?_ ?_ <;> (clear he; intro a w hs)
        ·refine sno hs ?_; clear hs; intro a w hs
         refine uon hs ?_; clear hs; intro a he
         refine T_any1 he rfl ?_; clear he; intro a w hs
         refine sno hs ?_; clear hs; intro a w hs
         refine uon hs ?_; clear hs; intro a he
         refine T_any1 he rfl ?_; clear he; intro a w hs
         refine sno hs ?_; clear hs; intro a w hs
         refine uon hs ?_; clear hs; intro a he
         refine T_any1 he rfl ?_; clear he; intro a w hs
         refine sno hs ?_; clear hs; intro a w hs
         refine uon hs ?_; clear hs; intro a he
         refine uno 24 he rfl ?_; clear he; intro a he
         refine uy (v := .bool (false)) 25 he rfl (y_pick rfl rfl) ?_; clear he; intro a he
         refine uy (v := .bool (false)) 26 he rfl (y_assign rfl) ?_; clear he; intro a he
         refine T_nil he ?_; clear he; intro w hs; try clear hsD
         exact ⟨_, false, hbase18, hm, hs.subs ⟨rfl, trivial⟩ (.cons _ (.refl _))⟩
        ·refine sno hs ?_; clear hs; intro a w hs
         refine uon hs ?_; clear hs; intro a he
         refine T_any2 he rfl rfl ?_ ?_ <;> (clear he; intro a w hs)
         ·refine sno hs ?_; clear hs; intro a w hs
          refine uon hs ?_; clear hs; intro a he
          refine T_any1 he rfl ?_; clear he; intro a w hs
          refine sno hs ?_; clear hs; intro a w hs
          refine uon hs ?_; clear hs; intro a he
          refine T_any1 he rfl ?_; clear he; intro a w hs
          refine sno hs ?_; clear hs; intro a w hs
          refine uon hs ?_; clear hs; intro a he
          refine uno 24 he rfl ?_; clear he; intro a he
          refine uy (v := .bool (false)) 25 he rfl (y_pick rfl rfl) ?_; clear he; intro a he
          refine uy (v := .bool (false)) 26 he rfl (y_assign rfl) ?_; clear he; intro a he
          refine T_nil he ?_; clear he; intro w hs; try clear hsD
          exact ⟨_, false, hbase18, hm, hs.subs ⟨rfl, trivial⟩ (.cons _ (.refl _))⟩
         ·refine sno hs ?_; clear hs; intro a w hs
          refine uon hs ?_; clear hs; intro a he
          refine T_any1 he rfl ?_; clear he; intro a w hs
          refine sno hs ?_; clear hs; intro a w hs
          refine uon hs ?_; clear hs; intro a he
          refine T_any1 he rfl ?_; clear he; intro a w hs
          refine sno hs ?_; clear hs; intro a w hs
          refine uon hs ?_; clear hs; intro a he
          refine uno 24 he rfl ?_; clear he; intro a he
          refine uy (v := .bool (false)) 25 he rfl (y_pick rfl rfl) ?_; clear he; intro a he
          refine uy (v := .bool (false)) 26 he rfl (y_assign rfl) ?_; clear he; intro a he
          refine T_nil he ?_; clear he; intro w hs; try clear hsD
          exact ⟨_, false, hbase18, hm, hs.subs ⟨rfl, trivial⟩ (.cons _ (.refl _))⟩
    ·obtain ⟨f1494, hf1495, hs2, hR1496⟩ := hs.frzAt 0 rfl
     clear hs; have hs := hs2; clear hs2
     have hT1497 := hf1495 _ _ hT100
     have hT1498 := hf1495 _ _ hT101
     have hR1499 := hR102.le hf1495
     have hW1500 := hW103.le hf1495
     have hR1501 := hR104.le hf1495
     have hW1502 := hW105.le hf1495
     have hR1503 := hR106.le hf1495
     have hW1504 := hW107.le hf1495
     have hR1505 := hR108.le hf1495
     have hW1506 := hW109.le hf1495
     have hW1507 := hW110.le hf1495
     have hR1508 := hR111.le hf1495
     have hR1509 := hR114.le hf1495
     have hW1510 := hW115.le hf1495
     have hW1511 := hW808.le hf1495
     replace hle := hle.trans hf1495
     replace hbase18 := hbase18.trans hf1495
     replace hbd19 := hbd19.trans hf1495
     obtain ⟨x1512, hx1513, hm⟩ := ob hm
     refine RL_callVg hs rfl has15 rfl (law10_name_ok n (f := f1494) (a2 := v807) ⟨rw809, hR1496, hW1511⟩ hx1513) ?_; clear hs
     rintro _ f1514 _ a w hf1515 ⟨r1516, rfl, rfl, hq1517⟩ hs
     have hT1518 := hf1515 _ _ hT1497
     have hT1519 := hf1515 _ _ hT1498
     have hR1520 := hR1499.le hf1515
     have hW1521 := hW1500.le hf1515
     have hR1522 := hR1501.le hf1515
     have hW1523 := hW1502.le hf1515
     have hR1524 := hR1503.le hf1515
     have hW1525 := hW1504.le hf1515
     have hR1526 := hR1505.le hf1515
     have hW1527 := hW1506.le hf1515
     have hW1528 := hW1507.le hf1515
     have hR1529 := hR1508.le hf1515
     have hR1530 := hR1509.le hf1515
     have hW1531 := hW1510.le hf1515
     have hW1532 := hW1511.le hf1515
     have hR1533 := hR1496.le hf1515
     replace hle := hle.trans hf1515
     replace hbase18 := hbase18.trans hf1515
     replace hbd19 := hbd19.trans hf1515
     obtain ⟨v1534, rfl, ⟨rw1535, hR1536, hW1537⟩⟩ := hq1517
     refine uon hs ?_; clear hs; intro a he
     refine T_any2 he rfl rfl ?_ ?_ <;> (clear he; intro a w hs)
     ·refine syg hs (y_ldB rfl Tryd.underlying24 rfl ti24 (.head _) rfl) ?_; clear hs; intro a w hs
      refine uon hs ?_; clear hs; intro a he
      refine T_any1 he rfl ?_; clear he; intro a w hs
      refine RL_guard hs rfl rfl ?_
      refine RL_bs1a hs rfl Tryd.underlying25 ti35 (by decide) (AllC.row ⟨rfl, rfl, hR1536.one, trivial⟩ rfl) ?_; clear hs; intro v1539 a w hs
      have hW1540 : RW t_sheet_Step f1514 [[.int .i64 (x1512.Comb), .string (x1512.Name), v1534]] [x1512] := RW.single (⟨_, rfl, ⟨rw1535, hR1536, hW1537⟩⟩)
      generalize hgrw1541 : ([[.int .i64 (x1512.Comb), .string (x1512.Name), v1534]] : List (List Value)) = rw1541 at hs hW1540; clear hgrw1541
      have ho1544 : v1539.oneCell' = true := hs.one (i := 0) rfl
      refine uon hs ?_; clear hs; intro a he
      refine T_any1 he rfl ?_; clear he; intro a w hs
      obtain ⟨f1545, hf1546, hs2, hR1547⟩ := hs.frzAt 0 rfl
      clear hs; have hs := hs2; clear hs2
      have hT1548 := hf1546 _ _ hT1518
      have hT1549 := hf1546 _ _ hT1519
      have hR1550 := hR1520.le hf1546
      have hW1551 := hW1521.le hf1546
      have hR1552 := hR1522.le hf1546
      have hW1553 := hW1523.le hf1546
      have hR1554 := hR1524.le hf1546
      have hW1555 := hW1525.le hf1546
      have hR1556 := hR1526.le hf1546
      have hW1557 := hW1527.le hf1546
      have hW1558 := hW1528.le hf1546
      have hR1559 := hR1529.le hf1546
      have hR1560 := hR1530.le hf1546
      have hW1561 := hW1531.le hf1546
      have hW1562 := hW1532.le hf1546
      have hR1563 := hR1533.le hf1546
      have hR1564 := hR1536.le hf1546
      have hW1565 := hW1537.le hf1546
      have hW1566 := hW1540.le hf1546
      replace hle := hle.trans hf1546
      replace hbase18 := hbase18.trans hf1546
      replace hbd19 := hbd19.trans hf1546
      obtain ⟨x1567, hx1568, hm⟩ := ob hm
      refine RL_callVg hs rfl has14 rfl (law10_sel_ok n (f := f1545) (a0 := v1539) ⟨rw1541, hR1547, hW1566⟩ hx1568) ?_; clear hs
      rintro _ f1569 _ a w hf1570 ⟨r1571, rfl, rfl, hq1572⟩ hs
      have hT1573 := hf1570 _ _ hT1548
      have hT1574 := hf1570 _ _ hT1549
      have hR1575 := hR1550.le hf1570
      have hW1576 := hW1551.le hf1570
      have hR1577 := hR1552.le hf1570
      have hW1578 := hW1553.le hf1570
      have hR1579 := hR1554.le hf1570
      have hW1580 := hW1555.le hf1570
      have hR1581 := hR1556.le hf1570
      have hW1582 := hW1557.le hf1570
      have hW1583 := hW1558.le hf1570
      have hR1584 := hR1559.le hf1570
      have hR1585 := hR1560.le hf1570
      have hW1586 := hW1561.le hf1570
      have hW1587 := hW1562.le hf1570
      have hR1588 := hR1563.le hf1570
      have hR1589 := hR1564.le hf1570
      have hW1590 := hW1565.le hf1570
      have hW1591 := hW1566.le hf1570
      have hR1592 := hR1547.le hf1570
      replace hle := hle.trans hf1570
      replace hbase18 := hbase18.trans hf1570
      replace hbd19 := hbd19.trans hf1570
      obtain ⟨v1593, rfl, ⟨rw1594, hR1595, hW1596⟩⟩ := hq1572
      refine uon hs ?_; clear hs; intro a he
      refine T_any1 he rfl ?_; clear he; intro a w hs
      obtain ⟨x1598, hx1599, hm⟩ := ob hm
      refine syg hs (y_call rfl has12 rfl (match_Match_ok n (f := f1569) (a0 := [v7]) (a2 := [v1593]) hT1573 hT1574 hTT ⟨_, rfl, ⟨rw8, hR1575, hW1576⟩⟩ ⟨_, rfl, ⟨rw1594, hR1595, hW1596⟩⟩ hx1599)) ?_; clear hs; intro a w hs
      refine uon hs ?_; clear hs; intro a he
      refine uy (v := .bool (x1598)) 15 he rfl (y_pick rfl rfl) ?_; clear he; intro a he
      refine uy (v := .bool (x1598)) 16 he rfl (y_move rfl) ?_; clear he; intro a he
      refine Ev.split he (t := 19) rfl (fun hg1600 hq => ?_) (fun hg1600 hq => ?_)
      ·clear he; have he := hq; clear hq
       replace hm := oc_t hg1600 hm
       refine uyg 18 he rfl (y_buildS (places := [(0, 1), (1, 1), (2, 1), (3, 1)]) (cs := [.int .i64 (6), .string ((bs [])), .string ((bs [])), .int .i64 (0)]) rfl Tryd.underlying29 ti29 (by kernel_rfl) (by decide) rfl ⟨rfl, trivial⟩) ?_; clear he; intro a he
       refine T_any2 he rfl rfl ?_ ?_ <;> (clear he; intro a w hs)
       ·refine syg hs (y_ldB rfl Tryd.underlying24 rfl ti24 (.head _) rfl) ?_; clear hs; intro a w hs
        refine uon hs ?_; clear hs; intro a he
        refine T_any1 he rfl ?_; clear he; intro a w hs
        refine RL_guard hs rfl rfl ?_
        refine RL_bs1a hs rfl Tryd.underlying33 ti29 (by decide) (AllC.row ⟨rfl, rfl, rfl, rfl, trivial⟩ rfl) ?_; clear hs; intro v1601 a w hs
        have hW1602 : RW t_sheet_Test f1569 [[.int .i64 (6), .string ((bs [])), .string ((bs [])), .int .i64 (0)]] [({Kind := 6, Name := (bs []), Value := (bs []), N := 0} : sheet_Test)] := RW.single (rfl)
        generalize hgrw1603 : ([[.int .i64 (6), .string ((bs [])), .string ((bs [])), .int .i64 (0)]] : List (List Value)) = rw1603 at hs hW1602; clear hgrw1603
        have ho1606 : v1601.oneCell' = true := hs.one (i := 0) rfl
        refine uon hs ?_; clear hs; intro a he
        refine T_any1 he rfl ?_; clear he; intro a w hs
        obtain ⟨f1607, hf1608, hs2, hR1609⟩ := hs.frzAt 0 rfl
        clear hs; have hs := hs2; clear hs2
        have hT1610 := hf1608 _ _ hT1573
        have hT1611 := hf1608 _ _ hT1574
        have hR1612 := hR1575.le hf1608
        have hW1613 := hW1576.le hf1608
        have hR1614 := hR1577.le hf1608
        have hW1615 := hW1578.le hf1608
        have hR1616 := hR1579.le hf1608
        have hW1617 := hW1580.le hf1608
        have hR1618 := hR1581.le hf1608
        have hW1619 := hW1582.le hf1608
        have hW1620 := hW1583.le hf1608
        have hR1621 := hR1584.le hf1608
        have hR1622 := hR1585.le hf1608
        have hW1623 := hW1586.le hf1608
        have hW1624 := hW1587.le hf1608
        have hR1625 := hR1588.le hf1608
        have hR1626 := hR1589.le hf1608
        have hW1627 := hW1590.le hf1608
        have hW1628 := hW1591.le hf1608
        have hR1629 := hR1592.le hf1608
        have hR1630 := hR1595.le hf1608
        have hW1631 := hW1596.le hf1608
        have hW1632 := hW1602.le hf1608
        replace hle := hle.trans hf1608
        replace hbase18 := hbase18.trans hf1608
        replace hbd19 := hbd19.trans hf1608
        obtain ⟨x1633, hx1634, hm⟩ := ob hm
        refine RL_callVg hs rfl has15 rfl (law10_name_ok n (f := f1607) (a2 := v1601) ⟨rw1603, hR1609, hW1632⟩ hx1634) ?_; clear hs
        rintro _ f1635 _ a w hf1636 ⟨r1637, rfl, rfl, hq1638⟩ hs
        have hT1639 := hf1636 _ _ hT1610
        have hT1640 := hf1636 _ _ hT1611
        have hR1641 := hR1612.le hf1636
        have hW1642 := hW1613.le hf1636
        have hR1643 := hR1614.le hf1636
        have hW1644 := hW1615.le hf1636
        have hR1645 := hR1616.le hf1636
        have hW1646 := hW1617.le hf1636
        have hR1647 := hR1618.le hf1636
        have hW1648 := hW1619.le hf1636
        have hW1649 := hW1620.le hf1636
        have hR1650 := hR1621.le hf1636
        have hR1651 := hR1622.le hf1636
        have hW1652 := hW1623.le hf1636
        have hW1653 := hW1624.le hf1636
        have hR1654 := hR1625.le hf1636
        have hR1655 := hR1626.le hf1636
        have hW1656 := hW1627.le hf1636
        have hW1657 := hW1628.le hf1636
        have hR1658 := hR1629.le hf1636
        have hR1659 := hR1630.le hf1636
        have hW1660 := hW1631.le hf1636
        have hW1661 := hW1632.le hf1636
        have hR1662 := hR1609.le hf1636
        replace hle := hle.trans hf1636
        replace hbase18 := hbase18.trans hf1636
        replace hbd19 := hbd19.trans hf1636
        obtain ⟨v1663, rfl, ⟨rw1664, hR1665, hW1666⟩⟩ := hq1638
        refine uon hs ?_; clear hs; intro a he
        refine T_any1 he rfl ?_; clear he; intro a w hs
        refine RL_guard hs rfl rfl ?_
        refine RL_bs1a hs rfl Tryd.underlying25 ti35 (by decide) (AllC.row ⟨rfl, rfl, hR1665.one, trivial⟩ rfl) ?_; clear hs; intro v1668 a w hs
        have hW1669 : RW t_sheet_Step f1635 [[.int .i64 (x1633.Comb), .string (x1633.Name), v1663]] [x1633] := RW.single (⟨_, rfl, ⟨rw1664, hR1665, hW1666⟩⟩)
        generalize hgrw1670 : ([[.int .i64 (x1633.Comb), .string (x1633.Name), v1663]] : List (List Value)) = rw1670 at hs hW1669; clear hgrw1670
        have ho1673 : v1668.oneCell' = true := hs.one (i := 0) rfl
        refine uon hs ?_; clear hs; intro a he
        refine T_any1 he rfl ?_; clear he; intro a w hs
        obtain ⟨f1674, hf1675, hs2, hR1676⟩ := hs.frzAt 0 rfl
        clear hs; have hs := hs2; clear hs2
        have hT1677 := hf1675 _ _ hT1639
        have hT1678 := hf1675 _ _ hT1640
        have hR1679 := hR1641.le hf1675
        have hW1680 := hW1642.le hf1675
        have hR1681 := hR1643.le hf1675
        have hW1682 := hW1644.le hf1675
        have hR1683 := hR1645.le hf1675
        have hW1684 := hW1646.le hf1675
        have hR1685 := hR1647.le hf1675
        have hW1686 := hW1648.le hf1675
        have hW1687 := hW1649.le hf1675
        have hR1688 := hR1650.le hf1675
        have hR1689 := hR1651.le hf1675
        have hW1690 := hW1652.le hf1675
        have hW1691 := hW1653.le hf1675
        have hR1692 := hR1654.le hf1675
        have hR1693 := hR1655.le hf1675
        have hW1694 := hW1656.le hf1675
        have hW1695 := hW1657.le hf1675
        have hR1696 := hR1658.le hf1675
        have hR1697 := hR1659.le hf1675
        have hW1698 := hW1660.le hf1675
        have hW1699 := hW1661.le hf1675
        have hR1700 := hR1662.le hf1675
        have hR1701 := hR1665.le hf1675
        have hW1702 := hW1666.le hf1675
        have hW1703 := hW1669.le hf1675
        replace hle := hle.trans hf1675
        replace hbase18 := hbase18.trans hf1675
        replace hbd19 := hbd19.trans hf1675
        obtain ⟨x1704, hx1705, hm⟩ := ob hm
        refine RL_callVg hs rfl has14 rfl (law10_sel_ok n (f := f1674) (a0 := v1668) ⟨rw1670, hR1676, hW1703⟩ hx1705) ?_; clear hs
        rintro _ f1706 _ a w hf1707 ⟨r1708, rfl, rfl, hq1709⟩ hs
        have hT1710 := hf1707 _ _ hT1677
        have hT1711 := hf1707 _ _ hT1678
        have hR1712 := hR1679.le hf1707
        have hW1713 := hW1680.le hf1707
        have hR1714 := hR1681.le hf1707
        have hW1715 := hW1682.le hf1707
        have hR1716 := hR1683.le hf1707
        have hW1717 := hW1684.le hf1707
        have hR1718 := hR1685.le hf1707
        have hW1719 := hW1686.le hf1707
        have hW1720 := hW1687.le hf1707
        have hR1721 := hR1688.le hf1707
        have hR1722 := hR1689.le hf1707
        have hW1723 := hW1690.le hf1707
        have hW1724 := hW1691.le hf1707
        have hR1725 := hR1692.le hf1707
        have hR1726 := hR1693.le hf1707
        have hW1727 := hW1694.le hf1707
        have hW1728 := hW1695.le hf1707
        have hR1729 := hR1696.le hf1707
        have hR1730 := hR1697.le hf1707
        have hW1731 := hW1698.le hf1707
        have hW1732 := hW1699.le hf1707
        have hR1733 := hR1700.le hf1707
        have hR1734 := hR1701.le hf1707
        have hW1735 := hW1702.le hf1707
        have hW1736 := hW1703.le hf1707
        have hR1737 := hR1676.le hf1707
        replace hle := hle.trans hf1707
        replace hbase18 := hbase18.trans hf1707
        replace hbd19 := hbd19.trans hf1707
        obtain ⟨v1738, rfl, ⟨rw1739, hR1740, hW1741⟩⟩ := hq1709
        refine uon hs ?_; clear hs; intro a he
        refine T_any1 he rfl ?_; clear he; intro a w hs
        obtain ⟨x1743, hx1744, hm⟩ := ob hm
        refine syg hs (y_call rfl has12 rfl (match_Match_ok n (f := f1706) (a0 := [v7]) (a2 := [v1738]) hT1710 hT1711 hTT ⟨_, rfl, ⟨rw8, hR1712, hW1713⟩⟩ ⟨_, rfl, ⟨rw1739, hR1740, hW1741⟩⟩ hx1744)) ?_; clear hs; intro a w hs
        refine uon hs ?_; clear hs; intro a he
        refine uyg (v := .bool ((!x1743))) 24 he rfl (y_not rfl) ?_; clear he; intro a he
        refine uy (v := .bool ((!x1743))) 25 he rfl (y_pick rfl rfl) ?_; clear he; intro a he
        refine uy (v := .bool ((!x1743))) 26 he rfl (y_assign rfl) ?_; clear he; intro a he
        refine T_nil he ?_; clear he; intro w hs; try clear hsD
        exact ⟨_, (!x1743), hbase18, hm, hs.subs ⟨rfl, trivial⟩ (.cons _ (.refl _))⟩
       ·refine RL_guard hs rfl rfl ?_
        refine RL_bs1a hs rfl Tryd.underlying33 ti29 (by decide) (AllC.row ⟨rfl, rfl, rfl, rfl, trivial⟩ rfl) ?_; clear hs; intro v1745 a w hs
        have hW1746 : RW t_sheet_Test f1569 [[.int .i64 (6), .string ((bs [])), .string ((bs [])), .int .i64 (0)]] [({Kind := 6, Name := (bs []), Value := (bs []), N := 0} : sheet_Test)] := RW.single (rfl)
        generalize hgrw1747 : ([[.int .i64 (6), .string ((bs [])), .string ((bs [])), .int .i64 (0)]] : List (List Value)) = rw1747 at hs hW1746; clear hgrw1747
        have ho1750 : v1745.oneCell' = true := hs.one (i := 0) rfl
        refine uon hs ?_; clear hs; intro a he
        refine T_any2 he rfl rfl ?_ ?_ <;> (clear he; intro a w hs)
        ·refine syg hs (y_ldB rfl Tryd.underlying24 rfl ti24 (.tail _ (.head _)) rfl) ?_; clear hs; intro a w hs
         refine uon hs ?_; clear hs; intro a he
         refine T_any1 he rfl ?_; clear he; intro a w hs
         obtain ⟨f1751, hf1752, hs2, hR1753⟩ := hs.frzAt 0 rfl
         clear hs; have hs := hs2; clear hs2
         have hT1754 := hf1752 _ _ hT1573
         have hT1755 := hf1752 _ _ hT1574
         have hR1756 := hR1575.le hf1752
         have hW1757 := hW1576.le hf1752
         have hR1758 := hR1577.le hf1752
         have hW1759 := hW1578.le hf1752
         have hR1760 := hR1579.le hf1752
         have hW1761 := hW1580.le hf1752
         have hR1762 := hR1581.le hf1752
         have hW1763 := hW1582.le hf1752
         have hW1764 := hW1583.le hf1752
         have hR1765 := hR1584.le hf1752
         have hR1766 := hR1585.le hf1752
         have hW1767 := hW1586.le hf1752
         have hW1768 := hW1587.le hf1752
         have hR1769 := hR1588.le hf1752
         have hR1770 := hR1589.le hf1752
         have hW1771 := hW1590.le hf1752
         have hW1772 := hW1591.le hf1752
         have hR1773 := hR1592.le hf1752
         have hR1774 := hR1595.le hf1752
         have hW1775 := hW1596.le hf1752
         have hW1776 := hW1746.le hf1752
         replace hle := hle.trans hf1752
         replace hbase18 := hbase18.trans hf1752
         replace hbd19 := hbd19.trans hf1752
         obtain ⟨x1777, hx1778, hm⟩ := ob hm
         refine RL_callVg hs rfl has15 rfl (law10_name_ok n (f := f1751) (a2 := v1745) ⟨rw1747, hR1753, hW1776⟩ hx1778) ?_; clear hs
         rintro _ f1779 _ a w hf1780 ⟨r1781, rfl, rfl, hq1782⟩ hs
         have hT1783 := hf1780 _ _ hT1754
         have hT1784 := hf1780 _ _ hT1755
         have hR1785 := hR1756.le hf1780
         have hW1786 := hW1757.le hf1780
         have hR1787 := hR1758.le hf1780
         have hW1788 := hW1759.le hf1780
         have hR1789 := hR1760.le hf1780
         have hW1790 := hW1761.le hf1780
         have hR1791 := hR1762.le hf1780
         have hW1792 := hW1763.le hf1780
         have hW1793 := hW1764.le hf1780
         have hR1794 := hR1765.le hf1780
         have hR1795 := hR1766.le hf1780
         have hW1796 := hW1767.le hf1780
         have hW1797 := hW1768.le hf1780
         have hR1798 := hR1769.le hf1780
         have hR1799 := hR1770.le hf1780
         have hW1800 := hW1771.le hf1780
         have hW1801 := hW1772.le hf1780
         have hR1802 := hR1773.le hf1780
         have hR1803 := hR1774.le hf1780
         have hW1804 := hW1775.le hf1780
         have hW1805 := hW1776.le hf1780
         have hR1806 := hR1753.le hf1780
         replace hle := hle.trans hf1780
         replace hbase18 := hbase18.trans hf1780
         replace hbd19 := hbd19.trans hf1780
         obtain ⟨v1807, rfl, ⟨rw1808, hR1809, hW1810⟩⟩ := hq1782
         refine uon hs ?_; clear hs; intro a he
         refine T_any1 he rfl ?_; clear he; intro a w hs
         refine RL_guard hs rfl rfl ?_
         refine RL_bs1a hs rfl Tryd.underlying25 ti35 (by decide) (AllC.row ⟨rfl, rfl, hR1809.one, trivial⟩ rfl) ?_; clear hs; intro v1812 a w hs
         have hW1813 : RW t_sheet_Step f1779 [[.int .i64 (x1777.Comb), .string (x1777.Name), v1807]] [x1777] := RW.single (⟨_, rfl, ⟨rw1808, hR1809, hW1810⟩⟩)
         generalize hgrw1814 : ([[.int .i64 (x1777.Comb), .string (x1777.Name), v1807]] : List (List Value)) = rw1814 at hs hW1813; clear hgrw1814
         have ho1817 : v1812.oneCell' = true := hs.one (i := 0) rfl
         refine uon hs ?_; clear hs; intro a he
         refine T_any1 he rfl ?_; clear he; intro a w hs
         obtain ⟨f1818, hf1819, hs2, hR1820⟩ := hs.frzAt 0 rfl
         clear hs; have hs := hs2; clear hs2
         have hT1821 := hf1819 _ _ hT1783
         have hT1822 := hf1819 _ _ hT1784
         have hR1823 := hR1785.le hf1819
         have hW1824 := hW1786.le hf1819
         have hR1825 := hR1787.le hf1819
         have hW1826 := hW1788.le hf1819
         have hR1827 := hR1789.le hf1819
         have hW1828 := hW1790.le hf1819
         have hR1829 := hR1791.le hf1819
         have hW1830 := hW1792.le hf1819
         have hW1831 := hW1793.le hf1819
         have hR1832 := hR1794.le hf1819
         have hR1833 := hR1795.le hf1819
         have hW1834 := hW1796.le hf1819
         have hW1835 := hW1797.le hf1819
         have hR1836 := hR1798.le hf1819
         have hR1837 := hR1799.le hf1819
         have hW1838 := hW1800.le hf1819
         have hW1839 := hW1801.le hf1819
         have hR1840 := hR1802.le hf1819
         have hR1841 := hR1803.le hf1819
         have hW1842 := hW1804.le hf1819
         have hW1843 := hW1805.le hf1819
         have hR1844 := hR1806.le hf1819
         have hR1845 := hR1809.le hf1819
         have hW1846 := hW1810.le hf1819
         have hW1847 := hW1813.le hf1819
         replace hle := hle.trans hf1819
         replace hbase18 := hbase18.trans hf1819
         replace hbd19 := hbd19.trans hf1819
         obtain ⟨x1848, hx1849, hm⟩ := ob hm
         refine RL_callVg hs rfl has14 rfl (law10_sel_ok n (f := f1818) (a0 := v1812) ⟨rw1814, hR1820, hW1847⟩ hx1849) ?_; clear hs
         rintro _ f1850 _ a w hf1851 ⟨r1852, rfl, rfl, hq1853⟩ hs
         have hT1854 := hf1851 _ _ hT1821
         have hT1855 := hf1851 _ _ hT1822
         have hR1856 := hR1823.le hf1851
         have hW1857 := hW1824.le hf1851
         have hR1858 := hR1825.le hf1851
         have hW1859 := hW1826.le hf1851
         have hR1860 := hR1827.le hf1851
         have hW1861 := hW1828.le hf1851
         have hR1862 := hR1829.le hf1851
         have hW1863 := hW1830.le hf1851
         have hW1864 := hW1831.le hf1851
         have hR1865 := hR1832.le hf1851
         have hR1866 := hR1833.le hf1851
         have hW1867 := hW1834.le hf1851
         have hW1868 := hW1835.le hf1851
         have hR1869 := hR1836.le hf1851
         have hR1870 := hR1837.le hf1851
         have hW1871 := hW1838.le hf1851
         have hW1872 := hW1839.le hf1851
         have hR1873 := hR1840.le hf1851
         have hR1874 := hR1841.le hf1851
         have hW1875 := hW1842.le hf1851
         have hW1876 := hW1843.le hf1851
         have hR1877 := hR1844.le hf1851
         have hR1878 := hR1845.le hf1851
         have hW1879 := hW1846.le hf1851
         have hW1880 := hW1847.le hf1851
         have hR1881 := hR1820.le hf1851
         replace hle := hle.trans hf1851
         replace hbase18 := hbase18.trans hf1851
         replace hbd19 := hbd19.trans hf1851
         obtain ⟨v1882, rfl, ⟨rw1883, hR1884, hW1885⟩⟩ := hq1853
         refine uon hs ?_; clear hs; intro a he
         refine T_any1 he rfl ?_; clear he; intro a w hs
         obtain ⟨x1887, hx1888, hm⟩ := ob hm
         refine syg hs (y_call rfl has12 rfl (match_Match_ok n (f := f1850) (a0 := [v7]) (a2 := [v1882]) hT1854 hT1855 hTT ⟨_, rfl, ⟨rw8, hR1856, hW1857⟩⟩ ⟨_, rfl, ⟨rw1883, hR1884, hW1885⟩⟩ hx1888)) ?_; clear hs; intro a w hs
         refine uon hs ?_; clear hs; intro a he
         refine uyg (v := .bool ((!x1887))) 24 he rfl (y_not rfl) ?_; clear he; intro a he
         refine uy (v := .bool ((!x1887))) 25 he rfl (y_pick rfl rfl) ?_; clear he; intro a he
         refine uy (v := .bool ((!x1887))) 26 he rfl (y_assign rfl) ?_; clear he; intro a he
         refine T_nil he ?_; clear he; intro w hs; try clear hsD
         exact ⟨_, (!x1887), hbase18, hm, hs.subs ⟨rfl, trivial⟩ (.cons _ (.refl _))⟩
        ·obtain ⟨f1889, hf1890, hs2, hR1891⟩ := hs.frzAt 0 rfl
         clear hs; have hs := hs2; clear hs2
         have hT1892 := hf1890 _ _ hT1573
         have hT1893 := hf1890 _ _ hT1574
         have hR1894 := hR1575.le hf1890
         have hW1895 := hW1576.le hf1890
         have hR1896 := hR1577.le hf1890
         have hW1897 := hW1578.le hf1890
         have hR1898 := hR1579.le hf1890
         have hW1899 := hW1580.le hf1890
         have hR1900 := hR1581.le hf1890
         have hW1901 := hW1582.le hf1890
         have hW1902 := hW1583.le hf1890
         have hR1903 := hR1584.le hf1890
         have hR1904 := hR1585.le hf1890
         have hW1905 := hW1586.le hf1890
         have hW1906 := hW1587.le hf1890
         have hR1907 := hR1588.le hf1890
         have hR1908 := hR1589.le hf1890
         have hW1909 := hW1590.le hf1890
         have hW1910 := hW1591.le hf1890
         have hR1911 := hR1592.le hf1890
         have hR1912 := hR1595.le hf1890
         have hW1913 := hW1596.le hf1890
         have hW1914 := hW1746.le hf1890
         replace hle := hle.trans hf1890
         replace hbase18 := hbase18.trans hf1890
         replace hbd19 := hbd19.trans hf1890
         obtain ⟨x1915, hx1916, hm⟩ := ob hm
         refine RL_callVg hs rfl has15 rfl (law10_name_ok n (f := f1889) (a2 := v1745) ⟨rw1747, hR1891, hW1914⟩ hx1916) ?_; clear hs
         rintro _ f1917 _ a w hf1918 ⟨r1919, rfl, rfl, hq1920⟩ hs
         have hT1921 := hf1918 _ _ hT1892
         have hT1922 := hf1918 _ _ hT1893
         have hR1923 := hR1894.le hf1918
         have hW1924 := hW1895.le hf1918
         have hR1925 := hR1896.le hf1918
         have hW1926 := hW1897.le hf1918
         have hR1927 := hR1898.le hf1918
         have hW1928 := hW1899.le hf1918
         have hR1929 := hR1900.le hf1918
         have hW1930 := hW1901.le hf1918
         have hW1931 := hW1902.le hf1918
         have hR1932 := hR1903.le hf1918
         have hR1933 := hR1904.le hf1918
         have hW1934 := hW1905.le hf1918
         have hW1935 := hW1906.le hf1918
         have hR1936 := hR1907.le hf1918
         have hR1937 := hR1908.le hf1918
         have hW1938 := hW1909.le hf1918
         have hW1939 := hW1910.le hf1918
         have hR1940 := hR1911.le hf1918
         have hR1941 := hR1912.le hf1918
         have hW1942 := hW1913.le hf1918
         have hW1943 := hW1914.le hf1918
         have hR1944 := hR1891.le hf1918
         replace hle := hle.trans hf1918
         replace hbase18 := hbase18.trans hf1918
         replace hbd19 := hbd19.trans hf1918
         obtain ⟨v1945, rfl, ⟨rw1946, hR1947, hW1948⟩⟩ := hq1920
         refine uon hs ?_; clear hs; intro a he
         refine T_any2 he rfl rfl ?_ ?_ <;> (clear he; intro a w hs)
         ·refine syg hs (y_ldB rfl Tryd.underlying24 rfl ti24 (.head _) rfl) ?_; clear hs; intro a w hs
          refine uon hs ?_; clear hs; intro a he
          refine T_any1 he rfl ?_; clear he; intro a w hs
          refine RL_guard hs rfl rfl ?_
          refine RL_bs1a hs rfl Tryd.underlying25 ti35 (by decide) (AllC.row ⟨rfl, rfl, hR1947.one, trivial⟩ rfl) ?_; clear hs; intro v1950 a w hs
          have hW1951 : RW t_sheet_Step f1917 [[.int .i64 (x1915.Comb), .string (x1915.Name), v1945]] [x1915] := RW.single (⟨_, rfl, ⟨rw1946, hR1947, hW1948⟩⟩)
          generalize hgrw1952 : ([[.int .i64 (x1915.Comb), .string (x1915.Name), v1945]] : List (List Value)) = rw1952 at hs hW1951; clear hgrw1952
          have ho1955 : v1950.oneCell' = true := hs.one (i := 0) rfl
          refine uon hs ?_; clear hs; intro a he
          refine T_any1 he rfl ?_; clear he; intro a w hs
          obtain ⟨f1956, hf1957, hs2, hR1958⟩ := hs.frzAt 0 rfl
          clear hs; have hs := hs2; clear hs2
          have hT1959 := hf1957 _ _ hT1921
          have hT1960 := hf1957 _ _ hT1922
          have hR1961 := hR1923.le hf1957
          have hW1962 := hW1924.le hf1957
          have hR1963 := hR1925.le hf1957
          have hW1964 := hW1926.le hf1957
          have hR1965 := hR1927.le hf1957
          have hW1966 := hW1928.le hf1957
          have hR1967 := hR1929.le hf1957
          have hW1968 := hW1930.le hf1957
          have hW1969 := hW1931.le hf1957
          have hR1970 := hR1932.le hf1957
          have hR1971 := hR1933.le hf1957
          have hW1972 := hW1934.le hf1957
          have hW1973 := hW1935.le hf1957
          have hR1974 := hR1936.le hf1957
          have hR1975 := hR1937.le hf1957
          have hW1976 := hW1938.le hf1957
          have hW1977 := hW1939.le hf1957
          have hR1978 := hR1940.le hf1957
          have hR1979 := hR1941.le hf1957
          have hW1980 := hW1942.le hf1957
          have hW1981 := hW1943.le hf1957
          have hR1982 := hR1944.le hf1957
          have hR1983 := hR1947.le hf1957
          have hW1984 := hW1948.le hf1957
          have hW1985 := hW1951.le hf1957
          replace hle := hle.trans hf1957
          replace hbase18 := hbase18.trans hf1957
          replace hbd19 := hbd19.trans hf1957
          obtain ⟨x1986, hx1987, hm⟩ := ob hm
          refine RL_callVg hs rfl has14 rfl (law10_sel_ok n (f := f1956) (a0 := v1950) ⟨rw1952, hR1958, hW1985⟩ hx1987) ?_; clear hs
          rintro _ f1988 _ a w hf1989 ⟨r1990, rfl, rfl, hq1991⟩ hs
          have hT1992 := hf1989 _ _ hT1959
          have hT1993 := hf1989 _ _ hT1960
          have hR1994 := hR1961.le hf1989
          have hW1995 := hW1962.le hf1989
          have hR1996 := hR1963.le hf1989
          have hW1997 := hW1964.le hf1989
          have hR1998 := hR1965.le hf1989
          have hW1999 := hW1966.le hf1989
          have hR2000 := hR1967.le hf1989
          have hW2001 := hW1968.le hf1989
          have hW2002 := hW1969.le hf1989
          have hR2003 := hR1970.le hf1989
          have hR2004 := hR1971.le hf1989
          have hW2005 := hW1972.le hf1989
          have hW2006 := hW1973.le hf1989
          have hR2007 := hR1974.le hf1989
          have hR2008 := hR1975.le hf1989
          have hW2009 := hW1976.le hf1989
          have hW2010 := hW1977.le hf1989
          have hR2011 := hR1978.le hf1989
          have hR2012 := hR1979.le hf1989
          have hW2013 := hW1980.le hf1989
          have hW2014 := hW1981.le hf1989
          have hR2015 := hR1982.le hf1989
          have hR2016 := hR1983.le hf1989
          have hW2017 := hW1984.le hf1989
          have hW2018 := hW1985.le hf1989
          have hR2019 := hR1958.le hf1989
          replace hle := hle.trans hf1989
          replace hbase18 := hbase18.trans hf1989
          replace hbd19 := hbd19.trans hf1989
          obtain ⟨v2020, rfl, ⟨rw2021, hR2022, hW2023⟩⟩ := hq1991
          refine uon hs ?_; clear hs; intro a he
          refine T_any1 he rfl ?_; clear he; intro a w hs
          obtain ⟨x2025, hx2026, hm⟩ := ob hm
          refine syg hs (y_call rfl has12 rfl (match_Match_ok n (f := f1988) (a0 := [v7]) (a2 := [v2020]) hT1992 hT1993 hTT ⟨_, rfl, ⟨rw8, hR1994, hW1995⟩⟩ ⟨_, rfl, ⟨rw2021, hR2022, hW2023⟩⟩ hx2026)) ?_; clear hs; intro a w hs
          refine uon hs ?_; clear hs; intro a he
          refine uyg (v := .bool ((!x2025))) 24 he rfl (y_not rfl) ?_; clear he; intro a he
          refine uy (v := .bool ((!x2025))) 25 he rfl (y_pick rfl rfl) ?_; clear he; intro a he
          refine uy (v := .bool ((!x2025))) 26 he rfl (y_assign rfl) ?_; clear he; intro a he
          refine T_nil he ?_; clear he; intro w hs; try clear hsD
          exact ⟨_, (!x2025), hbase18, hm, hs.subs ⟨rfl, trivial⟩ (.cons _ (.refl _))⟩
         ·refine RL_guard hs rfl rfl ?_
          refine RL_bs1a hs rfl Tryd.underlying25 ti35 (by decide) (AllC.row ⟨rfl, rfl, hR1947.one, trivial⟩ rfl) ?_; clear hs; intro v2027 a w hs
          have hW2028 : RW t_sheet_Step f1917 [[.int .i64 (x1915.Comb), .string (x1915.Name), v1945]] [x1915] := RW.single (⟨_, rfl, ⟨rw1946, hR1947, hW1948⟩⟩)
          generalize hgrw2029 : ([[.int .i64 (x1915.Comb), .string (x1915.Name), v1945]] : List (List Value)) = rw2029 at hs hW2028; clear hgrw2029
          have ho2032 : v2027.oneCell' = true := hs.one (i := 0) rfl
          refine uon hs ?_; clear hs; intro a he
          refine T_any2 he rfl rfl ?_ ?_ <;> (clear he; intro a w hs)
          ·refine syg hs (y_ldB rfl Tryd.underlying24 rfl ti24 (.tail _ (.head _)) rfl) ?_; clear hs; intro a w hs
           refine uon hs ?_; clear hs; intro a he
           refine T_any1 he rfl ?_; clear he; intro a w hs
           obtain ⟨f2033, hf2034, hs2, hR2035⟩ := hs.frzAt 0 rfl
           clear hs; have hs := hs2; clear hs2
           have hT2036 := hf2034 _ _ hT1921
           have hT2037 := hf2034 _ _ hT1922
           have hR2038 := hR1923.le hf2034
           have hW2039 := hW1924.le hf2034
           have hR2040 := hR1925.le hf2034
           have hW2041 := hW1926.le hf2034
           have hR2042 := hR1927.le hf2034
           have hW2043 := hW1928.le hf2034
           have hR2044 := hR1929.le hf2034
           have hW2045 := hW1930.le hf2034
           have hW2046 := hW1931.le hf2034
           have hR2047 := hR1932.le hf2034
           have hR2048 := hR1933.le hf2034
           have hW2049 := hW1934.le hf2034
           have hW2050 := hW1935.le hf2034
           have hR2051 := hR1936.le hf2034
           have hR2052 := hR1937.le hf2034
           have hW2053 := hW1938.le hf2034
           have hW2054 := hW1939.le hf2034
           have hR2055 := hR1940.le hf2034
           have hR2056 := hR1941.le hf2034
           have hW2057 := hW1942.le hf2034
           have hW2058 := hW1943.le hf2034
           have hR2059 := hR1944.le hf2034
           have hR2060 := hR1947.le hf2034
           have hW2061 := hW1948.le hf2034
           have hW2062 := hW2028.le hf2034
           replace hle := hle.trans hf2034
           replace hbase18 := hbase18.trans hf2034
           replace hbd19 := hbd19.trans hf2034
           obtain ⟨x2063, hx2064, hm⟩ := ob hm
           refine RL_callVg hs rfl has14 rfl (law10_sel_ok n (f := f2033) (a0 := v2027) ⟨rw2029, hR2035, hW2062⟩ hx2064) ?_; clear hs
           rintro _ f2065 _ a w hf2066 ⟨r2067, rfl, rfl, hq2068⟩ hs
           have hT2069 := hf2066 _ _ hT2036
           have hT2070 := hf2066 _ _ hT2037
           have hR2071 := hR2038.le hf2066
           have hW2072 := hW2039.le hf2066
           have hR2073 := hR2040.le hf2066
           have hW2074 := hW2041.le hf2066
           have hR2075 := hR2042.le hf2066
           have hW2076 := hW2043.le hf2066
           have hR2077 := hR2044.le hf2066
           have hW2078 := hW2045.le hf2066
           have hW2079 := hW2046.le hf2066
           have hR2080 := hR2047.le hf2066
           have hR2081 := hR2048.le hf2066
           have hW2082 := hW2049.le hf2066
           have hW2083 := hW2050.le hf2066
           have hR2084 := hR2051.le hf2066
           have hR2085 := hR2052.le hf2066
           have hW2086 := hW2053.le hf2066
           have hW2087 := hW2054.le hf2066
           have hR2088 := hR2055.le hf2066
           have hR2089 := hR2056.le hf2066
           have hW2090 := hW2057.le hf2066
           have hW2091 := hW2058.le hf2066
           have hR2092 := hR2059.le hf2066
           have hR2093 := hR2060.le hf2066
           have hW2094 := hW2061.le hf2066
           have hW2095 := hW2062.le hf2066
           have hR2096 := hR2035.le hf2066
           replace hle := hle.trans hf2066
           replace hbase18 := hbase18.trans hf2066
           replace hbd19 := hbd19.trans hf2066
           obtain ⟨v2097, rfl, ⟨rw2098, hR2099, hW2100⟩⟩ := hq2068
           refine uon hs ?_; clear hs; intro a he
           refine T_any1 he rfl ?_; clear he; intro a w hs
           obtain ⟨x2102, hx2103, hm⟩ := ob hm
           refine syg hs (y_call rfl has12 rfl (match_Match_ok n (f := f2065) (a0 := [v7]) (a2 := [v2097]) hT2069 hT2070 hTT ⟨_, rfl, ⟨rw8, hR2071, hW2072⟩⟩ ⟨_, rfl, ⟨rw2098, hR2099, hW2100⟩⟩ hx2103)) ?_; clear hs; intro a w hs
           refine uon hs ?_; clear hs; intro a he
           refine uyg (v := .bool ((!x2102))) 24 he rfl (y_not rfl) ?_; clear he; intro a he
           refine uy (v := .bool ((!x2102))) 25 he rfl (y_pick rfl rfl) ?_; clear he; intro a he
           refine uy (v := .bool ((!x2102))) 26 he rfl (y_assign rfl) ?_; clear he; intro a he
           refine T_nil he ?_; clear he; intro w hs; try clear hsD
           exact ⟨_, (!x2102), hbase18, hm, hs.subs ⟨rfl, trivial⟩ (.cons _ (.refl _))⟩
          ·obtain ⟨f2104, hf2105, hs2, hR2106⟩ := hs.frzAt 0 rfl
           clear hs; have hs := hs2; clear hs2
           have hT2107 := hf2105 _ _ hT1921
           have hT2108 := hf2105 _ _ hT1922
           have hR2109 := hR1923.le hf2105
           have hW2110 := hW1924.le hf2105
           have hR2111 := hR1925.le hf2105
           have hW2112 := hW1926.le hf2105
           have hR2113 := hR1927.le hf2105
           have hW2114 := hW1928.le hf2105
           have hR2115 := hR1929.le hf2105
           have hW2116 := hW1930.le hf2105
           have hW2117 := hW1931.le hf2105
           have hR2118 := hR1932.le hf2105
           have hR2119 := hR1933.le hf2105
           have hW2120 := hW1934.le hf2105
           have hW2121 := hW1935.le hf2105
           have hR2122 := hR1936.le hf2105
           have hR2123 := hR1937.le hf2105
           have hW2124 := hW1938.le hf2105
           have hW2125 := hW1939.le hf2105
           have hR2126 := hR1940.le hf2105
           have hR2127 := hR1941.le hf2105
           have hW2128 := hW1942.le hf2105
           have hW2129 := hW1943.le hf2105
           have hR2130 := hR1944.le hf2105
           have hR2131 := hR1947.le hf2105
           have hW2132 := hW1948.le hf2105
           have hW2133 := hW2028.le hf2105
           replace hle := hle.trans hf2105
           replace hbase18 := hbase18.trans hf2105
           replace hbd19 := hbd19.trans hf2105
           obtain ⟨x2134, hx2135, hm⟩ := ob hm
           refine RL_callVg hs rfl has14 rfl (law10_sel_ok n (f := f2104) (a0 := v2027) ⟨rw2029, hR2106, hW2133⟩ hx2135) ?_; clear hs
           rintro _ f2136 _ a w hf2137 ⟨r2138, rfl, rfl, hq2139⟩ hs
           have hT2140 := hf2137 _ _ hT2107
           have hT2141 := hf2137 _ _ hT2108
           have hR2142 := hR2109.le hf2137
           have hW2143 := hW2110.le hf2137
           have hR2144 := hR2111.le hf2137
           have hW2145 := hW2112.le hf2137
           have hR2146 := hR2113.le hf2137
           have hW2147 := hW2114.le hf2137
           have hR2148 := hR2115.le hf2137
           have hW2149 := hW2116.le hf2137
           have hW2150 := hW2117.le hf2137
           have hR2151 := hR2118.le hf2137
           have hR2152 := hR2119.le hf2137
           have hW2153 := hW2120.le hf2137
           have hW2154 := hW2121.le hf2137
           have hR2155 := hR2122.le hf2137
           have hR2156 := hR2123.le hf2137
           have hW2157 := hW2124.le hf2137
           have hW2158 := hW2125.le hf2137
           have hR2159 := hR2126.le hf2137
           have hR2160 := hR2127.le hf2137
           have hW2161 := hW2128.le hf2137
           have hW2162 := hW2129.le hf2137
           have hR2163 := hR2130.le hf2137
           have hR2164 := hR2131.le hf2137
           have hW2165 := hW2132.le hf2137
           have hW2166 := hW2133.le hf2137
           have hR2167 := hR2106.le hf2137
           replace hle := hle.trans hf2137
           replace hbase18 := hbase18.trans hf2137
           replace hbd19 := hbd19.trans hf2137
           obtain ⟨v2168, rfl, ⟨rw2169, hR2170, hW2171⟩⟩ := hq2139
           refine uon hs ?_; clear hs; intro a he
           refine T_any1 he rfl ?_; clear he; intro a w hs
           refine syg hs (y_ldB rfl Tryd.underlying24 rfl ti24 (.head _) rfl) ?_; clear hs; intro a w hs
           refine uon hs ?_; clear hs; intro a he
           refine T_any1 he rfl ?_; clear he; intro a w hs
           obtain ⟨x2173, hx2174, hm⟩ := ob hm
           refine syg hs (y_call rfl has12 rfl (match_Match_ok n (f := f2136) (a0 := [v7]) (a2 := [v2168]) hT2140 hT2141 hTT ⟨_, rfl, ⟨rw8, hR2142, hW2143⟩⟩ ⟨_, rfl, ⟨rw2169, hR2170, hW2171⟩⟩ hx2174)) ?_; clear hs; intro a w hs
           refine uon hs ?_; clear hs; intro a he
           refine uyg (v := .bool ((!x2173))) 24 he rfl (y_not rfl) ?_; clear he; intro a he
           refine uy (v := .bool ((!x2173))) 25 he rfl (y_pick rfl rfl) ?_; clear he; intro a he
           refine uy (v := .bool ((!x2173))) 26 he rfl (y_assign rfl) ?_; clear he; intro a he
           refine T_nil he ?_; clear he; intro w hs; try clear hsD
           exact ⟨_, (!x2173), hbase18, hm, hs.subs ⟨rfl, trivial⟩ (.cons _ (.refl _))⟩
      ·clear he; have he := hq; clear hq
       replace hm := oc_f hg1600 hm
       refine uno 18 he rfl ?_; clear he; intro a he
       refine T_any2 he rfl rfl ?_ ?_ <;> (clear he; intro a w hs)
       ·refine sno hs ?_; clear hs; intro a w hs
        refine uon hs ?_; clear hs; intro a he
        refine T_any1 he rfl ?_; clear he; intro a w hs
        refine sno hs ?_; clear hs; intro a w hs
        refine uon hs ?_; clear hs; intro a he
        refine T_any1 he rfl ?_; clear he; intro a w hs
        refine sno hs ?_; clear hs; intro a w hs
        refine uon hs ?_; clear hs; intro a he
        refine T_any1 he rfl ?_; clear he; intro a w hs
        refine sno hs ?_; clear hs; intro a w hs
        refine uon hs ?_; clear hs; intro a he
        refine T_any1 he rfl ?_; clear he; intro a w hs
        refine sno hs ?_; clear hs; intro a w hs
        refine uon hs ?_; clear hs; intro a he
        refine T_any1 he rfl ?_; clear he; intro a w hs
        refine sno hs ?_; clear hs; intro a w hs
        refine uon hs ?_; clear hs; intro a he
        refine uno 24 he rfl ?_; clear he; intro a he
        refine uy (v := .bool (false)) 25 he rfl (y_pick rfl rfl) ?_; clear he; intro a he
        refine uy (v := .bool (false)) 26 he rfl (y_assign rfl) ?_; clear he; intro a he
        refine T_nil he ?_; clear he; intro w hs; try clear hsD
        exact ⟨_, false, hbase18, hm, hs.subs ⟨rfl, trivial⟩ (.cons _ (.refl _))⟩
       ·refine sno hs ?_; clear hs; intro a w hs
        refine uon hs ?_; clear hs; intro a he
        refine T_any2 he rfl rfl ?_ ?_ <;> (clear he; intro a w hs)
        ·refine sno hs ?_; clear hs; intro a w hs
         refine uon hs ?_; clear hs; intro a he
         refine T_any1 he rfl ?_; clear he; intro a w hs
         refine sno hs ?_; clear hs; intro a w hs
         refine uon hs ?_; clear hs; intro a he
         refine T_any1 he rfl ?_; clear he; intro a w hs
         refine sno hs ?_; clear hs; intro a w hs
         refine uon hs ?_; clear hs; intro a he
         refine T_any1 he rfl ?_; clear he; intro a w hs
         refine sno hs ?_; clear hs; intro a w hs
         refine uon hs ?_; clear hs; intro a he
         refine T_any1 he rfl ?_; clear he; intro a w hs
         refine sno hs ?_; clear hs; intro a w hs
         refine uon hs ?_; clear hs; intro a he
         refine uno 24 he rfl ?_; clear he; intro a he
         refine uy (v := .bool (false)) 25 he rfl (y_pick rfl rfl) ?_; clear he; intro a he
         refine uy (v := .bool (false)) 26 he rfl (y_assign rfl) ?_; clear he; intro a he
         refine T_nil he ?_; clear he; intro w hs; try clear hsD
         exact ⟨_, false, hbase18, hm, hs.subs ⟨rfl, trivial⟩ (.cons _ (.refl _))⟩
        ·refine sno hs ?_; clear hs; intro a w hs
         refine uon hs ?_; clear hs; intro a he
         refine T_any2 he rfl rfl ?_ ?_ <;> (clear he; intro a w hs)
         ·refine sno hs ?_; clear hs; intro a w hs
          refine uon hs ?_; clear hs; intro a he
          refine T_any1 he rfl ?_; clear he; intro a w hs
          refine sno hs ?_; clear hs; intro a w hs
          refine uon hs ?_; clear hs; intro a he
          refine T_any1 he rfl ?_; clear he; intro a w hs
          refine sno hs ?_; clear hs; intro a w hs
          refine uon hs ?_; clear hs; intro a he
          refine T_any1 he rfl ?_; clear he; intro a w hs
          refine sno hs ?_; clear hs; intro a w hs
          refine uon hs ?_; clear hs; intro a he
          refine uno 24 he rfl ?_; clear he; intro a he
          refine uy (v := .bool (false)) 25 he rfl (y_pick rfl rfl) ?_; clear he; intro a he
          refine uy (v := .bool (false)) 26 he rfl (y_assign rfl) ?_; clear he; intro a he
          refine T_nil he ?_; clear he; intro w hs; try clear hsD
          exact ⟨_, false, hbase18, hm, hs.subs ⟨rfl, trivial⟩ (.cons _ (.refl _))⟩
         ·refine sno hs ?_; clear hs; intro a w hs
          refine uon hs ?_; clear hs; intro a he
          refine T_any2 he rfl rfl ?_ ?_ <;> (clear he; intro a w hs)
          ·refine sno hs ?_; clear hs; intro a w hs
           refine uon hs ?_; clear hs; intro a he
           refine T_any1 he rfl ?_; clear he; intro a w hs
           refine sno hs ?_; clear hs; intro a w hs
           refine uon hs ?_; clear hs; intro a he
           refine T_any1 he rfl ?_; clear he; intro a w hs
           refine sno hs ?_; clear hs; intro a w hs
           refine uon hs ?_; clear hs; intro a he
           refine uno 24 he rfl ?_; clear he; intro a he
           refine uy (v := .bool (false)) 25 he rfl (y_pick rfl rfl) ?_; clear he; intro a he
           refine uy (v := .bool (false)) 26 he rfl (y_assign rfl) ?_; clear he; intro a he
           refine T_nil he ?_; clear he; intro w hs; try clear hsD
           exact ⟨_, false, hbase18, hm, hs.subs ⟨rfl, trivial⟩ (.cons _ (.refl _))⟩
          ·refine sno hs ?_; clear hs; intro a w hs
           refine uon hs ?_; clear hs; intro a he
           refine T_any1 he rfl ?_; clear he; intro a w hs
           refine sno hs ?_; clear hs; intro a w hs
           refine uon hs ?_; clear hs; intro a he
           refine T_any1 he rfl ?_; clear he; intro a w hs
           refine sno hs ?_; clear hs; intro a w hs
           refine uon hs ?_; clear hs; intro a he
           refine uno 24 he rfl ?_; clear he; intro a he
           refine uy (v := .bool (false)) 25 he rfl (y_pick rfl rfl) ?_; clear he; intro a he
           refine uy (v := .bool (false)) 26 he rfl (y_assign rfl) ?_; clear he; intro a he
           refine T_nil he ?_; clear he; intro w hs; try clear hsD
           exact ⟨_, false, hbase18, hm, hs.subs ⟨rfl, trivial⟩ (.cons _ (.refl _))⟩
     ·refine RL_guard hs rfl rfl ?_
      refine RL_bs1a hs rfl Tryd.underlying25 ti35 (by decide) (AllC.row ⟨rfl, rfl, hR1536.one, trivial⟩ rfl) ?_; clear hs; intro v2175 a w hs
      have hW2176 : RW t_sheet_Step f1514 [[.int .i64 (x1512.Comb), .string (x1512.Name), v1534]] [x1512] := RW.single (⟨_, rfl, ⟨rw1535, hR1536, hW1537⟩⟩)
      generalize hgrw2177 : ([[.int .i64 (x1512.Comb), .string (x1512.Name), v1534]] : List (List Value)) = rw2177 at hs hW2176; clear hgrw2177
      have ho2180 : v2175.oneCell' = true := hs.one (i := 0) rfl
      refine uon hs ?_; clear hs; intro a he
      refine T_any2 he rfl rfl ?_ ?_ <;> (clear he; intro a w hs)
      ·refine syg hs (y_ldB rfl Tryd.underlying24 rfl ti24 (.tail _ (.head _)) rfl) ?_; clear hs; intro a w hs
       refine uon hs ?_; clear hs; intro a he
       refine T_any1 he rfl ?_; clear he; intro a w hs
       obtain ⟨f2181, hf2182, hs2, hR2183⟩ := hs.frzAt 0 rfl
       clear hs; have hs := hs2; clear hs2
       have hT2184 := hf2182 _ _ hT1518
       have hT2185 := hf2182 _ _ hT1519
       have hR2186 := hR1520.le hf2182
       have hW2187 := hW1521.le hf2182
       have hR2188 := hR1522.le hf2182
       have hW2189 := hW1523.le hf2182
       have hR2190 := hR1524.le hf2182
       have hW2191 := hW1525.le hf2182
       have hR2192 := hR1526.le hf2182
       have hW2193 := hW1527.le hf2182
       have hW2194 := hW1528.le hf2182
       have hR2195 := hR1529.le hf2182
       have hR2196 := hR1530.le hf2182
       have hW2197 := hW1531.le hf2182
       have hW2198 := hW1532.le hf2182
       have hR2199 := hR1533.le hf2182
       have hR2200 := hR1536.le hf2182
       have hW2201 := hW1537.le hf2182
       have hW2202 := hW2176.le hf2182
       replace hle := hle.trans hf2182
       replace hbase18 := hbase18.trans hf2182
       replace hbd19 := hbd19.trans hf2182
       obtain ⟨x2203, hx2204, hm⟩ := ob hm
       refine RL_callVg hs rfl has14 rfl (law10_sel_ok n (f := f2181) (a0 := v2175) ⟨rw2177, hR2183, hW2202⟩ hx2204) ?_; clear hs
       rintro _ f2205 _ a w hf2206 ⟨r2207, rfl, rfl, hq2208⟩ hs
       have hT2209 := hf2206 _ _ hT2184
       have hT2210 := hf2206 _ _ hT2185
       have hR2211 := hR2186.le hf2206
       have hW2212 := hW2187.le hf2206
       have hR2213 := hR2188.le hf2206
       have hW2214 := hW2189.le hf2206
       have hR2215 := hR2190.le hf2206
       have hW2216 := hW2191.le hf2206
       have hR2217 := hR2192.le hf2206
       have hW2218 := hW2193.le hf2206
       have hW2219 := hW2194.le hf2206
       have hR2220 := hR2195.le hf2206
       have hR2221 := hR2196.le hf2206
       have hW2222 := hW2197.le hf2206
       have hW2223 := hW2198.le hf2206
       have hR2224 := hR2199.le hf2206
       have hR2225 := hR2200.le hf2206
       have hW2226 := hW2201.le hf2206
       have hW2227 := hW2202.le hf2206
       have hR2228 := hR2183.le hf2206
       replace hle := hle.trans hf2206
       replace hbase18 := hbase18.trans hf2206
       replace hbd19 := hbd19.trans hf2206
       obtain ⟨v2229, rfl, ⟨rw2230, hR2231, hW2232⟩⟩ := hq2208
       refine uon hs ?_; clear hs; intro a he
       refine T_any1 he rfl ?_; clear he; intro a w hs
       obtain ⟨x2234, hx2235, hm⟩ := ob hm
       refine syg hs (y_call rfl has12 rfl (match_Match_ok n (f := f2205) (a0 := [v7]) (a2 := [v2229]) hT2209 hT2210 hTT ⟨_, rfl, ⟨rw8, hR2211, hW2212⟩⟩ ⟨_, rfl, ⟨rw2230, hR2231, hW2232⟩⟩ hx2235)) ?_; clear hs; intro a w hs
       refine uon hs ?_; clear hs; intro a he
       refine uy (v := .bool (x2234)) 15 he rfl (y_pick rfl rfl) ?_; clear he; intro a he
       refine uy (v := .bool (x2234)) 16 he rfl (y_move rfl) ?_; clear he; intro a he
       refine Ev.split he (t := 19) rfl (fun hg2236 hq => ?_) (fun hg2236 hq => ?_)
       ·clear he; have he := hq; clear hq
        replace hm := oc_t hg2236 hm
        refine uyg 18 he rfl (y_buildS (places := [(0, 1), (1, 1), (2, 1), (3, 1)]) (cs := [.int .i64 (6), .string ((bs [])), .string ((bs [])), .int .i64 (0)]) rfl Tryd.underlying29 ti29 (by kernel_rfl) (by decide) rfl ⟨rfl, trivial⟩) ?_; clear he; intro a he
        refine T_any2 he rfl rfl ?_ ?_ <;> (clear he; intro a w hs)
        ·refine syg hs (y_ldB rfl Tryd.underlying24 rfl ti24 (.head _) rfl) ?_; clear hs; intro a w hs
         refine uon hs ?_; clear hs; intro a he
         refine T_any1 he rfl ?_; clear he; intro a w hs
         refine RL_guard hs rfl rfl ?_
         refine RL_bs1a hs rfl Tryd.underlying33 ti29 (by decide) (AllC.row ⟨rfl, rfl, rfl, rfl, trivial⟩ rfl) ?_; clear hs; intro v2237 a w hs
         have hW2238 : RW t_sheet_Test f2205 [[.int .i64 (6), .string ((bs [])), .string ((bs [])), .int .i64 (0)]] [({Kind := 6, Name := (bs []), Value := (bs []), N := 0} : sheet_Test)] := RW.single (rfl)
         generalize hgrw2239 : ([[.int .i64 (6), .string ((bs [])), .string ((bs [])), .int .i64 (0)]] : List (List Value)) = rw2239 at hs hW2238; clear hgrw2239
         have ho2242 : v2237.oneCell' = true := hs.one (i := 0) rfl
         refine uon hs ?_; clear hs; intro a he
         refine T_any1 he rfl ?_; clear he; intro a w hs
         obtain ⟨f2243, hf2244, hs2, hR2245⟩ := hs.frzAt 0 rfl
         clear hs; have hs := hs2; clear hs2
         have hT2246 := hf2244 _ _ hT2209
         have hT2247 := hf2244 _ _ hT2210
         have hR2248 := hR2211.le hf2244
         have hW2249 := hW2212.le hf2244
         have hR2250 := hR2213.le hf2244
         have hW2251 := hW2214.le hf2244
         have hR2252 := hR2215.le hf2244
         have hW2253 := hW2216.le hf2244
         have hR2254 := hR2217.le hf2244
         have hW2255 := hW2218.le hf2244
         have hW2256 := hW2219.le hf2244
         have hR2257 := hR2220.le hf2244
         have hR2258 := hR2221.le hf2244
         have hW2259 := hW2222.le hf2244
         have hW2260 := hW2223.le hf2244
         have hR2261 := hR2224.le hf2244
         have hR2262 := hR2225.le hf2244
         have hW2263 := hW2226.le hf2244
         have hW2264 := hW2227.le hf2244
         have hR2265 := hR2228.le hf2244
         have hR2266 := hR2231.le hf2244
         have hW2267 := hW2232.le hf2244
         have hW2268 := hW2238.le hf2244
         replace hle := hle.trans hf2244
         replace hbase18 := hbase18.trans hf2244
         replace hbd19 := hbd19.trans hf2244
         obtain ⟨x2269, hx2270, hm⟩ := ob hm
         refine RL_callVg hs rfl has15 rfl (law10_name_ok n (f := f2243) (a2 := v2237) ⟨rw2239, hR2245, hW2268⟩ hx2270) ?_; clear hs
         rintro _ f2271 _ a w hf2272 ⟨r2273, rfl, rfl, hq2274⟩ hs
         have hT2275 := hf2272 _ _ hT2246
         have hT2276 := hf2272 _ _ hT2247
         have hR2277 := hR2248.le hf2272
         have hW2278 := hW2249.le hf2272
         have hR2279 := hR2250.le hf2272
         have hW2280 := hW2251.le hf2272
         have hR2281 := hR2252.le hf2272
         have hW2282 := hW2253.le hf2272
         have hR2283 := hR2254.le hf2272
         have hW2284 := hW2255.le hf2272
         have hW2285 := hW2256.le hf2272
         have hR2286 := hR2257.le hf2272
         have hR2287 := hR2258.le hf2272
         have hW2288 := hW2259.le hf2272
         have hW2289 := hW2260.le hf2272
         have hR2290 := hR2261.le hf2272
         have hR2291 := hR2262.le hf2272
         have hW2292 := hW2263.le hf2272
         have hW2293 := hW2264.le hf2272
         have hR2294 := hR2265.le hf2272
         have hR2295 := hR2266.le hf2272
         have hW2296 := hW2267.le hf2272
         have hW2297 := hW2268.le hf2272
         have hR2298 := hR2245.le hf2272
         replace hle := hle.trans hf2272
         replace hbase18 := hbase18.trans hf2272
         replace hbd19 := hbd19.trans hf2272
         obtain ⟨v2299, rfl, ⟨rw2300, hR2301, hW2302⟩⟩ := hq2274
         refine uon hs ?_; clear hs; intro a he
         refine T_any1 he rfl ?_; clear he; intro a w hs
         refine RL_guard hs rfl rfl ?_
         refine RL_bs1a hs rfl Tryd.underlying25 ti35 (by decide) (AllC.row ⟨rfl, rfl, hR2301.one, trivial⟩ rfl) ?_; clear hs; intro v2304 a w hs
         have hW2305 : RW t_sheet_Step f2271 [[.int .i64 (x2269.Comb), .string (x2269.Name), v2299]] [x2269] := RW.single (⟨_, rfl, ⟨rw2300, hR2301, hW2302⟩⟩)
         generalize hgrw2306 : ([[.int .i64 (x2269.Comb), .string (x2269.Name), v2299]] : List (List Value)) = rw2306 at hs hW2305; clear hgrw2306
         have ho2309 : v2304.oneCell' = true := hs.one (i := 0) rfl
         refine uon hs ?_; clear hs; intro a he
         refine T_any1 he rfl ?_; clear he; intro a w hs
         obtain ⟨f2310, hf2311, hs2, hR2312⟩ := hs.frzAt 0 rfl
         clear hs; have hs := hs2; clear hs2
         have hT2313 := hf2311 _ _ hT2275
         have hT2314 := hf2311 _ _ hT2276
         have hR2315 := hR2277.le hf2311
         have hW2316 := hW2278.le hf2311
         have hR2317 := hR2279.le hf2311
         have hW2318 := hW2280.le hf2311
         have hR2319 := hR2281.le hf2311
         have hW2320 := hW2282.le hf2311
         have hR2321 := hR2283.le hf2311
         have hW2322 := hW2284.le hf2311
         have hW2323 := hW2285.le hf2311
         have hR2324 := hR2286.le hf2311
         have hR2325 := hR2287.le hf2311
         have hW2326 := hW2288.le hf2311
         have hW2327 := hW2289.le hf2311
         have hR2328 := hR2290.le hf2311
         have hR2329 := hR2291.le hf2311
         have hW2330 := hW2292.le hf2311
         have hW2331 := hW2293.le hf2311
         have hR2332 := hR2294.le hf2311
         have hR2333 := hR2295.le hf2311
         have hW2334 := hW2296.le hf2311
         have hW2335 := hW2297.le hf2311
         have hR2336 := hR2298.le hf2311
         have hR2337 := hR2301.le hf2311
         have hW2338 := hW2302.le hf2311
         have hW2339 := hW2305.le hf2311
         replace hle := hle.trans hf2311
         replace hbase18 := hbase18.trans hf2311
         replace hbd19 := hbd19.trans hf2311
         obtain ⟨x2340, hx2341, hm⟩ := ob hm
         refine RL_callVg hs rfl has14 rfl (law10_sel_ok n (f := f2310) (a0 := v2304) ⟨rw2306, hR2312, hW2339⟩ hx2341) ?_; clear hs
         rintro _ f2342 _ a w hf2343 ⟨r2344, rfl, rfl, hq2345⟩ hs
         have hT2346 := hf2343 _ _ hT2313
         have hT2347 := hf2343 _ _ hT2314
         have hR2348 := hR2315.le hf2343
         have hW2349 := hW2316.le hf2343
         have hR2350 := hR2317.le hf2343
         have hW2351 := hW2318.le hf2343
         have hR2352 := hR2319.le hf2343
         have hW2353 := hW2320.le hf2343
         have hR2354 := hR2321.le hf2343
         have hW2355 := hW2322.le hf2343
         have hW2356 := hW2323.le hf2343
         have hR2357 := hR2324.le hf2343
         have hR2358 := hR2325.le hf2343
         have hW2359 := hW2326.le hf2343
         have hW2360 := hW2327.le hf2343
         have hR2361 := hR2328.le hf2343
         have hR2362 := hR2329.le hf2343
         have hW2363 := hW2330.le hf2343
         have hW2364 := hW2331.le hf2343
         have hR2365 := hR2332.le hf2343
         have hR2366 := hR2333.le hf2343
         have hW2367 := hW2334.le hf2343
         have hW2368 := hW2335.le hf2343
         have hR2369 := hR2336.le hf2343
         have hR2370 := hR2337.le hf2343
         have hW2371 := hW2338.le hf2343
         have hW2372 := hW2339.le hf2343
         have hR2373 := hR2312.le hf2343
         replace hle := hle.trans hf2343
         replace hbase18 := hbase18.trans hf2343
         replace hbd19 := hbd19.trans hf2343
         obtain ⟨v2374, rfl, ⟨rw2375, hR2376, hW2377⟩⟩ := hq2345
         refine uon hs ?_; clear hs; intro a he
         refine T_any1 he rfl ?_; clear he; intro a w hs
         obtain ⟨x2379, hx2380, hm⟩ := ob hm
         refine syg hs (y_call rfl has12 rfl (match_Match_ok n (f := f2342) (a0 := [v7]) (a2 := [v2374]) hT2346 hT2347 hTT ⟨_, rfl, ⟨rw8, hR2348, hW2349⟩⟩ ⟨_, rfl, ⟨rw2375, hR2376, hW2377⟩⟩ hx2380)) ?_; clear hs; intro a w hs
         refine uon hs ?_; clear hs; intro a he
         refine uyg (v := .bool ((!x2379))) 24 he rfl (y_not rfl) ?_; clear he; intro a he
         refine uy (v := .bool ((!x2379))) 25 he rfl (y_pick rfl rfl) ?_; clear he; intro a he
         refine uy (v := .bool ((!x2379))) 26 he rfl (y_assign rfl) ?_; clear he; intro a he
         refine T_nil he ?_; clear he; intro w hs; try clear hsD
         exact ⟨_, (!x2379), hbase18, hm, hs.subs ⟨rfl, trivial⟩ (.cons _ (.refl _))⟩
        ·refine RL_guard hs rfl rfl ?_
         refine RL_bs1a hs rfl Tryd.underlying33 ti29 (by decide) (AllC.row ⟨rfl, rfl, rfl, rfl, trivial⟩ rfl) ?_; clear hs; intro v2381 a w hs
         have hW2382 : RW t_sheet_Test f2205 [[.int .i64 (6), .string ((bs [])), .string ((bs [])), .int .i64 (0)]] [({Kind := 6, Name := (bs []), Value := (bs []), N := 0} : sheet_Test)] := RW.single (rfl)
         generalize hgrw2383 : ([[.int .i64 (6), .string ((bs [])), .string ((bs [])), .int .i64 (0)]] : List (List Value)) = rw2383 at hs hW2382; clear hgrw2383
         have ho2386 : v2381.oneCell' = true := hs.one (i := 0) rfl
         refine uon hs ?_; clear hs; intro a he
         refine T_any2 he rfl rfl ?_ ?_ <;> (clear he; intro a w hs)
         ·refine syg hs (y_ldB rfl Tryd.underlying24 rfl ti24 (.tail _ (.head _)) rfl) ?_; clear hs; intro a w hs
          refine uon hs ?_; clear hs; intro a he
          refine T_any1 he rfl ?_; clear he; intro a w hs
          obtain ⟨f2387, hf2388, hs2, hR2389⟩ := hs.frzAt 0 rfl
          clear hs; have hs := hs2; clear hs2
          have hT2390 := hf2388 _ _ hT2209
          have hT2391 := hf2388 _ _ hT2210
          have hR2392 := hR2211.le hf2388
          have hW2393 := hW2212.le hf2388
          have hR2394 := hR2213.le hf2388
          have hW2395 := hW2214.le hf2388
          have hR2396 := hR2215.le hf2388
          have hW2397 := hW2216.le hf2388
          have hR2398 := hR2217.le hf2388
          have hW2399 := hW2218.le hf2388
          have hW2400 := hW2219.le hf2388
          have hR2401 := hR2220.le hf2388
          have hR2402 := hR2221.le hf2388
          have hW2403 := hW2222.le hf2388
          have hW2404 := hW2223.le hf2388
          have hR2405 := hR2224.le hf2388
          have hR2406 := hR2225.le hf2388
          have hW2407 := hW2226.le hf2388
          have hW2408 := hW2227.le hf2388
          have hR2409 := hR2228.le hf2388
          have hR2410 := hR2231.le hf2388
          have hW2411 := hW2232.le hf2388
          have hW2412 := hW2382.le hf2388
          replace hle := hle.trans hf2388
          replace hbase18 := hbase18.trans hf2388
          replace hbd19 := hbd19.trans hf2388
          obtain ⟨x2413, hx2414, hm⟩ := ob hm
          refine RL_callVg hs rfl has15 rfl (law10_name_ok n (f := f2387) (a2 := v2381) ⟨rw2383, hR2389, hW2412⟩ hx2414) ?_; clear hs
          rintro _ f2415 _ a w hf2416 ⟨r2417, rfl, rfl, hq2418⟩ hs
          have hT2419 := hf2416 _ _ hT2390
          have hT2420 := hf2416 _ _ hT2391
          have hR2421 := hR2392.le hf2416
          have hW2422 := hW2393.le hf2416
          have hR2423 := hR2394.le hf2416
          have hW2424 := hW2395.le hf2416
          have hR2425 := hR2396.le hf2416
          have hW2426 := hW2397.le hf2416
          have hR2427 := hR2398.le hf2416
          have hW2428 := hW2399.le hf2416
          have hW2429 := hW2400.le hf2416
          have hR2430 := hR2401.le hf2416
          have hR2431 := hR2402.le hf2416
          have hW2432 := hW2403.le hf2416
          have hW2433 := hW2404.le hf2416
          have hR2434 := hR2405.le hf2416
          have hR2435 := hR2406.le hf2416
          have hW2436 := hW2407.le hf2416
          have hW2437 := hW2408.le hf2416
          have hR2438 := hR2409.le hf2416
          have hR2439 := hR2410.le hf2416
          have hW2440 := hW2411.le hf2416
          have hW2441 := hW2412.le hf2416
          have hR2442 := hR2389.le hf2416
          replace hle := hle.trans hf2416
          replace hbase18 := hbase18.trans hf2416
          replace hbd19 := hbd19.trans hf2416
          obtain ⟨v2443, rfl, ⟨rw2444, hR2445, hW2446⟩⟩ := hq2418
          refine uon hs ?_; clear hs; intro a he
          refine T_any1 he rfl ?_; clear he; intro a w hs
          refine RL_guard hs rfl rfl ?_
          refine RL_bs1a hs rfl Tryd.underlying25 ti35 (by decide) (AllC.row ⟨rfl, rfl, hR2445.one, trivial⟩ rfl) ?_; clear hs; intro v2448 a w hs
          have hW2449 : RW t_sheet_Step f2415 [[.int .i64 (x2413.Comb), .string (x2413.Name), v2443]] [x2413] := RW.single (⟨_, rfl, ⟨rw2444, hR2445, hW2446⟩⟩)
          generalize hgrw2450 : ([[.int .i64 (x2413.Comb), .string (x2413.Name), v2443]] : List (List Value)) = rw2450 at hs hW2449; clear hgrw2450
          have ho2453 : v2448.oneCell' = true := hs.one (i := 0) rfl
          refine uon hs ?_; clear hs; intro a he
          refine T_any1 he rfl ?_; clear he; intro a w hs
          obtain ⟨f2454, hf2455, hs2, hR2456⟩ := hs.frzAt 0 rfl
          clear hs; have hs := hs2; clear hs2
          have hT2457 := hf2455 _ _ hT2419
          have hT2458 := hf2455 _ _ hT2420
          have hR2459 := hR2421.le hf2455
          have hW2460 := hW2422.le hf2455
          have hR2461 := hR2423.le hf2455
          have hW2462 := hW2424.le hf2455
          have hR2463 := hR2425.le hf2455
          have hW2464 := hW2426.le hf2455
          have hR2465 := hR2427.le hf2455
          have hW2466 := hW2428.le hf2455
          have hW2467 := hW2429.le hf2455
          have hR2468 := hR2430.le hf2455
          have hR2469 := hR2431.le hf2455
          have hW2470 := hW2432.le hf2455
          have hW2471 := hW2433.le hf2455
          have hR2472 := hR2434.le hf2455
          have hR2473 := hR2435.le hf2455
          have hW2474 := hW2436.le hf2455
          have hW2475 := hW2437.le hf2455
          have hR2476 := hR2438.le hf2455
          have hR2477 := hR2439.le hf2455
          have hW2478 := hW2440.le hf2455
          have hW2479 := hW2441.le hf2455
          have hR2480 := hR2442.le hf2455
          have hR2481 := hR2445.le hf2455
          have hW2482 := hW2446.le hf2455
          have hW2483 := hW2449.le hf2455
          replace hle := hle.trans hf2455
          replace hbase18 := hbase18.trans hf2455
          replace hbd19 := hbd19.trans hf2455
          obtain ⟨x2484, hx2485, hm⟩ := ob hm
          refine RL_callVg hs rfl has14 rfl (law10_sel_ok n (f := f2454) (a0 := v2448) ⟨rw2450, hR2456, hW2483⟩ hx2485) ?_; clear hs
          rintro _ f2486 _ a w hf2487 ⟨r2488, rfl, rfl, hq2489⟩ hs
          have hT2490 := hf2487 _ _ hT2457
          have hT2491 := hf2487 _ _ hT2458
          have hR2492 := hR2459.le hf2487
          have hW2493 := hW2460.le hf2487
          have hR2494 := hR2461.le hf2487
          have hW2495 := hW2462.le hf2487
          have hR2496 := hR2463.le hf2487
          have hW2497 := hW2464.le hf2487
          have hR2498 := hR2465.le hf2487
          have hW2499 := hW2466.le hf2487
          have hW2500 := hW2467.le hf2487
          have hR2501 := hR2468.le hf2487
          have hR2502 := hR2469.le hf2487
          have hW2503 := hW2470.le hf2487
          have hW2504 := hW2471.le hf2487
          have hR2505 := hR2472.le hf2487
          have hR2506 := hR2473.le hf2487
          have hW2507 := hW2474.le hf2487
          have hW2508 := hW2475.le hf2487
          have hR2509 := hR2476.le hf2487
          have hR2510 := hR2477.le hf2487
          have hW2511 := hW2478.le hf2487
          have hW2512 := hW2479.le hf2487
          have hR2513 := hR2480.le hf2487
          have hR2514 := hR2481.le hf2487
          have hW2515 := hW2482.le hf2487
          have hW2516 := hW2483.le hf2487
          have hR2517 := hR2456.le hf2487
          replace hle := hle.trans hf2487
          replace hbase18 := hbase18.trans hf2487
          replace hbd19 := hbd19.trans hf2487
          obtain ⟨v2518, rfl, ⟨rw2519, hR2520, hW2521⟩⟩ := hq2489
          refine uon hs ?_; clear hs; intro a he
          refine T_any1 he rfl ?_; clear he; intro a w hs
          obtain ⟨x2523, hx2524, hm⟩ := ob hm
          refine syg hs (y_call rfl has12 rfl (match_Match_ok n (f := f2486) (a0 := [v7]) (a2 := [v2518]) hT2490 hT2491 hTT ⟨_, rfl, ⟨rw8, hR2492, hW2493⟩⟩ ⟨_, rfl, ⟨rw2519, hR2520, hW2521⟩⟩ hx2524)) ?_; clear hs; intro a w hs
          refine uon hs ?_; clear hs; intro a he
          refine uyg (v := .bool ((!x2523))) 24 he rfl (y_not rfl) ?_; clear he; intro a he
          refine uy (v := .bool ((!x2523))) 25 he rfl (y_pick rfl rfl) ?_; clear he; intro a he
          refine uy (v := .bool ((!x2523))) 26 he rfl (y_assign rfl) ?_; clear he; intro a he
          refine T_nil he ?_; clear he; intro w hs; try clear hsD
          exact ⟨_, (!x2523), hbase18, hm, hs.subs ⟨rfl, trivial⟩ (.cons _ (.refl _))⟩
         ·obtain ⟨f2525, hf2526, hs2, hR2527⟩ := hs.frzAt 0 rfl
          clear hs; have hs := hs2; clear hs2
          have hT2528 := hf2526 _ _ hT2209
          have hT2529 := hf2526 _ _ hT2210
          have hR2530 := hR2211.le hf2526
          have hW2531 := hW2212.le hf2526
          have hR2532 := hR2213.le hf2526
          have hW2533 := hW2214.le hf2526
          have hR2534 := hR2215.le hf2526
          have hW2535 := hW2216.le hf2526
          have hR2536 := hR2217.le hf2526
          have hW2537 := hW2218.le hf2526
          have hW2538 := hW2219.le hf2526
          have hR2539 := hR2220.le hf2526
          have hR2540 := hR2221.le hf2526
          have hW2541 := hW2222.le hf2526
          have hW2542 := hW2223.le hf2526
          have hR2543 := hR2224.le hf2526
          have hR2544 := hR2225.le hf2526
          have hW2545 := hW2226.le hf2526
          have hW2546 := hW2227.le hf2526
          have hR2547 := hR2228.le hf2526
          have hR2548 := hR2231.le hf2526
          have hW2549 := hW2232.le hf2526
          have hW2550 := hW2382.le hf2526
          replace hle := hle.trans hf2526
          replace hbase18 := hbase18.trans hf2526
          replace hbd19 := hbd19.trans hf2526
          obtain ⟨x2551, hx2552, hm⟩ := ob hm
          refine RL_callVg hs rfl has15 rfl (law10_name_ok n (f := f2525) (a2 := v2381) ⟨rw2383, hR2527, hW2550⟩ hx2552) ?_; clear hs
          rintro _ f2553 _ a w hf2554 ⟨r2555, rfl, rfl, hq2556⟩ hs
          have hT2557 := hf2554 _ _ hT2528
          have hT2558 := hf2554 _ _ hT2529
          have hR2559 := hR2530.le hf2554
          have hW2560 := hW2531.le hf2554
          have hR2561 := hR2532.le hf2554
          have hW2562 := hW2533.le hf2554
          have hR2563 := hR2534.le hf2554
          have hW2564 := hW2535.le hf2554
          have hR2565 := hR2536.le hf2554
          have hW2566 := hW2537.le hf2554
          have hW2567 := hW2538.le hf2554
          have hR2568 := hR2539.le hf2554
          have hR2569 := hR2540.le hf2554
          have hW2570 := hW2541.le hf2554
          have hW2571 := hW2542.le hf2554
          have hR2572 := hR2543.le hf2554
          have hR2573 := hR2544.le hf2554
          have hW2574 := hW2545.le hf2554
          have hW2575 := hW2546.le hf2554
          have hR2576 := hR2547.le hf2554
          have hR2577 := hR2548.le hf2554
          have hW2578 := hW2549.le hf2554
          have hW2579 := hW2550.le hf2554
          have hR2580 := hR2527.le hf2554
          replace hle := hle.trans hf2554
          replace hbase18 := hbase18.trans hf2554
          replace hbd19 := hbd19.trans hf2554
          obtain ⟨v2581, rfl, ⟨rw2582, hR2583, hW2584⟩⟩ := hq2556
          refine uon hs ?_; clear hs; intro a he
          refine T_any2 he rfl rfl ?_ ?_ <;> (clear he; intro a w hs)
          ·refine syg hs (y_ldB rfl Tryd.underlying24 rfl ti24 (.head _) rfl) ?_; clear hs; intro a w hs
           refine uon hs ?_; clear hs; intro a he
           refine T_any1 he rfl ?_; clear he; intro a w hs
           refine RL_guard hs rfl rfl ?_
           refine RL_bs1a hs rfl Tryd.underlying25 ti35 (by decide) (AllC.row ⟨rfl, rfl, hR2583.one, trivial⟩ rfl) ?_; clear hs; intro v2586 a w hs
           have hW2587 : RW t_sheet_Step f2553 [[.int .i64 (x2551.Comb), .string (x2551.Name), v2581]] [x2551] := RW.single (⟨_, rfl, ⟨rw2582, hR2583, hW2584⟩⟩)
           generalize hgrw2588 : ([[.int .i64 (x2551.Comb), .string (x2551.Name), v2581]] : List (List Value)) = rw2588 at hs hW2587; clear hgrw2588
           have ho2591 : v2586.oneCell' = true := hs.one (i := 0) rfl
           refine uon hs ?_; clear hs; intro a he
           refine T_any1 he rfl ?_; clear he; intro a w hs
           obtain ⟨f2592, hf2593, hs2, hR2594⟩ := hs.frzAt 0 rfl
           clear hs; have hs := hs2; clear hs2
           have hT2595 := hf2593 _ _ hT2557
           have hT2596 := hf2593 _ _ hT2558
           have hR2597 := hR2559.le hf2593
           have hW2598 := hW2560.le hf2593
           have hR2599 := hR2561.le hf2593
           have hW2600 := hW2562.le hf2593
           have hR2601 := hR2563.le hf2593
           have hW2602 := hW2564.le hf2593
           have hR2603 := hR2565.le hf2593
           have hW2604 := hW2566.le hf2593
           have hW2605 := hW2567.le hf2593
           have hR2606 := hR2568.le hf2593
           have hR2607 := hR2569.le hf2593
           have hW2608 := hW2570.le hf2593
           have hW2609 := hW2571.le hf2593
           have hR2610 := hR2572.le hf2593
           have hR2611 := hR2573.le hf2593
           have hW2612 := hW2574.le hf2593
           have hW2613 := hW2575.le hf2593
           have hR2614 := hR2576.le hf2593
           have hR2615 := hR2577.le hf2593
           have hW2616 := hW2578.le hf2593
           have hW2617 := hW2579.le hf2593
           have hR2618 := hR2580.le hf2593
           have hR2619 := hR2583.le hf2593
           have hW2620 := hW2584.le hf2593
           have hW2621 := hW2587.le hf2593
           replace hle := hle.trans hf2593
           replace hbase18 := hbase18.trans hf2593
           replace hbd19 := hbd19.trans hf2593
           obtain ⟨x2622, hx2623, hm⟩ := ob hm
           refine RL_callVg hs rfl has14 rfl (law10_sel_ok n (f := f2592) (a0 := v2586) ⟨rw2588, hR2594, hW2621⟩ hx2623) ?_; clear hs
           rintro _ f2624 _ a w hf2625 ⟨r2626, rfl, rfl, hq2627⟩ hs
           have hT2628 := hf2625 _ _ hT2595
           have hT2629 := hf2625 _ _ hT2596
           have hR2630 := hR2597.le hf2625
           have hW2631 := hW2598.le hf2625
           have hR2632 := hR2599.le hf2625
           have hW2633 := hW2600.le hf2625
           have hR2634 := hR2601.le hf2625
           have hW2635 := hW2602.le hf2625
           have hR2636 := hR2603.le hf2625
           have hW2637 := hW2604.le hf2625
           have hW2638 := hW2605.le hf2625
           have hR2639 := hR2606.le hf2625
           have hR2640 := hR2607.le hf2625
           have hW2641 := hW2608.le hf2625
           have hW2642 := hW2609.le hf2625
           have hR2643 := hR2610.le hf2625
           have hR2644 := hR2611.le hf2625
           have hW2645 := hW2612.le hf2625
           have hW2646 := hW2613.le hf2625
           have hR2647 := hR2614.le hf2625
           have hR2648 := hR2615.le hf2625
           have hW2649 := hW2616.le hf2625
           have hW2650 := hW2617.le hf2625
           have hR2651 := hR2618.le hf2625
           have hR2652 := hR2619.le hf2625
           have hW2653 := hW2620.le hf2625
           have hW2654 := hW2621.le hf2625
           have hR2655 := hR2594.le hf2625
           replace hle := hle.trans hf2625
           replace hbase18 := hbase18.trans hf2625
           replace hbd19 := hbd19.trans hf2625
           obtain ⟨v2656, rfl, ⟨rw2657, hR2658, hW2659⟩⟩ := hq2627
           refine uon hs ?_; clear hs; intro a he
           refine T_any1 he rfl ?_; clear he; intro a w hs
           obtain ⟨x2661, hx2662, hm⟩ := ob hm
           refine syg hs (y_call rfl has12 rfl (match_Match_ok n (f := f2624) (a0 := [v7]) (a2 := [v2656]) hT2628 hT2629 hTT ⟨_, rfl, ⟨rw8, hR2630, hW2631⟩⟩ ⟨_, rfl, ⟨rw2657, hR2658, hW2659⟩⟩ hx2662)) ?_; clear hs; intro a w hs
           refine uon hs ?_; clear hs; intro a he
           refine uyg (v := .bool ((!x2661))) 24 he rfl (y_not rfl) ?_; clear he; intro a he
           refine uy (v := .bool ((!x2661))) 25 he rfl (y_pick rfl rfl) ?_; clear he; intro a he
           refine uy (v := .bool ((!x2661))) 26 he rfl (y_assign rfl) ?_; clear he; intro a he
           refine T_nil he ?_; clear he; intro w hs; try clear hsD
           exact ⟨_, (!x2661), hbase18, hm, hs.subs ⟨rfl, trivial⟩ (.cons _ (.refl _))⟩
          ·refine RL_guard hs rfl rfl ?_
           refine RL_bs1a hs rfl Tryd.underlying25 ti35 (by decide) (AllC.row ⟨rfl, rfl, hR2583.one, trivial⟩ rfl) ?_; clear hs; intro v2663 a w hs
           have hW2664 : RW t_sheet_Step f2553 [[.int .i64 (x2551.Comb), .string (x2551.Name), v2581]] [x2551] := RW.single (⟨_, rfl, ⟨rw2582, hR2583, hW2584⟩⟩)
           generalize hgrw2665 : ([[.int .i64 (x2551.Comb), .string (x2551.Name), v2581]] : List (List Value)) = rw2665 at hs hW2664; clear hgrw2665
           have ho2668 : v2663.oneCell' = true := hs.one (i := 0) rfl
           refine uon hs ?_; clear hs; intro a he
           refine T_any2 he rfl rfl ?_ ?_ <;> (clear he; intro a w hs)
           ·refine syg hs (y_ldB rfl Tryd.underlying24 rfl ti24 (.tail _ (.head _)) rfl) ?_; clear hs; intro a w hs
            refine uon hs ?_; clear hs; intro a he
            refine T_any1 he rfl ?_; clear he; intro a w hs
            obtain ⟨f2669, hf2670, hs2, hR2671⟩ := hs.frzAt 0 rfl
            clear hs; have hs := hs2; clear hs2
            have hT2672 := hf2670 _ _ hT2557
            have hT2673 := hf2670 _ _ hT2558
            have hR2674 := hR2559.le hf2670
            have hW2675 := hW2560.le hf2670
            have hR2676 := hR2561.le hf2670
            have hW2677 := hW2562.le hf2670
            have hR2678 := hR2563.le hf2670
            have hW2679 := hW2564.le hf2670
            have hR2680 := hR2565.le hf2670
            have hW2681 := hW2566.le hf2670
            have hW2682 := hW2567.le hf2670
            have hR2683 := hR2568.le hf2670
            have hR2684 := hR2569.le hf2670
            have hW2685 := hW2570.le hf2670
            have hW2686 := hW2571.le hf2670
            have hR2687 := hR2572.le hf2670
            have hR2688 := hR2573.le hf2670
            have hW2689 := hW2574.le hf2670
            have hW2690 := hW2575.le hf2670
            have hR2691 := hR2576.le hf2670
            have hR2692 := hR2577.le hf2670
            have hW2693 := hW2578.le hf2670
            have hW2694 := hW2579.le hf2670
            have hR2695 := hR2580.le hf2670
            have hR2696 := hR2583.le hf2670
            have hW2697 := hW2584.le hf2670
            have hW2698 := hW2664.le hf2670
            replace hle := hle.trans hf2670
            replace hbase18 := hbase18.trans hf2670
            replace hbd19 := hbd19.trans hf2670
            obtain ⟨x2699, hx2700, hm⟩ := ob hm
            refine RL_callVg hs rfl has14 rfl (law10_sel_ok n (f := f2669) (a0 := v2663) ⟨rw2665, hR2671, hW2698⟩ hx2700) ?_; clear hs
            rintro _ f2701 _ a w hf2702 ⟨r2703, rfl, rfl, hq2704⟩ hs
            have hT2705 := hf2702 _ _ hT2672
            have hT2706 := hf2702 _ _ hT2673
            have hR2707 := hR2674.le hf2702
            have hW2708 := hW2675.le hf2702
            have hR2709 := hR2676.le hf2702
            have hW2710 := hW2677.le hf2702
            have hR2711 := hR2678.le hf2702
            have hW2712 := hW2679.le hf2702
            have hR2713 := hR2680.le hf2702
            have hW2714 := hW2681.le hf2702
            have hW2715 := hW2682.le hf2702
            have hR2716 := hR2683.le hf2702
            have hR2717 := hR2684.le hf2702
            have hW2718 := hW2685.le hf2702
            have hW2719 := hW2686.le hf2702
            have hR2720 := hR2687.le hf2702
            have hR2721 := hR2688.le hf2702
            have hW2722 := hW2689.le hf2702
            have hW2723 := hW2690.le hf2702
            have hR2724 := hR2691.le hf2702
            have hR2725 := hR2692.le hf2702
            have hW2726 := hW2693.le hf2702
            have hW2727 := hW2694.le hf2702
            have hR2728 := hR2695.le hf2702
            have hR2729 := hR2696.le hf2702
            have hW2730 := hW2697.le hf2702
            have hW2731 := hW2698.le hf2702
            have hR2732 := hR2671.le hf2702
            replace hle := hle.trans hf2702
            replace hbase18 := hbase18.trans hf2702
            replace hbd19 := hbd19.trans hf2702
            obtain ⟨v2733, rfl, ⟨rw2734, hR2735, hW2736⟩⟩ := hq2704
            refine uon hs ?_; clear hs; intro a he
            refine T_any1 he rfl ?_; clear he; intro a w hs
            obtain ⟨x2738, hx2739, hm⟩ := ob hm
            refine syg hs (y_call rfl has12 rfl (match_Match_ok n (f := f2701) (a0 := [v7]) (a2 := [v2733]) hT2705 hT2706 hTT ⟨_, rfl, ⟨rw8, hR2707, hW2708⟩⟩ ⟨_, rfl, ⟨rw2734, hR2735, hW2736⟩⟩ hx2739)) ?_; clear hs; intro a w hs
            refine uon hs ?_; clear hs; intro a he
            refine uyg (v := .bool ((!x2738))) 24 he rfl (y_not rfl) ?_; clear he; intro a he
            refine uy (v := .bool ((!x2738))) 25 he rfl (y_pick rfl rfl) ?_; clear he; intro a he
            refine uy (v := .bool ((!x2738))) 26 he rfl (y_assign rfl) ?_; clear he; intro a he
            refine T_nil he ?_; clear he; intro w hs; try clear hsD
            exact ⟨_, (!x2738), hbase18, hm, hs.subs ⟨rfl, trivial⟩ (.cons _ (.refl _))⟩
           ·obtain ⟨f2740, hf2741, hs2, hR2742⟩ := hs.frzAt 0 rfl
            clear hs; have hs := hs2; clear hs2
            have hT2743 := hf2741 _ _ hT2557
            have hT2744 := hf2741 _ _ hT2558
            have hR2745 := hR2559.le hf2741
            have hW2746 := hW2560.le hf2741
            have hR2747 := hR2561.le hf2741
            have hW2748 := hW2562.le hf2741
            have hR2749 := hR2563.le hf2741
            have hW2750 := hW2564.le hf2741
            have hR2751 := hR2565.le hf2741
            have hW2752 := hW2566.le hf2741
            have hW2753 := hW2567.le hf2741
            have hR2754 := hR2568.le hf2741
            have hR2755 := hR2569.le hf2741
            have hW2756 := hW2570.le hf2741
            have hW2757 := hW2571.le hf2741
            have hR2758 := hR2572.le hf2741
            have hR2759 := hR2573.le hf2741
            have hW2760 := hW2574.le hf2741
            have hW2761 := hW2575.le hf2741
            have hR2762 := hR2576.le hf2741
            have hR2763 := hR2577.le hf2741
            have hW2764 := hW2578.le hf2741
            have hW2765 := hW2579.le hf2741
            have hR2766 := hR2580.le hf2741
            have hR2767 := hR2583.le hf2741
            have hW2768 := hW2584.le hf2741
            have hW2769 := hW2664.le hf2741
            replace hle := hle.trans hf2741
            replace hbase18 := hbase18.trans hf2741
            replace hbd19 := hbd19.trans hf2741
            obtain ⟨x2770, hx2771, hm⟩ := ob hm
            refine RL_callVg hs rfl has14 rfl (law10_sel_ok n (f := f2740) (a0 := v2663) ⟨rw2665, hR2742, hW2769⟩ hx2771) ?_; clear hs
            rintro _ f2772 _ a w hf2773 ⟨r2774, rfl, rfl, hq2775⟩ hs
            have hT2776 := hf2773 _ _ hT2743
            have hT2777 := hf2773 _ _ hT2744
            have hR2778 := hR2745.le hf2773
            have hW2779 := hW2746.le hf2773
            have hR2780 := hR2747.le hf2773
            have hW2781 := hW2748.le hf2773
            have hR2782 := hR2749.le hf2773
            have hW2783 := hW2750.le hf2773
            have hR2784 := hR2751.le hf2773
            have hW2785 := hW2752.le hf2773
            have hW2786 := hW2753.le hf2773
            have hR2787 := hR2754.le hf2773
            have hR2788 := hR2755.le hf2773
            have hW2789 := hW2756.le hf2773
            have hW2790 := hW2757.le hf2773
            have hR2791 := hR2758.le hf2773
            have hR2792 := hR2759.le hf2773
            have hW2793 := hW2760.le hf2773
            have hW2794 := hW2761.le hf2773
            have hR2795 := hR2762.le hf2773
            have hR2796 := hR2763.le hf2773
            have hW2797 := hW2764.le hf2773
            have hW2798 := hW2765.le hf2773
            have hR2799 := hR2766.le hf2773
            have hR2800 := hR2767.le hf2773
            have hW2801 := hW2768.le hf2773
            have hW2802 := hW2769.le hf2773
            have hR2803 := hR2742.le hf2773
            replace hle := hle.trans hf2773
            replace hbase18 := hbase18.trans hf2773
            replace hbd19 := hbd19.trans hf2773
            obtain ⟨v2804, rfl, ⟨rw2805, hR2806, hW2807⟩⟩ := hq2775
            refine uon hs ?_; clear hs; intro a he
            refine T_any1 he rfl ?_; clear he; intro a w hs
            refine syg hs (y_ldB rfl Tryd.underlying24 rfl ti24 (.head _) rfl) ?_; clear hs; intro a w hs
            refine uon hs ?_; clear hs; intro a he
            refine T_any1 he rfl ?_; clear he; intro a w hs
            obtain ⟨x2809, hx2810, hm⟩ := ob hm
            refine syg hs (y_call rfl has12 rfl (match_Match_ok n (f := f2772) (a0 := [v7]) (a2 := [v2804]) hT2776 hT2777 hTT ⟨_, rfl, ⟨rw8, hR2778, hW2779⟩⟩ ⟨_, rfl, ⟨rw2805, hR2806, hW2807⟩⟩ hx2810)) ?_; clear hs; intro a w hs
            refine uon hs ?_; clear hs; intro a he
            refine uyg (v := .bool ((!x2809))) 24 he rfl (y_not rfl) ?_; clear he; intro a he
            refine uy (v := .bool ((!x2809))) 25 he rfl (y_pick rfl rfl) ?_; clear he; intro a he
            refine uy (v := .bool ((!x2809))) 26 he rfl (y_assign rfl) ?_; clear he; intro a he
            refine T_nil he ?_; clear he; intro w hs; try clear hsD
            exact ⟨_, (!x2809), hbase18, hm, hs.subs ⟨rfl, trivial⟩ (.cons _ (.refl _))⟩
       ·clear he; have he := hq; clear hq
        replace hm := oc_f hg2236 hm
        refine uno 18 he rfl ?_; clear he; intro a he
        refine T_any2 he rfl rfl ?_ ?_ <;> (clear he; intro a w hs)
        ·refine sno hs ?_; clear hs; intro a w hs
         refine uon hs ?_; clear hs; intro a he
         refine T_any1 he rfl ?_; clear he; intro a w hs
         refine sno hs ?_; clear hs; intro a w hs
         refine uon hs ?_; clear hs; intro a he
         refine T_any1 he rfl ?_; clear he; intro a w hs
         refine sno hs ?_; clear hs; intro a w hs
         refine uon hs ?_; clear hs; intro a he
         refine T_any1 he rfl ?_; clear he; intro a w hs
         refine sno hs ?_; clear hs; intro a w hs
         refine uon hs ?_; clear hs; intro a he
         refine T_any1 he rfl ?_; clear he; intro a w hs
         refine sno hs ?_; clear hs; intro a w hs
         refine uon hs ?_; clear hs; intro a he
         refine T_any1 he rfl ?_; clear he; intro a w hs
         refine sno hs ?_; clear hs; intro a w hs
         refine uon hs ?_; clear hs; intro a he
         refine uno 24 he rfl ?_; clear he; intro a he
         refine uy (v := .bool (false)) 25 he rfl (y_pick rfl rfl) ?_; clear he; intro a he
         refine uy (v := .bool (false)) 26 he rfl (y_assign rfl) ?_; clear he; intro a he
         refine T_nil he ?_; clear he; intro w hs; try clear hsD
         exact ⟨_, false, hbase18, hm, hs.subs ⟨rfl, trivial⟩ (.cons _ (.refl _))⟩
        ·refine sno hs ?_; clear hs; intro a w hs
         refine uon hs ?_; clear hs; intro a he
         refine T_any2 he rfl rfl ?_ ?_ <;> (clear he; intro a w hs)
         ·refine sno hs ?_; clear hs; intro a w hs
          refine uon hs ?_; clear hs; intro a he
          refine T_any1 he rfl ?_; clear he; intro a w hs
          refine sno hs ?_; clear hs; intro a w hs
          refine uon hs ?_; clear hs; intro a he
          refine T_any1 he rfl ?_; clear he; intro a w hs
          refine sno hs ?_; clear hs; intro a w hs
          refine uon hs ?_; clear hs; intro a he
          refine T_any1 he rfl ?_; clear he; intro a w hs
          refine sno hs ?_; clear hs; intro a w hs
          refine uon hs ?_; clear hs; intro a he
          refine T_any1 he rfl ?_; clear he; intro a w hs
          refine sno hs ?_; clear hs; intro a w hs
          refine uon hs ?_; clear hs; intro a he
          refine uno 24 he rfl ?_; clear he; intro a he
          refine uy (v := .bool (false)) 25 he rfl (y_pick rfl rfl) ?_; clear he; intro a he
          refine uy (v := .bool (false)) 26 he rfl (y_assign rfl) ?_; clear he; intro a he
          refine T_nil he ?_; clear he; intro w hs; try clear hsD
          exact ⟨_, false, hbase18, hm, hs.subs ⟨rfl, trivial⟩ (.cons _ (.refl _))⟩
         ·refine sno hs ?_; clear hs; intro a w hs
          refine uon hs ?_; clear hs; intro a he
          refine T_any2 he rfl rfl ?_ ?_ <;> (clear he; intro a w hs)
          ·refine sno hs ?_; clear hs; intro a w hs
           refine uon hs ?_; clear hs; intro a he
           refine T_any1 he rfl ?_; clear he; intro a w hs
           refine sno hs ?_; clear hs; intro a w hs
           refine uon hs ?_; clear hs; intro a he
           refine T_any1 he rfl ?_; clear he; intro a w hs
           refine sno hs ?_; clear hs; intro a w hs
           refine uon hs ?_; clear hs; intro a he
           refine T_any1 he rfl ?_; clear he; intro a w hs
           refine sno hs ?_; clear hs; intro a w hs
           refine uon hs ?_; clear hs; intro a he
           refine uno 24 he rfl ?_; clear he; intro a he
           refine uy (v := .bool (false)) 25 he rfl (y_pick rfl rfl) ?_; clear he; intro a he
           refine uy (v := .bool (false)) 26 he rfl (y_assign rfl) ?_; clear he; intro a he
           refine T_nil he ?_; clear he; intro w hs; try clear hsD
           exact ⟨_, false, hbase18, hm, hs.subs ⟨rfl, trivial⟩ (.cons _ (.refl _))⟩
          ·refine sno hs ?_; clear hs; intro a w hs
           refine uon hs ?_; clear hs; intro a he
           refine T_any2 he rfl rfl ?_ ?_ <;> (clear he; intro a w hs)
           ·refine sno hs ?_; clear hs; intro a w hs
            refine uon hs ?_; clear hs; intro a he
            refine T_any1 he rfl ?_; clear he; intro a w hs
            refine sno hs ?_; clear hs; intro a w hs
            refine uon hs ?_; clear hs; intro a he
            refine T_any1 he rfl ?_; clear he; intro a w hs
            refine sno hs ?_; clear hs; intro a w hs
            refine uon hs ?_; clear hs; intro a he
            refine uno 24 he rfl ?_; clear he; intro a he
            refine uy (v := .bool (false)) 25 he rfl (y_pick rfl rfl) ?_; clear he; intro a he
            refine uy (v := .bool (false)) 26 he rfl (y_assign rfl) ?_; clear he; intro a he
            refine T_nil he ?_; clear he; intro w hs; try clear hsD
            exact ⟨_, false, hbase18, hm, hs.subs ⟨rfl, trivial⟩ (.cons _ (.refl _))⟩
           ·refine sno hs ?_; clear hs; intro a w hs
            refine uon hs ?_; clear hs; intro a he
            refine T_any1 he rfl ?_; clear he; intro a w hs
            refine sno hs ?_; clear hs; intro a w hs
            refine uon hs ?_; clear hs; intro a he
            refine T_any1 he rfl ?_; clear he; intro a w hs
            refine sno hs ?_; clear hs; intro a w hs
            refine uon hs ?_; clear hs; intro a he
            refine uno 24 he rfl ?_; clear he; intro a he
            refine uy (v := .bool (false)) 25 he rfl (y_pick rfl rfl) ?_; clear he; intro a he
            refine uy (v := .bool (false)) 26 he rfl (y_assign rfl) ?_; clear he; intro a he
            refine T_nil he ?_; clear he; intro w hs; try clear hsD
            exact ⟨_, false, hbase18, hm, hs.subs ⟨rfl, trivial⟩ (.cons _ (.refl _))⟩
      ·obtain ⟨f2811, hf2812, hs2, hR2813⟩ := hs.frzAt 0 rfl
       clear hs; have hs := hs2; clear hs2
       have hT2814 := hf2812 _ _ hT1518
       have hT2815 := hf2812 _ _ hT1519
       have hR2816 := hR1520.le hf2812
       have hW2817 := hW1521.le hf2812
       have hR2818 := hR1522.le hf2812
       have hW2819 := hW1523.le hf2812
       have hR2820 := hR1524.le hf2812
       have hW2821 := hW1525.le hf2812
       have hR2822 := hR1526.le hf2812
       have hW2823 := hW1527.le hf2812
       have hW2824 := hW1528.le hf2812
       have hR2825 := hR1529.le hf2812
       have hR2826 := hR1530.le hf2812
       have hW2827 := hW1531.le hf2812
       have hW2828 := hW1532.le hf2812
       have hR2829 := hR1533.le hf2812
       have hR2830 := hR1536.le hf2812
       have hW2831 := hW1537.le hf2812
       have hW2832 := hW2176.le hf2812
       replace hle := hle.trans hf2812
       replace hbase18 := hbase18.trans hf2812
       replace hbd19 := hbd19.trans hf2812
       obtain ⟨x2833, hx2834, hm⟩ := ob hm
       refine RL_callVg hs rfl has14 rfl (law10_sel_ok n (f := f2811) (a0 := v2175) ⟨rw2177, hR2813, hW2832⟩ hx2834) ?_; clear hs
       rintro _ f2835 _ a w hf2836 ⟨r2837, rfl, rfl, hq2838⟩ hs
       have hT2839 := hf2836 _ _ hT2814
       have hT2840 := hf2836 _ _ hT2815
       have hR2841 := hR2816.le hf2836
       have hW2842 := hW2817.le hf2836
       have hR2843 := hR2818.le hf2836
       have hW2844 := hW2819.le hf2836
       have hR2845 := hR2820.le hf2836
       have hW2846 := hW2821.le hf2836
       have hR2847 := hR2822.le hf2836
       have hW2848 := hW2823.le hf2836
       have hW2849 := hW2824.le hf2836
       have hR2850 := hR2825.le hf2836
       have hR2851 := hR2826.le hf2836
       have hW2852 := hW2827.le hf2836
       have hW2853 := hW2828.le hf2836
       have hR2854 := hR2829.le hf2836
       have hR2855 := hR2830.le hf2836
       have hW2856 := hW2831.le hf2836
       have hW2857 := hW2832.le hf2836
       have hR2858 := hR2813.le hf2836
       replace hle := hle.trans hf2836
       replace hbase18 := hbase18.trans hf2836
       replace hbd19 := hbd19.trans hf2836
       obtain ⟨v2859, rfl, ⟨rw2860, hR2861, hW2862⟩⟩ := hq2838
       refine uon hs ?_; clear hs; intro a he
       refine T_any1 he rfl ?_; clear he; intro a w hs
       refine syg hs (y_ldB rfl Tryd.underlying24 rfl ti24 (.head _) rfl) ?_; clear hs; intro a w hs
       refine uon hs ?_; clear hs; intro a he
       refine T_any1 he rfl ?_; clear he; intro a w hs
       obtain ⟨x2864, hx2865, hm⟩ := ob hm
       refine syg hs (y_call rfl has12 rfl (match_Match_ok n (f := f2835) (a0 := [v7]) (a2 := [v2859]) hT2839 hT2840 hTT ⟨_, rfl, ⟨rw8, hR2841, hW2842⟩⟩ ⟨_, rfl, ⟨rw2860, hR2861, hW2862⟩⟩ hx2865)) ?_; clear hs; intro a w hs
       refine uon hs ?_; clear hs; intro a he
       refine uy (v := .bool (x2864)) 15 he rfl (y_pick rfl rfl) ?_; clear he; intro a he
       refine uy (v := .bool (x2864)) 16 he rfl (y_move rfl) ?_; clear he; intro a he
       refine Ev.split he (t := 19) rfl (fun hg2866 hq => ?_) (fun hg2866 hq => ?_)
       ·clear he; have he := hq; clear hq
        replace hm := oc_t hg2866 hm
        refine uyg 18 he rfl (y_buildS (places := [(0, 1), (1, 1), (2, 1), (3, 1)]) (cs := [.int .i64 (6), .string ((bs [])), .string ((bs [])), .int .i64 (0)]) rfl Tryd.underlying29 ti29 (by kernel_rfl) (by decide) rfl ⟨rfl, trivial⟩) ?_; clear he; intro a he
        refine T_any2 he rfl rfl ?_ ?_ <;> (clear he; intro a w hs)
        ·refine syg hs (y_ldB rfl Tryd.underlying24 rfl ti24 (.head _) rfl) ?_; clear hs; intro a w hs
         refine uon hs ?_; clear hs; intro a he
         refine T_any1 he rfl ?_; clear he; intro a w hs
         refine RL_guard hs rfl rfl ?_
         refine RL_bs1a hs rfl Tryd.underlying33 ti29 (by decide) (AllC.row ⟨rfl, rfl, rfl, rfl, trivial⟩ rfl) ?_; clear hs; intro v2867 a w hs
         have hW2868 : RW t_sheet_Test f2835 [[.int .i64 (6), .string ((bs [])), .string ((bs [])), .int .i64 (0)]] [({Kind := 6, Name := (bs []), Value := (bs []), N := 0} : sheet_Test)] := RW.single (rfl)
         generalize hgrw2869 : ([[.int .i64 (6), .string ((bs [])), .string ((bs [])), .int .i64 (0)]] : List (List Value)) = rw2869 at hs hW2868; clear hgrw2869
         have ho2872 : v2867.oneCell' = true := hs.one (i := 0) rfl
         refine uon hs ?_; clear hs; intro a he
         refine T_any1 he rfl ?_; clear he; intro a w hs
         obtain ⟨f2873, hf2874, hs2, hR2875⟩ := hs.frzAt 0 rfl
         clear hs; have hs := hs2; clear hs2
         have hT2876 := hf2874 _ _ hT2839
         have hT2877 := hf2874 _ _ hT2840
         have hR2878 := hR2841.le hf2874
         have hW2879 := hW2842.le hf2874
         have hR2880 := hR2843.le hf2874
         have hW2881 := hW2844.le hf2874
         have hR2882 := hR2845.le hf2874
         have hW2883 := hW2846.le hf2874
         have hR2884 := hR2847.le hf2874
         have hW2885 := hW2848.le hf2874
         have hW2886 := hW2849.le hf2874
         have hR2887 := hR2850.le hf2874
         have hR2888 := hR2851.le hf2874
         have hW2889 := hW2852.le hf2874
         have hW2890 := hW2853.le hf2874
         have hR2891 := hR2854.le hf2874
         have hR2892 := hR2855.le hf2874
         have hW2893 := hW2856.le hf2874
         have hW2894 := hW2857.le hf2874
         have hR2895 := hR2858.le hf2874
         have hR2896 := hR2861.le hf2874
         have hW2897 := hW2862.le hf2874
         have hW2898 := hW2868.le hf2874
         replace hle := hle.trans hf2874
         replace hbase18 := hbase18.trans hf2874
         replace hbd19 := hbd19.trans hf2874
         obtain ⟨x2899, hx2900, hm⟩ := ob hm
         refine RL_callVg hs rfl has15 rfl (law10_name_ok n (f := f2873) (a2 := v2867) ⟨rw2869, hR2875, hW2898⟩ hx2900) ?_; clear hs
         rintro _ f2901 _ a w hf2902 ⟨r2903, rfl, rfl, hq2904⟩ hs
         have hT2905 := hf2902 _ _ hT2876
         have hT2906 := hf2902 _ _ hT2877
         have hR2907 := hR2878.le hf2902
         have hW2908 := hW2879.le hf2902
         have hR2909 := hR2880.le hf2902
         have hW2910 := hW2881.le hf2902
         have hR2911 := hR2882.le hf2902
         have hW2912 := hW2883.le hf2902
         have hR2913 := hR2884.le hf2902
         have hW2914 := hW2885.le hf2902
         have hW2915 := hW2886.le hf2902
         have hR2916 := hR2887.le hf2902
         have hR2917 := hR2888.le hf2902
         have hW2918 := hW2889.le hf2902
         have hW2919 := hW2890.le hf2902
         have hR2920 := hR2891.le hf2902
         have hR2921 := hR2892.le hf2902
         have hW2922 := hW2893.le hf2902
         have hW2923 := hW2894.le hf2902
         have hR2924 := hR2895.le hf2902
         have hR2925 := hR2896.le hf2902
         have hW2926 := hW2897.le hf2902
         have hW2927 := hW2898.le hf2902
         have hR2928 := hR2875.le hf2902
         replace hle := hle.trans hf2902
         replace hbase18 := hbase18.trans hf2902
         replace hbd19 := hbd19.trans hf2902
         obtain ⟨v2929, rfl, ⟨rw2930, hR2931, hW2932⟩⟩ := hq2904
         refine uon hs ?_; clear hs; intro a he
         refine T_any1 he rfl ?_; clear he; intro a w hs
         refine RL_guard hs rfl rfl ?_
         refine RL_bs1a hs rfl Tryd.underlying25 ti35 (by decide) (AllC.row ⟨rfl, rfl, hR2931.one, trivial⟩ rfl) ?_; clear hs; intro v2934 a w hs
         have hW2935 : RW t_sheet_Step f2901 [[.int .i64 (x2899.Comb), .string (x2899.Name), v2929]] [x2899] := RW.single (⟨_, rfl, ⟨rw2930, hR2931, hW2932⟩⟩)
         generalize hgrw2936 : ([[.int .i64 (x2899.Comb), .string (x2899.Name), v2929]] : List (List Value)) = rw2936 at hs hW2935; clear hgrw2936
         have ho2939 : v2934.oneCell' = true := hs.one (i := 0) rfl
         refine uon hs ?_; clear hs; intro a he
         refine T_any1 he rfl ?_; clear he; intro a w hs
         obtain ⟨f2940, hf2941, hs2, hR2942⟩ := hs.frzAt 0 rfl
         clear hs; have hs := hs2; clear hs2
         have hT2943 := hf2941 _ _ hT2905
         have hT2944 := hf2941 _ _ hT2906
         have hR2945 := hR2907.le hf2941
         have hW2946 := hW2908.le hf2941
         have hR2947 := hR2909.le hf2941
         have hW2948 := hW2910.le hf2941
         have hR2949 := hR2911.le hf2941
         have hW2950 := hW2912.le hf2941
         have hR2951 := hR2913.le hf2941
         have hW2952 := hW2914.le hf2941
         have hW2953 := hW2915.le hf2941
         have hR2954 := hR2916.le hf2941
         have hR2955 := hR2917.le hf2941
         have hW2956 := hW2918.le hf2941
         have hW2957 := hW2919.le hf2941
         have hR2958 := hR2920.le hf2941
         have hR2959 := hR2921.le hf2941
         have hW2960 := hW2922.le hf2941
         have hW2961 := hW2923.le hf2941
         have hR2962 := hR2924.le hf2941
         have hR2963 := hR2925.le hf2941
         have hW2964 := hW2926.le hf2941
         have hW2965 := hW2927.le hf2941
         have hR2966 := hR2928.le hf2941
         have hR2967 := hR2931.le hf2941
         have hW2968 := hW2932.le hf2941
         have hW2969 := hW2935.le hf2941
         replace hle := hle.trans hf2941
         replace hbase18 := hbase18.trans hf2941
         replace hbd19 := hbd19.trans hf2941
         obtain ⟨x2970, hx2971, hm⟩ := ob hm
         refine RL_callVg hs rfl has14 rfl (law10_sel_ok n (f := f2940) (a0 := v2934) ⟨rw2936, hR2942, hW2969⟩ hx2971) ?_; clear hs
         rintro _ f2972 _ a w hf2973 ⟨r2974, rfl, rfl, hq2975⟩ hs
         have hT2976 := hf2973 _ _ hT2943
         have hT2977 := hf2973 _ _ hT2944
         have hR2978 := hR2945.le hf2973
         have hW2979 := hW2946.le hf2973
         have hR2980 := hR2947.le hf2973
         have hW2981 := hW2948.le hf2973
         have hR2982 := hR2949.le hf2973
         have hW2983 := hW2950.le hf2973
         have hR2984 := hR2951.le hf2973
         have hW2985 := hW2952.le hf2973
         have hW2986 := hW2953.le hf2973
         have hR2987 := hR2954.le hf2973
         have hR2988 := hR2955.le hf2973
         have hW2989 := hW2956.le hf2973
         have hW2990 := hW2957.le hf2973
         have hR2991 := hR2958.le hf2973
         have hR2992 := hR2959.le hf2973
         have hW2993 := hW2960.le hf2973
         have hW2994 := hW2961.le hf2973
         have hR2995 := hR2962.le hf2973
         have hR2996 := hR2963.le hf2973
         have hW2997 := hW2964.le hf2973
         have hW2998 := hW2965.le hf2973
         have hR2999 := hR2966.le hf2973
         have hR3000 := hR2967.le hf2973
         have hW3001 := hW2968.le hf2973
         have hW3002 := hW2969.le hf2973
         have hR3003 := hR2942.le hf2973
         replace hle := hle.trans hf2973
         replace hbase18 := hbase18.trans hf2973
         replace hbd19 := hbd19.trans hf2973
         obtain ⟨v3004, rfl, ⟨rw3005, hR3006, hW3007⟩⟩ := hq2975
         refine uon hs ?_; clear hs; intro a he
         refine T_any1 he rfl ?_; clear he; intro a w hs
         obtain ⟨x3009, hx3010, hm⟩ := ob hm
         refine syg hs (y_call rfl has12 rfl (match_Match_ok n (f := f2972) (a0 := [v7]) (a2 := [v3004]) hT2976 hT2977 hTT ⟨_, rfl, ⟨rw8, hR2978, hW2979⟩⟩ ⟨_, rfl, ⟨rw3005, hR3006, hW3007⟩⟩ hx3010)) ?_; clear hs; intro a w hs
         refine uon hs ?_; clear hs; intro a he
         refine uyg (v := .bool ((!x3009))) 24 he rfl (y_not rfl) ?_; clear he; intro a he
         refine uy (v := .bool ((!x3009))) 25 he rfl (y_pick rfl rfl) ?_; clear he; intro a he
         refine uy (v := .bool ((!x3009))) 26 he rfl (y_assign rfl) ?_; clear he; intro a he
         refine T_nil he ?_; clear he; intro w hs; try clear hsD
         exact ⟨_, (!x3009), hbase18, hm, hs.subs ⟨rfl, trivial⟩ (.cons _ (.refl _))⟩
        ·refine RL_guard hs rfl rfl ?_
         refine RL_bs1a hs rfl Tryd.underlying33 ti29 (by decide) (AllC.row ⟨rfl, rfl, rfl, rfl, trivial⟩ rfl) ?_; clear hs; intro v3011 a w hs
         have hW3012 : RW t_sheet_Test f2835 [[.int .i64 (6), .string ((bs [])), .string ((bs [])), .int .i64 (0)]] [({Kind := 6, Name := (bs []), Value := (bs []), N := 0} : sheet_Test)] := RW.single (rfl)
         generalize hgrw3013 : ([[.int .i64 (6), .string ((bs [])), .string ((bs [])), .int .i64 (0)]] : List (List Value)) = rw3013 at hs hW3012; clear hgrw3013
         have ho3016 : v3011.oneCell' = true := hs.one (i := 0) rfl
         refine uon hs ?_; clear hs; intro a he
         refine T_any2 he rfl rfl ?_ ?_ <;> (clear he; intro a w hs)
         ·refine syg hs (y_ldB rfl Tryd.underlying24 rfl ti24 (.tail _ (.head _)) rfl) ?_; clear hs; intro a w hs
          refine uon hs ?_; clear hs; intro a he
          refine T_any1 he rfl ?_; clear he; intro a w hs
          obtain ⟨f3017, hf3018, hs2, hR3019⟩ := hs.frzAt 0 rfl
          clear hs; have hs := hs2; clear hs2
          have hT3020 := hf3018 _ _ hT2839
          have hT3021 := hf3018 _ _ hT2840
          have hR3022 := hR2841.le hf3018
          have hW3023 := hW2842.le hf3018
          have hR3024 := hR2843.le hf3018
          have hW3025 := hW2844.le hf3018
          have hR3026 := hR2845.le hf3018
          have hW3027 := hW2846.le hf3018
          have hR3028 := hR2847.le hf3018
          have hW3029 := hW2848.le hf3018
          have hW3030 := hW2849.le hf3018
          have hR3031 := hR2850.le hf3018
          have hR3032 := hR2851.le hf3018
          have hW3033 := hW2852.le hf3018
          have hW3034 := hW2853.le hf3018
          have hR3035 := hR2854.le hf3018
          have hR3036 := hR2855.le hf3018
          have hW3037 := hW2856.le hf3018
          have hW3038 := hW2857.le hf3018
          have hR3039 := hR2858.le hf3018
          have hR3040 := hR2861.le hf3018
          have hW3041 := hW2862.le hf3018
          have hW3042 := hW3012.le hf3018
          replace hle := hle.trans hf3018
          replace hbase18 := hbase18.trans hf3018
          replace hbd19 := hbd19.trans hf3018
          obtain ⟨x3043, hx3044, hm⟩ := ob hm
          refine RL_callVg hs rfl has15 rfl (law10_name_ok n (f := f3017) (a2 := v3011) ⟨rw3013, hR3019, hW3042⟩ hx3044) ?_; clear hs
          rintro _ f3045 _ a w hf3046 ⟨r3047, rfl, rfl, hq3048⟩ hs
          have hT3049 := hf3046 _ _ hT3020
          have hT3050 := hf3046 _ _ hT3021
          have hR3051 := hR3022.le hf3046
          have hW3052 := hW3023.le hf3046
          have hR3053 := hR3024.le hf3046
          have hW3054 := hW3025.le hf3046
          have hR3055 := hR3026.le hf3046
          have hW3056 := hW3027.le hf3046
          have hR3057 := hR3028.le hf3046
          have hW3058 := hW3029.le hf3046
          have hW3059 := hW3030.le hf3046
          have hR3060 := hR3031.le hf3046
          have hR3061 := hR3032.le hf3046
          have hW3062 := hW3033.le hf3046
          have hW3063 := hW3034.le hf3046
          have hR3064 := hR3035.le hf3046
          have hR3065 := hR3036.le hf3046
          have hW3066 := hW3037.le hf3046
          have hW3067 := hW3038.le hf3046
          have hR3068 := hR3039.le hf3046
          have hR3069 := hR3040.le hf3046
          have hW3070 := hW3041.le hf3046
          have hW3071 := hW3042.le hf3046
          have hR3072 := hR3019.le hf3046
          replace hle := hle.trans hf3046
          replace hbase18 := hbase18.trans hf3046
          replace hbd19 := hbd19.trans hf3046
          obtain ⟨v3073, rfl, ⟨rw3074, hR3075, hW3076⟩⟩ := hq3048
          refine uon hs ?_; clear hs; intro a he
          refine T_any1 he rfl ?_; clear he; intro a w hs
          refine RL_guard hs rfl rfl ?_
          refine RL_bs1a hs rfl Tryd.underlying25 ti35 (by decide) (AllC.row ⟨rfl, rfl, hR3075.one, trivial⟩ rfl) ?_; clear hs; intro v3078 a w hs
          have hW3079 : RW t_sheet_Step f3045 [[.int .i64 (x3043.Comb), .string (x3043.Name), v3073]] [x3043] := RW.single (⟨_, rfl, ⟨rw3074, hR3075, hW3076⟩⟩)
          generalize hgrw3080 : ([[.int .i64 (x3043.Comb), .string (x3043.Name), v3073]] : List (List Value)) = rw3080 at hs hW3079; clear hgrw3080
          have ho3083 : v3078.oneCell' = true := hs.one (i := 0) rfl
          refine uon hs ?_; clear hs; intro a he
          refine T_any1 he rfl ?_; clear he; intro a w hs
          obtain ⟨f3084, hf3085, hs2, hR3086⟩ := hs.frzAt 0 rfl
          clear hs; have hs := hs2; clear hs2
          have hT3087 := hf3085 _ _ hT3049
          have hT3088 := hf3085 _ _ hT3050
          have hR3089 := hR3051.le hf3085
          have hW3090 := hW3052.le hf3085
          have hR3091 := hR3053.le hf3085
          have hW3092 := hW3054.le hf3085
          have hR3093 := hR3055.le hf3085
          have hW3094 := hW3056.le hf3085
          have hR3095 := hR3057.le hf3085
          have hW3096 := hW3058.le hf3085
          have hW3097 := hW3059.le hf3085
          have hR3098 := hR3060.le hf3085
          have hR3099 := hR3061.le hf3085
          have hW3100 := hW3062.le hf3085
          have hW3101 := hW3063.le hf3085
          have hR3102 := hR3064.le hf3085
          have hR3103 := hR3065.le hf3085
          have hW3104 := hW3066.le hf3085
          have hW3105 := hW3067.le hf3085
          have hR3106 := hR3068.le hf3085
          have hR3107 := hR3069.le hf3085
          have hW3108 := hW3070.le hf3085
          have hW3109 := hW3071.le hf3085
          have hR3110 := hR3072.le hf3085
          have hR3111 := hR3075.le hf3085
          have hW3112 := hW3076.le hf3085
          have hW3113 := hW3079.le hf3085
          replace hle := hle.trans hf3085
          replace hbase18 := hbase18.trans hf3085
          replace hbd19 := hbd19.trans hf3085
          obtain ⟨x3114, hx3115, hm⟩ := ob hm
          refine RL_callVg hs rfl has14 rfl (law10_sel_ok n (f := f3084) (a0 := v3078) ⟨rw3080, hR3086, hW3113⟩ hx3115) ?_; clear hs
          rintro _ f3116 _ a w hf3117 ⟨r3118, rfl, rfl, hq3119⟩ hs
          have hT3120 := hf3117 _ _ hT3087
          have hT3121 := hf3117 _ _ hT3088
          have hR3122 := hR3089.le hf3117
          have hW3123 := hW3090.le hf3117
          have hR3124 := hR3091.le hf3117
          have hW3125 := hW3092.le hf3117
          have hR3126 := hR3093.le hf3117
          have hW3127 := hW3094.le hf3117
          have hR3128 := hR3095.le hf3117
          have hW3129 := hW3096.le hf3117
          have hW3130 := hW3097.le hf3117
          have hR3131 := hR3098.le hf3117
          have hR3132 := hR3099.le hf3117
          have hW3133 := hW3100.le hf3117
          have hW3134 := hW3101.le hf3117
          have hR3135 := hR3102.le hf3117
          have hR3136 := hR3103.le hf3117
          have hW3137 := hW3104.le hf3117
          have hW3138 := hW3105.le hf3117
          have hR3139 := hR3106.le hf3117
          have hR3140 := hR3107.le hf3117
          have hW3141 := hW3108.le hf3117
          have hW3142 := hW3109.le hf3117
          have hR3143 := hR3110.le hf3117
          have hR3144 := hR3111.le hf3117
          have hW3145 := hW3112.le hf3117
          have hW3146 := hW3113.le hf3117
          have hR3147 := hR3086.le hf3117
          replace hle := hle.trans hf3117
          replace hbase18 := hbase18.trans hf3117
          replace hbd19 := hbd19.trans hf3117
          obtain ⟨v3148, rfl, ⟨rw3149, hR3150, hW3151⟩⟩ := hq3119
          refine uon hs ?_; clear hs; intro a he
          refine T_any1 he rfl ?_; clear he; intro a w hs
          obtain ⟨x3153, hx3154, hm⟩ := ob hm
          refine syg hs (y_call rfl has12 rfl (match_Match_ok n (f := f3116) (a0 := [v7]) (a2 := [v3148]) hT3120 hT3121 hTT ⟨_, rfl, ⟨rw8, hR3122, hW3123⟩⟩ ⟨_, rfl, ⟨rw3149, hR3150, hW3151⟩⟩ hx3154)) ?_; clear hs; intro a w hs
          refine uon hs ?_; clear hs; intro a he
          refine uyg (v := .bool ((!x3153))) 24 he rfl (y_not rfl) ?_; clear he; intro a he
          refine uy (v := .bool ((!x3153))) 25 he rfl (y_pick rfl rfl) ?_; clear he; intro a he
          refine uy (v := .bool ((!x3153))) 26 he rfl (y_assign rfl) ?_; clear he; intro a he
          refine T_nil he ?_; clear he; intro w hs; try clear hsD
          exact ⟨_, (!x3153), hbase18, hm, hs.subs ⟨rfl, trivial⟩ (.cons _ (.refl _))⟩
         ·obtain ⟨f3155, hf3156, hs2, hR3157⟩ := hs.frzAt 0 rfl
          clear hs; have hs := hs2; clear hs2
          have hT3158 := hf3156 _ _ hT2839
          have hT3159 := hf3156 _ _ hT2840
          have hR3160 := hR2841.le hf3156
          have hW3161 := hW2842.le hf3156
          have hR3162 := hR2843.le hf3156
          have hW3163 := hW2844.le hf3156
          have hR3164 := hR2845.le hf3156
          have hW3165 := hW2846.le hf3156
          have hR3166 := hR2847.le hf3156
          have hW3167 := hW2848.le hf3156
          have hW3168 := hW2849.le hf3156
          have hR3169 := hR2850.le hf3156
          have hR3170 := hR2851.le hf3156
          have hW3171 := hW2852.le hf3156
          have hW3172 := hW2853.le hf3156
          have hR3173 := hR2854.le hf3156
          have hR3174 := hR2855.le hf3156
          have hW3175 := hW2856.le hf3156
          have hW3176 := hW2857.le hf3156
          have hR3177 := hR2858.le hf3156
          have hR3178 := hR2861.le hf3156
          have hW3179 := hW2862.le hf3156
          have hW3180 := hW3012.le hf3156
          replace hle := hle.trans hf3156
          replace hbase18 := hbase18.trans hf3156
          replace hbd19 := hbd19.trans hf3156
          obtain ⟨x3181, hx3182, hm⟩ := ob hm
          refine RL_callVg hs rfl has15 rfl (law10_name_ok n (f := f3155) (a2 := v3011) ⟨rw3013, hR3157, hW3180⟩ hx3182) ?_; clear hs
          rintro _ f3183 _ a w hf3184 ⟨r3185, rfl, rfl, hq3186⟩ hs
          have hT3187 := hf3184 _ _ hT3158
          have hT3188 := hf3184 _ _ hT3159
          have hR3189 := hR3160.le hf3184
          have hW3190 := hW3161.le hf3184
          have hR3191 := hR3162.le hf3184
          have hW3192 := hW3163.le hf3184
          have hR3193 := hR3164.le hf3184
          have hW3194 := hW3165.le hf3184
          have hR3195 := hR3166.le hf3184
          have hW3196 := hW3167.le hf3184
          have hW3197 := hW3168.le hf3184
          have hR3198 := hR3169.le hf3184
          have hR3199 := hR3170.le hf3184
          have hW3200 := hW3171.le hf3184
          have hW3201 := hW3172.le hf3184
          have hR3202 := hR3173.le hf3184
          have hR3203 := hR3174.le hf3184
          have hW3204 := hW3175.le hf3184
          have hW3205 := hW3176.le hf3184
          have hR3206 := hR3177.le hf3184
          have hR3207 := hR3178.le hf3184
          have hW3208 := hW3179.le hf3184
          have hW3209 := hW3180.le hf3184
          have hR3210 := hR3157.le hf3184
          replace hle := hle.trans hf3184
          replace hbase18 := hbase18.trans hf3184
          replace hbd19 := hbd19.trans hf3184
          obtain ⟨v3211, rfl, ⟨rw3212, hR3213, hW3214⟩⟩ := hq3186
          refine uon hs ?_; clear hs; intro a he
          refine T_any2 he rfl rfl ?_ ?_ <;> (clear he; intro a w hs)
          ·refine syg hs (y_ldB rfl Tryd.underlying24 rfl ti24 (.head _) rfl) ?_; clear hs; intro a w hs
           refine uon hs ?_; clear hs; intro a he
           refine T_any1 he rfl ?_; clear he; intro a w hs
           refine RL_guard hs rfl rfl ?_
           refine RL_bs1a hs rfl Tryd.underlying25 ti35 (by decide) (AllC.row ⟨rfl, rfl, hR3213.one, trivial⟩ rfl) ?_; clear hs; intro v3216 a w hs
           have hW3217 : RW t_sheet_Step f3183 [[.int .i64 (x3181.Comb), .string (x3181.Name), v3211]] [x3181] := RW.single (⟨_, rfl, ⟨rw3212, hR3213, hW3214⟩⟩)
           generalize hgrw3218 : ([[.int .i64 (x3181.Comb), .string (x3181.Name), v3211]] : List (List Value)) = rw3218 at hs hW3217; clear hgrw3218
           have ho3221 : v3216.oneCell' = true := hs.one (i := 0) rfl
           refine uon hs ?_; clear hs; intro a he
           refine T_any1 he rfl ?_; clear he; intro a w hs
           obtain ⟨f3222, hf3223, hs2, hR3224⟩ := hs.frzAt 0 rfl
           clear hs; have hs := hs2; clear hs2
           have hT3225 := hf3223 _ _ hT3187
           have hT3226 := hf3223 _ _ hT3188
           have hR3227 := hR3189.le hf3223
           have hW3228 := hW3190.le hf3223
           have hR3229 := hR3191.le hf3223
           have hW3230 := hW3192.le hf3223
           have hR3231 := hR3193.le hf3223
           have hW3232 := hW3194.le hf3223
           have hR3233 := hR3195.le hf3223
           have hW3234 := hW3196.le hf3223
           have hW3235 := hW3197.le hf3223
           have hR3236 := hR3198.le hf3223
           have hR3237 := hR3199.le hf3223
           have hW3238 := hW3200.le hf3223
           have hW3239 := hW3201.le hf3223
           have hR3240 := hR3202.le hf3223
           have hR3241 := hR3203.le hf3223
           have hW3242 := hW3204.le hf3223
           have hW3243 := hW3205.le hf3223
           have hR3244 := hR3206.le hf3223
           have hR3245 := hR3207.le hf3223
           have hW3246 := hW3208.le hf3223
           have hW3247 := hW3209.le hf3223
           have hR3248 := hR3210.le hf3223
           have hR3249 := hR3213.le hf3223
           have hW3250 := hW3214.le hf3223
           have hW3251 := hW3217.le hf3223
           replace hle := hle.trans hf3223
           replace hbase18 := hbase18.trans hf3223
           replace hbd19 := hbd19.trans hf3223
           obtain ⟨x3252, hx3253, hm⟩ := ob hm
           refine RL_callVg hs rfl has14 rfl (law10_sel_ok n (f := f3222) (a0 := v3216) ⟨rw3218, hR3224, hW3251⟩ hx3253) ?_; clear hs
           rintro _ f3254 _ a w hf3255 ⟨r3256, rfl, rfl, hq3257⟩ hs
           have hT3258 := hf3255 _ _ hT3225
           have hT3259 := hf3255 _ _ hT3226
           have hR3260 := hR3227.le hf3255
           have hW3261 := hW3228.le hf3255
           have hR3262 := hR3229.le hf3255
           have hW3263 := hW3230.le hf3255
           have hR3264 := hR3231.le hf3255
           have hW3265 := hW3232.le hf3255
           have hR3266 := hR3233.le hf3255
           have hW3267 := hW3234.le hf3255
           have hW3268 := hW3235.le hf3255
           have hR3269 := hR3236.le hf3255
           have hR3270 := hR3237.le hf3255
           have hW3271 := hW3238.le hf3255
           have hW3272 := hW3239.le hf3255
           have hR3273 := hR3240.le hf3255
           have hR3274 := hR3241.le hf3255
           have hW3275 := hW3242.le hf3255
           have hW3276 := hW3243.le hf3255
           have hR3277 := hR3244.le hf3255
           have hR3278 := hR3245.le hf3255
           have hW3279 := hW3246.le hf3255
           have hW3280 := hW3247.le hf3255
           have hR3281 := hR3248.le hf3255
           have hR3282 := hR3249.le hf3255
           have hW3283 := hW3250.le hf3255
           have hW3284 := hW3251.le hf3255
           have hR3285 := hR3224.le hf3255
           replace hle := hle.trans hf3255
           replace hbase18 := hbase18.trans hf3255
           replace hbd19 := hbd19.trans hf3255
           obtain ⟨v3286, rfl, ⟨rw3287, hR3288, hW3289⟩⟩ := hq3257
           refine uon hs ?_; clear hs; intro a he
           refine T_any1 he rfl ?_; clear he; intro a w hs
           obtain ⟨x3291, hx3292, hm⟩ := ob hm
           refine syg hs (y_call rfl has12 rfl (match_Match_ok n (f := f3254) (a0 := [v7]) (a2 := [v3286]) hT3258 hT3259 hTT ⟨_, rfl, ⟨rw8, hR3260, hW3261⟩⟩ ⟨_, rfl, ⟨rw3287, hR3288, hW3289⟩⟩ hx3292)) ?_; clear hs; intro a w hs
           refine uon hs ?_; clear hs; intro a he
           refine uyg (v := .bool ((!x3291))) 24 he rfl (y_not rfl) ?_; clear he; intro a he
           refine uy (v := .bool ((!x3291))) 25 he rfl (y_pick rfl rfl) ?_; clear he; intro a he
           refine uy (v := .bool ((!x3291))) 26 he rfl (y_assign rfl) ?_; clear he; intro a he
           refine T_nil he ?_; clear he; intro w hs; try clear hsD
           exact ⟨_, (!x3291), hbase18, hm, hs.subs ⟨rfl, trivial⟩ (.cons _ (.refl _))⟩
          ·refine RL_guard hs rfl rfl ?_
           refine RL_bs1a hs rfl Tryd.underlying25 ti35 (by decide) (AllC.row ⟨rfl, rfl, hR3213.one, trivial⟩ rfl) ?_; clear hs; intro v3293 a w hs
           have hW3294 : RW t_sheet_Step f3183 [[.int .i64 (x3181.Comb), .string (x3181.Name), v3211]] [x3181] := RW.single (⟨_, rfl, ⟨rw3212, hR3213, hW3214⟩⟩)
           generalize hgrw3295 : ([[.int .i64 (x3181.Comb), .string (x3181.Name), v3211]] : List (List Value)) = rw3295 at hs hW3294; clear hgrw3295
           have ho3298 : v3293.oneCell' = true := hs.one (i := 0) rfl
           refine uon hs ?_; clear hs; intro a he
           refine T_any2 he rfl rfl ?_ ?_ <;> (clear he; intro a w hs)
           ·refine syg hs (y_ldB rfl Tryd.underlying24 rfl ti24 (.tail _ (.head _)) rfl) ?_; clear hs; intro a w hs
            refine uon hs ?_; clear hs; intro a he
            refine T_any1 he rfl ?_; clear he; intro a w hs
            obtain ⟨f3299, hf3300, hs2, hR3301⟩ := hs.frzAt 0 rfl
            clear hs; have hs := hs2; clear hs2
            have hT3302 := hf3300 _ _ hT3187
            have hT3303 := hf3300 _ _ hT3188
            have hR3304 := hR3189.le hf3300
            have hW3305 := hW3190.le hf3300
            have hR3306 := hR3191.le hf3300
            have hW3307 := hW3192.le hf3300
            have hR3308 := hR3193.le hf3300
            have hW3309 := hW3194.le hf3300
            have hR3310 := hR3195.le hf3300
            have hW3311 := hW3196.le hf3300
            have hW3312 := hW3197.le hf3300
            have hR3313 := hR3198.le hf3300
            have hR3314 := hR3199.le hf3300
            have hW3315 := hW3200.le hf3300
            have hW3316 := hW3201.le hf3300
            have hR3317 := hR3202.le hf3300
            have hR3318 := hR3203.le hf3300
            have hW3319 := hW3204.le hf3300
            have hW3320 := hW3205.le hf3300
            have hR3321 := hR3206.le hf3300
            have hR3322 := hR3207.le hf3300
            have hW3323 := hW3208.le hf3300
            have hW3324 := hW3209.le hf3300
            have hR3325 := hR3210.le hf3300
            have hR3326 := hR3213.le hf3300
            have hW3327 := hW3214.le hf3300
            have hW3328 := hW3294.le hf3300
            replace hle := hle.trans hf3300
            replace hbase18 := hbase18.trans hf3300
            replace hbd19 := hbd19.trans hf3300
            obtain ⟨x3329, hx3330, hm⟩ := ob hm
            refine RL_callVg hs rfl has14 rfl (law10_sel_ok n (f := f3299) (a0 := v3293) ⟨rw3295, hR3301, hW3328⟩ hx3330) ?_; clear hs
            rintro _ f3331 _ a w hf3332 ⟨r3333, rfl, rfl, hq3334⟩ hs
            have hT3335 := hf3332 _ _ hT3302
            have hT3336 := hf3332 _ _ hT3303
            have hR3337 := hR3304.le hf3332
            have hW3338 := hW3305.le hf3332
            have hR3339 := hR3306.le hf3332
            have hW3340 := hW3307.le hf3332
            have hR3341 := hR3308.le hf3332
            have hW3342 := hW3309.le hf3332
            have hR3343 := hR3310.le hf3332
            have hW3344 := hW3311.le hf3332
            have hW3345 := hW3312.le hf3332
            have hR3346 := hR3313.le hf3332
            have hR3347 := hR3314.le hf3332
            have hW3348 := hW3315.le hf3332
            have hW3349 := hW3316.le hf3332
            have hR3350 := hR3317.le hf3332
            have hR3351 := hR3318.le hf3332
            have hW3352 := hW3319.le hf3332
            have hW3353 := hW3320.le hf3332
            have hR3354 := hR3321.le hf3332
            have hR3355 := hR3322.le hf3332
            have hW3356 := hW3323.le hf3332
            have hW3357 := hW3324.le hf3332
            have hR3358 := hR3325.le hf3332
            have hR3359 := hR3326.le hf3332
            have hW3360 := hW3327.le hf3332
            have hW3361 := hW3328.le hf3332
            have hR3362 := hR3301.le hf3332
            replace hle := hle.trans hf3332
            replace hbase18 := hbase18.trans hf3332
            replace hbd19 := hbd19.trans hf3332
            obtain ⟨v3363, rfl, ⟨rw3364, hR3365, hW3366⟩⟩ := hq3334
            refine uon hs ?_; clear hs; intro a he
            refine T_any1 he rfl ?_; clear he; intro a w hs
            obtain ⟨x3368, hx3369, hm⟩ := ob hm
            refine syg hs (y_call rfl has12 rfl (match_Match_ok n (f := f3331) (a0 := [v7]) (a2 := [v3363]) hT3335 hT3336 hTT ⟨_, rfl, ⟨rw8, hR3337, hW3338⟩⟩ ⟨_, rfl, ⟨rw3364, hR3365, hW3366⟩⟩ hx3369)) ?_; clear hs; intro a w hs
            refine uon hs ?_; clear hs; intro a he
            refine uyg (v := .bool ((!x3368))) 24 he rfl (y_not rfl) ?_; clear he; intro a he
            refine uy (v := .bool ((!x3368))) 25 he rfl (y_pick rfl rfl) ?_; clear he; intro a he
            refine uy (v := .bool ((!x3368))) 26 he rfl (y_assign rfl) ?_; clear he; intro a he
            refine T_nil he ?_; clear he; intro w hs; try clear hsD
            exact ⟨_, (!x3368), hbase18, hm, hs.subs ⟨rfl, trivial⟩ (.cons _ (.refl _))⟩
           ·obtain ⟨f3370, hf3371, hs2, hR3372⟩ := hs.frzAt 0 rfl
            clear hs; have hs := hs2; clear hs2
            have hT3373 := hf3371 _ _ hT3187
            have hT3374 := hf3371 _ _ hT3188
            have hR3375 := hR3189.le hf3371
            have hW3376 := hW3190.le hf3371
            have hR3377 := hR3191.le hf3371
            have hW3378 := hW3192.le hf3371
            have hR3379 := hR3193.le hf3371
            have hW3380 := hW3194.le hf3371
            have hR3381 := hR3195.le hf3371
            have hW3382 := hW3196.le hf3371
            have hW3383 := hW3197.le hf3371
            have hR3384 := hR3198.le hf3371
            have hR3385 := hR3199.le hf3371
            have hW3386 := hW3200.le hf3371
            have hW3387 := hW3201.le hf3371
            have hR3388 := hR3202.le hf3371
            have hR3389 := hR3203.le hf3371
            have hW3390 := hW3204.le hf3371
            have hW3391 := hW3205.le hf3371
            have hR3392 := hR3206.le hf3371
            have hR3393 := hR3207.le hf3371
            have hW3394 := hW3208.le hf3371
            have hW3395 := hW3209.le hf3371
            have hR3396 := hR3210.le hf3371
            have hR3397 := hR3213.le hf3371
            have hW3398 := hW3214.le hf3371
            have hW3399 := hW3294.le hf3371
            replace hle := hle.trans hf3371
            replace hbase18 := hbase18.trans hf3371
            replace hbd19 := hbd19.trans hf3371
            obtain ⟨x3400, hx3401, hm⟩ := ob hm
            refine RL_callVg hs rfl has14 rfl (law10_sel_ok n (f := f3370) (a0 := v3293) ⟨rw3295, hR3372, hW3399⟩ hx3401) ?_; clear hs
            rintro _ f3402 _ a w hf3403 ⟨r3404, rfl, rfl, hq3405⟩ hs
            have hT3406 := hf3403 _ _ hT3373
            have hT3407 := hf3403 _ _ hT3374
            have hR3408 := hR3375.le hf3403
            have hW3409 := hW3376.le hf3403
            have hR3410 := hR3377.le hf3403
            have hW3411 := hW3378.le hf3403
            have hR3412 := hR3379.le hf3403
            have hW3413 := hW3380.le hf3403
            have hR3414 := hR3381.le hf3403
            have hW3415 := hW3382.le hf3403
            have hW3416 := hW3383.le hf3403
            have hR3417 := hR3384.le hf3403
            have hR3418 := hR3385.le hf3403
            have hW3419 := hW3386.le hf3403
            have hW3420 := hW3387.le hf3403
            have hR3421 := hR3388.le hf3403
            have hR3422 := hR3389.le hf3403
            have hW3423 := hW3390.le hf3403
            have hW3424 := hW3391.le hf3403
            have hR3425 := hR3392.le hf3403
            have hR3426 := hR3393.le hf3403
            have hW3427 := hW3394.le hf3403
            have hW3428 := hW3395.le hf3403
            have hR3429 := hR3396.le hf3403
            have hR3430 := hR3397.le hf3403
            have hW3431 := hW3398.le hf3403
            have hW3432 := hW3399.le hf3403
            have hR3433 := hR3372.le hf3403
            replace hle := hle.trans hf3403
            replace hbase18 := hbase18.trans hf3403
            replace hbd19 := hbd19.trans hf3403
            obtain ⟨v3434, rfl, ⟨rw3435, hR3436, hW3437⟩⟩ := hq3405
            refine uon hs ?_; clear hs; intro a he
            refine T_any1 he rfl ?_; clear he; intro a w hs
            refine syg hs (y_ldB rfl Tryd.underlying24 rfl ti24 (.head _) rfl) ?_; clear hs; intro a w hs
            refine uon hs ?_; clear hs; intro a he
            refine T_any1 he rfl ?_; clear he; intro a w hs
            obtain ⟨x3439, hx3440, hm⟩ := ob hm
            refine syg hs (y_call rfl has12 rfl (match_Match_ok n (f := f3402) (a0 := [v7]) (a2 := [v3434]) hT3406 hT3407 hTT ⟨_, rfl, ⟨rw8, hR3408, hW3409⟩⟩ ⟨_, rfl, ⟨rw3435, hR3436, hW3437⟩⟩ hx3440)) ?_; clear hs; intro a w hs
            refine uon hs ?_; clear hs; intro a he
            refine uyg (v := .bool ((!x3439))) 24 he rfl (y_not rfl) ?_; clear he; intro a he
            refine uy (v := .bool ((!x3439))) 25 he rfl (y_pick rfl rfl) ?_; clear he; intro a he
            refine uy (v := .bool ((!x3439))) 26 he rfl (y_assign rfl) ?_; clear he; intro a he
            refine T_nil he ?_; clear he; intro w hs; try clear hsD
            exact ⟨_, (!x3439), hbase18, hm, hs.subs ⟨rfl, trivial⟩ (.cons _ (.refl _))⟩
       ·clear he; have he := hq; clear hq
        replace hm := oc_f hg2866 hm
        refine uno 18 he rfl ?_; clear he; intro a he
        refine T_any2 he rfl rfl ?_ ?_ <;> (clear he; intro a w hs)
        ·refine sno hs ?_; clear hs; intro a w hs
         refine uon hs ?_; clear hs; intro a he
         refine T_any1 he rfl ?_; clear he; intro a w hs
         refine sno hs ?_; clear hs; intro a w hs
         refine uon hs ?_; clear hs; intro a he
         refine T_any1 he rfl ?_; clear he; intro a w hs
         refine sno hs ?_; clear hs; intro a w hs
         refine uon hs ?_; clear hs; intro a he
         refine T_any1 he rfl ?_; clear he; intro a w hs
         refine sno hs ?_; clear hs; intro a w hs
         refine uon hs ?_; clear hs; intro a he
         refine T_any1 he rfl ?_; clear he; intro a w hs
         refine sno hs ?_; clear hs; intro a w hs
         refine uon hs ?_; clear hs; intro a he
         refine T_any1 he rfl ?_; clear he; intro a w hs
         refine sno hs ?_; clear hs; intro a w hs
         refine uon hs ?_; clear hs; intro a he
         refine uno 24 he rfl ?_; clear he; intro a he
         refine uy (v := .bool (false)) 25 he rfl (y_pick rfl rfl) ?_; clear he; intro a he
         refine uy (v := .bool (false)) 26 he rfl (y_assign rfl) ?_; clear he; intro a he
         refine T_nil he ?_; clear he; intro w hs; try clear hsD
         exact ⟨_, false, hbase18, hm, hs.subs ⟨rfl, trivial⟩ (.cons _ (.refl _))⟩
        ·refine sno hs ?_; clear hs; intro a w hs
         refine uon hs ?_; clear hs; intro a he
         refine T_any2 he rfl rfl ?_ ?_ <;> (clear he; intro a w hs)
         ·refine sno hs ?_; clear hs; intro a w hs
          refine uon hs ?_; clear hs; intro a he
          refine T_any1 he rfl ?_; clear he; intro a w hs
          refine sno hs ?_; clear hs; intro a w hs
          refine uon hs ?_; clear hs; intro a he
          refine T_any1 he rfl ?_; clear he; intro a w hs
          refine sno hs ?_; clear hs; intro a w hs
          refine uon hs ?_; clear hs; intro a he
          refine T_any1 he rfl ?_; clear he; intro a w hs
          refine sno hs ?_; clear hs; intro a w hs
          refine uon hs ?_; clear hs; intro a he
          refine T_any1 he rfl ?_; clear he; intro a w hs
          refine sno hs ?_; clear hs; intro a w hs
          refine uon hs ?_; clear hs; intro a he
          refine uno 24 he rfl ?_; clear he; intro a he
          refine uy (v := .bool (false)) 25 he rfl (y_pick rfl rfl) ?_; clear he; intro a he
          refine uy (v := .bool (false)) 26 he rfl (y_assign rfl) ?_; clear he; intro a he
          refine T_nil he ?_; clear he; intro w hs; try clear hsD
          exact ⟨_, false, hbase18, hm, hs.subs ⟨rfl, trivial⟩ (.cons _ (.refl _))⟩
         ·refine sno hs ?_; clear hs; intro a w hs
          refine uon hs ?_; clear hs; intro a he
          refine T_any2 he rfl rfl ?_ ?_ <;> (clear he; intro a w hs)
          ·refine sno hs ?_; clear hs; intro a w hs
           refine uon hs ?_; clear hs; intro a he
           refine T_any1 he rfl ?_; clear he; intro a w hs
           refine sno hs ?_; clear hs; intro a w hs
           refine uon hs ?_; clear hs; intro a he
           refine T_any1 he rfl ?_; clear he; intro a w hs
           refine sno hs ?_; clear hs; intro a w hs
           refine uon hs ?_; clear hs; intro a he
           refine T_any1 he rfl ?_; clear he; intro a w hs
           refine sno hs ?_; clear hs; intro a w hs
           refine uon hs ?_; clear hs; intro a he
           refine uno 24 he rfl ?_; clear he; intro a he
           refine uy (v := .bool (false)) 25 he rfl (y_pick rfl rfl) ?_; clear he; intro a he
           refine uy (v := .bool (false)) 26 he rfl (y_assign rfl) ?_; clear he; intro a he
           refine T_nil he ?_; clear he; intro w hs; try clear hsD
           exact ⟨_, false, hbase18, hm, hs.subs ⟨rfl, trivial⟩ (.cons _ (.refl _))⟩
          ·refine sno hs ?_; clear hs; intro a w hs
           refine uon hs ?_; clear hs; intro a he
           refine T_any2 he rfl rfl ?_ ?_ <;> (clear he; intro a w hs)
           ·refine sno hs ?_; clear hs; intro a w hs
            refine uon hs ?_; clear hs; intro a he
            refine T_any1 he rfl ?_; clear he; intro a w hs
            refine sno hs ?_; clear hs; intro a w hs
            refine uon hs ?_; clear hs; intro a he
            refine T_any1 he rfl ?_; clear he; intro a w hs
            refine sno hs ?_; clear hs; intro a w hs
            refine uon hs ?_; clear hs; intro a he
            refine uno 24 he rfl ?_; clear he; intro a he
            refine uy (v := .bool (false)) 25 he rfl (y_pick rfl rfl) ?_; clear he; intro a he
            refine uy (v := .bool (false)) 26 he rfl (y_assign rfl) ?_; clear he; intro a he
            refine T_nil he ?_; clear he; intro w hs; try clear hsD
            exact ⟨_, false, hbase18, hm, hs.subs ⟨rfl, trivial⟩ (.cons _ (.refl _))⟩
           ·refine sno hs ?_; clear hs; intro a w hs
            refine uon hs ?_; clear hs; intro a he
            refine T_any1 he rfl ?_; clear he; intro a w hs
            refine sno hs ?_; clear hs; intro a w hs
            refine uon hs ?_; clear hs; intro a he
            refine T_any1 he rfl ?_; clear he; intro a w hs
            refine sno hs ?_; clear hs; intro a w hs
            refine uon hs ?_; clear hs; intro a he
            refine uno 24 he rfl ?_; clear he; intro a he
            refine uy (v := .bool (false)) 25 he rfl (y_pick rfl rfl) ?_; clear he; intro a he
            refine uy (v := .bool (false)) 26 he rfl (y_assign rfl) ?_; clear he; intro a he
            refine T_nil he ?_; clear he; intro w hs; try clear hsD
            exact ⟨_, false, hbase18, hm, hs.subs ⟨rfl, trivial⟩ (.cons _ (.refl _))⟩
  ·clear he; have he := hq; clear hq
   replace hm := oc_f hg119 hm
   refine uno 9 he rfl ?_; clear he; intro a he
   refine T_any2 he rfl rfl ?_ ?_ <;> (clear he; intro a w hs)
   ·refine sno hs ?_; clear hs; intro a w hs
    refine uon hs ?_; clear hs; intro a he
    refine T_any1 he rfl ?_; clear he; intro a w hs
    refine sno hs ?_; clear hs; intro a w hs
    refine uon hs ?_; clear hs; intro a he
    refine T_any1 he rfl ?_; clear he; intro a w hs
    refine sno hs ?_; clear hs; intro a w hs
    refine uon hs ?_; clear hs; intro a he
    refine T_any1 he rfl ?_; clear he; intro a w hs
    refine sno hs ?_; clear hs; intro a w hs
    refine uon hs ?_; clear hs; intro a he
    refine T_any1 he rfl ?_; clear he; intro a w hs
    refine sno hs ?_; clear hs; intro a w hs
    refine uon hs ?_; clear hs; intro a he
    refine T_any1 he rfl ?_; clear he; intro a w hs
    refine sno hs ?_; clear hs; intro a w hs
    refine uon hs ?_; clear hs; intro a he
    refine uy (v := .bool (false)) 15 he rfl (y_pick rfl rfl) ?_; clear he; intro a he
    refine uy (v := .bool (false)) 16 he rfl (y_move rfl) ?_; clear he; intro a he
    refine uno 18 he rfl ?_; clear he; intro a he
    refine T_any2 he rfl rfl ?_ ?_ <;> (clear he; intro a w hs)
    ·refine sno hs ?_; clear hs; intro a w hs
     refine uon hs ?_; clear hs; intro a he
     refine T_any1 he rfl ?_; clear he; intro a w hs
     refine sno hs ?_; clear hs; intro a w hs
     refine uon hs ?_; clear hs; intro a he
     refine T_any1 he rfl ?_; clear he; intro a w hs
     refine sno hs ?_; clear hs; intro a w hs
     refine uon hs ?_; clear hs; intro a he
     refine T_any1 he rfl ?_; clear he; intro a w hs
     refine sno hs ?_; clear hs; intro a w hs
     refine uon hs ?_; clear hs; intro a he
     refine T_any1 he rfl ?_; clear he; intro a w hs
     refine sno hs ?_; clear hs; intro a w hs
     refine uon hs ?_; clear hs; intro a he
     refine T_any1 he rfl ?_; clear he; intro a w hs
     refine sno hs ?_; clear hs; intro a w hs
     refine uon hs ?_; clear hs; intro a he
     refine uno 24 he rfl ?_; clear he; intro a he
     refine uy (v := .bool (false)) 25 he rfl (y_pick rfl rfl) ?_; clear he; intro a he
     refine uy (v := .bool (false)) 26 he rfl (y_assign rfl) ?_; clear he; intro a he
     refine T_nil he ?_; clear he; intro w hs; try clear hsD
     exact ⟨_, false, hbase18, hm, hs.subs ⟨rfl, trivial⟩ (.cons _ (.refl _))⟩
    ·refine sno hs ?_; clear hs; intro a w hs
     refine uon hs ?_; clear hs; intro a he
     refine T_any2 he rfl rfl ?_ ?_ <;> (clear he; intro a w hs)
     ·refine sno hs ?_; clear hs; intro a w hs
      refine uon hs ?_; clear hs; intro a he
      refine T_any1 he rfl ?_; clear he; intro a w hs
      refine sno hs ?_; clear hs; intro a w hs
      refine uon hs ?_; clear hs; intro a he
      refine T_any1 he rfl ?_; clear he; intro a w hs
      refine sno hs ?_; clear hs; intro a w hs
      refine uon hs ?_; clear hs; intro a he
      refine T_any1 he rfl ?_; clear he; intro a w hs
      refine sno hs ?_; clear hs; intro a w hs
      refine uon hs ?_; clear hs; intro a he
      refine T_any1 he rfl ?_; clear he; intro a w hs
      refine sno hs ?_; clear hs; intro a w hs
      refine uon hs ?_; clear hs; intro a he
      refine uno 24 he rfl ?_; clear he; intro a he
      refine uy (v := .bool (false)) 25 he rfl (y_pick rfl rfl) ?_; clear he; intro a he
      refine uy (v := .bool (false)) 26 he rfl (y_assign rfl) ?_; clear he; intro a he
      refine T_nil he ?_; clear he; intro w hs; try clear hsD
      exact ⟨_, false, hbase18, hm, hs.subs ⟨rfl, trivial⟩ (.cons _ (.refl _))⟩
     ·refine sno hs ?_; clear hs; intro a w hs
      refine uon hs ?_; clear hs; intro a he
      refine T_any2 he rfl rfl ?_ ?_ <;> (clear he; intro a w hs)
      ·refine sno hs ?_; clear hs; intro a w hs
       refine uon hs ?_; clear hs; intro a he
       refine T_any1 he rfl ?_; clear he; intro a w hs
       refine sno hs ?_; clear hs; intro a w hs
       refine uon hs ?_; clear hs; intro a he
       refine T_any1 he rfl ?_; clear he; intro a w hs
       refine sno hs ?_; clear hs; intro a w hs
       refine uon hs ?_; clear hs; intro a he
       refine T_any1 he rfl ?_; clear he; intro a w hs
       refine sno hs ?_; clear hs; intro a w hs
       refine uon hs ?_; clear hs; intro a he
       refine uno 24 he rfl ?_; clear he; intro a he
       refine uy (v := .bool (false)) 25 he rfl (y_pick rfl rfl) ?_; clear he; intro a he
       refine uy (v := .bool (false)) 26 he rfl (y_assign rfl) ?_; clear he; intro a he
       refine T_nil he ?_; clear he; intro w hs; try clear hsD
       exact ⟨_, false, hbase18, hm, hs.subs ⟨rfl, trivial⟩ (.cons _ (.refl _))⟩
      ·refine sno hs ?_; clear hs; intro a w hs
       refine uon hs ?_; clear hs; intro a he
       refine T_any2 he rfl rfl ?_ ?_ <;> (clear he; intro a w hs)
       ·refine sno hs ?_; clear hs; intro a w hs
        refine uon hs ?_; clear hs; intro a he
        refine T_any1 he rfl ?_; clear he; intro a w hs
        refine sno hs ?_; clear hs; intro a w hs
        refine uon hs ?_; clear hs; intro a he
        refine T_any1 he rfl ?_; clear he; intro a w hs
        refine sno hs ?_; clear hs; intro a w hs
        refine uon hs ?_; clear hs; intro a he
        refine uno 24 he rfl ?_; clear he; intro a he
        refine uy (v := .bool (false)) 25 he rfl (y_pick rfl rfl) ?_; clear he; intro a he
        refine uy (v := .bool (false)) 26 he rfl (y_assign rfl) ?_; clear he; intro a he
        refine T_nil he ?_; clear he; intro w hs; try clear hsD
        exact ⟨_, false, hbase18, hm, hs.subs ⟨rfl, trivial⟩ (.cons _ (.refl _))⟩
       ·refine sno hs ?_; clear hs; intro a w hs
        refine uon hs ?_; clear hs; intro a he
        refine T_any1 he rfl ?_; clear he; intro a w hs
        refine sno hs ?_; clear hs; intro a w hs
        refine uon hs ?_; clear hs; intro a he
        refine T_any1 he rfl ?_; clear he; intro a w hs
        refine sno hs ?_; clear hs; intro a w hs
        refine uon hs ?_; clear hs; intro a he
        refine uno 24 he rfl ?_; clear he; intro a he
        refine uy (v := .bool (false)) 25 he rfl (y_pick rfl rfl) ?_; clear he; intro a he
        refine uy (v := .bool (false)) 26 he rfl (y_assign rfl) ?_; clear he; intro a he
        refine T_nil he ?_; clear he; intro w hs; try clear hsD
        exact ⟨_, false, hbase18, hm, hs.subs ⟨rfl, trivial⟩ (.cons _ (.refl _))⟩
   ·refine sno hs ?_; clear hs; intro a w hs
    refine uon hs ?_; clear hs; intro a he
    refine T_any2 he rfl rfl ?_ ?_ <;> (clear he; intro a w hs)
    ·refine sno hs ?_; clear hs; intro a w hs
     refine uon hs ?_; clear hs; intro a he
     refine T_any1 he rfl ?_; clear he; intro a w hs
     refine sno hs ?_; clear hs; intro a w hs
     refine uon hs ?_; clear hs; intro a he
     refine T_any1 he rfl ?_; clear he; intro a w hs
     refine sno hs ?_; clear hs; intro a w hs
     refine uon hs ?_; clear hs; intro a he
     refine T_any1 he rfl ?_; clear he; intro a w hs
     refine sno hs ?_; clear hs; intro a w hs
     refine uon hs ?_; clear hs; intro a he
     refine T_any1 he rfl ?_; clear he; intro a w hs
     refine sno hs ?_; clear hs; intro a w hs
     refine uon hs ?_; clear hs; intro a he
     refine uy (v := .bool (false)) 15 he rfl (y_pick rfl rfl) ?_; clear he; intro a he
     refine uy (v := .bool (false)) 16 he rfl (y_move rfl) ?_; clear he; intro a he
     refine uno 18 he rfl ?_; clear he; intro a he
     refine T_any2 he rfl rfl ?_ ?_ <;> (clear he; intro a w hs)
     ·refine sno hs ?_; clear hs; intro a w hs
      refine uon hs ?_; clear hs; intro a he
      refine T_any1 he rfl ?_; clear he; intro a w hs
      refine sno hs ?_; clear hs; intro a w hs
      refine uon hs ?_; clear hs; intro a he
      refine T_any1 he rfl ?_; clear he; intro a w hs
      refine sno hs ?_; clear hs; intro a w hs
      refine uon hs ?_; clear hs; intro a he
      refine T_any1 he rfl ?_; clear he; intro a w hs
      refine sno hs ?_; clear hs; intro a w hs
      refine uon hs ?_; clear hs; intro a he
      refine T_any1 he rfl ?_; clear he; intro a w hs
      refine sno hs ?_; clear hs; intro a w hs
      refine uon hs ?_; clear hs; intro a he
      refine T_any1 he rfl ?_; clear he; intro a w hs
      refine sno hs ?_; clear hs; intro a w hs
      refine uon hs ?_; clear hs; intro a he
      refine uno 24 he rfl ?_; clear he; intro a he
      refine uy (v := .bool (false)) 25 he rfl (y_pick rfl rfl) ?_; clear he; intro a he
      refine uy (v := .bool (false)) 26 he rfl (y_assign rfl) ?_; clear he; intro a he
      refine T_nil he ?_; clear he; intro w hs; try clear hsD
      exact ⟨_, false, hbase18, hm, hs.subs ⟨rfl, trivial⟩ (.cons _ (.refl _))⟩
     ·refine sno hs ?_; clear hs; intro a w hs
      refine uon hs ?_; clear hs; intro a he
      refine T_any2 he rfl rfl ?_ ?_ <;> (clear he; intro a w hs)
      ·refine sno hs ?_; clear hs; intro a w hs
       refine uon hs ?_; clear hs; intro a he
       refine T_any1 he rfl ?_; clear he; intro a w hs
       refine sno hs ?_; clear hs; intro a w hs
       refine uon hs ?_; clear hs; intro a he
       refine T_any1 he rfl ?_; clear he; intro a w hs
       refine sno hs ?_; clear hs; intro a w hs
       refine uon hs ?_; clear hs; intro a he
       refine T_any1 he rfl ?_; clear he; intro a w hs
       refine sno hs ?_; clear hs; intro a w hs
       refine uon hs ?_; clear hs; intro a he
       refine T_any1 he rfl ?_; clear he; intro a w hs
       refine sno hs ?_; clear hs; intro a w hs
       refine uon hs ?_; clear hs; intro a he
       refine uno 24 he rfl ?_; clear he; intro a he
       refine uy (v := .bool (false)) 25 he rfl (y_pick rfl rfl) ?_; clear he; intro a he
       refine uy (v := .bool (false)) 26 he rfl (y_assign rfl) ?_; clear he; intro a he
       refine T_nil he ?_; clear he; intro w hs; try clear hsD
       exact ⟨_, false, hbase18, hm, hs.subs ⟨rfl, trivial⟩ (.cons _ (.refl _))⟩
      ·refine sno hs ?_; clear hs; intro a w hs
       refine uon hs ?_; clear hs; intro a he
       refine T_any2 he rfl rfl ?_ ?_ <;> (clear he; intro a w hs)
       ·refine sno hs ?_; clear hs; intro a w hs
        refine uon hs ?_; clear hs; intro a he
        refine T_any1 he rfl ?_; clear he; intro a w hs
        refine sno hs ?_; clear hs; intro a w hs
        refine uon hs ?_; clear hs; intro a he
        refine T_any1 he rfl ?_; clear he; intro a w hs
        refine sno hs ?_; clear hs; intro a w hs
        refine uon hs ?_; clear hs; intro a he
        refine T_any1 he rfl ?_; clear he; intro a w hs
        refine sno hs ?_; clear hs; intro a w hs
        refine uon hs ?_; clear hs; intro a he
        refine uno 24 he rfl ?_; clear he; intro a he
        refine uy (v := .bool (false)) 25 he rfl (y_pick rfl rfl) ?_; clear he; intro a he
        refine uy (v := .bool (false)) 26 he rfl (y_assign rfl) ?_; clear he; intro a he
        refine T_nil he ?_; clear he; intro w hs; try clear hsD
        exact ⟨_, false, hbase18, hm, hs.subs ⟨rfl, trivial⟩ (.cons _ (.refl _))⟩
       ·refine sno hs ?_; clear hs; intro a w hs
        refine uon hs ?_; clear hs; intro a he
        refine T_any2 he rfl rfl ?_ ?_ <;> (clear he; intro a w hs)
        ·refine sno hs ?_; clear hs; intro a w hs
         refine uon hs ?_; clear hs; intro a he
         refine T_any1 he rfl ?_; clear he; intro a w hs
         refine sno hs ?_; clear hs; intro a w hs
         refine uon hs ?_; clear hs; intro a he
         refine T_any1 he rfl ?_; clear he; intro a w hs
         refine sno hs ?_; clear hs; intro a w hs
         refine uon hs ?_; clear hs; intro a he
         refine uno 24 he rfl ?_; clear he; intro a he
         refine uy (v := .bool (false)) 25 he rfl (y_pick rfl rfl) ?_; clear he; intro a he
         refine uy (v := .bool (false)) 26 he rfl (y_assign rfl) ?_; clear he; intro a he
         refine T_nil he ?_; clear he; intro w hs; try clear hsD
         exact ⟨_, false, hbase18, hm, hs.subs ⟨rfl, trivial⟩ (.cons _ (.refl _))⟩
        ·refine sno hs ?_; clear hs; intro a w hs
         refine uon hs ?_; clear hs; intro a he
         refine T_any1 he rfl ?_; clear he; intro a w hs
         refine sno hs ?_; clear hs; intro a w hs
         refine uon hs ?_; clear hs; intro a he
         refine T_any1 he rfl ?_; clear he; intro a w hs
         refine sno hs ?_; clear hs; intro a w hs
         refine uon hs ?_; clear hs; intro a he
         refine uno 24 he rfl ?_; clear he; intro a he
         refine uy (v := .bool (false)) 25 he rfl (y_pick rfl rfl) ?_; clear he; intro a he
         refine uy (v := .bool (false)) 26 he rfl (y_assign rfl) ?_; clear he; intro a he
         refine T_nil he ?_; clear he; intro w hs; try clear hsD
         exact ⟨_, false, hbase18, hm, hs.subs ⟨rfl, trivial⟩ (.cons _ (.refl _))⟩
    ·refine sno hs ?_; clear hs; intro a w hs
     refine uon hs ?_; clear hs; intro a he
     refine T_any2 he rfl rfl ?_ ?_ <;> (clear he; intro a w hs)
     ·refine sno hs ?_; clear hs; intro a w hs
      refine uon hs ?_; clear hs; intro a he
      refine T_any1 he rfl ?_; clear he; intro a w hs
      refine sno hs ?_; clear hs; intro a w hs
      refine uon hs ?_; clear hs; intro a he
      refine T_any1 he rfl ?_; clear he; intro a w hs
      refine sno hs ?_; clear hs; intro a w hs
      refine uon hs ?_; clear hs; intro a he
      refine T_any1 he rfl ?_; clear he; intro a w hs
      refine sno hs ?_; clear hs; intro a w hs
      refine uon hs ?_; clear hs; intro a he
      refine uy (v := .bool (false)) 15 he rfl (y_pick rfl rfl) ?_; clear he; intro a he
      refine uy (v := .bool (false)) 16 he rfl (y_move rfl) ?_; clear he; intro a he
      refine uno 18 he rfl ?_; clear he; intro a he
      refine T_any2 he rfl rfl ?_ ?_ <;> (clear he; intro a w hs)
      ·refine sno hs ?_; clear hs; intro a w hs
       refine uon hs ?_; clear hs; intro a he
       refine T_any1 he rfl ?_; clear he; intro a w hs
       refine sno hs ?_; clear hs; intro a w hs
       refine uon hs ?_; clear hs; intro a he
       refine T_any1 he rfl ?_; clear he; intro a w hs
       refine sno hs ?_; clear hs; intro a w hs
       refine uon hs ?_; clear hs; intro a he
       refine T_any1 he rfl ?_; clear he; intro a w hs
       refine sno hs ?_; clear hs; intro a w hs
       refine uon hs ?_; clear hs; intro a he
       refine T_any1 he rfl ?_; clear he; intro a w hs
       refine sno hs ?_; clear hs; intro a w hs
       refine uon hs ?_; clear hs; intro a he
       refine T_any1 he rfl ?_; clear he; intro a w hs
       refine sno hs ?_; clear hs; intro a w hs
       refine uon hs ?_; clear hs; intro a he
       refine uno 24 he rfl ?_; clear he; intro a he
       refine uy (v := .bool (false)) 25 he rfl (y_pick rfl rfl) ?_; clear he; intro a he
       refine uy (v := .bool (false)) 26 he rfl (y_assign rfl) ?_; clear he; intro a he
       refine T_nil he ?_; clear he; intro w hs; try clear hsD
       exact ⟨_, false, hbase18, hm, hs.subs ⟨rfl, trivial⟩ (.cons _ (.refl _))⟩
      ·refine sno hs ?_; clear hs; intro a w hs
       refine uon hs ?_; clear hs; intro a he
       refine T_any2 he rfl rfl ?_ ?_ <;> (clear he; intro a w hs)
       ·refine sno hs ?_; clear hs; intro a w hs
        refine uon hs ?_; clear hs; intro a he
        refine T_any1 he rfl ?_; clear he; intro a w hs
        refine sno hs ?_; clear hs; intro a w hs
        refine uon hs ?_; clear hs; intro a he
        refine T_any1 he rfl ?_; clear he; intro a w hs
        refine sno hs ?_; clear hs; intro a w hs
        refine uon hs ?_; clear hs; intro a he
        refine T_any1 he rfl ?_; clear he; intro a w hs
        refine sno hs ?_; clear hs; intro a w hs
        refine uon hs ?_; clear hs; intro a he
        refine T_any1 he rfl ?_; clear he; intro a w hs
        refine sno hs ?_; clear hs; intro a w hs
        refine uon hs ?_; clear hs; intro a he
        refine uno 24 he rfl ?_; clear he; intro a he
        refine uy (v := .bool (false)) 25 he rfl (y_pick rfl rfl) ?_; clear he; intro a he
        refine uy (v := .bool (false)) 26 he rfl (y_assign rfl) ?_; clear he; intro a he
        refine T_nil he ?_; clear he; intro w hs; try clear hsD
        exact ⟨_, false, hbase18, hm, hs.subs ⟨rfl, trivial⟩ (.cons _ (.refl _))⟩
       ·refine sno hs ?_; clear hs; intro a w hs
        refine uon hs ?_; clear hs; intro a he
        refine T_any2 he rfl rfl ?_ ?_ <;> (clear he; intro a w hs)
        ·refine sno hs ?_; clear hs; intro a w hs
         refine uon hs ?_; clear hs; intro a he
         refine T_any1 he rfl ?_; clear he; intro a w hs
         refine sno hs ?_; clear hs; intro a w hs
         refine uon hs ?_; clear hs; intro a he
         refine T_any1 he rfl ?_; clear he; intro a w hs
         refine sno hs ?_; clear hs; intro a w hs
         refine uon hs ?_; clear hs; intro a he
         refine T_any1 he rfl ?_; clear he; intro a w hs
         refine sno hs ?_; clear hs; intro a w hs
         refine uon hs ?_; clear hs; intro a he
         refine uno 24 he rfl ?_; clear he; intro a he
         refine uy (v := .bool (false)) 25 he rfl (y_pick rfl rfl) ?_; clear he; intro a he
         refine uy (v := .bool (false)) 26 he rfl (y_assign rfl) ?_; clear he; intro a he
         refine T_nil he ?_; clear he; intro w hs; try clear hsD
         exact ⟨_, false, hbase18, hm, hs.subs ⟨rfl, trivial⟩ (.cons _ (.refl _))⟩
        ·refine sno hs ?_; clear hs; intro a w hs
         refine uon hs ?_; clear hs; intro a he
         refine T_any2 he rfl rfl ?_ ?_ <;> (clear he; intro a w hs)
         ·refine sno hs ?_; clear hs; intro a w hs
          refine uon hs ?_; clear hs; intro a he
          refine T_any1 he rfl ?_; clear he; intro a w hs
          refine sno hs ?_; clear hs; intro a w hs
          refine uon hs ?_; clear hs; intro a he
          refine T_any1 he rfl ?_; clear he; intro a w hs
          refine sno hs ?_; clear hs; intro a w hs
          refine uon hs ?_; clear hs; intro a he
          refine uno 24 he rfl ?_; clear he; intro a he
          refine uy (v := .bool (false)) 25 he rfl (y_pick rfl rfl) ?_; clear he; intro a he
          refine uy (v := .bool (false)) 26 he rfl (y_assign rfl) ?_; clear he; intro a he
          refine T_nil he ?_; clear he; intro w hs; try clear hsD
          exact ⟨_, false, hbase18, hm, hs.subs ⟨rfl, trivial⟩ (.cons _ (.refl _))⟩
         ·refine sno hs ?_; clear hs; intro a w hs
          refine uon hs ?_; clear hs; intro a he
          refine T_any1 he rfl ?_; clear he; intro a w hs
          refine sno hs ?_; clear hs; intro a w hs
          refine uon hs ?_; clear hs; intro a he
          refine T_any1 he rfl ?_; clear he; intro a w hs
          refine sno hs ?_; clear hs; intro a w hs
          refine uon hs ?_; clear hs; intro a he
          refine uno 24 he rfl ?_; clear he; intro a he
          refine uy (v := .bool (false)) 25 he rfl (y_pick rfl rfl) ?_; clear he; intro a he
          refine uy (v := .bool (false)) 26 he rfl (y_assign rfl) ?_; clear he; intro a he
          refine T_nil he ?_; clear he; intro w hs; try clear hsD
          exact ⟨_, false, hbase18, hm, hs.subs ⟨rfl, trivial⟩ (.cons _ (.refl _))⟩
     ·refine sno hs ?_; clear hs; intro a w hs
      refine uon hs ?_; clear hs; intro a he
      refine T_any2 he rfl rfl ?_ ?_ <;> (clear he; intro a w hs)
      ·refine sno hs ?_; clear hs; intro a w hs
       refine uon hs ?_; clear hs; intro a he
       refine T_any1 he rfl ?_; clear he; intro a w hs
       refine sno hs ?_; clear hs; intro a w hs
       refine uon hs ?_; clear hs; intro a he
       refine T_any1 he rfl ?_; clear he; intro a w hs
       refine sno hs ?_; clear hs; intro a w hs
       refine uon hs ?_; clear hs; intro a he
       refine uy (v := .bool (false)) 15 he rfl (y_pick rfl rfl) ?_; clear he; intro a he
       refine uy (v := .bool (false)) 16 he rfl (y_move rfl) ?_; clear he; intro a he
       refine uno 18 he rfl ?_; clear he; intro a he
       refine T_any2 he rfl rfl ?_ ?_ <;> (clear he; intro a w hs)
       ·refine sno hs ?_; clear hs; intro a w hs
        refine uon hs ?_; clear hs; intro a he
        refine T_any1 he rfl ?_; clear he; intro a w hs
        refine sno hs ?_; clear hs; intro a w hs
        refine uon hs ?_; clear hs; intro a he
        refine T_any1 he rfl ?_; clear he; intro a w hs
        refine sno hs ?_; clear hs; intro a w hs
        refine uon hs ?_; clear hs; intro a he
        refine T_any1 he rfl ?_; clear he; intro a w hs
        refine sno hs ?_; clear hs; intro a w hs
        refine uon hs ?_; clear hs; intro a he
        refine T_any1 he rfl ?_; clear he; intro a w hs
        refine sno hs ?_; clear hs; intro a w hs
        refine uon hs ?_; clear hs; intro a he
        refine T_any1 he rfl ?_; clear he; intro a w hs
        refine sno hs ?_; clear hs; intro a w hs
        refine uon hs ?_; clear hs; intro a he
        refine uno 24 he rfl ?_; clear he; intro a he
        refine uy (v := .bool (false)) 25 he rfl (y_pick rfl rfl) ?_; clear he; intro a he
        refine uy (v := .bool (false)) 26 he rfl (y_assign rfl) ?_; clear he; intro a he
        refine T_nil he ?_; clear he; intro w hs; try clear hsD
        exact ⟨_, false, hbase18, hm, hs.subs ⟨rfl, trivial⟩ (.cons _ (.refl _))⟩
       ·refine sno hs ?_; clear hs; intro a w hs
        refine uon hs ?_; clear hs; intro a he
        refine T_any2 he rfl rfl ?_ ?_ <;> (clear he; intro a w hs)
        ·refine sno hs ?_; clear hs; intro a w hs
         refine uon hs ?_; clear hs; intro a he
         refine T_any1 he rfl ?_; clear he; intro a w hs
         refine sno hs ?_; clear hs; intro a w hs
         refine uon hs ?_; clear hs; intro a he
         refine T_any1 he rfl ?_; clear he; intro a w hs
         refine sno hs ?_; clear hs; intro a w hs
         refine uon hs ?_; clear hs; intro a he
         refine T_any1 he rfl ?_; clear he; intro a w hs
         refine sno hs ?_; clear hs; intro a w hs
         refine uon hs ?_; clear hs; intro a he
         refine T_any1 he rfl ?_; clear he; intro a w hs
         refine sno hs ?_; clear hs; intro a w hs
         refine uon hs ?_; clear hs; intro a he
         refine uno 24 he rfl ?_; clear he; intro a he
         refine uy (v := .bool (false)) 25 he rfl (y_pick rfl rfl) ?_; clear he; intro a he
         refine uy (v := .bool (false)) 26 he rfl (y_assign rfl) ?_; clear he; intro a he
         refine T_nil he ?_; clear he; intro w hs; try clear hsD
         exact ⟨_, false, hbase18, hm, hs.subs ⟨rfl, trivial⟩ (.cons _ (.refl _))⟩
        ·refine sno hs ?_; clear hs; intro a w hs
         refine uon hs ?_; clear hs; intro a he
         refine T_any2 he rfl rfl ?_ ?_ <;> (clear he; intro a w hs)
         ·refine sno hs ?_; clear hs; intro a w hs
          refine uon hs ?_; clear hs; intro a he
          refine T_any1 he rfl ?_; clear he; intro a w hs
          refine sno hs ?_; clear hs; intro a w hs
          refine uon hs ?_; clear hs; intro a he
          refine T_any1 he rfl ?_; clear he; intro a w hs
          refine sno hs ?_; clear hs; intro a w hs
          refine uon hs ?_; clear hs; intro a he
          refine T_any1 he rfl ?_; clear he; intro a w hs
          refine sno hs ?_; clear hs; intro a w hs
          refine uon hs ?_; clear hs; intro a he
          refine uno 24 he rfl ?_; clear he; intro a he
          refine uy (v := .bool (false)) 25 he rfl (y_pick rfl rfl) ?_; clear he; intro a he
          refine uy (v := .bool (false)) 26 he rfl (y_assign rfl) ?_; clear he; intro a he
          refine T_nil he ?_; clear he; intro w hs; try clear hsD
          exact ⟨_, false, hbase18, hm, hs.subs ⟨rfl, trivial⟩ (.cons _ (.refl _))⟩
         ·refine sno hs ?_; clear hs; intro a w hs
          refine uon hs ?_; clear hs; intro a he
          refine T_any2 he rfl rfl ?_ ?_ <;> (clear he; intro a w hs)
          ·refine sno hs ?_; clear hs; intro a w hs
           refine uon hs ?_; clear hs; intro a he
           refine T_any1 he rfl ?_; clear he; intro a w hs
           refine sno hs ?_; clear hs; intro a w hs
           refine uon hs ?_; clear hs; intro a he
           refine T_any1 he rfl ?_; clear he; intro a w hs
           refine sno hs ?_; clear hs; intro a w hs
           refine uon hs ?_; clear hs; intro a he
           refine uno 24 he rfl ?_; clear he; intro a he
           refine uy (v := .bool (false)) 25 he rfl (y_pick rfl rfl) ?_; clear he; intro a he
           refine uy (v := .bool (false)) 26 he rfl (y_assign rfl) ?_; clear he; intro a he
           refine T_nil he ?_; clear he; intro w hs; try clear hsD
           exact ⟨_, false, hbase18, hm, hs.subs ⟨rfl, trivial⟩ (.cons _ (.refl _))⟩
          ·refine sno hs ?_; clear hs; intro a w hs
           refine uon hs ?_; clear hs; intro a he
           refine T_any1 he rfl ?_; clear he; intro a w hs
           refine sno hs ?_; clear hs; intro a w hs
           refine uon hs ?_; clear hs; intro a he
           refine T_any1 he rfl ?_; clear he; intro a w hs
           refine sno hs ?_; clear hs; intro a w hs
           refine uon hs ?_; clear hs; intro a he
           refine uno 24 he rfl ?_; clear he; intro a he
           refine uy (v := .bool (false)) 25 he rfl (y_pick rfl rfl) ?_; clear he; intro a he
           refine uy (v := .bool (false)) 26 he rfl (y_assign rfl) ?_; clear he; intro a he
           refine T_nil he ?_; clear he; intro w hs; try clear hsD
           exact ⟨_, false, hbase18, hm, hs.subs ⟨rfl, trivial⟩ (.cons _ (.refl _))⟩
      ·refine sno hs ?_; clear hs; intro a w hs
       refine uon hs ?_; clear hs; intro a he
       refine T_any1 he rfl ?_; clear he; intro a w hs
       refine sno hs ?_; clear hs; intro a w hs
       refine uon hs ?_; clear hs; intro a he
       refine T_any1 he rfl ?_; clear he; intro a w hs
       refine sno hs ?_; clear hs; intro a w hs
       refine uon hs ?_; clear hs; intro a he
       refine uy (v := .bool (false)) 15 he rfl (y_pick rfl rfl) ?_; clear he; intro a he
       refine uy (v := .bool (false)) 16 he rfl (y_move rfl) ?_; clear he; intro a he
       refine uno 18 he rfl ?_; clear he; intro a he
       refine T_any2 he rfl rfl ?_ ?_ <;> (clear he; intro a w hs)
       ·refine sno hs ?_; clear hs; intro a w hs
        refine uon hs ?_; clear hs; intro a he
        refine T_any1 he rfl ?_; clear he; intro a w hs
        refine sno hs ?_; clear hs; intro a w hs
        refine uon hs ?_; clear hs; intro a he
        refine T_any1 he rfl ?_; clear he; intro a w hs
        refine sno hs ?_; clear hs; intro a w hs
        refine uon hs ?_; clear hs; intro a he
        refine T_any1 he rfl ?_; clear he; intro a w hs
        refine sno hs ?_; clear hs; intro a w hs
        refine uon hs ?_; clear hs; intro a he
        refine T_any1 he rfl ?_; clear he; intro a w hs
        refine sno hs ?_; clear hs; intro a w hs
        refine uon hs ?_; clear hs; intro a he
        refine T_any1 he rfl ?_; clear he; intro a w hs
        refine sno hs ?_; clear hs; intro a w hs
        refine uon hs ?_; clear hs; intro a he
        refine uno 24 he rfl ?_; clear he; intro a he
        refine uy (v := .bool (false)) 25 he rfl (y_pick rfl rfl) ?_; clear he; intro a he
        refine uy (v := .bool (false)) 26 he rfl (y_assign rfl) ?_; clear he; intro a he
        refine T_nil he ?_; clear he; intro w hs; try clear hsD
        exact ⟨_, false, hbase18, hm, hs.subs ⟨rfl, trivial⟩ (.cons _ (.refl _))⟩
       ·refine sno hs ?_; clear hs; intro a w hs
        refine uon hs ?_; clear hs; intro a he
        refine T_any2 he rfl rfl ?_ ?_ <;> (clear he; intro a w hs)
        ·refine sno hs ?_; clear hs; intro a w hs
         refine uon hs ?_; clear hs; intro a he
         refine T_any1 he rfl ?_; clear he; intro a w hs
         refine sno hs ?_; clear hs; intro a w hs
         refine uon hs ?_; clear hs; intro a he
         refine T_any1 he rfl ?_; clear he; intro a w hs
         refine sno hs ?_; clear hs; intro a w hs
         refine uon hs ?_; clear hs; intro a he
         refine T_any1 he rfl ?_; clear he; intro a w hs
         refine sno hs ?_; clear hs; intro a w hs
         refine uon hs ?_; clear hs; intro a he
         refine T_any1 he rfl ?_; clear he; intro a w hs
         refine sno hs ?_; clear hs; intro a w hs
         refine uon hs ?_; clear hs; intro a he
         refine uno 24 he rfl ?_; clear he; intro a he
         refine uy (v := .bool (false)) 25 he rfl (y_pick rfl rfl) ?_; clear he; intro a he
         refine uy (v := .bool (false)) 26 he rfl (y_assign rfl) ?_; clear he; intro a he
         refine T_nil he ?_; clear he; intro w hs; try clear hsD
         exact ⟨_, false, hbase18, hm, hs.subs ⟨rfl, trivial⟩ (.cons _ (.refl _))⟩
        ·refine sno hs ?_; clear hs; intro a w hs
         refine uon hs ?_; clear hs; intro a he
         refine T_any2 he rfl rfl ?_ ?_ <;> (clear he; intro a w hs)
         ·refine sno hs ?_; clear hs; intro a w hs
          refine uon hs ?_; clear hs; intro a he
          refine T_any1 he rfl ?_; clear he; intro a w hs
          refine sno hs ?_; clear hs; intro a w hs
          refine uon hs ?_; clear hs; intro a he
          refine T_any1 he rfl ?_; clear he; intro a w hs
          refine sno hs ?_; clear hs; intro a w hs
          refine uon hs ?_; clear hs; intro a he
          refine T_any1 he rfl ?_; clear he; intro a w hs
          refine sno hs ?_; clear hs; intro a w hs
          refine uon hs ?_; clear hs; intro a he
          refine uno 24 he rfl ?_; clear he; intro a he
          refine uy (v := .bool (false)) 25 he rfl (y_pick rfl rfl) ?_; clear he; intro a he
          refine uy (v := .bool (false)) 26 he rfl (y_assign rfl) ?_; clear he; intro a he
          refine T_nil he ?_; clear he; intro w hs; try clear hsD
          exact ⟨_, false, hbase18, hm, hs.subs ⟨rfl, trivial⟩ (.cons _ (.refl _))⟩
         ·refine sno hs ?_; clear hs; intro a w hs
          refine uon hs ?_; clear hs; intro a he
          refine T_any2 he rfl rfl ?_ ?_ <;> (clear he; intro a w hs)
          ·refine sno hs ?_; clear hs; intro a w hs
           refine uon hs ?_; clear hs; intro a he
           refine T_any1 he rfl ?_; clear he; intro a w hs
           refine sno hs ?_; clear hs; intro a w hs
           refine uon hs ?_; clear hs; intro a he
           refine T_any1 he rfl ?_; clear he; intro a w hs
           refine sno hs ?_; clear hs; intro a w hs
           refine uon hs ?_; clear hs; intro a he
           refine uno 24 he rfl ?_; clear he; intro a he
           refine uy (v := .bool (false)) 25 he rfl (y_pick rfl rfl) ?_; clear he; intro a he
           refine uy (v := .bool (false)) 26 he rfl (y_assign rfl) ?_; clear he; intro a he
           refine T_nil he ?_; clear he; intro w hs; try clear hsD
           exact ⟨_, false, hbase18, hm, hs.subs ⟨rfl, trivial⟩ (.cons _ (.refl _))⟩
          ·refine sno hs ?_; clear hs; intro a w hs
           refine uon hs ?_; clear hs; intro a he
           refine T_any1 he rfl ?_; clear he; intro a w hs
           refine sno hs ?_; clear hs; intro a w hs
           refine uon hs ?_; clear hs; intro a he
           refine T_any1 he rfl ?_; clear he; intro a w hs
           refine sno hs ?_; clear hs; intro a w hs
           refine uon hs ?_; clear hs; intro a he
           refine uno 24 he rfl ?_; clear he; intro a he
           refine uy (v := .bool (false)) 25 he rfl (y_pick rfl rfl) ?_; clear he; intro a he
           refine uy (v := .bool (false)) 26 he rfl (y_assign rfl) ?_; clear he; intro a he
           refine T_nil he ?_; clear he; intro w hs; try clear hsD
           exact ⟨_, false, hbase18, hm, hs.subs ⟨rfl, trivial⟩ (.cons _ (.refl _))⟩
end Go.Proofs.YtmkcglpeidbblaaDoor
