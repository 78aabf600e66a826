/-
  Walks and laws of this seat; the base is the text Base.
-/
import Derived.Test.YtmkcglpeidbblaaDoorL10k
import Derived.Test.YtmkcglpeidbblaaDoorL10i
import Derived.Test.YtmkcglpeidbblaaDoorRows
/-
  Models of functions, and that the functions compute them. Printed by lift.py.
-/
namespace Go.Proofs.YtmkcglpeidbblaaDoor
open Go.RowKit Go.Sl
/-! casement/casementlaw10.MatchNumbers -/
def law10_MatchNumbers_k2 (y247 : Bool) : Option Bool :=
  some y247
def law10_MatchNumbers_r1 (n : Nat) (x1 : api_Tree) (x54 : sheet_Selector) : List Int → (List Int) → Option Bool
  | [], y215 =>
  (match_Best n x1 4 ([] : List sheet_Selector)).bind fun x241 =>
  (match_Match n x1 4 x54).bind fun x250 =>
  (bif x250 then (match_Weigh n x54).bind fun x253 =>
  (bif (decide (x253.Ids = 1) && (decide (x253.Tests = 0) && (decide (x253.Names = 1) && true))) then (law10_name n 0 (bs [108, 105]) ([] : List sheet_Test)).bind fun x257 =>
  (law10_name n 4 (bs [108, 105]) ([] : List sheet_Test)).bind fun x288 =>
  (law10_name n 4 (bs [108, 105]) ([] : List sheet_Test)).bind fun x321 =>
  (law10_sel n [x257, x288, x321]).bind fun x384 =>
  (match_Match n x1 4 x384).bind fun x416 =>
  (bif (!x416) then (law10_sel n ([] : List sheet_Step)).bind fun x420 =>
  (match_Match n x1 4 x420).bind fun x454 =>
  (bif (!x454) then (law10_name n 0 (bs []) ([] : List sheet_Test)).bind fun x458 =>
  (law10_sel n [x458]).bind fun x531 =>
  (match_Match n x1 3 x531).bind fun x571 =>
  (bif (!x571) then (law10_name n 0 (bs []) [({Kind := 5, Name := (bs []), Value := (bs []), N := 0} : sheet_Test), ({Kind := 6, Name := (bs []), Value := (bs []), N := 0} : sheet_Test)]).bind fun x615 =>
  (law10_sel n [x615]).bind fun x704 =>
  (match_Match n x1 0 x704).bind fun x752 =>
  (bif x752 then (law10_name n 0 (bs []) ([] : List sheet_Test)).bind fun x756 =>
  (law10_sel n [x756]).bind fun x857 =>
  (match_Weigh n x857).bind fun x911 =>
  (bif (decide (x911.Ids = 0) && (decide (x911.Tests = 0) && (decide (x911.Names = 0) && true))) then (book_Same_int n y215 [2, 4]).bind fun x920 =>
  (bif x920 then (bif (!x241.2) then (match_Less n ({Ids := 0, Tests := 9, Names := 0} : match_Weight) ({Ids := 1, Tests := 0, Names := 0} : match_Weight)).bind fun x924 =>
  (bif x924 then (law10_known n).bind fun x927 =>
  law10_MatchNumbers_k2 x927 else
  law10_MatchNumbers_k2 false) else
  law10_MatchNumbers_k2 false) else
  law10_MatchNumbers_k2 false) else
  law10_MatchNumbers_k2 false) else
  law10_MatchNumbers_k2 false) else
  law10_MatchNumbers_k2 false) else
  law10_MatchNumbers_k2 false) else
  law10_MatchNumbers_k2 false) else
  law10_MatchNumbers_k2 false) else
  law10_MatchNumbers_k2 false)
  | x232 :: rm231, y215 =>
  (appM 8 y215 [x232]).bind fun x940 =>
  (law10_MatchNumbers_r1 n x1 x54 rm231) x940
def law10_MatchNumbers (n : Nat) : Option Bool :=
  (law10_sample n).bind fun x1 =>
  (law10_name n 0 (bs [114, 111, 111, 116]) ([] : List sheet_Test)).bind fun x16 =>
  (law10_name n 1 (bs []) [({Kind := 1, Name := (bs [120]), Value := (bs []), N := 0} : sheet_Test)]).bind fun x35 =>
  (law10_sel n [x16, x35]).bind fun x54 =>
  (law10_name n 0 (bs [108, 105]) ([] : List sheet_Test)).bind fun x70 =>
  (law10_sel n [x70]).bind fun x121 =>
  (match_All n x1 x121).bind fun x150 =>
  (match_All_1 n x150.1 x150.2).bind fun x197 =>
  law10_MatchNumbers_r1 n x1 x54 x197 ([] : List Int)
set_option maxRecDepth 20000 in
set_option maxHeartbeats 4000000 in
theorem law10_MatchNumbers_ok (n : Nat) {f : Fz} {o0 : Obj} {o1 : Obj} {res : Bool} (hT0 : f 0 = some o0) (hT1 : f 1 = some o1) (hTT : Tabs o0 o1) (hm : law10_MatchNumbers n = some res) : Gives Tryd.prog 9 [] f (.bool res) := by
 unfold law10_MatchNumbers at hm
 intro w0 L w hC
 refine enter1 Tryd.func9 rfl Tryd.ntmps9 (by simp) hC fun a hs => ?_
 have hM : Marks f f [] := Marks.nil
 have hle := Fz.le.refl f
 refine W1_seq fun K1 hK1 => ?_
 refine W1_of ?_
 refine W_region ?_
 refine sy (v := .bool (false)) hs (y_assign rfl) ?_; clear hs; (try clear a w); intro a w hs
 refine RL_nil ?_
 refine hK1 _ _ _ ?_; clear hK1
 refine W1_seq fun K2 hK2 => ?_
 refine W1_of ?_
 refine W_region ?_
 obtain ⟨x1, hx2, hm⟩ := ob hm
 refine RL_callV hs rfl has25 rfl (law10_sample_ok n (f := f)  hx2) ?_; clear hs; (try clear a w)
 rintro _ f3 _ a w hf4 ⟨r5, rfl, rfl, hq6⟩ hs
 replace hT0 := hf4 _ _ hT0
 replace hT1 := hf4 _ _ hT1
 replace hle := hle.trans hf4
 replace hM := hM.le hf4
 obtain ⟨v7, rfl, ⟨rw8, hR9, hW10⟩⟩ := hq6
 replace hs : St _ _ _ (L) _ _ _ := hs
 refine RL_alloc hs ti24 (.free rfl) (by decide) ?_; clear hs; (try clear a w); intro b12 a w hs
 replace hs : St _ _ _ (.blk b12 (.cells #[(.slice none 0 0)] 24 (0, 0)) :: L) _ _ _ := hs
 refine RL_storeAll (i := 0) hs rfl rfl rfl ti24 ⟨rfl, rfl⟩ (AllC.arr (r := [v7]) ⟨hR9.one, trivial⟩) (.free rfl) ?_; clear hs; (try clear a w); intro a w hs
 replace hs : St _ _ _ (.blk b12 (.cells #[v7] 24 (0, 0)) :: L) _ _ _ := hs
 refine RL_nil ?_
 refine hK2 _ _ _ ?_; clear hK2
 refine W1_seq fun K3 hK3 => ?_
 refine W1_of ?_
 refine W_region ?_
 obtain ⟨x16, hx17, hm⟩ := ob hm
 refine RL_callV hs rfl has15 rfl (law10_name_ok n (f := f3) (a2 := (.slice none 0 0)) RS.nil hx17) ?_; clear hs; (try clear a w)
 rintro _ f18 _ a w hf19 ⟨r20, rfl, rfl, hq21⟩ hs
 replace hT0 := hf19 _ _ hT0
 replace hT1 := hf19 _ _ hT1
 replace hR9 := hR9.le hf19
 replace hW10 := hW10.le hf19
 replace hle := hle.trans hf19
 replace hM := hM.le hf19
 obtain ⟨v22, rfl, ⟨rw23, hR24, hW25⟩⟩ := hq21
 replace hs : St _ _ _ (.blk b12 (.cells #[v7] 24 (0, 0)) :: L) _ _ _ := hs
 refine sy hs (y_buildS (places := [(0, 1), (1, 1), (2, 1), (3, 1)]) (cs := [.int .i64 (1), .string ((bs [120])), .string ((bs [])), .int .i64 (0)]) rfl Tryd.underlying29 ti29 (by kernel_rfl) (by decide) rfl ⟨rfl, rfl, trivial⟩) ?_; clear hs; (try clear a w); intro a w hs
 refine RL_bs1a hs rfl Tryd.underlying33 ti29 (by decide) (AllC.row ⟨rfl, rfl, rfl, rfl, trivial⟩ rfl) ?_; clear hs; (try clear a w); intro v27 a w hs
 have hW28 : RW t_sheet_Test f18 [[.int .i64 (1), .string ((bs [120])), .string ((bs [])), .int .i64 (0)]] [({Kind := 1, Name := (bs [120]), Value := (bs []), N := 0} : sheet_Test)] := RW.single (rfl)
 generalize hgrw29 : ([[.int .i64 (1), .string ((bs [120])), .string ((bs [])), .int .i64 (0)]] : List (List Value)) = rw29 at hs hW28; clear hgrw29
 replace hs : St _ _ _ (.row v27 29 4 rw29 :: .blk b12 (.cells #[v7] 24 (0, 0)) :: L) _ _ _ := hs
 obtain ⟨f32, hf33, hs2, hR34⟩ := hs.frzAt 0 rfl
 clear hs; have hs := hs2; clear hs2
 replace hT0 := hf33 _ _ hT0
 replace hT1 := hf33 _ _ hT1
 replace hR9 := hR9.le hf33
 replace hW10 := hW10.le hf33
 replace hR24 := hR24.le hf33
 replace hW25 := hW25.le hf33
 replace hW28 := hW28.le hf33
 replace hle := hle.trans hf33
 replace hM := hM.le hf33
 replace hs : St _ _ _ (.blk b12 (.cells #[v7] 24 (0, 0)) :: L) _ _ _ := hs
 obtain ⟨x35, hx36, hm⟩ := ob hm
 refine RL_callV hs rfl has15 rfl (law10_name_ok n (f := f32) (a2 := v27) ⟨rw29, hR34, hW28⟩ hx36) ?_; clear hs; (try clear a w)
 rintro _ f37 _ a w hf38 ⟨r39, rfl, rfl, hq40⟩ hs
 replace hT0 := hf38 _ _ hT0
 replace hT1 := hf38 _ _ hT1
 replace hR9 := hR9.le hf38
 replace hW10 := hW10.le hf38
 replace hR24 := hR24.le hf38
 replace hW25 := hW25.le hf38
 replace hW28 := hW28.le hf38
 replace hR34 := hR34.le hf38
 replace hle := hle.trans hf38
 replace hM := hM.le hf38
 obtain ⟨v41, rfl, ⟨rw42, hR43, hW44⟩⟩ := hq40
 replace hs : St _ _ _ (.blk b12 (.cells #[v7] 24 (0, 0)) :: L) _ _ _ := hs
 refine RL_bsN (parts := [(0, .tmp 9), (1, .tmp 12)]) (us := [.agg #[.int .i64 (x16.Comb), .string (x16.Name), v22], .agg #[.int .i64 (x35.Comb), .string (x35.Name), v41]]) (rows := [[.int .i64 (x16.Comb), .string (x16.Name), v22], [.int .i64 (x35.Comb), .string (x35.Name), v41]]) hs rfl Tryd.underlying25 ti35 (by decide) rfl rfl (by intro r hr; simp only [List.mem_cons, List.mem_nil_iff, or_false] at hr; rcases hr with rfl | rfl; exact AllC.row ⟨rfl, rfl, hR24.one, trivial⟩ rfl; exact AllC.row ⟨rfl, rfl, hR43.one, trivial⟩ rfl) ?_; clear hs; (try clear a w); intro v46 a w hs
 have hW47 : RW t_sheet_Step f37 [[.int .i64 (x16.Comb), .string (x16.Name), v22], [.int .i64 (x35.Comb), .string (x35.Name), v41]] [x16, x35] := ⟨⟨_, rfl, ⟨rw23, hR24, hW25⟩⟩, ⟨⟨_, rfl, ⟨rw42, hR43, hW44⟩⟩, trivial⟩⟩
 generalize hgrw48 : ([[.int .i64 (x16.Comb), .string (x16.Name), v22], [.int .i64 (x35.Comb), .string (x35.Name), v41]] : List (List Value)) = rw48 at hs hW47; clear hgrw48
 replace hs : St _ _ _ (.row v46 35 3 rw48 :: .blk b12 (.cells #[v7] 24 (0, 0)) :: L) _ _ _ := hs
 obtain ⟨f51, hf52, hs2, hR53⟩ := hs.frzAt 0 rfl
 clear hs; have hs := hs2; clear hs2
 replace hT0 := hf52 _ _ hT0
 replace hT1 := hf52 _ _ hT1
 replace hR9 := hR9.le hf52
 replace hW10 := hW10.le hf52
 replace hR24 := hR24.le hf52
 replace hW25 := hW25.le hf52
 replace hW28 := hW28.le hf52
 replace hR34 := hR34.le hf52
 replace hR43 := hR43.le hf52
 replace hW44 := hW44.le hf52
 replace hW47 := hW47.le hf52
 replace hle := hle.trans hf52
 replace hM := hM.le hf52
 replace hs : St _ _ _ (.blk b12 (.cells #[v7] 24 (0, 0)) :: L) _ _ _ := hs
 obtain ⟨x54, hx55, hm⟩ := ob hm
 refine RL_callV hs rfl has14 rfl (law10_sel_ok n (f := f51) (a0 := v46) ⟨rw48, hR53, hW47⟩ hx55) ?_; clear hs; (try clear a w)
 rintro _ f56 _ a w hf57 ⟨r58, rfl, rfl, hq59⟩ hs
 replace hT0 := hf57 _ _ hT0
 replace hT1 := hf57 _ _ hT1
 replace hR9 := hR9.le hf57
 replace hW10 := hW10.le hf57
 replace hR24 := hR24.le hf57
 replace hW25 := hW25.le hf57
 replace hW28 := hW28.le hf57
 replace hR34 := hR34.le hf57
 replace hR43 := hR43.le hf57
 replace hW44 := hW44.le hf57
 replace hW47 := hW47.le hf57
 replace hR53 := hR53.le hf57
 replace hle := hle.trans hf57
 replace hM := hM.le hf57
 obtain ⟨v60, rfl, ⟨rw61, hR62, hW63⟩⟩ := hq59
 replace hs : St _ _ _ (.blk b12 (.cells #[v7] 24 (0, 0)) :: L) _ _ _ := hs
 refine RL_alloc hs ti27 (.free rfl) (by decide) ?_; clear hs; (try clear a w); intro b65 a w hs
 replace hs : St _ _ _ (.blk b65 (.cells #[(.slice none 0 0)] 27 (0, 0)) :: .blk b12 (.cells #[v7] 24 (0, 0)) :: L) _ _ _ := hs
 refine RL_storeAll (i := 0) hs rfl rfl rfl ti27 ⟨rfl, rfl⟩ (AllC.arr (r := [v60]) ⟨hR62.one, trivial⟩) (.free rfl) ?_; clear hs; (try clear a w); intro a w hs
 replace hs : St _ _ _ (.blk b65 (.cells #[v60] 27 (0, 0)) :: .blk b12 (.cells #[v7] 24 (0, 0)) :: L) _ _ _ := hs
 refine RL_nil ?_
 refine hK3 _ _ _ ?_; clear hK3
 refine W1_seq fun K4 hK4 => ?_
 refine W1_of ?_
 have hsD := hs.subL (L' := .blk b12 (.cells #[v7] 24 (0, 0)) :: []) (.cons _ (.cons_cons _ (List.nil_sublist _)))
 have hbd68 := Fz.le.refl f56
 refine T_start hs (.blk b12 (.cells #[v7] 24 (0, 0)) :: []) [] (.look 0 (.any [1] (fun _ => .any [2] (fun _ => .any [3] (fun _ => .any [4] (fun _ => .look 5 (.done))))))) mixed (by kernel_rfl) ?_; clear hs; (try clear a w); intro a he
 refine uy 0 he rfl (y_ldB rfl Tryd.underlying24 rfl ti24 (.head _) rfl) ?_; clear he; (try clear a); intro a he
 refine T_any1 he rfl ?_; clear he; (try clear a); intro a w hs
 obtain ⟨x70, hx71, hm⟩ := ob hm
 refine RL_callV hs rfl has15 rfl (law10_name_ok n (f := f56) (a2 := (.slice none 0 0)) RS.nil hx71) ?_; clear hs; (try clear a w)
 rintro _ f72 _ a w hf73 ⟨r74, rfl, rfl, hq75⟩ hs
 have hT76 := hf73 _ _ hT0
 have hT77 := hf73 _ _ hT1
 have hR78 := hR9.le hf73
 have hW79 := hW10.le hf73
 have hR80 := hR24.le hf73
 have hW81 := hW25.le hf73
 have hW82 := hW28.le hf73
 have hR83 := hR34.le hf73
 have hR84 := hR43.le hf73
 have hW85 := hW44.le hf73
 have hW86 := hW47.le hf73
 have hR87 := hR53.le hf73
 have hR88 := hR62.le hf73
 have hW89 := hW63.le hf73
 replace hle := hle.trans hf73
 replace hbd68 := hbd68.trans hf73
 replace hM := hM.le hf73
 obtain ⟨v90, rfl, ⟨rw91, hR92, hW93⟩⟩ := hq75
 replace hs : St _ _ _ (.blk b65 (.cells #[v60] 27 (0, 0)) :: .blk b12 (.cells #[v7] 24 (0, 0)) :: L) _ _ _ := hs
 refine uon hs ?_; clear hs; (try clear a w); intro a he
 refine T_any1 he rfl ?_; clear he; (try clear a); intro a w hs
 refine RL_bs1a hs rfl Tryd.underlying25 ti35 (by decide) (AllC.row ⟨rfl, rfl, hR92.one, trivial⟩ rfl) ?_; clear hs; (try clear a w); intro v95 a w hs
 have hW96 : RW t_sheet_Step f72 [[.int .i64 (x70.Comb), .string (x70.Name), v90]] [x70] := RW.single (⟨_, rfl, ⟨rw91, hR92, hW93⟩⟩)
 generalize hgrw97 : ([[.int .i64 (x70.Comb), .string (x70.Name), v90]] : List (List Value)) = rw97 at hs hW96; clear hgrw97
 replace hs : St _ _ _ (.row v95 35 3 rw97 :: .blk b65 (.cells #[v60] 27 (0, 0)) :: .blk b12 (.cells #[v7] 24 (0, 0)) :: L) _ _ _ := hs
 have ho100 : v95.oneCell' = true := hs.one (i := 0) rfl
 refine uon hs ?_; clear hs; (try clear a w); intro a he
 refine T_any1 he rfl ?_; clear he; (try clear a); intro a w hs
 obtain ⟨f101, hf102, hs2, hR103⟩ := hs.frzAt 0 rfl
 clear hs; have hs := hs2; clear hs2
 have hT104 := hf102 _ _ hT76
 have hT105 := hf102 _ _ hT77
 have hR106 := hR78.le hf102
 have hW107 := hW79.le hf102
 have hR108 := hR80.le hf102
 have hW109 := hW81.le hf102
 have hW110 := hW82.le hf102
 have hR111 := hR83.le hf102
 have hR112 := hR84.le hf102
 have hW113 := hW85.le hf102
 have hW114 := hW86.le hf102
 have hR115 := hR87.le hf102
 have hR116 := hR88.le hf102
 have hW117 := hW89.le hf102
 have hR118 := hR92.le hf102
 have hW119 := hW93.le hf102
 have hW120 := hW96.le hf102
 replace hle := hle.trans hf102
 replace hbd68 := hbd68.trans hf102
 replace hM := hM.le hf102
 replace hs : St _ _ _ (.blk b65 (.cells #[v60] 27 (0, 0)) :: .blk b12 (.cells #[v7] 24 (0, 0)) :: L) _ _ _ := hs
 obtain ⟨x121, hx122, hm⟩ := ob hm
 refine RL_callV hs rfl has14 rfl (law10_sel_ok n (f := f101) (a0 := v95) ⟨rw97, hR103, hW120⟩ hx122) ?_; clear hs; (try clear a w)
 rintro _ f123 _ a w hf124 ⟨r125, rfl, rfl, hq126⟩ hs
 have hT127 := hf124 _ _ hT104
 have hT128 := hf124 _ _ hT105
 have hR129 := hR106.le hf124
 have hW130 := hW107.le hf124
 have hR131 := hR108.le hf124
 have hW132 := hW109.le hf124
 have hW133 := hW110.le hf124
 have hR134 := hR111.le hf124
 have hR135 := hR112.le hf124
 have hW136 := hW113.le hf124
 have hW137 := hW114.le hf124
 have hR138 := hR115.le hf124
 have hR139 := hR116.le hf124
 have hW140 := hW117.le hf124
 have hR141 := hR118.le hf124
 have hW142 := hW119.le hf124
 have hW143 := hW120.le hf124
 have hR144 := hR103.le hf124
 replace hle := hle.trans hf124
 replace hbd68 := hbd68.trans hf124
 replace hM := hM.le hf124
 obtain ⟨v145, rfl, ⟨rw146, hR147, hW148⟩⟩ := hq126
 replace hs : St _ _ _ (.blk b65 (.cells #[v60] 27 (0, 0)) :: .blk b12 (.cells #[v7] 24 (0, 0)) :: L) _ _ _ := hs
 refine uon hs ?_; clear hs; (try clear a w); intro a he
 refine T_any1 he rfl ?_; clear he; (try clear a); intro a w hs
 obtain ⟨x150, hx151, hm⟩ := ob hm
 refine RL_callV hs rfl has16 rfl (match_All_ok n (f := f123) (a0 := [v7]) (a1 := [v145]) ⟨_, rfl, ⟨rw8, hR129, hW130⟩⟩ ⟨_, rfl, ⟨rw146, hR147, hW148⟩⟩ hx151) ?_; clear hs; (try clear a w)
 rintro _ f152 _ a w hf153 ⟨b154, r155, b159, r160, rfl, rfl, hq156, hB157, hq161, hB162⟩ hs
 have hT164 := hf153 _ _ hT127
 have hT165 := hf153 _ _ hT128
 have hR166 := hR129.le hf153
 have hW167 := hW130.le hf153
 have hR168 := hR131.le hf153
 have hW169 := hW132.le hf153
 have hW170 := hW133.le hf153
 have hR171 := hR134.le hf153
 have hR172 := hR135.le hf153
 have hW173 := hW136.le hf153
 have hW174 := hW137.le hf153
 have hR175 := hR138.le hf153
 have hR176 := hR139.le hf153
 have hW177 := hW140.le hf153
 have hR178 := hR141.le hf153
 have hW179 := hW142.le hf153
 have hW180 := hW143.le hf153
 have hR181 := hR144.le hf153
 have hR182 := hR147.le hf153
 have hW183 := hW148.le hf153
 replace hle := hle.trans hf153
 replace hbd68 := hbd68.trans hf153
 replace hM := hM.le hf153
 obtain ⟨v184, rfl, ⟨rw185, hR186, hW187⟩⟩ := hq156
 obtain ⟨v189, rfl, ⟨rw190, hR191, hW192⟩⟩ := hq161
 replace hs : St _ _ _ (.blk b65 (.cells #[v60] 27 (0, 0)) :: .blk b12 (.cells #[v7] 24 (0, 0)) :: L) _ _ _ := hs
 refine uon hs ?_; clear hs; (try clear a w); intro a he
 refine uy (v := .func (.func 34) #[] #[.pointer (some ⟨b154, 0, none⟩), .pointer (some ⟨b159, 0, none⟩)]) 5 he rfl (y_assign rfl) ?_; clear he; (try clear a); intro a he
 refine T_nil he ?_; clear he; (try clear a); intro w hs; try clear hsD
 refine hK4 _ _ _ ?_; clear hK4
 refine W1_seq fun K5 hK5 => ?_
 refine W1_of ?_
 refine W_seq fun K6 hK6 => ?_
 refine W_region ?_
 refine sy (v := .func (.func 34) #[] #[.pointer (some ⟨b154, 0, none⟩), .pointer (some ⟨b159, 0, none⟩)]) hs (y_move rfl) ?_; clear hs; (try clear a w); intro a w hs
 refine sy hs (y_fnil rfl rfl Tryd.underlying48) ?_; clear hs; (try clear a w); intro a w hs
 refine RL_nil ?_
 refine hK6 _ _ ?_; clear hK6
 refine W_condF hs rfl ?_
 refine W_skip ?_
 refine hK5 _ _ _ ?_; clear hK5
 refine W1_seq fun K7 hK7 => ?_
 refine W1_of ?_
 refine W_region ?_
 refine RL_alloc hs ti46 (.free rfl) (by decide) ?_; clear hs; (try clear a w); intro b194 a w hs
 replace hs : St _ _ _ (.blk b194 (.cells #[(.slice none 0 0)] 46 (0, 0)) :: .blk b65 (.cells #[v60] 27 (0, 0)) :: .blk b12 (.cells #[v7] 24 (0, 0)) :: L) _ _ _ := hs
 refine RL_nil ?_
 refine hK7 _ _ _ ?_; clear hK7
 refine W1_seq fun K8 hK8 => ?_
 refine W1_seq fun K9 hK9 => ?_
 refine W1_of ?_
 refine W_region ?_
 refine sy (v := .func (.func 34) #[] #[.pointer (some ⟨b154, 0, none⟩), .pointer (some ⟨b159, 0, none⟩)]) hs (y_move rfl) ?_; clear hs; (try clear a w); intro a w hs
 refine RL_nil ?_
 refine hK9 _ _ _ ?_; clear hK9
 refine W1_block fun Qe10 hB10 hO10 => ?_
 obtain ⟨x197, hx198, hm⟩ := ob hm
 replace hs : St 101 w0 f152 (.blk b194 (.cells #[(.slice none 0 0)] 46 (0, 0)) :: .blk b65 (.cells #[v60] 27 (0, 0)) :: .blk b12 (.cells #[v7] 24 (0, 0)) :: L) [(0, .bool (false)), (1, .pointer (some ⟨b12, 0, none⟩)), (2, .pointer (some ⟨b65, 0, none⟩)), (4, .pointer (some ⟨b194, 0, none⟩)), (22, .func (.func 34) #[] #[.pointer (some ⟨b154, 0, none⟩), .pointer (some ⟨b159, 0, none⟩)])] a w := hs.subs ⟨rfl, rfl, rfl, rfl, rfl, trivial⟩ (.cons_cons _ (.cons_cons _ (.cons_cons _ (.refl _))))
 replace hs := hs.nilRow 3 1
 have hW233 : RW (tInt .i64) f152 [] ([] : List Int) := trivial
 generalize hgrw234 : ([] : List (List Value)) = rw234 at hs hW233; clear hgrw234
 replace hs : St _ _ _ (.row (.slice none 0 0) 3 1 rw234 :: .blk b194 (.cells #[(.slice none 0 0)] 46 (0, 0)) :: .blk b65 (.cells #[v60] 27 (0, 0)) :: .blk b12 (.cells #[v7] 24 (0, 0)) :: L) _ _ _ := hs
 replace hs : St _ _ _ (.row (.slice none 0 0) 3 1 rw234 :: .blk b194 (.cells #[(.slice none 0 0)] 46 (0, 0)) :: .blk b65 (.cells #[v60] 27 (0, 0)) :: .blk b12 (.cells #[v7] 24 (0, 0)) :: L) _ _ _ := hs
 refine W1_range (L := L) (ents := [.row (.slice none 0 0) 3 1 rw234, .blk b194 (.cells #[(.slice none 0 0)] 46 (0, 0)), .blk b65 (.cells #[v60] 27 (0, 0)), .blk b12 (.cells #[v7] 24 (0, 0))]) (enc := (fun x => .int .i64 x)) hs rfl has34 (match_All_1_it n (f := f152) (cb0 := b154) (ca0 := [v184]) (cb1 := b159) (ca1 := [v189]) hT164 hT165 hTT ⟨_, rfl, ⟨rw185, hR186, hW187⟩⟩ hB157 ⟨_, rfl, ⟨rw190, hR191, hW192⟩⟩ hB162 hx198) (by decide) (fun x => [(5, .int .i64 x), (23, .int .i64 x), (0, .bool (false)), (1, .pointer (some ⟨b12, 0, none⟩)), (2, .pointer (some ⟨b65, 0, none⟩)), (4, .pointer (some ⟨b194, 0, none⟩)), (22, .func (.func 34) #[] #[.pointer (some ⟨b154, 0, none⟩), .pointer (some ⟨b159, 0, none⟩)])]) (fun rem ents => ∃ (y215 : (List Int)) (v216 : Value) (rw217 : List (List Value)), law10_MatchNumbers_r1 n x1 x54 rem y215 = some res ∧ RW (tInt .i64) f152 rw217 y215 ∧ ents = [.row v216 3 1 rw217, .blk b194 (.cells #[v216] 46 (0, 0)), .blk b65 (.cells #[v60] 27 (0, 0)), .blk b12 (.cells #[v7] 24 (0, 0))]) (fun c ents => False) ⟨([] : List Int), (.slice none 0 0), rw234, hm, (RW.any (fun _ _ _ _ h => h) hW233), rfl⟩ ?_ ?_ ?_ ?_
 ·intro x f9 L a w hs K hK
  refine W_region ?_
  refine sy (v := .int .i64 (x)) hs (y_assign rfl) ?_; clear hs; (try clear a w); intro a w hs
  refine RL_nil ?_
  exact hK _ _ hs
 ·clear hs hm; (try clear a w)
  rintro x232 rm231 _ L f932 a w hf933 ⟨y215, v216, rw217, hm, hW218, rfl⟩ hs
  replace hT164 := hf933 _ _ hT164
  replace hT165 := hf933 _ _ hT165
  replace hR166 := hR166.le hf933
  replace hW167 := hW167.le hf933
  replace hW170 := hW170.le hf933
  replace hR171 := hR171.le hf933
  replace hW174 := hW174.le hf933
  replace hR175 := hR175.le hf933
  replace hR176 := hR176.le hf933
  replace hW177 := hW177.le hf933
  replace hW180 := hW180.le hf933
  replace hR181 := hR181.le hf933
  replace hR186 := hR186.le hf933
  replace hW187 := hW187.le hf933
  replace hB157 := hf933 _ _ hB157
  replace hR191 := hR191.le hf933
  replace hW192 := hW192.le hf933
  replace hB162 := hf933 _ _ hB162
  replace hW218 := hW218.le hf933
  replace hle := hle.trans hf933
  replace hM := hM.le hf933
  replace hs : St _ _ _ (.row v216 3 1 rw217 :: .blk b194 (.cells #[v216] 46 (0, 0)) :: .blk b65 (.cells #[v60] 27 (0, 0)) :: .blk b12 (.cells #[v7] 24 (0, 0)) :: L) _ _ _ := hs
  rw [law10_MatchNumbers_r1] at hm
  have hbase934 := Fz.le.refl f932
  refine W_block fun Qe13 hB13 hO13 => ?_
  refine W_region ?_
  refine sy (v := v216) hs (y_ld rfl Tryd.underlying46 rfl (Cell.blk (.tail _ (.head _)) rfl)) ?_; clear hs; (try clear a w); intro a w hs
  refine sy (v := .int .i64 (x232)) hs (y_move rfl) ?_; clear hs; (try clear a w); intro a w hs
  refine RL_bs1s hs rfl Tryd.underlying46 ti3 rfl rfl ?_; clear hs; (try clear a w); intro v935 a w hs
  have hW936 : RW (tInt .i64) f932 [[.int .i64 (x232)]] [x232] := RW.single (rfl)
  generalize hgrw937 : ([[.int .i64 (x232)]] : List (List Value)) = rw937 at hs hW936; clear hgrw937
  replace hs : St _ _ _ (.row v935 3 1 rw937 :: .row v216 3 1 rw217 :: .blk b194 (.cells #[v216] 46 (0, 0)) :: .blk b65 (.cells #[v60] 27 (0, 0)) :: .blk b12 (.cells #[v7] 24 (0, 0)) :: L) _ _ _ := hs
  obtain ⟨x940, hx941, hm⟩ := ob hm
  obtain ⟨hbx940, hex940⟩ := appM_some hx941
  have hW944 := hW218.append hW936; rw [hex940] at hW944
  refine RL_append (i := 1) hs rfl rfl rfl (Rd.st hs (.head _)) Tryd.underlying46 ti3 (by decide) (by rw [RW.len hW218, RW.len hW936]; exact hbx940) (.free rfl) (by decide) ?_; clear hs; (try clear a w); intro v942 a w hs
  generalize hgx940 : rw217 ++ rw937 = rw943 at hs hW944; clear hgx940
  replace hs := hs.erase 0
  replace hs : St _ _ _ (.row v942 3 1 rw943 :: .blk b194 (.cells #[v216] 46 (0, 0)) :: .blk b65 (.cells #[v60] 27 (0, 0)) :: .blk b12 (.cells #[v7] 24 (0, 0)) :: L) _ _ _ := hs
  refine sstore 1 hs rfl rfl rfl ti46 ((hs.one (i := 0) rfl)) ?_; clear hs; (try clear a w); intro a w hs
  replace hs : St _ _ _ (.row v942 3 1 rw943 :: .blk b194 (.cells #[v942] 46 (0, 0)) :: .blk b65 (.cells #[v60] 27 (0, 0)) :: .blk b12 (.cells #[v7] 24 (0, 0)) :: L) _ _ _ := hs
  refine RL_nil ?_
  exact ⟨_, [.row v942 3 1 rw943, .blk b194 (.cells #[v942] 46 (0, 0)), .blk b65 (.cells #[v60] 27 (0, 0)), .blk b12 (.cells #[v7] 24 (0, 0))], hbase934, ⟨x940, v942, rw943, hm, (RW.any (fun _ _ _ _ h => h) hW944), rfl⟩, hs.cw⟩
 ·clear hs hm; (try clear w)
  rintro f237 D239 _ w hf238 hD0 hD ⟨y215, v216, rw217, hm, hW218, rfl⟩ hs
  replace hM := Marks.cons hM hle hf238 hD0 hD; clear hD0 hD
  replace hT164 := hf238 _ _ hT164
  replace hT165 := hf238 _ _ hT165
  replace hR166 := hR166.le hf238
  replace hW167 := hW167.le hf238
  replace hW170 := hW170.le hf238
  replace hR171 := hR171.le hf238
  replace hW174 := hW174.le hf238
  replace hR175 := hR175.le hf238
  replace hR176 := hR176.le hf238
  replace hW177 := hW177.le hf238
  replace hW180 := hW180.le hf238
  replace hR181 := hR181.le hf238
  replace hR186 := hR186.le hf238
  replace hW187 := hW187.le hf238
  replace hB157 := hf238 _ _ hB157
  replace hR191 := hR191.le hf238
  replace hW192 := hW192.le hf238
  replace hB162 := hf238 _ _ hB162
  replace hW218 := hW218.le hf238
  replace hle := hle.trans hf238
  replace hs : St _ _ _ (.row v216 3 1 rw217 :: .blk b194 (.cells #[v216] 46 (0, 0)) :: .blk b65 (.cells #[v60] 27 (0, 0)) :: .blk b12 (.cells #[v7] 24 (0, 0)) :: L) _ _ _ := hs
  rw [law10_MatchNumbers_r1] at hm
  refine hK8 _ _ _ ?_; clear hK8
  refine W1_of ?_
  refine W_seq fun K11 hK11 => ?_
  refine W_region ?_
  refine sy hs (y_ldB rfl Tryd.underlying24 rfl ti24 (.tail _ (.tail _ (.tail _ (.head _)))) rfl) ?_; clear hs; (try clear a w); intro a w hs
  obtain ⟨x241, hx242, hm⟩ := ob hm
  refine sy hs (y_call rfl has23 rfl (match_Best_ok n (f := f237) (a0 := [v7]) (a2 := (.slice none 0 0)) hT164 hT165 hTT ⟨_, rfl, ⟨rw8, hR166, hW167⟩⟩ RS.nil hx242)) ?_; clear hs; (try clear a w); intro a w hs
  refine sy (v := .tuple #[.agg #[.int .i64 (x241.1.Ids), .int .i64 (x241.1.Tests), .int .i64 (x241.1.Names)], .bool (x241.2)]) hs (y_move rfl) ?_; clear hs; (try clear a w); intro a w hs
  refine sy (v := .agg #[.int .i64 (x241.1.Ids), .int .i64 (x241.1.Tests), .int .i64 (x241.1.Names)]) hs (y_extract rfl rfl) ?_; clear hs; (try clear a w); intro a w hs
  refine sy (v := .bool (x241.2)) hs (y_extract rfl rfl) ?_; clear hs; (try clear a w); intro a w hs
  refine RL_alloc hs ti53 (.free rfl) (by decide) ?_; clear hs; (try clear a w); intro b243 a w hs
  replace hs : St _ _ _ (.blk b243 (.cells #[.int .i64 (0), .int .i64 (0), .int .i64 (0)] 53 (0, 0)) :: .row v216 3 1 rw217 :: .blk b194 (.cells #[v216] 46 (0, 0)) :: .blk b65 (.cells #[v60] 27 (0, 0)) :: .blk b12 (.cells #[v7] 24 (0, 0)) :: L) _ _ _ := hs
  refine RL_storeAll (i := 0) hs rfl rfl rfl ti53 ⟨rfl, rfl⟩ (AllC.arr (r := [.int .i64 (x241.1.Ids), .int .i64 (x241.1.Tests), .int .i64 (x241.1.Names)]) ⟨rfl, rfl, rfl, trivial⟩) (.free rfl) ?_; clear hs; (try clear a w); intro a w hs
  replace hs : St _ _ _ (.blk b243 (.cells #[.int .i64 (x241.1.Ids), .int .i64 (x241.1.Tests), .int .i64 (x241.1.Names)] 53 (0, 0)) :: .row v216 3 1 rw217 :: .blk b194 (.cells #[v216] 46 (0, 0)) :: .blk b65 (.cells #[v60] 27 (0, 0)) :: .blk b12 (.cells #[v7] 24 (0, 0)) :: L) _ _ _ := hs
  refine sy (v := .bool (x241.2)) hs (y_assign rfl) ?_; clear hs; (try clear a w); intro a w hs
  refine RL_nil ?_
  refine hK11 _ _ ?_; clear hK11
  refine W_seq fun K12 hK12 => ?_
  have hbase248 := Fz.le.refl f237
  refine W_post (fun a w => ∃ (f245 : Fz) (y247 : Bool), Fz.le f237 f245 ∧ law10_MatchNumbers_k2 y247 = some res ∧ St 101 w0 f245 (L) [(0, .bool (y247))] a w) ?_ ?_
  ·clear hs hm
   clear hbase248
   rintro a w ⟨f245, y247, hl246, hm, hs⟩
   replace hT164 := hl246 _ _ hT164
   replace hT165 := hl246 _ _ hT165
   replace hR166 := hR166.le hl246
   replace hW167 := hW167.le hl246
   replace hW170 := hW170.le hl246
   replace hR171 := hR171.le hl246
   replace hW174 := hW174.le hl246
   replace hR175 := hR175.le hl246
   replace hR176 := hR176.le hl246
   replace hW177 := hW177.le hl246
   replace hW180 := hW180.le hl246
   replace hR181 := hR181.le hl246
   replace hR186 := hR186.le hl246
   replace hW187 := hW187.le hl246
   replace hB157 := hl246 _ _ hB157
   replace hR191 := hR191.le hl246
   replace hW192 := hW192.le hl246
   replace hB162 := hl246 _ _ hB162
   replace hW218 := hW218.le hl246
   replace hle := hle.trans hl246
   replace hM := hM.le hl246
   replace hs : St _ _ _ (L) _ _ _ := hs
   unfold law10_MatchNumbers_k2 at hm
   refine hK12 _ _ ?_; clear hK12
   refine W_ret ?_
   obtain rfl := Option.some.inj hm
   refine RtM_of hs hle hM ?_; clear hs; (try clear w); intro w hs
   replace hle := Fz.le.refl f
   refine RtV1 hs rfl (rv_t hs rfl) ?_
   exact ⟨rfl, (hs.weak hle).cw⟩
  ·have hsD := hs.subL (L' := .blk b194 (.cells #[v216] 46 (0, 0)) :: .blk b65 (.cells #[v60] 27 (0, 0)) :: .blk b12 (.cells #[v7] 24 (0, 0)) :: []) (.cons _ (.cons _ (.cons_cons _ (.cons_cons _ (.cons_cons _ (List.nil_sublist _))))))
   have hbd249 := Fz.le.refl f237
   refine T_start hs (.blk b194 (.cells #[v216] 46 (0, 0)) :: .blk b65 (.cells #[v60] 27 (0, 0)) :: .blk b12 (.cells #[v7] 24 (0, 0)) :: []) [] (.look 0 (.look 1 (.look 2 (.look 3 (.look 4 (.look 5 (.look 6 (.look 7 (.look 8 (.look 9 (.look 10 (.any [11] (fun _ => .any [12] (fun _ => .any [13] (fun _ => .any [14] (fun _ => .any [15] (fun _ => .any [16] (fun _ => .look 17 (.look 18 (.look 19 (.look 20 (.any [21] (fun _ => .any [22] (fun _ => .look 23 (.look 24 (.look 25 (.look 26 (.any [27] (fun _ => .any [28] (fun _ => .any [29] (fun _ => .any [30] (fun _ => .look 31 (.look 32 (.look 33 (.look 34 (.look 35 (.look 36 (.any [37] (fun _ => .any [38] (fun _ => .any [39] (fun _ => .any [40] (fun _ => .any [41] (fun _ => .look 42 (.look 43 (.look 48 (.any [44] (fun _ => .any [45] (fun _ => .any [46] (fun _ => .any [47] (fun _ => .look 49 (.look 50 (.look 51 (.look 52 (.any [53] (fun _ => .any [54] (fun _ => .look 55 (.look 56 (.look 57 (.look 58 (.look 59 (.look 60 (.look 61 (.look 62 (.any [63] (fun _ => .look 64 (.look 65 (.any [66] (fun _ => .look 67 (.look 68 (.done)))))))))))))))))))))))))))))))))))))))))))))))))))))))))))))))))))))) mixed (by kernel_rfl) ?_; clear hs; (try clear a w); intro a he
   refine uy 0 he rfl (y_ldB rfl Tryd.underlying24 rfl ti24 (.tail _ (.tail _ (.head _))) rfl) ?_; clear he; (try clear a); intro a he
   refine uy 1 he rfl (y_ldB rfl Tryd.underlying27 rfl ti27 (.tail _ (.head _)) rfl) ?_; clear he; (try clear a); intro a he
   obtain ⟨x250, hx251, hm⟩ := ob hm
   refine ucall 2 he rfl rfl has12 rfl (fun f9 L9 w9 hfc _ hw9 => (match_Match_ok n (f := f9) (a0 := [v7]) (a2 := [v60]) (hfc _ _ hT164) (hfc _ _ hT165) hTT ⟨_, rfl, ⟨rw8, hR166.le hfc, hW167.le hfc⟩⟩ ⟨_, rfl, ⟨rw61, hR176.le hfc, hW177.le hfc⟩⟩ hx251) w0 L9 w9 hw9) ?_; clear he; (try clear a); intro a he
   refine uy (v := .bool (x250)) 3 he rfl (y_move rfl) ?_; clear he; (try clear a); intro a he
   refine Ev.split he (t := 36) rfl (fun hg252 hq => ?_) (fun hg252 hq => ?_)
   ·clear he; have he := hq; clear hq
    replace hm := oc_t hg252 hm
    refine uyg 4 he rfl (y_ldB rfl Tryd.underlying27 rfl ti27 (.tail _ (.head _)) rfl) ?_; clear he; (try clear a); intro a he
    obtain ⟨x253, hx254, hm⟩ := ob hm
    refine ucallg 5 he rfl rfl has20 rfl (fun f9 L9 w9 hfc _ hw9 => (match_Weigh_ok n (f := f9) (a0 := [v60]) ⟨_, rfl, ⟨rw61, hR176.le hfc, hW177.le hfc⟩⟩ hx254) w0 L9 w9 hw9) ?_; clear he; (try clear a); intro a he
    refine uyg 6 he rfl (y_buildS (places := [(0, 1), (1, 1), (2, 1)]) (cs := [.int .i64 (1), .int .i64 (0), .int .i64 (1)]) rfl Tryd.underlying53 ti53 (by kernel_rfl) (by decide) rfl ⟨rfl, rfl, trivial⟩) ?_; clear he; (try clear a); intro a he
    refine uyg 7 he rfl (y_steql rfl rfl Tryd.underlying53 (by kernel_rfl) (by kernel_rfl) (fun w => (eqF_int rfl Tryd.underlying3 rfl rfl (eqF_int rfl Tryd.underlying3 rfl rfl (eqF_int rfl Tryd.underlying3 rfl rfl eqF_nil))))) ?_; clear he; (try clear a); intro a he
    refine uy (v := .bool ((decide (x253.Ids = 1) && (decide (x253.Tests = 0) && (decide (x253.Names = 1) && true))))) 8 he rfl (y_pick rfl rfl) ?_; clear he; (try clear a); intro a he
    refine uy (v := .bool ((decide (x253.Ids = 1) && (decide (x253.Tests = 0) && (decide (x253.Names = 1) && true))))) 9 he rfl (y_move rfl) ?_; clear he; (try clear a); intro a he
    refine Ev.split he (t := 42) rfl (fun hg255 hq => ?_) (fun hg255 hq => ?_)
    ·clear he; have he := hq; clear hq
     replace hm := oc_t hg255 hm
     refine uyg 10 he rfl (y_ldB rfl Tryd.underlying24 rfl ti24 (.tail _ (.tail _ (.head _))) rfl) ?_; clear he; (try clear a); intro a he
     refine T_any1 he rfl ?_; clear he; (try clear a); intro a w hs
     obtain ⟨x257, hx258, hm⟩ := ob hm
     refine RL_callVg hs rfl has15 rfl (law10_name_ok n (f := f237) (a2 := (.slice none 0 0)) RS.nil hx258) ?_; clear hs; (try clear a w)
     rintro _ f259 _ a w hf260 ⟨r261, rfl, rfl, hq262⟩ hs
     have hT263 := hf260 _ _ hT164
     have hT264 := hf260 _ _ hT165
     have hR265 := hR166.le hf260
     have hW266 := hW167.le hf260
     have hW267 := hW170.le hf260
     have hR268 := hR171.le hf260
     have hW269 := hW174.le hf260
     have hR270 := hR175.le hf260
     have hR271 := hR176.le hf260
     have hW272 := hW177.le hf260
     have hW273 := hW180.le hf260
     have hR274 := hR181.le hf260
     have hR275 := hR186.le hf260
     have hW276 := hW187.le hf260
     have hB277 := hf260 _ _ hB157
     have hR278 := hR191.le hf260
     have hW279 := hW192.le hf260
     have hB280 := hf260 _ _ hB162
     have hW281 := hW218.le hf260
     replace hle := hle.trans hf260
     replace hbase248 := hbase248.trans hf260
     replace hbd249 := hbd249.trans hf260
     replace hM := hM.le hf260
     obtain ⟨v282, rfl, ⟨rw283, hR284, hW285⟩⟩ := hq262
     replace hs : St _ _ _ (.blk b243 (.cells #[.int .i64 (x241.1.Ids), .int .i64 (x241.1.Tests), .int .i64 (x241.1.Names)] 53 (0, 0)) :: .row v216 3 1 rw217 :: .blk b194 (.cells #[v216] 46 (0, 0)) :: .blk b65 (.cells #[v60] 27 (0, 0)) :: .blk b12 (.cells #[v7] 24 (0, 0)) :: L) _ _ _ := hs
     refine uon hs ?_; clear hs; (try clear a w); intro a he
     refine T_any1 he rfl ?_; clear he; (try clear a); intro a w hs
     obtain ⟨x288, hx289, hm⟩ := ob hm
     refine RL_callVg hs rfl has15 rfl (law10_name_ok n (f := f259) (a2 := (.slice none 0 0)) RS.nil hx289) ?_; clear hs; (try clear a w)
     rintro _ f290 _ a w hf291 ⟨r292, rfl, rfl, hq293⟩ hs
     have hT294 := hf291 _ _ hT263
     have hT295 := hf291 _ _ hT264
     have hR296 := hR265.le hf291
     have hW297 := hW266.le hf291
     have hW298 := hW267.le hf291
     have hR299 := hR268.le hf291
     have hW300 := hW269.le hf291
     have hR301 := hR270.le hf291
     have hR302 := hR271.le hf291
     have hW303 := hW272.le hf291
     have hW304 := hW273.le hf291
     have hR305 := hR274.le hf291
     have hR306 := hR275.le hf291
     have hW307 := hW276.le hf291
     have hB308 := hf291 _ _ hB277
     have hR309 := hR278.le hf291
     have hW310 := hW279.le hf291
     have hB311 := hf291 _ _ hB280
     have hW312 := hW281.le hf291
     have hR313 := hR284.le hf291
     have hW314 := hW285.le hf291
     replace hle := hle.trans hf291
     replace hbase248 := hbase248.trans hf291
     replace hbd249 := hbd249.trans hf291
     replace hM := hM.le hf291
     obtain ⟨v315, rfl, ⟨rw316, hR317, hW318⟩⟩ := hq293
     replace hs : St _ _ _ (.blk b243 (.cells #[.int .i64 (x241.1.Ids), .int .i64 (x241.1.Tests), .int .i64 (x241.1.Names)] 53 (0, 0)) :: .row v216 3 1 rw217 :: .blk b194 (.cells #[v216] 46 (0, 0)) :: .blk b65 (.cells #[v60] 27 (0, 0)) :: .blk b12 (.cells #[v7] 24 (0, 0)) :: L) _ _ _ := hs
     refine uon hs ?_; clear hs; (try clear a w); intro a he
     refine T_any1 he rfl ?_; clear he; (try clear a); intro a w hs
     obtain ⟨x321, hx322, hm⟩ := ob hm
     refine RL_callVg hs rfl has15 rfl (law10_name_ok n (f := f290) (a2 := (.slice none 0 0)) RS.nil hx322) ?_; clear hs; (try clear a w)
     rintro _ f323 _ a w hf324 ⟨r325, rfl, rfl, hq326⟩ hs
     have hT327 := hf324 _ _ hT294
     have hT328 := hf324 _ _ hT295
     have hR329 := hR296.le hf324
     have hW330 := hW297.le hf324
     have hW331 := hW298.le hf324
     have hR332 := hR299.le hf324
     have hW333 := hW300.le hf324
     have hR334 := hR301.le hf324
     have hR335 := hR302.le hf324
     have hW336 := hW303.le hf324
     have hW337 := hW304.le hf324
     have hR338 := hR305.le hf324
     have hR339 := hR306.le hf324
     have hW340 := hW307.le hf324
     have hB341 := hf324 _ _ hB308
     have hR342 := hR309.le hf324
     have hW343 := hW310.le hf324
     have hB344 := hf324 _ _ hB311
     have hW345 := hW312.le hf324
     have hR346 := hR313.le hf324
     have hW347 := hW314.le hf324
     have hR348 := hR317.le hf324
     have hW349 := hW318.le hf324
     replace hle := hle.trans hf324
     replace hbase248 := hbase248.trans hf324
     replace hbd249 := hbd249.trans hf324
     replace hM := hM.le hf324
     obtain ⟨v350, rfl, ⟨rw351, hR352, hW353⟩⟩ := hq326
     replace hs : St _ _ _ (.blk b243 (.cells #[.int .i64 (x241.1.Ids), .int .i64 (x241.1.Tests), .int .i64 (x241.1.Names)] 53 (0, 0)) :: .row v216 3 1 rw217 :: .blk b194 (.cells #[v216] 46 (0, 0)) :: .blk b65 (.cells #[v60] 27 (0, 0)) :: .blk b12 (.cells #[v7] 24 (0, 0)) :: L) _ _ _ := hs
     refine uon hs ?_; clear hs; (try clear a w); intro a he
     refine T_any1 he rfl ?_; clear he; (try clear a); intro a w hs
     refine RL_guard hs rfl rfl ?_
     refine RL_bsN (parts := [(0, .tmp 44), (1, .tmp 45), (2, .tmp 46)]) (us := [.agg #[.int .i64 (x257.Comb), .string (x257.Name), v282], .agg #[.int .i64 (x288.Comb), .string (x288.Name), v315], .agg #[.int .i64 (x321.Comb), .string (x321.Name), v350]]) (rows := [[.int .i64 (x257.Comb), .string (x257.Name), v282], [.int .i64 (x288.Comb), .string (x288.Name), v315], [.int .i64 (x321.Comb), .string (x321.Name), v350]]) hs rfl Tryd.underlying25 ti35 (by decide) rfl rfl (by intro r hr; simp only [List.mem_cons, List.mem_nil_iff, or_false] at hr; rcases hr with rfl | rfl | rfl; exact AllC.row ⟨rfl, rfl, hR346.one, trivial⟩ rfl; exact AllC.row ⟨rfl, rfl, hR348.one, trivial⟩ rfl; exact AllC.row ⟨rfl, rfl, hR352.one, trivial⟩ rfl) ?_; clear hs; (try clear a w); intro v355 a w hs
     have hW356 : RW t_sheet_Step f323 [[.int .i64 (x257.Comb), .string (x257.Name), v282], [.int .i64 (x288.Comb), .string (x288.Name), v315], [.int .i64 (x321.Comb), .string (x321.Name), v350]] [x257, x288, x321] := ⟨⟨_, rfl, ⟨rw283, hR346, hW347⟩⟩, ⟨⟨_, rfl, ⟨rw316, hR348, hW349⟩⟩, ⟨⟨_, rfl, ⟨rw351, hR352, hW353⟩⟩, trivial⟩⟩⟩
     generalize hgrw357 : ([[.int .i64 (x257.Comb), .string (x257.Name), v282], [.int .i64 (x288.Comb), .string (x288.Name), v315], [.int .i64 (x321.Comb), .string (x321.Name), v350]] : List (List Value)) = rw357 at hs hW356; clear hgrw357
     replace hs : St _ _ _ (.row v355 35 3 rw357 :: .blk b243 (.cells #[.int .i64 (x241.1.Ids), .int .i64 (x241.1.Tests), .int .i64 (x241.1.Names)] 53 (0, 0)) :: .row v216 3 1 rw217 :: .blk b194 (.cells #[v216] 46 (0, 0)) :: .blk b65 (.cells #[v60] 27 (0, 0)) :: .blk b12 (.cells #[v7] 24 (0, 0)) :: L) _ _ _ := hs
     have ho360 : v355.oneCell' = true := hs.one (i := 0) rfl
     refine uon hs ?_; clear hs; (try clear a w); intro a he
     refine T_any1 he rfl ?_; clear he; (try clear a); intro a w hs
     obtain ⟨f361, hf362, hs2, hR363⟩ := hs.frzAt 0 rfl
     clear hs; have hs := hs2; clear hs2
     have hT364 := hf362 _ _ hT327
     have hT365 := hf362 _ _ hT328
     have hR366 := hR329.le hf362
     have hW367 := hW330.le hf362
     have hR368 := hR335.le hf362
     have hW369 := hW336.le hf362
     have hR370 := hR339.le hf362
     have hW371 := hW340.le hf362
     have hB372 := hf362 _ _ hB341
     have hR373 := hR342.le hf362
     have hW374 := hW343.le hf362
     have hB375 := hf362 _ _ hB344
     have hW376 := hW345.le hf362
     have hR377 := hR346.le hf362
     have hW378 := hW347.le hf362
     have hR379 := hR348.le hf362
     have hW380 := hW349.le hf362
     have hR381 := hR352.le hf362
     have hW382 := hW353.le hf362
     have hW383 := hW356.le hf362
     replace hle := hle.trans hf362
     replace hbase248 := hbase248.trans hf362
     replace hbd249 := hbd249.trans hf362
     replace hM := hM.le hf362
     replace hs : St _ _ _ (.blk b243 (.cells #[.int .i64 (x241.1.Ids), .int .i64 (x241.1.Tests), .int .i64 (x241.1.Names)] 53 (0, 0)) :: .row v216 3 1 rw217 :: .blk b194 (.cells #[v216] 46 (0, 0)) :: .blk b65 (.cells #[v60] 27 (0, 0)) :: .blk b12 (.cells #[v7] 24 (0, 0)) :: L) _ _ _ := hs
     obtain ⟨x384, hx385, hm⟩ := ob hm
     refine RL_callVg hs rfl has14 rfl (law10_sel_ok n (f := f361) (a0 := v355) ⟨rw357, hR363, hW383⟩ hx385) ?_; clear hs; (try clear a w)
     rintro _ f386 _ a w hf387 ⟨r388, rfl, rfl, hq389⟩ hs
     have hT390 := hf387 _ _ hT364
     have hT391 := hf387 _ _ hT365
     have hR392 := hR366.le hf387
     have hW393 := hW367.le hf387
     have hR394 := hR368.le hf387
     have hW395 := hW369.le hf387
     have hR396 := hR370.le hf387
     have hW397 := hW371.le hf387
     have hB398 := hf387 _ _ hB372
     have hR399 := hR373.le hf387
     have hW400 := hW374.le hf387
     have hB401 := hf387 _ _ hB375
     have hW402 := hW376.le hf387
     have hR403 := hR377.le hf387
     have hW404 := hW378.le hf387
     have hR405 := hR379.le hf387
     have hW406 := hW380.le hf387
     have hR407 := hR381.le hf387
     have hW408 := hW382.le hf387
     have hW409 := hW383.le hf387
     have hR410 := hR363.le hf387
     replace hle := hle.trans hf387
     replace hbase248 := hbase248.trans hf387
     replace hbd249 := hbd249.trans hf387
     replace hM := hM.le hf387
     obtain ⟨v411, rfl, ⟨rw412, hR413, hW414⟩⟩ := hq389
     replace hs : St _ _ _ (.blk b243 (.cells #[.int .i64 (x241.1.Ids), .int .i64 (x241.1.Tests), .int .i64 (x241.1.Names)] 53 (0, 0)) :: .row v216 3 1 rw217 :: .blk b194 (.cells #[v216] 46 (0, 0)) :: .blk b65 (.cells #[v60] 27 (0, 0)) :: .blk b12 (.cells #[v7] 24 (0, 0)) :: L) _ _ _ := hs
     refine uon hs ?_; clear hs; (try clear a w); intro a he
     refine T_any1 he rfl ?_; clear he; (try clear a); intro a w hs
     obtain ⟨x416, hx417, hm⟩ := ob hm
     refine syg hs (y_call rfl has12 rfl (match_Match_ok n (f := f386) (a0 := [v7]) (a2 := [v411]) hT390 hT391 hTT ⟨_, rfl, ⟨rw8, hR392, hW393⟩⟩ ⟨_, rfl, ⟨rw412, hR413, hW414⟩⟩ hx417)) ?_; clear hs; (try clear a w); intro a w hs
     refine uon hs ?_; clear hs; (try clear a w); intro a he
     refine uyg (v := .bool ((!x416))) 17 he rfl (y_not rfl) ?_; clear he; (try clear a); intro a he
     refine uy (v := .bool ((!x416))) 18 he rfl (y_pick rfl rfl) ?_; clear he; (try clear a); intro a he
     refine uy (v := .bool ((!x416))) 19 he rfl (y_move rfl) ?_; clear he; (try clear a); intro a he
     refine Ev.split he (t := 52) rfl (fun hg418 hq => ?_) (fun hg418 hq => ?_)
     ·clear he; have he := hq; clear hq
      replace hm := oc_t hg418 hm
      refine uyg 20 he rfl (y_ldB rfl Tryd.underlying24 rfl ti24 (.tail _ (.tail _ (.head _))) rfl) ?_; clear he; (try clear a); intro a he
      refine T_any1 he rfl ?_; clear he; (try clear a); intro a w hs
      obtain ⟨x420, hx421, hm⟩ := ob hm
      refine RL_callVg hs rfl has14 rfl (law10_sel_ok n (f := f386) (a0 := (.slice none 0 0)) RS.nil hx421) ?_; clear hs; (try clear a w)
      rintro _ f422 _ a w hf423 ⟨r424, rfl, rfl, hq425⟩ hs
      have hT426 := hf423 _ _ hT390
      have hT427 := hf423 _ _ hT391
      have hR428 := hR392.le hf423
      have hW429 := hW393.le hf423
      have hR430 := hR394.le hf423
      have hW431 := hW395.le hf423
      have hR432 := hR396.le hf423
      have hW433 := hW397.le hf423
      have hB434 := hf423 _ _ hB398
      have hR435 := hR399.le hf423
      have hW436 := hW400.le hf423
      have hB437 := hf423 _ _ hB401
      have hW438 := hW402.le hf423
      have hR439 := hR403.le hf423
      have hW440 := hW404.le hf423
      have hR441 := hR405.le hf423
      have hW442 := hW406.le hf423
      have hR443 := hR407.le hf423
      have hW444 := hW408.le hf423
      have hW445 := hW409.le hf423
      have hR446 := hR410.le hf423
      have hR447 := hR413.le hf423
      have hW448 := hW414.le hf423
      replace hle := hle.trans hf423
      replace hbase248 := hbase248.trans hf423
      replace hbd249 := hbd249.trans hf423
      replace hM := hM.le hf423
      obtain ⟨v449, rfl, ⟨rw450, hR451, hW452⟩⟩ := hq425
      replace hs : St _ _ _ (.blk b243 (.cells #[.int .i64 (x241.1.Ids), .int .i64 (x241.1.Tests), .int .i64 (x241.1.Names)] 53 (0, 0)) :: .row v216 3 1 rw217 :: .blk b194 (.cells #[v216] 46 (0, 0)) :: .blk b65 (.cells #[v60] 27 (0, 0)) :: .blk b12 (.cells #[v7] 24 (0, 0)) :: L) _ _ _ := hs
      refine uon hs ?_; clear hs; (try clear a w); intro a he
      refine T_any1 he rfl ?_; clear he; (try clear a); intro a w hs
      obtain ⟨x454, hx455, hm⟩ := ob hm
      refine syg hs (y_call rfl has12 rfl (match_Match_ok n (f := f422) (a0 := [v7]) (a2 := [v449]) hT426 hT427 hTT ⟨_, rfl, ⟨rw8, hR428, hW429⟩⟩ ⟨_, rfl, ⟨rw450, hR451, hW452⟩⟩ hx455)) ?_; clear hs; (try clear a w); intro a w hs
      refine uon hs ?_; clear hs; (try clear a w); intro a he
      refine uyg (v := .bool ((!x454))) 23 he rfl (y_not rfl) ?_; clear he; (try clear a); intro a he
      refine uy (v := .bool ((!x454))) 24 he rfl (y_pick rfl rfl) ?_; clear he; (try clear a); intro a he
      refine uy (v := .bool ((!x454))) 25 he rfl (y_move rfl) ?_; clear he; (try clear a); intro a he
      refine Ev.split he (t := 58) rfl (fun hg456 hq => ?_) (fun hg456 hq => ?_)
      ·clear he; have he := hq; clear hq
       replace hm := oc_t hg456 hm
       refine uyg 26 he rfl (y_ldB rfl Tryd.underlying24 rfl ti24 (.tail _ (.tail _ (.head _))) rfl) ?_; clear he; (try clear a); intro a he
       refine T_any1 he rfl ?_; clear he; (try clear a); intro a w hs
       obtain ⟨x458, hx459, hm⟩ := ob hm
       refine RL_callVg hs rfl has15 rfl (law10_name_ok n (f := f422) (a2 := (.slice none 0 0)) RS.nil hx459) ?_; clear hs; (try clear a w)
       rintro _ f460 _ a w hf461 ⟨r462, rfl, rfl, hq463⟩ hs
       have hT464 := hf461 _ _ hT426
       have hT465 := hf461 _ _ hT427
       have hR466 := hR428.le hf461
       have hW467 := hW429.le hf461
       have hR468 := hR430.le hf461
       have hW469 := hW431.le hf461
       have hR470 := hR432.le hf461
       have hW471 := hW433.le hf461
       have hB472 := hf461 _ _ hB434
       have hR473 := hR435.le hf461
       have hW474 := hW436.le hf461
       have hB475 := hf461 _ _ hB437
       have hW476 := hW438.le hf461
       have hR477 := hR439.le hf461
       have hW478 := hW440.le hf461
       have hR479 := hR441.le hf461
       have hW480 := hW442.le hf461
       have hR481 := hR443.le hf461
       have hW482 := hW444.le hf461
       have hW483 := hW445.le hf461
       have hR484 := hR446.le hf461
       have hR485 := hR447.le hf461
       have hW486 := hW448.le hf461
       have hR487 := hR451.le hf461
       have hW488 := hW452.le hf461
       replace hle := hle.trans hf461
       replace hbase248 := hbase248.trans hf461
       replace hbd249 := hbd249.trans hf461
       replace hM := hM.le hf461
       obtain ⟨v489, rfl, ⟨rw490, hR491, hW492⟩⟩ := hq463
       replace hs : St _ _ _ (.blk b243 (.cells #[.int .i64 (x241.1.Ids), .int .i64 (x241.1.Tests), .int .i64 (x241.1.Names)] 53 (0, 0)) :: .row v216 3 1 rw217 :: .blk b194 (.cells #[v216] 46 (0, 0)) :: .blk b65 (.cells #[v60] 27 (0, 0)) :: .blk b12 (.cells #[v7] 24 (0, 0)) :: L) _ _ _ := hs
       refine uon hs ?_; clear hs; (try clear a w); intro a he
       refine T_any1 he rfl ?_; clear he; (try clear a); intro a w hs
       refine RL_guard hs rfl rfl ?_
       refine RL_bs1a hs rfl Tryd.underlying25 ti35 (by decide) (AllC.row ⟨rfl, rfl, hR491.one, trivial⟩ rfl) ?_; clear hs; (try clear a w); intro v494 a w hs
       have hW495 : RW t_sheet_Step f460 [[.int .i64 (x458.Comb), .string (x458.Name), v489]] [x458] := RW.single (⟨_, rfl, ⟨rw490, hR491, hW492⟩⟩)
       generalize hgrw496 : ([[.int .i64 (x458.Comb), .string (x458.Name), v489]] : List (List Value)) = rw496 at hs hW495; clear hgrw496
       replace hs : St _ _ _ (.row v494 35 3 rw496 :: .blk b243 (.cells #[.int .i64 (x241.1.Ids), .int .i64 (x241.1.Tests), .int .i64 (x241.1.Names)] 53 (0, 0)) :: .row v216 3 1 rw217 :: .blk b194 (.cells #[v216] 46 (0, 0)) :: .blk b65 (.cells #[v60] 27 (0, 0)) :: .blk b12 (.cells #[v7] 24 (0, 0)) :: L) _ _ _ := hs
       have ho499 : v494.oneCell' = true := hs.one (i := 0) rfl
       refine uon hs ?_; clear hs; (try clear a w); intro a he
       refine T_any1 he rfl ?_; clear he; (try clear a); intro a w hs
       obtain ⟨f500, hf501, hs2, hR502⟩ := hs.frzAt 0 rfl
       clear hs; have hs := hs2; clear hs2
       have hT503 := hf501 _ _ hT464
       have hT504 := hf501 _ _ hT465
       have hR505 := hR466.le hf501
       have hW506 := hW467.le hf501
       have hR507 := hR468.le hf501
       have hW508 := hW469.le hf501
       have hR509 := hR470.le hf501
       have hW510 := hW471.le hf501
       have hB511 := hf501 _ _ hB472
       have hR512 := hR473.le hf501
       have hW513 := hW474.le hf501
       have hB514 := hf501 _ _ hB475
       have hW515 := hW476.le hf501
       have hR516 := hR477.le hf501
       have hW517 := hW478.le hf501
       have hR518 := hR479.le hf501
       have hW519 := hW480.le hf501
       have hR520 := hR481.le hf501
       have hW521 := hW482.le hf501
       have hW522 := hW483.le hf501
       have hR523 := hR484.le hf501
       have hR524 := hR485.le hf501
       have hW525 := hW486.le hf501
       have hR526 := hR487.le hf501
       have hW527 := hW488.le hf501
       have hR528 := hR491.le hf501
       have hW529 := hW492.le hf501
       have hW530 := hW495.le hf501
       replace hle := hle.trans hf501
       replace hbase248 := hbase248.trans hf501
       replace hbd249 := hbd249.trans hf501
       replace hM := hM.le hf501
       replace hs : St _ _ _ (.blk b243 (.cells #[.int .i64 (x241.1.Ids), .int .i64 (x241.1.Tests), .int .i64 (x241.1.Names)] 53 (0, 0)) :: .row v216 3 1 rw217 :: .blk b194 (.cells #[v216] 46 (0, 0)) :: .blk b65 (.cells #[v60] 27 (0, 0)) :: .blk b12 (.cells #[v7] 24 (0, 0)) :: L) _ _ _ := hs
       obtain ⟨x531, hx532, hm⟩ := ob hm
       refine RL_callVg hs rfl has14 rfl (law10_sel_ok n (f := f500) (a0 := v494) ⟨rw496, hR502, hW530⟩ hx532) ?_; clear hs; (try clear a w)
       rintro _ f533 _ a w hf534 ⟨r535, rfl, rfl, hq536⟩ hs
       have hT537 := hf534 _ _ hT503
       have hT538 := hf534 _ _ hT504
       have hR539 := hR505.le hf534
       have hW540 := hW506.le hf534
       have hR541 := hR507.le hf534
       have hW542 := hW508.le hf534
       have hR543 := hR509.le hf534
       have hW544 := hW510.le hf534
       have hB545 := hf534 _ _ hB511
       have hR546 := hR512.le hf534
       have hW547 := hW513.le hf534
       have hB548 := hf534 _ _ hB514
       have hW549 := hW515.le hf534
       have hR550 := hR516.le hf534
       have hW551 := hW517.le hf534
       have hR552 := hR518.le hf534
       have hW553 := hW519.le hf534
       have hR554 := hR520.le hf534
       have hW555 := hW521.le hf534
       have hW556 := hW522.le hf534
       have hR557 := hR523.le hf534
       have hR558 := hR524.le hf534
       have hW559 := hW525.le hf534
       have hR560 := hR526.le hf534
       have hW561 := hW527.le hf534
       have hR562 := hR528.le hf534
       have hW563 := hW529.le hf534
       have hW564 := hW530.le hf534
       have hR565 := hR502.le hf534
       replace hle := hle.trans hf534
       replace hbase248 := hbase248.trans hf534
       replace hbd249 := hbd249.trans hf534
       replace hM := hM.le hf534
       obtain ⟨v566, rfl, ⟨rw567, hR568, hW569⟩⟩ := hq536
       replace hs : St _ _ _ (.blk b243 (.cells #[.int .i64 (x241.1.Ids), .int .i64 (x241.1.Tests), .int .i64 (x241.1.Names)] 53 (0, 0)) :: .row v216 3 1 rw217 :: .blk b194 (.cells #[v216] 46 (0, 0)) :: .blk b65 (.cells #[v60] 27 (0, 0)) :: .blk b12 (.cells #[v7] 24 (0, 0)) :: L) _ _ _ := hs
       refine uon hs ?_; clear hs; (try clear a w); intro a he
       refine T_any1 he rfl ?_; clear he; (try clear a); intro a w hs
       obtain ⟨x571, hx572, hm⟩ := ob hm
       refine syg hs (y_call rfl has12 rfl (match_Match_ok n (f := f533) (a0 := [v7]) (a2 := [v566]) hT537 hT538 hTT ⟨_, rfl, ⟨rw8, hR539, hW540⟩⟩ ⟨_, rfl, ⟨rw567, hR568, hW569⟩⟩ hx572)) ?_; clear hs; (try clear a w); intro a w hs
       refine uon hs ?_; clear hs; (try clear a w); intro a he
       refine uyg (v := .bool ((!x571))) 31 he rfl (y_not rfl) ?_; clear he; (try clear a); intro a he
       refine uy (v := .bool ((!x571))) 32 he rfl (y_pick rfl rfl) ?_; clear he; (try clear a); intro a he
       refine uy (v := .bool ((!x571))) 33 he rfl (y_move rfl) ?_; clear he; (try clear a); intro a he
       refine Ev.split he (t := 66) rfl (fun hg573 hq => ?_) (fun hg573 hq => ?_)
       ·clear he; have he := hq; clear hq
        replace hm := oc_t hg573 hm
        refine uyg 34 he rfl (y_ldB rfl Tryd.underlying24 rfl ti24 (.tail _ (.tail _ (.head _))) rfl) ?_; clear he; (try clear a); intro a he
        refine uyg 35 he rfl (y_buildS (places := [(0, 1), (1, 1), (2, 1), (3, 1)]) (cs := [.int .i64 (5), .string ((bs [])), .string ((bs [])), .int .i64 (0)]) rfl Tryd.underlying29 ti29 (by kernel_rfl) (by decide) rfl ⟨rfl, trivial⟩) ?_; clear he; (try clear a); intro a he
        refine uyg 36 he rfl (y_buildS (places := [(0, 1), (1, 1), (2, 1), (3, 1)]) (cs := [.int .i64 (6), .string ((bs [])), .string ((bs [])), .int .i64 (0)]) rfl Tryd.underlying29 ti29 (by kernel_rfl) (by decide) rfl ⟨rfl, trivial⟩) ?_; clear he; (try clear a); intro a he
        refine T_any1 he rfl ?_; clear he; (try clear a); intro a w hs
        refine RL_guard hs rfl rfl ?_
        refine RL_bsN (parts := [(0, .tmp 68), (1, .tmp 69)]) (us := [.agg #[.int .i64 (5), .string ((bs [])), .string ((bs [])), .int .i64 (0)], .agg #[.int .i64 (6), .string ((bs [])), .string ((bs [])), .int .i64 (0)]]) (rows := [[.int .i64 (5), .string ((bs [])), .string ((bs [])), .int .i64 (0)], [.int .i64 (6), .string ((bs [])), .string ((bs [])), .int .i64 (0)]]) hs rfl Tryd.underlying33 ti29 (by decide) rfl rfl (by intro r hr; simp only [List.mem_cons, List.mem_nil_iff, or_false] at hr; rcases hr with rfl | rfl; exact AllC.row ⟨rfl, rfl, rfl, rfl, trivial⟩ rfl; exact AllC.row ⟨rfl, rfl, rfl, rfl, trivial⟩ rfl) ?_; clear hs; (try clear a w); intro v574 a w hs
        have hW575 : RW t_sheet_Test f533 [[.int .i64 (5), .string ((bs [])), .string ((bs [])), .int .i64 (0)], [.int .i64 (6), .string ((bs [])), .string ((bs [])), .int .i64 (0)]] [({Kind := 5, Name := (bs []), Value := (bs []), N := 0} : sheet_Test), ({Kind := 6, Name := (bs []), Value := (bs []), N := 0} : sheet_Test)] := ⟨rfl, ⟨rfl, trivial⟩⟩
        generalize hgrw576 : ([[.int .i64 (5), .string ((bs [])), .string ((bs [])), .int .i64 (0)], [.int .i64 (6), .string ((bs [])), .string ((bs [])), .int .i64 (0)]] : List (List Value)) = rw576 at hs hW575; clear hgrw576
        replace hs : St _ _ _ (.row v574 29 4 rw576 :: .blk b243 (.cells #[.int .i64 (x241.1.Ids), .int .i64 (x241.1.Tests), .int .i64 (x241.1.Names)] 53 (0, 0)) :: .row v216 3 1 rw217 :: .blk b194 (.cells #[v216] 46 (0, 0)) :: .blk b65 (.cells #[v60] 27 (0, 0)) :: .blk b12 (.cells #[v7] 24 (0, 0)) :: L) _ _ _ := hs
        have ho579 : v574.oneCell' = true := hs.one (i := 0) rfl
        refine uon hs ?_; clear hs; (try clear a w); intro a he
        refine T_any1 he rfl ?_; clear he; (try clear a); intro a w hs
        obtain ⟨f580, hf581, hs2, hR582⟩ := hs.frzAt 0 rfl
        clear hs; have hs := hs2; clear hs2
        have hT583 := hf581 _ _ hT537
        have hT584 := hf581 _ _ hT538
        have hR585 := hR539.le hf581
        have hW586 := hW540.le hf581
        have hR587 := hR541.le hf581
        have hW588 := hW542.le hf581
        have hR589 := hR543.le hf581
        have hW590 := hW544.le hf581
        have hB591 := hf581 _ _ hB545
        have hR592 := hR546.le hf581
        have hW593 := hW547.le hf581
        have hB594 := hf581 _ _ hB548
        have hW595 := hW549.le hf581
        have hR596 := hR550.le hf581
        have hW597 := hW551.le hf581
        have hR598 := hR552.le hf581
        have hW599 := hW553.le hf581
        have hR600 := hR554.le hf581
        have hW601 := hW555.le hf581
        have hW602 := hW556.le hf581
        have hR603 := hR557.le hf581
        have hR604 := hR558.le hf581
        have hW605 := hW559.le hf581
        have hR606 := hR560.le hf581
        have hW607 := hW561.le hf581
        have hR608 := hR562.le hf581
        have hW609 := hW563.le hf581
        have hW610 := hW564.le hf581
        have hR611 := hR565.le hf581
        have hR612 := hR568.le hf581
        have hW613 := hW569.le hf581
        have hW614 := hW575.le hf581
        replace hle := hle.trans hf581
        replace hbase248 := hbase248.trans hf581
        replace hbd249 := hbd249.trans hf581
        replace hM := hM.le hf581
        replace hs : St _ _ _ (.blk b243 (.cells #[.int .i64 (x241.1.Ids), .int .i64 (x241.1.Tests), .int .i64 (x241.1.Names)] 53 (0, 0)) :: .row v216 3 1 rw217 :: .blk b194 (.cells #[v216] 46 (0, 0)) :: .blk b65 (.cells #[v60] 27 (0, 0)) :: .blk b12 (.cells #[v7] 24 (0, 0)) :: L) _ _ _ := hs
        obtain ⟨x615, hx616, hm⟩ := ob hm
        refine RL_callVg hs rfl has15 rfl (law10_name_ok n (f := f580) (a2 := v574) ⟨rw576, hR582, hW614⟩ hx616) ?_; clear hs; (try clear a w)
        rintro _ f617 _ a w hf618 ⟨r619, rfl, rfl, hq620⟩ hs
        have hT621 := hf618 _ _ hT583
        have hT622 := hf618 _ _ hT584
        have hR623 := hR585.le hf618
        have hW624 := hW586.le hf618
        have hR625 := hR587.le hf618
        have hW626 := hW588.le hf618
        have hR627 := hR589.le hf618
        have hW628 := hW590.le hf618
        have hB629 := hf618 _ _ hB591
        have hR630 := hR592.le hf618
        have hW631 := hW593.le hf618
        have hB632 := hf618 _ _ hB594
        have hW633 := hW595.le hf618
        have hR634 := hR596.le hf618
        have hW635 := hW597.le hf618
        have hR636 := hR598.le hf618
        have hW637 := hW599.le hf618
        have hR638 := hR600.le hf618
        have hW639 := hW601.le hf618
        have hW640 := hW602.le hf618
        have hR641 := hR603.le hf618
        have hR642 := hR604.le hf618
        have hW643 := hW605.le hf618
        have hR644 := hR606.le hf618
        have hW645 := hW607.le hf618
        have hR646 := hR608.le hf618
        have hW647 := hW609.le hf618
        have hW648 := hW610.le hf618
        have hR649 := hR611.le hf618
        have hR650 := hR612.le hf618
        have hW651 := hW613.le hf618
        have hW652 := hW614.le hf618
        have hR653 := hR582.le hf618
        replace hle := hle.trans hf618
        replace hbase248 := hbase248.trans hf618
        replace hbd249 := hbd249.trans hf618
        replace hM := hM.le hf618
        obtain ⟨v654, rfl, ⟨rw655, hR656, hW657⟩⟩ := hq620
        replace hs : St _ _ _ (.blk b243 (.cells #[.int .i64 (x241.1.Ids), .int .i64 (x241.1.Tests), .int .i64 (x241.1.Names)] 53 (0, 0)) :: .row v216 3 1 rw217 :: .blk b194 (.cells #[v216] 46 (0, 0)) :: .blk b65 (.cells #[v60] 27 (0, 0)) :: .blk b12 (.cells #[v7] 24 (0, 0)) :: L) _ _ _ := hs
        refine uon hs ?_; clear hs; (try clear a w); intro a he
        refine T_any1 he rfl ?_; clear he; (try clear a); intro a w hs
        refine RL_guard hs rfl rfl ?_
        refine RL_bs1a hs rfl Tryd.underlying25 ti35 (by decide) (AllC.row ⟨rfl, rfl, hR656.one, trivial⟩ rfl) ?_; clear hs; (try clear a w); intro v659 a w hs
        have hW660 : RW t_sheet_Step f617 [[.int .i64 (x615.Comb), .string (x615.Name), v654]] [x615] := RW.single (⟨_, rfl, ⟨rw655, hR656, hW657⟩⟩)
        generalize hgrw661 : ([[.int .i64 (x615.Comb), .string (x615.Name), v654]] : List (List Value)) = rw661 at hs hW660; clear hgrw661
        replace hs : St _ _ _ (.row v659 35 3 rw661 :: .blk b243 (.cells #[.int .i64 (x241.1.Ids), .int .i64 (x241.1.Tests), .int .i64 (x241.1.Names)] 53 (0, 0)) :: .row v216 3 1 rw217 :: .blk b194 (.cells #[v216] 46 (0, 0)) :: .blk b65 (.cells #[v60] 27 (0, 0)) :: .blk b12 (.cells #[v7] 24 (0, 0)) :: L) _ _ _ := hs
        have ho664 : v659.oneCell' = true := hs.one (i := 0) rfl
        refine uon hs ?_; clear hs; (try clear a w); intro a he
        refine T_any1 he rfl ?_; clear he; (try clear a); intro a w hs
        obtain ⟨f665, hf666, hs2, hR667⟩ := hs.frzAt 0 rfl
        clear hs; have hs := hs2; clear hs2
        have hT668 := hf666 _ _ hT621
        have hT669 := hf666 _ _ hT622
        have hR670 := hR623.le hf666
        have hW671 := hW624.le hf666
        have hR672 := hR625.le hf666
        have hW673 := hW626.le hf666
        have hR674 := hR627.le hf666
        have hW675 := hW628.le hf666
        have hB676 := hf666 _ _ hB629
        have hR677 := hR630.le hf666
        have hW678 := hW631.le hf666
        have hB679 := hf666 _ _ hB632
        have hW680 := hW633.le hf666
        have hR681 := hR634.le hf666
        have hW682 := hW635.le hf666
        have hR683 := hR636.le hf666
        have hW684 := hW637.le hf666
        have hR685 := hR638.le hf666
        have hW686 := hW639.le hf666
        have hW687 := hW640.le hf666
        have hR688 := hR641.le hf666
        have hR689 := hR642.le hf666
        have hW690 := hW643.le hf666
        have hR691 := hR644.le hf666
        have hW692 := hW645.le hf666
        have hR693 := hR646.le hf666
        have hW694 := hW647.le hf666
        have hW695 := hW648.le hf666
        have hR696 := hR649.le hf666
        have hR697 := hR650.le hf666
        have hW698 := hW651.le hf666
        have hW699 := hW652.le hf666
        have hR700 := hR653.le hf666
        have hR701 := hR656.le hf666
        have hW702 := hW657.le hf666
        have hW703 := hW660.le hf666
        replace hle := hle.trans hf666
        replace hbase248 := hbase248.trans hf666
        replace hbd249 := hbd249.trans hf666
        replace hM := hM.le hf666
        replace hs : St _ _ _ (.blk b243 (.cells #[.int .i64 (x241.1.Ids), .int .i64 (x241.1.Tests), .int .i64 (x241.1.Names)] 53 (0, 0)) :: .row v216 3 1 rw217 :: .blk b194 (.cells #[v216] 46 (0, 0)) :: .blk b65 (.cells #[v60] 27 (0, 0)) :: .blk b12 (.cells #[v7] 24 (0, 0)) :: L) _ _ _ := hs
        obtain ⟨x704, hx705, hm⟩ := ob hm
        refine RL_callVg hs rfl has14 rfl (law10_sel_ok n (f := f665) (a0 := v659) ⟨rw661, hR667, hW703⟩ hx705) ?_; clear hs; (try clear a w)
        rintro _ f706 _ a w hf707 ⟨r708, rfl, rfl, hq709⟩ hs
        have hT710 := hf707 _ _ hT668
        have hT711 := hf707 _ _ hT669
        have hR712 := hR670.le hf707
        have hW713 := hW671.le hf707
        have hR714 := hR672.le hf707
        have hW715 := hW673.le hf707
        have hR716 := hR674.le hf707
        have hW717 := hW675.le hf707
        have hB718 := hf707 _ _ hB676
        have hR719 := hR677.le hf707
        have hW720 := hW678.le hf707
        have hB721 := hf707 _ _ hB679
        have hW722 := hW680.le hf707
        have hR723 := hR681.le hf707
        have hW724 := hW682.le hf707
        have hR725 := hR683.le hf707
        have hW726 := hW684.le hf707
        have hR727 := hR685.le hf707
        have hW728 := hW686.le hf707
        have hW729 := hW687.le hf707
        have hR730 := hR688.le hf707
        have hR731 := hR689.le hf707
        have hW732 := hW690.le hf707
        have hR733 := hR691.le hf707
        have hW734 := hW692.le hf707
        have hR735 := hR693.le hf707
        have hW736 := hW694.le hf707
        have hW737 := hW695.le hf707
        have hR738 := hR696.le hf707
        have hR739 := hR697.le hf707
        have hW740 := hW698.le hf707
        have hW741 := hW699.le hf707
        have hR742 := hR700.le hf707
        have hR743 := hR701.le hf707
        have hW744 := hW702.le hf707
        have hW745 := hW703.le hf707
        have hR746 := hR667.le hf707
        replace hle := hle.trans hf707
        replace hbase248 := hbase248.trans hf707
        replace hbd249 := hbd249.trans hf707
        replace hM := hM.le hf707
        obtain ⟨v747, rfl, ⟨rw748, hR749, hW750⟩⟩ := hq709
        replace hs : St _ _ _ (.blk b243 (.cells #[.int .i64 (x241.1.Ids), .int .i64 (x241.1.Tests), .int .i64 (x241.1.Names)] 53 (0, 0)) :: .row v216 3 1 rw217 :: .blk b194 (.cells #[v216] 46 (0, 0)) :: .blk b65 (.cells #[v60] 27 (0, 0)) :: .blk b12 (.cells #[v7] 24 (0, 0)) :: L) _ _ _ := hs
        refine uon hs ?_; clear hs; (try clear a w); intro a he
        refine T_any1 he rfl ?_; clear he; (try clear a); intro a w hs
        obtain ⟨x752, hx753, hm⟩ := ob hm
        refine syg hs (y_call rfl has12 rfl (match_Match_ok n (f := f706) (a0 := [v7]) (a2 := [v747]) hT710 hT711 hTT ⟨_, rfl, ⟨rw8, hR712, hW713⟩⟩ ⟨_, rfl, ⟨rw748, hR749, hW750⟩⟩ hx753)) ?_; clear hs; (try clear a w); intro a w hs
        refine uon hs ?_; clear hs; (try clear a w); intro a he
        refine uy (v := .bool (x752)) 42 he rfl (y_pick rfl rfl) ?_; clear he; (try clear a); intro a he
        refine uy (v := .bool (x752)) 43 he rfl (y_move rfl) ?_; clear he; (try clear a); intro a he
        refine Ev.split he (t := 76) rfl (fun hg754 hq => ?_) (fun hg754 hq => ?_)
        ·clear he; have he := hq; clear hq
         replace hm := oc_t hg754 hm
         refine uyg 48 he rfl (y_buildS (places := [(0, 1), (1, 1), (2, 1)]) (cs := [.int .i64 (0), .int .i64 (0), .int .i64 (0)]) rfl Tryd.underlying53 ti53 (by kernel_rfl) (by decide) rfl trivial) ?_; clear he; (try clear a); intro a he
         refine T_any1 he rfl ?_; clear he; (try clear a); intro a w hs
         obtain ⟨x756, hx757, hm⟩ := ob hm
         refine RL_callVg hs rfl has15 rfl (law10_name_ok n (f := f706) (a2 := (.slice none 0 0)) RS.nil hx757) ?_; clear hs; (try clear a w)
         rintro _ f758 _ a w hf759 ⟨r760, rfl, rfl, hq761⟩ hs
         have hT762 := hf759 _ _ hT710
         have hT763 := hf759 _ _ hT711
         have hR764 := hR712.le hf759
         have hW765 := hW713.le hf759
         have hR766 := hR714.le hf759
         have hW767 := hW715.le hf759
         have hR768 := hR716.le hf759
         have hW769 := hW717.le hf759
         have hB770 := hf759 _ _ hB718
         have hR771 := hR719.le hf759
         have hW772 := hW720.le hf759
         have hB773 := hf759 _ _ hB721
         have hW774 := hW722.le hf759
         have hR775 := hR723.le hf759
         have hW776 := hW724.le hf759
         have hR777 := hR725.le hf759
         have hW778 := hW726.le hf759
         have hR779 := hR727.le hf759
         have hW780 := hW728.le hf759
         have hW781 := hW729.le hf759
         have hR782 := hR730.le hf759
         have hR783 := hR731.le hf759
         have hW784 := hW732.le hf759
         have hR785 := hR733.le hf759
         have hW786 := hW734.le hf759
         have hR787 := hR735.le hf759
         have hW788 := hW736.le hf759
         have hW789 := hW737.le hf759
         have hR790 := hR738.le hf759
         have hR791 := hR739.le hf759
         have hW792 := hW740.le hf759
         have hW793 := hW741.le hf759
         have hR794 := hR742.le hf759
         have hR795 := hR743.le hf759
         have hW796 := hW744.le hf759
         have hW797 := hW745.le hf759
         have hR798 := hR746.le hf759
         have hR799 := hR749.le hf759
         have hW800 := hW750.le hf759
         replace hle := hle.trans hf759
         replace hbase248 := hbase248.trans hf759
         replace hbd249 := hbd249.trans hf759
         replace hM := hM.le hf759
         obtain ⟨v801, rfl, ⟨rw802, hR803, hW804⟩⟩ := hq761
         replace hs : St _ _ _ (.blk b243 (.cells #[.int .i64 (x241.1.Ids), .int .i64 (x241.1.Tests), .int .i64 (x241.1.Names)] 53 (0, 0)) :: .row v216 3 1 rw217 :: .blk b194 (.cells #[v216] 46 (0, 0)) :: .blk b65 (.cells #[v60] 27 (0, 0)) :: .blk b12 (.cells #[v7] 24 (0, 0)) :: L) _ _ _ := hs
         refine uon hs ?_; clear hs; (try clear a w); intro a he
         refine T_any1 he rfl ?_; clear he; (try clear a); intro a w hs
         refine RL_guard hs rfl rfl ?_
         refine RL_bs1a hs rfl Tryd.underlying25 ti35 (by decide) (AllC.row ⟨rfl, rfl, hR803.one, trivial⟩ rfl) ?_; clear hs; (try clear a w); intro v806 a w hs
         have hW807 : RW t_sheet_Step f758 [[.int .i64 (x756.Comb), .string (x756.Name), v801]] [x756] := RW.single (⟨_, rfl, ⟨rw802, hR803, hW804⟩⟩)
         generalize hgrw808 : ([[.int .i64 (x756.Comb), .string (x756.Name), v801]] : List (List Value)) = rw808 at hs hW807; clear hgrw808
         replace hs : St _ _ _ (.row v806 35 3 rw808 :: .blk b243 (.cells #[.int .i64 (x241.1.Ids), .int .i64 (x241.1.Tests), .int .i64 (x241.1.Names)] 53 (0, 0)) :: .row v216 3 1 rw217 :: .blk b194 (.cells #[v216] 46 (0, 0)) :: .blk b65 (.cells #[v60] 27 (0, 0)) :: .blk b12 (.cells #[v7] 24 (0, 0)) :: L) _ _ _ := hs
         have ho811 : v806.oneCell' = true := hs.one (i := 0) rfl
         refine uon hs ?_; clear hs; (try clear a w); intro a he
         refine T_any1 he rfl ?_; clear he; (try clear a); intro a w hs
         obtain ⟨f812, hf813, hs2, hR814⟩ := hs.frzAt 0 rfl
         clear hs; have hs := hs2; clear hs2
         have hT815 := hf813 _ _ hT762
         have hT816 := hf813 _ _ hT763
         have hR817 := hR764.le hf813
         have hW818 := hW765.le hf813
         have hR819 := hR766.le hf813
         have hW820 := hW767.le hf813
         have hR821 := hR768.le hf813
         have hW822 := hW769.le hf813
         have hB823 := hf813 _ _ hB770
         have hR824 := hR771.le hf813
         have hW825 := hW772.le hf813
         have hB826 := hf813 _ _ hB773
         have hW827 := hW774.le hf813
         have hR828 := hR775.le hf813
         have hW829 := hW776.le hf813
         have hR830 := hR777.le hf813
         have hW831 := hW778.le hf813
         have hR832 := hR779.le hf813
         have hW833 := hW780.le hf813
         have hW834 := hW781.le hf813
         have hR835 := hR782.le hf813
         have hR836 := hR783.le hf813
         have hW837 := hW784.le hf813
         have hR838 := hR785.le hf813
         have hW839 := hW786.le hf813
         have hR840 := hR787.le hf813
         have hW841 := hW788.le hf813
         have hW842 := hW789.le hf813
         have hR843 := hR790.le hf813
         have hR844 := hR791.le hf813
         have hW845 := hW792.le hf813
         have hW846 := hW793.le hf813
         have hR847 := hR794.le hf813
         have hR848 := hR795.le hf813
         have hW849 := hW796.le hf813
         have hW850 := hW797.le hf813
         have hR851 := hR798.le hf813
         have hR852 := hR799.le hf813
         have hW853 := hW800.le hf813
         have hR854 := hR803.le hf813
         have hW855 := hW804.le hf813
         have hW856 := hW807.le hf813
         replace hle := hle.trans hf813
         replace hbase248 := hbase248.trans hf813
         replace hbd249 := hbd249.trans hf813
         replace hM := hM.le hf813
         replace hs : St _ _ _ (.blk b243 (.cells #[.int .i64 (x241.1.Ids), .int .i64 (x241.1.Tests), .int .i64 (x241.1.Names)] 53 (0, 0)) :: .row v216 3 1 rw217 :: .blk b194 (.cells #[v216] 46 (0, 0)) :: .blk b65 (.cells #[v60] 27 (0, 0)) :: .blk b12 (.cells #[v7] 24 (0, 0)) :: L) _ _ _ := hs
         obtain ⟨x857, hx858, hm⟩ := ob hm
         refine RL_callVg hs rfl has14 rfl (law10_sel_ok n (f := f812) (a0 := v806) ⟨rw808, hR814, hW856⟩ hx858) ?_; clear hs; (try clear a w)
         rintro _ f859 _ a w hf860 ⟨r861, rfl, rfl, hq862⟩ hs
         have hT863 := hf860 _ _ hT815
         have hT864 := hf860 _ _ hT816
         have hR865 := hR817.le hf860
         have hW866 := hW818.le hf860
         have hR867 := hR819.le hf860
         have hW868 := hW820.le hf860
         have hR869 := hR821.le hf860
         have hW870 := hW822.le hf860
         have hB871 := hf860 _ _ hB823
         have hR872 := hR824.le hf860
         have hW873 := hW825.le hf860
         have hB874 := hf860 _ _ hB826
         have hW875 := hW827.le hf860
         have hR876 := hR828.le hf860
         have hW877 := hW829.le hf860
         have hR878 := hR830.le hf860
         have hW879 := hW831.le hf860
         have hR880 := hR832.le hf860
         have hW881 := hW833.le hf860
         have hW882 := hW834.le hf860
         have hR883 := hR835.le hf860
         have hR884 := hR836.le hf860
         have hW885 := hW837.le hf860
         have hR886 := hR838.le hf860
         have hW887 := hW839.le hf860
         have hR888 := hR840.le hf860
         have hW889 := hW841.le hf860
         have hW890 := hW842.le hf860
         have hR891 := hR843.le hf860
         have hR892 := hR844.le hf860
         have hW893 := hW845.le hf860
         have hW894 := hW846.le hf860
         have hR895 := hR847.le hf860
         have hR896 := hR848.le hf860
         have hW897 := hW849.le hf860
         have hW898 := hW850.le hf860
         have hR899 := hR851.le hf860
         have hR900 := hR852.le hf860
         have hW901 := hW853.le hf860
         have hR902 := hR854.le hf860
         have hW903 := hW855.le hf860
         have hW904 := hW856.le hf860
         have hR905 := hR814.le hf860
         replace hle := hle.trans hf860
         replace hbase248 := hbase248.trans hf860
         replace hbd249 := hbd249.trans hf860
         replace hM := hM.le hf860
         obtain ⟨v906, rfl, ⟨rw907, hR908, hW909⟩⟩ := hq862
         replace hs : St _ _ _ (.blk b243 (.cells #[.int .i64 (x241.1.Ids), .int .i64 (x241.1.Tests), .int .i64 (x241.1.Names)] 53 (0, 0)) :: .row v216 3 1 rw217 :: .blk b194 (.cells #[v216] 46 (0, 0)) :: .blk b65 (.cells #[v60] 27 (0, 0)) :: .blk b12 (.cells #[v7] 24 (0, 0)) :: L) _ _ _ := hs
         refine uon hs ?_; clear hs; (try clear a w); intro a he
         refine T_any1 he rfl ?_; clear he; (try clear a); intro a w hs
         obtain ⟨x911, hx912, hm⟩ := ob hm
         refine syg hs (y_call rfl has20 rfl (match_Weigh_ok n (f := f859) (a0 := [v906]) ⟨_, rfl, ⟨rw907, hR908, hW909⟩⟩ hx912)) ?_; clear hs; (try clear a w); intro a w hs
         refine uon hs ?_; clear hs; (try clear a w); intro a he
         refine uyg 49 he rfl (y_steql rfl rfl Tryd.underlying53 (by kernel_rfl) (by kernel_rfl) (fun w => (eqF_int rfl Tryd.underlying3 rfl rfl (eqF_int rfl Tryd.underlying3 rfl rfl (eqF_int rfl Tryd.underlying3 rfl rfl eqF_nil))))) ?_; clear he; (try clear a); intro a he
         refine uy (v := .bool ((decide (x911.Ids = 0) && (decide (x911.Tests = 0) && (decide (x911.Names = 0) && true))))) 50 he rfl (y_pick rfl rfl) ?_; clear he; (try clear a); intro a he
         refine uy (v := .bool ((decide (x911.Ids = 0) && (decide (x911.Tests = 0) && (decide (x911.Names = 0) && true))))) 51 he rfl (y_move rfl) ?_; clear he; (try clear a); intro a he
         refine Ev.split he (t := 84) rfl (fun hg913 hq => ?_) (fun hg913 hq => ?_)
         ·clear he; have he := hq; clear hq
          replace hm := oc_t hg913 hm
          refine uyg (v := v216) 52 he rfl (y_ld rfl Tryd.underlying46 rfl (Cell.blk (.head _) rfl)) ?_; clear he; (try clear a); intro a he
          refine T_any1 he rfl ?_; clear he; (try clear a); intro a w hs
          refine RL_guard hs rfl rfl ?_
          refine RL_bsN (parts := [(0, .const (.int .i64 2)), (1, .const (.int .i64 4))]) (us := [.int .i64 (2), .int .i64 (4)]) (rows := [[.int .i64 (2)], [.int .i64 (4)]]) hs rfl Tryd.underlying46 ti3 (by decide) rfl rfl (by intro r hr; simp only [List.mem_cons, List.mem_nil_iff, or_false] at hr; rcases hr with rfl | rfl; exact AllC.row ⟨rfl, trivial⟩ rfl; exact AllC.row ⟨rfl, trivial⟩ rfl) ?_; clear hs; (try clear a w); intro v914 a w hs
          have hW915 : RW (tInt .i64) f859 [[.int .i64 (2)], [.int .i64 (4)]] [2, 4] := ⟨rfl, ⟨rfl, trivial⟩⟩
          generalize hgrw916 : ([[.int .i64 (2)], [.int .i64 (4)]] : List (List Value)) = rw916 at hs hW915; clear hgrw916
          replace hs : St _ _ _ (.row v914 3 1 rw916 :: .blk b243 (.cells #[.int .i64 (x241.1.Ids), .int .i64 (x241.1.Tests), .int .i64 (x241.1.Names)] 53 (0, 0)) :: .row v216 3 1 rw217 :: .blk b194 (.cells #[v216] 46 (0, 0)) :: .blk b65 (.cells #[v60] 27 (0, 0)) :: .blk b12 (.cells #[v7] 24 (0, 0)) :: L) _ _ _ := hs
          have ho919 : v914.oneCell' = true := hs.one (i := 0) rfl
          refine uon hs ?_; clear hs; (try clear a w); intro a he
          refine T_any1 he rfl ?_; clear he; (try clear a); intro a w hs
          obtain ⟨x920, hx921, hm⟩ := ob hm
          refine syg hs (y_callCK (cap := []) rfl has17 rfl (fun w9 hw9 => callsP (Lr := [.row v216 3 1 rw217, .row v914 3 1 rw916]) (Lf := .blk b243 (.cells #[.int .i64 (x241.1.Ids), .int .i64 (x241.1.Tests), .int .i64 (x241.1.Names)] 53 (0, 0)) :: .blk b194 (.cells #[v216] 46 (0, 0)) :: .blk b65 (.cells #[v60] 27 (0, 0)) :: .blk b12 (.cells #[v7] 24 (0, 0)) :: L) ((perm_at _ 0 rfl).trans (perm_at _ 2 rfl)) hw9 (fun Lz w9 hw9 => lent0 hw9 (fun f9_0 w9 hle9_0 hRl0 hw9 => lent0 hw9 (fun f9_1 w9 hle9_1 hRl1 hw9 => (book_Same_int_ok n (f := f9_1) (a0 := v216) (a1 := v914) ⟨rw217, hRl0.le hle9_1, hW875.le (hle9_0.trans hle9_1)⟩ ⟨rw916, hRl1, hW915.le (hle9_0.trans hle9_1)⟩ hx921) w0 _ w9 hw9))))) ?_; clear hs; (try clear a w); intro a w hs
          refine uon hs ?_; clear hs; (try clear a w); intro a he
          refine uy (v := .bool (x920)) 55 he rfl (y_pick rfl rfl) ?_; clear he; (try clear a); intro a he
          refine uy (v := .bool (x920)) 56 he rfl (y_move rfl) ?_; clear he; (try clear a); intro a he
          refine Ev.split he (t := 89) rfl (fun hg922 hq => ?_) (fun hg922 hq => ?_)
          ·clear he; have he := hq; clear hq
           replace hm := oc_t hg922 hm
           refine uyg (v := .bool (x241.2)) 57 he rfl (y_move rfl) ?_; clear he; (try clear a); intro a he
           refine uyg (v := .bool ((!x241.2))) 58 he rfl (y_not rfl) ?_; clear he; (try clear a); intro a he
           refine uy (v := .bool ((!x241.2))) 59 he rfl (y_pick rfl rfl) ?_; clear he; (try clear a); intro a he
           refine uy (v := .bool ((!x241.2))) 60 he rfl (y_move rfl) ?_; clear he; (try clear a); intro a he
           refine Ev.split he (t := 93) rfl (fun hg923 hq => ?_) (fun hg923 hq => ?_)
           ·clear he; have he := hq; clear hq
            replace hm := oc_t hg923 hm
            refine uyg 61 he rfl (y_buildS (places := [(0, 1), (1, 1), (2, 1)]) (cs := [.int .i64 (0), .int .i64 (9), .int .i64 (0)]) rfl Tryd.underlying53 ti53 (by kernel_rfl) (by decide) rfl ⟨rfl, trivial⟩) ?_; clear he; (try clear a); intro a he
            refine uyg 62 he rfl (y_buildS (places := [(0, 1), (1, 1), (2, 1)]) (cs := [.int .i64 (1), .int .i64 (0), .int .i64 (0)]) rfl Tryd.underlying53 ti53 (by kernel_rfl) (by decide) rfl ⟨rfl, trivial⟩) ?_; clear he; (try clear a); intro a he
            refine T_any1 he rfl ?_; clear he; (try clear a); intro a w hs
            obtain ⟨x924, hx925, hm⟩ := ob hm
            refine syg hs (y_call rfl has18 rfl (match_Less_ok n (f := f859) (a0 := [.int .i64 (0), .int .i64 (9), .int .i64 (0)]) (p0 := ({Ids := 0, Tests := 9, Names := 0} : match_Weight)) (a1 := [.int .i64 (1), .int .i64 (0), .int .i64 (0)]) (p1 := ({Ids := 1, Tests := 0, Names := 0} : match_Weight)) rfl rfl hx925)) ?_; clear hs; (try clear a w); intro a w hs
            refine uon hs ?_; clear hs; (try clear a w); intro a he
            refine uy (v := .bool (x924)) 64 he rfl (y_pick rfl rfl) ?_; clear he; (try clear a); intro a he
            refine uy (v := .bool (x924)) 65 he rfl (y_move rfl) ?_; clear he; (try clear a); intro a he
            refine Ev.split he (t := 98) rfl (fun hg926 hq => ?_) (fun hg926 hq => ?_)
            ·clear he; have he := hq; clear hq
             replace hm := oc_t hg926 hm
             refine T_any1 he rfl ?_; clear he; (try clear a); intro a w hs
             obtain ⟨x927, hx928, hm⟩ := ob hm
             refine syg hs (y_call rfl has11 rfl (law10_known_ok n (f := f859)  hT863 hT864 hTT hx928)) ?_; clear hs; (try clear a w); intro a w hs
             refine uon hs ?_; clear hs; (try clear a w); intro a he
             refine uy (v := .bool (x927)) 67 he rfl (y_pick rfl rfl) ?_; clear he; (try clear a); intro a he
             refine uy (v := .bool (x927)) 68 he rfl (y_assign rfl) ?_; clear he; (try clear a); intro a he
             refine T_nil he ?_; clear he; (try clear a); intro w hs; try clear hsD
             exact ⟨_, x927, hbase248, hm, hs.subs ⟨rfl, trivial⟩ (.cons _ (.cons _ (.cons _ (.cons _ (.cons _ (.cons _ (.refl _)))))))⟩
            ·clear he; have he := hq; clear hq
             replace hm := oc_f hg926 hm
             refine T_any1 he rfl ?_; clear he; (try clear a); intro a w hs
             refine sno hs ?_; clear hs; (try clear a w); intro a w hs
             refine uon hs ?_; clear hs; (try clear a w); intro a he
             refine uy (v := .bool (false)) 67 he rfl (y_pick rfl rfl) ?_; clear he; (try clear a); intro a he
             refine uy (v := .bool (false)) 68 he rfl (y_assign rfl) ?_; clear he; (try clear a); intro a he
             refine T_nil he ?_; clear he; (try clear a); intro w hs; try clear hsD
             exact ⟨_, false, hbase248, hm, hs.subs ⟨rfl, trivial⟩ (.cons _ (.cons _ (.cons _ (.cons _ (.cons _ (.cons _ (.refl _)))))))⟩
           ·clear he; have he := hq; clear hq
            replace hm := oc_f hg923 hm
            refine uno 61 he rfl ?_; clear he; (try clear a); intro a he
            refine uno 62 he rfl ?_; clear he; (try clear a); intro a he
            refine T_any1 he rfl ?_; clear he; (try clear a); intro a w hs
            refine sno hs ?_; clear hs; (try clear a w); intro a w hs
            refine uon hs ?_; clear hs; (try clear a w); intro a he
            refine uy (v := .bool (false)) 64 he rfl (y_pick rfl rfl) ?_; clear he; (try clear a); intro a he
            refine uy (v := .bool (false)) 65 he rfl (y_move rfl) ?_; clear he; (try clear a); intro a he
            refine T_any1 he rfl ?_; clear he; (try clear a); intro a w hs
            refine sno hs ?_; clear hs; (try clear a w); intro a w hs
            refine uon hs ?_; clear hs; (try clear a w); intro a he
            refine uy (v := .bool (false)) 67 he rfl (y_pick rfl rfl) ?_; clear he; (try clear a); intro a he
            refine uy (v := .bool (false)) 68 he rfl (y_assign rfl) ?_; clear he; (try clear a); intro a he
            refine T_nil he ?_; clear he; (try clear a); intro w hs; try clear hsD
            exact ⟨_, false, hbase248, hm, hs.subs ⟨rfl, trivial⟩ (.cons _ (.cons _ (.cons _ (.cons _ (.cons _ (.cons _ (.refl _)))))))⟩
          ·clear he; have he := hq; clear hq
           replace hm := oc_f hg922 hm
           refine uno 57 he rfl ?_; clear he; (try clear a); intro a he
           refine uno 58 he rfl ?_; clear he; (try clear a); intro a he
           refine uy (v := .bool (false)) 59 he rfl (y_pick rfl rfl) ?_; clear he; (try clear a); intro a he
           refine uy (v := .bool (false)) 60 he rfl (y_move rfl) ?_; clear he; (try clear a); intro a he
           refine uno 61 he rfl ?_; clear he; (try clear a); intro a he
           refine uno 62 he rfl ?_; clear he; (try clear a); intro a he
           refine T_any1 he rfl ?_; clear he; (try clear a); intro a w hs
           refine sno hs ?_; clear hs; (try clear a w); intro a w hs
           refine uon hs ?_; clear hs; (try clear a w); intro a he
           refine uy (v := .bool (false)) 64 he rfl (y_pick rfl rfl) ?_; clear he; (try clear a); intro a he
           refine uy (v := .bool (false)) 65 he rfl (y_move rfl) ?_; clear he; (try clear a); intro a he
           refine T_any1 he rfl ?_; clear he; (try clear a); intro a w hs
           refine sno hs ?_; clear hs; (try clear a w); intro a w hs
           refine uon hs ?_; clear hs; (try clear a w); intro a he
           refine uy (v := .bool (false)) 67 he rfl (y_pick rfl rfl) ?_; clear he; (try clear a); intro a he
           refine uy (v := .bool (false)) 68 he rfl (y_assign rfl) ?_; clear he; (try clear a); intro a he
           refine T_nil he ?_; clear he; (try clear a); intro w hs; try clear hsD
           exact ⟨_, false, hbase248, hm, hs.subs ⟨rfl, trivial⟩ (.cons _ (.cons _ (.cons _ (.cons _ (.cons _ (.cons _ (.refl _)))))))⟩
         ·clear he; have he := hq; clear hq
          replace hm := oc_f hg913 hm
          refine uno 52 he rfl ?_; clear he; (try clear a); intro a he
          refine T_any1 he rfl ?_; clear he; (try clear a); intro a w hs
          refine sno hs ?_; clear hs; (try clear a w); intro a w hs
          refine uon hs ?_; clear hs; (try clear a w); intro a he
          refine T_any1 he rfl ?_; clear he; (try clear a); intro a w hs
          refine sno hs ?_; clear hs; (try clear a w); intro a w hs
          refine uon hs ?_; clear hs; (try clear a w); intro a he
          refine uy (v := .bool (false)) 55 he rfl (y_pick rfl rfl) ?_; clear he; (try clear a); intro a he
          refine uy (v := .bool (false)) 56 he rfl (y_move rfl) ?_; clear he; (try clear a); intro a he
          refine uno 57 he rfl ?_; clear he; (try clear a); intro a he
          refine uno 58 he rfl ?_; clear he; (try clear a); intro a he
          refine uy (v := .bool (false)) 59 he rfl (y_pick rfl rfl) ?_; clear he; (try clear a); intro a he
          refine uy (v := .bool (false)) 60 he rfl (y_move rfl) ?_; clear he; (try clear a); intro a he
          refine uno 61 he rfl ?_; clear he; (try clear a); intro a he
          refine uno 62 he rfl ?_; clear he; (try clear a); intro a he
          refine T_any1 he rfl ?_; clear he; (try clear a); intro a w hs
          refine sno hs ?_; clear hs; (try clear a w); intro a w hs
          refine uon hs ?_; clear hs; (try clear a w); intro a he
          refine uy (v := .bool (false)) 64 he rfl (y_pick rfl rfl) ?_; clear he; (try clear a); intro a he
          refine uy (v := .bool (false)) 65 he rfl (y_move rfl) ?_; clear he; (try clear a); intro a he
          refine T_any1 he rfl ?_; clear he; (try clear a); intro a w hs
          refine sno hs ?_; clear hs; (try clear a w); intro a w hs
          refine uon hs ?_; clear hs; (try clear a w); intro a he
          refine uy (v := .bool (false)) 67 he rfl (y_pick rfl rfl) ?_; clear he; (try clear a); intro a he
          refine uy (v := .bool (false)) 68 he rfl (y_assign rfl) ?_; clear he; (try clear a); intro a he
          refine T_nil he ?_; clear he; (try clear a); intro w hs; try clear hsD
          exact ⟨_, false, hbase248, hm, hs.subs ⟨rfl, trivial⟩ (.cons _ (.cons _ (.cons _ (.cons _ (.cons _ (.refl _))))))⟩
        ·clear he; have he := hq; clear hq
         replace hm := oc_f hg754 hm
         refine uno 48 he rfl ?_; clear he; (try clear a); intro a he
         refine T_any1 he rfl ?_; clear he; (try clear a); intro a w hs
         refine sno hs ?_; clear hs; (try clear a w); intro a w hs
         refine uon hs ?_; clear hs; (try clear a w); intro a he
         refine T_any1 he rfl ?_; clear he; (try clear a); intro a w hs
         refine sno hs ?_; clear hs; (try clear a w); intro a w hs
         refine uon hs ?_; clear hs; (try clear a w); intro a he
         refine T_any1 he rfl ?_; clear he; (try clear a); intro a w hs
         refine sno hs ?_; clear hs; (try clear a w); intro a w hs
         refine uon hs ?_; clear hs; (try clear a w); intro a he
         refine T_any1 he rfl ?_; clear he; (try clear a); intro a w hs
         refine sno hs ?_; clear hs; (try clear a w); intro a w hs
         refine uon hs ?_; clear hs; (try clear a w); intro a he
         refine uno 49 he rfl ?_; clear he; (try clear a); intro a he
         refine uy (v := .bool (false)) 50 he rfl (y_pick rfl rfl) ?_; clear he; (try clear a); intro a he
         refine uy (v := .bool (false)) 51 he rfl (y_move rfl) ?_; clear he; (try clear a); intro a he
         refine uno 52 he rfl ?_; clear he; (try clear a); intro a he
         refine T_any1 he rfl ?_; clear he; (try clear a); intro a w hs
         refine sno hs ?_; clear hs; (try clear a w); intro a w hs
         refine uon hs ?_; clear hs; (try clear a w); intro a he
         refine T_any1 he rfl ?_; clear he; (try clear a); intro a w hs
         refine sno hs ?_; clear hs; (try clear a w); intro a w hs
         refine uon hs ?_; clear hs; (try clear a w); intro a he
         refine uy (v := .bool (false)) 55 he rfl (y_pick rfl rfl) ?_; clear he; (try clear a); intro a he
         refine uy (v := .bool (false)) 56 he rfl (y_move rfl) ?_; clear he; (try clear a); intro a he
         refine uno 57 he rfl ?_; clear he; (try clear a); intro a he
         refine uno 58 he rfl ?_; clear he; (try clear a); intro a he
         refine uy (v := .bool (false)) 59 he rfl (y_pick rfl rfl) ?_; clear he; (try clear a); intro a he
         refine uy (v := .bool (false)) 60 he rfl (y_move rfl) ?_; clear he; (try clear a); intro a he
         refine uno 61 he rfl ?_; clear he; (try clear a); intro a he
         refine uno 62 he rfl ?_; clear he; (try clear a); intro a he
         refine T_any1 he rfl ?_; clear he; (try clear a); intro a w hs
         refine sno hs ?_; clear hs; (try clear a w); intro a w hs
         refine uon hs ?_; clear hs; (try clear a w); intro a he
         refine uy (v := .bool (false)) 64 he rfl (y_pick rfl rfl) ?_; clear he; (try clear a); intro a he
         refine uy (v := .bool (false)) 65 he rfl (y_move rfl) ?_; clear he; (try clear a); intro a he
         refine T_any1 he rfl ?_; clear he; (try clear a); intro a w hs
         refine sno hs ?_; clear hs; (try clear a w); intro a w hs
         refine uon hs ?_; clear hs; (try clear a w); intro a he
         refine uy (v := .bool (false)) 67 he rfl (y_pick rfl rfl) ?_; clear he; (try clear a); intro a he
         refine uy (v := .bool (false)) 68 he rfl (y_assign rfl) ?_; clear he; (try clear a); intro a he
         refine T_nil he ?_; clear he; (try clear a); intro w hs; try clear hsD
         exact ⟨_, false, hbase248, hm, hs.subs ⟨rfl, trivial⟩ (.cons _ (.cons _ (.cons _ (.cons _ (.cons _ (.refl _))))))⟩
       ·clear he; have he := hq; clear hq
        replace hm := oc_f hg573 hm
        refine uno 34 he rfl ?_; clear he; (try clear a); intro a he
        refine uno 35 he rfl ?_; clear he; (try clear a); intro a he
        refine uno 36 he rfl ?_; clear he; (try clear a); intro a he
        refine T_any1 he rfl ?_; clear he; (try clear a); intro a w hs
        refine sno hs ?_; clear hs; (try clear a w); intro a w hs
        refine uon hs ?_; clear hs; (try clear a w); intro a he
        refine T_any1 he rfl ?_; clear he; (try clear a); intro a w hs
        refine sno hs ?_; clear hs; (try clear a w); intro a w hs
        refine uon hs ?_; clear hs; (try clear a w); intro a he
        refine T_any1 he rfl ?_; clear he; (try clear a); intro a w hs
        refine sno hs ?_; clear hs; (try clear a w); intro a w hs
        refine uon hs ?_; clear hs; (try clear a w); intro a he
        refine T_any1 he rfl ?_; clear he; (try clear a); intro a w hs
        refine sno hs ?_; clear hs; (try clear a w); intro a w hs
        refine uon hs ?_; clear hs; (try clear a w); intro a he
        refine T_any1 he rfl ?_; clear he; (try clear a); intro a w hs
        refine sno hs ?_; clear hs; (try clear a w); intro a w hs
        refine uon hs ?_; clear hs; (try clear a w); intro a he
        refine uy (v := .bool (false)) 42 he rfl (y_pick rfl rfl) ?_; clear he; (try clear a); intro a he
        refine uy (v := .bool (false)) 43 he rfl (y_move rfl) ?_; clear he; (try clear a); intro a he
        refine uno 48 he rfl ?_; clear he; (try clear a); intro a he
        refine T_any1 he rfl ?_; clear he; (try clear a); intro a w hs
        refine sno hs ?_; clear hs; (try clear a w); intro a w hs
        refine uon hs ?_; clear hs; (try clear a w); intro a he
        refine T_any1 he rfl ?_; clear he; (try clear a); intro a w hs
        refine sno hs ?_; clear hs; (try clear a w); intro a w hs
        refine uon hs ?_; clear hs; (try clear a w); intro a he
        refine T_any1 he rfl ?_; clear he; (try clear a); intro a w hs
        refine sno hs ?_; clear hs; (try clear a w); intro a w hs
        refine uon hs ?_; clear hs; (try clear a w); intro a he
        refine T_any1 he rfl ?_; clear he; (try clear a); intro a w hs
        refine sno hs ?_; clear hs; (try clear a w); intro a w hs
        refine uon hs ?_; clear hs; (try clear a w); intro a he
        refine uno 49 he rfl ?_; clear he; (try clear a); intro a he
        refine uy (v := .bool (false)) 50 he rfl (y_pick rfl rfl) ?_; clear he; (try clear a); intro a he
        refine uy (v := .bool (false)) 51 he rfl (y_move rfl) ?_; clear he; (try clear a); intro a he
        refine uno 52 he rfl ?_; clear he; (try clear a); intro a he
        refine T_any1 he rfl ?_; clear he; (try clear a); intro a w hs
        refine sno hs ?_; clear hs; (try clear a w); intro a w hs
        refine uon hs ?_; clear hs; (try clear a w); intro a he
        refine T_any1 he rfl ?_; clear he; (try clear a); intro a w hs
        refine sno hs ?_; clear hs; (try clear a w); intro a w hs
        refine uon hs ?_; clear hs; (try clear a w); intro a he
        refine uy (v := .bool (false)) 55 he rfl (y_pick rfl rfl) ?_; clear he; (try clear a); intro a he
        refine uy (v := .bool (false)) 56 he rfl (y_move rfl) ?_; clear he; (try clear a); intro a he
        refine uno 57 he rfl ?_; clear he; (try clear a); intro a he
        refine uno 58 he rfl ?_; clear he; (try clear a); intro a he
        refine uy (v := .bool (false)) 59 he rfl (y_pick rfl rfl) ?_; clear he; (try clear a); intro a he
        refine uy (v := .bool (false)) 60 he rfl (y_move rfl) ?_; clear he; (try clear a); intro a he
        refine uno 61 he rfl ?_; clear he; (try clear a); intro a he
        refine uno 62 he rfl ?_; clear he; (try clear a); intro a he
        refine T_any1 he rfl ?_; clear he; (try clear a); intro a w hs
        refine sno hs ?_; clear hs; (try clear a w); intro a w hs
        refine uon hs ?_; clear hs; (try clear a w); intro a he
        refine uy (v := .bool (false)) 64 he rfl (y_pick rfl rfl) ?_; clear he; (try clear a); intro a he
        refine uy (v := .bool (false)) 65 he rfl (y_move rfl) ?_; clear he; (try clear a); intro a he
        refine T_any1 he rfl ?_; clear he; (try clear a); intro a w hs
        refine sno hs ?_; clear hs; (try clear a w); intro a w hs
        refine uon hs ?_; clear hs; (try clear a w); intro a he
        refine uy (v := .bool (false)) 67 he rfl (y_pick rfl rfl) ?_; clear he; (try clear a); intro a he
        refine uy (v := .bool (false)) 68 he rfl (y_assign rfl) ?_; clear he; (try clear a); intro a he
        refine T_nil he ?_; clear he; (try clear a); intro w hs; try clear hsD
        exact ⟨_, false, hbase248, hm, hs.subs ⟨rfl, trivial⟩ (.cons _ (.cons _ (.cons _ (.cons _ (.cons _ (.refl _))))))⟩
      ·clear he; have he := hq; clear hq
       replace hm := oc_f hg456 hm
       refine uno 26 he rfl ?_; clear he; (try clear a); intro a he
       refine T_any1 he rfl ?_; clear he; (try clear a); intro a w hs
       refine sno hs ?_; clear hs; (try clear a w); intro a w hs
       refine uon hs ?_; clear hs; (try clear a w); intro a he
       refine T_any1 he rfl ?_; clear he; (try clear a); intro a w hs
       refine sno hs ?_; clear hs; (try clear a w); intro a w hs
       refine uon hs ?_; clear hs; (try clear a w); intro a he
       refine T_any1 he rfl ?_; clear he; (try clear a); intro a w hs
       refine sno hs ?_; clear hs; (try clear a w); intro a w hs
       refine uon hs ?_; clear hs; (try clear a w); intro a he
       refine T_any1 he rfl ?_; clear he; (try clear a); intro a w hs
       refine sno hs ?_; clear hs; (try clear a w); intro a w hs
       refine uon hs ?_; clear hs; (try clear a w); intro a he
       refine uno 31 he rfl ?_; clear he; (try clear a); intro a he
       refine uy (v := .bool (false)) 32 he rfl (y_pick rfl rfl) ?_; clear he; (try clear a); intro a he
       refine uy (v := .bool (false)) 33 he rfl (y_move rfl) ?_; clear he; (try clear a); intro a he
       refine uno 34 he rfl ?_; clear he; (try clear a); intro a he
       refine uno 35 he rfl ?_; clear he; (try clear a); intro a he
       refine uno 36 he rfl ?_; clear he; (try clear a); intro a he
       refine T_any1 he rfl ?_; clear he; (try clear a); intro a w hs
       refine sno hs ?_; clear hs; (try clear a w); intro a w hs
       refine uon hs ?_; clear hs; (try clear a w); intro a he
       refine T_any1 he rfl ?_; clear he; (try clear a); intro a w hs
       refine sno hs ?_; clear hs; (try clear a w); intro a w hs
       refine uon hs ?_; clear hs; (try clear a w); intro a he
       refine T_any1 he rfl ?_; clear he; (try clear a); intro a w hs
       refine sno hs ?_; clear hs; (try clear a w); intro a w hs
       refine uon hs ?_; clear hs; (try clear a w); intro a he
       refine T_any1 he rfl ?_; clear he; (try clear a); intro a w hs
       refine sno hs ?_; clear hs; (try clear a w); intro a w hs
       refine uon hs ?_; clear hs; (try clear a w); intro a he
       refine T_any1 he rfl ?_; clear he; (try clear a); intro a w hs
       refine sno hs ?_; clear hs; (try clear a w); intro a w hs
       refine uon hs ?_; clear hs; (try clear a w); intro a he
       refine uy (v := .bool (false)) 42 he rfl (y_pick rfl rfl) ?_; clear he; (try clear a); intro a he
       refine uy (v := .bool (false)) 43 he rfl (y_move rfl) ?_; clear he; (try clear a); intro a he
       refine uno 48 he rfl ?_; clear he; (try clear a); intro a he
       refine T_any1 he rfl ?_; clear he; (try clear a); intro a w hs
       refine sno hs ?_; clear hs; (try clear a w); intro a w hs
       refine uon hs ?_; clear hs; (try clear a w); intro a he
       refine T_any1 he rfl ?_; clear he; (try clear a); intro a w hs
       refine sno hs ?_; clear hs; (try clear a w); intro a w hs
       refine uon hs ?_; clear hs; (try clear a w); intro a he
       refine T_any1 he rfl ?_; clear he; (try clear a); intro a w hs
       refine sno hs ?_; clear hs; (try clear a w); intro a w hs
       refine uon hs ?_; clear hs; (try clear a w); intro a he
       refine T_any1 he rfl ?_; clear he; (try clear a); intro a w hs
       refine sno hs ?_; clear hs; (try clear a w); intro a w hs
       refine uon hs ?_; clear hs; (try clear a w); intro a he
       refine uno 49 he rfl ?_; clear he; (try clear a); intro a he
       refine uy (v := .bool (false)) 50 he rfl (y_pick rfl rfl) ?_; clear he; (try clear a); intro a he
       refine uy (v := .bool (false)) 51 he rfl (y_move rfl) ?_; clear he; (try clear a); intro a he
       refine uno 52 he rfl ?_; clear he; (try clear a); intro a he
       refine T_any1 he rfl ?_; clear he; (try clear a); intro a w hs
       refine sno hs ?_; clear hs; (try clear a w); intro a w hs
       refine uon hs ?_; clear hs; (try clear a w); intro a he
       refine T_any1 he rfl ?_; clear he; (try clear a); intro a w hs
       refine sno hs ?_; clear hs; (try clear a w); intro a w hs
       refine uon hs ?_; clear hs; (try clear a w); intro a he
       refine uy (v := .bool (false)) 55 he rfl (y_pick rfl rfl) ?_; clear he; (try clear a); intro a he
       refine uy (v := .bool (false)) 56 he rfl (y_move rfl) ?_; clear he; (try clear a); intro a he
       refine uno 57 he rfl ?_; clear he; (try clear a); intro a he
       refine uno 58 he rfl ?_; clear he; (try clear a); intro a he
       refine uy (v := .bool (false)) 59 he rfl (y_pick rfl rfl) ?_; clear he; (try clear a); intro a he
       refine uy (v := .bool (false)) 60 he rfl (y_move rfl) ?_; clear he; (try clear a); intro a he
       refine uno 61 he rfl ?_; clear he; (try clear a); intro a he
       refine uno 62 he rfl ?_; clear he; (try clear a); intro a he
       refine T_any1 he rfl ?_; clear he; (try clear a); intro a w hs
       refine sno hs ?_; clear hs; (try clear a w); intro a w hs
       refine uon hs ?_; clear hs; (try clear a w); intro a he
       refine uy (v := .bool (false)) 64 he rfl (y_pick rfl rfl) ?_; clear he; (try clear a); intro a he
       refine uy (v := .bool (false)) 65 he rfl (y_move rfl) ?_; clear he; (try clear a); intro a he
       refine T_any1 he rfl ?_; clear he; (try clear a); intro a w hs
       refine sno hs ?_; clear hs; (try clear a w); intro a w hs
       refine uon hs ?_; clear hs; (try clear a w); intro a he
       refine uy (v := .bool (false)) 67 he rfl (y_pick rfl rfl) ?_; clear he; (try clear a); intro a he
       refine uy (v := .bool (false)) 68 he rfl (y_assign rfl) ?_; clear he; (try clear a); intro a he
       refine T_nil he ?_; clear he; (try clear a); intro w hs; try clear hsD
       exact ⟨_, false, hbase248, hm, hs.subs ⟨rfl, trivial⟩ (.cons _ (.cons _ (.cons _ (.cons _ (.cons _ (.refl _))))))⟩
     ·clear he; have he := hq; clear hq
      replace hm := oc_f hg418 hm
      refine uno 20 he rfl ?_; clear he; (try clear a); intro a he
      refine T_any1 he rfl ?_; clear he; (try clear a); intro a w hs
      refine sno hs ?_; clear hs; (try clear a w); intro a w hs
      refine uon hs ?_; clear hs; (try clear a w); intro a he
      refine T_any1 he rfl ?_; clear he; (try clear a); intro a w hs
      refine sno hs ?_; clear hs; (try clear a w); intro a w hs
      refine uon hs ?_; clear hs; (try clear a w); intro a he
      refine uno 23 he rfl ?_; clear he; (try clear a); intro a he
      refine uy (v := .bool (false)) 24 he rfl (y_pick rfl rfl) ?_; clear he; (try clear a); intro a he
      refine uy (v := .bool (false)) 25 he rfl (y_move rfl) ?_; clear he; (try clear a); intro a he
      refine uno 26 he rfl ?_; clear he; (try clear a); intro a he
      refine T_any1 he rfl ?_; clear he; (try clear a); intro a w hs
      refine sno hs ?_; clear hs; (try clear a w); intro a w hs
      refine uon hs ?_; clear hs; (try clear a w); intro a he
      refine T_any1 he rfl ?_; clear he; (try clear a); intro a w hs
      refine sno hs ?_; clear hs; (try clear a w); intro a w hs
      refine uon hs ?_; clear hs; (try clear a w); intro a he
      refine T_any1 he rfl ?_; clear he; (try clear a); intro a w hs
      refine sno hs ?_; clear hs; (try clear a w); intro a w hs
      refine uon hs ?_; clear hs; (try clear a w); intro a he
      refine T_any1 he rfl ?_; clear he; (try clear a); intro a w hs
      refine sno hs ?_; clear hs; (try clear a w); intro a w hs
      refine uon hs ?_; clear hs; (try clear a w); intro a he
      refine uno 31 he rfl ?_; clear he; (try clear a); intro a he
      refine uy (v := .bool (false)) 32 he rfl (y_pick rfl rfl) ?_; clear he; (try clear a); intro a he
      refine uy (v := .bool (false)) 33 he rfl (y_move rfl) ?_; clear he; (try clear a); intro a he
      refine uno 34 he rfl ?_; clear he; (try clear a); intro a he
      refine uno 35 he rfl ?_; clear he; (try clear a); intro a he
      refine uno 36 he rfl ?_; clear he; (try clear a); intro a he
      refine T_any1 he rfl ?_; clear he; (try clear a); intro a w hs
      refine sno hs ?_; clear hs; (try clear a w); intro a w hs
      refine uon hs ?_; clear hs; (try clear a w); intro a he
      refine T_any1 he rfl ?_; clear he; (try clear a); intro a w hs
      refine sno hs ?_; clear hs; (try clear a w); intro a w hs
      refine uon hs ?_; clear hs; (try clear a w); intro a he
      refine T_any1 he rfl ?_; clear he; (try clear a); intro a w hs
      refine sno hs ?_; clear hs; (try clear a w); intro a w hs
      refine uon hs ?_; clear hs; (try clear a w); intro a he
      refine T_any1 he rfl ?_; clear he; (try clear a); intro a w hs
      refine sno hs ?_; clear hs; (try clear a w); intro a w hs
      refine uon hs ?_; clear hs; (try clear a w); intro a he
      refine T_any1 he rfl ?_; clear he; (try clear a); intro a w hs
      refine sno hs ?_; clear hs; (try clear a w); intro a w hs
      refine uon hs ?_; clear hs; (try clear a w); intro a he
      refine uy (v := .bool (false)) 42 he rfl (y_pick rfl rfl) ?_; clear he; (try clear a); intro a he
      refine uy (v := .bool (false)) 43 he rfl (y_move rfl) ?_; clear he; (try clear a); intro a he
      refine uno 48 he rfl ?_; clear he; (try clear a); intro a he
      refine T_any1 he rfl ?_; clear he; (try clear a); intro a w hs
      refine sno hs ?_; clear hs; (try clear a w); intro a w hs
      refine uon hs ?_; clear hs; (try clear a w); intro a he
      refine T_any1 he rfl ?_; clear he; (try clear a); intro a w hs
      refine sno hs ?_; clear hs; (try clear a w); intro a w hs
      refine uon hs ?_; clear hs; (try clear a w); intro a he
      refine T_any1 he rfl ?_; clear he; (try clear a); intro a w hs
      refine sno hs ?_; clear hs; (try clear a w); intro a w hs
      refine uon hs ?_; clear hs; (try clear a w); intro a he
      refine T_any1 he rfl ?_; clear he; (try clear a); intro a w hs
      refine sno hs ?_; clear hs; (try clear a w); intro a w hs
      refine uon hs ?_; clear hs; (try clear a w); intro a he
      refine uno 49 he rfl ?_; clear he; (try clear a); intro a he
      refine uy (v := .bool (false)) 50 he rfl (y_pick rfl rfl) ?_; clear he; (try clear a); intro a he
      refine uy (v := .bool (false)) 51 he rfl (y_move rfl) ?_; clear he; (try clear a); intro a he
      refine uno 52 he rfl ?_; clear he; (try clear a); intro a he
      refine T_any1 he rfl ?_; clear he; (try clear a); intro a w hs
      refine sno hs ?_; clear hs; (try clear a w); intro a w hs
      refine uon hs ?_; clear hs; (try clear a w); intro a he
      refine T_any1 he rfl ?_; clear he; (try clear a); intro a w hs
      refine sno hs ?_; clear hs; (try clear a w); intro a w hs
      refine uon hs ?_; clear hs; (try clear a w); intro a he
      refine uy (v := .bool (false)) 55 he rfl (y_pick rfl rfl) ?_; clear he; (try clear a); intro a he
      refine uy (v := .bool (false)) 56 he rfl (y_move rfl) ?_; clear he; (try clear a); intro a he
      refine uno 57 he rfl ?_; clear he; (try clear a); intro a he
      refine uno 58 he rfl ?_; clear he; (try clear a); intro a he
      refine uy (v := .bool (false)) 59 he rfl (y_pick rfl rfl) ?_; clear he; (try clear a); intro a he
      refine uy (v := .bool (false)) 60 he rfl (y_move rfl) ?_; clear he; (try clear a); intro a he
      refine uno 61 he rfl ?_; clear he; (try clear a); intro a he
      refine uno 62 he rfl ?_; clear he; (try clear a); intro a he
      refine T_any1 he rfl ?_; clear he; (try clear a); intro a w hs
      refine sno hs ?_; clear hs; (try clear a w); intro a w hs
      refine uon hs ?_; clear hs; (try clear a w); intro a he
      refine uy (v := .bool (false)) 64 he rfl (y_pick rfl rfl) ?_; clear he; (try clear a); intro a he
      refine uy (v := .bool (false)) 65 he rfl (y_move rfl) ?_; clear he; (try clear a); intro a he
      refine T_any1 he rfl ?_; clear he; (try clear a); intro a w hs
      refine sno hs ?_; clear hs; (try clear a w); intro a w hs
      refine uon hs ?_; clear hs; (try clear a w); intro a he
      refine uy (v := .bool (false)) 67 he rfl (y_pick rfl rfl) ?_; clear he; (try clear a); intro a he
      refine uy (v := .bool (false)) 68 he rfl (y_assign rfl) ?_; clear he; (try clear a); intro a he
      refine T_nil he ?_; clear he; (try clear a); intro w hs; try clear hsD
      exact ⟨_, false, hbase248, hm, hs.subs ⟨rfl, trivial⟩ (.cons _ (.cons _ (.cons _ (.cons _ (.cons _ (.refl _))))))⟩
    ·clear he; have he := hq; clear hq
     replace hm := oc_f hg255 hm
     refine uno 10 he rfl ?_; clear he; (try clear a); intro a he
     refine T_any1 he rfl ?_; clear he; (try clear a); intro a w hs
     refine sno hs ?_; clear hs; (try clear a w); intro a w hs
     refine uon hs ?_; clear hs; (try clear a w); intro a he
     refine T_any1 he rfl ?_; clear he; (try clear a); intro a w hs
     refine sno hs ?_; clear hs; (try clear a w); intro a w hs
     refine uon hs ?_; clear hs; (try clear a w); intro a he
     refine T_any1 he rfl ?_; clear he; (try clear a); intro a w hs
     refine sno hs ?_; clear hs; (try clear a w); intro a w hs
     refine uon hs ?_; clear hs; (try clear a w); intro a he
     refine T_any1 he rfl ?_; clear he; (try clear a); intro a w hs
     refine sno hs ?_; clear hs; (try clear a w); intro a w hs
     refine uon hs ?_; clear hs; (try clear a w); intro a he
     refine T_any1 he rfl ?_; clear he; (try clear a); intro a w hs
     refine sno hs ?_; clear hs; (try clear a w); intro a w hs
     refine uon hs ?_; clear hs; (try clear a w); intro a he
     refine T_any1 he rfl ?_; clear he; (try clear a); intro a w hs
     refine sno hs ?_; clear hs; (try clear a w); intro a w hs
     refine uon hs ?_; clear hs; (try clear a w); intro a he
     refine uno 17 he rfl ?_; clear he; (try clear a); intro a he
     refine uy (v := .bool (false)) 18 he rfl (y_pick rfl rfl) ?_; clear he; (try clear a); intro a he
     refine uy (v := .bool (false)) 19 he rfl (y_move rfl) ?_; clear he; (try clear a); intro a he
     refine uno 20 he rfl ?_; clear he; (try clear a); intro a he
     refine T_any1 he rfl ?_; clear he; (try clear a); intro a w hs
     refine sno hs ?_; clear hs; (try clear a w); intro a w hs
     refine uon hs ?_; clear hs; (try clear a w); intro a he
     refine T_any1 he rfl ?_; clear he; (try clear a); intro a w hs
     refine sno hs ?_; clear hs; (try clear a w); intro a w hs
     refine uon hs ?_; clear hs; (try clear a w); intro a he
     refine uno 23 he rfl ?_; clear he; (try clear a); intro a he
     refine uy (v := .bool (false)) 24 he rfl (y_pick rfl rfl) ?_; clear he; (try clear a); intro a he
     refine uy (v := .bool (false)) 25 he rfl (y_move rfl) ?_; clear he; (try clear a); intro a he
     refine uno 26 he rfl ?_; clear he; (try clear a); intro a he
     refine T_any1 he rfl ?_; clear he; (try clear a); intro a w hs
     refine sno hs ?_; clear hs; (try clear a w); intro a w hs
     refine uon hs ?_; clear hs; (try clear a w); intro a he
     refine T_any1 he rfl ?_; clear he; (try clear a); intro a w hs
     refine sno hs ?_; clear hs; (try clear a w); intro a w hs
     refine uon hs ?_; clear hs; (try clear a w); intro a he
     refine T_any1 he rfl ?_; clear he; (try clear a); intro a w hs
     refine sno hs ?_; clear hs; (try clear a w); intro a w hs
     refine uon hs ?_; clear hs; (try clear a w); intro a he
     refine T_any1 he rfl ?_; clear he; (try clear a); intro a w hs
     refine sno hs ?_; clear hs; (try clear a w); intro a w hs
     refine uon hs ?_; clear hs; (try clear a w); intro a he
     refine uno 31 he rfl ?_; clear he; (try clear a); intro a he
     refine uy (v := .bool (false)) 32 he rfl (y_pick rfl rfl) ?_; clear he; (try clear a); intro a he
     refine uy (v := .bool (false)) 33 he rfl (y_move rfl) ?_; clear he; (try clear a); intro a he
     refine uno 34 he rfl ?_; clear he; (try clear a); intro a he
     refine uno 35 he rfl ?_; clear he; (try clear a); intro a he
     refine uno 36 he rfl ?_; clear he; (try clear a); intro a he
     refine T_any1 he rfl ?_; clear he; (try clear a); intro a w hs
     refine sno hs ?_; clear hs; (try clear a w); intro a w hs
     refine uon hs ?_; clear hs; (try clear a w); intro a he
     refine T_any1 he rfl ?_; clear he; (try clear a); intro a w hs
     refine sno hs ?_; clear hs; (try clear a w); intro a w hs
     refine uon hs ?_; clear hs; (try clear a w); intro a he
     refine T_any1 he rfl ?_; clear he; (try clear a); intro a w hs
     refine sno hs ?_; clear hs; (try clear a w); intro a w hs
     refine uon hs ?_; clear hs; (try clear a w); intro a he
     refine T_any1 he rfl ?_; clear he; (try clear a); intro a w hs
     refine sno hs ?_; clear hs; (try clear a w); intro a w hs
     refine uon hs ?_; clear hs; (try clear a w); intro a he
     refine T_any1 he rfl ?_; clear he; (try clear a); intro a w hs
     refine sno hs ?_; clear hs; (try clear a w); intro a w hs
     refine uon hs ?_; clear hs; (try clear a w); intro a he
     refine uy (v := .bool (false)) 42 he rfl (y_pick rfl rfl) ?_; clear he; (try clear a); intro a he
     refine uy (v := .bool (false)) 43 he rfl (y_move rfl) ?_; clear he; (try clear a); intro a he
     refine uno 48 he rfl ?_; clear he; (try clear a); intro a he
     refine T_any1 he rfl ?_; clear he; (try clear a); intro a w hs
     refine sno hs ?_; clear hs; (try clear a w); intro a w hs
     refine uon hs ?_; clear hs; (try clear a w); intro a he
     refine T_any1 he rfl ?_; clear he; (try clear a); intro a w hs
     refine sno hs ?_; clear hs; (try clear a w); intro a w hs
     refine uon hs ?_; clear hs; (try clear a w); intro a he
     refine T_any1 he rfl ?_; clear he; (try clear a); intro a w hs
     refine sno hs ?_; clear hs; (try clear a w); intro a w hs
     refine uon hs ?_; clear hs; (try clear a w); intro a he
     refine T_any1 he rfl ?_; clear he; (try clear a); intro a w hs
     refine sno hs ?_; clear hs; (try clear a w); intro a w hs
     refine uon hs ?_; clear hs; (try clear a w); intro a he
     refine uno 49 he rfl ?_; clear he; (try clear a); intro a he
     refine uy (v := .bool (false)) 50 he rfl (y_pick rfl rfl) ?_; clear he; (try clear a); intro a he
     refine uy (v := .bool (false)) 51 he rfl (y_move rfl) ?_; clear he; (try clear a); intro a he
     refine uno 52 he rfl ?_; clear he; (try clear a); intro a he
     refine T_any1 he rfl ?_; clear he; (try clear a); intro a w hs
     refine sno hs ?_; clear hs; (try clear a w); intro a w hs
     refine uon hs ?_; clear hs; (try clear a w); intro a he
     refine T_any1 he rfl ?_; clear he; (try clear a); intro a w hs
     refine sno hs ?_; clear hs; (try clear a w); intro a w hs
     refine uon hs ?_; clear hs; (try clear a w); intro a he
     refine uy (v := .bool (false)) 55 he rfl (y_pick rfl rfl) ?_; clear he; (try clear a); intro a he
     refine uy (v := .bool (false)) 56 he rfl (y_move rfl) ?_; clear he; (try clear a); intro a he
     refine uno 57 he rfl ?_; clear he; (try clear a); intro a he
     refine uno 58 he rfl ?_; clear he; (try clear a); intro a he
     refine uy (v := .bool (false)) 59 he rfl (y_pick rfl rfl) ?_; clear he; (try clear a); intro a he
     refine uy (v := .bool (false)) 60 he rfl (y_move rfl) ?_; clear he; (try clear a); intro a he
     refine uno 61 he rfl ?_; clear he; (try clear a); intro a he
     refine uno 62 he rfl ?_; clear he; (try clear a); intro a he
     refine T_any1 he rfl ?_; clear he; (try clear a); intro a w hs
     refine sno hs ?_; clear hs; (try clear a w); intro a w hs
     refine uon hs ?_; clear hs; (try clear a w); intro a he
     refine uy (v := .bool (false)) 64 he rfl (y_pick rfl rfl) ?_; clear he; (try clear a); intro a he
     refine uy (v := .bool (false)) 65 he rfl (y_move rfl) ?_; clear he; (try clear a); intro a he
     refine T_any1 he rfl ?_; clear he; (try clear a); intro a w hs
     refine sno hs ?_; clear hs; (try clear a w); intro a w hs
     refine uon hs ?_; clear hs; (try clear a w); intro a he
     refine uy (v := .bool (false)) 67 he rfl (y_pick rfl rfl) ?_; clear he; (try clear a); intro a he
     refine uy (v := .bool (false)) 68 he rfl (y_assign rfl) ?_; clear he; (try clear a); intro a he
     refine T_nil he ?_; clear he; (try clear a); intro w hs; try clear hsD
     exact ⟨_, false, (Fz.le.refl _), hm, hs.subs ⟨rfl, trivial⟩ (.cons _ (.cons _ (.cons _ (.cons _ (.cons _ (.refl _))))))⟩
   ·clear he; have he := hq; clear hq
    replace hm := oc_f hg252 hm
    refine uno 4 he rfl ?_; clear he; (try clear a); intro a he
    refine uno 5 he rfl ?_; clear he; (try clear a); intro a he
    refine uno 6 he rfl ?_; clear he; (try clear a); intro a he
    refine uno 7 he rfl ?_; clear he; (try clear a); intro a he
    refine uy (v := .bool (false)) 8 he rfl (y_pick rfl rfl) ?_; clear he; (try clear a); intro a he
    refine uy (v := .bool (false)) 9 he rfl (y_move rfl) ?_; clear he; (try clear a); intro a he
    refine uno 10 he rfl ?_; clear he; (try clear a); intro a he
    refine T_any1 he rfl ?_; clear he; (try clear a); intro a w hs
    refine sno hs ?_; clear hs; (try clear a w); intro a w hs
    refine uon hs ?_; clear hs; (try clear a w); intro a he
    refine T_any1 he rfl ?_; clear he; (try clear a); intro a w hs
    refine sno hs ?_; clear hs; (try clear a w); intro a w hs
    refine uon hs ?_; clear hs; (try clear a w); intro a he
    refine T_any1 he rfl ?_; clear he; (try clear a); intro a w hs
    refine sno hs ?_; clear hs; (try clear a w); intro a w hs
    refine uon hs ?_; clear hs; (try clear a w); intro a he
    refine T_any1 he rfl ?_; clear he; (try clear a); intro a w hs
    refine sno hs ?_; clear hs; (try clear a w); intro a w hs
    refine uon hs ?_; clear hs; (try clear a w); intro a he
    refine T_any1 he rfl ?_; clear he; (try clear a); intro a w hs
    refine sno hs ?_; clear hs; (try clear a w); intro a w hs
    refine uon hs ?_; clear hs; (try clear a w); intro a he
    refine T_any1 he rfl ?_; clear he; (try clear a); intro a w hs
    refine sno hs ?_; clear hs; (try clear a w); intro a w hs
    refine uon hs ?_; clear hs; (try clear a w); intro a he
    refine uno 17 he rfl ?_; clear he; (try clear a); intro a he
    refine uy (v := .bool (false)) 18 he rfl (y_pick rfl rfl) ?_; clear he; (try clear a); intro a he
    refine uy (v := .bool (false)) 19 he rfl (y_move rfl) ?_; clear he; (try clear a); intro a he
    refine uno 20 he rfl ?_; clear he; (try clear a); intro a he
    refine T_any1 he rfl ?_; clear he; (try clear a); intro a w hs
    refine sno hs ?_; clear hs; (try clear a w); intro a w hs
    refine uon hs ?_; clear hs; (try clear a w); intro a he
    refine T_any1 he rfl ?_; clear he; (try clear a); intro a w hs
    refine sno hs ?_; clear hs; (try clear a w); intro a w hs
    refine uon hs ?_; clear hs; (try clear a w); intro a he
    refine uno 23 he rfl ?_; clear he; (try clear a); intro a he
    refine uy (v := .bool (false)) 24 he rfl (y_pick rfl rfl) ?_; clear he; (try clear a); intro a he
    refine uy (v := .bool (false)) 25 he rfl (y_move rfl) ?_; clear he; (try clear a); intro a he
    refine uno 26 he rfl ?_; clear he; (try clear a); intro a he
    refine T_any1 he rfl ?_; clear he; (try clear a); intro a w hs
    refine sno hs ?_; clear hs; (try clear a w); intro a w hs
    refine uon hs ?_; clear hs; (try clear a w); intro a he
    refine T_any1 he rfl ?_; clear he; (try clear a); intro a w hs
    refine sno hs ?_; clear hs; (try clear a w); intro a w hs
    refine uon hs ?_; clear hs; (try clear a w); intro a he
    refine T_any1 he rfl ?_; clear he; (try clear a); intro a w hs
    refine sno hs ?_; clear hs; (try clear a w); intro a w hs
    refine uon hs ?_; clear hs; (try clear a w); intro a he
    refine T_any1 he rfl ?_; clear he; (try clear a); intro a w hs
    refine sno hs ?_; clear hs; (try clear a w); intro a w hs
    refine uon hs ?_; clear hs; (try clear a w); intro a he
    refine uno 31 he rfl ?_; clear he; (try clear a); intro a he
    refine uy (v := .bool (false)) 32 he rfl (y_pick rfl rfl) ?_; clear he; (try clear a); intro a he
    refine uy (v := .bool (false)) 33 he rfl (y_move rfl) ?_; clear he; (try clear a); intro a he
    refine uno 34 he rfl ?_; clear he; (try clear a); intro a he
    refine uno 35 he rfl ?_; clear he; (try clear a); intro a he
    refine uno 36 he rfl ?_; clear he; (try clear a); intro a he
    refine T_any1 he rfl ?_; clear he; (try clear a); intro a w hs
    refine sno hs ?_; clear hs; (try clear a w); intro a w hs
    refine uon hs ?_; clear hs; (try clear a w); intro a he
    refine T_any1 he rfl ?_; clear he; (try clear a); intro a w hs
    refine sno hs ?_; clear hs; (try clear a w); intro a w hs
    refine uon hs ?_; clear hs; (try clear a w); intro a he
    refine T_any1 he rfl ?_; clear he; (try clear a); intro a w hs
    refine sno hs ?_; clear hs; (try clear a w); intro a w hs
    refine uon hs ?_; clear hs; (try clear a w); intro a he
    refine T_any1 he rfl ?_; clear he; (try clear a); intro a w hs
    refine sno hs ?_; clear hs; (try clear a w); intro a w hs
    refine uon hs ?_; clear hs; (try clear a w); intro a he
    refine T_any1 he rfl ?_; clear he; (try clear a); intro a w hs
    refine sno hs ?_; clear hs; (try clear a w); intro a w hs
    refine uon hs ?_; clear hs; (try clear a w); intro a he
    refine uy (v := .bool (false)) 42 he rfl (y_pick rfl rfl) ?_; clear he; (try clear a); intro a he
    refine uy (v := .bool (false)) 43 he rfl (y_move rfl) ?_; clear he; (try clear a); intro a he
    refine uno 48 he rfl ?_; clear he; (try clear a); intro a he
    refine T_any1 he rfl ?_; clear he; (try clear a); intro a w hs
    refine sno hs ?_; clear hs; (try clear a w); intro a w hs
    refine uon hs ?_; clear hs; (try clear a w); intro a he
    refine T_any1 he rfl ?_; clear he; (try clear a); intro a w hs
    refine sno hs ?_; clear hs; (try clear a w); intro a w hs
    refine uon hs ?_; clear hs; (try clear a w); intro a he
    refine T_any1 he rfl ?_; clear he; (try clear a); intro a w hs
    refine sno hs ?_; clear hs; (try clear a w); intro a w hs
    refine uon hs ?_; clear hs; (try clear a w); intro a he
    refine T_any1 he rfl ?_; clear he; (try clear a); intro a w hs
    refine sno hs ?_; clear hs; (try clear a w); intro a w hs
    refine uon hs ?_; clear hs; (try clear a w); intro a he
    refine uno 49 he rfl ?_; clear he; (try clear a); intro a he
    refine uy (v := .bool (false)) 50 he rfl (y_pick rfl rfl) ?_; clear he; (try clear a); intro a he
    refine uy (v := .bool (false)) 51 he rfl (y_move rfl) ?_; clear he; (try clear a); intro a he
    refine uno 52 he rfl ?_; clear he; (try clear a); intro a he
    refine T_any1 he rfl ?_; clear he; (try clear a); intro a w hs
    refine sno hs ?_; clear hs; (try clear a w); intro a w hs
    refine uon hs ?_; clear hs; (try clear a w); intro a he
    refine T_any1 he rfl ?_; clear he; (try clear a); intro a w hs
    refine sno hs ?_; clear hs; (try clear a w); intro a w hs
    refine uon hs ?_; clear hs; (try clear a w); intro a he
    refine uy (v := .bool (false)) 55 he rfl (y_pick rfl rfl) ?_; clear he; (try clear a); intro a he
    refine uy (v := .bool (false)) 56 he rfl (y_move rfl) ?_; clear he; (try clear a); intro a he
    refine uno 57 he rfl ?_; clear he; (try clear a); intro a he
    refine uno 58 he rfl ?_; clear he; (try clear a); intro a he
    refine uy (v := .bool (false)) 59 he rfl (y_pick rfl rfl) ?_; clear he; (try clear a); intro a he
    refine uy (v := .bool (false)) 60 he rfl (y_move rfl) ?_; clear he; (try clear a); intro a he
    refine uno 61 he rfl ?_; clear he; (try clear a); intro a he
    refine uno 62 he rfl ?_; clear he; (try clear a); intro a he
    refine T_any1 he rfl ?_; clear he; (try clear a); intro a w hs
    refine sno hs ?_; clear hs; (try clear a w); intro a w hs
    refine uon hs ?_; clear hs; (try clear a w); intro a he
    refine uy (v := .bool (false)) 64 he rfl (y_pick rfl rfl) ?_; clear he; (try clear a); intro a he
    refine uy (v := .bool (false)) 65 he rfl (y_move rfl) ?_; clear he; (try clear a); intro a he
    refine T_any1 he rfl ?_; clear he; (try clear a); intro a w hs
    refine sno hs ?_; clear hs; (try clear a w); intro a w hs
    refine uon hs ?_; clear hs; (try clear a w); intro a he
    refine uy (v := .bool (false)) 67 he rfl (y_pick rfl rfl) ?_; clear he; (try clear a); intro a he
    refine uy (v := .bool (false)) 68 he rfl (y_assign rfl) ?_; clear he; (try clear a); intro a he
    refine T_nil he ?_; clear he; (try clear a); intro w hs; try clear hsD
    exact ⟨_, false, (Fz.le.refl _), hm, hs.subs ⟨rfl, trivial⟩ (.cons _ (.cons _ (.cons _ (.cons _ (.cons _ (.refl _))))))⟩
 ·clear hs hm; (try clear w)
  rintro c f929 D931 _ w hf930 hD0 hD hX hs
  replace hM := Marks.cons hM hle hf930 hD0 hD; clear hD0 hD
  exact hX.elim
end Go.Proofs.YtmkcglpeidbblaaDoor
