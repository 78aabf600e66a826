/-
  Walks and laws of this seat.
-/
import Derived.Test.YtdjjeahiomackaaGreatBash
import Derived.Test.YtdjjeahiomackaaGreatT6
import Derived.Test.YtdjjeahiomackaaGreatRows
namespace Go.Proofs.YtdjjeahiomackaaGreat
set_option linter.unusedVariables false
set_option linter.unusedSimpArgs false
set_option linter.unusedSectionVars false
set_option maxHeartbeats 4000000
set_option maxRecDepth 100000
open Go.RowKit Go.Sl
def zh6 (y25 : (List zah)) : Option zab :=
  some ({Nodes := y25} : zab)
def zdi (p0 : zab) : Nat → (List zah) → Int → Option zab
  | 0, _, _ => none
  | k42 + 1, y36, y41 =>
  (bif (decide (y41 < (p0.Nodes.length : Int))) then (geti p0.Nodes y41).bind fun x46 =>
  (geti y36 y41).bind fun x58 =>
  (seti y36 y41 x46).bind fun x70 =>
  (geti p0.Nodes y41).bind fun x76 =>
  (appM 32 ([] : List zaj) x76.Attrs).bind fun x94 =>
  (geti x70 y41).bind fun x101 =>
  (seti x70 y41 ({x101 with Attrs := x94} : zah)).bind fun x127 =>
  (zdi p0 k42) x127 (w64 (y41 + 1)) else
  zh6 y36)
def ziw (n : Nat) (p0 : zab) : Option zab :=
  (repM 104 (p0.Nodes.length : Int) ({Kind := (0 : Int), Name := (bs []), Text := (bs []), Attrs := ([] : (List zaj)), Parent := (0 : Int), First := (0 : Int), Last := (0 : Int), Prev := (0 : Int), Next := (0 : Int)} : zah)).bind fun x11 =>
  zdi p0 n x11 0
theorem zqu (n : Nat) {f : Fz} {p0 : zab} {a0 : List Value} {res : zab} (h0 : zdk.R f a0 p0) (hm : ziw n p0 = some res) : Does Tryz.prog 8 [.agg a0.toArray] f [] (fun r f' L' => ∃ (u0 : List Value), L' = [] ∧ r = .agg u0.toArray ∧ zdk.R f' u0 res) := by
 unfold ziw at hm
 intro w0 L w hC
 obtain ⟨v1, rfl, ⟨rw2, hR3, hW4⟩⟩ := h0
 refine enter Tryz.func8 rfl Tryz.ntmps8 (by simp) hC fun a hs => ?_
 have hle := Fz.le.refl f
 refine Wq fun hK1 => sbox hs rfl fun b6 _ _ hs => zcf hs ti30 (.free rfl) (by decide) fun b8 _ _ hs => za1 <| hK1 <| Wq fun hK2 => s1 (v := .pointer (some ⟨b6,0, none⟩)) hs (za2 rfl (FO.of (off := 0) Tryz.underlying30 rfl rfl ti28 (by decide))) fun hs => s1 (v := v1) hs (y_ld rfl Tryz.underlying28 rfl (Cell.blk (.tail _ (.head _)) rfl)) fun hs => ?_
 refine s1 hs (zdx hR3 hW4 rfl Tryz.underlying28) fun hs => ?_
 obtain ⟨x11, hx12, hm⟩ := ob hm
 obtain ⟨hix11, hbx11, hex11⟩ := zqf hx12
 refine zq5 hs rfl rfl hix11 Tryz.underlying28 ti42 (by decide) (AllC.row ⟨rfl, rfl, rfl, rfl, rfl, rfl, rfl, rfl, rfl, trivial⟩ rfl) hbx11 fun v13 _ _ hs => ?_
 replace hs : St _ _ _ (.row v13 42 9 (List.replicate (p0.Nodes.length : Int).toNat ([.int .i64 (0), .string ((bs [])), .string ((bs [])),(.slice none 0 0), .int .i64 (0), .int .i64 (0), .int .i64 (0), .int .i64 (0), .int .i64 (0)] : List Value)) :: .blk b8 (.cells #[(.slice none 0 0)] 30 (0,0)) :: .blk b6 (.cells #[v1] 30 (0,0)) :: L) _ _ _ := hs
 have hW15 : RW zba f (List.replicate (p0.Nodes.length : Int).toNat ([.int .i64 (0), .string ((bs [])), .string ((bs [])),(.slice none 0 0), .int .i64 (0), .int .i64 (0), .int .i64 (0), .int .i64 (0), .int .i64 (0)] : List Value)) x11 := by rw [← hex11]; exact RW.rep (t := zba) (r := [.int .i64 (0), .string ((bs [])), .string ((bs [])),(.slice none 0 0), .int .i64 (0), .int .i64 (0), .int .i64 (0), .int .i64 (0), .int .i64 (0)]) (⟨_, rfl, RS.nil⟩) _
 generalize hgx11 : (List.replicate (p0.Nodes.length : Int).toNat ([.int .i64 (0), .string ((bs [])), .string ((bs [])),(.slice none 0 0), .int .i64 (0), .int .i64 (0), .int .i64 (0), .int .i64 (0), .int .i64 (0)] : List Value)) = rw14 at hs hW15; clear hgx11
 replace hs : St _ _ _ (.row v13 42 9 rw14 :: .blk b8 (.cells #[(.slice none 0 0)] 30 (0,0)) :: .blk b6 (.cells #[v1] 30 (0,0)) :: L) _ _ _ := hs
 refine s1 hs (zde (places := [(0,1)]) (cs := [v13]) rfl Tryz.underlying30 ti30 (by kernel_rfl) (by decide) rfl ⟨(hs.one (i := 0) rfl), trivial⟩) fun hs => zcf hs ti30 (.free rfl) (by decide) fun b20 _ _ hs => ?_
 replace hs : St _ _ _ (.blk b20 (.cells #[(.slice none 0 0)] 30 (0,0)) :: .row v13 42 9 rw14 :: .blk b8 (.cells #[(.slice none 0 0)] 30 (0,0)) :: .blk b6 (.cells #[v1] 30 (0,0)) :: L) _ _ _ := hs
 refine zb1 (i := 0) hs rfl rfl rfl ti30 ⟨rfl, rfl⟩ (AllC.arr (r := [v13]) ⟨(hs.one (i := 1) rfl), trivial⟩) (.free rfl) fun _ _ hs => ?_
 replace hs : St _ _ _ (.blk b20 (.cells #[v13] 30 (0,0)) :: .row v13 42 9 rw14 :: .blk b8 (.cells #[(.slice none 0 0)] 30 (0,0)) :: .blk b6 (.cells #[v1] 30 (0,0)) :: L) _ _ _ := hs
 refine za1 <| hK2 <| Ws fun hK3 => Wq fun hK4 => sA hs rfl fun hs => za1 <| hK4 ?_
 have hbase30 := Fz.le.refl f
 refine zaw (fun a w => ∃ (f23 : Fz) (y25 : (List zah)) (v26 : Value) (rw27 : List (List Value)), Fz.le f f23 ∧ zh6 y25 = some res ∧ RW zba f23 rw27 y25 ∧ St 40 w0 f23 (.blk b20 (.cells #[v26] 30 (0,0)) :: .row v26 42 9 rw27 :: .blk b8 (.cells #[(.slice none 0 0)] 30 (0,0)) :: L) [(2, .pointer (some ⟨b8,0, none⟩)),(3, .pointer (some ⟨b20,0, none⟩))] a w) ?_ ?_
 ·clear hs hm
  clear hbase30
  rintro a w ⟨f23, y25, v26, rw27, hl24, hm, hW28, hs⟩
  replace hle := hle.trans hl24
  replace hs : St _ _ _ (.blk b20 (.cells #[v26] 30 (0,0)) :: .row v26 42 9 rw27 :: .blk b8 (.cells #[(.slice none 0 0)] 30 (0,0)) :: L) _ _ _ := hs
  unfold zh6 at hm
  refine hK3 <| Wq fun hK5 => s1 hs (zl8 rfl Tryz.underlying30 rfl ti30 (.head _) rfl) fun hs => zb1 (i := 2) hs rfl rfl rfl ti30 ⟨rfl, rfl⟩ (AllC.arr (r := [v26]) ⟨(hs.one (i := 1) rfl), trivial⟩) (.free rfl) fun _ _ hs => ?_
  replace hs : St _ _ _ (.blk b20 (.cells #[v26] 30 (0,0)) :: .row v26 42 9 rw27 :: .blk b8 (.cells #[v26] 30 (0,0)) :: L) _ _ _ := hs
  refine za1 <| hK5 <| zbl ?_
  obtain ⟨f31, hf32, hs2, hR33⟩ := hs.frzAt 1 rfl
  clear hs; have hs := hs2; clear hs2
  replace hW28 := hW28.le hf32
  replace hle := hle.trans hf32
  replace hs : St _ _ _ (.blk b20 (.cells #[v26] 30 (0,0)) :: .blk b8 (.cells #[v26] 30 (0,0)) :: L) _ _ _ := hs
  obtain rfl := Option.some.inj hm
  refine RtV1 hs rfl (rv_a hs rfl Tryz.underlying30 rfl ti30 (fun j u hj => Cell.blk (.tail _ (.head _)) hj) rfl) ?_
  exact ⟨_, f31,[], rfl, hle,(hs.subL (.cons _ (.cons _ (.refl _)))).cw,[v26], rfl, rfl, ⟨_, rfl, ⟨rw27, hR33, hW28⟩⟩⟩
 refine zaq fun Qe6 hB6 hO6 => ?_
 have hbase := Fz.le.refl f
 replace hs : St _ _ _ (.blk b20 (.cells #[v13] 30 (0,0)) :: .row v13 42 9 rw14 :: .blk b8 (.cells #[(.slice none 0 0)] 30 (0,0)) :: .blk b6 (.cells #[v1] 30 (0,0)) :: L) _ _ _ := hs
 refine zeq (fun (k : Nat) a w => ∃ (f34 : Fz) (y36 : (List zah)) (y41 : Int) (v37 : Value) (rw38 : List (List Value)), Fz.le f f34 ∧ zdi p0 k y36 y41 = some res ∧ RW zba f34 rw38 y36 ∧ St 40 w0 f34 (.blk b20 (.cells #[v37] 30 (0,0)) :: .row v37 42 9 rw38 :: .blk b8 (.cells #[(.slice none 0 0)] 30 (0,0)) :: .blk b6 (.cells #[v1] 30 (0,0)) :: L) [(1, .pointer (some ⟨b6,0, none⟩)),(2, .pointer (some ⟨b8,0, none⟩)),(3, .pointer (some ⟨b20,0, none⟩)),(4, .int .i64 (y41))] a w) (fun k => k) n ⟨_, x11,0, v13, rw14,(Fz.le.refl _), hm, hW15, hs.sub ⟨rfl, rfl, rfl, rfl, trivial⟩⟩ ?_
 clear hs hm
 intro k
 rintro a w ⟨f34, y36, y41, v37, rw38, hl35, hm, hW39, hs⟩
 replace hR3 := hR3.le hl35
 replace hW4 := hW4.le hl35
 replace hbase30 := hbase30.trans hl35
 intro K7 hK7
 cases k with
 | zero => simp [zdi] at hm
 | succ k42 =>
  rw [zdi] at hm
  have hbase43 := hl35
  refine Ws fun hK8 => Wq fun hK9 => sM hs rfl fun hs => s1 (v := .pointer (some ⟨b6,0, none⟩)) hs (za2 rfl (FO.of (off := 0) Tryz.underlying30 rfl rfl ti28 (by decide))) fun hs => s1 (v := v1) hs (y_ld rfl Tryz.underlying28 rfl (Cell.blk (.tail _ (.tail _ (.tail _ (.head _)))) rfl)) fun hs => s1 hs (zdx hR3 hW4 rfl Tryz.underlying28) fun hs => s1 hs (zib rfl rfl) fun hs => za1 <| hK9 ?_
  refine zai hs rfl (fun hg44 => ?_) (fun hg44 => ?_)
  ·replace hm := oc_t hg44 hm
   refine zal <| hK8 <| Ws fun hK10 => zaq fun Qe11 hB11 hO11 => Ws fun hK12 => ?_
   have hsD := hs.subL (L' := .blk b20 (.cells #[v37] 30 (0,0)) :: .row v37 42 9 rw38 :: .blk b6 (.cells #[v1] 30 (0,0)) :: []) (.cons_cons _ (.cons_cons _ (.cons _ (.cons_cons _ (List.nil_sublist _)))))
   have hbd45 := Fz.le.refl f34
   refine zgw hs (.blk b20 (.cells #[v37] 30 (0,0)) :: .row v37 42 9 rw38 :: .blk b6 (.cells #[v1] 30 (0,0)) :: []) [9] (.look 0 (.look 1 (.look 2 (.look 3 (.look 4 (.look 5 (.look 6 (.look 7 (.look 8 (.any [9] (fun _ => .done))))))))))) mixed (by kernel_rfl) fun _ he => uy (v := .pointer (some ⟨b20,0, none⟩)) 0 he rfl (za2 rfl (FO.of (off := 0) Tryz.underlying30 rfl rfl ti28 (by decide))) fun _ he => uy (v := v37) 1 he rfl (y_ld rfl Tryz.underlying28 rfl (Cell.blk (.head _) rfl)) fun _ he => uy (v := .int .i64 (y41)) 2 he rfl (za9 rfl) fun _ he => uy (v := .pointer (some ⟨b6,0, none⟩)) 3 he rfl (za2 rfl (FO.of (off := 0) Tryz.underlying30 rfl rfl ti28 (by decide))) fun _ he => uy (v := v1) 4 he rfl (y_ld rfl Tryz.underlying28 rfl (Cell.blk (.tail _ (.tail _ (.head _))) rfl)) fun _ he => uy (v := .int .i64 (y41)) 5 he rfl (za9 rfl) fun _ he => ?_
   obtain ⟨x46, hx47, hm⟩ := ob hm
   obtain ⟨r48, hr49, hq50, hi51, hb52⟩ := hW4.geti hx47
   obtain ⟨v53, rfl, ⟨rw54, hR55, hW56⟩⟩ := hq50
   refine uy 6 he rfl (zac hR3 rfl rfl hi51 hb52 Tryz.underlying28 ti42) fun _ he => uy 7 he rfl (zjl hR3.up rfl hr49 Tryz.underlying42 rfl ti42) fun _ he => ?_
   obtain ⟨x58, hx59, hm⟩ := ob hm
   obtain ⟨r60, hr61, hq62, hi63, hb64⟩ := hW39.geti hx59
   obtain ⟨v65, rfl, ⟨rw66, hR67, hW68⟩⟩ := hq62
   refine uy 8 he rfl (zac (Rd.st hsD (.tail _ (.head _))) rfl rfl hi63 hb64 Tryz.underlying28 ti42) fun _ he => ?_
   refine zcm he rfl ?_; clear he; (try clear a); intro a w hs
   obtain ⟨x70, hx71, hm⟩ := ob hm
   have hex70 := zhz hx71
   have hW73 := RW.set (i := y41.toNat) (r := [.int .i64 (x46.Kind), .string (x46.Name), .string (x46.Text), v53, .int .i64 (x46.Parent), .int .i64 (x46.First), .int .i64 (x46.Last), .int .i64 (x46.Prev), .int .i64 (x46.Next)]) (x := (x46 : zah)) hW39 (⟨_, rfl, ⟨rw54, hR55, hW56⟩⟩); rw [hex70] at hW73
   refine zhb (i := 1) (m := y41.toNat) (r' := [.int .i64 (x46.Kind), .string (x46.Name), .string (x46.Text), v53, .int .i64 (x46.Parent), .int .i64 (x46.First), .int .i64 (x46.Last), .int .i64 (x46.Prev), .int .i64 (x46.Next)]) hs rfl rfl rfl hr61 ti42 (AllC.row ⟨rfl, rfl, rfl, hR55.one, rfl, rfl, rfl, rfl, rfl, trivial⟩ rfl) (.free rfl) fun _ _ hs => ?_
   replace hs : St _ _ _ (.blk b20 (.cells #[v37] 30 (0,0)) :: .row v37 42 9 (rw38.set y41.toNat [.int .i64 (x46.Kind), .string (x46.Name), .string (x46.Text), v53, .int .i64 (x46.Parent), .int .i64 (x46.First), .int .i64 (x46.Last), .int .i64 (x46.Prev), .int .i64 (x46.Next)]) :: .blk b8 (.cells #[(.slice none 0 0)] 30 (0,0)) :: .blk b6 (.cells #[v1] 30 (0,0)) :: L) _ _ _ := hs
   generalize hgrw72 : rw38.set y41.toNat [.int .i64 (x46.Kind), .string (x46.Name), .string (x46.Text), v53, .int .i64 (x46.Parent), .int .i64 (x46.First), .int .i64 (x46.Last), .int .i64 (x46.Prev), .int .i64 (x46.Next)] = rw72 at hs hW73; clear hgrw72
   refine uend hs fun _ he => ?_
   refine zl6 he ?_; clear he; (try clear a); intro w hs; try clear hsD
   refine hK12 ?_
   have hsD := hs.subL (L' := .blk b20 (.cells #[v37] 30 (0,0)) :: .row v37 42 9 rw72 :: .blk b6 (.cells #[v1] 30 (0,0)) :: []) (.cons_cons _ (.cons_cons _ (.cons _ (.cons_cons _ (List.nil_sublist _)))))
   have hbd75 := Fz.le.refl f34
   refine zgw hs (.blk b20 (.cells #[v37] 30 (0,0)) :: .row v37 42 9 rw72 :: .blk b6 (.cells #[v1] 30 (0,0)) :: []) [13] (.look 0 (.look 1 (.look 2 (.look 4 (.look 5 (.look 6 (.look 7 (.look 8 (.look 9 (.any [3] (fun _ => .any [10] (fun _ => .look 11 (.look 12 (.any [13] (fun _ => .done))))))))))))))) mixed (by kernel_rfl) fun _ he => uy (v := .pointer (some ⟨b20,0, none⟩)) 0 he rfl (za2 rfl (FO.of (off := 0) Tryz.underlying30 rfl rfl ti28 (by decide))) fun _ he => uy (v := v37) 1 he rfl (y_ld rfl Tryz.underlying28 rfl (Cell.blk (.head _) rfl)) fun _ he => uy (v := .int .i64 (y41)) 2 he rfl (za9 rfl) fun _ he => uy (v := .pointer (some ⟨b6,0, none⟩)) 4 he rfl (za2 rfl (FO.of (off := 0) Tryz.underlying30 rfl rfl ti28 (by decide))) fun _ he => uy (v := v1) 5 he rfl (y_ld rfl Tryz.underlying28 rfl (Cell.blk (.tail _ (.tail _ (.head _))) rfl)) fun _ he => uy (v := .int .i64 (y41)) 6 he rfl (za9 rfl) fun _ he => ?_
   obtain ⟨x76, hx77, hm⟩ := ob hm
   obtain ⟨r78, hr79, hq80, hi81, hb82⟩ := hW4.geti hx77
   obtain ⟨v83, rfl, ⟨rw84, hR85, hW86⟩⟩ := hq80
   refine uy 7 he rfl (zac hR3 rfl rfl hi81 hb82 Tryz.underlying28 ti42) fun _ he => uy (v := eaddr v1 9 y41.toNat 3) 8 he rfl (zc9 (i := y41.toNat) (j := 0) hR3 rfl hb82 (FO.of (off := 3) Tryz.underlying42 rfl rfl ti25 (by decide))) fun _ he => uy (v := v83) 9 he rfl (zdm (i := y41.toNat) (j := 3) hR3.up rfl hr79 rfl Tryz.underlying25 rfl) fun _ he => ?_
   refine zcm he rfl ?_; clear he; (try clear a); intro a w hs
   refine zo1 hs Tryz.underlying25 ti38 fun v88 _ _ hs => ?_
   have hW89 : RW zb4 f34 [] ([] : List zaj) := trivial
   generalize hgrw90 : ([] : List (List Value)) = rw90 at hs hW89; clear hgrw90
   have ho93 : v88.oneCell' = true := hs.one (i := 0) rfl
   refine uon hs fun _ he => ?_
   refine zcm he rfl ?_; clear he; (try clear a); intro a w hs
   obtain ⟨x94, hx95, hm⟩ := ob hm
   obtain ⟨hbx94, hex94⟩ := zce hx95
   have hW98 := hW89.append hW86; rw [hex94] at hW98
   refine zcn (i := 0) hs rfl rfl rfl hR85.up Tryz.underlying25 ti38 (by decide) (by rw [RW.len hW89, RW.len hW86]; exact hbx94) (.free rfl) (by decide) fun v96 _ _ hs => ?_
   generalize hgx94 : rw90 ++ rw84 = rw97 at hs hW98; clear hgx94
   have ho100 : v96.oneCell' = true := hs.one (i := 0) rfl
   refine uon hs fun _ he => ?_
   obtain ⟨x101, hx102, hm⟩ := ob hm
   obtain ⟨r103, hr104, hq105, hi106, hb107⟩ := hW73.geti hx102
   obtain ⟨v108, rfl, ⟨rw109, hR110, hW111⟩⟩ := hq105
   refine uy 11 he rfl (zac (Rd.st hsD (.tail _ (.head _))) rfl rfl hi106 hb107 Tryz.underlying28 ti42) fun _ he => uy (v := eaddr v37 9 y41.toNat 3) 12 he rfl (zc9 (i := y41.toNat) (j := 0) (Rd.st hsD (.tail _ (.head _))) rfl hb107 (FO.of (off := 3) Tryz.underlying42 rfl rfl ti25 (by decide))) fun _ he => ?_
   refine zcm he rfl ?_; clear he; (try clear a); intro a w hs
   obtain ⟨f113, hf114, hs2, hR115⟩ := hs.frzAt 0 rfl
   clear hs; have hs := hs2; clear hs2
   have hR116 := hR3.le hf114
   have hW117 := hW4.le hf114
   have hR118 := hR55.le hf114
   have hW119 := hW56.le hf114
   have hW120 := hW73.le hf114
   have hR121 := hR85.le hf114
   have hW122 := hW86.le hf114
   have hW123 := hW89.le hf114
   have hW124 := hW98.le hf114
   have hR125 := hR110.le hf114
   have hW126 := hW111.le hf114
   replace hbase43 := hbase43.trans hf114
   obtain ⟨x127, hx128, hm⟩ := ob hm
   have hex127 := zhz hx128
   have hW130 := RW.set (i := y41.toNat) (r := [.int .i64 (x101.Kind), .string (x101.Name), .string (x101.Text), v96, .int .i64 (x101.Parent), .int .i64 (x101.First), .int .i64 (x101.Last), .int .i64 (x101.Prev), .int .i64 (x101.Next)]) (x := (({x101 with Attrs := x94} : zah) : zah)) hW120 (⟨_, rfl, ⟨rw97, hR115, hW124⟩⟩); rw [hex127] at hW130
   refine zf6 (i := 1) (j := 3) (m := y41.toNat) hs rfl rfl rfl hr104 (by decide) ti25 ho100 (.free rfl) fun _ _ hs => ?_
   replace hs : St _ _ _ (.blk b20 (.cells #[v37] 30 (0,0)) :: .row v37 42 9 (rw72.set y41.toNat [.int .i64 (x101.Kind), .string (x101.Name), .string (x101.Text), v96, .int .i64 (x101.Parent), .int .i64 (x101.First), .int .i64 (x101.Last), .int .i64 (x101.Prev), .int .i64 (x101.Next)]) :: .blk b8 (.cells #[(.slice none 0 0)] 30 (0,0)) :: .blk b6 (.cells #[v1] 30 (0,0)) :: L) _ _ _ := hs
   generalize hgrw129 : rw72.set y41.toNat [.int .i64 (x101.Kind), .string (x101.Name), .string (x101.Text), v96, .int .i64 (x101.Parent), .int .i64 (x101.First), .int .i64 (x101.Last), .int .i64 (x101.Prev), .int .i64 (x101.Next)] = rw129 at hs hW130; clear hgrw129
   refine uend hs fun _ he => ?_
   refine zl6 he ?_; clear he; (try clear a); intro w hs; try clear hsD
   refine hK10 <| za5 <| sM hs rfl fun hs => s1 hs (zgh rfl rfl rfl) fun hs => sA hs rfl fun hs => za1 ?_
   exact hK7 k42 _ _ (Nat.lt_succ_self _) ⟨_, x127,(w64 (y41 + 1)), v37, rw129, hbase43, hm, hW130, hs.sub ⟨rfl, rfl, rfl, rfl, trivial⟩⟩
  replace hm := oc_f hg44 hm
  refine ze7 <| hB6 _ _ ?_
  exact ⟨_, y36, v37, rw38, hbase30, hm, hW39, hs.subs ⟨rfl, rfl, trivial⟩ (.cons_cons _ (.cons_cons _ (.cons_cons _ (.cons _ (.refl _)))))⟩
end Go.Proofs.YtdjjeahiomackaaGreat
