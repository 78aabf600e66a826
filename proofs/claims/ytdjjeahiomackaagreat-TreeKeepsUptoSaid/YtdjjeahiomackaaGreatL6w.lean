/-
  Walks and laws of this seat.
-/
import Derived.Test.YtdjjeahiomackaaGreatBash
import Derived.Test.YtdjjeahiomackaaGreatL6v
import Derived.Test.YtdjjeahiomackaaGreatL6dm
import Derived.Test.YtdjjeahiomackaaGreatRows
namespace Go.Proofs.YtdjjeahiomackaaGreat
set_option linter.unusedVariables false
set_option linter.unusedSimpArgs false
set_option linter.unusedSectionVars false
set_option maxHeartbeats 4000000
set_option maxRecDepth 100000
open Go.RowKit Go.Sl
def zfy (n : Nat) (y28 : (List Int)) (y33 : Int) (y34 : Bool) (y35 : (List za0)) : Option (zad × Int) :=
  (bif y34 then some (({Nodes := ([] : List zal)} : zad),5) else
  (zdd n (([] : List za0).length : Int) y35).bind fun x43 =>
  (zls n x43).bind fun x59 =>
  some (x59.1, x59.2))
def zf3 (y79 : Int) (lp85 : (List Int) → Int → Bool → Int → (List za0) → Option (zad × Int)) (y105 : (List Int)) (y110 : Int) (y111 : Bool) (y112 : (List za0)) : Option (zad × Int) :=
  (bif (decide (4096 < y110)) then some (({Nodes := ([] : List zal)} : zad),4) else
  lp85 y105 y110 y111 (w64 (y79 + 1)) y112)
def zfx (y79 : Int) (lp85 : (List Int) → Int → Bool → Int → (List za0) → Option (zad × Int)) (y123 : (List Int)) (y128 : Int) (y129 : Bool) (y130 : (List za0)) : Option (zad × Int) :=
  zf3 y79 lp85 y123 y128 y129 y130
def zfw (y79 : Int) (lp85 : (List Int) → Int → Bool → Int → (List za0) → Option (zad × Int)) (y148 : (List Int)) (y153 : Int) (y154 : Bool) (y155 : (List za0)) : Option (zad × Int) :=
  zf3 y79 lp85 y148 y153 y154 y155
def zfv (y79 : Int) (lp85 : (List Int) → Int → Bool → Int → (List za0) → Option (zad × Int)) (y173 : (List Int)) (y178 : Int) (y179 : Bool) (y180 : (List za0)) : Option (zad × Int) :=
  zfw y79 lp85 y173 y178 y179 y180
def zb1 (n : Nat) (p0 : (List za4)) : Nat → (List Int) → Int → Bool → Int → (List za0) → Option (zad × Int)
  | 0, _, _, _, _, _ => none
  | k85 + 1, y72, y77, y78, y79, y80 =>
  (bif (decide (y79 < (p0.length : Int))) then (geti p0 y79).bind fun x88 =>
  (bif (decide (x88.Kind = 1)) then (bif (decide (x88.Text ≠ (bs []))) then (zdt n ({open_ := y72, count := y77, deep := y78} : za2) x88.Text y80).bind fun x137 =>
  zfx y79 (zb1 n p0 k85) x137.1.open_ x137.1.count x137.1.deep x137.2 else
  zfx y79 (zb1 n p0 k85) y72 y77 y78 y80) else
  (bif (decide (x88.Kind = 2)) then (zct n ({open_ := y72, count := y77, deep := y78} : za2) x88.Name x88.Attrs y80).bind fun x162 =>
  zfw y79 (zb1 n p0 k85) x162.1.open_ x162.1.count x162.1.deep x162.2 else
  (bif (decide (x88.Kind = 3)) then (zdi n ({open_ := y72, count := y77, deep := y78} : za2) x88.Name y80).bind fun x187 =>
  zfv y79 (zb1 n p0 k85) x187.1.open_ x187.1.count x187.1.deep x187.2 else
  zfv y79 (zb1 n p0 k85) y72 y77 y78 y80))) else
  zfy n y72 y77 y78 y80)
def zhg (n : Nat) (p0 : (List za4)) : Option (zad × Int) :=
  zb1 n p0 n [(([] : List za0).length : Int)] 1 false 0 (([] : List za0) ++ [({name := (bs [114,111,111,116]), text := (bs []), attrs := ([] : List zam), above := (-1 : Int), kids := ([] : List Int)} : za0)])
theorem zl9 (n : Nat) {f : Fz} {p0 : (List za4)} {a0 : Value} {res : (zad × Int)} (h0 : RS zaf f a0 p0) (hm : zhg n p0 = some res) : Does Tryz.prog 7 [a0] f [] (fun r f' L' => ∃ (u0 : List Value), L' = [] ∧ r = .tuple #[.agg u0.toArray, .int .i64 res.2] ∧ zih.R f' u0 res.1) := by
 unfold zhg at hm
 intro w0 L0 w hC
 have hA : ∃ ab L, AR nsh f ab [] [] L0 L ∧ Cw w0 f ([] ++ L) w := ⟨[], L0, AR.nil, hC⟩; clear hC; obtain ⟨ab, L, hA, hC⟩ := hA
 replace hC : Cw w0 f (L) w := hC
 obtain ⟨rw1, hR2, hW3⟩ := h0
 refine enter Tryz.func7 rfl Tryz.ntmps7 (by simp) hC fun a hs => ?_
 have hle := Fz.le.refl f
 refine Wq fun hK1 => zd3 hs ti30 (.free rfl) (by decide) fun b5 _ _ hs => sA hs rfl fun hs => za1 <| hK1 <| Wq fun hK2 => s1 hs (zea (places := [(0,1),(1,1),(2,1),(3,1),(4,1)]) (cs := [.string ((bs [114,111,111,116])), .string ((bs [])),(.slice none 0 0), .pointer none,(.slice none 0 0)]) rfl Tryz.underlying52 ti52 (by kernel_rfl) (by decide) rfl ⟨rfl, trivial⟩) fun hs => sbox hs rfl fun b10 _ _ hs => ?_
 replace hs := hs.nilRow 49 1
 have hW12 : RW (tP ab) f [] ([] : List Int) := trivial
 generalize hgrw13 : ([] : List (List Value)) = rw13 at hs hW12; clear hgrw13
 replace hs := hs.front 0
 replace hs := hs.front 1
 have hq9 := AR.adopt (b := b10) (x := ({name := (bs [114,111,111,116]), text := (bs []), attrs := ([] : List zam), above := (-1 : Int), kids := ([] : List Int)} : za0)) [.blk b5 (.cells #[(.slice none 0 0)] 30 (0,0))] hA hs (⟨(.slice none 0 0), .pointer none,(.slice none 0 0), rw13, rfl, RS.nil, RP.nil, hW12.grow (List.prefix_append _ _)⟩); clear hs hA
 obtain ⟨ab, L, hbg16, hA, hp17, hs⟩ := hq9
 refine sA hs rfl fun hs => za1 <| hK2 <| Wq fun hK3 => sM hs rfl fun hs => zh8 hs rfl Tryz.underlying50 ti49 rfl rfl fun v18 _ _ hs => ?_
 have hW19 : RW (tP ab) f [[.pointer (some ⟨b10,0, none⟩)]] [(([] : List za0).length : Int)] := RW.single (⟨_, rfl, hp17⟩)
 generalize hgrw20 : ([[.pointer (some ⟨b10,0, none⟩)]] : List (List Value)) = rw20 at hs hW19; clear hgrw20
 refine s1 hs (zea (places := [(0,1),(1,1),(2,1)]) (cs := [v18, .int .i64 (1), .bool (false)]) rfl Tryz.underlying55 ti55 (by kernel_rfl) (by decide) rfl ⟨(hs.one (i := 0) rfl), rfl, trivial⟩) fun hs => sbox hs rfl fun b24 _ _ hs => sA hs rfl fun hs => za1 <| hK3 <| Ws fun hK4 => Wq fun hK5 => sM hs rfl fun hs => s1 hs (ze4 hR2 hW3 rfl Tryz.underlying22) fun hs => ?_
 refine sM hs rfl fun hs => za1 <| hK5 ?_
 have hbase36 := Fz.le.refl f
 obtain ⟨bK37, hbE38⟩ : ∃ z, z = ab := ⟨_, rfl⟩
 have hbb39 : bK37 <+: ab := by rw [hbE38]; exact List.prefix_refl _
 refine zay (fun a w => ∃ (f26 : Fz) (L : List Ent) (ab : List Nat) (y28 : (List Int)) (y33 : Int) (y34 : Bool) (y35 : (List za0)) (v29 : Value) (rw30 : List (List Value)), Fz.le f f26 ∧ bK37 <+: ab ∧ AR nsh f26 ab y35 [] L0 L ∧ zfy n y28 y33 y34 y35 = some res ∧ RW (tP ab) f26 rw30 y28 ∧ St 62 w0 f26 (.blk b24 (.cells #[v29, .int .i64 (y33), .bool (y34)] 55 (0,0)) :: .row v29 49 1 rw30 :: .blk b5 (.cells #[(.slice none 0 0)] 30 (0,0)) :: L) [(2, .pointer (some ⟨b5,0, none⟩)),(4, .pointer (some ⟨b10,0, none⟩)),(5, .pointer (some ⟨b24,0, none⟩))] a w) ?_ ?_
 ·clear hs hm
  clear hbase36
  clear hA
  rintro a w ⟨f26, L, ab, y28, y33, y34, y35, v29, rw30, hl27, hbx40, hA, hm, hW31, hs⟩
  have hbb39 := hbx40; rw [hbE38] at hbx40
  replace hp17 := hp17.grow hbx40
  replace hle := hle.trans hl27
  unfold zfy at hm
  refine hK4 <| Ws fun hK6 => Wq fun hK7 => sM hs rfl fun hs => s1 hs (za6 rfl) fun hs => s1 (v := .pointer (some ⟨b24,2, none⟩)) hs (za3 rfl (FO.of (off := 2) Tryz.underlying55 rfl rfl ti4 (by decide))) fun hs => s1 (v := .bool (y34)) hs (y_ld rfl Tryz.underlying4 rfl (Cell.blk (.head _) rfl)) fun hs => za1 <| hK7 ?_
  refine zag hs rfl (fun hg41 => ?_) (fun hg41 => ?_)
  ·replace hm := oc_t hg41 hm
   refine Wq fun hK8 => s1 hs (zea (places := [(0,1)]) (cs := [(.slice none 0 0)]) rfl Tryz.underlying30 ti30 (by kernel_rfl) (by decide) rfl trivial) fun hs => zbe (i := 2) hs rfl rfl rfl ti30 ⟨rfl, rfl⟩ (AllC.arr (r := [(.slice none 0 0)]) ⟨rfl, trivial⟩) (.free rfl) fun _ _ hs => sA hs rfl fun hs => za1 <| hK8 <| zbl ?_
   obtain rfl := Option.some.inj hm
   replace hs := AR.drop [.blk b24 (.cells #[v29, .int .i64 (y33), .bool (y34)] 55 (0,0)), .row v29 49 1 rw30, .blk b5 (.cells #[(.slice none 0 0)] 30 (0,0))] hA hs
   refine RtV2 hs rfl (rv_a hs rfl Tryz.underlying30 rfl ti30 (fun j u hj => Cell.blk (.tail _ (.tail _ (.head _))) hj) rfl) (rv_t hs rfl) ?_
   exact ⟨_, f26,[], rfl, hle,(hs.subL (.cons _ (.cons _ (.cons _ (.refl _))))).cw,[(.slice none 0 0)], rfl, rfl, ⟨_, rfl, RS.nil⟩⟩
  replace hm := oc_f hg41 hm
  refine zak <| hK6 <| Wq fun hK9 => sM hs rfl fun hs => ?_
  obtain ⟨x43, hx44, hm⟩ := ob hm
  refine zev (Lr := []) [.blk b24 (.cells #[v29, .int .i64 (y33), .bool (y34)] 55 (0,0)), .row v29 49 1 rw30, .blk b5 (.cells #[(.slice none 0 0)] 30 (0,0))] hA hs rfl has19 rfl (zid n hp17 hx44) (.free rfl) (by decide) ?_; clear hs; (try clear a w)
  rintro _ f45 _ a w hf46 ⟨r47, rfl, rfl, hq48⟩ hs
  replace hA := hA.le hf46
  replace hle := hle.trans hf46
  obtain ⟨v49, v54, rfl, ⟨rw50, hR51, hW52⟩, ⟨rw55, hR56, hW57⟩⟩ := R_dom_Part.ex hq48
  obtain ⟨x59, hx60, hm⟩ := ob hm
  refine zi2 hs rfl has18 rfl (zsj n (R_dom_Part.of (x := x43) ⟨rw50, hR51, hW52⟩ ⟨rw55, hR56, hW57⟩) hx60) ?_; clear hs; (try clear a w)
  rintro _ f61 _ a w hf62 ⟨r63, rfl, rfl, hq64⟩ hs
  replace hA := hA.le hf62
  replace hle := hle.trans hf62
  obtain ⟨v65, rfl, ⟨rw66, hR67, hW68⟩⟩ := hq64
  refine s1 (v := .agg #[v65]) hs (zan rfl rfl) fun hs => s1 (v := .int .i64 (x59.2)) hs (zan rfl rfl) fun hs => zbe (i := 2) hs rfl rfl rfl ti30 ⟨rfl, rfl⟩ (AllC.arr (r := [v65]) ⟨hR67.one, trivial⟩) (.free rfl) fun _ _ hs => sA hs rfl fun hs => za1 <| hK9 <| zbl ?_
  obtain rfl := Option.some.inj hm
  replace hs := AR.drop [.blk b24 (.cells #[v29, .int .i64 (y33), .bool (y34)] 55 (0,0)), .row v29 49 1 rw30, .blk b5 (.cells #[v65] 30 (0,0))] hA hs
  refine RtV2 hs rfl (rv_a hs rfl Tryz.underlying30 rfl ti30 (fun j u hj => Cell.blk (.tail _ (.tail _ (.head _))) hj) rfl) (rv_t hs rfl) ?_
  exact ⟨_, f61,[], rfl, hle,(hs.subL (.cons _ (.cons _ (.cons _ (.refl _))))).cw,[v65], rfl, rfl, ⟨_, rfl, ⟨rw66, hR67, hW68⟩⟩⟩
 refine zas fun Qe10 hB10 hO10 => ?_
 have hbase := Fz.le.refl f
 obtain ⟨bK81, hbE82⟩ : ∃ z, z = ab := ⟨_, rfl⟩
 have hbb83 : bK81 <+: ab := by rw [hbE82]; exact List.prefix_refl _
 refine zeu (fun (k : Nat) a w => ∃ (f70 : Fz) (L : List Ent) (ab : List Nat) (y72 : (List Int)) (y77 : Int) (y78 : Bool) (y79 : Int) (y80 : (List za0)) (v73 : Value) (rw74 : List (List Value)), Fz.le f f70 ∧ bK81 <+: ab ∧ AR nsh f70 ab y80 [] L0 L ∧ zb1 n p0 k y72 y77 y78 y79 y80 = some res ∧ RW (tP ab) f70 rw74 y72 ∧ St 62 w0 f70 (.blk b24 (.cells #[v73, .int .i64 (y77), .bool (y78)] 55 (0,0)) :: .row v73 49 1 rw74 :: .blk b5 (.cells #[(.slice none 0 0)] 30 (0,0)) :: L) [(2, .pointer (some ⟨b5,0, none⟩)),(4, .pointer (some ⟨b10,0, none⟩)),(5, .pointer (some ⟨b24,0, none⟩)),(14, a0),(15, .int .i64 ((p0.length : Int))),(16, .int .i64 (y79))] a w) (fun k => k) n ⟨_, L, ab,[(([] : List za0).length : Int)],1, false,0,(([] : List za0) ++ [({name := (bs [114,111,111,116]), text := (bs []), attrs := ([] : List zam), above := (-1 : Int), kids := ([] : List Int)} : za0)]), v18, rw20,(Fz.le.refl _), hbb83, hA, hm, hW19, hs.sub ⟨rfl, rfl, rfl, rfl, rfl, rfl, trivial⟩⟩ ?_
 clear hs hm
 clear hA
 intro k
 rintro a w ⟨f70, L, ab, y72, y77, y78, y79, y80, v73, rw74, hl71, hbx84, hA, hm, hW75, hs⟩
 have hbb83 := hbx84; rw [hbE82] at hbx84
 replace hbb39 := hbb39.trans hbx84
 replace hR2 := hR2.le hl71
 replace hW3 := hW3.le hl71
 replace hle := hle.trans hl71
 replace hbase36 := hbase36.trans hl71
 intro K11 hK11
 cases k with
 | zero => simp [zb1] at hm
 | succ k85 =>
  rw [zb1] at hm
  have hbase86 := hl71
  refine Wq fun hK12 => s1 hs (zhw rfl rfl) fun hs => za1 <| hK12 <| Ws fun hK13 => ?_
  refine zag hs rfl (fun hg87 => ?_) (fun hg87 => ?_)
  ·replace hm := oc_t hg87 hm
   refine zak <| hK13 <| Ws fun hK14 => zas fun Qe15 hB15 hO15 => Ws fun hK16 => za5 ?_
   obtain ⟨x88, hx89, hm⟩ := ob hm
   obtain ⟨r90, hr91, hq92, hi93, hb94⟩ := hW3.geti hx89
   obtain ⟨v95, rfl, ⟨rw96, hR97, hW98⟩⟩ := hq92
   refine s1 hs (zai hR2 rfl rfl hi93 hb94 Tryz.underlying22 ti27) fun hs => s1 hs (zn9 hR2.up rfl hr91 Tryz.underlying27 rfl ti27) fun hs => zd3 hs ti27 (.free rfl) (by decide) fun b100 _ _ hs => zbe (i := 0) hs rfl rfl rfl ti27 ⟨rfl, rfl⟩ (AllC.arr (r := [.int .i64 (x88.Kind), .string (x88.Name), .string (x88.Text), v95, .bool (x88.Closed)]) ⟨rfl, rfl, rfl, hR97.one, rfl, trivial⟩) (.free rfl) fun _ _ hs => za1 <| hK16 <| Ws fun hK17 => Wq fun hK18 => s1 (v := .pointer (some ⟨b100,0, none⟩)) hs (za3 rfl (FO.of (off := 0) Tryz.underlying27 rfl rfl ti3 (by decide))) fun hs => ?_
   refine s1 (v := .int .i64 (x88.Kind)) hs (y_ld rfl Tryz.underlying3 rfl (Cell.blk (.head _) rfl)) fun hs => za1 <| hK18 <| zas fun Qe19 hB19 hO19 => Wq fun hK20 => s1 hs (zh5 rfl rfl) fun hs => sA hs rfl fun hs => za1 <| hK20 ?_
   have hbase113 := Fz.le.refl f70
   obtain ⟨bK114, hbE115⟩ : ∃ z, z = ab := ⟨_, rfl⟩
   have hbb116 : bK114 <+: ab := by rw [hbE115]; exact List.prefix_refl _
   refine zay (fun a w => ∃ (f103 : Fz) (L : List Ent) (ab : List Nat) (y105 : (List Int)) (y110 : Int) (y111 : Bool) (y112 : (List za0)) (v106 : Value) (rw107 : List (List Value)), Fz.le f70 f103 ∧ bK114 <+: ab ∧ AR nsh f103 ab y112 [] L0 L ∧ zf3 y79 (zb1 n p0 k85) y105 y110 y111 y112 = some res ∧ RW (tP ab) f103 rw107 y105 ∧ St 62 w0 f103 (.blk b24 (.cells #[v106, .int .i64 (y110), .bool (y111)] 55 (0,0)) :: .row v106 49 1 rw107 :: .blk b5 (.cells #[(.slice none 0 0)] 30 (0,0)) :: L) [(2, .pointer (some ⟨b5,0, none⟩)),(4, .pointer (some ⟨b10,0, none⟩)),(5, .pointer (some ⟨b24,0, none⟩)),(14, a0),(15, .int .i64 ((p0.length : Int))),(16, .int .i64 (y79))] a w) ?_ ?_
   ·clear hs hm
    clear hbase113
    clear hA
    rintro a w ⟨f103, L, ab, y105, y110, y111, y112, v106, rw107, hl104, hbx117, hA, hm, hW108, hs⟩
    have hbb116 := hbx117; rw [hbE115] at hbx117
    replace hbb83 := hbb83.trans hbx117
    replace hle := hle.trans hl104
    replace hbase86 := hbase86.trans hl104
    unfold zf3 at hm
    refine hK17 <| Wq fun hK21 => sM hs rfl fun hs => s1 hs (za6 rfl) fun hs => s1 (v := .pointer (some ⟨b24,1, none⟩)) hs (za3 rfl (FO.of (off := 1) Tryz.underlying55 rfl rfl ti3 (by decide))) fun hs => s1 (v := .int .i64 (y110)) hs (y_ld rfl Tryz.underlying3 rfl (Cell.blk (.head _) rfl)) fun hs => s1 hs (zm0 rfl rfl) fun hs => za1 <| hK21 ?_
    refine zag hs rfl (fun hg118 => ?_) (fun hg118 => ?_)
    ·replace hm := oc_t hg118 hm
     refine Wq fun hK22 => s1 hs (zea (places := [(0,1)]) (cs := [(.slice none 0 0)]) rfl Tryz.underlying30 ti30 (by kernel_rfl) (by decide) rfl trivial) fun hs => zbe (i := 2) hs rfl rfl rfl ti30 ⟨rfl, rfl⟩ (AllC.arr (r := [(.slice none 0 0)]) ⟨rfl, trivial⟩) (.free rfl) fun _ _ hs => sA hs rfl fun hs => za1 <| hK22 <| zbl ?_
     obtain rfl := Option.some.inj hm
     replace hs := AR.drop [.blk b24 (.cells #[v106, .int .i64 (y110), .bool (y111)] 55 (0,0)), .row v106 49 1 rw107, .blk b5 (.cells #[(.slice none 0 0)] 30 (0,0))] hA hs
     refine RtV2 hs rfl (rv_a hs rfl Tryz.underlying30 rfl ti30 (fun j u hj => Cell.blk (.tail _ (.tail _ (.head _))) hj) rfl) (rv_t hs rfl) ?_
     exact ⟨_, f103,[], rfl, hle,(hs.subL (.cons _ (.cons _ (.cons _ (.refl _))))).cw,[(.slice none 0 0)], rfl, rfl, ⟨_, rfl, RS.nil⟩⟩
    replace hm := oc_f hg118 hm
    refine zak <| hK14 <| za5 <| s1 hs (zga rfl rfl rfl) fun hs => sM hs rfl fun hs => za1 ?_
    exact hK11 k85 _ _ (Nat.lt_succ_self _) ⟨_, L, ab, y105, y110, y111,(w64 (y79 + 1)), y112, v106, rw107, hbase86, hbb83, hA, hm, hW108, hs.sub ⟨rfl, rfl, rfl, rfl, rfl, rfl, trivial⟩⟩
   refine zag hs rfl (fun hg120 => ?_) (fun hg120 => ?_)
   ·replace hm := oc_t hg120 hm
    refine Wq fun hK23 => s1 (v := .pointer (some ⟨b100,2, none⟩)) hs (za3 rfl (FO.of (off := 2) Tryz.underlying27 rfl rfl ti9 (by decide))) fun hs => s1 (v := .string (x88.Text)) hs (y_ld rfl Tryz.underlying9 rfl (Cell.blk (.head _) rfl)) fun hs => s1 hs (zn8 rfl rfl) fun hs => za1 <| hK23 ?_
    have hbase131 := Fz.le.refl f70
    obtain ⟨bK132, hbE133⟩ : ∃ z, z = ab := ⟨_, rfl⟩
    have hbb134 : bK132 <+: ab := by rw [hbE133]; exact List.prefix_refl _
    refine zay (fun a w => ∃ (f121 : Fz) (L : List Ent) (ab : List Nat) (y123 : (List Int)) (y128 : Int) (y129 : Bool) (y130 : (List za0)) (v124 : Value) (rw125 : List (List Value)), Fz.le f70 f121 ∧ bK132 <+: ab ∧ AR nsh f121 ab y130 [] L0 L ∧ zfx y79 (zb1 n p0 k85) y123 y128 y129 y130 = some res ∧ RW (tP ab) f121 rw125 y123 ∧ St 62 w0 f121 (.blk b24 (.cells #[v124, .int .i64 (y128), .bool (y129)] 55 (0,0)) :: .row v124 49 1 rw125 :: .blk b5 (.cells #[(.slice none 0 0)] 30 (0,0)) :: L) [(2, .pointer (some ⟨b5,0, none⟩)),(4, .pointer (some ⟨b10,0, none⟩)),(5, .pointer (some ⟨b24,0, none⟩)),(14, a0),(15, .int .i64 ((p0.length : Int))),(16, .int .i64 (y79))] a w) ?_ ?_
    ·clear hs hm
     clear hbase131
     clear hA
     rintro a w ⟨f121, L, ab, y123, y128, y129, y130, v124, rw125, hl122, hbx135, hA, hm, hW126, hs⟩
     have hbb134 := hbx135; rw [hbE133] at hbx135
     replace hbb116 := hbb116.trans hbx135
     replace hbase113 := hbase113.trans hl122
     unfold zfx at hm
     exact ⟨_, L, ab, y123, y128, y129, y130, v124, rw125, hbase113, hbb116, hA, hm, hW126, hs.sub ⟨rfl, rfl, rfl, rfl, rfl, rfl, trivial⟩⟩
    refine zag hs rfl (fun hg136 => ?_) (fun hg136 => ?_)
    ·replace hm := oc_t hg136 hm
     refine za5 <| sM hs rfl fun hs => s1 (v := .pointer (some ⟨b100,2, none⟩)) hs (za3 rfl (FO.of (off := 2) Tryz.underlying27 rfl rfl ti9 (by decide))) fun hs => s1 (v := .string (x88.Text)) hs (y_ld rfl Tryz.underlying9 rfl (Cell.blk (.head _) rfl)) fun hs => ?_
     obtain ⟨x137, hx138, hm⟩ := ob hm
     replace hs := hs.front 2
     replace hs := hs.front 2
     refine zhe (Lr := [.blk b24 (.cells #[v73, .int .i64 (y77), .bool (y78)] 55 (0,0)), .row v73 49 1 rw74]) [.blk b100 (.cells #[.int .i64 (x88.Kind), .string (x88.Name), .string (x88.Text), v95, .bool (x88.Closed)] 27 (0,0)), .blk b5 (.cells #[(.slice none 0 0)] 30 (0,0))] hA hs rfl has15 rfl (zjf n hW75 hx138) (.free rfl) (by decide) ?_; clear hs; (try clear a w)
     clear hA
     rintro _ f139 ab _ L a w hf140 hbg144 hA ⟨v141, rw142, rfl, rfl, hW143⟩ hs
     replace hbase131 := hbase131.trans hf140
     replace hbb134 := hbb134.trans hbg144
     refine za1 ?_
     exact ⟨_, L, ab, x137.1.open_, x137.1.count, x137.1.deep, x137.2, v141, rw142, hbase131, hbb134, hA, hm, hW143, hs.subs ⟨rfl, rfl, rfl, rfl, rfl, rfl, trivial⟩ (.cons_cons _ (.cons_cons _ (.cons _ (.cons_cons _ (.refl _)))))⟩
    replace hm := oc_f hg136 hm
    refine zak ?_
    exact ⟨_, L, ab, y72, y77, y78, y80, v73, rw74,(Fz.le.refl _), hbb134, hA, hm, hW75, hs.subs ⟨rfl, rfl, rfl, rfl, rfl, rfl, trivial⟩ (.cons _ (.cons_cons _ (.cons_cons _ (.cons_cons _ (.refl _)))))⟩
   replace hm := oc_f hg120 hm
   refine Wq fun hK24 => s1 hs (zh5 rfl rfl) fun hs => sA hs rfl fun hs => za1 <| hK24 ?_
   have hbase156 := Fz.le.refl f70
   obtain ⟨bK157, hbE158⟩ : ∃ z, z = ab := ⟨_, rfl⟩
   have hbb159 : bK157 <+: ab := by rw [hbE158]; exact List.prefix_refl _
   refine zay (fun a w => ∃ (f146 : Fz) (L : List Ent) (ab : List Nat) (y148 : (List Int)) (y153 : Int) (y154 : Bool) (y155 : (List za0)) (v149 : Value) (rw150 : List (List Value)), Fz.le f70 f146 ∧ bK157 <+: ab ∧ AR nsh f146 ab y155 [] L0 L ∧ zfw y79 (zb1 n p0 k85) y148 y153 y154 y155 = some res ∧ RW (tP ab) f146 rw150 y148 ∧ St 62 w0 f146 (.blk b24 (.cells #[v149, .int .i64 (y153), .bool (y154)] 55 (0,0)) :: .row v149 49 1 rw150 :: .blk b5 (.cells #[(.slice none 0 0)] 30 (0,0)) :: L) [(2, .pointer (some ⟨b5,0, none⟩)),(4, .pointer (some ⟨b10,0, none⟩)),(5, .pointer (some ⟨b24,0, none⟩)),(14, a0),(15, .int .i64 ((p0.length : Int))),(16, .int .i64 (y79))] a w) ?_ ?_
   ·clear hs hm
    clear hbase156
    clear hA
    rintro a w ⟨f146, L, ab, y148, y153, y154, y155, v149, rw150, hl147, hbx160, hA, hm, hW151, hs⟩
    have hbb159 := hbx160; rw [hbE158] at hbx160
    replace hbb116 := hbb116.trans hbx160
    replace hbase113 := hbase113.trans hl147
    unfold zfw at hm
    exact ⟨_, L, ab, y148, y153, y154, y155, v149, rw150, hbase113, hbb116, hA, hm, hW151, hs.sub ⟨rfl, rfl, rfl, rfl, rfl, rfl, trivial⟩⟩
   refine zag hs rfl (fun hg161 => ?_) (fun hg161 => ?_)
   ·replace hm := oc_t hg161 hm
    refine za5 <| sM hs rfl fun hs => s1 (v := .pointer (some ⟨b100,1, none⟩)) hs (za3 rfl (FO.of (off := 1) Tryz.underlying27 rfl rfl ti9 (by decide))) fun hs => s1 (v := .string (x88.Name)) hs (y_ld rfl Tryz.underlying9 rfl (Cell.blk (.head _) rfl)) fun hs => s1 (v := .pointer (some ⟨b100,3, none⟩)) hs (za3 rfl (FO.of (off := 3) Tryz.underlying27 rfl rfl ti25 (by decide))) fun hs => s1 (v := v95) hs (y_ld rfl Tryz.underlying25 rfl (Cell.blk (.head _) rfl)) fun hs => ?_
    obtain ⟨x162, hx163, hm⟩ := ob hm
    replace hs := hs.front 2
    replace hs := hs.front 2
    refine zhe (Lr := [.blk b24 (.cells #[v73, .int .i64 (y77), .bool (y78)] 55 (0,0)), .row v73 49 1 rw74]) [.blk b100 (.cells #[.int .i64 (x88.Kind), .string (x88.Name), .string (x88.Text), v95, .bool (x88.Closed)] 27 (0,0)), .blk b5 (.cells #[(.slice none 0 0)] 30 (0,0))] hA hs rfl has16 rfl (zgc n hW75 ⟨rw96, hR97, hW98⟩ hx163) (.free rfl) (by decide) ?_; clear hs; (try clear a w)
    clear hA
    rintro _ f164 ab _ L a w hf165 hbg169 hA ⟨v166, rw167, rfl, rfl, hW168⟩ hs
    replace hbase156 := hbase156.trans hf165
    replace hbb159 := hbb159.trans hbg169
    refine za1 ?_
    exact ⟨_, L, ab, x162.1.open_, x162.1.count, x162.1.deep, x162.2, v166, rw167, hbase156, hbb159, hA, hm, hW168, hs.subs ⟨rfl, rfl, rfl, rfl, rfl, rfl, trivial⟩ (.cons_cons _ (.cons_cons _ (.cons _ (.cons_cons _ (.refl _)))))⟩
   replace hm := oc_f hg161 hm
   refine Wq fun hK25 => s1 hs (zh5 rfl rfl) fun hs => sA hs rfl fun hs => za1 <| hK25 ?_
   have hbase181 := Fz.le.refl f70
   obtain ⟨bK182, hbE183⟩ : ∃ z, z = ab := ⟨_, rfl⟩
   have hbb184 : bK182 <+: ab := by rw [hbE183]; exact List.prefix_refl _
   refine zay (fun a w => ∃ (f171 : Fz) (L : List Ent) (ab : List Nat) (y173 : (List Int)) (y178 : Int) (y179 : Bool) (y180 : (List za0)) (v174 : Value) (rw175 : List (List Value)), Fz.le f70 f171 ∧ bK182 <+: ab ∧ AR nsh f171 ab y180 [] L0 L ∧ zfv y79 (zb1 n p0 k85) y173 y178 y179 y180 = some res ∧ RW (tP ab) f171 rw175 y173 ∧ St 62 w0 f171 (.blk b24 (.cells #[v174, .int .i64 (y178), .bool (y179)] 55 (0,0)) :: .row v174 49 1 rw175 :: .blk b5 (.cells #[(.slice none 0 0)] 30 (0,0)) :: L) [(2, .pointer (some ⟨b5,0, none⟩)),(4, .pointer (some ⟨b10,0, none⟩)),(5, .pointer (some ⟨b24,0, none⟩)),(14, a0),(15, .int .i64 ((p0.length : Int))),(16, .int .i64 (y79))] a w) ?_ ?_
   ·clear hs hm
    clear hbase181
    clear hA
    rintro a w ⟨f171, L, ab, y173, y178, y179, y180, v174, rw175, hl172, hbx185, hA, hm, hW176, hs⟩
    have hbb184 := hbx185; rw [hbE183] at hbx185
    replace hbb159 := hbb159.trans hbx185
    replace hbase156 := hbase156.trans hl172
    unfold zfv at hm
    exact ⟨_, L, ab, y173, y178, y179, y180, v174, rw175, hbase156, hbb159, hA, hm, hW176, hs.sub ⟨rfl, rfl, rfl, rfl, rfl, rfl, trivial⟩⟩
   refine zag hs rfl (fun hg186 => ?_) (fun hg186 => ?_)
   ·replace hm := oc_t hg186 hm
    refine za5 <| sM hs rfl fun hs => s1 (v := .pointer (some ⟨b100,1, none⟩)) hs (za3 rfl (FO.of (off := 1) Tryz.underlying27 rfl rfl ti9 (by decide))) fun hs => s1 (v := .string (x88.Name)) hs (y_ld rfl Tryz.underlying9 rfl (Cell.blk (.head _) rfl)) fun hs => ?_
    obtain ⟨x187, hx188, hm⟩ := ob hm
    replace hs := hs.front 2
    replace hs := hs.front 2
    refine zhe (Lr := [.blk b24 (.cells #[v73, .int .i64 (y77), .bool (y78)] 55 (0,0)), .row v73 49 1 rw74]) [.blk b100 (.cells #[.int .i64 (x88.Kind), .string (x88.Name), .string (x88.Text), v95, .bool (x88.Closed)] 27 (0,0)), .blk b5 (.cells #[(.slice none 0 0)] 30 (0,0))] hA hs rfl has17 rfl (zjd n hW75 hx188) (.free rfl) (by decide) ?_; clear hs; (try clear a w)
    clear hA
    rintro _ f189 ab _ L a w hf190 hbg194 hA ⟨v191, rw192, rfl, rfl, hW193⟩ hs
    replace hbase181 := hbase181.trans hf190
    replace hbb184 := hbb184.trans hbg194
    refine za1 ?_
    exact ⟨_, L, ab, x187.1.open_, x187.1.count, x187.1.deep, x187.2, v191, rw192, hbase181, hbb184, hA, hm, hW193, hs.subs ⟨rfl, rfl, rfl, rfl, rfl, rfl, trivial⟩ (.cons_cons _ (.cons_cons _ (.cons _ (.cons_cons _ (.refl _)))))⟩
   replace hm := oc_f hg186 hm
   refine zak ?_
   exact ⟨_, L, ab, y72, y77, y78, y80, v73, rw74,(Fz.le.refl _), hbb184, hA, hm, hW75, hs.subs ⟨rfl, rfl, rfl, rfl, rfl, rfl, trivial⟩ (.cons _ (.cons_cons _ (.cons_cons _ (.cons_cons _ (.refl _)))))⟩
  replace hm := oc_f hg87 hm
  refine ze8 <| hB10 _ _ ?_
  exact ⟨_, L, ab, y72, y77, y78, y80, v73, rw74, hbase36, hbb39, hA, hm, hW75, hs.sub ⟨rfl, rfl, rfl, trivial⟩⟩
end Go.Proofs.YtdjjeahiomackaaGreat
