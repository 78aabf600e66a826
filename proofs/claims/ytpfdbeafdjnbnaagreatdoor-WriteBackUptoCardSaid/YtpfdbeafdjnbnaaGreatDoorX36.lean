/-
  Walks and laws of this seat.
-/
import Derived.Test.YtpfdbeafdjnbnaaGreatDoorBash
import Derived.Test.YtpfdbeafdjnbnaaGreatDoorL6v
import Derived.Test.YtpfdbeafdjnbnaaGreatDoorX25
import Derived.Test.YtpfdbeafdjnbnaaGreatDoorL6g
import Derived.Test.YtpfdbeafdjnbnaaGreatDoorRows
import Derived.Test.YtpfdbeafdjnbnaaGreatDoorX35
namespace Go.Proofs.YtpfdbeafdjnbnaaGreatDoor
set_option linter.unusedVariables false
set_option linter.unusedSimpArgs false
set_option linter.unusedSectionVars false
section
set_option maxHeartbeats 4000000
set_option maxRecDepth 100000
open Go.RowKit Go.Sl
def zik (n : Nat) (y28 : (List Int)) (y33 : Int) (y34 : Bool) (y35 : (List za4)) : Option (zaa × Int) :=
  (bif y34 then none else
  (ze6 n (([] : List za4).length : Int) y35).bind fun x42 =>
  (zj9 n x42).bind fun x58 =>
  some (x58.1, x58.2))
def zfh (y78 : Int) (lp84 : (List Int) → Int → Bool → Int → (List za4) → Option (zaa × Int)) (y104 : (List Int)) (y109 : Int) (y110 : Bool) (y111 : (List za4)) : Option (zaa × Int) :=
  (bif (decide (4096 < y109)) then none else
  lp84 y104 y109 y110 (w64 (y78 + 1)) y111)
def zfg (y78 : Int) (lp84 : (List Int) → Int → Bool → Int → (List za4) → Option (zaa × Int)) (y121 : (List Int)) (y126 : Int) (y127 : Bool) (y128 : (List za4)) : Option (zaa × Int) :=
  zfh y78 lp84 y121 y126 y127 y128
def zff (y78 : Int) (lp84 : (List Int) → Int → Bool → Int → (List za4) → Option (zaa × Int)) (y146 : (List Int)) (y151 : Int) (y152 : Bool) (y153 : (List za4)) : Option (zaa × Int) :=
  zfh y78 lp84 y146 y151 y152 y153
def zfe (y78 : Int) (lp84 : (List Int) → Int → Bool → Int → (List za4) → Option (zaa × Int)) (y171 : (List Int)) (y176 : Int) (y177 : Bool) (y178 : (List za4)) : Option (zaa × Int) :=
  zff y78 lp84 y171 y176 y177 y178
def zay (n : Nat) (p0 : (List za6)) : Nat → (List Int) → Int → Bool → Int → (List za4) → Option (zaa × Int)
  | 0, _, _, _, _, _ => none
  | k84 + 1, y71, y76, y77, y78, y79 =>
  (bif (decide (y78 < (p0.length : Int))) then (geti p0 y78).bind fun x87 =>
  (bif (decide (x87.Kind = 1)) then (bif (decide (x87.Text ≠ (bs []))) then (zdx n ({open_ := y71, count := y76, deep := y77} : za7) x87.Text y79).bind fun x135 =>
  zfg y78 (zay n p0 k84) x135.1.open_ x135.1.count x135.1.deep x135.2 else
  zfg y78 (zay n p0 k84) y71 y76 y77 y79) else
  (bif (decide (x87.Kind = 2)) then (zdg n ({open_ := y71, count := y76, deep := y77} : za7) x87.Name x87.Attrs y79).bind fun x160 =>
  zff y78 (zay n p0 k84) x160.1.open_ x160.1.count x160.1.deep x160.2 else
  (bif (decide (x87.Kind = 3)) then (zdi n ({open_ := y71, count := y76, deep := y77} : za7) x87.Name y79).bind fun x185 =>
  zfe y78 (zay n p0 k84) x185.1.open_ x185.1.count x185.1.deep x185.2 else
  zfe y78 (zay n p0 k84) y71 y76 y77 y79))) else
  zik n y71 y76 y77 y79)
def zjm (n : Nat) (p0 : (List za6)) : Option (zaa × Int) :=
  zay n p0 n [(([] : List za4).length : Int)] 1 false 0 (([] : List za4) ++ [({name := (bs [114,111,111,116]), text := (bs []), attrs := ([] : List zab), above := (-1 : Int), kids := ([] : List Int)} : za4)])
theorem zpo (n : Nat) {f : Fz} {p0 : (List za6)} {a0 : Value} {res : (zaa × Int)} (h0 : RS zb1 f a0 p0) (hm : zjm n p0 = some res) : Does Tryz.prog 29 [a0] f [] (fun r f' L' => ∃ (u0 : List Value), L' = [] ∧ r = .tuple #[.agg u0.toArray, .int .i64 res.2] ∧ zcz.R f' u0 res.1) := by
 unfold zjm at hm
 intro w0 L0 w hC
 have hA : ∃ ab L, AR nsh f ab [] [] L0 L ∧ Cw w0 f ([] ++ L) w := ⟨[], L0, AR.nil, hC⟩; clear hC; obtain ⟨ab, L, hA, hC⟩ := hA
 replace hC : Cw w0 f (L) w := hC
 obtain ⟨rw1, hR2, hW3⟩ := h0
 refine enter Tryz.func29 rfl Tryz.ntmps29 (by simp) hC fun a hs => ?_
 have hle := Fz.le.refl f
 refine Wq fun hK1 => zbl hs ti30 (.free rfl) (by decide) fun b5 _ _ hs => sA hs rfl fun hs => za0 <| hK1 <| Wq fun hK2 => s1 hs (ze4 (places := [(0,1),(1,1),(2,1),(3,1),(4,1)]) (cs := [.string ((bs [114,111,111,116])), .string ((bs [])),(.slice none 0 0), .pointer none,(.slice none 0 0)]) rfl U99 ti99 (by kernel_rfl) (by decide) rfl ⟨rfl, trivial⟩) fun hs => sbox hs rfl fun b10 _ _ hs => ?_
 replace hs := hs.nilRow 96 1
 have hW12 : RW (tP ab) f [] ([] : List Int) := trivial
 generalize hgrw13 : ([] : List (List Value)) = rw13 at hs hW12; clear hgrw13
 replace hs := hs.front 0
 replace hs := hs.front 1
 have hq9 := AR.adopt (b := b10) (x := ({name := (bs [114,111,111,116]), text := (bs []), attrs := ([] : List zab), above := (-1 : Int), kids := ([] : List Int)} : za4)) [.blk b5 (.cells #[(.slice none 0 0)] 30 (0,0))] hA hs (⟨(.slice none 0 0), .pointer none,(.slice none 0 0), rw13, rfl, RS.nil, RP.nil, hW12.grow (List.prefix_append _ _)⟩); clear hs hA
 obtain ⟨ab, L, hbg16, hA, hp17, hs⟩ := hq9
 refine sA hs rfl fun hs => za0 <| hK2 <| Wq fun hK3 => sM hs rfl fun hs => zg1 hs rfl U97 ti96 rfl rfl fun v18 _ _ hs => ?_
 have hW19 : RW (tP ab) f [[pq b10 0]] [(([] : List za4).length : Int)] := RW.single (⟨_, rfl, hp17⟩)
 generalize hgrw20 : ([[pq b10 0]] : List (List Value)) = rw20 at hs hW19; clear hgrw20
 refine s1 hs (ze4 (places := [(0,1),(1,1),(2,1)]) (cs := [v18, .int .i64 (1), .bool (false)]) rfl U102 ti102 (by kernel_rfl) (by decide) rfl ⟨(hs.one (i := 0) rfl), rfl, trivial⟩) fun hs => sbox hs rfl fun b24 _ _ hs => sA hs rfl fun hs => za0 <| hK3 <| Ws fun hK4 => Wq fun hK5 => sM hs rfl fun hs => s1 hs (zc3 hR2 hW3 rfl U69) fun hs => ?_
 refine sM hs rfl fun hs => za0 <| hK5 ?_
 have hbase36 := Fz.le.refl f
 obtain ⟨bK37, hbE38⟩ : ∃ z, z = ab := ⟨_, rfl⟩
 have hbb39 : bK37 <+: ab := by rw [hbE38]; exact List.prefix_refl _
 refine zaq (fun a w => ∃ (f26 : Fz) (L : List Ent) (ab : List Nat) (y28 : (List Int)) (y33 : Int) (y34 : Bool) (y35 : (List za4)) (v29 : Value) (rw30 : List (List Value)), Fz.le f f26 ∧ bK37 <+: ab ∧ AR nsh f26 ab y35 [] L0 L ∧ zik n y28 y33 y34 y35 = some res ∧ RW (tP ab) f26 rw30 y28 ∧ St 62 w0 f26 (.blk b24 (.cells #[v29, .int .i64 (y33), .bool (y34)] 102 (0,0)) :: .row v29 96 1 rw30 :: .blk b5 (.cells #[(.slice none 0 0)] 30 (0,0)) :: L) [(2, pq b5 0),(4, pq b10 0),(5, pq b24 0)] a w) ?_ ?_
 ·clear hs hm
  clear hbase36
  clear hA
  rintro a w ⟨f26, L, ab, y28, y33, y34, y35, v29, rw30, hl27, hbx40, hA, hm, hW31, hs⟩
  have hbb39 := hbx40; rw [hbE38] at hbx40
  replace hp17 := hp17.grow hbx40
  replace hle := hle.trans hl27
  unfold zik at hm
  refine hK4 <| Ws fun hK6 => Wq fun hK7 => sM hs rfl fun hs => s1 hs (za5 rfl) fun hs => s1 (v := pq b24 2) hs (za1 rfl (FO.of (off := 2) U102 rfl rfl ti4 (by decide))) fun hs => s1 (v := .bool (y34)) hs (y_ld rfl U4 rfl (Cell.blk (.head _) rfl)) fun hs => za0 <| hK7 ?_
  refine zah hs rfl (fun hg41 => ?_) (fun hg41 => ?_)
  ·replace hm := oc_t hg41 hm
   refine Ws fun hK8 => ?_
   cases hm
  replace hm := oc_f hg41 hm
  refine zaj <| hK6 <| Wq fun hK9 => sM hs rfl fun hs => ?_
  obtain ⟨x42, hx43, hm⟩ := ob hm
  refine zgp (Lr := []) [.blk b24 (.cells #[v29, .int .i64 (y33), .bool (y34)] 102 (0,0)), .row v29 96 1 rw30, .blk b5 (.cells #[(.slice none 0 0)] 30 (0,0))] hA hs rfl has46 rfl (zji n hp17 hx43) (.free rfl) (by decide) ?_; clear hs; (try clear a w)
  rintro _ f44 _ a w hf45 ⟨r46, rfl, rfl, hq47⟩ hs
  replace hA := hA.le hf45
  replace hle := hle.trans hf45
  obtain ⟨v48, v53, rfl, ⟨rw49, hR50, hW51⟩, ⟨rw54, hR55, hW56⟩⟩ := R_dom_Part.ex hq47
  obtain ⟨x58, hx59, hm⟩ := ob hm
  refine zhp hs rfl has15 rfl (zo3 n (R_dom_Part.of (x := x42) ⟨rw49, hR50, hW51⟩ ⟨rw54, hR55, hW56⟩) hx59) ?_; clear hs; (try clear a w)
  rintro _ f60 _ a w hf61 ⟨r62, rfl, rfl, hq63⟩ hs
  replace hA := hA.le hf61
  replace hle := hle.trans hf61
  obtain ⟨v64, rfl, ⟨rw65, hR66, hW67⟩⟩ := hq63
  refine s1 (v := .agg #[v64]) hs (zap rfl rfl) fun hs => s1 (v := .int .i64 (x58.2)) hs (zap rfl rfl) fun hs => zb5 (i := 2) hs rfl rfl rfl ti30 ⟨rfl, rfl⟩ (AllC.arr (r := [v64]) ⟨hR66.one, trivial⟩) (.free rfl) fun _ _ hs => sA hs rfl fun hs => za0 <| hK9 <| zax ?_
  obtain rfl := Option.some.inj hm
  replace hs := AR.drop [.blk b24 (.cells #[v29, .int .i64 (y33), .bool (y34)] 102 (0,0)), .row v29 96 1 rw30, .blk b5 (.cells #[v64] 30 (0,0))] hA hs
  refine RtV2 hs rfl (rv_a hs rfl U30 rfl ti30 (fun j u hj => Cell.blk (.tail _ (.tail _ (.head _))) hj) rfl) (rv_t hs rfl) ?_
  exact ⟨_, f60,[], rfl, hle,(hs.subL (.cons _ (.cons _ (.cons _ (.refl _))))).cw,[v64], rfl, rfl, ⟨_, rfl, ⟨rw65, hR66, hW67⟩⟩⟩
 refine zam fun Qe10 hB10 hO10 => ?_
 have hbase := Fz.le.refl f
 obtain ⟨bK80, hbE81⟩ : ∃ z, z = ab := ⟨_, rfl⟩
 have hbb82 : bK80 <+: ab := by rw [hbE81]; exact List.prefix_refl _
 refine zd1 (fun (k : Nat) a w => ∃ (f69 : Fz) (L : List Ent) (ab : List Nat) (y71 : (List Int)) (y76 : Int) (y77 : Bool) (y78 : Int) (y79 : (List za4)) (v72 : Value) (rw73 : List (List Value)), Fz.le f f69 ∧ bK80 <+: ab ∧ AR nsh f69 ab y79 [] L0 L ∧ zay n p0 k y71 y76 y77 y78 y79 = some res ∧ RW (tP ab) f69 rw73 y71 ∧ St 62 w0 f69 (.blk b24 (.cells #[v72, .int .i64 (y76), .bool (y77)] 102 (0,0)) :: .row v72 96 1 rw73 :: .blk b5 (.cells #[(.slice none 0 0)] 30 (0,0)) :: L) [(2, pq b5 0),(4, pq b10 0),(5, pq b24 0),(14, a0),(15, .int .i64 ((p0.length : Int))),(16, .int .i64 (y78))] a w) (fun k => k) n ⟨_, L, ab,[(([] : List za4).length : Int)],1, false,0,(([] : List za4) ++ [({name := (bs [114,111,111,116]), text := (bs []), attrs := ([] : List zab), above := (-1 : Int), kids := ([] : List Int)} : za4)]), v18, rw20,(Fz.le.refl _), hbb82, hA, hm, hW19, hs.sub ⟨rfl, rfl, rfl, rfl, rfl, rfl, trivial⟩⟩ ?_
 clear hs hm
 clear hA
 intro k
 rintro a w ⟨f69, L, ab, y71, y76, y77, y78, y79, v72, rw73, hl70, hbx83, hA, hm, hW74, hs⟩
 have hbb82 := hbx83; rw [hbE81] at hbx83
 replace hbb39 := hbb39.trans hbx83
 replace hR2 := hR2.le hl70
 replace hW3 := hW3.le hl70
 replace hbase36 := hbase36.trans hl70
 intro K11 hK11
 cases k with
 | zero => simp [zay] at hm
 | succ k84 =>
  rw [zay] at hm
  have hbase85 := hl70
  refine Wq fun hK12 => s1 hs (zgq rfl rfl) fun hs => za0 <| hK12 <| Ws fun hK13 => ?_
  refine zah hs rfl (fun hg86 => ?_) (fun hg86 => ?_)
  ·replace hm := oc_t hg86 hm
   refine zaj <| hK13 <| Ws fun hK14 => zam fun Qe15 hB15 hO15 => Ws fun hK16 => za2 ?_
   obtain ⟨x87, hx88, hm⟩ := ob hm
   obtain ⟨r89, hr90, hq91, hi92, hb93⟩ := hW3.geti hx88
   obtain ⟨v94, rfl, ⟨rw95, hR96, hW97⟩⟩ := hq91
   refine s1 hs (zac hR2 rfl rfl hi92 hb93 U69 ti104) fun hs => s1 hs (zdn hR2.up rfl hr90 U104 rfl ti104) fun hs => zbl hs ti104 (.free rfl) (by decide) fun b99 _ _ hs => zb5 (i := 0) hs rfl rfl rfl ti104 ⟨rfl, rfl⟩ (AllC.arr (r := [.int .i64 (x87.Kind), .string (x87.Name), .string (x87.Text), v94, .bool (x87.Closed)]) ⟨rfl, rfl, rfl, hR96.one, rfl, trivial⟩) (.free rfl) fun _ _ hs => za0 <| hK16 <| Ws fun hK17 => Wq fun hK18 => s1 (v := pq b99 0) hs (za1 rfl (FO.of (off := 0) U104 rfl rfl ti3 (by decide))) fun hs => ?_
   refine s1 (v := .int .i64 (x87.Kind)) hs (y_ld rfl U3 rfl (Cell.blk (.head _) rfl)) fun hs => za0 <| hK18 <| zam fun Qe19 hB19 hO19 => Wq fun hK20 => s1 hs (zct rfl rfl) fun hs => sA hs rfl fun hs => za0 <| hK20 ?_
   have hbase112 := Fz.le.refl f69
   obtain ⟨bK113, hbE114⟩ : ∃ z, z = ab := ⟨_, rfl⟩
   have hbb115 : bK113 <+: ab := by rw [hbE114]; exact List.prefix_refl _
   refine zaq (fun a w => ∃ (f102 : Fz) (L : List Ent) (ab : List Nat) (y104 : (List Int)) (y109 : Int) (y110 : Bool) (y111 : (List za4)) (v105 : Value) (rw106 : List (List Value)), Fz.le f69 f102 ∧ bK113 <+: ab ∧ AR nsh f102 ab y111 [] L0 L ∧ zfh y78 (zay n p0 k84) y104 y109 y110 y111 = some res ∧ RW (tP ab) f102 rw106 y104 ∧ St 62 w0 f102 (.blk b24 (.cells #[v105, .int .i64 (y109), .bool (y110)] 102 (0,0)) :: .row v105 96 1 rw106 :: .blk b5 (.cells #[(.slice none 0 0)] 30 (0,0)) :: L) [(2, pq b5 0),(4, pq b10 0),(5, pq b24 0),(14, a0),(15, .int .i64 ((p0.length : Int))),(16, .int .i64 (y78))] a w) ?_ ?_
   ·clear hs hm
    clear hbase112
    clear hA
    rintro a w ⟨f102, L, ab, y104, y109, y110, y111, v105, rw106, hl103, hbx116, hA, hm, hW107, hs⟩
    have hbb115 := hbx116; rw [hbE114] at hbx116
    replace hbb82 := hbb82.trans hbx116
    replace hbase85 := hbase85.trans hl103
    unfold zfh at hm
    refine hK17 <| Wq fun hK21 => sM hs rfl fun hs => s1 hs (za5 rfl) fun hs => s1 (v := pq b24 1) hs (za1 rfl (FO.of (off := 1) U102 rfl rfl ti3 (by decide))) fun hs => s1 (v := .int .i64 (y109)) hs (y_ld rfl U3 rfl (Cell.blk (.head _) rfl)) fun hs => s1 hs (zhq rfl rfl) fun hs => za0 <| hK21 ?_
    refine zah hs rfl (fun hg117 => ?_) (fun hg117 => ?_)
    ·replace hm := oc_t hg117 hm
     refine Ws fun hK22 => ?_
     cases hm
    replace hm := oc_f hg117 hm
    refine zaj <| hK14 <| za2 <| s1 hs (zdz rfl rfl rfl) fun hs => sM hs rfl fun hs => za0 ?_
    exact hK11 k84 _ _ (Nat.lt_succ_self _) ⟨_, L, ab, y104, y109, y110,(w64 (y78 + 1)), y111, v105, rw106, hbase85, hbb82, hA, hm, hW107, hs.sub ⟨rfl, rfl, rfl, rfl, rfl, rfl, trivial⟩⟩
   refine zah hs rfl (fun hg118 => ?_) (fun hg118 => ?_)
   ·replace hm := oc_t hg118 hm
    refine Wq fun hK23 => s1 (v := pq b99 2) hs (za1 rfl (FO.of (off := 2) U104 rfl rfl ti9 (by decide))) fun hs => s1 (v := .string (x87.Text)) hs (y_ld rfl U9 rfl (Cell.blk (.head _) rfl)) fun hs => s1 hs (zhr rfl rfl) fun hs => za0 <| hK23 ?_
    have hbase129 := Fz.le.refl f69
    obtain ⟨bK130, hbE131⟩ : ∃ z, z = ab := ⟨_, rfl⟩
    have hbb132 : bK130 <+: ab := by rw [hbE131]; exact List.prefix_refl _
    refine zaq (fun a w => ∃ (f119 : Fz) (L : List Ent) (ab : List Nat) (y121 : (List Int)) (y126 : Int) (y127 : Bool) (y128 : (List za4)) (v122 : Value) (rw123 : List (List Value)), Fz.le f69 f119 ∧ bK130 <+: ab ∧ AR nsh f119 ab y128 [] L0 L ∧ zfg y78 (zay n p0 k84) y121 y126 y127 y128 = some res ∧ RW (tP ab) f119 rw123 y121 ∧ St 62 w0 f119 (.blk b24 (.cells #[v122, .int .i64 (y126), .bool (y127)] 102 (0,0)) :: .row v122 96 1 rw123 :: .blk b5 (.cells #[(.slice none 0 0)] 30 (0,0)) :: L) [(2, pq b5 0),(4, pq b10 0),(5, pq b24 0),(14, a0),(15, .int .i64 ((p0.length : Int))),(16, .int .i64 (y78))] a w) ?_ ?_
    ·clear hs hm
     clear hbase129
     clear hA
     rintro a w ⟨f119, L, ab, y121, y126, y127, y128, v122, rw123, hl120, hbx133, hA, hm, hW124, hs⟩
     have hbb132 := hbx133; rw [hbE131] at hbx133
     replace hbb115 := hbb115.trans hbx133
     replace hbase112 := hbase112.trans hl120
     unfold zfg at hm
     exact ⟨_, L, ab, y121, y126, y127, y128, v122, rw123, hbase112, hbb115, hA, hm, hW124, hs.sub ⟨rfl, rfl, rfl, rfl, rfl, rfl, trivial⟩⟩
    refine zah hs rfl (fun hg134 => ?_) (fun hg134 => ?_)
    ·replace hm := oc_t hg134 hm
     refine za2 <| sM hs rfl fun hs => s1 (v := pq b99 2) hs (za1 rfl (FO.of (off := 2) U104 rfl rfl ti9 (by decide))) fun hs => s1 (v := .string (x87.Text)) hs (y_ld rfl U9 rfl (Cell.blk (.head _) rfl)) fun hs => ?_
     obtain ⟨x135, hx136, hm⟩ := ob hm
     replace hs := hs.front 2
     replace hs := hs.front 2
     refine zl4 (Lr := [.blk b24 (.cells #[v72, .int .i64 (y76), .bool (y77)] 102 (0,0)), .row v72 96 1 rw73]) [.blk b99 (.cells #[.int .i64 (x87.Kind), .string (x87.Name), .string (x87.Text), v94, .bool (x87.Closed)] 104 (0,0)), .blk b5 (.cells #[(.slice none 0 0)] 30 (0,0))] hA hs rfl has43 rfl (zkj n hW74 hx136) (.free rfl) (by decide) ?_; clear hs; (try clear a w)
     clear hA
     rintro _ f137 ab _ L a w hf138 hbg142 hA ⟨v139, rw140, rfl, rfl, hW141⟩ hs
     replace hbase129 := hbase129.trans hf138
     replace hbb132 := hbb132.trans hbg142
     refine za0 ?_
     exact ⟨_, L, ab, x135.1.open_, x135.1.count, x135.1.deep, x135.2, v139, rw140, hbase129, hbb132, hA, hm, hW141, hs.subs ⟨rfl, rfl, rfl, rfl, rfl, rfl, trivial⟩ (.cons_cons _ (.cons_cons _ (.cons _ (.cons_cons _ (.refl _)))))⟩
    replace hm := oc_f hg134 hm
    refine zaj ?_
    exact ⟨_, L, ab, y71, y76, y77, y79, v72, rw73,(Fz.le.refl _), hbb132, hA, hm, hW74, hs.subs ⟨rfl, rfl, rfl, rfl, rfl, rfl, trivial⟩ (.cons _ (.cons_cons _ (.cons_cons _ (.cons_cons _ (.refl _)))))⟩
   replace hm := oc_f hg118 hm
   refine Wq fun hK24 => s1 hs (zct rfl rfl) fun hs => sA hs rfl fun hs => za0 <| hK24 ?_
   have hbase154 := Fz.le.refl f69
   obtain ⟨bK155, hbE156⟩ : ∃ z, z = ab := ⟨_, rfl⟩
   have hbb157 : bK155 <+: ab := by rw [hbE156]; exact List.prefix_refl _
   refine zaq (fun a w => ∃ (f144 : Fz) (L : List Ent) (ab : List Nat) (y146 : (List Int)) (y151 : Int) (y152 : Bool) (y153 : (List za4)) (v147 : Value) (rw148 : List (List Value)), Fz.le f69 f144 ∧ bK155 <+: ab ∧ AR nsh f144 ab y153 [] L0 L ∧ zff y78 (zay n p0 k84) y146 y151 y152 y153 = some res ∧ RW (tP ab) f144 rw148 y146 ∧ St 62 w0 f144 (.blk b24 (.cells #[v147, .int .i64 (y151), .bool (y152)] 102 (0,0)) :: .row v147 96 1 rw148 :: .blk b5 (.cells #[(.slice none 0 0)] 30 (0,0)) :: L) [(2, pq b5 0),(4, pq b10 0),(5, pq b24 0),(14, a0),(15, .int .i64 ((p0.length : Int))),(16, .int .i64 (y78))] a w) ?_ ?_
   ·clear hs hm
    clear hbase154
    clear hA
    rintro a w ⟨f144, L, ab, y146, y151, y152, y153, v147, rw148, hl145, hbx158, hA, hm, hW149, hs⟩
    have hbb157 := hbx158; rw [hbE156] at hbx158
    replace hbb115 := hbb115.trans hbx158
    replace hbase112 := hbase112.trans hl145
    unfold zff at hm
    exact ⟨_, L, ab, y146, y151, y152, y153, v147, rw148, hbase112, hbb115, hA, hm, hW149, hs.sub ⟨rfl, rfl, rfl, rfl, rfl, rfl, trivial⟩⟩
   refine zah hs rfl (fun hg159 => ?_) (fun hg159 => ?_)
   ·replace hm := oc_t hg159 hm
    refine za2 <| sM hs rfl fun hs => s1 (v := pq b99 1) hs (za1 rfl (FO.of (off := 1) U104 rfl rfl ti9 (by decide))) fun hs => s1 (v := .string (x87.Name)) hs (y_ld rfl U9 rfl (Cell.blk (.head _) rfl)) fun hs => s1 (v := pq b99 3) hs (za1 rfl (FO.of (off := 3) U104 rfl rfl ti43 (by decide))) fun hs => s1 (v := v94) hs (y_ld rfl U43 rfl (Cell.blk (.head _) rfl)) fun hs => ?_
    obtain ⟨x160, hx161, hm⟩ := ob hm
    replace hs := hs.front 2
    replace hs := hs.front 2
    refine zl4 (Lr := [.blk b24 (.cells #[v72, .int .i64 (y76), .bool (y77)] 102 (0,0)), .row v72 96 1 rw73]) [.blk b99 (.cells #[.int .i64 (x87.Kind), .string (x87.Name), .string (x87.Text), v94, .bool (x87.Closed)] 104 (0,0)), .blk b5 (.cells #[(.slice none 0 0)] 30 (0,0))] hA hs rfl has44 rfl (zkc n hW74 ⟨rw95, hR96, hW97⟩ hx161) (.free rfl) (by decide) ?_; clear hs; (try clear a w)
    clear hA
    rintro _ f162 ab _ L a w hf163 hbg167 hA ⟨v164, rw165, rfl, rfl, hW166⟩ hs
    replace hbase154 := hbase154.trans hf163
    replace hbb157 := hbb157.trans hbg167
    refine za0 ?_
    exact ⟨_, L, ab, x160.1.open_, x160.1.count, x160.1.deep, x160.2, v164, rw165, hbase154, hbb157, hA, hm, hW166, hs.subs ⟨rfl, rfl, rfl, rfl, rfl, rfl, trivial⟩ (.cons_cons _ (.cons_cons _ (.cons _ (.cons_cons _ (.refl _)))))⟩
   replace hm := oc_f hg159 hm
   refine Wq fun hK25 => s1 hs (zct rfl rfl) fun hs => sA hs rfl fun hs => za0 <| hK25 ?_
   have hbase179 := Fz.le.refl f69
   obtain ⟨bK180, hbE181⟩ : ∃ z, z = ab := ⟨_, rfl⟩
   have hbb182 : bK180 <+: ab := by rw [hbE181]; exact List.prefix_refl _
   refine zaq (fun a w => ∃ (f169 : Fz) (L : List Ent) (ab : List Nat) (y171 : (List Int)) (y176 : Int) (y177 : Bool) (y178 : (List za4)) (v172 : Value) (rw173 : List (List Value)), Fz.le f69 f169 ∧ bK180 <+: ab ∧ AR nsh f169 ab y178 [] L0 L ∧ zfe y78 (zay n p0 k84) y171 y176 y177 y178 = some res ∧ RW (tP ab) f169 rw173 y171 ∧ St 62 w0 f169 (.blk b24 (.cells #[v172, .int .i64 (y176), .bool (y177)] 102 (0,0)) :: .row v172 96 1 rw173 :: .blk b5 (.cells #[(.slice none 0 0)] 30 (0,0)) :: L) [(2, pq b5 0),(4, pq b10 0),(5, pq b24 0),(14, a0),(15, .int .i64 ((p0.length : Int))),(16, .int .i64 (y78))] a w) ?_ ?_
   ·clear hs hm
    clear hbase179
    clear hA
    rintro a w ⟨f169, L, ab, y171, y176, y177, y178, v172, rw173, hl170, hbx183, hA, hm, hW174, hs⟩
    have hbb182 := hbx183; rw [hbE181] at hbx183
    replace hbb157 := hbb157.trans hbx183
    replace hbase154 := hbase154.trans hl170
    unfold zfe at hm
    exact ⟨_, L, ab, y171, y176, y177, y178, v172, rw173, hbase154, hbb157, hA, hm, hW174, hs.sub ⟨rfl, rfl, rfl, rfl, rfl, rfl, trivial⟩⟩
   refine zah hs rfl (fun hg184 => ?_) (fun hg184 => ?_)
   ·replace hm := oc_t hg184 hm
    refine za2 <| sM hs rfl fun hs => s1 (v := pq b99 1) hs (za1 rfl (FO.of (off := 1) U104 rfl rfl ti9 (by decide))) fun hs => s1 (v := .string (x87.Name)) hs (y_ld rfl U9 rfl (Cell.blk (.head _) rfl)) fun hs => ?_
    obtain ⟨x185, hx186, hm⟩ := ob hm
    replace hs := hs.front 2
    replace hs := hs.front 2
    refine zl4 (Lr := [.blk b24 (.cells #[v72, .int .i64 (y76), .bool (y77)] 102 (0,0)), .row v72 96 1 rw73]) [.blk b99 (.cells #[.int .i64 (x87.Kind), .string (x87.Name), .string (x87.Text), v94, .bool (x87.Closed)] 104 (0,0)), .blk b5 (.cells #[(.slice none 0 0)] 30 (0,0))] hA hs rfl has45 rfl (zkd n hW74 hx186) (.free rfl) (by decide) ?_; clear hs; (try clear a w)
    clear hA
    rintro _ f187 ab _ L a w hf188 hbg192 hA ⟨v189, rw190, rfl, rfl, hW191⟩ hs
    replace hbase179 := hbase179.trans hf188
    replace hbb182 := hbb182.trans hbg192
    refine za0 ?_
    exact ⟨_, L, ab, x185.1.open_, x185.1.count, x185.1.deep, x185.2, v189, rw190, hbase179, hbb182, hA, hm, hW191, hs.subs ⟨rfl, rfl, rfl, rfl, rfl, rfl, trivial⟩ (.cons_cons _ (.cons_cons _ (.cons _ (.cons_cons _ (.refl _)))))⟩
   replace hm := oc_f hg184 hm
   refine zaj ?_
   exact ⟨_, L, ab, y71, y76, y77, y79, v72, rw73,(Fz.le.refl _), hbb182, hA, hm, hW74, hs.subs ⟨rfl, rfl, rfl, rfl, rfl, rfl, trivial⟩ (.cons _ (.cons_cons _ (.cons_cons _ (.cons_cons _ (.refl _)))))⟩
  replace hm := oc_f hg86 hm
  refine zc0 <| hB10 _ _ ?_
  exact ⟨_, L, ab, y71, y76, y77, y79, v72, rw73, hbase36, hbb39, hA, hm, hW74, hs.sub ⟨rfl, rfl, rfl, trivial⟩⟩
def zjl (n : Nat) (p0 : (List Int)) : Option (zaa × Int) :=
  (ziu n p0).bind fun x8 =>
  (zjm n x8).bind fun x17 =>
  some (x17.1, x17.2)
theorem zpn (n : Nat) {f : Fz} {p0 : (List Int)} {a0 : Value} {res : (zaa × Int)} (h0 : RS (tInt .i32) f a0 p0) (hm : zjl n p0 = some res) : Does Tryz.prog 13 [a0] f [] (fun r f' L' => ∃ (u0 : List Value), L' = [] ∧ r = .tuple #[.agg u0.toArray, .int .i64 res.2] ∧ zcz.R f' u0 res.1) := by
 unfold zjl at hm
 intro w0 L w hC
 obtain ⟨rw1, hR2, hW3⟩ := h0
 refine enter Tryz.func13 rfl Tryz.ntmps13 (by simp) hC fun a hs => ?_
 have hle := Fz.le.refl f
 refine Wq fun hK1 => zbl hs ti30 (.free rfl) (by decide) fun b5 _ _ hs => sA hs rfl fun hs => za0 <| hK1 <| Wq fun hK2 => sM hs rfl fun hs => ?_
 obtain ⟨x8, hx9, hm⟩ := ob hm
 refine zhp hs rfl has30 rfl (zol n ⟨rw1, hR2, hW3⟩ hx9) ?_; clear hs; (try clear a w)
 rintro v12 f10 _ a w hf11 ⟨_, rfl, rfl, ⟨rw13, hR14, hW15⟩⟩ hs
 replace hle := hle.trans hf11
 obtain ⟨x17, hx18, hm⟩ := ob hm
 refine zhp hs rfl has29 rfl (zpo n ⟨rw13, hR14, hW15⟩ hx18) ?_; clear hs; (try clear a w)
 rintro _ f19 _ a w hf20 ⟨r21, rfl, rfl, hq22⟩ hs
 replace hle := hle.trans hf20
 obtain ⟨v23, rfl, ⟨rw24, hR25, hW26⟩⟩ := hq22
 refine s1 (v := .agg #[v23]) hs (zap rfl rfl) fun hs => s1 (v := .int .i64 (x17.2)) hs (zap rfl rfl) fun hs => zb5 (i := 0) hs rfl rfl rfl ti30 ⟨rfl, rfl⟩ (AllC.arr (r := [v23]) ⟨hR25.one, trivial⟩) (.free rfl) fun _ _ hs => sA hs rfl fun hs => za0 <| hK2 <| zax ?_
 obtain rfl := Option.some.inj hm
 refine RtV2 hs rfl (rv_a hs rfl U30 rfl ti30 (fun j u hj => Cell.blk (.head _) hj) rfl) (rv_t hs rfl) ?_
 exact ⟨_, f19,[], rfl, hle,(hs.subL (.cons _ (.refl _))).cw,[v23], rfl, rfl, ⟨_, rfl, ⟨rw24, hR25, hW26⟩⟩⟩
end
section
open Go.RowKit Go.Sl
open Go.V (T)
def chT (s : ByteArray) : za6 := { Kind := 1, Name := bs [], Text := s, Attrs := [], Closed := false }
def opT (s : ByteArray) (at_ : List zab) : za6 := { Kind := 2, Name := s, Text := bs [], Attrs := at_, Closed := false }
def clT (s : ByteArray) : za6 := { Kind := 3, Name := s, Text := bs [], Attrs := [], Closed := false }
def isVoid (s : ByteArray) : Bool := voids.any fun v => decide (s = v)
theorem zl1 {s : ByteArray} : isVoid s = true ↔ s ∈ voids := by
  unfold isVoid; rw [List.any_eq_true]
  exact ⟨fun ⟨v, h, e⟩ => of_decide_eq_true e ▸ h, fun h => ⟨s, h, decide_eq_true rfl⟩⟩
def tkF : Nat → za8 → List za6
  | 0, _ => []
  | n + 1, P => if P.Name = bs [] then [chT P.Text] else opT P.Name P.Attrs :: (bif isVoid P.Name then [] else P.Kids.flatMap (tkF n) ++ [clT P.Name])
def szF : Nat → za8 → Nat
  | 0, _ => 0
  | n + 1, P => 1 + (P.Kids.map (szF n)).sum
def noAdj (ks : List za8) : Prop := ∀ (j : Nat) a b, ks[j]? = some a → ks[j + 1]? = some b → a.Name = bs [] → b.Name ≠ bs []
def canF : Nat → ByteArray → Bool → za8 → Prop
  | 0, _, _, _ => False
  | n + 1, pn, inp, P => P.Attrs.length ≤ 1000000 ∧ (P.Name = bs [] → P.Text ≠ bs [] ∧ P.Attrs = [] ∧ P.Kids = [] ∧ pn ≠ nTable ∧ pn ≠ nTr) ∧
    (P.Name ≠ bs [] → P.Text = bs [] ∧ (pn = nTable → P.Name = nTr) ∧ (pn = nTr → P.Name = nTd) ∧ (P.Name = nLi → pn = nUl) ∧ (P.Name = nTr → pn = nTable) ∧ (P.Name = nTd → pn = nTr) ∧ (P.Name ∈ blocks → inp = false) ∧ P.Name ≠ nRoot ∧ (P.Name ∈ voids → P.Kids = []) ∧
      noAdj P.Kids ∧ ∀ k ∈ P.Kids, canF n P.Name (inp || decide (P.Name = nP)) k)
inductive Rep (A : List za4) (lo hi : Nat) : Nat → za8 → Prop
  | mk {i : Nat} {x : za4} {ps : List za8} (h : A[i]? = some x) (h1 : lo ≤ i) (h2 : i < hi) (hl : ps.length = x.kids.length) (hb : x.kids.length ≤ 1000000) (hc : ∀ k ∈ x.kids, ∃ c : Nat, k = c)
    (hk : ∀ (j c : Nat) p, x.kids[j]? = some (c : Int) → ps[j]? = some p → Rep A lo hi c p) : Rep A lo hi i ⟨x.name, x.text, x.attrs, ps⟩
theorem Rep.to {A B : List za4} {lo hi lo' hi' i : Nat} {p : za8} (h : Rep A lo hi i p) (hlo : lo' ≤ lo) (hhi : hi ≤ hi') (hB : ∀ j, lo ≤ j → j < hi → B[j]? = A[j]?) : Rep B lo' hi' i p := by
  induction h with
  | mk h h1 h2 hl hb hc hk ih => exact .mk (by rw [hB _ h1 h2]; exact h) (by omega) (by omega) hl hb hc ih
structure Grow (A B : List za4) (c : Nat) (x : za4) (ps : List za8) (N : Nat) : Prop where
  len : B.length = A.length + N
  old : ∀ i, i < A.length → i ≠ c → B[i]? = A[i]?
  new : ∃ qs : List Nat, qs.length = ps.length ∧ B[c]? = some { x with kids := x.kids ++ qs.map Int.ofNat } ∧ ∀ (j q : Nat) p, qs[j]? = some q → ps[j]? = some p → Rep B A.length B.length q p
theorem Grow.nil {A : List za4} {c : Nat} {x : za4} (hx : A[c]? = some x) : Grow A A c x [] 0 := ⟨rfl, fun _ _ _ => rfl,[], rfl, by simp [hx], fun j q p h => by simp at h⟩
theorem Grow.cons {A B C : List za4} {c : Nat} {x y : za4} {p : za8} {ps : List za8} {N M : Nat} (hc : c < A.length) (h : Grow A B c x [p] N) (hy : B[c]? = some y) (g : Grow B C c y ps M) : Grow A C c x (p :: ps) (N + M) := by
  obtain ⟨qs, e1, e2, e3⟩ := h.new
  obtain ⟨rs, g1, g2, g3⟩ := g.new
  have hl := h.len
  have gl := g.len
  refine ⟨by omega, fun i hi hne => (g.old i (by omega) hne).trans (h.old i hi hne), qs ++ rs, by simp [e1, g1]; omega, ?_, fun j q r hq hr => ?_⟩
  · rw [e2] at hy; cases hy
    rw [g2]; simp
  · have e1 : qs.length = 1 := e1
    cases j with
    | zero =>
      rw [List.getElem?_append_left (by omega)] at hq
      exact (e3 0 q r hq (by simpa using hr)).to (Nat.le_refl _) (by omega) fun i h1 h2 => g.old i h2 (by omega)
    | succ j =>
      rw [List.getElem?_append_right (by omega), e1, Nat.add_sub_cancel] at hq
      exact (g3 j q r hq (by simpa using hr)).to (by omega) (Nat.le_refl _) fun _ _ _ => rfl
theorem Grow.text {A : List za4} {c : Nat} {x : za4} (hx : A[c]? = some x) {s : ByteArray} : Grow A (addN A c x { name := bs [], text := s, attrs := [], above := -1, kids := [] }) c x [⟨bs [], s,[],[]⟩] 1 :=
  ⟨zh4, fun i hi hne => zqk hi hne,[A.length], rfl, zvr hx, fun j q p hq hp => by
    have hj := (List.getElem?_eq_some_iff.1 hq).1
    obtain rfl : j = 0 := by simpa using hj
    cases hq; cases hp
    exact .mk zme (Nat.le_refl _) (by rw [zh4]; omega) rfl (Nat.zero_le _) (fun k h => by cases h) fun j c p h => by simp at h⟩
theorem Grow.elem {A B : List za4} {c : Nat} {x : za4} (hx : A[c]? = some x) {s : ByteArray} {at_ : List zab} {ps : List za8} {N : Nat} (hps : ps.length ≤ 1000000) (g : Grow (addN A c x (elN s at_)) B A.length { elN s at_ with above := (c : Int) } ps N) : Grow A B c x [⟨s, bs [], at_, ps⟩] (1 + N) := by
  have hcA := (List.getElem?_eq_some_iff.1 hx).1
  have hl := g.len
  rw [zh4] at hl
  obtain ⟨qs, e1, e2, e3⟩ := g.new
  refine ⟨by omega, fun i hi hne => (g.old i (by rw [zh4]; omega) (by omega)).trans (zqk hi hne),[A.length], rfl,(g.old c (by rw [zh4]; omega) (by omega)).trans (zvr hx), fun j q p hq hp => ?_⟩
  have hj := (List.getElem?_eq_some_iff.1 hq).1
  obtain rfl : j = 0 := by simpa using hj
  cases hq; cases hp
  refine .mk e2 (Nat.le_refl _) (by omega) (by simp [e1]) (by simp [e1]; omega) (fun k hk => ?_) fun j d p hd hp => ?_
  · obtain ⟨q, _, rfl⟩ := List.mem_map.1 (by simpa using hk)
    exact ⟨q, rfl⟩
  · have hd : (qs.map Int.ofNat)[j]? = some (d : Int) := by simpa using hd
    rw [List.getElem?_map] at hd
    obtain ⟨q, h1, h2⟩ := Option.map_eq_some_iff.1 hd
    obtain rfl : q = d := Int.ofNat.inj h2
    exact (e3 j q p h1 hp).to (by rw [zh4]; omega) (Nat.le_refl _) fun _ _ _ => rfl
section
variable {l : List za6} {A : List za4} {o : List Int} {i : Nat} (hi : i ≤ 1000000) {Q : zaa × Int → Prop}
include hi
theorem step_ch {s : ByteArray} (hx : l[i]? = some (chT s)) (hs : s ≠ bs []) {o' : List Int} {B : List za4} (hB : B.length ≤ 4096) (h : T (fun k _ => zdx k ⟨o,(A.length : Int), false⟩ s A) (· = (⟨o', (B.length : Int), false⟩, B))) (g : T (fun k n => zay k l n o' (B.length : Int) false ((i + 1 : Nat) : Int) B) Q) : T (fun k n => zay k l n o (A.length : Int) false (i : Int) A) Q := by
  have hl := (List.getElem?_eq_some_iff.1 hx).1
  refine T.step ?_
  unfold zay zfg zfe zff zfh
  refine T.dec (fun _ => T.getN hx (T.dec (fun _ => T.dec (fun _ => T.bind h fun r hr => ?_) fun h => absurd hs h) fun h => absurd rfl h)) fun h => absurd (show (i : Int) < _ by omega) h
  subst hr
  refine T.dec (fun h => by have h : (4096 : Int) < (B.length : Int) := h; omega) fun _ => ?_
  rw [zfd (by omega)]; exact g
theorem step_op {s : ByteArray} {at_ : List zab} (hx : l[i]? = some (opT s at_)) {P : za7 × List za4 → Prop} (h : T (fun k _ => zdg k ⟨o,(A.length : Int), false⟩ s at_ A) P) (g : ∀ r, P r → r.1.count ≤ 4096 ∧ T (fun k n => zay k l n r.1.open_ r.1.count r.1.deep ((i + 1 : Nat) : Int) r.2) Q) : T (fun k n => zay k l n o (A.length : Int) false (i : Int) A) Q := by
  have hl := (List.getElem?_eq_some_iff.1 hx).1
  refine T.step ?_
  unfold zay zfg zfe zff zfh
  refine T.dec (fun _ => T.getN hx (T.dec (fun h => by cases h) fun _ => T.dec (fun _ => T.bind h fun r hr => ?_) fun h => absurd rfl h)) fun h => absurd (show (i : Int) < _ by omega) h
  obtain ⟨g1, g2⟩ := g r hr
  refine T.dec (fun h => by omega) fun _ => ?_
  rw [zfd (by omega)]; exact g2
theorem step_cl {s : ByteArray} (hx : l[i]? = some (clT s)) {o' : List Int} (hA : A.length ≤ 4096) (h : T (fun k _ => zdi k ⟨o,(A.length : Int), false⟩ s A) (· = (⟨o', (A.length : Int), false⟩, A))) (g : T (fun k n => zay k l n o' (A.length : Int) false ((i + 1 : Nat) : Int) A) Q) : T (fun k n => zay k l n o (A.length : Int) false (i : Int) A) Q := by
  have hl := (List.getElem?_eq_some_iff.1 hx).1
  refine T.step ?_
  unfold zay zfg zfe zff zfh
  refine T.dec (fun _ => T.getN hx (T.dec (fun h => by cases h) fun _ => T.dec (fun h => by cases h) fun _ => T.dec (fun _ => T.bind h fun r hr => ?_) fun h => absurd rfl h)) fun h => absurd (show (i : Int) < _ by omega) h
  subst hr
  refine T.dec (fun h => by have h : (4096 : Int) < (A.length : Int) := h; omega) fun _ => ?_
  rw [zfd (by omega)]; exact g
end
end
end Go.Proofs.YtpfdbeafdjnbnaaGreatDoor
