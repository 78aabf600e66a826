/-
  Walks and laws of this seat.
-/
import Derived.Test.YtdjjeahiomackaaGreatBash
import Derived.Test.YtdjjeahiomackaaGreatL6t
import Derived.Test.YtdjjeahiomackaaGreatGb
import Derived.Test.YtdjjeahiomackaaGreatRows
namespace Go.Proofs.YtdjjeahiomackaaGreat
set_option linter.unusedVariables false
set_option linter.unusedSimpArgs false
set_option linter.unusedSectionVars false
set_option maxHeartbeats 4000000
set_option maxRecDepth 100000
open Go.RowKit Go.Sl
def zdg (y6 : (List Int)) (y11 : Int) (y15 : (List za0)) (y26 : Bool) : Option (za2 × (List za0)) :=
  some (({open_ := y6, count := (w64 (y11 + 1)), deep := y26} : za2), y15)
def zdh (y6 : (List Int)) (y11 : Int) (y12 : Bool) (y15 : (List za0)) (y21 : Int) : Option (za2 × (List za0)) :=
  (bif y12 then zdg y6 y11 y15 true else
  zdg y6 y11 y15 (decide (256 < y21)))
def zb5 (y6 : (List Int)) (y11 : Int) (y12 : Bool) (y15 : (List za0)) : Nat → Int → Int → Option (za2 × (List za0))
  | 0, _, _ => none
  | k36 + 1, y28, y29 =>
  (bif (!(decide (y29 = -1))) then (focM y15 [] y29).bind fun x38 =>
  (zb5 y6 y11 y12 y15 k36) (w64 (y28 + 1)) x38.above else
  zdh y6 y11 y12 y15 y28)
def zc4 (n : Nat) (p1 : Int) (y6 : (List Int)) (y11 : Int) (y12 : Bool) (y15 : (List za0)) : Option (za2 × (List za0)) :=
  zb5 y6 y11 y12 y15 n 0 p1
def zdp (n : Nat) (p0 : za2) (p1 : Int) (p2 : Int) (A : (List za0)) : Option (za2 × (List za0)) :=
  (bif (decide (p2 = -1)) then (zb7 n p0 A).bind fun x56 =>
  (focM A [] p1).bind fun x66 =>
  (focM A [p1.toNat] x56.1).bind fun x83 =>
  (appM 8 x83.kids [p1]).bind fun x107 =>
  zc4 n p1 x56.2.open_ x56.2.count x56.2.deep (setM (setM A x56.1 ({name := x83.name, text := x83.text, attrs := x83.attrs, above := x83.above, kids := x107} : za0)) p1 ({name := x66.name, text := x66.text, attrs := x66.attrs, above := x56.1, kids := x66.kids} : za0)) else
  (focM A [] p2).bind fun x114 =>
  (focM A [p2.toNat] p1).bind fun x131 =>
  (focM A [p1.toNat, p2.toNat] x114.above).bind fun x148 =>
  (idxP x148.kids p2).bind fun x166 =>
  (insM x148.kids x166 p1).bind fun x174 =>
  zc4 n p1 p0.open_ p0.count p0.deep (setM (setM (setM A x114.above ({name := x148.name, text := x148.text, attrs := x148.attrs, above := x148.above, kids := x174} : za0)) p1 ({name := x131.name, text := x131.text, attrs := x131.attrs, above := x114.above, kids := x131.kids} : za0)) p2 x114))
theorem zho (n : Nat) {f : Fz} {ab : List Nat} {A : List za0} {p0 : za2} {pb0 : Nat} {pv0_0 : Value} {pv0_0r : List (List Value)} {p1 : Int} {a1 : Value} {p2 : Int} {a2 : Value} {res : (za2 × (List za0))} (pv0_0h : RW (tP ab) f pv0_0r p0.open_) (h1 : RP ab a1 p1) (h2 : RP ab a2 p2) (hm : zdp n p0 p1 p2 A = some res) : DoesA nsh Tryz.prog 38 [.pointer (some ⟨pb0,0, none⟩), a1, a2] f [.blk pb0 (.cells #[pv0_0, .int .i64 p0.count, .bool p0.deep] 55 (0,0)), .row pv0_0 49 1 pv0_0r] ab A res.2 (fun r f' ab' L' => ∃ (dp0_0 : Value) (dp0_0r : List (List Value)), L' = [.blk pb0 (.cells #[dp0_0, .int .i64 res.1.count, .bool res.1.deep] 55 (0,0)), .row dp0_0 49 1 dp0_0r] ∧ r = .tuple #[] ∧ RW (tP ab') f' dp0_0r res.1.open_) := by
 unfold zdp at hm
 intro w0 L0 L w hA hC
 have hbs := List.prefix_refl ab
 replace hC : Cw w0 f (.blk pb0 (.cells #[pv0_0, .int .i64 p0.count, .bool p0.deep] 55 (0,0)) :: .row pv0_0 49 1 pv0_0r :: L) w := hC
 refine enter Tryz.func38 rfl Tryz.ntmps38 (by simp) hC fun a hs => ?_
 have hle := Fz.le.refl f
 refine Ws fun hK1 => Wq fun hK2 => sM hs rfl fun hs => s1 hs (y_apnil rfl rfl h2 Tryz.underlying49) fun hs => za1 <| hK2 ?_
 have hbase16 := Fz.le.refl f
 obtain ⟨bK17, hbE18⟩ : ∃ z, z = ab := ⟨_, rfl⟩
 have hbb19 : bK17 <+: ab := by rw [hbE18]; exact List.prefix_refl _
 refine zay (fun a w => ∃ (f4 : Fz) (L : List Ent) (ab : List Nat) (y6 : (List Int)) (y11 : Int) (y12 : Bool) (y15 : (List za0)) (v7 : Value) (rw8 : List (List Value)) (v13 : Value), Fz.le f f4 ∧ bK17 <+: ab ∧ AR nsh f4 ab y15 [] L0 L ∧ zc4 n p1 y6 y11 y12 y15 = some res ∧ RW (tP ab) f4 rw8 y6 ∧ RP ab v13 p1 ∧ St 90 w0 f4 (.blk pb0 (.cells #[v7, .int .i64 (y11), .bool (y12)] 55 (0,0)) :: .row v7 49 1 rw8 :: L) [(0, .pointer (some ⟨pb0,0, none⟩)),(1, v13)] a w) ?_ ?_
 ·clear hs hm
  clear hbase16
  clear hA
  rintro a w ⟨f4, L, ab, y6, y11, y12, y15, v7, rw8, v13, hl5, hbx20, hA, hm, hW9, hp14, hs⟩
  have hbb19 := hbx20; rw [hbE18] at hbx20
  replace hbs := hbs.trans hbx20
  replace hle := hle.trans hl5
  unfold zc4 at hm
  refine hK1 <| Wq fun hK3 => sM hs rfl fun hs => s1 hs (za6 rfl) fun hs => s1 (v := .pointer (some ⟨pb0,1, none⟩)) hs (za3 rfl (FO.of (off := 1) Tryz.underlying55 rfl rfl ti3 (by decide))) fun hs => s1 (v := .int .i64 (y11)) hs (y_ld rfl Tryz.underlying3 rfl (Cell.blk (.head _) rfl)) fun hs => s1 hs (zga rfl rfl rfl) fun hs => s1 hs (za6 rfl) fun hs => s1 (v := .pointer (some ⟨pb0,1, none⟩)) hs (za3 rfl (FO.of (off := 1) Tryz.underlying55 rfl rfl ti3 (by decide))) fun hs => ?_
  refine sstore 0 hs rfl rfl rfl ti3 rfl fun _ _ hs => za1 <| hK3 <| Wq fun hK4 => sA hs rfl fun hs => za1 <| hK4 <| Ws fun hK5 => Ws fun hK6 => ?_
  refine za5 <| sM hs rfl fun hs => sA hs rfl fun hs => za1 <| hK6 ?_
  obtain ⟨bK22, hbE23⟩ : ∃ z, z = ab := ⟨_, rfl⟩
  have hbb24 : bK22 <+: ab := by rw [hbE23]; exact List.prefix_refl _
  refine zay (fun a w => ∃ (L : List Ent) (ab : List Nat) (y21 : Int), bK22 <+: ab ∧ AR nsh f4 ab y15 [] L0 L ∧ zdh y6 y11 y12 y15 y21 = some res ∧ St 90 w0 f4 (.blk pb0 (.cells #[v7, .int .i64 ((w64 (y11 + 1))), .bool (y12)] 55 (0,0)) :: .row v7 49 1 rw8 :: L) [(0, .pointer (some ⟨pb0,0, none⟩)),(6, .int .i64 (y21))] a w) ?_ ?_
  ·clear hs hm
   clear hA
   rintro a w ⟨L, ab, y21, hbx25, hA, hm, hs⟩
   have hbb24 := hbx25; rw [hbE23] at hbx25
   replace hW9 := hW9.grow hbx25
   replace hbs := hbs.trans hbx25
   unfold zdh at hm
   refine hK5 ?_
   refine zay (fun a w => ∃ (y26 : Bool), zdg y6 y11 y15 y26 = some res ∧ St 90 w0 f4 (.blk pb0 (.cells #[v7, .int .i64 ((w64 (y11 + 1))), .bool (y26)] 55 (0,0)) :: .row v7 49 1 rw8 :: L) [] a w) ?_ ?_
   ·clear hs hm
    rintro a w ⟨y26, hm, hs⟩
    unfold zdg at hm
    obtain rfl := Option.some.inj hm
    refine RtV0 hs rfl  ?_
    exact ⟨_, f4, ab,[.blk pb0 (.cells #[v7, .int .i64 ((w64 (y11 + 1))), .bool (y26)] 55 (0,0)), .row v7 49 1 rw8], L, rfl, hle, hbs, hA, hs.cw, v7, rw8, rfl, rfl, hW9⟩
   refine za5 <| sM hs rfl fun hs => sM hs rfl fun hs => s1 hs (za6 rfl) fun hs => s1 (v := .pointer (some ⟨pb0,2, none⟩)) hs (za3 rfl (FO.of (off := 2) Tryz.underlying55 rfl rfl ti4 (by decide))) fun hs => s1 (v := .bool (y12)) hs (y_ld rfl Tryz.underlying4 rfl (Cell.blk (.head _) rfl)) fun hs => sM hs rfl fun hs => ?_
   refine St.split hs (t := 84) rfl (fun hg27 hs => ?_) (fun hg27 hs => ?_)
   ·replace hm := oc_t hg27 hm
    refine s3 hs fun hs => s3 hs fun hs => sP hs rfl rfl fun hs => s1 hs (za6 rfl) fun hs => s1 (v := .pointer (some ⟨pb0,2, none⟩)) hs (za3 rfl (FO.of (off := 2) Tryz.underlying55 rfl rfl ti4 (by decide))) fun hs => sstore 0 hs rfl rfl rfl ti4 rfl fun _ _ hs => za1 ?_
    exact ⟨true, hm, hs.sub trivial⟩
   replace hm := oc_f hg27 hm
   refine s2 (v := .int .i64 (y21)) hs (za9 rfl) fun hs => s2 hs (zm0 rfl rfl) fun hs => sP hs rfl rfl fun hs => s1 hs (za6 rfl) fun hs => s1 (v := .pointer (some ⟨pb0,2, none⟩)) hs (za3 rfl (FO.of (off := 2) Tryz.underlying55 rfl rfl ti4 (by decide))) fun hs => sstore 0 hs rfl rfl rfl ti4 rfl fun _ _ hs => za1 ?_
   exact ⟨decide (256 < y21), hm, hs.sub trivial⟩
  refine zas fun Qe7 hB7 hO7 => ?_
  obtain ⟨bK32, hbE33⟩ : ∃ z, z = ab := ⟨_, rfl⟩
  have hbb34 : bK32 <+: ab := by rw [hbE33]; exact List.prefix_refl _
  refine zeu (fun (k : Nat) a w => ∃ (L : List Ent) (ab : List Nat) (y28 : Int) (y29 : Int) (v30 : Value), bK32 <+: ab ∧ AR nsh f4 ab y15 [] L0 L ∧ zb5 y6 y11 y12 y15 k y28 y29 = some res ∧ RP ab v30 y29 ∧ St 90 w0 f4 (.blk pb0 (.cells #[v7, .int .i64 ((w64 (y11 + 1))), .bool (y12)] 55 (0,0)) :: .row v7 49 1 rw8 :: L) [(0, .pointer (some ⟨pb0,0, none⟩)),(6, .int .i64 (y28)),(7, v30)] a w) (fun k => k) n ⟨L, ab,0, p1, v13, hbb34, hA, hm, hp14, hs.sub ⟨rfl, rfl, rfl, trivial⟩⟩ ?_
  clear hs hm
  clear hA
  intro k
  rintro a w ⟨L, ab, y28, y29, v30, hbx35, hA, hm, hp31, hs⟩
  have hbb34 := hbx35; rw [hbE33] at hbx35
  replace hbb24 := hbb24.trans hbx35
  intro K8 hK8
  cases k with
  | zero => simp [zb5] at hm
  | succ k36 =>
   rw [zb5] at hm
   refine Ws fun hK9 => Wq fun hK10 => sM hs rfl fun hs => s1 hs (zp8 rfl rfl hp31 Tryz.underlying49) fun hs => za1 <| hK10 ?_
   refine zag hs rfl (fun hg37 => ?_) (fun hg37 => ?_)
   ·replace hm := oc_t hg37 hm
    refine zak <| hK9 <| Ws fun hK11 => zas fun Qe12 hB12 hO12 => za5 <| sM hs rfl fun hs => s1 hs (zga rfl rfl rfl) fun hs => sA hs rfl fun hs => za1 <| hK11 ?_
    refine za5 <| sM hs rfl fun hs => ?_
    obtain ⟨x38, hx39, hm⟩ := ob hm
    obtain ⟨b40, rfl⟩ := RP.ptr hp31 hx39
    have hp41 := hp31
    have hq9 := AR.focusP [.blk pb0 (.cells #[v7, .int .i64 ((w64 (y11 + 1))), .bool (y12)] 55 (0,0)), .row v7 49 1 rw8] hA hs hx39 hp41; clear hs
    clear hA
    obtain ⟨_, L, ⟨v42, v47, v49, rw50, rfl, ⟨rw43, hR44, hW45⟩, hp48, hW51⟩, hA, hs⟩ := hq9
    refine s1 hs (za6 rfl) fun hs => s1 (v := .pointer (some ⟨b40,3, none⟩)) hs (za3 rfl (FO.of (off := 3) Tryz.underlying52 rfl rfl ti49 (by decide))) fun hs => s1 (v := v47) hs (y_ld rfl Tryz.underlying49 rfl (Cell.blk (.head _) rfl)) fun hs => sA hs rfl fun hs => za1 ?_
    replace hs := hs.front 1
    replace hs := hs.front 1
    have hq9 := AR.unfocusS [.blk pb0 (.cells #[v7, .int .i64 ((w64 (y11 + 1))), .bool (y12)] 55 (0,0)), .row v7 49 1 rw8] hA hs hx39 hp41 (⟨v42, v47, v49, rw50, rfl, ⟨rw43, hR44, hW45⟩, hp48, hW51⟩); clear hs hA
    obtain ⟨L, hA, hs⟩ := hq9
    exact hK8 k36 _ _ (Nat.lt_succ_self _) ⟨L, ab,(w64 (y28 + 1)), x38.above, v47, hbb34, hA, hm, hp48, hs.sub ⟨rfl, rfl, rfl, trivial⟩⟩
   replace hm := oc_f hg37 hm
   refine ze8 <| hB7 _ _ ?_
   exact ⟨L, ab, y28, hbb24, hA, hm, hs.sub ⟨rfl, rfl, trivial⟩⟩
 refine zag hs rfl (fun hg55 => ?_) (fun hg55 => ?_)
 ·replace hm := oc_t hg55 hm
  refine Wq fun hK13 => sM hs rfl fun hs => sM hs rfl fun hs => ?_
  obtain ⟨x56, hx57, hm⟩ := ob hm
  replace hs := hs.front 1
  replace hs := hs.front 1
  refine zev (Lr := [.blk pb0 (.cells #[pv0_0, .int .i64 (p0.count), .bool (p0.deep)] 55 (0,0)), .row pv0_0 49 1 pv0_0r]) [] hA hs rfl has34 rfl (zca n pv0_0h hx57) (.free rfl) (by decide) ?_; clear hs; (try clear a w)
  rintro v60 f58 _ a w hf59 ⟨_, v62, rw63, rfl, rfl, hp61, hW64⟩ hs
  replace hA := hA.le hf59
  replace hbase16 := hbase16.trans hf59
  obtain ⟨x66, hx67, hm⟩ := ob hm
  obtain ⟨b68, rfl⟩ := RP.ptr h1 hx67
  have hp69 := h1
  have hq9 := AR.focusP [.blk pb0 (.cells #[v62, .int .i64 (x56.2.count), .bool (x56.2.deep)] 55 (0,0)), .row v62 49 1 rw63] hA hs hx67 hp69; clear hs
  clear hA
  obtain ⟨_, L, ⟨v70, v75, v77, rw78, rfl, ⟨rw71, hR72, hW73⟩, hp76, hW79⟩, hA, hs⟩ := hq9
  refine s1 hs (za6 rfl) fun hs => s1 (v := .pointer (some ⟨b68,3, none⟩)) hs (za3 rfl (FO.of (off := 3) Tryz.underlying52 rfl rfl ti49 (by decide))) fun hs => sstore 0 hs rfl rfl rfl ti49 hp61.one fun _ _ hs => za1 <| hK13 ?_
  obtain ⟨x83, hx84, hm⟩ := ob hm
  obtain ⟨b85, rfl⟩ := RP.ptr hp61 hx84
  have hp86 := hp61
  have hq9 := AR.focusP [.blk b68 (.cells #[.string (x66.name), .string (x66.text), v70, .pointer (some ⟨b85,0, none⟩), v77] 52 (0,0)), .row v77 49 1 rw78, .blk pb0 (.cells #[v62, .int .i64 (x56.2.count), .bool (x56.2.deep)] 55 (0,0)), .row v62 49 1 rw63] hA hs hx84 hp86; clear hs
  clear hA
  obtain ⟨_, L, ⟨v87, v92, v94, rw95, rfl, ⟨rw88, hR89, hW90⟩, hp93, hW96⟩, hA, hs⟩ := hq9
  have hsD := hs.subL (L' := .blk b85 (.cells #[.string (x83.name), .string (x83.text), v87, v92, v94] 52 (0,0)) :: .blk b68 (.cells #[.string (x66.name), .string (x66.text), v70, .pointer (some ⟨b85,0, none⟩), v77] 52 (0,0)) :: []) (.cons_cons _ (.cons _ (.cons_cons _ (.cons _ (.cons _ (.cons _ (List.nil_sublist _)))))))
  have hbd100 := Fz.le.refl f58
  refine zhu hs (.blk b85 (.cells #[.string (x83.name), .string (x83.text), v87, v92, v94] 52 (0,0)) :: .blk b68 (.cells #[.string (x66.name), .string (x66.text), v70, .pointer (some ⟨b85,0, none⟩), v77] 52 (0,0)) :: []) [16] (.look 0 (.look 1 (.look 2 (.look 3 (.look 4 (.look 5 (.look 6 (.look 7 (.look 8 (.look 9 (.look 10 (.look 11 (.any [12] (fun _ => .any [13] (fun _ => .look 14 (.look 15 (.any [16] (fun _ => .done)))))))))))))))))) mixed (by kernel_rfl) fun _ he => uy (v := .pointer (some ⟨b68,0, none⟩)) 0 he rfl (za9 rfl) fun _ he => uy 1 he rfl (za6 rfl) fun _ he => uy (v := .pointer (some ⟨b68,3, none⟩)) 2 he rfl (za3 rfl (FO.of (off := 3) Tryz.underlying52 rfl rfl ti49 (by decide))) fun _ he => uy (v := .pointer (some ⟨b85,0, none⟩)) 3 he rfl (y_ld rfl Tryz.underlying49 rfl (Cell.blk (.tail _ (.head _)) rfl)) fun _ he => uy (v := .pointer (some ⟨b68,0, none⟩)) 4 he rfl (za9 rfl) fun _ he => uy 5 he rfl (za6 rfl) fun _ he => uy (v := .pointer (some ⟨b68,3, none⟩)) 6 he rfl (za3 rfl (FO.of (off := 3) Tryz.underlying52 rfl rfl ti49 (by decide))) fun _ he => uy (v := .pointer (some ⟨b85,0, none⟩)) 7 he rfl (y_ld rfl Tryz.underlying49 rfl (Cell.blk (.tail _ (.head _)) rfl)) fun _ he => uy 8 he rfl (za6 rfl) fun _ he => ?_
  refine uy (v := .pointer (some ⟨b85,4, none⟩)) 9 he rfl (za3 rfl (FO.of (off := 4) Tryz.underlying52 rfl rfl ti50 (by decide))) fun _ he => uy (v := v94) 10 he rfl (y_ld rfl Tryz.underlying50 rfl (Cell.blk (.head _) rfl)) fun _ he => uy (v := .pointer (some ⟨b68,0, none⟩)) 11 he rfl (za9 rfl) fun _ he => ?_
  refine zd1 he rfl ?_; clear he; (try clear a); intro a w hs
  refine zh8 hs rfl Tryz.underlying50 ti49 rfl rfl fun v101 _ _ hs => ?_
  have hW102 : RW (tP ab) f58 [[.pointer (some ⟨b68,0, none⟩)]] [p1] := RW.single (⟨_, rfl, hp69⟩)
  generalize hgrw103 : ([[.pointer (some ⟨b68,0, none⟩)]] : List (List Value)) = rw103 at hs hW102; clear hgrw103
  have ho106 : v101.oneCell' = true := hs.one (i := 0) rfl
  refine uon hs fun _ he => ?_
  refine zd1 he rfl ?_; clear he; (try clear a); intro a w hs
  obtain ⟨x107, hx108, hm⟩ := ob hm
  obtain ⟨hbx107, hex107⟩ := zcs hx108
  have hW111 := hW96.append hW102; rw [hex107] at hW111
  refine zdb (i := 2) hs rfl rfl rfl (Rd.st hs (.head _)) Tryz.underlying50 ti49 (by decide) (by rw [RW.len hW96, RW.len hW102]; exact hbx107) (.free rfl) (by decide) fun v109 _ _ hs => ?_
  generalize hgx107 : rw95 ++ rw103 = rw110 at hs hW111; clear hgx107
  replace hs := hs.erase 0
  have ho113 : v109.oneCell' = true := hs.one (i := 1) rfl
  refine uon hs fun _ he => uy 14 he rfl (za6 rfl) fun _ he => uy (v := .pointer (some ⟨b85,4, none⟩)) 15 he rfl (za3 rfl (FO.of (off := 4) Tryz.underlying52 rfl rfl ti50 (by decide))) fun _ he => ?_
  refine zd1 he rfl ?_; clear he; (try clear a); intro a w hs
  refine sstore 0 hs rfl rfl rfl ti50 ho113 fun _ _ hs => uend hs fun _ he => ?_
  refine zmj he ?_; clear he; (try clear a); intro w hs; try clear hsD
  replace hs := hs.front 1
  replace hs := hs.front 1
  have hq9 := AR.unfocusI (x := ({name := x83.name, text := x83.text, attrs := x83.attrs, above := x83.above, kids := x107} : za0)) [.blk b68 (.cells #[.string (x66.name), .string (x66.text), v70, .pointer (some ⟨b85,0, none⟩), v77] 52 (0,0)), .row v77 49 1 rw78, .blk pb0 (.cells #[v62, .int .i64 (x56.2.count), .bool (x56.2.deep)] 55 (0,0)), .row v62 49 1 rw63] hA hs (zdu hx84).1 hp86 (⟨v87, v92, v109, rw110, rfl, ⟨rw88, hR89, hW90⟩, hp93, hW111⟩); clear hs hA
  obtain ⟨L, hA, hs⟩ := hq9
  replace hs := hs.front 1
  replace hs := hs.front 1
  have hq9 := AR.unfocusI (x := ({name := x66.name, text := x66.text, attrs := x66.attrs, above := x56.1, kids := x66.kids} : za0)) [.blk pb0 (.cells #[v62, .int .i64 (x56.2.count), .bool (x56.2.deep)] 55 (0,0)), .row v62 49 1 rw63] hA hs (zdu hx67).1 hp69 (⟨v70, .pointer (some ⟨b85,0, none⟩), v77, rw78, rfl, ⟨rw71, hR72, hW73⟩, hp86, hW79⟩); clear hs hA
  obtain ⟨L, hA, hs⟩ := hq9
  exact ⟨_, L, ab, x56.2.open_, x56.2.count, x56.2.deep,(setM (setM A x56.1 ({name := x83.name, text := x83.text, attrs := x83.attrs, above := x83.above, kids := x107} : za0)) p1 ({name := x66.name, text := x66.text, attrs := x66.attrs, above := x56.1, kids := x66.kids} : za0)), v62, rw63, .pointer (some ⟨b68,0, none⟩), hbase16, hbb19, hA, hm, hW64, hp69, hs.sub ⟨rfl, rfl, trivial⟩⟩
 replace hm := oc_f hg55 hm
 refine Wq fun hK14 => sM hs rfl fun hs => sM hs rfl fun hs => ?_
 obtain ⟨x114, hx115, hm⟩ := ob hm
 obtain ⟨b116, rfl⟩ := RP.ptr h2 hx115
 have hp117 := h2
 have hq9 := AR.focusP [.blk pb0 (.cells #[pv0_0, .int .i64 (p0.count), .bool (p0.deep)] 55 (0,0)), .row pv0_0 49 1 pv0_0r] hA hs hx115 hp117; clear hs
 clear hA
 obtain ⟨_, L, ⟨v118, v123, v125, rw126, rfl, ⟨rw119, hR120, hW121⟩, hp124, hW127⟩, hA, hs⟩ := hq9
 refine s1 hs (za6 rfl) fun hs => s1 (v := .pointer (some ⟨b116,3, none⟩)) hs (za3 rfl (FO.of (off := 3) Tryz.underlying52 rfl rfl ti49 (by decide))) fun hs => s1 (v := v123) hs (y_ld rfl Tryz.underlying49 rfl (Cell.blk (.head _) rfl)) fun hs => ?_
 obtain ⟨x131, hx132, hm⟩ := ob hm
 obtain ⟨b133, rfl⟩ := RP.ptr h1 hx132
 have hp134 := h1
 have hq9 := AR.focusP [.blk b116 (.cells #[.string (x114.name), .string (x114.text), v118, v123, v125] 52 (0,0)), .row v125 49 1 rw126, .blk pb0 (.cells #[pv0_0, .int .i64 (p0.count), .bool (p0.deep)] 55 (0,0)), .row pv0_0 49 1 pv0_0r] hA hs hx132 hp134; clear hs
 clear hA
 obtain ⟨_, L, ⟨v135, v140, v142, rw143, rfl, ⟨rw136, hR137, hW138⟩, hp141, hW144⟩, hA, hs⟩ := hq9
 refine s1 hs (za6 rfl) fun hs => s1 (v := .pointer (some ⟨b133,3, none⟩)) hs (za3 rfl (FO.of (off := 3) Tryz.underlying52 rfl rfl ti49 (by decide))) fun hs => sstore 0 hs rfl rfl rfl ti49 hp124.one fun _ _ hs => za1 <| hK14 ?_
 obtain ⟨x148, hx149, hm⟩ := ob hm
 obtain ⟨b150, rfl⟩ := RP.ptr hp124 hx149
 have hp151 := hp124
 have hq9 := AR.focusP [.blk b133 (.cells #[.string (x131.name), .string (x131.text), v135, .pointer (some ⟨b150,0, none⟩), v142] 52 (0,0)), .row v142 49 1 rw143, .blk b116 (.cells #[.string (x114.name), .string (x114.text), v118, .pointer (some ⟨b150,0, none⟩), v125] 52 (0,0)), .row v125 49 1 rw126, .blk pb0 (.cells #[pv0_0, .int .i64 (p0.count), .bool (p0.deep)] 55 (0,0)), .row pv0_0 49 1 pv0_0r] hA hs hx149 hp151; clear hs
 clear hA
 obtain ⟨_, L, ⟨v152, v157, v159, rw160, rfl, ⟨rw153, hR154, hW155⟩, hp158, hW161⟩, hA, hs⟩ := hq9
 have hsD := hs.subL (L' := .blk b150 (.cells #[.string (x148.name), .string (x148.text), v152, v157, v159] 52 (0,0)) :: .blk b133 (.cells #[.string (x131.name), .string (x131.text), v135, .pointer (some ⟨b150,0, none⟩), v142] 52 (0,0)) :: []) (.cons_cons _ (.cons _ (.cons_cons _ (.cons _ (.cons _ (.cons _ (.cons _ (.cons _ (List.nil_sublist _)))))))))
 have hbd165 := Fz.le.refl f
 refine zhu hs (.blk b150 (.cells #[.string (x148.name), .string (x148.text), v152, v157, v159] 52 (0,0)) :: .blk b133 (.cells #[.string (x131.name), .string (x131.text), v135, .pointer (some ⟨b150,0, none⟩), v142] 52 (0,0)) :: []) [25] (.look 0 (.look 1 (.look 2 (.look 3 (.look 4 (.look 5 (.look 6 (.look 7 (.look 8 (.look 9 (.look 10 (.look 11 (.look 12 (.look 13 (.look 14 (.look 15 (.look 16 (.look 17 (.look 18 (.look 20 (.any [19,21] (fun i => bif Nat.beq i 19 then .any [21] (fun _ => .any [22] (fun _ => .look 23 (.look 24 (.any [25] (fun _ => .done))))) else .any [19] (fun _ => .any [22] (fun _ => .look 23 (.look 24 (.any [25] (fun _ => .done))))))))))))))))))))))))))) mixed (by kernel_rfl) fun _ he => uy (v := .pointer (some ⟨b133,0, none⟩)) 0 he rfl (za9 rfl) fun _ he => uy 1 he rfl (za6 rfl) fun _ he => uy (v := .pointer (some ⟨b133,3, none⟩)) 2 he rfl (za3 rfl (FO.of (off := 3) Tryz.underlying52 rfl rfl ti49 (by decide))) fun _ he => uy (v := .pointer (some ⟨b150,0, none⟩)) 3 he rfl (y_ld rfl Tryz.underlying49 rfl (Cell.blk (.tail _ (.head _)) rfl)) fun _ he => uy (v := .pointer (some ⟨b133,0, none⟩)) 4 he rfl (za9 rfl) fun _ he => uy 5 he rfl (za6 rfl) fun _ he => uy (v := .pointer (some ⟨b133,3, none⟩)) 6 he rfl (za3 rfl (FO.of (off := 3) Tryz.underlying52 rfl rfl ti49 (by decide))) fun _ he => uy (v := .pointer (some ⟨b150,0, none⟩)) 7 he rfl (y_ld rfl Tryz.underlying49 rfl (Cell.blk (.tail _ (.head _)) rfl)) fun _ he => uy 8 he rfl (za6 rfl) fun _ he => ?_
 refine uy (v := .pointer (some ⟨b150,4, none⟩)) 9 he rfl (za3 rfl (FO.of (off := 4) Tryz.underlying52 rfl rfl ti50 (by decide))) fun _ he => uy (v := v159) 10 he rfl (y_ld rfl Tryz.underlying50 rfl (Cell.blk (.head _) rfl)) fun _ he => uy (v := .pointer (some ⟨b133,0, none⟩)) 11 he rfl (za9 rfl) fun _ he => uy 12 he rfl (za6 rfl) fun _ he => uy (v := .pointer (some ⟨b133,3, none⟩)) 13 he rfl (za3 rfl (FO.of (off := 3) Tryz.underlying52 rfl rfl ti49 (by decide))) fun _ he => uy (v := .pointer (some ⟨b150,0, none⟩)) 14 he rfl (y_ld rfl Tryz.underlying49 rfl (Cell.blk (.tail _ (.head _)) rfl)) fun _ he => uy 15 he rfl (za6 rfl) fun _ he => uy (v := .pointer (some ⟨b150,4, none⟩)) 16 he rfl (za3 rfl (FO.of (off := 4) Tryz.underlying52 rfl rfl ti50 (by decide))) fun _ he => uy (v := v159) 17 he rfl (y_ld rfl Tryz.underlying50 rfl (Cell.blk (.head _) rfl)) fun _ he => uy (v := .pointer (some ⟨b116,0, none⟩)) 18 he rfl (za9 rfl) fun _ he => ?_
 refine uy (v := .pointer (some ⟨b133,0, none⟩)) 20 he rfl (za9 rfl) fun _ he => ?_
 refine T_any2 he rfl rfl ?_ ?_ <;> (clear he; (try clear a); intro a w hs)
 ·obtain ⟨x166, hx167, hm⟩ := ob hm
  refine sy hs (zds (cap := []) rfl has37 rfl (fun w9 hw9 => zi5 _ (f := f) (Rd.st hs (.tail _ (.head _))) hW161 hp117 hA.nodup (PBH.hole (PBH.hole (PBH.hole (hA.pbh.app [.blk b150 (.cells #[.string (x148.name), .string (x148.text), v152, v157, v159] 52 (0,0)), .row v159 49 1 rw160, .blk b133 (.cells #[.string (x131.name), .string (x131.text), v135, .pointer (some ⟨b150,0, none⟩), v142] 52 (0,0)), .row v142 49 1 rw143, .blk b116 (.cells #[.string (x114.name), .string (x114.text), v118, .pointer (some ⟨b150,0, none⟩), v125] 52 (0,0)), .row v125 49 1 rw126, .blk pb0 (.cells #[pv0_0, .int .i64 (p0.count), .bool (p0.deep)] 55 (0,0)), .row pv0_0 49 1 pv0_0r]) hp151 (.head _)) hp134 (.tail _ (.tail _ (.head _)))) hp117 (.tail _ (.tail _ (.tail _ (.tail _ (.head _)))))) hx167 hw9)) fun _ _ hs => uon hs fun _ he => ?_
  refine zd1 he rfl ?_; clear he; (try clear a); intro a w hs
  refine zh8 hs rfl Tryz.underlying50 ti49 rfl rfl fun v168 _ _ hs => ?_
  have hW169 : RW (tP ab) f [[.pointer (some ⟨b133,0, none⟩)]] [p1] := RW.single (⟨_, rfl, hp134⟩)
  generalize hgrw170 : ([[.pointer (some ⟨b133,0, none⟩)]] : List (List Value)) = rw170 at hs hW169; clear hgrw170
  have ho173 : v168.oneCell' = true := hs.one (i := 0) rfl
  refine uon hs fun _ he => ?_
  refine zd1 he rfl ?_; clear he; (try clear a); intro a w hs
  obtain ⟨x174, hx175, hm⟩ := ob hm
  replace hs := hs.front 2
  refine zdo (Lr := [.row v159 49 1 rw160, .row v168 49 1 rw170]) (Lf := .blk b150 (.cells #[.string (x148.name), .string (x148.text), v152, v157, v159] 52 (0,0)) :: .blk b133 (.cells #[.string (x131.name), .string (x131.text), v135, .pointer (some ⟨b150,0, none⟩), v142] 52 (0,0)) :: .row v142 49 1 rw143 :: .blk b116 (.cells #[.string (x114.name), .string (x114.text), v118, .pointer (some ⟨b150,0, none⟩), v125] 52 (0,0)) :: .row v125 49 1 rw126 :: .blk pb0 (.cells #[pv0_0, .int .i64 (p0.count), .bool (p0.deep)] 55 (0,0)) :: .row pv0_0 49 1 pv0_0r :: L) hs rfl has62 rfl rfl (zii n hW161 hW169 hx175) (.free rfl) (by decide) ?_; clear hs; (try clear a w)
  rintro v178 f176 _ a w hf177 ⟨_, rw179, rfl, rfl, hW180⟩ hs
  have pv181 := pv0_0h.le hf177
  have hR182 := hR120.le hf177
  have hW183 := hW121.le hf177
  have hW184 := hW127.le hf177
  have hR185 := hR137.le hf177
  have hW186 := hW138.le hf177
  have hW187 := hW144.le hf177
  have hR188 := hR154.le hf177
  have hW189 := hW155.le hf177
  have hW190 := hW161.le hf177
  have hA191 := hA.le hf177
  have hW192 := hW169.le hf177
  replace hbase16 := hbase16.trans hf177
  replace hs := hs.erase 1
  have ho194 : v178.oneCell' = true := hs.one (i := 0) rfl
  refine uon hs fun _ he => uy 23 he rfl (za6 rfl) fun _ he => uy (v := .pointer (some ⟨b150,4, none⟩)) 24 he rfl (za3 rfl (FO.of (off := 4) Tryz.underlying52 rfl rfl ti50 (by decide))) fun _ he => ?_
  refine zd1 he rfl ?_; clear he; (try clear a); intro a w hs
  refine sstore 1 hs rfl rfl rfl ti50 ho194 fun _ _ hs => uend hs fun _ he => ?_
  refine zmj he ?_; clear he; (try clear a); intro w hs; try clear hsD
  replace hs := hs.front 0
  replace hs := hs.front 1
  have hq9 := AR.unfocusI (x := ({name := x148.name, text := x148.text, attrs := x148.attrs, above := x148.above, kids := x174} : za0)) [.blk b133 (.cells #[.string (x131.name), .string (x131.text), v135, .pointer (some ⟨b150,0, none⟩), v142] 52 (0,0)), .row v142 49 1 rw143, .blk b116 (.cells #[.string (x114.name), .string (x114.text), v118, .pointer (some ⟨b150,0, none⟩), v125] 52 (0,0)), .row v125 49 1 rw126, .blk pb0 (.cells #[pv0_0, .int .i64 (p0.count), .bool (p0.deep)] 55 (0,0)), .row pv0_0 49 1 pv0_0r] hA191 hs (zdu hx149).1 hp151 (⟨v152, v157, v178, rw179, rfl, ⟨rw153, hR188, hW189⟩, hp158, hW180⟩); clear hs hA191
  obtain ⟨L, hA, hs⟩ := hq9
  replace hs := hs.front 1
  replace hs := hs.front 1
  have hq9 := AR.unfocusI (x := ({name := x131.name, text := x131.text, attrs := x131.attrs, above := x114.above, kids := x131.kids} : za0)) [.blk b116 (.cells #[.string (x114.name), .string (x114.text), v118, .pointer (some ⟨b150,0, none⟩), v125] 52 (0,0)), .row v125 49 1 rw126, .blk pb0 (.cells #[pv0_0, .int .i64 (p0.count), .bool (p0.deep)] 55 (0,0)), .row pv0_0 49 1 pv0_0r] hA hs (zdu hx132).1 hp134 (⟨v135, .pointer (some ⟨b150,0, none⟩), v142, rw143, rfl, ⟨rw136, hR185, hW186⟩, hp151, hW187⟩); clear hs hA
  obtain ⟨L, hA, hs⟩ := hq9
  replace hs := hs.front 1
  replace hs := hs.front 1
  have hq9 := AR.unfocusI (x := x114) [.blk pb0 (.cells #[pv0_0, .int .i64 (p0.count), .bool (p0.deep)] 55 (0,0)), .row pv0_0 49 1 pv0_0r] hA hs (zdu hx115).1 hp117 (⟨v118, .pointer (some ⟨b150,0, none⟩), v125, rw126, rfl, ⟨rw119, hR182, hW183⟩, hp151, hW184⟩); clear hs hA
  obtain ⟨L, hA, hs⟩ := hq9
  exact ⟨_, L, ab, p0.open_, p0.count, p0.deep,(setM (setM (setM A x114.above ({name := x148.name, text := x148.text, attrs := x148.attrs, above := x148.above, kids := x174} : za0)) p1 ({name := x131.name, text := x131.text, attrs := x131.attrs, above := x114.above, kids := x131.kids} : za0)) p2 x114), pv0_0, pv0_0r, .pointer (some ⟨b133,0, none⟩), hbase16, hbb19, hA, hm, pv181, hp134, hs.sub ⟨rfl, rfl, trivial⟩⟩
 refine zh8 hs rfl Tryz.underlying50 ti49 rfl rfl fun v195 _ _ hs => ?_
 have hW196 : RW (tP ab) f [[.pointer (some ⟨b133,0, none⟩)]] [p1] := RW.single (⟨_, rfl, hp134⟩)
 generalize hgrw197 : ([[.pointer (some ⟨b133,0, none⟩)]] : List (List Value)) = rw197 at hs hW196; clear hgrw197
 have ho200 : v195.oneCell' = true := hs.one (i := 0) rfl
 refine uon hs fun _ he => ?_
 refine zd1 he rfl ?_; clear he; (try clear a); intro a w hs
 obtain ⟨x201, hx202, hm⟩ := ob hm
 refine sy hs (zds (cap := []) rfl has37 rfl (fun w9 hw9 => zi5 _ (f := f) (Rd.st hs (.tail _ (.tail _ (.head _)))) hW161 hp117 hA.nodup (PBH.hole (PBH.hole (PBH.hole (hA.pbh.app [.row v195 49 1 rw197, .blk b150 (.cells #[.string (x148.name), .string (x148.text), v152, v157, v159] 52 (0,0)), .row v159 49 1 rw160, .blk b133 (.cells #[.string (x131.name), .string (x131.text), v135, .pointer (some ⟨b150,0, none⟩), v142] 52 (0,0)), .row v142 49 1 rw143, .blk b116 (.cells #[.string (x114.name), .string (x114.text), v118, .pointer (some ⟨b150,0, none⟩), v125] 52 (0,0)), .row v125 49 1 rw126, .blk pb0 (.cells #[pv0_0, .int .i64 (p0.count), .bool (p0.deep)] 55 (0,0)), .row pv0_0 49 1 pv0_0r]) hp151 (.tail _ (.head _))) hp134 (.tail _ (.tail _ (.tail _ (.head _))))) hp117 (.tail _ (.tail _ (.tail _ (.tail _ (.tail _ (.head _))))))) hx202 hw9)) fun _ _ hs => uon hs fun _ he => ?_
 refine zd1 he rfl ?_; clear he; (try clear a); intro a w hs
 obtain ⟨x203, hx204, hm⟩ := ob hm
 replace hs := hs.front 2
 refine zdo (Lr := [.row v159 49 1 rw160, .row v195 49 1 rw197]) (Lf := .blk b150 (.cells #[.string (x148.name), .string (x148.text), v152, v157, v159] 52 (0,0)) :: .blk b133 (.cells #[.string (x131.name), .string (x131.text), v135, .pointer (some ⟨b150,0, none⟩), v142] 52 (0,0)) :: .row v142 49 1 rw143 :: .blk b116 (.cells #[.string (x114.name), .string (x114.text), v118, .pointer (some ⟨b150,0, none⟩), v125] 52 (0,0)) :: .row v125 49 1 rw126 :: .blk pb0 (.cells #[pv0_0, .int .i64 (p0.count), .bool (p0.deep)] 55 (0,0)) :: .row pv0_0 49 1 pv0_0r :: L) hs rfl has62 rfl rfl (zii n hW161 hW196 hx204) (.free rfl) (by decide) ?_; clear hs; (try clear a w)
 rintro v207 f205 _ a w hf206 ⟨_, rw208, rfl, rfl, hW209⟩ hs
 have pv210 := pv0_0h.le hf206
 have hR211 := hR120.le hf206
 have hW212 := hW121.le hf206
 have hW213 := hW127.le hf206
 have hR214 := hR137.le hf206
 have hW215 := hW138.le hf206
 have hW216 := hW144.le hf206
 have hR217 := hR154.le hf206
 have hW218 := hW155.le hf206
 have hW219 := hW161.le hf206
 have hA220 := hA.le hf206
 have hW221 := hW196.le hf206
 replace hbase16 := hbase16.trans hf206
 replace hs := hs.erase 1
 have ho223 : v207.oneCell' = true := hs.one (i := 0) rfl
 refine uon hs fun _ he => uy 23 he rfl (za6 rfl) fun _ he => uy (v := .pointer (some ⟨b150,4, none⟩)) 24 he rfl (za3 rfl (FO.of (off := 4) Tryz.underlying52 rfl rfl ti50 (by decide))) fun _ he => ?_
 refine zd1 he rfl ?_; clear he; (try clear a); intro a w hs
 refine sstore 1 hs rfl rfl rfl ti50 ho223 fun _ _ hs => uend hs fun _ he => ?_
 refine zmj he ?_; clear he; (try clear a); intro w hs; try clear hsD
 replace hs := hs.front 0
 replace hs := hs.front 1
 have hq9 := AR.unfocusI (x := ({name := x148.name, text := x148.text, attrs := x148.attrs, above := x148.above, kids := x203} : za0)) [.blk b133 (.cells #[.string (x131.name), .string (x131.text), v135, .pointer (some ⟨b150,0, none⟩), v142] 52 (0,0)), .row v142 49 1 rw143, .blk b116 (.cells #[.string (x114.name), .string (x114.text), v118, .pointer (some ⟨b150,0, none⟩), v125] 52 (0,0)), .row v125 49 1 rw126, .blk pb0 (.cells #[pv0_0, .int .i64 (p0.count), .bool (p0.deep)] 55 (0,0)), .row pv0_0 49 1 pv0_0r] hA220 hs (zdu hx149).1 hp151 (⟨v152, v157, v207, rw208, rfl, ⟨rw153, hR217, hW218⟩, hp158, hW209⟩); clear hs hA220
 obtain ⟨L, hA, hs⟩ := hq9
 replace hs := hs.front 1
 replace hs := hs.front 1
 have hq9 := AR.unfocusI (x := ({name := x131.name, text := x131.text, attrs := x131.attrs, above := x114.above, kids := x131.kids} : za0)) [.blk b116 (.cells #[.string (x114.name), .string (x114.text), v118, .pointer (some ⟨b150,0, none⟩), v125] 52 (0,0)), .row v125 49 1 rw126, .blk pb0 (.cells #[pv0_0, .int .i64 (p0.count), .bool (p0.deep)] 55 (0,0)), .row pv0_0 49 1 pv0_0r] hA hs (zdu hx132).1 hp134 (⟨v135, .pointer (some ⟨b150,0, none⟩), v142, rw143, rfl, ⟨rw136, hR214, hW215⟩, hp151, hW216⟩); clear hs hA
 obtain ⟨L, hA, hs⟩ := hq9
 replace hs := hs.front 1
 replace hs := hs.front 1
 have hq9 := AR.unfocusI (x := x114) [.blk pb0 (.cells #[pv0_0, .int .i64 (p0.count), .bool (p0.deep)] 55 (0,0)), .row pv0_0 49 1 pv0_0r] hA hs (zdu hx115).1 hp117 (⟨v118, .pointer (some ⟨b150,0, none⟩), v125, rw126, rfl, ⟨rw119, hR211, hW212⟩, hp151, hW213⟩); clear hs hA
 obtain ⟨L, hA, hs⟩ := hq9
 exact ⟨_, L, ab, p0.open_, p0.count, p0.deep,(setM (setM (setM A x114.above ({name := x148.name, text := x148.text, attrs := x148.attrs, above := x148.above, kids := x203} : za0)) p1 ({name := x131.name, text := x131.text, attrs := x131.attrs, above := x114.above, kids := x131.kids} : za0)) p2 x114), pv0_0, pv0_0r, .pointer (some ⟨b133,0, none⟩), hbase16, hbb19, hA, hm, pv210, hp134, hs.sub ⟨rfl, rfl, trivial⟩⟩
def zc5 (n : Nat) (A : (List za0)) (p1 : ByteArray) (y47 : Int) (x51 : (Int × za2)) (y80 : (List Int)) (y86 : Int) (y87 : Bool) : Option (za2 × (List za0)) :=
  (bif y87 then (geti y80 (w64 (y86 - 1))).bind fun x89 =>
  (focM A [] x89).bind fun x98 =>
  (addS x98.text p1).bind fun x115 =>
  (focM A [] x89).bind fun x117 =>
  some (({open_ := x51.2.open_, count := x51.2.count, deep := x51.2.deep} : za2),(setM A x89 ({name := x117.name, text := x115, attrs := x117.attrs, above := x117.above, kids := x117.kids} : za0))) else
  (zdp n x51.2 (A.length : Int) y47 (A ++ [({name := (bs []), text := p1, attrs := ([] : List zam), above := (-1 : Int), kids := ([] : List Int)} : za0)])).bind fun x143 =>
  some (({open_ := x143.1.open_, count := x143.1.count, deep := x143.1.deep} : za2), x143.2))
def zbj (n : Nat) (A : (List za0)) (p1 : ByteArray) (y47 : Int) (x51 : (Int × za2)) (y80 : (List Int)) (y86 : Int) : Option (za2 × (List za0)) :=
  (bif (decide (0 < y86)) then (geti y80 (w64 (y86 - 1))).bind fun x153 =>
  (focM A [] x153).bind fun x162 =>
  zc5 n A p1 y47 x51 y80 y86 (decide (x162.name = (bs []))) else
  zc5 n A p1 y47 x51 y80 y86 false)
def zc6 (n : Nat) (A : (List za0)) (p1 : ByteArray) (y40 : (List Int)) (y45 : Int) (y46 : Bool) (y47 : Int) : Option (za2 × (List za0)) :=
  (zb7 n ({open_ := y40, count := y45, deep := y46} : za2) A).bind fun x51 =>
  (focM A [] x51.1).bind fun x61 =>
  (bif (!(decide (y47 = -1))) then (focM A [] y47).bind fun x180 =>
  (focM A [] x180.above).bind fun x197 =>
  (idxP x197.kids y47).bind fun x214 =>
  zbj n A p1 y47 x51 x197.kids x214 else
  zbj n A p1 y47 x51 x61.kids (x61.kids.length : Int))
def zcy (n : Nat) (A : (List za0)) (p1 : ByteArray) (x217 : (Int × za2)) (y227 : Bool) : Option (za2 × (List za0)) :=
  (bif y227 then some (({open_ := x217.2.open_, count := x217.2.count, deep := x217.2.deep} : za2), A) else
  zc6 n A p1 x217.2.open_ x217.2.count x217.2.deep x217.1)
def zdt (n : Nat) (p0 : za2) (p1 : ByteArray) (A : (List za0)) : Option (za2 × (List za0)) :=
  (zb7 n p0 A).bind fun x4 =>
  (focM A [] x4.1).bind fun x14 =>
  (zhn n x14.name [(bs [116,97,98,108,101]),(bs [116,114])]).bind fun x36 =>
  (bif x36 then (zd2 n x4.2 A).bind fun x217 =>
  (bif (!(decide (x217.1 = -1))) then (zgg n p1).bind fun x230 =>
  zcy n A p1 x217 x230 else
  zcy n A p1 x217 false) else
  zc6 n A p1 x4.2.open_ x4.2.count x4.2.deep (-1 : Int))
theorem zjf (n : Nat) {f : Fz} {ab : List Nat} {A : List za0} {p0 : za2} {pb0 : Nat} {pv0_0 : Value} {pv0_0r : List (List Value)} {p1 : ByteArray} {res : (za2 × (List za0))} (pv0_0h : RW (tP ab) f pv0_0r p0.open_) (hm : zdt n p0 p1 A = some res) : DoesA nsh Tryz.prog 15 [.pointer (some ⟨pb0,0, none⟩), .string p1] f [.blk pb0 (.cells #[pv0_0, .int .i64 p0.count, .bool p0.deep] 55 (0,0)), .row pv0_0 49 1 pv0_0r] ab A res.2 (fun r f' ab' L' => ∃ (dp0_0 : Value) (dp0_0r : List (List Value)), L' = [.blk pb0 (.cells #[dp0_0, .int .i64 res.1.count, .bool res.1.deep] 55 (0,0)), .row dp0_0 49 1 dp0_0r] ∧ r = .tuple #[] ∧ RW (tP ab') f' dp0_0r res.1.open_) := by
 unfold zdt at hm
 intro w0 L0 L w hA hC
 have hbs := List.prefix_refl ab
 replace hC : Cw w0 f (.blk pb0 (.cells #[pv0_0, .int .i64 p0.count, .bool p0.deep] 55 (0,0)) :: .row pv0_0 49 1 pv0_0r :: L) w := hC
 refine enter Tryz.func15 rfl Tryz.ntmps15 (by simp) hC fun a hs => ?_
 have hle := Fz.le.refl f
 refine Wq fun hK1 => sA hs rfl fun hs => za1 <| hK1 <| Ws fun hK2 => Wq fun hK3 => sM hs rfl fun hs => ?_
 obtain ⟨x4, hx5, hm⟩ := ob hm
 replace hs := hs.front 1
 replace hs := hs.front 1
 refine zev (Lr := [.blk pb0 (.cells #[pv0_0, .int .i64 (p0.count), .bool (p0.deep)] 55 (0,0)), .row pv0_0 49 1 pv0_0r]) [] hA hs rfl has34 rfl (zca n pv0_0h hx5) (.free rfl) (by decide) ?_; clear hs; (try clear a w)
 rintro v8 f6 _ a w hf7 ⟨_, v10, rw11, rfl, rfl, hp9, hW12⟩ hs
 replace hA := hA.le hf7
 replace hle := hle.trans hf7
 obtain ⟨x14, hx15, hm⟩ := ob hm
 obtain ⟨b30, rfl, _, ⟨v18, v23, v25, rw26, rfl, ⟨rw19, hR20, hW21⟩, hp24, hW27⟩, hpm29⟩ := AR.peek hA hx15 hp9
 have hm16 := hpm29 _ (.head _); have hm17 := hpm29 _ (.tail _ (.head _)); clear hpm29
 refine s1 hs (za6 rfl) fun hs => s1 (v := .pointer (some ⟨b30,0, none⟩)) hs (za3 rfl (FO.of (off := 0) Tryz.underlying52 rfl rfl ti9 (by decide))) fun hs => s1 (v := .string (x14.name)) hs (y_ld rfl Tryz.underlying9 rfl (Cell.blk (.tail _ (.tail _ (hm16))) rfl)) fun hs => ?_
 refine zo8 (parts := [(0, .const (.string (bs [116,97,98,108,101]))),(1, .const (.string (bs [116,114])))]) (us := [.string ((bs [116,97,98,108,101])), .string ((bs [116,114]))]) (rows := [[.string ((bs [116,97,98,108,101]))],[.string ((bs [116,114]))]]) hs rfl Tryz.underlying102 ti9 (by decide) rfl rfl (by intro r hr; simp only [List.mem_cons, List.mem_nil_iff, or_false] at hr; rcases hr with rfl | rfl; exact AllC.row ⟨rfl, trivial⟩ rfl; exact AllC.row ⟨rfl, trivial⟩ rfl) fun v31 _ _ hs => ?_
 have hW32 : RW tStr f6 [[.string ((bs [116,97,98,108,101]))],[.string ((bs [116,114]))]] [(bs [116,97,98,108,101]),(bs [116,114])] := ⟨rfl, ⟨rfl, trivial⟩⟩
 generalize hgrw33 : ([[.string ((bs [116,97,98,108,101]))],[.string ((bs [116,114]))]] : List (List Value)) = rw33 at hs hW32; clear hgrw33
 obtain ⟨x36, hx37, hm⟩ := ob hm
 refine sy hs (zds (cap := []) rfl has33 rfl (fun w9 hw9 => callsP (Lr := [.row v31 9 1 rw33]) (Lf := .blk pb0 (.cells #[v10, .int .i64 (x4.2.count), .bool (x4.2.deep)] 55 (0,0)) :: .row v10 49 1 rw11 :: L) (zae _ 0 rfl) hw9 (fun Lz w9 hw9 => lent0 hw9 (fun f9_0 w9 hle9_0 hRl0 hw9 => (zgf n ⟨rw33, hRl0, hW32.le hle9_0⟩ hx37) w0 _ w9 hw9)))) fun _ _ hs => za1 <| hK3 ?_
 have hbase50 := Fz.le.refl f6
 refine zay (fun a w => ∃ (f38 : Fz) (y40 : (List Int)) (y45 : Int) (y46 : Bool) (y47 : Int) (v41 : Value) (rw42 : List (List Value)) (v48 : Value), Fz.le f6 f38 ∧ zc6 n A p1 y40 y45 y46 y47 = some res ∧ RW (tP ab) f38 rw42 y40 ∧ RP ab v48 y47 ∧ St 72 w0 f38 (.blk pb0 (.cells #[v41, .int .i64 (y45), .bool (y46)] 55 (0,0)) :: .row v41 49 1 rw42 :: L) [(0, .pointer (some ⟨pb0,0, none⟩)),(1, .string (p1)),(4, v48)] a w) ?_ ?_
 ·clear hs hm
  clear hbase50
  rintro a w ⟨f38, y40, y45, y46, y47, v41, rw42, v48, hl39, hm, hW43, hp49, hs⟩
  replace hA := hA.le hl39
  replace hle := hle.trans hl39
  unfold zc6 at hm
  refine hK2 <| Wq fun hK4 => sM hs rfl fun hs => ?_
  obtain ⟨x51, hx52, hm⟩ := ob hm
  replace hs := hs.front 1
  replace hs := hs.front 1
  refine zev (Lr := [.blk pb0 (.cells #[v41, .int .i64 (y45), .bool (y46)] 55 (0,0)), .row v41 49 1 rw42]) [] hA hs rfl has34 rfl (zca n hW43 hx52) (.free rfl) (by decide) ?_; clear hs; (try clear a w)
  rintro v55 f53 _ a w hf54 ⟨_, v57, rw58, rfl, rfl, hp56, hW59⟩ hs
  replace hA := hA.le hf54
  replace hle := hle.trans hf54
  obtain ⟨x61, hx62, hm⟩ := ob hm
  obtain ⟨b77, rfl, _, ⟨v65, v70, v72, rw73, rfl, ⟨rw66, hR67, hW68⟩, hp71, hW74⟩, hpm76⟩ := AR.peek hA hx62 hp56
  have hm63 := hpm76 _ (.head _); have hm64 := hpm76 _ (.tail _ (.head _)); clear hpm76
  refine s1 hs (za6 rfl) fun hs => s1 (v := .pointer (some ⟨b77,4, none⟩)) hs (za3 rfl (FO.of (off := 4) Tryz.underlying52 rfl rfl ti50 (by decide))) fun hs => s1 (v := v72) hs (y_ld rfl Tryz.underlying50 rfl (Cell.blk (.tail _ (.tail _ (hm63))) rfl)) fun hs => sA hs rfl fun hs => za1 <| hK4 <| Wq fun hK5 => sM hs rfl fun hs => s1 hs (ze4 (Rd.st hs (.tail _ (.tail _ (hm64)))) hW74 rfl Tryz.underlying50) fun hs => ?_
  refine sA hs rfl fun hs => za1 <| hK5 <| Ws fun hK6 => Wq fun hK7 => sM hs rfl fun hs => s1 hs (zp8 rfl rfl hp49 Tryz.underlying49) fun hs => za1 <| hK7 ?_
  refine zay (fun a w => ∃ (y80 : (List Int)) (y86 : Int) (v78 : Value) (v81 : Value) (rw82 : List (List Value)), zbj n A p1 y47 x51 y80 y86 = some res ∧ RP ab v78 y47 ∧ .row v81 49 1 rw82 ∈ L ∧ RW (tP ab) f53 rw82 y80 ∧ St 72 w0 f53 (.blk pb0 (.cells #[v57, .int .i64 (x51.2.count), .bool (x51.2.deep)] 55 (0,0)) :: .row v57 49 1 rw58 :: L) [(0, .pointer (some ⟨pb0,0, none⟩)),(1, .string (p1)),(4, v78),(5, v81),(6, .int .i64 (y86))] a w) ?_ ?_
  ·clear hs hm
   rintro a w ⟨y80, y86, v78, v81, rw82, hm, hp79, hm83, hW84, hs⟩
   unfold zbj at hm
   refine hK6 <| Ws fun hK8 => Ws fun hK9 => ?_
   refine zay (fun a w => ∃ (y87 : Bool), zc5 n A p1 y47 x51 y80 y86 y87 = some res ∧ St 72 w0 f53 (.blk pb0 (.cells #[v57, .int .i64 (x51.2.count), .bool (x51.2.deep)] 55 (0,0)) :: .row v57 49 1 rw58 :: L) [(0, .pointer (some ⟨pb0,0, none⟩)),(1, .string (p1)),(4, v78),(5, v81),(6, .int .i64 (y86)),(53, .bool (y87))] a w) ?_ ?_
   ·clear hs hm
    rintro a w ⟨y87, hm, hs⟩
    unfold zc5 at hm
    refine hK9 ?_
    refine zag hs rfl (fun hg88 => ?_) (fun hg88 => ?_)
    ·replace hm := oc_t hg88 hm
     refine Wq fun hK10 => sM hs rfl fun hs => sM hs rfl fun hs => s1 hs (zlz rfl rfl rfl) fun hs => ?_
     obtain ⟨x89, hx90, hm⟩ := ob hm
     obtain ⟨r91, hr92, hq93, hi94, hb95⟩ := hW84.geti hx90
     obtain ⟨v96, rfl, hp97⟩ := hq93
     refine s1 hs (zai (Rd.st hs (.tail _ (.tail _ (hm83)))) rfl rfl hi94 hb95 Tryz.underlying50 ti49) fun hs => s1 (v := v96) hs (ze3 (i := (w64 (y86 - 1)).toNat) (j := 0) (Rd.st hs (.tail _ (.tail _ (hm83)))) rfl hr92 rfl Tryz.underlying49 rfl) fun hs => ?_
     obtain ⟨x98, hx99, hm⟩ := ob hm
     obtain ⟨b114, rfl, _, ⟨v102, v107, v109, rw110, rfl, ⟨rw103, hR104, hW105⟩, hp108, hW111⟩, hpm113⟩ := AR.peek hA hx99 hp97
     have hm100 := hpm113 _ (.head _); have hm101 := hpm113 _ (.tail _ (.head _)); clear hpm113
     refine s1 hs (za6 rfl) fun hs => s1 (v := .pointer (some ⟨b114,1, none⟩)) hs (za3 rfl (FO.of (off := 1) Tryz.underlying52 rfl rfl ti9 (by decide))) fun hs => s1 (v := .string (x98.text)) hs (y_ld rfl Tryz.underlying9 rfl (Cell.blk (.tail _ (.tail _ (hm100))) rfl)) fun hs => sM hs rfl fun hs => ?_
     obtain ⟨x115, hx116, hm⟩ := ob hm
     obtain ⟨hbx115, hex115⟩ := zrt hx116
     refine s1 hs (zue rfl rfl hbx115 hex115) fun hs => ?_
     obtain ⟨x117, hx118, hm⟩ := ob hm
     have hp119 := hp97
     have hq9 := AR.focusP [.blk pb0 (.cells #[v57, .int .i64 (x51.2.count), .bool (x51.2.deep)] 55 (0,0)), .row v57 49 1 rw58] hA hs hx118 hp119; clear hs
     clear hA
     obtain ⟨_, L, ⟨v120, v125, v127, rw128, rfl, ⟨rw121, hR122, hW123⟩, hp126, hW129⟩, hA, hs⟩ := hq9
     refine s1 hs (za6 rfl) fun hs => s1 (v := .pointer (some ⟨b114,1, none⟩)) hs (za3 rfl (FO.of (off := 1) Tryz.underlying52 rfl rfl ti9 (by decide))) fun hs => sstore 0 hs rfl rfl rfl ti9 rfl fun _ _ hs => za1 <| hK10 <| zbl ?_
     replace hs := hs.front 1
     replace hs := hs.front 1
     have hq9 := AR.unfocusI (x := ({name := x117.name, text := x115, attrs := x117.attrs, above := x117.above, kids := x117.kids} : za0)) [.blk pb0 (.cells #[v57, .int .i64 (x51.2.count), .bool (x51.2.deep)] 55 (0,0)), .row v57 49 1 rw58] hA hs (zdu hx118).1 hp119 (⟨v120, v125, v127, rw128, rfl, ⟨rw121, hR122, hW123⟩, hp126, hW129⟩); clear hs hA
     obtain ⟨L, hA, hs⟩ := hq9
     obtain rfl := Option.some.inj hm
     refine RtV0 hs rfl  ?_
     exact ⟨_, f53, ab,[.blk pb0 (.cells #[v57, .int .i64 (x51.2.count), .bool (x51.2.deep)] 55 (0,0)), .row v57 49 1 rw58], L, rfl, hle, hbs, hA, hs.cw, v57, rw58, rfl, rfl, hW59⟩
    replace hm := oc_f hg88 hm
    refine zak <| hK8 <| za5 <| sM hs rfl fun hs => sM hs rfl fun hs => s1 hs (zea (places := [(0,1),(1,1),(2,1),(3,1),(4,1)]) (cs := [.string ((bs [])), .string (p1),(.slice none 0 0), .pointer none,(.slice none 0 0)]) rfl Tryz.underlying52 ti52 (by kernel_rfl) (by decide) rfl ⟨rfl, trivial⟩) fun hs => sbox hs rfl fun b135 _ _ hs => ?_
    replace hs := hs.nilRow 49 1
    have hW137 : RW (tP ab) f53 [] ([] : List Int) := trivial
    generalize hgrw138 : ([] : List (List Value)) = rw138 at hs hW137; clear hgrw138
    replace hs := hs.front 0
    replace hs := hs.front 1
    have hq9 := AR.adopt (b := b135) (x := ({name := (bs []), text := p1, attrs := ([] : List zam), above := (-1 : Int), kids := ([] : List Int)} : za0)) [.blk pb0 (.cells #[v57, .int .i64 (x51.2.count), .bool (x51.2.deep)] 55 (0,0)), .row v57 49 1 rw58] hA hs (⟨(.slice none 0 0), .pointer none,(.slice none 0 0), rw138, rfl, RS.nil, RP.nil, hW137.grow (List.prefix_append _ _)⟩); clear hs hA
    obtain ⟨ab, L, hbg141, hA, hp142, hs⟩ := hq9
    replace hW59 := hW59.grow hbg141
    replace hp79 := hp79.grow hbg141
    replace hbs := hbs.trans hbg141
    refine sM hs rfl fun hs => ?_
    obtain ⟨x143, hx144, hm⟩ := ob hm
    replace hs := hs.front 1
    replace hs := hs.front 1
    refine zhe (Lr := [.blk pb0 (.cells #[v57, .int .i64 (x51.2.count), .bool (x51.2.deep)] 55 (0,0)), .row v57 49 1 rw58]) [] hA hs rfl has38 rfl (zho n hW59 hp142 hp79 hx144) (.free rfl) (by decide) ?_; clear hs; (try clear a w)
    clear hA
    rintro _ f145 ab _ L a w hf146 hbg150 hA ⟨v147, rw148, rfl, rfl, hW149⟩ hs
    replace hle := hle.trans hf146
    replace hbs := hbs.trans hbg150
    refine za1 ?_
    obtain rfl := Option.some.inj hm
    refine RtV0 hs rfl  ?_
    exact ⟨_, f145, ab,[.blk pb0 (.cells #[v147, .int .i64 (x143.1.count), .bool (x143.1.deep)] 55 (0,0)), .row v147 49 1 rw148], L, rfl, hle, hbs, hA, hs.cw, v147, rw148, rfl, rfl, hW149⟩
   refine za5 <| sM hs rfl fun hs => s1 hs (zm0 rfl rfl) fun hs => sM hs rfl fun hs => ?_
   refine St.split hs (t := 43) rfl (fun hg152 hs => ?_) (fun hg152 hs => ?_)
   ·replace hm := oc_t hg152 hm
    refine s2 (v := v81) hs (za9 rfl) fun hs => s2 (v := .int .i64 (y86)) hs (za9 rfl) fun hs => s2 hs (zlz rfl rfl rfl) fun hs => ?_
    obtain ⟨x153, hx154, hm⟩ := ob hm
    obtain ⟨r155, hr156, hq157, hi158, hb159⟩ := hW84.geti hx154
    obtain ⟨v160, rfl, hp161⟩ := hq157
    refine s2 hs (zai (Rd.st hs (.tail _ (.tail _ (hm83)))) rfl rfl hi158 hb159 Tryz.underlying50 ti49) fun hs => s2 (v := v160) hs (ze3 (i := (w64 (y86 - 1)).toNat) (j := 0) (Rd.st hs (.tail _ (.tail _ (hm83)))) rfl hr156 rfl Tryz.underlying49 rfl) fun hs => ?_
    obtain ⟨x162, hx163, hm⟩ := ob hm
    obtain ⟨b178, rfl, _, ⟨v166, v171, v173, rw174, rfl, ⟨rw167, hR168, hW169⟩, hp172, hW175⟩, hpm177⟩ := AR.peek hA hx163 hp161
    have hm164 := hpm177 _ (.head _); have hm165 := hpm177 _ (.tail _ (.head _)); clear hpm177
    refine s2 hs (za6 rfl) fun hs => s2 (v := .pointer (some ⟨b178,0, none⟩)) hs (za3 rfl (FO.of (off := 0) Tryz.underlying52 rfl rfl ti9 (by decide))) fun hs => s2 (v := .string (x162.name)) hs (y_ld rfl Tryz.underlying9 rfl (Cell.blk (.tail _ (.tail _ (hm164))) rfl)) fun hs => s2 hs (zfr rfl rfl) fun hs => sP hs rfl rfl fun hs => za1 ?_
    exact ⟨decide (x162.name = (bs [])), hm, hs.sub ⟨rfl, rfl, rfl, rfl, rfl, rfl, trivial⟩⟩
   replace hm := oc_f hg152 hm
   refine s3 hs fun hs => s3 hs fun hs => s3 hs fun hs => s3 hs fun hs => s3 hs fun hs => s3 hs fun hs => s3 hs fun hs => s3 hs fun hs => s3 hs fun hs => sP hs rfl rfl fun hs => ?_
   refine za1 ?_
   exact ⟨false, hm, hs.sub ⟨rfl, rfl, rfl, rfl, rfl, rfl, trivial⟩⟩
  refine zag hs rfl (fun hg179 => ?_) (fun hg179 => ?_)
  ·replace hm := oc_t hg179 hm
   refine Wq fun hK11 => sM hs rfl fun hs => ?_
   obtain ⟨x180, hx181, hm⟩ := ob hm
   obtain ⟨b196, rfl, _, ⟨v184, v189, v191, rw192, rfl, ⟨rw185, hR186, hW187⟩, hp190, hW193⟩, hpm195⟩ := AR.peek hA hx181 hp49
   have hm182 := hpm195 _ (.head _); have hm183 := hpm195 _ (.tail _ (.head _)); clear hpm195
   refine s1 hs (za6 rfl) fun hs => s1 (v := .pointer (some ⟨b196,3, none⟩)) hs (za3 rfl (FO.of (off := 3) Tryz.underlying52 rfl rfl ti49 (by decide))) fun hs => s1 (v := v189) hs (y_ld rfl Tryz.underlying49 rfl (Cell.blk (.tail _ (.tail _ (hm182))) rfl)) fun hs => ?_
   obtain ⟨x197, hx198, hm⟩ := ob hm
   obtain ⟨b213, rfl, _, ⟨v201, v206, v208, rw209, rfl, ⟨rw202, hR203, hW204⟩, hp207, hW210⟩, hpm212⟩ := AR.peek hA hx198 hp190
   have hm199 := hpm212 _ (.head _); have hm200 := hpm212 _ (.tail _ (.head _)); clear hpm212
   refine s1 hs (za6 rfl) fun hs => s1 (v := .pointer (some ⟨b213,4, none⟩)) hs (za3 rfl (FO.of (off := 4) Tryz.underlying52 rfl rfl ti50 (by decide))) fun hs => s1 (v := v208) hs (y_ld rfl Tryz.underlying50 rfl (Cell.blk (.tail _ (.tail _ (hm199))) rfl)) fun hs => sA hs rfl fun hs => za1 <| hK11 <| za5 <| sM hs rfl fun hs => sM hs rfl fun hs => ?_
   obtain ⟨x214, hx215, hm⟩ := ob hm
   refine sy hs (zds (cap := []) rfl has37 rfl (fun w9 hw9 => zi5 _ (f := f53) (Rd.st hs (.tail _ (.tail _ (hm200)))) hW210 hp49 hA.nodup (hA.pbh.app [.blk pb0 (.cells #[v57, .int .i64 (x51.2.count), .bool (x51.2.deep)] 55 (0,0)), .row v57 49 1 rw58]) hx215 hw9)) fun _ _ hs => sA hs rfl fun hs => za1 ?_
   exact ⟨x197.kids, x214, .pointer (some ⟨b196,0, none⟩), v208, rw209, hm, hp49, hm200, hW210, hs.sub ⟨rfl, rfl, rfl, rfl, rfl, trivial⟩⟩
  replace hm := oc_f hg179 hm
  refine zak ?_
  exact ⟨x61.kids,(x61.kids.length : Int), v48, v72, rw73, hm, hp49, hm64, hW74, hs.sub ⟨rfl, rfl, rfl, rfl, rfl, trivial⟩⟩
 refine zag hs rfl (fun hg216 => ?_) (fun hg216 => ?_)
 ·replace hm := oc_t hg216 hm
  refine Wq fun hK12 => sM hs rfl fun hs => ?_
  obtain ⟨x217, hx218, hm⟩ := ob hm
  replace hs := hs.front 2
  replace hs := hs.front 2
  refine zev (Lr := [.blk pb0 (.cells #[v10, .int .i64 (x4.2.count), .bool (x4.2.deep)] 55 (0,0)), .row v10 49 1 rw11]) [.row v31 9 1 rw33] hA hs rfl has35 rfl (zgy n hW12 hx218) (.free rfl) (by decide) ?_; clear hs; (try clear a w)
  rintro v221 f219 _ a w hf220 ⟨_, v223, rw224, rfl, rfl, hp222, hW225⟩ hs
  replace hA := hA.le hf220
  replace hle := hle.trans hf220
  replace hbase50 := hbase50.trans hf220
  refine sA hs rfl fun hs => za1 <| hK12 <| Ws fun hK13 => ?_
  refine zay (fun a w => ∃ (y227 : Bool), zcy n A p1 x217 y227 = some res ∧ St 72 w0 f219 (.blk pb0 (.cells #[v223, .int .i64 (x217.2.count), .bool (x217.2.deep)] 55 (0,0)) :: .row v223 49 1 rw224 :: L) [(0, .pointer (some ⟨pb0,0, none⟩)),(1, .string (p1)),(4, v221),(21, .bool (y227))] a w) ?_ ?_
  ·clear hs hm
   rintro a w ⟨y227, hm, hs⟩
   unfold zcy at hm
   refine hK13 ?_
   refine zag hs rfl (fun hg228 => ?_) (fun hg228 => ?_)
   ·replace hm := oc_t hg228 hm
    refine zbl ?_
    obtain rfl := Option.some.inj hm
    refine RtV0 hs rfl  ?_
    exact ⟨_, f219, ab,[.blk pb0 (.cells #[v223, .int .i64 (x217.2.count), .bool (x217.2.deep)] 55 (0,0)), .row v223 49 1 rw224], L, rfl, hle, hbs, hA, hs.cw, v223, rw224, rfl, rfl, hW225⟩
   replace hm := oc_f hg228 hm
   refine zak ?_
   exact ⟨_, x217.2.open_, x217.2.count, x217.2.deep, x217.1, v223, rw224, v221, hbase50, hm, hW225, hp222, hs.sub ⟨rfl, rfl, rfl, trivial⟩⟩
  refine za5 <| sM hs rfl fun hs => s1 hs (zp8 rfl rfl hp222 Tryz.underlying49) fun hs => sM hs rfl fun hs => ?_
  refine St.split hs (t := 18) rfl (fun hg229 hs => ?_) (fun hg229 hs => ?_)
  ·replace hm := oc_t hg229 hm
   refine s2 (v := .string (p1)) hs (za9 rfl) fun hs => ?_
   obtain ⟨x230, hx231, hm⟩ := ob hm
   refine s2 hs (zfu rfl has36 rfl (zoc n  hx231)) fun hs => sP hs rfl rfl fun hs => za1 ?_
   exact ⟨x230, hm, hs.subs ⟨rfl, rfl, rfl, rfl, trivial⟩ (.cons_cons _ (.cons_cons _ (.cons _ (.refl _))))⟩
  replace hm := oc_f hg229 hm
  refine s3 hs fun hs => s3 hs fun hs => sP hs rfl rfl fun hs => za1 ?_
  exact ⟨false, hm, hs.subs ⟨rfl, rfl, rfl, rfl, trivial⟩ (.cons_cons _ (.cons_cons _ (.cons _ (.refl _))))⟩
 replace hm := oc_f hg216 hm
 refine zak ?_
 exact ⟨_, x4.2.open_, x4.2.count, x4.2.deep,(-1 : Int), v10, rw11, .pointer none,(Fz.le.refl _), hm, hW12, RP.nil, hs.subs ⟨rfl, rfl, rfl, trivial⟩ (.cons _ (.cons_cons _ (.cons_cons _ (.refl _))))⟩
end Go.Proofs.YtdjjeahiomackaaGreat
