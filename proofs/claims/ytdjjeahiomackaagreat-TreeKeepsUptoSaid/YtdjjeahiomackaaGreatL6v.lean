/-
  Walks and laws of this seat.
-/
import Derived.Test.YtdjjeahiomackaaGreatBash
import Derived.Test.YtdjjeahiomackaaGreatL6u
import Derived.Test.YtdjjeahiomackaaGreatL6x
import Derived.Test.YtdjjeahiomackaaGreatRows
namespace Go.Proofs.YtdjjeahiomackaaGreat
set_option linter.unusedVariables false
set_option linter.unusedSimpArgs false
set_option linter.unusedSectionVars false
set_option maxHeartbeats 4000000
set_option maxRecDepth 100000
open Go.RowKit Go.Sl
def zbn (x68 : (za2 × (List za0))) (y79 : (List Int)) : Option (za2 × (List za0)) :=
  some (({open_ := y79, count := x68.1.count, deep := x68.1.deep} : za2), x68.2)
def zbo (n : Nat) (A : (List za0)) (p1 : ByteArray) (p2 : (List zam)) (y38 : (List Int)) (y43 : Int) (y44 : Bool) (y45 : Int) : Option (za2 × (List za0)) :=
  (zgz n p2).bind fun x49 =>
  (zdp n ({open_ := y38, count := y43, deep := y44} : za2) (A.length : Int) y45 (A ++ [({name := p1, text := (bs []), attrs := x49, above := (-1 : Int), kids := ([] : List Int)} : za0)])).bind fun x68 =>
  (zig n p1).bind fun x77 =>
  (bif (!x77) then (appM 8 x68.1.open_ [(A.length : Int)]).bind fun x90 =>
  zbn x68 x90 else
  zbn x68 x68.1.open_)
def zax (n : Nat) (A : (List za0)) (p1 : ByteArray) (p2 : (List zam)) (x8 : (Int × za2)) (y35 : Bool) : Option (za2 × (List za0)) :=
  (bif y35 then (zd2 n x8.2 A).bind fun x97 =>
  zbo n A p1 p2 x97.2.open_ x97.2.count x97.2.deep x97.1 else
  zbo n A p1 p2 x8.2.open_ x8.2.count x8.2.deep (-1 : Int))
def zbq (n : Nat) (p0 : za2) (p1 : ByteArray) (p2 : (List zam)) (A : (List za0)) : Option (za2 × (List za0)) :=
  (zb7 n p0 A).bind fun x8 =>
  (focM A [] x8.1).bind fun x18 =>
  (bif (decide (x18.name = (bs [116,97,98,108,101]))) then (zhn n p1 [(bs [116,114]),(bs [116,100])]).bind fun x113 =>
  (bif (!x113) then zax n A p1 p2 x8 true else
  (bif (decide (x18.name = (bs [116,114]))) then zax n A p1 p2 x8 (decide (p1 ≠ (bs [116,100]))) else
  zax n A p1 p2 x8 false)) else
  (bif (decide (x18.name = (bs [116,114]))) then zax n A p1 p2 x8 (decide (p1 ≠ (bs [116,100]))) else
  zax n A p1 p2 x8 false))
theorem zeb (n : Nat) {f : Fz} {ab : List Nat} {A : List za0} {p0 : za2} {pb0 : Nat} {pv0_0 : Value} {pv0_0r : List (List Value)} {p1 : ByteArray} {p2 : (List zam)} {a2 : Value} {res : (za2 × (List za0))} (pv0_0h : RW (tP ab) f pv0_0r p0.open_) (h2 : RS zch f a2 p2) (hm : zbq n p0 p1 p2 A = some res) : DoesA nsh Tryz.prog 42 [.pointer (some ⟨pb0,0, none⟩), .string p1, a2] f [.blk pb0 (.cells #[pv0_0, .int .i64 p0.count, .bool p0.deep] 55 (0,0)), .row pv0_0 49 1 pv0_0r] ab A res.2 (fun r f' ab' L' => ∃ (dp0_0 : Value) (dp0_0r : List (List Value)), L' = [.blk pb0 (.cells #[dp0_0, .int .i64 res.1.count, .bool res.1.deep] 55 (0,0)), .row dp0_0 49 1 dp0_0r] ∧ r = .tuple #[] ∧ RW (tP ab') f' dp0_0r res.1.open_) := by
 unfold zbq at hm
 intro w0 L0 L w hA hC
 have hbs := List.prefix_refl ab
 replace hC : Cw w0 f (.blk pb0 (.cells #[pv0_0, .int .i64 p0.count, .bool p0.deep] 55 (0,0)) :: .row pv0_0 49 1 pv0_0r :: L) w := hC
 obtain ⟨rw4, hR5, hW6⟩ := h2
 refine enter Tryz.func42 rfl Tryz.ntmps42 (by simp) hC fun a hs => ?_
 have hle := Fz.le.refl f
 refine Wq fun hK1 => sA hs rfl fun hs => za1 <| hK1 <| Wq fun hK2 => sM hs rfl fun hs => ?_
 obtain ⟨x8, hx9, hm⟩ := ob hm
 replace hs := hs.front 1
 replace hs := hs.front 1
 refine zev (Lr := [.blk pb0 (.cells #[pv0_0, .int .i64 (p0.count), .bool (p0.deep)] 55 (0,0)), .row pv0_0 49 1 pv0_0r]) [] hA hs rfl has34 rfl (zca n pv0_0h hx9) (.free rfl) (by decide) ?_; clear hs; (try clear a w)
 rintro v12 f10 _ a w hf11 ⟨_, v14, rw15, rfl, rfl, hp13, hW16⟩ hs
 replace hA := hA.le hf11
 replace hR5 := hR5.le hf11
 replace hW6 := hW6.le hf11
 replace hle := hle.trans hf11
 obtain ⟨x18, hx19, hm⟩ := ob hm
 obtain ⟨b34, rfl, _, ⟨v22, v27, v29, rw30, rfl, ⟨rw23, hR24, hW25⟩, hp28, hW31⟩, hpm33⟩ := AR.peek hA hx19 hp13
 have hm20 := hpm33 _ (.head _); have hm21 := hpm33 _ (.tail _ (.head _)); clear hpm33
 refine s1 hs (za6 rfl) fun hs => s1 (v := .pointer (some ⟨b34,0, none⟩)) hs (za3 rfl (FO.of (off := 0) Tryz.underlying52 rfl rfl ti9 (by decide))) fun hs => s1 (v := .string (x18.name)) hs (y_ld rfl Tryz.underlying9 rfl (Cell.blk (.tail _ (.tail _ (hm20))) rfl)) fun hs => sA hs rfl fun hs => za1 <| hK2 <| Ws fun hK3 => Ws fun hK4 => ?_
 refine zay (fun a w => ∃ (y35 : Bool), zax n A p1 p2 x8 y35 = some res ∧ St 54 w0 f10 (.blk pb0 (.cells #[v14, .int .i64 (x8.2.count), .bool (x8.2.deep)] 55 (0,0)) :: .row v14 49 1 rw15 :: L) [(0, .pointer (some ⟨pb0,0, none⟩)),(1, .string (p1)),(2, a2),(6, .pointer none),(29, .bool (y35))] a w) ?_ ?_
 ·clear hs hm
  rintro a w ⟨y35, hm, hs⟩
  unfold zax at hm
  refine hK4 ?_
  have hbase48 := Fz.le.refl f10
  refine zay (fun a w => ∃ (f36 : Fz) (y38 : (List Int)) (y43 : Int) (y44 : Bool) (y45 : Int) (v39 : Value) (rw40 : List (List Value)) (v46 : Value), Fz.le f10 f36 ∧ zbo n A p1 p2 y38 y43 y44 y45 = some res ∧ RW (tP ab) f36 rw40 y38 ∧ RP ab v46 y45 ∧ St 54 w0 f36 (.blk pb0 (.cells #[v39, .int .i64 (y43), .bool (y44)] 55 (0,0)) :: .row v39 49 1 rw40 :: L) [(0, .pointer (some ⟨pb0,0, none⟩)),(1, .string (p1)),(2, a2),(6, v46)] a w) ?_ ?_
  ·clear hs hm
   clear hbase48
   rintro a w ⟨f36, y38, y43, y44, y45, v39, rw40, v46, hl37, hm, hW41, hp47, hs⟩
   replace hA := hA.le hl37
   replace hR5 := hR5.le hl37
   replace hW6 := hW6.le hl37
   replace hle := hle.trans hl37
   unfold zbo at hm
   refine hK3 <| Wq fun hK5 => sM hs rfl fun hs => sM hs rfl fun hs => ?_
   obtain ⟨x49, hx50, hm⟩ := ob hm
   refine zi2 hs rfl has51 rfl (zhq n ⟨rw4, hR5, hW6⟩ hx50) ?_; clear hs; (try clear a w)
   rintro v53 f51 _ a w hf52 ⟨_, rfl, rfl, ⟨rw54, hR55, hW56⟩⟩ hs
   replace hA := hA.le hf52
   replace hW41 := hW41.le hf52
   replace hle := hle.trans hf52
   refine s1 hs (zea (places := [(0,1),(1,1),(2,1),(3,1),(4,1)]) (cs := [.string (p1), .string ((bs [])), v53, .pointer none,(.slice none 0 0)]) rfl Tryz.underlying52 ti52 (by kernel_rfl) (by decide) rfl ⟨rfl, hR55.one, trivial⟩) fun hs => sbox hs rfl fun b60 _ _ hs => ?_
   replace hs := hs.nilRow 49 1
   have hW62 : RW (tP ab) f51 [] ([] : List Int) := trivial
   generalize hgrw63 : ([] : List (List Value)) = rw63 at hs hW62; clear hgrw63
   replace hs := hs.front 0
   replace hs := hs.front 1
   have hq9 := AR.adopt (b := b60) (x := ({name := p1, text := (bs []), attrs := x49, above := (-1 : Int), kids := ([] : List Int)} : za0)) [.blk pb0 (.cells #[v39, .int .i64 (y43), .bool (y44)] 55 (0,0)), .row v39 49 1 rw40] hA hs (⟨v53, .pointer none,(.slice none 0 0), rw63, rfl, ⟨rw54, hR55, hW56⟩, RP.nil, hW62.grow (List.prefix_append _ _)⟩); clear hs hA
   obtain ⟨ab, L, hbg66, hA, hp67, hs⟩ := hq9
   replace hW41 := hW41.grow hbg66
   replace hp47 := hp47.grow hbg66
   replace hbs := hbs.trans hbg66
   refine sA hs rfl fun hs => za1 <| hK5 <| Wq fun hK6 => sM hs rfl fun hs => sM hs rfl fun hs => sM hs rfl fun hs => ?_
   obtain ⟨x68, hx69, hm⟩ := ob hm
   replace hs := hs.front 1
   replace hs := hs.front 1
   refine zhe (Lr := [.blk pb0 (.cells #[v39, .int .i64 (y43), .bool (y44)] 55 (0,0)), .row v39 49 1 rw40]) [] hA hs rfl has38 rfl (zho n hW41 hp67 hp47 hx69) (.free rfl) (by decide) ?_; clear hs; (try clear a w)
   clear hA
   rintro _ f70 ab _ L a w hf71 hbg75 hA ⟨v72, rw73, rfl, rfl, hW74⟩ hs
   replace hle := hle.trans hf71
   replace hp67 := hp67.grow hbg75
   replace hbs := hbs.trans hbg75
   refine za1 <| hK6 <| Wq fun hK7 => sM hs rfl fun hs => ?_
   obtain ⟨x77, hx78, hm⟩ := ob hm
   refine s1 hs (zfu rfl has43 rfl (zml n  hx78)) fun hs => s1 (v := .bool ((!x77))) hs (zku rfl) fun hs => za1 <| hK7 ?_
   refine zay (fun a w => ∃ (y79 : (List Int)) (v80 : Value) (rw81 : List (List Value)), zbn x68 y79 = some res ∧ RW (tP ab) f70 rw81 y79 ∧ St 54 w0 f70 (.blk pb0 (.cells #[v80, .int .i64 (x68.1.count), .bool (x68.1.deep)] 55 (0,0)) :: .row v80 49 1 rw81 :: L) [] a w) ?_ ?_
   ·clear hs hm
    rintro a w ⟨y79, v80, rw81, hm, hW82, hs⟩
    unfold zbn at hm
    obtain rfl := Option.some.inj hm
    refine RtV0 hs rfl  ?_
    exact ⟨_, f70, ab,[.blk pb0 (.cells #[v80, .int .i64 (x68.1.count), .bool (x68.1.deep)] 55 (0,0)), .row v80 49 1 rw81], L, rfl, hle, hbs, hA, hs.cw, v80, rw81, rfl, rfl, hW82⟩
   refine zag hs rfl (fun hg84 => ?_) (fun hg84 => ?_)
   ·replace hm := oc_t hg84 hm
    refine za5 <| sM hs rfl fun hs => sM hs rfl fun hs => s1 hs (za6 rfl) fun hs => s1 (v := .pointer (some ⟨pb0,0, none⟩)) hs (za3 rfl (FO.of (off := 0) Tryz.underlying55 rfl rfl ti50 (by decide))) fun hs => s1 (v := v72) hs (y_ld rfl Tryz.underlying50 rfl (Cell.blk (.head _) rfl)) fun hs => sM hs rfl fun hs => zh8 hs rfl Tryz.underlying50 ti49 rfl rfl fun v85 _ _ hs => ?_
    have hW86 : RW (tP ab) f70 [[.pointer (some ⟨b60,0, none⟩)]] [(A.length : Int)] := RW.single (⟨_, rfl, hp67⟩)
    generalize hgrw87 : ([[.pointer (some ⟨b60,0, none⟩)]] : List (List Value)) = rw87 at hs hW86; clear hgrw87
    obtain ⟨x90, hx91, hm⟩ := ob hm
    obtain ⟨hbx90, hex90⟩ := zcs hx91
    have hW94 := hW74.append hW86; rw [hex90] at hW94
    refine zdb (i := 2) hs rfl rfl rfl (Rd.st hs (.head _)) Tryz.underlying50 ti49 (by decide) (by rw [RW.len hW74, RW.len hW86]; exact hbx90) (.free rfl) (by decide) fun v92 _ _ hs => ?_
    generalize hgx90 : rw73 ++ rw87 = rw93 at hs hW94; clear hgx90
    replace hs := hs.erase 0
    refine s1 hs (za6 rfl) fun hs => s1 (v := .pointer (some ⟨pb0,0, none⟩)) hs (za3 rfl (FO.of (off := 0) Tryz.underlying55 rfl rfl ti50 (by decide))) fun hs => sstore 0 hs rfl rfl rfl ti50 ((hs.one (i := 1) rfl)) fun _ _ hs => za1 ?_
    exact ⟨x90, v92, rw93, hm, hW94, hs.sub trivial⟩
   replace hm := oc_f hg84 hm
   refine zak ?_
   exact ⟨x68.1.open_, v72, rw73, hm, hW74, hs.sub trivial⟩
  refine zag hs rfl (fun hg96 => ?_) (fun hg96 => ?_)
  ·replace hm := oc_t hg96 hm
   refine za5 <| sM hs rfl fun hs => ?_
   obtain ⟨x97, hx98, hm⟩ := ob hm
   replace hs := hs.front 1
   replace hs := hs.front 1
   refine zev (Lr := [.blk pb0 (.cells #[v14, .int .i64 (x8.2.count), .bool (x8.2.deep)] 55 (0,0)), .row v14 49 1 rw15]) [] hA hs rfl has35 rfl (zgy n hW16 hx98) (.free rfl) (by decide) ?_; clear hs; (try clear a w)
   rintro v101 f99 _ a w hf100 ⟨_, v103, rw104, rfl, rfl, hp102, hW105⟩ hs
   replace hbase48 := hbase48.trans hf100
   refine sA hs rfl fun hs => za1 ?_
   exact ⟨_, x97.2.open_, x97.2.count, x97.2.deep, x97.1, v103, rw104, v101, hbase48, hm, hW105, hp102, hs.sub ⟨rfl, rfl, rfl, rfl, trivial⟩⟩
  replace hm := oc_f hg96 hm
  refine zak ?_
  exact ⟨_, x8.2.open_, x8.2.count, x8.2.deep,(-1 : Int), v14, rw15, .pointer none,(Fz.le.refl _), hm, hW16, RP.nil, hs.sub ⟨rfl, rfl, rfl, rfl, trivial⟩⟩
 refine za5 <| sM hs rfl fun hs => s1 hs (zfr rfl rfl) fun hs => sM hs rfl fun hs => ?_
 refine St.split hs (t := 16) rfl (fun hg107 hs => ?_) (fun hg107 hs => ?_)
 ·replace hm := oc_t hg107 hm
  refine s2 (v := .string (p1)) hs (za9 rfl) fun hs => RL_guard hs rfl rfl ?_
  refine zo8 (parts := [(0, .const (.string (bs [116,114]))),(1, .const (.string (bs [116,100])))]) (us := [.string ((bs [116,114])), .string ((bs [116,100]))]) (rows := [[.string ((bs [116,114]))],[.string ((bs [116,100]))]]) hs rfl Tryz.underlying102 ti9 (by decide) rfl rfl (by intro r hr; simp only [List.mem_cons, List.mem_nil_iff, or_false] at hr; rcases hr with rfl | rfl; exact AllC.row ⟨rfl, trivial⟩ rfl; exact AllC.row ⟨rfl, trivial⟩ rfl) fun v108 _ _ hs => ?_
  have hW109 : RW tStr f10 [[.string ((bs [116,114]))],[.string ((bs [116,100]))]] [(bs [116,114]),(bs [116,100])] := ⟨rfl, ⟨rfl, trivial⟩⟩
  generalize hgrw110 : ([[.string ((bs [116,114]))],[.string ((bs [116,100]))]] : List (List Value)) = rw110 at hs hW109; clear hgrw110
  obtain ⟨x113, hx114, hm⟩ := ob hm
  refine syg hs (zds (cap := []) rfl has33 rfl (fun w9 hw9 => callsP (Lr := [.row v108 9 1 rw110]) (Lf := .blk pb0 (.cells #[v14, .int .i64 (x8.2.count), .bool (x8.2.deep)] 55 (0,0)) :: .row v14 49 1 rw15 :: L) (zae _ 0 rfl) hw9 (fun Lz w9 hw9 => lent0 hw9 (fun f9_0 w9 hle9_0 hRl0 hw9 => (zgf n ⟨rw110, hRl0, hW109.le hle9_0⟩ hx114) w0 _ w9 hw9)))) fun _ _ hs => s2 (v := .bool ((!x113))) hs (zku rfl) fun hs => sP hs rfl rfl fun hs => sM hs rfl fun hs => ?_
  refine St.split hs (t := 22) rfl (fun hg115 hs => ?_) (fun hg115 hs => ?_)
  ·replace hm := oc_t hg115 hm
   refine s3 hs fun hs => s3 hs fun hs => s3 hs fun hs => s4 hs fun hs => s4 hs fun hs => s3 hs fun hs => sP hs rfl rfl fun hs => za1 ?_
   exact ⟨true, hm, hs.subs ⟨rfl, rfl, rfl, rfl, rfl, trivial⟩ (.cons _ (.cons_cons _ (.cons_cons _ (.refl _))))⟩
  replace hm := oc_f hg115 hm
  refine s2 (v := .string (x18.name)) hs (za9 rfl) fun hs => s2 hs (zfr rfl rfl) fun hs => s2 (v := .bool (decide (x18.name = (bs [116,114])))) hs (za9 rfl) fun hs => ?_
  refine St.split hs (t := 25) rfl (fun hg116 hs => ?_) (fun hg116 hs => ?_)
  ·replace hm := oc_t hg116 hm
   refine s2 (v := .string (p1)) hs (za9 rfl) fun hs => s2 hs (zn8 rfl rfl) fun hs => s2 (v := .bool (decide (p1 ≠ (bs [116,100])))) hs (zdf rfl rfl) fun hs => sP hs rfl rfl fun hs => za1 ?_
   exact ⟨decide (p1 ≠ (bs [116,100])), hm, hs.subs ⟨rfl, rfl, rfl, rfl, rfl, trivial⟩ (.cons _ (.cons_cons _ (.cons_cons _ (.refl _))))⟩
  replace hm := oc_f hg116 hm
  refine s3 hs fun hs => s3 hs fun hs => s2 (v := .bool (false)) hs (zdf rfl rfl) fun hs => sP hs rfl rfl fun hs => za1 ?_
  exact ⟨false, hm, hs.subs ⟨rfl, rfl, rfl, rfl, rfl, trivial⟩ (.cons _ (.cons_cons _ (.cons_cons _ (.refl _))))⟩
 replace hm := oc_f hg107 hm
 refine s3 hs fun hs => s3 hs fun hs => s3 hs fun hs => s3 hs fun hs => sP hs rfl rfl fun hs => sM hs rfl fun hs => s2 (v := .string (x18.name)) hs (za9 rfl) fun hs => s2 hs (zfr rfl rfl) fun hs => s2 (v := .bool (decide (x18.name = (bs [116,114])))) hs (za9 rfl) fun hs => ?_
 refine St.split hs (t := 25) rfl (fun hg117 hs => ?_) (fun hg117 hs => ?_)
 ·replace hm := oc_t hg117 hm
  refine s2 (v := .string (p1)) hs (za9 rfl) fun hs => s2 hs (zn8 rfl rfl) fun hs => s2 (v := .bool (decide (p1 ≠ (bs [116,100])))) hs (zdf rfl rfl) fun hs => sP hs rfl rfl fun hs => za1 ?_
  exact ⟨decide (p1 ≠ (bs [116,100])), hm, hs.sub ⟨rfl, rfl, rfl, rfl, rfl, trivial⟩⟩
 replace hm := oc_f hg117 hm
 refine s3 hs fun hs => s3 hs fun hs => s2 (v := .bool (false)) hs (zdf rfl rfl) fun hs => sP hs rfl rfl fun hs => za1 ?_
 exact ⟨false, hm, hs.sub ⟨rfl, rfl, rfl, rfl, rfl, trivial⟩⟩
def zbv (n : Nat) (p1 : ByteArray) (p2 : (List zam)) (y22 : (List Int)) (y27 : Int) (y28 : Bool) (y29 : (List za0)) : Option (za2 × (List za0)) :=
  (zbq n ({open_ := y22, count := y27, deep := y28} : za2) p1 p2 y29).bind fun x35 =>
  some (({open_ := x35.1.open_, count := x35.1.count, deep := x35.1.deep} : za2), x35.2)
def zcp (n : Nat) (p1 : ByteArray) (p2 : (List zam)) (y62 : (List Int)) (y67 : Int) (y68 : Bool) (y69 : (List za0)) : Option (za2 × (List za0)) :=
  zbv n p1 p2 y62 y67 y68 y69
def zco (n : Nat) (p1 : ByteArray) (p2 : (List zam)) (y93 : (List Int)) (y98 : Int) (y99 : Bool) (y100 : (List za0)) : Option (za2 × (List za0)) :=
  zcp n p1 p2 y93 y98 y99 y100
def zcn (n : Nat) (p1 : ByteArray) (p2 : (List zam)) (y151 : (List Int)) (y156 : Int) (y157 : Bool) (y158 : (List za0)) : Option (za2 × (List za0)) :=
  zco n p1 p2 y151 y156 y157 y158
def zbw (n : Nat) (A : (List za0)) (p1 : ByteArray) (p2 : (List zam)) (y12 : (List Int)) (y17 : Int) (y18 : Bool) : Option (za2 × (List za0)) :=
  (bif (decide (p1 = (bs [108,105]))) then (zc1 n ({open_ := y12, count := y17, deep := y18} : za2) [(bs [117,108]),(bs [116,100])] A).bind fun x50 =>
  (zat n ({open_ := y12, count := y17, deep := y18} : za2) x50 (bs [108,105]) A).bind fun x52 =>
  zbv n p1 p2 x52.open_ x52.count x52.deep A else
  (bif (decide (p1 = (bs [116,114]))) then (zc1 n ({open_ := y12, count := y17, deep := y18} : za2) [(bs [116,97,98,108,101])] A).bind fun x81 =>
  (zat n ({open_ := y12, count := y17, deep := y18} : za2) x81 (bs [116,114]) A).bind fun x83 =>
  zcp n p1 p2 x83.open_ x83.count x83.deep A else
  (bif (decide (p1 = (bs [116,100]))) then (zc1 n ({open_ := y12, count := y17, deep := y18} : za2) [(bs [116,114])] A).bind fun x112 =>
  (zat n ({open_ := y12, count := y17, deep := y18} : za2) x112 (bs [116,100]) A).bind fun x114 =>
  (zb7 n x114 A).bind fun x122 =>
  (focM A [] x122.1).bind fun x132 =>
  (bif (decide (x132.name = (bs [116,97,98,108,101]))) then (zbq n x122.2 (bs [116,114]) ([] : List zam) A).bind fun x166 =>
  zcn n p1 p2 x166.1.open_ x166.1.count x166.1.deep x166.2 else
  zcn n p1 p2 x122.2.open_ x122.2.count x122.2.deep A) else
  zco n p1 p2 y12 y17 y18 A)))
def zct (n : Nat) (p0 : za2) (p1 : ByteArray) (p2 : (List zam)) (A : (List za0)) : Option (za2 × (List za0)) :=
  (zif n p1).bind fun x8 =>
  (bif x8 then (zc1 n p0 [(bs [116,100])] A).bind fun x181 =>
  (zat n p0 x181 (bs [112]) A).bind fun x183 =>
  zbw n A p1 p2 x183.open_ x183.count x183.deep else
  zbw n A p1 p2 p0.open_ p0.count p0.deep)
theorem zgc (n : Nat) {f : Fz} {ab : List Nat} {A : List za0} {p0 : za2} {pb0 : Nat} {pv0_0 : Value} {pv0_0r : List (List Value)} {p1 : ByteArray} {p2 : (List zam)} {a2 : Value} {res : (za2 × (List za0))} (pv0_0h : RW (tP ab) f pv0_0r p0.open_) (h2 : RS zch f a2 p2) (hm : zct n p0 p1 p2 A = some res) : DoesA nsh Tryz.prog 16 [.pointer (some ⟨pb0,0, none⟩), .string p1, a2] f [.blk pb0 (.cells #[pv0_0, .int .i64 p0.count, .bool p0.deep] 55 (0,0)), .row pv0_0 49 1 pv0_0r] ab A res.2 (fun r f' ab' L' => ∃ (dp0_0 : Value) (dp0_0r : List (List Value)), L' = [.blk pb0 (.cells #[dp0_0, .int .i64 res.1.count, .bool res.1.deep] 55 (0,0)), .row dp0_0 49 1 dp0_0r] ∧ r = .tuple #[] ∧ RW (tP ab') f' dp0_0r res.1.open_) := by
 unfold zct at hm
 intro w0 L0 L w hA hC
 have hbs := List.prefix_refl ab
 replace hC : Cw w0 f (.blk pb0 (.cells #[pv0_0, .int .i64 p0.count, .bool p0.deep] 55 (0,0)) :: .row pv0_0 49 1 pv0_0r :: L) w := hC
 obtain ⟨rw4, hR5, hW6⟩ := h2
 refine enter Tryz.func16 rfl Tryz.ntmps16 (by simp) hC fun a hs => ?_
 have hle := Fz.le.refl f
 refine Ws fun hK1 => Wq fun hK2 => sM hs rfl fun hs => ?_
 obtain ⟨x8, hx9, hm⟩ := ob hm
 refine s1 hs (zfu rfl has39 rfl (zp9 n  hx9)) fun hs => za1 <| hK2 ?_
 have hbase19 := Fz.le.refl f
 refine zay (fun a w => ∃ (f10 : Fz) (y12 : (List Int)) (y17 : Int) (y18 : Bool) (v13 : Value) (rw14 : List (List Value)), Fz.le f f10 ∧ zbw n A p1 p2 y12 y17 y18 = some res ∧ RW (tP ab) f10 rw14 y12 ∧ St 47 w0 f10 (.blk pb0 (.cells #[v13, .int .i64 (y17), .bool (y18)] 55 (0,0)) :: .row v13 49 1 rw14 :: L) [(0, .pointer (some ⟨pb0,0, none⟩)),(1, .string (p1)),(2, a2)] a w) ?_ ?_
 ·clear hs hm
  clear hbase19
  rintro a w ⟨f10, y12, y17, y18, v13, rw14, hl11, hm, hW15, hs⟩
  replace hA := hA.le hl11
  replace hR5 := hR5.le hl11
  replace hW6 := hW6.le hl11
  replace hle := hle.trans hl11
  unfold zbw at hm
  refine hK1 <| Ws fun hK3 => Wq fun hK4 => sM hs rfl fun hs => za1 <| hK4 <| zas fun Qe5 hB5 hO5 => Ws fun hK6 => za5 ?_
  refine s1 hs (zfr rfl rfl) fun hs => sA hs rfl fun hs => za1 <| hK6 ?_
  have hbase30 := Fz.le.refl f10
  obtain ⟨bK31, hbE32⟩ : ∃ z, z = ab := ⟨_, rfl⟩
  have hbb33 : bK31 <+: ab := by rw [hbE32]; exact List.prefix_refl _
  refine zay (fun a w => ∃ (f20 : Fz) (L : List Ent) (ab : List Nat) (y22 : (List Int)) (y27 : Int) (y28 : Bool) (y29 : (List za0)) (v23 : Value) (rw24 : List (List Value)), Fz.le f10 f20 ∧ bK31 <+: ab ∧ AR nsh f20 ab y29 [] L0 L ∧ zbv n p1 p2 y22 y27 y28 y29 = some res ∧ RW (tP ab) f20 rw24 y22 ∧ St 47 w0 f20 (.blk pb0 (.cells #[v23, .int .i64 (y27), .bool (y28)] 55 (0,0)) :: .row v23 49 1 rw24 :: L) [(0, .pointer (some ⟨pb0,0, none⟩)),(1, .string (p1)),(2, a2)] a w) ?_ ?_
  ·clear hs hm
   clear hbase30
   clear hA
   rintro a w ⟨f20, L, ab, y22, y27, y28, y29, v23, rw24, hl21, hbx34, hA, hm, hW25, hs⟩
   have hbb33 := hbx34; rw [hbE32] at hbx34
   replace hbs := hbs.trans hbx34
   replace hR5 := hR5.le hl21
   replace hW6 := hW6.le hl21
   replace hle := hle.trans hl21
   unfold zbv at hm
   refine hK3 <| za5 <| sM hs rfl fun hs => sM hs rfl fun hs => sM hs rfl fun hs => ?_
   obtain ⟨x35, hx36, hm⟩ := ob hm
   replace hs := hs.front 1
   replace hs := hs.front 1
   refine zhe (Lr := [.blk pb0 (.cells #[v23, .int .i64 (y27), .bool (y28)] 55 (0,0)), .row v23 49 1 rw24]) [] hA hs rfl has42 rfl (zeb n hW25 ⟨rw4, hR5, hW6⟩ hx36) (.free rfl) (by decide) ?_; clear hs; (try clear a w)
   clear hA
   rintro _ f37 ab _ L a w hf38 hbg42 hA ⟨v39, rw40, rfl, rfl, hW41⟩ hs
   replace hle := hle.trans hf38
   replace hbs := hbs.trans hbg42
   refine za1 ?_
   obtain rfl := Option.some.inj hm
   refine RtV0 hs rfl  ?_
   exact ⟨_, f37, ab,[.blk pb0 (.cells #[v39, .int .i64 (x35.1.count), .bool (x35.1.deep)] 55 (0,0)), .row v39 49 1 rw40], L, rfl, hle, hbs, hA, hs.cw, v39, rw40, rfl, rfl, hW41⟩
  refine zag hs rfl (fun hg44 => ?_) (fun hg44 => ?_)
  ·replace hm := oc_t hg44 hm
   refine za5 <| sM hs rfl fun hs => sM hs rfl fun hs => ?_
   refine zo8 (parts := [(0, .const (.string (bs [117,108]))),(1, .const (.string (bs [116,100])))]) (us := [.string ((bs [117,108])), .string ((bs [116,100]))]) (rows := [[.string ((bs [117,108]))],[.string ((bs [116,100]))]]) hs rfl Tryz.underlying102 ti9 (by decide) rfl rfl (by intro r hr; simp only [List.mem_cons, List.mem_nil_iff, or_false] at hr; rcases hr with rfl | rfl; exact AllC.row ⟨rfl, trivial⟩ rfl; exact AllC.row ⟨rfl, trivial⟩ rfl) fun v45 _ _ hs => ?_
   have hW46 : RW tStr f10 [[.string ((bs [117,108]))],[.string ((bs [116,100]))]] [(bs [117,108]),(bs [116,100])] := ⟨rfl, ⟨rfl, trivial⟩⟩
   generalize hgrw47 : ([[.string ((bs [117,108]))],[.string ((bs [116,100]))]] : List (List Value)) = rw47 at hs hW46; clear hgrw47
   obtain ⟨x50, hx51, hm⟩ := ob hm
   refine sy hs (zds (cap := []) rfl has41 rfl (fun w9 hw9 => callsF (Lr := [.row v45 9 1 rw47, .blk pb0 (.cells #[v13, .int .i64 (y17), .bool (y18)] 55 (0,0)), .row v13 49 1 rw14]) (Lf := L) (((zae _ 2 rfl).trans (zae _ 2 rfl)).trans (zae _ 2 rfl)) hw9 (fun w9 hw9 => lent0 hw9 (fun f9_0 w9 hle9_0 hRl0 hw9 => GivesR.at (X := []) (zdj n (hW15.le hle9_0) ⟨rw47, hRl0, hW46.le hle9_0⟩ hx51) (hA.le hle9_0) (.refl _) hw9)))) fun _ _ hs => ?_
   obtain ⟨x52, hx53, hm⟩ := ob hm
   replace hs := hs.front 2
   replace hs := hs.front 2
   refine zev (Lr := [.blk pb0 (.cells #[v13, .int .i64 (y17), .bool (y18)] 55 (0,0)), .row v13 49 1 rw14]) [.row v45 9 1 rw47] hA hs rfl has40 rfl (zcb n hW15 hx53) (.free rfl) (by decide) ?_; clear hs; (try clear a w)
   rintro _ f54 _ a w hf55 ⟨v56, rw57, rfl, rfl, hW58⟩ hs
   replace hA := hA.le hf55
   replace hbase30 := hbase30.trans hf55
   refine za1 ?_
   exact ⟨_, L, ab, x52.open_, x52.count, x52.deep, A, v56, rw57, hbase30, hbb33, hA, hm, hW58, hs.subs ⟨rfl, rfl, rfl, trivial⟩ (.cons_cons _ (.cons_cons _ (.cons _ (.refl _))))⟩
  replace hm := oc_f hg44 hm
  refine Wq fun hK7 => s1 hs (zfr rfl rfl) fun hs => sA hs rfl fun hs => za1 <| hK7 ?_
  have hbase70 := Fz.le.refl f10
  obtain ⟨bK71, hbE72⟩ : ∃ z, z = ab := ⟨_, rfl⟩
  have hbb73 : bK71 <+: ab := by rw [hbE72]; exact List.prefix_refl _
  refine zay (fun a w => ∃ (f60 : Fz) (L : List Ent) (ab : List Nat) (y62 : (List Int)) (y67 : Int) (y68 : Bool) (y69 : (List za0)) (v63 : Value) (rw64 : List (List Value)), Fz.le f10 f60 ∧ bK71 <+: ab ∧ AR nsh f60 ab y69 [] L0 L ∧ zcp n p1 p2 y62 y67 y68 y69 = some res ∧ RW (tP ab) f60 rw64 y62 ∧ St 47 w0 f60 (.blk pb0 (.cells #[v63, .int .i64 (y67), .bool (y68)] 55 (0,0)) :: .row v63 49 1 rw64 :: L) [(0, .pointer (some ⟨pb0,0, none⟩)),(1, .string (p1)),(2, a2)] a w) ?_ ?_
  ·clear hs hm
   clear hbase70
   clear hA
   rintro a w ⟨f60, L, ab, y62, y67, y68, y69, v63, rw64, hl61, hbx74, hA, hm, hW65, hs⟩
   have hbb73 := hbx74; rw [hbE72] at hbx74
   replace hbb33 := hbb33.trans hbx74
   replace hbase30 := hbase30.trans hl61
   unfold zcp at hm
   exact ⟨_, L, ab, y62, y67, y68, y69, v63, rw64, hbase30, hbb33, hA, hm, hW65, hs.sub ⟨rfl, rfl, rfl, trivial⟩⟩
  refine zag hs rfl (fun hg75 => ?_) (fun hg75 => ?_)
  ·replace hm := oc_t hg75 hm
   refine za5 <| sM hs rfl fun hs => sM hs rfl fun hs => zh8 hs rfl Tryz.underlying102 ti9 rfl rfl fun v76 _ _ hs => ?_
   have hW77 : RW tStr f10 [[.string ((bs [116,97,98,108,101]))]] [(bs [116,97,98,108,101])] := RW.single (rfl)
   generalize hgrw78 : ([[.string ((bs [116,97,98,108,101]))]] : List (List Value)) = rw78 at hs hW77; clear hgrw78
   obtain ⟨x81, hx82, hm⟩ := ob hm
   refine sy hs (zds (cap := []) rfl has41 rfl (fun w9 hw9 => callsF (Lr := [.row v76 9 1 rw78, .blk pb0 (.cells #[v13, .int .i64 (y17), .bool (y18)] 55 (0,0)), .row v13 49 1 rw14]) (Lf := L) (((zae _ 2 rfl).trans (zae _ 2 rfl)).trans (zae _ 2 rfl)) hw9 (fun w9 hw9 => lent0 hw9 (fun f9_0 w9 hle9_0 hRl0 hw9 => GivesR.at (X := []) (zdj n (hW15.le hle9_0) ⟨rw78, hRl0, hW77.le hle9_0⟩ hx82) (hA.le hle9_0) (.refl _) hw9)))) fun _ _ hs => ?_
   obtain ⟨x83, hx84, hm⟩ := ob hm
   replace hs := hs.front 2
   replace hs := hs.front 2
   refine zev (Lr := [.blk pb0 (.cells #[v13, .int .i64 (y17), .bool (y18)] 55 (0,0)), .row v13 49 1 rw14]) [.row v76 9 1 rw78] hA hs rfl has40 rfl (zcb n hW15 hx84) (.free rfl) (by decide) ?_; clear hs; (try clear a w)
   rintro _ f85 _ a w hf86 ⟨v87, rw88, rfl, rfl, hW89⟩ hs
   replace hA := hA.le hf86
   replace hbase70 := hbase70.trans hf86
   refine za1 ?_
   exact ⟨_, L, ab, x83.open_, x83.count, x83.deep, A, v87, rw88, hbase70, hbb73, hA, hm, hW89, hs.subs ⟨rfl, rfl, rfl, trivial⟩ (.cons_cons _ (.cons_cons _ (.cons _ (.refl _))))⟩
  replace hm := oc_f hg75 hm
  refine Wq fun hK8 => s1 hs (zfr rfl rfl) fun hs => sA hs rfl fun hs => za1 <| hK8 ?_
  have hbase101 := Fz.le.refl f10
  obtain ⟨bK102, hbE103⟩ : ∃ z, z = ab := ⟨_, rfl⟩
  have hbb104 : bK102 <+: ab := by rw [hbE103]; exact List.prefix_refl _
  refine zay (fun a w => ∃ (f91 : Fz) (L : List Ent) (ab : List Nat) (y93 : (List Int)) (y98 : Int) (y99 : Bool) (y100 : (List za0)) (v94 : Value) (rw95 : List (List Value)), Fz.le f10 f91 ∧ bK102 <+: ab ∧ AR nsh f91 ab y100 [] L0 L ∧ zco n p1 p2 y93 y98 y99 y100 = some res ∧ RW (tP ab) f91 rw95 y93 ∧ St 47 w0 f91 (.blk pb0 (.cells #[v94, .int .i64 (y98), .bool (y99)] 55 (0,0)) :: .row v94 49 1 rw95 :: L) [(0, .pointer (some ⟨pb0,0, none⟩)),(1, .string (p1)),(2, a2)] a w) ?_ ?_
  ·clear hs hm
   clear hbase101
   clear hA
   rintro a w ⟨f91, L, ab, y93, y98, y99, y100, v94, rw95, hl92, hbx105, hA, hm, hW96, hs⟩
   have hbb104 := hbx105; rw [hbE103] at hbx105
   replace hbb73 := hbb73.trans hbx105
   replace hbase70 := hbase70.trans hl92
   unfold zco at hm
   exact ⟨_, L, ab, y93, y98, y99, y100, v94, rw95, hbase70, hbb73, hA, hm, hW96, hs.sub ⟨rfl, rfl, rfl, trivial⟩⟩
  refine zag hs rfl (fun hg106 => ?_) (fun hg106 => ?_)
  ·replace hm := oc_t hg106 hm
   refine Wq fun hK9 => sM hs rfl fun hs => sM hs rfl fun hs => zh8 hs rfl Tryz.underlying102 ti9 rfl rfl fun v107 _ _ hs => ?_
   have hW108 : RW tStr f10 [[.string ((bs [116,114]))]] [(bs [116,114])] := RW.single (rfl)
   generalize hgrw109 : ([[.string ((bs [116,114]))]] : List (List Value)) = rw109 at hs hW108; clear hgrw109
   obtain ⟨x112, hx113, hm⟩ := ob hm
   refine sy hs (zds (cap := []) rfl has41 rfl (fun w9 hw9 => callsF (Lr := [.row v107 9 1 rw109, .blk pb0 (.cells #[v13, .int .i64 (y17), .bool (y18)] 55 (0,0)), .row v13 49 1 rw14]) (Lf := L) (((zae _ 2 rfl).trans (zae _ 2 rfl)).trans (zae _ 2 rfl)) hw9 (fun w9 hw9 => lent0 hw9 (fun f9_0 w9 hle9_0 hRl0 hw9 => GivesR.at (X := []) (zdj n (hW15.le hle9_0) ⟨rw109, hRl0, hW108.le hle9_0⟩ hx113) (hA.le hle9_0) (.refl _) hw9)))) fun _ _ hs => ?_
   obtain ⟨x114, hx115, hm⟩ := ob hm
   replace hs := hs.front 2
   replace hs := hs.front 2
   refine zev (Lr := [.blk pb0 (.cells #[v13, .int .i64 (y17), .bool (y18)] 55 (0,0)), .row v13 49 1 rw14]) [.row v107 9 1 rw109] hA hs rfl has40 rfl (zcb n hW15 hx115) (.free rfl) (by decide) ?_; clear hs; (try clear a w)
   rintro _ f116 _ a w hf117 ⟨v118, rw119, rfl, rfl, hW120⟩ hs
   replace hA := hA.le hf117
   replace hbase101 := hbase101.trans hf117
   refine za1 <| hK9 <| Wq fun hK10 => sM hs rfl fun hs => ?_
   obtain ⟨x122, hx123, hm⟩ := ob hm
   replace hs := hs.front 1
   replace hs := hs.front 1
   refine zev (Lr := [.blk pb0 (.cells #[v118, .int .i64 (x114.count), .bool (x114.deep)] 55 (0,0)), .row v118 49 1 rw119]) [.row v107 9 1 rw109] hA hs rfl has34 rfl (zca n hW120 hx123) (.free rfl) (by decide) ?_; clear hs; (try clear a w)
   rintro v126 f124 _ a w hf125 ⟨_, v128, rw129, rfl, rfl, hp127, hW130⟩ hs
   replace hA := hA.le hf125
   replace hbase101 := hbase101.trans hf125
   obtain ⟨x132, hx133, hm⟩ := ob hm
   obtain ⟨b148, rfl, _, ⟨v136, v141, v143, rw144, rfl, ⟨rw137, hR138, hW139⟩, hp142, hW145⟩, hpm147⟩ := AR.peek hA hx133 hp127
   have hm134 := hpm147 _ (.head _); have hm135 := hpm147 _ (.tail _ (.head _)); clear hpm147
   refine s1 hs (za6 rfl) fun hs => s1 (v := .pointer (some ⟨b148,0, none⟩)) hs (za3 rfl (FO.of (off := 0) Tryz.underlying52 rfl rfl ti9 (by decide))) fun hs => s1 (v := .string (x132.name)) hs (y_ld rfl Tryz.underlying9 rfl (Cell.blk (.tail _ (.tail _ (.tail _ (hm134)))) rfl)) fun hs => s1 hs (zfr rfl rfl) fun hs => za1 <| hK10 ?_
   have hbase159 := Fz.le.refl f124
   obtain ⟨bK160, hbE161⟩ : ∃ z, z = ab := ⟨_, rfl⟩
   have hbb162 : bK160 <+: ab := by rw [hbE161]; exact List.prefix_refl _
   refine zay (fun a w => ∃ (f149 : Fz) (L : List Ent) (ab : List Nat) (y151 : (List Int)) (y156 : Int) (y157 : Bool) (y158 : (List za0)) (v152 : Value) (rw153 : List (List Value)), Fz.le f124 f149 ∧ bK160 <+: ab ∧ AR nsh f149 ab y158 [] L0 L ∧ zcn n p1 p2 y151 y156 y157 y158 = some res ∧ RW (tP ab) f149 rw153 y151 ∧ St 47 w0 f149 (.blk pb0 (.cells #[v152, .int .i64 (y156), .bool (y157)] 55 (0,0)) :: .row v152 49 1 rw153 :: L) [(0, .pointer (some ⟨pb0,0, none⟩)),(1, .string (p1)),(2, a2)] a w) ?_ ?_
   ·clear hs hm
    clear hbase159
    clear hA
    rintro a w ⟨f149, L, ab, y151, y156, y157, y158, v152, rw153, hl150, hbx163, hA, hm, hW154, hs⟩
    have hbb162 := hbx163; rw [hbE161] at hbx163
    replace hbb104 := hbb104.trans hbx163
    replace hbase101 := hbase101.trans hl150
    unfold zcn at hm
    exact ⟨_, L, ab, y151, y156, y157, y158, v152, rw153, hbase101, hbb104, hA, hm, hW154, hs.sub ⟨rfl, rfl, rfl, trivial⟩⟩
   refine zag hs rfl (fun hg164 => ?_) (fun hg164 => ?_)
   ·replace hm := oc_t hg164 hm
    refine za5 <| sM hs rfl fun hs => ?_
    obtain ⟨x166, hx167, hm⟩ := ob hm
    replace hs := hs.front 1
    replace hs := hs.front 1
    refine zhe (Lr := [.blk pb0 (.cells #[v128, .int .i64 (x122.2.count), .bool (x122.2.deep)] 55 (0,0)), .row v128 49 1 rw129]) [.row v107 9 1 rw109] hA hs rfl has42 rfl (zeb n hW130 RS.nil hx167) (.free rfl) (by decide) ?_; clear hs; (try clear a w)
    clear hA
    rintro _ f168 ab _ L a w hf169 hbg173 hA ⟨v170, rw171, rfl, rfl, hW172⟩ hs
    replace hbase159 := hbase159.trans hf169
    replace hbb162 := hbb162.trans hbg173
    refine za1 ?_
    exact ⟨_, L, ab, x166.1.open_, x166.1.count, x166.1.deep, x166.2, v170, rw171, hbase159, hbb162, hA, hm, hW172, hs.subs ⟨rfl, rfl, rfl, trivial⟩ (.cons_cons _ (.cons_cons _ (.cons _ (.refl _))))⟩
   replace hm := oc_f hg164 hm
   refine zak ?_
   exact ⟨_, L, ab, x122.2.open_, x122.2.count, x122.2.deep, A, v128, rw129,(Fz.le.refl _), hbb162, hA, hm, hW130, hs.subs ⟨rfl, rfl, rfl, trivial⟩ (.cons_cons _ (.cons_cons _ (.cons _ (.refl _))))⟩
  replace hm := oc_f hg106 hm
  refine zak ?_
  exact ⟨_, L, ab, y12, y17, y18, A, v13, rw14,(Fz.le.refl _), hbb104, hA, hm, hW15, hs.sub ⟨rfl, rfl, rfl, trivial⟩⟩
 refine zag hs rfl (fun hg175 => ?_) (fun hg175 => ?_)
 ·replace hm := oc_t hg175 hm
  refine za5 <| sM hs rfl fun hs => sM hs rfl fun hs => zh8 hs rfl Tryz.underlying102 ti9 rfl rfl fun v176 _ _ hs => ?_
  have hW177 : RW tStr f [[.string ((bs [116,100]))]] [(bs [116,100])] := RW.single (rfl)
  generalize hgrw178 : ([[.string ((bs [116,100]))]] : List (List Value)) = rw178 at hs hW177; clear hgrw178
  obtain ⟨x181, hx182, hm⟩ := ob hm
  refine sy hs (zds (cap := []) rfl has41 rfl (fun w9 hw9 => callsF (Lr := [.row v176 9 1 rw178, .blk pb0 (.cells #[pv0_0, .int .i64 (p0.count), .bool (p0.deep)] 55 (0,0)), .row pv0_0 49 1 pv0_0r]) (Lf := L) (((zae _ 2 rfl).trans (zae _ 2 rfl)).trans (zae _ 2 rfl)) hw9 (fun w9 hw9 => lent0 hw9 (fun f9_0 w9 hle9_0 hRl0 hw9 => GivesR.at (X := []) (zdj n (pv0_0h.le hle9_0) ⟨rw178, hRl0, hW177.le hle9_0⟩ hx182) (hA.le hle9_0) (.refl _) hw9)))) fun _ _ hs => ?_
  obtain ⟨x183, hx184, hm⟩ := ob hm
  replace hs := hs.front 2
  replace hs := hs.front 2
  refine zev (Lr := [.blk pb0 (.cells #[pv0_0, .int .i64 (p0.count), .bool (p0.deep)] 55 (0,0)), .row pv0_0 49 1 pv0_0r]) [.row v176 9 1 rw178] hA hs rfl has40 rfl (zcb n pv0_0h hx184) (.free rfl) (by decide) ?_; clear hs; (try clear a w)
  rintro _ f185 _ a w hf186 ⟨v187, rw188, rfl, rfl, hW189⟩ hs
  replace hbase19 := hbase19.trans hf186
  refine za1 ?_
  exact ⟨_, x183.open_, x183.count, x183.deep, v187, rw188, hbase19, hm, hW189, hs.subs ⟨rfl, rfl, rfl, trivial⟩ (.cons_cons _ (.cons_cons _ (.cons _ (.refl _))))⟩
 replace hm := oc_f hg175 hm
 refine zak ?_
 exact ⟨_, p0.open_, p0.count, p0.deep, pv0_0, pv0_0r,(Fz.le.refl _), hm, pv0_0h, hs.sub ⟨rfl, rfl, rfl, trivial⟩⟩
def zcr (y26 : (List Int)) (y31 : Int) (y32 : Bool) (y33 : (List za0)) : Option (za2 × (List za0)) :=
  some (({open_ := y26, count := y31, deep := y32} : za2), y33)
def zcq (y105 : (List Int)) (y110 : Int) (y111 : Bool) (y112 : (List za0)) : Option (za2 × (List za0)) :=
  some (({open_ := y105, count := y110, deep := y111} : za2), y112)
def zav (n : Nat) (x93 : (List Int)) : Nat → (List Int) → Int → Bool → Int → (List za0) → Option (za2 × (List za0))
  | 0, _, _, _, _, _ => none
  | k133 + 1, y120, y125, y126, y127, y128 =>
  (bif (decide (y127 < (x93.length : Int))) then (geti x93 y127).bind fun x136 =>
  (focM y128 [] x136).bind fun x146 =>
  (zbq n ({open_ := y120, count := y125, deep := y126} : za2) x146.name x146.attrs y128).bind fun x163 =>
  (zav n x93 k133) x163.1.open_ x163.1.count x163.1.deep (w64 (y127 + 1)) x163.2 else
  zcq y120 y125 y126 y128)
def zbx (n : Nat) (A : (List za0)) (p0 : za2) (p1 : ByteArray) (y20 : Int) : Option (za2 × (List za0)) :=
  (zcu n p0 y20 p1 A).bind fun x21 =>
  (bif (decide (x21 < 0)) then (bif (decide (p1 = (bs [112]))) then (zct n p0 (bs [112]) ([] : List zam) A).bind fun x41 =>
  (zcc n x41.1 (w64 ((x41.1.open_.length : Int) - 1))).bind fun x50 =>
  zcr x50.open_ x50.count x50.deep x41.2 else
  zcr p0.open_ p0.count p0.deep A) else
  (cutM p0.open_ ((w64 (x21 + 1)) : Int) (p0.open_.length : Int)).bind fun x58 =>
  (appM 8 [] x58).bind fun x64 =>
  (zcc n p0 x21).bind fun x73 =>
  (zge n p1).bind fun x81 =>
  (bif (!x81) then some (({open_ := x73.open_, count := x73.count, deep := x73.deep} : za2), A) else
  (zaw n x64 (fun z0 => zcx n z0 A) A).bind fun x84 =>
  (cutM x84 ((bif decide ((w64 ((x84.length : Int) - 8)) < 0) then 0 else (w64 ((x84.length : Int) - 8))) : Int) (x84.length : Int)).bind fun x93 =>
  zav n x93 n x73.open_ x73.count x73.deep 0 A))
def zby (n : Nat) (A : (List za0)) (p0 : za2) (p1 : ByteArray) (y4 : Bool) : Option (za2 × (List za0)) :=
  (bif y4 then some (({open_ := p0.open_, count := p0.count, deep := p0.deep} : za2), A) else
  (zc1 n p0 [(bs [116,100])] A).bind fun x11 =>
  (zhn n p1 [(bs [116,100]),(bs [116,114]),(bs [116,97,98,108,101])]).bind fun x18 =>
  (bif x18 then zbx n A p0 p1 0 else
  zbx n A p0 p1 x11))
def zdi (n : Nat) (p0 : za2) (p1 : ByteArray) (A : (List za0)) : Option (za2 × (List za0)) :=
  (zig n p1).bind fun x184 =>
  (bif x184 then zby n A p0 p1 true else
  zby n A p0 p1 (decide (p1 = (bs [114,111,111,116]))))
theorem zjd (n : Nat) {f : Fz} {ab : List Nat} {A : List za0} {p0 : za2} {pb0 : Nat} {pv0_0 : Value} {pv0_0r : List (List Value)} {p1 : ByteArray} {res : (za2 × (List za0))} (pv0_0h : RW (tP ab) f pv0_0r p0.open_) (hm : zdi n p0 p1 A = some res) : DoesA nsh Tryz.prog 17 [.pointer (some ⟨pb0,0, none⟩), .string p1] f [.blk pb0 (.cells #[pv0_0, .int .i64 p0.count, .bool p0.deep] 55 (0,0)), .row pv0_0 49 1 pv0_0r] ab A res.2 (fun r f' ab' L' => ∃ (dp0_0 : Value) (dp0_0r : List (List Value)), L' = [.blk pb0 (.cells #[dp0_0, .int .i64 res.1.count, .bool res.1.deep] 55 (0,0)), .row dp0_0 49 1 dp0_0r] ∧ r = .tuple #[] ∧ RW (tP ab') f' dp0_0r res.1.open_) := by
 unfold zdi at hm
 intro w0 L0 L w hA hC
 have hbs := List.prefix_refl ab
 replace hC : Cw w0 f (.blk pb0 (.cells #[pv0_0, .int .i64 p0.count, .bool p0.deep] 55 (0,0)) :: .row pv0_0 49 1 pv0_0r :: L) w := hC
 refine enter Tryz.func17 rfl Tryz.ntmps17 (by simp) hC fun a hs => ?_
 have hle := Fz.le.refl f
 refine Ws fun hK1 => Ws fun hK2 => ?_
 refine zay (fun a w => ∃ (y4 : Bool), zby n A p0 p1 y4 = some res ∧ St 77 w0 f (.blk pb0 (.cells #[pv0_0, .int .i64 (p0.count), .bool (p0.deep)] 55 (0,0)) :: .row pv0_0 49 1 pv0_0r :: L) [(0, .pointer (some ⟨pb0,0, none⟩)),(1, .string (p1)),(14, .bool (y4))] a w) ?_ ?_
 ·clear hs hm
  rintro a w ⟨y4, hm, hs⟩
  unfold zby at hm
  refine hK2 ?_
  refine zag hs rfl (fun hg5 => ?_) (fun hg5 => ?_)
  ·replace hm := oc_t hg5 hm
   refine zbl ?_
   obtain rfl := Option.some.inj hm
   refine RtV0 hs rfl  ?_
   exact ⟨_, f, ab,[.blk pb0 (.cells #[pv0_0, .int .i64 (p0.count), .bool (p0.deep)] 55 (0,0)), .row pv0_0 49 1 pv0_0r], L, rfl, hle, hbs, hA, hs.cw, pv0_0, pv0_0r, rfl, rfl, pv0_0h⟩
  replace hm := oc_f hg5 hm
  refine zak <| hK1 <| Wq fun hK3 => sM hs rfl fun hs => zh8 hs rfl Tryz.underlying102 ti9 rfl rfl fun v6 _ _ hs => ?_
  have hW7 : RW tStr f [[.string ((bs [116,100]))]] [(bs [116,100])] := RW.single (rfl)
  generalize hgrw8 : ([[.string ((bs [116,100]))]] : List (List Value)) = rw8 at hs hW7; clear hgrw8
  obtain ⟨x11, hx12, hm⟩ := ob hm
  refine sy hs (zds (cap := []) rfl has41 rfl (fun w9 hw9 => callsF (Lr := [.row v6 9 1 rw8, .blk pb0 (.cells #[pv0_0, .int .i64 (p0.count), .bool (p0.deep)] 55 (0,0)), .row pv0_0 49 1 pv0_0r]) (Lf := L) (((zae _ 2 rfl).trans (zae _ 2 rfl)).trans (zae _ 2 rfl)) hw9 (fun w9 hw9 => lent0 hw9 (fun f9_0 w9 hle9_0 hRl0 hw9 => GivesR.at (X := []) (zdj n (pv0_0h.le hle9_0) ⟨rw8, hRl0, hW7.le hle9_0⟩ hx12) (hA.le hle9_0) (.refl _) hw9)))) fun _ _ hs => sA hs rfl fun hs => za1 <| hK3 <| Ws fun hK4 => Wq fun hK5 => sM hs rfl fun hs => ?_
  refine zo8 (parts := [(0, .const (.string (bs [116,100]))),(1, .const (.string (bs [116,114]))),(2, .const (.string (bs [116,97,98,108,101])))]) (us := [.string ((bs [116,100])), .string ((bs [116,114])), .string ((bs [116,97,98,108,101]))]) (rows := [[.string ((bs [116,100]))],[.string ((bs [116,114]))],[.string ((bs [116,97,98,108,101]))]]) hs rfl Tryz.underlying102 ti9 (by decide) rfl rfl (by intro r hr; simp only [List.mem_cons, List.mem_nil_iff, or_false] at hr; rcases hr with rfl | rfl | rfl; exact AllC.row ⟨rfl, trivial⟩ rfl; exact AllC.row ⟨rfl, trivial⟩ rfl; exact AllC.row ⟨rfl, trivial⟩ rfl) fun v13 _ _ hs => ?_
  have hW14 : RW tStr f [[.string ((bs [116,100]))],[.string ((bs [116,114]))],[.string ((bs [116,97,98,108,101]))]] [(bs [116,100]),(bs [116,114]),(bs [116,97,98,108,101])] := ⟨rfl, ⟨rfl, ⟨rfl, trivial⟩⟩⟩
  generalize hgrw15 : ([[.string ((bs [116,100]))],[.string ((bs [116,114]))],[.string ((bs [116,97,98,108,101]))]] : List (List Value)) = rw15 at hs hW14; clear hgrw15
  obtain ⟨x18, hx19, hm⟩ := ob hm
  refine sy hs (zds (cap := []) rfl has33 rfl (fun w9 hw9 => callsP (Lr := [.row v13 9 1 rw15]) (Lf := .row v6 9 1 rw8 :: .blk pb0 (.cells #[pv0_0, .int .i64 (p0.count), .bool (p0.deep)] 55 (0,0)) :: .row pv0_0 49 1 pv0_0r :: L) (zae _ 0 rfl) hw9 (fun Lz w9 hw9 => lent0 hw9 (fun f9_0 w9 hle9_0 hRl0 hw9 => (zgf n ⟨rw15, hRl0, hW14.le hle9_0⟩ hx19) w0 _ w9 hw9)))) fun _ _ hs => za1 <| hK5 ?_
  refine zay (fun a w => ∃ (y20 : Int), zbx n A p0 p1 y20 = some res ∧ St 77 w0 f (.blk pb0 (.cells #[pv0_0, .int .i64 (p0.count), .bool (p0.deep)] 55 (0,0)) :: .row pv0_0 49 1 pv0_0r :: L) [(0, .pointer (some ⟨pb0,0, none⟩)),(1, .string (p1)),(4, .int .i64 (y20))] a w) ?_ ?_
  ·clear hs hm
   rintro a w ⟨y20, hm, hs⟩
   unfold zbx at hm
   refine hK4 <| Wq fun hK6 => sM hs rfl fun hs => sM hs rfl fun hs => sM hs rfl fun hs => ?_
   obtain ⟨x21, hx22, hm⟩ := ob hm
   refine s1 hs (zl6 (cap := []) (X := []) hA rfl has44 rfl ((zae _ 1 rfl).trans (zae _ 1 rfl)) (zfb n pv0_0h hx22)) fun hs => sA hs rfl fun hs => za1 <| hK6 <| Ws fun hK7 => Wq fun hK8 => sM hs rfl fun hs => s1 hs (zhw rfl rfl) fun hs => za1 ?_
   refine hK8 ?_
   refine zag hs rfl (fun hg23 => ?_) (fun hg23 => ?_)
   ·replace hm := oc_t hg23 hm
    refine Ws fun hK9 => Wq fun hK10 => sM hs rfl fun hs => s1 hs (zfr rfl rfl) fun hs => za1 <| hK10 ?_
    have hbase34 := Fz.le.refl f
    obtain ⟨bK35, hbE36⟩ : ∃ z, z = ab := ⟨_, rfl⟩
    have hbb37 : bK35 <+: ab := by rw [hbE36]; exact List.prefix_refl _
    refine zay (fun a w => ∃ (f24 : Fz) (L : List Ent) (ab : List Nat) (y26 : (List Int)) (y31 : Int) (y32 : Bool) (y33 : (List za0)) (v27 : Value) (rw28 : List (List Value)), Fz.le f f24 ∧ bK35 <+: ab ∧ AR nsh f24 ab y33 [] L0 L ∧ zcr y26 y31 y32 y33 = some res ∧ RW (tP ab) f24 rw28 y26 ∧ St 77 w0 f24 (.blk pb0 (.cells #[v27, .int .i64 (y31), .bool (y32)] 55 (0,0)) :: .row v27 49 1 rw28 :: L) [] a w) ?_ ?_
    ·clear hs hm
     clear hbase34
     clear hA
     rintro a w ⟨f24, L, ab, y26, y31, y32, y33, v27, rw28, hl25, hbx38, hA, hm, hW29, hs⟩
     have hbb37 := hbx38; rw [hbE36] at hbx38
     replace hbs := hbs.trans hbx38
     replace hle := hle.trans hl25
     unfold zcr at hm
     refine hK9 <| zbl ?_
     obtain rfl := Option.some.inj hm
     refine RtV0 hs rfl  ?_
     exact ⟨_, f24, ab,[.blk pb0 (.cells #[v27, .int .i64 (y31), .bool (y32)] 55 (0,0)), .row v27 49 1 rw28], L, rfl, hle, hbs, hA, hs.cw, v27, rw28, rfl, rfl, hW29⟩
    refine zag hs rfl (fun hg39 => ?_) (fun hg39 => ?_)
    ·replace hm := oc_t hg39 hm
     refine Wq fun hK11 => sM hs rfl fun hs => ?_
     obtain ⟨x41, hx42, hm⟩ := ob hm
     replace hs := hs.front 1
     replace hs := hs.front 1
     refine zhe (Lr := [.blk pb0 (.cells #[pv0_0, .int .i64 (p0.count), .bool (p0.deep)] 55 (0,0)), .row pv0_0 49 1 pv0_0r]) [] hA hs rfl has16 rfl (zgc n pv0_0h RS.nil hx42) (.free rfl) (by decide) ?_; clear hs; (try clear a w)
     clear hA
     rintro _ f43 ab _ L a w hf44 hbg48 hA ⟨v45, rw46, rfl, rfl, hW47⟩ hs
     replace hbase34 := hbase34.trans hf44
     replace hbb37 := hbb37.trans hbg48
     refine za1 <| hK11 <| za5 <| sM hs rfl fun hs => sM hs rfl fun hs => s1 hs (za6 rfl) fun hs => s1 (v := .pointer (some ⟨pb0,0, none⟩)) hs (za3 rfl (FO.of (off := 0) Tryz.underlying55 rfl rfl ti50 (by decide))) fun hs => s1 (v := v45) hs (y_ld rfl Tryz.underlying50 rfl (Cell.blk (.head _) rfl)) fun hs => s1 hs (ze4 (Rd.st hs (.tail _ (.head _))) hW47 rfl Tryz.underlying50) fun hs => s1 hs (zlz rfl rfl rfl) fun hs => ?_
     obtain ⟨x50, hx51, hm⟩ := ob hm
     replace hs := hs.front 1
     replace hs := hs.front 1
     refine zdo (Lr := [.blk pb0 (.cells #[v45, .int .i64 (x41.1.count), .bool (x41.1.deep)] 55 (0,0)), .row v45 49 1 rw46]) (Lf := L) hs rfl has45 rfl rfl (zey n hW47 hx51) (.free rfl) (by decide) ?_; clear hs; (try clear a w)
     rintro _ f52 _ a w hf53 ⟨v54, rw55, rfl, rfl, hW56⟩ hs
     replace hA := hA.le hf53
     replace hbase34 := hbase34.trans hf53
     refine za1 ?_
     exact ⟨_, L, ab, x50.open_, x50.count, x50.deep, x41.2, v54, rw55, hbase34, hbb37, hA, hm, hW56, hs.sub trivial⟩
    replace hm := oc_f hg39 hm
    refine zak ?_
    exact ⟨_, L, ab, p0.open_, p0.count, p0.deep, A, pv0_0, pv0_0r,(Fz.le.refl _), hbb37, hA, hm, pv0_0h, hs.sub trivial⟩
   replace hm := oc_f hg23 hm
   refine zak <| hK7 <| Wq fun hK12 => sM hs rfl fun hs => s1 hs (za6 rfl) fun hs => s1 (v := .pointer (some ⟨pb0,0, none⟩)) hs (za3 rfl (FO.of (off := 0) Tryz.underlying55 rfl rfl ti50 (by decide))) fun hs => s1 (v := pv0_0) hs (y_ld rfl Tryz.underlying50 rfl (Cell.blk (.head _) rfl)) fun hs => sM hs rfl fun hs => s1 hs (zga rfl rfl rfl) fun hs => ?_
   obtain ⟨x58, hx59, hm⟩ := ob hm
   obtain ⟨⟨hlx58, hhx58, h1x58, h2x58⟩, hex58⟩ := zen hx59
   have h3x58 : (p0.open_.length : Int).toNat ≤ pv0_0r.length := by rw [RW.len pv0_0h]; exact h2x58
   refine s1 hs (zi3 (lo := (w64 (x21 + 1)).toNat) (hi := (p0.open_.length : Int).toNat) rfl Tryz.underlying50 ti49 (.inr ⟨_, rfl, by rw [← hlx58]; rfl⟩) (.inl ⟨rfl, by rw [RW.len pv0_0h]; simp⟩) h1x58 h3x58 (Rd.st hs (.tail _ (.head _)))) fun hs => ?_
   obtain ⟨x64, hx65, hm⟩ := ob hm
   replace hs := hs.front 1
   refine zdo (Lr := [.row pv0_0 49 1 pv0_0r]) (Lf := .blk pb0 (.cells #[pv0_0, .int .i64 (p0.count), .bool (p0.deep)] 55 (0,0)) :: L) hs rfl has46 rfl rfl (zmz n pv0_0h h1x58 h3x58 hex58 hx65) (.free rfl) (by decide) ?_; clear hs; (try clear a w)
   rintro v68 f66 _ a w hf67 ⟨_, rw69, rfl, rfl, hW70⟩ hs
   replace hA := hA.le hf67
   replace pv0_0h := pv0_0h.le hf67
   replace hle := hle.trans hf67
   refine sA hs rfl fun hs => za1 <| hK12 <| Wq fun hK13 => sM hs rfl fun hs => sM hs rfl fun hs => ?_
   obtain ⟨x73, hx74, hm⟩ := ob hm
   replace hs := hs.front 1
   replace hs := hs.front 2
   refine zdo (Lr := [.blk pb0 (.cells #[pv0_0, .int .i64 (p0.count), .bool (p0.deep)] 55 (0,0)), .row pv0_0 49 1 pv0_0r]) (Lf := .row v68 49 1 rw69 :: L) hs rfl has45 rfl rfl (zey n pv0_0h hx74) (.free rfl) (by decide) ?_; clear hs; (try clear a w)
   rintro _ f75 _ a w hf76 ⟨v77, rw78, rfl, rfl, hW79⟩ hs
   replace hA := hA.le hf76
   replace pv0_0h := pv0_0h.le hf76
   replace hW70 := hW70.le hf76
   replace hle := hle.trans hf76
   refine za1 <| hK13 <| Ws fun hK14 => Wq fun hK15 => sM hs rfl fun hs => ?_
   obtain ⟨x81, hx82, hm⟩ := ob hm
   refine s1 hs (zfu rfl has47 rfl (zkj n  hx82)) fun hs => s1 (v := .bool ((!x81))) hs (zku rfl) fun hs => za1 <| hK15 ?_
   refine zag hs rfl (fun hg83 => ?_) (fun hg83 => ?_)
   ·replace hm := oc_t hg83 hm
    refine zbl ?_
    obtain rfl := Option.some.inj hm
    refine RtV0 hs rfl  ?_
    exact ⟨_, f75, ab,[.blk pb0 (.cells #[v77, .int .i64 (x73.count), .bool (x73.deep)] 55 (0,0)), .row v77 49 1 rw78], L, rfl, hle, hbs, hA,(hs.subL (.cons_cons _ (.cons_cons _ (.cons _ (.refl _))))).cw, v77, rw78, rfl, rfl, hW79⟩
   replace hm := oc_f hg83 hm
   refine zak <| hK14 <| Wq fun hK16 => sM hs rfl fun hs => ?_
   obtain ⟨x84, hx85, hm⟩ := ob hm
   replace hs := hs.front 2
   refine zev (Lr := [.row v68 49 1 rw69]) [.blk pb0 (.cells #[v77, .int .i64 (x73.count), .bool (x73.deep)] 55 (0,0)), .row v77 49 1 rw78] hA hs rfl has48 rfl (zew n hW70 has49 (fun f9 hle9 z0 c0 r9 h0 h9 => zie n h0 h9) hx85) (.free rfl) (by decide) ?_; clear hs; (try clear a w)
   rintro v88 f86 _ a w hf87 ⟨_, rw89, rfl, rfl, hW90⟩ hs
   replace hA := hA.le hf87
   replace pv0_0h := pv0_0h.le hf87
   replace hW70 := hW70.le hf87
   replace hW79 := hW79.le hf87
   replace hle := hle.trans hf87
   refine sA hs rfl fun hs => za1 <| hK16 <| Wq fun hK17 => sM hs rfl fun hs => sM hs rfl fun hs => s1 hs (ze4 (Rd.st hs (.head _)) hW90 rfl Tryz.underlying50) fun hs => s1 hs (zlz rfl rfl rfl) fun hs => s1 hs (y_max2 rfl rfl) fun hs => ?_
   obtain ⟨x93, hx94, hm⟩ := ob hm
   obtain ⟨⟨hlx93, hhx93, h1x93, h2x93⟩, hex93⟩ := zen hx94
   obtain ⟨f99, hf100, hs2, hR101⟩ := hs.frzAt 0 rfl
   clear hs; have hs := hs2; clear hs2
   replace hA := hA.le hf100
   replace pv0_0h := pv0_0h.le hf100
   replace hW70 := hW70.le hf100
   replace hW79 := hW79.le hf100
   replace hW90 := hW90.le hf100
   replace hle := hle.trans hf100
   have hW95 := (hW90.take (x84.length : Int).toNat).drop (bif decide ((w64 ((x84.length : Int) - 8)) < 0) then 0 else (w64 ((x84.length : Int) - 8))).toNat; rw [hex93] at hW95
   refine s1 hs (zi3 (lo := (bif decide ((w64 ((x84.length : Int) - 8)) < 0) then 0 else (w64 ((x84.length : Int) - 8))).toNat) (hi := (x84.length : Int).toNat) rfl Tryz.underlying50 ti49 (.inr ⟨_, rfl, by rw [← hlx93]; rfl⟩) (.inl ⟨rfl, by rw [RW.len hW90]; simp⟩) h1x93 (by rw [RW.len hW90]; exact h2x93) hR101) fun hs => ?_
   have hR96 : Rd _ [] (cutv v88 1 _ _) 1 _ := (hR101 : Rd _ [] _ _ _).cut h1x93 (by rw [RW.len hW90]; exact h2x93)
   generalize hgrw97 : List.drop _ (List.take _ rw89) = rw97 at hR96 hW95; clear hgrw97
   generalize hgv98 : cutv v88 1 _ _ = v98 at hs hR96; clear hgv98
   refine s1 hs (ze4 hR96 hW95 rfl Tryz.underlying50) fun hs => sM hs rfl fun hs => za1 <| hK17 ?_
   have hbase113 := Fz.le.refl f99
   obtain ⟨bK114, hbE115⟩ : ∃ z, z = ab := ⟨_, rfl⟩
   have hbb116 : bK114 <+: ab := by rw [hbE115]; exact List.prefix_refl _
   refine zay (fun a w => ∃ (f103 : Fz) (L : List Ent) (ab : List Nat) (y105 : (List Int)) (y110 : Int) (y111 : Bool) (y112 : (List za0)) (v106 : Value) (rw107 : List (List Value)), Fz.le f99 f103 ∧ bK114 <+: ab ∧ AR nsh f103 ab y112 [] L0 L ∧ zcq y105 y110 y111 y112 = some res ∧ RW (tP ab) f103 rw107 y105 ∧ St 77 w0 f103 (.blk pb0 (.cells #[v106, .int .i64 (y110), .bool (y111)] 55 (0,0)) :: .row v106 49 1 rw107 :: L) [] a w) ?_ ?_
   ·clear hs hm
    clear hbase113
    clear hA
    rintro a w ⟨f103, L, ab, y105, y110, y111, y112, v106, rw107, hl104, hbx117, hA, hm, hW108, hs⟩
    have hbb116 := hbx117; rw [hbE115] at hbx117
    replace hbs := hbs.trans hbx117
    replace hle := hle.trans hl104
    unfold zcq at hm
    obtain rfl := Option.some.inj hm
    refine RtV0 hs rfl  ?_
    exact ⟨_, f103, ab,[.blk pb0 (.cells #[v106, .int .i64 (y110), .bool (y111)] 55 (0,0)), .row v106 49 1 rw107], L, rfl, hle, hbs, hA, hs.cw, v106, rw107, rfl, rfl, hW108⟩
   refine zas fun Qe18 hB18 hO18 => ?_
   have hbase := Fz.le.refl f99
   obtain ⟨bK129, hbE130⟩ : ∃ z, z = ab := ⟨_, rfl⟩
   have hbb131 : bK129 <+: ab := by rw [hbE130]; exact List.prefix_refl _
   refine zeu (fun (k : Nat) a w => ∃ (f118 : Fz) (L : List Ent) (ab : List Nat) (y120 : (List Int)) (y125 : Int) (y126 : Bool) (y127 : Int) (y128 : (List za0)) (v121 : Value) (rw122 : List (List Value)), Fz.le f99 f118 ∧ bK129 <+: ab ∧ AR nsh f118 ab y128 [] L0 L ∧ zav n x93 k y120 y125 y126 y127 y128 = some res ∧ RW (tP ab) f118 rw122 y120 ∧ St 77 w0 f118 (.blk pb0 (.cells #[v121, .int .i64 (y125), .bool (y126)] 55 (0,0)) :: .row v121 49 1 rw122 :: L) [(0, .pointer (some ⟨pb0,0, none⟩)),(60, v98),(61, .int .i64 ((x93.length : Int))),(62, .int .i64 (y127))] a w) (fun k => k) n ⟨_, L, ab, x73.open_, x73.count, x73.deep,0, A, v77, rw78,(Fz.le.refl _), hbb131, hA, hm, hW79, hs.sub ⟨rfl, rfl, rfl, rfl, trivial⟩⟩ ?_
   clear hs hm
   clear hA
   intro k
   rintro a w ⟨f118, L, ab, y120, y125, y126, y127, y128, v121, rw122, hl119, hbx132, hA, hm, hW123, hs⟩
   have hbb131 := hbx132; rw [hbE130] at hbx132
   replace pv0_0h := pv0_0h.grow hbx132
   replace hW70 := hW70.grow hbx132
   replace hW79 := hW79.grow hbx132
   replace hW90 := hW90.grow hbx132
   replace hW95 := hW95.grow hbx132
   replace hbb116 := hbb116.trans hbx132
   replace pv0_0h := pv0_0h.le hl119
   replace hW70 := hW70.le hl119
   replace hW79 := hW79.le hl119
   replace hW90 := hW90.le hl119
   replace hR101 := hR101.le hl119
   replace hR96 := hR96.le hl119
   replace hW95 := hW95.le hl119
   replace hbase113 := hbase113.trans hl119
   intro K19 hK19
   cases k with
   | zero => simp [zav] at hm
   | succ k133 =>
    rw [zav] at hm
    have hbase134 := hl119
    refine Wq fun hK20 => s1 hs (zhw rfl rfl) fun hs => za1 <| hK20 <| Ws fun hK21 => ?_
    refine zag hs rfl (fun hg135 => ?_) (fun hg135 => ?_)
    ·replace hm := oc_t hg135 hm
     refine zak <| hK21 <| Ws fun hK22 => zas fun Qe23 hB23 hO23 => Ws fun hK24 => za5 ?_
     obtain ⟨x136, hx137, hm⟩ := ob hm
     obtain ⟨r138, hr139, hq140, hi141, hb142⟩ := hW95.geti hx137
     obtain ⟨v143, rfl, hp144⟩ := hq140
     refine s1 hs (zai hR96 rfl rfl hi141 hb142 Tryz.underlying50 ti49) fun hs => s1 (v := v143) hs (ze3 (i := y127.toNat) (j := 0) hR96.up rfl hr139 rfl Tryz.underlying49 rfl) fun hs => sA hs rfl fun hs => za1 <| hK24 ?_
     have hsD := hs.subL (L' := L) (.cons _ (.cons _ (.refl _)))
     have hbd145 := Fz.le.refl f118
     refine zhu hs (L) [9] (.look 0 (.look 1 (.look 2 (.look 3 (.look 4 (.look 5 (.look 6 (.look 7 (.look 8 (.any [9] (fun _ => .done))))))))))) mixed (by kernel_rfl) fun _ he => uy (v := .pointer (some ⟨pb0,0, none⟩)) 0 he rfl (za9 rfl) fun _ he => uy (v := v143) 1 he rfl (za9 rfl) fun _ he => ?_
     obtain ⟨x146, hx147, hm⟩ := ob hm
     obtain ⟨b162, rfl, _, ⟨v150, v155, v157, rw158, rfl, ⟨rw151, hR152, hW153⟩, hp156, hW159⟩, hpm161⟩ := AR.peek hA hx147 hp144
     have hm148 := hpm161 _ (.head _); have hm149 := hpm161 _ (.tail _ (.head _)); clear hpm161
     refine uy 2 he rfl (za6 rfl) fun _ he => uy (v := .pointer (some ⟨b162,0, none⟩)) 3 he rfl (za3 rfl (FO.of (off := 0) Tryz.underlying52 rfl rfl ti9 (by decide))) fun _ he => uy (v := .string (x146.name)) 4 he rfl (y_ld rfl Tryz.underlying9 rfl (Cell.blk (hm148) rfl)) fun _ he => uy (v := .pointer (some ⟨b162,0, none⟩)) 5 he rfl (za9 rfl) fun _ he => uy 6 he rfl (za6 rfl) fun _ he => uy (v := .pointer (some ⟨b162,2, none⟩)) 7 he rfl (za3 rfl (FO.of (off := 2) Tryz.underlying52 rfl rfl ti25 (by decide))) fun _ he => uy (v := v150) 8 he rfl (y_ld rfl Tryz.underlying25 rfl (Cell.blk (hm148) rfl)) fun _ he => ?_
     refine zd1 he rfl ?_; clear he; (try clear a); intro a w hs
     obtain ⟨x163, hx164, hm⟩ := ob hm
     replace hs := hs.front 1
     replace hs := hs.front 1
     refine zhe (Lr := [.blk pb0 (.cells #[v121, .int .i64 (y125), .bool (y126)] 55 (0,0)), .row v121 49 1 rw122]) [] hA hs rfl has42 rfl (zeb n hW123 ⟨rw151, hR152, hW153⟩ hx164) (.free rfl) (by decide) ?_; clear hs; (try clear a w)
     clear hA
     rintro _ f165 ab _ L a w hf166 hbg170 hA ⟨v167, rw168, rfl, rfl, hW169⟩ hs
     have pv171 := pv0_0h.le hf166
     have hW172 := hW70.le hf166
     have hW173 := hW79.le hf166
     have hW174 := hW90.le hf166
     have hR175 := hR101.le hf166
     have hR176 := hR96.le hf166
     have hW177 := hW95.le hf166
     have hW178 := hW123.le hf166
     have hR179 := hR152.le hf166
     have hW180 := hW153.le hf166
     have hW181 := hW159.le hf166
     replace hbase134 := hbase134.trans hf166
     replace hbb131 := hbb131.trans hbg170
     refine uend hs fun _ he => ?_
     refine zmj he ?_; clear he; (try clear a); intro w hs; try clear hsD
     refine hK22 <| za5 <| s1 hs (zga rfl rfl rfl) fun hs => sM hs rfl fun hs => za1 ?_
     exact hK19 k133 _ _ (Nat.lt_succ_self _) ⟨_, L, ab, x163.1.open_, x163.1.count, x163.1.deep,(w64 (y127 + 1)), x163.2, v167, rw168, hbase134, hbb131, hA, hm, hW169, hs.sub ⟨rfl, rfl, rfl, rfl, trivial⟩⟩
    replace hm := oc_f hg135 hm
    refine ze8 <| hB18 _ _ ?_
    exact ⟨_, L, ab, y120, y125, y126, y128, v121, rw122, hbase113, hbb116, hA, hm, hW123, hs.sub trivial⟩
  refine zag hs rfl (fun hg183 => ?_) (fun hg183 => ?_)
  ·replace hm := oc_t hg183 hm
   refine za5 <| sA hs rfl fun hs => za1 ?_
   exact ⟨0, hm, hs.subs ⟨rfl, rfl, rfl, trivial⟩ (.cons _ (.cons _ (.cons_cons _ (.cons_cons _ (.refl _)))))⟩
  replace hm := oc_f hg183 hm
  refine zak ?_
  exact ⟨x11, hm, hs.subs ⟨rfl, rfl, rfl, trivial⟩ (.cons _ (.cons _ (.cons_cons _ (.cons_cons _ (.refl _)))))⟩
 refine za5 <| sM hs rfl fun hs => ?_
 obtain ⟨x184, hx185, hm⟩ := ob hm
 refine s1 hs (zfu rfl has43 rfl (zml n  hx185)) fun hs => sM hs rfl fun hs => ?_
 refine St.split hs (t := 11) rfl (fun hg186 hs => ?_) (fun hg186 hs => ?_)
 ·replace hm := oc_t hg186 hm
  refine s3 hs fun hs => s3 hs fun hs => sP hs rfl rfl fun hs => za1 ?_
  exact ⟨true, hm, hs.sub ⟨rfl, rfl, rfl, trivial⟩⟩
 replace hm := oc_f hg186 hm
 refine s2 (v := .string (p1)) hs (za9 rfl) fun hs => s2 hs (zfr rfl rfl) fun hs => sP hs rfl rfl fun hs => za1 ?_
 exact ⟨decide (p1 = (bs [114,111,111,116])), hm, hs.sub ⟨rfl, rfl, rfl, trivial⟩⟩
end Go.Proofs.YtdjjeahiomackaaGreat
