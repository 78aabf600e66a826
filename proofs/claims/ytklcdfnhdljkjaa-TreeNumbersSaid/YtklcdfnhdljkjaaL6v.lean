/-
  Walks and laws of this seat.
-/
import Derived.Test.YtklcdfnhdljkjaaBasg
import Derived.Test.YtklcdfnhdljkjaaL6u
import Derived.Test.YtklcdfnhdljkjaaL6x
import Derived.Test.YtklcdfnhdljkjaaRows
namespace Go.Proofs.Ytklcdfnhdljkjaa
set_option linter.unusedVariables false
set_option linter.unusedSimpArgs false
set_option maxHeartbeats 4000000
set_option maxRecDepth 100000
open Go.RowKit Go.Sl
def zc6 (x68 : (za6 × (List za2))) (y79 : (List Int)) : Option (za6 × (List za2)) :=
  some (({open_ := y79, count := x68.1.count, deep := x68.1.deep} : za6), x68.2)
def zbj (n : Nat) (A : (List za2)) (p1 : ByteArray) (p2 : (List za9)) (y38 : (List Int)) (y43 : Int) (y44 : Bool) (y45 : Int) : Option (za6 × (List za2)) :=
  (zi6 n p2).bind fun x49 =>
  (zd7 n ({open_ := y38, count := y43, deep := y44} : za6) (A.length : Int) y45 (A ++ [({name := p1, text := (bs []), attrs := x49, above := (-1 : Int), kids := ([] : List Int)} : za2)])).bind fun x68 =>
  (zh2 n p1).bind fun x77 =>
  (bif (!x77) then (appM 8 x68.1.open_ [(A.length : Int)]).bind fun x90 =>
  zc6 x68 x90 else
  zc6 x68 x68.1.open_)
def zaz (n : Nat) (A : (List za2)) (p1 : ByteArray) (p2 : (List za9)) (x8 : (Int × za6)) (y35 : Bool) : Option (za6 × (List za2)) :=
  (bif y35 then (zdn n x8.2 A).bind fun x97 =>
  zbj n A p1 p2 x97.2.open_ x97.2.count x97.2.deep x97.1 else
  zbj n A p1 p2 x8.2.open_ x8.2.count x8.2.deep (-1 : Int))
def zce (n : Nat) (p0 : za6) (p1 : ByteArray) (p2 : (List za9)) (A : (List za2)) : Option (za6 × (List za2)) :=
  (zbr n p0 A).bind fun x8 =>
  (focM A [] x8.1).bind fun x18 =>
  (bif (decide (x18.name = (bs [116, 97, 98, 108, 101]))) then (zjr n p1 [(bs [116, 114]), (bs [116, 100])]).bind fun x113 =>
  (bif (!x113) then zaz n A p1 p2 x8 true else
  (bif (decide (x18.name = (bs [116, 114]))) then zaz n A p1 p2 x8 (decide (p1 ≠ (bs [116, 100]))) else
  zaz n A p1 p2 x8 false)) else
  (bif (decide (x18.name = (bs [116, 114]))) then zaz n A p1 p2 x8 (decide (p1 ≠ (bs [116, 100]))) else
  zaz n A p1 p2 x8 false))
theorem zg8 (n : Nat) {f : Fz} {ab : List Nat} {A : List za2} {p0 : za6} {pb0 : Nat} {pv0_0 : Value} {pv0_0r : List (List Value)} {p1 : ByteArray} {p2 : (List za9)} {a2 : Value} {res : (za6 × (List za2))} (pv0_0h : RW (tP ab) f pv0_0r p0.open_) (h2 : RS zcb f a2 p2) (hm : zce n p0 p1 p2 A = some res) : DoesA nsh Try.prog 51 [.pointer (some ⟨pb0, 0, none⟩), .string p1, a2] f [.blk pb0 (.cells #[pv0_0, .int .i64 p0.count, .bool p0.deep] 54 (0, 0)), .row pv0_0 48 1 pv0_0r] ab A res.2 (fun r f' ab' L' => ∃ (dp0_0 : Value) (dp0_0r : List (List Value)), L' = [.blk pb0 (.cells #[dp0_0, .int .i64 res.1.count, .bool res.1.deep] 54 (0, 0)), .row dp0_0 48 1 dp0_0r] ∧ r = .tuple #[] ∧ RW (tP ab') f' dp0_0r res.1.open_) := by
 unfold zce at hm
 intro w0 L0 L w hA hC
 have hbs := List.prefix_refl ab
 replace hC : Cw w0 f (.blk pb0 (.cells #[pv0_0, .int .i64 p0.count, .bool p0.deep] 54 (0, 0)) :: .row pv0_0 48 1 pv0_0r :: L) w := hC
 obtain ⟨rw4, hR5, hW6⟩ := h2
 refine enter Try.func51 rfl Try.ntmps51 (by simp) hC fun a hs => ?_
 have hle := Fz.le.refl f
 refine Wq fun hK1 => sA (v := .pointer none) hs rfl fun hs => za0 <| hK1 <| Wq fun hK2 => sM (v := .pointer (some ⟨pb0, 0, none⟩)) hs rfl fun hs => ?_
 obtain ⟨x8, hx9, hm⟩ := ob hm
 replace hs := hs.front 1
 replace hs := hs.front 1
 refine zgx (Lr := [.blk pb0 (.cells #[pv0_0, .int .i64 (p0.count), .bool (p0.deep)] 54 (0, 0)), .row pv0_0 48 1 pv0_0r]) [] hA hs rfl has43 rfl (zdj n (f := f) (p0 := p0) (pb0 := pb0) (pv0_0 := pv0_0) (pv0_0r := pv0_0r) (A := A) pv0_0h hx9) (.free rfl) (by decide) ?_; clear hs; (try clear a w)
 rintro v12 f10 _ a w hf11 ⟨_, v14, rw15, rfl, rfl, hp13, hW16⟩ hs
 replace hA := hA.le hf11
 replace pv0_0h := pv0_0h.le hf11
 replace hR5 := hR5.le hf11
 replace hW6 := hW6.le hf11
 replace hle := hle.trans hf11
 obtain ⟨x18, hx19, hm⟩ := ob hm
 obtain ⟨b34, rfl, _, ⟨v22, v27, v29, rw30, rfl, ⟨rw23, hR24, hW25⟩, hp28, hW31⟩, hpm33⟩ := AR.peek hA hx19 hp13
 have hm20 := hpm33 _ (.head _); have hm21 := hpm33 _ (.tail _ (.head _)); clear hpm33
 refine s1 hs (zab rfl) fun hs => s1 (v := .pointer (some ⟨b34, 0, none⟩)) hs (za1 rfl (FO.of (off := 0) Try.underlying51 rfl rfl ti9 (by decide))) fun hs => s1 (v := .string (x18.name)) hs (y_ld rfl Try.underlying9 rfl (Cell.blk (.tail _ (.tail _ (hm20))) rfl)) fun hs => sA (v := .string (x18.name)) hs rfl fun hs => za0 <| hK2 <| Ws fun hK3 => Ws fun hK4 => ?_
 refine zai (fun a w => ∃ (y35 : Bool), zaz n A p1 p2 x8 y35 = some res ∧ St 54 w0 f10 (.blk pb0 (.cells #[v14, .int .i64 (x8.2.count), .bool (x8.2.deep)] 54 (0, 0)) :: .row v14 48 1 rw15 :: L) [(0, .pointer (some ⟨pb0, 0, none⟩)), (1, .string (p1)), (2, a2), (6, .pointer none), (29, .bool (y35))] a w) ?_ ?_
 ·clear hs hm
  rintro a w ⟨y35, hm, hs⟩
  unfold zaz at hm
  refine hK4 ?_
  have hbase48 := Fz.le.refl f10
  refine zai (fun a w => ∃ (f36 : Fz) (y38 : (List Int)) (y43 : Int) (y44 : Bool) (y45 : Int) (v39 : Value) (rw40 : List (List Value)) (v46 : Value), Fz.le f10 f36 ∧ zbj n A p1 p2 y38 y43 y44 y45 = some res ∧ RW (tP ab) f36 rw40 y38 ∧ RP ab v46 y45 ∧ St 54 w0 f36 (.blk pb0 (.cells #[v39, .int .i64 (y43), .bool (y44)] 54 (0, 0)) :: .row v39 48 1 rw40 :: L) [(0, .pointer (some ⟨pb0, 0, none⟩)), (1, .string (p1)), (2, a2), (6, v46)] a w) ?_ ?_
  ·clear hs hm
   clear hbase48
   rintro a w ⟨f36, y38, y43, y44, y45, v39, rw40, v46, hl37, hm, hW41, hp47, hs⟩
   replace hA := hA.le hl37
   replace pv0_0h := pv0_0h.le hl37
   replace hR5 := hR5.le hl37
   replace hW6 := hW6.le hl37
   replace hW16 := hW16.le hl37
   replace hR24 := hR24.le hl37
   replace hW25 := hW25.le hl37
   replace hW31 := hW31.le hl37
   replace hle := hle.trans hl37
   unfold zbj at hm
   refine hK3 <| Wq fun hK5 => sM (v := .string (p1)) hs rfl fun hs => sM (v := a2) hs rfl fun hs => ?_
   obtain ⟨x49, hx50, hm⟩ := ob hm
   refine zen hs rfl has59 rfl (zjt n (f := f36) (a0 := a2) ⟨rw4, hR5, hW6⟩ hx50) ?_; clear hs; (try clear a w)
   rintro v53 f51 _ a w hf52 ⟨_, rfl, rfl, ⟨rw54, hR55, hW56⟩⟩ hs
   replace hA := hA.le hf52
   replace pv0_0h := pv0_0h.le hf52
   replace hR5 := hR5.le hf52
   replace hW6 := hW6.le hf52
   replace hW16 := hW16.le hf52
   replace hR24 := hR24.le hf52
   replace hW25 := hW25.le hf52
   replace hW31 := hW31.le hf52
   replace hW41 := hW41.le hf52
   replace hle := hle.trans hf52
   refine s1 hs (zes (places := [(0, 1), (1, 1), (2, 1), (3, 1), (4, 1)]) (cs := [.string (p1), .string ((bs [])), v53, .pointer none, (.slice none 0 0)]) rfl Try.underlying51 ti51 (by kernel_rfl) (by decide) rfl ⟨rfl, hR55.one, trivial⟩) fun hs => sbox hs rfl fun b60 _ _ hs => ?_
   replace hs := hs.nilRow 48 1
   have hW62 : RW (tP ab) f51 [] ([] : List Int) := trivial
   generalize hgrw63 : ([] : List (List Value)) = rw63 at hs hW62; clear hgrw63
   replace hs := hs.front 0
   replace hs := hs.front 1
   have hq9 := AR.adopt (b := b60) (x := ({name := p1, text := (bs []), attrs := x49, above := (-1 : Int), kids := ([] : List Int)} : za2)) [.blk pb0 (.cells #[v39, .int .i64 (y43), .bool (y44)] 54 (0, 0)), .row v39 48 1 rw40] hA hs (⟨v53, .pointer none, (.slice none 0 0), rw63, rfl, ⟨rw54, hR55, hW56⟩, RP.nil, hW62.grow (List.prefix_append _ _)⟩); clear hs hA
   obtain ⟨ab, L, hbg66, hA, hp67, hs⟩ := hq9
   replace pv0_0h := pv0_0h.grow hbg66
   replace hp13 := hp13.grow hbg66
   replace hW16 := hW16.grow hbg66
   replace hp28 := hp28.grow hbg66
   replace hW31 := hW31.grow hbg66
   replace hW41 := hW41.grow hbg66
   replace hp47 := hp47.grow hbg66
   replace hW62 := hW62.grow hbg66
   replace hbs := hbs.trans hbg66
   refine sA (v := .pointer (some ⟨b60, 0, none⟩)) hs rfl fun hs => za0 <| hK5 <| Wq fun hK6 => sM (v := .pointer (some ⟨pb0, 0, none⟩)) hs rfl fun hs => sM (v := .pointer (some ⟨b60, 0, none⟩)) hs rfl fun hs => sM (v := v46) hs rfl fun hs => ?_
   obtain ⟨x68, hx69, hm⟩ := ob hm
   replace hs := hs.front 1
   replace hs := hs.front 1
   refine zjq (Lr := [.blk pb0 (.cells #[v39, .int .i64 (y43), .bool (y44)] 54 (0, 0)), .row v39 48 1 rw40]) [] hA hs rfl has47 rfl (zjs n (f := f51) (p0 := ({open_ := y38, count := y43, deep := y44} : za6)) (pb0 := pb0) (pv0_0 := v39) (pv0_0r := rw40) (a1 := .pointer (some ⟨b60, 0, none⟩)) (a2 := v46) (A := (A ++ [({name := p1, text := (bs []), attrs := x49, above := (-1 : Int), kids := ([] : List Int)} : za2)])) hW41 hp67 hp47 hx69) (.free rfl) (by decide) ?_; clear hs; (try clear a w)
   clear hA
   rintro _ f70 ab _ L a w hf71 hbg75 hA ⟨v72, rw73, rfl, rfl, hW74⟩ hs
   replace pv0_0h := pv0_0h.le hf71
   replace hR5 := hR5.le hf71
   replace hW6 := hW6.le hf71
   replace hW16 := hW16.le hf71
   replace hR24 := hR24.le hf71
   replace hW25 := hW25.le hf71
   replace hW31 := hW31.le hf71
   replace hW41 := hW41.le hf71
   replace hR55 := hR55.le hf71
   replace hW56 := hW56.le hf71
   replace hW62 := hW62.le hf71
   replace hle := hle.trans hf71
   replace pv0_0h := pv0_0h.grow hbg75
   replace hp13 := hp13.grow hbg75
   replace hW16 := hW16.grow hbg75
   replace hp28 := hp28.grow hbg75
   replace hW31 := hW31.grow hbg75
   replace hW41 := hW41.grow hbg75
   replace hp47 := hp47.grow hbg75
   replace hW62 := hW62.grow hbg75
   replace hp67 := hp67.grow hbg75
   replace hbs := hbs.trans hbg75
   refine za0 <| hK6 <| Wq fun hK7 => sM (v := .string (p1)) hs rfl fun hs => ?_
   obtain ⟨x77, hx78, hm⟩ := ob hm
   refine s1 hs (zbd rfl has8 rfl (zh1 n (f := f70)  hx78)) fun hs => s1 (v := .bool ((!x77))) hs (zj8 rfl) fun hs => za0 <| hK7 ?_
   refine zai (fun a w => ∃ (y79 : (List Int)) (v80 : Value) (rw81 : List (List Value)), zc6 x68 y79 = some res ∧ RW (tP ab) f70 rw81 y79 ∧ St 54 w0 f70 (.blk pb0 (.cells #[v80, .int .i64 (x68.1.count), .bool (x68.1.deep)] 54 (0, 0)) :: .row v80 48 1 rw81 :: L) [] a w) ?_ ?_
   ·clear hs hm
    rintro a w ⟨y79, v80, rw81, hm, hW82, hs⟩
    unfold zc6 at hm
    obtain rfl := Option.some.inj hm
    refine RtV0 hs rfl  ?_
    exact ⟨_, f70, ab, [.blk pb0 (.cells #[v80, .int .i64 (x68.1.count), .bool (x68.1.deep)] 54 (0, 0)), .row v80 48 1 rw81], L, rfl, hle, hbs, hA, hs.cw, v80, rw81, rfl, rfl, hW82⟩
   refine zaf hs rfl (fun hg84 => ?_) (fun hg84 => ?_)
   ·replace hm := oc_t hg84 hm
    refine za7 <| sM (v := .pointer (some ⟨pb0, 0, none⟩)) hs rfl fun hs => sM (v := .pointer (some ⟨pb0, 0, none⟩)) hs rfl fun hs => s1 hs (zab rfl) fun hs => s1 (v := .pointer (some ⟨pb0, 0, none⟩)) hs (za1 rfl (FO.of (off := 0) Try.underlying54 rfl rfl ti49 (by decide))) fun hs => s1 (v := v72) hs (y_ld rfl Try.underlying49 rfl (Cell.blk (.head _) rfl)) fun hs => sM (v := .pointer (some ⟨b60, 0, none⟩)) hs rfl fun hs => zfz hs rfl Try.underlying49 ti48 rfl rfl fun v85 _ _ hs => ?_
    have hW86 : RW (tP ab) f70 [[.pointer (some ⟨b60, 0, none⟩)]] [(A.length : Int)] := RW.single (⟨_, rfl, hp67⟩)
    generalize hgrw87 : ([[.pointer (some ⟨b60, 0, none⟩)]] : List (List Value)) = rw87 at hs hW86; clear hgrw87
    obtain ⟨x90, hx91, hm⟩ := ob hm
    obtain ⟨hbx90, hex90⟩ := zcj hx91
    have hW94 := hW74.append hW86; rw [hex90] at hW94
    refine zcs (i := 2) hs rfl rfl rfl (Rd.st hs (.head _)) Try.underlying49 ti48 (by decide) (by rw [RW.len hW74, RW.len hW86]; exact hbx90) (.free rfl) (by decide) fun v92 _ _ hs => ?_
    generalize hgx90 : rw73 ++ rw87 = rw93 at hs hW94; clear hgx90
    replace hs := hs.erase 0
    refine s1 hs (zab rfl) fun hs => s1 (v := .pointer (some ⟨pb0, 0, none⟩)) hs (za1 rfl (FO.of (off := 0) Try.underlying54 rfl rfl ti49 (by decide))) fun hs => sstore 0 hs rfl rfl rfl ti49 ((hs.one (i := 1) rfl)) fun _ _ hs => za0 ?_
    exact ⟨x90, v92, rw93, hm, hW94, hs.sub trivial⟩
   replace hm := oc_f hg84 hm
   refine zah ?_
   exact ⟨x68.1.open_, v72, rw73, hm, hW74, hs.sub trivial⟩
  refine zaf hs rfl (fun hg96 => ?_) (fun hg96 => ?_)
  ·replace hm := oc_t hg96 hm
   refine za7 <| sM (v := .pointer (some ⟨pb0, 0, none⟩)) hs rfl fun hs => ?_
   obtain ⟨x97, hx98, hm⟩ := ob hm
   replace hs := hs.front 1
   replace hs := hs.front 1
   refine zgx (Lr := [.blk pb0 (.cells #[v14, .int .i64 (x8.2.count), .bool (x8.2.deep)] 54 (0, 0)), .row v14 48 1 rw15]) [] hA hs rfl has44 rfl (zj1 n (f := f10) (p0 := x8.2) (pb0 := pb0) (pv0_0 := v14) (pv0_0r := rw15) (A := A) hW16 hx98) (.free rfl) (by decide) ?_; clear hs; (try clear a w)
   rintro v101 f99 _ a w hf100 ⟨_, v103, rw104, rfl, rfl, hp102, hW105⟩ hs
   replace hA := hA.le hf100
   replace pv0_0h := pv0_0h.le hf100
   replace hR5 := hR5.le hf100
   replace hW6 := hW6.le hf100
   replace hW16 := hW16.le hf100
   replace hR24 := hR24.le hf100
   replace hW25 := hW25.le hf100
   replace hW31 := hW31.le hf100
   replace hle := hle.trans hf100
   replace hbase48 := hbase48.trans hf100
   refine sA (v := v101) hs rfl fun hs => za0 ?_
   exact ⟨_, x97.2.open_, x97.2.count, x97.2.deep, x97.1, v103, rw104, v101, hbase48, hm, hW105, hp102, hs.sub ⟨rfl, rfl, rfl, rfl, trivial⟩⟩
  replace hm := oc_f hg96 hm
  refine zah ?_
  exact ⟨_, x8.2.open_, x8.2.count, x8.2.deep, (-1 : Int), v14, rw15, .pointer none, (Fz.le.refl _), hm, hW16, RP.nil, hs.sub ⟨rfl, rfl, rfl, rfl, trivial⟩⟩
 refine za7 <| sM (v := .string (x18.name)) hs rfl fun hs => s1 hs (zd9 rfl rfl) fun hs => sM (v := .bool (decide (x18.name = (bs [116, 97, 98, 108, 101])))) hs rfl fun hs => ?_
 refine St.split hs (t := 16) rfl (fun hg107 hs => ?_) (fun hg107 hs => ?_)
 ·replace hm := oc_t hg107 hm
  refine s2 (v := .string (p1)) hs (zaa rfl) fun hs => RL_guard hs rfl rfl ?_
  refine zpy (parts := [(0, .const (.string (bs [116, 114]))), (1, .const (.string (bs [116, 100])))]) (us := [.string ((bs [116, 114])), .string ((bs [116, 100]))]) (rows := [[.string ((bs [116, 114]))], [.string ((bs [116, 100]))]]) hs rfl Try.underlying78 ti9 (by decide) rfl rfl (by intro r hr; simp only [List.mem_cons, List.mem_nil_iff, or_false] at hr; rcases hr with rfl | rfl; exact AllC.row ⟨rfl, trivial⟩ rfl; exact AllC.row ⟨rfl, trivial⟩ rfl) fun v108 _ _ hs => ?_
  have hW109 : RW tStr f10 [[.string ((bs [116, 114]))], [.string ((bs [116, 100]))]] [(bs [116, 114]), (bs [116, 100])] := ⟨rfl, ⟨rfl, trivial⟩⟩
  generalize hgrw110 : ([[.string ((bs [116, 114]))], [.string ((bs [116, 100]))]] : List (List Value)) = rw110 at hs hW109; clear hgrw110
  obtain ⟨x113, hx114, hm⟩ := ob hm
  refine syg hs (zeh (cap := []) rfl has16 rfl (fun w9 hw9 => callsP (Lr := [.row v108 9 1 rw110]) (Lf := .blk pb0 (.cells #[v14, .int .i64 (x8.2.count), .bool (x8.2.deep)] 54 (0, 0)) :: .row v14 48 1 rw15 :: L) (zag _ 0 rfl) hw9 (fun Lz w9 hw9 => lent0 hw9 (fun f9_0 w9 hle9_0 hRl0 hw9 => (ziv n (f := f9_0) (a1 := v108) ⟨rw110, hRl0, hW109.le hle9_0⟩ hx114) w0 _ w9 hw9)))) fun _ _ hs => s2 (v := .bool ((!x113))) hs (zj8 rfl) fun hs => sP (v := .bool ((!x113))) hs rfl rfl fun hs => sM (v := .bool ((!x113))) hs rfl fun hs => ?_
  refine St.split hs (t := 22) rfl (fun hg115 hs => ?_) (fun hg115 hs => ?_)
  ·replace hm := oc_t hg115 hm
   refine s3 hs fun hs => s3 hs fun hs => s3 hs fun hs => s4 hs fun hs => s4 hs fun hs => s3 hs fun hs => sP (v := .bool (true)) hs rfl rfl fun hs => za0 ?_
   exact ⟨true, hm, hs.subs ⟨rfl, rfl, rfl, rfl, rfl, trivial⟩ (.cons _ (.cons_cons _ (.cons_cons _ (.refl _))))⟩
  replace hm := oc_f hg115 hm
  refine s2 (v := .string (x18.name)) hs (zaa rfl) fun hs => s2 hs (zd9 rfl rfl) fun hs => s2 (v := .bool (decide (x18.name = (bs [116, 114])))) hs (zaa rfl) fun hs => ?_
  refine St.split hs (t := 25) rfl (fun hg116 hs => ?_) (fun hg116 hs => ?_)
  ·replace hm := oc_t hg116 hm
   refine s2 (v := .string (p1)) hs (zaa rfl) fun hs => s2 hs (zlm rfl rfl) fun hs => s2 (v := .bool (decide (p1 ≠ (bs [116, 100])))) hs (zb4 rfl rfl) fun hs => sP (v := .bool (decide (p1 ≠ (bs [116, 100])))) hs rfl rfl fun hs => za0 ?_
   exact ⟨decide (p1 ≠ (bs [116, 100])), hm, hs.subs ⟨rfl, rfl, rfl, rfl, rfl, trivial⟩ (.cons _ (.cons_cons _ (.cons_cons _ (.refl _))))⟩
  replace hm := oc_f hg116 hm
  refine s3 hs fun hs => s3 hs fun hs => s2 (v := .bool (false)) hs (zb4 rfl rfl) fun hs => sP (v := .bool (false)) hs rfl rfl fun hs => za0 ?_
  exact ⟨false, hm, hs.subs ⟨rfl, rfl, rfl, rfl, rfl, trivial⟩ (.cons _ (.cons_cons _ (.cons_cons _ (.refl _))))⟩
 replace hm := oc_f hg107 hm
 refine s3 hs fun hs => s3 hs fun hs => s3 hs fun hs => s3 hs fun hs => sP (v := .bool (false)) hs rfl rfl fun hs => sM (v := .bool (false)) hs rfl fun hs => s2 (v := .string (x18.name)) hs (zaa rfl) fun hs => s2 hs (zd9 rfl rfl) fun hs => s2 (v := .bool (decide (x18.name = (bs [116, 114])))) hs (zaa rfl) fun hs => ?_
 refine St.split hs (t := 25) rfl (fun hg117 hs => ?_) (fun hg117 hs => ?_)
 ·replace hm := oc_t hg117 hm
  refine s2 (v := .string (p1)) hs (zaa rfl) fun hs => s2 hs (zlm rfl rfl) fun hs => s2 (v := .bool (decide (p1 ≠ (bs [116, 100])))) hs (zb4 rfl rfl) fun hs => sP (v := .bool (decide (p1 ≠ (bs [116, 100])))) hs rfl rfl fun hs => za0 ?_
  exact ⟨decide (p1 ≠ (bs [116, 100])), hm, hs.sub ⟨rfl, rfl, rfl, rfl, rfl, trivial⟩⟩
 replace hm := oc_f hg117 hm
 refine s3 hs fun hs => s3 hs fun hs => s2 (v := .bool (false)) hs (zb4 rfl rfl) fun hs => sP (v := .bool (false)) hs rfl rfl fun hs => za0 ?_
 exact ⟨false, hm, hs.sub ⟨rfl, rfl, rfl, rfl, rfl, trivial⟩⟩
def zcf (n : Nat) (p1 : ByteArray) (p2 : (List za9)) (y22 : (List Int)) (y27 : Int) (y28 : Bool) (y29 : (List za2)) : Option (za6 × (List za2)) :=
  (zce n ({open_ := y22, count := y27, deep := y28} : za6) p1 p2 y29).bind fun x35 =>
  some (({open_ := x35.1.open_, count := x35.1.count, deep := x35.1.deep} : za6), x35.2)
def ze5 (n : Nat) (p1 : ByteArray) (p2 : (List za9)) (y62 : (List Int)) (y67 : Int) (y68 : Bool) (y69 : (List za2)) : Option (za6 × (List za2)) :=
  zcf n p1 p2 y62 y67 y68 y69
def ze4 (n : Nat) (p1 : ByteArray) (p2 : (List za9)) (y93 : (List Int)) (y98 : Int) (y99 : Bool) (y100 : (List za2)) : Option (za6 × (List za2)) :=
  ze5 n p1 p2 y93 y98 y99 y100
def zfc (n : Nat) (p1 : ByteArray) (p2 : (List za9)) (y151 : (List Int)) (y156 : Int) (y157 : Bool) (y158 : (List za2)) : Option (za6 × (List za2)) :=
  ze4 n p1 p2 y151 y156 y157 y158
def zcg (n : Nat) (A : (List za2)) (p1 : ByteArray) (p2 : (List za9)) (y12 : (List Int)) (y17 : Int) (y18 : Bool) : Option (za6 × (List za2)) :=
  (bif (decide (p1 = (bs [108, 105]))) then (zct n ({open_ := y12, count := y17, deep := y18} : za6) [(bs [117, 108]), (bs [116, 100])] A).bind fun x50 =>
  (zb8 n ({open_ := y12, count := y17, deep := y18} : za6) x50 (bs [108, 105]) A).bind fun x52 =>
  zcf n p1 p2 x52.open_ x52.count x52.deep A else
  (bif (decide (p1 = (bs [116, 114]))) then (zct n ({open_ := y12, count := y17, deep := y18} : za6) [(bs [116, 97, 98, 108, 101])] A).bind fun x81 =>
  (zb8 n ({open_ := y12, count := y17, deep := y18} : za6) x81 (bs [116, 114]) A).bind fun x83 =>
  ze5 n p1 p2 x83.open_ x83.count x83.deep A else
  (bif (decide (p1 = (bs [116, 100]))) then (zct n ({open_ := y12, count := y17, deep := y18} : za6) [(bs [116, 114])] A).bind fun x112 =>
  (zb8 n ({open_ := y12, count := y17, deep := y18} : za6) x112 (bs [116, 100]) A).bind fun x114 =>
  (zbr n x114 A).bind fun x122 =>
  (focM A [] x122.1).bind fun x132 =>
  (bif (decide (x132.name = (bs [116, 97, 98, 108, 101]))) then (zce n x122.2 (bs [116, 114]) ([] : List za9) A).bind fun x166 =>
  zfc n p1 p2 x166.1.open_ x166.1.count x166.1.deep x166.2 else
  zfc n p1 p2 x122.2.open_ x122.2.count x122.2.deep A) else
  ze4 n p1 p2 y12 y17 y18 A)))
def zbn (n : Nat) (p0 : za6) (p1 : ByteArray) (p2 : (List za9)) (A : (List za2)) : Option (za6 × (List za2)) :=
  (zkg n p1).bind fun x8 =>
  (bif x8 then (zct n p0 [(bs [116, 100])] A).bind fun x181 =>
  (zb8 n p0 x181 (bs [112]) A).bind fun x183 =>
  zcg n A p1 p2 x183.open_ x183.count x183.deep else
  zcg n A p1 p2 p0.open_ p0.count p0.deep)
theorem ziq (n : Nat) {f : Fz} {ab : List Nat} {A : List za2} {p0 : za6} {pb0 : Nat} {pv0_0 : Value} {pv0_0r : List (List Value)} {p1 : ByteArray} {p2 : (List za9)} {a2 : Value} {res : (za6 × (List za2))} (pv0_0h : RW (tP ab) f pv0_0r p0.open_) (h2 : RS zcb f a2 p2) (hm : zbn n p0 p1 p2 A = some res) : DoesA nsh Try.prog 22 [.pointer (some ⟨pb0, 0, none⟩), .string p1, a2] f [.blk pb0 (.cells #[pv0_0, .int .i64 p0.count, .bool p0.deep] 54 (0, 0)), .row pv0_0 48 1 pv0_0r] ab A res.2 (fun r f' ab' L' => ∃ (dp0_0 : Value) (dp0_0r : List (List Value)), L' = [.blk pb0 (.cells #[dp0_0, .int .i64 res.1.count, .bool res.1.deep] 54 (0, 0)), .row dp0_0 48 1 dp0_0r] ∧ r = .tuple #[] ∧ RW (tP ab') f' dp0_0r res.1.open_) := by
 unfold zbn at hm
 intro w0 L0 L w hA hC
 have hbs := List.prefix_refl ab
 replace hC : Cw w0 f (.blk pb0 (.cells #[pv0_0, .int .i64 p0.count, .bool p0.deep] 54 (0, 0)) :: .row pv0_0 48 1 pv0_0r :: L) w := hC
 obtain ⟨rw4, hR5, hW6⟩ := h2
 refine enter Try.func22 rfl Try.ntmps22 (by simp) hC fun a hs => ?_
 have hle := Fz.le.refl f
 refine Ws fun hK1 => Wq fun hK2 => sM (v := .string (p1)) hs rfl fun hs => ?_
 obtain ⟨x8, hx9, hm⟩ := ob hm
 refine s1 hs (zbd rfl has48 rfl (zr6 n (f := f)  hx9)) fun hs => za0 <| hK2 ?_
 have hbase19 := Fz.le.refl f
 refine zai (fun a w => ∃ (f10 : Fz) (y12 : (List Int)) (y17 : Int) (y18 : Bool) (v13 : Value) (rw14 : List (List Value)), Fz.le f f10 ∧ zcg n A p1 p2 y12 y17 y18 = some res ∧ RW (tP ab) f10 rw14 y12 ∧ St 47 w0 f10 (.blk pb0 (.cells #[v13, .int .i64 (y17), .bool (y18)] 54 (0, 0)) :: .row v13 48 1 rw14 :: L) [(0, .pointer (some ⟨pb0, 0, none⟩)), (1, .string (p1)), (2, a2)] a w) ?_ ?_
 ·clear hs hm
  clear hbase19
  rintro a w ⟨f10, y12, y17, y18, v13, rw14, hl11, hm, hW15, hs⟩
  replace hA := hA.le hl11
  replace pv0_0h := pv0_0h.le hl11
  replace hR5 := hR5.le hl11
  replace hW6 := hW6.le hl11
  replace hle := hle.trans hl11
  unfold zcg at hm
  refine hK1 <| Ws fun hK3 => Wq fun hK4 => sM (v := .string (p1)) hs rfl fun hs => za0 <| hK4 <| zam fun Qe5 hB5 hO5 => Ws fun hK6 => za7 ?_
  refine s1 hs (zd9 rfl rfl) fun hs => sA (v := .bool (decide (p1 = (bs [108, 105])))) hs rfl fun hs => za0 <| hK6 ?_
  have hbase30 := Fz.le.refl f10
  obtain ⟨bK31, hbE32⟩ : ∃ z, z = ab := ⟨_, rfl⟩
  have hbb33 : bK31 <+: ab := by rw [hbE32]; exact List.prefix_refl _
  refine zai (fun a w => ∃ (f20 : Fz) (L : List Ent) (ab : List Nat) (y22 : (List Int)) (y27 : Int) (y28 : Bool) (y29 : (List za2)) (v23 : Value) (rw24 : List (List Value)), Fz.le f10 f20 ∧ bK31 <+: ab ∧ AR nsh f20 ab y29 [] L0 L ∧ zcf n p1 p2 y22 y27 y28 y29 = some res ∧ RW (tP ab) f20 rw24 y22 ∧ St 47 w0 f20 (.blk pb0 (.cells #[v23, .int .i64 (y27), .bool (y28)] 54 (0, 0)) :: .row v23 48 1 rw24 :: L) [(0, .pointer (some ⟨pb0, 0, none⟩)), (1, .string (p1)), (2, a2)] a w) ?_ ?_
  ·clear hs hm
   clear hbase30
   clear hA
   rintro a w ⟨f20, L, ab, y22, y27, y28, y29, v23, rw24, hl21, hbx34, hA, hm, hW25, hs⟩
   have hbb33 := hbx34; rw [hbE32] at hbx34
   replace pv0_0h := pv0_0h.grow hbx34
   replace hW15 := hW15.grow hbx34
   replace hbs := hbs.trans hbx34
   replace pv0_0h := pv0_0h.le hl21
   replace hR5 := hR5.le hl21
   replace hW6 := hW6.le hl21
   replace hW15 := hW15.le hl21
   replace hle := hle.trans hl21
   unfold zcf at hm
   refine hK3 <| za7 <| sM (v := .pointer (some ⟨pb0, 0, none⟩)) hs rfl fun hs => sM (v := .string (p1)) hs rfl fun hs => sM (v := a2) hs rfl fun hs => ?_
   obtain ⟨x35, hx36, hm⟩ := ob hm
   replace hs := hs.front 1
   replace hs := hs.front 1
   refine zjq (Lr := [.blk pb0 (.cells #[v23, .int .i64 (y27), .bool (y28)] 54 (0, 0)), .row v23 48 1 rw24]) [] hA hs rfl has51 rfl (zg8 n (f := f20) (p0 := ({open_ := y22, count := y27, deep := y28} : za6)) (pb0 := pb0) (pv0_0 := v23) (pv0_0r := rw24) (p1 := p1) (p2 := p2) (a2 := a2) (A := y29) hW25 ⟨rw4, hR5, hW6⟩ hx36) (.free rfl) (by decide) ?_; clear hs; (try clear a w)
   clear hA
   rintro _ f37 ab _ L a w hf38 hbg42 hA ⟨v39, rw40, rfl, rfl, hW41⟩ hs
   replace pv0_0h := pv0_0h.le hf38
   replace hR5 := hR5.le hf38
   replace hW6 := hW6.le hf38
   replace hW15 := hW15.le hf38
   replace hW25 := hW25.le hf38
   replace hle := hle.trans hf38
   replace pv0_0h := pv0_0h.grow hbg42
   replace hW15 := hW15.grow hbg42
   replace hW25 := hW25.grow hbg42
   replace hbs := hbs.trans hbg42
   refine za0 ?_
   obtain rfl := Option.some.inj hm
   refine RtV0 hs rfl  ?_
   exact ⟨_, f37, ab, [.blk pb0 (.cells #[v39, .int .i64 (x35.1.count), .bool (x35.1.deep)] 54 (0, 0)), .row v39 48 1 rw40], L, rfl, hle, hbs, hA, hs.cw, v39, rw40, rfl, rfl, hW41⟩
  refine zaf hs rfl (fun hg44 => ?_) (fun hg44 => ?_)
  ·replace hm := oc_t hg44 hm
   refine za7 <| sM (v := .pointer (some ⟨pb0, 0, none⟩)) hs rfl fun hs => sM (v := .pointer (some ⟨pb0, 0, none⟩)) hs rfl fun hs => ?_
   refine zpy (parts := [(0, .const (.string (bs [117, 108]))), (1, .const (.string (bs [116, 100])))]) (us := [.string ((bs [117, 108])), .string ((bs [116, 100]))]) (rows := [[.string ((bs [117, 108]))], [.string ((bs [116, 100]))]]) hs rfl Try.underlying78 ti9 (by decide) rfl rfl (by intro r hr; simp only [List.mem_cons, List.mem_nil_iff, or_false] at hr; rcases hr with rfl | rfl; exact AllC.row ⟨rfl, trivial⟩ rfl; exact AllC.row ⟨rfl, trivial⟩ rfl) fun v45 _ _ hs => ?_
   have hW46 : RW tStr f10 [[.string ((bs [117, 108]))], [.string ((bs [116, 100]))]] [(bs [117, 108]), (bs [116, 100])] := ⟨rfl, ⟨rfl, trivial⟩⟩
   generalize hgrw47 : ([[.string ((bs [117, 108]))], [.string ((bs [116, 100]))]] : List (List Value)) = rw47 at hs hW46; clear hgrw47
   obtain ⟨x50, hx51, hm⟩ := ob hm
   refine sy hs (zeh (cap := []) rfl has50 rfl (fun w9 hw9 => callsF (Lr := [.row v45 9 1 rw47, .blk pb0 (.cells #[v13, .int .i64 (y17), .bool (y18)] 54 (0, 0)), .row v13 48 1 rw14]) (Lf := L) (((zag _ 2 rfl).trans (zag _ 2 rfl)).trans (zag _ 2 rfl)) hw9 (fun w9 hw9 => lent0 hw9 (fun f9_0 w9 hle9_0 hRl0 hw9 => GivesR.at (X := []) (zf7 n (f := f9_0) (p0 := ({open_ := y12, count := y17, deep := y18} : za6)) (pb0 := pb0) (pv0_0 := v13) (pv0_0r := rw14) (p1 := [(bs [117, 108]), (bs [116, 100])]) (a1 := v45) (A := A) (hW15.le hle9_0) ⟨rw47, hRl0, hW46.le hle9_0⟩ hx51) (hA.le hle9_0) (.refl _) hw9)))) fun _ _ hs => ?_
   obtain ⟨x52, hx53, hm⟩ := ob hm
   replace hs := hs.front 2
   replace hs := hs.front 2
   refine zgx (Lr := [.blk pb0 (.cells #[v13, .int .i64 (y17), .bool (y18)] 54 (0, 0)), .row v13 48 1 rw14]) [.row v45 9 1 rw47] hA hs rfl has49 rfl (zdk n (f := f10) (p0 := ({open_ := y12, count := y17, deep := y18} : za6)) (pb0 := pb0) (pv0_0 := v13) (pv0_0r := rw14) (p1 := x50) (p2 := (bs [108, 105])) (A := A) hW15 hx53) (.free rfl) (by decide) ?_; clear hs; (try clear a w)
   rintro _ f54 _ a w hf55 ⟨v56, rw57, rfl, rfl, hW58⟩ hs
   replace hA := hA.le hf55
   replace pv0_0h := pv0_0h.le hf55
   replace hR5 := hR5.le hf55
   replace hW6 := hW6.le hf55
   replace hW15 := hW15.le hf55
   replace hW46 := hW46.le hf55
   replace hle := hle.trans hf55
   replace hbase30 := hbase30.trans hf55
   refine za0 ?_
   exact ⟨_, L, ab, x52.open_, x52.count, x52.deep, A, v56, rw57, hbase30, hbb33, hA, hm, hW58, hs.subs ⟨rfl, rfl, rfl, trivial⟩ (.cons_cons _ (.cons_cons _ (.cons _ (.refl _))))⟩
  replace hm := oc_f hg44 hm
  refine Wq fun hK7 => s1 hs (zd9 rfl rfl) fun hs => sA (v := .bool (decide (p1 = (bs [116, 114])))) hs rfl fun hs => za0 <| hK7 ?_
  have hbase70 := Fz.le.refl f10
  obtain ⟨bK71, hbE72⟩ : ∃ z, z = ab := ⟨_, rfl⟩
  have hbb73 : bK71 <+: ab := by rw [hbE72]; exact List.prefix_refl _
  refine zai (fun a w => ∃ (f60 : Fz) (L : List Ent) (ab : List Nat) (y62 : (List Int)) (y67 : Int) (y68 : Bool) (y69 : (List za2)) (v63 : Value) (rw64 : List (List Value)), Fz.le f10 f60 ∧ bK71 <+: ab ∧ AR nsh f60 ab y69 [] L0 L ∧ ze5 n p1 p2 y62 y67 y68 y69 = some res ∧ RW (tP ab) f60 rw64 y62 ∧ St 47 w0 f60 (.blk pb0 (.cells #[v63, .int .i64 (y67), .bool (y68)] 54 (0, 0)) :: .row v63 48 1 rw64 :: L) [(0, .pointer (some ⟨pb0, 0, none⟩)), (1, .string (p1)), (2, a2)] a w) ?_ ?_
  ·clear hs hm
   clear hbase70
   clear hA
   rintro a w ⟨f60, L, ab, y62, y67, y68, y69, v63, rw64, hl61, hbx74, hA, hm, hW65, hs⟩
   have hbb73 := hbx74; rw [hbE72] at hbx74
   replace pv0_0h := pv0_0h.grow hbx74
   replace hW15 := hW15.grow hbx74
   replace hbs := hbs.trans hbx74
   replace hbb33 := hbb33.trans hbx74
   replace pv0_0h := pv0_0h.le hl61
   replace hR5 := hR5.le hl61
   replace hW6 := hW6.le hl61
   replace hW15 := hW15.le hl61
   replace hle := hle.trans hl61
   replace hbase30 := hbase30.trans hl61
   unfold ze5 at hm
   exact ⟨_, L, ab, y62, y67, y68, y69, v63, rw64, hbase30, hbb33, hA, hm, hW65, hs.sub ⟨rfl, rfl, rfl, trivial⟩⟩
  refine zaf hs rfl (fun hg75 => ?_) (fun hg75 => ?_)
  ·replace hm := oc_t hg75 hm
   refine za7 <| sM (v := .pointer (some ⟨pb0, 0, none⟩)) hs rfl fun hs => sM (v := .pointer (some ⟨pb0, 0, none⟩)) hs rfl fun hs => zfz hs rfl Try.underlying78 ti9 rfl rfl fun v76 _ _ hs => ?_
   have hW77 : RW tStr f10 [[.string ((bs [116, 97, 98, 108, 101]))]] [(bs [116, 97, 98, 108, 101])] := RW.single (rfl)
   generalize hgrw78 : ([[.string ((bs [116, 97, 98, 108, 101]))]] : List (List Value)) = rw78 at hs hW77; clear hgrw78
   obtain ⟨x81, hx82, hm⟩ := ob hm
   refine sy hs (zeh (cap := []) rfl has50 rfl (fun w9 hw9 => callsF (Lr := [.row v76 9 1 rw78, .blk pb0 (.cells #[v13, .int .i64 (y17), .bool (y18)] 54 (0, 0)), .row v13 48 1 rw14]) (Lf := L) (((zag _ 2 rfl).trans (zag _ 2 rfl)).trans (zag _ 2 rfl)) hw9 (fun w9 hw9 => lent0 hw9 (fun f9_0 w9 hle9_0 hRl0 hw9 => GivesR.at (X := []) (zf7 n (f := f9_0) (p0 := ({open_ := y12, count := y17, deep := y18} : za6)) (pb0 := pb0) (pv0_0 := v13) (pv0_0r := rw14) (p1 := [(bs [116, 97, 98, 108, 101])]) (a1 := v76) (A := A) (hW15.le hle9_0) ⟨rw78, hRl0, hW77.le hle9_0⟩ hx82) (hA.le hle9_0) (.refl _) hw9)))) fun _ _ hs => ?_
   obtain ⟨x83, hx84, hm⟩ := ob hm
   replace hs := hs.front 2
   replace hs := hs.front 2
   refine zgx (Lr := [.blk pb0 (.cells #[v13, .int .i64 (y17), .bool (y18)] 54 (0, 0)), .row v13 48 1 rw14]) [.row v76 9 1 rw78] hA hs rfl has49 rfl (zdk n (f := f10) (p0 := ({open_ := y12, count := y17, deep := y18} : za6)) (pb0 := pb0) (pv0_0 := v13) (pv0_0r := rw14) (p1 := x81) (p2 := (bs [116, 114])) (A := A) hW15 hx84) (.free rfl) (by decide) ?_; clear hs; (try clear a w)
   rintro _ f85 _ a w hf86 ⟨v87, rw88, rfl, rfl, hW89⟩ hs
   replace hA := hA.le hf86
   replace pv0_0h := pv0_0h.le hf86
   replace hR5 := hR5.le hf86
   replace hW6 := hW6.le hf86
   replace hW15 := hW15.le hf86
   replace hW77 := hW77.le hf86
   replace hle := hle.trans hf86
   replace hbase30 := hbase30.trans hf86
   replace hbase70 := hbase70.trans hf86
   refine za0 ?_
   exact ⟨_, L, ab, x83.open_, x83.count, x83.deep, A, v87, rw88, hbase70, hbb73, hA, hm, hW89, hs.subs ⟨rfl, rfl, rfl, trivial⟩ (.cons_cons _ (.cons_cons _ (.cons _ (.refl _))))⟩
  replace hm := oc_f hg75 hm
  refine Wq fun hK8 => s1 hs (zd9 rfl rfl) fun hs => sA (v := .bool (decide (p1 = (bs [116, 100])))) hs rfl fun hs => za0 <| hK8 ?_
  have hbase101 := Fz.le.refl f10
  obtain ⟨bK102, hbE103⟩ : ∃ z, z = ab := ⟨_, rfl⟩
  have hbb104 : bK102 <+: ab := by rw [hbE103]; exact List.prefix_refl _
  refine zai (fun a w => ∃ (f91 : Fz) (L : List Ent) (ab : List Nat) (y93 : (List Int)) (y98 : Int) (y99 : Bool) (y100 : (List za2)) (v94 : Value) (rw95 : List (List Value)), Fz.le f10 f91 ∧ bK102 <+: ab ∧ AR nsh f91 ab y100 [] L0 L ∧ ze4 n p1 p2 y93 y98 y99 y100 = some res ∧ RW (tP ab) f91 rw95 y93 ∧ St 47 w0 f91 (.blk pb0 (.cells #[v94, .int .i64 (y98), .bool (y99)] 54 (0, 0)) :: .row v94 48 1 rw95 :: L) [(0, .pointer (some ⟨pb0, 0, none⟩)), (1, .string (p1)), (2, a2)] a w) ?_ ?_
  ·clear hs hm
   clear hbase101
   clear hA
   rintro a w ⟨f91, L, ab, y93, y98, y99, y100, v94, rw95, hl92, hbx105, hA, hm, hW96, hs⟩
   have hbb104 := hbx105; rw [hbE103] at hbx105
   replace pv0_0h := pv0_0h.grow hbx105
   replace hW15 := hW15.grow hbx105
   replace hbs := hbs.trans hbx105
   replace hbb33 := hbb33.trans hbx105
   replace hbb73 := hbb73.trans hbx105
   replace pv0_0h := pv0_0h.le hl92
   replace hR5 := hR5.le hl92
   replace hW6 := hW6.le hl92
   replace hW15 := hW15.le hl92
   replace hle := hle.trans hl92
   replace hbase30 := hbase30.trans hl92
   replace hbase70 := hbase70.trans hl92
   unfold ze4 at hm
   exact ⟨_, L, ab, y93, y98, y99, y100, v94, rw95, hbase70, hbb73, hA, hm, hW96, hs.sub ⟨rfl, rfl, rfl, trivial⟩⟩
  refine zaf hs rfl (fun hg106 => ?_) (fun hg106 => ?_)
  ·replace hm := oc_t hg106 hm
   refine Wq fun hK9 => sM (v := .pointer (some ⟨pb0, 0, none⟩)) hs rfl fun hs => sM (v := .pointer (some ⟨pb0, 0, none⟩)) hs rfl fun hs => zfz hs rfl Try.underlying78 ti9 rfl rfl fun v107 _ _ hs => ?_
   have hW108 : RW tStr f10 [[.string ((bs [116, 114]))]] [(bs [116, 114])] := RW.single (rfl)
   generalize hgrw109 : ([[.string ((bs [116, 114]))]] : List (List Value)) = rw109 at hs hW108; clear hgrw109
   obtain ⟨x112, hx113, hm⟩ := ob hm
   refine sy hs (zeh (cap := []) rfl has50 rfl (fun w9 hw9 => callsF (Lr := [.row v107 9 1 rw109, .blk pb0 (.cells #[v13, .int .i64 (y17), .bool (y18)] 54 (0, 0)), .row v13 48 1 rw14]) (Lf := L) (((zag _ 2 rfl).trans (zag _ 2 rfl)).trans (zag _ 2 rfl)) hw9 (fun w9 hw9 => lent0 hw9 (fun f9_0 w9 hle9_0 hRl0 hw9 => GivesR.at (X := []) (zf7 n (f := f9_0) (p0 := ({open_ := y12, count := y17, deep := y18} : za6)) (pb0 := pb0) (pv0_0 := v13) (pv0_0r := rw14) (p1 := [(bs [116, 114])]) (a1 := v107) (A := A) (hW15.le hle9_0) ⟨rw109, hRl0, hW108.le hle9_0⟩ hx113) (hA.le hle9_0) (.refl _) hw9)))) fun _ _ hs => ?_
   obtain ⟨x114, hx115, hm⟩ := ob hm
   replace hs := hs.front 2
   replace hs := hs.front 2
   refine zgx (Lr := [.blk pb0 (.cells #[v13, .int .i64 (y17), .bool (y18)] 54 (0, 0)), .row v13 48 1 rw14]) [.row v107 9 1 rw109] hA hs rfl has49 rfl (zdk n (f := f10) (p0 := ({open_ := y12, count := y17, deep := y18} : za6)) (pb0 := pb0) (pv0_0 := v13) (pv0_0r := rw14) (p1 := x112) (p2 := (bs [116, 100])) (A := A) hW15 hx115) (.free rfl) (by decide) ?_; clear hs; (try clear a w)
   rintro _ f116 _ a w hf117 ⟨v118, rw119, rfl, rfl, hW120⟩ hs
   replace hA := hA.le hf117
   replace pv0_0h := pv0_0h.le hf117
   replace hR5 := hR5.le hf117
   replace hW6 := hW6.le hf117
   replace hW15 := hW15.le hf117
   replace hW108 := hW108.le hf117
   replace hle := hle.trans hf117
   replace hbase30 := hbase30.trans hf117
   replace hbase70 := hbase70.trans hf117
   replace hbase101 := hbase101.trans hf117
   refine za0 <| hK9 <| Wq fun hK10 => sM (v := .pointer (some ⟨pb0, 0, none⟩)) hs rfl fun hs => ?_
   obtain ⟨x122, hx123, hm⟩ := ob hm
   replace hs := hs.front 1
   replace hs := hs.front 1
   refine zgx (Lr := [.blk pb0 (.cells #[v118, .int .i64 (x114.count), .bool (x114.deep)] 54 (0, 0)), .row v118 48 1 rw119]) [.row v107 9 1 rw109] hA hs rfl has43 rfl (zdj n (f := f116) (p0 := x114) (pb0 := pb0) (pv0_0 := v118) (pv0_0r := rw119) (A := A) hW120 hx123) (.free rfl) (by decide) ?_; clear hs; (try clear a w)
   rintro v126 f124 _ a w hf125 ⟨_, v128, rw129, rfl, rfl, hp127, hW130⟩ hs
   replace hA := hA.le hf125
   replace pv0_0h := pv0_0h.le hf125
   replace hR5 := hR5.le hf125
   replace hW6 := hW6.le hf125
   replace hW15 := hW15.le hf125
   replace hW108 := hW108.le hf125
   replace hW120 := hW120.le hf125
   replace hle := hle.trans hf125
   replace hbase30 := hbase30.trans hf125
   replace hbase70 := hbase70.trans hf125
   replace hbase101 := hbase101.trans hf125
   obtain ⟨x132, hx133, hm⟩ := ob hm
   obtain ⟨b148, rfl, _, ⟨v136, v141, v143, rw144, rfl, ⟨rw137, hR138, hW139⟩, hp142, hW145⟩, hpm147⟩ := AR.peek hA hx133 hp127
   have hm134 := hpm147 _ (.head _); have hm135 := hpm147 _ (.tail _ (.head _)); clear hpm147
   refine s1 hs (zab rfl) fun hs => s1 (v := .pointer (some ⟨b148, 0, none⟩)) hs (za1 rfl (FO.of (off := 0) Try.underlying51 rfl rfl ti9 (by decide))) fun hs => s1 (v := .string (x132.name)) hs (y_ld rfl Try.underlying9 rfl (Cell.blk (.tail _ (.tail _ (.tail _ (hm134)))) rfl)) fun hs => s1 hs (zd9 rfl rfl) fun hs => za0 <| hK10 ?_
   have hbase159 := Fz.le.refl f124
   obtain ⟨bK160, hbE161⟩ : ∃ z, z = ab := ⟨_, rfl⟩
   have hbb162 : bK160 <+: ab := by rw [hbE161]; exact List.prefix_refl _
   refine zai (fun a w => ∃ (f149 : Fz) (L : List Ent) (ab : List Nat) (y151 : (List Int)) (y156 : Int) (y157 : Bool) (y158 : (List za2)) (v152 : Value) (rw153 : List (List Value)), Fz.le f124 f149 ∧ bK160 <+: ab ∧ AR nsh f149 ab y158 [] L0 L ∧ zfc n p1 p2 y151 y156 y157 y158 = some res ∧ RW (tP ab) f149 rw153 y151 ∧ St 47 w0 f149 (.blk pb0 (.cells #[v152, .int .i64 (y156), .bool (y157)] 54 (0, 0)) :: .row v152 48 1 rw153 :: L) [(0, .pointer (some ⟨pb0, 0, none⟩)), (1, .string (p1)), (2, a2)] a w) ?_ ?_
   ·clear hs hm
    clear hbase159
    clear hA
    rintro a w ⟨f149, L, ab, y151, y156, y157, y158, v152, rw153, hl150, hbx163, hA, hm, hW154, hs⟩
    have hbb162 := hbx163; rw [hbE161] at hbx163
    replace pv0_0h := pv0_0h.grow hbx163
    replace hW15 := hW15.grow hbx163
    replace hW120 := hW120.grow hbx163
    replace hp127 := hp127.grow hbx163
    replace hW130 := hW130.grow hbx163
    replace hp142 := hp142.grow hbx163
    replace hW145 := hW145.grow hbx163
    replace hbs := hbs.trans hbx163
    replace hbb33 := hbb33.trans hbx163
    replace hbb73 := hbb73.trans hbx163
    replace hbb104 := hbb104.trans hbx163
    replace pv0_0h := pv0_0h.le hl150
    replace hR5 := hR5.le hl150
    replace hW6 := hW6.le hl150
    replace hW15 := hW15.le hl150
    replace hW108 := hW108.le hl150
    replace hW120 := hW120.le hl150
    replace hW130 := hW130.le hl150
    replace hR138 := hR138.le hl150
    replace hW139 := hW139.le hl150
    replace hW145 := hW145.le hl150
    replace hle := hle.trans hl150
    replace hbase30 := hbase30.trans hl150
    replace hbase70 := hbase70.trans hl150
    replace hbase101 := hbase101.trans hl150
    unfold zfc at hm
    exact ⟨_, L, ab, y151, y156, y157, y158, v152, rw153, hbase101, hbb104, hA, hm, hW154, hs.sub ⟨rfl, rfl, rfl, trivial⟩⟩
   refine zaf hs rfl (fun hg164 => ?_) (fun hg164 => ?_)
   ·replace hm := oc_t hg164 hm
    refine za7 <| sM (v := .pointer (some ⟨pb0, 0, none⟩)) hs rfl fun hs => ?_
    obtain ⟨x166, hx167, hm⟩ := ob hm
    replace hs := hs.front 1
    replace hs := hs.front 1
    refine zjq (Lr := [.blk pb0 (.cells #[v128, .int .i64 (x122.2.count), .bool (x122.2.deep)] 54 (0, 0)), .row v128 48 1 rw129]) [.row v107 9 1 rw109] hA hs rfl has51 rfl (zg8 n (f := f124) (p0 := x122.2) (pb0 := pb0) (pv0_0 := v128) (pv0_0r := rw129) (p1 := (bs [116, 114])) (p2 := ([] : List za9)) (a2 := (.slice none 0 0)) (A := A) hW130 RS.nil hx167) (.free rfl) (by decide) ?_; clear hs; (try clear a w)
    clear hA
    rintro _ f168 ab _ L a w hf169 hbg173 hA ⟨v170, rw171, rfl, rfl, hW172⟩ hs
    replace pv0_0h := pv0_0h.le hf169
    replace hR5 := hR5.le hf169
    replace hW6 := hW6.le hf169
    replace hW15 := hW15.le hf169
    replace hW108 := hW108.le hf169
    replace hW120 := hW120.le hf169
    replace hW130 := hW130.le hf169
    replace hR138 := hR138.le hf169
    replace hW139 := hW139.le hf169
    replace hW145 := hW145.le hf169
    replace hle := hle.trans hf169
    replace hbase30 := hbase30.trans hf169
    replace hbase70 := hbase70.trans hf169
    replace hbase101 := hbase101.trans hf169
    replace hbase159 := hbase159.trans hf169
    replace pv0_0h := pv0_0h.grow hbg173
    replace hW15 := hW15.grow hbg173
    replace hW120 := hW120.grow hbg173
    replace hp127 := hp127.grow hbg173
    replace hW130 := hW130.grow hbg173
    replace hp142 := hp142.grow hbg173
    replace hW145 := hW145.grow hbg173
    replace hbs := hbs.trans hbg173
    replace hbb33 := hbb33.trans hbg173
    replace hbb73 := hbb73.trans hbg173
    replace hbb104 := hbb104.trans hbg173
    replace hbb162 := hbb162.trans hbg173
    refine za0 ?_
    exact ⟨_, L, ab, x166.1.open_, x166.1.count, x166.1.deep, x166.2, v170, rw171, hbase159, hbb162, hA, hm, hW172, hs.subs ⟨rfl, rfl, rfl, trivial⟩ (.cons_cons _ (.cons_cons _ (.cons _ (.refl _))))⟩
   replace hm := oc_f hg164 hm
   refine zah ?_
   exact ⟨_, L, ab, x122.2.open_, x122.2.count, x122.2.deep, A, v128, rw129, (Fz.le.refl _), hbb162, hA, hm, hW130, hs.subs ⟨rfl, rfl, rfl, trivial⟩ (.cons_cons _ (.cons_cons _ (.cons _ (.refl _))))⟩
  replace hm := oc_f hg106 hm
  refine zah ?_
  exact ⟨_, L, ab, y12, y17, y18, A, v13, rw14, (Fz.le.refl _), hbb104, hA, hm, hW15, hs.sub ⟨rfl, rfl, rfl, trivial⟩⟩
 refine zaf hs rfl (fun hg175 => ?_) (fun hg175 => ?_)
 ·replace hm := oc_t hg175 hm
  refine za7 <| sM (v := .pointer (some ⟨pb0, 0, none⟩)) hs rfl fun hs => sM (v := .pointer (some ⟨pb0, 0, none⟩)) hs rfl fun hs => zfz hs rfl Try.underlying78 ti9 rfl rfl fun v176 _ _ hs => ?_
  have hW177 : RW tStr f [[.string ((bs [116, 100]))]] [(bs [116, 100])] := RW.single (rfl)
  generalize hgrw178 : ([[.string ((bs [116, 100]))]] : List (List Value)) = rw178 at hs hW177; clear hgrw178
  obtain ⟨x181, hx182, hm⟩ := ob hm
  refine sy hs (zeh (cap := []) rfl has50 rfl (fun w9 hw9 => callsF (Lr := [.row v176 9 1 rw178, .blk pb0 (.cells #[pv0_0, .int .i64 (p0.count), .bool (p0.deep)] 54 (0, 0)), .row pv0_0 48 1 pv0_0r]) (Lf := L) (((zag _ 2 rfl).trans (zag _ 2 rfl)).trans (zag _ 2 rfl)) hw9 (fun w9 hw9 => lent0 hw9 (fun f9_0 w9 hle9_0 hRl0 hw9 => GivesR.at (X := []) (zf7 n (f := f9_0) (p0 := p0) (pb0 := pb0) (pv0_0 := pv0_0) (pv0_0r := pv0_0r) (p1 := [(bs [116, 100])]) (a1 := v176) (A := A) (pv0_0h.le hle9_0) ⟨rw178, hRl0, hW177.le hle9_0⟩ hx182) (hA.le hle9_0) (.refl _) hw9)))) fun _ _ hs => ?_
  obtain ⟨x183, hx184, hm⟩ := ob hm
  replace hs := hs.front 2
  replace hs := hs.front 2
  refine zgx (Lr := [.blk pb0 (.cells #[pv0_0, .int .i64 (p0.count), .bool (p0.deep)] 54 (0, 0)), .row pv0_0 48 1 pv0_0r]) [.row v176 9 1 rw178] hA hs rfl has49 rfl (zdk n (f := f) (p0 := p0) (pb0 := pb0) (pv0_0 := pv0_0) (pv0_0r := pv0_0r) (p1 := x181) (p2 := (bs [112])) (A := A) pv0_0h hx184) (.free rfl) (by decide) ?_; clear hs; (try clear a w)
  rintro _ f185 _ a w hf186 ⟨v187, rw188, rfl, rfl, hW189⟩ hs
  replace hA := hA.le hf186
  replace pv0_0h := pv0_0h.le hf186
  replace hR5 := hR5.le hf186
  replace hW6 := hW6.le hf186
  replace hW177 := hW177.le hf186
  replace hle := hle.trans hf186
  replace hbase19 := hbase19.trans hf186
  refine za0 ?_
  exact ⟨_, x183.open_, x183.count, x183.deep, v187, rw188, hbase19, hm, hW189, hs.subs ⟨rfl, rfl, rfl, trivial⟩ (.cons_cons _ (.cons_cons _ (.cons _ (.refl _))))⟩
 replace hm := oc_f hg175 hm
 refine zah ?_
 exact ⟨_, p0.open_, p0.count, p0.deep, pv0_0, pv0_0r, (Fz.le.refl _), hm, pv0_0h, hs.sub ⟨rfl, rfl, rfl, trivial⟩⟩
def zfd (y26 : (List Int)) (y31 : Int) (y32 : Bool) (y33 : (List za2)) : Option (za6 × (List za2)) :=
  some (({open_ := y26, count := y31, deep := y32} : za6), y33)
def zgu (y105 : (List Int)) (y110 : Int) (y111 : Bool) (y112 : (List za2)) : Option (za6 × (List za2)) :=
  some (({open_ := y105, count := y110, deep := y111} : za6), y112)
def zbq (n : Nat) (x93 : (List Int)) : Nat → (List Int) → Int → Bool → Int → (List za2) → Option (za6 × (List za2))
  | 0, _, _, _, _, _ => none
  | k133 + 1, y120, y125, y126, y127, y128 =>
  (bif (decide (y127 < (x93.length : Int))) then (geti x93 y127).bind fun x136 =>
  (focM y128 [] x136).bind fun x146 =>
  (zce n ({open_ := y120, count := y125, deep := y126} : za6) x146.name x146.attrs y128).bind fun x163 =>
  (zbq n x93 k133) x163.1.open_ x163.1.count x163.1.deep (w64 (y127 + 1)) x163.2 else
  zgu y120 y125 y126 y128)
def zd4 (n : Nat) (A : (List za2)) (p0 : za6) (p1 : ByteArray) (y20 : Int) : Option (za6 × (List za2)) :=
  (ze8 n p0 y20 p1 A).bind fun x21 =>
  (bif (decide (x21 < 0)) then (bif (decide (p1 = (bs [112]))) then (zbn n p0 (bs [112]) ([] : List za9) A).bind fun x41 =>
  (zdm n x41.1 (w64 ((x41.1.open_.length : Int) - 1))).bind fun x50 =>
  zfd x50.open_ x50.count x50.deep x41.2 else
  zfd p0.open_ p0.count p0.deep A) else
  (cutM p0.open_ ((w64 (x21 + 1)) : Int) (p0.open_.length : Int)).bind fun x58 =>
  (appM 8 [] x58).bind fun x64 =>
  (zdm n p0 x21).bind fun x73 =>
  (ziu n p1).bind fun x81 =>
  (bif (!x81) then some (({open_ := x73.open_, count := x73.count, deep := x73.deep} : za6), A) else
  (zbb n x64 (fun z0 => zc0 n z0 A) A).bind fun x84 =>
  (cutM x84 ((bif decide ((w64 ((x84.length : Int) - 8)) < 0) then 0 else (w64 ((x84.length : Int) - 8))) : Int) (x84.length : Int)).bind fun x93 =>
  zbq n x93 n x73.open_ x73.count x73.deep 0 A))
def zd5 (n : Nat) (A : (List za2)) (p0 : za6) (p1 : ByteArray) (y4 : Bool) : Option (za6 × (List za2)) :=
  (bif y4 then some (({open_ := p0.open_, count := p0.count, deep := p0.deep} : za6), A) else
  (zct n p0 [(bs [116, 100])] A).bind fun x11 =>
  (zjr n p1 [(bs [116, 100]), (bs [116, 114]), (bs [116, 97, 98, 108, 101])]).bind fun x18 =>
  (bif x18 then zd4 n A p0 p1 0 else
  zd4 n A p0 p1 x11))
def zf6 (n : Nat) (p0 : za6) (p1 : ByteArray) (A : (List za2)) : Option (za6 × (List za2)) :=
  (zh2 n p1).bind fun x184 =>
  (bif x184 then zd5 n A p0 p1 true else
  zd5 n A p0 p1 (decide (p1 = (bs [114, 111, 111, 116]))))
theorem zlh (n : Nat) {f : Fz} {ab : List Nat} {A : List za2} {p0 : za6} {pb0 : Nat} {pv0_0 : Value} {pv0_0r : List (List Value)} {p1 : ByteArray} {res : (za6 × (List za2))} (pv0_0h : RW (tP ab) f pv0_0r p0.open_) (hm : zf6 n p0 p1 A = some res) : DoesA nsh Try.prog 23 [.pointer (some ⟨pb0, 0, none⟩), .string p1] f [.blk pb0 (.cells #[pv0_0, .int .i64 p0.count, .bool p0.deep] 54 (0, 0)), .row pv0_0 48 1 pv0_0r] ab A res.2 (fun r f' ab' L' => ∃ (dp0_0 : Value) (dp0_0r : List (List Value)), L' = [.blk pb0 (.cells #[dp0_0, .int .i64 res.1.count, .bool res.1.deep] 54 (0, 0)), .row dp0_0 48 1 dp0_0r] ∧ r = .tuple #[] ∧ RW (tP ab') f' dp0_0r res.1.open_) := by
 unfold zf6 at hm
 intro w0 L0 L w hA hC
 have hbs := List.prefix_refl ab
 replace hC : Cw w0 f (.blk pb0 (.cells #[pv0_0, .int .i64 p0.count, .bool p0.deep] 54 (0, 0)) :: .row pv0_0 48 1 pv0_0r :: L) w := hC
 refine enter Try.func23 rfl Try.ntmps23 (by simp) hC fun a hs => ?_
 have hle := Fz.le.refl f
 refine Ws fun hK1 => Ws fun hK2 => ?_
 refine zai (fun a w => ∃ (y4 : Bool), zd5 n A p0 p1 y4 = some res ∧ St 77 w0 f (.blk pb0 (.cells #[pv0_0, .int .i64 (p0.count), .bool (p0.deep)] 54 (0, 0)) :: .row pv0_0 48 1 pv0_0r :: L) [(0, .pointer (some ⟨pb0, 0, none⟩)), (1, .string (p1)), (14, .bool (y4))] a w) ?_ ?_
 ·clear hs hm
  rintro a w ⟨y4, hm, hs⟩
  unfold zd5 at hm
  refine hK2 ?_
  refine zaf hs rfl (fun hg5 => ?_) (fun hg5 => ?_)
  ·replace hm := oc_t hg5 hm
   refine zau ?_
   obtain rfl := Option.some.inj hm
   refine RtV0 hs rfl  ?_
   exact ⟨_, f, ab, [.blk pb0 (.cells #[pv0_0, .int .i64 (p0.count), .bool (p0.deep)] 54 (0, 0)), .row pv0_0 48 1 pv0_0r], L, rfl, hle, hbs, hA, hs.cw, pv0_0, pv0_0r, rfl, rfl, pv0_0h⟩
  replace hm := oc_f hg5 hm
  refine zah <| hK1 <| Wq fun hK3 => sM (v := .pointer (some ⟨pb0, 0, none⟩)) hs rfl fun hs => zfz hs rfl Try.underlying78 ti9 rfl rfl fun v6 _ _ hs => ?_
  have hW7 : RW tStr f [[.string ((bs [116, 100]))]] [(bs [116, 100])] := RW.single (rfl)
  generalize hgrw8 : ([[.string ((bs [116, 100]))]] : List (List Value)) = rw8 at hs hW7; clear hgrw8
  obtain ⟨x11, hx12, hm⟩ := ob hm
  refine sy hs (zeh (cap := []) rfl has50 rfl (fun w9 hw9 => callsF (Lr := [.row v6 9 1 rw8, .blk pb0 (.cells #[pv0_0, .int .i64 (p0.count), .bool (p0.deep)] 54 (0, 0)), .row pv0_0 48 1 pv0_0r]) (Lf := L) (((zag _ 2 rfl).trans (zag _ 2 rfl)).trans (zag _ 2 rfl)) hw9 (fun w9 hw9 => lent0 hw9 (fun f9_0 w9 hle9_0 hRl0 hw9 => GivesR.at (X := []) (zf7 n (f := f9_0) (p0 := p0) (pb0 := pb0) (pv0_0 := pv0_0) (pv0_0r := pv0_0r) (p1 := [(bs [116, 100])]) (a1 := v6) (A := A) (pv0_0h.le hle9_0) ⟨rw8, hRl0, hW7.le hle9_0⟩ hx12) (hA.le hle9_0) (.refl _) hw9)))) fun _ _ hs => sA (v := .int .i64 (x11)) hs rfl fun hs => za0 <| hK3 <| Ws fun hK4 => Wq fun hK5 => sM (v := .string (p1)) hs rfl fun hs => ?_
  refine zpy (parts := [(0, .const (.string (bs [116, 100]))), (1, .const (.string (bs [116, 114]))), (2, .const (.string (bs [116, 97, 98, 108, 101])))]) (us := [.string ((bs [116, 100])), .string ((bs [116, 114])), .string ((bs [116, 97, 98, 108, 101]))]) (rows := [[.string ((bs [116, 100]))], [.string ((bs [116, 114]))], [.string ((bs [116, 97, 98, 108, 101]))]]) hs rfl Try.underlying78 ti9 (by decide) rfl rfl (by intro r hr; simp only [List.mem_cons, List.mem_nil_iff, or_false] at hr; rcases hr with rfl | rfl | rfl; exact AllC.row ⟨rfl, trivial⟩ rfl; exact AllC.row ⟨rfl, trivial⟩ rfl; exact AllC.row ⟨rfl, trivial⟩ rfl) fun v13 _ _ hs => ?_
  have hW14 : RW tStr f [[.string ((bs [116, 100]))], [.string ((bs [116, 114]))], [.string ((bs [116, 97, 98, 108, 101]))]] [(bs [116, 100]), (bs [116, 114]), (bs [116, 97, 98, 108, 101])] := ⟨rfl, ⟨rfl, ⟨rfl, trivial⟩⟩⟩
  generalize hgrw15 : ([[.string ((bs [116, 100]))], [.string ((bs [116, 114]))], [.string ((bs [116, 97, 98, 108, 101]))]] : List (List Value)) = rw15 at hs hW14; clear hgrw15
  obtain ⟨x18, hx19, hm⟩ := ob hm
  refine sy hs (zeh (cap := []) rfl has16 rfl (fun w9 hw9 => callsP (Lr := [.row v13 9 1 rw15]) (Lf := .row v6 9 1 rw8 :: .blk pb0 (.cells #[pv0_0, .int .i64 (p0.count), .bool (p0.deep)] 54 (0, 0)) :: .row pv0_0 48 1 pv0_0r :: L) (zag _ 0 rfl) hw9 (fun Lz w9 hw9 => lent0 hw9 (fun f9_0 w9 hle9_0 hRl0 hw9 => (ziv n (f := f9_0) (a1 := v13) ⟨rw15, hRl0, hW14.le hle9_0⟩ hx19) w0 _ w9 hw9)))) fun _ _ hs => za0 <| hK5 ?_
  refine zai (fun a w => ∃ (y20 : Int), zd4 n A p0 p1 y20 = some res ∧ St 77 w0 f (.blk pb0 (.cells #[pv0_0, .int .i64 (p0.count), .bool (p0.deep)] 54 (0, 0)) :: .row pv0_0 48 1 pv0_0r :: L) [(0, .pointer (some ⟨pb0, 0, none⟩)), (1, .string (p1)), (4, .int .i64 (y20))] a w) ?_ ?_
  ·clear hs hm
   rintro a w ⟨y20, hm, hs⟩
   unfold zd4 at hm
   refine hK4 <| Wq fun hK6 => sM (v := .pointer (some ⟨pb0, 0, none⟩)) hs rfl fun hs => sM (v := .int .i64 (y20)) hs rfl fun hs => sM (v := .string (p1)) hs rfl fun hs => ?_
   obtain ⟨x21, hx22, hm⟩ := ob hm
   refine s1 hs (zn7 (cap := []) (X := []) hA rfl has52 rfl ((zag _ 1 rfl).trans (zag _ 1 rfl)) (zho n (f := f) (p0 := p0) (pb0 := pb0) (pv0_0 := pv0_0) (pv0_0r := pv0_0r) (p1 := y20) (p2 := p1) (A := A) pv0_0h hx22)) fun hs => sA (v := .int .i64 (x21)) hs rfl fun hs => za0 <| hK6 <| Ws fun hK7 => Wq fun hK8 => sM (v := .int .i64 (x21)) hs rfl fun hs => s1 hs (zg7 rfl rfl) fun hs => za0 ?_
   refine hK8 ?_
   refine zaf hs rfl (fun hg23 => ?_) (fun hg23 => ?_)
   ·replace hm := oc_t hg23 hm
    refine Ws fun hK9 => Wq fun hK10 => sM (v := .string (p1)) hs rfl fun hs => s1 hs (zd9 rfl rfl) fun hs => za0 <| hK10 ?_
    have hbase34 := Fz.le.refl f
    obtain ⟨bK35, hbE36⟩ : ∃ z, z = ab := ⟨_, rfl⟩
    have hbb37 : bK35 <+: ab := by rw [hbE36]; exact List.prefix_refl _
    refine zai (fun a w => ∃ (f24 : Fz) (L : List Ent) (ab : List Nat) (y26 : (List Int)) (y31 : Int) (y32 : Bool) (y33 : (List za2)) (v27 : Value) (rw28 : List (List Value)), Fz.le f f24 ∧ bK35 <+: ab ∧ AR nsh f24 ab y33 [] L0 L ∧ zfd y26 y31 y32 y33 = some res ∧ RW (tP ab) f24 rw28 y26 ∧ St 77 w0 f24 (.blk pb0 (.cells #[v27, .int .i64 (y31), .bool (y32)] 54 (0, 0)) :: .row v27 48 1 rw28 :: L) [] a w) ?_ ?_
    ·clear hs hm
     clear hbase34
     clear hA
     rintro a w ⟨f24, L, ab, y26, y31, y32, y33, v27, rw28, hl25, hbx38, hA, hm, hW29, hs⟩
     have hbb37 := hbx38; rw [hbE36] at hbx38
     replace pv0_0h := pv0_0h.grow hbx38
     replace hbs := hbs.trans hbx38
     replace pv0_0h := pv0_0h.le hl25
     replace hW7 := hW7.le hl25
     replace hW14 := hW14.le hl25
     replace hle := hle.trans hl25
     unfold zfd at hm
     refine hK9 <| zau ?_
     obtain rfl := Option.some.inj hm
     refine RtV0 hs rfl  ?_
     exact ⟨_, f24, ab, [.blk pb0 (.cells #[v27, .int .i64 (y31), .bool (y32)] 54 (0, 0)), .row v27 48 1 rw28], L, rfl, hle, hbs, hA, hs.cw, v27, rw28, rfl, rfl, hW29⟩
    refine zaf hs rfl (fun hg39 => ?_) (fun hg39 => ?_)
    ·replace hm := oc_t hg39 hm
     refine Wq fun hK11 => sM (v := .pointer (some ⟨pb0, 0, none⟩)) hs rfl fun hs => ?_
     obtain ⟨x41, hx42, hm⟩ := ob hm
     replace hs := hs.front 1
     replace hs := hs.front 1
     refine zjq (Lr := [.blk pb0 (.cells #[pv0_0, .int .i64 (p0.count), .bool (p0.deep)] 54 (0, 0)), .row pv0_0 48 1 pv0_0r]) [] hA hs rfl has22 rfl (ziq n (f := f) (p0 := p0) (pb0 := pb0) (pv0_0 := pv0_0) (pv0_0r := pv0_0r) (p1 := (bs [112])) (p2 := ([] : List za9)) (a2 := (.slice none 0 0)) (A := A) pv0_0h RS.nil hx42) (.free rfl) (by decide) ?_; clear hs; (try clear a w)
     clear hA
     rintro _ f43 ab _ L a w hf44 hbg48 hA ⟨v45, rw46, rfl, rfl, hW47⟩ hs
     replace pv0_0h := pv0_0h.le hf44
     replace hW7 := hW7.le hf44
     replace hW14 := hW14.le hf44
     replace hle := hle.trans hf44
     replace hbase34 := hbase34.trans hf44
     replace pv0_0h := pv0_0h.grow hbg48
     replace hbs := hbs.trans hbg48
     replace hbb37 := hbb37.trans hbg48
     refine za0 <| hK11 <| za7 <| sM (v := .pointer (some ⟨pb0, 0, none⟩)) hs rfl fun hs => sM (v := .pointer (some ⟨pb0, 0, none⟩)) hs rfl fun hs => s1 hs (zab rfl) fun hs => s1 (v := .pointer (some ⟨pb0, 0, none⟩)) hs (za1 rfl (FO.of (off := 0) Try.underlying54 rfl rfl ti49 (by decide))) fun hs => s1 (v := v45) hs (y_ld rfl Try.underlying49 rfl (Cell.blk (.head _) rfl)) fun hs => s1 hs (zb7 (Rd.st hs (.tail _ (.head _))) hW47 rfl Try.underlying49) fun hs => s1 hs (zmt rfl rfl rfl) fun hs => ?_
     obtain ⟨x50, hx51, hm⟩ := ob hm
     replace hs := hs.front 1
     replace hs := hs.front 1
     refine zbx (Lr := [.blk pb0 (.cells #[v45, .int .i64 (x41.1.count), .bool (x41.1.deep)] 54 (0, 0)), .row v45 48 1 rw46]) (Lf := L) hs rfl has53 rfl rfl (zh0 n (f := f43) (p0 := x41.1) (pb0 := pb0) (pv0_0 := v45) (pv0_0r := rw46) (p1 := (w64 ((x41.1.open_.length : Int) - 1))) hW47 hx51) (.free rfl) (by decide) ?_; clear hs; (try clear a w)
     rintro _ f52 _ a w hf53 ⟨v54, rw55, rfl, rfl, hW56⟩ hs
     replace pv0_0h := pv0_0h.le hf53
     replace hW7 := hW7.le hf53
     replace hW14 := hW14.le hf53
     replace hA := hA.le hf53
     replace hW47 := hW47.le hf53
     replace hle := hle.trans hf53
     replace hbase34 := hbase34.trans hf53
     refine za0 ?_
     exact ⟨_, L, ab, x50.open_, x50.count, x50.deep, x41.2, v54, rw55, hbase34, hbb37, hA, hm, hW56, hs.sub trivial⟩
    replace hm := oc_f hg39 hm
    refine zah ?_
    exact ⟨_, L, ab, p0.open_, p0.count, p0.deep, A, pv0_0, pv0_0r, (Fz.le.refl _), hbb37, hA, hm, pv0_0h, hs.sub trivial⟩
   replace hm := oc_f hg23 hm
   refine zah <| hK7 <| Wq fun hK12 => sM (v := .pointer (some ⟨pb0, 0, none⟩)) hs rfl fun hs => s1 hs (zab rfl) fun hs => s1 (v := .pointer (some ⟨pb0, 0, none⟩)) hs (za1 rfl (FO.of (off := 0) Try.underlying54 rfl rfl ti49 (by decide))) fun hs => s1 (v := pv0_0) hs (y_ld rfl Try.underlying49 rfl (Cell.blk (.head _) rfl)) fun hs => sM (v := .int .i64 (x21)) hs rfl fun hs => s1 hs (zeq rfl rfl rfl) fun hs => ?_
   obtain ⟨x58, hx59, hm⟩ := ob hm
   obtain ⟨⟨hlx58, hhx58, h1x58, h2x58⟩, hex58⟩ := zj7 hx59
   have h3x58 : (p0.open_.length : Int).toNat ≤ pv0_0r.length := by rw [RW.len pv0_0h]; exact h2x58
   refine s1 hs (zln (lo := (w64 (x21 + 1)).toNat) (hi := (p0.open_.length : Int).toNat) rfl Try.underlying49 ti48 (.inr ⟨_, rfl, by rw [← hlx58]; rfl⟩) (.inl ⟨rfl, by rw [RW.len pv0_0h]; simp⟩) h1x58 h3x58 (Rd.st hs (.tail _ (.head _)))) fun hs => ?_
   obtain ⟨x64, hx65, hm⟩ := ob hm
   replace hs := hs.front 1
   refine zbx (Lr := [.row pv0_0 48 1 pv0_0r]) (Lf := .blk pb0 (.cells #[pv0_0, .int .i64 (p0.count), .bool (p0.deep)] 54 (0, 0)) :: L) hs rfl has54 rfl rfl (zop n (f := f) pv0_0h h1x58 h3x58 hex58 hx65) (.free rfl) (by decide) ?_; clear hs; (try clear a w)
   rintro v68 f66 _ a w hf67 ⟨_, rw69, rfl, rfl, hW70⟩ hs
   replace hA := hA.le hf67
   replace pv0_0h := pv0_0h.le hf67
   replace hW7 := hW7.le hf67
   replace hW14 := hW14.le hf67
   replace hle := hle.trans hf67
   refine sA (v := v68) hs rfl fun hs => za0 <| hK12 <| Wq fun hK13 => sM (v := .pointer (some ⟨pb0, 0, none⟩)) hs rfl fun hs => sM (v := .int .i64 (x21)) hs rfl fun hs => ?_
   obtain ⟨x73, hx74, hm⟩ := ob hm
   replace hs := hs.front 1
   replace hs := hs.front 2
   refine zbx (Lr := [.blk pb0 (.cells #[pv0_0, .int .i64 (p0.count), .bool (p0.deep)] 54 (0, 0)), .row pv0_0 48 1 pv0_0r]) (Lf := .row v68 48 1 rw69 :: L) hs rfl has53 rfl rfl (zh0 n (f := f66) (p0 := p0) (pb0 := pb0) (pv0_0 := pv0_0) (pv0_0r := pv0_0r) (p1 := x21) pv0_0h hx74) (.free rfl) (by decide) ?_; clear hs; (try clear a w)
   rintro _ f75 _ a w hf76 ⟨v77, rw78, rfl, rfl, hW79⟩ hs
   replace hA := hA.le hf76
   replace pv0_0h := pv0_0h.le hf76
   replace hW7 := hW7.le hf76
   replace hW14 := hW14.le hf76
   replace hW70 := hW70.le hf76
   replace hle := hle.trans hf76
   refine za0 <| hK13 <| Ws fun hK14 => Wq fun hK15 => sM (v := .string (p1)) hs rfl fun hs => ?_
   obtain ⟨x81, hx82, hm⟩ := ob hm
   refine s1 hs (zbd rfl has55 rfl (zml n (f := f75)  hx82)) fun hs => s1 (v := .bool ((!x81))) hs (zj8 rfl) fun hs => za0 <| hK15 ?_
   refine zaf hs rfl (fun hg83 => ?_) (fun hg83 => ?_)
   ·replace hm := oc_t hg83 hm
    refine zau ?_
    obtain rfl := Option.some.inj hm
    refine RtV0 hs rfl  ?_
    exact ⟨_, f75, ab, [.blk pb0 (.cells #[v77, .int .i64 (x73.count), .bool (x73.deep)] 54 (0, 0)), .row v77 48 1 rw78], L, rfl, hle, hbs, hA, (hs.subL (.cons_cons _ (.cons_cons _ (.cons _ (.refl _))))).cw, v77, rw78, rfl, rfl, hW79⟩
   replace hm := oc_f hg83 hm
   refine zah <| hK14 <| Wq fun hK16 => sM (v := v68) hs rfl fun hs => ?_
   obtain ⟨x84, hx85, hm⟩ := ob hm
   replace hs := hs.front 2
   refine zgx (Lr := [.row v68 48 1 rw69]) [.blk pb0 (.cells #[v77, .int .i64 (x73.count), .bool (x73.deep)] 54 (0, 0)), .row v77 48 1 rw78] hA hs rfl has56 rfl (zgz n (f := f75) (a0 := v68) (a0r := rw69) (g1 := 57) (cap1 := []) (A := A) hW70 has57 (fun f9 hle9 z0 c0 r9 h0 h9 => zkf n (f := f9) (a0 := c0) h0 h9) hx85) (.free rfl) (by decide) ?_; clear hs; (try clear a w)
   rintro v88 f86 _ a w hf87 ⟨_, rw89, rfl, rfl, hW90⟩ hs
   replace hA := hA.le hf87
   replace pv0_0h := pv0_0h.le hf87
   replace hW7 := hW7.le hf87
   replace hW14 := hW14.le hf87
   replace hW70 := hW70.le hf87
   replace hW79 := hW79.le hf87
   replace hle := hle.trans hf87
   refine sA (v := v88) hs rfl fun hs => za0 <| hK16 <| Wq fun hK17 => sM (v := v88) hs rfl fun hs => sM (v := v88) hs rfl fun hs => s1 hs (zb7 (Rd.st hs (.head _)) hW90 rfl Try.underlying49) fun hs => s1 hs (zmt rfl rfl rfl) fun hs => s1 hs (y_max2 rfl rfl) fun hs => ?_
   obtain ⟨x93, hx94, hm⟩ := ob hm
   obtain ⟨⟨hlx93, hhx93, h1x93, h2x93⟩, hex93⟩ := zj7 hx94
   obtain ⟨f99, hf100, hs2, hR101⟩ := hs.frzAt 0 rfl
   clear hs; have hs := hs2; clear hs2
   replace hA := hA.le hf100
   replace pv0_0h := pv0_0h.le hf100
   replace hW70 := hW70.le hf100
   replace hW79 := hW79.le hf100
   replace hW90 := hW90.le hf100
   replace hle := hle.trans hf100
   have hW95 := (hW90.take (x84.length : Int).toNat).drop (bif decide ((w64 ((x84.length : Int) - 8)) < 0) then 0 else (w64 ((x84.length : Int) - 8))).toNat; rw [hex93] at hW95
   refine s1 hs (zln (lo := (bif decide ((w64 ((x84.length : Int) - 8)) < 0) then 0 else (w64 ((x84.length : Int) - 8))).toNat) (hi := (x84.length : Int).toNat) rfl Try.underlying49 ti48 (.inr ⟨_, rfl, by rw [← hlx93]; rfl⟩) (.inl ⟨rfl, by rw [RW.len hW90]; simp⟩) h1x93 (by rw [RW.len hW90]; exact h2x93) hR101) fun hs => ?_
   have hR96 : Rd _ [] (cutv v88 1 _ _) 1 _ := (hR101 : Rd _ [] _ _ _).cut h1x93 (by rw [RW.len hW90]; exact h2x93)
   generalize hgrw97 : List.drop _ (List.take _ rw89) = rw97 at hR96 hW95; clear hgrw97
   generalize hgv98 : cutv v88 1 _ _ = v98 at hs hR96; clear hgv98
   refine s1 hs (zb7 hR96 hW95 rfl Try.underlying49) fun hs => sM (v := .int .i64 (0)) hs rfl fun hs => za0 <| hK17 ?_
   have hbase113 := Fz.le.refl f99
   obtain ⟨bK114, hbE115⟩ : ∃ z, z = ab := ⟨_, rfl⟩
   have hbb116 : bK114 <+: ab := by rw [hbE115]; exact List.prefix_refl _
   refine zai (fun a w => ∃ (f103 : Fz) (L : List Ent) (ab : List Nat) (y105 : (List Int)) (y110 : Int) (y111 : Bool) (y112 : (List za2)) (v106 : Value) (rw107 : List (List Value)), Fz.le f99 f103 ∧ bK114 <+: ab ∧ AR nsh f103 ab y112 [] L0 L ∧ zgu y105 y110 y111 y112 = some res ∧ RW (tP ab) f103 rw107 y105 ∧ St 77 w0 f103 (.blk pb0 (.cells #[v106, .int .i64 (y110), .bool (y111)] 54 (0, 0)) :: .row v106 48 1 rw107 :: L) [] a w) ?_ ?_
   ·clear hs hm
    clear hbase113
    clear hA
    rintro a w ⟨f103, L, ab, y105, y110, y111, y112, v106, rw107, hl104, hbx117, hA, hm, hW108, hs⟩
    have hbb116 := hbx117; rw [hbE115] at hbx117
    replace pv0_0h := pv0_0h.grow hbx117
    replace hW70 := hW70.grow hbx117
    replace hW79 := hW79.grow hbx117
    replace hW90 := hW90.grow hbx117
    replace hW95 := hW95.grow hbx117
    replace hbs := hbs.trans hbx117
    replace pv0_0h := pv0_0h.le hl104
    replace hW70 := hW70.le hl104
    replace hW79 := hW79.le hl104
    replace hW90 := hW90.le hl104
    replace hR101 := hR101.le hl104
    replace hR96 := hR96.le hl104
    replace hW95 := hW95.le hl104
    replace hle := hle.trans hl104
    unfold zgu at hm
    obtain rfl := Option.some.inj hm
    refine RtV0 hs rfl  ?_
    exact ⟨_, f103, ab, [.blk pb0 (.cells #[v106, .int .i64 (y110), .bool (y111)] 54 (0, 0)), .row v106 48 1 rw107], L, rfl, hle, hbs, hA, hs.cw, v106, rw107, rfl, rfl, hW108⟩
   refine zam fun Qe18 hB18 hO18 => ?_
   have hbase := Fz.le.refl f99
   obtain ⟨bK129, hbE130⟩ : ∃ z, z = ab := ⟨_, rfl⟩
   have hbb131 : bK129 <+: ab := by rw [hbE130]; exact List.prefix_refl _
   refine zcw (fun (k : Nat) a w => ∃ (f118 : Fz) (L : List Ent) (ab : List Nat) (y120 : (List Int)) (y125 : Int) (y126 : Bool) (y127 : Int) (y128 : (List za2)) (v121 : Value) (rw122 : List (List Value)), Fz.le f99 f118 ∧ bK129 <+: ab ∧ AR nsh f118 ab y128 [] L0 L ∧ zbq n x93 k y120 y125 y126 y127 y128 = some res ∧ RW (tP ab) f118 rw122 y120 ∧ St 77 w0 f118 (.blk pb0 (.cells #[v121, .int .i64 (y125), .bool (y126)] 54 (0, 0)) :: .row v121 48 1 rw122 :: L) [(0, .pointer (some ⟨pb0, 0, none⟩)), (60, v98), (61, .int .i64 ((x93.length : Int))), (62, .int .i64 (y127))] a w) (fun k => k) n ⟨_, L, ab, x73.open_, x73.count, x73.deep, 0, A, v77, rw78, (Fz.le.refl _), hbb131, hA, hm, hW79, hs.sub ⟨rfl, rfl, rfl, rfl, trivial⟩⟩ ?_
   clear hs hm
   clear hA
   intro k
   rintro a w ⟨f118, L, ab, y120, y125, y126, y127, y128, v121, rw122, hl119, hbx132, hA, hm, hW123, hs⟩
   have hbb131 := hbx132; rw [hbE130] at hbx132
   replace pv0_0h := pv0_0h.grow hbx132
   replace hW70 := hW70.grow hbx132
   replace hW79 := hW79.grow hbx132
   replace hW90 := hW90.grow hbx132
   replace hW95 := hW95.grow hbx132
   replace hbs := hbs.trans hbx132
   replace hbb116 := hbb116.trans hbx132
   replace pv0_0h := pv0_0h.le hl119
   replace hW70 := hW70.le hl119
   replace hW79 := hW79.le hl119
   replace hW90 := hW90.le hl119
   replace hR101 := hR101.le hl119
   replace hR96 := hR96.le hl119
   replace hW95 := hW95.le hl119
   replace hle := hle.trans hl119
   replace hbase113 := hbase113.trans hl119
   intro K19 hK19
   cases k with
   | zero => simp [zbq] at hm
   | succ k133 =>
    rw [zbq] at hm
    have hbase134 := hl119
    refine Wq fun hK20 => s1 hs (zg7 rfl rfl) fun hs => za0 <| hK20 <| Ws fun hK21 => ?_
    refine zaf hs rfl (fun hg135 => ?_) (fun hg135 => ?_)
    ·replace hm := oc_t hg135 hm
     refine zah <| hK21 <| Ws fun hK22 => zam fun Qe23 hB23 hO23 => Ws fun hK24 => za7 ?_
     obtain ⟨x136, hx137, hm⟩ := ob hm
     obtain ⟨r138, hr139, hq140, hi141, hb142⟩ := hW95.geti hx137
     obtain ⟨v143, rfl, hp144⟩ := hq140
     refine s1 hs (za8 hR96 rfl rfl hi141 hb142 Try.underlying49 ti48) fun hs => s1 (v := v143) hs (zaw (i := y127.toNat) (j := 0) hR96.up rfl hr139 rfl Try.underlying48 rfl) fun hs => sA (v := v143) hs rfl fun hs => za0 <| hK24 ?_
     have hsD := hs.subL (L' := L) (.cons _ (.cons _ (.refl _)))
     have hbd145 := Fz.le.refl f118
     refine zjc hs (L) [9] (.look 0 (.look 1 (.look 2 (.look 3 (.look 4 (.look 5 (.look 6 (.look 7 (.look 8 (.any [9] (fun _ => .done))))))))))) mixed (by kernel_rfl) fun _ he => uy (v := .pointer (some ⟨pb0, 0, none⟩)) 0 he rfl (zaa rfl) fun _ he => uy (v := v143) 1 he rfl (zaa rfl) fun _ he => ?_
     obtain ⟨x146, hx147, hm⟩ := ob hm
     obtain ⟨b162, rfl, _, ⟨v150, v155, v157, rw158, rfl, ⟨rw151, hR152, hW153⟩, hp156, hW159⟩, hpm161⟩ := AR.peek hA hx147 hp144
     have hm148 := hpm161 _ (.head _); have hm149 := hpm161 _ (.tail _ (.head _)); clear hpm161
     refine uy 2 he rfl (zab rfl) fun _ he => uy (v := .pointer (some ⟨b162, 0, none⟩)) 3 he rfl (za1 rfl (FO.of (off := 0) Try.underlying51 rfl rfl ti9 (by decide))) fun _ he => uy (v := .string (x146.name)) 4 he rfl (y_ld rfl Try.underlying9 rfl (Cell.blk (hm148) rfl)) fun _ he => uy (v := .pointer (some ⟨b162, 0, none⟩)) 5 he rfl (zaa rfl) fun _ he => uy 6 he rfl (zab rfl) fun _ he => uy (v := .pointer (some ⟨b162, 2, none⟩)) 7 he rfl (za1 rfl (FO.of (off := 2) Try.underlying51 rfl rfl ti34 (by decide))) fun _ he => uy (v := v150) 8 he rfl (y_ld rfl Try.underlying34 rfl (Cell.blk (hm148) rfl)) fun _ he => ?_
     refine ze2 he rfl ?_; clear he; (try clear a); intro a w hs
     obtain ⟨x163, hx164, hm⟩ := ob hm
     replace hs := hs.front 1
     replace hs := hs.front 1
     refine zjq (Lr := [.blk pb0 (.cells #[v121, .int .i64 (y125), .bool (y126)] 54 (0, 0)), .row v121 48 1 rw122]) [] hA hs rfl has51 rfl (zg8 n (f := f118) (p0 := ({open_ := y120, count := y125, deep := y126} : za6)) (pb0 := pb0) (pv0_0 := v121) (pv0_0r := rw122) (p1 := x146.name) (p2 := x146.attrs) (a2 := v150) (A := y128) hW123 ⟨rw151, hR152, hW153⟩ hx164) (.free rfl) (by decide) ?_; clear hs; (try clear a w)
     clear hA
     rintro _ f165 ab _ L a w hf166 hbg170 hA ⟨v167, rw168, rfl, rfl, hW169⟩ hs
     have pv171 := pv0_0h.le hf166
     have hW172 := hW70.le hf166
     have hW173 := hW79.le hf166
     have hW174 := hW90.le hf166
     have hR175 := hR101.le hf166
     have hR176 := hR96.le hf166
     have hW177 := hW95.le hf166
     have hW178 := hW123.le hf166
     have hR179 := hR152.le hf166
     have hW180 := hW153.le hf166
     have hW181 := hW159.le hf166
     replace hle := hle.trans hf166
     replace hbase113 := hbase113.trans hf166
     replace hbase134 := hbase134.trans hf166
     replace hbd145 := hbd145.trans hf166
     replace pv171 := pv171.grow hbg170
     replace hW172 := hW172.grow hbg170
     replace hW173 := hW173.grow hbg170
     replace hW174 := hW174.grow hbg170
     replace hW177 := hW177.grow hbg170
     replace hW178 := hW178.grow hbg170
     replace hp144 := hp144.grow hbg170
     replace hp156 := hp156.grow hbg170
     replace hW181 := hW181.grow hbg170
     replace hbs := hbs.trans hbg170
     replace hbb116 := hbb116.trans hbg170
     replace hbb131 := hbb131.trans hbg170
     refine uend hs fun _ he => ?_
     refine znq he ?_; clear he; (try clear a); intro w hs; try clear hsD
     refine hK22 <| za7 <| s1 hs (zeq rfl rfl rfl) fun hs => sM (v := .int .i64 ((w64 (y127 + 1)))) hs rfl fun hs => za0 ?_
     exact hK19 k133 _ _ (Nat.lt_succ_self _) ⟨_, L, ab, x163.1.open_, x163.1.count, x163.1.deep, (w64 (y127 + 1)), x163.2, v167, rw168, hbase134, hbb131, hA, hm, hW169, hs.sub ⟨rfl, rfl, rfl, rfl, trivial⟩⟩
    replace hm := oc_f hg135 hm
    refine zc9 <| hB18 _ _ ?_
    exact ⟨_, L, ab, y120, y125, y126, y128, v121, rw122, hbase113, hbb116, hA, hm, hW123, hs.sub trivial⟩
  refine zaf hs rfl (fun hg183 => ?_) (fun hg183 => ?_)
  ·replace hm := oc_t hg183 hm
   refine za7 <| sA (v := .int .i64 (0)) hs rfl fun hs => za0 ?_
   exact ⟨0, hm, hs.subs ⟨rfl, rfl, rfl, trivial⟩ (.cons _ (.cons _ (.cons_cons _ (.cons_cons _ (.refl _)))))⟩
  replace hm := oc_f hg183 hm
  refine zah ?_
  exact ⟨x11, hm, hs.subs ⟨rfl, rfl, rfl, trivial⟩ (.cons _ (.cons _ (.cons_cons _ (.cons_cons _ (.refl _)))))⟩
 refine za7 <| sM (v := .string (p1)) hs rfl fun hs => ?_
 obtain ⟨x184, hx185, hm⟩ := ob hm
 refine s1 hs (zbd rfl has8 rfl (zh1 n (f := f)  hx185)) fun hs => sM (v := .bool (x184)) hs rfl fun hs => ?_
 refine St.split hs (t := 11) rfl (fun hg186 hs => ?_) (fun hg186 hs => ?_)
 ·replace hm := oc_t hg186 hm
  refine s3 hs fun hs => s3 hs fun hs => sP (v := .bool (true)) hs rfl rfl fun hs => za0 ?_
  exact ⟨true, hm, hs.sub ⟨rfl, rfl, rfl, trivial⟩⟩
 replace hm := oc_f hg186 hm
 refine s2 (v := .string (p1)) hs (zaa rfl) fun hs => s2 hs (zd9 rfl rfl) fun hs => sP (v := .bool (decide (p1 = (bs [114, 111, 111, 116])))) hs rfl rfl fun hs => za0 ?_
 exact ⟨decide (p1 = (bs [114, 111, 111, 116])), hm, hs.sub ⟨rfl, rfl, rfl, trivial⟩⟩
end Go.Proofs.Ytklcdfnhdljkjaa
