/-
  Walks and laws of this seat.
-/
import Derived.Test.YtpfdbeafdjnbnaaGreatDoorBash
import Derived.Test.YtpfdbeafdjnbnaaGreatDoorX33
import Derived.Test.YtpfdbeafdjnbnaaGreatDoorX6
import Derived.Test.YtpfdbeafdjnbnaaGreatDoorRows
namespace Go.Proofs.YtpfdbeafdjnbnaaGreatDoor
set_option linter.unusedVariables false
set_option linter.unusedSimpArgs false
set_option linter.unusedSectionVars false
set_option maxHeartbeats 4000000
set_option maxRecDepth 100000
open Go.RowKit Go.Sl
def zd5 (x56 : (za7 × (List za4))) (y67 : (List Int)) : Option (za7 × (List za4)) :=
  some (({open_ := y67, count := x56.1.count, deep := x56.1.deep} : za7), x56.2)
def zb3 (n : Nat) (A : (List za4)) (p1 : ByteArray) (p2 : (List zab)) (x8 : (Int × za7)) (y35 : Bool) : Option (za7 × (List za4)) :=
  (bif y35 then none else
  (zi6 n p2).bind fun x37 =>
  (zem n x8.2 (A.length : Int) (-1 : Int) (A ++ [({name := p1, text := (bs []), attrs := x37, above := (-1 : Int), kids := ([] : List Int)} : za4)])).bind fun x56 =>
  (zgc n p1).bind fun x65 =>
  (bif (!x65) then (appM 8 x56.1.open_ [(A.length : Int)]).bind fun x78 =>
  zd5 x56 x78 else
  zd5 x56 x56.1.open_))
def ze2 (n : Nat) (p0 : za7) (p1 : ByteArray) (p2 : (List zab)) (A : (List za4)) : Option (za7 × (List za4)) :=
  (zbc n p0 A).bind fun x8 =>
  (focM A [] x8.1).bind fun x18 =>
  (bif (decide (x18.name = (bs [116,97,98,108,101]))) then (zid n p1 [(bs [116,114]),(bs [116,100])]).bind fun x90 =>
  (bif (!x90) then zb3 n A p1 p2 x8 true else
  (bif (decide (x18.name = (bs [116,114]))) then zb3 n A p1 p2 x8 (decide (p1 ≠ (bs [116,100]))) else
  zb3 n A p1 p2 x8 false)) else
  (bif (decide (x18.name = (bs [116,114]))) then zb3 n A p1 p2 x8 (decide (p1 ≠ (bs [116,100]))) else
  zb3 n A p1 p2 x8 false))
theorem zjw (n : Nat) {f : Fz} {ab : List Nat} {A : List za4} {p0 : za7} {pb0 : Nat} {pv0_0 : Value} {pv0_0r : List (List Value)} {p1 : ByteArray} {p2 : (List zab)} {a2 : Value} {res : (za7 × (List za4))} (pv0_0h : RW (tP ab) f pv0_0r p0.open_) (h2 : RS zbv f a2 p2) (hm : ze2 n p0 p1 p2 A = some res) : DoesA nsh Tryz.prog 75 [pq pb0 0, .string p1, a2] f [.blk pb0 (.cells #[pv0_0, .int .i64 p0.count, .bool p0.deep] 102 (0,0)), .row pv0_0 96 1 pv0_0r] ab A res.2 (fun r f' ab' L' => ∃ (dp0_0 : Value) (dp0_0r : List (List Value)), L' = [.blk pb0 (.cells #[dp0_0, .int .i64 res.1.count, .bool res.1.deep] 102 (0,0)), .row dp0_0 96 1 dp0_0r] ∧ r = .tuple #[] ∧ RW (tP ab') f' dp0_0r res.1.open_) := by
 unfold ze2 at hm
 intro w0 L0 L w hA hC
 have hbs := List.prefix_refl ab
 replace hC : Cw w0 f (.blk pb0 (.cells #[pv0_0, .int .i64 p0.count, .bool p0.deep] 102 (0,0)) :: .row pv0_0 96 1 pv0_0r :: L) w := hC
 obtain ⟨rw4, hR5, hW6⟩ := h2
 refine enter Tryz.func75 rfl Tryz.ntmps75 (by simp) hC fun a hs => ?_
 have hle := Fz.le.refl f
 refine Wq fun hK1 => sA hs rfl fun hs => za0 <| hK1 <| Wq fun hK2 => sM hs rfl fun hs => ?_
 obtain ⟨x8, hx9, hm⟩ := ob hm
 replace hs := hs.front 1
 replace hs := hs.front 1
 refine zgp (Lr := [.blk pb0 (.cells #[pv0_0, .int .i64 (p0.count), .bool (p0.deep)] 102 (0,0)), .row pv0_0 96 1 pv0_0r]) [] hA hs rfl has67 rfl (zd6 n pv0_0h hx9) (.free rfl) (by decide) ?_; clear hs; (try clear a w)
 rintro v12 f10 _ a w hf11 ⟨_, v14, rw15, rfl, rfl, hp13, hW16⟩ hs
 replace hA := hA.le hf11
 replace hR5 := hR5.le hf11
 replace hW6 := hW6.le hf11
 replace hle := hle.trans hf11
 obtain ⟨x18, hx19, hm⟩ := ob hm
 obtain ⟨b34, rfl, _, ⟨v22, v27, v29, rw30, rfl, ⟨rw23, hR24, hW25⟩, hp28, hW31⟩, hpm33⟩ := AR.peek hA hx19 hp13
 have hm20 := hpm33 _ (.head _); have hm21 := hpm33 _ (.tail _ (.head _)); clear hpm33
 refine s1 hs (za5 rfl) fun hs => s1 (v := pq b34 0) hs (za1 rfl (FO.of (off := 0) U99 rfl rfl ti9 (by decide))) fun hs => s1 (v := .string (x18.name)) hs (y_ld rfl U9 rfl (Cell.blk (.tail _ (.tail _ (hm20))) rfl)) fun hs => sA hs rfl fun hs => za0 <| hK2 <| Ws fun hK3 => Ws fun hK4 => ?_
 refine zaq (fun a w => ∃ (y35 : Bool), zb3 n A p1 p2 x8 y35 = some res ∧ St 54 w0 f10 (.blk pb0 (.cells #[v14, .int .i64 (x8.2.count), .bool (x8.2.deep)] 102 (0,0)) :: .row v14 96 1 rw15 :: L) [(0, pq pb0 0),(1, .string (p1)),(2, a2),(6, .pointer none),(29, .bool (y35))] a w) ?_ ?_
 ·clear hs hm
  rintro a w ⟨y35, hm, hs⟩
  unfold zb3 at hm
  refine hK4 ?_
  refine zah hs rfl (fun hg36 => ?_) (fun hg36 => ?_)
  ·replace hm := oc_t hg36 hm
   cases hm
  replace hm := oc_f hg36 hm
  refine zaj <| hK3 <| Wq fun hK5 => sM hs rfl fun hs => sM hs rfl fun hs => ?_
  obtain ⟨x37, hx38, hm⟩ := ob hm
  refine zhp hs rfl has33 rfl (ziq n ⟨rw4, hR5, hW6⟩ hx38) ?_; clear hs; (try clear a w)
  rintro v41 f39 _ a w hf40 ⟨_, rfl, rfl, ⟨rw42, hR43, hW44⟩⟩ hs
  replace hA := hA.le hf40
  replace hW16 := hW16.le hf40
  replace hle := hle.trans hf40
  refine s1 hs (ze4 (places := [(0,1),(1,1),(2,1),(3,1),(4,1)]) (cs := [.string (p1), .string ((bs [])), v41, .pointer none,(.slice none 0 0)]) rfl U99 ti99 (by kernel_rfl) (by decide) rfl ⟨rfl, hR43.one, trivial⟩) fun hs => sbox hs rfl fun b48 _ _ hs => ?_
  replace hs := hs.nilRow 96 1
  have hW50 : RW (tP ab) f39 [] ([] : List Int) := trivial
  generalize hgrw51 : ([] : List (List Value)) = rw51 at hs hW50; clear hgrw51
  replace hs := hs.front 0
  replace hs := hs.front 1
  have hq9 := AR.adopt (b := b48) (x := ({name := p1, text := (bs []), attrs := x37, above := (-1 : Int), kids := ([] : List Int)} : za4)) [.blk pb0 (.cells #[v14, .int .i64 (x8.2.count), .bool (x8.2.deep)] 102 (0,0)), .row v14 96 1 rw15] hA hs (⟨v41, .pointer none,(.slice none 0 0), rw51, rfl, ⟨rw42, hR43, hW44⟩, RP.nil, hW50.grow (List.prefix_append _ _)⟩); clear hs hA
  obtain ⟨ab, L, hbg54, hA, hp55, hs⟩ := hq9
  replace hW16 := hW16.grow hbg54
  replace hbs := hbs.trans hbg54
  refine sA hs rfl fun hs => za0 <| hK5 <| Wq fun hK6 => sM hs rfl fun hs => sM hs rfl fun hs => sM hs rfl fun hs => ?_
  obtain ⟨x56, hx57, hm⟩ := ob hm
  replace hs := hs.front 1
  replace hs := hs.front 1
  refine zl4 (Lr := [.blk pb0 (.cells #[v14, .int .i64 (x8.2.count), .bool (x8.2.deep)] 102 (0,0)), .row v14 96 1 rw15]) [] hA hs rfl has71 rfl (zip n hW16 hp55 RP.nil hx57) (.free rfl) (by decide) ?_; clear hs; (try clear a w)
  clear hA
  rintro _ f58 ab _ L a w hf59 hbg63 hA ⟨v60, rw61, rfl, rfl, hW62⟩ hs
  replace hle := hle.trans hf59
  replace hp55 := hp55.grow hbg63
  replace hbs := hbs.trans hbg63
  refine za0 <| hK6 <| Wq fun hK7 => sM hs rfl fun hs => ?_
  obtain ⟨x65, hx66, hm⟩ := ob hm
  refine s1 hs (zbi rfl has23 rfl (zj5 n  hx66)) fun hs => s1 (v := .bool ((!x65))) hs (zfc rfl) fun hs => za0 <| hK7 ?_
  refine zaq (fun a w => ∃ (y67 : (List Int)) (v68 : Value) (rw69 : List (List Value)), zd5 x56 y67 = some res ∧ RW (tP ab) f58 rw69 y67 ∧ St 54 w0 f58 (.blk pb0 (.cells #[v68, .int .i64 (x56.1.count), .bool (x56.1.deep)] 102 (0,0)) :: .row v68 96 1 rw69 :: L) [] a w) ?_ ?_
  ·clear hs hm
   rintro a w ⟨y67, v68, rw69, hm, hW70, hs⟩
   unfold zd5 at hm
   obtain rfl := Option.some.inj hm
   refine RtV0 hs rfl  ?_
   exact ⟨_, f58, ab,[.blk pb0 (.cells #[v68, .int .i64 (x56.1.count), .bool (x56.1.deep)] 102 (0,0)), .row v68 96 1 rw69], L, rfl, hle, hbs, hA, hs.cw, v68, rw69, rfl, rfl, hW70⟩
  refine zah hs rfl (fun hg72 => ?_) (fun hg72 => ?_)
  ·replace hm := oc_t hg72 hm
   refine za2 <| sM hs rfl fun hs => sM hs rfl fun hs => s1 hs (za5 rfl) fun hs => s1 (v := pq pb0 0) hs (za1 rfl (FO.of (off := 0) U102 rfl rfl ti97 (by decide))) fun hs => s1 (v := v60) hs (y_ld rfl U97 rfl (Cell.blk (.head _) rfl)) fun hs => sM hs rfl fun hs => zg1 hs rfl U97 ti96 rfl rfl fun v73 _ _ hs => ?_
   have hW74 : RW (tP ab) f58 [[pq b48 0]] [(A.length : Int)] := RW.single (⟨_, rfl, hp55⟩)
   generalize hgrw75 : ([[pq b48 0]] : List (List Value)) = rw75 at hs hW74; clear hgrw75
   obtain ⟨x78, hx79, hm⟩ := ob hm
   obtain ⟨hbx78, hex78⟩ := zcb hx79
   have hW82 := hW62.append hW74; rw [hex78] at hW82
   refine zc9 (i := 2) hs rfl rfl rfl (Rd.st hs (.head _)) U97 ti96 (by decide) (by rw [RW.len hW62, RW.len hW74]; exact hbx78) (.free rfl) (by decide) fun v80 _ _ hs => ?_
   generalize hgx78 : rw61 ++ rw75 = rw81 at hs hW82; clear hgx78
   replace hs := hs.erase 0
   refine s1 hs (za5 rfl) fun hs => s1 (v := pq pb0 0) hs (za1 rfl (FO.of (off := 0) U102 rfl rfl ti97 (by decide))) fun hs => sstore 0 hs rfl rfl rfl ti97 ((hs.one (i := 1) rfl)) fun _ _ hs => za0 ?_
   exact ⟨x78, v80, rw81, hm, hW82, hs.sub trivial⟩
  replace hm := oc_f hg72 hm
  refine zaj ?_
  exact ⟨x56.1.open_, v60, rw61, hm, hW62, hs.sub trivial⟩
 refine za2 <| sM hs rfl fun hs => s1 hs (zcs rfl rfl) fun hs => sM hs rfl fun hs => ?_
 refine St.split hs (t := 16) rfl (fun hg84 hs => ?_) (fun hg84 hs => ?_)
 ·replace hm := oc_t hg84 hm
  refine s2 (v := .string (p1)) hs (za3 rfl) fun hs => zqp hs rfl rfl ?_
  refine zjv (parts := [(0, .const (.string (bs [116,114]))),(1, .const (.string (bs [116,100])))]) (us := [.string ((bs [116,114])), .string ((bs [116,100]))]) (rows := [[.string ((bs [116,114]))],[.string ((bs [116,100]))]]) hs rfl U47 ti9 (by decide) rfl rfl (by intro r hr; simp only [List.mem_cons, List.mem_nil_iff, or_false] at hr; rcases hr with rfl | rfl; exact AllC.row ⟨rfl, trivial⟩ rfl; exact AllC.row ⟨rfl, trivial⟩ rfl) fun v85 _ _ hs => ?_
  have hW86 : RW tStr f10 [[.string ((bs [116,114]))],[.string ((bs [116,100]))]] [(bs [116,114]),(bs [116,100])] := ⟨rfl, ⟨rfl, trivial⟩⟩
  generalize hgrw87 : ([[.string ((bs [116,114]))],[.string ((bs [116,100]))]] : List (List Value)) = rw87 at hs hW86; clear hgrw87
  obtain ⟨x90, hx91, hm⟩ := ob hm
  refine syg hs (zdr (cap := []) rfl has40 rfl (fun w9 hw9 => callsP (Lr := [.row v85 9 1 rw87]) (Lf := .blk pb0 (.cells #[v14, .int .i64 (x8.2.count), .bool (x8.2.deep)] 102 (0,0)) :: .row v14 96 1 rw15 :: L) (zal _ 0 rfl) hw9 (fun Lz w9 hw9 => lent0 hw9 (fun f9_0 w9 hle9_0 hRl0 hw9 => (zhu n ⟨rw87, hRl0, hW86.le hle9_0⟩ hx91) w0 _ w9 hw9)))) fun _ _ hs => s2 (v := .bool ((!x90))) hs (zfc rfl) fun hs => sP hs rfl rfl fun hs => sM hs rfl fun hs => ?_
  refine St.split hs (t := 22) rfl (fun hg92 hs => ?_) (fun hg92 hs => ?_)
  ·replace hm := oc_t hg92 hm
   refine s3 hs fun hs => s3 hs fun hs => s3 hs fun hs => s4 hs fun hs => s4 hs fun hs => s3 hs fun hs => sP hs rfl rfl fun hs => za0 ?_
   exact ⟨true, hm, hs.subs ⟨rfl, rfl, rfl, rfl, rfl, trivial⟩ (.cons _ (.cons_cons _ (.cons_cons _ (.refl _))))⟩
  replace hm := oc_f hg92 hm
  refine s2 (v := .string (x18.name)) hs (za3 rfl) fun hs => s2 hs (zcs rfl rfl) fun hs => s2 (v := .bool (decide (x18.name = (bs [116,114])))) hs (za3 rfl) fun hs => ?_
  refine St.split hs (t := 25) rfl (fun hg93 hs => ?_) (fun hg93 hs => ?_)
  ·replace hm := oc_t hg93 hm
   refine s2 (v := .string (p1)) hs (za3 rfl) fun hs => s2 hs (zhr rfl rfl) fun hs => s2 (v := .bool (decide (p1 ≠ (bs [116,100])))) hs (zaz rfl rfl) fun hs => sP hs rfl rfl fun hs => za0 ?_
   exact ⟨decide (p1 ≠ (bs [116,100])), hm, hs.subs ⟨rfl, rfl, rfl, rfl, rfl, trivial⟩ (.cons _ (.cons_cons _ (.cons_cons _ (.refl _))))⟩
  replace hm := oc_f hg93 hm
  refine s3 hs fun hs => s3 hs fun hs => s2 (v := .bool (false)) hs (zaz rfl rfl) fun hs => sP hs rfl rfl fun hs => za0 ?_
  exact ⟨false, hm, hs.subs ⟨rfl, rfl, rfl, rfl, rfl, trivial⟩ (.cons _ (.cons_cons _ (.cons_cons _ (.refl _))))⟩
 replace hm := oc_f hg84 hm
 refine s3 hs fun hs => s3 hs fun hs => s3 hs fun hs => s3 hs fun hs => sP hs rfl rfl fun hs => sM hs rfl fun hs => s2 (v := .string (x18.name)) hs (za3 rfl) fun hs => s2 hs (zcs rfl rfl) fun hs => s2 (v := .bool (decide (x18.name = (bs [116,114])))) hs (za3 rfl) fun hs => ?_
 refine St.split hs (t := 25) rfl (fun hg94 hs => ?_) (fun hg94 hs => ?_)
 ·replace hm := oc_t hg94 hm
  refine s2 (v := .string (p1)) hs (za3 rfl) fun hs => s2 hs (zhr rfl rfl) fun hs => s2 (v := .bool (decide (p1 ≠ (bs [116,100])))) hs (zaz rfl rfl) fun hs => sP hs rfl rfl fun hs => za0 ?_
  exact ⟨decide (p1 ≠ (bs [116,100])), hm, hs.sub ⟨rfl, rfl, rfl, rfl, rfl, trivial⟩⟩
 replace hm := oc_f hg94 hm
 refine s3 hs fun hs => s3 hs fun hs => s2 (v := .bool (false)) hs (zaz rfl rfl) fun hs => sP hs rfl rfl fun hs => za0 ?_
 exact ⟨false, hm, hs.sub ⟨rfl, rfl, rfl, rfl, rfl, trivial⟩⟩
def zcm (n : Nat) (A : (List za4)) (p1 : ByteArray) (p2 : (List zab)) (y22 : (List Int)) (y27 : Int) (y28 : Bool) : Option (za7 × (List za4)) :=
  (ze2 n ({open_ := y22, count := y27, deep := y28} : za7) p1 p2 A).bind fun x30 =>
  some (({open_ := x30.1.open_, count := x30.1.count, deep := x30.1.deep} : za7), x30.2)
def zdf (n : Nat) (A : (List za4)) (p1 : ByteArray) (p2 : (List zab)) (y57 : (List Int)) (y62 : Int) (y63 : Bool) : Option (za7 × (List za4)) :=
  zcm n A p1 p2 y57 y62 y63
def zde (n : Nat) (A : (List za4)) (p1 : ByteArray) (p2 : (List zab)) (y83 : (List Int)) (y88 : Int) (y89 : Bool) : Option (za7 × (List za4)) :=
  zdf n A p1 p2 y83 y88 y89
def zcn (n : Nat) (A : (List za4)) (p1 : ByteArray) (p2 : (List zab)) (y12 : (List Int)) (y17 : Int) (y18 : Bool) : Option (za7 × (List za4)) :=
  (bif (decide (p1 = (bs [108,105]))) then (zcc n ({open_ := y12, count := y17, deep := y18} : za7) [(bs [117,108]),(bs [116,100])] A).bind fun x45 =>
  (zbj n ({open_ := y12, count := y17, deep := y18} : za7) x45 (bs [108,105]) A).bind fun x47 =>
  zcm n A p1 p2 x47.open_ x47.count x47.deep else
  (bif (decide (p1 = (bs [116,114]))) then (zcc n ({open_ := y12, count := y17, deep := y18} : za7) [(bs [116,97,98,108,101])] A).bind fun x71 =>
  (zbj n ({open_ := y12, count := y17, deep := y18} : za7) x71 (bs [116,114]) A).bind fun x73 =>
  zdf n A p1 p2 x73.open_ x73.count x73.deep else
  (bif (decide (p1 = (bs [116,100]))) then (zcc n ({open_ := y12, count := y17, deep := y18} : za7) [(bs [116,114])] A).bind fun x97 =>
  (zbj n ({open_ := y12, count := y17, deep := y18} : za7) x97 (bs [116,100]) A).bind fun x99 =>
  (zbc n x99 A).bind fun x107 =>
  (focM A [] x107.1).bind fun x117 =>
  (bif (decide (x117.name = (bs [116,97,98,108,101]))) then none else
  zde n A p1 p2 x107.2.open_ x107.2.count x107.2.deep) else
  zde n A p1 p2 y12 y17 y18)))
def zdg (n : Nat) (p0 : za7) (p1 : ByteArray) (p2 : (List zab)) (A : (List za4)) : Option (za7 × (List za4)) :=
  (zjk n p1).bind fun x8 =>
  (bif x8 then (zcc n p0 [(bs [116,100])] A).bind fun x141 =>
  (zbj n p0 x141 (bs [112]) A).bind fun x143 =>
  zcn n A p1 p2 x143.open_ x143.count x143.deep else
  zcn n A p1 p2 p0.open_ p0.count p0.deep)
theorem zkc (n : Nat) {f : Fz} {ab : List Nat} {A : List za4} {p0 : za7} {pb0 : Nat} {pv0_0 : Value} {pv0_0r : List (List Value)} {p1 : ByteArray} {p2 : (List zab)} {a2 : Value} {res : (za7 × (List za4))} (pv0_0h : RW (tP ab) f pv0_0r p0.open_) (h2 : RS zbv f a2 p2) (hm : zdg n p0 p1 p2 A = some res) : DoesA nsh Tryz.prog 44 [pq pb0 0, .string p1, a2] f [.blk pb0 (.cells #[pv0_0, .int .i64 p0.count, .bool p0.deep] 102 (0,0)), .row pv0_0 96 1 pv0_0r] ab A res.2 (fun r f' ab' L' => ∃ (dp0_0 : Value) (dp0_0r : List (List Value)), L' = [.blk pb0 (.cells #[dp0_0, .int .i64 res.1.count, .bool res.1.deep] 102 (0,0)), .row dp0_0 96 1 dp0_0r] ∧ r = .tuple #[] ∧ RW (tP ab') f' dp0_0r res.1.open_) := by
 unfold zdg at hm
 intro w0 L0 L w hA hC
 have hbs := List.prefix_refl ab
 replace hC : Cw w0 f (.blk pb0 (.cells #[pv0_0, .int .i64 p0.count, .bool p0.deep] 102 (0,0)) :: .row pv0_0 96 1 pv0_0r :: L) w := hC
 obtain ⟨rw4, hR5, hW6⟩ := h2
 refine enter Tryz.func44 rfl Tryz.ntmps44 (by simp) hC fun a hs => ?_
 have hle := Fz.le.refl f
 refine Ws fun hK1 => Wq fun hK2 => sM hs rfl fun hs => ?_
 obtain ⟨x8, hx9, hm⟩ := ob hm
 refine s1 hs (zbi rfl has72 rfl (zpm n  hx9)) fun hs => za0 <| hK2 ?_
 have hbase19 := Fz.le.refl f
 refine zaq (fun a w => ∃ (f10 : Fz) (y12 : (List Int)) (y17 : Int) (y18 : Bool) (v13 : Value) (rw14 : List (List Value)), Fz.le f f10 ∧ zcn n A p1 p2 y12 y17 y18 = some res ∧ RW (tP ab) f10 rw14 y12 ∧ St 47 w0 f10 (.blk pb0 (.cells #[v13, .int .i64 (y17), .bool (y18)] 102 (0,0)) :: .row v13 96 1 rw14 :: L) [(0, pq pb0 0),(1, .string (p1)),(2, a2)] a w) ?_ ?_
 ·clear hs hm
  clear hbase19
  rintro a w ⟨f10, y12, y17, y18, v13, rw14, hl11, hm, hW15, hs⟩
  replace hA := hA.le hl11
  replace hR5 := hR5.le hl11
  replace hW6 := hW6.le hl11
  replace hle := hle.trans hl11
  unfold zcn at hm
  refine hK1 <| Ws fun hK3 => Wq fun hK4 => sM hs rfl fun hs => za0 <| hK4 <| zam fun Qe5 hB5 hO5 => Ws fun hK6 => za2 ?_
  refine s1 hs (zcs rfl rfl) fun hs => sA hs rfl fun hs => za0 <| hK6 ?_
  have hbase29 := Fz.le.refl f10
  refine zaq (fun a w => ∃ (f20 : Fz) (y22 : (List Int)) (y27 : Int) (y28 : Bool) (v23 : Value) (rw24 : List (List Value)), Fz.le f10 f20 ∧ zcm n A p1 p2 y22 y27 y28 = some res ∧ RW (tP ab) f20 rw24 y22 ∧ St 47 w0 f20 (.blk pb0 (.cells #[v23, .int .i64 (y27), .bool (y28)] 102 (0,0)) :: .row v23 96 1 rw24 :: L) [(0, pq pb0 0),(1, .string (p1)),(2, a2)] a w) ?_ ?_
  ·clear hs hm
   clear hbase29
   rintro a w ⟨f20, y22, y27, y28, v23, rw24, hl21, hm, hW25, hs⟩
   replace hA := hA.le hl21
   replace hR5 := hR5.le hl21
   replace hW6 := hW6.le hl21
   replace hle := hle.trans hl21
   unfold zcm at hm
   refine hK3 <| za2 <| sM hs rfl fun hs => sM hs rfl fun hs => sM hs rfl fun hs => ?_
   obtain ⟨x30, hx31, hm⟩ := ob hm
   replace hs := hs.front 1
   replace hs := hs.front 1
   refine zl4 (Lr := [.blk pb0 (.cells #[v23, .int .i64 (y27), .bool (y28)] 102 (0,0)), .row v23 96 1 rw24]) [] hA hs rfl has75 rfl (zjw n hW25 ⟨rw4, hR5, hW6⟩ hx31) (.free rfl) (by decide) ?_; clear hs; (try clear a w)
   clear hA
   rintro _ f32 ab _ L a w hf33 hbg37 hA ⟨v34, rw35, rfl, rfl, hW36⟩ hs
   replace hle := hle.trans hf33
   replace hbs := hbs.trans hbg37
   refine za0 ?_
   obtain rfl := Option.some.inj hm
   refine RtV0 hs rfl  ?_
   exact ⟨_, f32, ab,[.blk pb0 (.cells #[v34, .int .i64 (x30.1.count), .bool (x30.1.deep)] 102 (0,0)), .row v34 96 1 rw35], L, rfl, hle, hbs, hA, hs.cw, v34, rw35, rfl, rfl, hW36⟩
  refine zah hs rfl (fun hg39 => ?_) (fun hg39 => ?_)
  ·replace hm := oc_t hg39 hm
   refine za2 <| sM hs rfl fun hs => sM hs rfl fun hs => ?_
   refine zjv (parts := [(0, .const (.string (bs [117,108]))),(1, .const (.string (bs [116,100])))]) (us := [.string ((bs [117,108])), .string ((bs [116,100]))]) (rows := [[.string ((bs [117,108]))],[.string ((bs [116,100]))]]) hs rfl U47 ti9 (by decide) rfl rfl (by intro r hr; simp only [List.mem_cons, List.mem_nil_iff, or_false] at hr; rcases hr with rfl | rfl; exact AllC.row ⟨rfl, trivial⟩ rfl; exact AllC.row ⟨rfl, trivial⟩ rfl) fun v40 _ _ hs => ?_
   have hW41 : RW tStr f10 [[.string ((bs [117,108]))],[.string ((bs [116,100]))]] [(bs [117,108]),(bs [116,100])] := ⟨rfl, ⟨rfl, trivial⟩⟩
   generalize hgrw42 : ([[.string ((bs [117,108]))],[.string ((bs [116,100]))]] : List (List Value)) = rw42 at hs hW41; clear hgrw42
   obtain ⟨x45, hx46, hm⟩ := ob hm
   refine sy hs (zdr (cap := []) rfl has74 rfl (fun w9 hw9 => callsF (Lr := [.row v40 9 1 rw42, .blk pb0 (.cells #[v13, .int .i64 (y17), .bool (y18)] 102 (0,0)), .row v13 96 1 rw14]) (Lf := L) (((zal _ 2 rfl).trans (zal _ 2 rfl)).trans (zal _ 2 rfl)) hw9 (fun w9 hw9 => lent0 hw9 (fun f9_0 w9 hle9_0 hRl0 hw9 => GivesR.at (X := []) (zeg n (hW15.le hle9_0) ⟨rw42, hRl0, hW41.le hle9_0⟩ hx46) (hA.le hle9_0) (.refl _) hw9)))) fun _ _ hs => ?_
   obtain ⟨x47, hx48, hm⟩ := ob hm
   replace hs := hs.front 2
   replace hs := hs.front 2
   refine zgp (Lr := [.blk pb0 (.cells #[v13, .int .i64 (y17), .bool (y18)] 102 (0,0)), .row v13 96 1 rw14]) [.row v40 9 1 rw42] hA hs rfl has73 rfl (zd7 n hW15 hx48) (.free rfl) (by decide) ?_; clear hs; (try clear a w)
   rintro _ f49 _ a w hf50 ⟨v51, rw52, rfl, rfl, hW53⟩ hs
   replace hbase29 := hbase29.trans hf50
   refine za0 ?_
   exact ⟨_, x47.open_, x47.count, x47.deep, v51, rw52, hbase29, hm, hW53, hs.subs ⟨rfl, rfl, rfl, trivial⟩ (.cons_cons _ (.cons_cons _ (.cons _ (.refl _))))⟩
  replace hm := oc_f hg39 hm
  refine Wq fun hK7 => s1 hs (zcs rfl rfl) fun hs => sA hs rfl fun hs => za0 <| hK7 ?_
  have hbase64 := Fz.le.refl f10
  refine zaq (fun a w => ∃ (f55 : Fz) (y57 : (List Int)) (y62 : Int) (y63 : Bool) (v58 : Value) (rw59 : List (List Value)), Fz.le f10 f55 ∧ zdf n A p1 p2 y57 y62 y63 = some res ∧ RW (tP ab) f55 rw59 y57 ∧ St 47 w0 f55 (.blk pb0 (.cells #[v58, .int .i64 (y62), .bool (y63)] 102 (0,0)) :: .row v58 96 1 rw59 :: L) [(0, pq pb0 0),(1, .string (p1)),(2, a2)] a w) ?_ ?_
  ·clear hs hm
   clear hbase64
   rintro a w ⟨f55, y57, y62, y63, v58, rw59, hl56, hm, hW60, hs⟩
   replace hbase29 := hbase29.trans hl56
   unfold zdf at hm
   exact ⟨_, y57, y62, y63, v58, rw59, hbase29, hm, hW60, hs.sub ⟨rfl, rfl, rfl, trivial⟩⟩
  refine zah hs rfl (fun hg65 => ?_) (fun hg65 => ?_)
  ·replace hm := oc_t hg65 hm
   refine za2 <| sM hs rfl fun hs => sM hs rfl fun hs => zg1 hs rfl U47 ti9 rfl rfl fun v66 _ _ hs => ?_
   have hW67 : RW tStr f10 [[.string ((bs [116,97,98,108,101]))]] [(bs [116,97,98,108,101])] := RW.single (rfl)
   generalize hgrw68 : ([[.string ((bs [116,97,98,108,101]))]] : List (List Value)) = rw68 at hs hW67; clear hgrw68
   obtain ⟨x71, hx72, hm⟩ := ob hm
   refine sy hs (zdr (cap := []) rfl has74 rfl (fun w9 hw9 => callsF (Lr := [.row v66 9 1 rw68, .blk pb0 (.cells #[v13, .int .i64 (y17), .bool (y18)] 102 (0,0)), .row v13 96 1 rw14]) (Lf := L) (((zal _ 2 rfl).trans (zal _ 2 rfl)).trans (zal _ 2 rfl)) hw9 (fun w9 hw9 => lent0 hw9 (fun f9_0 w9 hle9_0 hRl0 hw9 => GivesR.at (X := []) (zeg n (hW15.le hle9_0) ⟨rw68, hRl0, hW67.le hle9_0⟩ hx72) (hA.le hle9_0) (.refl _) hw9)))) fun _ _ hs => ?_
   obtain ⟨x73, hx74, hm⟩ := ob hm
   replace hs := hs.front 2
   replace hs := hs.front 2
   refine zgp (Lr := [.blk pb0 (.cells #[v13, .int .i64 (y17), .bool (y18)] 102 (0,0)), .row v13 96 1 rw14]) [.row v66 9 1 rw68] hA hs rfl has73 rfl (zd7 n hW15 hx74) (.free rfl) (by decide) ?_; clear hs; (try clear a w)
   rintro _ f75 _ a w hf76 ⟨v77, rw78, rfl, rfl, hW79⟩ hs
   replace hbase64 := hbase64.trans hf76
   refine za0 ?_
   exact ⟨_, x73.open_, x73.count, x73.deep, v77, rw78, hbase64, hm, hW79, hs.subs ⟨rfl, rfl, rfl, trivial⟩ (.cons_cons _ (.cons_cons _ (.cons _ (.refl _))))⟩
  replace hm := oc_f hg65 hm
  refine Wq fun hK8 => s1 hs (zcs rfl rfl) fun hs => sA hs rfl fun hs => za0 <| hK8 ?_
  have hbase90 := Fz.le.refl f10
  refine zaq (fun a w => ∃ (f81 : Fz) (y83 : (List Int)) (y88 : Int) (y89 : Bool) (v84 : Value) (rw85 : List (List Value)), Fz.le f10 f81 ∧ zde n A p1 p2 y83 y88 y89 = some res ∧ RW (tP ab) f81 rw85 y83 ∧ St 47 w0 f81 (.blk pb0 (.cells #[v84, .int .i64 (y88), .bool (y89)] 102 (0,0)) :: .row v84 96 1 rw85 :: L) [(0, pq pb0 0),(1, .string (p1)),(2, a2)] a w) ?_ ?_
  ·clear hs hm
   clear hbase90
   rintro a w ⟨f81, y83, y88, y89, v84, rw85, hl82, hm, hW86, hs⟩
   replace hbase64 := hbase64.trans hl82
   unfold zde at hm
   exact ⟨_, y83, y88, y89, v84, rw85, hbase64, hm, hW86, hs.sub ⟨rfl, rfl, rfl, trivial⟩⟩
  refine zah hs rfl (fun hg91 => ?_) (fun hg91 => ?_)
  ·replace hm := oc_t hg91 hm
   refine Wq fun hK9 => sM hs rfl fun hs => sM hs rfl fun hs => zg1 hs rfl U47 ti9 rfl rfl fun v92 _ _ hs => ?_
   have hW93 : RW tStr f10 [[.string ((bs [116,114]))]] [(bs [116,114])] := RW.single (rfl)
   generalize hgrw94 : ([[.string ((bs [116,114]))]] : List (List Value)) = rw94 at hs hW93; clear hgrw94
   obtain ⟨x97, hx98, hm⟩ := ob hm
   refine sy hs (zdr (cap := []) rfl has74 rfl (fun w9 hw9 => callsF (Lr := [.row v92 9 1 rw94, .blk pb0 (.cells #[v13, .int .i64 (y17), .bool (y18)] 102 (0,0)), .row v13 96 1 rw14]) (Lf := L) (((zal _ 2 rfl).trans (zal _ 2 rfl)).trans (zal _ 2 rfl)) hw9 (fun w9 hw9 => lent0 hw9 (fun f9_0 w9 hle9_0 hRl0 hw9 => GivesR.at (X := []) (zeg n (hW15.le hle9_0) ⟨rw94, hRl0, hW93.le hle9_0⟩ hx98) (hA.le hle9_0) (.refl _) hw9)))) fun _ _ hs => ?_
   obtain ⟨x99, hx100, hm⟩ := ob hm
   replace hs := hs.front 2
   replace hs := hs.front 2
   refine zgp (Lr := [.blk pb0 (.cells #[v13, .int .i64 (y17), .bool (y18)] 102 (0,0)), .row v13 96 1 rw14]) [.row v92 9 1 rw94] hA hs rfl has73 rfl (zd7 n hW15 hx100) (.free rfl) (by decide) ?_; clear hs; (try clear a w)
   rintro _ f101 _ a w hf102 ⟨v103, rw104, rfl, rfl, hW105⟩ hs
   replace hA := hA.le hf102
   replace hbase90 := hbase90.trans hf102
   refine za0 <| hK9 <| Wq fun hK10 => sM hs rfl fun hs => ?_
   obtain ⟨x107, hx108, hm⟩ := ob hm
   replace hs := hs.front 1
   replace hs := hs.front 1
   refine zgp (Lr := [.blk pb0 (.cells #[v103, .int .i64 (x99.count), .bool (x99.deep)] 102 (0,0)), .row v103 96 1 rw104]) [.row v92 9 1 rw94] hA hs rfl has67 rfl (zd6 n hW105 hx108) (.free rfl) (by decide) ?_; clear hs; (try clear a w)
   rintro v111 f109 _ a w hf110 ⟨_, v113, rw114, rfl, rfl, hp112, hW115⟩ hs
   replace hA := hA.le hf110
   replace hbase90 := hbase90.trans hf110
   obtain ⟨x117, hx118, hm⟩ := ob hm
   obtain ⟨b133, rfl, _, ⟨v121, v126, v128, rw129, rfl, ⟨rw122, hR123, hW124⟩, hp127, hW130⟩, hpm132⟩ := AR.peek hA hx118 hp112
   have hm119 := hpm132 _ (.head _); have hm120 := hpm132 _ (.tail _ (.head _)); clear hpm132
   refine s1 hs (za5 rfl) fun hs => s1 (v := pq b133 0) hs (za1 rfl (FO.of (off := 0) U99 rfl rfl ti9 (by decide))) fun hs => s1 (v := .string (x117.name)) hs (y_ld rfl U9 rfl (Cell.blk (.tail _ (.tail _ (.tail _ (hm119)))) rfl)) fun hs => s1 hs (zcs rfl rfl) fun hs => za0 <| hK10 ?_
   refine zah hs rfl (fun hg134 => ?_) (fun hg134 => ?_)
   ·replace hm := oc_t hg134 hm
    cases hm
   replace hm := oc_f hg134 hm
   refine zaj ?_
   exact ⟨_, x107.2.open_, x107.2.count, x107.2.deep, v113, rw114, hbase90, hm, hW115, hs.subs ⟨rfl, rfl, rfl, trivial⟩ (.cons_cons _ (.cons_cons _ (.cons _ (.refl _))))⟩
  replace hm := oc_f hg91 hm
  refine zaj ?_
  exact ⟨_, y12, y17, y18, v13, rw14,(Fz.le.refl _), hm, hW15, hs.sub ⟨rfl, rfl, rfl, trivial⟩⟩
 refine zah hs rfl (fun hg135 => ?_) (fun hg135 => ?_)
 ·replace hm := oc_t hg135 hm
  refine za2 <| sM hs rfl fun hs => sM hs rfl fun hs => zg1 hs rfl U47 ti9 rfl rfl fun v136 _ _ hs => ?_
  have hW137 : RW tStr f [[.string ((bs [116,100]))]] [(bs [116,100])] := RW.single (rfl)
  generalize hgrw138 : ([[.string ((bs [116,100]))]] : List (List Value)) = rw138 at hs hW137; clear hgrw138
  obtain ⟨x141, hx142, hm⟩ := ob hm
  refine sy hs (zdr (cap := []) rfl has74 rfl (fun w9 hw9 => callsF (Lr := [.row v136 9 1 rw138, .blk pb0 (.cells #[pv0_0, .int .i64 (p0.count), .bool (p0.deep)] 102 (0,0)), .row pv0_0 96 1 pv0_0r]) (Lf := L) (((zal _ 2 rfl).trans (zal _ 2 rfl)).trans (zal _ 2 rfl)) hw9 (fun w9 hw9 => lent0 hw9 (fun f9_0 w9 hle9_0 hRl0 hw9 => GivesR.at (X := []) (zeg n (pv0_0h.le hle9_0) ⟨rw138, hRl0, hW137.le hle9_0⟩ hx142) (hA.le hle9_0) (.refl _) hw9)))) fun _ _ hs => ?_
  obtain ⟨x143, hx144, hm⟩ := ob hm
  replace hs := hs.front 2
  replace hs := hs.front 2
  refine zgp (Lr := [.blk pb0 (.cells #[pv0_0, .int .i64 (p0.count), .bool (p0.deep)] 102 (0,0)), .row pv0_0 96 1 pv0_0r]) [.row v136 9 1 rw138] hA hs rfl has73 rfl (zd7 n pv0_0h hx144) (.free rfl) (by decide) ?_; clear hs; (try clear a w)
  rintro _ f145 _ a w hf146 ⟨v147, rw148, rfl, rfl, hW149⟩ hs
  replace hbase19 := hbase19.trans hf146
  refine za0 ?_
  exact ⟨_, x143.open_, x143.count, x143.deep, v147, rw148, hbase19, hm, hW149, hs.subs ⟨rfl, rfl, rfl, trivial⟩ (.cons_cons _ (.cons_cons _ (.cons _ (.refl _))))⟩
 replace hm := oc_f hg135 hm
 refine zaj ?_
 exact ⟨_, p0.open_, p0.count, p0.deep, pv0_0, pv0_0r,(Fz.le.refl _), hm, pv0_0h, hs.sub ⟨rfl, rfl, rfl, trivial⟩⟩
def zej (A : (List za4)) (x39 : za7) : Option (za7 × (List za4)) :=
  some (({open_ := x39.open_, count := x39.count, deep := x39.deep} : za7), A)
def zco (A : (List za4)) (x39 : za7) (x59 : (List Int)) : Nat → Option (za7 × (List za4))
  | 0 => none
  | k69 + 1 =>
  (bif (decide (0 < (x59.length : Int))) then none else
  zej A x39)
def zcp (n : Nat) (A : (List za4)) (p0 : za7) (p1 : ByteArray) (y20 : Int) : Option (za7 × (List za4)) :=
  (zdh n p0 y20 p1 A).bind fun x21 =>
  (bif (decide (x21 < 0)) then none else
  (cutM p0.open_ ((w64 (x21 + 1)) : Int) (p0.open_.length : Int)).bind fun x24 =>
  (appM 8 [] x24).bind fun x30 =>
  (zdw n p0 x21).bind fun x39 =>
  (zht n p1).bind fun x47 =>
  (bif (!x47) then some (({open_ := x39.open_, count := x39.count, deep := x39.deep} : za7), A) else
  (zbd n x30 (fun z0 => zeq n z0 A) A).bind fun x50 =>
  (cutM x50 ((bif decide ((w64 ((x50.length : Int) - 8)) < 0) then 0 else (w64 ((x50.length : Int) - 8))) : Int) (x50.length : Int)).bind fun x59 =>
  zco A x39 x59 n))
def zcq (n : Nat) (A : (List za4)) (p0 : za7) (p1 : ByteArray) (y4 : Bool) : Option (za7 × (List za4)) :=
  (bif y4 then some (({open_ := p0.open_, count := p0.count, deep := p0.deep} : za7), A) else
  (zcc n p0 [(bs [116,100])] A).bind fun x11 =>
  (zid n p1 [(bs [116,100]),(bs [116,114]),(bs [116,97,98,108,101])]).bind fun x18 =>
  (bif x18 then zcp n A p0 p1 0 else
  zcp n A p0 p1 x11))
def zdi (n : Nat) (p0 : za7) (p1 : ByteArray) (A : (List za4)) : Option (za7 × (List za4)) :=
  (zgc n p1).bind fun x72 =>
  (bif x72 then zcq n A p0 p1 true else
  zcq n A p0 p1 (decide (p1 = (bs [114,111,111,116]))))
theorem zkd (n : Nat) {f : Fz} {ab : List Nat} {A : List za4} {p0 : za7} {pb0 : Nat} {pv0_0 : Value} {pv0_0r : List (List Value)} {p1 : ByteArray} {res : (za7 × (List za4))} (pv0_0h : RW (tP ab) f pv0_0r p0.open_) (hm : zdi n p0 p1 A = some res) : DoesA nsh Tryz.prog 45 [pq pb0 0, .string p1] f [.blk pb0 (.cells #[pv0_0, .int .i64 p0.count, .bool p0.deep] 102 (0,0)), .row pv0_0 96 1 pv0_0r] ab A res.2 (fun r f' ab' L' => ∃ (dp0_0 : Value) (dp0_0r : List (List Value)), L' = [.blk pb0 (.cells #[dp0_0, .int .i64 res.1.count, .bool res.1.deep] 102 (0,0)), .row dp0_0 96 1 dp0_0r] ∧ r = .tuple #[] ∧ RW (tP ab') f' dp0_0r res.1.open_) := by
 unfold zdi at hm
 intro w0 L0 L w hA hC
 have hbs := List.prefix_refl ab
 replace hC : Cw w0 f (.blk pb0 (.cells #[pv0_0, .int .i64 p0.count, .bool p0.deep] 102 (0,0)) :: .row pv0_0 96 1 pv0_0r :: L) w := hC
 refine enter Tryz.func45 rfl Tryz.ntmps45 (by simp) hC fun a hs => ?_
 have hle := Fz.le.refl f
 refine Ws fun hK1 => Ws fun hK2 => ?_
 refine zaq (fun a w => ∃ (y4 : Bool), zcq n A p0 p1 y4 = some res ∧ St 77 w0 f (.blk pb0 (.cells #[pv0_0, .int .i64 (p0.count), .bool (p0.deep)] 102 (0,0)) :: .row pv0_0 96 1 pv0_0r :: L) [(0, pq pb0 0),(1, .string (p1)),(14, .bool (y4))] a w) ?_ ?_
 ·clear hs hm
  rintro a w ⟨y4, hm, hs⟩
  unfold zcq at hm
  refine hK2 ?_
  refine zah hs rfl (fun hg5 => ?_) (fun hg5 => ?_)
  ·replace hm := oc_t hg5 hm
   refine zax ?_
   obtain rfl := Option.some.inj hm
   refine RtV0 hs rfl  ?_
   exact ⟨_, f, ab,[.blk pb0 (.cells #[pv0_0, .int .i64 (p0.count), .bool (p0.deep)] 102 (0,0)), .row pv0_0 96 1 pv0_0r], L, rfl, hle, hbs, hA, hs.cw, pv0_0, pv0_0r, rfl, rfl, pv0_0h⟩
  replace hm := oc_f hg5 hm
  refine zaj <| hK1 <| Wq fun hK3 => sM hs rfl fun hs => zg1 hs rfl U47 ti9 rfl rfl fun v6 _ _ hs => ?_
  have hW7 : RW tStr f [[.string ((bs [116,100]))]] [(bs [116,100])] := RW.single (rfl)
  generalize hgrw8 : ([[.string ((bs [116,100]))]] : List (List Value)) = rw8 at hs hW7; clear hgrw8
  obtain ⟨x11, hx12, hm⟩ := ob hm
  refine sy hs (zdr (cap := []) rfl has74 rfl (fun w9 hw9 => callsF (Lr := [.row v6 9 1 rw8, .blk pb0 (.cells #[pv0_0, .int .i64 (p0.count), .bool (p0.deep)] 102 (0,0)), .row pv0_0 96 1 pv0_0r]) (Lf := L) (((zal _ 2 rfl).trans (zal _ 2 rfl)).trans (zal _ 2 rfl)) hw9 (fun w9 hw9 => lent0 hw9 (fun f9_0 w9 hle9_0 hRl0 hw9 => GivesR.at (X := []) (zeg n (pv0_0h.le hle9_0) ⟨rw8, hRl0, hW7.le hle9_0⟩ hx12) (hA.le hle9_0) (.refl _) hw9)))) fun _ _ hs => sA hs rfl fun hs => za0 <| hK3 <| Ws fun hK4 => Wq fun hK5 => sM hs rfl fun hs => ?_
  refine zjv (parts := [(0, .const (.string (bs [116,100]))),(1, .const (.string (bs [116,114]))),(2, .const (.string (bs [116,97,98,108,101])))]) (us := [.string ((bs [116,100])), .string ((bs [116,114])), .string ((bs [116,97,98,108,101]))]) (rows := [[.string ((bs [116,100]))],[.string ((bs [116,114]))],[.string ((bs [116,97,98,108,101]))]]) hs rfl U47 ti9 (by decide) rfl rfl (by intro r hr; simp only [List.mem_cons, List.mem_nil_iff, or_false] at hr; rcases hr with rfl | rfl | rfl; exact AllC.row ⟨rfl, trivial⟩ rfl; exact AllC.row ⟨rfl, trivial⟩ rfl; exact AllC.row ⟨rfl, trivial⟩ rfl) fun v13 _ _ hs => ?_
  have hW14 : RW tStr f [[.string ((bs [116,100]))],[.string ((bs [116,114]))],[.string ((bs [116,97,98,108,101]))]] [(bs [116,100]),(bs [116,114]),(bs [116,97,98,108,101])] := ⟨rfl, ⟨rfl, ⟨rfl, trivial⟩⟩⟩
  generalize hgrw15 : ([[.string ((bs [116,100]))],[.string ((bs [116,114]))],[.string ((bs [116,97,98,108,101]))]] : List (List Value)) = rw15 at hs hW14; clear hgrw15
  obtain ⟨x18, hx19, hm⟩ := ob hm
  refine sy hs (zdr (cap := []) rfl has40 rfl (fun w9 hw9 => callsP (Lr := [.row v13 9 1 rw15]) (Lf := .row v6 9 1 rw8 :: .blk pb0 (.cells #[pv0_0, .int .i64 (p0.count), .bool (p0.deep)] 102 (0,0)) :: .row pv0_0 96 1 pv0_0r :: L) (zal _ 0 rfl) hw9 (fun Lz w9 hw9 => lent0 hw9 (fun f9_0 w9 hle9_0 hRl0 hw9 => (zhu n ⟨rw15, hRl0, hW14.le hle9_0⟩ hx19) w0 _ w9 hw9)))) fun _ _ hs => za0 <| hK5 ?_
  refine zaq (fun a w => ∃ (y20 : Int), zcp n A p0 p1 y20 = some res ∧ St 77 w0 f (.blk pb0 (.cells #[pv0_0, .int .i64 (p0.count), .bool (p0.deep)] 102 (0,0)) :: .row pv0_0 96 1 pv0_0r :: L) [(0, pq pb0 0),(1, .string (p1)),(4, .int .i64 (y20))] a w) ?_ ?_
  ·clear hs hm
   rintro a w ⟨y20, hm, hs⟩
   unfold zcp at hm
   refine hK4 <| Wq fun hK6 => sM hs rfl fun hs => sM hs rfl fun hs => sM hs rfl fun hs => ?_
   obtain ⟨x21, hx22, hm⟩ := ob hm
   refine s1 hs (zpk (cap := []) (X := []) hA rfl has76 rfl ((zal _ 1 rfl).trans (zal _ 1 rfl)) (zgr n pv0_0h hx22)) fun hs => sA hs rfl fun hs => za0 <| hK6 <| Ws fun hK7 => Wq fun hK8 => sM hs rfl fun hs => s1 hs (zgq rfl rfl) fun hs => za0 ?_
   refine hK8 ?_
   refine zah hs rfl (fun hg23 => ?_) (fun hg23 => ?_)
   ·replace hm := oc_t hg23 hm
    refine Ws fun hK9 => Ws fun hK10 => ?_
    cases hm
   replace hm := oc_f hg23 hm
   refine zaj <| hK7 <| Wq fun hK11 => sM hs rfl fun hs => s1 hs (za5 rfl) fun hs => s1 (v := pq pb0 0) hs (za1 rfl (FO.of (off := 0) U102 rfl rfl ti97 (by decide))) fun hs => s1 (v := pv0_0) hs (y_ld rfl U97 rfl (Cell.blk (.head _) rfl)) fun hs => sM hs rfl fun hs => s1 hs (zdz rfl rfl rfl) fun hs => ?_
   obtain ⟨x24, hx25, hm⟩ := ob hm
   obtain ⟨⟨hlx24, hhx24, h1x24, h2x24⟩, hex24⟩ := zm9 hx25
   have h3x24 : (p0.open_.length : Int).toNat ≤ pv0_0r.length := by rw [RW.len pv0_0h]; exact h2x24
   refine s1 hs (zpg (lo := (w64 (x21 + 1)).toNat) (hi := (p0.open_.length : Int).toNat) rfl U97 ti96 (.inr ⟨_, rfl, by rw [← hlx24]; rfl⟩) (.inl ⟨rfl, by rw [RW.len pv0_0h]; simp⟩) h1x24 h3x24 (Rd.st hs (.tail _ (.head _)))) fun hs => ?_
   obtain ⟨x30, hx31, hm⟩ := ob hm
   replace hs := hs.front 1
   refine zbb (Lr := [.row pv0_0 96 1 pv0_0r]) (Lf := .blk pb0 (.cells #[pv0_0, .int .i64 (p0.count), .bool (p0.deep)] 102 (0,0)) :: L) hs rfl has78 rfl rfl (zn4 n pv0_0h h1x24 h3x24 hex24 hx31) (.free rfl) (by decide) ?_; clear hs; (try clear a w)
   rintro v34 f32 _ a w hf33 ⟨_, rw35, rfl, rfl, hW36⟩ hs
   replace hA := hA.le hf33
   replace pv0_0h := pv0_0h.le hf33
   replace hle := hle.trans hf33
   refine sA hs rfl fun hs => za0 <| hK11 <| Wq fun hK12 => sM hs rfl fun hs => sM hs rfl fun hs => ?_
   obtain ⟨x39, hx40, hm⟩ := ob hm
   replace hs := hs.front 1
   replace hs := hs.front 2
   refine zbb (Lr := [.blk pb0 (.cells #[pv0_0, .int .i64 (p0.count), .bool (p0.deep)] 102 (0,0)), .row pv0_0 96 1 pv0_0r]) (Lf := .row v34 96 1 rw35 :: L) hs rfl has77 rfl rfl (zi5 n pv0_0h hx40) (.free rfl) (by decide) ?_; clear hs; (try clear a w)
   rintro _ f41 _ a w hf42 ⟨v43, rw44, rfl, rfl, hW45⟩ hs
   replace hA := hA.le hf42
   replace hW36 := hW36.le hf42
   replace hle := hle.trans hf42
   refine za0 <| hK12 <| Ws fun hK13 => Wq fun hK14 => sM hs rfl fun hs => ?_
   obtain ⟨x47, hx48, hm⟩ := ob hm
   refine s1 hs (zbi rfl has79 rfl (zla n  hx48)) fun hs => s1 (v := .bool ((!x47))) hs (zfc rfl) fun hs => za0 <| hK14 ?_
   refine zah hs rfl (fun hg49 => ?_) (fun hg49 => ?_)
   ·replace hm := oc_t hg49 hm
    refine zax ?_
    obtain rfl := Option.some.inj hm
    refine RtV0 hs rfl  ?_
    exact ⟨_, f41, ab,[.blk pb0 (.cells #[v43, .int .i64 (x39.count), .bool (x39.deep)] 102 (0,0)), .row v43 96 1 rw44], L, rfl, hle, hbs, hA,(hs.subL (.cons_cons _ (.cons_cons _ (.cons _ (.refl _))))).cw, v43, rw44, rfl, rfl, hW45⟩
   replace hm := oc_f hg49 hm
   refine zaj <| hK13 <| Wq fun hK15 => sM hs rfl fun hs => ?_
   obtain ⟨x50, hx51, hm⟩ := ob hm
   replace hs := hs.front 2
   refine zgp (Lr := [.row v34 96 1 rw35]) [.blk pb0 (.cells #[v43, .int .i64 (x39.count), .bool (x39.deep)] 102 (0,0)), .row v43 96 1 rw44] hA hs rfl has80 rfl (zg7 n hW36 has81 (fun f9 hle9 z0 c0 r9 h0 h9 => zjj n h0 h9) hx51) (.free rfl) (by decide) ?_; clear hs; (try clear a w)
   rintro v54 f52 _ a w hf53 ⟨_, rw55, rfl, rfl, hW56⟩ hs
   replace hA := hA.le hf53
   replace hW45 := hW45.le hf53
   replace hle := hle.trans hf53
   refine sA hs rfl fun hs => za0 <| hK15 <| Wq fun hK16 => sM hs rfl fun hs => sM hs rfl fun hs => s1 hs (zc3 (Rd.st hs (.head _)) hW56 rfl U97) fun hs => s1 hs (zn2 rfl rfl rfl) fun hs => s1 hs (y_max2 rfl rfl) fun hs => ?_
   obtain ⟨x59, hx60, hm⟩ := ob hm
   obtain ⟨⟨hlx59, hhx59, h1x59, h2x59⟩, hex59⟩ := zm9 hx60
   obtain ⟨f65, hf66, hs2, hR67⟩ := hs.frzAt 0 rfl
   clear hs; have hs := hs2; clear hs2
   replace hA := hA.le hf66
   replace hW45 := hW45.le hf66
   replace hW56 := hW56.le hf66
   replace hle := hle.trans hf66
   have hW61 := (hW56.take (x50.length : Int).toNat).drop (bif decide ((w64 ((x50.length : Int) - 8)) < 0) then 0 else (w64 ((x50.length : Int) - 8))).toNat; rw [hex59] at hW61
   refine s1 hs (zpg (lo := (bif decide ((w64 ((x50.length : Int) - 8)) < 0) then 0 else (w64 ((x50.length : Int) - 8))).toNat) (hi := (x50.length : Int).toNat) rfl U97 ti96 (.inr ⟨_, rfl, by rw [← hlx59]; rfl⟩) (.inl ⟨rfl, by rw [RW.len hW56]; simp⟩) h1x59 (by rw [RW.len hW56]; exact h2x59) hR67) fun hs => ?_
   have hR62 : Rd _ [] (cutv v54 1 _ _) 1 _ := (hR67 : Rd _ [] _ _ _).cut h1x59 (by rw [RW.len hW56]; exact h2x59)
   generalize hgrw63 : List.drop _ (List.take _ rw55) = rw63 at hR62 hW61; clear hgrw63
   generalize hgv64 : cutv v54 1 _ _ = v64 at hs hR62; clear hgv64
   refine s1 hs (zc3 hR62 hW61 rfl U97) fun hs => sM hs rfl fun hs => za0 <| hK16 ?_
   refine zaq (fun a w => zej A x39 = some res ∧ St 77 w0 f65 (.blk pb0 (.cells #[v43, .int .i64 (x39.count), .bool (x39.deep)] 102 (0,0)) :: .row v43 96 1 rw44 :: L) [] a w) ?_ ?_
   ·clear hs hm
    rintro a w ⟨hm, hs⟩
    unfold zej at hm
    obtain rfl := Option.some.inj hm
    refine RtV0 hs rfl  ?_
    exact ⟨_, f65, ab,[.blk pb0 (.cells #[v43, .int .i64 (x39.count), .bool (x39.deep)] 102 (0,0)), .row v43 96 1 rw44], L, rfl, hle, hbs, hA, hs.cw, v43, rw44, rfl, rfl, hW45⟩
   refine zam fun Qe17 hB17 hO17 => zd1 (fun (k : Nat) a w => zco A x39 x59 k = some res ∧ St 77 w0 f65 (.blk pb0 (.cells #[v43, .int .i64 (x39.count), .bool (x39.deep)] 102 (0,0)) :: .row v43 96 1 rw44 :: L) [(61, .int .i64 ((x59.length : Int))),(62, .int .i64 (0))] a w) (fun k => k) n ⟨hm, hs.sub ⟨rfl, rfl, trivial⟩⟩ ?_
   clear hs hm
   intro k
   rintro a w ⟨hm, hs⟩
   intro K18 hK18
   cases k with
   | zero => simp [zco] at hm
   | succ k69 =>
    rw [zco] at hm
    refine Wq fun hK19 => s1 hs (zgq rfl rfl) fun hs => za0 <| hK19 <| Ws fun hK20 => ?_
    refine zah hs rfl (fun hg70 => ?_) (fun hg70 => ?_)
    ·replace hm := oc_t hg70 hm
     refine zaj <| hK20 <| Ws fun hK21 => zam fun Qe22 hB22 hO22 => Ws fun hK23 => ?_
     cases hm
    replace hm := oc_f hg70 hm
    refine zc0 <| hB17 _ _ ?_
    exact ⟨hm, hs.sub trivial⟩
  refine zah hs rfl (fun hg71 => ?_) (fun hg71 => ?_)
  ·replace hm := oc_t hg71 hm
   refine za2 <| sA hs rfl fun hs => za0 ?_
   exact ⟨0, hm, hs.subs ⟨rfl, rfl, rfl, trivial⟩ (.cons _ (.cons _ (.cons_cons _ (.cons_cons _ (.refl _)))))⟩
  replace hm := oc_f hg71 hm
  refine zaj ?_
  exact ⟨x11, hm, hs.subs ⟨rfl, rfl, rfl, trivial⟩ (.cons _ (.cons _ (.cons_cons _ (.cons_cons _ (.refl _)))))⟩
 refine za2 <| sM hs rfl fun hs => ?_
 obtain ⟨x72, hx73, hm⟩ := ob hm
 refine s1 hs (zbi rfl has23 rfl (zj5 n  hx73)) fun hs => sM hs rfl fun hs => ?_
 refine St.split hs (t := 11) rfl (fun hg74 hs => ?_) (fun hg74 hs => ?_)
 ·replace hm := oc_t hg74 hm
  refine s3 hs fun hs => s3 hs fun hs => sP hs rfl rfl fun hs => za0 ?_
  exact ⟨true, hm, hs.sub ⟨rfl, rfl, rfl, trivial⟩⟩
 replace hm := oc_f hg74 hm
 refine s2 (v := .string (p1)) hs (za3 rfl) fun hs => s2 hs (zcs rfl rfl) fun hs => sP hs rfl rfl fun hs => za0 ?_
 exact ⟨decide (p1 = (bs [114,111,111,116])), hm, hs.sub ⟨rfl, rfl, rfl, trivial⟩⟩
end Go.Proofs.YtpfdbeafdjnbnaaGreatDoor
