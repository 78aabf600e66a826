/-
  Walks and laws of this seat.
-/
import Derived.Test.YtdjjeahiomackaaGreatBash
import Derived.Test.YtdjjeahiomackaaGreatGb
import Derived.Test.YtdjjeahiomackaaGreatMa
import Derived.Test.YtdjjeahiomackaaGreatRows
namespace Go.Proofs.YtdjjeahiomackaaGreat
set_option linter.unusedVariables false
set_option linter.unusedSimpArgs false
set_option linter.unusedSectionVars false
set_option maxHeartbeats 4000000
set_option maxRecDepth 100000
open Go.RowKit Go.Sl
def zf9 (q0 : zad) (y51 : (List zal)) (y56 : Int) : Option (Int × zad) :=
  (geti y51 (q0.Nodes.length : Int)).bind fun x58 =>
  (seti y51 (q0.Nodes.length : Int) ({x58 with Last := y56} : zal)).bind fun x70 =>
  some ((q0.Nodes.length : Int),({Nodes := x70} : zad))
def zf8 (q0 : zad) (y83 : Int) (lp84 : (List zal) → Int → Int → Option (Int × zad)) (x108 : (Int × zad)) (y116 : (List zal)) : Option (Int × zad) :=
  (bif (decide (4096 < (y116.length : Int))) then zf9 q0 y116 x108.1 else
  lp84 y116 x108.1 (w64 (y83 + 1)))
def zc3 (p0 : zah) (q0 : zad) (slf : zah → Int → Int → zad → Option (Int × zad)) : Nat → (List zal) → Int → Int → Option (Int × zad)
  | 0, _, _, _ => none
  | k84 + 1, y77, y82, y83 =>
  (bif (decide (y83 < (p0.Kids.length : Int))) then (geti p0.Kids y83).bind fun x87 =>
  (slf x87 (q0.Nodes.length : Int) y82 ({Nodes := y77} : zad)).bind fun x108 =>
  (bif (decide (y82 = (-1))) then (geti x108.2.Nodes (q0.Nodes.length : Int)).bind fun x123 =>
  (seti x108.2.Nodes (q0.Nodes.length : Int) ({x123 with First := x108.1} : zal)).bind fun x135 =>
  zf8 q0 y83 (zc3 p0 q0 slf k84) x108 x135 else
  (geti x108.2.Nodes y82).bind fun x140 =>
  (seti x108.2.Nodes y82 ({x140 with Next := x108.1} : zal)).bind fun x152 =>
  zf8 q0 y83 (zc3 p0 q0 slf k84) x108 x152) else
  zf9 q0 y77 y82)
def zfa (n : Nat) (p0 : zah) (q0 : zad) (slf : zah → Int → Int → zad → Option (Int × zad)) (y29 : zal) : Option (Int × zad) :=
  (appM 104 q0.Nodes [y29]).bind fun x42 =>
  (bif ((decide (4096 < (x42.length : Int))) || (decide (p0.Name = (bs [])))) then some ((q0.Nodes.length : Int),({Nodes := x42} : zad)) else
  zc3 p0 q0 slf n x42 (-1) 0)
def zhc (n : Nat) (p0 : zah) (p1 : Int) (p2 : Int) (q0 : zad) (slf : zah → Int → Int → zad → Option (Int × zad)) (y21 : (List zam)) : Option (Int × zad) :=
  (bif (decide (p0.Name = (bs []))) then zfa n p0 q0 slf ({Kind := 2, Name := p0.Name, Text := p0.Text, Attrs := ([] : List zam), Parent := p1, First := (-1), Last := (-1), Prev := p2, Next := (-1)} : zal) else
  zfa n p0 q0 slf ({Kind := 1, Name := p0.Name, Text := (bs []), Attrs := y21, Parent := p1, First := (-1), Last := (-1), Prev := p2, Next := (-1)} : zal))
def zh4 (slf : zah → Int → Int → zad → Option (Int × zad)) (n : Nat) (p0 : zah) (p1 : Int) (p2 : Int) (q0 : zad) : Option (Int × zad) :=
  (zgz n p0.Attrs).bind fun x162 =>
  zhc n p0 p1 p2 q0 slf x162
def zeo : Nat → zah → Int → Int → zad → Option (Int × zad)
  | 0, _, _, _, _ => none
  | n + 1, p0, p1, p2, q0 => zh4 (zeo n) n p0 p1 p2 q0
theorem zoo {slf : zah → Int → Int → zad → Option (Int × zad)} (n : Nat) (slf_ok : ∀ {f : Fz} {p0 : zah} {a0 : List Value} {p1 : Int} {p2 : Int} {cb0 : Nat} {q0 : zad} {cv0_0 : Value} {cv0_0r : List (List Value)} {cb1 : Nat} {res : (Int × zad)} (_ : zcv.R f a0 p0) (_ : RW zcg f cv0_0r q0.Nodes) (_ : f cb1 = some (.cells #[.func (.func 50) #[] #[.pointer (some ⟨cb0,0, none⟩), .pointer (some ⟨cb1,0, none⟩)]] 88 (0,0))) (_ : slf p0 p1 p2 q0 = some res), Does Tryz.prog 50 [.agg a0.toArray, .int .i64 p1, .int .i64 p2, .pointer (some ⟨cb0,0, none⟩), .pointer (some ⟨cb1,0, none⟩)] f [.blk cb0 (.cells #[cv0_0] 30 (0,0)), .row cv0_0 42 9 cv0_0r] (fun r f' L' => ∃ (dv0_0 : Value) (dv0_0r : List (List Value)), L' = [.blk cb0 (.cells #[dv0_0] 30 (0,0)), .row dv0_0 42 9 dv0_0r] ∧ r = .int .i64 res.1 ∧ RW zcg f' dv0_0r res.2.Nodes)) {f : Fz} {p0 : zah} {a0 : List Value} {p1 : Int} {p2 : Int} {cb0 : Nat} {q0 : zad} {cv0_0 : Value} {cv0_0r : List (List Value)} {cb1 : Nat} {res : (Int × zad)} (h0 : zcv.R f a0 p0) (cv0_0h : RW zcg f cv0_0r q0.Nodes) (hc1 : f cb1 = some (.cells #[.func (.func 50) #[] #[.pointer (some ⟨cb0,0, none⟩), .pointer (some ⟨cb1,0, none⟩)]] 88 (0,0))) (hm : zh4 slf n p0 p1 p2 q0 = some res) : Does Tryz.prog 50 [.agg a0.toArray, .int .i64 p1, .int .i64 p2, .pointer (some ⟨cb0,0, none⟩), .pointer (some ⟨cb1,0, none⟩)] f [.blk cb0 (.cells #[cv0_0] 30 (0,0)), .row cv0_0 42 9 cv0_0r] (fun r f' L' => ∃ (dv0_0 : Value) (dv0_0r : List (List Value)), L' = [.blk cb0 (.cells #[dv0_0] 30 (0,0)), .row dv0_0 42 9 dv0_0r] ∧ r = .int .i64 res.1 ∧ RW zcg f' dv0_0r res.2.Nodes) := by
 unfold zh4 at hm
 intro w0 L w hC
 replace hC : Cw w0 f (.blk cb0 (.cells #[cv0_0] 30 (0,0)) :: .row cv0_0 42 9 cv0_0r :: L) w := hC
 obtain ⟨v1, v6, rfl, ⟨rw2, hR3, hW4⟩, ⟨rw7, hR8, hW9⟩⟩ := R_dom_Part.ex h0
 refine enter Tryz.func50 rfl Tryz.ntmps50 (by simp) hC fun a hs => ?_
 have hle := Fz.le.refl f
 refine Wq fun hK1 => sbox hs rfl fun b15 _ _ hs => sA hs rfl fun hs => za1 <| hK1 <| Wq fun hK2 => s1 (v := .pointer (some ⟨cb0,0, none⟩)) hs (za3 rfl (FO.of (off := 0) Tryz.underlying30 rfl rfl ti28 (by decide))) fun hs => s1 (v := cv0_0) hs (y_ld rfl Tryz.underlying28 rfl (Cell.blk (.tail _ (.head _)) rfl)) fun hs => ?_
 refine s1 hs (ze4 (Rd.st hs (.tail _ (.tail _ (.head _)))) cv0_0h rfl Tryz.underlying28) fun hs => sA hs rfl fun hs => za1 <| hK2 <| Ws fun hK3 => ?_
 have hbase28 := Fz.le.refl f
 refine zay (fun a w => ∃ (f17 : Fz) (y21 : (List zam)) (b20 : Nat) (v22 : Value), Fz.le f f17 ∧ zhc n p0 p1 p2 q0 slf y21 = some res ∧ RS zch f17 v22 y21 ∧ St 89 w0 f17 (.blk b20 (.cells #[.int .i64 (1), .string (p0.Name), .string ((bs [])), v22, .int .i64 (p1), .int .i64 ((-1)), .int .i64 ((-1)), .int .i64 (p2), .int .i64 ((-1))] 42 (0,0)) :: .blk b15 (.cells #[.string (p0.Name), .string (p0.Text), v1, v6] 61 (0,0)) :: .blk cb0 (.cells #[cv0_0] 30 (0,0)) :: .row cv0_0 42 9 cv0_0r :: L) [(3, .pointer (some ⟨cb0,0, none⟩)),(4, .pointer (some ⟨cb1,0, none⟩)),(5, .pointer (some ⟨b15,0, none⟩)),(9, .int .i64 ((q0.Nodes.length : Int))),(10, .pointer (some ⟨b20,0, none⟩))] a w) ?_ ?_
 ·clear hs hm
  clear hbase28
  rintro a w ⟨f17, y21, b20, v22, hl18, hm, hs23, hs⟩
  replace hR8 := hR8.le hl18
  replace hW9 := hW9.le hl18
  replace cv0_0h := cv0_0h.le hl18
  replace hc1 := hl18 _ _ hc1
  replace hle := hle.trans hl18
  obtain ⟨rw24, hR25, hW26⟩ := hs23
  unfold zhc at hm
  refine hK3 <| Ws fun hK4 => Wq fun hK5 => s1 (v := .pointer (some ⟨b15,0, none⟩)) hs (za3 rfl (FO.of (off := 0) Tryz.underlying61 rfl rfl ti9 (by decide))) fun hs => s1 (v := .string (p0.Name)) hs (y_ld rfl Tryz.underlying9 rfl (Cell.blk (.tail _ (.head _)) rfl)) fun hs => s1 hs (zfr rfl rfl) fun hs => za1 <| hK5 ?_
  refine zay (fun a w => ∃ (y29 : zal) (r30 : List Value), zfa n p0 q0 slf y29 = some res ∧ zcg.R f17 r30 y29 ∧ St 89 w0 f17 (.blk b20 (.cells r30.toArray 42 (0,0)) :: .blk b15 (.cells #[.string (p0.Name), .string (p0.Text), v1, v6] 61 (0,0)) :: .blk cb0 (.cells #[cv0_0] 30 (0,0)) :: .row cv0_0 42 9 cv0_0r :: L) [(3, .pointer (some ⟨cb0,0, none⟩)),(4, .pointer (some ⟨cb1,0, none⟩)),(5, .pointer (some ⟨b15,0, none⟩)),(9, .int .i64 ((q0.Nodes.length : Int))),(10, .pointer (some ⟨b20,0, none⟩))] a w) ?_ ?_
  ·clear hs hm
   rintro a w ⟨y29, r30, hm, hq31, hs⟩
   obtain ⟨v32, rfl, ⟨rw33, hR34, hW35⟩⟩ := hq31
   unfold zfa at hm
   refine hK4 <| Wq fun hK6 => s1 (v := .pointer (some ⟨cb0,0, none⟩)) hs (za3 rfl (FO.of (off := 0) Tryz.underlying30 rfl rfl ti28 (by decide))) fun hs => s1 (v := cv0_0) hs (y_ld rfl Tryz.underlying28 rfl (Cell.blk (.tail _ (.tail _ (.head _))) rfl)) fun hs => s1 hs (zp7 rfl Tryz.underlying42 rfl ti42 (.head _) rfl) fun hs => zo9 hs rfl Tryz.underlying28 ti42 (by decide) (AllC.row ⟨rfl, rfl, rfl, hR34.one, rfl, rfl, rfl, rfl, rfl, trivial⟩ rfl) fun v37 _ _ hs => ?_
   have hW38 : RW zcg f17 [[.int .i64 (y29.Kind), .string (y29.Name), .string (y29.Text), v32, .int .i64 (y29.Parent), .int .i64 (y29.First), .int .i64 (y29.Last), .int .i64 (y29.Prev), .int .i64 (y29.Next)]] [y29] := RW.single (⟨_, rfl, ⟨rw33, hR34, hW35⟩⟩)
   generalize hgrw39 : ([[.int .i64 (y29.Kind), .string (y29.Name), .string (y29.Text), v32, .int .i64 (y29.Parent), .int .i64 (y29.First), .int .i64 (y29.Last), .int .i64 (y29.Prev), .int .i64 (y29.Next)]] : List (List Value)) = rw39 at hs hW38; clear hgrw39
   obtain ⟨x42, hx43, hm⟩ := ob hm
   obtain ⟨hbx42, hex42⟩ := zcs hx43
   have hW46 := cv0_0h.append hW38; rw [hex42] at hW46
   refine zdb (i := 4) hs rfl rfl rfl (Rd.st hs (.head _)) Tryz.underlying28 ti42 (by decide) (by rw [RW.len cv0_0h, RW.len hW38]; exact hbx42) (.free rfl) (by decide) fun v44 _ _ hs => ?_
   generalize hgx42 : cv0_0r ++ rw39 = rw45 at hs hW46; clear hgx42
   replace hs := hs.erase 0
   refine s1 (v := .pointer (some ⟨cb0,0, none⟩)) hs (za3 rfl (FO.of (off := 0) Tryz.underlying30 rfl rfl ti28 (by decide))) fun hs => sstore 2 hs rfl rfl rfl ti28 ((hs.one (i := 3) rfl)) fun _ _ hs => za1 <| hK6 <| Ws fun hK7 => Ws fun hK8 => ?_
   refine zay (fun a w => St 89 w0 f17 (.blk b20 (.cells #[.int .i64 (y29.Kind), .string (y29.Name), .string (y29.Text), v32, .int .i64 (y29.Parent), .int .i64 (y29.First), .int .i64 (y29.Last), .int .i64 (y29.Prev), .int .i64 (y29.Next)] 42 (0,0)) :: .blk b15 (.cells #[.string (p0.Name), .string (p0.Text), v1, v6] 61 (0,0)) :: .blk cb0 (.cells #[v44] 30 (0,0)) :: .row v44 42 9 rw45 :: L) [(3, .pointer (some ⟨cb0,0, none⟩)),(4, .pointer (some ⟨cb1,0, none⟩)),(5, .pointer (some ⟨b15,0, none⟩)),(9, .int .i64 ((q0.Nodes.length : Int))),(48, .bool (((decide (4096 < (x42.length : Int))) || (decide (p0.Name = (bs []))))))] a w) ?_ ?_
   ·clear hs; intro a w hs
    refine hK8 ?_
    refine zag hs rfl (fun hg48 => ?_) (fun hg48 => ?_)
    ·replace hm := oc_t hg48 hm
     refine Wq fun hK9 => sM hs rfl fun hs => sA hs rfl fun hs => za1 <| hK9 <| zbl ?_
     obtain rfl := Option.some.inj hm
     refine RtV1 hs rfl (rv_t hs rfl) ?_
     exact ⟨_, f17,[.blk cb0 (.cells #[v44] 30 (0,0)), .row v44 42 9 rw45], rfl, hle,(hs.subL (.cons _ (.cons _ (.cons_cons _ (.cons_cons _ (.refl _)))))).cw, v44, rw45, rfl, rfl, hW46⟩
    replace hm := oc_f hg48 hm
    refine zak <| hK7 <| Wq fun hK10 => sA hs rfl fun hs => za1 <| hK10 <| Ws fun hK11 => Ws fun hK12 => za5 ?_
    refine s1 (v := .pointer (some ⟨b15,3, none⟩)) hs (za3 rfl (FO.of (off := 3) Tryz.underlying61 rfl rfl ti59 (by decide))) fun hs => s1 (v := v6) hs (y_ld rfl Tryz.underlying59 rfl (Cell.blk (.tail _ (.head _)) rfl)) fun hs => s1 hs (ze4 hR8 hW9 rfl Tryz.underlying59) fun hs => sM hs rfl fun hs => za1 <| hK12 ?_
    have hbase57 := Fz.le.refl f17
    refine zay (fun a w => ∃ (f49 : Fz) (y51 : (List zal)) (y56 : Int) (v52 : Value) (rw53 : List (List Value)), Fz.le f17 f49 ∧ zf9 q0 y51 y56 = some res ∧ RW zcg f49 rw53 y51 ∧ St 89 w0 f49 (.blk cb0 (.cells #[v52] 30 (0,0)) :: .row v52 42 9 rw53 :: L) [(3, .pointer (some ⟨cb0,0, none⟩)),(9, .int .i64 ((q0.Nodes.length : Int))),(11, .int .i64 (y56))] a w) ?_ ?_
    ·clear hs hm
     clear hbase57
     rintro a w ⟨f49, y51, y56, v52, rw53, hl50, hm, hW54, hs⟩
     replace cv0_0h := cv0_0h.le hl50
     replace hc1 := hl50 _ _ hc1
     replace hle := hle.trans hl50
     unfold zf9 at hm
     refine hK11 <| Wq fun hK13 => s1 (v := .pointer (some ⟨cb0,0, none⟩)) hs (za3 rfl (FO.of (off := 0) Tryz.underlying30 rfl rfl ti28 (by decide))) fun hs => s1 (v := v52) hs (y_ld rfl Tryz.underlying28 rfl (Cell.blk (.head _) rfl)) fun hs => sM hs rfl fun hs => sM hs rfl fun hs => ?_
     obtain ⟨x58, hx59, hm⟩ := ob hm
     obtain ⟨r60, hr61, hq62, hi63, hb64⟩ := hW54.geti hx59
     obtain ⟨v65, rfl, ⟨rw66, hR67, hW68⟩⟩ := hq62
     refine s1 hs (zai (Rd.st hs (.tail _ (.head _))) rfl rfl hi63 hb64 Tryz.underlying28 ti42) fun hs => s1 (v := eaddr v52 9 ((q0.Nodes.length : Int).toNat) 6) hs (ze9 (i := (q0.Nodes.length : Int).toNat) (j := 0) (Rd.st hs (.tail _ (.head _))) rfl hb64 (FO.of (off := 6) Tryz.underlying42 rfl rfl ti3 (by decide))) fun hs => ?_
     obtain ⟨x70, hx71, hm⟩ := ob hm
     have hex70 := zjh hx71
     have hW73 := RW.set (i := (q0.Nodes.length : Int).toNat) (r := [.int .i64 (x58.Kind), .string (x58.Name), .string (x58.Text), v65, .int .i64 (x58.Parent), .int .i64 (x58.First), .int .i64 (y56), .int .i64 (x58.Prev), .int .i64 (x58.Next)]) (x := (({x58 with Last := y56} : zal) : zal)) hW54 (⟨_, rfl, ⟨rw66, hR67, hW68⟩⟩); rw [hex70] at hW73
     refine zgr (i := 1) (j := 6) (m := (q0.Nodes.length : Int).toNat) hs rfl rfl rfl hr61 (by decide) ti3 rfl (.free rfl) fun _ _ hs => ?_
     replace hs : St _ _ _ (.blk cb0 (.cells #[v52] 30 (0,0)) :: .row v52 42 9 (rw53.set ((q0.Nodes.length : Int).toNat) [.int .i64 (x58.Kind), .string (x58.Name), .string (x58.Text), v65, .int .i64 (x58.Parent), .int .i64 (x58.First), .int .i64 (y56), .int .i64 (x58.Prev), .int .i64 (x58.Next)]) :: L) _ _ _ := hs
     generalize hgrw72 : rw53.set ((q0.Nodes.length : Int).toNat) [.int .i64 (x58.Kind), .string (x58.Name), .string (x58.Text), v65, .int .i64 (x58.Parent), .int .i64 (x58.First), .int .i64 (y56), .int .i64 (x58.Prev), .int .i64 (x58.Next)] = rw72 at hs hW73; clear hgrw72
     refine za1 <| hK13 <| Wq fun hK14 => sM hs rfl fun hs => sA hs rfl fun hs => za1 <| hK14 <| zbl ?_
     obtain rfl := Option.some.inj hm
     refine RtV1 hs rfl (rv_t hs rfl) ?_
     exact ⟨_, f49,[.blk cb0 (.cells #[v52] 30 (0,0)), .row v52 42 9 rw72], rfl, hle, hs.cw, v52, rw72, rfl, rfl, hW73⟩
    refine zas fun Qe15 hB15 hO15 => ?_
    have hbase := Fz.le.refl f17
    refine zeu (fun (k : Nat) a w => ∃ (f75 : Fz) (y77 : (List zal)) (y82 : Int) (y83 : Int) (v78 : Value) (rw79 : List (List Value)), Fz.le f17 f75 ∧ zc3 p0 q0 slf k y77 y82 y83 = some res ∧ RW zcg f75 rw79 y77 ∧ St 89 w0 f75 (.blk cb0 (.cells #[v78] 30 (0,0)) :: .row v78 42 9 rw79 :: L) [(3, .pointer (some ⟨cb0,0, none⟩)),(4, .pointer (some ⟨cb1,0, none⟩)),(9, .int .i64 ((q0.Nodes.length : Int))),(11, .int .i64 (y82)),(51, v6),(52, .int .i64 ((p0.Kids.length : Int))),(53, .int .i64 (y83))] a w) (fun k => k) n ⟨_, x42,(-1),0, v44, rw45,(Fz.le.refl _), hm, hW46, hs.subs ⟨rfl, rfl, rfl, rfl, rfl, rfl, rfl, trivial⟩ (.cons _ (.cons _ (.cons_cons _ (.cons_cons _ (.refl _)))))⟩ ?_
    clear hs hm
    intro k
    rintro a w ⟨f75, y77, y82, y83, v78, rw79, hl76, hm, hW80, hs⟩
    replace hR8 := hR8.le hl76
    replace hW9 := hW9.le hl76
    replace cv0_0h := cv0_0h.le hl76
    replace hc1 := hl76 _ _ hc1
    replace hbase57 := hbase57.trans hl76
    intro K16 hK16
    cases k with
    | zero => simp [zc3] at hm
    | succ k84 =>
     rw [zc3] at hm
     have hbase85 := hl76
     refine Wq fun hK17 => s1 hs (zhw rfl rfl) fun hs => za1 <| hK17 <| Ws fun hK18 => ?_
     refine zag hs rfl (fun hg86 => ?_) (fun hg86 => ?_)
     ·replace hm := oc_t hg86 hm
      refine zak <| hK18 <| Ws fun hK19 => zas fun Qe20 hB20 hO20 => Ws fun hK21 => za5 ?_
      obtain ⟨x87, hx88, hm⟩ := ob hm
      obtain ⟨r89, hr90, hq91, hi92, hb93⟩ := hW9.geti hx88
      obtain ⟨v94, v99, rfl, ⟨rw95, hR96, hW97⟩, ⟨rw100, hR101, hW102⟩⟩ := R_dom_Part.ex hq91
      refine s1 hs (zai hR8 rfl rfl hi92 hb93 Tryz.underlying59 ti61) fun hs => s1 hs (zn9 hR8.up rfl hr90 Tryz.underlying61 rfl ti61) fun hs => zd3 hs ti61 (.free rfl) (by decide) fun b104 _ _ hs => zbe (i := 0) hs rfl rfl rfl ti61 ⟨rfl, rfl⟩ (AllC.arr (r := [.string (x87.Name), .string (x87.Text), v94, v99]) ⟨rfl, rfl, hR96.one, hR101.one, trivial⟩) (.free rfl) fun _ _ hs => za1 <| hK21 <| Wq fun hK22 => s1 (v := .func (.func 50) #[] #[.pointer (some ⟨cb0,0, none⟩), .pointer (some ⟨cb1,0, none⟩)]) hs (y_ld rfl Tryz.underlying88 rfl (Cell.fz hc1 rfl)) fun hs => s1 hs (zp7 rfl Tryz.underlying61 rfl ti61 (.head _) rfl) fun hs => ?_
      refine sM hs rfl fun hs => sM hs rfl fun hs => ?_
      obtain ⟨x108, hx109, hm⟩ := ob hm
      replace hs := hs.front 2
      replace hs := hs.front 2
      refine zdo (Lr := [.blk cb0 (.cells #[v78] 30 (0,0)), .row v78 42 9 rw79]) (Lf := .blk b104 (.cells #[.string (x87.Name), .string (x87.Text), v94, v99] 61 (0,0)) :: L) hs rfl has50 rfl rfl (slf_ok (f := f75) (a0 := [.string (x87.Name), .string (x87.Text), v94, v99]) (cb0 := cb0) (cb1 := cb1) (R_dom_Part.of (x := x87) ⟨rw95, hR96, hW97⟩ ⟨rw100, hR101, hW102⟩) hW80 hc1 hx109) (.free rfl) (by decide) ?_; clear hs; (try clear a w)
      rintro _ f110 _ a w hf111 ⟨v112, rw113, rfl, rfl, hW114⟩ hs
      replace cv0_0h := cv0_0h.le hf111
      replace hc1 := hf111 _ _ hc1
      replace hbase57 := hbase57.trans hf111
      replace hbase85 := hbase85.trans hf111
      refine sA hs rfl fun hs => za1 <| hK22 <| Ws fun hK23 => Wq fun hK24 => sM hs rfl fun hs => s1 hs (zh5 rfl rfl) fun hs => za1 <| hK24 ?_
      refine zay (fun a w => ∃ (y116 : (List zal)) (v117 : Value) (rw118 : List (List Value)), zf8 q0 y83 (zc3 p0 q0 slf k84) x108 y116 = some res ∧ RW zcg f110 rw118 y116 ∧ St 89 w0 f110 (.blk cb0 (.cells #[v117] 30 (0,0)) :: .row v117 42 9 rw118 :: L) [(3, .pointer (some ⟨cb0,0, none⟩)),(4, .pointer (some ⟨cb1,0, none⟩)),(9, .int .i64 ((q0.Nodes.length : Int))),(14, .int .i64 (x108.1)),(51, v6),(52, .int .i64 ((p0.Kids.length : Int))),(53, .int .i64 (y83))] a w) ?_ ?_
      ·clear hs hm
       rintro a w ⟨y116, v117, rw118, hm, hW119, hs⟩
       unfold zf8 at hm
       refine hK23 <| Wq fun hK25 => sM hs rfl fun hs => sA hs rfl fun hs => za1 <| hK25 <| Wq fun hK26 => s1 (v := .pointer (some ⟨cb0,0, none⟩)) hs (za3 rfl (FO.of (off := 0) Tryz.underlying30 rfl rfl ti28 (by decide))) fun hs => ?_
       refine s1 (v := v117) hs (y_ld rfl Tryz.underlying28 rfl (Cell.blk (.head _) rfl)) fun hs => s1 hs (ze4 (Rd.st hs (.tail _ (.head _))) hW119 rfl Tryz.underlying28) fun hs => s1 hs (zm0 rfl rfl) fun hs => za1 <| hK26 ?_
       refine zag hs rfl (fun hg121 => ?_) (fun hg121 => ?_)
       ·replace hm := oc_t hg121 hm
        refine ze8 <| hO20 _ rfl _ _ <| hB15 _ _ ?_
        exact ⟨_, y116, x108.1, v117, rw118, hbase57, hm, hW119, hs.sub ⟨rfl, rfl, rfl, trivial⟩⟩
       replace hm := oc_f hg121 hm
       refine zak <| hK19 <| za5 <| s1 hs (zga rfl rfl rfl) fun hs => sM hs rfl fun hs => za1 ?_
       exact hK16 k84 _ _ (Nat.lt_succ_self _) ⟨_, y116, x108.1,(w64 (y83 + 1)), v117, rw118, hbase85, hm, hW119, hs.sub ⟨rfl, rfl, rfl, rfl, rfl, rfl, rfl, trivial⟩⟩
      refine zag hs rfl (fun hg122 => ?_) (fun hg122 => ?_)
      ·replace hm := oc_t hg122 hm
       refine za5 <| s1 (v := .pointer (some ⟨cb0,0, none⟩)) hs (za3 rfl (FO.of (off := 0) Tryz.underlying30 rfl rfl ti28 (by decide))) fun hs => s1 (v := v112) hs (y_ld rfl Tryz.underlying28 rfl (Cell.blk (.head _) rfl)) fun hs => sM hs rfl fun hs => sM hs rfl fun hs => ?_
       obtain ⟨x123, hx124, hm⟩ := ob hm
       obtain ⟨r125, hr126, hq127, hi128, hb129⟩ := hW114.geti hx124
       obtain ⟨v130, rfl, ⟨rw131, hR132, hW133⟩⟩ := hq127
       refine s1 hs (zai (Rd.st hs (.tail _ (.head _))) rfl rfl hi128 hb129 Tryz.underlying28 ti42) fun hs => s1 (v := eaddr v112 9 ((q0.Nodes.length : Int).toNat) 5) hs (ze9 (i := (q0.Nodes.length : Int).toNat) (j := 0) (Rd.st hs (.tail _ (.head _))) rfl hb129 (FO.of (off := 5) Tryz.underlying42 rfl rfl ti3 (by decide))) fun hs => ?_
       obtain ⟨x135, hx136, hm⟩ := ob hm
       have hex135 := zjh hx136
       have hW138 := RW.set (i := (q0.Nodes.length : Int).toNat) (r := [.int .i64 (x123.Kind), .string (x123.Name), .string (x123.Text), v130, .int .i64 (x123.Parent), .int .i64 (x108.1), .int .i64 (x123.Last), .int .i64 (x123.Prev), .int .i64 (x123.Next)]) (x := (({x123 with First := x108.1} : zal) : zal)) hW114 (⟨_, rfl, ⟨rw131, hR132, hW133⟩⟩); rw [hex135] at hW138
       refine zgr (i := 1) (j := 5) (m := (q0.Nodes.length : Int).toNat) hs rfl rfl rfl hr126 (by decide) ti3 rfl (.free rfl) fun _ _ hs => ?_
       replace hs : St _ _ _ (.blk cb0 (.cells #[v112] 30 (0,0)) :: .row v112 42 9 (rw113.set ((q0.Nodes.length : Int).toNat) [.int .i64 (x123.Kind), .string (x123.Name), .string (x123.Text), v130, .int .i64 (x123.Parent), .int .i64 (x108.1), .int .i64 (x123.Last), .int .i64 (x123.Prev), .int .i64 (x123.Next)]) :: .blk b104 (.cells #[.string (x87.Name), .string (x87.Text), v94, v99] 61 (0,0)) :: L) _ _ _ := hs
       generalize hgrw137 : rw113.set ((q0.Nodes.length : Int).toNat) [.int .i64 (x123.Kind), .string (x123.Name), .string (x123.Text), v130, .int .i64 (x123.Parent), .int .i64 (x108.1), .int .i64 (x123.Last), .int .i64 (x123.Prev), .int .i64 (x123.Next)] = rw137 at hs hW138; clear hgrw137
       refine za1 ?_
       exact ⟨x135, v112, rw137, hm, hW138, hs.subs ⟨rfl, rfl, rfl, rfl, rfl, rfl, rfl, trivial⟩ (.cons_cons _ (.cons_cons _ (.cons _ (.refl _))))⟩
      replace hm := oc_f hg122 hm
      refine za5 <| s1 (v := .pointer (some ⟨cb0,0, none⟩)) hs (za3 rfl (FO.of (off := 0) Tryz.underlying30 rfl rfl ti28 (by decide))) fun hs => s1 (v := v112) hs (y_ld rfl Tryz.underlying28 rfl (Cell.blk (.head _) rfl)) fun hs => sM hs rfl fun hs => sM hs rfl fun hs => ?_
      obtain ⟨x140, hx141, hm⟩ := ob hm
      obtain ⟨r142, hr143, hq144, hi145, hb146⟩ := hW114.geti hx141
      obtain ⟨v147, rfl, ⟨rw148, hR149, hW150⟩⟩ := hq144
      refine s1 hs (zai (Rd.st hs (.tail _ (.head _))) rfl rfl hi145 hb146 Tryz.underlying28 ti42) fun hs => s1 (v := eaddr v112 9 y82.toNat 8) hs (ze9 (i := y82.toNat) (j := 0) (Rd.st hs (.tail _ (.head _))) rfl hb146 (FO.of (off := 8) Tryz.underlying42 rfl rfl ti3 (by decide))) fun hs => ?_
      obtain ⟨x152, hx153, hm⟩ := ob hm
      have hex152 := zjh hx153
      have hW155 := RW.set (i := y82.toNat) (r := [.int .i64 (x140.Kind), .string (x140.Name), .string (x140.Text), v147, .int .i64 (x140.Parent), .int .i64 (x140.First), .int .i64 (x140.Last), .int .i64 (x140.Prev), .int .i64 (x108.1)]) (x := (({x140 with Next := x108.1} : zal) : zal)) hW114 (⟨_, rfl, ⟨rw148, hR149, hW150⟩⟩); rw [hex152] at hW155
      refine zgr (i := 1) (j := 8) (m := y82.toNat) hs rfl rfl rfl hr143 (by decide) ti3 rfl (.free rfl) fun _ _ hs => ?_
      replace hs : St _ _ _ (.blk cb0 (.cells #[v112] 30 (0,0)) :: .row v112 42 9 (rw113.set y82.toNat [.int .i64 (x140.Kind), .string (x140.Name), .string (x140.Text), v147, .int .i64 (x140.Parent), .int .i64 (x140.First), .int .i64 (x140.Last), .int .i64 (x140.Prev), .int .i64 (x108.1)]) :: .blk b104 (.cells #[.string (x87.Name), .string (x87.Text), v94, v99] 61 (0,0)) :: L) _ _ _ := hs
      generalize hgrw154 : rw113.set y82.toNat [.int .i64 (x140.Kind), .string (x140.Name), .string (x140.Text), v147, .int .i64 (x140.Parent), .int .i64 (x140.First), .int .i64 (x140.Last), .int .i64 (x140.Prev), .int .i64 (x108.1)] = rw154 at hs hW155; clear hgrw154
      refine za1 ?_
      exact ⟨x152, v112, rw154, hm, hW155, hs.subs ⟨rfl, rfl, rfl, rfl, rfl, rfl, rfl, trivial⟩ (.cons_cons _ (.cons_cons _ (.cons _ (.refl _))))⟩
     replace hm := oc_f hg86 hm
     refine ze8 <| hB15 _ _ ?_
     exact ⟨_, y77, y82, v78, rw79, hbase57, hm, hW80, hs.sub ⟨rfl, rfl, rfl, trivial⟩⟩
   refine za5 <| s1 (v := .pointer (some ⟨cb0,0, none⟩)) hs (za3 rfl (FO.of (off := 0) Tryz.underlying30 rfl rfl ti28 (by decide))) fun hs => s1 (v := v44) hs (y_ld rfl Tryz.underlying28 rfl (Cell.blk (.tail _ (.tail _ (.head _))) rfl)) fun hs => s1 hs (ze4 (Rd.st hs (.tail _ (.tail _ (.tail _ (.head _))))) hW46 rfl Tryz.underlying28) fun hs => s1 hs (zm0 rfl rfl) fun hs => sM hs rfl fun hs => ?_
   refine St.split hs (t := 44) rfl (fun hg157 hs => ?_) (fun hg157 hs => ?_)
   ·refine s3 hs fun hs => s3 hs fun hs => s3 hs fun hs => sP hs rfl rfl fun hs => za1 ?_
    exact hs.sub ⟨rfl, rfl, rfl, rfl,(lkB (((or_t hg157).trans rfl)) rfl), trivial⟩
   refine s2 (v := .pointer (some ⟨b15,0, none⟩)) hs (za3 rfl (FO.of (off := 0) Tryz.underlying61 rfl rfl ti9 (by decide))) fun hs => s2 (v := .string (p0.Name)) hs (y_ld rfl Tryz.underlying9 rfl (Cell.blk (.tail _ (.head _)) rfl)) fun hs => s2 hs (zfr rfl rfl) fun hs => sP hs rfl rfl fun hs => za1 ?_
   exact hs.sub ⟨rfl, rfl, rfl, rfl,(lkB (((or_f hg157).trans rfl)) rfl), trivial⟩
  refine zag hs rfl (fun hg158 => ?_) (fun hg158 => ?_)
  ·replace hm := oc_t hg158 hm
   have hsD := hs.subL (L' := .blk b15 (.cells #[.string (p0.Name), .string (p0.Text), v1, v6] 61 (0,0)) :: []) (.cons _ (.cons_cons _ (.cons _ (.cons _ (List.nil_sublist _)))))
   have hbd159 := Fz.le.refl f17
   refine zhu hs (.blk b15 (.cells #[.string (p0.Name), .string (p0.Text), v1, v6] 61 (0,0)) :: []) [7] (.look 0 (.look 1 (.look 2 (.any [3] (fun _ => .look 4 (.any [5] (fun _ => .look 6 (.any [7] (fun _ => .done))))))))) mixed (by kernel_rfl) fun _ he => uy (v := .pointer (some ⟨b15,1, none⟩)) 0 he rfl (za3 rfl (FO.of (off := 1) Tryz.underlying61 rfl rfl ti9 (by decide))) fun _ he => uy (v := .string (p0.Text)) 1 he rfl (y_ld rfl Tryz.underlying9 rfl (Cell.blk (.head _) rfl)) fun _ he => uy (v := .pointer (some ⟨b20,0, none⟩)) 2 he rfl (za3 rfl (FO.of (off := 0) Tryz.underlying42 rfl rfl ti3 (by decide))) fun _ he => ?_
   refine zd1 he rfl ?_; clear he; (try clear a); intro a w hs
   refine sstore 0 hs rfl rfl rfl ti3 rfl fun _ _ hs => uon hs fun _ he => uy (v := .pointer (some ⟨b20,2, none⟩)) 4 he rfl (za3 rfl (FO.of (off := 2) Tryz.underlying42 rfl rfl ti9 (by decide))) fun _ he => ?_
   refine zd1 he rfl ?_; clear he; (try clear a); intro a w hs
   refine sstore 0 hs rfl rfl rfl ti9 rfl fun _ _ hs => uon hs fun _ he => uy (v := .pointer (some ⟨b20,3, none⟩)) 6 he rfl (za3 rfl (FO.of (off := 3) Tryz.underlying42 rfl rfl ti25 (by decide))) fun _ he => ?_
   refine zd1 he rfl ?_; clear he; (try clear a); intro a w hs
   refine sstore 0 hs rfl rfl rfl ti25 rfl fun _ _ hs => uend hs fun _ he => ?_
   refine zmj he ?_; clear he; (try clear a); intro w hs; try clear hsD
   exact ⟨({Kind := 2, Name := p0.Name, Text := p0.Text, Attrs := ([] : List zam), Parent := p1, First := (-1), Last := (-1), Prev := p2, Next := (-1)} : zal),[.int .i64 (2), .string (p0.Name), .string (p0.Text),(.slice none 0 0), .int .i64 (p1), .int .i64 ((-1)), .int .i64 ((-1)), .int .i64 (p2), .int .i64 ((-1))], hm, ⟨_, rfl, RS.nil⟩, hs.sub ⟨rfl, rfl, rfl, rfl, rfl, trivial⟩⟩
  replace hm := oc_f hg158 hm
  refine zak ?_
  exact ⟨({Kind := 1, Name := p0.Name, Text := (bs []), Attrs := y21, Parent := p1, First := (-1), Last := (-1), Prev := p2, Next := (-1)} : zal),[.int .i64 (1), .string (p0.Name), .string ((bs [])), v22, .int .i64 (p1), .int .i64 ((-1)), .int .i64 ((-1)), .int .i64 (p2), .int .i64 ((-1))], hm, ⟨_, rfl, ⟨rw24, hR25, hW26⟩⟩, hs.sub ⟨rfl, rfl, rfl, rfl, rfl, trivial⟩⟩
 have hsD := hs.subL (L' := .blk b15 (.cells #[.string (p0.Name), .string (p0.Text), v1, v6] 61 (0,0)) :: []) (.cons_cons _ (.cons _ (.cons _ (List.nil_sublist _))))
 have hbd161 := Fz.le.refl f
 refine zhu hs (.blk b15 (.cells #[.string (p0.Name), .string (p0.Text), v1, v6] 61 (0,0)) :: []) [9] (.look 0 (.look 1 (.look 2 (.look 3 (.look 5 (.look 6 (.any [4,8] (fun i => bif Nat.beq i 4 then .look 7 (.any [8] (fun _ => .any [9] (fun _ => .done))) else .any [4] (fun _ => .look 7 (.any [9] (fun _ => .done))))))))))) mixed (by kernel_rfl) fun _ he => uy (v := .pointer (some ⟨b15,0, none⟩)) 0 he rfl (za3 rfl (FO.of (off := 0) Tryz.underlying61 rfl rfl ti9 (by decide))) fun _ he => uy (v := .string (p0.Name)) 1 he rfl (y_ld rfl Tryz.underlying9 rfl (Cell.blk (.head _) rfl)) fun _ he => uy (v := .pointer (some ⟨b15,2, none⟩)) 2 he rfl (za3 rfl (FO.of (off := 2) Tryz.underlying61 rfl rfl ti25 (by decide))) fun _ he => uy (v := v1) 3 he rfl (y_ld rfl Tryz.underlying25 rfl (Cell.blk (.head _) rfl)) fun _ he => uy (v := .int .i64 (p1)) 5 he rfl (za9 rfl) fun _ he => uy (v := .int .i64 (p2)) 6 he rfl (za9 rfl) fun _ he => ?_
 refine T_any2 he rfl rfl ?_ ?_ <;> (clear he; (try clear a); intro a w hs)
 ·obtain ⟨x162, hx163, hm⟩ := ob hm
  refine zi2 hs rfl has51 rfl (zhq n ⟨rw2, hR3, hW4⟩ hx163) ?_; clear hs; (try clear a w)
  rintro v166 f164 _ a w hf165 ⟨_, rfl, rfl, ⟨rw167, hR168, hW169⟩⟩ hs
  have hR170 := hR3.le hf165
  have hW171 := hW4.le hf165
  have hR172 := hR8.le hf165
  have hW173 := hW9.le hf165
  have cv174 := cv0_0h.le hf165
  have hc175 := hf165 _ _ hc1
  replace hbase28 := hbase28.trans hf165
  refine uon hs fun _ he => uy 7 he rfl (zea (places := [(0,1),(1,1),(2,1),(3,1),(4,1),(5,1),(6,1),(7,1),(8,1)]) (cs := [.int .i64 (1), .string (p0.Name), .string ((bs [])), v166, .int .i64 (p1), .int .i64 ((-1)), .int .i64 ((-1)), .int .i64 (p2), .int .i64 ((-1))]) rfl Tryz.underlying42 ti42 (by kernel_rfl) (by decide) rfl ⟨rfl, rfl, hR168.one, rfl, rfl, rfl, rfl, rfl, trivial⟩) fun _ he => ?_
  refine zd1 he rfl ?_; clear he; (try clear a); intro a w hs
  refine zd3 hs ti42 (.free rfl) (by decide) fun b178 _ _ hs => uon hs fun _ he => ?_
  refine zd1 he rfl ?_; clear he; (try clear a); intro a w hs
  refine zbe (i := 0) hs rfl rfl rfl ti42 ⟨rfl, rfl⟩ (AllC.arr (r := [.int .i64 (1), .string (p0.Name), .string ((bs [])), v166, .int .i64 (p1), .int .i64 ((-1)), .int .i64 ((-1)), .int .i64 (p2), .int .i64 ((-1))]) ⟨rfl, rfl, rfl, hR168.one, rfl, rfl, rfl, rfl, rfl, trivial⟩) (.free rfl) fun _ _ hs => uend hs fun _ he => ?_
  refine zmj he ?_; clear he; (try clear a); intro w hs; try clear hsD
  exact ⟨_, x162, b178, v166, hbase28, hm, ⟨rw167, hR168, hW169⟩, hs.sub ⟨rfl, rfl, rfl, rfl, rfl, trivial⟩⟩
 refine zd3 hs ti42 (.free rfl) (by decide) fun b181 _ _ hs => uon hs fun _ he => ?_
 refine zd1 he rfl ?_; clear he; (try clear a); intro a w hs
 obtain ⟨x184, hx185, hm⟩ := ob hm
 refine zi2 hs rfl has51 rfl (zhq n ⟨rw2, hR3, hW4⟩ hx185) ?_; clear hs; (try clear a w)
 rintro v188 f186 _ a w hf187 ⟨_, rfl, rfl, ⟨rw189, hR190, hW191⟩⟩ hs
 have hR192 := hR3.le hf187
 have hW193 := hW4.le hf187
 have hR194 := hR8.le hf187
 have hW195 := hW9.le hf187
 have cv196 := cv0_0h.le hf187
 have hc197 := hf187 _ _ hc1
 replace hbase28 := hbase28.trans hf187
 refine uon hs fun _ he => uy 7 he rfl (zea (places := [(0,1),(1,1),(2,1),(3,1),(4,1),(5,1),(6,1),(7,1),(8,1)]) (cs := [.int .i64 (1), .string (p0.Name), .string ((bs [])), v188, .int .i64 (p1), .int .i64 ((-1)), .int .i64 ((-1)), .int .i64 (p2), .int .i64 ((-1))]) rfl Tryz.underlying42 ti42 (by kernel_rfl) (by decide) rfl ⟨rfl, rfl, hR190.one, rfl, rfl, rfl, rfl, rfl, trivial⟩) fun _ he => ?_
 refine zd1 he rfl ?_; clear he; (try clear a); intro a w hs
 refine zbe (i := 0) hs rfl rfl rfl ti42 ⟨rfl, rfl⟩ (AllC.arr (r := [.int .i64 (1), .string (p0.Name), .string ((bs [])), v188, .int .i64 (p1), .int .i64 ((-1)), .int .i64 ((-1)), .int .i64 (p2), .int .i64 ((-1))]) ⟨rfl, rfl, rfl, hR190.one, rfl, rfl, rfl, rfl, rfl, trivial⟩) (.free rfl) fun _ _ hs => uend hs fun _ he => ?_
 refine zmj he ?_; clear he; (try clear a); intro w hs; try clear hsD
 exact ⟨_, x184, b181, v188, hbase28, hm, ⟨rw189, hR190, hW191⟩, hs.sub ⟨rfl, rfl, rfl, rfl, rfl, trivial⟩⟩
theorem zlr : ∀ (n : Nat) {f : Fz} {p0 : zah} {a0 : List Value} {p1 : Int} {p2 : Int} {cb0 : Nat} {q0 : zad} {cv0_0 : Value} {cv0_0r : List (List Value)} {cb1 : Nat} {res : (Int × zad)} (h0 : zcv.R f a0 p0) (cv0_0h : RW zcg f cv0_0r q0.Nodes) (hc1 : f cb1 = some (.cells #[.func (.func 50) #[] #[.pointer (some ⟨cb0,0, none⟩), .pointer (some ⟨cb1,0, none⟩)]] 88 (0,0))) (_ : zeo n p0 p1 p2 q0 = some res), Does Tryz.prog 50 [.agg a0.toArray, .int .i64 p1, .int .i64 p2, .pointer (some ⟨cb0,0, none⟩), .pointer (some ⟨cb1,0, none⟩)] f [.blk cb0 (.cells #[cv0_0] 30 (0,0)), .row cv0_0 42 9 cv0_0r] (fun r f' L' => ∃ (dv0_0 : Value) (dv0_0r : List (List Value)), L' = [.blk cb0 (.cells #[dv0_0] 30 (0,0)), .row dv0_0 42 9 dv0_0r] ∧ r = .int .i64 res.1 ∧ RW zcg f' dv0_0r res.2.Nodes)
  | 0, f, p0, a0, p1, p2, cb0, q0, cv0_0, cv0_0r, cb1, res, h0, cv0_0h, hc1, hm => by simp [zeo] at hm
  | n + 1, f, p0, a0, p1, p2, cb0, q0, cv0_0, cv0_0r, cb1, res, h0, cv0_0h, hc1, hm => zoo n (zlr n) h0 cv0_0h hc1 hm
def zls (n : Nat) (p0 : zah) : Option (zad × Int) :=
  (zeo n p0 (-1) (-1) ({Nodes := ([] : List zal)} : zad)).bind fun x24 =>
  (dom_Right n x24.2).bind fun x36 =>
  (bif (decide (x36 ≠ 0)) then some (({Nodes := ([] : List zal)} : zad), x36) else
  some (x24.2,0))
theorem zsj (n : Nat) {f : Fz} {p0 : zah} {a0 : List Value} {res : (zad × Int)} (h0 : zcv.R f a0 p0) (hm : zls n p0 = some res) : Does Tryz.prog 18 [.agg a0.toArray] f [] (fun r f' L' => ∃ (u0 : List Value), L' = [] ∧ r = .tuple #[.agg u0.toArray, .int .i64 res.2] ∧ zih.R f' u0 res.1) := by
 unfold zls at hm
 intro w0 L w hC
 obtain ⟨v1, v6, rfl, ⟨rw2, hR3, hW4⟩, ⟨rw7, hR8, hW9⟩⟩ := R_dom_Part.ex h0
 refine enter Tryz.func18 rfl Tryz.ntmps18 (by simp) hC fun a hs => ?_
 have hle := Fz.le.refl f
 refine Wq fun hK1 => sbox hs rfl fun b11 _ _ hs => zd3 hs ti30 (.free rfl) (by decide) fun b13 _ _ hs => sA hs rfl fun hs => za1 <| hK1 <| Wq fun hK2 => zd3 hs ti30 (.free rfl) (by decide) fun b16 _ _ hs => ?_
 refine za1 <| hK2 <| Wq fun hK3 => zd3 hs ti88 (.free rfl) (by decide) fun b19 _ _ hs => ?_
 replace hs : St _ _ _ (.blk b19 (.cells #[.nilFunc] 88 (0,0)) :: .blk b16 (.cells #[(.slice none 0 0)] 30 (0,0)) :: .blk b13 (.cells #[(.slice none 0 0)] 30 (0,0)) :: .blk b11 (.cells #[.string (p0.Name), .string (p0.Text), v1, v6] 61 (0,0)) :: L) _ _ _ := hs
 refine za1 <| hK3 <| Wq fun hK4 => s1 hs (zos rfl) fun hs => sstore 0 hs rfl rfl rfl ti88 rfl fun _ _ hs => za1 <| hK4 <| Ws fun hK5 => za5 ?_
 refine s1 (v := .func (.func 50) #[] #[.pointer (some ⟨b16,0, none⟩), .pointer (some ⟨b19,0, none⟩)]) hs (y_ld rfl Tryz.underlying88 rfl (Cell.blk (.head _) rfl)) fun hs => s1 hs (zp7 rfl Tryz.underlying61 rfl ti61 (.tail _ (.tail _ (.tail _ (.head _)))) rfl) fun hs => ?_
 obtain ⟨f21, hf22, hs2, hB23⟩ := hs.frzB 0 rfl
 clear hs; have hs := hs2; clear hs2
 replace hR3 := hR3.le hf22
 replace hW4 := hW4.le hf22
 replace hR8 := hR8.le hf22
 replace hW9 := hW9.le hf22
 replace hle := hle.trans hf22
 obtain ⟨x24, hx25, hm⟩ := ob hm
 replace hs := hs.nilRow 42 9
 have hW26 : RW zcg f21 [] ([] : List zal) := trivial
 generalize hgrw27 : ([] : List (List Value)) = rw27 at hs hW26; clear hgrw27
 replace hs := hs.front 0
 replace hs := hs.front 1
 refine zdo (Lr := [.blk b16 (.cells #[(.slice none 0 0)] 30 (0,0)), .row (.slice none 0 0) 42 9 rw27]) (Lf := .blk b13 (.cells #[(.slice none 0 0)] 30 (0,0)) :: .blk b11 (.cells #[.string (p0.Name), .string (p0.Text), v1, v6] 61 (0,0)) :: L) hs rfl has50 rfl rfl (zlr n (R_dom_Part.of (x := p0) ⟨rw2, hR3, hW4⟩ ⟨rw7, hR8, hW9⟩) hW26 hB23 hx25) (.free rfl) (by decide) ?_; clear hs; (try clear a w)
 rintro _ f30 _ a w hf31 ⟨v32, rw33, rfl, rfl, hW34⟩ hs
 replace hB23 := hf31 _ _ hB23
 replace hle := hle.trans hf31
 refine za1 <| hK5 <| Ws fun hK6 => Wq fun hK7 => s1 hs (zp7 rfl Tryz.underlying30 rfl ti30 (.head _) rfl) fun hs => ?_
 obtain ⟨x36, hx37, hm⟩ := ob hm
 refine sy hs (zds (cap := []) rfl has52 rfl (fun w9 hw9 => callsP (Lr := [.row v32 42 9 rw33]) (Lf := .blk b16 (.cells #[v32] 30 (0,0)) :: .blk b13 (.cells #[(.slice none 0 0)] 30 (0,0)) :: .blk b11 (.cells #[.string (p0.Name), .string (p0.Text), v1, v6] 61 (0,0)) :: L) (zae _ 1 rfl) hw9 (fun Lz w9 hw9 => lent0 hw9 (fun f9_0 w9 hle9_0 hRl0 hw9 => (dom_Right_ok n ⟨_, rfl, ⟨rw33, hRl0, hW34.le hle9_0⟩⟩ hx37) w0 _ w9 hw9)))) fun _ _ hs => sA hs rfl fun hs => za1 <| hK7 <| Wq fun hK8 => sM hs rfl fun hs => s1 hs (zje rfl rfl) fun hs => za1 <| hK8 ?_
 refine zag hs rfl (fun hg38 => ?_) (fun hg38 => ?_)
 ·replace hm := oc_t hg38 hm
  refine Wq fun hK9 => s1 hs (zea (places := [(0,1)]) (cs := [(.slice none 0 0)]) rfl Tryz.underlying30 ti30 (by kernel_rfl) (by decide) rfl trivial) fun hs => sM hs rfl fun hs => zbe (i := 2) hs rfl rfl rfl ti30 ⟨rfl, rfl⟩ (AllC.arr (r := [(.slice none 0 0)]) ⟨rfl, trivial⟩) (.free rfl) fun _ _ hs => sA hs rfl fun hs => za1 <| hK9 <| zbl ?_
  obtain rfl := Option.some.inj hm
  refine RtV2 hs rfl (rv_a hs rfl Tryz.underlying30 rfl ti30 (fun j u hj => Cell.blk (.tail _ (.tail _ (.head _))) hj) rfl) (rv_t hs rfl) ?_
  exact ⟨_, f30,[], rfl, hle,(hs.subL (.cons _ (.cons _ (.cons _ (.cons _ (.refl _)))))).cw,[(.slice none 0 0)], rfl, rfl, ⟨_, rfl, RS.nil⟩⟩
 replace hm := oc_f hg38 hm
 refine zak <| hK6 <| Wq fun hK10 => s1 hs (zp7 rfl Tryz.underlying30 rfl ti30 (.head _) rfl) fun hs => zbe (i := 2) hs rfl rfl rfl ti30 ⟨rfl, rfl⟩ (AllC.arr (r := [v32]) ⟨(hs.one (i := 1) rfl), trivial⟩) (.free rfl) fun _ _ hs => sA hs rfl fun hs => za1 <| hK10 <| zbl ?_
 obtain ⟨f40, hf41, hs2, hR42⟩ := hs.frzAt 1 rfl
 clear hs; have hs := hs2; clear hs2
 replace hB23 := hf41 _ _ hB23
 replace hW34 := hW34.le hf41
 replace hle := hle.trans hf41
 obtain rfl := Option.some.inj hm
 refine RtV2 hs rfl (rv_a hs rfl Tryz.underlying30 rfl ti30 (fun j u hj => Cell.blk (.tail _ (.head _)) hj) rfl) (rv_t hs rfl) ?_
 exact ⟨_, f40,[], rfl, hle,(hs.subL (.cons _ (.cons _ (.cons _ (.refl _))))).cw,[v32], rfl, rfl, ⟨_, rfl, ⟨rw33, hR42, hW34⟩⟩⟩
end Go.Proofs.YtdjjeahiomackaaGreat
