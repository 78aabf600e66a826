/-
  Walks and laws of this seat.
-/
import Derived.Test.YtpfdbeafdjnbnaaGreatDoorX0
import Derived.Test.YtpfdbeafdjnbnaaGreatDoorBash
import Derived.Test.YtpfdbeafdjnbnaaGreatDoorL7a
import Derived.Test.YtpfdbeafdjnbnaaGreatDoorRows
namespace Go.Sl
set_option linter.unusedVariables false
set_option linter.unusedSimpArgs false
set_option linter.unusedSectionVars false
open Go.RowKit
section
variable {P : Program} {w : World} {n : Nat} {E : List (Nat × Value)} {C : World → Prop}
variable {d : Option Tmp} {ty : TypeId} {pos : String} {af : Array Edge} {g : Option (Nat × Bool)}
theorem zsf {t e : TypeId} {ao : Option Addr} {l c : Nat} (ht : P.underlying t = some (.slice e)) : (Op.equal t (.slice ao l c) (.slice none 0 0)).run P w = .ok ao.isNone w := by
  cases ao with
  | none => exact zha (fun d => by simp [Op.equalIn, run_underlying ht]) rfl
  | some a => exact zha (fun d => by simp [Op.equalIn, run_underlying ht]) rfl
theorem zu3 {x y : Operand} {t t' e : TypeId} {ao : Option Addr} {l c : Nat} (hx : opv E x = some (.slice ao l c)) (hy : opv E y = some (.slice none 0 0)) (ht : P.underlying t = some (.slice e)) :
    Y P C n E ⟨d, .binOp .eql t x y t', ty, pos, af, g⟩ (.bool ao.isNone) :=
  .of fun a ha w _ => by
    simp only [execOp, ha.eval hx, ha.eval hy, eqGuard, binOp, Sem.run_bind, Sem.run_pure, zsf ht, Result.andThen_ok]
    rfl
end
end Go.Sl
namespace Go.Proofs.YtpfdbeafdjnbnaaGreatDoor
set_option linter.unusedVariables false
set_option linter.unusedSimpArgs false
set_option linter.unusedSectionVars false
section
open Go.RowKit Go.Sl
def zi6 (_ : Nat) (p0 : List zab) : Option (List zab) := appM 32 [] p0
theorem ziq (n : Nat) {f : Fz} {p0 : List zab} {a0 : Value} {res : List zab} (h0 : RS zbv f a0 p0) (hm : zi6 n p0 = some res) :
    Does Tryz.prog 33 [a0] f [] (fun r f' L' => ∃ (u0 : Value), L' = [] ∧ r = u0 ∧ RS zbv f' u0 res) := by
  intro w0 L w hC
  obtain ⟨rw1, hR1, hW1⟩ := h0
  obtain ⟨hb, he⟩ := zcb hm
  have hR' := hR1
  obtain ⟨_, ao, cap, rfl, _, hnil, _⟩ := hR'
  refine enter Tryz.func33 rfl Tryz.ntmps33 (by simp) hC fun a hs => ?_
  refine zai fun K1 hK1 => ?_
  refine za2 ?_
  refine sy hs (za9 rfl) fun _ _ hs => ?_
  refine za0 ?_
  refine hK1 _ _ ?_; clear hK1
  refine zai fun K1 hK1 => ?_
  refine zai fun K2 hK2 => ?_
  refine za2 ?_
  refine sy hs (za3 rfl) fun _ _ hs => ?_
  refine sy hs (zu3 rfl rfl U43) fun _ _ hs => ?_
  refine za0 ?_
  refine hK2 _ _ ?_; clear hK2
  refine zah hs rfl (fun hg => ?_) (fun hg => ?_)
  · refine zai fun K2 hK2 => ?_
    refine za2 ?_
    refine sy hs (za9 rfl) fun _ _ hs => ?_
    refine za0 ?_
    refine hK2 _ _ ?_; clear hK2
    refine zax ?_
    have hao : ao = none := by simpa using hg
    have hp : p0 = [] := by
      have h1 := hnil hao
      rw [h1] at hW1
      cases p0 with
      | nil => rfl
      | cons x p => exact hW1.elim
    subst hp
    subst he
    refine RtV1 hs rfl (rv_t hs rfl) ?_
    exact ⟨_, f,[], rfl, .refl f, hs.cw, _, rfl, rfl, RS.nil⟩
  · refine zaj ?_
    refine hK1 _ _ ?_; clear hK1
    refine zai fun K2 hK2 => ?_
    refine za2 ?_
    refine zvx hs U43 ti42 fun v1 _ _ hs => ?_
    refine sy hs (za3 rfl) fun _ _ hs => ?_
    refine zc9 (i := 0) hs rfl rfl rfl hR1.up U43 ti42 (by decide) (by rw [hW1.len]; exact hb) (.free rfl) (by decide) fun v2 _ _ hs => ?_
    refine sy hs (za9 rfl) fun _ _ hs => ?_
    refine za0 ?_
    refine hK2 _ _ ?_; clear hK2
    refine zax ?_
    obtain ⟨f2, hf2, hs, hR2⟩ := hs.frz
    refine RtV1 hs rfl (rv_t hs rfl) ?_
    refine ⟨_, f2,[], rfl, hf2, hs.cw, _, rfl, rfl,([] ++ rw1), hR2, ?_⟩
    rw [← he]
    exact hW1.le hf2
end
section
set_option maxHeartbeats 4000000
set_option maxRecDepth 100000
open Go.RowKit Go.Sl
def zhn (q0 : zaa) (y51 : (List zae)) (y56 : Int) : Option (Int × zaa) :=
  (geti y51 (q0.Nodes.length : Int)).bind fun x58 =>
  (seti y51 (q0.Nodes.length : Int) ({x58 with Last := y56} : zae)).bind fun x70 =>
  some ((q0.Nodes.length : Int),({Nodes := x70} : zaa))
def zgl (q0 : zaa) (y83 : Int) (lp84 : (List zae) → Int → Int → Option (Int × zaa)) (x108 : (Int × zaa)) (y116 : (List zae)) : Option (Int × zaa) :=
  (bif (decide (4096 < (y116.length : Int))) then zhn q0 y116 x108.1 else
  lp84 y116 x108.1 (w64 (y83 + 1)))
def zdm (p0 : za8) (q0 : zaa) (slf : za8 → Int → Int → zaa → Option (Int × zaa)) : Nat → (List zae) → Int → Int → Option (Int × zaa)
  | 0, _, _, _ => none
  | k84 + 1, y77, y82, y83 =>
  (bif (decide (y83 < (p0.Kids.length : Int))) then (geti p0.Kids y83).bind fun x87 =>
  (slf x87 (q0.Nodes.length : Int) y82 ({Nodes := y77} : zaa)).bind fun x108 =>
  (bif (decide (y82 = (-1))) then (geti x108.2.Nodes (q0.Nodes.length : Int)).bind fun x123 =>
  (seti x108.2.Nodes (q0.Nodes.length : Int) ({x123 with First := x108.1} : zae)).bind fun x135 =>
  zgl q0 y83 (zdm p0 q0 slf k84) x108 x135 else
  (geti x108.2.Nodes y82).bind fun x140 =>
  (seti x108.2.Nodes y82 ({x140 with Next := x108.1} : zae)).bind fun x152 =>
  zgl q0 y83 (zdm p0 q0 slf k84) x108 x152) else
  zhn q0 y77 y82)
def zgm (n : Nat) (p0 : za8) (q0 : zaa) (slf : za8 → Int → Int → zaa → Option (Int × zaa)) (y29 : zae) : Option (Int × zaa) :=
  (appM 104 q0.Nodes [y29]).bind fun x42 =>
  (bif ((decide (4096 < (x42.length : Int))) || (decide (p0.Name = (bs [])))) then some ((q0.Nodes.length : Int),({Nodes := x42} : zaa)) else
  zdm p0 q0 slf n x42 (-1) 0)
def zim (n : Nat) (p0 : za8) (p1 : Int) (p2 : Int) (q0 : zaa) (slf : za8 → Int → Int → zaa → Option (Int × zaa)) (y21 : (List zab)) : Option (Int × zaa) :=
  (bif (decide (p0.Name = (bs []))) then zgm n p0 q0 slf ({Kind := 2, Name := p0.Name, Text := p0.Text, Attrs := ([] : List zab), Parent := p1, First := (-1), Last := (-1), Prev := p2, Next := (-1)} : zae) else
  zgm n p0 q0 slf ({Kind := 1, Name := p0.Name, Text := (bs []), Attrs := y21, Parent := p1, First := (-1), Last := (-1), Prev := p2, Next := (-1)} : zae))
def zj8 (slf : za8 → Int → Int → zaa → Option (Int × zaa)) (n : Nat) (p0 : za8) (p1 : Int) (p2 : Int) (q0 : zaa) : Option (Int × zaa) :=
  (zi6 n p0.Attrs).bind fun x162 =>
  zim n p0 p1 p2 q0 slf x162
def zgn : Nat → za8 → Int → Int → zaa → Option (Int × zaa)
  | 0, _, _, _, _ => none
  | n + 1, p0, p1, p2, q0 => zj8 (zgn n) n p0 p1 p2 q0
theorem zon {slf : za8 → Int → Int → zaa → Option (Int × zaa)} (n : Nat) (slf_ok : ∀ {f : Fz} {p0 : za8} {a0 : List Value} {p1 : Int} {p2 : Int} {cb0 : Nat} {q0 : zaa} {cv0_0 : Value} {cv0_0r : List (List Value)} {cb1 : Nat} {res : (Int × zaa)} (_ : zcy.R f a0 p0) (_ : RW zcr f cv0_0r q0.Nodes) (_ : f cb1 = some (.cells #[.func (.func 32) #[] #[pq cb0 0, pq cb1 0]] 72 (0,0))) (_ : slf p0 p1 p2 q0 = some res), Does Tryz.prog 32 [.agg a0.toArray, .int .i64 p1, .int .i64 p2, pq cb0 0, pq cb1 0] f [.blk cb0 (.cells #[cv0_0] 30 (0,0)), .row cv0_0 53 9 cv0_0r] (fun r f' L' => ∃ (dv0_0 : Value) (dv0_0r : List (List Value)), L' = [.blk cb0 (.cells #[dv0_0] 30 (0,0)), .row dv0_0 53 9 dv0_0r] ∧ r = .int .i64 res.1 ∧ RW zcr f' dv0_0r res.2.Nodes)) {f : Fz} {p0 : za8} {a0 : List Value} {p1 : Int} {p2 : Int} {cb0 : Nat} {q0 : zaa} {cv0_0 : Value} {cv0_0r : List (List Value)} {cb1 : Nat} {res : (Int × zaa)} (h0 : zcy.R f a0 p0) (cv0_0h : RW zcr f cv0_0r q0.Nodes) (hc1 : f cb1 = some (.cells #[.func (.func 32) #[] #[pq cb0 0, pq cb1 0]] 72 (0,0))) (hm : zj8 slf n p0 p1 p2 q0 = some res) : Does Tryz.prog 32 [.agg a0.toArray, .int .i64 p1, .int .i64 p2, pq cb0 0, pq cb1 0] f [.blk cb0 (.cells #[cv0_0] 30 (0,0)), .row cv0_0 53 9 cv0_0r] (fun r f' L' => ∃ (dv0_0 : Value) (dv0_0r : List (List Value)), L' = [.blk cb0 (.cells #[dv0_0] 30 (0,0)), .row dv0_0 53 9 dv0_0r] ∧ r = .int .i64 res.1 ∧ RW zcr f' dv0_0r res.2.Nodes) := by
 unfold zj8 at hm
 intro w0 L w hC
 replace hC : Cw w0 f (.blk cb0 (.cells #[cv0_0] 30 (0,0)) :: .row cv0_0 53 9 cv0_0r :: L) w := hC
 obtain ⟨v1, v6, rfl, ⟨rw2, hR3, hW4⟩, ⟨rw7, hR8, hW9⟩⟩ := R_dom_Part.ex h0
 refine enter Tryz.func32 rfl Tryz.ntmps32 (by simp) hC fun a hs => ?_
 have hle := Fz.le.refl f
 refine Wq fun hK1 => sbox hs rfl fun b15 _ _ hs => sA hs rfl fun hs => za0 <| hK1 <| Wq fun hK2 => s1 (v := pq cb0 0) hs (za1 rfl (FO.of (off := 0) U30 rfl rfl ti28 (by decide))) fun hs => s1 (v := cv0_0) hs (y_ld rfl U28 rfl (Cell.blk (.tail _ (.head _)) rfl)) fun hs => ?_
 refine s1 hs (zc3 (Rd.st hs (.tail _ (.tail _ (.head _)))) cv0_0h rfl U28) fun hs => sA hs rfl fun hs => za0 <| hK2 <| Ws fun hK3 => ?_
 have hbase28 := Fz.le.refl f
 refine zaq (fun a w => ∃ (f17 : Fz) (y21 : (List zab)) (b20 : Nat) (v22 : Value), Fz.le f f17 ∧ zim n p0 p1 p2 q0 slf y21 = some res ∧ RS zbv f17 v22 y21 ∧ St 89 w0 f17 (.blk b20 (.cells #[.int .i64 (1), .string (p0.Name), .string ((bs [])), v22, .int .i64 (p1), .int .i64 ((-1)), .int .i64 ((-1)), .int .i64 (p2), .int .i64 ((-1))] 53 (0,0)) :: .blk b15 (.cells #[.string (p0.Name), .string (p0.Text), v1, v6] 46 (0,0)) :: .blk cb0 (.cells #[cv0_0] 30 (0,0)) :: .row cv0_0 53 9 cv0_0r :: L) [(3, pq cb0 0),(4, pq cb1 0),(5, pq b15 0),(9, .int .i64 ((q0.Nodes.length : Int))),(10, pq b20 0)] a w) ?_ ?_
 ·clear hs hm
  clear hbase28
  rintro a w ⟨f17, y21, b20, v22, hl18, hm, hs23, hs⟩
  replace hR8 := hR8.le hl18
  replace hW9 := hW9.le hl18
  replace cv0_0h := cv0_0h.le hl18
  replace hc1 := hl18 _ _ hc1
  replace hle := hle.trans hl18
  obtain ⟨rw24, hR25, hW26⟩ := hs23
  unfold zim at hm
  refine hK3 <| Ws fun hK4 => Wq fun hK5 => s1 (v := pq b15 0) hs (za1 rfl (FO.of (off := 0) U46 rfl rfl ti9 (by decide))) fun hs => s1 (v := .string (p0.Name)) hs (y_ld rfl U9 rfl (Cell.blk (.tail _ (.head _)) rfl)) fun hs => s1 hs (zcs rfl rfl) fun hs => za0 <| hK5 ?_
  refine zaq (fun a w => ∃ (y29 : zae) (r30 : List Value), zgm n p0 q0 slf y29 = some res ∧ zcr.R f17 r30 y29 ∧ St 89 w0 f17 (.blk b20 (.cells r30.toArray 53 (0,0)) :: .blk b15 (.cells #[.string (p0.Name), .string (p0.Text), v1, v6] 46 (0,0)) :: .blk cb0 (.cells #[cv0_0] 30 (0,0)) :: .row cv0_0 53 9 cv0_0r :: L) [(3, pq cb0 0),(4, pq cb1 0),(5, pq b15 0),(9, .int .i64 ((q0.Nodes.length : Int))),(10, pq b20 0)] a w) ?_ ?_
  ·clear hs hm
   rintro a w ⟨y29, r30, hm, hq31, hs⟩
   obtain ⟨v32, rfl, ⟨rw33, hR34, hW35⟩⟩ := hq31
   unfold zgm at hm
   refine hK4 <| Wq fun hK6 => s1 (v := pq cb0 0) hs (za1 rfl (FO.of (off := 0) U30 rfl rfl ti28 (by decide))) fun hs => s1 (v := cv0_0) hs (y_ld rfl U28 rfl (Cell.blk (.tail _ (.tail _ (.head _))) rfl)) fun hs => s1 hs (zj3 rfl U53 rfl ti53 (.head _) rfl) fun hs => zka hs rfl U28 ti53 (by decide) (AllC.row ⟨rfl, rfl, rfl, hR34.one, rfl, rfl, rfl, rfl, rfl, trivial⟩ rfl) fun v37 _ _ hs => ?_
   have hW38 : RW zcr f17 [[.int .i64 (y29.Kind), .string (y29.Name), .string (y29.Text), v32, .int .i64 (y29.Parent), .int .i64 (y29.First), .int .i64 (y29.Last), .int .i64 (y29.Prev), .int .i64 (y29.Next)]] [y29] := RW.single (⟨_, rfl, ⟨rw33, hR34, hW35⟩⟩)
   generalize hgrw39 : ([[.int .i64 (y29.Kind), .string (y29.Name), .string (y29.Text), v32, .int .i64 (y29.Parent), .int .i64 (y29.First), .int .i64 (y29.Last), .int .i64 (y29.Prev), .int .i64 (y29.Next)]] : List (List Value)) = rw39 at hs hW38; clear hgrw39
   obtain ⟨x42, hx43, hm⟩ := ob hm
   obtain ⟨hbx42, hex42⟩ := zcb hx43
   have hW46 := cv0_0h.append hW38; rw [hex42] at hW46
   refine zc9 (i := 4) hs rfl rfl rfl (Rd.st hs (.head _)) U28 ti53 (by decide) (by rw [RW.len cv0_0h, RW.len hW38]; exact hbx42) (.free rfl) (by decide) fun v44 _ _ hs => ?_
   generalize hgx42 : cv0_0r ++ rw39 = rw45 at hs hW46; clear hgx42
   replace hs := hs.erase 0
   refine s1 (v := pq cb0 0) hs (za1 rfl (FO.of (off := 0) U30 rfl rfl ti28 (by decide))) fun hs => sstore 2 hs rfl rfl rfl ti28 ((hs.one (i := 3) rfl)) fun _ _ hs => za0 <| hK6 <| Ws fun hK7 => Ws fun hK8 => ?_
   refine zaq (fun a w => St 89 w0 f17 (.blk b20 (.cells #[.int .i64 (y29.Kind), .string (y29.Name), .string (y29.Text), v32, .int .i64 (y29.Parent), .int .i64 (y29.First), .int .i64 (y29.Last), .int .i64 (y29.Prev), .int .i64 (y29.Next)] 53 (0,0)) :: .blk b15 (.cells #[.string (p0.Name), .string (p0.Text), v1, v6] 46 (0,0)) :: .blk cb0 (.cells #[v44] 30 (0,0)) :: .row v44 53 9 rw45 :: L) [(3, pq cb0 0),(4, pq cb1 0),(5, pq b15 0),(9, .int .i64 ((q0.Nodes.length : Int))),(48, .bool (((decide (4096 < (x42.length : Int))) || (decide (p0.Name = (bs []))))))] a w) ?_ ?_
   ·clear hs; intro a w hs
    refine hK8 ?_
    refine zah hs rfl (fun hg48 => ?_) (fun hg48 => ?_)
    ·replace hm := oc_t hg48 hm
     refine Wq fun hK9 => sM hs rfl fun hs => sA hs rfl fun hs => za0 <| hK9 <| zax ?_
     obtain rfl := Option.some.inj hm
     refine RtV1 hs rfl (rv_t hs rfl) ?_
     exact ⟨_, f17,[.blk cb0 (.cells #[v44] 30 (0,0)), .row v44 53 9 rw45], rfl, hle,(hs.subL (.cons _ (.cons _ (.cons_cons _ (.cons_cons _ (.refl _)))))).cw, v44, rw45, rfl, rfl, hW46⟩
    replace hm := oc_f hg48 hm
    refine zaj <| hK7 <| Wq fun hK10 => sA hs rfl fun hs => za0 <| hK10 <| Ws fun hK11 => Ws fun hK12 => za2 ?_
    refine s1 (v := pq b15 3) hs (za1 rfl (FO.of (off := 3) U46 rfl rfl ti44 (by decide))) fun hs => s1 (v := v6) hs (y_ld rfl U44 rfl (Cell.blk (.tail _ (.head _)) rfl)) fun hs => s1 hs (zc3 hR8 hW9 rfl U44) fun hs => sM hs rfl fun hs => za0 <| hK12 ?_
    have hbase57 := Fz.le.refl f17
    refine zaq (fun a w => ∃ (f49 : Fz) (y51 : (List zae)) (y56 : Int) (v52 : Value) (rw53 : List (List Value)), Fz.le f17 f49 ∧ zhn q0 y51 y56 = some res ∧ RW zcr f49 rw53 y51 ∧ St 89 w0 f49 (.blk cb0 (.cells #[v52] 30 (0,0)) :: .row v52 53 9 rw53 :: L) [(3, pq cb0 0),(9, .int .i64 ((q0.Nodes.length : Int))),(11, .int .i64 (y56))] a w) ?_ ?_
    ·clear hs hm
     clear hbase57
     rintro a w ⟨f49, y51, y56, v52, rw53, hl50, hm, hW54, hs⟩
     replace cv0_0h := cv0_0h.le hl50
     replace hc1 := hl50 _ _ hc1
     replace hle := hle.trans hl50
     unfold zhn at hm
     refine hK11 <| Wq fun hK13 => s1 (v := pq cb0 0) hs (za1 rfl (FO.of (off := 0) U30 rfl rfl ti28 (by decide))) fun hs => s1 (v := v52) hs (y_ld rfl U28 rfl (Cell.blk (.head _) rfl)) fun hs => sM hs rfl fun hs => sM hs rfl fun hs => ?_
     obtain ⟨x58, hx59, hm⟩ := ob hm
     obtain ⟨r60, hr61, hq62, hi63, hb64⟩ := hW54.geti hx59
     obtain ⟨v65, rfl, ⟨rw66, hR67, hW68⟩⟩ := hq62
     refine s1 hs (zac (Rd.st hs (.tail _ (.head _))) rfl rfl hi63 hb64 U28 ti53) fun hs => s1 (v := eaddr v52 9 ((q0.Nodes.length : Int).toNat) 6) hs (zck (i := (q0.Nodes.length : Int).toNat) (j := 0) (Rd.st hs (.tail _ (.head _))) rfl hb64 (FO.of (off := 6) U53 rfl rfl ti3 (by decide))) fun hs => ?_
     obtain ⟨x70, hx71, hm⟩ := ob hm
     have hex70 := zgv hx71
     have hW73 := RW.set (i := (q0.Nodes.length : Int).toNat) (r := [.int .i64 (x58.Kind), .string (x58.Name), .string (x58.Text), v65, .int .i64 (x58.Parent), .int .i64 (x58.First), .int .i64 (y56), .int .i64 (x58.Prev), .int .i64 (x58.Next)]) (x := (({x58 with Last := y56} : zae) : zae)) hW54 (⟨_, rfl, ⟨rw66, hR67, hW68⟩⟩); rw [hex70] at hW73
     refine zei (i := 1) (j := 6) (m := (q0.Nodes.length : Int).toNat) hs rfl rfl rfl hr61 (by decide) ti3 rfl (.free rfl) fun _ _ hs => ?_
     replace hs : St _ _ _ (.blk cb0 (.cells #[v52] 30 (0,0)) :: .row v52 53 9 (rw53.set ((q0.Nodes.length : Int).toNat) [.int .i64 (x58.Kind), .string (x58.Name), .string (x58.Text), v65, .int .i64 (x58.Parent), .int .i64 (x58.First), .int .i64 (y56), .int .i64 (x58.Prev), .int .i64 (x58.Next)]) :: L) _ _ _ := hs
     generalize hgrw72 : rw53.set ((q0.Nodes.length : Int).toNat) [.int .i64 (x58.Kind), .string (x58.Name), .string (x58.Text), v65, .int .i64 (x58.Parent), .int .i64 (x58.First), .int .i64 (y56), .int .i64 (x58.Prev), .int .i64 (x58.Next)] = rw72 at hs hW73; clear hgrw72
     refine za0 <| hK13 <| Wq fun hK14 => sM hs rfl fun hs => sA hs rfl fun hs => za0 <| hK14 <| zax ?_
     obtain rfl := Option.some.inj hm
     refine RtV1 hs rfl (rv_t hs rfl) ?_
     exact ⟨_, f49,[.blk cb0 (.cells #[v52] 30 (0,0)), .row v52 53 9 rw72], rfl, hle, hs.cw, v52, rw72, rfl, rfl, hW73⟩
    refine zam fun Qe15 hB15 hO15 => ?_
    have hbase := Fz.le.refl f17
    refine zd1 (fun (k : Nat) a w => ∃ (f75 : Fz) (y77 : (List zae)) (y82 : Int) (y83 : Int) (v78 : Value) (rw79 : List (List Value)), Fz.le f17 f75 ∧ zdm p0 q0 slf k y77 y82 y83 = some res ∧ RW zcr f75 rw79 y77 ∧ St 89 w0 f75 (.blk cb0 (.cells #[v78] 30 (0,0)) :: .row v78 53 9 rw79 :: L) [(3, pq cb0 0),(4, pq cb1 0),(9, .int .i64 ((q0.Nodes.length : Int))),(11, .int .i64 (y82)),(51, v6),(52, .int .i64 ((p0.Kids.length : Int))),(53, .int .i64 (y83))] a w) (fun k => k) n ⟨_, x42,(-1),0, v44, rw45,(Fz.le.refl _), hm, hW46, hs.subs ⟨rfl, rfl, rfl, rfl, rfl, rfl, rfl, trivial⟩ (.cons _ (.cons _ (.cons_cons _ (.cons_cons _ (.refl _)))))⟩ ?_
    clear hs hm
    intro k
    rintro a w ⟨f75, y77, y82, y83, v78, rw79, hl76, hm, hW80, hs⟩
    replace hR8 := hR8.le hl76
    replace hW9 := hW9.le hl76
    replace cv0_0h := cv0_0h.le hl76
    replace hc1 := hl76 _ _ hc1
    replace hbase57 := hbase57.trans hl76
    intro K16 hK16
    cases k with
    | zero => simp [zdm] at hm
    | succ k84 =>
     rw [zdm] at hm
     have hbase85 := hl76
     refine Wq fun hK17 => s1 hs (zgq rfl rfl) fun hs => za0 <| hK17 <| Ws fun hK18 => ?_
     refine zah hs rfl (fun hg86 => ?_) (fun hg86 => ?_)
     ·replace hm := oc_t hg86 hm
      refine zaj <| hK18 <| Ws fun hK19 => zam fun Qe20 hB20 hO20 => Ws fun hK21 => za2 ?_
      obtain ⟨x87, hx88, hm⟩ := ob hm
      obtain ⟨r89, hr90, hq91, hi92, hb93⟩ := hW9.geti hx88
      obtain ⟨v94, v99, rfl, ⟨rw95, hR96, hW97⟩, ⟨rw100, hR101, hW102⟩⟩ := R_dom_Part.ex hq91
      refine s1 hs (zac hR8 rfl rfl hi92 hb93 U44 ti46) fun hs => s1 hs (zdn hR8.up rfl hr90 U46 rfl ti46) fun hs => zbl hs ti46 (.free rfl) (by decide) fun b104 _ _ hs => zb5 (i := 0) hs rfl rfl rfl ti46 ⟨rfl, rfl⟩ (AllC.arr (r := [.string (x87.Name), .string (x87.Text), v94, v99]) ⟨rfl, rfl, hR96.one, hR101.one, trivial⟩) (.free rfl) fun _ _ hs => za0 <| hK21 <| Wq fun hK22 => s1 (v := .func (.func 32) #[] #[pq cb0 0, pq cb1 0]) hs (y_ld rfl Tryz.underlying72 rfl (Cell.fz hc1 rfl)) fun hs => s1 hs (zj3 rfl U46 rfl ti46 (.head _) rfl) fun hs => ?_
      refine sM hs rfl fun hs => sM hs rfl fun hs => ?_
      obtain ⟨x108, hx109, hm⟩ := ob hm
      replace hs := hs.front 2
      replace hs := hs.front 2
      refine zbb (Lr := [.blk cb0 (.cells #[v78] 30 (0,0)), .row v78 53 9 rw79]) (Lf := .blk b104 (.cells #[.string (x87.Name), .string (x87.Text), v94, v99] 46 (0,0)) :: L) hs rfl has32 rfl rfl (slf_ok (f := f75) (a0 := [.string (x87.Name), .string (x87.Text), v94, v99]) (cb0 := cb0) (cb1 := cb1) (R_dom_Part.of (x := x87) ⟨rw95, hR96, hW97⟩ ⟨rw100, hR101, hW102⟩) hW80 hc1 hx109) (.free rfl) (by decide) ?_; clear hs; (try clear a w)
      rintro _ f110 _ a w hf111 ⟨v112, rw113, rfl, rfl, hW114⟩ hs
      replace cv0_0h := cv0_0h.le hf111
      replace hc1 := hf111 _ _ hc1
      replace hbase57 := hbase57.trans hf111
      replace hbase85 := hbase85.trans hf111
      refine sA hs rfl fun hs => za0 <| hK22 <| Ws fun hK23 => Wq fun hK24 => sM hs rfl fun hs => s1 hs (zct rfl rfl) fun hs => za0 <| hK24 ?_
      refine zaq (fun a w => ∃ (y116 : (List zae)) (v117 : Value) (rw118 : List (List Value)), zgl q0 y83 (zdm p0 q0 slf k84) x108 y116 = some res ∧ RW zcr f110 rw118 y116 ∧ St 89 w0 f110 (.blk cb0 (.cells #[v117] 30 (0,0)) :: .row v117 53 9 rw118 :: L) [(3, pq cb0 0),(4, pq cb1 0),(9, .int .i64 ((q0.Nodes.length : Int))),(14, .int .i64 (x108.1)),(51, v6),(52, .int .i64 ((p0.Kids.length : Int))),(53, .int .i64 (y83))] a w) ?_ ?_
      ·clear hs hm
       rintro a w ⟨y116, v117, rw118, hm, hW119, hs⟩
       unfold zgl at hm
       refine hK23 <| Wq fun hK25 => sM hs rfl fun hs => sA hs rfl fun hs => za0 <| hK25 <| Wq fun hK26 => s1 (v := pq cb0 0) hs (za1 rfl (FO.of (off := 0) U30 rfl rfl ti28 (by decide))) fun hs => ?_
       refine s1 (v := v117) hs (y_ld rfl U28 rfl (Cell.blk (.head _) rfl)) fun hs => s1 hs (zc3 (Rd.st hs (.tail _ (.head _))) hW119 rfl U28) fun hs => s1 hs (zhq rfl rfl) fun hs => za0 <| hK26 ?_
       refine zah hs rfl (fun hg121 => ?_) (fun hg121 => ?_)
       ·replace hm := oc_t hg121 hm
        refine zc0 <| hO20 _ rfl _ _ <| hB15 _ _ ?_
        exact ⟨_, y116, x108.1, v117, rw118, hbase57, hm, hW119, hs.sub ⟨rfl, rfl, rfl, trivial⟩⟩
       replace hm := oc_f hg121 hm
       refine zaj <| hK19 <| za2 <| s1 hs (zdz rfl rfl rfl) fun hs => sM hs rfl fun hs => za0 ?_
       exact hK16 k84 _ _ (Nat.lt_succ_self _) ⟨_, y116, x108.1,(w64 (y83 + 1)), v117, rw118, hbase85, hm, hW119, hs.sub ⟨rfl, rfl, rfl, rfl, rfl, rfl, rfl, trivial⟩⟩
      refine zah hs rfl (fun hg122 => ?_) (fun hg122 => ?_)
      ·replace hm := oc_t hg122 hm
       refine za2 <| s1 (v := pq cb0 0) hs (za1 rfl (FO.of (off := 0) U30 rfl rfl ti28 (by decide))) fun hs => s1 (v := v112) hs (y_ld rfl U28 rfl (Cell.blk (.head _) rfl)) fun hs => sM hs rfl fun hs => sM hs rfl fun hs => ?_
       obtain ⟨x123, hx124, hm⟩ := ob hm
       obtain ⟨r125, hr126, hq127, hi128, hb129⟩ := hW114.geti hx124
       obtain ⟨v130, rfl, ⟨rw131, hR132, hW133⟩⟩ := hq127
       refine s1 hs (zac (Rd.st hs (.tail _ (.head _))) rfl rfl hi128 hb129 U28 ti53) fun hs => s1 (v := eaddr v112 9 ((q0.Nodes.length : Int).toNat) 5) hs (zck (i := (q0.Nodes.length : Int).toNat) (j := 0) (Rd.st hs (.tail _ (.head _))) rfl hb129 (FO.of (off := 5) U53 rfl rfl ti3 (by decide))) fun hs => ?_
       obtain ⟨x135, hx136, hm⟩ := ob hm
       have hex135 := zgv hx136
       have hW138 := RW.set (i := (q0.Nodes.length : Int).toNat) (r := [.int .i64 (x123.Kind), .string (x123.Name), .string (x123.Text), v130, .int .i64 (x123.Parent), .int .i64 (x108.1), .int .i64 (x123.Last), .int .i64 (x123.Prev), .int .i64 (x123.Next)]) (x := (({x123 with First := x108.1} : zae) : zae)) hW114 (⟨_, rfl, ⟨rw131, hR132, hW133⟩⟩); rw [hex135] at hW138
       refine zei (i := 1) (j := 5) (m := (q0.Nodes.length : Int).toNat) hs rfl rfl rfl hr126 (by decide) ti3 rfl (.free rfl) fun _ _ hs => ?_
       replace hs : St _ _ _ (.blk cb0 (.cells #[v112] 30 (0,0)) :: .row v112 53 9 (rw113.set ((q0.Nodes.length : Int).toNat) [.int .i64 (x123.Kind), .string (x123.Name), .string (x123.Text), v130, .int .i64 (x123.Parent), .int .i64 (x108.1), .int .i64 (x123.Last), .int .i64 (x123.Prev), .int .i64 (x123.Next)]) :: .blk b104 (.cells #[.string (x87.Name), .string (x87.Text), v94, v99] 46 (0,0)) :: L) _ _ _ := hs
       generalize hgrw137 : rw113.set ((q0.Nodes.length : Int).toNat) [.int .i64 (x123.Kind), .string (x123.Name), .string (x123.Text), v130, .int .i64 (x123.Parent), .int .i64 (x108.1), .int .i64 (x123.Last), .int .i64 (x123.Prev), .int .i64 (x123.Next)] = rw137 at hs hW138; clear hgrw137
       refine za0 ?_
       exact ⟨x135, v112, rw137, hm, hW138, hs.subs ⟨rfl, rfl, rfl, rfl, rfl, rfl, rfl, trivial⟩ (.cons_cons _ (.cons_cons _ (.cons _ (.refl _))))⟩
      replace hm := oc_f hg122 hm
      refine za2 <| s1 (v := pq cb0 0) hs (za1 rfl (FO.of (off := 0) U30 rfl rfl ti28 (by decide))) fun hs => s1 (v := v112) hs (y_ld rfl U28 rfl (Cell.blk (.head _) rfl)) fun hs => sM hs rfl fun hs => sM hs rfl fun hs => ?_
      obtain ⟨x140, hx141, hm⟩ := ob hm
      obtain ⟨r142, hr143, hq144, hi145, hb146⟩ := hW114.geti hx141
      obtain ⟨v147, rfl, ⟨rw148, hR149, hW150⟩⟩ := hq144
      refine s1 hs (zac (Rd.st hs (.tail _ (.head _))) rfl rfl hi145 hb146 U28 ti53) fun hs => s1 (v := eaddr v112 9 y82.toNat 8) hs (zck (i := y82.toNat) (j := 0) (Rd.st hs (.tail _ (.head _))) rfl hb146 (FO.of (off := 8) U53 rfl rfl ti3 (by decide))) fun hs => ?_
      obtain ⟨x152, hx153, hm⟩ := ob hm
      have hex152 := zgv hx153
      have hW155 := RW.set (i := y82.toNat) (r := [.int .i64 (x140.Kind), .string (x140.Name), .string (x140.Text), v147, .int .i64 (x140.Parent), .int .i64 (x140.First), .int .i64 (x140.Last), .int .i64 (x140.Prev), .int .i64 (x108.1)]) (x := (({x140 with Next := x108.1} : zae) : zae)) hW114 (⟨_, rfl, ⟨rw148, hR149, hW150⟩⟩); rw [hex152] at hW155
      refine zei (i := 1) (j := 8) (m := y82.toNat) hs rfl rfl rfl hr143 (by decide) ti3 rfl (.free rfl) fun _ _ hs => ?_
      replace hs : St _ _ _ (.blk cb0 (.cells #[v112] 30 (0,0)) :: .row v112 53 9 (rw113.set y82.toNat [.int .i64 (x140.Kind), .string (x140.Name), .string (x140.Text), v147, .int .i64 (x140.Parent), .int .i64 (x140.First), .int .i64 (x140.Last), .int .i64 (x140.Prev), .int .i64 (x108.1)]) :: .blk b104 (.cells #[.string (x87.Name), .string (x87.Text), v94, v99] 46 (0,0)) :: L) _ _ _ := hs
      generalize hgrw154 : rw113.set y82.toNat [.int .i64 (x140.Kind), .string (x140.Name), .string (x140.Text), v147, .int .i64 (x140.Parent), .int .i64 (x140.First), .int .i64 (x140.Last), .int .i64 (x140.Prev), .int .i64 (x108.1)] = rw154 at hs hW155; clear hgrw154
      refine za0 ?_
      exact ⟨x152, v112, rw154, hm, hW155, hs.subs ⟨rfl, rfl, rfl, rfl, rfl, rfl, rfl, trivial⟩ (.cons_cons _ (.cons_cons _ (.cons _ (.refl _))))⟩
     replace hm := oc_f hg86 hm
     refine zc0 <| hB15 _ _ ?_
     exact ⟨_, y77, y82, v78, rw79, hbase57, hm, hW80, hs.sub ⟨rfl, rfl, rfl, trivial⟩⟩
   refine za2 <| s1 (v := pq cb0 0) hs (za1 rfl (FO.of (off := 0) U30 rfl rfl ti28 (by decide))) fun hs => s1 (v := v44) hs (y_ld rfl U28 rfl (Cell.blk (.tail _ (.tail _ (.head _))) rfl)) fun hs => s1 hs (zc3 (Rd.st hs (.tail _ (.tail _ (.tail _ (.head _))))) hW46 rfl U28) fun hs => s1 hs (zhq rfl rfl) fun hs => sM hs rfl fun hs => ?_
   refine St.split hs (t := 44) rfl (fun hg157 hs => ?_) (fun hg157 hs => ?_)
   ·refine s3 hs fun hs => s3 hs fun hs => s3 hs fun hs => sP hs rfl rfl fun hs => za0 ?_
    exact hs.sub ⟨rfl, rfl, rfl, rfl,(lkB (((or_t hg157).trans rfl)) rfl), trivial⟩
   refine s2 (v := pq b15 0) hs (za1 rfl (FO.of (off := 0) U46 rfl rfl ti9 (by decide))) fun hs => s2 (v := .string (p0.Name)) hs (y_ld rfl U9 rfl (Cell.blk (.tail _ (.head _)) rfl)) fun hs => s2 hs (zcs rfl rfl) fun hs => sP hs rfl rfl fun hs => za0 ?_
   exact hs.sub ⟨rfl, rfl, rfl, rfl,(lkB (((or_f hg157).trans rfl)) rfl), trivial⟩
  refine zah hs rfl (fun hg158 => ?_) (fun hg158 => ?_)
  ·replace hm := oc_t hg158 hm
   have hsD := hs.subL (L' := .blk b15 (.cells #[.string (p0.Name), .string (p0.Text), v1, v6] 46 (0,0)) :: []) (.cons _ (.cons_cons _ (.cons _ (.cons _ (List.nil_sublist _)))))
   have hbd159 := Fz.le.refl f17
   refine zj2 hs (.blk b15 (.cells #[.string (p0.Name), .string (p0.Text), v1, v6] 46 (0,0)) :: []) [7] (.look 0 (.look 1 (.look 2 (.any [3] (fun _ => .look 4 (.any [5] (fun _ => .look 6 (.any [7] (fun _ => .done))))))))) mixed (by kernel_rfl) fun _ he => uy (v := pq b15 1) 0 he rfl (za1 rfl (FO.of (off := 1) U46 rfl rfl ti9 (by decide))) fun _ he => uy (v := .string (p0.Text)) 1 he rfl (y_ld rfl U9 rfl (Cell.blk (.head _) rfl)) fun _ he => uy (v := pq b20 0) 2 he rfl (za1 rfl (FO.of (off := 0) U53 rfl rfl ti3 (by decide))) fun _ he => ?_
   refine zeh he rfl ?_; clear he; (try clear a); intro a w hs
   refine sstore 0 hs rfl rfl rfl ti3 rfl fun _ _ hs => uon hs fun _ he => uy (v := pq b20 2) 4 he rfl (za1 rfl (FO.of (off := 2) U53 rfl rfl ti9 (by decide))) fun _ he => ?_
   refine zeh he rfl ?_; clear he; (try clear a); intro a w hs
   refine sstore 0 hs rfl rfl rfl ti9 rfl fun _ _ hs => uon hs fun _ he => uy (v := pq b20 3) 6 he rfl (za1 rfl (FO.of (off := 3) U53 rfl rfl ti43 (by decide))) fun _ he => ?_
   refine zeh he rfl ?_; clear he; (try clear a); intro a w hs
   refine sstore 0 hs rfl rfl rfl ti43 rfl fun _ _ hs => uend hs fun _ he => ?_
   refine zmg he ?_; clear he; (try clear a); intro w hs; try clear hsD
   exact ⟨({Kind := 2, Name := p0.Name, Text := p0.Text, Attrs := ([] : List zab), Parent := p1, First := (-1), Last := (-1), Prev := p2, Next := (-1)} : zae),[.int .i64 (2), .string (p0.Name), .string (p0.Text),(.slice none 0 0), .int .i64 (p1), .int .i64 ((-1)), .int .i64 ((-1)), .int .i64 (p2), .int .i64 ((-1))], hm, ⟨_, rfl, RS.nil⟩, hs.sub ⟨rfl, rfl, rfl, rfl, rfl, trivial⟩⟩
  replace hm := oc_f hg158 hm
  refine zaj ?_
  exact ⟨({Kind := 1, Name := p0.Name, Text := (bs []), Attrs := y21, Parent := p1, First := (-1), Last := (-1), Prev := p2, Next := (-1)} : zae),[.int .i64 (1), .string (p0.Name), .string ((bs [])), v22, .int .i64 (p1), .int .i64 ((-1)), .int .i64 ((-1)), .int .i64 (p2), .int .i64 ((-1))], hm, ⟨_, rfl, ⟨rw24, hR25, hW26⟩⟩, hs.sub ⟨rfl, rfl, rfl, rfl, rfl, trivial⟩⟩
 have hsD := hs.subL (L' := .blk b15 (.cells #[.string (p0.Name), .string (p0.Text), v1, v6] 46 (0,0)) :: []) (.cons_cons _ (.cons _ (.cons _ (List.nil_sublist _))))
 have hbd161 := Fz.le.refl f
 refine zj2 hs (.blk b15 (.cells #[.string (p0.Name), .string (p0.Text), v1, v6] 46 (0,0)) :: []) [9] (.look 0 (.look 1 (.look 2 (.look 3 (.look 5 (.look 6 (.any [4,8] (fun i => bif Nat.beq i 4 then .look 7 (.any [8] (fun _ => .any [9] (fun _ => .done))) else .any [4] (fun _ => .look 7 (.any [9] (fun _ => .done))))))))))) mixed (by kernel_rfl) fun _ he => uy (v := pq b15 0) 0 he rfl (za1 rfl (FO.of (off := 0) U46 rfl rfl ti9 (by decide))) fun _ he => uy (v := .string (p0.Name)) 1 he rfl (y_ld rfl U9 rfl (Cell.blk (.head _) rfl)) fun _ he => uy (v := pq b15 2) 2 he rfl (za1 rfl (FO.of (off := 2) U46 rfl rfl ti43 (by decide))) fun _ he => uy (v := v1) 3 he rfl (y_ld rfl U43 rfl (Cell.blk (.head _) rfl)) fun _ he => uy (v := .int .i64 (p1)) 5 he rfl (za3 rfl) fun _ he => uy (v := .int .i64 (p2)) 6 he rfl (za3 rfl) fun _ he => ?_
 refine T_any2 he rfl rfl ?_ ?_ <;> (clear he; (try clear a); intro a w hs)
 ·obtain ⟨x162, hx163, hm⟩ := ob hm
  refine zhp hs rfl has33 rfl (ziq n ⟨rw2, hR3, hW4⟩ hx163) ?_; clear hs; (try clear a w)
  rintro v166 f164 _ a w hf165 ⟨_, rfl, rfl, ⟨rw167, hR168, hW169⟩⟩ hs
  have hR170 := hR3.le hf165
  have hW171 := hW4.le hf165
  have hR172 := hR8.le hf165
  have hW173 := hW9.le hf165
  have cv174 := cv0_0h.le hf165
  have hc175 := hf165 _ _ hc1
  replace hbase28 := hbase28.trans hf165
  refine uon hs fun _ he => uy 7 he rfl (ze4 (places := [(0,1),(1,1),(2,1),(3,1),(4,1),(5,1),(6,1),(7,1),(8,1)]) (cs := [.int .i64 (1), .string (p0.Name), .string ((bs [])), v166, .int .i64 (p1), .int .i64 ((-1)), .int .i64 ((-1)), .int .i64 (p2), .int .i64 ((-1))]) rfl U53 ti53 (by kernel_rfl) (by decide) rfl ⟨rfl, rfl, hR168.one, rfl, rfl, rfl, rfl, rfl, trivial⟩) fun _ he => ?_
  refine zeh he rfl ?_; clear he; (try clear a); intro a w hs
  refine zbl hs ti53 (.free rfl) (by decide) fun b178 _ _ hs => uon hs fun _ he => ?_
  refine zeh he rfl ?_; clear he; (try clear a); intro a w hs
  refine zb5 (i := 0) hs rfl rfl rfl ti53 ⟨rfl, rfl⟩ (AllC.arr (r := [.int .i64 (1), .string (p0.Name), .string ((bs [])), v166, .int .i64 (p1), .int .i64 ((-1)), .int .i64 ((-1)), .int .i64 (p2), .int .i64 ((-1))]) ⟨rfl, rfl, rfl, hR168.one, rfl, rfl, rfl, rfl, rfl, trivial⟩) (.free rfl) fun _ _ hs => uend hs fun _ he => ?_
  refine zmg he ?_; clear he; (try clear a); intro w hs; try clear hsD
  exact ⟨_, x162, b178, v166, hbase28, hm, ⟨rw167, hR168, hW169⟩, hs.sub ⟨rfl, rfl, rfl, rfl, rfl, trivial⟩⟩
 refine zbl hs ti53 (.free rfl) (by decide) fun b181 _ _ hs => uon hs fun _ he => ?_
 refine zeh he rfl ?_; clear he; (try clear a); intro a w hs
 obtain ⟨x184, hx185, hm⟩ := ob hm
 refine zhp hs rfl has33 rfl (ziq n ⟨rw2, hR3, hW4⟩ hx185) ?_; clear hs; (try clear a w)
 rintro v188 f186 _ a w hf187 ⟨_, rfl, rfl, ⟨rw189, hR190, hW191⟩⟩ hs
 have hR192 := hR3.le hf187
 have hW193 := hW4.le hf187
 have hR194 := hR8.le hf187
 have hW195 := hW9.le hf187
 have cv196 := cv0_0h.le hf187
 have hc197 := hf187 _ _ hc1
 replace hbase28 := hbase28.trans hf187
 refine uon hs fun _ he => uy 7 he rfl (ze4 (places := [(0,1),(1,1),(2,1),(3,1),(4,1),(5,1),(6,1),(7,1),(8,1)]) (cs := [.int .i64 (1), .string (p0.Name), .string ((bs [])), v188, .int .i64 (p1), .int .i64 ((-1)), .int .i64 ((-1)), .int .i64 (p2), .int .i64 ((-1))]) rfl U53 ti53 (by kernel_rfl) (by decide) rfl ⟨rfl, rfl, hR190.one, rfl, rfl, rfl, rfl, rfl, trivial⟩) fun _ he => ?_
 refine zeh he rfl ?_; clear he; (try clear a); intro a w hs
 refine zb5 (i := 0) hs rfl rfl rfl ti53 ⟨rfl, rfl⟩ (AllC.arr (r := [.int .i64 (1), .string (p0.Name), .string ((bs [])), v188, .int .i64 (p1), .int .i64 ((-1)), .int .i64 ((-1)), .int .i64 (p2), .int .i64 ((-1))]) ⟨rfl, rfl, rfl, hR190.one, rfl, rfl, rfl, rfl, rfl, trivial⟩) (.free rfl) fun _ _ hs => uend hs fun _ he => ?_
 refine zmg he ?_; clear he; (try clear a); intro w hs; try clear hsD
 exact ⟨_, x184, b181, v188, hbase28, hm, ⟨rw189, hR190, hW191⟩, hs.sub ⟨rfl, rfl, rfl, rfl, rfl, trivial⟩⟩
theorem zm7 : ∀ (n : Nat) {f : Fz} {p0 : za8} {a0 : List Value} {p1 : Int} {p2 : Int} {cb0 : Nat} {q0 : zaa} {cv0_0 : Value} {cv0_0r : List (List Value)} {cb1 : Nat} {res : (Int × zaa)} (_h0 : zcy.R f a0 p0) (_cv0_0h : RW zcr f cv0_0r q0.Nodes) (_hc1 : f cb1 = some (.cells #[.func (.func 32) #[] #[pq cb0 0, pq cb1 0]] 72 (0,0))) (_ : zgn n p0 p1 p2 q0 = some res), Does Tryz.prog 32 [.agg a0.toArray, .int .i64 p1, .int .i64 p2, pq cb0 0, pq cb1 0] f [.blk cb0 (.cells #[cv0_0] 30 (0,0)), .row cv0_0 53 9 cv0_0r] (fun r f' L' => ∃ (dv0_0 : Value) (dv0_0r : List (List Value)), L' = [.blk cb0 (.cells #[dv0_0] 30 (0,0)), .row dv0_0 53 9 dv0_0r] ∧ r = .int .i64 res.1 ∧ RW zcr f' dv0_0r res.2.Nodes)
  | 0, f, p0, a0, p1, p2, cb0, q0, cv0_0, cv0_0r, cb1, res, h0, cv0_0h, hc1, hm => by simp [zgn] at hm
  | n + 1, f, p0, a0, p1, p2, cb0, q0, cv0_0, cv0_0r, cb1, res, h0, cv0_0h, hc1, hm => zon n (zm7 n) h0 cv0_0h hc1 hm
def zj9 (n : Nat) (p0 : za8) : Option (zaa × Int) :=
  (zgn n p0 (-1) (-1) ({Nodes := ([] : List zae)} : zaa)).bind fun x24 =>
  (zib n x24.2).bind fun x36 =>
  (bif (decide (x36 ≠ 0)) then some (({Nodes := ([] : List zae)} : zaa), x36) else
  some (x24.2,0))
theorem zo3 (n : Nat) {f : Fz} {p0 : za8} {a0 : List Value} {res : (zaa × Int)} (h0 : zcy.R f a0 p0) (hm : zj9 n p0 = some res) : Does Tryz.prog 15 [.agg a0.toArray] f [] (fun r f' L' => ∃ (u0 : List Value), L' = [] ∧ r = .tuple #[.agg u0.toArray, .int .i64 res.2] ∧ zcz.R f' u0 res.1) := by
 unfold zj9 at hm
 intro w0 L w hC
 obtain ⟨v1, v6, rfl, ⟨rw2, hR3, hW4⟩, ⟨rw7, hR8, hW9⟩⟩ := R_dom_Part.ex h0
 refine enter Tryz.func15 rfl Tryz.ntmps15 (by simp) hC fun a hs => ?_
 have hle := Fz.le.refl f
 refine Wq fun hK1 => sbox hs rfl fun b11 _ _ hs => zbl hs ti30 (.free rfl) (by decide) fun b13 _ _ hs => sA hs rfl fun hs => za0 <| hK1 <| Wq fun hK2 => zbl hs ti30 (.free rfl) (by decide) fun b16 _ _ hs => ?_
 refine za0 <| hK2 <| Wq fun hK3 => zbl hs ti72 (.free rfl) (by decide) fun b19 _ _ hs => ?_
 replace hs : St _ _ _ (.blk b19 (.cells #[.nilFunc] 72 (0,0)) :: .blk b16 (.cells #[(.slice none 0 0)] 30 (0,0)) :: .blk b13 (.cells #[(.slice none 0 0)] 30 (0,0)) :: .blk b11 (.cells #[.string (p0.Name), .string (p0.Text), v1, v6] 46 (0,0)) :: L) _ _ _ := hs
 refine za0 <| hK3 <| Wq fun hK4 => s1 hs (zmj rfl) fun hs => sstore 0 hs rfl rfl rfl ti72 rfl fun _ _ hs => za0 <| hK4 <| Ws fun hK5 => za2 ?_
 refine s1 (v := .func (.func 32) #[] #[pq b16 0, pq b19 0]) hs (y_ld rfl Tryz.underlying72 rfl (Cell.blk (.head _) rfl)) fun hs => s1 hs (zj3 rfl U46 rfl ti46 (.tail _ (.tail _ (.tail _ (.head _)))) rfl) fun hs => ?_
 obtain ⟨f21, hf22, hs2, hB23⟩ := hs.frzB 0 rfl
 clear hs; have hs := hs2; clear hs2
 replace hR3 := hR3.le hf22
 replace hW4 := hW4.le hf22
 replace hR8 := hR8.le hf22
 replace hW9 := hW9.le hf22
 replace hle := hle.trans hf22
 obtain ⟨x24, hx25, hm⟩ := ob hm
 replace hs := hs.nilRow 53 9
 have hW26 : RW zcr f21 [] ([] : List zae) := trivial
 generalize hgrw27 : ([] : List (List Value)) = rw27 at hs hW26; clear hgrw27
 replace hs := hs.front 0
 replace hs := hs.front 1
 refine zbb (Lr := [.blk b16 (.cells #[(.slice none 0 0)] 30 (0,0)), .row (.slice none 0 0) 53 9 rw27]) (Lf := .blk b13 (.cells #[(.slice none 0 0)] 30 (0,0)) :: .blk b11 (.cells #[.string (p0.Name), .string (p0.Text), v1, v6] 46 (0,0)) :: L) hs rfl has32 rfl rfl (zm7 n (R_dom_Part.of (x := p0) ⟨rw2, hR3, hW4⟩ ⟨rw7, hR8, hW9⟩) hW26 hB23 hx25) (.free rfl) (by decide) ?_; clear hs; (try clear a w)
 rintro _ f30 _ a w hf31 ⟨v32, rw33, rfl, rfl, hW34⟩ hs
 replace hB23 := hf31 _ _ hB23
 replace hle := hle.trans hf31
 refine za0 <| hK5 <| Ws fun hK6 => Wq fun hK7 => s1 hs (zj3 rfl U30 rfl ti30 (.head _) rfl) fun hs => ?_
 obtain ⟨x36, hx37, hm⟩ := ob hm
 refine sy hs (zdr (cap := []) rfl has18 rfl (fun w9 hw9 => callsP (Lr := [.row v32 53 9 rw33]) (Lf := .blk b16 (.cells #[v32] 30 (0,0)) :: .blk b13 (.cells #[(.slice none 0 0)] 30 (0,0)) :: .blk b11 (.cells #[.string (p0.Name), .string (p0.Text), v1, v6] 46 (0,0)) :: L) (zal _ 1 rfl) hw9 (fun Lz w9 hw9 => lent0 hw9 (fun f9_0 w9 hle9_0 hRl0 hw9 => (zkt n ⟨_, rfl, ⟨rw33, hRl0, hW34.le hle9_0⟩⟩ hx37) w0 _ w9 hw9)))) fun _ _ hs => sA hs rfl fun hs => za0 <| hK7 <| Wq fun hK8 => sM hs rfl fun hs => s1 hs (zeo rfl rfl) fun hs => za0 <| hK8 ?_
 refine zah hs rfl (fun hg38 => ?_) (fun hg38 => ?_)
 ·replace hm := oc_t hg38 hm
  refine Wq fun hK9 => s1 hs (ze4 (places := [(0,1)]) (cs := [(.slice none 0 0)]) rfl U30 ti30 (by kernel_rfl) (by decide) rfl trivial) fun hs => sM hs rfl fun hs => zb5 (i := 2) hs rfl rfl rfl ti30 ⟨rfl, rfl⟩ (AllC.arr (r := [(.slice none 0 0)]) ⟨rfl, trivial⟩) (.free rfl) fun _ _ hs => sA hs rfl fun hs => za0 <| hK9 <| zax ?_
  obtain rfl := Option.some.inj hm
  refine RtV2 hs rfl (rv_a hs rfl U30 rfl ti30 (fun j u hj => Cell.blk (.tail _ (.tail _ (.head _))) hj) rfl) (rv_t hs rfl) ?_
  exact ⟨_, f30,[], rfl, hle,(hs.subL (.cons _ (.cons _ (.cons _ (.cons _ (.refl _)))))).cw,[(.slice none 0 0)], rfl, rfl, ⟨_, rfl, RS.nil⟩⟩
 replace hm := oc_f hg38 hm
 refine zaj <| hK6 <| Wq fun hK10 => s1 hs (zj3 rfl U30 rfl ti30 (.head _) rfl) fun hs => zb5 (i := 2) hs rfl rfl rfl ti30 ⟨rfl, rfl⟩ (AllC.arr (r := [v32]) ⟨(hs.one (i := 1) rfl), trivial⟩) (.free rfl) fun _ _ hs => sA hs rfl fun hs => za0 <| hK10 <| zax ?_
 obtain ⟨f40, hf41, hs2, hR42⟩ := hs.frzAt 1 rfl
 clear hs; have hs := hs2; clear hs2
 replace hB23 := hf41 _ _ hB23
 replace hW34 := hW34.le hf41
 replace hle := hle.trans hf41
 obtain rfl := Option.some.inj hm
 refine RtV2 hs rfl (rv_a hs rfl U30 rfl ti30 (fun j u hj => Cell.blk (.tail _ (.head _)) hj) rfl) (rv_t hs rfl) ?_
 exact ⟨_, f40,[], rfl, hle,(hs.subL (.cons _ (.cons _ (.cons _ (.refl _))))).cw,[v32], rfl, rfl, ⟨_, rfl, ⟨rw33, hR42, hW34⟩⟩⟩
end
end Go.Proofs.YtpfdbeafdjnbnaaGreatDoor
