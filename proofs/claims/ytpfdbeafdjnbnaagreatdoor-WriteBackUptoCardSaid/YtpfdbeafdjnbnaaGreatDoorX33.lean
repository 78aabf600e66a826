/-
  Walks and laws of this seat.
-/
import Derived.Test.YtpfdbeafdjnbnaaGreatDoorG6i
import Derived.Test.YtpfdbeafdjnbnaaGreatDoorL6s
import Derived.Test.YtpfdbeafdjnbnaaGreatDoorX25
import Derived.Test.YtpfdbeafdjnbnaaGreatDoorBash
import Derived.Test.YtpfdbeafdjnbnaaGreatDoorL6t
import Derived.Test.YtpfdbeafdjnbnaaGreatDoorRows
namespace Go.Sl
set_option linter.unusedVariables false
set_option linter.unusedSimpArgs false
set_option linter.unusedSectionVars false
open Go.RowKit
section
variable {P : Program} {f : Fz} {L : List Ent} {w0 w w' : World} {e : TypeId}
end
end Go.Sl
namespace Go.Proofs.YtpfdbeafdjnbnaaGreatDoor
set_option linter.unusedVariables false
set_option linter.unusedSimpArgs false
set_option linter.unusedSectionVars false
section
open Go.RowKit Go.Sl
end
section
open Go.RowKit Go.Sl
theorem zn4 (n : Nat) {f : Fz} {ab : List Nat} {v : Value} {rows : List (List Value)} {xs ys : List Int} {lo hi : Nat} {res : List Int} (hW : RW (tP ab) f rows xs) (h1 : lo ≤ hi) (h3 : hi ≤ rows.length) (h2 : (xs.take hi).drop lo = ys) (hm : appM 8 [] ys = some res) :
    Does Tryz.prog 78 [cutv v 1 lo hi] f [.row v 96 1 rows] (fun r f' L' => ∃ (u0 : Value) (ur : List (List Value)), L' = [.row u0 96 1 ur, .row v 96 1 rows] ∧ r = u0 ∧ RW (tP ab) f' ur res) := by
  intro w0 L w hC
  have hRv : Rd f (.row v 96 1 rows :: L) (cutv v 1 lo hi) 1 ((rows.take hi).drop lo) := (Rd.ofOwn (.head _) hC).cut h1 h3
  have hW1 : RW (tP ab) f ((rows.take hi).drop lo) ys := by rw [← h2]; exact (hW.take hi).drop lo
  generalize (rows.take hi).drop lo = rw1 at hRv hW1
  generalize cutv v 1 lo hi = a0 at hRv ⊢
  obtain ⟨hb, he⟩ := zcb hm
  have hR' := hRv
  obtain ⟨_, ao, cap, rfl, _, hnil, _⟩ := hR'
  refine enter Tryz.func78 rfl Tryz.ntmps78 (by simp) hC fun a hs => ?_
  refine zai fun K1 hK1 => ?_
  refine za2 ?_
  refine sy hs (za9 rfl) fun _ _ hs => ?_
  refine za0 ?_
  refine hK1 _ _ ?_; clear hK1
  refine zai fun K1 hK1 => ?_
  refine zai fun K2 hK2 => ?_
  refine za2 ?_
  refine sy hs (za3 rfl) fun _ _ hs => ?_
  refine sy hs (zu3 rfl rfl U97) fun _ _ hs => ?_
  refine za0 ?_
  refine hK2 _ _ ?_; clear hK2
  refine zah hs rfl (fun hg => ?_) (fun hg => ?_)
  · refine zai fun K2 hK2 => ?_
    refine za2 ?_
    refine sy hs (za9 rfl) fun _ _ hs => ?_
    refine za0 ?_
    refine hK2 _ _ ?_; clear hK2
    refine zax ?_
    have hao : ao = none := by simpa using hg
    have hp : ys = [] := by
      have h1 := hnil hao
      rw [h1] at hW1
      cases ys with
      | nil => rfl
      | cons x p => exact hW1.elim
    subst hp
    subst he
    refine RtV1 hs rfl (rv_t hs rfl) ?_
    replace hs := hs.nilRow 96 1
    exact ⟨_, f,[.row (.slice none 0 0) 96 1 [], .row v 96 1 rows], rfl, .refl f, hs.cw, _, _, rfl, rfl, trivial⟩
  · refine zaj ?_
    refine hK1 _ _ ?_; clear hK1
    refine zai fun K2 hK2 => ?_
    refine za2 ?_
    refine zvx hs U97 ti96 fun v1 _ _ hs => ?_
    refine sy hs (za3 rfl) fun _ _ hs => ?_
    refine zc9 (i := 0) hs rfl rfl rfl (hRv.mono (Fz.le.refl f) (fun e he => List.mem_cons_of_mem _ he)) U97 ti96 (by decide) (by rw [hW1.len]; exact hb) (.free rfl) (by decide) fun v2 _ _ hs => ?_
    refine sy hs (za9 rfl) fun _ _ hs => ?_
    refine za0 ?_
    refine hK2 _ _ ?_; clear hK2
    refine zax ?_
    refine RtV1 hs rfl (rv_t hs rfl) ?_
    refine ⟨_, f,[.row v2 96 1 ([] ++ rw1), .row v 96 1 rows], rfl, .refl f, hs.cw, _, _, rfl, rfl, ?_⟩
    rw [← he]
    exact hW1
end
section
set_option maxHeartbeats 4000000
set_option maxRecDepth 100000
open Go.RowKit Go.Sl
def zef (A : (List za4)) (p1 : Int) (x5 : (Int × za7)) (x15 : za4) (x32 : za4) (x56 : (List Int)) (y90 : Bool) : Option (za7 × (List za4)) :=
  some (({open_ := x5.2.open_, count := (w64 (x5.2.count + 1)), deep := y90} : za7),(setM (setM A x5.1 ({name := x32.name, text := x32.text, attrs := x32.attrs, above := x32.above, kids := x56} : za4)) p1 ({name := x15.name, text := x15.text, attrs := x15.attrs, above := x5.1, kids := x15.kids} : za4)))
def zbq (A : (List za4)) (p1 : Int) (x5 : (Int × za7)) (x15 : za4) (x32 : za4) (x56 : (List Int)) : Nat → Int → Int → Option (za7 × (List za4))
  | 0, _, _ => none
  | k71 + 1, y63, y64 =>
  (bif (!(decide (y64 = -1))) then (focM (setM (setM A x5.1 ({name := x32.name, text := x32.text, attrs := x32.attrs, above := x32.above, kids := x56} : za4)) p1 ({name := x15.name, text := x15.text, attrs := x15.attrs, above := x5.1, kids := x15.kids} : za4)) [] y64).bind fun x73 =>
  (zbq A p1 x5 x15 x32 x56 k71) (w64 (y63 + 1)) x73.above else
  (bif x5.2.deep then zef A p1 x5 x15 x32 x56 true else
  zef A p1 x5 x15 x32 x56 (decide (256 < y63))))
def zem (n : Nat) (p0 : za7) (p1 : Int) (p2 : Int) (A : (List za4)) : Option (za7 × (List za4)) :=
  (bif (decide (p2 = -1)) then (zbc n p0 A).bind fun x5 =>
  (focM A [] p1).bind fun x15 =>
  (focM A [p1.toNat] x5.1).bind fun x32 =>
  (appM 8 x32.kids [p1]).bind fun x56 =>
  zbq A p1 x5 x15 x32 x56 n 0 p1 else
  none)
theorem zip (n : Nat) {f : Fz} {ab : List Nat} {A : List za4} {p0 : za7} {pb0 : Nat} {pv0_0 : Value} {pv0_0r : List (List Value)} {p1 : Int} {a1 : Value} {p2 : Int} {a2 : Value} {res : (za7 × (List za4))} (pv0_0h : RW (tP ab) f pv0_0r p0.open_) (h1 : RP ab a1 p1) (h2 : RP ab a2 p2) (hm : zem n p0 p1 p2 A = some res) : DoesA nsh Tryz.prog 71 [pq pb0 0, a1, a2] f [.blk pb0 (.cells #[pv0_0, .int .i64 p0.count, .bool p0.deep] 102 (0,0)), .row pv0_0 96 1 pv0_0r] ab A res.2 (fun r f' ab' L' => ∃ (dp0_0 : Value) (dp0_0r : List (List Value)), L' = [.blk pb0 (.cells #[dp0_0, .int .i64 res.1.count, .bool res.1.deep] 102 (0,0)), .row dp0_0 96 1 dp0_0r] ∧ r = .tuple #[] ∧ RW (tP ab') f' dp0_0r res.1.open_) := by
 unfold zem at hm
 intro w0 L0 L w hA hC
 have hbs := List.prefix_refl ab
 replace hC : Cw w0 f (.blk pb0 (.cells #[pv0_0, .int .i64 p0.count, .bool p0.deep] 102 (0,0)) :: .row pv0_0 96 1 pv0_0r :: L) w := hC
 refine enter Tryz.func71 rfl Tryz.ntmps71 (by simp) hC fun a hs => ?_
 have hle := Fz.le.refl f
 refine Ws fun hK1 => Wq fun hK2 => sM hs rfl fun hs => s1 hs (y_apnil rfl rfl h2 U96) fun hs => za0 <| hK2 ?_
 refine zah hs rfl (fun hg4 => ?_) (fun hg4 => ?_)
 ·replace hm := oc_t hg4 hm
  refine Wq fun hK3 => sM hs rfl fun hs => sM hs rfl fun hs => ?_
  obtain ⟨x5, hx6, hm⟩ := ob hm
  replace hs := hs.front 1
  replace hs := hs.front 1
  refine zgp (Lr := [.blk pb0 (.cells #[pv0_0, .int .i64 (p0.count), .bool (p0.deep)] 102 (0,0)), .row pv0_0 96 1 pv0_0r]) [] hA hs rfl has67 rfl (zd6 n pv0_0h hx6) (.free rfl) (by decide) ?_; clear hs; (try clear a w)
  rintro v9 f7 _ a w hf8 ⟨_, v11, rw12, rfl, rfl, hp10, hW13⟩ hs
  replace hA := hA.le hf8
  replace hle := hle.trans hf8
  obtain ⟨x15, hx16, hm⟩ := ob hm
  obtain ⟨b17, rfl⟩ := RP.ptr h1 hx16
  have hp18 := h1
  have hq9 := AR.focusP [.blk pb0 (.cells #[v11, .int .i64 (x5.2.count), .bool (x5.2.deep)] 102 (0,0)), .row v11 96 1 rw12] hA hs hx16 hp18; clear hs
  clear hA
  obtain ⟨_, L, ⟨v19, v24, v26, rw27, rfl, ⟨rw20, hR21, hW22⟩, hp25, hW28⟩, hA, hs⟩ := hq9
  refine s1 hs (za5 rfl) fun hs => s1 (v := pq b17 3) hs (za1 rfl (FO.of (off := 3) U99 rfl rfl ti96 (by decide))) fun hs => sstore 0 hs rfl rfl rfl ti96 hp10.one fun _ _ hs => za0 <| hK3 ?_
  obtain ⟨x32, hx33, hm⟩ := ob hm
  obtain ⟨b34, rfl⟩ := RP.ptr hp10 hx33
  have hp35 := hp10
  have hq9 := AR.focusP [.blk b17 (.cells #[.string (x15.name), .string (x15.text), v19, pq b34 0, v26] 99 (0,0)), .row v26 96 1 rw27, .blk pb0 (.cells #[v11, .int .i64 (x5.2.count), .bool (x5.2.deep)] 102 (0,0)), .row v11 96 1 rw12] hA hs hx33 hp35; clear hs
  clear hA
  obtain ⟨_, L, ⟨v36, v41, v43, rw44, rfl, ⟨rw37, hR38, hW39⟩, hp42, hW45⟩, hA, hs⟩ := hq9
  have hsD := hs.subL (L' := .blk b34 (.cells #[.string (x32.name), .string (x32.text), v36, v41, v43] 99 (0,0)) :: .blk b17 (.cells #[.string (x15.name), .string (x15.text), v19, pq b34 0, v26] 99 (0,0)) :: []) (.cons_cons _ (.cons _ (.cons_cons _ (.cons _ (.cons _ (.cons _ (List.nil_sublist _)))))))
  have hbd49 := Fz.le.refl f7
  refine zj2 hs (.blk b34 (.cells #[.string (x32.name), .string (x32.text), v36, v41, v43] 99 (0,0)) :: .blk b17 (.cells #[.string (x15.name), .string (x15.text), v19, pq b34 0, v26] 99 (0,0)) :: []) [16] (.look 0 (.look 1 (.look 2 (.look 3 (.look 4 (.look 5 (.look 6 (.look 7 (.look 8 (.look 9 (.look 10 (.look 11 (.any [12] (fun _ => .any [13] (fun _ => .look 14 (.look 15 (.any [16] (fun _ => .done)))))))))))))))))) mixed (by kernel_rfl) fun _ he => uy (v := pq b17 0) 0 he rfl (za3 rfl) fun _ he => uy 1 he rfl (za5 rfl) fun _ he => uy (v := pq b17 3) 2 he rfl (za1 rfl (FO.of (off := 3) U99 rfl rfl ti96 (by decide))) fun _ he => uy (v := pq b34 0) 3 he rfl (y_ld rfl U96 rfl (Cell.blk (.tail _ (.head _)) rfl)) fun _ he => uy (v := pq b17 0) 4 he rfl (za3 rfl) fun _ he => uy 5 he rfl (za5 rfl) fun _ he => uy (v := pq b17 3) 6 he rfl (za1 rfl (FO.of (off := 3) U99 rfl rfl ti96 (by decide))) fun _ he => uy (v := pq b34 0) 7 he rfl (y_ld rfl U96 rfl (Cell.blk (.tail _ (.head _)) rfl)) fun _ he => uy 8 he rfl (za5 rfl) fun _ he => ?_
  refine uy (v := pq b34 4) 9 he rfl (za1 rfl (FO.of (off := 4) U99 rfl rfl ti97 (by decide))) fun _ he => uy (v := v43) 10 he rfl (y_ld rfl U97 rfl (Cell.blk (.head _) rfl)) fun _ he => uy (v := pq b17 0) 11 he rfl (za3 rfl) fun _ he => ?_
  refine zeh he rfl ?_; clear he; (try clear a); intro a w hs
  refine zg1 hs rfl U97 ti96 rfl rfl fun v50 _ _ hs => ?_
  have hW51 : RW (tP ab) f7 [[pq b17 0]] [p1] := RW.single (⟨_, rfl, hp18⟩)
  generalize hgrw52 : ([[pq b17 0]] : List (List Value)) = rw52 at hs hW51; clear hgrw52
  have ho55 : v50.oneCell' = true := hs.one (i := 0) rfl
  refine uon hs fun _ he => ?_
  refine zeh he rfl ?_; clear he; (try clear a); intro a w hs
  obtain ⟨x56, hx57, hm⟩ := ob hm
  obtain ⟨hbx56, hex56⟩ := zcb hx57
  have hW60 := hW45.append hW51; rw [hex56] at hW60
  refine zc9 (i := 2) hs rfl rfl rfl (Rd.st hs (.head _)) U97 ti96 (by decide) (by rw [RW.len hW45, RW.len hW51]; exact hbx56) (.free rfl) (by decide) fun v58 _ _ hs => ?_
  generalize hgx56 : rw44 ++ rw52 = rw59 at hs hW60; clear hgx56
  replace hs := hs.erase 0
  have ho62 : v58.oneCell' = true := hs.one (i := 1) rfl
  refine uon hs fun _ he => uy 14 he rfl (za5 rfl) fun _ he => uy (v := pq b34 4) 15 he rfl (za1 rfl (FO.of (off := 4) U99 rfl rfl ti97 (by decide))) fun _ he => ?_
  refine zeh he rfl ?_; clear he; (try clear a); intro a w hs
  refine sstore 0 hs rfl rfl rfl ti97 ho62 fun _ _ hs => uend hs fun _ he => ?_
  refine zmg he ?_; clear he; (try clear a); intro w hs; try clear hsD
  refine hK1 <| Wq fun hK4 => sM hs rfl fun hs => s1 hs (za5 rfl) fun hs => s1 (v := pq pb0 1) hs (za1 rfl (FO.of (off := 1) U102 rfl rfl ti3 (by decide))) fun hs => s1 (v := .int .i64 (x5.2.count)) hs (y_ld rfl U3 rfl (Cell.blk (.tail _ (.tail _ (.tail _ (.tail _ (.head _))))) rfl)) fun hs => s1 hs (zdz rfl rfl rfl) fun hs => s1 hs (za5 rfl) fun hs => s1 (v := pq pb0 1) hs (za1 rfl (FO.of (off := 1) U102 rfl rfl ti3 (by decide))) fun hs => ?_
  refine sstore 4 hs rfl rfl rfl ti3 rfl fun _ _ hs => za0 <| hK4 <| Wq fun hK5 => sA hs rfl fun hs => za0 <| hK5 <| Ws fun hK6 => Ws fun hK7 => ?_
  refine za2 <| sM hs rfl fun hs => sA hs rfl fun hs => za0 <| hK7 <| zam fun Qe8 hB8 hO8 => ?_
  replace hs := hs.front 1
  replace hs := hs.front 1
  have hq9 := AR.unfocusI (x := ({name := x32.name, text := x32.text, attrs := x32.attrs, above := x32.above, kids := x56} : za4)) [.blk b17 (.cells #[.string (x15.name), .string (x15.text), v19, pq b34 0, v26] 99 (0,0)), .row v26 96 1 rw27, .blk pb0 (.cells #[v11, .int .i64 ((w64 (x5.2.count + 1))), .bool (x5.2.deep)] 102 (0,0)), .row v11 96 1 rw12] hA hs (ziv hx33).1 hp35 (⟨v36, v41, v58, rw59, rfl, ⟨rw37, hR38, hW39⟩, hp42, hW60⟩); clear hs hA
  obtain ⟨L, hA, hs⟩ := hq9
  replace hs := hs.front 1
  replace hs := hs.front 1
  have hq9 := AR.unfocusI (x := ({name := x15.name, text := x15.text, attrs := x15.attrs, above := x5.1, kids := x15.kids} : za4)) [.blk pb0 (.cells #[v11, .int .i64 ((w64 (x5.2.count + 1))), .bool (x5.2.deep)] 102 (0,0)), .row v11 96 1 rw12] hA hs (ziv hx16).1 hp18 (⟨v19, pq b34 0, v26, rw27, rfl, ⟨rw20, hR21, hW22⟩, hp35, hW28⟩); clear hs hA
  obtain ⟨L, hA, hs⟩ := hq9
  obtain ⟨bK67, hbE68⟩ : ∃ z, z = ab := ⟨_, rfl⟩
  have hbb69 : bK67 <+: ab := by rw [hbE68]; exact List.prefix_refl _
  refine zd1 (fun (k : Nat) a w => ∃ (L : List Ent) (ab : List Nat) (y63 : Int) (y64 : Int) (v65 : Value), bK67 <+: ab ∧ AR nsh f7 ab (setM (setM A x5.1 ({name := x32.name, text := x32.text, attrs := x32.attrs, above := x32.above, kids := x56} : za4)) p1 ({name := x15.name, text := x15.text, attrs := x15.attrs, above := x5.1, kids := x15.kids} : za4)) [] L0 L ∧ zbq A p1 x5 x15 x32 x56 k y63 y64 = some res ∧ RP ab v65 y64 ∧ St 90 w0 f7 (.blk pb0 (.cells #[v11, .int .i64 ((w64 (x5.2.count + 1))), .bool (x5.2.deep)] 102 (0,0)) :: .row v11 96 1 rw12 :: L) [(0, pq pb0 0),(6, .int .i64 (y63)),(7, v65)] a w) (fun k => k) n ⟨L, ab,0, p1, pq b17 0, hbb69, hA, hm, hp18, hs.sub ⟨rfl, rfl, rfl, trivial⟩⟩ ?_
  clear hs hm
  clear hA
  intro k
  rintro a w ⟨L, ab, y63, y64, v65, hbx70, hA, hm, hp66, hs⟩
  have hbb69 := hbx70; rw [hbE68] at hbx70
  replace hW13 := hW13.grow hbx70
  replace hbs := hbs.trans hbx70
  intro K9 hK9
  cases k with
  | zero => simp [zbq] at hm
  | succ k71 =>
   rw [zbq] at hm
   refine Ws fun hK10 => Wq fun hK11 => sM hs rfl fun hs => s1 hs (zpl rfl rfl hp66 U96) fun hs => za0 <| hK11 ?_
   refine zah hs rfl (fun hg72 => ?_) (fun hg72 => ?_)
   ·replace hm := oc_t hg72 hm
    refine zaj <| hK10 <| Ws fun hK12 => zam fun Qe13 hB13 hO13 => za2 <| sM hs rfl fun hs => s1 hs (zdz rfl rfl rfl) fun hs => sA hs rfl fun hs => za0 <| hK12 ?_
    refine za2 <| sM hs rfl fun hs => ?_
    obtain ⟨x73, hx74, hm⟩ := ob hm
    obtain ⟨b75, rfl⟩ := RP.ptr hp66 hx74
    have hp76 := hp66
    have hq9 := AR.focusP [.blk pb0 (.cells #[v11, .int .i64 ((w64 (x5.2.count + 1))), .bool (x5.2.deep)] 102 (0,0)), .row v11 96 1 rw12] hA hs hx74 hp76; clear hs
    clear hA
    obtain ⟨_, L, ⟨v77, v82, v84, rw85, rfl, ⟨rw78, hR79, hW80⟩, hp83, hW86⟩, hA, hs⟩ := hq9
    refine s1 hs (za5 rfl) fun hs => s1 (v := pq b75 3) hs (za1 rfl (FO.of (off := 3) U99 rfl rfl ti96 (by decide))) fun hs => s1 (v := v82) hs (y_ld rfl U96 rfl (Cell.blk (.head _) rfl)) fun hs => sA hs rfl fun hs => za0 ?_
    replace hs := hs.front 1
    replace hs := hs.front 1
    have hq9 := AR.unfocusS [.blk pb0 (.cells #[v11, .int .i64 ((w64 (x5.2.count + 1))), .bool (x5.2.deep)] 102 (0,0)), .row v11 96 1 rw12] hA hs hx74 hp76 (⟨v77, v82, v84, rw85, rfl, ⟨rw78, hR79, hW80⟩, hp83, hW86⟩); clear hs hA
    obtain ⟨L, hA, hs⟩ := hq9
    exact hK9 k71 _ _ (Nat.lt_succ_self _) ⟨L, ab,(w64 (y63 + 1)), x73.above, v82, hbb69, hA, hm, hp83, hs.sub ⟨rfl, rfl, rfl, trivial⟩⟩
   replace hm := oc_f hg72 hm
   refine zc0 <| hB8 _ _ <| hK6 ?_
   refine zaq (fun a w => ∃ (y90 : Bool), zef A p1 x5 x15 x32 x56 y90 = some res ∧ St 90 w0 f7 (.blk pb0 (.cells #[v11, .int .i64 ((w64 (x5.2.count + 1))), .bool (y90)] 102 (0,0)) :: .row v11 96 1 rw12 :: L) [] a w) ?_ ?_
   ·clear hs hm
    rintro a w ⟨y90, hm, hs⟩
    unfold zef at hm
    obtain rfl := Option.some.inj hm
    refine RtV0 hs rfl  ?_
    exact ⟨_, f7, ab,[.blk pb0 (.cells #[v11, .int .i64 ((w64 (x5.2.count + 1))), .bool (y90)] 102 (0,0)), .row v11 96 1 rw12], L, rfl, hle, hbs, hA, hs.cw, v11, rw12, rfl, rfl, hW13⟩
   refine za2 <| sM hs rfl fun hs => sM hs rfl fun hs => s1 hs (za5 rfl) fun hs => s1 (v := pq pb0 2) hs (za1 rfl (FO.of (off := 2) U102 rfl rfl ti4 (by decide))) fun hs => s1 (v := .bool (x5.2.deep)) hs (y_ld rfl U4 rfl (Cell.blk (.head _) rfl)) fun hs => sM hs rfl fun hs => ?_
   refine St.split hs (t := 84) rfl (fun hg91 hs => ?_) (fun hg91 hs => ?_)
   ·replace hm := oc_t hg91 hm
    refine s3 hs fun hs => s3 hs fun hs => sP hs rfl rfl fun hs => s1 hs (za5 rfl) fun hs => s1 (v := pq pb0 2) hs (za1 rfl (FO.of (off := 2) U102 rfl rfl ti4 (by decide))) fun hs => sstore 0 hs rfl rfl rfl ti4 rfl fun _ _ hs => za0 ?_
    exact ⟨true, hm, hs.sub trivial⟩
   replace hm := oc_f hg91 hm
   refine s2 (v := .int .i64 (y63)) hs (za3 rfl) fun hs => s2 hs (zhq rfl rfl) fun hs => sP hs rfl rfl fun hs => s1 hs (za5 rfl) fun hs => s1 (v := pq pb0 2) hs (za1 rfl (FO.of (off := 2) U102 rfl rfl ti4 (by decide))) fun hs => sstore 0 hs rfl rfl rfl ti4 rfl fun _ _ hs => za0 ?_
   exact ⟨decide (256 < y63), hm, hs.sub trivial⟩
 replace hm := oc_f hg4 hm
 refine Ws fun hK14 => ?_
 cases hm
def zcx (n : Nat) (A : (List za4)) (p1 : ByteArray) (y47 : Int) (x51 : (Int × za7)) (y79 : Bool) : Option (za7 × (List za4)) :=
  (bif y79 then none else
  (zem n x51.2 (A.length : Int) y47 (A ++ [({name := (bs []), text := p1, attrs := ([] : List zab), above := (-1 : Int), kids := ([] : List Int)} : za4)])).bind fun x91 =>
  some (({open_ := x91.1.open_, count := x91.1.count, deep := x91.1.deep} : za7), x91.2))
def zdo (n : Nat) (A : (List za4)) (p1 : ByteArray) (y40 : (List Int)) (y45 : Int) (y46 : Bool) (y47 : Int) : Option (za7 × (List za4)) :=
  (zbc n ({open_ := y40, count := y45, deep := y46} : za7) A).bind fun x51 =>
  (focM A [] x51.1).bind fun x61 =>
  (bif (!(decide (y47 = -1))) then none else
  (bif (decide (0 < (x61.kids.length : Int))) then (geti x61.kids (w64 ((x61.kids.length : Int) - 1))).bind fun x101 =>
  (focM A [] x101).bind fun x110 =>
  zcx n A p1 y47 x51 (decide (x110.name = (bs []))) else
  zcx n A p1 y47 x51 false))
def zer (n : Nat) (A : (List za4)) (p1 : ByteArray) (x128 : (Int × za7)) (y138 : Bool) : Option (za7 × (List za4)) :=
  (bif y138 then some (({open_ := x128.2.open_, count := x128.2.count, deep := x128.2.deep} : za7), A) else
  zdo n A p1 x128.2.open_ x128.2.count x128.2.deep x128.1)
def zdx (n : Nat) (p0 : za7) (p1 : ByteArray) (A : (List za4)) : Option (za7 × (List za4)) :=
  (zbc n p0 A).bind fun x4 =>
  (focM A [] x4.1).bind fun x14 =>
  (zid n x14.name [(bs [116,97,98,108,101]),(bs [116,114])]).bind fun x36 =>
  (bif x36 then (zhd n x4.2 A).bind fun x128 =>
  (bif (!(decide (x128.1 = -1))) then (zll n p1).bind fun x141 =>
  zer n A p1 x128 x141 else
  zer n A p1 x128 false) else
  zdo n A p1 x4.2.open_ x4.2.count x4.2.deep (-1 : Int))
theorem zkj (n : Nat) {f : Fz} {ab : List Nat} {A : List za4} {p0 : za7} {pb0 : Nat} {pv0_0 : Value} {pv0_0r : List (List Value)} {p1 : ByteArray} {res : (za7 × (List za4))} (pv0_0h : RW (tP ab) f pv0_0r p0.open_) (hm : zdx n p0 p1 A = some res) : DoesA nsh Tryz.prog 43 [pq pb0 0, .string p1] f [.blk pb0 (.cells #[pv0_0, .int .i64 p0.count, .bool p0.deep] 102 (0,0)), .row pv0_0 96 1 pv0_0r] ab A res.2 (fun r f' ab' L' => ∃ (dp0_0 : Value) (dp0_0r : List (List Value)), L' = [.blk pb0 (.cells #[dp0_0, .int .i64 res.1.count, .bool res.1.deep] 102 (0,0)), .row dp0_0 96 1 dp0_0r] ∧ r = .tuple #[] ∧ RW (tP ab') f' dp0_0r res.1.open_) := by
 unfold zdx at hm
 intro w0 L0 L w hA hC
 have hbs := List.prefix_refl ab
 replace hC : Cw w0 f (.blk pb0 (.cells #[pv0_0, .int .i64 p0.count, .bool p0.deep] 102 (0,0)) :: .row pv0_0 96 1 pv0_0r :: L) w := hC
 refine enter Tryz.func43 rfl Tryz.ntmps43 (by simp) hC fun a hs => ?_
 have hle := Fz.le.refl f
 refine Wq fun hK1 => sA hs rfl fun hs => za0 <| hK1 <| Ws fun hK2 => Wq fun hK3 => sM hs rfl fun hs => ?_
 obtain ⟨x4, hx5, hm⟩ := ob hm
 replace hs := hs.front 1
 replace hs := hs.front 1
 refine zgp (Lr := [.blk pb0 (.cells #[pv0_0, .int .i64 (p0.count), .bool (p0.deep)] 102 (0,0)), .row pv0_0 96 1 pv0_0r]) [] hA hs rfl has67 rfl (zd6 n pv0_0h hx5) (.free rfl) (by decide) ?_; clear hs; (try clear a w)
 rintro v8 f6 _ a w hf7 ⟨_, v10, rw11, rfl, rfl, hp9, hW12⟩ hs
 replace hA := hA.le hf7
 replace hle := hle.trans hf7
 obtain ⟨x14, hx15, hm⟩ := ob hm
 obtain ⟨b30, rfl, _, ⟨v18, v23, v25, rw26, rfl, ⟨rw19, hR20, hW21⟩, hp24, hW27⟩, hpm29⟩ := AR.peek hA hx15 hp9
 have hm16 := hpm29 _ (.head _); have hm17 := hpm29 _ (.tail _ (.head _)); clear hpm29
 refine s1 hs (za5 rfl) fun hs => s1 (v := pq b30 0) hs (za1 rfl (FO.of (off := 0) U99 rfl rfl ti9 (by decide))) fun hs => s1 (v := .string (x14.name)) hs (y_ld rfl U9 rfl (Cell.blk (.tail _ (.tail _ (hm16))) rfl)) fun hs => ?_
 refine zjv (parts := [(0, .const (.string (bs [116,97,98,108,101]))),(1, .const (.string (bs [116,114])))]) (us := [.string ((bs [116,97,98,108,101])), .string ((bs [116,114]))]) (rows := [[.string ((bs [116,97,98,108,101]))],[.string ((bs [116,114]))]]) hs rfl U47 ti9 (by decide) rfl rfl (by intro r hr; simp only [List.mem_cons, List.mem_nil_iff, or_false] at hr; rcases hr with rfl | rfl; exact AllC.row ⟨rfl, trivial⟩ rfl; exact AllC.row ⟨rfl, trivial⟩ rfl) fun v31 _ _ hs => ?_
 have hW32 : RW tStr f6 [[.string ((bs [116,97,98,108,101]))],[.string ((bs [116,114]))]] [(bs [116,97,98,108,101]),(bs [116,114])] := ⟨rfl, ⟨rfl, trivial⟩⟩
 generalize hgrw33 : ([[.string ((bs [116,97,98,108,101]))],[.string ((bs [116,114]))]] : List (List Value)) = rw33 at hs hW32; clear hgrw33
 obtain ⟨x36, hx37, hm⟩ := ob hm
 refine sy hs (zdr (cap := []) rfl has40 rfl (fun w9 hw9 => callsP (Lr := [.row v31 9 1 rw33]) (Lf := .blk pb0 (.cells #[v10, .int .i64 (x4.2.count), .bool (x4.2.deep)] 102 (0,0)) :: .row v10 96 1 rw11 :: L) (zal _ 0 rfl) hw9 (fun Lz w9 hw9 => lent0 hw9 (fun f9_0 w9 hle9_0 hRl0 hw9 => (zhu n ⟨rw33, hRl0, hW32.le hle9_0⟩ hx37) w0 _ w9 hw9)))) fun _ _ hs => za0 <| hK3 ?_
 have hbase50 := Fz.le.refl f6
 refine zaq (fun a w => ∃ (f38 : Fz) (y40 : (List Int)) (y45 : Int) (y46 : Bool) (y47 : Int) (v41 : Value) (rw42 : List (List Value)) (v48 : Value), Fz.le f6 f38 ∧ zdo n A p1 y40 y45 y46 y47 = some res ∧ RW (tP ab) f38 rw42 y40 ∧ RP ab v48 y47 ∧ St 72 w0 f38 (.blk pb0 (.cells #[v41, .int .i64 (y45), .bool (y46)] 102 (0,0)) :: .row v41 96 1 rw42 :: L) [(0, pq pb0 0),(1, .string (p1)),(4, v48)] a w) ?_ ?_
 ·clear hs hm
  clear hbase50
  rintro a w ⟨f38, y40, y45, y46, y47, v41, rw42, v48, hl39, hm, hW43, hp49, hs⟩
  replace hA := hA.le hl39
  replace hle := hle.trans hl39
  unfold zdo at hm
  refine hK2 <| Wq fun hK4 => sM hs rfl fun hs => ?_
  obtain ⟨x51, hx52, hm⟩ := ob hm
  replace hs := hs.front 1
  replace hs := hs.front 1
  refine zgp (Lr := [.blk pb0 (.cells #[v41, .int .i64 (y45), .bool (y46)] 102 (0,0)), .row v41 96 1 rw42]) [] hA hs rfl has67 rfl (zd6 n hW43 hx52) (.free rfl) (by decide) ?_; clear hs; (try clear a w)
  rintro v55 f53 _ a w hf54 ⟨_, v57, rw58, rfl, rfl, hp56, hW59⟩ hs
  replace hA := hA.le hf54
  replace hle := hle.trans hf54
  obtain ⟨x61, hx62, hm⟩ := ob hm
  obtain ⟨b77, rfl, _, ⟨v65, v70, v72, rw73, rfl, ⟨rw66, hR67, hW68⟩, hp71, hW74⟩, hpm76⟩ := AR.peek hA hx62 hp56
  have hm63 := hpm76 _ (.head _); have hm64 := hpm76 _ (.tail _ (.head _)); clear hpm76
  refine s1 hs (za5 rfl) fun hs => s1 (v := pq b77 4) hs (za1 rfl (FO.of (off := 4) U99 rfl rfl ti97 (by decide))) fun hs => s1 (v := v72) hs (y_ld rfl U97 rfl (Cell.blk (.tail _ (.tail _ (hm63))) rfl)) fun hs => sA hs rfl fun hs => za0 <| hK4 <| Wq fun hK5 => sM hs rfl fun hs => s1 hs (zc3 (Rd.st hs (.tail _ (.tail _ (hm64)))) hW74 rfl U97) fun hs => ?_
  refine sA hs rfl fun hs => za0 <| hK5 <| Ws fun hK6 => Wq fun hK7 => sM hs rfl fun hs => s1 hs (zpl rfl rfl hp49 U96) fun hs => za0 <| hK7 ?_
  refine zah hs rfl (fun hg78 => ?_) (fun hg78 => ?_)
  ·replace hm := oc_t hg78 hm
   refine Ws fun hK8 => ?_
   cases hm
  replace hm := oc_f hg78 hm
  refine zaj <| hK6 <| Ws fun hK9 => Ws fun hK10 => ?_
  refine zaq (fun a w => ∃ (y79 : Bool), zcx n A p1 y47 x51 y79 = some res ∧ St 72 w0 f53 (.blk pb0 (.cells #[v57, .int .i64 (x51.2.count), .bool (x51.2.deep)] 102 (0,0)) :: .row v57 96 1 rw58 :: L) [(0, pq pb0 0),(1, .string (p1)),(4, v48),(53, .bool (y79))] a w) ?_ ?_
  ·clear hs hm
   rintro a w ⟨y79, hm, hs⟩
   unfold zcx at hm
   refine hK10 ?_
   refine zah hs rfl (fun hg80 => ?_) (fun hg80 => ?_)
   ·replace hm := oc_t hg80 hm
    refine Ws fun hK11 => ?_
    cases hm
   replace hm := oc_f hg80 hm
   refine zaj <| hK9 <| za2 <| sM hs rfl fun hs => sM hs rfl fun hs => s1 hs (ze4 (places := [(0,1),(1,1),(2,1),(3,1),(4,1)]) (cs := [.string ((bs [])), .string (p1),(.slice none 0 0), .pointer none,(.slice none 0 0)]) rfl U99 ti99 (by kernel_rfl) (by decide) rfl ⟨rfl, trivial⟩) fun hs => sbox hs rfl fun b83 _ _ hs => ?_
   replace hs := hs.nilRow 96 1
   have hW85 : RW (tP ab) f53 [] ([] : List Int) := trivial
   generalize hgrw86 : ([] : List (List Value)) = rw86 at hs hW85; clear hgrw86
   replace hs := hs.front 0
   replace hs := hs.front 1
   have hq9 := AR.adopt (b := b83) (x := ({name := (bs []), text := p1, attrs := ([] : List zab), above := (-1 : Int), kids := ([] : List Int)} : za4)) [.blk pb0 (.cells #[v57, .int .i64 (x51.2.count), .bool (x51.2.deep)] 102 (0,0)), .row v57 96 1 rw58] hA hs (⟨(.slice none 0 0), .pointer none,(.slice none 0 0), rw86, rfl, RS.nil, RP.nil, hW85.grow (List.prefix_append _ _)⟩); clear hs hA
   obtain ⟨ab, L, hbg89, hA, hp90, hs⟩ := hq9
   replace hp49 := hp49.grow hbg89
   replace hW59 := hW59.grow hbg89
   replace hbs := hbs.trans hbg89
   refine sM hs rfl fun hs => ?_
   obtain ⟨x91, hx92, hm⟩ := ob hm
   replace hs := hs.front 1
   replace hs := hs.front 1
   refine zl4 (Lr := [.blk pb0 (.cells #[v57, .int .i64 (x51.2.count), .bool (x51.2.deep)] 102 (0,0)), .row v57 96 1 rw58]) [] hA hs rfl has71 rfl (zip n hW59 hp90 hp49 hx92) (.free rfl) (by decide) ?_; clear hs; (try clear a w)
   clear hA
   rintro _ f93 ab _ L a w hf94 hbg98 hA ⟨v95, rw96, rfl, rfl, hW97⟩ hs
   replace hle := hle.trans hf94
   replace hbs := hbs.trans hbg98
   refine za0 ?_
   obtain rfl := Option.some.inj hm
   refine RtV0 hs rfl  ?_
   exact ⟨_, f93, ab,[.blk pb0 (.cells #[v95, .int .i64 (x91.1.count), .bool (x91.1.deep)] 102 (0,0)), .row v95 96 1 rw96], L, rfl, hle, hbs, hA, hs.cw, v95, rw96, rfl, rfl, hW97⟩
  refine za2 <| sM hs rfl fun hs => s1 hs (zhq rfl rfl) fun hs => sM hs rfl fun hs => ?_
  refine St.split hs (t := 43) rfl (fun hg100 hs => ?_) (fun hg100 hs => ?_)
  ·replace hm := oc_t hg100 hm
   refine s2 (v := v72) hs (za3 rfl) fun hs => s2 (v := .int .i64 ((x61.kids.length : Int))) hs (za3 rfl) fun hs => s2 hs (zn2 rfl rfl rfl) fun hs => ?_
   obtain ⟨x101, hx102, hm⟩ := ob hm
   obtain ⟨r103, hr104, hq105, hi106, hb107⟩ := hW74.geti hx102
   obtain ⟨v108, rfl, hp109⟩ := hq105
   refine s2 hs (zac (Rd.st hs (.tail _ (.tail _ (hm64)))) rfl rfl hi106 hb107 U97 ti96) fun hs => s2 (v := v108) hs (zbm (i := (w64 ((x61.kids.length : Int) - 1)).toNat) (j := 0) (Rd.st hs (.tail _ (.tail _ (hm64)))) rfl hr104 rfl U96 rfl) fun hs => ?_
   obtain ⟨x110, hx111, hm⟩ := ob hm
   obtain ⟨b126, rfl, _, ⟨v114, v119, v121, rw122, rfl, ⟨rw115, hR116, hW117⟩, hp120, hW123⟩, hpm125⟩ := AR.peek hA hx111 hp109
   have hm112 := hpm125 _ (.head _); have hm113 := hpm125 _ (.tail _ (.head _)); clear hpm125
   refine s2 hs (za5 rfl) fun hs => s2 (v := pq b126 0) hs (za1 rfl (FO.of (off := 0) U99 rfl rfl ti9 (by decide))) fun hs => s2 (v := .string (x110.name)) hs (y_ld rfl U9 rfl (Cell.blk (.tail _ (.tail _ (hm112))) rfl)) fun hs => s2 hs (zcs rfl rfl) fun hs => sP hs rfl rfl fun hs => za0 ?_
   exact ⟨decide (x110.name = (bs [])), hm, hs.sub ⟨rfl, rfl, rfl, rfl, trivial⟩⟩
  replace hm := oc_f hg100 hm
  refine s3 hs fun hs => s3 hs fun hs => s3 hs fun hs => s3 hs fun hs => s3 hs fun hs => s3 hs fun hs => s3 hs fun hs => s3 hs fun hs => s3 hs fun hs => sP hs rfl rfl fun hs => ?_
  refine za0 ?_
  exact ⟨false, hm, hs.sub ⟨rfl, rfl, rfl, rfl, trivial⟩⟩
 refine zah hs rfl (fun hg127 => ?_) (fun hg127 => ?_)
 ·replace hm := oc_t hg127 hm
  refine Wq fun hK12 => sM hs rfl fun hs => ?_
  obtain ⟨x128, hx129, hm⟩ := ob hm
  replace hs := hs.front 2
  replace hs := hs.front 2
  refine zgp (Lr := [.blk pb0 (.cells #[v10, .int .i64 (x4.2.count), .bool (x4.2.deep)] 102 (0,0)), .row v10 96 1 rw11]) [.row v31 9 1 rw33] hA hs rfl has68 rfl (zkk n hW12 hx129) (.free rfl) (by decide) ?_; clear hs; (try clear a w)
  rintro v132 f130 _ a w hf131 ⟨_, v134, rw135, rfl, rfl, hp133, hW136⟩ hs
  replace hA := hA.le hf131
  replace hle := hle.trans hf131
  replace hbase50 := hbase50.trans hf131
  refine sA hs rfl fun hs => za0 <| hK12 <| Ws fun hK13 => ?_
  refine zaq (fun a w => ∃ (y138 : Bool), zer n A p1 x128 y138 = some res ∧ St 72 w0 f130 (.blk pb0 (.cells #[v134, .int .i64 (x128.2.count), .bool (x128.2.deep)] 102 (0,0)) :: .row v134 96 1 rw135 :: L) [(0, pq pb0 0),(1, .string (p1)),(4, v132),(21, .bool (y138))] a w) ?_ ?_
  ·clear hs hm
   rintro a w ⟨y138, hm, hs⟩
   unfold zer at hm
   refine hK13 ?_
   refine zah hs rfl (fun hg139 => ?_) (fun hg139 => ?_)
   ·replace hm := oc_t hg139 hm
    refine zax ?_
    obtain rfl := Option.some.inj hm
    refine RtV0 hs rfl  ?_
    exact ⟨_, f130, ab,[.blk pb0 (.cells #[v134, .int .i64 (x128.2.count), .bool (x128.2.deep)] 102 (0,0)), .row v134 96 1 rw135], L, rfl, hle, hbs, hA, hs.cw, v134, rw135, rfl, rfl, hW136⟩
   replace hm := oc_f hg139 hm
   refine zaj ?_
   exact ⟨_, x128.2.open_, x128.2.count, x128.2.deep, x128.1, v134, rw135, v132, hbase50, hm, hW136, hp133, hs.sub ⟨rfl, rfl, rfl, trivial⟩⟩
  refine za2 <| sM hs rfl fun hs => s1 hs (zpl rfl rfl hp133 U96) fun hs => sM hs rfl fun hs => ?_
  refine St.split hs (t := 18) rfl (fun hg140 hs => ?_) (fun hg140 hs => ?_)
  ·replace hm := oc_t hg140 hm
   refine s2 (v := .string (p1)) hs (za3 rfl) fun hs => ?_
   obtain ⟨x141, hx142, hm⟩ := ob hm
   refine s2 hs (zbi rfl has69 rfl (zoe n  hx142)) fun hs => sP hs rfl rfl fun hs => za0 ?_
   exact ⟨x141, hm, hs.subs ⟨rfl, rfl, rfl, rfl, trivial⟩ (.cons_cons _ (.cons_cons _ (.cons _ (.refl _))))⟩
  replace hm := oc_f hg140 hm
  refine s3 hs fun hs => s3 hs fun hs => sP hs rfl rfl fun hs => za0 ?_
  exact ⟨false, hm, hs.subs ⟨rfl, rfl, rfl, rfl, trivial⟩ (.cons_cons _ (.cons_cons _ (.cons _ (.refl _))))⟩
 replace hm := oc_f hg127 hm
 refine zaj ?_
 exact ⟨_, x4.2.open_, x4.2.count, x4.2.deep,(-1 : Int), v10, rw11, .pointer none,(Fz.le.refl _), hm, hW12, RP.nil, hs.subs ⟨rfl, rfl, rfl, trivial⟩ (.cons _ (.cons_cons _ (.cons_cons _ (.refl _))))⟩
end
end Go.Proofs.YtpfdbeafdjnbnaaGreatDoor
