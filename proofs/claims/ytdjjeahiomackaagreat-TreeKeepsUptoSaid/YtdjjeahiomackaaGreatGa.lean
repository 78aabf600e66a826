/-
  Walks and laws of this seat.
-/
import Derived.Test.YtdjjeahiomackaaGreatBash
import Derived.Test.YtdjjeahiomackaaGreatT6
import Derived.Test.YtdjjeahiomackaaGreatRows
import Derived.Lib.Bytealg
import Derived.Test.YtdjjeahiomackaaGreatL6c
namespace Go.Proofs.YtdjjeahiomackaaGreat
set_option linter.unusedVariables false
set_option linter.unusedSimpArgs false
set_option linter.unusedSectionVars false
section
set_option maxHeartbeats 4000000
set_option maxRecDepth 100000
open Go.RowKit Go.Sl
set_option maxRecDepth 20000
theorem zkg {f : Fz} {pb : Nat} {u : Bool} {v : Value} : Does Tryz.prog 102 [.pointer (some ⟨pb,0, none⟩)] f [.blk pb (.cells #[baddr pb u, v] 130 (0,0))] (fun r _ L' => L' = [.blk pb (.cells #[baddr pb true, v] 130 (0,0))] ∧ r = .tuple #[]) := by
 intro w0 L w hC
 replace hC : Cw w0 f (.blk pb (.cells #[baddr pb u, v] 130 (0,0)) :: L) w := hC
 refine enter Tryz.func102 rfl Tryz.ntmps102 (by simp) hC fun a hs => ?_
 have hle := Fz.le.refl f
 refine zay (fun a w => St 20 w0 f (.blk pb (.cells #[baddr pb true, v] 130 (0,0)) :: L) [] a w) ?_ ?_
 ·clear hs
  intro a w hs
  refine RtV0 hs rfl ?_
  exact ⟨_, f,[.blk pb (.cells #[baddr pb true, v] 130 (0,0))], rfl, hle, hs.cw, rfl, rfl⟩
 refine Wq fun hK2 => sM hs rfl fun hs => s1 hs (za6 rfl) fun hs => s1 (v := .pointer (some ⟨pb,0, none⟩)) hs (za3 rfl (FO.of (off := 0) Tryz.underlying130 rfl rfl ti128 (by decide))) fun hs => s1 (v := baddr pb u) hs (y_ld rfl Tryz.underlying128 rfl (Cell.blk (.head _) rfl)) fun hs => ?_
 cases u with
 | false =>
  refine s1 (v := .bool true) hs (y_pnn rfl rfl Tryz.underlying128) fun hs => za1 <| hK2 <| zag hs rfl (fun _ => ?_) (fun hg => nomatch hg)
  refine za5 <| sM hs rfl fun hs => sM hs rfl fun hs => s1 hs (ztr rfl Tryz.underlying128 Tryz.underlying146 ti130 (by decide) (.head _) (by simp)) fun hs => ?_
  refine sy hs (y_callE (gn := 108) (v := .pointer (some ⟨pb,0, none⟩)) rfl rfl (fun w => by rw [Go.run_callFunc_extern (e := Extern.AbiNoEscape.same) Tryz.func108 rfl rfl rfl rfl]; rfl)) fun _ _ hs => ?_
  refine s1 hs (zqj rfl Tryz.underlying146 Tryz.underlying128 ti130 (.head _) (by kernel_rfl)) fun hs => s1 hs (za6 rfl) fun hs => s1 (v := .pointer (some ⟨pb,0, none⟩)) hs (za3 rfl (FO.of (off := 0) Tryz.underlying130 rfl rfl ti128 (by decide))) fun hs => sstore 0 hs rfl rfl rfl ti128 rfl fun _ _ hs => za1 ?_
  exact hs.sub trivial
 | true =>
  refine s1 (v := .bool false) hs (y_pnil rfl rfl Tryz.underlying128) fun hs => za1 <| hK2 <| zag hs rfl (fun hg => nomatch hg) (fun _ => ?_)
  refine Wq fun hK3 => sM hs rfl fun hs => s1 hs (za6 rfl) fun hs => s1 (v := .pointer (some ⟨pb,0, none⟩)) hs (za3 rfl (FO.of (off := 0) Tryz.underlying130 rfl rfl ti128 (by decide))) fun hs => s1 (v := .pointer (some ⟨pb,0, none⟩)) hs (y_ld rfl Tryz.underlying128 rfl (Cell.blk (.head _) rfl)) fun hs => sM hs rfl fun hs => s1 (v := .bool false) hs (y_pselfN rfl rfl Tryz.underlying128 ti130) fun hs => za1 <| hK3 ?_
  refine zag hs rfl (fun hg => nomatch hg) (fun _ => ?_)
  refine zak ?_
  exact hs.sub trivial
def zgq (_n : Nat) (p0 : Builder) (p1 : Int) : Option Builder := (appM 1 p0.buf [p1]).bind fun y => some { addr := true, buf := y }
theorem zkh (n : Nat) {f : Fz} {p0 : Builder} {pb : Nat} {v : Value} {vr : List (List Value)} {p1 : Int} {res : Builder} (hv : RW (tInt .u8) f vr p0.buf) (hm : zgq n p0 p1 = some res) :
    Does Tryz.prog 88 [.pointer (some ⟨pb,0, none⟩), .int .u8 p1] f [.blk pb (.cells #[baddr pb p0.addr, v] 130 (0,0)), .row v 5 1 vr] (fun r f' L' => ∃ (v' : Value) (vr' : List (List Value)), L' = [.blk pb (.cells #[baddr pb res.addr, v'] 130 (0,0)), .row v' 5 1 vr'] ∧ r = .nilIface ∧ RW (tInt .u8) f' vr' res.buf) := by
 unfold zgq at hm
 intro w0 L w hC
 replace hC : Cw w0 f (.blk pb (.cells #[baddr pb p0.addr, v] 130 (0,0)) :: .row v 5 1 vr :: L) w := hC
 refine enter Tryz.func88 rfl Tryz.ntmps88 (by simp) hC fun a hs => ?_
 have hle := Fz.le.refl f
 refine Wq fun hK1 => sA hs rfl fun hs => za1 <| hK1 <| Wq fun hK2 => sM hs rfl fun hs => ?_
 refine zdo (Lr := [.blk pb (.cells #[baddr pb p0.addr, v] 130 (0,0))]) (Lf := .row v 5 1 vr :: L) hs rfl has102 rfl rfl (zkg) (.free rfl) (by decide) ?_; clear hs; (try clear a w)
 rintro _ f1 _ a w hf1 ⟨rfl, rfl⟩ hs
 replace hv := hv.le hf1
 replace hle := hle.trans hf1
 refine za1 <| hK2 <| Wq fun hK3 => sM hs rfl fun hs => sM hs rfl fun hs => s1 hs (za6 rfl) fun hs => s1 (v := .pointer (some ⟨pb,1, none⟩)) hs (za3 rfl (FO.of (off := 1) Tryz.underlying130 rfl rfl ti91 (by decide))) fun hs => s1 (v := v) hs (y_ld rfl Tryz.underlying91 rfl (Cell.blk (.head _) rfl)) fun hs => sM hs rfl fun hs => ?_
 refine zh8 hs rfl Tryz.underlying91 ti5 rfl rfl fun v2 _ _ hs => ?_
 have hv2 : RW (tInt .u8) f1 [[.int .u8 p1]] [p1] := RW.single rfl
 generalize ([[.int .u8 p1]] : List (List Value)) = rw2 at hs hv2
 obtain ⟨x1, hx1, hm⟩ := ob hm
 obtain ⟨hb1, he1⟩ := zcs hx1
 have hv1 := hv.append hv2; rw [he1] at hv1
 refine zdb (i := 2) hs rfl rfl rfl (Rd.st hs (.head _)) Tryz.underlying91 ti5 (by decide) (by rw [RW.len hv, RW.len hv2]; exact hb1) (.free rfl) (by decide) fun v1 _ _ hs => ?_
 generalize vr ++ rw2 = rw1 at hs hv1
 replace hs := hs.erase 0
 refine s1 hs (za6 rfl) fun hs => s1 (v := .pointer (some ⟨pb,1, none⟩)) hs (za3 rfl (FO.of (off := 1) Tryz.underlying130 rfl rfl ti91 (by decide))) fun hs => sstore 0 hs rfl rfl rfl ti91 (hs.one (i := 1) rfl) fun _ _ hs => za1 <| hK3 <| Wq fun hK4 => sA hs rfl fun hs => za1 <| hK4 ?_
 refine zbl ?_
 obtain rfl := Option.some.inj hm
 refine RtV1 hs rfl (rv_t hs rfl) ?_
 exact ⟨_, f1,[.blk pb (.cells #[baddr pb true, v1] 130 (0,0)), .row v1 5 1 rw1], rfl, hle, hs.cw, v1, rw1, rfl, rfl, hv1⟩
theorem zmh (_n : Nat) {f : Fz} {p0 : Builder} {pb : Nat} {v : Value} {vr : List (List Value)} (hv : RW (tInt .u8) f vr p0.buf) :
    Does Tryz.prog 89 [.pointer (some ⟨pb,0, none⟩)] f [.blk pb (.cells #[baddr pb p0.addr, v] 130 (0,0)), .row v 5 1 vr] (fun r _ L' => L' = [] ∧ r = .string (bytesOf p0.buf)) := by
 intro w0 L w hC
 replace hC : Cw w0 f (.blk pb (.cells #[baddr pb p0.addr, v] 130 (0,0)) :: .row v 5 1 vr :: L) w := hC
 refine enter Tryz.func89 rfl Tryz.ntmps89 (by simp) hC fun a hs => ?_
 have hle := Fz.le.refl f
 refine Wq fun hK1 => sA hs rfl fun hs => za1 <| hK1 <| Ws fun hK2 => ?_
 have hsD := hs.subL (L' := .blk pb (.cells #[baddr pb p0.addr, v] 130 (0,0)) :: .row v 5 1 vr :: []) (.cons_cons _ (.cons_cons _ (List.nil_sublist _)))
 refine zhu hs (.blk pb (.cells #[baddr pb p0.addr, v] 130 (0,0)) :: .row v 5 1 vr :: []) [10,11] (.look 0 (.look 1 (.look 2 (.look 3 (.look 5 (.look 6 (.look 7 (.look 8 (.look 9 (.any [4] (fun _ => .any [10] (fun _ => .any [11] (fun _ => .done))))))))))))) mixed (by kernel_rfl) fun _ he => uy 0 (v := .pointer (some ⟨pb,0, none⟩)) he rfl (za9 rfl) fun _ he => uy 1 he rfl (za6 rfl) fun _ he => uy 2 (v := .pointer (some ⟨pb,1, none⟩)) he rfl (za3 rfl (FO.of (off := 1) Tryz.underlying130 rfl rfl ti91 (by decide))) fun _ he => uy 3 (v := v) he rfl (y_ld rfl Tryz.underlying91 rfl (Cell.blk (.head _) rfl)) fun _ he => uy 5 (v := .pointer (some ⟨pb,0, none⟩)) he rfl (za9 rfl) fun _ he => uy 6 he rfl (za6 rfl) fun _ he => uy 7 (v := .pointer (some ⟨pb,1, none⟩)) he rfl (za3 rfl (FO.of (off := 1) Tryz.underlying130 rfl rfl ti91 (by decide))) fun _ he => uy 8 (v := v) he rfl (y_ld rfl Tryz.underlying91 rfl (Cell.blk (.head _) rfl)) fun _ he => uy 9 he rfl (ze4 (Rd.st hsD (.tail _ (.head _))) hv rfl Tryz.underlying91) fun _ he => ?_
 refine zd1 he rfl ?_; clear he; (try clear a); intro a w hs
 refine RL_usd (i := 1) hs rfl rfl Tryz.underlying144 fun p L1 _ _ hp hs => ?_
 refine uon hs ?_ (Fz.le.refl _) (.trans (.cons_cons _ (.cons_cons _ (List.nil_sublist _))) (List.sublist_append_right L1 _)); clear hs; (try clear a w); intro a he
 refine zd1 he rfl ?_; clear he; (try clear a); intro a w hs
 have hi : (L1 ++ (.blk pb (.cells #[baddr pb p0.addr, v] 130 (0,0)) :: .row v 5 1 vr :: L))[L1.length + 1]? = some (.row v 5 1 vr) := by
  rw [List.getElem?_append_right (by omega)]; simp
 refine RL_ust (p := p) hs hi hv rfl rfl hp Tryz.underlying144 (by kernel_rfl) fun _ _ hs => uend hs fun _ he => ?_
 refine zd1 he rfl ?_; clear he; (try clear a); intro a w hs
 refine sA hs rfl fun hs => uend hs fun _ he => ?_
 refine zmj he ?_; clear he; (try clear a); intro w hs; try clear hsD
 refine hK2 <| zbl <| RtV1 hs rfl (rv_t hs rfl) <| ⟨_, f,[], rfl, hle, hs.cw.sub ?_, rfl, rfl⟩
 have e1 : (L1 ++ (.blk pb (.cells #[baddr pb p0.addr, v] 130 (0,0)) :: .row v 5 1 vr :: L)).eraseIdx (L1.length + 1) = L1 ++ (.blk pb (.cells #[baddr pb p0.addr, v] 130 (0,0)) :: L) := by
  rw [List.eraseIdx_append_of_length_le (by omega)]; simp
 rw [e1]
 exact (List.sublist_append_of_sublist_right (.cons _ (.refl _)))
end
section
set_option maxHeartbeats 4000000
set_option maxRecDepth 100000
open Go.RowKit Go.Sl
def zh7 (y10 : Bool) (y11 : (List Int)) : Option ByteArray :=
  some (bytesOf y11)
def zej (n : Nat) : Nat → ByteArray → Bool → (List Int) → Option ByteArray
  | 0, _, _, _ => none
  | k28 + 1, y21, y22, y23 =>
  (bif (decide (y21 ≠ (bs []))) then (getS y21 0).bind fun x31 =>
  (bif (decide (x31 = 38)) then none else
  (getS y21 0).bind fun x34 =>
  (zgq n ({addr := y22, buf := y23} : Builder) x34).bind fun x36 =>
  (cutS y21 (1 : Int) (y21.size : Int)).bind fun x44 =>
  (zej n k28) x44 x36.addr x36.buf) else
  zh7 y22 y23)
def zj4 (n : Nat) (p0 : ByteArray) : Option ByteArray :=
  zej n n p0 false ([] : List Int)
theorem zn0 (n : Nat) {f : Fz} {p0 : ByteArray} {res : ByteArray}  (hm : zj4 n p0 = some res) : Gives Tryz.prog 76 [.string p0] f (.string res) := by
 unfold zj4 at hm
 intro w0 L w hC
 refine enter Tryz.func76 rfl Tryz.ntmps76 (by simp) hC fun a hs => ?_
 have hle := Fz.le.refl f
 refine Wq fun hK1 => sA hs rfl fun hs => za1 <| hK1 <| Wq fun hK2 => zd3 hs ti130 (.free rfl) (by decide) fun b1 _ _ hs => ?_
 replace hs := hs.nilRow 5 1
 have hW4 : RW (tInt .u8) f [] ([] : List Int) := trivial
 generalize hgrw5 : ([] : List (List Value)) = rw5 at hs hW4; clear hgrw5
 refine za1 <| hK2 <| Ws fun hK3 => ?_
 have hbase16 := Fz.le.refl f
 refine zay (fun a w => ∃ (f8 : Fz) (y10 : Bool) (y11 : (List Int)) (v12 : Value) (rw13 : List (List Value)), Fz.le f f8 ∧ zh7 y10 y11 = some res ∧ RW (tInt .u8) f8 rw13 y11 ∧ St 37 w0 f8 (.row v12 5 1 rw13 :: .blk b1 (.cells #[baddr b1 y10, v12] 130 (0,0)) :: L) [(3, .pointer (some ⟨b1,0, none⟩))] a w) ?_ ?_
 ·clear hs hm
  clear hbase16
  rintro a w ⟨f8, y10, y11, v12, rw13, hl9, hm, hW14, hs⟩
  replace hle := hle.trans hl9
  unfold zh7 at hm
  refine hK3 <| Ws fun hK4 => za5 ?_
  replace hs := hs.front 0
  replace hs := hs.front 1
  refine zdo (Lr := [.blk b1 (.cells #[baddr b1 y10, v12] 130 (0,0)), .row v12 5 1 rw13]) (Lf := L) hs rfl has89 rfl rfl (zmh n (f := f8) (p0 := ({addr := y10, buf := y11} : Builder)) (pb := b1) (v := v12) (vr := rw13) hW14) (.free rfl) (by decide) ?_; clear hs; (try clear a w)
  rintro _ f17 _ a w hf18 ⟨rfl, rfl⟩ hs
  replace hle := hle.trans hf18
  refine sA hs rfl fun hs => za1 <| hK4 <| zbl ?_
  obtain rfl := Option.some.inj hm
  refine RtV1 hs rfl (rv_t hs rfl) ?_
  exact ⟨rfl,(hs.weak hle).cw⟩
 refine zas fun Qe5 hB5 hO5 => ?_
 have hbase := Fz.le.refl f
 refine zeu (fun (k : Nat) a w => ∃ (f19 : Fz) (y21 : ByteArray) (y22 : Bool) (y23 : (List Int)) (v24 : Value) (rw25 : List (List Value)), Fz.le f f19 ∧ zej n k y21 y22 y23 = some res ∧ RW (tInt .u8) f19 rw25 y23 ∧ St 37 w0 f19 (.row v24 5 1 rw25 :: .blk b1 (.cells #[baddr b1 y22, v24] 130 (0,0)) :: L) [(0, .string (y21)),(3, .pointer (some ⟨b1,0, none⟩))] a w) (fun k => k) n ⟨_, p0, false,([] : List Int),(.slice none 0 0), rw5,(Fz.le.refl _), hm, hW4, hs.sub ⟨rfl, rfl, trivial⟩⟩ ?_
 clear hs hm
 intro k
 rintro a w ⟨f19, y21, y22, y23, v24, rw25, hl20, hm, hW26, hs⟩
 replace hbase16 := hbase16.trans hl20
 intro K6 hK6
 cases k with
 | zero => simp [zej] at hm
 | succ k28 =>
  rw [zej] at hm
  have hbase29 := hl20
  refine Ws fun hK7 => Wq fun hK8 => sM hs rfl fun hs => s1 hs (zn8 rfl rfl) fun hs => za1 <| hK8 ?_
  refine zag hs rfl (fun hg30 => ?_) (fun hg30 => ?_)
  ·replace hm := oc_t hg30 hm
   refine zak <| hK7 <| zas fun Qe9 hB9 hO9 => Ws fun hK10 => Wq fun hK11 => sM hs rfl fun hs => ?_
   obtain ⟨x31, hx32, hm⟩ := ob hm
   refine s1 hs (y_ixW rfl rfl Tryz.underlying9 hx32) fun hs => s1 hs (zh5 rfl rfl) fun hs => za1 <| hK11 ?_
   refine zag hs rfl (fun hg33 => ?_) (fun hg33 => ?_)
   ·replace hm := oc_t hg33 hm
    refine Ws fun hK12 => ?_
    cases hm
   replace hm := oc_f hg33 hm
   refine zak <| hK10 <| Wq fun hK13 => sM hs rfl fun hs => ?_
   obtain ⟨x34, hx35, hm⟩ := ob hm
   refine s1 hs (y_ixW rfl rfl Tryz.underlying9 hx35) fun hs => ?_
   obtain ⟨x36, hx37, hm⟩ := ob hm
   replace hs := hs.front 0
   replace hs := hs.front 1
   refine zdo (Lr := [.blk b1 (.cells #[baddr b1 y22, v24] 130 (0,0)), .row v24 5 1 rw25]) (Lf := L) hs rfl has88 rfl rfl (zkh n hW26 hx37) (.free rfl) (by decide) ?_; clear hs; (try clear a w)
   rintro _ f38 _ a w hf39 ⟨v40, rw41, rfl, rfl, hW42⟩ hs
   replace hbase29 := hbase29.trans hf39
   refine za1 <| hK13 <| za5 <| sM hs rfl fun hs => ?_
   obtain ⟨x44, hx45, hm⟩ := ob hm
   obtain ⟨⟨hlx44, hhx44, h1x44, h2x44⟩, hex44⟩ := zri hx45
   refine s1 hs (zsu (lo := (1 : Int).toNat) (hi := (y21.size : Int).toNat) rfl Tryz.underlying9 (.inr ⟨_, rfl, by rw [← hlx44]; rfl⟩) (.inl ⟨rfl, by simp⟩) h1x44 h2x44) fun hs => ?_
   rw [hex44] at hs
   refine sA hs rfl fun hs => za1 ?_
   replace hs := hs.front 1
   exact hK6 k28 _ _ (Nat.lt_succ_self _) ⟨_, x44, x36.addr, x36.buf, v40, rw41, hbase29, hm, hW42, hs.sub ⟨rfl, rfl, trivial⟩⟩
  replace hm := oc_f hg30 hm
  refine ze8 <| hB5 _ _ ?_
  exact ⟨_, y22, y23, v24, rw25, hbase16, hm, hW26, hs.sub ⟨rfl, trivial⟩⟩
end
end Go.Proofs.YtdjjeahiomackaaGreat
