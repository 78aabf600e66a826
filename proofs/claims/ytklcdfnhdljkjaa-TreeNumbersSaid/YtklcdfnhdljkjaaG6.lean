/-
  Walks and laws of this seat.
-/
import Derived.Test.YtklcdfnhdljkjaaBasg
import Derived.Test.YtklcdfnhdljkjaaY6
import Derived.Test.YtklcdfnhdljkjaaRows
import Derived.Lib.Bytealg
namespace Go.Proofs.Ytklcdfnhdljkjaa
set_option linter.unusedVariables false
set_option linter.unusedSimpArgs false
set_option maxHeartbeats 4000000
set_option maxRecDepth 100000
open Go.RowKit Go.Sl
set_option maxRecDepth 20000
def zdc (_n : Nat) (p0 : ByteArray) (p1 : Int) : Option Int := some (Go.Lib.indexByte p0.data.toList p1.toNat.toUInt8)
theorem bytealg_ok (n : Nat) {w : World} {p0 : ByteArray} {p1 : Int} {res : Int} (hm : zdc n p0 p1 = some res) : (callFunc 86 #[.string p0, .int .u8 p1]).run Try.prog w = .ok (.value (.int .i64 res)) w := by
 obtain rfl := Option.some.inj hm
 rw [Go.run_callFunc_extern (e := Extern.BytealgIndexByte.indexByte) Try.func86 rfl rfl rfl rfl, Go.Lib.run_indexByteString]
 rfl
theorem zq1 (n : Nat) {f : Fz} {p0 : ByteArray} {p1 : Int} {res : Int} (hm : zdc n p0 p1 = some res) : Gives Try.prog 77 [.string p0, .int .u8 p1] f (.int .i64 res) := by
 intro w0 L w hC
 refine enter Try.func77 rfl Try.ntmps77 (by simp) hC fun a hs => ?_
 have hle := Fz.le.refl f
 refine Ws fun hK1 => za7 ?_
 refine sy (v := .int .i64 (0)) hs (zca rfl) ?_; clear hs; (try clear a w); intro a w hs
 refine za0 <| hK1 <| Ws fun hK2 => za7 ?_
 refine sy (v := .string p0) hs (zaa rfl) ?_; clear hs; (try clear a w); intro a w hs
 refine sy (v := .int .u8 p1) hs (zaa rfl) ?_; clear hs; (try clear a w); intro a w hs
 refine sy hs (y_callE (gn := 86) rfl rfl (fun w => bytealg_ok n hm)) ?_; clear hs; (try clear a w); intro a w hs
 refine sy (v := .int .i64 res) hs (zca rfl) ?_; clear hs; (try clear a w); intro a w hs
 refine za0 <| hK2 <| zau <| RtV1 hs rfl (rv_t hs rfl) ?_
 exact ⟨rfl, (hs.weak hle).cw⟩
theorem zjd (n : Nat) {f : Fz} {p0 : ByteArray} {p1 : Int} {res : Int} (hm : zdc n p0 p1 = some res) : Gives Try.prog 61 [.string p0, .int .u8 p1] f (.int .i64 res) := by
 intro w0 L w hC
 refine enter Try.func61 rfl Try.ntmps61 (by simp) hC fun a hs => ?_
 have hle := Fz.le.refl f
 refine Ws fun hK1 => za7 ?_
 refine sy (v := .int .i64 (0)) hs (zca rfl) ?_; clear hs; (try clear a w); intro a w hs
 refine za0 <| hK1 <| Ws fun hK2 => za7 ?_
 refine sy (v := .string p0) hs (zaa rfl) ?_; clear hs; (try clear a w); intro a w hs
 refine sy (v := .int .u8 p1) hs (zaa rfl) ?_; clear hs; (try clear a w); intro a w hs
 refine sy hs (zbd rfl has77 rfl (zq1 n hm)) ?_; clear hs; (try clear a w); intro a w hs
 refine sy (v := .int .i64 res) hs (zca rfl) ?_; clear hs; (try clear a w); intro a w hs
 refine za0 <| hK2 <| zau <| RtV1 hs rfl (rv_t hs rfl) ?_
 exact ⟨rfl, (hs.weak hle).cw⟩
theorem zje {f : Fz} {pb : Nat} {u : Bool} {v : Value} : Does Try.prog 81 [.pointer (some ⟨pb, 0, none⟩)] f [.blk pb (.cells #[baddr pb u, v] 103 (0, 0))] (fun r _ L' => L' = [.blk pb (.cells #[baddr pb true, v] 103 (0, 0))] ∧ r = .tuple #[]) := by
 intro w0 L w hC
 replace hC : Cw w0 f (.blk pb (.cells #[baddr pb u, v] 103 (0, 0)) :: L) w := hC
 refine enter Try.func81 rfl Try.ntmps81 (by simp) hC fun a hs => ?_
 have hle := Fz.le.refl f
 refine zai (fun a w => St 20 w0 f (.blk pb (.cells #[baddr pb true, v] 103 (0, 0)) :: L) [] a w) ?_ ?_
 ·clear hs
  intro a w hs
  refine RtV0 hs rfl ?_
  exact ⟨_, f, [.blk pb (.cells #[baddr pb true, v] 103 (0, 0))], rfl, hle, hs.cw, rfl, rfl⟩
 refine Ws fun hK2 => za7 ?_
 refine sy (v := .pointer (some ⟨pb, 0, none⟩)) hs (zaa rfl) ?_; clear hs; (try clear a w); intro a w hs
 refine sy hs (zab rfl) ?_; clear hs; (try clear a w); intro a w hs
 refine sy (v := .pointer (some ⟨pb, 0, none⟩)) hs (za1 rfl (FO.of (off := 0) Try.underlying103 rfl rfl ti100 (by decide))) ?_; clear hs; (try clear a w); intro a w hs
 refine sy (v := baddr pb u) hs (y_ld rfl Try.underlying100 rfl (Cell.blk (.head _) rfl)) ?_; clear hs; (try clear a w); intro a w hs
 cases u with
 | false =>
  refine sy (v := .bool true) hs (y_pnn rfl rfl Try.underlying100) ?_; clear hs; (try clear a w); intro a w hs
  refine za0 <| hK2 <| zaf hs rfl (fun _ => ?_) (fun hg => nomatch hg)
  refine za7 ?_
  refine sy (v := .pointer (some ⟨pb, 0, none⟩)) hs (zaa rfl) ?_; clear hs; (try clear a w); intro a w hs
  refine sy (v := .pointer (some ⟨pb, 0, none⟩)) hs (zaa rfl) ?_; clear hs; (try clear a w); intro a w hs
  refine sy hs (y_toUnsafe rfl Try.underlying100 Try.underlying125 ti103 (by decide) (.head _) (by simp)) ?_; clear hs; (try clear a w); intro a w hs
  refine sy hs (y_callE (gn := 88) (v := .pointer (some ⟨pb, 0, none⟩)) rfl rfl (fun w => by rw [Go.run_callFunc_extern (e := Extern.AbiNoEscape.same) Try.func88 rfl rfl rfl rfl]; rfl)) ?_; clear hs; (try clear a w); intro a w hs
  refine sy hs (y_fromUnsafe rfl Try.underlying125 Try.underlying100 ti103 (.head _) (by kernel_rfl)) ?_; clear hs; (try clear a w); intro a w hs
  refine sy hs (zab rfl) ?_; clear hs; (try clear a w); intro a w hs
  refine sy (v := .pointer (some ⟨pb, 0, none⟩)) hs (za1 rfl (FO.of (off := 0) Try.underlying103 rfl rfl ti100 (by decide))) ?_; clear hs; (try clear a w); intro a w hs
  refine sstore 0 hs rfl rfl rfl ti100 rfl ?_; clear hs; (try clear a w); intro a w hs
  refine za0 ?_
  replace hs : St _ _ _ (.blk pb (.cells #[baddr pb true, v] 103 (0, 0)) :: L) _ _ _ := hs
  exact hs.sub trivial
 | true =>
  refine sy (v := .bool false) hs (y_pnil rfl rfl Try.underlying100) ?_; clear hs; (try clear a w); intro a w hs
  refine za0 <| hK2 <| zaf hs rfl (fun hg => nomatch hg) (fun _ => ?_)
  refine Ws fun hK3 => za7 ?_
  refine sy (v := .pointer (some ⟨pb, 0, none⟩)) hs (zaa rfl) ?_; clear hs; (try clear a w); intro a w hs
  refine sy hs (zab rfl) ?_; clear hs; (try clear a w); intro a w hs
  refine sy (v := .pointer (some ⟨pb, 0, none⟩)) hs (za1 rfl (FO.of (off := 0) Try.underlying103 rfl rfl ti100 (by decide))) ?_; clear hs; (try clear a w); intro a w hs
  refine sy (v := .pointer (some ⟨pb, 0, none⟩)) hs (y_ld rfl Try.underlying100 rfl (Cell.blk (.head _) rfl)) ?_; clear hs; (try clear a w); intro a w hs
  refine sy (v := .pointer (some ⟨pb, 0, none⟩)) hs (zaa rfl) ?_; clear hs; (try clear a w); intro a w hs
  refine sy (v := .bool false) hs (y_pselfN rfl rfl Try.underlying100 ti103) ?_; clear hs; (try clear a w); intro a w hs
  refine za0 <| hK3 <| zaf hs rfl (fun hg => nomatch hg) (fun _ => ?_)
  refine zah ?_
  exact hs.sub trivial
def zgh (_n : Nat) (p0 : Builder) (p1 : ByteArray) : Option (Int × Builder) := (appM 1 p0.buf (bytesIn p1)).bind fun y => some ((p1.size : Int), { addr := true, buf := y })
theorem zlk (n : Nat) {f : Fz} {p0 : Builder} {pb : Nat} {v : Value} {vr : List (List Value)} {p1 : ByteArray} {res : Int × Builder} (hv : RW (tInt .u8) f vr p0.buf) (hm : zgh n p0 p1 = some res) :
    Does Try.prog 63 [.pointer (some ⟨pb, 0, none⟩), .string p1] f [.blk pb (.cells #[baddr pb p0.addr, v] 103 (0, 0)), .row v 5 1 vr] (fun r f' L' => ∃ (v' : Value) (vr' : List (List Value)), L' = [.blk pb (.cells #[baddr pb res.2.addr, v'] 103 (0, 0)), .row v' 5 1 vr'] ∧ r = .tuple #[.int .i64 res.1, .nilIface] ∧ RW (tInt .u8) f' vr' res.2.buf) := by
 unfold zgh at hm
 intro w0 L w hC
 replace hC : Cw w0 f (.blk pb (.cells #[baddr pb p0.addr, v] 103 (0, 0)) :: .row v 5 1 vr :: L) w := hC
 refine enter Try.func63 rfl Try.ntmps63 (by simp) hC fun a hs => ?_
 have hle := Fz.le.refl f
 refine Ws fun hK1 => za7 ?_
 refine sy (v := .int .i64 (0)) hs (zca rfl) ?_; clear hs; (try clear a w); intro a w hs
 refine sy (v := .nilIface) hs (zca rfl) ?_; clear hs; (try clear a w); intro a w hs
 refine za0 <| hK1 <| Ws fun hK2 => za7 ?_
 refine sy (v := .pointer (some ⟨pb, 0, none⟩)) hs (zaa rfl) ?_; clear hs; (try clear a w); intro a w hs
 refine zbx (Lr := [.blk pb (.cells #[baddr pb p0.addr, v] 103 (0, 0))]) (Lf := .row v 5 1 vr :: L) hs rfl has81 rfl rfl (zje) (.free rfl) (by decide) ?_; clear hs; (try clear a w)
 rintro _ f1 _ a w hf1 ⟨rfl, rfl⟩ hs
 replace hv := hv.le hf1
 replace hle := hle.trans hf1
 replace hs : St _ _ _ (.blk pb (.cells #[baddr pb true, v] 103 (0, 0)) :: .row v 5 1 vr :: L) _ _ _ := hs
 refine za0 <| hK2 <| Ws fun hK3 => za7 ?_
 refine sy (v := .pointer (some ⟨pb, 0, none⟩)) hs (zaa rfl) ?_; clear hs; (try clear a w); intro a w hs
 refine sy (v := .pointer (some ⟨pb, 0, none⟩)) hs (zaa rfl) ?_; clear hs; (try clear a w); intro a w hs
 refine sy hs (zab rfl) ?_; clear hs; (try clear a w); intro a w hs
 refine sy (v := .pointer (some ⟨pb, 1, none⟩)) hs (za1 rfl (FO.of (off := 1) Try.underlying103 rfl rfl ti101 (by decide))) ?_; clear hs; (try clear a w); intro a w hs
 refine sy (v := v) hs (y_ld rfl Try.underlying101 rfl (Cell.blk (.head _) rfl)) ?_; clear hs; (try clear a w); intro a w hs
 refine sy (v := .string p1) hs (zaa rfl) ?_; clear hs; (try clear a w); intro a w hs
 obtain ⟨x1, hx1, hm⟩ := ob hm
 refine RL_appStrW 1 hx1 hv hs rfl rfl rfl Try.underlying101 Try.underlying9 ti5 rfl ?_; clear hs; (try clear a w); intro v1 rw1 a w hv1 hs
 replace hs : St _ _ _ (.blk pb (.cells #[baddr pb true, v] 103 (0, 0)) :: .row v1 5 1 rw1 :: L) _ _ _ := hs
 refine sy hs (zab rfl) ?_; clear hs; (try clear a w); intro a w hs
 refine sy (v := .pointer (some ⟨pb, 1, none⟩)) hs (za1 rfl (FO.of (off := 1) Try.underlying103 rfl rfl ti101 (by decide))) ?_; clear hs; (try clear a w); intro a w hs
 refine sstore 0 hs rfl rfl rfl ti101 (hs.one (i := 1) rfl) ?_; clear hs; (try clear a w); intro a w hs
 replace hs : St _ _ _ (.blk pb (.cells #[baddr pb true, v1] 103 (0, 0)) :: .row v1 5 1 rw1 :: L) _ _ _ := hs
 refine za0 <| hK3 <| Ws fun hK4 => za7 ?_
 refine sy (v := .string p1) hs (zaa rfl) ?_; clear hs; (try clear a w); intro a w hs
 refine sy hs (zn6 rfl Try.underlying9) ?_; clear hs; (try clear a w); intro a w hs
 refine sy (v := .int .i64 (p1.size : Int)) hs (zca rfl) ?_; clear hs; (try clear a w); intro a w hs
 refine sy (v := .nilIface) hs (zca rfl) ?_; clear hs; (try clear a w); intro a w hs
 refine za0 <| hK4 <| zau ?_
 obtain rfl := Option.some.inj hm
 refine RtV2 hs rfl (rv_t hs rfl) (rv_t hs rfl) ?_
 exact ⟨_, f1, [.blk pb (.cells #[baddr pb true, v1] 103 (0, 0)), .row v1 5 1 rw1], rfl, hle, hs.cw, v1, rw1, rfl, rfl, hv1⟩
def zhn (_n : Nat) (p0 : Builder) (p1 : Int) : Option Builder := (appM 1 p0.buf [p1]).bind fun y => some { addr := true, buf := y }
theorem zmj (n : Nat) {f : Fz} {p0 : Builder} {pb : Nat} {v : Value} {vr : List (List Value)} {p1 : Int} {res : Builder} (hv : RW (tInt .u8) f vr p0.buf) (hm : zhn n p0 p1 = some res) :
    Does Try.prog 64 [.pointer (some ⟨pb, 0, none⟩), .int .u8 p1] f [.blk pb (.cells #[baddr pb p0.addr, v] 103 (0, 0)), .row v 5 1 vr] (fun r f' L' => ∃ (v' : Value) (vr' : List (List Value)), L' = [.blk pb (.cells #[baddr pb res.addr, v'] 103 (0, 0)), .row v' 5 1 vr'] ∧ r = .nilIface ∧ RW (tInt .u8) f' vr' res.buf) := by
 unfold zhn at hm
 intro w0 L w hC
 replace hC : Cw w0 f (.blk pb (.cells #[baddr pb p0.addr, v] 103 (0, 0)) :: .row v 5 1 vr :: L) w := hC
 refine enter Try.func64 rfl Try.ntmps64 (by simp) hC fun a hs => ?_
 have hle := Fz.le.refl f
 refine Ws fun hK1 => za7 ?_
 refine sy (v := .nilIface) hs (zca rfl) ?_; clear hs; (try clear a w); intro a w hs
 refine za0 <| hK1 <| Ws fun hK2 => za7 ?_
 refine sy (v := .pointer (some ⟨pb, 0, none⟩)) hs (zaa rfl) ?_; clear hs; (try clear a w); intro a w hs
 refine zbx (Lr := [.blk pb (.cells #[baddr pb p0.addr, v] 103 (0, 0))]) (Lf := .row v 5 1 vr :: L) hs rfl has81 rfl rfl (zje) (.free rfl) (by decide) ?_; clear hs; (try clear a w)
 rintro _ f1 _ a w hf1 ⟨rfl, rfl⟩ hs
 replace hv := hv.le hf1
 replace hle := hle.trans hf1
 replace hs : St _ _ _ (.blk pb (.cells #[baddr pb true, v] 103 (0, 0)) :: .row v 5 1 vr :: L) _ _ _ := hs
 refine za0 <| hK2 <| Ws fun hK3 => za7 ?_
 refine sy (v := .pointer (some ⟨pb, 0, none⟩)) hs (zaa rfl) ?_; clear hs; (try clear a w); intro a w hs
 refine sy (v := .pointer (some ⟨pb, 0, none⟩)) hs (zaa rfl) ?_; clear hs; (try clear a w); intro a w hs
 refine sy hs (zab rfl) ?_; clear hs; (try clear a w); intro a w hs
 refine sy (v := .pointer (some ⟨pb, 1, none⟩)) hs (za1 rfl (FO.of (off := 1) Try.underlying103 rfl rfl ti101 (by decide))) ?_; clear hs; (try clear a w); intro a w hs
 refine sy (v := v) hs (y_ld rfl Try.underlying101 rfl (Cell.blk (.head _) rfl)) ?_; clear hs; (try clear a w); intro a w hs
 refine sy (v := .int .u8 p1) hs (zaa rfl) ?_; clear hs; (try clear a w); intro a w hs
 refine zfz hs rfl Try.underlying101 ti5 rfl rfl ?_; clear hs; (try clear a w); intro v2 a w hs
 have hv2 : RW (tInt .u8) f1 [[.int .u8 p1]] [p1] := RW.single rfl
 generalize ([[.int .u8 p1]] : List (List Value)) = rw2 at hs hv2
 obtain ⟨x1, hx1, hm⟩ := ob hm
 obtain ⟨hb1, he1⟩ := zcj hx1
 replace hs : St _ _ _ (.row v2 5 1 rw2 :: .blk pb (.cells #[baddr pb true, v] 103 (0, 0)) :: .row v 5 1 vr :: L) _ _ _ := hs
 have hv1 := hv.append hv2; rw [he1] at hv1
 refine zcs (i := 2) hs rfl rfl rfl (Rd.st hs (.head _)) Try.underlying101 ti5 (by decide) (by rw [RW.len hv, RW.len hv2]; exact hb1) (.free rfl) (by decide) ?_; clear hs; (try clear a w); intro v1 a w hs
 generalize vr ++ rw2 = rw1 at hs hv1
 replace hs := hs.erase 0
 replace hs : St _ _ _ (.blk pb (.cells #[baddr pb true, v] 103 (0, 0)) :: .row v1 5 1 rw1 :: L) _ _ _ := hs
 refine sy hs (zab rfl) ?_; clear hs; (try clear a w); intro a w hs
 refine sy (v := .pointer (some ⟨pb, 1, none⟩)) hs (za1 rfl (FO.of (off := 1) Try.underlying103 rfl rfl ti101 (by decide))) ?_; clear hs; (try clear a w); intro a w hs
 refine sstore 0 hs rfl rfl rfl ti101 (hs.one (i := 1) rfl) ?_; clear hs; (try clear a w); intro a w hs
 replace hs : St _ _ _ (.blk pb (.cells #[baddr pb true, v1] 103 (0, 0)) :: .row v1 5 1 rw1 :: L) _ _ _ := hs
 refine za0 <| hK3 <| Ws fun hK4 => za7 ?_
 refine sy (v := .nilIface) hs (zca rfl) ?_; clear hs; (try clear a w); intro a w hs
 refine za0 <| hK4 <| zau ?_
 obtain rfl := Option.some.inj hm
 refine RtV1 hs rfl (rv_t hs rfl) ?_
 exact ⟨_, f1, [.blk pb (.cells #[baddr pb true, v1] 103 (0, 0)), .row v1 5 1 rw1], rfl, hle, hs.cw, v1, rw1, rfl, rfl, hv1⟩
theorem zob (_n : Nat) {f : Fz} {p0 : Builder} {pb : Nat} {v : Value} {vr : List (List Value)} (hv : RW (tInt .u8) f vr p0.buf) :
    Does Try.prog 65 [.pointer (some ⟨pb, 0, none⟩)] f [.blk pb (.cells #[baddr pb p0.addr, v] 103 (0, 0)), .row v 5 1 vr] (fun r _ L' => L' = [] ∧ r = .string (bytesOf p0.buf)) := by
 intro w0 L w hC
 replace hC : Cw w0 f (.blk pb (.cells #[baddr pb p0.addr, v] 103 (0, 0)) :: .row v 5 1 vr :: L) w := hC
 refine enter Try.func65 rfl Try.ntmps65 (by simp) hC fun a hs => ?_
 have hle := Fz.le.refl f
 refine Ws fun hK1 => za7 ?_
 refine sy (v := .string (bs [])) hs (zca rfl) ?_; clear hs; (try clear a w); intro a w hs
 refine za0 <| hK1 <| Ws fun hK2 => ?_
 have hsD := hs.subL (L' := .blk pb (.cells #[baddr pb p0.addr, v] 103 (0, 0)) :: .row v 5 1 vr :: []) (.cons_cons _ (.cons_cons _ (List.nil_sublist _)))
 refine zjc hs (.blk pb (.cells #[baddr pb p0.addr, v] 103 (0, 0)) :: .row v 5 1 vr :: []) [10, 11] (.look 0 (.look 1 (.look 2 (.look 3 (.look 5 (.look 6 (.look 7 (.look 8 (.look 9 (.any [4] (fun _ => .any [10] (fun _ => .any [11] (fun _ => .done))))))))))))) mixed (by kernel_rfl) ?_; clear hs; (try clear a w); intro a he
 refine uy 0 (v := .pointer (some ⟨pb, 0, none⟩)) he rfl (zaa rfl) ?_; clear he; (try clear a); intro a he
 refine uy 1 he rfl (zab rfl) ?_; clear he; (try clear a); intro a he
 refine uy 2 (v := .pointer (some ⟨pb, 1, none⟩)) he rfl (za1 rfl (FO.of (off := 1) Try.underlying103 rfl rfl ti101 (by decide))) ?_; clear he; (try clear a); intro a he
 refine uy 3 (v := v) he rfl (y_ld rfl Try.underlying101 rfl (Cell.blk (.head _) rfl)) ?_; clear he; (try clear a); intro a he
 refine uy 5 (v := .pointer (some ⟨pb, 0, none⟩)) he rfl (zaa rfl) ?_; clear he; (try clear a); intro a he
 refine uy 6 he rfl (zab rfl) ?_; clear he; (try clear a); intro a he
 refine uy 7 (v := .pointer (some ⟨pb, 1, none⟩)) he rfl (za1 rfl (FO.of (off := 1) Try.underlying103 rfl rfl ti101 (by decide))) ?_; clear he; (try clear a); intro a he
 refine uy 8 (v := v) he rfl (y_ld rfl Try.underlying101 rfl (Cell.blk (.head _) rfl)) ?_; clear he; (try clear a); intro a he
 refine uy 9 he rfl (zb7 (Rd.st hsD (.tail _ (.head _))) hv rfl Try.underlying101) ?_; clear he; (try clear a); intro a he
 refine ze2 he rfl ?_; clear he; (try clear a); intro a w hs
 refine RL_usd (i := 1) hs rfl rfl Try.underlying122 ?_; clear hs; (try clear a w); intro p L1 a w hp hs
 refine uon hs ?_ (Fz.le.refl _) (.trans (.cons_cons _ (.cons_cons _ (List.nil_sublist _))) (List.sublist_append_right L1 _)); clear hs; (try clear a w); intro a he
 refine ze2 he rfl ?_; clear he; (try clear a); intro a w hs
 have hi : (L1 ++ (.blk pb (.cells #[baddr pb p0.addr, v] 103 (0, 0)) :: .row v 5 1 vr :: L))[L1.length + 1]? = some (.row v 5 1 vr) := by
  rw [List.getElem?_append_right (by omega)]; simp
 refine RL_ust (p := p) hs hi hv rfl rfl hp Try.underlying122 (by kernel_rfl) ?_; clear hs; (try clear a w); intro a w hs
 refine uend hs ?_; clear hs; (try clear a w); intro a he
 refine ze2 he rfl ?_; clear he; (try clear a); intro a w hs
 refine sy (v := .string (bytesOf p0.buf)) hs (zca rfl) ?_; clear hs; (try clear a w); intro a w hs
 refine uend hs ?_; clear hs; (try clear a w); intro a he
 refine znq he ?_; clear he; (try clear a); intro w hs; try clear hsD
 refine hK2 <| zau <| RtV1 hs rfl (rv_t hs rfl) <| ⟨_, f, [], rfl, hle, hs.cw.sub ?_, rfl, rfl⟩
 have e1 : (L1 ++ (.blk pb (.cells #[baddr pb p0.addr, v] 103 (0, 0)) :: .row v 5 1 vr :: L)).eraseIdx (L1.length + 1) = L1 ++ (.blk pb (.cells #[baddr pb p0.addr, v] 103 (0, 0)) :: L) := by
  rw [List.eraseIdx_append_of_length_le (by omega)]; simp
 rw [e1]
 exact (List.sublist_append_of_sublist_right (.cons _ (.refl _)))
end Go.Proofs.Ytklcdfnhdljkjaa
