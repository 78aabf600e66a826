/-
  Walks and laws of this seat; the base is the text Base.
-/
import Derived.Test.YtklcdfnhdljkjaaDoorBasg
import Derived.Test.YtklcdfnhdljkjaaDoorY7
import Derived.Test.YtklcdfnhdljkjaaDoorRows
import Derived.Lib.Bytealg
import Derived.Test.YtklcdfnhdljkjaaDoorS7z
/-
  strings.IndexByte and strings.Builder. Printed by builder.py.
-/
namespace Go.Proofs.YtklcdfnhdljkjaaDoor
open Go.RowKit Go.Sl
set_option maxRecDepth 20000
/-! strings.IndexByte -/
def strings_IndexByte (_n : Nat) (p0 : ByteArray) (p1 : Int) : Option Int := some (Go.Lib.indexByte p0.data.toList p1.toNat.toUInt8)
theorem bytealg_ok (n : Nat) {w : World} {p0 : ByteArray} {p1 : Int} {res : Int} (hm : strings_IndexByte n p0 p1 = some res) : (callFunc 60 #[.string p0, .int .u8 p1]).run Tryd.prog w = .ok (.value (.int .i64 res)) w := by
 obtain rfl := Option.some.inj hm
 rw [Go.run_callFunc_extern (e := Extern.BytealgIndexByte.indexByte) Tryd.func60 rfl rfl rfl rfl, Go.Lib.run_indexByteString]
 rfl
theorem stringslite_ok (n : Nat) {f : Fz} {p0 : ByteArray} {p1 : Int} {res : Int} (hm : strings_IndexByte n p0 p1 = some res) : Gives Tryd.prog 50 [.string p0, .int .u8 p1] f (.int .i64 res) := by
 intro w0 L w hC
 refine enter Tryd.func50 rfl Tryd.ntmps50 (by simp) hC fun a hs => ?_
 have hle := Fz.le.refl f
 refine W_seq fun K1 hK1 => ?_
 refine W_region ?_
 refine sy (v := .int .i64 (0)) hs (y_assign rfl) ?_; clear hs; (try clear a w); intro a w hs
 refine RL_nil ?_
 refine hK1 _ _ ?_; clear hK1
 refine W_seq fun K2 hK2 => ?_
 refine W_region ?_
 refine sy (v := .string p0) hs (y_move rfl) ?_; clear hs; (try clear a w); intro a w hs
 refine sy (v := .int .u8 p1) hs (y_move rfl) ?_; clear hs; (try clear a w); intro a w hs
 refine sy hs (y_callE (gn := 60) rfl rfl (fun w => bytealg_ok n hm)) ?_; clear hs; (try clear a w); intro a w hs
 refine sy (v := .int .i64 res) hs (y_assign rfl) ?_; clear hs; (try clear a w); intro a w hs
 refine RL_nil ?_
 refine hK2 _ _ ?_; clear hK2
 refine W_ret ?_
 refine RtV1 hs rfl (rv_t hs rfl) ?_
 exact ⟨rfl, (hs.weak hle).cw⟩
/-! strings.Builder -/
theorem builder_copyCheck_ok {f : Fz} {pb : Nat} {u : Bool} {v : Value} : Does Tryd.prog 33 [.pointer (some ⟨pb, 0, none⟩)] f [.blk pb (.cells #[baddr pb u, v] 53 (0, 0))] (fun r _ L' => L' = [.blk pb (.cells #[baddr pb true, v] 53 (0, 0))] ∧ r = .tuple #[]) := by
 intro w0 L w hC
 replace hC : Cw w0 f (.blk pb (.cells #[baddr pb u, v] 53 (0, 0)) :: L) w := hC
 refine enter Tryd.func33 rfl Tryd.ntmps33 (by simp) hC fun a hs => ?_
 have hle := Fz.le.refl f
 refine W_post (fun a w => St 20 w0 f (.blk pb (.cells #[baddr pb true, v] 53 (0, 0)) :: L) [] a w) ?_ ?_
 ·clear hs
  intro a w hs
  refine RtV0 hs rfl ?_
  exact ⟨_, f, [.blk pb (.cells #[baddr pb true, v] 53 (0, 0))], rfl, hle, hs.cw, rfl, rfl⟩
 ·refine W_seq fun K2 hK2 => ?_
  refine W_region ?_
  refine sy (v := .pointer (some ⟨pb, 0, none⟩)) hs (y_move rfl) ?_; clear hs; (try clear a w); intro a w hs
  refine sy hs (y_nilCheck rfl) ?_; clear hs; (try clear a w); intro a w hs
  refine sy (v := .pointer (some ⟨pb, 0, none⟩)) hs (y_fieldAddr rfl (FO.of (off := 0) Tryd.underlying53 rfl rfl ti50 (by decide))) ?_; clear hs; (try clear a w); intro a w hs
  refine sy (v := baddr pb u) hs (y_ld rfl Tryd.underlying50 rfl (Cell.blk (.head _) rfl)) ?_; clear hs; (try clear a w); intro a w hs
  cases u with
  | false =>
   refine sy (v := .bool true) hs (y_pnn rfl rfl Tryd.underlying50) ?_; clear hs; (try clear a w); intro a w hs
   refine RL_nil ?_
   refine hK2 _ _ ?_; clear hK2
   refine W_cond hs rfl (fun _ => ?_) (fun hg => nomatch hg)
   refine W_region ?_
   refine sy (v := .pointer (some ⟨pb, 0, none⟩)) hs (y_move rfl) ?_; clear hs; (try clear a w); intro a w hs
   refine sy (v := .pointer (some ⟨pb, 0, none⟩)) hs (y_move rfl) ?_; clear hs; (try clear a w); intro a w hs
   refine sy hs (y_toUnsafe rfl Tryd.underlying50 Tryd.underlying93 ti53 (by decide) (.head _) (by simp)) ?_; clear hs; (try clear a w); intro a w hs
   refine sy hs (y_callE (gn := 39) (v := .pointer (some ⟨pb, 0, none⟩)) rfl rfl (fun w => by rw [Go.run_callFunc_extern (e := Extern.AbiNoEscape.same) Tryd.func39 rfl rfl rfl rfl]; rfl)) ?_; clear hs; (try clear a w); intro a w hs
   refine sy hs (y_fromUnsafe rfl Tryd.underlying93 Tryd.underlying50 ti53 (.head _) (by kernel_rfl)) ?_; clear hs; (try clear a w); intro a w hs
   refine sy hs (y_nilCheck rfl) ?_; clear hs; (try clear a w); intro a w hs
   refine sy (v := .pointer (some ⟨pb, 0, none⟩)) hs (y_fieldAddr rfl (FO.of (off := 0) Tryd.underlying53 rfl rfl ti50 (by decide))) ?_; clear hs; (try clear a w); intro a w hs
   refine sstore 0 hs rfl rfl rfl ti50 rfl ?_; clear hs; (try clear a w); intro a w hs
   refine RL_nil ?_
   replace hs : St _ _ _ (.blk pb (.cells #[baddr pb true, v] 53 (0, 0)) :: L) _ _ _ := hs
   exact hs.sub trivial
  | true =>
   refine sy (v := .bool false) hs (y_pnil rfl rfl Tryd.underlying50) ?_; clear hs; (try clear a w); intro a w hs
   refine RL_nil ?_
   refine hK2 _ _ ?_; clear hK2
   refine W_cond hs rfl (fun hg => nomatch hg) (fun _ => ?_)
   refine W_seq fun K3 hK3 => ?_
   refine W_region ?_
   refine sy (v := .pointer (some ⟨pb, 0, none⟩)) hs (y_move rfl) ?_; clear hs; (try clear a w); intro a w hs
   refine sy hs (y_nilCheck rfl) ?_; clear hs; (try clear a w); intro a w hs
   refine sy (v := .pointer (some ⟨pb, 0, none⟩)) hs (y_fieldAddr rfl (FO.of (off := 0) Tryd.underlying53 rfl rfl ti50 (by decide))) ?_; clear hs; (try clear a w); intro a w hs
   refine sy (v := .pointer (some ⟨pb, 0, none⟩)) hs (y_ld rfl Tryd.underlying50 rfl (Cell.blk (.head _) rfl)) ?_; clear hs; (try clear a w); intro a w hs
   refine sy (v := .pointer (some ⟨pb, 0, none⟩)) hs (y_move rfl) ?_; clear hs; (try clear a w); intro a w hs
   refine sy (v := .bool false) hs (y_pselfN rfl rfl Tryd.underlying50 ti53) ?_; clear hs; (try clear a w); intro a w hs
   refine RL_nil ?_
   refine hK3 _ _ ?_; clear hK3
   refine W_cond hs rfl (fun hg => nomatch hg) (fun _ => ?_)
   refine W_skip ?_
   exact hs.sub trivial
def builder_WriteString (_n : Nat) (p0 : Builder) (p1 : ByteArray) : Option (Int × Builder) := (appM 1 p0.buf (bytesIn p1)).bind fun y => some ((p1.size : Int), { addr := true, buf := y })
theorem builder_WriteString_ok (n : Nat) {f : Fz} {p0 : Builder} {pb : Nat} {v : Value} {vr : List (List Value)} {p1 : ByteArray} {res : Int × Builder} (hv : RW (tInt .u8) f vr p0.buf) (hm : builder_WriteString n p0 p1 = some res) :
    Does Tryd.prog 22 [.pointer (some ⟨pb, 0, none⟩), .string p1] f [.blk pb (.cells #[baddr pb p0.addr, v] 53 (0, 0)), .row v 5 1 vr] (fun r f' L' => ∃ (v' : Value) (vr' : List (List Value)), L' = [.blk pb (.cells #[baddr pb res.2.addr, v'] 53 (0, 0)), .row v' 5 1 vr'] ∧ r = .tuple #[.int .i64 res.1, .nilIface] ∧ RW (tInt .u8) f' vr' res.2.buf) := by
 unfold builder_WriteString at hm
 intro w0 L w hC
 replace hC : Cw w0 f (.blk pb (.cells #[baddr pb p0.addr, v] 53 (0, 0)) :: .row v 5 1 vr :: L) w := hC
 refine enter Tryd.func22 rfl Tryd.ntmps22 (by simp) hC fun a hs => ?_
 have hle := Fz.le.refl f
 refine W_seq fun K1 hK1 => ?_
 refine W_region ?_
 refine sy (v := .int .i64 (0)) hs (y_assign rfl) ?_; clear hs; (try clear a w); intro a w hs
 refine sy (v := .nilIface) hs (y_assign rfl) ?_; clear hs; (try clear a w); intro a w hs
 refine RL_nil ?_
 refine hK1 _ _ ?_; clear hK1
 refine W_seq fun K2 hK2 => ?_
 refine W_region ?_
 refine sy (v := .pointer (some ⟨pb, 0, none⟩)) hs (y_move rfl) ?_; clear hs; (try clear a w); intro a w hs
 refine RL_call (Lr := [.blk pb (.cells #[baddr pb p0.addr, v] 53 (0, 0))]) (Lf := .row v 5 1 vr :: L) hs rfl has33 rfl rfl (builder_copyCheck_ok) (.free rfl) (by decide) ?_; clear hs; (try clear a w)
 rintro _ f1 _ a w hf1 ⟨rfl, rfl⟩ hs
 replace hv := hv.le hf1
 replace hle := hle.trans hf1
 replace hs : St _ _ _ (.blk pb (.cells #[baddr pb true, v] 53 (0, 0)) :: .row v 5 1 vr :: L) _ _ _ := hs
 refine RL_nil ?_
 refine hK2 _ _ ?_; clear hK2
 refine W_seq fun K3 hK3 => ?_
 refine W_region ?_
 refine sy (v := .pointer (some ⟨pb, 0, none⟩)) hs (y_move rfl) ?_; clear hs; (try clear a w); intro a w hs
 refine sy (v := .pointer (some ⟨pb, 0, none⟩)) hs (y_move rfl) ?_; clear hs; (try clear a w); intro a w hs
 refine sy hs (y_nilCheck rfl) ?_; clear hs; (try clear a w); intro a w hs
 refine sy (v := .pointer (some ⟨pb, 1, none⟩)) hs (y_fieldAddr rfl (FO.of (off := 1) Tryd.underlying53 rfl rfl ti51 (by decide))) ?_; clear hs; (try clear a w); intro a w hs
 refine sy (v := v) hs (y_ld rfl Tryd.underlying51 rfl (Cell.blk (.head _) rfl)) ?_; clear hs; (try clear a w); intro a w hs
 refine sy (v := .string p1) hs (y_move rfl) ?_; clear hs; (try clear a w); intro a w hs
 obtain ⟨x1, hx1, hm⟩ := ob hm
 refine RL_appStrW 1 hx1 hv hs rfl rfl rfl Tryd.underlying51 Tryd.underlying9 ti5 rfl ?_; clear hs; (try clear a w); intro v1 rw1 a w hv1 hs
 replace hs : St _ _ _ (.blk pb (.cells #[baddr pb true, v] 53 (0, 0)) :: .row v1 5 1 rw1 :: L) _ _ _ := hs
 refine sy hs (y_nilCheck rfl) ?_; clear hs; (try clear a w); intro a w hs
 refine sy (v := .pointer (some ⟨pb, 1, none⟩)) hs (y_fieldAddr rfl (FO.of (off := 1) Tryd.underlying53 rfl rfl ti51 (by decide))) ?_; clear hs; (try clear a w); intro a w hs
 refine sstore 0 hs rfl rfl rfl ti51 (hs.one (i := 1) rfl) ?_; clear hs; (try clear a w); intro a w hs
 replace hs : St _ _ _ (.blk pb (.cells #[baddr pb true, v1] 53 (0, 0)) :: .row v1 5 1 rw1 :: L) _ _ _ := hs
 refine RL_nil ?_
 refine hK3 _ _ ?_; clear hK3
 refine W_seq fun K4 hK4 => ?_
 refine W_region ?_
 refine sy (v := .string p1) hs (y_move rfl) ?_; clear hs; (try clear a w); intro a w hs
 refine sy hs (y_lenS rfl Tryd.underlying9) ?_; clear hs; (try clear a w); intro a w hs
 refine sy (v := .int .i64 (p1.size : Int)) hs (y_assign rfl) ?_; clear hs; (try clear a w); intro a w hs
 refine sy (v := .nilIface) hs (y_assign rfl) ?_; clear hs; (try clear a w); intro a w hs
 refine RL_nil ?_
 refine hK4 _ _ ?_; clear hK4
 refine W_ret ?_
 obtain rfl := Option.some.inj hm
 refine RtV2 hs rfl (rv_t hs rfl) (rv_t hs rfl) ?_
 exact ⟨_, f1, [.blk pb (.cells #[baddr pb true, v1] 53 (0, 0)), .row v1 5 1 rw1], rfl, hle, hs.cw, v1, rw1, rfl, rfl, hv1⟩
theorem builder_String_ok (_n : Nat) {f : Fz} {p0 : Builder} {pb : Nat} {v : Value} {vr : List (List Value)} (hv : RW (tInt .u8) f vr p0.buf) :
    Does Tryd.prog 23 [.pointer (some ⟨pb, 0, none⟩)] f [.blk pb (.cells #[baddr pb p0.addr, v] 53 (0, 0)), .row v 5 1 vr] (fun r _ L' => L' = [] ∧ r = .string (bytesOf p0.buf)) := by
 intro w0 L w hC
 replace hC : Cw w0 f (.blk pb (.cells #[baddr pb p0.addr, v] 53 (0, 0)) :: .row v 5 1 vr :: L) w := hC
 refine enter Tryd.func23 rfl Tryd.ntmps23 (by simp) hC fun a hs => ?_
 have hle := Fz.le.refl f
 refine W_seq fun K1 hK1 => ?_
 refine W_region ?_
 refine sy (v := .string (bs [])) hs (y_assign rfl) ?_; clear hs; (try clear a w); intro a w hs
 refine RL_nil ?_
 refine hK1 _ _ ?_; clear hK1
 refine W_seq fun K2 hK2 => ?_
 have hsD := hs.subL (L' := .blk pb (.cells #[baddr pb p0.addr, v] 53 (0, 0)) :: .row v 5 1 vr :: []) (.cons_cons _ (.cons_cons _ (List.nil_sublist _)))
 refine T_start hs (.blk pb (.cells #[baddr pb p0.addr, v] 53 (0, 0)) :: .row v 5 1 vr :: []) [10, 11] (.look 0 (.look 1 (.look 2 (.look 3 (.look 5 (.look 6 (.look 7 (.look 8 (.look 9 (.any [4] (fun _ => .any [10] (fun _ => .any [11] (fun _ => .done))))))))))))) mixed (by kernel_rfl) ?_; clear hs; (try clear a w); intro a he
 refine uy 0 (v := .pointer (some ⟨pb, 0, none⟩)) he rfl (y_move rfl) ?_; clear he; (try clear a); intro a he
 refine uy 1 he rfl (y_nilCheck rfl) ?_; clear he; (try clear a); intro a he
 refine uy 2 (v := .pointer (some ⟨pb, 1, none⟩)) he rfl (y_fieldAddr rfl (FO.of (off := 1) Tryd.underlying53 rfl rfl ti51 (by decide))) ?_; clear he; (try clear a); intro a he
 refine uy 3 (v := v) he rfl (y_ld rfl Tryd.underlying51 rfl (Cell.blk (.head _) rfl)) ?_; clear he; (try clear a); intro a he
 refine uy 5 (v := .pointer (some ⟨pb, 0, none⟩)) he rfl (y_move rfl) ?_; clear he; (try clear a); intro a he
 refine uy 6 he rfl (y_nilCheck rfl) ?_; clear he; (try clear a); intro a he
 refine uy 7 (v := .pointer (some ⟨pb, 1, none⟩)) he rfl (y_fieldAddr rfl (FO.of (off := 1) Tryd.underlying53 rfl rfl ti51 (by decide))) ?_; clear he; (try clear a); intro a he
 refine uy 8 (v := v) he rfl (y_ld rfl Tryd.underlying51 rfl (Cell.blk (.head _) rfl)) ?_; clear he; (try clear a); intro a he
 refine uy 9 he rfl (y_lenW (Rd.st hsD (.tail _ (.head _))) hv rfl Tryd.underlying51) ?_; clear he; (try clear a); intro a he
 refine T_any1 he rfl ?_; clear he; (try clear a); intro a w hs
 refine RL_usd (i := 1) hs rfl rfl Tryd.underlying67 ?_; clear hs; (try clear a w); intro p L1 a w hp hs
 refine uon hs ?_ (Fz.le.refl _) (.trans (.cons_cons _ (.cons_cons _ (List.nil_sublist _))) (List.sublist_append_right L1 _)); clear hs; (try clear a w); intro a he
 refine T_any1 he rfl ?_; clear he; (try clear a); intro a w hs
 have hi : (L1 ++ (.blk pb (.cells #[baddr pb p0.addr, v] 53 (0, 0)) :: .row v 5 1 vr :: L))[L1.length + 1]? = some (.row v 5 1 vr) := by
  rw [List.getElem?_append_right (by omega)]; simp
 refine RL_ust (p := p) hs hi hv rfl rfl hp Tryd.underlying67 (by kernel_rfl) ?_; clear hs; (try clear a w); intro a w hs
 refine uend hs ?_; clear hs; (try clear a w); intro a he
 refine T_any1 he rfl ?_; clear he; (try clear a); intro a w hs
 refine sy (v := .string (bytesOf p0.buf)) hs (y_assign rfl) ?_; clear hs; (try clear a w); intro a w hs
 refine uend hs ?_; clear hs; (try clear a w); intro a he
 refine T_nil he ?_; clear he; (try clear a); intro w hs; try clear hsD
 refine hK2 _ _ ?_; clear hK2
 refine W_ret ?_
 refine RtV1 hs rfl (rv_t hs rfl) ?_
 refine ⟨_, f, [], rfl, hle, hs.cw.sub ?_, rfl, rfl⟩
 have e1 : (L1 ++ (.blk pb (.cells #[baddr pb p0.addr, v] 53 (0, 0)) :: .row v 5 1 vr :: L)).eraseIdx (L1.length + 1) = L1 ++ (.blk pb (.cells #[baddr pb p0.addr, v] 53 (0, 0)) :: L) := by
  rw [List.eraseIdx_append_of_length_le (by omega)]; simp
 rw [e1]
 exact (List.sublist_append_of_sublist_right (.cons _ (.refl _)))
end Go.Proofs.YtklcdfnhdljkjaaDoor
namespace Go.Sl
open Go.RowKit
section
variable {P : Program} {w : World} {n : Nat} {E : List (Nat × Value)} {C : World → Prop}
variable {d : Option Tmp} {ty : TypeId} {pos : String} {af : Array Edge} {g : Option (Nat × Bool)}
theorem equal_slnil {t e : TypeId} {ao : Option Addr} {l c : Nat} (ht : P.underlying t = some (.slice e)) : (Op.equal t (.slice ao l c) (.slice none 0 0)).run P w = .ok ao.isNone w := by
  cases ao with
  | none => exact equal_deep (fun d => by simp [Op.equalIn, run_underlying ht]) rfl
  | some a => exact equal_deep (fun d => by simp [Op.equalIn, run_underlying ht]) rfl
/-- A slice held against nil. -/
theorem y_slnil {x y : Operand} {t t' e : TypeId} {ao : Option Addr} {l c : Nat} (hx : opv E x = some (.slice ao l c)) (hy : opv E y = some (.slice none 0 0)) (ht : P.underlying t = some (.slice e)) :
    Y P C n E ⟨d, .binOp .eql t x y t', ty, pos, af, g⟩ (.bool ao.isNone) :=
  .of fun a ha w _ => by
    simp only [execOp, ha.eval hx, ha.eval hy, eqGuard, binOp, Sem.run_bind, Sem.run_pure, equal_slnil ht, Result.andThen_ok]
    rfl
end
end Go.Sl
namespace Go.Proofs.YtklcdfnhdljkjaaDoor
open Go.RowKit Go.Sl
def slices_Clone (_ : Nat) (p0 : List api_Attr) : Option (List api_Attr) := appM 32 [] p0
theorem slices_Clone_ok (n : Nat) {f : Fz} {p0 : List api_Attr} {a0 : Value} {res : List api_Attr} (h0 : RS t_api_Attr f a0 p0) (hm : slices_Clone n p0 = some res) :
    Does Tryd.prog 12 [a0] f [] (fun r f' L' => ∃ (u0 : Value), L' = [] ∧ r = u0 ∧ RS t_api_Attr f' u0 res) := by
  intro w0 L w hC
  obtain ⟨rw1, hR1, hW1⟩ := h0
  obtain ⟨hb, he⟩ := appM_some hm
  have hR' := hR1
  obtain ⟨_, ao, cap, rfl, _, hnil, _⟩ := hR'
  refine enter Tryd.func12 rfl Tryd.ntmps12 (by simp) hC fun a hs => ?_
  refine W_seq fun K1 hK1 => ?_
  refine W_region ?_
  refine sy hs (y_assign rfl) ?_; clear hs; (try clear a w); intro a w hs
  refine RL_nil ?_
  refine hK1 _ _ ?_; clear hK1
  refine W_seq fun K1 hK1 => ?_
  refine W_seq fun K2 hK2 => ?_
  refine W_region ?_
  refine sy hs (y_move rfl) ?_; clear hs; (try clear a w); intro a w hs
  refine sy hs (y_slnil rfl rfl Tryd.underlying28) ?_; clear hs; (try clear a w); intro a w hs
  refine RL_nil ?_
  refine hK2 _ _ ?_; clear hK2
  refine W_cond hs rfl (fun hg => ?_) (fun hg => ?_)
  · refine W_seq fun K2 hK2 => ?_
    refine W_region ?_
    refine sy hs (y_assign rfl) ?_; clear hs; (try clear a w); intro a w hs
    refine RL_nil ?_
    refine hK2 _ _ ?_; clear hK2
    refine W_ret ?_
    have hao : ao = none := by simpa using hg
    have hp : p0 = [] := by
      have h1 := hnil hao
      rw [h1] at hW1
      cases p0 with
      | nil => rfl
      | cons x p => exact hW1.elim
    subst hp
    subst he
    refine RtV1 hs rfl (rv_t hs rfl) ?_
    exact ⟨_, f, [], rfl, .refl f, hs.cw, _, rfl, rfl, RS.nil⟩
  · refine W_skip ?_
    refine hK1 _ _ ?_; clear hK1
    refine W_seq fun K2 hK2 => ?_
    refine W_region ?_
    refine RL_bs0 hs Tryd.underlying28 ti43 ?_; clear hs; (try clear a w); intro v1 a w hs
    refine sy hs (y_move rfl) ?_; clear hs; (try clear a w); intro a w hs
    refine RL_append (i := 0) hs rfl rfl rfl hR1.up Tryd.underlying28 ti43 (by decide) (by rw [hW1.len]; exact hb) (.free rfl) (by decide) ?_; clear hs; (try clear a w); intro v2 a w hs
    replace hs : St _ _ _ (.row v2 43 2 ([] ++ rw1) :: L) _ _ _ := hs
    refine sy hs (y_assign rfl) ?_; clear hs; (try clear a w); intro a w hs
    refine RL_nil ?_
    refine hK2 _ _ ?_; clear hK2
    refine W_ret ?_
    obtain ⟨f2, hf2, hs, hR2⟩ := hs.frz
    refine RtV1 hs rfl (rv_t hs rfl) ?_
    refine ⟨_, f2, [], rfl, hf2, hs.cw, _, rfl, rfl, ([] ++ rw1), hR2, ?_⟩
    rw [← he]
    exact hW1.le hf2
end Go.Proofs.YtklcdfnhdljkjaaDoor
namespace Go.Proofs.YtklcdfnhdljkjaaDoor
open Go.RowKit Go.Sl
def write_Escape (_ : Nat) (s : ByteArray) (q : Bool) : Option ByteArray := bif decide (s.size ≤ 1099511627776) then some (escS q s) else none
theorem write_Escape_ok (n : Nat) {f : Fz} {p0 : ByteArray} {p1 : Bool} {res : ByteArray} (hm : write_Escape n p0 p1 = some res) : Gives Tryd.prog 8 [.string p0, .bool p1] f (.string res) := by
  unfold write_Escape at hm
  by_cases h : p0.size ≤ 1099511627776
  · rw [decide_eq_true h] at hm
    obtain rfl := Option.some.inj hm
    exact Escape_ok h
  · rw [decide_eq_false h] at hm; cases hm
end Go.Proofs.YtklcdfnhdljkjaaDoor
