/-
  Walks and laws of this seat; the base is the text Base.
-/
import Derived.Test.YthmnohdlhlmmpaaY4
import Derived.Test.YthmnohdlhlmmpaaRows
/-
  Models of functions, and that the functions compute them. Printed by lift.py.
-/
namespace Go.Proofs.Ythmnohdlhlmmpaa
open Go.RowKit Go.Sl
/-! casement/casementlaw4.attr -/
def law4_attr (_n : Nat) (p0 : Int) (p1 : Int) : Option api_Attr :=
  (remM p0 26).bind fun x3 =>
  (remM p1 26).bind fun x5 =>
  (addS (Utf8.encode (IntKind.i32.wrap (w64 (97 + x3)))) (Utf8.encode (IntKind.i32.wrap (w64 (97 + x5))))).bind fun x7 =>
  some ({Name := (bs [109, 97, 114, 107]), Value := x7} : api_Attr)
set_option maxRecDepth 20000 in
set_option maxHeartbeats 4000000 in
theorem law4_attr_ok (n : Nat) {f : Fz} {p0 : Int} {p1 : Int} {res : api_Attr}  (hm : law4_attr n p0 p1 = some res) : Gives Try.prog 30 [.int .i64 p0, .int .i64 p1] f (.agg #[.string res.Name, .string res.Value]) := by
 unfold law4_attr at hm
 intro w0 L w hC
 refine enter Try.func30 rfl Try.ntmps30 (by simp) hC fun a hs => ?_
 have hle := Fz.le.refl f
 refine W_seq fun K1 hK1 => ?_
 refine W_region ?_
 refine RL_alloc hs ti29 (.free rfl) (by decide) ?_; clear hs; (try clear a w); intro b1 a w hs
 replace hs : St _ _ _ (.blk b1 (.cells #[.string ((bs [])), .string ((bs []))] 29 (0, 0)) :: L) _ _ _ := hs
 refine RL_nil ?_
 refine hK1 _ _ ?_; clear hK1
 refine W_seq fun K2 hK2 => ?_
 refine W_region ?_
 refine sy (v := .int .i64 (p0)) hs (y_move rfl) ?_; clear hs; (try clear a w); intro a w hs
 obtain ⟨x3, hx4, hm⟩ := ob hm
 refine sy hs (y_remW rfl rfl hx4) ?_; clear hs; (try clear a w); intro a w hs
 refine sy hs (y_add rfl rfl rfl) ?_; clear hs; (try clear a w); intro a w hs
 refine sy (v := .int .i32 ((IntKind.i32.wrap (w64 (97 + x3))))) hs (y_i2i rfl (by rw [Try.underlying3]; rfl) Try.underlying21 rfl) ?_; clear hs; (try clear a w); intro a w hs
 refine sy (v := .string ((Utf8.encode (IntKind.i32.wrap (w64 (97 + x3)))))) hs (y_i2s rfl (by rw [Try.underlying21]; rfl) Try.underlying9) ?_; clear hs; (try clear a w); intro a w hs
 refine sy (v := .int .i64 (p1)) hs (y_move rfl) ?_; clear hs; (try clear a w); intro a w hs
 obtain ⟨x5, hx6, hm⟩ := ob hm
 refine sy hs (y_remW rfl rfl hx6) ?_; clear hs; (try clear a w); intro a w hs
 refine sy hs (y_add rfl rfl rfl) ?_; clear hs; (try clear a w); intro a w hs
 refine sy (v := .int .i32 ((IntKind.i32.wrap (w64 (97 + x5))))) hs (y_i2i rfl (by rw [Try.underlying3]; rfl) Try.underlying21 rfl) ?_; clear hs; (try clear a w); intro a w hs
 refine sy (v := .string ((Utf8.encode (IntKind.i32.wrap (w64 (97 + x5)))))) hs (y_i2s rfl (by rw [Try.underlying21]; rfl) Try.underlying9) ?_; clear hs; (try clear a w); intro a w hs
 obtain ⟨x7, hx8, hm⟩ := ob hm
 obtain ⟨hbx7, hex7⟩ := addS_some hx8
 refine sy hs (y_saddW rfl rfl hbx7 hex7) ?_; clear hs; (try clear a w); intro a w hs
 refine sy hs (y_buildS (places := [(0, 1), (1, 1)]) (cs := [.string ((bs [109, 97, 114, 107])), .string (x7)]) rfl Try.underlying29 ti29 (by kernel_rfl) (by decide) rfl ⟨rfl, rfl, trivial⟩) ?_; clear hs; (try clear a w); intro a w hs
 refine RL_storeAll (i := 0) hs rfl rfl rfl ti29 ⟨rfl, rfl⟩ (AllC.arr (r := [.string ((bs [109, 97, 114, 107])), .string (x7)]) ⟨rfl, rfl, trivial⟩) (.free rfl) ?_; clear hs; (try clear a w); intro a w hs
 replace hs : St _ _ _ (.blk b1 (.cells #[.string ((bs [109, 97, 114, 107])), .string (x7)] 29 (0, 0)) :: L) _ _ _ := hs
 refine RL_nil ?_
 refine hK2 _ _ ?_; clear hK2
 refine W_ret ?_
 obtain rfl := Option.some.inj hm
 refine RtV1 hs rfl (rv_a hs rfl Try.underlying29 rfl ti29 (fun j u hj => Cell.blk (.head _) hj) rfl) ?_
 exact ⟨rfl, ((hs.subL (.cons _ (.refl _))).weak hle).cw⟩
end Go.Proofs.Ythmnohdlhlmmpaa
