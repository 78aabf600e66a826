/-
  Walks and laws of this seat; the base is the text Base.
-/
import Derived.Test.YthmnohdlhlmmpaaY4q
import Derived.Test.YthmnohdlhlmmpaaRows
/-
  Models of functions, and that the functions compute them. Printed by lift.py.
-/
namespace Go.Proofs.Ythmnohdlhlmmpaa
open Go.RowKit Go.Sl
/-! casement/source.New[rune] -/
def source_New_rune (_n : Nat) (p0 : (List Int)) : Option source_Cursor_rune_ :=
  (appM 4 ([] : List Int) p0).bind fun x10 =>
  some ({l := x10, at_ := 0} : source_Cursor_rune_)
set_option maxRecDepth 20000 in
theorem source_New_rune_ok (n : Nat) {f : Fz} {p0 : (List Int)} {a0 : Value} {res : source_Cursor_rune_} (h0 : RS (tInt .i32) f a0 p0) (hm : source_New_rune n p0 = some res) : Does Try.prog 39 [a0] f [] (fun r f' L' => ∃ (u0 : Nat) (u0_0 : Value) (u0_0r : List (List Value)), L' = [.blk u0 (.cells #[u0_0, .int .i64 res.at_] 94 (0, 0)), .row u0_0 21 1 u0_0r] ∧ r = .pointer (some ⟨u0, 0, none⟩) ∧ RW (tInt .i32) f' u0_0r res.l) := by
 unfold source_New_rune at hm
 intro w0 L w hC
 obtain ⟨rw1, hR2, hW3⟩ := h0
 refine enter Try.func39 rfl Try.ntmps39 (by simp) hC fun a hs => ?_
 have hle := Fz.le.refl f
 refine W_seq fun K1 hK1 => ?_
 refine W_region ?_
 refine sy (v := .pointer none) hs (y_assign rfl) ?_; clear hs; intro a w hs
 refine RL_nil ?_
 refine hK1 _ _ ?_; clear hK1
 refine W_seq fun K2 hK2 => ?_
 refine W_region ?_
 refine sy (v := a0) hs (y_move rfl) ?_; clear hs; intro a w hs
 replace hs := hs.nilRow 21 1
 have hW6 : RW (tInt .i32) f [] ([] : List Int) := trivial
 generalize hgrw7 : ([] : List (List Value)) = rw7 at hs hW6; clear hgrw7
 replace hs : St _ _ _ (.row (.slice none 0 0) 21 1 rw7 :: L) _ _ _ := hs
 obtain ⟨x10, hx11, hm⟩ := ob hm
 obtain ⟨hbx10, hex10⟩ := appM_some hx11
 have hW14 := hW6.append hW3; rw [hex10] at hW14
 refine RL_append (i := 0) hs rfl rfl rfl hR2.up Try.underlying32 ti21 (by decide) (by rw [RW.len hW6, RW.len hW3]; exact hbx10) (.free rfl) (by decide) ?_; clear hs; intro v12 a w hs
 generalize hgx10 : rw7 ++ rw1 = rw13 at hs hW14; clear hgx10
 replace hs : St _ _ _ (.row v12 21 1 rw13 :: L) _ _ _ := hs
 refine sy hs (y_buildS (places := [(0, 1), (1, 1)]) (cs := [v12, .int .i64 (0)]) rfl Try.underlying94 ti94 (by kernel_rfl) (by decide) rfl ⟨(hs.one (i := 0) rfl), trivial⟩) ?_; clear hs; intro a w hs
 refine sbox hs rfl ?_; clear hs; intro b17 a w hs
 replace hs : St _ _ _ (.blk b17 (.cells #[v12, .int .i64 (0)] 94 (0, 0)) :: .row v12 21 1 rw13 :: L) _ _ _ := hs
 refine sy (v := .pointer (some ⟨b17, 0, none⟩)) hs (y_assign rfl) ?_; clear hs; intro a w hs
 refine RL_nil ?_
 refine hK2 _ _ ?_; clear hK2
 refine W_ret ?_
 obtain rfl := Option.some.inj hm
 refine RtV1 hs rfl (rv_t hs rfl) ?_
 exact ⟨_, f, [.blk b17 (.cells #[v12, .int .i64 (0)] 94 (0, 0)), .row v12 21 1 rw13], rfl, hle, hs.cw, b17, v12, rw13, rfl, rfl, hW14⟩
/-! (*casement/source.Cursor[rune]).Left -/
def source_Cursor_rune_Left (_n : Nat) (p0 : source_Cursor_rune_) : Option Int :=
  some (w64 ((p0.l.length : Int) - p0.at_))
set_option maxRecDepth 20000 in
theorem source_Cursor_rune_Left_ok (n : Nat) {f : Fz} {p0 : source_Cursor_rune_} {pb0 : Nat} {pv0_0 : Value} {pv0_0r : List (List Value)} {res : Int} (pv0_0h : RW (tInt .i32) f pv0_0r p0.l) (hm : source_Cursor_rune_Left n p0 = some res) : GivesL Try.prog 40 [.pointer (some ⟨pb0, 0, none⟩)] f [.blk pb0 (.cells #[pv0_0, .int .i64 p0.at_] 94 (0, 0)), .row pv0_0 21 1 pv0_0r] (.int .i64 res) := by
 unfold source_Cursor_rune_Left at hm
 intro w0 L w hC
 replace hC : Cw w0 f (.blk pb0 (.cells #[pv0_0, .int .i64 p0.at_] 94 (0, 0)) :: .row pv0_0 21 1 pv0_0r :: L) w := hC
 refine enter Try.func40 rfl Try.ntmps40 (by simp) hC fun a hs => ?_
 have hle := Fz.le.refl f
 refine W_seq fun K1 hK1 => ?_
 refine W_region ?_
 refine sy (v := .int .i64 (0)) hs (y_assign rfl) ?_; clear hs; intro a w hs
 refine RL_nil ?_
 refine hK1 _ _ ?_; clear hK1
 refine W_seq fun K2 hK2 => ?_
 refine W_draw hs mixed (by kernel_rfl) ?_; intro a he
 refine qy (v := .pointer (some ⟨pb0, 0, none⟩)) he (y_move rfl) ?_; clear he; intro a he
 refine qy he (y_nilCheck rfl) ?_; clear he; intro a he
 refine qy (v := .pointer (some ⟨pb0, 0, none⟩)) he (y_fieldAddr rfl (FO.of (off := 0) Try.underlying94 rfl rfl ti32 (by decide))) ?_; clear he; intro a he
 refine qy (v := pv0_0) he (y_ld rfl Try.underlying32 rfl (Cell.blk (.head _) rfl)) ?_; clear he; intro a he
 refine qy he (y_lenW (Rd.st hs (.tail _ (.head _))) pv0_0h rfl Try.underlying32) ?_; clear he; intro a he
 refine qy (v := .pointer (some ⟨pb0, 0, none⟩)) he (y_move rfl) ?_; clear he; intro a he
 refine qy he (y_nilCheck rfl) ?_; clear he; intro a he
 refine qy (v := .pointer (some ⟨pb0, 1, none⟩)) he (y_fieldAddr rfl (FO.of (off := 1) Try.underlying94 rfl rfl ti3 (by decide))) ?_; clear he; intro a he
 refine qy (v := .int .i64 (p0.at_)) he (y_ld rfl Try.underlying3 rfl (Cell.blk (.head _) rfl)) ?_; clear he; intro a he
 refine qy he (y_sub rfl rfl rfl) ?_; clear he; intro a he
 refine qy (v := .int .i64 ((w64 ((p0.l.length : Int) - p0.at_)))) he (y_assign rfl) ?_; clear he; intro a he
 refine QL_nil he ?_; clear he; (try clear hs); intro a w hs
 refine hK2 _ _ ?_; clear hK2
 refine W_ret ?_
 obtain rfl := Option.some.inj hm
 refine RtV1 hs rfl (rv_t hs rfl) ?_
 exact ⟨rfl, (hs.weak hle).cw⟩
/-! (*casement/source.Cursor[rune]).Peek -/
def source_Cursor_rune_Peek_k1 (p0 : source_Cursor_rune_) (p1 : Int) (y4 : Bool) : Option (Int × Bool) :=
  (bif y4 then some (0, false) else
  (geti p0.l (w64 (p0.at_ + p1))).bind fun x6 =>
  some (x6, true))
def source_Cursor_rune_Peek (n : Nat) (p0 : source_Cursor_rune_) (p1 : Int) : Option (Int × Bool) :=
  (bif (decide (p1 < 0)) then source_Cursor_rune_Peek_k1 p0 p1 true else
  (source_Cursor_rune_Left n p0).bind fun x14 =>
  source_Cursor_rune_Peek_k1 p0 p1 (decide (x14 ≤ p1)))
set_option maxRecDepth 20000 in
theorem source_Cursor_rune_Peek_ok (n : Nat) {f : Fz} {p0 : source_Cursor_rune_} {pb0 : Nat} {pv0_0 : Value} {pv0_0r : List (List Value)} {p1 : Int} {res : (Int × Bool)} (pv0_0h : RW (tInt .i32) f pv0_0r p0.l) (hm : source_Cursor_rune_Peek n p0 p1 = some res) : GivesL Try.prog 65 [.pointer (some ⟨pb0, 0, none⟩), .int .i64 p1] f [.blk pb0 (.cells #[pv0_0, .int .i64 p0.at_] 94 (0, 0)), .row pv0_0 21 1 pv0_0r] (.tuple #[.int .i32 res.1, .bool res.2]) := by
 unfold source_Cursor_rune_Peek at hm
 intro w0 L w hC
 replace hC : Cw w0 f (.blk pb0 (.cells #[pv0_0, .int .i64 p0.at_] 94 (0, 0)) :: .row pv0_0 21 1 pv0_0r :: L) w := hC
 refine enter Try.func65 rfl Try.ntmps65 (by simp) hC fun a hs => ?_
 have hle := Fz.le.refl f
 refine W_seq fun K1 hK1 => ?_
 refine W_region ?_
 refine sy (v := .int .i32 (0)) hs (y_assign rfl) ?_; clear hs; intro a w hs
 refine sy (v := .bool (false)) hs (y_assign rfl) ?_; clear hs; intro a w hs
 refine RL_nil ?_
 refine hK1 _ _ ?_; clear hK1
 refine W_seq fun K2 hK2 => ?_
 refine W_seq fun K3 hK3 => ?_
 refine W_post (fun a w => ∃ (y4 : Bool), source_Cursor_rune_Peek_k1 p0 p1 y4 = some res ∧ St 28 w0 f (.blk pb0 (.cells #[pv0_0, .int .i64 (p0.at_)] 94 (0, 0)) :: .row pv0_0 21 1 pv0_0r :: L) [(0, .pointer (some ⟨pb0, 0, none⟩)), (1, .int .i64 (p1)), (14, .bool (y4))] a w) ?_ ?_
 ·clear hs hm
  rintro a w ⟨y4, hm, hs⟩
  replace hs : St _ _ _ (.blk pb0 (.cells #[pv0_0, .int .i64 (p0.at_)] 94 (0, 0)) :: .row pv0_0 21 1 pv0_0r :: L) _ _ _ := hs
  unfold source_Cursor_rune_Peek_k1 at hm
  refine hK3 _ _ ?_; clear hK3
  refine W_cond hs rfl (fun hg5 => ?_) (fun hg5 => ?_)
  ·replace hm := oc_t hg5 hm
   refine W_seq fun K4 hK4 => ?_
   refine W_region ?_
   refine sy (v := .int .i32 (0)) hs (y_assign rfl) ?_; clear hs; intro a w hs
   refine RL_nil ?_
   refine hK4 _ _ ?_; clear hK4
   refine W_seq fun K5 hK5 => ?_
   refine W_region ?_
   refine sy (v := .int .i32 (0)) hs (y_move rfl) ?_; clear hs; intro a w hs
   refine sy (v := .int .i32 (0)) hs (y_assign rfl) ?_; clear hs; intro a w hs
   refine sy (v := .bool (false)) hs (y_assign rfl) ?_; clear hs; intro a w hs
   refine RL_nil ?_
   refine hK5 _ _ ?_; clear hK5
   refine W_ret ?_
   obtain rfl := Option.some.inj hm
   refine RtV2 hs rfl (rv_t hs rfl) (rv_t hs rfl) ?_
   exact ⟨rfl, (hs.weak hle).cw⟩
  ·replace hm := oc_f hg5 hm
   refine W_skip ?_
   refine hK2 _ _ ?_; clear hK2
   refine W_seq fun K6 hK6 => ?_
   refine W_draw hs mixed (by kernel_rfl) ?_; intro a he
   refine qy (v := .pointer (some ⟨pb0, 0, none⟩)) he (y_move rfl) ?_; clear he; intro a he
   refine qy he (y_nilCheck rfl) ?_; clear he; intro a he
   refine qy (v := .pointer (some ⟨pb0, 0, none⟩)) he (y_fieldAddr rfl (FO.of (off := 0) Try.underlying94 rfl rfl ti32 (by decide))) ?_; clear he; intro a he
   refine qy (v := pv0_0) he (y_ld rfl Try.underlying32 rfl (Cell.blk (.head _) rfl)) ?_; clear he; intro a he
   refine qy (v := .pointer (some ⟨pb0, 0, none⟩)) he (y_move rfl) ?_; clear he; intro a he
   refine qy he (y_nilCheck rfl) ?_; clear he; intro a he
   refine qy (v := .pointer (some ⟨pb0, 1, none⟩)) he (y_fieldAddr rfl (FO.of (off := 1) Try.underlying94 rfl rfl ti3 (by decide))) ?_; clear he; intro a he
   refine qy (v := .int .i64 (p0.at_)) he (y_ld rfl Try.underlying3 rfl (Cell.blk (.head _) rfl)) ?_; clear he; intro a he
   refine qy (v := .int .i64 (p1)) he (y_move rfl) ?_; clear he; intro a he
   refine qy he (y_add rfl rfl rfl) ?_; clear he; intro a he
   obtain ⟨x6, hx7, hm⟩ := ob hm
   obtain ⟨r8, hr9, hq10, hi11, hb12⟩ := pv0_0h.geti hx7
   obtain rfl : _ = ([.int .i32 (x6)] : List Value) := hq10
   refine qy he (y_indexAddr (Rd.st hs (.tail _ (.head _))) rfl rfl hi11 hb12 Try.underlying32 ti21) ?_; clear he; intro a he
   refine qy (v := .int .i32 (x6)) he (y_loadE (i := (w64 (p0.at_ + p1)).toNat) (j := 0) (Rd.st hs (.tail _ (.head _))) rfl hr9 rfl Try.underlying21 rfl) ?_; clear he; intro a he
   refine qy (v := .int .i32 (x6)) he (y_assign rfl) ?_; clear he; intro a he
   refine qy (v := .bool (true)) he (y_assign rfl) ?_; clear he; intro a he
   refine QL_nil he ?_; clear he; (try clear hs); intro a w hs
   refine hK6 _ _ ?_; clear hK6
   refine W_ret ?_
   obtain rfl := Option.some.inj hm
   refine RtV2 hs rfl (rv_t hs rfl) (rv_t hs rfl) ?_
   exact ⟨rfl, (hs.weak hle).cw⟩
 ·refine W_region ?_
  refine sy (v := .int .i64 (p1)) hs (y_move rfl) ?_; clear hs; intro a w hs
  refine sy hs (y_lss rfl rfl) ?_; clear hs; intro a w hs
  refine sy (v := .bool (decide (p1 < 0))) hs (y_move rfl) ?_; clear hs; intro a w hs
  refine St.split hs (t := 9) rfl (fun hg13 hq => ?_) (fun hg13 hq => ?_)
  ·clear hs; have hs := hq; clear hq
   replace hm := oc_t hg13 hm
   refine sno hs ?_; clear hs; intro a w hs
   refine sno hs ?_; clear hs; intro a w hs
   refine sno hs ?_; clear hs; intro a w hs
   refine sno hs ?_; clear hs; intro a w hs
   refine sy (v := .bool (true)) hs (y_pick rfl rfl) ?_; clear hs; intro a w hs
   refine RL_nil ?_
   replace hs : St _ _ _ (.blk pb0 (.cells #[pv0_0, .int .i64 (p0.at_)] 94 (0, 0)) :: .row pv0_0 21 1 pv0_0r :: L) _ _ _ := hs
   exact ⟨true, hm, hs.sub ⟨rfl, rfl, rfl, trivial⟩⟩
  ·clear hs; have hs := hq; clear hq
   replace hm := oc_f hg13 hm
   refine syg (v := .int .i64 (p1)) hs (y_move rfl) ?_; clear hs; intro a w hs
   refine syg (v := .pointer (some ⟨pb0, 0, none⟩)) hs (y_move rfl) ?_; clear hs; intro a w hs
   obtain ⟨x14, hx15, hm⟩ := ob hm
   refine syg hs (y_callR (cap := []) (Lf := L) rfl has40 rfl ((perm_at _ 1 rfl).trans (perm_at _ 1 rfl)) (source_Cursor_rune_Left_ok n (f := f) (p0 := p0) (pb0 := pb0) (pv0_0 := pv0_0) (pv0_0r := pv0_0r) pv0_0h hx15)) ?_; clear hs; intro a w hs
   refine syg hs (y_geq rfl rfl) ?_; clear hs; intro a w hs
   refine sy (v := .bool (decide (x14 ≤ p1))) hs (y_pick rfl rfl) ?_; clear hs; intro a w hs
   refine RL_nil ?_
   replace hs : St _ _ _ (.blk pb0 (.cells #[pv0_0, .int .i64 (p0.at_)] 94 (0, 0)) :: .row pv0_0 21 1 pv0_0r :: L) _ _ _ := hs
   exact ⟨decide (x14 ≤ p1), hm, hs.sub ⟨rfl, rfl, rfl, trivial⟩⟩
/-! (*casement/source.Cursor[rune]).Next -/
def source_Cursor_rune_Next_k1 (p0 : source_Cursor_rune_) (x4 : (Int × Bool)) (y6 : Int) : Option (Int × Bool × source_Cursor_rune_) :=
  some (x4.1, x4.2, ({l := p0.l, at_ := y6} : source_Cursor_rune_))
def source_Cursor_rune_Next (n : Nat) (p0 : source_Cursor_rune_) : Option (Int × Bool × source_Cursor_rune_) :=
  (source_Cursor_rune_Peek n p0 0).bind fun x4 =>
  (bif x4.2 then source_Cursor_rune_Next_k1 p0 x4 (w64 (p0.at_ + 1)) else
  source_Cursor_rune_Next_k1 p0 x4 p0.at_)
set_option maxRecDepth 20000 in
theorem source_Cursor_rune_Next_ok (n : Nat) {f : Fz} {p0 : source_Cursor_rune_} {pb0 : Nat} {pv0_0 : Value} {pv0_0r : List (List Value)} {res : (Int × Bool × source_Cursor_rune_)} (pv0_0h : RW (tInt .i32) f pv0_0r p0.l) (hm : source_Cursor_rune_Next n p0 = some res) : Does Try.prog 47 [.pointer (some ⟨pb0, 0, none⟩)] f [.blk pb0 (.cells #[pv0_0, .int .i64 p0.at_] 94 (0, 0)), .row pv0_0 21 1 pv0_0r] (fun r f' L' => ∃ (dp0_0 : Value) (dp0_0r : List (List Value)), L' = [.blk pb0 (.cells #[dp0_0, .int .i64 res.2.2.at_] 94 (0, 0)), .row dp0_0 21 1 dp0_0r] ∧ r = .tuple #[.int .i32 res.1, .bool res.2.1] ∧ RW (tInt .i32) f' dp0_0r res.2.2.l) := by
 unfold source_Cursor_rune_Next at hm
 intro w0 L w hC
 replace hC : Cw w0 f (.blk pb0 (.cells #[pv0_0, .int .i64 p0.at_] 94 (0, 0)) :: .row pv0_0 21 1 pv0_0r :: L) w := hC
 refine enter Try.func47 rfl Try.ntmps47 (by simp) hC fun a hs => ?_
 have hle := Fz.le.refl f
 refine W_seq fun K1 hK1 => ?_
 refine W_region ?_
 refine sy (v := .int .i32 (0)) hs (y_assign rfl) ?_; clear hs; intro a w hs
 refine sy (v := .bool (false)) hs (y_assign rfl) ?_; clear hs; intro a w hs
 refine RL_nil ?_
 refine hK1 _ _ ?_; clear hK1
 refine W_seq fun K2 hK2 => ?_
 refine W_region ?_
 refine sy (v := .pointer (some ⟨pb0, 0, none⟩)) hs (y_move rfl) ?_; clear hs; intro a w hs
 obtain ⟨x4, hx5, hm⟩ := ob hm
 refine sy hs (y_callR (cap := []) (Lf := L) rfl has65 rfl ((perm_at _ 1 rfl).trans (perm_at _ 1 rfl)) (source_Cursor_rune_Peek_ok n (f := f) (p0 := p0) (pb0 := pb0) (pv0_0 := pv0_0) (pv0_0r := pv0_0r) (p1 := 0) pv0_0h hx5)) ?_; clear hs; intro a w hs
 refine sy (v := .tuple #[.int .i32 (x4.1), .bool (x4.2)]) hs (y_move rfl) ?_; clear hs; intro a w hs
 refine sy (v := .int .i32 (x4.1)) hs (y_extract rfl rfl) ?_; clear hs; intro a w hs
 refine sy (v := .bool (x4.2)) hs (y_extract rfl rfl) ?_; clear hs; intro a w hs
 refine sy (v := .int .i32 (x4.1)) hs (y_assign rfl) ?_; clear hs; intro a w hs
 refine sy (v := .bool (x4.2)) hs (y_assign rfl) ?_; clear hs; intro a w hs
 refine RL_nil ?_
 refine hK2 _ _ ?_; clear hK2
 refine W_seq fun K3 hK3 => ?_
 refine W_seq fun K4 hK4 => ?_
 refine W_region ?_
 refine sy (v := .bool (x4.2)) hs (y_move rfl) ?_; clear hs; intro a w hs
 refine RL_nil ?_
 refine hK4 _ _ ?_; clear hK4
 refine W_post (fun a w => ∃ (y6 : Int), source_Cursor_rune_Next_k1 p0 x4 y6 = some res ∧ St 21 w0 f (.blk pb0 (.cells #[pv0_0, .int .i64 (y6)] 94 (0, 0)) :: .row pv0_0 21 1 pv0_0r :: L) [(4, .int .i32 (x4.1)), (5, .bool (x4.2))] a w) ?_ ?_
 ·clear hs hm
  rintro a w ⟨y6, hm, hs⟩
  replace hs : St _ _ _ (.blk pb0 (.cells #[pv0_0, .int .i64 (y6)] 94 (0, 0)) :: .row pv0_0 21 1 pv0_0r :: L) _ _ _ := hs
  unfold source_Cursor_rune_Next_k1 at hm
  refine hK3 _ _ ?_; clear hK3
  refine W_seq fun K5 hK5 => ?_
  refine W_region ?_
  refine sy (v := .int .i32 (x4.1)) hs (y_move rfl) ?_; clear hs; intro a w hs
  refine sy (v := .bool (x4.2)) hs (y_move rfl) ?_; clear hs; intro a w hs
  refine sy (v := .int .i32 (x4.1)) hs (y_assign rfl) ?_; clear hs; intro a w hs
  refine sy (v := .bool (x4.2)) hs (y_assign rfl) ?_; clear hs; intro a w hs
  refine RL_nil ?_
  refine hK5 _ _ ?_; clear hK5
  refine W_ret ?_
  obtain rfl := Option.some.inj hm
  refine RtV2 hs rfl (rv_t hs rfl) (rv_t hs rfl) ?_
  exact ⟨_, f, [.blk pb0 (.cells #[pv0_0, .int .i64 (y6)] 94 (0, 0)), .row pv0_0 21 1 pv0_0r], rfl, hle, hs.cw, pv0_0, pv0_0r, rfl, rfl, pv0_0h⟩
 ·refine W_cond hs rfl (fun hg7 => ?_) (fun hg7 => ?_)
  ·replace hm := oc_t hg7 hm
   refine W_region ?_
   refine sy (v := .pointer (some ⟨pb0, 0, none⟩)) hs (y_move rfl) ?_; clear hs; intro a w hs
   refine sy hs (y_nilCheck rfl) ?_; clear hs; intro a w hs
   refine sy (v := .pointer (some ⟨pb0, 1, none⟩)) hs (y_fieldAddr rfl (FO.of (off := 1) Try.underlying94 rfl rfl ti3 (by decide))) ?_; clear hs; intro a w hs
   refine sy (v := .int .i64 (p0.at_)) hs (y_ld rfl Try.underlying3 rfl (Cell.blk (.head _) rfl)) ?_; clear hs; intro a w hs
   refine sy hs (y_add rfl rfl rfl) ?_; clear hs; intro a w hs
   refine sy hs (y_nilCheck rfl) ?_; clear hs; intro a w hs
   refine sy (v := .pointer (some ⟨pb0, 1, none⟩)) hs (y_fieldAddr rfl (FO.of (off := 1) Try.underlying94 rfl rfl ti3 (by decide))) ?_; clear hs; intro a w hs
   refine sstore 0 hs rfl rfl rfl ti3 rfl ?_; clear hs; intro a w hs
   replace hs : St _ _ _ (.blk pb0 (.cells #[pv0_0, .int .i64 ((w64 (p0.at_ + 1)))] 94 (0, 0)) :: .row pv0_0 21 1 pv0_0r :: L) _ _ _ := hs
   refine RL_nil ?_
   replace hs : St _ _ _ (.blk pb0 (.cells #[pv0_0, .int .i64 ((w64 (p0.at_ + 1)))] 94 (0, 0)) :: .row pv0_0 21 1 pv0_0r :: L) _ _ _ := hs
   exact ⟨(w64 (p0.at_ + 1)), hm, hs.sub ⟨rfl, rfl, trivial⟩⟩
  ·replace hm := oc_f hg7 hm
   refine W_skip ?_
   replace hs : St _ _ _ (.blk pb0 (.cells #[pv0_0, .int .i64 (p0.at_)] 94 (0, 0)) :: .row pv0_0 21 1 pv0_0r :: L) _ _ _ := hs
   exact ⟨p0.at_, hm, hs.sub ⟨rfl, rfl, trivial⟩⟩
/-! casement/mark.blank -/
def mark_blank (_n : Nat) (p0 : Int) : Option Bool :=
  some ((decide (p0 = 9)) || ((decide (p0 = 10)) || ((decide (p0 = 12)) || (decide (p0 = 32)))))
set_option maxRecDepth 20000 in
theorem mark_blank_ok (n : Nat) {f : Fz} {p0 : Int} {res : Bool}  (hm : mark_blank n p0 = some res) : Gives Try.prog 69 [.int .i32 p0] f (.bool res) := by
 unfold mark_blank at hm
 intro w0 L w hC
 refine enter Try.func69 rfl Try.ntmps69 (by simp) hC fun a hs => ?_
 have hle := Fz.le.refl f
 refine W_seq fun K1 hK1 => ?_
 refine W_region ?_
 refine sy (v := .bool (false)) hs (y_assign rfl) ?_; clear hs; intro a w hs
 refine RL_nil ?_
 refine hK1 _ _ ?_; clear hK1
 refine W_seq fun K2 hK2 => ?_
 refine W_post (fun a w => St 17 w0 f (L) [(2, .bool (((decide (p0 = 9)) || ((decide (p0 = 10)) || ((decide (p0 = 12)) || (decide (p0 = 32)))))))] a w) ?_ ?_
 ·clear hs; intro a w hs
  refine hK2 _ _ ?_; clear hK2
  refine W_ret ?_
  obtain rfl := Option.some.inj hm
  refine RtV1 hs rfl (rv_t hs rfl) ?_
  exact ⟨rfl, (hs.weak hle).cw⟩
 ·refine W_region ?_
  refine sy (v := .int .i32 (p0)) hs (y_move rfl) ?_; clear hs; intro a w hs
  refine sy hs (y_eql rfl rfl) ?_; clear hs; intro a w hs
  refine sy (v := .bool (decide (p0 = 9))) hs (y_move rfl) ?_; clear hs; intro a w hs
  refine St.split hs (t := 5) rfl (fun hg1 hq => ?_) (fun hg1 hq => ?_)
  ·clear hs; have hs := hq; clear hq
   refine sno hs ?_; clear hs; intro a w hs
   refine sno hs ?_; clear hs; intro a w hs
   refine sy (v := .bool (true)) hs (y_pick rfl rfl) ?_; clear hs; intro a w hs
   refine sy (v := .bool (true)) hs (y_move rfl) ?_; clear hs; intro a w hs
   refine sno hs ?_; clear hs; intro a w hs
   refine sno hs ?_; clear hs; intro a w hs
   refine sy (v := .bool (true)) hs (y_pick rfl rfl) ?_; clear hs; intro a w hs
   refine sy (v := .bool (true)) hs (y_move rfl) ?_; clear hs; intro a w hs
   refine sno hs ?_; clear hs; intro a w hs
   refine sno hs ?_; clear hs; intro a w hs
   refine sy (v := .bool (true)) hs (y_pick rfl rfl) ?_; clear hs; intro a w hs
   refine sy (v := .bool (true)) hs (y_assign rfl) ?_; clear hs; intro a w hs
   refine RL_nil ?_
   exact hs.sub ⟨(lkB (((or_t hg1).trans rfl)) rfl), trivial⟩
  ·clear hs; have hs := hq; clear hq
   refine syg (v := .int .i32 (p0)) hs (y_move rfl) ?_; clear hs; intro a w hs
   refine syg hs (y_eql rfl rfl) ?_; clear hs; intro a w hs
   refine sy (v := .bool (decide (p0 = 10))) hs (y_pick rfl rfl) ?_; clear hs; intro a w hs
   refine sy (v := .bool (decide (p0 = 10))) hs (y_move rfl) ?_; clear hs; intro a w hs
   refine St.split hs (t := 9) rfl (fun hg2 hq => ?_) (fun hg2 hq => ?_)
   ·clear hs; have hs := hq; clear hq
    refine sno hs ?_; clear hs; intro a w hs
    refine sno hs ?_; clear hs; intro a w hs
    refine sy (v := .bool (true)) hs (y_pick rfl rfl) ?_; clear hs; intro a w hs
    refine sy (v := .bool (true)) hs (y_move rfl) ?_; clear hs; intro a w hs
    refine sno hs ?_; clear hs; intro a w hs
    refine sno hs ?_; clear hs; intro a w hs
    refine sy (v := .bool (true)) hs (y_pick rfl rfl) ?_; clear hs; intro a w hs
    refine sy (v := .bool (true)) hs (y_assign rfl) ?_; clear hs; intro a w hs
    refine RL_nil ?_
    exact hs.sub ⟨(lkB (((or_f hg1).trans ((or_t hg2).trans rfl))) rfl), trivial⟩
   ·clear hs; have hs := hq; clear hq
    refine syg (v := .int .i32 (p0)) hs (y_move rfl) ?_; clear hs; intro a w hs
    refine syg hs (y_eql rfl rfl) ?_; clear hs; intro a w hs
    refine sy (v := .bool (decide (p0 = 12))) hs (y_pick rfl rfl) ?_; clear hs; intro a w hs
    refine sy (v := .bool (decide (p0 = 12))) hs (y_move rfl) ?_; clear hs; intro a w hs
    refine St.split hs (t := 13) rfl (fun hg3 hq => ?_) (fun hg3 hq => ?_)
    ·clear hs; have hs := hq; clear hq
     refine sno hs ?_; clear hs; intro a w hs
     refine sno hs ?_; clear hs; intro a w hs
     refine sy (v := .bool (true)) hs (y_pick rfl rfl) ?_; clear hs; intro a w hs
     refine sy (v := .bool (true)) hs (y_assign rfl) ?_; clear hs; intro a w hs
     refine RL_nil ?_
     exact hs.sub ⟨(lkB (((or_f hg1).trans ((or_f hg2).trans ((or_t hg3).trans rfl)))) rfl), trivial⟩
    ·clear hs; have hs := hq; clear hq
     refine syg (v := .int .i32 (p0)) hs (y_move rfl) ?_; clear hs; intro a w hs
     refine syg hs (y_eql rfl rfl) ?_; clear hs; intro a w hs
     refine sy (v := .bool (decide (p0 = 32))) hs (y_pick rfl rfl) ?_; clear hs; intro a w hs
     refine sy (v := .bool (decide (p0 = 32))) hs (y_assign rfl) ?_; clear hs; intro a w hs
     refine RL_nil ?_
     exact hs.sub ⟨(lkB (((or_f hg1).trans ((or_f hg2).trans ((or_f hg3).trans rfl)))) rfl), trivial⟩
/-! casement/mark.letter -/
def mark_letter (_n : Nat) (p0 : Int) : Option Bool :=
  some (bif (decide (97 ≤ p0)) then ((decide (p0 ≤ 122)) || ((decide (65 ≤ p0)) && (decide (p0 ≤ 90)))) else ((decide (65 ≤ p0)) && (decide (p0 ≤ 90))))
set_option maxRecDepth 20000 in
theorem mark_letter_ok (n : Nat) {f : Fz} {p0 : Int} {res : Bool}  (hm : mark_letter n p0 = some res) : Gives Try.prog 42 [.int .i32 p0] f (.bool res) := by
 unfold mark_letter at hm
 intro w0 L w hC
 refine enter Try.func42 rfl Try.ntmps42 (by simp) hC fun a hs => ?_
 have hle := Fz.le.refl f
 refine W_seq fun K1 hK1 => ?_
 refine W_region ?_
 refine sy (v := .bool (false)) hs (y_assign rfl) ?_; clear hs; intro a w hs
 refine RL_nil ?_
 refine hK1 _ _ ?_; clear hK1
 refine W_seq fun K2 hK2 => ?_
 refine W_post (fun a w => St 17 w0 f (L) [(2, .bool ((bif (decide (97 ≤ p0)) then ((decide (p0 ≤ 122)) || ((decide (65 ≤ p0)) && (decide (p0 ≤ 90)))) else ((decide (65 ≤ p0)) && (decide (p0 ≤ 90))))))] a w) ?_ ?_
 ·clear hs; intro a w hs
  refine hK2 _ _ ?_; clear hK2
  refine W_ret ?_
  obtain rfl := Option.some.inj hm
  refine RtV1 hs rfl (rv_t hs rfl) ?_
  exact ⟨rfl, (hs.weak hle).cw⟩
 ·refine W_region ?_
  refine sy (v := .int .i32 (p0)) hs (y_move rfl) ?_; clear hs; intro a w hs
  refine sy hs (y_geq rfl rfl) ?_; clear hs; intro a w hs
  refine sy (v := .bool (decide (97 ≤ p0))) hs (y_move rfl) ?_; clear hs; intro a w hs
  refine St.split hs (t := 5) rfl (fun hg1 hq => ?_) (fun hg1 hq => ?_)
  ·clear hs; have hs := hq; clear hq
   refine syg (v := .int .i32 (p0)) hs (y_move rfl) ?_; clear hs; intro a w hs
   refine syg hs (y_leq rfl rfl) ?_; clear hs; intro a w hs
   refine sy (v := .bool (decide (p0 ≤ 122))) hs (y_pick rfl rfl) ?_; clear hs; intro a w hs
   refine sy (v := .bool (decide (p0 ≤ 122))) hs (y_move rfl) ?_; clear hs; intro a w hs
   refine St.split hs (t := 9) rfl (fun hg2 hq => ?_) (fun hg2 hq => ?_)
   ·clear hs; have hs := hq; clear hq
    refine sno hs ?_; clear hs; intro a w hs
    refine sno hs ?_; clear hs; intro a w hs
    refine sno hs ?_; clear hs; intro a w hs
    refine sun hs ?_; clear hs; intro a w hs
    refine sun hs ?_; clear hs; intro a w hs
    refine sno hs ?_; clear hs; intro a w hs
    refine sy (v := .bool (true)) hs (y_pick rfl rfl) ?_; clear hs; intro a w hs
    refine sy (v := .bool (true)) hs (y_assign rfl) ?_; clear hs; intro a w hs
    refine RL_nil ?_
    exact hs.sub ⟨(lkB (((bif_t hg1).trans ((or_t hg2).trans rfl))) rfl), trivial⟩
   ·clear hs; have hs := hq; clear hq
    refine syg (v := .int .i32 (p0)) hs (y_move rfl) ?_; clear hs; intro a w hs
    refine syg hs (y_geq rfl rfl) ?_; clear hs; intro a w hs
    refine syg (v := .bool (decide (65 ≤ p0))) hs (y_move rfl) ?_; clear hs; intro a w hs
    refine St.split hs (t := 12) rfl (fun hg3 hq => ?_) (fun hg3 hq => ?_)
    ·clear hs; have hs := hq; clear hq
     refine syg (v := .int .i32 (p0)) hs (y_move rfl) ?_; clear hs; intro a w hs
     refine syg hs (y_leq rfl rfl) ?_; clear hs; intro a w hs
     refine syg (v := .bool (decide (p0 ≤ 90))) hs (y_pick rfl rfl) ?_; clear hs; intro a w hs
     refine sy (v := .bool (decide (p0 ≤ 90))) hs (y_pick rfl rfl) ?_; clear hs; intro a w hs
     refine sy (v := .bool (decide (p0 ≤ 90))) hs (y_assign rfl) ?_; clear hs; intro a w hs
     refine RL_nil ?_
     exact hs.sub ⟨(lkB (((bif_t hg1).trans ((or_f hg2).trans ((and_t hg3).trans rfl)))) rfl), trivial⟩
    ·clear hs; have hs := hq; clear hq
     refine sno hs ?_; clear hs; intro a w hs
     refine sno hs ?_; clear hs; intro a w hs
     refine syg (v := .bool (false)) hs (y_pick rfl rfl) ?_; clear hs; intro a w hs
     refine sy (v := .bool (false)) hs (y_pick rfl rfl) ?_; clear hs; intro a w hs
     refine sy (v := .bool (false)) hs (y_assign rfl) ?_; clear hs; intro a w hs
     refine RL_nil ?_
     exact hs.sub ⟨(lkB (((bif_t hg1).trans ((or_f hg2).trans ((and_f hg3).trans rfl)))) rfl), trivial⟩
  ·clear hs; have hs := hq; clear hq
   refine sno hs ?_; clear hs; intro a w hs
   refine sno hs ?_; clear hs; intro a w hs
   refine sy (v := .bool (false)) hs (y_pick rfl rfl) ?_; clear hs; intro a w hs
   refine sy (v := .bool (false)) hs (y_move rfl) ?_; clear hs; intro a w hs
   refine syg (v := .int .i32 (p0)) hs (y_move rfl) ?_; clear hs; intro a w hs
   refine syg hs (y_geq rfl rfl) ?_; clear hs; intro a w hs
   refine syg (v := .bool (decide (65 ≤ p0))) hs (y_move rfl) ?_; clear hs; intro a w hs
   refine St.split hs (t := 12) rfl (fun hg4 hq => ?_) (fun hg4 hq => ?_)
   ·clear hs; have hs := hq; clear hq
    refine syg (v := .int .i32 (p0)) hs (y_move rfl) ?_; clear hs; intro a w hs
    refine syg hs (y_leq rfl rfl) ?_; clear hs; intro a w hs
    refine syg (v := .bool (decide (p0 ≤ 90))) hs (y_pick rfl rfl) ?_; clear hs; intro a w hs
    refine sy (v := .bool (decide (p0 ≤ 90))) hs (y_pick rfl rfl) ?_; clear hs; intro a w hs
    refine sy (v := .bool (decide (p0 ≤ 90))) hs (y_assign rfl) ?_; clear hs; intro a w hs
    refine RL_nil ?_
    exact hs.sub ⟨(lkB (((bif_f hg1).trans ((and_t hg4).trans rfl))) rfl), trivial⟩
   ·clear hs; have hs := hq; clear hq
    refine sno hs ?_; clear hs; intro a w hs
    refine sno hs ?_; clear hs; intro a w hs
    refine syg (v := .bool (false)) hs (y_pick rfl rfl) ?_; clear hs; intro a w hs
    refine sy (v := .bool (false)) hs (y_pick rfl rfl) ?_; clear hs; intro a w hs
    refine sy (v := .bool (false)) hs (y_assign rfl) ?_; clear hs; intro a w hs
    refine RL_nil ?_
    exact hs.sub ⟨(lkB (((bif_f hg1).trans ((and_f hg4).trans rfl))) rfl), trivial⟩
/-! casement/mark.small -/
def mark_small_k1 (y16 : (List Int)) : Option ByteArray :=
  some (textOf y16)
def mark_small_k3 (y26 : Int) (lp27 : (List Int) → Int → Option ByteArray) (y36 : (List Int)) : Option ByteArray :=
  lp27 y36 (w64 (y26 + 1))
def mark_small_l2 (x10 : (List Int)) : Nat → (List Int) → Int → Option ByteArray
  | 0, _, _ => none
  | k27 + 1, y21, y26 =>
  (bif (decide (y26 < (x10.length : Int))) then (geti y21 y26).bind fun x29 =>
  (bif ((decide (65 ≤ x29)) && (decide (x29 ≤ 90))) then (geti y21 y26).bind fun _x42 =>
  (seti y21 y26 (IntKind.i32.wrap ((IntKind.i32.wrap (x29 + 97)) - 65))).bind fun x49 =>
  mark_small_k3 y26 (mark_small_l2 x10 k27) x49 else
  mark_small_k3 y26 (mark_small_l2 x10 k27) y21) else
  mark_small_k1 y21)
def mark_small (n : Nat) (p0 : (List Int)) : Option ByteArray :=
  (appM 4 ([] : List Int) p0).bind fun x10 =>
  mark_small_l2 x10 n x10 0
set_option maxRecDepth 20000 in
theorem mark_small_ok (n : Nat) {f : Fz} {p0 : (List Int)} {a0 : Value} {res : ByteArray} (h0 : RS (tInt .i32) f a0 p0) (hm : mark_small n p0 = some res) : Gives Try.prog 66 [a0] f (.string res) := by
 unfold mark_small at hm
 intro w0 L w hC
 obtain ⟨rw1, hR2, hW3⟩ := h0
 refine enter Try.func66 rfl Try.ntmps66 (by simp) hC fun a hs => ?_
 have hle := Fz.le.refl f
 refine W_seq fun K1 hK1 => ?_
 refine W_region ?_
 refine sy (v := .string ((bs []))) hs (y_assign rfl) ?_; clear hs; intro a w hs
 refine RL_nil ?_
 refine hK1 _ _ ?_; clear hK1
 refine W_seq fun K2 hK2 => ?_
 refine W_region ?_
 refine sy (v := a0) hs (y_move rfl) ?_; clear hs; intro a w hs
 replace hs := hs.nilRow 21 1
 have hW6 : RW (tInt .i32) f [] ([] : List Int) := trivial
 generalize hgrw7 : ([] : List (List Value)) = rw7 at hs hW6; clear hgrw7
 replace hs : St _ _ _ (.row (.slice none 0 0) 21 1 rw7 :: L) _ _ _ := hs
 obtain ⟨x10, hx11, hm⟩ := ob hm
 obtain ⟨hbx10, hex10⟩ := appM_some hx11
 have hW14 := hW6.append hW3; rw [hex10] at hW14
 refine RL_append (i := 0) hs rfl rfl rfl hR2.up Try.underlying32 ti21 (by decide) (by rw [RW.len hW6, RW.len hW3]; exact hbx10) (.free rfl) (by decide) ?_; clear hs; intro v12 a w hs
 generalize hgx10 : rw7 ++ rw1 = rw13 at hs hW14; clear hgx10
 replace hs : St _ _ _ (.row v12 21 1 rw13 :: L) _ _ _ := hs
 refine sy (v := v12) hs (y_assign rfl) ?_; clear hs; intro a w hs
 refine RL_nil ?_
 refine hK2 _ _ ?_; clear hK2
 refine W_seq fun K3 hK3 => ?_
 refine W_seq fun K4 hK4 => ?_
 refine W_region ?_
 refine sy (v := v12) hs (y_move rfl) ?_; clear hs; intro a w hs
 refine sy hs (y_lenW (Rd.st hs (.head _)) hW14 rfl Try.underlying32) ?_; clear hs; intro a w hs
 refine sy (v := .int .i64 (0)) hs (y_move rfl) ?_; clear hs; intro a w hs
 refine RL_nil ?_
 refine hK4 _ _ ?_; clear hK4
 refine W_post (fun a w => ∃ (y16 : (List Int)) (v17 : Value) (rw18 : List (List Value)), mark_small_k1 y16 = some res ∧ RW (tInt .i32) f rw18 y16 ∧ St 30 w0 f (.row v17 21 1 rw18 :: L) [(3, v17)] a w) ?_ ?_
 ·clear hs hm
  rintro a w ⟨y16, v17, rw18, hm, hW19, hs⟩
  replace hs : St _ _ _ (.row v17 21 1 rw18 :: L) _ _ _ := hs
  unfold mark_small_k1 at hm
  refine hK3 _ _ ?_; clear hK3
  refine W_seq fun K5 hK5 => ?_
  refine W_region ?_
  refine sy (v := v17) hs (y_move rfl) ?_; clear hs; intro a w hs
  refine sy (v := .string ((textOf y16))) hs (y_r2sW rfl Try.underlying32 Try.underlying21 Try.underlying9 (Rd.st hs (.head _)) hW19) ?_; clear hs; intro a w hs
  refine sy (v := .string ((textOf y16))) hs (y_assign rfl) ?_; clear hs; intro a w hs
  refine RL_nil ?_
  refine hK5 _ _ ?_; clear hK5
  refine W_ret ?_
  obtain rfl := Option.some.inj hm
  refine RtV1 hs rfl (rv_t hs rfl) ?_
  exact ⟨rfl, ((hs.subL (.cons _ (.refl _))).weak hle).cw⟩
 ·refine W_block fun Qe6 hB6 hO6 => ?_
  refine W_loop (fun (k : Nat) a w => ∃ (y21 : (List Int)) (y26 : Int) (v22 : Value) (rw23 : List (List Value)), mark_small_l2 x10 k y21 y26 = some res ∧ RW (tInt .i32) f rw23 y21 ∧ St 30 w0 f (.row v22 21 1 rw23 :: L) [(3, v22), (8, v22), (9, .int .i64 ((x10.length : Int))), (10, .int .i64 (y26))] a w) (fun k => k) n ⟨x10, 0, v12, rw13, hm, hW14, hs.sub ⟨rfl, rfl, rfl, rfl, trivial⟩⟩ ?_
  clear hs hm
  intro k
  rintro a w ⟨y21, y26, v22, rw23, hm, hW24, hs⟩
  replace hs : St _ _ _ (.row v22 21 1 rw23 :: L) _ _ _ := hs
  intro K7 hK7
  cases k with
  | zero => simp [mark_small_l2] at hm
  | succ k27 =>
   rw [mark_small_l2] at hm
   refine W_seq fun K8 hK8 => ?_
   refine W_region ?_
   refine sy hs (y_lss rfl rfl) ?_; clear hs; intro a w hs
   refine RL_nil ?_
   refine hK8 _ _ ?_; clear hK8
   refine W_seq fun K9 hK9 => ?_
   refine W_cond hs rfl (fun hg28 => ?_) (fun hg28 => ?_)
   ·replace hm := oc_t hg28 hm
    refine W_skip ?_
    refine hK9 _ _ ?_; clear hK9
    refine W_seq fun K10 hK10 => ?_
    refine W_block fun Qe11 hB11 hO11 => ?_
    refine W_seq fun K12 hK12 => ?_
    refine W_region ?_
    refine sy (v := .int .i64 (y26)) hs (y_move rfl) ?_; clear hs; intro a w hs
    obtain ⟨x29, hx30, hm⟩ := ob hm
    obtain ⟨r31, hr32, hq33, hi34, hb35⟩ := hW24.geti hx30
    obtain rfl : _ = ([.int .i32 (x29)] : List Value) := hq33
    refine sy hs (y_indexAddr (Rd.st hs (.head _)) rfl rfl hi34 hb35 Try.underlying32 ti21) ?_; clear hs; intro a w hs
    refine sy (v := .int .i32 (x29)) hs (y_loadE (i := y26.toNat) (j := 0) (Rd.st hs (.head _)) rfl hr32 rfl Try.underlying21 rfl) ?_; clear hs; intro a w hs
    refine sy (v := .int .i64 (y26)) hs (y_assign rfl) ?_; clear hs; intro a w hs
    refine sy (v := .int .i32 (x29)) hs (y_assign rfl) ?_; clear hs; intro a w hs
    refine RL_nil ?_
    refine hK12 _ _ ?_; clear hK12
    refine W_seq fun K13 hK13 => ?_
    refine W_post (fun a w => St 30 w0 f (.row v22 21 1 rw23 :: L) [(3, v22), (4, .int .i64 (y26)), (5, .int .i32 (x29)), (8, v22), (9, .int .i64 ((x10.length : Int))), (10, .int .i64 (y26)), (20, .bool (((decide (65 ≤ x29)) && (decide (x29 ≤ 90)))))] a w) ?_ ?_
    ·clear hs; intro a w hs
     refine hK13 _ _ ?_; clear hK13
     refine W_post (fun a w => ∃ (y36 : (List Int)) (v37 : Value) (rw38 : List (List Value)), mark_small_k3 y26 (mark_small_l2 x10 k27) y36 = some res ∧ RW (tInt .i32) f rw38 y36 ∧ St 30 w0 f (.row v37 21 1 rw38 :: L) [(3, v37), (8, v37), (9, .int .i64 ((x10.length : Int))), (10, .int .i64 (y26))] a w) ?_ ?_
     ·clear hs hm
      rintro a w ⟨y36, v37, rw38, hm, hW39, hs⟩
      replace hs : St _ _ _ (.row v37 21 1 rw38 :: L) _ _ _ := hs
      unfold mark_small_k3 at hm
      refine hK10 _ _ ?_; clear hK10
      refine W_region ?_
      refine sy hs (y_add rfl rfl rfl) ?_; clear hs; intro a w hs
      refine sy (v := .int .i64 ((w64 (y26 + 1)))) hs (y_move rfl) ?_; clear hs; intro a w hs
      refine RL_nil ?_
      exact hK7 k27 _ _ (Nat.lt_succ_self _) ⟨y36, (w64 (y26 + 1)), v37, rw38, hm, hW39, hs.sub ⟨rfl, rfl, rfl, rfl, trivial⟩⟩
     ·refine W_cond hs rfl (fun hg41 => ?_) (fun hg41 => ?_)
      ·replace hm := oc_t hg41 hm
       refine W_region ?_
       refine sy (v := v22) hs (y_move rfl) ?_; clear hs; intro a w hs
       refine sy (v := .int .i64 (y26)) hs (y_move rfl) ?_; clear hs; intro a w hs
       refine sy (v := .int .i32 (x29)) hs (y_move rfl) ?_; clear hs; intro a w hs
       refine sy hs (y_add rfl rfl rfl) ?_; clear hs; intro a w hs
       refine sy hs (y_sub rfl rfl rfl) ?_; clear hs; intro a w hs
       obtain ⟨x42, hx43, hm⟩ := ob hm
       obtain ⟨r44, hr45, hq46, hi47, hb48⟩ := hW24.geti hx43
       obtain rfl : _ = ([.int .i32 (x42)] : List Value) := hq46
       refine sy hs (y_indexAddr (Rd.st hs (.head _)) rfl rfl hi47 hb48 Try.underlying32 ti21) ?_; clear hs; intro a w hs
       obtain ⟨x49, hx50, hm⟩ := ob hm
       have hex49 := seti_some hx50
       have hW52 := RW.set (i := y26.toNat) (r := [.int .i32 ((IntKind.i32.wrap ((IntKind.i32.wrap (x29 + 97)) - 65)))]) (x := ((IntKind.i32.wrap ((IntKind.i32.wrap (x29 + 97)) - 65)) : Int)) hW24 (rfl); rw [hex49] at hW52
       refine RL_storeRow (i := 0) (j := 0) (m := y26.toNat) hs rfl rfl rfl hr45 (by decide) ti21 rfl (.free rfl) ?_; clear hs; intro a w hs
       replace hs : St _ _ _ (.row v22 21 1 (rw23.set y26.toNat [.int .i32 ((IntKind.i32.wrap ((IntKind.i32.wrap (x29 + 97)) - 65)))]) :: L) _ _ _ := hs
       generalize hgrw51 : rw23.set y26.toNat [.int .i32 ((IntKind.i32.wrap ((IntKind.i32.wrap (x29 + 97)) - 65)))] = rw51 at hs hW52; clear hgrw51
       replace hs : St _ _ _ (.row v22 21 1 rw51 :: L) _ _ _ := hs
       refine RL_nil ?_
       exact ⟨x49, v22, rw51, hm, hW52, hs.sub ⟨rfl, rfl, rfl, rfl, trivial⟩⟩
      ·replace hm := oc_f hg41 hm
       refine W_skip ?_
       exact ⟨y21, v22, rw23, hm, hW24, hs.sub ⟨rfl, rfl, rfl, rfl, trivial⟩⟩
    ·refine W_region ?_
     refine sy (v := .int .i32 (x29)) hs (y_move rfl) ?_; clear hs; intro a w hs
     refine sy hs (y_geq rfl rfl) ?_; clear hs; intro a w hs
     refine sy (v := .bool (decide (65 ≤ x29))) hs (y_move rfl) ?_; clear hs; intro a w hs
     refine St.split hs (t := 17) rfl (fun hg54 hq => ?_) (fun hg54 hq => ?_)
     ·clear hs; have hs := hq; clear hq
      refine syg (v := .int .i32 (x29)) hs (y_move rfl) ?_; clear hs; intro a w hs
      refine syg hs (y_leq rfl rfl) ?_; clear hs; intro a w hs
      refine sy (v := .bool (decide (x29 ≤ 90))) hs (y_pick rfl rfl) ?_; clear hs; intro a w hs
      refine RL_nil ?_
      exact hs.sub ⟨rfl, rfl, rfl, rfl, rfl, rfl, (lkB (((and_t hg54).trans rfl)) rfl), trivial⟩
     ·clear hs; have hs := hq; clear hq
      refine sno hs ?_; clear hs; intro a w hs
      refine sno hs ?_; clear hs; intro a w hs
      refine sy (v := .bool (false)) hs (y_pick rfl rfl) ?_; clear hs; intro a w hs
      refine RL_nil ?_
      exact hs.sub ⟨rfl, rfl, rfl, rfl, rfl, rfl, (lkB (((and_f hg54).trans rfl)) rfl), trivial⟩
   ·replace hm := oc_f hg28 hm
    refine W_exit ?_
    refine hB6 _ _ ?_
    exact ⟨y21, v22, rw23, hm, hW24, hs.sub ⟨rfl, trivial⟩⟩
/-! (*casement/mark.cutter).peek -/
def mark_cutter_peek (n : Nat) (p0 : mark_cutter) (p1 : Int) : Option Int :=
  (source_Cursor_rune_Peek n p0.c p1).bind fun x7 =>
  some x7.1
set_option maxRecDepth 20000 in
theorem mark_cutter_peek_ok (n : Nat) {Q : LQ} {f : Fz} {p0 : mark_cutter} {pb0 : Nat} {pv0_0 : Nat} {pv0_1 : Value} {pv0_1r : List (List Value)} {pv0_2 : Value} {pv0_2r : List (List Value)} {p1 : Int} {res : Int} (pv0_1h : RW (tInt .i32) f pv0_1r p0.c.l) (_pv0_2h : Q.R f pv0_2r p0.out) (hm : mark_cutter_peek n p0 p1 = some res) : GivesL Try.prog 43 [.pointer (some ⟨pb0, 0, none⟩), .int .i64 p1] f [.blk pb0 (.cells #[.pointer (some ⟨pv0_0, 0, none⟩), pv0_2] 71 (0, 0)), .blk pv0_0 (.cells #[pv0_1, .int .i64 p0.c.at_] 94 (0, 0)), .row pv0_1 21 1 pv0_1r, .row pv0_2 44 5 pv0_2r] (.int .i32 res) := by
 unfold mark_cutter_peek at hm
 intro w0 L w hC
 replace hC : Cw w0 f (.blk pb0 (.cells #[.pointer (some ⟨pv0_0, 0, none⟩), pv0_2] 71 (0, 0)) :: .blk pv0_0 (.cells #[pv0_1, .int .i64 p0.c.at_] 94 (0, 0)) :: .row pv0_1 21 1 pv0_1r :: .row pv0_2 44 5 pv0_2r :: L) w := hC
 refine enter Try.func43 rfl Try.ntmps43 (by simp) hC fun a hs => ?_
 have hle := Fz.le.refl f
 refine W_seq fun K1 hK1 => ?_
 refine W_region ?_
 refine sy (v := .int .i32 (0)) hs (y_assign rfl) ?_; clear hs; intro a w hs
 refine RL_nil ?_
 refine hK1 _ _ ?_; clear hK1
 refine W_seq fun K2 hK2 => ?_
 refine W_region ?_
 refine sy (v := .pointer (some ⟨pb0, 0, none⟩)) hs (y_move rfl) ?_; clear hs; intro a w hs
 refine sy hs (y_nilCheck rfl) ?_; clear hs; intro a w hs
 refine sy (v := .pointer (some ⟨pb0, 0, none⟩)) hs (y_fieldAddr rfl (FO.of (off := 0) Try.underlying71 rfl rfl ti68 (by decide))) ?_; clear hs; intro a w hs
 refine sy (v := .pointer (some ⟨pv0_0, 0, none⟩)) hs (y_ld rfl Try.underlying68 rfl (Cell.blk (.head _) rfl)) ?_; clear hs; intro a w hs
 refine sy (v := .int .i64 (p1)) hs (y_move rfl) ?_; clear hs; intro a w hs
 obtain ⟨x7, hx8, hm⟩ := ob hm
 refine sy hs (y_callR (cap := []) (Lf := .blk pb0 (.cells #[.pointer (some ⟨pv0_0, 0, none⟩), pv0_2] 71 (0, 0)) :: .row pv0_2 44 5 pv0_2r :: L) rfl has65 rfl ((perm_at _ 2 rfl).trans (perm_at _ 2 rfl)) (source_Cursor_rune_Peek_ok n (f := f) (p0 := p0.c) (pb0 := pv0_0) (pv0_0 := pv0_1) (pv0_0r := pv0_1r) (p1 := p1) pv0_1h hx8)) ?_; clear hs; intro a w hs
 refine sy (v := .tuple #[.int .i32 (x7.1), .bool (x7.2)]) hs (y_move rfl) ?_; clear hs; intro a w hs
 refine sy (v := .int .i32 (x7.1)) hs (y_extract rfl rfl) ?_; clear hs; intro a w hs
 refine sy (v := .bool (x7.2)) hs (y_extract rfl rfl) ?_; clear hs; intro a w hs
 refine sy (v := .int .i32 (x7.1)) hs (y_assign rfl) ?_; clear hs; intro a w hs
 refine sy (v := .bool (x7.2)) hs (y_assign rfl) ?_; clear hs; intro a w hs
 refine RL_nil ?_
 refine hK2 _ _ ?_; clear hK2
 refine W_seq fun K3 hK3 => ?_
 refine W_region ?_
 refine sy (v := .int .i32 (x7.1)) hs (y_move rfl) ?_; clear hs; intro a w hs
 refine sy (v := .int .i32 (x7.1)) hs (y_assign rfl) ?_; clear hs; intro a w hs
 refine RL_nil ?_
 refine hK3 _ _ ?_; clear hK3
 refine W_ret ?_
 obtain rfl := Option.some.inj hm
 refine RtV1 hs rfl (rv_t hs rfl) ?_
 exact ⟨rfl, (hs.weak hle).cw⟩
/-! (*casement/mark.cutter).is -/
def mark_cutter_is_k1 : Option Bool :=
  some true
def mark_cutter_is_l2 (n : Nat) (p0 : mark_cutter) (p1 : Int) (x7 : (List Int)) : Nat → Int → Option Bool
  | 0, _ => none
  | k15 + 1, y14 =>
  (bif (decide (y14 < (x7.length : Int))) then (geti x7 y14).bind fun x17 =>
  (source_Cursor_rune_Peek n p0.c (w64 (p1 + y14))).bind fun x24 =>
  (bif ((!x24.2) || (decide (x24.1 ≠ x17))) then some false else
  (mark_cutter_is_l2 n p0 p1 x7 k15) (w64 (y14 + 1))) else
  mark_cutter_is_k1)
def mark_cutter_is (n : Nat) (p0 : mark_cutter) (p1 : Int) (p2 : ByteArray) : Option Bool :=
  (runesM p2).bind fun x7 =>
  mark_cutter_is_l2 n p0 p1 x7 n 0
set_option maxRecDepth 20000 in
theorem mark_cutter_is_ok (n : Nat) {Q : LQ} {f : Fz} {p0 : mark_cutter} {pb0 : Nat} {pv0_0 : Nat} {pv0_1 : Value} {pv0_1r : List (List Value)} {pv0_2 : Value} {pv0_2r : List (List Value)} {p1 : Int} {p2 : ByteArray} {res : Bool} (pv0_1h : RW (tInt .i32) f pv0_1r p0.c.l) (_pv0_2h : Q.R f pv0_2r p0.out) (hm : mark_cutter_is n p0 p1 p2 = some res) : GivesL Try.prog 44 [.pointer (some ⟨pb0, 0, none⟩), .int .i64 p1, .string p2] f [.blk pb0 (.cells #[.pointer (some ⟨pv0_0, 0, none⟩), pv0_2] 71 (0, 0)), .blk pv0_0 (.cells #[pv0_1, .int .i64 p0.c.at_] 94 (0, 0)), .row pv0_1 21 1 pv0_1r, .row pv0_2 44 5 pv0_2r] (.bool res) := by
 unfold mark_cutter_is at hm
 intro w0 L w hC
 replace hC : Cw w0 f (.blk pb0 (.cells #[.pointer (some ⟨pv0_0, 0, none⟩), pv0_2] 71 (0, 0)) :: .blk pv0_0 (.cells #[pv0_1, .int .i64 p0.c.at_] 94 (0, 0)) :: .row pv0_1 21 1 pv0_1r :: .row pv0_2 44 5 pv0_2r :: L) w := hC
 refine enter Try.func44 rfl Try.ntmps44 (by simp) hC fun a hs => ?_
 have hle := Fz.le.refl f
 refine W_seq fun K1 hK1 => ?_
 refine W_region ?_
 refine sy (v := .bool (false)) hs (y_assign rfl) ?_; clear hs; intro a w hs
 refine RL_nil ?_
 refine hK1 _ _ ?_; clear hK1
 refine W_seq fun K2 hK2 => ?_
 refine W_seq fun K3 hK3 => ?_
 refine W_region ?_
 refine sy (v := .string (p2)) hs (y_move rfl) ?_; clear hs; intro a w hs
 obtain ⟨x7, hx8, hm⟩ := ob hm
 refine RL_s2rW hx8 hs rfl Try.underlying9 Try.underlying32 Try.underlying21 ?_; clear hs; intro v9 rw10 a w hW11 hs
 replace hs : St _ _ _ (.row v9 21 1 rw10 :: .blk pb0 (.cells #[.pointer (some ⟨pv0_0, 0, none⟩), pv0_2] 71 (0, 0)) :: .blk pv0_0 (.cells #[pv0_1, .int .i64 (p0.c.at_)] 94 (0, 0)) :: .row pv0_1 21 1 pv0_1r :: .row pv0_2 44 5 pv0_2r :: L) _ _ _ := hs
 refine sy hs (y_lenW (Rd.st hs (.head _)) hW11 rfl Try.underlying32) ?_; clear hs; intro a w hs
 refine sy (v := .int .i64 (0)) hs (y_move rfl) ?_; clear hs; intro a w hs
 refine RL_nil ?_
 refine hK3 _ _ ?_; clear hK3
 refine W_post (fun a w => mark_cutter_is_k1 = some res ∧ St 38 w0 f (.blk pb0 (.cells #[.pointer (some ⟨pv0_0, 0, none⟩), pv0_2] 71 (0, 0)) :: .blk pv0_0 (.cells #[pv0_1, .int .i64 (p0.c.at_)] 94 (0, 0)) :: .row pv0_1 21 1 pv0_1r :: .row pv0_2 44 5 pv0_2r :: L) [] a w) ?_ ?_
 ·clear hs hm
  rintro a w ⟨hm, hs⟩
  replace hs : St _ _ _ (.blk pb0 (.cells #[.pointer (some ⟨pv0_0, 0, none⟩), pv0_2] 71 (0, 0)) :: .blk pv0_0 (.cells #[pv0_1, .int .i64 (p0.c.at_)] 94 (0, 0)) :: .row pv0_1 21 1 pv0_1r :: .row pv0_2 44 5 pv0_2r :: L) _ _ _ := hs
  unfold mark_cutter_is_k1 at hm
  refine hK2 _ _ ?_; clear hK2
  refine W_seq fun K4 hK4 => ?_
  refine W_region ?_
  refine sy (v := .bool (true)) hs (y_assign rfl) ?_; clear hs; intro a w hs
  refine RL_nil ?_
  refine hK4 _ _ ?_; clear hK4
  refine W_ret ?_
  obtain rfl := Option.some.inj hm
  refine RtV1 hs rfl (rv_t hs rfl) ?_
  exact ⟨rfl, (hs.weak hle).cw⟩
 ·refine W_block fun Qe5 hB5 hO5 => ?_
  replace hs : St _ _ _ (.row v9 21 1 rw10 :: .blk pb0 (.cells #[.pointer (some ⟨pv0_0, 0, none⟩), pv0_2] 71 (0, 0)) :: .blk pv0_0 (.cells #[pv0_1, .int .i64 (p0.c.at_)] 94 (0, 0)) :: .row pv0_1 21 1 pv0_1r :: .row pv0_2 44 5 pv0_2r :: L) _ _ _ := hs
  replace hs : St _ _ _ (.row v9 21 1 rw10 :: .blk pb0 (.cells #[.pointer (some ⟨pv0_0, 0, none⟩), pv0_2] 71 (0, 0)) :: .blk pv0_0 (.cells #[pv0_1, .int .i64 (p0.c.at_)] 94 (0, 0)) :: .row pv0_1 21 1 pv0_1r :: .row pv0_2 44 5 pv0_2r :: L) _ _ _ := hs
  refine W_loop (fun (k : Nat) a w => ∃ (y14 : Int), mark_cutter_is_l2 n p0 p1 x7 k y14 = some res ∧ St 38 w0 f (.row v9 21 1 rw10 :: .blk pb0 (.cells #[.pointer (some ⟨pv0_0, 0, none⟩), pv0_2] 71 (0, 0)) :: .blk pv0_0 (.cells #[pv0_1, .int .i64 (p0.c.at_)] 94 (0, 0)) :: .row pv0_1 21 1 pv0_1r :: .row pv0_2 44 5 pv0_2r :: L) [(0, .pointer (some ⟨pb0, 0, none⟩)), (1, .int .i64 (p1)), (12, v9), (13, .int .i64 ((x7.length : Int))), (14, .int .i64 (y14))] a w) (fun k => k) n ⟨0, hm, hs.sub ⟨rfl, rfl, rfl, rfl, rfl, trivial⟩⟩ ?_
  clear hs hm
  intro k
  rintro a w ⟨y14, hm, hs⟩
  replace hs : St _ _ _ (.row v9 21 1 rw10 :: .blk pb0 (.cells #[.pointer (some ⟨pv0_0, 0, none⟩), pv0_2] 71 (0, 0)) :: .blk pv0_0 (.cells #[pv0_1, .int .i64 (p0.c.at_)] 94 (0, 0)) :: .row pv0_1 21 1 pv0_1r :: .row pv0_2 44 5 pv0_2r :: L) _ _ _ := hs
  intro K6 hK6
  cases k with
  | zero => simp [mark_cutter_is_l2] at hm
  | succ k15 =>
   rw [mark_cutter_is_l2] at hm
   refine W_seq fun K7 hK7 => ?_
   refine W_region ?_
   refine sy hs (y_lss rfl rfl) ?_; clear hs; intro a w hs
   refine RL_nil ?_
   refine hK7 _ _ ?_; clear hK7
   refine W_seq fun K8 hK8 => ?_
   refine W_cond hs rfl (fun hg16 => ?_) (fun hg16 => ?_)
   ·replace hm := oc_t hg16 hm
    refine W_skip ?_
    refine hK8 _ _ ?_; clear hK8
    refine W_seq fun K9 hK9 => ?_
    refine W_block fun Qe10 hB10 hO10 => ?_
    refine W_seq fun K11 hK11 => ?_
    refine W_region ?_
    refine sy (v := .int .i64 (y14)) hs (y_move rfl) ?_; clear hs; intro a w hs
    obtain ⟨x17, hx18, hm⟩ := ob hm
    obtain ⟨r19, hr20, hq21, hi22, hb23⟩ := hW11.geti hx18
    obtain rfl : _ = ([.int .i32 (x17)] : List Value) := hq21
    refine sy hs (y_indexAddr (Rd.st hs (.head _)) rfl rfl hi22 hb23 Try.underlying32 ti21) ?_; clear hs; intro a w hs
    refine sy (v := .int .i32 (x17)) hs (y_loadE (i := y14.toNat) (j := 0) (Rd.st hs (.head _)) rfl hr20 rfl Try.underlying21 rfl) ?_; clear hs; intro a w hs
    refine sy (v := .int .i64 (y14)) hs (y_assign rfl) ?_; clear hs; intro a w hs
    refine sy (v := .int .i32 (x17)) hs (y_assign rfl) ?_; clear hs; intro a w hs
    refine RL_nil ?_
    refine hK11 _ _ ?_; clear hK11
    refine W_seq fun K12 hK12 => ?_
    refine W_region ?_
    refine sy (v := .pointer (some ⟨pb0, 0, none⟩)) hs (y_move rfl) ?_; clear hs; intro a w hs
    refine sy hs (y_nilCheck rfl) ?_; clear hs; intro a w hs
    refine sy (v := .pointer (some ⟨pb0, 0, none⟩)) hs (y_fieldAddr rfl (FO.of (off := 0) Try.underlying71 rfl rfl ti68 (by decide))) ?_; clear hs; intro a w hs
    refine sy (v := .pointer (some ⟨pv0_0, 0, none⟩)) hs (y_ld rfl Try.underlying68 rfl (Cell.blk (.tail _ (.head _)) rfl)) ?_; clear hs; intro a w hs
    refine sy (v := .int .i64 (p1)) hs (y_move rfl) ?_; clear hs; intro a w hs
    refine sy (v := .int .i64 (y14)) hs (y_move rfl) ?_; clear hs; intro a w hs
    refine sy hs (y_add rfl rfl rfl) ?_; clear hs; intro a w hs
    obtain ⟨x24, hx25, hm⟩ := ob hm
    refine sy hs (y_callR (cap := []) (Lf := .row v9 21 1 rw10 :: .blk pb0 (.cells #[.pointer (some ⟨pv0_0, 0, none⟩), pv0_2] 71 (0, 0)) :: .row pv0_2 44 5 pv0_2r :: L) rfl has65 rfl ((perm_at _ 3 rfl).trans (perm_at _ 3 rfl)) (source_Cursor_rune_Peek_ok n (f := f) (p0 := p0.c) (pb0 := pv0_0) (pv0_0 := pv0_1) (pv0_0r := pv0_1r) (p1 := (w64 (p1 + y14))) pv0_1h hx25)) ?_; clear hs; intro a w hs
    refine sy (v := .tuple #[.int .i32 (x24.1), .bool (x24.2)]) hs (y_move rfl) ?_; clear hs; intro a w hs
    refine sy (v := .int .i32 (x24.1)) hs (y_extract rfl rfl) ?_; clear hs; intro a w hs
    refine sy (v := .bool (x24.2)) hs (y_extract rfl rfl) ?_; clear hs; intro a w hs
    refine sy (v := .int .i32 (x24.1)) hs (y_assign rfl) ?_; clear hs; intro a w hs
    refine sy (v := .bool (x24.2)) hs (y_assign rfl) ?_; clear hs; intro a w hs
    refine RL_nil ?_
    refine hK12 _ _ ?_; clear hK12
    refine W_seq fun K13 hK13 => ?_
    refine W_post (fun a w => St 38 w0 f (.row v9 21 1 rw10 :: .blk pb0 (.cells #[.pointer (some ⟨pv0_0, 0, none⟩), pv0_2] 71 (0, 0)) :: .blk pv0_0 (.cells #[pv0_1, .int .i64 (p0.c.at_)] 94 (0, 0)) :: .row pv0_1 21 1 pv0_1r :: .row pv0_2 44 5 pv0_2r :: L) [(0, .pointer (some ⟨pb0, 0, none⟩)), (1, .int .i64 (p1)), (12, v9), (13, .int .i64 ((x7.length : Int))), (14, .int .i64 (y14)), (36, .bool (((!x24.2) || (decide (x24.1 ≠ x17)))))] a w) ?_ ?_
    ·clear hs; intro a w hs
     refine hK13 _ _ ?_; clear hK13
     refine W_cond hs rfl (fun hg26 => ?_) (fun hg26 => ?_)
     ·replace hm := oc_t hg26 hm
      refine W_seq fun K14 hK14 => ?_
      refine W_region ?_
      refine sy (v := .bool (false)) hs (y_assign rfl) ?_; clear hs; intro a w hs
      refine RL_nil ?_
      refine hK14 _ _ ?_; clear hK14
      refine W_ret ?_
      obtain rfl := Option.some.inj hm
      refine RtV1 hs rfl (rv_t hs rfl) ?_
      exact ⟨rfl, ((hs.subL (.cons _ (.cons_cons _ (.cons_cons _ (.cons_cons _ (.cons_cons _ (.refl _))))))).weak hle).cw⟩
     ·replace hm := oc_f hg26 hm
      refine W_skip ?_
      refine hK9 _ _ ?_; clear hK9
      refine W_region ?_
      refine sy hs (y_add rfl rfl rfl) ?_; clear hs; intro a w hs
      refine sy (v := .int .i64 ((w64 (y14 + 1)))) hs (y_move rfl) ?_; clear hs; intro a w hs
      refine RL_nil ?_
      replace hs : St _ _ _ (.row v9 21 1 rw10 :: .blk pb0 (.cells #[.pointer (some ⟨pv0_0, 0, none⟩), pv0_2] 71 (0, 0)) :: .blk pv0_0 (.cells #[pv0_1, .int .i64 (p0.c.at_)] 94 (0, 0)) :: .row pv0_1 21 1 pv0_1r :: .row pv0_2 44 5 pv0_2r :: L) _ _ _ := hs
      replace hs : St _ _ _ (.row v9 21 1 rw10 :: .blk pb0 (.cells #[.pointer (some ⟨pv0_0, 0, none⟩), pv0_2] 71 (0, 0)) :: .blk pv0_0 (.cells #[pv0_1, .int .i64 (p0.c.at_)] 94 (0, 0)) :: .row pv0_1 21 1 pv0_1r :: .row pv0_2 44 5 pv0_2r :: L) _ _ _ := hs
      exact hK6 k15 _ _ (Nat.lt_succ_self _) ⟨(w64 (y14 + 1)), hm, hs.sub ⟨rfl, rfl, rfl, rfl, rfl, trivial⟩⟩
    ·refine W_region ?_
     refine sy (v := .bool (x24.2)) hs (y_move rfl) ?_; clear hs; intro a w hs
     refine sy (v := .bool ((!x24.2))) hs (y_not rfl) ?_; clear hs; intro a w hs
     refine sy (v := .bool ((!x24.2))) hs (y_move rfl) ?_; clear hs; intro a w hs
     refine St.split hs (t := 32) rfl (fun hg27 hq => ?_) (fun hg27 hq => ?_)
     ·clear hs; have hs := hq; clear hq
      refine sno hs ?_; clear hs; intro a w hs
      refine sno hs ?_; clear hs; intro a w hs
      refine sno hs ?_; clear hs; intro a w hs
      refine sy (v := .bool (true)) hs (y_pick rfl rfl) ?_; clear hs; intro a w hs
      refine RL_nil ?_
      exact hs.sub ⟨rfl, rfl, rfl, rfl, rfl, (lkB (((or_t hg27).trans rfl)) rfl), trivial⟩
     ·clear hs; have hs := hq; clear hq
      refine syg (v := .int .i32 (x24.1)) hs (y_move rfl) ?_; clear hs; intro a w hs
      refine syg (v := .int .i32 (x17)) hs (y_move rfl) ?_; clear hs; intro a w hs
      refine syg hs (y_neq rfl rfl) ?_; clear hs; intro a w hs
      refine sy (v := .bool (decide (x24.1 ≠ x17))) hs (y_pick rfl rfl) ?_; clear hs; intro a w hs
      refine RL_nil ?_
      exact hs.sub ⟨rfl, rfl, rfl, rfl, rfl, (lkB (((or_f hg27).trans rfl)) rfl), trivial⟩
   ·replace hm := oc_f hg16 hm
    refine W_exit ?_
    refine hB5 _ _ ?_
    replace hs : St _ _ _ (.row v9 21 1 rw10 :: .blk pb0 (.cells #[.pointer (some ⟨pv0_0, 0, none⟩), pv0_2] 71 (0, 0)) :: .blk pv0_0 (.cells #[pv0_1, .int .i64 (p0.c.at_)] 94 (0, 0)) :: .row pv0_1 21 1 pv0_1r :: .row pv0_2 44 5 pv0_2r :: L) _ _ _ := hs
    replace hs : St _ _ _ (.row v9 21 1 rw10 :: .blk pb0 (.cells #[.pointer (some ⟨pv0_0, 0, none⟩), pv0_2] 71 (0, 0)) :: .blk pv0_0 (.cells #[pv0_1, .int .i64 (p0.c.at_)] 94 (0, 0)) :: .row pv0_1 21 1 pv0_1r :: .row pv0_2 44 5 pv0_2r :: L) _ _ _ := hs
    exact ⟨hm, hs.subs trivial (.cons _ (.cons_cons _ (.cons_cons _ (.cons_cons _ (.cons_cons _ (.refl _))))))⟩
/-! (*casement/mark.cutter).begins -/
def mark_cutter_begins_k1 (y12 : Bool) : Option Bool :=
  some y12
def mark_cutter_begins (n : Nat) (p0 : mark_cutter) : Option Bool :=
  (mark_cutter_is n p0 0 (bs [60])).bind fun x7 =>
  (bif (!x7) then some false else
  (mark_cutter_peek n p0 1).bind fun x10 =>
  (mark_letter n x10).bind fun x13 =>
  (bif x13 then mark_cutter_begins_k1 true else
  (bif (decide (x10 = 33)) then mark_cutter_begins_k1 true else
  (bif (decide (x10 = 63)) then mark_cutter_begins_k1 true else
  mark_cutter_begins_k1 (decide (x10 = 47))))))
set_option maxRecDepth 20000 in
theorem mark_cutter_begins_ok (n : Nat) {Q : LQ} {f : Fz} {p0 : mark_cutter} {pb0 : Nat} {pv0_0 : Nat} {pv0_1 : Value} {pv0_1r : List (List Value)} {pv0_2 : Value} {pv0_2r : List (List Value)} {res : Bool} (pv0_1h : RW (tInt .i32) f pv0_1r p0.c.l) (pv0_2h : Q.R f pv0_2r p0.out) (hm : mark_cutter_begins n p0 = some res) : GivesL Try.prog 41 [.pointer (some ⟨pb0, 0, none⟩)] f [.blk pb0 (.cells #[.pointer (some ⟨pv0_0, 0, none⟩), pv0_2] 71 (0, 0)), .blk pv0_0 (.cells #[pv0_1, .int .i64 p0.c.at_] 94 (0, 0)), .row pv0_1 21 1 pv0_1r, .row pv0_2 44 5 pv0_2r] (.bool res) := by
 unfold mark_cutter_begins at hm
 intro w0 L w hC
 replace hC : Cw w0 f (.blk pb0 (.cells #[.pointer (some ⟨pv0_0, 0, none⟩), pv0_2] 71 (0, 0)) :: .blk pv0_0 (.cells #[pv0_1, .int .i64 p0.c.at_] 94 (0, 0)) :: .row pv0_1 21 1 pv0_1r :: .row pv0_2 44 5 pv0_2r :: L) w := hC
 refine enter Try.func41 rfl Try.ntmps41 (by simp) hC fun a hs => ?_
 have hle := Fz.le.refl f
 refine W_seq fun K1 hK1 => ?_
 refine W_region ?_
 refine sy (v := .bool (false)) hs (y_assign rfl) ?_; clear hs; intro a w hs
 refine RL_nil ?_
 refine hK1 _ _ ?_; clear hK1
 refine W_seq fun K2 hK2 => ?_
 refine W_seq fun K3 hK3 => ?_
 refine W_region ?_
 refine sy (v := .pointer (some ⟨pb0, 0, none⟩)) hs (y_move rfl) ?_; clear hs; intro a w hs
 obtain ⟨x7, hx8, hm⟩ := ob hm
 refine sy hs (y_callR (cap := []) (Lf := L) rfl has44 rfl ((((perm_at _ 3 rfl).trans (perm_at _ 3 rfl)).trans (perm_at _ 3 rfl)).trans (perm_at _ 3 rfl)) (mark_cutter_is_ok n (f := f) (p0 := p0) (pb0 := pb0) (pv0_0 := pv0_0) (pv0_1 := pv0_1) (pv0_1r := pv0_1r) (pv0_2 := pv0_2) (pv0_2r := pv0_2r) (p1 := 0) (p2 := (bs [60])) pv0_1h pv0_2h hx8)) ?_; clear hs; intro a w hs
 refine sy (v := .bool ((!x7))) hs (y_not rfl) ?_; clear hs; intro a w hs
 refine RL_nil ?_
 refine hK3 _ _ ?_; clear hK3
 refine W_cond hs rfl (fun hg9 => ?_) (fun hg9 => ?_)
 ·replace hm := oc_t hg9 hm
  refine W_seq fun K4 hK4 => ?_
  refine W_region ?_
  refine sy (v := .bool (false)) hs (y_assign rfl) ?_; clear hs; intro a w hs
  refine RL_nil ?_
  refine hK4 _ _ ?_; clear hK4
  refine W_ret ?_
  obtain rfl := Option.some.inj hm
  refine RtV1 hs rfl (rv_t hs rfl) ?_
  exact ⟨rfl, (hs.weak hle).cw⟩
 ·replace hm := oc_f hg9 hm
  refine W_skip ?_
  refine hK2 _ _ ?_; clear hK2
  refine W_seq fun K5 hK5 => ?_
  refine W_region ?_
  refine sy (v := .pointer (some ⟨pb0, 0, none⟩)) hs (y_move rfl) ?_; clear hs; intro a w hs
  obtain ⟨x10, hx11, hm⟩ := ob hm
  refine sy hs (y_callR (cap := []) (Lf := L) rfl has43 rfl ((((perm_at _ 3 rfl).trans (perm_at _ 3 rfl)).trans (perm_at _ 3 rfl)).trans (perm_at _ 3 rfl)) (mark_cutter_peek_ok n (f := f) (p0 := p0) (pb0 := pb0) (pv0_0 := pv0_0) (pv0_1 := pv0_1) (pv0_1r := pv0_1r) (pv0_2 := pv0_2) (pv0_2r := pv0_2r) (p1 := 1) pv0_1h pv0_2h hx11)) ?_; clear hs; intro a w hs
  refine sy (v := .int .i32 (x10)) hs (y_assign rfl) ?_; clear hs; intro a w hs
  refine RL_nil ?_
  refine hK5 _ _ ?_; clear hK5
  refine W_seq fun K6 hK6 => ?_
  refine W_post (fun a w => ∃ (y12 : Bool), mark_cutter_begins_k1 y12 = some res ∧ St 23 w0 f (.blk pb0 (.cells #[.pointer (some ⟨pv0_0, 0, none⟩), pv0_2] 71 (0, 0)) :: .blk pv0_0 (.cells #[pv0_1, .int .i64 (p0.c.at_)] 94 (0, 0)) :: .row pv0_1 21 1 pv0_1r :: .row pv0_2 44 5 pv0_2r :: L) [(2, .bool (y12))] a w) ?_ ?_
  ·clear hs hm
   rintro a w ⟨y12, hm, hs⟩
   replace hs : St _ _ _ (.blk pb0 (.cells #[.pointer (some ⟨pv0_0, 0, none⟩), pv0_2] 71 (0, 0)) :: .blk pv0_0 (.cells #[pv0_1, .int .i64 (p0.c.at_)] 94 (0, 0)) :: .row pv0_1 21 1 pv0_1r :: .row pv0_2 44 5 pv0_2r :: L) _ _ _ := hs
   unfold mark_cutter_begins_k1 at hm
   refine hK6 _ _ ?_; clear hK6
   refine W_ret ?_
   obtain rfl := Option.some.inj hm
   refine RtV1 hs rfl (rv_t hs rfl) ?_
   exact ⟨rfl, (hs.weak hle).cw⟩
  ·refine W_region ?_
   refine sy (v := .int .i32 (x10)) hs (y_move rfl) ?_; clear hs; intro a w hs
   obtain ⟨x13, hx14, hm⟩ := ob hm
   refine sy hs (y_call rfl has42 rfl (mark_letter_ok n (f := f)  hx14)) ?_; clear hs; intro a w hs
   refine sy (v := .bool (x13)) hs (y_move rfl) ?_; clear hs; intro a w hs
   refine St.split hs (t := 11) rfl (fun hg15 hq => ?_) (fun hg15 hq => ?_)
   ·clear hs; have hs := hq; clear hq
    replace hm := oc_t hg15 hm
    refine sno hs ?_; clear hs; intro a w hs
    refine sno hs ?_; clear hs; intro a w hs
    refine sy (v := .bool (true)) hs (y_pick rfl rfl) ?_; clear hs; intro a w hs
    refine sy (v := .bool (true)) hs (y_move rfl) ?_; clear hs; intro a w hs
    refine sno hs ?_; clear hs; intro a w hs
    refine sno hs ?_; clear hs; intro a w hs
    refine sy (v := .bool (true)) hs (y_pick rfl rfl) ?_; clear hs; intro a w hs
    refine sy (v := .bool (true)) hs (y_move rfl) ?_; clear hs; intro a w hs
    refine sno hs ?_; clear hs; intro a w hs
    refine sno hs ?_; clear hs; intro a w hs
    refine sy (v := .bool (true)) hs (y_pick rfl rfl) ?_; clear hs; intro a w hs
    refine sy (v := .bool (true)) hs (y_assign rfl) ?_; clear hs; intro a w hs
    refine RL_nil ?_
    replace hs : St _ _ _ (.blk pb0 (.cells #[.pointer (some ⟨pv0_0, 0, none⟩), pv0_2] 71 (0, 0)) :: .blk pv0_0 (.cells #[pv0_1, .int .i64 (p0.c.at_)] 94 (0, 0)) :: .row pv0_1 21 1 pv0_1r :: .row pv0_2 44 5 pv0_2r :: L) _ _ _ := hs
    replace hs : St _ _ _ (.blk pb0 (.cells #[.pointer (some ⟨pv0_0, 0, none⟩), pv0_2] 71 (0, 0)) :: .blk pv0_0 (.cells #[pv0_1, .int .i64 (p0.c.at_)] 94 (0, 0)) :: .row pv0_1 21 1 pv0_1r :: .row pv0_2 44 5 pv0_2r :: L) _ _ _ := hs
    exact ⟨true, hm, hs.sub ⟨rfl, trivial⟩⟩
   ·clear hs; have hs := hq; clear hq
    replace hm := oc_f hg15 hm
    refine syg (v := .int .i32 (x10)) hs (y_move rfl) ?_; clear hs; intro a w hs
    refine syg hs (y_eql rfl rfl) ?_; clear hs; intro a w hs
    refine sy (v := .bool (decide (x10 = 33))) hs (y_pick rfl rfl) ?_; clear hs; intro a w hs
    refine sy (v := .bool (decide (x10 = 33))) hs (y_move rfl) ?_; clear hs; intro a w hs
    refine St.split hs (t := 15) rfl (fun hg16 hq => ?_) (fun hg16 hq => ?_)
    ·clear hs; have hs := hq; clear hq
     replace hm := oc_t hg16 hm
     refine sno hs ?_; clear hs; intro a w hs
     refine sno hs ?_; clear hs; intro a w hs
     refine sy (v := .bool (true)) hs (y_pick rfl rfl) ?_; clear hs; intro a w hs
     refine sy (v := .bool (true)) hs (y_move rfl) ?_; clear hs; intro a w hs
     refine sno hs ?_; clear hs; intro a w hs
     refine sno hs ?_; clear hs; intro a w hs
     refine sy (v := .bool (true)) hs (y_pick rfl rfl) ?_; clear hs; intro a w hs
     refine sy (v := .bool (true)) hs (y_assign rfl) ?_; clear hs; intro a w hs
     refine RL_nil ?_
     replace hs : St _ _ _ (.blk pb0 (.cells #[.pointer (some ⟨pv0_0, 0, none⟩), pv0_2] 71 (0, 0)) :: .blk pv0_0 (.cells #[pv0_1, .int .i64 (p0.c.at_)] 94 (0, 0)) :: .row pv0_1 21 1 pv0_1r :: .row pv0_2 44 5 pv0_2r :: L) _ _ _ := hs
     replace hs : St _ _ _ (.blk pb0 (.cells #[.pointer (some ⟨pv0_0, 0, none⟩), pv0_2] 71 (0, 0)) :: .blk pv0_0 (.cells #[pv0_1, .int .i64 (p0.c.at_)] 94 (0, 0)) :: .row pv0_1 21 1 pv0_1r :: .row pv0_2 44 5 pv0_2r :: L) _ _ _ := hs
     exact ⟨true, hm, hs.sub ⟨rfl, trivial⟩⟩
    ·clear hs; have hs := hq; clear hq
     replace hm := oc_f hg16 hm
     refine syg (v := .int .i32 (x10)) hs (y_move rfl) ?_; clear hs; intro a w hs
     refine syg hs (y_eql rfl rfl) ?_; clear hs; intro a w hs
     refine sy (v := .bool (decide (x10 = 63))) hs (y_pick rfl rfl) ?_; clear hs; intro a w hs
     refine sy (v := .bool (decide (x10 = 63))) hs (y_move rfl) ?_; clear hs; intro a w hs
     refine St.split hs (t := 19) rfl (fun hg17 hq => ?_) (fun hg17 hq => ?_)
     ·clear hs; have hs := hq; clear hq
      replace hm := oc_t hg17 hm
      refine sno hs ?_; clear hs; intro a w hs
      refine sno hs ?_; clear hs; intro a w hs
      refine sy (v := .bool (true)) hs (y_pick rfl rfl) ?_; clear hs; intro a w hs
      refine sy (v := .bool (true)) hs (y_assign rfl) ?_; clear hs; intro a w hs
      refine RL_nil ?_
      replace hs : St _ _ _ (.blk pb0 (.cells #[.pointer (some ⟨pv0_0, 0, none⟩), pv0_2] 71 (0, 0)) :: .blk pv0_0 (.cells #[pv0_1, .int .i64 (p0.c.at_)] 94 (0, 0)) :: .row pv0_1 21 1 pv0_1r :: .row pv0_2 44 5 pv0_2r :: L) _ _ _ := hs
      replace hs : St _ _ _ (.blk pb0 (.cells #[.pointer (some ⟨pv0_0, 0, none⟩), pv0_2] 71 (0, 0)) :: .blk pv0_0 (.cells #[pv0_1, .int .i64 (p0.c.at_)] 94 (0, 0)) :: .row pv0_1 21 1 pv0_1r :: .row pv0_2 44 5 pv0_2r :: L) _ _ _ := hs
      exact ⟨true, hm, hs.sub ⟨rfl, trivial⟩⟩
     ·clear hs; have hs := hq; clear hq
      replace hm := oc_f hg17 hm
      refine syg (v := .int .i32 (x10)) hs (y_move rfl) ?_; clear hs; intro a w hs
      refine syg hs (y_eql rfl rfl) ?_; clear hs; intro a w hs
      refine sy (v := .bool (decide (x10 = 47))) hs (y_pick rfl rfl) ?_; clear hs; intro a w hs
      refine sy (v := .bool (decide (x10 = 47))) hs (y_assign rfl) ?_; clear hs; intro a w hs
      refine RL_nil ?_
      replace hs : St _ _ _ (.blk pb0 (.cells #[.pointer (some ⟨pv0_0, 0, none⟩), pv0_2] 71 (0, 0)) :: .blk pv0_0 (.cells #[pv0_1, .int .i64 (p0.c.at_)] 94 (0, 0)) :: .row pv0_1 21 1 pv0_1r :: .row pv0_2 44 5 pv0_2r :: L) _ _ _ := hs
      replace hs : St _ _ _ (.blk pb0 (.cells #[.pointer (some ⟨pv0_0, 0, none⟩), pv0_2] 71 (0, 0)) :: .blk pv0_0 (.cells #[pv0_1, .int .i64 (p0.c.at_)] 94 (0, 0)) :: .row pv0_1 21 1 pv0_1r :: .row pv0_2 44 5 pv0_2r :: L) _ _ _ := hs
      exact ⟨decide (x10 = 47), hm, hs.sub ⟨rfl, trivial⟩⟩
/-! (*casement/mark.cutter).tag$1 -/
def mark_cutter_tag_1_k1 (y1 : Bool) : Option Bool :=
  some y1
def mark_cutter_tag_1 (n : Nat) (p0 : Int) : Option Bool :=
  (mark_blank n p0).bind fun x2 =>
  (bif (!x2) then (bif (decide (p0 ≠ 47)) then mark_cutter_tag_1_k1 (decide (p0 ≠ 62)) else
  mark_cutter_tag_1_k1 false) else
  mark_cutter_tag_1_k1 false)
set_option maxRecDepth 20000 in
theorem mark_cutter_tag_1_ok (n : Nat) {f : Fz} {p0 : Int} {res : Bool}  (hm : mark_cutter_tag_1 n p0 = some res) : Gives Try.prog 68 [.int .i32 p0] f (.bool res) := by
 unfold mark_cutter_tag_1 at hm
 intro w0 L w hC
 refine enter Try.func68 rfl Try.ntmps68 (by simp) hC fun a hs => ?_
 have hle := Fz.le.refl f
 refine W_seq fun K1 hK1 => ?_
 refine W_region ?_
 refine sy (v := .bool (false)) hs (y_assign rfl) ?_; clear hs; intro a w hs
 refine RL_nil ?_
 refine hK1 _ _ ?_; clear hK1
 refine W_seq fun K2 hK2 => ?_
 refine W_post (fun a w => ∃ (y1 : Bool), mark_cutter_tag_1_k1 y1 = some res ∧ St 14 w0 f (L) [(2, .bool (y1))] a w) ?_ ?_
 ·clear hs hm
  rintro a w ⟨y1, hm, hs⟩
  replace hs : St _ _ _ (L) _ _ _ := hs
  unfold mark_cutter_tag_1_k1 at hm
  refine hK2 _ _ ?_; clear hK2
  refine W_ret ?_
  obtain rfl := Option.some.inj hm
  refine RtV1 hs rfl (rv_t hs rfl) ?_
  exact ⟨rfl, (hs.weak hle).cw⟩
 ·refine W_region ?_
  refine sy (v := .int .i32 (p0)) hs (y_move rfl) ?_; clear hs; intro a w hs
  obtain ⟨x2, hx3, hm⟩ := ob hm
  refine sy hs (y_call rfl has69 rfl (mark_blank_ok n (f := f)  hx3)) ?_; clear hs; intro a w hs
  refine sy (v := .bool ((!x2))) hs (y_not rfl) ?_; clear hs; intro a w hs
  refine sy (v := .bool ((!x2))) hs (y_move rfl) ?_; clear hs; intro a w hs
  refine St.split hs (t := 6) rfl (fun hg4 hq => ?_) (fun hg4 hq => ?_)
  ·clear hs; have hs := hq; clear hq
   replace hm := oc_t hg4 hm
   refine syg (v := .int .i32 (p0)) hs (y_move rfl) ?_; clear hs; intro a w hs
   refine syg hs (y_neq rfl rfl) ?_; clear hs; intro a w hs
   refine sy (v := .bool (decide (p0 ≠ 47))) hs (y_pick rfl rfl) ?_; clear hs; intro a w hs
   refine sy (v := .bool (decide (p0 ≠ 47))) hs (y_move rfl) ?_; clear hs; intro a w hs
   refine St.split hs (t := 10) rfl (fun hg5 hq => ?_) (fun hg5 hq => ?_)
   ·clear hs; have hs := hq; clear hq
    replace hm := oc_t hg5 hm
    refine syg (v := .int .i32 (p0)) hs (y_move rfl) ?_; clear hs; intro a w hs
    refine syg hs (y_neq rfl rfl) ?_; clear hs; intro a w hs
    refine sy (v := .bool (decide (p0 ≠ 62))) hs (y_pick rfl rfl) ?_; clear hs; intro a w hs
    refine sy (v := .bool (decide (p0 ≠ 62))) hs (y_assign rfl) ?_; clear hs; intro a w hs
    refine RL_nil ?_
    exact ⟨decide (p0 ≠ 62), hm, hs.sub ⟨rfl, trivial⟩⟩
   ·clear hs; have hs := hq; clear hq
    replace hm := oc_f hg5 hm
    refine sno hs ?_; clear hs; intro a w hs
    refine sno hs ?_; clear hs; intro a w hs
    refine sy (v := .bool (false)) hs (y_pick rfl rfl) ?_; clear hs; intro a w hs
    refine sy (v := .bool (false)) hs (y_assign rfl) ?_; clear hs; intro a w hs
    refine RL_nil ?_
    exact ⟨false, hm, hs.sub ⟨rfl, trivial⟩⟩
  ·clear hs; have hs := hq; clear hq
   replace hm := oc_f hg4 hm
   refine sno hs ?_; clear hs; intro a w hs
   refine sno hs ?_; clear hs; intro a w hs
   refine sy (v := .bool (false)) hs (y_pick rfl rfl) ?_; clear hs; intro a w hs
   refine sy (v := .bool (false)) hs (y_move rfl) ?_; clear hs; intro a w hs
   refine sno hs ?_; clear hs; intro a w hs
   refine sno hs ?_; clear hs; intro a w hs
   refine sy (v := .bool (false)) hs (y_pick rfl rfl) ?_; clear hs; intro a w hs
   refine sy (v := .bool (false)) hs (y_assign rfl) ?_; clear hs; intro a w hs
   refine RL_nil ?_
   exact ⟨false, hm, hs.sub ⟨rfl, trivial⟩⟩
/-! (*casement/mark.cutter).tag$2 -/
def mark_cutter_tag_2_k1 (y1 : Bool) : Option Bool :=
  some y1
def mark_cutter_tag_2 (n : Nat) (p0 : Int) : Option Bool :=
  (mark_blank n p0).bind fun x2 =>
  (bif (!x2) then (bif (decide (p0 ≠ 61)) then (bif (decide (p0 ≠ 47)) then mark_cutter_tag_2_k1 (decide (p0 ≠ 62)) else
  mark_cutter_tag_2_k1 false) else
  mark_cutter_tag_2_k1 false) else
  mark_cutter_tag_2_k1 false)
set_option maxRecDepth 20000 in
theorem mark_cutter_tag_2_ok (n : Nat) {f : Fz} {p0 : Int} {res : Bool}  (hm : mark_cutter_tag_2 n p0 = some res) : Gives Try.prog 70 [.int .i32 p0] f (.bool res) := by
 unfold mark_cutter_tag_2 at hm
 intro w0 L w hC
 refine enter Try.func70 rfl Try.ntmps70 (by simp) hC fun a hs => ?_
 have hle := Fz.le.refl f
 refine W_seq fun K1 hK1 => ?_
 refine W_region ?_
 refine sy (v := .bool (false)) hs (y_assign rfl) ?_; clear hs; intro a w hs
 refine RL_nil ?_
 refine hK1 _ _ ?_; clear hK1
 refine W_seq fun K2 hK2 => ?_
 refine W_post (fun a w => ∃ (y1 : Bool), mark_cutter_tag_2_k1 y1 = some res ∧ St 18 w0 f (L) [(2, .bool (y1))] a w) ?_ ?_
 ·clear hs hm
  rintro a w ⟨y1, hm, hs⟩
  replace hs : St _ _ _ (L) _ _ _ := hs
  unfold mark_cutter_tag_2_k1 at hm
  refine hK2 _ _ ?_; clear hK2
  refine W_ret ?_
  obtain rfl := Option.some.inj hm
  refine RtV1 hs rfl (rv_t hs rfl) ?_
  exact ⟨rfl, (hs.weak hle).cw⟩
 ·refine W_region ?_
  refine sy (v := .int .i32 (p0)) hs (y_move rfl) ?_; clear hs; intro a w hs
  obtain ⟨x2, hx3, hm⟩ := ob hm
  refine sy hs (y_call rfl has69 rfl (mark_blank_ok n (f := f)  hx3)) ?_; clear hs; intro a w hs
  refine sy (v := .bool ((!x2))) hs (y_not rfl) ?_; clear hs; intro a w hs
  refine sy (v := .bool ((!x2))) hs (y_move rfl) ?_; clear hs; intro a w hs
  refine St.split hs (t := 6) rfl (fun hg4 hq => ?_) (fun hg4 hq => ?_)
  ·clear hs; have hs := hq; clear hq
   replace hm := oc_t hg4 hm
   refine syg (v := .int .i32 (p0)) hs (y_move rfl) ?_; clear hs; intro a w hs
   refine syg hs (y_neq rfl rfl) ?_; clear hs; intro a w hs
   refine sy (v := .bool (decide (p0 ≠ 61))) hs (y_pick rfl rfl) ?_; clear hs; intro a w hs
   refine sy (v := .bool (decide (p0 ≠ 61))) hs (y_move rfl) ?_; clear hs; intro a w hs
   refine St.split hs (t := 10) rfl (fun hg5 hq => ?_) (fun hg5 hq => ?_)
   ·clear hs; have hs := hq; clear hq
    replace hm := oc_t hg5 hm
    refine syg (v := .int .i32 (p0)) hs (y_move rfl) ?_; clear hs; intro a w hs
    refine syg hs (y_neq rfl rfl) ?_; clear hs; intro a w hs
    refine sy (v := .bool (decide (p0 ≠ 47))) hs (y_pick rfl rfl) ?_; clear hs; intro a w hs
    refine sy (v := .bool (decide (p0 ≠ 47))) hs (y_move rfl) ?_; clear hs; intro a w hs
    refine St.split hs (t := 14) rfl (fun hg6 hq => ?_) (fun hg6 hq => ?_)
    ·clear hs; have hs := hq; clear hq
     replace hm := oc_t hg6 hm
     refine syg (v := .int .i32 (p0)) hs (y_move rfl) ?_; clear hs; intro a w hs
     refine syg hs (y_neq rfl rfl) ?_; clear hs; intro a w hs
     refine sy (v := .bool (decide (p0 ≠ 62))) hs (y_pick rfl rfl) ?_; clear hs; intro a w hs
     refine sy (v := .bool (decide (p0 ≠ 62))) hs (y_assign rfl) ?_; clear hs; intro a w hs
     refine RL_nil ?_
     exact ⟨decide (p0 ≠ 62), hm, hs.sub ⟨rfl, trivial⟩⟩
    ·clear hs; have hs := hq; clear hq
     replace hm := oc_f hg6 hm
     refine sno hs ?_; clear hs; intro a w hs
     refine sno hs ?_; clear hs; intro a w hs
     refine sy (v := .bool (false)) hs (y_pick rfl rfl) ?_; clear hs; intro a w hs
     refine sy (v := .bool (false)) hs (y_assign rfl) ?_; clear hs; intro a w hs
     refine RL_nil ?_
     exact ⟨false, hm, hs.sub ⟨rfl, trivial⟩⟩
   ·clear hs; have hs := hq; clear hq
    replace hm := oc_f hg5 hm
    refine sno hs ?_; clear hs; intro a w hs
    refine sno hs ?_; clear hs; intro a w hs
    refine sy (v := .bool (false)) hs (y_pick rfl rfl) ?_; clear hs; intro a w hs
    refine sy (v := .bool (false)) hs (y_move rfl) ?_; clear hs; intro a w hs
    refine sno hs ?_; clear hs; intro a w hs
    refine sno hs ?_; clear hs; intro a w hs
    refine sy (v := .bool (false)) hs (y_pick rfl rfl) ?_; clear hs; intro a w hs
    refine sy (v := .bool (false)) hs (y_assign rfl) ?_; clear hs; intro a w hs
    refine RL_nil ?_
    exact ⟨false, hm, hs.sub ⟨rfl, trivial⟩⟩
  ·clear hs; have hs := hq; clear hq
   replace hm := oc_f hg4 hm
   refine sno hs ?_; clear hs; intro a w hs
   refine sno hs ?_; clear hs; intro a w hs
   refine sy (v := .bool (false)) hs (y_pick rfl rfl) ?_; clear hs; intro a w hs
   refine sy (v := .bool (false)) hs (y_move rfl) ?_; clear hs; intro a w hs
   refine sno hs ?_; clear hs; intro a w hs
   refine sno hs ?_; clear hs; intro a w hs
   refine sy (v := .bool (false)) hs (y_pick rfl rfl) ?_; clear hs; intro a w hs
   refine sy (v := .bool (false)) hs (y_move rfl) ?_; clear hs; intro a w hs
   refine sno hs ?_; clear hs; intro a w hs
   refine sno hs ?_; clear hs; intro a w hs
   refine sy (v := .bool (false)) hs (y_pick rfl rfl) ?_; clear hs; intro a w hs
   refine sy (v := .bool (false)) hs (y_assign rfl) ?_; clear hs; intro a w hs
   refine RL_nil ?_
   exact ⟨false, hm, hs.sub ⟨rfl, trivial⟩⟩
/-! (*casement/mark.cutter).value$1 -/
def mark_cutter_value_1_k1 (y1 : Bool) : Option Bool :=
  some y1
def mark_cutter_value_1 (n : Nat) (p0 : Int) : Option Bool :=
  (mark_blank n p0).bind fun x2 =>
  (bif (!x2) then mark_cutter_value_1_k1 (decide (p0 ≠ 62)) else
  mark_cutter_value_1_k1 false)
set_option maxRecDepth 20000 in
theorem mark_cutter_value_1_ok (n : Nat) {f : Fz} {p0 : Int} {res : Bool}  (hm : mark_cutter_value_1 n p0 = some res) : Gives Try.prog 81 [.int .i32 p0] f (.bool res) := by
 unfold mark_cutter_value_1 at hm
 intro w0 L w hC
 refine enter Try.func81 rfl Try.ntmps81 (by simp) hC fun a hs => ?_
 have hle := Fz.le.refl f
 refine W_seq fun K1 hK1 => ?_
 refine W_region ?_
 refine sy (v := .bool (false)) hs (y_assign rfl) ?_; clear hs; intro a w hs
 refine RL_nil ?_
 refine hK1 _ _ ?_; clear hK1
 refine W_seq fun K2 hK2 => ?_
 refine W_post (fun a w => ∃ (y1 : Bool), mark_cutter_value_1_k1 y1 = some res ∧ St 10 w0 f (L) [(2, .bool (y1))] a w) ?_ ?_
 ·clear hs hm
  rintro a w ⟨y1, hm, hs⟩
  replace hs : St _ _ _ (L) _ _ _ := hs
  unfold mark_cutter_value_1_k1 at hm
  refine hK2 _ _ ?_; clear hK2
  refine W_ret ?_
  obtain rfl := Option.some.inj hm
  refine RtV1 hs rfl (rv_t hs rfl) ?_
  exact ⟨rfl, (hs.weak hle).cw⟩
 ·refine W_region ?_
  refine sy (v := .int .i32 (p0)) hs (y_move rfl) ?_; clear hs; intro a w hs
  obtain ⟨x2, hx3, hm⟩ := ob hm
  refine sy hs (y_call rfl has69 rfl (mark_blank_ok n (f := f)  hx3)) ?_; clear hs; intro a w hs
  refine sy (v := .bool ((!x2))) hs (y_not rfl) ?_; clear hs; intro a w hs
  refine sy (v := .bool ((!x2))) hs (y_move rfl) ?_; clear hs; intro a w hs
  refine St.split hs (t := 6) rfl (fun hg4 hq => ?_) (fun hg4 hq => ?_)
  ·clear hs; have hs := hq; clear hq
   replace hm := oc_t hg4 hm
   refine syg (v := .int .i32 (p0)) hs (y_move rfl) ?_; clear hs; intro a w hs
   refine syg hs (y_neq rfl rfl) ?_; clear hs; intro a w hs
   refine sy (v := .bool (decide (p0 ≠ 62))) hs (y_pick rfl rfl) ?_; clear hs; intro a w hs
   refine sy (v := .bool (decide (p0 ≠ 62))) hs (y_assign rfl) ?_; clear hs; intro a w hs
   refine RL_nil ?_
   exact ⟨decide (p0 ≠ 62), hm, hs.sub ⟨rfl, trivial⟩⟩
  ·clear hs; have hs := hq; clear hq
   replace hm := oc_f hg4 hm
   refine sno hs ?_; clear hs; intro a w hs
   refine sno hs ?_; clear hs; intro a w hs
   refine sy (v := .bool (false)) hs (y_pick rfl rfl) ?_; clear hs; intro a w hs
   refine sy (v := .bool (false)) hs (y_assign rfl) ?_; clear hs; intro a w hs
   refine RL_nil ?_
   exact ⟨false, hm, hs.sub ⟨rfl, trivial⟩⟩
/-! (*casement/mark.cutter).value$2 -/
def mark_cutter_value_2 (_n : Nat) (p0 : Int) (q0 : Int) : Option Bool :=
  some (decide (p0 ≠ q0))
set_option maxRecDepth 20000 in
theorem mark_cutter_value_2_ok (n : Nat) {f : Fz} {p0 : Int} {cb0 : Nat} {q0 : Int} {ca0 : List Value} {res : Bool} (hq0 : (tInt .i32).R f ca0 q0) (hc0 : f cb0 = some (.cells ca0.toArray 21 (0, 0))) (hm : mark_cutter_value_2 n p0 q0 = some res) : Gives Try.prog 82 [.int .i32 p0, .pointer (some ⟨cb0, 0, none⟩)] f (.bool res) := by
 unfold mark_cutter_value_2 at hm
 intro w0 L w hC
 obtain rfl : _ = ([.int .i32 (q0)] : List Value) := hq0
 refine enter Try.func82 rfl Try.ntmps82 (by simp) hC fun a hs => ?_
 have hle := Fz.le.refl f
 refine W_seq fun K1 hK1 => ?_
 refine W_region ?_
 refine sy (v := .bool (false)) hs (y_assign rfl) ?_; clear hs; intro a w hs
 refine RL_nil ?_
 refine hK1 _ _ ?_; clear hK1
 refine W_seq fun K2 hK2 => ?_
 refine W_region ?_
 refine sy (v := .int .i32 (p0)) hs (y_move rfl) ?_; clear hs; intro a w hs
 refine sy (v := .int .i32 (q0)) hs (y_ld rfl Try.underlying21 rfl (Cell.fz hc0 rfl)) ?_; clear hs; intro a w hs
 refine sy hs (y_neq rfl rfl) ?_; clear hs; intro a w hs
 refine sy (v := .bool (decide (p0 ≠ q0))) hs (y_assign rfl) ?_; clear hs; intro a w hs
 refine RL_nil ?_
 refine hK2 _ _ ?_; clear hK2
 refine W_ret ?_
 obtain rfl := Option.some.inj hm
 refine RtV1 hs rfl (rv_t hs rfl) ?_
 exact ⟨rfl, (hs.weak hle).cw⟩
/-! (*casement/mark.cutter).while -/
def mark_cutter_while_k1 (p0 : mark_cutter) (y14 : (List Int)) (y19 : (List Int)) (y24 : Int) : Option ((List Int) × mark_cutter) :=
  some (y14, ({c := ({l := y19, at_ := y24} : source_Cursor_rune_), out := p0.out} : mark_cutter))
def mark_cutter_while_k3 (n : Nat) (p0 : mark_cutter) (y31 : (List Int)) (y36 : Int) (y38 : (List Int)) (y43 : Int) (lp49 : (List Int) → Int → (List Int) → Int → Bool → Option ((List Int) × mark_cutter)) (y51 : Bool) : Option ((List Int) × mark_cutter) :=
  (bif y51 then (appM 4 y38 [y43]).bind fun x58 =>
  (source_Cursor_rune_Next n ({l := y31, at_ := y36} : source_Cursor_rune_)).bind fun x64 =>
  (source_Cursor_rune_Peek n x64.2.2 0).bind fun x72 =>
  lp49 x64.2.2.l x64.2.2.at_ x58 x72.1 x72.2 else
  mark_cutter_while_k1 p0 y38 y31 y36)
def mark_cutter_while_l2 (n : Nat) (p0 : mark_cutter) (p1 : (Int → Option Bool)) : Nat → (List Int) → Int → (List Int) → Int → Bool → Option ((List Int) × mark_cutter)
  | 0, _, _, _, _, _ => none
  | k49 + 1, y31, y36, y38, y43, y44 =>
  (bif y44 then (p1 y43).bind fun x75 =>
  mark_cutter_while_k3 n p0 y31 y36 y38 y43 (mark_cutter_while_l2 n p0 p1 k49) x75 else
  mark_cutter_while_k3 n p0 y31 y36 y38 y43 (mark_cutter_while_l2 n p0 p1 k49) false)
def mark_cutter_while (n : Nat) (p0 : mark_cutter) (p1 : (Int → Option Bool)) : Option ((List Int) × mark_cutter) :=
  (source_Cursor_rune_Peek n p0.c 0).bind fun x9 =>
  mark_cutter_while_l2 n p0 p1 n p0.c.l p0.c.at_ ([] : List Int) x9.1 x9.2
set_option maxRecDepth 20000 in
theorem mark_cutter_while_ok (n : Nat) {Q : LQ} {f : Fz} {p0 : mark_cutter} {pb0 : Nat} {pv0_0 : Nat} {pv0_1 : Value} {pv0_1r : List (List Value)} {pv0_2 : Value} {pv0_2r : List (List Value)} {p1 : (Int → Option Bool)} {g1 : FuncId} {cap1 : List Value} {res : ((List Int) × mark_cutter)} (pv0_1h : RW (tInt .i32) f pv0_1r p0.c.l) (pv0_2h : Q.R f pv0_2r p0.out) (hg1 : Has Try.prog g1) (hf1 : ∀ f', Fz.le f f' → ∀ (z0 : Int) (r : Bool), p1 z0 = some r → Gives Try.prog g1 ([.int .i32 z0] ++ cap1) f' (.bool r)) (hm : mark_cutter_while n p0 p1 = some res) : Does Try.prog 67 [.pointer (some ⟨pb0, 0, none⟩), .func (.func g1) #[] cap1.toArray] f [.blk pb0 (.cells #[.pointer (some ⟨pv0_0, 0, none⟩), pv0_2] 71 (0, 0)), .blk pv0_0 (.cells #[pv0_1, .int .i64 p0.c.at_] 94 (0, 0)), .row pv0_1 21 1 pv0_1r, .row pv0_2 44 5 pv0_2r] (fun r f' L' => ∃ (u0 : Value) (dp0_1 : Value) (dp0_1r : List (List Value)) (dp0_2 : Value) (dp0_2r : List (List Value)), L' = [.blk pb0 (.cells #[.pointer (some ⟨pv0_0, 0, none⟩), dp0_2] 71 (0, 0)), .blk pv0_0 (.cells #[dp0_1, .int .i64 res.2.c.at_] 94 (0, 0)), .row dp0_1 21 1 dp0_1r, .row dp0_2 44 5 dp0_2r] ∧ r = u0 ∧ RS (tInt .i32) f' u0 res.1 ∧ RW (tInt .i32) f' dp0_1r res.2.c.l ∧ Q.R f' dp0_2r res.2.out) := by
 unfold mark_cutter_while at hm
 intro w0 L w hC
 replace hC : Cw w0 f (.blk pb0 (.cells #[.pointer (some ⟨pv0_0, 0, none⟩), pv0_2] 71 (0, 0)) :: .blk pv0_0 (.cells #[pv0_1, .int .i64 p0.c.at_] 94 (0, 0)) :: .row pv0_1 21 1 pv0_1r :: .row pv0_2 44 5 pv0_2r :: L) w := hC
 refine enter Try.func67 rfl Try.ntmps67 (by simp) hC fun a hs => ?_
 have hle := Fz.le.refl f
 refine W_seq fun K1 hK1 => ?_
 refine W_region ?_
 refine sy (v := (.slice none 0 0)) hs (y_assign rfl) ?_; clear hs; intro a w hs
 refine RL_nil ?_
 refine hK1 _ _ ?_; clear hK1
 refine W_seq fun K2 hK2 => ?_
 refine W_region ?_
 refine sy (v := (.slice none 0 0)) hs (y_assign rfl) ?_; clear hs; intro a w hs
 refine RL_nil ?_
 refine hK2 _ _ ?_; clear hK2
 refine W_seq fun K3 hK3 => ?_
 refine W_seq fun K4 hK4 => ?_
 refine W_region ?_
 refine sy (v := .pointer (some ⟨pb0, 0, none⟩)) hs (y_move rfl) ?_; clear hs; intro a w hs
 refine sy hs (y_nilCheck rfl) ?_; clear hs; intro a w hs
 refine sy (v := .pointer (some ⟨pb0, 0, none⟩)) hs (y_fieldAddr rfl (FO.of (off := 0) Try.underlying71 rfl rfl ti68 (by decide))) ?_; clear hs; intro a w hs
 refine sy (v := .pointer (some ⟨pv0_0, 0, none⟩)) hs (y_ld rfl Try.underlying68 rfl (Cell.blk (.head _) rfl)) ?_; clear hs; intro a w hs
 obtain ⟨x9, hx10, hm⟩ := ob hm
 refine sy hs (y_callR (cap := []) (Lf := .blk pb0 (.cells #[.pointer (some ⟨pv0_0, 0, none⟩), pv0_2] 71 (0, 0)) :: .row pv0_2 44 5 pv0_2r :: L) rfl has65 rfl ((perm_at _ 2 rfl).trans (perm_at _ 2 rfl)) (source_Cursor_rune_Peek_ok n (f := f) (p0 := p0.c) (pb0 := pv0_0) (pv0_0 := pv0_1) (pv0_0r := pv0_1r) (p1 := 0) pv0_1h hx10)) ?_; clear hs; intro a w hs
 refine sy (v := .tuple #[.int .i32 (x9.1), .bool (x9.2)]) hs (y_move rfl) ?_; clear hs; intro a w hs
 refine sy (v := .int .i32 (x9.1)) hs (y_extract rfl rfl) ?_; clear hs; intro a w hs
 refine sy (v := .bool (x9.2)) hs (y_extract rfl rfl) ?_; clear hs; intro a w hs
 refine sy (v := .int .i32 (x9.1)) hs (y_assign rfl) ?_; clear hs; intro a w hs
 refine sy (v := .bool (x9.2)) hs (y_assign rfl) ?_; clear hs; intro a w hs
 refine RL_nil ?_
 refine hK4 _ _ ?_; clear hK4
 have hbase25 := Fz.le.refl f
 refine W_post (fun a w => ∃ (f11 : Fz) (y14 : (List Int)) (y19 : (List Int)) (y24 : Int) (v15 : Value) (rw16 : List (List Value)) (v20 : Value) (rw21 : List (List Value)), Fz.le f f11 ∧ mark_cutter_while_k1 p0 y14 y19 y24 = some res ∧ RW (tInt .i32) f11 rw16 y14 ∧ RW (tInt .i32) f11 rw21 y19 ∧ St 40 w0 f11 (.row v15 21 1 rw16 :: .blk pb0 (.cells #[.pointer (some ⟨pv0_0, 0, none⟩), pv0_2] 71 (0, 0)) :: .blk pv0_0 (.cells #[v20, .int .i64 (y24)] 94 (0, 0)) :: .row v20 21 1 rw21 :: .row pv0_2 44 5 pv0_2r :: L) [(5, v15)] a w) ?_ ?_
 ·clear hs hm
  clear hbase25
  rintro a w ⟨f11, y14, y19, y24, v15, rw16, v20, rw21, hl12, hm, hW17, hW22, hs⟩
  replace pv0_1h := pv0_1h.le hl12
  replace pv0_2h := pv0_2h.le hl12
  replace hf1 := fun f'' h'' => hf1 f'' (hl12.trans h'')
  replace hle := hle.trans hl12
  replace hs : St _ _ _ (.row v15 21 1 rw16 :: .blk pb0 (.cells #[.pointer (some ⟨pv0_0, 0, none⟩), pv0_2] 71 (0, 0)) :: .blk pv0_0 (.cells #[v20, .int .i64 (y24)] 94 (0, 0)) :: .row v20 21 1 rw21 :: .row pv0_2 44 5 pv0_2r :: L) _ _ _ := hs
  unfold mark_cutter_while_k1 at hm
  refine hK3 _ _ ?_; clear hK3
  refine W_seq fun K5 hK5 => ?_
  refine W_region ?_
  refine sy (v := v15) hs (y_move rfl) ?_; clear hs; intro a w hs
  refine sy (v := v15) hs (y_assign rfl) ?_; clear hs; intro a w hs
  refine RL_nil ?_
  refine hK5 _ _ ?_; clear hK5
  refine W_ret ?_
  obtain ⟨f26, hf27, hs2, hR28⟩ := hs.frzAt 0 rfl
  clear hs; have hs := hs2; clear hs2
  replace pv0_2h := pv0_2h.le hf27
  replace hf1 := fun f'' h'' => hf1 f'' (hf27.trans h'')
  replace hW17 := hW17.le hf27
  replace hW22 := hW22.le hf27
  replace hle := hle.trans hf27
  replace hs : St _ _ _ (.blk pb0 (.cells #[.pointer (some ⟨pv0_0, 0, none⟩), pv0_2] 71 (0, 0)) :: .blk pv0_0 (.cells #[v20, .int .i64 (y24)] 94 (0, 0)) :: .row v20 21 1 rw21 :: .row pv0_2 44 5 pv0_2r :: L) _ _ _ := hs
  obtain rfl := Option.some.inj hm
  refine RtV1 hs rfl (rv_t hs rfl) ?_
  exact ⟨_, f26, [.blk pb0 (.cells #[.pointer (some ⟨pv0_0, 0, none⟩), pv0_2] 71 (0, 0)), .blk pv0_0 (.cells #[v20, .int .i64 (y24)] 94 (0, 0)), .row v20 21 1 rw21, .row pv0_2 44 5 pv0_2r], rfl, hle, hs.cw, v15, v20, rw21, pv0_2, pv0_2r, rfl, rfl, ⟨rw16, hR28, hW17⟩, hW22, pv0_2h⟩
 ·refine W_block fun Qe6 hB6 hO6 => ?_
  have hbase := Fz.le.refl f
  replace hs : St _ _ _ (.blk pb0 (.cells #[.pointer (some ⟨pv0_0, 0, none⟩), pv0_2] 71 (0, 0)) :: .blk pv0_0 (.cells #[pv0_1, .int .i64 (p0.c.at_)] 94 (0, 0)) :: .row pv0_1 21 1 pv0_1r :: .row pv0_2 44 5 pv0_2r :: L) _ _ _ := hs
  replace hs : St _ _ _ (.blk pb0 (.cells #[.pointer (some ⟨pv0_0, 0, none⟩), pv0_2] 71 (0, 0)) :: .blk pv0_0 (.cells #[pv0_1, .int .i64 (p0.c.at_)] 94 (0, 0)) :: .row pv0_1 21 1 pv0_1r :: .row pv0_2 44 5 pv0_2r :: L) _ _ _ := hs
  replace hs := hs.nilRow 21 1
  have hW45 : RW (tInt .i32) f [] ([] : List Int) := trivial
  generalize hgrw46 : ([] : List (List Value)) = rw46 at hs hW45; clear hgrw46
  replace hs : St _ _ _ (.row (.slice none 0 0) 21 1 rw46 :: .blk pb0 (.cells #[.pointer (some ⟨pv0_0, 0, none⟩), pv0_2] 71 (0, 0)) :: .blk pv0_0 (.cells #[pv0_1, .int .i64 (p0.c.at_)] 94 (0, 0)) :: .row pv0_1 21 1 pv0_1r :: .row pv0_2 44 5 pv0_2r :: L) _ _ _ := hs
  refine W_loop (fun (k : Nat) a w => ∃ (f29 : Fz) (y31 : (List Int)) (y36 : Int) (y38 : (List Int)) (y43 : Int) (y44 : Bool) (v32 : Value) (rw33 : List (List Value)) (v39 : Value) (rw40 : List (List Value)), Fz.le f f29 ∧ mark_cutter_while_l2 n p0 p1 k y31 y36 y38 y43 y44 = some res ∧ RW (tInt .i32) f29 rw33 y31 ∧ RW (tInt .i32) f29 rw40 y38 ∧ St 40 w0 f29 (.row v39 21 1 rw40 :: .blk pb0 (.cells #[.pointer (some ⟨pv0_0, 0, none⟩), pv0_2] 71 (0, 0)) :: .blk pv0_0 (.cells #[v32, .int .i64 (y36)] 94 (0, 0)) :: .row v32 21 1 rw33 :: .row pv0_2 44 5 pv0_2r :: L) [(0, .pointer (some ⟨pb0, 0, none⟩)), (1, .func (.func g1) #[] cap1.toArray), (5, v39), (6, .int .i32 (y43)), (7, .bool (y44))] a w) (fun k => k) n ⟨_, p0.c.l, p0.c.at_, ([] : List Int), x9.1, x9.2, pv0_1, pv0_1r, (.slice none 0 0), rw46, (Fz.le.refl _), hm, pv0_1h, hW45, hs.sub ⟨rfl, rfl, rfl, rfl, rfl, trivial⟩⟩ ?_
  clear hs hm
  intro k
  rintro a w ⟨f29, y31, y36, y38, y43, y44, v32, rw33, v39, rw40, hl30, hm, hW34, hW41, hs⟩
  replace pv0_1h := pv0_1h.le hl30
  replace pv0_2h := pv0_2h.le hl30
  replace hf1 := fun f'' h'' => hf1 f'' (hl30.trans h'')
  replace hle := hle.trans hl30
  replace hbase25 := hbase25.trans hl30
  replace hs : St _ _ _ (.row v39 21 1 rw40 :: .blk pb0 (.cells #[.pointer (some ⟨pv0_0, 0, none⟩), pv0_2] 71 (0, 0)) :: .blk pv0_0 (.cells #[v32, .int .i64 (y36)] 94 (0, 0)) :: .row v32 21 1 rw33 :: .row pv0_2 44 5 pv0_2r :: L) _ _ _ := hs
  intro K7 hK7
  cases k with
  | zero => simp [mark_cutter_while_l2] at hm
  | succ k49 =>
   rw [mark_cutter_while_l2] at hm
   have hbase50 := hl30
   refine W_seq fun K8 hK8 => ?_
   refine W_seq fun K9 hK9 => ?_
   refine W_post (fun a w => ∃ (y51 : Bool), mark_cutter_while_k3 n p0 y31 y36 y38 y43 (mark_cutter_while_l2 n p0 p1 k49) y51 = some res ∧ St 40 w0 f29 (.row v39 21 1 rw40 :: .blk pb0 (.cells #[.pointer (some ⟨pv0_0, 0, none⟩), pv0_2] 71 (0, 0)) :: .blk pv0_0 (.cells #[v32, .int .i64 (y36)] 94 (0, 0)) :: .row v32 21 1 rw33 :: .row pv0_2 44 5 pv0_2r :: L) [(0, .pointer (some ⟨pb0, 0, none⟩)), (1, .func (.func g1) #[] cap1.toArray), (5, v39), (6, .int .i32 (y43)), (21, .bool (y51))] a w) ?_ ?_
   ·clear hs hm
    rintro a w ⟨y51, hm, hs⟩
    replace hs : St _ _ _ (.row v39 21 1 rw40 :: .blk pb0 (.cells #[.pointer (some ⟨pv0_0, 0, none⟩), pv0_2] 71 (0, 0)) :: .blk pv0_0 (.cells #[v32, .int .i64 (y36)] 94 (0, 0)) :: .row v32 21 1 rw33 :: .row pv0_2 44 5 pv0_2r :: L) _ _ _ := hs
    unfold mark_cutter_while_k3 at hm
    refine hK9 _ _ ?_; clear hK9
    refine W_cond hs rfl (fun hg52 => ?_) (fun hg52 => ?_)
    ·replace hm := oc_t hg52 hm
     refine W_skip ?_
     refine hK8 _ _ ?_; clear hK8
     refine W_seq fun K10 hK10 => ?_
     refine W_block fun Qe11 hB11 hO11 => ?_
     refine W_seq fun K12 hK12 => ?_
     refine W_region ?_
     refine sy (v := v39) hs (y_move rfl) ?_; clear hs; intro a w hs
     refine sy (v := .int .i32 (y43)) hs (y_move rfl) ?_; clear hs; intro a w hs
     refine RL_bs1s hs rfl Try.underlying32 ti21 rfl rfl ?_; clear hs; intro v53 a w hs
     have hW54 : RW (tInt .i32) f29 [[.int .i32 (y43)]] [y43] := RW.single (rfl)
     generalize hgrw55 : ([[.int .i32 (y43)]] : List (List Value)) = rw55 at hs hW54; clear hgrw55
     replace hs : St _ _ _ (.row v53 21 1 rw55 :: .row v39 21 1 rw40 :: .blk pb0 (.cells #[.pointer (some ⟨pv0_0, 0, none⟩), pv0_2] 71 (0, 0)) :: .blk pv0_0 (.cells #[v32, .int .i64 (y36)] 94 (0, 0)) :: .row v32 21 1 rw33 :: .row pv0_2 44 5 pv0_2r :: L) _ _ _ := hs
     obtain ⟨x58, hx59, hm⟩ := ob hm
     obtain ⟨hbx58, hex58⟩ := appM_some hx59
     have hW62 := hW41.append hW54; rw [hex58] at hW62
     refine RL_append (i := 1) hs rfl rfl rfl (Rd.st hs (.head _)) Try.underlying32 ti21 (by decide) (by rw [RW.len hW41, RW.len hW54]; exact hbx58) (.free rfl) (by decide) ?_; clear hs; intro v60 a w hs
     generalize hgx58 : rw40 ++ rw55 = rw61 at hs hW62; clear hgx58
     replace hs := hs.erase 0
     replace hs : St _ _ _ (.row v60 21 1 rw61 :: .blk pb0 (.cells #[.pointer (some ⟨pv0_0, 0, none⟩), pv0_2] 71 (0, 0)) :: .blk pv0_0 (.cells #[v32, .int .i64 (y36)] 94 (0, 0)) :: .row v32 21 1 rw33 :: .row pv0_2 44 5 pv0_2r :: L) _ _ _ := hs
     refine sy (v := v60) hs (y_assign rfl) ?_; clear hs; intro a w hs
     refine RL_nil ?_
     refine hK12 _ _ ?_; clear hK12
     refine W_region ?_
     refine sy (v := .pointer (some ⟨pb0, 0, none⟩)) hs (y_move rfl) ?_; clear hs; intro a w hs
     refine sy hs (y_nilCheck rfl) ?_; clear hs; intro a w hs
     refine sy (v := .pointer (some ⟨pb0, 0, none⟩)) hs (y_fieldAddr rfl (FO.of (off := 0) Try.underlying71 rfl rfl ti68 (by decide))) ?_; clear hs; intro a w hs
     refine sy (v := .pointer (some ⟨pv0_0, 0, none⟩)) hs (y_ld rfl Try.underlying68 rfl (Cell.blk (.tail _ (.head _)) rfl)) ?_; clear hs; intro a w hs
     obtain ⟨x64, hx65, hm⟩ := ob hm
     replace hs := hs.front 3
     replace hs := hs.front 3
     replace hs : St _ _ _ (.blk pv0_0 (.cells #[v32, .int .i64 (y36)] 94 (0, 0)) :: .row v32 21 1 rw33 :: .row v60 21 1 rw61 :: .blk pb0 (.cells #[.pointer (some ⟨pv0_0, 0, none⟩), pv0_2] 71 (0, 0)) :: .row pv0_2 44 5 pv0_2r :: L) _ _ _ := hs
     refine RL_call (Lr := [.blk pv0_0 (.cells #[v32, .int .i64 (y36)] 94 (0, 0)), .row v32 21 1 rw33]) (Lf := .row v60 21 1 rw61 :: .blk pb0 (.cells #[.pointer (some ⟨pv0_0, 0, none⟩), pv0_2] 71 (0, 0)) :: .row pv0_2 44 5 pv0_2r :: L) hs rfl has47 rfl rfl (source_Cursor_rune_Next_ok n (f := f29) (p0 := ({l := y31, at_ := y36} : source_Cursor_rune_)) (pb0 := pv0_0) (pv0_0 := v32) (pv0_0r := rw33) hW34 hx65) (.free rfl) (by decide) ?_; clear hs
     rintro _ f66 _ a w hf67 ⟨v68, rw69, rfl, rfl, hW70⟩ hs
     replace pv0_1h := pv0_1h.le hf67
     replace pv0_2h := pv0_2h.le hf67
     replace hf1 := fun f'' h'' => hf1 f'' (hf67.trans h'')
     replace hW34 := hW34.le hf67
     replace hW41 := hW41.le hf67
     replace hW54 := hW54.le hf67
     replace hW62 := hW62.le hf67
     replace hle := hle.trans hf67
     replace hbase25 := hbase25.trans hf67
     replace hbase50 := hbase50.trans hf67
     replace hs : St _ _ _ (.blk pv0_0 (.cells #[v68, .int .i64 (x64.2.2.at_)] 94 (0, 0)) :: .row v68 21 1 rw69 :: .row v60 21 1 rw61 :: .blk pb0 (.cells #[.pointer (some ⟨pv0_0, 0, none⟩), pv0_2] 71 (0, 0)) :: .row pv0_2 44 5 pv0_2r :: L) _ _ _ := hs
     refine RL_nil ?_
     refine hK10 _ _ ?_; clear hK10
     refine W_region ?_
     refine sy (v := .pointer (some ⟨pb0, 0, none⟩)) hs (y_move rfl) ?_; clear hs; intro a w hs
     refine sy hs (y_nilCheck rfl) ?_; clear hs; intro a w hs
     refine sy (v := .pointer (some ⟨pb0, 0, none⟩)) hs (y_fieldAddr rfl (FO.of (off := 0) Try.underlying71 rfl rfl ti68 (by decide))) ?_; clear hs; intro a w hs
     refine sy (v := .pointer (some ⟨pv0_0, 0, none⟩)) hs (y_ld rfl Try.underlying68 rfl (Cell.blk (.tail _ (.tail _ (.tail _ (.head _)))) rfl)) ?_; clear hs; intro a w hs
     obtain ⟨x72, hx73, hm⟩ := ob hm
     refine sy hs (y_callR (cap := []) (Lf := .row v60 21 1 rw61 :: .blk pb0 (.cells #[.pointer (some ⟨pv0_0, 0, none⟩), pv0_2] 71 (0, 0)) :: .row pv0_2 44 5 pv0_2r :: L) rfl has65 rfl ((perm_at _ 1 rfl).trans (perm_at _ 1 rfl)) (source_Cursor_rune_Peek_ok n (f := f66) (p0 := x64.2.2) (pb0 := pv0_0) (pv0_0 := v68) (pv0_0r := rw69) (p1 := 0) hW70 hx73)) ?_; clear hs; intro a w hs
     refine sy (v := .tuple #[.int .i32 (x72.1), .bool (x72.2)]) hs (y_move rfl) ?_; clear hs; intro a w hs
     refine sy (v := .int .i32 (x72.1)) hs (y_extract rfl rfl) ?_; clear hs; intro a w hs
     refine sy (v := .bool (x72.2)) hs (y_extract rfl rfl) ?_; clear hs; intro a w hs
     refine sy (v := .int .i32 (x72.1)) hs (y_assign rfl) ?_; clear hs; intro a w hs
     refine sy (v := .bool (x72.2)) hs (y_assign rfl) ?_; clear hs; intro a w hs
     refine RL_nil ?_
     replace hs : St _ _ _ (.blk pv0_0 (.cells #[v68, .int .i64 (x64.2.2.at_)] 94 (0, 0)) :: .row v68 21 1 rw69 :: .row v60 21 1 rw61 :: .blk pb0 (.cells #[.pointer (some ⟨pv0_0, 0, none⟩), pv0_2] 71 (0, 0)) :: .row pv0_2 44 5 pv0_2r :: L) _ _ _ := hs
     replace hs : St _ _ _ (.blk pv0_0 (.cells #[v68, .int .i64 (x64.2.2.at_)] 94 (0, 0)) :: .row v68 21 1 rw69 :: .row v60 21 1 rw61 :: .blk pb0 (.cells #[.pointer (some ⟨pv0_0, 0, none⟩), pv0_2] 71 (0, 0)) :: .row pv0_2 44 5 pv0_2r :: L) _ _ _ := hs
     replace hs := hs.front 4
     replace hs := hs.front 2
     replace hs := hs.front 2
     replace hs := hs.front 4
     replace hs := hs.front 4
     replace hs : St _ _ _ (.row v60 21 1 rw61 :: .blk pb0 (.cells #[.pointer (some ⟨pv0_0, 0, none⟩), pv0_2] 71 (0, 0)) :: .blk pv0_0 (.cells #[v68, .int .i64 (x64.2.2.at_)] 94 (0, 0)) :: .row v68 21 1 rw69 :: .row pv0_2 44 5 pv0_2r :: L) _ _ _ := hs
     exact hK7 k49 _ _ (Nat.lt_succ_self _) ⟨_, x64.2.2.l, x64.2.2.at_, x58, x72.1, x72.2, v68, rw69, v60, rw61, hbase50, hm, hW70, hW62, hs.sub ⟨rfl, rfl, rfl, rfl, rfl, trivial⟩⟩
    ·replace hm := oc_f hg52 hm
     refine W_exit ?_
     refine hB6 _ _ ?_
     replace hs : St _ _ _ (.row v39 21 1 rw40 :: .blk pb0 (.cells #[.pointer (some ⟨pv0_0, 0, none⟩), pv0_2] 71 (0, 0)) :: .blk pv0_0 (.cells #[v32, .int .i64 (y36)] 94 (0, 0)) :: .row v32 21 1 rw33 :: .row pv0_2 44 5 pv0_2r :: L) _ _ _ := hs
     replace hs : St _ _ _ (.row v39 21 1 rw40 :: .blk pb0 (.cells #[.pointer (some ⟨pv0_0, 0, none⟩), pv0_2] 71 (0, 0)) :: .blk pv0_0 (.cells #[v32, .int .i64 (y36)] 94 (0, 0)) :: .row v32 21 1 rw33 :: .row pv0_2 44 5 pv0_2r :: L) _ _ _ := hs
     exact ⟨_, y38, y31, y36, v39, rw40, v32, rw33, hbase25, hm, hW41, hW34, hs.sub ⟨rfl, trivial⟩⟩
   ·refine W_region ?_
    refine sy (v := .bool (y44)) hs (y_move rfl) ?_; clear hs; intro a w hs
    refine sy (v := .bool (y44)) hs (y_move rfl) ?_; clear hs; intro a w hs
    refine St.split hs (t := 17) rfl (fun hg74 hq => ?_) (fun hg74 hq => ?_)
    ·clear hs; have hs := hq; clear hq
     replace hm := oc_t hg74 hm
     refine syg (v := .func (.func g1) #[] cap1.toArray) hs (y_move rfl) ?_; clear hs; intro a w hs
     refine syg (v := .int .i32 (y43)) hs (y_move rfl) ?_; clear hs; intro a w hs
     obtain ⟨x75, hx76, hm⟩ := ob hm
     refine syg hs (y_callK rfl hg1 rfl (hf1 _ (Fz.le.refl _) y43 x75  hx76)) ?_; clear hs; intro a w hs
     refine sy (v := .bool (x75)) hs (y_pick rfl rfl) ?_; clear hs; intro a w hs
     refine RL_nil ?_
     replace hs : St _ _ _ (.row v39 21 1 rw40 :: .blk pb0 (.cells #[.pointer (some ⟨pv0_0, 0, none⟩), pv0_2] 71 (0, 0)) :: .blk pv0_0 (.cells #[v32, .int .i64 (y36)] 94 (0, 0)) :: .row v32 21 1 rw33 :: .row pv0_2 44 5 pv0_2r :: L) _ _ _ := hs
     replace hs : St _ _ _ (.row v39 21 1 rw40 :: .blk pb0 (.cells #[.pointer (some ⟨pv0_0, 0, none⟩), pv0_2] 71 (0, 0)) :: .blk pv0_0 (.cells #[v32, .int .i64 (y36)] 94 (0, 0)) :: .row v32 21 1 rw33 :: .row pv0_2 44 5 pv0_2r :: L) _ _ _ := hs
     exact ⟨x75, hm, hs.sub ⟨rfl, rfl, rfl, rfl, rfl, trivial⟩⟩
    ·clear hs; have hs := hq; clear hq
     replace hm := oc_f hg74 hm
     refine sno hs ?_; clear hs; intro a w hs
     refine sno hs ?_; clear hs; intro a w hs
     refine sno hs ?_; clear hs; intro a w hs
     refine sy (v := .bool (false)) hs (y_pick rfl rfl) ?_; clear hs; intro a w hs
     refine RL_nil ?_
     replace hs : St _ _ _ (.row v39 21 1 rw40 :: .blk pb0 (.cells #[.pointer (some ⟨pv0_0, 0, none⟩), pv0_2] 71 (0, 0)) :: .blk pv0_0 (.cells #[v32, .int .i64 (y36)] 94 (0, 0)) :: .row v32 21 1 rw33 :: .row pv0_2 44 5 pv0_2r :: L) _ _ _ := hs
     replace hs : St _ _ _ (.row v39 21 1 rw40 :: .blk pb0 (.cells #[.pointer (some ⟨pv0_0, 0, none⟩), pv0_2] 71 (0, 0)) :: .blk pv0_0 (.cells #[v32, .int .i64 (y36)] 94 (0, 0)) :: .row v32 21 1 rw33 :: .row pv0_2 44 5 pv0_2r :: L) _ _ _ := hs
     exact ⟨false, hm, hs.sub ⟨rfl, rfl, rfl, rfl, rfl, trivial⟩⟩
/-! (*casement/mark.cutter).skip -/
def mark_cutter_skip_k2 (p0 : mark_cutter) (y25 : (List Int)) (y30 : Int) : Option mark_cutter :=
  some ({c := ({l := y25, at_ := y30} : source_Cursor_rune_), out := p0.out} : mark_cutter)
def mark_cutter_skip_l3 (n : Nat) (p0 : mark_cutter) (x16 : (List Int)) : Nat → (List Int) → Int → Int → Option mark_cutter
  | 0, _, _, _ => none
  | k41 + 1, y34, y39, y40 =>
  (bif (decide (y40 < (x16.length : Int))) then (source_Cursor_rune_Next n ({l := y34, at_ := y39} : source_Cursor_rune_)).bind fun x44 =>
  (mark_cutter_skip_l3 n p0 x16 k41) x44.2.2.l x44.2.2.at_ (w64 (y40 + 1)) else
  mark_cutter_skip_k2 p0 y34 y39)
def mark_cutter_skip_k1 (n : Nat) (p0 : mark_cutter) (p1 : ByteArray) (y9 : (List Int)) (y14 : Int) : Option mark_cutter :=
  (runesM p1).bind fun x16 =>
  mark_cutter_skip_l3 n p0 x16 n y9 y14 0
def mark_cutter_skip_k5 (n : Nat) (p0 : mark_cutter) (p1 : ByteArray) (y54 : (List Int)) (y59 : Int) (lp60 : (List Int) → Int → Option mark_cutter) (y62 : Bool) : Option mark_cutter :=
  (bif y62 then (source_Cursor_rune_Next n ({l := y54, at_ := y59} : source_Cursor_rune_)).bind fun x64 =>
  lp60 x64.2.2.l x64.2.2.at_ else
  mark_cutter_skip_k1 n p0 p1 y54 y59)
def mark_cutter_skip_l4 (n : Nat) (p0 : mark_cutter) (p1 : ByteArray) : Nat → (List Int) → Int → Option mark_cutter
  | 0, _, _ => none
  | k60 + 1, y54, y59 =>
  (source_Cursor_rune_Left n ({l := y54, at_ := y59} : source_Cursor_rune_)).bind fun x72 =>
  (bif (decide (0 < x72)) then (mark_cutter_is n ({c := ({l := y54, at_ := y59} : source_Cursor_rune_), out := p0.out} : mark_cutter) 0 p1).bind fun x75 =>
  mark_cutter_skip_k5 n p0 p1 y54 y59 (mark_cutter_skip_l4 n p0 p1 k60) (!x75) else
  mark_cutter_skip_k5 n p0 p1 y54 y59 (mark_cutter_skip_l4 n p0 p1 k60) false)
def mark_cutter_skip (n : Nat) (p0 : mark_cutter) (p1 : ByteArray) : Option mark_cutter :=
  mark_cutter_skip_l4 n p0 p1 n p0.c.l p0.c.at_
set_option maxRecDepth 20000 in
theorem mark_cutter_skip_ok (n : Nat) {Q : LQ} {f : Fz} {p0 : mark_cutter} {pb0 : Nat} {pv0_0 : Nat} {pv0_1 : Value} {pv0_1r : List (List Value)} {pv0_2 : Value} {pv0_2r : List (List Value)} {p1 : ByteArray} {res : mark_cutter} (pv0_1h : RW (tInt .i32) f pv0_1r p0.c.l) (pv0_2h : Q.R f pv0_2r p0.out) (hm : mark_cutter_skip n p0 p1 = some res) : Does Try.prog 46 [.pointer (some ⟨pb0, 0, none⟩), .string p1] f [.blk pb0 (.cells #[.pointer (some ⟨pv0_0, 0, none⟩), pv0_2] 71 (0, 0)), .blk pv0_0 (.cells #[pv0_1, .int .i64 p0.c.at_] 94 (0, 0)), .row pv0_1 21 1 pv0_1r, .row pv0_2 44 5 pv0_2r] (fun r f' L' => ∃ (dp0_1 : Value) (dp0_1r : List (List Value)) (dp0_2 : Value) (dp0_2r : List (List Value)), L' = [.blk pb0 (.cells #[.pointer (some ⟨pv0_0, 0, none⟩), dp0_2] 71 (0, 0)), .blk pv0_0 (.cells #[dp0_1, .int .i64 res.c.at_] 94 (0, 0)), .row dp0_1 21 1 dp0_1r, .row dp0_2 44 5 dp0_2r] ∧ r = .tuple #[] ∧ RW (tInt .i32) f' dp0_1r res.c.l ∧ Q.R f' dp0_2r res.out) := by
 unfold mark_cutter_skip at hm
 intro w0 L w hC
 replace hC : Cw w0 f (.blk pb0 (.cells #[.pointer (some ⟨pv0_0, 0, none⟩), pv0_2] 71 (0, 0)) :: .blk pv0_0 (.cells #[pv0_1, .int .i64 p0.c.at_] 94 (0, 0)) :: .row pv0_1 21 1 pv0_1r :: .row pv0_2 44 5 pv0_2r :: L) w := hC
 refine enter Try.func46 rfl Try.ntmps46 (by simp) hC fun a hs => ?_
 have hle := Fz.le.refl f
 refine W_seq fun K1 hK1 => ?_
 have hbase15 := Fz.le.refl f
 refine W_post (fun a w => ∃ (f7 : Fz) (y9 : (List Int)) (y14 : Int) (v10 : Value) (rw11 : List (List Value)), Fz.le f f7 ∧ mark_cutter_skip_k1 n p0 p1 y9 y14 = some res ∧ RW (tInt .i32) f7 rw11 y9 ∧ St 32 w0 f7 (.blk pb0 (.cells #[.pointer (some ⟨pv0_0, 0, none⟩), pv0_2] 71 (0, 0)) :: .blk pv0_0 (.cells #[v10, .int .i64 (y14)] 94 (0, 0)) :: .row v10 21 1 rw11 :: .row pv0_2 44 5 pv0_2r :: L) [(0, .pointer (some ⟨pb0, 0, none⟩)), (1, .string (p1))] a w) ?_ ?_
 ·clear hs hm
  clear hbase15
  rintro a w ⟨f7, y9, y14, v10, rw11, hl8, hm, hW12, hs⟩
  replace pv0_1h := pv0_1h.le hl8
  replace pv0_2h := pv0_2h.le hl8
  replace hle := hle.trans hl8
  replace hs : St _ _ _ (.blk pb0 (.cells #[.pointer (some ⟨pv0_0, 0, none⟩), pv0_2] 71 (0, 0)) :: .blk pv0_0 (.cells #[v10, .int .i64 (y14)] 94 (0, 0)) :: .row v10 21 1 rw11 :: .row pv0_2 44 5 pv0_2r :: L) _ _ _ := hs
  unfold mark_cutter_skip_k1 at hm
  refine hK1 _ _ ?_; clear hK1
  refine W_seq fun K2 hK2 => ?_
  refine W_region ?_
  refine sy (v := .string (p1)) hs (y_move rfl) ?_; clear hs; intro a w hs
  obtain ⟨x16, hx17, hm⟩ := ob hm
  refine RL_s2rW hx17 hs rfl Try.underlying9 Try.underlying32 Try.underlying21 ?_; clear hs; intro v18 rw19 a w hW20 hs
  replace hs : St _ _ _ (.row v18 21 1 rw19 :: .blk pb0 (.cells #[.pointer (some ⟨pv0_0, 0, none⟩), pv0_2] 71 (0, 0)) :: .blk pv0_0 (.cells #[v10, .int .i64 (y14)] 94 (0, 0)) :: .row v10 21 1 rw11 :: .row pv0_2 44 5 pv0_2r :: L) _ _ _ := hs
  refine sy hs (y_lenW (Rd.st hs (.head _)) hW20 rfl Try.underlying32) ?_; clear hs; intro a w hs
  refine sy (v := .int .i64 (0)) hs (y_move rfl) ?_; clear hs; intro a w hs
  refine RL_nil ?_
  refine hK2 _ _ ?_; clear hK2
  have hbase31 := Fz.le.refl f7
  refine W_post (fun a w => ∃ (f23 : Fz) (y25 : (List Int)) (y30 : Int) (v26 : Value) (rw27 : List (List Value)), Fz.le f7 f23 ∧ mark_cutter_skip_k2 p0 y25 y30 = some res ∧ RW (tInt .i32) f23 rw27 y25 ∧ St 32 w0 f23 (.blk pb0 (.cells #[.pointer (some ⟨pv0_0, 0, none⟩), pv0_2] 71 (0, 0)) :: .blk pv0_0 (.cells #[v26, .int .i64 (y30)] 94 (0, 0)) :: .row v26 21 1 rw27 :: .row pv0_2 44 5 pv0_2r :: L) [] a w) ?_ ?_
  ·clear hs hm
   clear hbase31
   rintro a w ⟨f23, y25, y30, v26, rw27, hl24, hm, hW28, hs⟩
   replace pv0_1h := pv0_1h.le hl24
   replace pv0_2h := pv0_2h.le hl24
   replace hW12 := hW12.le hl24
   replace hW20 := hW20.le hl24
   replace hle := hle.trans hl24
   replace hs : St _ _ _ (.blk pb0 (.cells #[.pointer (some ⟨pv0_0, 0, none⟩), pv0_2] 71 (0, 0)) :: .blk pv0_0 (.cells #[v26, .int .i64 (y30)] 94 (0, 0)) :: .row v26 21 1 rw27 :: .row pv0_2 44 5 pv0_2r :: L) _ _ _ := hs
   unfold mark_cutter_skip_k2 at hm
   obtain rfl := Option.some.inj hm
   refine RtV0 hs rfl  ?_
   exact ⟨_, f23, [.blk pb0 (.cells #[.pointer (some ⟨pv0_0, 0, none⟩), pv0_2] 71 (0, 0)), .blk pv0_0 (.cells #[v26, .int .i64 (y30)] 94 (0, 0)), .row v26 21 1 rw27, .row pv0_2 44 5 pv0_2r], rfl, hle, hs.cw, v26, rw27, pv0_2, pv0_2r, rfl, rfl, hW28, pv0_2h⟩
  ·refine W_block fun Qe3 hB3 hO3 => ?_
   have hbase := Fz.le.refl f7
   replace hs : St _ _ _ (.row v18 21 1 rw19 :: .blk pb0 (.cells #[.pointer (some ⟨pv0_0, 0, none⟩), pv0_2] 71 (0, 0)) :: .blk pv0_0 (.cells #[v10, .int .i64 (y14)] 94 (0, 0)) :: .row v10 21 1 rw11 :: .row pv0_2 44 5 pv0_2r :: L) _ _ _ := hs
   replace hs : St _ _ _ (.row v18 21 1 rw19 :: .blk pb0 (.cells #[.pointer (some ⟨pv0_0, 0, none⟩), pv0_2] 71 (0, 0)) :: .blk pv0_0 (.cells #[v10, .int .i64 (y14)] 94 (0, 0)) :: .row v10 21 1 rw11 :: .row pv0_2 44 5 pv0_2r :: L) _ _ _ := hs
   refine W_loop (fun (k : Nat) a w => ∃ (f32 : Fz) (y34 : (List Int)) (y39 : Int) (y40 : Int) (v35 : Value) (rw36 : List (List Value)), Fz.le f7 f32 ∧ mark_cutter_skip_l3 n p0 x16 k y34 y39 y40 = some res ∧ RW (tInt .i32) f32 rw36 y34 ∧ St 32 w0 f32 (.blk pb0 (.cells #[.pointer (some ⟨pv0_0, 0, none⟩), pv0_2] 71 (0, 0)) :: .blk pv0_0 (.cells #[v35, .int .i64 (y39)] 94 (0, 0)) :: .row v35 21 1 rw36 :: .row pv0_2 44 5 pv0_2r :: L) [(0, .pointer (some ⟨pb0, 0, none⟩)), (23, .int .i64 ((x16.length : Int))), (24, .int .i64 (y40))] a w) (fun k => k) n ⟨_, y9, y14, 0, v10, rw11, (Fz.le.refl _), hm, hW12, hs.subs ⟨rfl, rfl, rfl, trivial⟩ (.cons _ (.cons_cons _ (.cons_cons _ (.cons_cons _ (.cons_cons _ (.refl _))))))⟩ ?_
   clear hs hm
   intro k
   rintro a w ⟨f32, y34, y39, y40, v35, rw36, hl33, hm, hW37, hs⟩
   replace pv0_1h := pv0_1h.le hl33
   replace pv0_2h := pv0_2h.le hl33
   replace hW12 := hW12.le hl33
   replace hW20 := hW20.le hl33
   replace hle := hle.trans hl33
   replace hbase31 := hbase31.trans hl33
   replace hs : St _ _ _ (.blk pb0 (.cells #[.pointer (some ⟨pv0_0, 0, none⟩), pv0_2] 71 (0, 0)) :: .blk pv0_0 (.cells #[v35, .int .i64 (y39)] 94 (0, 0)) :: .row v35 21 1 rw36 :: .row pv0_2 44 5 pv0_2r :: L) _ _ _ := hs
   intro K4 hK4
   cases k with
   | zero => simp [mark_cutter_skip_l3] at hm
   | succ k41 =>
    rw [mark_cutter_skip_l3] at hm
    have hbase42 := hl33
    refine W_seq fun K5 hK5 => ?_
    refine W_region ?_
    refine sy hs (y_lss rfl rfl) ?_; clear hs; intro a w hs
    refine RL_nil ?_
    refine hK5 _ _ ?_; clear hK5
    refine W_seq fun K6 hK6 => ?_
    refine W_cond hs rfl (fun hg43 => ?_) (fun hg43 => ?_)
    ·replace hm := oc_t hg43 hm
     refine W_skip ?_
     refine hK6 _ _ ?_; clear hK6
     refine W_seq fun K7 hK7 => ?_
     refine W_block fun Qe8 hB8 hO8 => ?_
     refine W_region ?_
     refine sy (v := .pointer (some ⟨pb0, 0, none⟩)) hs (y_move rfl) ?_; clear hs; intro a w hs
     refine sy hs (y_nilCheck rfl) ?_; clear hs; intro a w hs
     refine sy (v := .pointer (some ⟨pb0, 0, none⟩)) hs (y_fieldAddr rfl (FO.of (off := 0) Try.underlying71 rfl rfl ti68 (by decide))) ?_; clear hs; intro a w hs
     refine sy (v := .pointer (some ⟨pv0_0, 0, none⟩)) hs (y_ld rfl Try.underlying68 rfl (Cell.blk (.head _) rfl)) ?_; clear hs; intro a w hs
     obtain ⟨x44, hx45, hm⟩ := ob hm
     replace hs := hs.front 2
     replace hs := hs.front 2
     replace hs : St _ _ _ (.blk pv0_0 (.cells #[v35, .int .i64 (y39)] 94 (0, 0)) :: .row v35 21 1 rw36 :: .blk pb0 (.cells #[.pointer (some ⟨pv0_0, 0, none⟩), pv0_2] 71 (0, 0)) :: .row pv0_2 44 5 pv0_2r :: L) _ _ _ := hs
     refine RL_call (Lr := [.blk pv0_0 (.cells #[v35, .int .i64 (y39)] 94 (0, 0)), .row v35 21 1 rw36]) (Lf := .blk pb0 (.cells #[.pointer (some ⟨pv0_0, 0, none⟩), pv0_2] 71 (0, 0)) :: .row pv0_2 44 5 pv0_2r :: L) hs rfl has47 rfl rfl (source_Cursor_rune_Next_ok n (f := f32) (p0 := ({l := y34, at_ := y39} : source_Cursor_rune_)) (pb0 := pv0_0) (pv0_0 := v35) (pv0_0r := rw36) hW37 hx45) (.free rfl) (by decide) ?_; clear hs
     rintro _ f46 _ a w hf47 ⟨v48, rw49, rfl, rfl, hW50⟩ hs
     replace pv0_1h := pv0_1h.le hf47
     replace pv0_2h := pv0_2h.le hf47
     replace hW12 := hW12.le hf47
     replace hW20 := hW20.le hf47
     replace hW37 := hW37.le hf47
     replace hle := hle.trans hf47
     replace hbase31 := hbase31.trans hf47
     replace hbase42 := hbase42.trans hf47
     replace hs : St _ _ _ (.blk pv0_0 (.cells #[v48, .int .i64 (x44.2.2.at_)] 94 (0, 0)) :: .row v48 21 1 rw49 :: .blk pb0 (.cells #[.pointer (some ⟨pv0_0, 0, none⟩), pv0_2] 71 (0, 0)) :: .row pv0_2 44 5 pv0_2r :: L) _ _ _ := hs
     refine RL_nil ?_
     refine hK7 _ _ ?_; clear hK7
     refine W_region ?_
     refine sy hs (y_add rfl rfl rfl) ?_; clear hs; intro a w hs
     refine sy (v := .int .i64 ((w64 (y40 + 1)))) hs (y_move rfl) ?_; clear hs; intro a w hs
     refine RL_nil ?_
     replace hs : St _ _ _ (.blk pv0_0 (.cells #[v48, .int .i64 (x44.2.2.at_)] 94 (0, 0)) :: .row v48 21 1 rw49 :: .blk pb0 (.cells #[.pointer (some ⟨pv0_0, 0, none⟩), pv0_2] 71 (0, 0)) :: .row pv0_2 44 5 pv0_2r :: L) _ _ _ := hs
     replace hs : St _ _ _ (.blk pv0_0 (.cells #[v48, .int .i64 (x44.2.2.at_)] 94 (0, 0)) :: .row v48 21 1 rw49 :: .blk pb0 (.cells #[.pointer (some ⟨pv0_0, 0, none⟩), pv0_2] 71 (0, 0)) :: .row pv0_2 44 5 pv0_2r :: L) _ _ _ := hs
     replace hs := hs.front 3
     replace hs := hs.front 2
     replace hs := hs.front 2
     replace hs := hs.front 3
     replace hs : St _ _ _ (.blk pb0 (.cells #[.pointer (some ⟨pv0_0, 0, none⟩), pv0_2] 71 (0, 0)) :: .blk pv0_0 (.cells #[v48, .int .i64 (x44.2.2.at_)] 94 (0, 0)) :: .row v48 21 1 rw49 :: .row pv0_2 44 5 pv0_2r :: L) _ _ _ := hs
     exact hK4 k41 _ _ (Nat.lt_succ_self _) ⟨_, x44.2.2.l, x44.2.2.at_, (w64 (y40 + 1)), v48, rw49, hbase42, hm, hW50, hs.sub ⟨rfl, rfl, rfl, trivial⟩⟩
    ·replace hm := oc_f hg43 hm
     refine W_exit ?_
     refine hB3 _ _ ?_
     replace hs : St _ _ _ (.blk pb0 (.cells #[.pointer (some ⟨pv0_0, 0, none⟩), pv0_2] 71 (0, 0)) :: .blk pv0_0 (.cells #[v35, .int .i64 (y39)] 94 (0, 0)) :: .row v35 21 1 rw36 :: .row pv0_2 44 5 pv0_2r :: L) _ _ _ := hs
     replace hs : St _ _ _ (.blk pb0 (.cells #[.pointer (some ⟨pv0_0, 0, none⟩), pv0_2] 71 (0, 0)) :: .blk pv0_0 (.cells #[v35, .int .i64 (y39)] 94 (0, 0)) :: .row v35 21 1 rw36 :: .row pv0_2 44 5 pv0_2r :: L) _ _ _ := hs
     exact ⟨_, y34, y39, v35, rw36, hbase31, hm, hW37, hs.sub trivial⟩
 ·refine W_block fun Qe9 hB9 hO9 => ?_
  have hbase := Fz.le.refl f
  replace hs : St _ _ _ (.blk pb0 (.cells #[.pointer (some ⟨pv0_0, 0, none⟩), pv0_2] 71 (0, 0)) :: .blk pv0_0 (.cells #[pv0_1, .int .i64 (p0.c.at_)] 94 (0, 0)) :: .row pv0_1 21 1 pv0_1r :: .row pv0_2 44 5 pv0_2r :: L) _ _ _ := hs
  replace hs : St _ _ _ (.blk pb0 (.cells #[.pointer (some ⟨pv0_0, 0, none⟩), pv0_2] 71 (0, 0)) :: .blk pv0_0 (.cells #[pv0_1, .int .i64 (p0.c.at_)] 94 (0, 0)) :: .row pv0_1 21 1 pv0_1r :: .row pv0_2 44 5 pv0_2r :: L) _ _ _ := hs
  refine W_loop (fun (k : Nat) a w => ∃ (f52 : Fz) (y54 : (List Int)) (y59 : Int) (v55 : Value) (rw56 : List (List Value)), Fz.le f f52 ∧ mark_cutter_skip_l4 n p0 p1 k y54 y59 = some res ∧ RW (tInt .i32) f52 rw56 y54 ∧ St 32 w0 f52 (.blk pb0 (.cells #[.pointer (some ⟨pv0_0, 0, none⟩), pv0_2] 71 (0, 0)) :: .blk pv0_0 (.cells #[v55, .int .i64 (y59)] 94 (0, 0)) :: .row v55 21 1 rw56 :: .row pv0_2 44 5 pv0_2r :: L) [(0, .pointer (some ⟨pb0, 0, none⟩)), (1, .string (p1))] a w) (fun k => k) n ⟨_, p0.c.l, p0.c.at_, pv0_1, pv0_1r, (Fz.le.refl _), hm, pv0_1h, hs.sub ⟨rfl, rfl, trivial⟩⟩ ?_
  clear hs hm
  intro k
  rintro a w ⟨f52, y54, y59, v55, rw56, hl53, hm, hW57, hs⟩
  replace pv0_1h := pv0_1h.le hl53
  replace pv0_2h := pv0_2h.le hl53
  replace hle := hle.trans hl53
  replace hbase15 := hbase15.trans hl53
  replace hs : St _ _ _ (.blk pb0 (.cells #[.pointer (some ⟨pv0_0, 0, none⟩), pv0_2] 71 (0, 0)) :: .blk pv0_0 (.cells #[v55, .int .i64 (y59)] 94 (0, 0)) :: .row v55 21 1 rw56 :: .row pv0_2 44 5 pv0_2r :: L) _ _ _ := hs
  intro K10 hK10
  cases k with
  | zero => simp [mark_cutter_skip_l4] at hm
  | succ k60 =>
   rw [mark_cutter_skip_l4] at hm
   have hbase61 := hl53
   refine W_seq fun K11 hK11 => ?_
   refine W_seq fun K12 hK12 => ?_
   refine W_post (fun a w => ∃ (y62 : Bool), mark_cutter_skip_k5 n p0 p1 y54 y59 (mark_cutter_skip_l4 n p0 p1 k60) y62 = some res ∧ St 32 w0 f52 (.blk pb0 (.cells #[.pointer (some ⟨pv0_0, 0, none⟩), pv0_2] 71 (0, 0)) :: .blk pv0_0 (.cells #[v55, .int .i64 (y59)] 94 (0, 0)) :: .row v55 21 1 rw56 :: .row pv0_2 44 5 pv0_2r :: L) [(0, .pointer (some ⟨pb0, 0, none⟩)), (1, .string (p1)), (15, .bool (y62))] a w) ?_ ?_
   ·clear hs hm
    rintro a w ⟨y62, hm, hs⟩
    replace hs : St _ _ _ (.blk pb0 (.cells #[.pointer (some ⟨pv0_0, 0, none⟩), pv0_2] 71 (0, 0)) :: .blk pv0_0 (.cells #[v55, .int .i64 (y59)] 94 (0, 0)) :: .row v55 21 1 rw56 :: .row pv0_2 44 5 pv0_2r :: L) _ _ _ := hs
    unfold mark_cutter_skip_k5 at hm
    refine hK12 _ _ ?_; clear hK12
    refine W_cond hs rfl (fun hg63 => ?_) (fun hg63 => ?_)
    ·replace hm := oc_t hg63 hm
     refine W_skip ?_
     refine hK11 _ _ ?_; clear hK11
     refine W_block fun Qe13 hB13 hO13 => ?_
     refine W_region ?_
     refine sy (v := .pointer (some ⟨pb0, 0, none⟩)) hs (y_move rfl) ?_; clear hs; intro a w hs
     refine sy hs (y_nilCheck rfl) ?_; clear hs; intro a w hs
     refine sy (v := .pointer (some ⟨pb0, 0, none⟩)) hs (y_fieldAddr rfl (FO.of (off := 0) Try.underlying71 rfl rfl ti68 (by decide))) ?_; clear hs; intro a w hs
     refine sy (v := .pointer (some ⟨pv0_0, 0, none⟩)) hs (y_ld rfl Try.underlying68 rfl (Cell.blk (.head _) rfl)) ?_; clear hs; intro a w hs
     obtain ⟨x64, hx65, hm⟩ := ob hm
     replace hs := hs.front 2
     replace hs := hs.front 2
     replace hs : St _ _ _ (.blk pv0_0 (.cells #[v55, .int .i64 (y59)] 94 (0, 0)) :: .row v55 21 1 rw56 :: .blk pb0 (.cells #[.pointer (some ⟨pv0_0, 0, none⟩), pv0_2] 71 (0, 0)) :: .row pv0_2 44 5 pv0_2r :: L) _ _ _ := hs
     refine RL_call (Lr := [.blk pv0_0 (.cells #[v55, .int .i64 (y59)] 94 (0, 0)), .row v55 21 1 rw56]) (Lf := .blk pb0 (.cells #[.pointer (some ⟨pv0_0, 0, none⟩), pv0_2] 71 (0, 0)) :: .row pv0_2 44 5 pv0_2r :: L) hs rfl has47 rfl rfl (source_Cursor_rune_Next_ok n (f := f52) (p0 := ({l := y54, at_ := y59} : source_Cursor_rune_)) (pb0 := pv0_0) (pv0_0 := v55) (pv0_0r := rw56) hW57 hx65) (.free rfl) (by decide) ?_; clear hs
     rintro _ f66 _ a w hf67 ⟨v68, rw69, rfl, rfl, hW70⟩ hs
     replace pv0_1h := pv0_1h.le hf67
     replace pv0_2h := pv0_2h.le hf67
     replace hW57 := hW57.le hf67
     replace hle := hle.trans hf67
     replace hbase15 := hbase15.trans hf67
     replace hbase61 := hbase61.trans hf67
     replace hs : St _ _ _ (.blk pv0_0 (.cells #[v68, .int .i64 (x64.2.2.at_)] 94 (0, 0)) :: .row v68 21 1 rw69 :: .blk pb0 (.cells #[.pointer (some ⟨pv0_0, 0, none⟩), pv0_2] 71 (0, 0)) :: .row pv0_2 44 5 pv0_2r :: L) _ _ _ := hs
     refine RL_nil ?_
     replace hs : St _ _ _ (.blk pv0_0 (.cells #[v68, .int .i64 (x64.2.2.at_)] 94 (0, 0)) :: .row v68 21 1 rw69 :: .blk pb0 (.cells #[.pointer (some ⟨pv0_0, 0, none⟩), pv0_2] 71 (0, 0)) :: .row pv0_2 44 5 pv0_2r :: L) _ _ _ := hs
     replace hs : St _ _ _ (.blk pv0_0 (.cells #[v68, .int .i64 (x64.2.2.at_)] 94 (0, 0)) :: .row v68 21 1 rw69 :: .blk pb0 (.cells #[.pointer (some ⟨pv0_0, 0, none⟩), pv0_2] 71 (0, 0)) :: .row pv0_2 44 5 pv0_2r :: L) _ _ _ := hs
     replace hs := hs.front 3
     replace hs := hs.front 2
     replace hs := hs.front 2
     replace hs := hs.front 3
     replace hs : St _ _ _ (.blk pb0 (.cells #[.pointer (some ⟨pv0_0, 0, none⟩), pv0_2] 71 (0, 0)) :: .blk pv0_0 (.cells #[v68, .int .i64 (x64.2.2.at_)] 94 (0, 0)) :: .row v68 21 1 rw69 :: .row pv0_2 44 5 pv0_2r :: L) _ _ _ := hs
     exact hK10 k60 _ _ (Nat.lt_succ_self _) ⟨_, x64.2.2.l, x64.2.2.at_, v68, rw69, hbase61, hm, hW70, hs.sub ⟨rfl, rfl, trivial⟩⟩
    ·replace hm := oc_f hg63 hm
     refine W_exit ?_
     refine hB9 _ _ ?_
     replace hs : St _ _ _ (.blk pb0 (.cells #[.pointer (some ⟨pv0_0, 0, none⟩), pv0_2] 71 (0, 0)) :: .blk pv0_0 (.cells #[v55, .int .i64 (y59)] 94 (0, 0)) :: .row v55 21 1 rw56 :: .row pv0_2 44 5 pv0_2r :: L) _ _ _ := hs
     replace hs : St _ _ _ (.blk pb0 (.cells #[.pointer (some ⟨pv0_0, 0, none⟩), pv0_2] 71 (0, 0)) :: .blk pv0_0 (.cells #[v55, .int .i64 (y59)] 94 (0, 0)) :: .row v55 21 1 rw56 :: .row pv0_2 44 5 pv0_2r :: L) _ _ _ := hs
     exact ⟨_, y54, y59, v55, rw56, hbase15, hm, hW57, hs.sub ⟨rfl, rfl, trivial⟩⟩
   ·refine W_region ?_
    refine sy (v := .pointer (some ⟨pb0, 0, none⟩)) hs (y_move rfl) ?_; clear hs; intro a w hs
    refine sy hs (y_nilCheck rfl) ?_; clear hs; intro a w hs
    refine sy (v := .pointer (some ⟨pb0, 0, none⟩)) hs (y_fieldAddr rfl (FO.of (off := 0) Try.underlying71 rfl rfl ti68 (by decide))) ?_; clear hs; intro a w hs
    refine sy (v := .pointer (some ⟨pv0_0, 0, none⟩)) hs (y_ld rfl Try.underlying68 rfl (Cell.blk (.head _) rfl)) ?_; clear hs; intro a w hs
    obtain ⟨x72, hx73, hm⟩ := ob hm
    refine sy hs (y_callR (cap := []) (Lf := .blk pb0 (.cells #[.pointer (some ⟨pv0_0, 0, none⟩), pv0_2] 71 (0, 0)) :: .row pv0_2 44 5 pv0_2r :: L) rfl has40 rfl ((perm_at _ 2 rfl).trans (perm_at _ 2 rfl)) (source_Cursor_rune_Left_ok n (f := f52) (p0 := ({l := y54, at_ := y59} : source_Cursor_rune_)) (pb0 := pv0_0) (pv0_0 := v55) (pv0_0r := rw56) hW57 hx73)) ?_; clear hs; intro a w hs
    refine sy hs (y_gtr rfl rfl) ?_; clear hs; intro a w hs
    refine sy (v := .bool (decide (0 < x72))) hs (y_move rfl) ?_; clear hs; intro a w hs
    refine St.split hs (t := 10) rfl (fun hg74 hq => ?_) (fun hg74 hq => ?_)
    ·clear hs; have hs := hq; clear hq
     replace hm := oc_t hg74 hm
     refine syg (v := .pointer (some ⟨pb0, 0, none⟩)) hs (y_move rfl) ?_; clear hs; intro a w hs
     refine syg (v := .string (p1)) hs (y_move rfl) ?_; clear hs; intro a w hs
     obtain ⟨x75, hx76, hm⟩ := ob hm
     refine syg hs (y_callR (cap := []) (Lf := L) rfl has44 rfl ((((perm_at _ 3 rfl).trans (perm_at _ 3 rfl)).trans (perm_at _ 3 rfl)).trans (perm_at _ 3 rfl)) (mark_cutter_is_ok n (f := f52) (p0 := ({c := ({l := y54, at_ := y59} : source_Cursor_rune_), out := p0.out} : mark_cutter)) (pb0 := pb0) (pv0_0 := pv0_0) (pv0_1 := v55) (pv0_1r := rw56) (pv0_2 := pv0_2) (pv0_2r := pv0_2r) (p1 := 0) (p2 := p1) hW57 pv0_2h hx76)) ?_; clear hs; intro a w hs
     refine syg (v := .bool ((!x75))) hs (y_not rfl) ?_; clear hs; intro a w hs
     refine sy (v := .bool ((!x75))) hs (y_pick rfl rfl) ?_; clear hs; intro a w hs
     refine RL_nil ?_
     replace hs : St _ _ _ (.blk pb0 (.cells #[.pointer (some ⟨pv0_0, 0, none⟩), pv0_2] 71 (0, 0)) :: .blk pv0_0 (.cells #[v55, .int .i64 (y59)] 94 (0, 0)) :: .row v55 21 1 rw56 :: .row pv0_2 44 5 pv0_2r :: L) _ _ _ := hs
     replace hs : St _ _ _ (.blk pb0 (.cells #[.pointer (some ⟨pv0_0, 0, none⟩), pv0_2] 71 (0, 0)) :: .blk pv0_0 (.cells #[v55, .int .i64 (y59)] 94 (0, 0)) :: .row v55 21 1 rw56 :: .row pv0_2 44 5 pv0_2r :: L) _ _ _ := hs
     exact ⟨(!x75), hm, hs.sub ⟨rfl, rfl, rfl, trivial⟩⟩
    ·clear hs; have hs := hq; clear hq
     replace hm := oc_f hg74 hm
     refine sno hs ?_; clear hs; intro a w hs
     refine sno hs ?_; clear hs; intro a w hs
     refine sno hs ?_; clear hs; intro a w hs
     refine sno hs ?_; clear hs; intro a w hs
     refine sy (v := .bool (false)) hs (y_pick rfl rfl) ?_; clear hs; intro a w hs
     refine RL_nil ?_
     replace hs : St _ _ _ (.blk pb0 (.cells #[.pointer (some ⟨pv0_0, 0, none⟩), pv0_2] 71 (0, 0)) :: .blk pv0_0 (.cells #[v55, .int .i64 (y59)] 94 (0, 0)) :: .row v55 21 1 rw56 :: .row pv0_2 44 5 pv0_2r :: L) _ _ _ := hs
     replace hs : St _ _ _ (.blk pb0 (.cells #[.pointer (some ⟨pv0_0, 0, none⟩), pv0_2] 71 (0, 0)) :: .blk pv0_0 (.cells #[v55, .int .i64 (y59)] 94 (0, 0)) :: .row v55 21 1 rw56 :: .row pv0_2 44 5 pv0_2r :: L) _ _ _ := hs
     exact ⟨false, hm, hs.sub ⟨rfl, rfl, rfl, trivial⟩⟩
/-! (*casement/mark.cutter).skip4 -/
def mark_cutter_skip4_k1 (p0 : mark_cutter) (y9 : (List Int)) (y14 : Int) : Option mark_cutter :=
  some ({c := ({l := y9, at_ := y14} : source_Cursor_rune_), out := p0.out} : mark_cutter)
def mark_cutter_skip4_l2 (n : Nat) (p0 : mark_cutter) : Nat → (List Int) → Int → Int → Option mark_cutter
  | 0, _, _, _ => none
  | k25 + 1, y18, y23, y24 =>
  (bif (decide (y24 < 4)) then (source_Cursor_rune_Next n ({l := y18, at_ := y23} : source_Cursor_rune_)).bind fun x28 =>
  (mark_cutter_skip4_l2 n p0 k25) x28.2.2.l x28.2.2.at_ (w64 (y24 + 1)) else
  mark_cutter_skip4_k1 p0 y18 y23)
def mark_cutter_skip4 (n : Nat) (p0 : mark_cutter) : Option mark_cutter :=
  mark_cutter_skip4_l2 n p0 n p0.c.l p0.c.at_ 0
set_option maxRecDepth 20000 in
theorem mark_cutter_skip4_ok (n : Nat) {Q : LQ} {f : Fz} {p0 : mark_cutter} {pb0 : Nat} {pv0_0 : Nat} {pv0_1 : Value} {pv0_1r : List (List Value)} {pv0_2 : Value} {pv0_2r : List (List Value)} {res : mark_cutter} (pv0_1h : RW (tInt .i32) f pv0_1r p0.c.l) (pv0_2h : Q.R f pv0_2r p0.out) (hm : mark_cutter_skip4 n p0 = some res) : Does Try.prog 45 [.pointer (some ⟨pb0, 0, none⟩)] f [.blk pb0 (.cells #[.pointer (some ⟨pv0_0, 0, none⟩), pv0_2] 71 (0, 0)), .blk pv0_0 (.cells #[pv0_1, .int .i64 p0.c.at_] 94 (0, 0)), .row pv0_1 21 1 pv0_1r, .row pv0_2 44 5 pv0_2r] (fun r f' L' => ∃ (dp0_1 : Value) (dp0_1r : List (List Value)) (dp0_2 : Value) (dp0_2r : List (List Value)), L' = [.blk pb0 (.cells #[.pointer (some ⟨pv0_0, 0, none⟩), dp0_2] 71 (0, 0)), .blk pv0_0 (.cells #[dp0_1, .int .i64 res.c.at_] 94 (0, 0)), .row dp0_1 21 1 dp0_1r, .row dp0_2 44 5 dp0_2r] ∧ r = .tuple #[] ∧ RW (tInt .i32) f' dp0_1r res.c.l ∧ Q.R f' dp0_2r res.out) := by
 unfold mark_cutter_skip4 at hm
 intro w0 L w hC
 replace hC : Cw w0 f (.blk pb0 (.cells #[.pointer (some ⟨pv0_0, 0, none⟩), pv0_2] 71 (0, 0)) :: .blk pv0_0 (.cells #[pv0_1, .int .i64 p0.c.at_] 94 (0, 0)) :: .row pv0_1 21 1 pv0_1r :: .row pv0_2 44 5 pv0_2r :: L) w := hC
 refine enter Try.func45 rfl Try.ntmps45 (by simp) hC fun a hs => ?_
 have hle := Fz.le.refl f
 refine W_seq fun K1 hK1 => ?_
 refine W_region ?_
 refine sy (v := .int .i64 (0)) hs (y_move rfl) ?_; clear hs; intro a w hs
 refine RL_nil ?_
 refine hK1 _ _ ?_; clear hK1
 have hbase15 := Fz.le.refl f
 refine W_post (fun a w => ∃ (f7 : Fz) (y9 : (List Int)) (y14 : Int) (v10 : Value) (rw11 : List (List Value)), Fz.le f f7 ∧ mark_cutter_skip4_k1 p0 y9 y14 = some res ∧ RW (tInt .i32) f7 rw11 y9 ∧ St 10 w0 f7 (.blk pb0 (.cells #[.pointer (some ⟨pv0_0, 0, none⟩), pv0_2] 71 (0, 0)) :: .blk pv0_0 (.cells #[v10, .int .i64 (y14)] 94 (0, 0)) :: .row v10 21 1 rw11 :: .row pv0_2 44 5 pv0_2r :: L) [] a w) ?_ ?_
 ·clear hs hm
  clear hbase15
  rintro a w ⟨f7, y9, y14, v10, rw11, hl8, hm, hW12, hs⟩
  replace pv0_1h := pv0_1h.le hl8
  replace pv0_2h := pv0_2h.le hl8
  replace hle := hle.trans hl8
  replace hs : St _ _ _ (.blk pb0 (.cells #[.pointer (some ⟨pv0_0, 0, none⟩), pv0_2] 71 (0, 0)) :: .blk pv0_0 (.cells #[v10, .int .i64 (y14)] 94 (0, 0)) :: .row v10 21 1 rw11 :: .row pv0_2 44 5 pv0_2r :: L) _ _ _ := hs
  unfold mark_cutter_skip4_k1 at hm
  obtain rfl := Option.some.inj hm
  refine RtV0 hs rfl  ?_
  exact ⟨_, f7, [.blk pb0 (.cells #[.pointer (some ⟨pv0_0, 0, none⟩), pv0_2] 71 (0, 0)), .blk pv0_0 (.cells #[v10, .int .i64 (y14)] 94 (0, 0)), .row v10 21 1 rw11, .row pv0_2 44 5 pv0_2r], rfl, hle, hs.cw, v10, rw11, pv0_2, pv0_2r, rfl, rfl, hW12, pv0_2h⟩
 ·refine W_block fun Qe2 hB2 hO2 => ?_
  have hbase := Fz.le.refl f
  replace hs : St _ _ _ (.blk pb0 (.cells #[.pointer (some ⟨pv0_0, 0, none⟩), pv0_2] 71 (0, 0)) :: .blk pv0_0 (.cells #[pv0_1, .int .i64 (p0.c.at_)] 94 (0, 0)) :: .row pv0_1 21 1 pv0_1r :: .row pv0_2 44 5 pv0_2r :: L) _ _ _ := hs
  replace hs : St _ _ _ (.blk pb0 (.cells #[.pointer (some ⟨pv0_0, 0, none⟩), pv0_2] 71 (0, 0)) :: .blk pv0_0 (.cells #[pv0_1, .int .i64 (p0.c.at_)] 94 (0, 0)) :: .row pv0_1 21 1 pv0_1r :: .row pv0_2 44 5 pv0_2r :: L) _ _ _ := hs
  refine W_loop (fun (k : Nat) a w => ∃ (f16 : Fz) (y18 : (List Int)) (y23 : Int) (y24 : Int) (v19 : Value) (rw20 : List (List Value)), Fz.le f f16 ∧ mark_cutter_skip4_l2 n p0 k y18 y23 y24 = some res ∧ RW (tInt .i32) f16 rw20 y18 ∧ St 10 w0 f16 (.blk pb0 (.cells #[.pointer (some ⟨pv0_0, 0, none⟩), pv0_2] 71 (0, 0)) :: .blk pv0_0 (.cells #[v19, .int .i64 (y23)] 94 (0, 0)) :: .row v19 21 1 rw20 :: .row pv0_2 44 5 pv0_2r :: L) [(0, .pointer (some ⟨pb0, 0, none⟩)), (2, .int .i64 (y24))] a w) (fun k => k) n ⟨_, p0.c.l, p0.c.at_, 0, pv0_1, pv0_1r, (Fz.le.refl _), hm, pv0_1h, hs.sub ⟨rfl, rfl, trivial⟩⟩ ?_
  clear hs hm
  intro k
  rintro a w ⟨f16, y18, y23, y24, v19, rw20, hl17, hm, hW21, hs⟩
  replace pv0_1h := pv0_1h.le hl17
  replace pv0_2h := pv0_2h.le hl17
  replace hle := hle.trans hl17
  replace hbase15 := hbase15.trans hl17
  replace hs : St _ _ _ (.blk pb0 (.cells #[.pointer (some ⟨pv0_0, 0, none⟩), pv0_2] 71 (0, 0)) :: .blk pv0_0 (.cells #[v19, .int .i64 (y23)] 94 (0, 0)) :: .row v19 21 1 rw20 :: .row pv0_2 44 5 pv0_2r :: L) _ _ _ := hs
  intro K3 hK3
  cases k with
  | zero => simp [mark_cutter_skip4_l2] at hm
  | succ k25 =>
   rw [mark_cutter_skip4_l2] at hm
   have hbase26 := hl17
   refine W_seq fun K4 hK4 => ?_
   refine W_region ?_
   refine sy hs (y_lss rfl rfl) ?_; clear hs; intro a w hs
   refine RL_nil ?_
   refine hK4 _ _ ?_; clear hK4
   refine W_seq fun K5 hK5 => ?_
   refine W_cond hs rfl (fun hg27 => ?_) (fun hg27 => ?_)
   ·replace hm := oc_t hg27 hm
    refine W_skip ?_
    refine hK5 _ _ ?_; clear hK5
    refine W_seq fun K6 hK6 => ?_
    refine W_block fun Qe7 hB7 hO7 => ?_
    refine W_region ?_
    refine sy (v := .pointer (some ⟨pb0, 0, none⟩)) hs (y_move rfl) ?_; clear hs; intro a w hs
    refine sy hs (y_nilCheck rfl) ?_; clear hs; intro a w hs
    refine sy (v := .pointer (some ⟨pb0, 0, none⟩)) hs (y_fieldAddr rfl (FO.of (off := 0) Try.underlying71 rfl rfl ti68 (by decide))) ?_; clear hs; intro a w hs
    refine sy (v := .pointer (some ⟨pv0_0, 0, none⟩)) hs (y_ld rfl Try.underlying68 rfl (Cell.blk (.head _) rfl)) ?_; clear hs; intro a w hs
    obtain ⟨x28, hx29, hm⟩ := ob hm
    replace hs := hs.front 2
    replace hs := hs.front 2
    replace hs : St _ _ _ (.blk pv0_0 (.cells #[v19, .int .i64 (y23)] 94 (0, 0)) :: .row v19 21 1 rw20 :: .blk pb0 (.cells #[.pointer (some ⟨pv0_0, 0, none⟩), pv0_2] 71 (0, 0)) :: .row pv0_2 44 5 pv0_2r :: L) _ _ _ := hs
    refine RL_call (Lr := [.blk pv0_0 (.cells #[v19, .int .i64 (y23)] 94 (0, 0)), .row v19 21 1 rw20]) (Lf := .blk pb0 (.cells #[.pointer (some ⟨pv0_0, 0, none⟩), pv0_2] 71 (0, 0)) :: .row pv0_2 44 5 pv0_2r :: L) hs rfl has47 rfl rfl (source_Cursor_rune_Next_ok n (f := f16) (p0 := ({l := y18, at_ := y23} : source_Cursor_rune_)) (pb0 := pv0_0) (pv0_0 := v19) (pv0_0r := rw20) hW21 hx29) (.free rfl) (by decide) ?_; clear hs
    rintro _ f30 _ a w hf31 ⟨v32, rw33, rfl, rfl, hW34⟩ hs
    replace pv0_1h := pv0_1h.le hf31
    replace pv0_2h := pv0_2h.le hf31
    replace hW21 := hW21.le hf31
    replace hle := hle.trans hf31
    replace hbase15 := hbase15.trans hf31
    replace hbase26 := hbase26.trans hf31
    replace hs : St _ _ _ (.blk pv0_0 (.cells #[v32, .int .i64 (x28.2.2.at_)] 94 (0, 0)) :: .row v32 21 1 rw33 :: .blk pb0 (.cells #[.pointer (some ⟨pv0_0, 0, none⟩), pv0_2] 71 (0, 0)) :: .row pv0_2 44 5 pv0_2r :: L) _ _ _ := hs
    refine RL_nil ?_
    refine hK6 _ _ ?_; clear hK6
    refine W_region ?_
    refine sy hs (y_add rfl rfl rfl) ?_; clear hs; intro a w hs
    refine sy (v := .int .i64 ((w64 (y24 + 1)))) hs (y_move rfl) ?_; clear hs; intro a w hs
    refine RL_nil ?_
    replace hs : St _ _ _ (.blk pv0_0 (.cells #[v32, .int .i64 (x28.2.2.at_)] 94 (0, 0)) :: .row v32 21 1 rw33 :: .blk pb0 (.cells #[.pointer (some ⟨pv0_0, 0, none⟩), pv0_2] 71 (0, 0)) :: .row pv0_2 44 5 pv0_2r :: L) _ _ _ := hs
    replace hs : St _ _ _ (.blk pv0_0 (.cells #[v32, .int .i64 (x28.2.2.at_)] 94 (0, 0)) :: .row v32 21 1 rw33 :: .blk pb0 (.cells #[.pointer (some ⟨pv0_0, 0, none⟩), pv0_2] 71 (0, 0)) :: .row pv0_2 44 5 pv0_2r :: L) _ _ _ := hs
    replace hs := hs.front 3
    replace hs := hs.front 2
    replace hs := hs.front 2
    replace hs := hs.front 3
    replace hs : St _ _ _ (.blk pb0 (.cells #[.pointer (some ⟨pv0_0, 0, none⟩), pv0_2] 71 (0, 0)) :: .blk pv0_0 (.cells #[v32, .int .i64 (x28.2.2.at_)] 94 (0, 0)) :: .row v32 21 1 rw33 :: .row pv0_2 44 5 pv0_2r :: L) _ _ _ := hs
    exact hK3 k25 _ _ (Nat.lt_succ_self _) ⟨_, x28.2.2.l, x28.2.2.at_, (w64 (y24 + 1)), v32, rw33, hbase26, hm, hW34, hs.sub ⟨rfl, rfl, trivial⟩⟩
   ·replace hm := oc_f hg27 hm
    refine W_exit ?_
    refine hB2 _ _ ?_
    replace hs : St _ _ _ (.blk pb0 (.cells #[.pointer (some ⟨pv0_0, 0, none⟩), pv0_2] 71 (0, 0)) :: .blk pv0_0 (.cells #[v19, .int .i64 (y23)] 94 (0, 0)) :: .row v19 21 1 rw20 :: .row pv0_2 44 5 pv0_2r :: L) _ _ _ := hs
    replace hs : St _ _ _ (.blk pb0 (.cells #[.pointer (some ⟨pv0_0, 0, none⟩), pv0_2] 71 (0, 0)) :: .blk pv0_0 (.cells #[v19, .int .i64 (y23)] 94 (0, 0)) :: .row v19 21 1 rw20 :: .row pv0_2 44 5 pv0_2r :: L) _ _ _ := hs
    exact ⟨_, y18, y23, v19, rw20, hbase15, hm, hW21, hs.sub trivial⟩
/-! (*casement/mark.cutter).value -/
def mark_cutter_value (n : Nat) (p0 : mark_cutter) : Option (ByteArray × Bool × mark_cutter) :=
  (mark_cutter_peek n p0 0).bind fun x7 =>
  (bif ((decide (x7 ≠ 34)) && (decide (x7 ≠ 39))) then (mark_cutter_while n p0 (fun z0 => mark_cutter_value_1 n z0)).bind fun x12 =>
  some ((textOf x12.1), true, x12.2) else
  (source_Cursor_rune_Next n p0.c).bind fun x29 =>
  (mark_cutter_while n ({c := x29.2.2, out := p0.out} : mark_cutter) (fun z0 => mark_cutter_value_2 n z0 x7)).bind fun x40 =>
  (source_Cursor_rune_Next n x40.2.c).bind fun x57 =>
  some ((textOf x40.1), x57.2.1, ({c := x57.2.2, out := x40.2.out} : mark_cutter)))
set_option maxRecDepth 20000 in
theorem mark_cutter_value_ok (n : Nat) {Q : LQ} {f : Fz} {p0 : mark_cutter} {pb0 : Nat} {pv0_0 : Nat} {pv0_1 : Value} {pv0_1r : List (List Value)} {pv0_2 : Value} {pv0_2r : List (List Value)} {res : (ByteArray × Bool × mark_cutter)} (pv0_1h : RW (tInt .i32) f pv0_1r p0.c.l) (pv0_2h : Q.R f pv0_2r p0.out) (hm : mark_cutter_value n p0 = some res) : Does Try.prog 71 [.pointer (some ⟨pb0, 0, none⟩)] f [.blk pb0 (.cells #[.pointer (some ⟨pv0_0, 0, none⟩), pv0_2] 71 (0, 0)), .blk pv0_0 (.cells #[pv0_1, .int .i64 p0.c.at_] 94 (0, 0)), .row pv0_1 21 1 pv0_1r, .row pv0_2 44 5 pv0_2r] (fun r f' L' => ∃ (dp0_1 : Value) (dp0_1r : List (List Value)) (dp0_2 : Value) (dp0_2r : List (List Value)), L' = [.blk pb0 (.cells #[.pointer (some ⟨pv0_0, 0, none⟩), dp0_2] 71 (0, 0)), .blk pv0_0 (.cells #[dp0_1, .int .i64 res.2.2.c.at_] 94 (0, 0)), .row dp0_1 21 1 dp0_1r, .row dp0_2 44 5 dp0_2r] ∧ r = .tuple #[.string res.1, .bool res.2.1] ∧ RW (tInt .i32) f' dp0_1r res.2.2.c.l ∧ Q.R f' dp0_2r res.2.2.out) := by
 unfold mark_cutter_value at hm
 intro w0 L w hC
 replace hC : Cw w0 f (.blk pb0 (.cells #[.pointer (some ⟨pv0_0, 0, none⟩), pv0_2] 71 (0, 0)) :: .blk pv0_0 (.cells #[pv0_1, .int .i64 p0.c.at_] 94 (0, 0)) :: .row pv0_1 21 1 pv0_1r :: .row pv0_2 44 5 pv0_2r :: L) w := hC
 refine enter Try.func71 rfl Try.ntmps71 (by simp) hC fun a hs => ?_
 have hle := Fz.le.refl f
 refine W_seq fun K1 hK1 => ?_
 refine W_region ?_
 refine sy (v := .string ((bs []))) hs (y_assign rfl) ?_; clear hs; intro a w hs
 refine sy (v := .bool (false)) hs (y_assign rfl) ?_; clear hs; intro a w hs
 refine RL_nil ?_
 refine hK1 _ _ ?_; clear hK1
 refine W_seq fun K2 hK2 => ?_
 refine W_region ?_
 refine sy (v := .pointer (some ⟨pb0, 0, none⟩)) hs (y_move rfl) ?_; clear hs; intro a w hs
 obtain ⟨x7, hx8, hm⟩ := ob hm
 refine sy hs (y_callR (cap := []) (Lf := L) rfl has43 rfl ((((perm_at _ 3 rfl).trans (perm_at _ 3 rfl)).trans (perm_at _ 3 rfl)).trans (perm_at _ 3 rfl)) (mark_cutter_peek_ok n (f := f) (p0 := p0) (pb0 := pb0) (pv0_0 := pv0_0) (pv0_1 := pv0_1) (pv0_1r := pv0_1r) (pv0_2 := pv0_2) (pv0_2r := pv0_2r) (p1 := 0) pv0_1h pv0_2h hx8)) ?_; clear hs; intro a w hs
 refine RL_alloc hs ti21 (.free rfl) (by decide) ?_; clear hs; intro b9 a w hs
 replace hs : St _ _ _ (.blk b9 (.cells #[.int .i32 (0)] 21 (0, 0)) :: .blk pb0 (.cells #[.pointer (some ⟨pv0_0, 0, none⟩), pv0_2] 71 (0, 0)) :: .blk pv0_0 (.cells #[pv0_1, .int .i64 (p0.c.at_)] 94 (0, 0)) :: .row pv0_1 21 1 pv0_1r :: .row pv0_2 44 5 pv0_2r :: L) _ _ _ := hs
 refine sstore 0 hs rfl rfl rfl ti21 rfl ?_; clear hs; intro a w hs
 replace hs : St _ _ _ (.blk b9 (.cells #[.int .i32 (x7)] 21 (0, 0)) :: .blk pb0 (.cells #[.pointer (some ⟨pv0_0, 0, none⟩), pv0_2] 71 (0, 0)) :: .blk pv0_0 (.cells #[pv0_1, .int .i64 (p0.c.at_)] 94 (0, 0)) :: .row pv0_1 21 1 pv0_1r :: .row pv0_2 44 5 pv0_2r :: L) _ _ _ := hs
 refine RL_nil ?_
 refine hK2 _ _ ?_; clear hK2
 refine W_seq fun K3 hK3 => ?_
 refine W_seq fun K4 hK4 => ?_
 refine W_post (fun a w => St 38 w0 f (.blk b9 (.cells #[.int .i32 (x7)] 21 (0, 0)) :: .blk pb0 (.cells #[.pointer (some ⟨pv0_0, 0, none⟩), pv0_2] 71 (0, 0)) :: .blk pv0_0 (.cells #[pv0_1, .int .i64 (p0.c.at_)] 94 (0, 0)) :: .row pv0_1 21 1 pv0_1r :: .row pv0_2 44 5 pv0_2r :: L) [(0, .pointer (some ⟨pb0, 0, none⟩)), (4, .pointer (some ⟨b9, 0, none⟩)), (15, .bool (((decide (x7 ≠ 34)) && (decide (x7 ≠ 39)))))] a w) ?_ ?_
 ·clear hs; intro a w hs
  refine hK4 _ _ ?_; clear hK4
  refine W_cond hs rfl (fun hg11 => ?_) (fun hg11 => ?_)
  ·replace hm := oc_t hg11 hm
   refine W_seq fun K5 hK5 => ?_
   refine W_region ?_
   refine sy (v := .pointer (some ⟨pb0, 0, none⟩)) hs (y_move rfl) ?_; clear hs; intro a w hs
   obtain ⟨x12, hx13, hm⟩ := ob hm
   replace hs := hs.front 4
   replace hs := hs.front 4
   replace hs := hs.front 4
   replace hs := hs.front 4
   replace hs : St _ _ _ (.blk pb0 (.cells #[.pointer (some ⟨pv0_0, 0, none⟩), pv0_2] 71 (0, 0)) :: .blk pv0_0 (.cells #[pv0_1, .int .i64 (p0.c.at_)] 94 (0, 0)) :: .row pv0_1 21 1 pv0_1r :: .row pv0_2 44 5 pv0_2r :: .blk b9 (.cells #[.int .i32 (x7)] 21 (0, 0)) :: L) _ _ _ := hs
   refine RL_call (Lr := [.blk pb0 (.cells #[.pointer (some ⟨pv0_0, 0, none⟩), pv0_2] 71 (0, 0)), .blk pv0_0 (.cells #[pv0_1, .int .i64 (p0.c.at_)] 94 (0, 0)), .row pv0_1 21 1 pv0_1r, .row pv0_2 44 5 pv0_2r]) (Lf := .blk b9 (.cells #[.int .i32 (x7)] 21 (0, 0)) :: L) hs rfl has67 rfl rfl (mark_cutter_while_ok n (f := f) (p0 := p0) (pb0 := pb0) (pv0_0 := pv0_0) (pv0_1 := pv0_1) (pv0_1r := pv0_1r) (pv0_2 := pv0_2) (pv0_2r := pv0_2r) (g1 := 81) (cap1 := []) pv0_1h pv0_2h has81 (fun f9 hle9 z0 r9  h9 => mark_cutter_value_1_ok n (f := f9)   h9) hx13) (.free rfl) (by decide) ?_; clear hs
   rintro v16 f14 _ a w hf15 ⟨_, v20, rw21, v23, rw24, rfl, rfl, ⟨rw17, hR18, hW19⟩, hW22, hW25⟩ hs
   replace pv0_1h := pv0_1h.le hf15
   replace pv0_2h := pv0_2h.le hf15
   replace hle := hle.trans hf15
   replace hs : St _ _ _ (.blk pb0 (.cells #[.pointer (some ⟨pv0_0, 0, none⟩), v23] 71 (0, 0)) :: .blk pv0_0 (.cells #[v20, .int .i64 (x12.2.c.at_)] 94 (0, 0)) :: .row v20 21 1 rw21 :: .row v23 44 5 rw24 :: .blk b9 (.cells #[.int .i32 (x7)] 21 (0, 0)) :: L) _ _ _ := hs
   refine sy (v := .string ((textOf x12.1))) hs (y_r2sW rfl Try.underlying32 Try.underlying21 Try.underlying9 hR18.up hW19) ?_; clear hs; intro a w hs
   refine sy (v := .string ((textOf x12.1))) hs (y_assign rfl) ?_; clear hs; intro a w hs
   refine sy (v := .bool (true)) hs (y_assign rfl) ?_; clear hs; intro a w hs
   refine RL_nil ?_
   refine hK5 _ _ ?_; clear hK5
   refine W_ret ?_
   obtain rfl := Option.some.inj hm
   refine RtV2 hs rfl (rv_t hs rfl) (rv_t hs rfl) ?_
   exact ⟨_, f14, [.blk pb0 (.cells #[.pointer (some ⟨pv0_0, 0, none⟩), v23] 71 (0, 0)), .blk pv0_0 (.cells #[v20, .int .i64 (x12.2.c.at_)] 94 (0, 0)), .row v20 21 1 rw21, .row v23 44 5 rw24], rfl, hle, (hs.subL (.cons_cons _ (.cons_cons _ (.cons_cons _ (.cons_cons _ (.cons _ (.refl _))))))).cw, v20, rw21, v23, rw24, rfl, rfl, hW22, hW25⟩
  ·replace hm := oc_f hg11 hm
   refine W_skip ?_
   refine hK3 _ _ ?_; clear hK3
   refine W_seq fun K6 hK6 => ?_
   refine W_region ?_
   refine sy (v := .pointer (some ⟨pb0, 0, none⟩)) hs (y_move rfl) ?_; clear hs; intro a w hs
   refine sy hs (y_nilCheck rfl) ?_; clear hs; intro a w hs
   refine sy (v := .pointer (some ⟨pb0, 0, none⟩)) hs (y_fieldAddr rfl (FO.of (off := 0) Try.underlying71 rfl rfl ti68 (by decide))) ?_; clear hs; intro a w hs
   refine sy (v := .pointer (some ⟨pv0_0, 0, none⟩)) hs (y_ld rfl Try.underlying68 rfl (Cell.blk (.tail _ (.head _)) rfl)) ?_; clear hs; intro a w hs
   obtain ⟨x29, hx30, hm⟩ := ob hm
   replace hs := hs.front 3
   replace hs := hs.front 3
   replace hs : St _ _ _ (.blk pv0_0 (.cells #[pv0_1, .int .i64 (p0.c.at_)] 94 (0, 0)) :: .row pv0_1 21 1 pv0_1r :: .blk b9 (.cells #[.int .i32 (x7)] 21 (0, 0)) :: .blk pb0 (.cells #[.pointer (some ⟨pv0_0, 0, none⟩), pv0_2] 71 (0, 0)) :: .row pv0_2 44 5 pv0_2r :: L) _ _ _ := hs
   refine RL_call (Lr := [.blk pv0_0 (.cells #[pv0_1, .int .i64 (p0.c.at_)] 94 (0, 0)), .row pv0_1 21 1 pv0_1r]) (Lf := .blk b9 (.cells #[.int .i32 (x7)] 21 (0, 0)) :: .blk pb0 (.cells #[.pointer (some ⟨pv0_0, 0, none⟩), pv0_2] 71 (0, 0)) :: .row pv0_2 44 5 pv0_2r :: L) hs rfl has47 rfl rfl (source_Cursor_rune_Next_ok n (f := f) (p0 := p0.c) (pb0 := pv0_0) (pv0_0 := pv0_1) (pv0_0r := pv0_1r) pv0_1h hx30) (.free rfl) (by decide) ?_; clear hs
   rintro _ f31 _ a w hf32 ⟨v33, rw34, rfl, rfl, hW35⟩ hs
   replace pv0_1h := pv0_1h.le hf32
   replace pv0_2h := pv0_2h.le hf32
   replace hle := hle.trans hf32
   replace hs : St _ _ _ (.blk pv0_0 (.cells #[v33, .int .i64 (x29.2.2.at_)] 94 (0, 0)) :: .row v33 21 1 rw34 :: .blk b9 (.cells #[.int .i32 (x7)] 21 (0, 0)) :: .blk pb0 (.cells #[.pointer (some ⟨pv0_0, 0, none⟩), pv0_2] 71 (0, 0)) :: .row pv0_2 44 5 pv0_2r :: L) _ _ _ := hs
   refine RL_nil ?_
   refine hK6 _ _ ?_; clear hK6
   refine W_seq fun K7 hK7 => ?_
   refine W_region ?_
   refine sy (v := .pointer (some ⟨pb0, 0, none⟩)) hs (y_move rfl) ?_; clear hs; intro a w hs
   obtain ⟨f37, hf38, hs2, hB39⟩ := hs.frzB 2 rfl
   clear hs; have hs := hs2; clear hs2
   replace pv0_2h := pv0_2h.le hf38
   replace hW35 := hW35.le hf38
   replace hle := hle.trans hf38
   replace hs : St _ _ _ (.blk pv0_0 (.cells #[v33, .int .i64 (x29.2.2.at_)] 94 (0, 0)) :: .row v33 21 1 rw34 :: .blk pb0 (.cells #[.pointer (some ⟨pv0_0, 0, none⟩), pv0_2] 71 (0, 0)) :: .row pv0_2 44 5 pv0_2r :: L) _ _ _ := hs
   refine sy hs (y_makeFunc rfl) ?_; clear hs; intro a w hs
   obtain ⟨x40, hx41, hm⟩ := ob hm
   replace hs := hs.front 3
   replace hs := hs.front 2
   replace hs := hs.front 2
   replace hs := hs.front 3
   replace hs : St _ _ _ (.blk pb0 (.cells #[.pointer (some ⟨pv0_0, 0, none⟩), pv0_2] 71 (0, 0)) :: .blk pv0_0 (.cells #[v33, .int .i64 (x29.2.2.at_)] 94 (0, 0)) :: .row v33 21 1 rw34 :: .row pv0_2 44 5 pv0_2r :: L) _ _ _ := hs
   refine RL_call (Lr := [.blk pb0 (.cells #[.pointer (some ⟨pv0_0, 0, none⟩), pv0_2] 71 (0, 0)), .blk pv0_0 (.cells #[v33, .int .i64 (x29.2.2.at_)] 94 (0, 0)), .row v33 21 1 rw34, .row pv0_2 44 5 pv0_2r]) (Lf := L) hs rfl has67 rfl rfl (mark_cutter_while_ok n (f := f37) (p0 := ({c := x29.2.2, out := p0.out} : mark_cutter)) (pb0 := pb0) (pv0_0 := pv0_0) (pv0_1 := v33) (pv0_1r := rw34) (pv0_2 := pv0_2) (pv0_2r := pv0_2r) (g1 := 82) (cap1 := [.pointer (some ⟨b9, 0, none⟩)]) hW35 pv0_2h has82 (fun f9 hle9 z0 r9  h9 => mark_cutter_value_2_ok n (f := f9) (cb0 := b9) (ca0 := [.int .i32 (x7)]) rfl (hle9 _ _ hB39) h9) hx41) (.free rfl) (by decide) ?_; clear hs
   rintro v44 f42 _ a w hf43 ⟨_, v48, rw49, v51, rw52, rfl, rfl, ⟨rw45, hR46, hW47⟩, hW50, hW53⟩ hs
   replace pv0_2h := pv0_2h.le hf43
   replace hW35 := hW35.le hf43
   replace hB39 := hf43 _ _ hB39
   replace hle := hle.trans hf43
   replace hs : St _ _ _ (.blk pb0 (.cells #[.pointer (some ⟨pv0_0, 0, none⟩), v51] 71 (0, 0)) :: .blk pv0_0 (.cells #[v48, .int .i64 (x40.2.c.at_)] 94 (0, 0)) :: .row v48 21 1 rw49 :: .row v51 44 5 rw52 :: L) _ _ _ := hs
   refine sy (v := v44) hs (y_assign rfl) ?_; clear hs; intro a w hs
   refine RL_nil ?_
   refine hK7 _ _ ?_; clear hK7
   refine W_seq fun K8 hK8 => ?_
   refine W_region ?_
   refine sy (v := .pointer (some ⟨pb0, 0, none⟩)) hs (y_move rfl) ?_; clear hs; intro a w hs
   refine sy hs (y_nilCheck rfl) ?_; clear hs; intro a w hs
   refine sy (v := .pointer (some ⟨pb0, 0, none⟩)) hs (y_fieldAddr rfl (FO.of (off := 0) Try.underlying71 rfl rfl ti68 (by decide))) ?_; clear hs; intro a w hs
   refine sy (v := .pointer (some ⟨pv0_0, 0, none⟩)) hs (y_ld rfl Try.underlying68 rfl (Cell.blk (.head _) rfl)) ?_; clear hs; intro a w hs
   obtain ⟨x57, hx58, hm⟩ := ob hm
   replace hs := hs.front 2
   replace hs := hs.front 2
   replace hs : St _ _ _ (.blk pv0_0 (.cells #[v48, .int .i64 (x40.2.c.at_)] 94 (0, 0)) :: .row v48 21 1 rw49 :: .blk pb0 (.cells #[.pointer (some ⟨pv0_0, 0, none⟩), v51] 71 (0, 0)) :: .row v51 44 5 rw52 :: L) _ _ _ := hs
   refine RL_call (Lr := [.blk pv0_0 (.cells #[v48, .int .i64 (x40.2.c.at_)] 94 (0, 0)), .row v48 21 1 rw49]) (Lf := .blk pb0 (.cells #[.pointer (some ⟨pv0_0, 0, none⟩), v51] 71 (0, 0)) :: .row v51 44 5 rw52 :: L) hs rfl has47 rfl rfl (source_Cursor_rune_Next_ok n (f := f42) (p0 := x40.2.c) (pb0 := pv0_0) (pv0_0 := v48) (pv0_0r := rw49) hW50 hx58) (.free rfl) (by decide) ?_; clear hs
   rintro _ f59 _ a w hf60 ⟨v61, rw62, rfl, rfl, hW63⟩ hs
   replace pv0_2h := pv0_2h.le hf60
   replace hW35 := hW35.le hf60
   replace hB39 := hf60 _ _ hB39
   replace hR46 := hR46.le hf60
   replace hW47 := hW47.le hf60
   replace hW50 := hW50.le hf60
   replace hW53 := hW53.le hf60
   replace hle := hle.trans hf60
   replace hs : St _ _ _ (.blk pv0_0 (.cells #[v61, .int .i64 (x57.2.2.at_)] 94 (0, 0)) :: .row v61 21 1 rw62 :: .blk pb0 (.cells #[.pointer (some ⟨pv0_0, 0, none⟩), v51] 71 (0, 0)) :: .row v51 44 5 rw52 :: L) _ _ _ := hs
   refine sy (v := .tuple #[.int .i32 (x57.1), .bool (x57.2.1)]) hs (y_move rfl) ?_; clear hs; intro a w hs
   refine sy (v := .int .i32 (x57.1)) hs (y_extract rfl rfl) ?_; clear hs; intro a w hs
   refine sy (v := .bool (x57.2.1)) hs (y_extract rfl rfl) ?_; clear hs; intro a w hs
   refine sy (v := .int .i32 (x57.1)) hs (y_assign rfl) ?_; clear hs; intro a w hs
   refine sy (v := .bool (x57.2.1)) hs (y_assign rfl) ?_; clear hs; intro a w hs
   refine RL_nil ?_
   refine hK8 _ _ ?_; clear hK8
   refine W_seq fun K9 hK9 => ?_
   refine W_region ?_
   refine sy (v := v44) hs (y_move rfl) ?_; clear hs; intro a w hs
   refine sy (v := .string ((textOf x40.1))) hs (y_r2sW rfl Try.underlying32 Try.underlying21 Try.underlying9 hR46.up hW47) ?_; clear hs; intro a w hs
   refine sy (v := .bool (x57.2.1)) hs (y_move rfl) ?_; clear hs; intro a w hs
   refine sy (v := .string ((textOf x40.1))) hs (y_assign rfl) ?_; clear hs; intro a w hs
   refine sy (v := .bool (x57.2.1)) hs (y_assign rfl) ?_; clear hs; intro a w hs
   refine RL_nil ?_
   refine hK9 _ _ ?_; clear hK9
   refine W_ret ?_
   obtain rfl := Option.some.inj hm
   replace hs := hs.front 3
   replace hs := hs.front 2
   replace hs := hs.front 2
   replace hs := hs.front 3
   replace hs : St _ _ _ (.blk pb0 (.cells #[.pointer (some ⟨pv0_0, 0, none⟩), v51] 71 (0, 0)) :: .blk pv0_0 (.cells #[v61, .int .i64 (x57.2.2.at_)] 94 (0, 0)) :: .row v61 21 1 rw62 :: .row v51 44 5 rw52 :: L) _ _ _ := hs
   refine RtV2 hs rfl (rv_t hs rfl) (rv_t hs rfl) ?_
   exact ⟨_, f59, [.blk pb0 (.cells #[.pointer (some ⟨pv0_0, 0, none⟩), v51] 71 (0, 0)), .blk pv0_0 (.cells #[v61, .int .i64 (x57.2.2.at_)] 94 (0, 0)), .row v61 21 1 rw62, .row v51 44 5 rw52], rfl, hle, hs.cw, v61, rw62, v51, rw52, rfl, rfl, hW63, hW53⟩
 ·refine W_region ?_
  refine sy (v := .int .i32 (x7)) hs (y_ld rfl Try.underlying21 rfl (Cell.blk (.head _) rfl)) ?_; clear hs; intro a w hs
  refine sy hs (y_neq rfl rfl) ?_; clear hs; intro a w hs
  refine sy (v := .bool (decide (x7 ≠ 34))) hs (y_move rfl) ?_; clear hs; intro a w hs
  refine St.split hs (t := 12) rfl (fun hg65 hq => ?_) (fun hg65 hq => ?_)
  ·clear hs; have hs := hq; clear hq
   refine syg (v := .int .i32 (x7)) hs (y_ld rfl Try.underlying21 rfl (Cell.blk (.head _) rfl)) ?_; clear hs; intro a w hs
   refine syg hs (y_neq rfl rfl) ?_; clear hs; intro a w hs
   refine sy (v := .bool (decide (x7 ≠ 39))) hs (y_pick rfl rfl) ?_; clear hs; intro a w hs
   refine RL_nil ?_
   exact hs.sub ⟨rfl, rfl, (lkB (((and_t hg65).trans rfl)) rfl), trivial⟩
  ·clear hs; have hs := hq; clear hq
   refine sno hs ?_; clear hs; intro a w hs
   refine sno hs ?_; clear hs; intro a w hs
   refine sy (v := .bool (false)) hs (y_pick rfl rfl) ?_; clear hs; intro a w hs
   refine RL_nil ?_
   exact hs.sub ⟨rfl, rfl, (lkB (((and_f hg65).trans rfl)) rfl), trivial⟩
/-! casement/mark.has -/
def mark_has_k1 : Option Bool :=
  some false
def mark_has_l2 (p0 : (List api_Attr)) (p1 : ByteArray) : Nat → Int → Option Bool
  | 0, _ => none
  | k6 + 1, y5 =>
  (bif (decide (y5 < (p0.length : Int))) then (geti p0 y5).bind fun x8 =>
  (bif (decide (x8.Name = p1)) then some true else
  (mark_has_l2 p0 p1 k6) (w64 (y5 + 1))) else
  mark_has_k1)
def mark_has (n : Nat) (p0 : (List api_Attr)) (p1 : ByteArray) : Option Bool :=
  mark_has_l2 p0 p1 n 0
set_option maxRecDepth 20000 in
theorem mark_has_ok (n : Nat) {f : Fz} {p0 : (List api_Attr)} {a0 : Value} {p1 : ByteArray} {res : Bool} (h0 : RS t_api_Attr f a0 p0) (hm : mark_has n p0 p1 = some res) : Gives Try.prog 72 [a0, .string p1] f (.bool res) := by
 unfold mark_has at hm
 intro w0 L w hC
 obtain ⟨rw1, hR2, hW3⟩ := h0
 refine enter Try.func72 rfl Try.ntmps72 (by simp) hC fun a hs => ?_
 have hle := Fz.le.refl f
 refine W_seq fun K1 hK1 => ?_
 refine W_region ?_
 refine sy (v := .bool (false)) hs (y_assign rfl) ?_; clear hs; intro a w hs
 refine RL_nil ?_
 refine hK1 _ _ ?_; clear hK1
 refine W_seq fun K2 hK2 => ?_
 refine W_seq fun K3 hK3 => ?_
 refine W_region ?_
 refine sy (v := a0) hs (y_move rfl) ?_; clear hs; intro a w hs
 refine sy hs (y_lenW hR2 hW3 rfl Try.underlying23) ?_; clear hs; intro a w hs
 refine sy (v := .int .i64 (0)) hs (y_move rfl) ?_; clear hs; intro a w hs
 refine RL_nil ?_
 refine hK3 _ _ ?_; clear hK3
 refine W_post (fun a w => mark_has_k1 = some res ∧ St 18 w0 f (L) [] a w) ?_ ?_
 ·clear hs hm
  rintro a w ⟨hm, hs⟩
  replace hs : St _ _ _ (L) _ _ _ := hs
  unfold mark_has_k1 at hm
  refine hK2 _ _ ?_; clear hK2
  refine W_seq fun K4 hK4 => ?_
  refine W_region ?_
  refine sy (v := .bool (false)) hs (y_assign rfl) ?_; clear hs; intro a w hs
  refine RL_nil ?_
  refine hK4 _ _ ?_; clear hK4
  refine W_ret ?_
  obtain rfl := Option.some.inj hm
  refine RtV1 hs rfl (rv_t hs rfl) ?_
  exact ⟨rfl, (hs.weak hle).cw⟩
 ·refine W_block fun Qe5 hB5 hO5 => ?_
  refine W_loop (fun (k : Nat) a w => ∃ (y5 : Int), mark_has_l2 p0 p1 k y5 = some res ∧ St 18 w0 f (L) [(1, .string (p1)), (7, a0), (8, .int .i64 ((p0.length : Int))), (9, .int .i64 (y5))] a w) (fun k => k) n ⟨0, hm, hs.sub ⟨rfl, rfl, rfl, rfl, trivial⟩⟩ ?_
  clear hs hm
  intro k
  rintro a w ⟨y5, hm, hs⟩
  replace hs : St _ _ _ (L) _ _ _ := hs
  intro K6 hK6
  cases k with
  | zero => simp [mark_has_l2] at hm
  | succ k6 =>
   rw [mark_has_l2] at hm
   refine W_seq fun K7 hK7 => ?_
   refine W_region ?_
   refine sy hs (y_lss rfl rfl) ?_; clear hs; intro a w hs
   refine RL_nil ?_
   refine hK7 _ _ ?_; clear hK7
   refine W_seq fun K8 hK8 => ?_
   refine W_cond hs rfl (fun hg7 => ?_) (fun hg7 => ?_)
   ·replace hm := oc_t hg7 hm
    refine W_skip ?_
    refine hK8 _ _ ?_; clear hK8
    refine W_seq fun K9 hK9 => ?_
    refine W_block fun Qe10 hB10 hO10 => ?_
    refine W_seq fun K11 hK11 => ?_
    refine W_region ?_
    obtain ⟨x8, hx9, hm⟩ := ob hm
    obtain ⟨r10, hr11, hq12, hi13, hb14⟩ := hW3.geti hx9
    obtain rfl : _ = ([.string (x8.Name), .string (x8.Value)] : List Value) := hq12
    refine sy hs (y_indexAddr hR2 rfl rfl hi13 hb14 Try.underlying23 ti29) ?_; clear hs; intro a w hs
    refine sy hs (y_loadRow hR2.up rfl hr11 Try.underlying29 rfl ti29) ?_; clear hs; intro a w hs
    refine RL_alloc hs ti29 (.free rfl) (by decide) ?_; clear hs; intro b15 a w hs
    replace hs : St _ _ _ (.blk b15 (.cells #[.string ((bs [])), .string ((bs []))] 29 (0, 0)) :: L) _ _ _ := hs
    refine RL_storeAll (i := 0) hs rfl rfl rfl ti29 ⟨rfl, rfl⟩ (AllC.arr (r := [.string (x8.Name), .string (x8.Value)]) ⟨rfl, rfl, trivial⟩) (.free rfl) ?_; clear hs; intro a w hs
    replace hs : St _ _ _ (.blk b15 (.cells #[.string (x8.Name), .string (x8.Value)] 29 (0, 0)) :: L) _ _ _ := hs
    refine RL_nil ?_
    refine hK11 _ _ ?_; clear hK11
    refine W_seq fun K12 hK12 => ?_
    refine W_region ?_
    refine sy (v := .pointer (some ⟨b15, 0, none⟩)) hs (y_fieldAddr rfl (FO.of (off := 0) Try.underlying29 rfl rfl ti9 (by decide))) ?_; clear hs; intro a w hs
    refine sy (v := .string (x8.Name)) hs (y_ld rfl Try.underlying9 rfl (Cell.blk (.head _) rfl)) ?_; clear hs; intro a w hs
    refine sy (v := .string (p1)) hs (y_move rfl) ?_; clear hs; intro a w hs
    refine sy hs (y_seql rfl rfl) ?_; clear hs; intro a w hs
    refine RL_nil ?_
    refine hK12 _ _ ?_; clear hK12
    refine W_cond hs rfl (fun hg17 => ?_) (fun hg17 => ?_)
    ·replace hm := oc_t hg17 hm
     refine W_seq fun K13 hK13 => ?_
     refine W_region ?_
     refine sy (v := .bool (true)) hs (y_assign rfl) ?_; clear hs; intro a w hs
     refine RL_nil ?_
     refine hK13 _ _ ?_; clear hK13
     refine W_ret ?_
     obtain rfl := Option.some.inj hm
     refine RtV1 hs rfl (rv_t hs rfl) ?_
     exact ⟨rfl, ((hs.subL (.cons _ (.refl _))).weak hle).cw⟩
    ·replace hm := oc_f hg17 hm
     refine W_skip ?_
     refine hK9 _ _ ?_; clear hK9
     refine W_region ?_
     refine sy hs (y_add rfl rfl rfl) ?_; clear hs; intro a w hs
     refine sy (v := .int .i64 ((w64 (y5 + 1)))) hs (y_move rfl) ?_; clear hs; intro a w hs
     refine RL_nil ?_
     exact hK6 k6 _ _ (Nat.lt_succ_self _) ⟨(w64 (y5 + 1)), hm, hs.subs ⟨rfl, rfl, rfl, rfl, trivial⟩ (.cons _ (.refl _))⟩
   ·replace hm := oc_f hg7 hm
    refine W_exit ?_
    refine hB5 _ _ ?_
    exact ⟨hm, hs.sub trivial⟩
/-! (*casement/mark.cutter).raw -/
def mark_cutter_raw_k3 (y11 : (List Int)) (y16 : Int) (y24 : (List mark_Token)) : Option mark_cutter :=
  some ({c := ({l := y11, at_ := y16} : source_Cursor_rune_), out := y24} : mark_cutter)
def mark_cutter_raw_k2 (p0 : mark_cutter) (y11 : (List Int)) (y16 : Int) (y18 : (List Int)) : Option mark_cutter :=
  (bif (decide (0 < (y18.length : Int))) then (appM 72 p0.out [({Kind := 1, Name := (bs []), Text := (textOf y18), Attrs := ([] : List api_Attr), Closed := false} : mark_Token)]).bind fun x37 =>
  mark_cutter_raw_k3 y11 y16 x37 else
  mark_cutter_raw_k3 y11 y16 p0.out)
def mark_cutter_raw_l4 (n : Nat) (p0 : mark_cutter) (y7 : Int) : Nat → (List Int) → Int → (List Int) → Int → Option mark_cutter
  | 0, _, _, _, _ => none
  | k63 + 1, y46, y51, y53, y58 =>
  (bif (decide (y58 < y7)) then (source_Cursor_rune_Next n ({l := y46, at_ := y51} : source_Cursor_rune_)).bind fun x66 =>
  (appM 4 y53 [x66.1]).bind fun x79 =>
  (mark_cutter_raw_l4 n p0 y7 k63) x66.2.2.l x66.2.2.at_ x79 (w64 (y58 + 1)) else
  mark_cutter_raw_k2 p0 y46 y51 y53)
def mark_cutter_raw_k1 (n : Nat) (p0 : mark_cutter) (y7 : Int) : Option mark_cutter :=
  mark_cutter_raw_l4 n p0 y7 n p0.c.l p0.c.at_ ([] : List Int) 0
def mark_cutter_raw_k6 (y85 : Int) (lp86 : Int → Option mark_cutter) : Option mark_cutter :=
  lp86 (w64 (y85 + 1))
def mark_cutter_raw_k8 (n : Nat) (p0 : mark_cutter) (y85 : Int) (lp86 : Int → Option mark_cutter) (y102 : Bool) : Option mark_cutter :=
  (bif y102 then mark_cutter_raw_k1 n p0 y85 else
  mark_cutter_raw_k6 y85 lp86)
def mark_cutter_raw_k7 (n : Nat) (p0 : mark_cutter) (p1 : ByteArray) (y85 : Int) (lp86 : Int → Option mark_cutter) (y95 : (List Int)) : Option mark_cutter :=
  (source_Cursor_rune_Peek n p0.c (w64 ((w64 (y85 + 2)) + (p1.size : Int)))).bind fun x100 =>
  (mark_small n y95).bind fun x104 =>
  (bif (decide (x104 = p1)) then (bif (!x100.2) then mark_cutter_raw_k8 n p0 y85 lp86 true else
  (mark_blank n x100.1).bind fun x108 =>
  (bif x108 then mark_cutter_raw_k8 n p0 y85 lp86 true else
  (bif (decide (x100.1 = 47)) then mark_cutter_raw_k8 n p0 y85 lp86 true else
  mark_cutter_raw_k8 n p0 y85 lp86 (decide (x100.1 = 62))))) else
  mark_cutter_raw_k8 n p0 y85 lp86 false)
def mark_cutter_raw_l9 (n : Nat) (p0 : mark_cutter) (p1 : ByteArray) (y85 : Int) (lp86 : Int → Option mark_cutter) : Nat → (List Int) → Int → Option mark_cutter
  | 0, _, _ => none
  | k123 + 1, y113, y118 =>
  (bif (decide (y118 < (p1.size : Int))) then (mark_cutter_peek n p0 (w64 ((w64 (y85 + 2)) + y118))).bind fun x125 =>
  (appM 4 y113 [x125]).bind fun x132 =>
  (mark_cutter_raw_l9 n p0 p1 y85 lp86 k123) x132 (w64 (y118 + 1)) else
  mark_cutter_raw_k7 n p0 p1 y85 lp86 y113)
def mark_cutter_raw_l5 (n : Nat) (p0 : mark_cutter) (p1 : ByteArray) : Nat → Int → Option mark_cutter
  | 0, _ => none
  | k86 + 1, y85 =>
  (source_Cursor_rune_Left n p0.c).bind fun x87 =>
  (bif (decide (y85 < x87)) then (mark_cutter_is n p0 y85 (bs [60, 47])).bind fun x90 =>
  (bif (!x90) then mark_cutter_raw_k6 y85 (mark_cutter_raw_l5 n p0 p1 k86) else
  mark_cutter_raw_l9 n p0 p1 y85 (mark_cutter_raw_l5 n p0 p1 k86) n ([] : List Int) 0) else
  mark_cutter_raw_k1 n p0 y85)
def mark_cutter_raw (n : Nat) (p0 : mark_cutter) (p1 : ByteArray) : Option mark_cutter :=
  mark_cutter_raw_l5 n p0 p1 n 0
set_option maxRecDepth 20000 in
theorem mark_cutter_raw_ok (n : Nat) {Q : LQ} {f : Fz} {p0 : mark_cutter} {pb0 : Nat} {pv0_0 : Nat} {pv0_1 : Value} {pv0_1r : List (List Value)} {pv0_2 : Value} {pv0_2r : List (List Value)} {p1 : ByteArray} {res : mark_cutter} (pv0_1h : RW (tInt .i32) f pv0_1r p0.c.l) (pv0_2h : Q.R f pv0_2r p0.out) (hm : mark_cutter_raw n p0 p1 = some res) : Does Try.prog 49 [.pointer (some ⟨pb0, 0, none⟩), .string p1] f [.blk pb0 (.cells #[.pointer (some ⟨pv0_0, 0, none⟩), pv0_2] 71 (0, 0)), .blk pv0_0 (.cells #[pv0_1, .int .i64 p0.c.at_] 94 (0, 0)), .row pv0_1 21 1 pv0_1r, .row pv0_2 44 5 pv0_2r] (fun r f' L' => ∃ (dp0_1 : Value) (dp0_1r : List (List Value)) (dp0_2 : Value) (dp0_2r : List (List Value)), L' = [.blk pb0 (.cells #[.pointer (some ⟨pv0_0, 0, none⟩), dp0_2] 71 (0, 0)), .blk pv0_0 (.cells #[dp0_1, .int .i64 res.c.at_] 94 (0, 0)), .row dp0_1 21 1 dp0_1r, .row dp0_2 44 5 dp0_2r] ∧ r = .tuple #[] ∧ RW (tInt .i32) f' dp0_1r res.c.l ∧ Q.R f' dp0_2r res.out) := by
 unfold mark_cutter_raw at hm
 intro w0 L w hC
 replace hC : Cw w0 f (.blk pb0 (.cells #[.pointer (some ⟨pv0_0, 0, none⟩), pv0_2] 71 (0, 0)) :: .blk pv0_0 (.cells #[pv0_1, .int .i64 p0.c.at_] 94 (0, 0)) :: .row pv0_1 21 1 pv0_1r :: .row pv0_2 44 5 pv0_2r :: L) w := hC
 refine enter Try.func49 rfl Try.ntmps49 (by simp) hC fun a hs => ?_
 have hle := Fz.le.refl f
 refine W_seq fun K1 hK1 => ?_
 refine W_region ?_
 refine sy (v := .int .i64 (0)) hs (y_assign rfl) ?_; clear hs; intro a w hs
 refine RL_nil ?_
 refine hK1 _ _ ?_; clear hK1
 refine W_seq fun K2 hK2 => ?_
 refine W_post (fun a w => ∃ (y7 : Int), mark_cutter_raw_k1 n p0 y7 = some res ∧ St 104 w0 f (.blk pb0 (.cells #[.pointer (some ⟨pv0_0, 0, none⟩), pv0_2] 71 (0, 0)) :: .blk pv0_0 (.cells #[pv0_1, .int .i64 (p0.c.at_)] 94 (0, 0)) :: .row pv0_1 21 1 pv0_1r :: .row pv0_2 44 5 pv0_2r :: L) [(0, .pointer (some ⟨pb0, 0, none⟩)), (4, .int .i64 (y7))] a w) ?_ ?_
 ·clear hs hm
  rintro a w ⟨y7, hm, hs⟩
  replace hs : St _ _ _ (.blk pb0 (.cells #[.pointer (some ⟨pv0_0, 0, none⟩), pv0_2] 71 (0, 0)) :: .blk pv0_0 (.cells #[pv0_1, .int .i64 (p0.c.at_)] 94 (0, 0)) :: .row pv0_1 21 1 pv0_1r :: .row pv0_2 44 5 pv0_2r :: L) _ _ _ := hs
  unfold mark_cutter_raw_k1 at hm
  refine hK2 _ _ ?_; clear hK2
  refine W_seq fun K3 hK3 => ?_
  refine W_region ?_
  refine sy (v := (.slice none 0 0)) hs (y_assign rfl) ?_; clear hs; intro a w hs
  refine RL_nil ?_
  refine hK3 _ _ ?_; clear hK3
  refine W_seq fun K4 hK4 => ?_
  refine W_seq fun K5 hK5 => ?_
  refine W_region ?_
  refine sy (v := .int .i64 (y7)) hs (y_move rfl) ?_; clear hs; intro a w hs
  refine sy (v := .int .i64 (0)) hs (y_move rfl) ?_; clear hs; intro a w hs
  refine RL_nil ?_
  refine hK5 _ _ ?_; clear hK5
  have hbase23 := Fz.le.refl f
  refine W_post (fun a w => ∃ (f9 : Fz) (y11 : (List Int)) (y16 : Int) (y18 : (List Int)) (v12 : Value) (rw13 : List (List Value)) (v19 : Value) (rw20 : List (List Value)), Fz.le f f9 ∧ mark_cutter_raw_k2 p0 y11 y16 y18 = some res ∧ RW (tInt .i32) f9 rw13 y11 ∧ RW (tInt .i32) f9 rw20 y18 ∧ St 104 w0 f9 (.row v19 21 1 rw20 :: .blk pb0 (.cells #[.pointer (some ⟨pv0_0, 0, none⟩), pv0_2] 71 (0, 0)) :: .blk pv0_0 (.cells #[v12, .int .i64 (y16)] 94 (0, 0)) :: .row v12 21 1 rw13 :: .row pv0_2 44 5 pv0_2r :: L) [(0, .pointer (some ⟨pb0, 0, none⟩)), (9, v19)] a w) ?_ ?_
  ·clear hs hm
   clear hbase23
   rintro a w ⟨f9, y11, y16, y18, v12, rw13, v19, rw20, hl10, hm, hW14, hW21, hs⟩
   replace pv0_1h := pv0_1h.le hl10
   replace pv0_2h := pv0_2h.le hl10
   replace hle := hle.trans hl10
   replace hs : St _ _ _ (.row v19 21 1 rw20 :: .blk pb0 (.cells #[.pointer (some ⟨pv0_0, 0, none⟩), pv0_2] 71 (0, 0)) :: .blk pv0_0 (.cells #[v12, .int .i64 (y16)] 94 (0, 0)) :: .row v12 21 1 rw13 :: .row pv0_2 44 5 pv0_2r :: L) _ _ _ := hs
   unfold mark_cutter_raw_k2 at hm
   refine hK4 _ _ ?_; clear hK4
   refine W_seq fun K6 hK6 => ?_
   refine W_region ?_
   refine sy (v := v19) hs (y_move rfl) ?_; clear hs; intro a w hs
   refine sy hs (y_lenW (Rd.st hs (.head _)) hW21 rfl Try.underlying32) ?_; clear hs; intro a w hs
   refine sy hs (y_gtr rfl rfl) ?_; clear hs; intro a w hs
   refine RL_nil ?_
   refine hK6 _ _ ?_; clear hK6
   refine W_post (fun a w => ∃ (y24 : (List mark_Token)) (v25 : Value) (rw26 : List (List Value)), mark_cutter_raw_k3 y11 y16 y24 = some res ∧ Q.R f9 rw26 y24 ∧ St 104 w0 f9 (.blk pb0 (.cells #[.pointer (some ⟨pv0_0, 0, none⟩), v25] 71 (0, 0)) :: .blk pv0_0 (.cells #[v12, .int .i64 (y16)] 94 (0, 0)) :: .row v12 21 1 rw13 :: .row v25 44 5 rw26 :: L) [] a w) ?_ ?_
   ·clear hs hm
    rintro a w ⟨y24, v25, rw26, hm, hW27, hs⟩
    replace hs : St _ _ _ (.blk pb0 (.cells #[.pointer (some ⟨pv0_0, 0, none⟩), v25] 71 (0, 0)) :: .blk pv0_0 (.cells #[v12, .int .i64 (y16)] 94 (0, 0)) :: .row v12 21 1 rw13 :: .row v25 44 5 rw26 :: L) _ _ _ := hs
    unfold mark_cutter_raw_k3 at hm
    obtain rfl := Option.some.inj hm
    refine RtV0 hs rfl  ?_
    exact ⟨_, f9, [.blk pb0 (.cells #[.pointer (some ⟨pv0_0, 0, none⟩), v25] 71 (0, 0)), .blk pv0_0 (.cells #[v12, .int .i64 (y16)] 94 (0, 0)), .row v12 21 1 rw13, .row v25 44 5 rw26], rfl, hle, hs.cw, v12, rw13, v25, rw26, rfl, rfl, hW14, hW27⟩
   ·refine W_cond hs rfl (fun hg29 => ?_) (fun hg29 => ?_)
    ·replace hm := oc_t hg29 hm
     have hsD := hs.subL (L' := .row v19 21 1 rw20 :: .blk pb0 (.cells #[.pointer (some ⟨pv0_0, 0, none⟩), pv0_2] 71 (0, 0)) :: []) (.cons_cons _ (.cons_cons _ (.cons _ (.cons _ (.cons _ (List.nil_sublist _))))))
     refine T_start hs (.row v19 21 1 rw20 :: .blk pb0 (.cells #[.pointer (some ⟨pv0_0, 0, none⟩), pv0_2] 71 (0, 0)) :: []) [12] (.look 0 (.look 1 (.look 2 (.look 3 (.look 4 (.look 5 (.look 6 (.look 7 (.any [8] (fun _ => .any [9] (fun _ => .look 10 (.look 11 (.any [12] (fun _ => .done)))))))))))))) mixed (by kernel_rfl) ?_; clear hs; intro a he
     refine uy (v := .pointer (some ⟨pb0, 0, none⟩)) 0 he rfl (y_move rfl) ?_; clear he; intro a he
     refine uy (v := .pointer (some ⟨pb0, 0, none⟩)) 1 he rfl (y_move rfl) ?_; clear he; intro a he
     refine uy 2 he rfl (y_nilCheck rfl) ?_; clear he; intro a he
     refine uy (v := .pointer (some ⟨pb0, 1, none⟩)) 3 he rfl (y_fieldAddr rfl (FO.of (off := 1) Try.underlying71 rfl rfl ti37 (by decide))) ?_; clear he; intro a he
     refine uy (v := pv0_2) 4 he rfl (y_ld rfl Try.underlying37 rfl (Cell.blk (.tail _ (.head _)) rfl)) ?_; clear he; intro a he
     refine uy (v := v19) 5 he rfl (y_move rfl) ?_; clear he; intro a he
     refine uy (v := .string ((textOf y18))) 6 he rfl (y_r2sW rfl Try.underlying32 Try.underlying21 Try.underlying9 (Rd.st hsD (.head _)) hW21) ?_; clear he; intro a he
     refine uy 7 he rfl (y_buildS (places := [(0, 1), (1, 1), (2, 1), (3, 1), (4, 1)]) (cs := [.int .i64 (1), .string ((bs [])), .string ((textOf y18)), (.slice none 0 0), .bool (false)]) rfl Try.underlying44 ti44 (by kernel_rfl) (by decide) rfl ⟨rfl, rfl, trivial⟩) ?_; clear he; intro a he
     refine T_any1 he rfl ?_; clear he; intro a w hs
     refine RL_bs1a hs rfl Try.underlying37 ti44 (by decide) (AllC.row ⟨rfl, rfl, rfl, rfl, rfl, trivial⟩ rfl) ?_; clear hs; intro v31 a w hs
     have hW32 : LQ.Add Q Q f9 [[.int .i64 (1), .string ((bs [])), .string ((textOf y18)), (.slice none 0 0), .bool (false)]] [({Kind := 1, Name := (bs []), Text := (textOf y18), Attrs := ([] : List api_Attr), Closed := false} : mark_Token)] := Q.add f9 _
     generalize hgrw33 : ([[.int .i64 (1), .string ((bs [])), .string ((textOf y18)), (.slice none 0 0), .bool (false)]] : List (List Value)) = rw33 at hs hW32; clear hgrw33
     replace hs : St _ _ _ (.row v31 44 5 rw33 :: .row v19 21 1 rw20 :: .blk pb0 (.cells #[.pointer (some ⟨pv0_0, 0, none⟩), pv0_2] 71 (0, 0)) :: .blk pv0_0 (.cells #[v12, .int .i64 (y16)] 94 (0, 0)) :: .row v12 21 1 rw13 :: .row pv0_2 44 5 pv0_2r :: L) _ _ _ := hs
     have ho36 : v31.oneCell' = true := hs.one (i := 0) rfl
     refine uon hs ?_; clear hs; intro a he
     refine T_any1 he rfl ?_; clear he; intro a w hs
     obtain ⟨x37, hx38, hm⟩ := ob hm
     obtain ⟨hbx37, hex37⟩ := appM_some hx38
     have hW41 := pv0_2h.append hW32; rw [hex37] at hW41
     refine RL_append (i := 5) hs rfl rfl rfl (Rd.st hs (.head _)) Try.underlying37 ti44 (by decide) (by rw [Q.len pv0_2h, hW32.1]; exact hbx37) (.free rfl) (by decide) ?_; clear hs; intro v39 a w hs
     generalize hgx37 : pv0_2r ++ rw33 = rw40 at hs hW41; clear hgx37
     replace hs := hs.erase 0
     replace hs : St _ _ _ (.row v19 21 1 rw20 :: .blk pb0 (.cells #[.pointer (some ⟨pv0_0, 0, none⟩), pv0_2] 71 (0, 0)) :: .blk pv0_0 (.cells #[v12, .int .i64 (y16)] 94 (0, 0)) :: .row v12 21 1 rw13 :: .row v39 44 5 rw40 :: L) _ _ _ := hs
     have ho43 : v39.oneCell' = true := hs.one (i := 4) rfl
     refine uon hs ?_; clear hs; intro a he
     refine uy 10 he rfl (y_nilCheck rfl) ?_; clear he; intro a he
     refine uy (v := .pointer (some ⟨pb0, 1, none⟩)) 11 he rfl (y_fieldAddr rfl (FO.of (off := 1) Try.underlying71 rfl rfl ti37 (by decide))) ?_; clear he; intro a he
     refine T_any1 he rfl ?_; clear he; intro a w hs
     refine sstore 1 hs rfl rfl rfl ti37 ho43 ?_; clear hs; intro a w hs
     replace hs : St _ _ _ (.row v19 21 1 rw20 :: .blk pb0 (.cells #[.pointer (some ⟨pv0_0, 0, none⟩), v39] 71 (0, 0)) :: .blk pv0_0 (.cells #[v12, .int .i64 (y16)] 94 (0, 0)) :: .row v12 21 1 rw13 :: .row v39 44 5 rw40 :: L) _ _ _ := hs
     refine uend hs ?_; clear hs; intro a he
     refine T_nil he ?_; clear he; intro w hs; try clear hsD
     replace hs : St _ _ _ (.row v19 21 1 rw20 :: .blk pb0 (.cells #[.pointer (some ⟨pv0_0, 0, none⟩), v39] 71 (0, 0)) :: .blk pv0_0 (.cells #[v12, .int .i64 (y16)] 94 (0, 0)) :: .row v12 21 1 rw13 :: .row v39 44 5 rw40 :: L) _ _ _ := hs
     replace hs : St _ _ _ (.row v19 21 1 rw20 :: .blk pb0 (.cells #[.pointer (some ⟨pv0_0, 0, none⟩), v39] 71 (0, 0)) :: .blk pv0_0 (.cells #[v12, .int .i64 (y16)] 94 (0, 0)) :: .row v12 21 1 rw13 :: .row v39 44 5 rw40 :: L) _ _ _ := hs
     exact ⟨x37, v39, rw40, hm, hW41, hs.subs trivial (.cons _ (.cons_cons _ (.cons_cons _ (.cons_cons _ (.cons_cons _ (.refl _))))))⟩
    ·replace hm := oc_f hg29 hm
     refine W_skip ?_
     replace hs : St _ _ _ (.row v19 21 1 rw20 :: .blk pb0 (.cells #[.pointer (some ⟨pv0_0, 0, none⟩), pv0_2] 71 (0, 0)) :: .blk pv0_0 (.cells #[v12, .int .i64 (y16)] 94 (0, 0)) :: .row v12 21 1 rw13 :: .row pv0_2 44 5 pv0_2r :: L) _ _ _ := hs
     replace hs : St _ _ _ (.row v19 21 1 rw20 :: .blk pb0 (.cells #[.pointer (some ⟨pv0_0, 0, none⟩), pv0_2] 71 (0, 0)) :: .blk pv0_0 (.cells #[v12, .int .i64 (y16)] 94 (0, 0)) :: .row v12 21 1 rw13 :: .row pv0_2 44 5 pv0_2r :: L) _ _ _ := hs
     exact ⟨p0.out, pv0_2, pv0_2r, hm, pv0_2h, hs.subs trivial (.cons _ (.cons_cons _ (.cons_cons _ (.cons_cons _ (.cons_cons _ (.refl _))))))⟩
  ·refine W_block fun Qe7 hB7 hO7 => ?_
   have hbase := Fz.le.refl f
   replace hs : St _ _ _ (.blk pb0 (.cells #[.pointer (some ⟨pv0_0, 0, none⟩), pv0_2] 71 (0, 0)) :: .blk pv0_0 (.cells #[pv0_1, .int .i64 (p0.c.at_)] 94 (0, 0)) :: .row pv0_1 21 1 pv0_1r :: .row pv0_2 44 5 pv0_2r :: L) _ _ _ := hs
   replace hs : St _ _ _ (.blk pb0 (.cells #[.pointer (some ⟨pv0_0, 0, none⟩), pv0_2] 71 (0, 0)) :: .blk pv0_0 (.cells #[pv0_1, .int .i64 (p0.c.at_)] 94 (0, 0)) :: .row pv0_1 21 1 pv0_1r :: .row pv0_2 44 5 pv0_2r :: L) _ _ _ := hs
   replace hs := hs.nilRow 21 1
   have hW59 : RW (tInt .i32) f [] ([] : List Int) := trivial
   generalize hgrw60 : ([] : List (List Value)) = rw60 at hs hW59; clear hgrw60
   replace hs : St _ _ _ (.row (.slice none 0 0) 21 1 rw60 :: .blk pb0 (.cells #[.pointer (some ⟨pv0_0, 0, none⟩), pv0_2] 71 (0, 0)) :: .blk pv0_0 (.cells #[pv0_1, .int .i64 (p0.c.at_)] 94 (0, 0)) :: .row pv0_1 21 1 pv0_1r :: .row pv0_2 44 5 pv0_2r :: L) _ _ _ := hs
   refine W_loop (fun (k : Nat) a w => ∃ (f44 : Fz) (y46 : (List Int)) (y51 : Int) (y53 : (List Int)) (y58 : Int) (v47 : Value) (rw48 : List (List Value)) (v54 : Value) (rw55 : List (List Value)), Fz.le f f44 ∧ mark_cutter_raw_l4 n p0 y7 k y46 y51 y53 y58 = some res ∧ RW (tInt .i32) f44 rw48 y46 ∧ RW (tInt .i32) f44 rw55 y53 ∧ St 104 w0 f44 (.row v54 21 1 rw55 :: .blk pb0 (.cells #[.pointer (some ⟨pv0_0, 0, none⟩), pv0_2] 71 (0, 0)) :: .blk pv0_0 (.cells #[v47, .int .i64 (y51)] 94 (0, 0)) :: .row v47 21 1 rw48 :: .row pv0_2 44 5 pv0_2r :: L) [(0, .pointer (some ⟨pb0, 0, none⟩)), (9, v54), (73, .int .i64 (y7)), (74, .int .i64 (y58))] a w) (fun k => k) n ⟨_, p0.c.l, p0.c.at_, ([] : List Int), 0, pv0_1, pv0_1r, (.slice none 0 0), rw60, (Fz.le.refl _), hm, pv0_1h, hW59, hs.sub ⟨rfl, rfl, rfl, rfl, trivial⟩⟩ ?_
   clear hs hm
   intro k
   rintro a w ⟨f44, y46, y51, y53, y58, v47, rw48, v54, rw55, hl45, hm, hW49, hW56, hs⟩
   replace pv0_1h := pv0_1h.le hl45
   replace pv0_2h := pv0_2h.le hl45
   replace hle := hle.trans hl45
   replace hbase23 := hbase23.trans hl45
   replace hs : St _ _ _ (.row v54 21 1 rw55 :: .blk pb0 (.cells #[.pointer (some ⟨pv0_0, 0, none⟩), pv0_2] 71 (0, 0)) :: .blk pv0_0 (.cells #[v47, .int .i64 (y51)] 94 (0, 0)) :: .row v47 21 1 rw48 :: .row pv0_2 44 5 pv0_2r :: L) _ _ _ := hs
   intro K8 hK8
   cases k with
   | zero => simp [mark_cutter_raw_l4] at hm
   | succ k63 =>
    rw [mark_cutter_raw_l4] at hm
    have hbase64 := hl45
    refine W_seq fun K9 hK9 => ?_
    refine W_region ?_
    refine sy hs (y_lss rfl rfl) ?_; clear hs; intro a w hs
    refine RL_nil ?_
    refine hK9 _ _ ?_; clear hK9
    refine W_seq fun K10 hK10 => ?_
    refine W_cond hs rfl (fun hg65 => ?_) (fun hg65 => ?_)
    ·replace hm := oc_t hg65 hm
     refine W_skip ?_
     refine hK10 _ _ ?_; clear hK10
     refine W_seq fun K11 hK11 => ?_
     refine W_block fun Qe12 hB12 hO12 => ?_
     refine W_seq fun K13 hK13 => ?_
     refine W_region ?_
     refine sy (v := .pointer (some ⟨pb0, 0, none⟩)) hs (y_move rfl) ?_; clear hs; intro a w hs
     refine sy hs (y_nilCheck rfl) ?_; clear hs; intro a w hs
     refine sy (v := .pointer (some ⟨pb0, 0, none⟩)) hs (y_fieldAddr rfl (FO.of (off := 0) Try.underlying71 rfl rfl ti68 (by decide))) ?_; clear hs; intro a w hs
     refine sy (v := .pointer (some ⟨pv0_0, 0, none⟩)) hs (y_ld rfl Try.underlying68 rfl (Cell.blk (.tail _ (.head _)) rfl)) ?_; clear hs; intro a w hs
     obtain ⟨x66, hx67, hm⟩ := ob hm
     replace hs := hs.front 3
     replace hs := hs.front 3
     replace hs : St _ _ _ (.blk pv0_0 (.cells #[v47, .int .i64 (y51)] 94 (0, 0)) :: .row v47 21 1 rw48 :: .row v54 21 1 rw55 :: .blk pb0 (.cells #[.pointer (some ⟨pv0_0, 0, none⟩), pv0_2] 71 (0, 0)) :: .row pv0_2 44 5 pv0_2r :: L) _ _ _ := hs
     refine RL_call (Lr := [.blk pv0_0 (.cells #[v47, .int .i64 (y51)] 94 (0, 0)), .row v47 21 1 rw48]) (Lf := .row v54 21 1 rw55 :: .blk pb0 (.cells #[.pointer (some ⟨pv0_0, 0, none⟩), pv0_2] 71 (0, 0)) :: .row pv0_2 44 5 pv0_2r :: L) hs rfl has47 rfl rfl (source_Cursor_rune_Next_ok n (f := f44) (p0 := ({l := y46, at_ := y51} : source_Cursor_rune_)) (pb0 := pv0_0) (pv0_0 := v47) (pv0_0r := rw48) hW49 hx67) (.free rfl) (by decide) ?_; clear hs
     rintro _ f68 _ a w hf69 ⟨v70, rw71, rfl, rfl, hW72⟩ hs
     replace pv0_1h := pv0_1h.le hf69
     replace pv0_2h := pv0_2h.le hf69
     replace hW49 := hW49.le hf69
     replace hW56 := hW56.le hf69
     replace hle := hle.trans hf69
     replace hbase23 := hbase23.trans hf69
     replace hbase64 := hbase64.trans hf69
     replace hs : St _ _ _ (.blk pv0_0 (.cells #[v70, .int .i64 (x66.2.2.at_)] 94 (0, 0)) :: .row v70 21 1 rw71 :: .row v54 21 1 rw55 :: .blk pb0 (.cells #[.pointer (some ⟨pv0_0, 0, none⟩), pv0_2] 71 (0, 0)) :: .row pv0_2 44 5 pv0_2r :: L) _ _ _ := hs
     refine sy (v := .tuple #[.int .i32 (x66.1), .bool (x66.2.1)]) hs (y_move rfl) ?_; clear hs; intro a w hs
     refine sy (v := .int .i32 (x66.1)) hs (y_extract rfl rfl) ?_; clear hs; intro a w hs
     refine sy (v := .bool (x66.2.1)) hs (y_extract rfl rfl) ?_; clear hs; intro a w hs
     refine sy (v := .int .i32 (x66.1)) hs (y_assign rfl) ?_; clear hs; intro a w hs
     refine sy (v := .bool (x66.2.1)) hs (y_assign rfl) ?_; clear hs; intro a w hs
     refine RL_nil ?_
     refine hK13 _ _ ?_; clear hK13
     refine W_region ?_
     refine sy (v := v54) hs (y_move rfl) ?_; clear hs; intro a w hs
     refine sy (v := .int .i32 (x66.1)) hs (y_move rfl) ?_; clear hs; intro a w hs
     refine RL_bs1s hs rfl Try.underlying32 ti21 rfl rfl ?_; clear hs; intro v74 a w hs
     have hW75 : RW (tInt .i32) f68 [[.int .i32 (x66.1)]] [x66.1] := RW.single (rfl)
     generalize hgrw76 : ([[.int .i32 (x66.1)]] : List (List Value)) = rw76 at hs hW75; clear hgrw76
     replace hs : St _ _ _ (.row v74 21 1 rw76 :: .blk pv0_0 (.cells #[v70, .int .i64 (x66.2.2.at_)] 94 (0, 0)) :: .row v70 21 1 rw71 :: .row v54 21 1 rw55 :: .blk pb0 (.cells #[.pointer (some ⟨pv0_0, 0, none⟩), pv0_2] 71 (0, 0)) :: .row pv0_2 44 5 pv0_2r :: L) _ _ _ := hs
     obtain ⟨x79, hx80, hm⟩ := ob hm
     obtain ⟨hbx79, hex79⟩ := appM_some hx80
     have hW83 := hW56.append hW75; rw [hex79] at hW83
     refine RL_append (i := 3) hs rfl rfl rfl (Rd.st hs (.head _)) Try.underlying32 ti21 (by decide) (by rw [RW.len hW56, RW.len hW75]; exact hbx79) (.free rfl) (by decide) ?_; clear hs; intro v81 a w hs
     generalize hgx79 : rw55 ++ rw76 = rw82 at hs hW83; clear hgx79
     replace hs := hs.erase 0
     replace hs : St _ _ _ (.blk pv0_0 (.cells #[v70, .int .i64 (x66.2.2.at_)] 94 (0, 0)) :: .row v70 21 1 rw71 :: .row v81 21 1 rw82 :: .blk pb0 (.cells #[.pointer (some ⟨pv0_0, 0, none⟩), pv0_2] 71 (0, 0)) :: .row pv0_2 44 5 pv0_2r :: L) _ _ _ := hs
     refine sy (v := v81) hs (y_assign rfl) ?_; clear hs; intro a w hs
     refine RL_nil ?_
     refine hK11 _ _ ?_; clear hK11
     refine W_region ?_
     refine sy hs (y_add rfl rfl rfl) ?_; clear hs; intro a w hs
     refine sy (v := .int .i64 ((w64 (y58 + 1)))) hs (y_move rfl) ?_; clear hs; intro a w hs
     refine RL_nil ?_
     replace hs : St _ _ _ (.blk pv0_0 (.cells #[v70, .int .i64 (x66.2.2.at_)] 94 (0, 0)) :: .row v70 21 1 rw71 :: .row v81 21 1 rw82 :: .blk pb0 (.cells #[.pointer (some ⟨pv0_0, 0, none⟩), pv0_2] 71 (0, 0)) :: .row pv0_2 44 5 pv0_2r :: L) _ _ _ := hs
     replace hs : St _ _ _ (.blk pv0_0 (.cells #[v70, .int .i64 (x66.2.2.at_)] 94 (0, 0)) :: .row v70 21 1 rw71 :: .row v81 21 1 rw82 :: .blk pb0 (.cells #[.pointer (some ⟨pv0_0, 0, none⟩), pv0_2] 71 (0, 0)) :: .row pv0_2 44 5 pv0_2r :: L) _ _ _ := hs
     replace hs := hs.front 4
     replace hs := hs.front 2
     replace hs := hs.front 2
     replace hs := hs.front 4
     replace hs := hs.front 4
     replace hs : St _ _ _ (.row v81 21 1 rw82 :: .blk pb0 (.cells #[.pointer (some ⟨pv0_0, 0, none⟩), pv0_2] 71 (0, 0)) :: .blk pv0_0 (.cells #[v70, .int .i64 (x66.2.2.at_)] 94 (0, 0)) :: .row v70 21 1 rw71 :: .row pv0_2 44 5 pv0_2r :: L) _ _ _ := hs
     exact hK8 k63 _ _ (Nat.lt_succ_self _) ⟨_, x66.2.2.l, x66.2.2.at_, x79, (w64 (y58 + 1)), v70, rw71, v81, rw82, hbase64, hm, hW72, hW83, hs.sub ⟨rfl, rfl, rfl, rfl, trivial⟩⟩
    ·replace hm := oc_f hg65 hm
     refine W_exit ?_
     refine hB7 _ _ ?_
     replace hs : St _ _ _ (.row v54 21 1 rw55 :: .blk pb0 (.cells #[.pointer (some ⟨pv0_0, 0, none⟩), pv0_2] 71 (0, 0)) :: .blk pv0_0 (.cells #[v47, .int .i64 (y51)] 94 (0, 0)) :: .row v47 21 1 rw48 :: .row pv0_2 44 5 pv0_2r :: L) _ _ _ := hs
     replace hs : St _ _ _ (.row v54 21 1 rw55 :: .blk pb0 (.cells #[.pointer (some ⟨pv0_0, 0, none⟩), pv0_2] 71 (0, 0)) :: .blk pv0_0 (.cells #[v47, .int .i64 (y51)] 94 (0, 0)) :: .row v47 21 1 rw48 :: .row pv0_2 44 5 pv0_2r :: L) _ _ _ := hs
     exact ⟨_, y46, y51, y53, v47, rw48, v54, rw55, hbase23, hm, hW49, hW56, hs.sub ⟨rfl, rfl, trivial⟩⟩
 ·refine W_block fun Qe14 hB14 hO14 => ?_
  replace hs : St _ _ _ (.blk pb0 (.cells #[.pointer (some ⟨pv0_0, 0, none⟩), pv0_2] 71 (0, 0)) :: .blk pv0_0 (.cells #[pv0_1, .int .i64 (p0.c.at_)] 94 (0, 0)) :: .row pv0_1 21 1 pv0_1r :: .row pv0_2 44 5 pv0_2r :: L) _ _ _ := hs
  replace hs : St _ _ _ (.blk pb0 (.cells #[.pointer (some ⟨pv0_0, 0, none⟩), pv0_2] 71 (0, 0)) :: .blk pv0_0 (.cells #[pv0_1, .int .i64 (p0.c.at_)] 94 (0, 0)) :: .row pv0_1 21 1 pv0_1r :: .row pv0_2 44 5 pv0_2r :: L) _ _ _ := hs
  refine W_loop (fun (k : Nat) a w => ∃ (y85 : Int), mark_cutter_raw_l5 n p0 p1 k y85 = some res ∧ St 104 w0 f (.blk pb0 (.cells #[.pointer (some ⟨pv0_0, 0, none⟩), pv0_2] 71 (0, 0)) :: .blk pv0_0 (.cells #[pv0_1, .int .i64 (p0.c.at_)] 94 (0, 0)) :: .row pv0_1 21 1 pv0_1r :: .row pv0_2 44 5 pv0_2r :: L) [(0, .pointer (some ⟨pb0, 0, none⟩)), (1, .string (p1)), (4, .int .i64 (y85))] a w) (fun k => k) n ⟨0, hm, hs.sub ⟨rfl, rfl, rfl, trivial⟩⟩ ?_
  clear hs hm
  intro k
  rintro a w ⟨y85, hm, hs⟩
  replace hs : St _ _ _ (.blk pb0 (.cells #[.pointer (some ⟨pv0_0, 0, none⟩), pv0_2] 71 (0, 0)) :: .blk pv0_0 (.cells #[pv0_1, .int .i64 (p0.c.at_)] 94 (0, 0)) :: .row pv0_1 21 1 pv0_1r :: .row pv0_2 44 5 pv0_2r :: L) _ _ _ := hs
  intro K15 hK15
  cases k with
  | zero => simp [mark_cutter_raw_l5] at hm
  | succ k86 =>
   rw [mark_cutter_raw_l5] at hm
   refine W_seq fun K16 hK16 => ?_
   refine W_seq fun K17 hK17 => ?_
   refine W_region ?_
   refine sy (v := .int .i64 (y85)) hs (y_move rfl) ?_; clear hs; intro a w hs
   refine sy (v := .pointer (some ⟨pb0, 0, none⟩)) hs (y_move rfl) ?_; clear hs; intro a w hs
   refine sy hs (y_nilCheck rfl) ?_; clear hs; intro a w hs
   refine sy (v := .pointer (some ⟨pb0, 0, none⟩)) hs (y_fieldAddr rfl (FO.of (off := 0) Try.underlying71 rfl rfl ti68 (by decide))) ?_; clear hs; intro a w hs
   refine sy (v := .pointer (some ⟨pv0_0, 0, none⟩)) hs (y_ld rfl Try.underlying68 rfl (Cell.blk (.head _) rfl)) ?_; clear hs; intro a w hs
   obtain ⟨x87, hx88, hm⟩ := ob hm
   refine sy hs (y_callR (cap := []) (Lf := .blk pb0 (.cells #[.pointer (some ⟨pv0_0, 0, none⟩), pv0_2] 71 (0, 0)) :: .row pv0_2 44 5 pv0_2r :: L) rfl has40 rfl ((perm_at _ 2 rfl).trans (perm_at _ 2 rfl)) (source_Cursor_rune_Left_ok n (f := f) (p0 := p0.c) (pb0 := pv0_0) (pv0_0 := pv0_1) (pv0_0r := pv0_1r) pv0_1h hx88)) ?_; clear hs; intro a w hs
   refine sy hs (y_lss rfl rfl) ?_; clear hs; intro a w hs
   refine RL_nil ?_
   refine hK17 _ _ ?_; clear hK17
   refine W_cond hs rfl (fun hg89 => ?_) (fun hg89 => ?_)
   ·replace hm := oc_t hg89 hm
    refine W_skip ?_
    refine hK16 _ _ ?_; clear hK16
    refine W_seq fun K18 hK18 => ?_
    refine W_post (fun a w => mark_cutter_raw_k6 y85 (mark_cutter_raw_l5 n p0 p1 k86) = some res ∧ St 104 w0 f (.blk pb0 (.cells #[.pointer (some ⟨pv0_0, 0, none⟩), pv0_2] 71 (0, 0)) :: .blk pv0_0 (.cells #[pv0_1, .int .i64 (p0.c.at_)] 94 (0, 0)) :: .row pv0_1 21 1 pv0_1r :: .row pv0_2 44 5 pv0_2r :: L) [(0, .pointer (some ⟨pb0, 0, none⟩)), (1, .string (p1)), (4, .int .i64 (y85))] a w) ?_ ?_
    ·clear hs hm
     rintro a w ⟨hm, hs⟩
     replace hs : St _ _ _ (.blk pb0 (.cells #[.pointer (some ⟨pv0_0, 0, none⟩), pv0_2] 71 (0, 0)) :: .blk pv0_0 (.cells #[pv0_1, .int .i64 (p0.c.at_)] 94 (0, 0)) :: .row pv0_1 21 1 pv0_1r :: .row pv0_2 44 5 pv0_2r :: L) _ _ _ := hs
     unfold mark_cutter_raw_k6 at hm
     refine hK18 _ _ ?_; clear hK18
     refine W_region ?_
     refine sy (v := .int .i64 (y85)) hs (y_move rfl) ?_; clear hs; intro a w hs
     refine sy hs (y_add rfl rfl rfl) ?_; clear hs; intro a w hs
     refine sy (v := .int .i64 ((w64 (y85 + 1)))) hs (y_assign rfl) ?_; clear hs; intro a w hs
     refine RL_nil ?_
     replace hs : St _ _ _ (.blk pb0 (.cells #[.pointer (some ⟨pv0_0, 0, none⟩), pv0_2] 71 (0, 0)) :: .blk pv0_0 (.cells #[pv0_1, .int .i64 (p0.c.at_)] 94 (0, 0)) :: .row pv0_1 21 1 pv0_1r :: .row pv0_2 44 5 pv0_2r :: L) _ _ _ := hs
     replace hs : St _ _ _ (.blk pb0 (.cells #[.pointer (some ⟨pv0_0, 0, none⟩), pv0_2] 71 (0, 0)) :: .blk pv0_0 (.cells #[pv0_1, .int .i64 (p0.c.at_)] 94 (0, 0)) :: .row pv0_1 21 1 pv0_1r :: .row pv0_2 44 5 pv0_2r :: L) _ _ _ := hs
     exact hK15 k86 _ _ (Nat.lt_succ_self _) ⟨(w64 (y85 + 1)), hm, hs.sub ⟨rfl, rfl, rfl, trivial⟩⟩
    ·refine W_block fun Qe19 hB19 hO19 => ?_
     refine W_seq fun K20 hK20 => ?_
     refine W_seq fun K21 hK21 => ?_
     refine W_region ?_
     refine sy (v := .pointer (some ⟨pb0, 0, none⟩)) hs (y_move rfl) ?_; clear hs; intro a w hs
     refine sy (v := .int .i64 (y85)) hs (y_move rfl) ?_; clear hs; intro a w hs
     obtain ⟨x90, hx91, hm⟩ := ob hm
     refine sy hs (y_callR (cap := []) (Lf := L) rfl has44 rfl ((((perm_at _ 3 rfl).trans (perm_at _ 3 rfl)).trans (perm_at _ 3 rfl)).trans (perm_at _ 3 rfl)) (mark_cutter_is_ok n (f := f) (p0 := p0) (pb0 := pb0) (pv0_0 := pv0_0) (pv0_1 := pv0_1) (pv0_1r := pv0_1r) (pv0_2 := pv0_2) (pv0_2r := pv0_2r) (p1 := y85) (p2 := (bs [60, 47])) pv0_1h pv0_2h hx91)) ?_; clear hs; intro a w hs
     refine sy (v := .bool ((!x90))) hs (y_not rfl) ?_; clear hs; intro a w hs
     refine RL_nil ?_
     refine hK21 _ _ ?_; clear hK21
     refine W_cond hs rfl (fun hg92 => ?_) (fun hg92 => ?_)
     ·replace hm := oc_t hg92 hm
      refine W_exit ?_
      refine hB19 _ _ ?_
      replace hs : St _ _ _ (.blk pb0 (.cells #[.pointer (some ⟨pv0_0, 0, none⟩), pv0_2] 71 (0, 0)) :: .blk pv0_0 (.cells #[pv0_1, .int .i64 (p0.c.at_)] 94 (0, 0)) :: .row pv0_1 21 1 pv0_1r :: .row pv0_2 44 5 pv0_2r :: L) _ _ _ := hs
      replace hs : St _ _ _ (.blk pb0 (.cells #[.pointer (some ⟨pv0_0, 0, none⟩), pv0_2] 71 (0, 0)) :: .blk pv0_0 (.cells #[pv0_1, .int .i64 (p0.c.at_)] 94 (0, 0)) :: .row pv0_1 21 1 pv0_1r :: .row pv0_2 44 5 pv0_2r :: L) _ _ _ := hs
      exact ⟨hm, hs.sub ⟨rfl, rfl, rfl, trivial⟩⟩
     ·replace hm := oc_f hg92 hm
      refine W_skip ?_
      refine hK20 _ _ ?_; clear hK20
      refine W_seq fun K22 hK22 => ?_
      refine W_region ?_
      refine sy (v := (.slice none 0 0)) hs (y_assign rfl) ?_; clear hs; intro a w hs
      refine RL_nil ?_
      refine hK22 _ _ ?_; clear hK22
      refine W_seq fun K23 hK23 => ?_
      refine W_seq fun K24 hK24 => ?_
      refine W_region ?_
      refine sy (v := .string (p1)) hs (y_move rfl) ?_; clear hs; intro a w hs
      refine sy hs (y_lenS rfl Try.underlying9) ?_; clear hs; intro a w hs
      refine sy (v := .int .i64 (0)) hs (y_move rfl) ?_; clear hs; intro a w hs
      refine RL_nil ?_
      refine hK24 _ _ ?_; clear hK24
      refine W_post (fun a w => ∃ (y95 : (List Int)) (v96 : Value) (rw97 : List (List Value)), mark_cutter_raw_k7 n p0 p1 y85 (mark_cutter_raw_l5 n p0 p1 k86) y95 = some res ∧ RW (tInt .i32) f rw97 y95 ∧ St 104 w0 f (.row v96 21 1 rw97 :: .blk pb0 (.cells #[.pointer (some ⟨pv0_0, 0, none⟩), pv0_2] 71 (0, 0)) :: .blk pv0_0 (.cells #[pv0_1, .int .i64 (p0.c.at_)] 94 (0, 0)) :: .row pv0_1 21 1 pv0_1r :: .row pv0_2 44 5 pv0_2r :: L) [(0, .pointer (some ⟨pb0, 0, none⟩)), (1, .string (p1)), (4, .int .i64 (y85)), (5, v96)] a w) ?_ ?_
      ·clear hs hm
       rintro a w ⟨y95, v96, rw97, hm, hW98, hs⟩
       replace hs : St _ _ _ (.row v96 21 1 rw97 :: .blk pb0 (.cells #[.pointer (some ⟨pv0_0, 0, none⟩), pv0_2] 71 (0, 0)) :: .blk pv0_0 (.cells #[pv0_1, .int .i64 (p0.c.at_)] 94 (0, 0)) :: .row pv0_1 21 1 pv0_1r :: .row pv0_2 44 5 pv0_2r :: L) _ _ _ := hs
       unfold mark_cutter_raw_k7 at hm
       refine hK23 _ _ ?_; clear hK23
       refine W_seq fun K25 hK25 => ?_
       refine W_region ?_
       refine sy (v := .pointer (some ⟨pb0, 0, none⟩)) hs (y_move rfl) ?_; clear hs; intro a w hs
       refine sy hs (y_nilCheck rfl) ?_; clear hs; intro a w hs
       refine sy (v := .pointer (some ⟨pb0, 0, none⟩)) hs (y_fieldAddr rfl (FO.of (off := 0) Try.underlying71 rfl rfl ti68 (by decide))) ?_; clear hs; intro a w hs
       refine sy (v := .pointer (some ⟨pv0_0, 0, none⟩)) hs (y_ld rfl Try.underlying68 rfl (Cell.blk (.tail _ (.head _)) rfl)) ?_; clear hs; intro a w hs
       refine sy (v := .int .i64 (y85)) hs (y_move rfl) ?_; clear hs; intro a w hs
       refine sy hs (y_add rfl rfl rfl) ?_; clear hs; intro a w hs
       refine sy (v := .string (p1)) hs (y_move rfl) ?_; clear hs; intro a w hs
       refine sy hs (y_lenS rfl Try.underlying9) ?_; clear hs; intro a w hs
       refine sy hs (y_add rfl rfl rfl) ?_; clear hs; intro a w hs
       obtain ⟨x100, hx101, hm⟩ := ob hm
       refine sy hs (y_callR (cap := []) (Lf := .row v96 21 1 rw97 :: .blk pb0 (.cells #[.pointer (some ⟨pv0_0, 0, none⟩), pv0_2] 71 (0, 0)) :: .row pv0_2 44 5 pv0_2r :: L) rfl has65 rfl ((perm_at _ 3 rfl).trans (perm_at _ 3 rfl)) (source_Cursor_rune_Peek_ok n (f := f) (p0 := p0.c) (pb0 := pv0_0) (pv0_0 := pv0_1) (pv0_0r := pv0_1r) (p1 := (w64 ((w64 (y85 + 2)) + (p1.size : Int)))) pv0_1h hx101)) ?_; clear hs; intro a w hs
       refine sy (v := .tuple #[.int .i32 (x100.1), .bool (x100.2)]) hs (y_move rfl) ?_; clear hs; intro a w hs
       refine sy (v := .int .i32 (x100.1)) hs (y_extract rfl rfl) ?_; clear hs; intro a w hs
       refine sy (v := .bool (x100.2)) hs (y_extract rfl rfl) ?_; clear hs; intro a w hs
       refine sy (v := .int .i32 (x100.1)) hs (y_assign rfl) ?_; clear hs; intro a w hs
       refine sy (v := .bool (x100.2)) hs (y_assign rfl) ?_; clear hs; intro a w hs
       refine RL_nil ?_
       refine hK25 _ _ ?_; clear hK25
       refine W_seq fun K26 hK26 => ?_
       refine W_post (fun a w => ∃ (y102 : Bool), mark_cutter_raw_k8 n p0 y85 (mark_cutter_raw_l5 n p0 p1 k86) y102 = some res ∧ St 104 w0 f (.blk pb0 (.cells #[.pointer (some ⟨pv0_0, 0, none⟩), pv0_2] 71 (0, 0)) :: .blk pv0_0 (.cells #[pv0_1, .int .i64 (p0.c.at_)] 94 (0, 0)) :: .row pv0_1 21 1 pv0_1r :: .row pv0_2 44 5 pv0_2r :: L) [(0, .pointer (some ⟨pb0, 0, none⟩)), (1, .string (p1)), (4, .int .i64 (y85)), (72, .bool (y102))] a w) ?_ ?_
       ·clear hs hm
        rintro a w ⟨y102, hm, hs⟩
        replace hs : St _ _ _ (.blk pb0 (.cells #[.pointer (some ⟨pv0_0, 0, none⟩), pv0_2] 71 (0, 0)) :: .blk pv0_0 (.cells #[pv0_1, .int .i64 (p0.c.at_)] 94 (0, 0)) :: .row pv0_1 21 1 pv0_1r :: .row pv0_2 44 5 pv0_2r :: L) _ _ _ := hs
        unfold mark_cutter_raw_k8 at hm
        refine hK26 _ _ ?_; clear hK26
        refine W_cond hs rfl (fun hg103 => ?_) (fun hg103 => ?_)
        ·replace hm := oc_t hg103 hm
         refine W_exit ?_
         refine hO19 _ rfl _ _ ?_
         refine hB14 _ _ ?_
         replace hs : St _ _ _ (.blk pb0 (.cells #[.pointer (some ⟨pv0_0, 0, none⟩), pv0_2] 71 (0, 0)) :: .blk pv0_0 (.cells #[pv0_1, .int .i64 (p0.c.at_)] 94 (0, 0)) :: .row pv0_1 21 1 pv0_1r :: .row pv0_2 44 5 pv0_2r :: L) _ _ _ := hs
         replace hs : St _ _ _ (.blk pb0 (.cells #[.pointer (some ⟨pv0_0, 0, none⟩), pv0_2] 71 (0, 0)) :: .blk pv0_0 (.cells #[pv0_1, .int .i64 (p0.c.at_)] 94 (0, 0)) :: .row pv0_1 21 1 pv0_1r :: .row pv0_2 44 5 pv0_2r :: L) _ _ _ := hs
         exact ⟨y85, hm, hs.sub ⟨rfl, rfl, trivial⟩⟩
        ·replace hm := oc_f hg103 hm
         refine W_skip ?_
         replace hs : St _ _ _ (.blk pb0 (.cells #[.pointer (some ⟨pv0_0, 0, none⟩), pv0_2] 71 (0, 0)) :: .blk pv0_0 (.cells #[pv0_1, .int .i64 (p0.c.at_)] 94 (0, 0)) :: .row pv0_1 21 1 pv0_1r :: .row pv0_2 44 5 pv0_2r :: L) _ _ _ := hs
         replace hs : St _ _ _ (.blk pb0 (.cells #[.pointer (some ⟨pv0_0, 0, none⟩), pv0_2] 71 (0, 0)) :: .blk pv0_0 (.cells #[pv0_1, .int .i64 (p0.c.at_)] 94 (0, 0)) :: .row pv0_1 21 1 pv0_1r :: .row pv0_2 44 5 pv0_2r :: L) _ _ _ := hs
         exact ⟨hm, hs.sub ⟨rfl, rfl, rfl, trivial⟩⟩
       ·refine W_region ?_
        refine sy (v := v96) hs (y_move rfl) ?_; clear hs; intro a w hs
        obtain ⟨x104, hx105, hm⟩ := ob hm
        refine sy hs (y_callCK (cap := []) rfl has66 rfl (fun w9 hw9 => callsP (Lr := [.row v96 21 1 rw97]) (Lf := .blk pb0 (.cells #[.pointer (some ⟨pv0_0, 0, none⟩), pv0_2] 71 (0, 0)) :: .blk pv0_0 (.cells #[pv0_1, .int .i64 (p0.c.at_)] 94 (0, 0)) :: .row pv0_1 21 1 pv0_1r :: .row pv0_2 44 5 pv0_2r :: L) (perm_at _ 0 rfl) hw9 (fun Lz w9 hw9 => lent0 hw9 (fun f9_0 w9 hle9_0 hRl0 hw9 => (mark_small_ok n (f := f9_0) (a0 := v96) ⟨rw97, hRl0, hW98.le hle9_0⟩ hx105) w0 _ w9 hw9)))) ?_; clear hs; intro a w hs
        refine sy (v := .string (p1)) hs (y_move rfl) ?_; clear hs; intro a w hs
        refine sy hs (y_seql rfl rfl) ?_; clear hs; intro a w hs
        refine sy (v := .bool (decide (x104 = p1))) hs (y_move rfl) ?_; clear hs; intro a w hs
        refine St.split hs (t := 57) rfl (fun hg106 hq => ?_) (fun hg106 hq => ?_)
        ·clear hs; have hs := hq; clear hq
         replace hm := oc_t hg106 hm
         refine syg (v := .bool (x100.2)) hs (y_move rfl) ?_; clear hs; intro a w hs
         refine syg (v := .bool ((!x100.2))) hs (y_not rfl) ?_; clear hs; intro a w hs
         refine syg (v := .bool ((!x100.2))) hs (y_move rfl) ?_; clear hs; intro a w hs
         refine St.split hs (t := 60) rfl (fun hg107 hq => ?_) (fun hg107 hq => ?_)
         ·clear hs; have hs := hq; clear hq
          replace hm := oc_t hg107 hm
          refine sno hs ?_; clear hs; intro a w hs
          refine sno hs ?_; clear hs; intro a w hs
          refine syg (v := .bool (true)) hs (y_pick rfl rfl) ?_; clear hs; intro a w hs
          refine syg (v := .bool (true)) hs (y_move rfl) ?_; clear hs; intro a w hs
          refine sno hs ?_; clear hs; intro a w hs
          refine sno hs ?_; clear hs; intro a w hs
          refine syg (v := .bool (true)) hs (y_pick rfl rfl) ?_; clear hs; intro a w hs
          refine syg (v := .bool (true)) hs (y_move rfl) ?_; clear hs; intro a w hs
          refine sno hs ?_; clear hs; intro a w hs
          refine sno hs ?_; clear hs; intro a w hs
          refine syg (v := .bool (true)) hs (y_pick rfl rfl) ?_; clear hs; intro a w hs
          refine sy (v := .bool (true)) hs (y_pick rfl rfl) ?_; clear hs; intro a w hs
          refine RL_nil ?_
          replace hs : St _ _ _ (.row v96 21 1 rw97 :: .blk pb0 (.cells #[.pointer (some ⟨pv0_0, 0, none⟩), pv0_2] 71 (0, 0)) :: .blk pv0_0 (.cells #[pv0_1, .int .i64 (p0.c.at_)] 94 (0, 0)) :: .row pv0_1 21 1 pv0_1r :: .row pv0_2 44 5 pv0_2r :: L) _ _ _ := hs
          replace hs : St _ _ _ (.row v96 21 1 rw97 :: .blk pb0 (.cells #[.pointer (some ⟨pv0_0, 0, none⟩), pv0_2] 71 (0, 0)) :: .blk pv0_0 (.cells #[pv0_1, .int .i64 (p0.c.at_)] 94 (0, 0)) :: .row pv0_1 21 1 pv0_1r :: .row pv0_2 44 5 pv0_2r :: L) _ _ _ := hs
          exact ⟨true, hm, hs.subs ⟨rfl, rfl, rfl, rfl, trivial⟩ (.cons _ (.cons_cons _ (.cons_cons _ (.cons_cons _ (.cons_cons _ (.refl _))))))⟩
         ·clear hs; have hs := hq; clear hq
          replace hm := oc_f hg107 hm
          refine syg (v := .int .i32 (x100.1)) hs (y_move rfl) ?_; clear hs; intro a w hs
          obtain ⟨x108, hx109, hm⟩ := ob hm
          refine syg hs (y_call rfl has69 rfl (mark_blank_ok n (f := f)  hx109)) ?_; clear hs; intro a w hs
          refine syg (v := .bool (x108)) hs (y_pick rfl rfl) ?_; clear hs; intro a w hs
          refine syg (v := .bool (x108)) hs (y_move rfl) ?_; clear hs; intro a w hs
          refine St.split hs (t := 64) rfl (fun hg110 hq => ?_) (fun hg110 hq => ?_)
          ·clear hs; have hs := hq; clear hq
           replace hm := oc_t hg110 hm
           refine sno hs ?_; clear hs; intro a w hs
           refine sno hs ?_; clear hs; intro a w hs
           refine syg (v := .bool (true)) hs (y_pick rfl rfl) ?_; clear hs; intro a w hs
           refine syg (v := .bool (true)) hs (y_move rfl) ?_; clear hs; intro a w hs
           refine sno hs ?_; clear hs; intro a w hs
           refine sno hs ?_; clear hs; intro a w hs
           refine syg (v := .bool (true)) hs (y_pick rfl rfl) ?_; clear hs; intro a w hs
           refine sy (v := .bool (true)) hs (y_pick rfl rfl) ?_; clear hs; intro a w hs
           refine RL_nil ?_
           replace hs : St _ _ _ (.row v96 21 1 rw97 :: .blk pb0 (.cells #[.pointer (some ⟨pv0_0, 0, none⟩), pv0_2] 71 (0, 0)) :: .blk pv0_0 (.cells #[pv0_1, .int .i64 (p0.c.at_)] 94 (0, 0)) :: .row pv0_1 21 1 pv0_1r :: .row pv0_2 44 5 pv0_2r :: L) _ _ _ := hs
           replace hs : St _ _ _ (.row v96 21 1 rw97 :: .blk pb0 (.cells #[.pointer (some ⟨pv0_0, 0, none⟩), pv0_2] 71 (0, 0)) :: .blk pv0_0 (.cells #[pv0_1, .int .i64 (p0.c.at_)] 94 (0, 0)) :: .row pv0_1 21 1 pv0_1r :: .row pv0_2 44 5 pv0_2r :: L) _ _ _ := hs
           exact ⟨true, hm, hs.subs ⟨rfl, rfl, rfl, rfl, trivial⟩ (.cons _ (.cons_cons _ (.cons_cons _ (.cons_cons _ (.cons_cons _ (.refl _))))))⟩
          ·clear hs; have hs := hq; clear hq
           replace hm := oc_f hg110 hm
           refine syg (v := .int .i32 (x100.1)) hs (y_move rfl) ?_; clear hs; intro a w hs
           refine syg hs (y_eql rfl rfl) ?_; clear hs; intro a w hs
           refine syg (v := .bool (decide (x100.1 = 47))) hs (y_pick rfl rfl) ?_; clear hs; intro a w hs
           refine syg (v := .bool (decide (x100.1 = 47))) hs (y_move rfl) ?_; clear hs; intro a w hs
           refine St.split hs (t := 68) rfl (fun hg111 hq => ?_) (fun hg111 hq => ?_)
           ·clear hs; have hs := hq; clear hq
            replace hm := oc_t hg111 hm
            refine sno hs ?_; clear hs; intro a w hs
            refine sno hs ?_; clear hs; intro a w hs
            refine syg (v := .bool (true)) hs (y_pick rfl rfl) ?_; clear hs; intro a w hs
            refine sy (v := .bool (true)) hs (y_pick rfl rfl) ?_; clear hs; intro a w hs
            refine RL_nil ?_
            replace hs : St _ _ _ (.row v96 21 1 rw97 :: .blk pb0 (.cells #[.pointer (some ⟨pv0_0, 0, none⟩), pv0_2] 71 (0, 0)) :: .blk pv0_0 (.cells #[pv0_1, .int .i64 (p0.c.at_)] 94 (0, 0)) :: .row pv0_1 21 1 pv0_1r :: .row pv0_2 44 5 pv0_2r :: L) _ _ _ := hs
            replace hs : St _ _ _ (.row v96 21 1 rw97 :: .blk pb0 (.cells #[.pointer (some ⟨pv0_0, 0, none⟩), pv0_2] 71 (0, 0)) :: .blk pv0_0 (.cells #[pv0_1, .int .i64 (p0.c.at_)] 94 (0, 0)) :: .row pv0_1 21 1 pv0_1r :: .row pv0_2 44 5 pv0_2r :: L) _ _ _ := hs
            exact ⟨true, hm, hs.subs ⟨rfl, rfl, rfl, rfl, trivial⟩ (.cons _ (.cons_cons _ (.cons_cons _ (.cons_cons _ (.cons_cons _ (.refl _))))))⟩
           ·clear hs; have hs := hq; clear hq
            replace hm := oc_f hg111 hm
            refine syg (v := .int .i32 (x100.1)) hs (y_move rfl) ?_; clear hs; intro a w hs
            refine syg hs (y_eql rfl rfl) ?_; clear hs; intro a w hs
            refine syg (v := .bool (decide (x100.1 = 62))) hs (y_pick rfl rfl) ?_; clear hs; intro a w hs
            refine sy (v := .bool (decide (x100.1 = 62))) hs (y_pick rfl rfl) ?_; clear hs; intro a w hs
            refine RL_nil ?_
            replace hs : St _ _ _ (.row v96 21 1 rw97 :: .blk pb0 (.cells #[.pointer (some ⟨pv0_0, 0, none⟩), pv0_2] 71 (0, 0)) :: .blk pv0_0 (.cells #[pv0_1, .int .i64 (p0.c.at_)] 94 (0, 0)) :: .row pv0_1 21 1 pv0_1r :: .row pv0_2 44 5 pv0_2r :: L) _ _ _ := hs
            replace hs : St _ _ _ (.row v96 21 1 rw97 :: .blk pb0 (.cells #[.pointer (some ⟨pv0_0, 0, none⟩), pv0_2] 71 (0, 0)) :: .blk pv0_0 (.cells #[pv0_1, .int .i64 (p0.c.at_)] 94 (0, 0)) :: .row pv0_1 21 1 pv0_1r :: .row pv0_2 44 5 pv0_2r :: L) _ _ _ := hs
            exact ⟨decide (x100.1 = 62), hm, hs.subs ⟨rfl, rfl, rfl, rfl, trivial⟩ (.cons _ (.cons_cons _ (.cons_cons _ (.cons_cons _ (.cons_cons _ (.refl _))))))⟩
        ·clear hs; have hs := hq; clear hq
         replace hm := oc_f hg106 hm
         refine sno hs ?_; clear hs; intro a w hs
         refine sno hs ?_; clear hs; intro a w hs
         refine sno hs ?_; clear hs; intro a w hs
         refine sun hs ?_; clear hs; intro a w hs
         refine sun hs ?_; clear hs; intro a w hs
         refine sno hs ?_; clear hs; intro a w hs
         refine sno hs ?_; clear hs; intro a w hs
         refine sun hs ?_; clear hs; intro a w hs
         refine sun hs ?_; clear hs; intro a w hs
         refine sno hs ?_; clear hs; intro a w hs
         refine sno hs ?_; clear hs; intro a w hs
         refine sun hs ?_; clear hs; intro a w hs
         refine sun hs ?_; clear hs; intro a w hs
         refine sno hs ?_; clear hs; intro a w hs
         refine sy (v := .bool (false)) hs (y_pick rfl rfl) ?_; clear hs; intro a w hs
         refine RL_nil ?_
         replace hs : St _ _ _ (.row v96 21 1 rw97 :: .blk pb0 (.cells #[.pointer (some ⟨pv0_0, 0, none⟩), pv0_2] 71 (0, 0)) :: .blk pv0_0 (.cells #[pv0_1, .int .i64 (p0.c.at_)] 94 (0, 0)) :: .row pv0_1 21 1 pv0_1r :: .row pv0_2 44 5 pv0_2r :: L) _ _ _ := hs
         replace hs : St _ _ _ (.row v96 21 1 rw97 :: .blk pb0 (.cells #[.pointer (some ⟨pv0_0, 0, none⟩), pv0_2] 71 (0, 0)) :: .blk pv0_0 (.cells #[pv0_1, .int .i64 (p0.c.at_)] 94 (0, 0)) :: .row pv0_1 21 1 pv0_1r :: .row pv0_2 44 5 pv0_2r :: L) _ _ _ := hs
         exact ⟨false, hm, hs.subs ⟨rfl, rfl, rfl, rfl, trivial⟩ (.cons _ (.cons_cons _ (.cons_cons _ (.cons_cons _ (.cons_cons _ (.refl _))))))⟩
      ·refine W_block fun Qe27 hB27 hO27 => ?_
       replace hs : St _ _ _ (.blk pb0 (.cells #[.pointer (some ⟨pv0_0, 0, none⟩), pv0_2] 71 (0, 0)) :: .blk pv0_0 (.cells #[pv0_1, .int .i64 (p0.c.at_)] 94 (0, 0)) :: .row pv0_1 21 1 pv0_1r :: .row pv0_2 44 5 pv0_2r :: L) _ _ _ := hs
       replace hs : St _ _ _ (.blk pb0 (.cells #[.pointer (some ⟨pv0_0, 0, none⟩), pv0_2] 71 (0, 0)) :: .blk pv0_0 (.cells #[pv0_1, .int .i64 (p0.c.at_)] 94 (0, 0)) :: .row pv0_1 21 1 pv0_1r :: .row pv0_2 44 5 pv0_2r :: L) _ _ _ := hs
       replace hs := hs.nilRow 21 1
       have hW119 : RW (tInt .i32) f [] ([] : List Int) := trivial
       generalize hgrw120 : ([] : List (List Value)) = rw120 at hs hW119; clear hgrw120
       replace hs : St _ _ _ (.row (.slice none 0 0) 21 1 rw120 :: .blk pb0 (.cells #[.pointer (some ⟨pv0_0, 0, none⟩), pv0_2] 71 (0, 0)) :: .blk pv0_0 (.cells #[pv0_1, .int .i64 (p0.c.at_)] 94 (0, 0)) :: .row pv0_1 21 1 pv0_1r :: .row pv0_2 44 5 pv0_2r :: L) _ _ _ := hs
       refine W_loop (fun (k : Nat) a w => ∃ (y113 : (List Int)) (y118 : Int) (v114 : Value) (rw115 : List (List Value)), mark_cutter_raw_l9 n p0 p1 y85 (mark_cutter_raw_l5 n p0 p1 k86) k y113 y118 = some res ∧ RW (tInt .i32) f rw115 y113 ∧ St 104 w0 f (.row v114 21 1 rw115 :: .blk pb0 (.cells #[.pointer (some ⟨pv0_0, 0, none⟩), pv0_2] 71 (0, 0)) :: .blk pv0_0 (.cells #[pv0_1, .int .i64 (p0.c.at_)] 94 (0, 0)) :: .row pv0_1 21 1 pv0_1r :: .row pv0_2 44 5 pv0_2r :: L) [(0, .pointer (some ⟨pb0, 0, none⟩)), (1, .string (p1)), (4, .int .i64 (y85)), (5, v114), (26, .int .i64 ((p1.size : Int))), (27, .int .i64 (y118))] a w) (fun k => k) n ⟨([] : List Int), 0, (.slice none 0 0), rw120, hm, hW119, hs.sub ⟨rfl, rfl, rfl, rfl, rfl, rfl, trivial⟩⟩ ?_
       clear hs hm
       intro k
       rintro a w ⟨y113, y118, v114, rw115, hm, hW116, hs⟩
       replace hs : St _ _ _ (.row v114 21 1 rw115 :: .blk pb0 (.cells #[.pointer (some ⟨pv0_0, 0, none⟩), pv0_2] 71 (0, 0)) :: .blk pv0_0 (.cells #[pv0_1, .int .i64 (p0.c.at_)] 94 (0, 0)) :: .row pv0_1 21 1 pv0_1r :: .row pv0_2 44 5 pv0_2r :: L) _ _ _ := hs
       intro K28 hK28
       cases k with
       | zero => simp [mark_cutter_raw_l9] at hm
       | succ k123 =>
        rw [mark_cutter_raw_l9] at hm
        refine W_seq fun K29 hK29 => ?_
        refine W_region ?_
        refine sy hs (y_lss rfl rfl) ?_; clear hs; intro a w hs
        refine RL_nil ?_
        refine hK29 _ _ ?_; clear hK29
        refine W_seq fun K30 hK30 => ?_
        refine W_cond hs rfl (fun hg124 => ?_) (fun hg124 => ?_)
        ·replace hm := oc_t hg124 hm
         refine W_skip ?_
         refine hK30 _ _ ?_; clear hK30
         refine W_seq fun K31 hK31 => ?_
         refine W_block fun Qe32 hB32 hO32 => ?_
         refine W_seq fun K33 hK33 => ?_
         refine W_region ?_
         refine sy (v := .int .i64 (y118)) hs (y_move rfl) ?_; clear hs; intro a w hs
         refine sy (v := .int .i64 (y118)) hs (y_assign rfl) ?_; clear hs; intro a w hs
         refine RL_nil ?_
         refine hK33 _ _ ?_; clear hK33
         refine W_region ?_
         refine sy (v := v114) hs (y_move rfl) ?_; clear hs; intro a w hs
         refine sy (v := .pointer (some ⟨pb0, 0, none⟩)) hs (y_move rfl) ?_; clear hs; intro a w hs
         refine sy (v := .int .i64 (y85)) hs (y_move rfl) ?_; clear hs; intro a w hs
         refine sy hs (y_add rfl rfl rfl) ?_; clear hs; intro a w hs
         refine sy (v := .int .i64 (y118)) hs (y_move rfl) ?_; clear hs; intro a w hs
         refine sy hs (y_add rfl rfl rfl) ?_; clear hs; intro a w hs
         obtain ⟨x125, hx126, hm⟩ := ob hm
         refine sy hs (y_callR (cap := []) (Lf := .row v114 21 1 rw115 :: L) rfl has43 rfl ((((perm_at _ 4 rfl).trans (perm_at _ 4 rfl)).trans (perm_at _ 4 rfl)).trans (perm_at _ 4 rfl)) (mark_cutter_peek_ok n (f := f) (p0 := p0) (pb0 := pb0) (pv0_0 := pv0_0) (pv0_1 := pv0_1) (pv0_1r := pv0_1r) (pv0_2 := pv0_2) (pv0_2r := pv0_2r) (p1 := (w64 ((w64 (y85 + 2)) + y118))) pv0_1h pv0_2h hx126)) ?_; clear hs; intro a w hs
         refine RL_bs1s hs rfl Try.underlying32 ti21 rfl rfl ?_; clear hs; intro v127 a w hs
         have hW128 : RW (tInt .i32) f [[.int .i32 (x125)]] [x125] := RW.single (rfl)
         generalize hgrw129 : ([[.int .i32 (x125)]] : List (List Value)) = rw129 at hs hW128; clear hgrw129
         replace hs : St _ _ _ (.row v127 21 1 rw129 :: .row v114 21 1 rw115 :: .blk pb0 (.cells #[.pointer (some ⟨pv0_0, 0, none⟩), pv0_2] 71 (0, 0)) :: .blk pv0_0 (.cells #[pv0_1, .int .i64 (p0.c.at_)] 94 (0, 0)) :: .row pv0_1 21 1 pv0_1r :: .row pv0_2 44 5 pv0_2r :: L) _ _ _ := hs
         obtain ⟨x132, hx133, hm⟩ := ob hm
         obtain ⟨hbx132, hex132⟩ := appM_some hx133
         have hW136 := hW116.append hW128; rw [hex132] at hW136
         refine RL_append (i := 1) hs rfl rfl rfl (Rd.st hs (.head _)) Try.underlying32 ti21 (by decide) (by rw [RW.len hW116, RW.len hW128]; exact hbx132) (.free rfl) (by decide) ?_; clear hs; intro v134 a w hs
         generalize hgx132 : rw115 ++ rw129 = rw135 at hs hW136; clear hgx132
         replace hs := hs.erase 0
         replace hs : St _ _ _ (.row v134 21 1 rw135 :: .blk pb0 (.cells #[.pointer (some ⟨pv0_0, 0, none⟩), pv0_2] 71 (0, 0)) :: .blk pv0_0 (.cells #[pv0_1, .int .i64 (p0.c.at_)] 94 (0, 0)) :: .row pv0_1 21 1 pv0_1r :: .row pv0_2 44 5 pv0_2r :: L) _ _ _ := hs
         refine sy (v := v134) hs (y_assign rfl) ?_; clear hs; intro a w hs
         refine RL_nil ?_
         refine hK31 _ _ ?_; clear hK31
         refine W_region ?_
         refine sy hs (y_add rfl rfl rfl) ?_; clear hs; intro a w hs
         refine sy (v := .int .i64 ((w64 (y118 + 1)))) hs (y_move rfl) ?_; clear hs; intro a w hs
         refine RL_nil ?_
         replace hs : St _ _ _ (.row v134 21 1 rw135 :: .blk pb0 (.cells #[.pointer (some ⟨pv0_0, 0, none⟩), pv0_2] 71 (0, 0)) :: .blk pv0_0 (.cells #[pv0_1, .int .i64 (p0.c.at_)] 94 (0, 0)) :: .row pv0_1 21 1 pv0_1r :: .row pv0_2 44 5 pv0_2r :: L) _ _ _ := hs
         replace hs : St _ _ _ (.row v134 21 1 rw135 :: .blk pb0 (.cells #[.pointer (some ⟨pv0_0, 0, none⟩), pv0_2] 71 (0, 0)) :: .blk pv0_0 (.cells #[pv0_1, .int .i64 (p0.c.at_)] 94 (0, 0)) :: .row pv0_1 21 1 pv0_1r :: .row pv0_2 44 5 pv0_2r :: L) _ _ _ := hs
         exact hK28 k123 _ _ (Nat.lt_succ_self _) ⟨x132, (w64 (y118 + 1)), v134, rw135, hm, hW136, hs.sub ⟨rfl, rfl, rfl, rfl, rfl, rfl, trivial⟩⟩
        ·replace hm := oc_f hg124 hm
         refine W_exit ?_
         refine hB27 _ _ ?_
         replace hs : St _ _ _ (.row v114 21 1 rw115 :: .blk pb0 (.cells #[.pointer (some ⟨pv0_0, 0, none⟩), pv0_2] 71 (0, 0)) :: .blk pv0_0 (.cells #[pv0_1, .int .i64 (p0.c.at_)] 94 (0, 0)) :: .row pv0_1 21 1 pv0_1r :: .row pv0_2 44 5 pv0_2r :: L) _ _ _ := hs
         replace hs : St _ _ _ (.row v114 21 1 rw115 :: .blk pb0 (.cells #[.pointer (some ⟨pv0_0, 0, none⟩), pv0_2] 71 (0, 0)) :: .blk pv0_0 (.cells #[pv0_1, .int .i64 (p0.c.at_)] 94 (0, 0)) :: .row pv0_1 21 1 pv0_1r :: .row pv0_2 44 5 pv0_2r :: L) _ _ _ := hs
         exact ⟨y113, v114, rw115, hm, hW116, hs.sub ⟨rfl, rfl, rfl, rfl, trivial⟩⟩
   ·replace hm := oc_f hg89 hm
    refine W_exit ?_
    refine hB14 _ _ ?_
    replace hs : St _ _ _ (.blk pb0 (.cells #[.pointer (some ⟨pv0_0, 0, none⟩), pv0_2] 71 (0, 0)) :: .blk pv0_0 (.cells #[pv0_1, .int .i64 (p0.c.at_)] 94 (0, 0)) :: .row pv0_1 21 1 pv0_1r :: .row pv0_2 44 5 pv0_2r :: L) _ _ _ := hs
    replace hs : St _ _ _ (.blk pb0 (.cells #[.pointer (some ⟨pv0_0, 0, none⟩), pv0_2] 71 (0, 0)) :: .blk pv0_0 (.cells #[pv0_1, .int .i64 (p0.c.at_)] 94 (0, 0)) :: .row pv0_1 21 1 pv0_1r :: .row pv0_2 44 5 pv0_2r :: L) _ _ _ := hs
    exact ⟨y85, hm, hs.sub ⟨rfl, rfl, trivial⟩⟩
end Go.Proofs.Ythmnohdlhlmmpaa
