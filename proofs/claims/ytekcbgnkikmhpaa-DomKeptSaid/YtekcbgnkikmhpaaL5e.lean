/-
  Walks and laws of this seat; the base is the text Base.
-/
import Derived.Test.YtekcbgnkikmhpaaL5d
import Derived.Test.YtekcbgnkikmhpaaRows
/-
  Models of functions, and that the functions compute them. Printed by lift.py.
-/
namespace Go.Proofs.Ytekcbgnkikmhpaa
open Go.RowKit Go.Sl
/-! casement/casementbook.Same[int] -/
/-! casement/casementbook.Same[casement/api.Attr] -/
def book_Same_api_Attr_k1 : Option Bool :=
  some true
def book_Same_api_Attr_l2 (p0 : (List api_Attr)) (p1 : (List api_Attr)) : Nat → Int → Option Bool
  | 0, _ => none
  | k11 + 1, y10 =>
  (bif (decide (y10 < (p0.length : Int))) then (geti p0 y10).bind fun x13 =>
  (geti p1 y10).bind fun x20 =>
  (bif (!(decide (x13.Name = x20.Name) && (decide (x13.Value = x20.Value) && true))) then some false else
  (book_Same_api_Attr_l2 p0 p1 k11) (w64 (y10 + 1))) else
  book_Same_api_Attr_k1)
def book_Same_api_Attr (n : Nat) (p0 : (List api_Attr)) (p1 : (List api_Attr)) : Option Bool :=
  (bif (decide ((p0.length : Int) ≠ (p1.length : Int))) then some false else
  book_Same_api_Attr_l2 p0 p1 n 0)
theorem book_Same_api_Attr_ok (n : Nat) {f : Fz} {p0 : (List api_Attr)} {a0 : Value} {p1 : (List api_Attr)} {a1 : Value} {res : Bool} (h0 : RS t_api_Attr f a0 p0) (h1 : RS t_api_Attr f a1 p1) (hm : book_Same_api_Attr n p0 p1 = some res) : Gives Try.prog 44 [a0, a1] f (.bool res) := by
 unfold book_Same_api_Attr at hm
 intro w0 L w hC
 obtain ⟨rw1, hR2, hW3⟩ := h0
 obtain ⟨rw5, hR6, hW7⟩ := h1
 refine enter Try.func44 rfl Try.ntmps44 (by simp) hC fun a hs => ?_
 have hle := Fz.le.refl f
 refine W_seq fun K1 hK1 => ?_
 refine W_region ?_
 refine sy (v := .bool (false)) hs (y_assign rfl) ?_; clear hs; (try clear a w); intro a w hs
 refine RL_nil ?_
 refine hK1 _ _ ?_; clear hK1
 refine W_seq fun K2 hK2 => ?_
 refine W_seq fun K3 hK3 => ?_
 refine W_region ?_
 refine sy (v := a0) hs (y_move rfl) ?_; clear hs; (try clear a w); intro a w hs
 refine sy hs (y_lenW hR2 hW3 rfl Try.underlying32) ?_; clear hs; (try clear a w); intro a w hs
 refine sy (v := a1) hs (y_move rfl) ?_; clear hs; (try clear a w); intro a w hs
 refine sy hs (y_lenW hR6 hW7 rfl Try.underlying32) ?_; clear hs; (try clear a w); intro a w hs
 refine sy hs (y_neq rfl rfl) ?_; clear hs; (try clear a w); intro a w hs
 refine RL_nil ?_
 refine hK3 _ _ ?_; clear hK3
 refine W_cond hs rfl (fun hg9 => ?_) (fun hg9 => ?_)
 ·replace hm := oc_t hg9 hm
  refine W_seq fun K4 hK4 => ?_
  refine W_region ?_
  refine sy (v := .bool (false)) hs (y_assign rfl) ?_; clear hs; (try clear a w); intro a w hs
  refine RL_nil ?_
  refine hK4 _ _ ?_; clear hK4
  refine W_ret ?_
  obtain rfl := Option.some.inj hm
  refine RtV1 hs rfl (rv_t hs rfl) ?_
  exact ⟨rfl, (hs.weak hle).cw⟩
 ·replace hm := oc_f hg9 hm
  refine W_skip ?_
  refine hK2 _ _ ?_; clear hK2
  refine W_seq fun K5 hK5 => ?_
  refine W_seq fun K6 hK6 => ?_
  refine W_region ?_
  refine sy (v := .int .i64 (0)) hs (y_assign rfl) ?_; clear hs; (try clear a w); intro a w hs
  refine RL_nil ?_
  refine hK6 _ _ ?_; clear hK6
  refine W_post (fun a w => book_Same_api_Attr_k1 = some res ∧ St 26 w0 f (L) [] a w) ?_ ?_
  ·clear hs hm
   rintro a w ⟨hm, hs⟩
   replace hs : St _ _ _ (L) _ _ _ := hs
   unfold book_Same_api_Attr_k1 at hm
   refine hK5 _ _ ?_; clear hK5
   refine W_seq fun K7 hK7 => ?_
   refine W_region ?_
   refine sy (v := .bool (true)) hs (y_assign rfl) ?_; clear hs; (try clear a w); intro a w hs
   refine RL_nil ?_
   refine hK7 _ _ ?_; clear hK7
   refine W_ret ?_
   obtain rfl := Option.some.inj hm
   refine RtV1 hs rfl (rv_t hs rfl) ?_
   exact ⟨rfl, (hs.weak hle).cw⟩
  ·refine W_block fun Qe8 hB8 hO8 => ?_
   refine W_loop (fun (k : Nat) a w => ∃ (y10 : Int), book_Same_api_Attr_l2 p0 p1 k y10 = some res ∧ St 26 w0 f (L) [(0, a0), (1, a1), (5, .int .i64 (y10))] a w) (fun k => k) n ⟨0, hm, hs.sub ⟨rfl, rfl, rfl, trivial⟩⟩ ?_
   clear hs hm
   intro k
   rintro a w ⟨y10, hm, hs⟩
   replace hs : St _ _ _ (L) _ _ _ := hs
   intro K9 hK9
   cases k with
   | zero => simp [book_Same_api_Attr_l2] at hm
   | succ k11 =>
    rw [book_Same_api_Attr_l2] at hm
    refine W_seq fun K10 hK10 => ?_
    refine W_seq fun K11 hK11 => ?_
    refine W_region ?_
    refine sy (v := .int .i64 (y10)) hs (y_move rfl) ?_; clear hs; (try clear a w); intro a w hs
    refine sy (v := a0) hs (y_move rfl) ?_; clear hs; (try clear a w); intro a w hs
    refine sy hs (y_lenW hR2 hW3 rfl Try.underlying32) ?_; clear hs; (try clear a w); intro a w hs
    refine sy hs (y_lss rfl rfl) ?_; clear hs; (try clear a w); intro a w hs
    refine RL_nil ?_
    refine hK11 _ _ ?_; clear hK11
    refine W_cond hs rfl (fun hg12 => ?_) (fun hg12 => ?_)
    ·replace hm := oc_t hg12 hm
     refine W_skip ?_
     refine hK10 _ _ ?_; clear hK10
     refine W_seq fun K12 hK12 => ?_
     refine W_block fun Qe13 hB13 hO13 => ?_
     refine W_seq fun K14 hK14 => ?_
     refine W_draw hs mixed (by kernel_rfl) ?_; intro a he
     refine qy (v := a0) he (y_move rfl) ?_; clear he; (try clear a); intro a he
     refine qy (v := .int .i64 (y10)) he (y_move rfl) ?_; clear he; (try clear a); intro a he
     obtain ⟨x13, hx14, hm⟩ := ob hm
     obtain ⟨r15, hr16, hq17, hi18, hb19⟩ := hW3.geti hx14
     obtain rfl : _ = ([.string (x13.Name), .string (x13.Value)] : List Value) := hq17
     refine qy he (y_indexAddr hR2 rfl rfl hi18 hb19 Try.underlying32 ti53) ?_; clear he; (try clear a); intro a he
     refine qy he (y_loadRow hR2.up rfl hr16 Try.underlying53 rfl ti53) ?_; clear he; (try clear a); intro a he
     refine qy (v := a1) he (y_move rfl) ?_; clear he; (try clear a); intro a he
     refine qy (v := .int .i64 (y10)) he (y_move rfl) ?_; clear he; (try clear a); intro a he
     obtain ⟨x20, hx21, hm⟩ := ob hm
     obtain ⟨r22, hr23, hq24, hi25, hb26⟩ := hW7.geti hx21
     obtain rfl : _ = ([.string (x20.Name), .string (x20.Value)] : List Value) := hq24
     refine qy he (y_indexAddr hR6 rfl rfl hi25 hb26 Try.underlying32 ti53) ?_; clear he; (try clear a); intro a he
     refine qy he (y_loadRow hR6.up rfl hr23 Try.underlying53 rfl ti53) ?_; clear he; (try clear a); intro a he
     refine qy he (y_stneq rfl rfl Try.underlying53 (by kernel_rfl) (by kernel_rfl) (fun w => (eqF_str rfl Try.underlying9 rfl rfl (eqF_str rfl Try.underlying9 rfl rfl eqF_nil)))) ?_; clear he; (try clear a); intro a he
     refine QL_nil he ?_; clear he; (try clear hs); (try clear a); intro a w hs
     refine hK14 _ _ ?_; clear hK14
     refine W_cond hs rfl (fun hg27 => ?_) (fun hg27 => ?_)
     ·replace hm := oc_t hg27 hm
      refine W_seq fun K15 hK15 => ?_
      refine W_region ?_
      refine sy (v := .bool (false)) hs (y_assign rfl) ?_; clear hs; (try clear a w); intro a w hs
      refine RL_nil ?_
      refine hK15 _ _ ?_; clear hK15
      refine W_ret ?_
      obtain rfl := Option.some.inj hm
      refine RtV1 hs rfl (rv_t hs rfl) ?_
      exact ⟨rfl, (hs.weak hle).cw⟩
     ·replace hm := oc_f hg27 hm
      refine W_skip ?_
      refine hK12 _ _ ?_; clear hK12
      refine W_region ?_
      refine sy (v := .int .i64 (y10)) hs (y_move rfl) ?_; clear hs; (try clear a w); intro a w hs
      refine sy hs (y_add rfl rfl rfl) ?_; clear hs; (try clear a w); intro a w hs
      refine sy (v := .int .i64 ((w64 (y10 + 1)))) hs (y_assign rfl) ?_; clear hs; (try clear a w); intro a w hs
      refine RL_nil ?_
      exact hK9 k11 _ _ (Nat.lt_succ_self _) ⟨(w64 (y10 + 1)), hm, hs.sub ⟨rfl, rfl, rfl, trivial⟩⟩
    ·replace hm := oc_f hg12 hm
     refine W_exit ?_
     refine hB8 _ _ ?_
     exact ⟨hm, hs.sub trivial⟩
/-! casement/casementbook.Within -/
/-! casement/casementkeep.SameNode -/
def keep_SameNode_k1 (y15 : Bool) : Option Bool :=
  some y15
def keep_SameNode (n : Nat) (p0 : api_Node) (p1 : api_Node) : Option Bool :=
  (bif (decide (p0.Kind = p1.Kind)) then (bif (decide (p0.Name = p1.Name)) then (bif (decide (p0.Text = p1.Text)) then (book_Same_api_Attr n p0.Attrs p1.Attrs).bind fun x19 =>
  (bif x19 then (bif (decide (p0.Parent = p1.Parent)) then (bif (decide (p0.First = p1.First)) then (bif (decide (p0.Last = p1.Last)) then (bif (decide (p0.Prev = p1.Prev)) then keep_SameNode_k1 (decide (p0.Next = p1.Next)) else
  keep_SameNode_k1 false) else
  keep_SameNode_k1 false) else
  keep_SameNode_k1 false) else
  keep_SameNode_k1 false) else
  keep_SameNode_k1 false) else
  keep_SameNode_k1 false) else
  keep_SameNode_k1 false) else
  keep_SameNode_k1 false)
theorem keep_SameNode_ok (n : Nat) {f : Fz} {p0 : api_Node} {a0 : List Value} {p1 : api_Node} {a1 : List Value} {res : Bool} (h0 : t_api_Node.R f a0 p0) (h1 : t_api_Node.R f a1 p1) (hm : keep_SameNode n p0 p1 = some res) : Gives Try.prog 39 [.agg a0.toArray, .agg a1.toArray] f (.bool res) := by
 unfold keep_SameNode at hm
 intro w0 L w hC
 obtain ⟨v1, rfl, ⟨rw2, hR3, hW4⟩⟩ := h0
 obtain ⟨v6, rfl, ⟨rw7, hR8, hW9⟩⟩ := h1
 refine enter Try.func39 rfl Try.ntmps39 (by simp) hC fun a hs => ?_
 have hle := Fz.le.refl f
 refine W_seq fun K1 hK1 => ?_
 refine W_region ?_
 refine sbox hs rfl ?_; clear hs; (try clear a w); intro b11 a w hs
 replace hs : St _ _ _ (.blk b11 (.cells #[.int .i64 (p0.Kind), .string (p0.Name), .string (p0.Text), v1, .int .i64 (p0.Parent), .int .i64 (p0.First), .int .i64 (p0.Last), .int .i64 (p0.Prev), .int .i64 (p0.Next)] 59 (0, 0)) :: L) _ _ _ := hs
 refine sbox hs rfl ?_; clear hs; (try clear a w); intro b13 a w hs
 replace hs : St _ _ _ (.blk b13 (.cells #[.int .i64 (p1.Kind), .string (p1.Name), .string (p1.Text), v6, .int .i64 (p1.Parent), .int .i64 (p1.First), .int .i64 (p1.Last), .int .i64 (p1.Prev), .int .i64 (p1.Next)] 59 (0, 0)) :: .blk b11 (.cells #[.int .i64 (p0.Kind), .string (p0.Name), .string (p0.Text), v1, .int .i64 (p0.Parent), .int .i64 (p0.First), .int .i64 (p0.Last), .int .i64 (p0.Prev), .int .i64 (p0.Next)] 59 (0, 0)) :: L) _ _ _ := hs
 refine sy (v := .bool (false)) hs (y_assign rfl) ?_; clear hs; (try clear a w); intro a w hs
 refine RL_nil ?_
 refine hK1 _ _ ?_; clear hK1
 refine W_seq fun K2 hK2 => ?_
 refine W_post (fun a w => ∃ (y15 : Bool), keep_SameNode_k1 y15 = some res ∧ St 66 w0 f (L) [(4, .bool (y15))] a w) ?_ ?_
 ·clear hs hm
  rintro a w ⟨y15, hm, hs⟩
  replace hs : St _ _ _ (L) _ _ _ := hs
  unfold keep_SameNode_k1 at hm
  refine hK2 _ _ ?_; clear hK2
  refine W_ret ?_
  obtain rfl := Option.some.inj hm
  refine RtV1 hs rfl (rv_t hs rfl) ?_
  exact ⟨rfl, (hs.weak hle).cw⟩
 ·refine W_region ?_
  refine sy (v := .pointer (some ⟨b11, 0, none⟩)) hs (y_fieldAddr rfl (FO.of (off := 0) Try.underlying59 rfl rfl ti3 (by decide))) ?_; clear hs; (try clear a w); intro a w hs
  refine sy (v := .int .i64 (p0.Kind)) hs (y_ld rfl Try.underlying3 rfl (Cell.blk (.tail _ (.head _)) rfl)) ?_; clear hs; (try clear a w); intro a w hs
  refine sy (v := .pointer (some ⟨b13, 0, none⟩)) hs (y_fieldAddr rfl (FO.of (off := 0) Try.underlying59 rfl rfl ti3 (by decide))) ?_; clear hs; (try clear a w); intro a w hs
  refine sy (v := .int .i64 (p1.Kind)) hs (y_ld rfl Try.underlying3 rfl (Cell.blk (.head _) rfl)) ?_; clear hs; (try clear a w); intro a w hs
  refine sy hs (y_eql rfl rfl) ?_; clear hs; (try clear a w); intro a w hs
  refine sy (v := .bool (decide (p0.Kind = p1.Kind))) hs (y_move rfl) ?_; clear hs; (try clear a w); intro a w hs
  refine St.split hs (t := 10) rfl (fun hg16 hq => ?_) (fun hg16 hq => ?_)
  ·clear hs; have hs := hq; clear hq
   replace hm := oc_t hg16 hm
   refine syg (v := .pointer (some ⟨b11, 1, none⟩)) hs (y_fieldAddr rfl (FO.of (off := 1) Try.underlying59 rfl rfl ti9 (by decide))) ?_; clear hs; (try clear a w); intro a w hs
   refine syg (v := .string (p0.Name)) hs (y_ld rfl Try.underlying9 rfl (Cell.blk (.tail _ (.head _)) rfl)) ?_; clear hs; (try clear a w); intro a w hs
   refine syg (v := .pointer (some ⟨b13, 1, none⟩)) hs (y_fieldAddr rfl (FO.of (off := 1) Try.underlying59 rfl rfl ti9 (by decide))) ?_; clear hs; (try clear a w); intro a w hs
   refine syg (v := .string (p1.Name)) hs (y_ld rfl Try.underlying9 rfl (Cell.blk (.head _) rfl)) ?_; clear hs; (try clear a w); intro a w hs
   refine syg hs (y_seql rfl rfl) ?_; clear hs; (try clear a w); intro a w hs
   refine sy (v := .bool (decide (p0.Name = p1.Name))) hs (y_pick rfl rfl) ?_; clear hs; (try clear a w); intro a w hs
   refine sy (v := .bool (decide (p0.Name = p1.Name))) hs (y_move rfl) ?_; clear hs; (try clear a w); intro a w hs
   refine St.split hs (t := 17) rfl (fun hg17 hq => ?_) (fun hg17 hq => ?_)
   ·clear hs; have hs := hq; clear hq
    replace hm := oc_t hg17 hm
    refine syg (v := .pointer (some ⟨b11, 2, none⟩)) hs (y_fieldAddr rfl (FO.of (off := 2) Try.underlying59 rfl rfl ti9 (by decide))) ?_; clear hs; (try clear a w); intro a w hs
    refine syg (v := .string (p0.Text)) hs (y_ld rfl Try.underlying9 rfl (Cell.blk (.tail _ (.head _)) rfl)) ?_; clear hs; (try clear a w); intro a w hs
    refine syg (v := .pointer (some ⟨b13, 2, none⟩)) hs (y_fieldAddr rfl (FO.of (off := 2) Try.underlying59 rfl rfl ti9 (by decide))) ?_; clear hs; (try clear a w); intro a w hs
    refine syg (v := .string (p1.Text)) hs (y_ld rfl Try.underlying9 rfl (Cell.blk (.head _) rfl)) ?_; clear hs; (try clear a w); intro a w hs
    refine syg hs (y_seql rfl rfl) ?_; clear hs; (try clear a w); intro a w hs
    refine sy (v := .bool (decide (p0.Text = p1.Text))) hs (y_pick rfl rfl) ?_; clear hs; (try clear a w); intro a w hs
    refine sy (v := .bool (decide (p0.Text = p1.Text))) hs (y_move rfl) ?_; clear hs; (try clear a w); intro a w hs
    refine St.split hs (t := 24) rfl (fun hg18 hq => ?_) (fun hg18 hq => ?_)
    ·clear hs; have hs := hq; clear hq
     replace hm := oc_t hg18 hm
     refine syg (v := .pointer (some ⟨b11, 3, none⟩)) hs (y_fieldAddr rfl (FO.of (off := 3) Try.underlying59 rfl rfl ti32 (by decide))) ?_; clear hs; (try clear a w); intro a w hs
     refine syg (v := v1) hs (y_ld rfl Try.underlying32 rfl (Cell.blk (.tail _ (.head _)) rfl)) ?_; clear hs; (try clear a w); intro a w hs
     refine syg (v := .pointer (some ⟨b13, 3, none⟩)) hs (y_fieldAddr rfl (FO.of (off := 3) Try.underlying59 rfl rfl ti32 (by decide))) ?_; clear hs; (try clear a w); intro a w hs
     refine syg (v := v6) hs (y_ld rfl Try.underlying32 rfl (Cell.blk (.head _) rfl)) ?_; clear hs; (try clear a w); intro a w hs
     obtain ⟨x19, hx20, hm⟩ := ob hm
     refine syg hs (y_call rfl has44 rfl (book_Same_api_Attr_ok n (f := f) (a0 := v1) (a1 := v6) ⟨rw2, hR3, hW4⟩ ⟨rw7, hR8, hW9⟩ hx20)) ?_; clear hs; (try clear a w); intro a w hs
     refine sy (v := .bool (x19)) hs (y_pick rfl rfl) ?_; clear hs; (try clear a w); intro a w hs
     refine sy (v := .bool (x19)) hs (y_move rfl) ?_; clear hs; (try clear a w); intro a w hs
     refine St.split hs (t := 31) rfl (fun hg21 hq => ?_) (fun hg21 hq => ?_)
     ·clear hs; have hs := hq; clear hq
      replace hm := oc_t hg21 hm
      refine syg (v := .pointer (some ⟨b11, 4, none⟩)) hs (y_fieldAddr rfl (FO.of (off := 4) Try.underlying59 rfl rfl ti3 (by decide))) ?_; clear hs; (try clear a w); intro a w hs
      refine syg (v := .int .i64 (p0.Parent)) hs (y_ld rfl Try.underlying3 rfl (Cell.blk (.tail _ (.head _)) rfl)) ?_; clear hs; (try clear a w); intro a w hs
      refine syg (v := .pointer (some ⟨b13, 4, none⟩)) hs (y_fieldAddr rfl (FO.of (off := 4) Try.underlying59 rfl rfl ti3 (by decide))) ?_; clear hs; (try clear a w); intro a w hs
      refine syg (v := .int .i64 (p1.Parent)) hs (y_ld rfl Try.underlying3 rfl (Cell.blk (.head _) rfl)) ?_; clear hs; (try clear a w); intro a w hs
      refine syg hs (y_eql rfl rfl) ?_; clear hs; (try clear a w); intro a w hs
      refine sy (v := .bool (decide (p0.Parent = p1.Parent))) hs (y_pick rfl rfl) ?_; clear hs; (try clear a w); intro a w hs
      refine sy (v := .bool (decide (p0.Parent = p1.Parent))) hs (y_move rfl) ?_; clear hs; (try clear a w); intro a w hs
      refine St.split hs (t := 38) rfl (fun hg22 hq => ?_) (fun hg22 hq => ?_)
      ·clear hs; have hs := hq; clear hq
       replace hm := oc_t hg22 hm
       refine syg (v := .pointer (some ⟨b11, 5, none⟩)) hs (y_fieldAddr rfl (FO.of (off := 5) Try.underlying59 rfl rfl ti3 (by decide))) ?_; clear hs; (try clear a w); intro a w hs
       refine syg (v := .int .i64 (p0.First)) hs (y_ld rfl Try.underlying3 rfl (Cell.blk (.tail _ (.head _)) rfl)) ?_; clear hs; (try clear a w); intro a w hs
       refine syg (v := .pointer (some ⟨b13, 5, none⟩)) hs (y_fieldAddr rfl (FO.of (off := 5) Try.underlying59 rfl rfl ti3 (by decide))) ?_; clear hs; (try clear a w); intro a w hs
       refine syg (v := .int .i64 (p1.First)) hs (y_ld rfl Try.underlying3 rfl (Cell.blk (.head _) rfl)) ?_; clear hs; (try clear a w); intro a w hs
       refine syg hs (y_eql rfl rfl) ?_; clear hs; (try clear a w); intro a w hs
       refine sy (v := .bool (decide (p0.First = p1.First))) hs (y_pick rfl rfl) ?_; clear hs; (try clear a w); intro a w hs
       refine sy (v := .bool (decide (p0.First = p1.First))) hs (y_move rfl) ?_; clear hs; (try clear a w); intro a w hs
       refine St.split hs (t := 45) rfl (fun hg23 hq => ?_) (fun hg23 hq => ?_)
       ·clear hs; have hs := hq; clear hq
        replace hm := oc_t hg23 hm
        refine syg (v := .pointer (some ⟨b11, 6, none⟩)) hs (y_fieldAddr rfl (FO.of (off := 6) Try.underlying59 rfl rfl ti3 (by decide))) ?_; clear hs; (try clear a w); intro a w hs
        refine syg (v := .int .i64 (p0.Last)) hs (y_ld rfl Try.underlying3 rfl (Cell.blk (.tail _ (.head _)) rfl)) ?_; clear hs; (try clear a w); intro a w hs
        refine syg (v := .pointer (some ⟨b13, 6, none⟩)) hs (y_fieldAddr rfl (FO.of (off := 6) Try.underlying59 rfl rfl ti3 (by decide))) ?_; clear hs; (try clear a w); intro a w hs
        refine syg (v := .int .i64 (p1.Last)) hs (y_ld rfl Try.underlying3 rfl (Cell.blk (.head _) rfl)) ?_; clear hs; (try clear a w); intro a w hs
        refine syg hs (y_eql rfl rfl) ?_; clear hs; (try clear a w); intro a w hs
        refine sy (v := .bool (decide (p0.Last = p1.Last))) hs (y_pick rfl rfl) ?_; clear hs; (try clear a w); intro a w hs
        refine sy (v := .bool (decide (p0.Last = p1.Last))) hs (y_move rfl) ?_; clear hs; (try clear a w); intro a w hs
        refine St.split hs (t := 52) rfl (fun hg24 hq => ?_) (fun hg24 hq => ?_)
        ·clear hs; have hs := hq; clear hq
         replace hm := oc_t hg24 hm
         refine syg (v := .pointer (some ⟨b11, 7, none⟩)) hs (y_fieldAddr rfl (FO.of (off := 7) Try.underlying59 rfl rfl ti3 (by decide))) ?_; clear hs; (try clear a w); intro a w hs
         refine syg (v := .int .i64 (p0.Prev)) hs (y_ld rfl Try.underlying3 rfl (Cell.blk (.tail _ (.head _)) rfl)) ?_; clear hs; (try clear a w); intro a w hs
         refine syg (v := .pointer (some ⟨b13, 7, none⟩)) hs (y_fieldAddr rfl (FO.of (off := 7) Try.underlying59 rfl rfl ti3 (by decide))) ?_; clear hs; (try clear a w); intro a w hs
         refine syg (v := .int .i64 (p1.Prev)) hs (y_ld rfl Try.underlying3 rfl (Cell.blk (.head _) rfl)) ?_; clear hs; (try clear a w); intro a w hs
         refine syg hs (y_eql rfl rfl) ?_; clear hs; (try clear a w); intro a w hs
         refine sy (v := .bool (decide (p0.Prev = p1.Prev))) hs (y_pick rfl rfl) ?_; clear hs; (try clear a w); intro a w hs
         refine sy (v := .bool (decide (p0.Prev = p1.Prev))) hs (y_move rfl) ?_; clear hs; (try clear a w); intro a w hs
         refine St.split hs (t := 59) rfl (fun hg25 hq => ?_) (fun hg25 hq => ?_)
         ·clear hs; have hs := hq; clear hq
          replace hm := oc_t hg25 hm
          refine syg (v := .pointer (some ⟨b11, 8, none⟩)) hs (y_fieldAddr rfl (FO.of (off := 8) Try.underlying59 rfl rfl ti3 (by decide))) ?_; clear hs; (try clear a w); intro a w hs
          refine syg (v := .int .i64 (p0.Next)) hs (y_ld rfl Try.underlying3 rfl (Cell.blk (.tail _ (.head _)) rfl)) ?_; clear hs; (try clear a w); intro a w hs
          refine syg (v := .pointer (some ⟨b13, 8, none⟩)) hs (y_fieldAddr rfl (FO.of (off := 8) Try.underlying59 rfl rfl ti3 (by decide))) ?_; clear hs; (try clear a w); intro a w hs
          refine syg (v := .int .i64 (p1.Next)) hs (y_ld rfl Try.underlying3 rfl (Cell.blk (.head _) rfl)) ?_; clear hs; (try clear a w); intro a w hs
          refine syg hs (y_eql rfl rfl) ?_; clear hs; (try clear a w); intro a w hs
          refine sy (v := .bool (decide (p0.Next = p1.Next))) hs (y_pick rfl rfl) ?_; clear hs; (try clear a w); intro a w hs
          refine sy (v := .bool (decide (p0.Next = p1.Next))) hs (y_assign rfl) ?_; clear hs; (try clear a w); intro a w hs
          refine RL_nil ?_
          exact ⟨decide (p0.Next = p1.Next), hm, hs.subs ⟨rfl, trivial⟩ (.cons _ (.cons _ (.refl _)))⟩
         ·clear hs; have hs := hq; clear hq
          replace hm := oc_f hg25 hm
          refine sno hs ?_; clear hs; (try clear a w); intro a w hs
          refine sno hs ?_; clear hs; (try clear a w); intro a w hs
          refine sno hs ?_; clear hs; (try clear a w); intro a w hs
          refine sno hs ?_; clear hs; (try clear a w); intro a w hs
          refine sno hs ?_; clear hs; (try clear a w); intro a w hs
          refine sy (v := .bool (false)) hs (y_pick rfl rfl) ?_; clear hs; (try clear a w); intro a w hs
          refine sy (v := .bool (false)) hs (y_assign rfl) ?_; clear hs; (try clear a w); intro a w hs
          refine RL_nil ?_
          exact ⟨false, hm, hs.subs ⟨rfl, trivial⟩ (.cons _ (.cons _ (.refl _)))⟩
        ·clear hs; have hs := hq; clear hq
         replace hm := oc_f hg24 hm
         refine sno hs ?_; clear hs; (try clear a w); intro a w hs
         refine sno hs ?_; clear hs; (try clear a w); intro a w hs
         refine sno hs ?_; clear hs; (try clear a w); intro a w hs
         refine sno hs ?_; clear hs; (try clear a w); intro a w hs
         refine sno hs ?_; clear hs; (try clear a w); intro a w hs
         refine sy (v := .bool (false)) hs (y_pick rfl rfl) ?_; clear hs; (try clear a w); intro a w hs
         refine sy (v := .bool (false)) hs (y_move rfl) ?_; clear hs; (try clear a w); intro a w hs
         refine sno hs ?_; clear hs; (try clear a w); intro a w hs
         refine sno hs ?_; clear hs; (try clear a w); intro a w hs
         refine sno hs ?_; clear hs; (try clear a w); intro a w hs
         refine sno hs ?_; clear hs; (try clear a w); intro a w hs
         refine sno hs ?_; clear hs; (try clear a w); intro a w hs
         refine sy (v := .bool (false)) hs (y_pick rfl rfl) ?_; clear hs; (try clear a w); intro a w hs
         refine sy (v := .bool (false)) hs (y_assign rfl) ?_; clear hs; (try clear a w); intro a w hs
         refine RL_nil ?_
         exact ⟨false, hm, hs.subs ⟨rfl, trivial⟩ (.cons _ (.cons _ (.refl _)))⟩
       ·clear hs; have hs := hq; clear hq
        replace hm := oc_f hg23 hm
        refine sno hs ?_; clear hs; (try clear a w); intro a w hs
        refine sno hs ?_; clear hs; (try clear a w); intro a w hs
        refine sno hs ?_; clear hs; (try clear a w); intro a w hs
        refine sno hs ?_; clear hs; (try clear a w); intro a w hs
        refine sno hs ?_; clear hs; (try clear a w); intro a w hs
        refine sy (v := .bool (false)) hs (y_pick rfl rfl) ?_; clear hs; (try clear a w); intro a w hs
        refine sy (v := .bool (false)) hs (y_move rfl) ?_; clear hs; (try clear a w); intro a w hs
        refine sno hs ?_; clear hs; (try clear a w); intro a w hs
        refine sno hs ?_; clear hs; (try clear a w); intro a w hs
        refine sno hs ?_; clear hs; (try clear a w); intro a w hs
        refine sno hs ?_; clear hs; (try clear a w); intro a w hs
        refine sno hs ?_; clear hs; (try clear a w); intro a w hs
        refine sy (v := .bool (false)) hs (y_pick rfl rfl) ?_; clear hs; (try clear a w); intro a w hs
        refine sy (v := .bool (false)) hs (y_move rfl) ?_; clear hs; (try clear a w); intro a w hs
        refine sno hs ?_; clear hs; (try clear a w); intro a w hs
        refine sno hs ?_; clear hs; (try clear a w); intro a w hs
        refine sno hs ?_; clear hs; (try clear a w); intro a w hs
        refine sno hs ?_; clear hs; (try clear a w); intro a w hs
        refine sno hs ?_; clear hs; (try clear a w); intro a w hs
        refine sy (v := .bool (false)) hs (y_pick rfl rfl) ?_; clear hs; (try clear a w); intro a w hs
        refine sy (v := .bool (false)) hs (y_assign rfl) ?_; clear hs; (try clear a w); intro a w hs
        refine RL_nil ?_
        exact ⟨false, hm, hs.subs ⟨rfl, trivial⟩ (.cons _ (.cons _ (.refl _)))⟩
      ·clear hs; have hs := hq; clear hq
       replace hm := oc_f hg22 hm
       refine sno hs ?_; clear hs; (try clear a w); intro a w hs
       refine sno hs ?_; clear hs; (try clear a w); intro a w hs
       refine sno hs ?_; clear hs; (try clear a w); intro a w hs
       refine sno hs ?_; clear hs; (try clear a w); intro a w hs
       refine sno hs ?_; clear hs; (try clear a w); intro a w hs
       refine sy (v := .bool (false)) hs (y_pick rfl rfl) ?_; clear hs; (try clear a w); intro a w hs
       refine sy (v := .bool (false)) hs (y_move rfl) ?_; clear hs; (try clear a w); intro a w hs
       refine sno hs ?_; clear hs; (try clear a w); intro a w hs
       refine sno hs ?_; clear hs; (try clear a w); intro a w hs
       refine sno hs ?_; clear hs; (try clear a w); intro a w hs
       refine sno hs ?_; clear hs; (try clear a w); intro a w hs
       refine sno hs ?_; clear hs; (try clear a w); intro a w hs
       refine sy (v := .bool (false)) hs (y_pick rfl rfl) ?_; clear hs; (try clear a w); intro a w hs
       refine sy (v := .bool (false)) hs (y_move rfl) ?_; clear hs; (try clear a w); intro a w hs
       refine sno hs ?_; clear hs; (try clear a w); intro a w hs
       refine sno hs ?_; clear hs; (try clear a w); intro a w hs
       refine sno hs ?_; clear hs; (try clear a w); intro a w hs
       refine sno hs ?_; clear hs; (try clear a w); intro a w hs
       refine sno hs ?_; clear hs; (try clear a w); intro a w hs
       refine sy (v := .bool (false)) hs (y_pick rfl rfl) ?_; clear hs; (try clear a w); intro a w hs
       refine sy (v := .bool (false)) hs (y_move rfl) ?_; clear hs; (try clear a w); intro a w hs
       refine sno hs ?_; clear hs; (try clear a w); intro a w hs
       refine sno hs ?_; clear hs; (try clear a w); intro a w hs
       refine sno hs ?_; clear hs; (try clear a w); intro a w hs
       refine sno hs ?_; clear hs; (try clear a w); intro a w hs
       refine sno hs ?_; clear hs; (try clear a w); intro a w hs
       refine sy (v := .bool (false)) hs (y_pick rfl rfl) ?_; clear hs; (try clear a w); intro a w hs
       refine sy (v := .bool (false)) hs (y_assign rfl) ?_; clear hs; (try clear a w); intro a w hs
       refine RL_nil ?_
       exact ⟨false, hm, hs.subs ⟨rfl, trivial⟩ (.cons _ (.cons _ (.refl _)))⟩
     ·clear hs; have hs := hq; clear hq
      replace hm := oc_f hg21 hm
      refine sno hs ?_; clear hs; (try clear a w); intro a w hs
      refine sno hs ?_; clear hs; (try clear a w); intro a w hs
      refine sno hs ?_; clear hs; (try clear a w); intro a w hs
      refine sno hs ?_; clear hs; (try clear a w); intro a w hs
      refine sno hs ?_; clear hs; (try clear a w); intro a w hs
      refine sy (v := .bool (false)) hs (y_pick rfl rfl) ?_; clear hs; (try clear a w); intro a w hs
      refine sy (v := .bool (false)) hs (y_move rfl) ?_; clear hs; (try clear a w); intro a w hs
      refine sno hs ?_; clear hs; (try clear a w); intro a w hs
      refine sno hs ?_; clear hs; (try clear a w); intro a w hs
      refine sno hs ?_; clear hs; (try clear a w); intro a w hs
      refine sno hs ?_; clear hs; (try clear a w); intro a w hs
      refine sno hs ?_; clear hs; (try clear a w); intro a w hs
      refine sy (v := .bool (false)) hs (y_pick rfl rfl) ?_; clear hs; (try clear a w); intro a w hs
      refine sy (v := .bool (false)) hs (y_move rfl) ?_; clear hs; (try clear a w); intro a w hs
      refine sno hs ?_; clear hs; (try clear a w); intro a w hs
      refine sno hs ?_; clear hs; (try clear a w); intro a w hs
      refine sno hs ?_; clear hs; (try clear a w); intro a w hs
      refine sno hs ?_; clear hs; (try clear a w); intro a w hs
      refine sno hs ?_; clear hs; (try clear a w); intro a w hs
      refine sy (v := .bool (false)) hs (y_pick rfl rfl) ?_; clear hs; (try clear a w); intro a w hs
      refine sy (v := .bool (false)) hs (y_move rfl) ?_; clear hs; (try clear a w); intro a w hs
      refine sno hs ?_; clear hs; (try clear a w); intro a w hs
      refine sno hs ?_; clear hs; (try clear a w); intro a w hs
      refine sno hs ?_; clear hs; (try clear a w); intro a w hs
      refine sno hs ?_; clear hs; (try clear a w); intro a w hs
      refine sno hs ?_; clear hs; (try clear a w); intro a w hs
      refine sy (v := .bool (false)) hs (y_pick rfl rfl) ?_; clear hs; (try clear a w); intro a w hs
      refine sy (v := .bool (false)) hs (y_move rfl) ?_; clear hs; (try clear a w); intro a w hs
      refine sno hs ?_; clear hs; (try clear a w); intro a w hs
      refine sno hs ?_; clear hs; (try clear a w); intro a w hs
      refine sno hs ?_; clear hs; (try clear a w); intro a w hs
      refine sno hs ?_; clear hs; (try clear a w); intro a w hs
      refine sno hs ?_; clear hs; (try clear a w); intro a w hs
      refine sy (v := .bool (false)) hs (y_pick rfl rfl) ?_; clear hs; (try clear a w); intro a w hs
      refine sy (v := .bool (false)) hs (y_assign rfl) ?_; clear hs; (try clear a w); intro a w hs
      refine RL_nil ?_
      exact ⟨false, hm, hs.subs ⟨rfl, trivial⟩ (.cons _ (.cons _ (.refl _)))⟩
    ·clear hs; have hs := hq; clear hq
     replace hm := oc_f hg18 hm
     refine sno hs ?_; clear hs; (try clear a w); intro a w hs
     refine sno hs ?_; clear hs; (try clear a w); intro a w hs
     refine sno hs ?_; clear hs; (try clear a w); intro a w hs
     refine sno hs ?_; clear hs; (try clear a w); intro a w hs
     refine sno hs ?_; clear hs; (try clear a w); intro a w hs
     refine sy (v := .bool (false)) hs (y_pick rfl rfl) ?_; clear hs; (try clear a w); intro a w hs
     refine sy (v := .bool (false)) hs (y_move rfl) ?_; clear hs; (try clear a w); intro a w hs
     refine sno hs ?_; clear hs; (try clear a w); intro a w hs
     refine sno hs ?_; clear hs; (try clear a w); intro a w hs
     refine sno hs ?_; clear hs; (try clear a w); intro a w hs
     refine sno hs ?_; clear hs; (try clear a w); intro a w hs
     refine sno hs ?_; clear hs; (try clear a w); intro a w hs
     refine sy (v := .bool (false)) hs (y_pick rfl rfl) ?_; clear hs; (try clear a w); intro a w hs
     refine sy (v := .bool (false)) hs (y_move rfl) ?_; clear hs; (try clear a w); intro a w hs
     refine sno hs ?_; clear hs; (try clear a w); intro a w hs
     refine sno hs ?_; clear hs; (try clear a w); intro a w hs
     refine sno hs ?_; clear hs; (try clear a w); intro a w hs
     refine sno hs ?_; clear hs; (try clear a w); intro a w hs
     refine sno hs ?_; clear hs; (try clear a w); intro a w hs
     refine sy (v := .bool (false)) hs (y_pick rfl rfl) ?_; clear hs; (try clear a w); intro a w hs
     refine sy (v := .bool (false)) hs (y_move rfl) ?_; clear hs; (try clear a w); intro a w hs
     refine sno hs ?_; clear hs; (try clear a w); intro a w hs
     refine sno hs ?_; clear hs; (try clear a w); intro a w hs
     refine sno hs ?_; clear hs; (try clear a w); intro a w hs
     refine sno hs ?_; clear hs; (try clear a w); intro a w hs
     refine sno hs ?_; clear hs; (try clear a w); intro a w hs
     refine sy (v := .bool (false)) hs (y_pick rfl rfl) ?_; clear hs; (try clear a w); intro a w hs
     refine sy (v := .bool (false)) hs (y_move rfl) ?_; clear hs; (try clear a w); intro a w hs
     refine sno hs ?_; clear hs; (try clear a w); intro a w hs
     refine sno hs ?_; clear hs; (try clear a w); intro a w hs
     refine sno hs ?_; clear hs; (try clear a w); intro a w hs
     refine sno hs ?_; clear hs; (try clear a w); intro a w hs
     refine sno hs ?_; clear hs; (try clear a w); intro a w hs
     refine sy (v := .bool (false)) hs (y_pick rfl rfl) ?_; clear hs; (try clear a w); intro a w hs
     refine sy (v := .bool (false)) hs (y_move rfl) ?_; clear hs; (try clear a w); intro a w hs
     refine sno hs ?_; clear hs; (try clear a w); intro a w hs
     refine sno hs ?_; clear hs; (try clear a w); intro a w hs
     refine sno hs ?_; clear hs; (try clear a w); intro a w hs
     refine sno hs ?_; clear hs; (try clear a w); intro a w hs
     refine sno hs ?_; clear hs; (try clear a w); intro a w hs
     refine sy (v := .bool (false)) hs (y_pick rfl rfl) ?_; clear hs; (try clear a w); intro a w hs
     refine sy (v := .bool (false)) hs (y_assign rfl) ?_; clear hs; (try clear a w); intro a w hs
     refine RL_nil ?_
     exact ⟨false, hm, hs.subs ⟨rfl, trivial⟩ (.cons _ (.cons _ (.refl _)))⟩
   ·clear hs; have hs := hq; clear hq
    replace hm := oc_f hg17 hm
    refine sno hs ?_; clear hs; (try clear a w); intro a w hs
    refine sno hs ?_; clear hs; (try clear a w); intro a w hs
    refine sno hs ?_; clear hs; (try clear a w); intro a w hs
    refine sno hs ?_; clear hs; (try clear a w); intro a w hs
    refine sno hs ?_; clear hs; (try clear a w); intro a w hs
    refine sy (v := .bool (false)) hs (y_pick rfl rfl) ?_; clear hs; (try clear a w); intro a w hs
    refine sy (v := .bool (false)) hs (y_move rfl) ?_; clear hs; (try clear a w); intro a w hs
    refine sno hs ?_; clear hs; (try clear a w); intro a w hs
    refine sno hs ?_; clear hs; (try clear a w); intro a w hs
    refine sno hs ?_; clear hs; (try clear a w); intro a w hs
    refine sno hs ?_; clear hs; (try clear a w); intro a w hs
    refine sno hs ?_; clear hs; (try clear a w); intro a w hs
    refine sy (v := .bool (false)) hs (y_pick rfl rfl) ?_; clear hs; (try clear a w); intro a w hs
    refine sy (v := .bool (false)) hs (y_move rfl) ?_; clear hs; (try clear a w); intro a w hs
    refine sno hs ?_; clear hs; (try clear a w); intro a w hs
    refine sno hs ?_; clear hs; (try clear a w); intro a w hs
    refine sno hs ?_; clear hs; (try clear a w); intro a w hs
    refine sno hs ?_; clear hs; (try clear a w); intro a w hs
    refine sno hs ?_; clear hs; (try clear a w); intro a w hs
    refine sy (v := .bool (false)) hs (y_pick rfl rfl) ?_; clear hs; (try clear a w); intro a w hs
    refine sy (v := .bool (false)) hs (y_move rfl) ?_; clear hs; (try clear a w); intro a w hs
    refine sno hs ?_; clear hs; (try clear a w); intro a w hs
    refine sno hs ?_; clear hs; (try clear a w); intro a w hs
    refine sno hs ?_; clear hs; (try clear a w); intro a w hs
    refine sno hs ?_; clear hs; (try clear a w); intro a w hs
    refine sno hs ?_; clear hs; (try clear a w); intro a w hs
    refine sy (v := .bool (false)) hs (y_pick rfl rfl) ?_; clear hs; (try clear a w); intro a w hs
    refine sy (v := .bool (false)) hs (y_move rfl) ?_; clear hs; (try clear a w); intro a w hs
    refine sno hs ?_; clear hs; (try clear a w); intro a w hs
    refine sno hs ?_; clear hs; (try clear a w); intro a w hs
    refine sno hs ?_; clear hs; (try clear a w); intro a w hs
    refine sno hs ?_; clear hs; (try clear a w); intro a w hs
    refine sno hs ?_; clear hs; (try clear a w); intro a w hs
    refine sy (v := .bool (false)) hs (y_pick rfl rfl) ?_; clear hs; (try clear a w); intro a w hs
    refine sy (v := .bool (false)) hs (y_move rfl) ?_; clear hs; (try clear a w); intro a w hs
    refine sno hs ?_; clear hs; (try clear a w); intro a w hs
    refine sno hs ?_; clear hs; (try clear a w); intro a w hs
    refine sno hs ?_; clear hs; (try clear a w); intro a w hs
    refine sno hs ?_; clear hs; (try clear a w); intro a w hs
    refine sno hs ?_; clear hs; (try clear a w); intro a w hs
    refine sy (v := .bool (false)) hs (y_pick rfl rfl) ?_; clear hs; (try clear a w); intro a w hs
    refine sy (v := .bool (false)) hs (y_move rfl) ?_; clear hs; (try clear a w); intro a w hs
    refine sno hs ?_; clear hs; (try clear a w); intro a w hs
    refine sno hs ?_; clear hs; (try clear a w); intro a w hs
    refine sno hs ?_; clear hs; (try clear a w); intro a w hs
    refine sno hs ?_; clear hs; (try clear a w); intro a w hs
    refine sno hs ?_; clear hs; (try clear a w); intro a w hs
    refine sy (v := .bool (false)) hs (y_pick rfl rfl) ?_; clear hs; (try clear a w); intro a w hs
    refine sy (v := .bool (false)) hs (y_assign rfl) ?_; clear hs; (try clear a w); intro a w hs
    refine RL_nil ?_
    exact ⟨false, hm, hs.subs ⟨rfl, trivial⟩ (.cons _ (.cons _ (.refl _)))⟩
  ·clear hs; have hs := hq; clear hq
   replace hm := oc_f hg16 hm
   refine sno hs ?_; clear hs; (try clear a w); intro a w hs
   refine sno hs ?_; clear hs; (try clear a w); intro a w hs
   refine sno hs ?_; clear hs; (try clear a w); intro a w hs
   refine sno hs ?_; clear hs; (try clear a w); intro a w hs
   refine sno hs ?_; clear hs; (try clear a w); intro a w hs
   refine sy (v := .bool (false)) hs (y_pick rfl rfl) ?_; clear hs; (try clear a w); intro a w hs
   refine sy (v := .bool (false)) hs (y_move rfl) ?_; clear hs; (try clear a w); intro a w hs
   refine sno hs ?_; clear hs; (try clear a w); intro a w hs
   refine sno hs ?_; clear hs; (try clear a w); intro a w hs
   refine sno hs ?_; clear hs; (try clear a w); intro a w hs
   refine sno hs ?_; clear hs; (try clear a w); intro a w hs
   refine sno hs ?_; clear hs; (try clear a w); intro a w hs
   refine sy (v := .bool (false)) hs (y_pick rfl rfl) ?_; clear hs; (try clear a w); intro a w hs
   refine sy (v := .bool (false)) hs (y_move rfl) ?_; clear hs; (try clear a w); intro a w hs
   refine sno hs ?_; clear hs; (try clear a w); intro a w hs
   refine sno hs ?_; clear hs; (try clear a w); intro a w hs
   refine sno hs ?_; clear hs; (try clear a w); intro a w hs
   refine sno hs ?_; clear hs; (try clear a w); intro a w hs
   refine sno hs ?_; clear hs; (try clear a w); intro a w hs
   refine sy (v := .bool (false)) hs (y_pick rfl rfl) ?_; clear hs; (try clear a w); intro a w hs
   refine sy (v := .bool (false)) hs (y_move rfl) ?_; clear hs; (try clear a w); intro a w hs
   refine sno hs ?_; clear hs; (try clear a w); intro a w hs
   refine sno hs ?_; clear hs; (try clear a w); intro a w hs
   refine sno hs ?_; clear hs; (try clear a w); intro a w hs
   refine sno hs ?_; clear hs; (try clear a w); intro a w hs
   refine sno hs ?_; clear hs; (try clear a w); intro a w hs
   refine sy (v := .bool (false)) hs (y_pick rfl rfl) ?_; clear hs; (try clear a w); intro a w hs
   refine sy (v := .bool (false)) hs (y_move rfl) ?_; clear hs; (try clear a w); intro a w hs
   refine sno hs ?_; clear hs; (try clear a w); intro a w hs
   refine sno hs ?_; clear hs; (try clear a w); intro a w hs
   refine sno hs ?_; clear hs; (try clear a w); intro a w hs
   refine sno hs ?_; clear hs; (try clear a w); intro a w hs
   refine sno hs ?_; clear hs; (try clear a w); intro a w hs
   refine sy (v := .bool (false)) hs (y_pick rfl rfl) ?_; clear hs; (try clear a w); intro a w hs
   refine sy (v := .bool (false)) hs (y_move rfl) ?_; clear hs; (try clear a w); intro a w hs
   refine sno hs ?_; clear hs; (try clear a w); intro a w hs
   refine sno hs ?_; clear hs; (try clear a w); intro a w hs
   refine sno hs ?_; clear hs; (try clear a w); intro a w hs
   refine sno hs ?_; clear hs; (try clear a w); intro a w hs
   refine sno hs ?_; clear hs; (try clear a w); intro a w hs
   refine sy (v := .bool (false)) hs (y_pick rfl rfl) ?_; clear hs; (try clear a w); intro a w hs
   refine sy (v := .bool (false)) hs (y_move rfl) ?_; clear hs; (try clear a w); intro a w hs
   refine sno hs ?_; clear hs; (try clear a w); intro a w hs
   refine sno hs ?_; clear hs; (try clear a w); intro a w hs
   refine sno hs ?_; clear hs; (try clear a w); intro a w hs
   refine sno hs ?_; clear hs; (try clear a w); intro a w hs
   refine sno hs ?_; clear hs; (try clear a w); intro a w hs
   refine sy (v := .bool (false)) hs (y_pick rfl rfl) ?_; clear hs; (try clear a w); intro a w hs
   refine sy (v := .bool (false)) hs (y_move rfl) ?_; clear hs; (try clear a w); intro a w hs
   refine sno hs ?_; clear hs; (try clear a w); intro a w hs
   refine sno hs ?_; clear hs; (try clear a w); intro a w hs
   refine sno hs ?_; clear hs; (try clear a w); intro a w hs
   refine sno hs ?_; clear hs; (try clear a w); intro a w hs
   refine sno hs ?_; clear hs; (try clear a w); intro a w hs
   refine sy (v := .bool (false)) hs (y_pick rfl rfl) ?_; clear hs; (try clear a w); intro a w hs
   refine sy (v := .bool (false)) hs (y_assign rfl) ?_; clear hs; (try clear a w); intro a w hs
   refine RL_nil ?_
   exact ⟨false, hm, hs.subs ⟨rfl, trivial⟩ (.cons _ (.cons _ (.refl _)))⟩
/-! casement/casementkeep.SameTree -/
def keep_SameTree_k1 : Option Bool :=
  some true
def keep_SameTree_l2 (n : Nat) (p0 : api_Tree) (p1 : api_Tree) : Nat → Int → Option Bool
  | 0, _ => none
  | k17 + 1, y16 =>
  (bif (decide (y16 < (p0.Nodes.length : Int))) then (geti p0.Nodes y16).bind fun x19 =>
  (geti p1.Nodes y16).bind fun x31 =>
  (keep_SameNode n x19 x31).bind fun x43 =>
  (bif (!x43) then some false else
  (keep_SameTree_l2 n p0 p1 k17) (w64 (y16 + 1))) else
  keep_SameTree_k1)
def keep_SameTree (n : Nat) (p0 : api_Tree) (p1 : api_Tree) : Option Bool :=
  (bif (decide ((p0.Nodes.length : Int) ≠ (p1.Nodes.length : Int))) then some false else
  keep_SameTree_l2 n p0 p1 n 0)
theorem keep_SameTree_ok (n : Nat) {f : Fz} {p0 : api_Tree} {a0 : List Value} {p1 : api_Tree} {a1 : List Value} {res : Bool} (h0 : t_api_Tree.R f a0 p0) (h1 : t_api_Tree.R f a1 p1) (hm : keep_SameTree n p0 p1 = some res) : Gives Try.prog 14 [.agg a0.toArray, .agg a1.toArray] f (.bool res) := by
 unfold keep_SameTree at hm
 intro w0 L w hC
 obtain ⟨v1, rfl, ⟨rw2, hR3, hW4⟩⟩ := h0
 obtain ⟨v6, rfl, ⟨rw7, hR8, hW9⟩⟩ := h1
 refine enter Try.func14 rfl Try.ntmps14 (by simp) hC fun a hs => ?_
 have hle := Fz.le.refl f
 refine W_seq fun K1 hK1 => ?_
 refine W_region ?_
 refine sbox hs rfl ?_; clear hs; (try clear a w); intro b11 a w hs
 replace hs : St _ _ _ (.blk b11 (.cells #[v1] 24 (0, 0)) :: L) _ _ _ := hs
 refine sbox hs rfl ?_; clear hs; (try clear a w); intro b13 a w hs
 replace hs : St _ _ _ (.blk b13 (.cells #[v6] 24 (0, 0)) :: .blk b11 (.cells #[v1] 24 (0, 0)) :: L) _ _ _ := hs
 refine sy (v := .bool (false)) hs (y_assign rfl) ?_; clear hs; (try clear a w); intro a w hs
 refine RL_nil ?_
 refine hK1 _ _ ?_; clear hK1
 refine W_seq fun K2 hK2 => ?_
 refine W_seq fun K3 hK3 => ?_
 refine W_region ?_
 refine sy (v := .pointer (some ⟨b11, 0, none⟩)) hs (y_fieldAddr rfl (FO.of (off := 0) Try.underlying24 rfl rfl ti22 (by decide))) ?_; clear hs; (try clear a w); intro a w hs
 refine sy (v := v1) hs (y_ld rfl Try.underlying22 rfl (Cell.blk (.tail _ (.head _)) rfl)) ?_; clear hs; (try clear a w); intro a w hs
 refine sy hs (y_lenW hR3 hW4 rfl Try.underlying22) ?_; clear hs; (try clear a w); intro a w hs
 refine sy (v := .pointer (some ⟨b13, 0, none⟩)) hs (y_fieldAddr rfl (FO.of (off := 0) Try.underlying24 rfl rfl ti22 (by decide))) ?_; clear hs; (try clear a w); intro a w hs
 refine sy (v := v6) hs (y_ld rfl Try.underlying22 rfl (Cell.blk (.head _) rfl)) ?_; clear hs; (try clear a w); intro a w hs
 refine sy hs (y_lenW hR8 hW9 rfl Try.underlying22) ?_; clear hs; (try clear a w); intro a w hs
 refine sy hs (y_neq rfl rfl) ?_; clear hs; (try clear a w); intro a w hs
 refine RL_nil ?_
 refine hK3 _ _ ?_; clear hK3
 refine W_cond hs rfl (fun hg15 => ?_) (fun hg15 => ?_)
 ·replace hm := oc_t hg15 hm
  refine W_seq fun K4 hK4 => ?_
  refine W_region ?_
  refine sy (v := .bool (false)) hs (y_assign rfl) ?_; clear hs; (try clear a w); intro a w hs
  refine RL_nil ?_
  refine hK4 _ _ ?_; clear hK4
  refine W_ret ?_
  obtain rfl := Option.some.inj hm
  refine RtV1 hs rfl (rv_t hs rfl) ?_
  exact ⟨rfl, ((hs.subL (.cons _ (.cons _ (.refl _)))).weak hle).cw⟩
 ·replace hm := oc_f hg15 hm
  refine W_skip ?_
  refine hK2 _ _ ?_; clear hK2
  refine W_seq fun K5 hK5 => ?_
  refine W_seq fun K6 hK6 => ?_
  refine W_region ?_
  refine sy (v := .int .i64 (0)) hs (y_assign rfl) ?_; clear hs; (try clear a w); intro a w hs
  refine RL_nil ?_
  refine hK6 _ _ ?_; clear hK6
  refine W_post (fun a w => keep_SameTree_k1 = some res ∧ St 32 w0 f (L) [] a w) ?_ ?_
  ·clear hs hm
   rintro a w ⟨hm, hs⟩
   replace hs : St _ _ _ (L) _ _ _ := hs
   unfold keep_SameTree_k1 at hm
   refine hK5 _ _ ?_; clear hK5
   refine W_seq fun K7 hK7 => ?_
   refine W_region ?_
   refine sy (v := .bool (true)) hs (y_assign rfl) ?_; clear hs; (try clear a w); intro a w hs
   refine RL_nil ?_
   refine hK7 _ _ ?_; clear hK7
   refine W_ret ?_
   obtain rfl := Option.some.inj hm
   refine RtV1 hs rfl (rv_t hs rfl) ?_
   exact ⟨rfl, (hs.weak hle).cw⟩
  ·refine W_block fun Qe8 hB8 hO8 => ?_
   refine W_loop (fun (k : Nat) a w => ∃ (y16 : Int), keep_SameTree_l2 n p0 p1 k y16 = some res ∧ St 32 w0 f (.blk b13 (.cells #[v6] 24 (0, 0)) :: .blk b11 (.cells #[v1] 24 (0, 0)) :: L) [(2, .pointer (some ⟨b11, 0, none⟩)), (3, .pointer (some ⟨b13, 0, none⟩)), (5, .int .i64 (y16))] a w) (fun k => k) n ⟨0, hm, hs.sub ⟨rfl, rfl, rfl, trivial⟩⟩ ?_
   clear hs hm
   intro k
   rintro a w ⟨y16, hm, hs⟩
   replace hs : St _ _ _ (.blk b13 (.cells #[v6] 24 (0, 0)) :: .blk b11 (.cells #[v1] 24 (0, 0)) :: L) _ _ _ := hs
   intro K9 hK9
   cases k with
   | zero => simp [keep_SameTree_l2] at hm
   | succ k17 =>
    rw [keep_SameTree_l2] at hm
    refine W_seq fun K10 hK10 => ?_
    refine W_seq fun K11 hK11 => ?_
    refine W_region ?_
    refine sy (v := .int .i64 (y16)) hs (y_move rfl) ?_; clear hs; (try clear a w); intro a w hs
    refine sy (v := .pointer (some ⟨b11, 0, none⟩)) hs (y_fieldAddr rfl (FO.of (off := 0) Try.underlying24 rfl rfl ti22 (by decide))) ?_; clear hs; (try clear a w); intro a w hs
    refine sy (v := v1) hs (y_ld rfl Try.underlying22 rfl (Cell.blk (.tail _ (.head _)) rfl)) ?_; clear hs; (try clear a w); intro a w hs
    refine sy hs (y_lenW hR3 hW4 rfl Try.underlying22) ?_; clear hs; (try clear a w); intro a w hs
    refine sy hs (y_lss rfl rfl) ?_; clear hs; (try clear a w); intro a w hs
    refine RL_nil ?_
    refine hK11 _ _ ?_; clear hK11
    refine W_cond hs rfl (fun hg18 => ?_) (fun hg18 => ?_)
    ·replace hm := oc_t hg18 hm
     refine W_skip ?_
     refine hK10 _ _ ?_; clear hK10
     refine W_seq fun K12 hK12 => ?_
     refine W_block fun Qe13 hB13 hO13 => ?_
     refine W_seq fun K14 hK14 => ?_
     refine W_draw hs mixed (by kernel_rfl) ?_; intro a he
     refine qy (v := .pointer (some ⟨b11, 0, none⟩)) he (y_fieldAddr rfl (FO.of (off := 0) Try.underlying24 rfl rfl ti22 (by decide))) ?_; clear he; (try clear a); intro a he
     refine qy (v := v1) he (y_ld rfl Try.underlying22 rfl (Cell.blk (.tail _ (.head _)) rfl)) ?_; clear he; (try clear a); intro a he
     refine qy (v := .int .i64 (y16)) he (y_move rfl) ?_; clear he; (try clear a); intro a he
     obtain ⟨x19, hx20, hm⟩ := ob hm
     obtain ⟨r21, hr22, hq23, hi24, hb25⟩ := hW4.geti hx20
     obtain ⟨v26, rfl, ⟨rw27, hR28, hW29⟩⟩ := hq23
     refine qy he (y_indexAddr hR3 rfl rfl hi24 hb25 Try.underlying22 ti59) ?_; clear he; (try clear a); intro a he
     refine qy he (y_loadRow hR3.up rfl hr22 Try.underlying59 rfl ti59) ?_; clear he; (try clear a); intro a he
     refine qy (v := .pointer (some ⟨b13, 0, none⟩)) he (y_fieldAddr rfl (FO.of (off := 0) Try.underlying24 rfl rfl ti22 (by decide))) ?_; clear he; (try clear a); intro a he
     refine qy (v := v6) he (y_ld rfl Try.underlying22 rfl (Cell.blk (.head _) rfl)) ?_; clear he; (try clear a); intro a he
     refine qy (v := .int .i64 (y16)) he (y_move rfl) ?_; clear he; (try clear a); intro a he
     obtain ⟨x31, hx32, hm⟩ := ob hm
     obtain ⟨r33, hr34, hq35, hi36, hb37⟩ := hW9.geti hx32
     obtain ⟨v38, rfl, ⟨rw39, hR40, hW41⟩⟩ := hq35
     refine qy he (y_indexAddr hR8 rfl rfl hi36 hb37 Try.underlying22 ti59) ?_; clear he; (try clear a); intro a he
     refine qy he (y_loadRow hR8.up rfl hr34 Try.underlying59 rfl ti59) ?_; clear he; (try clear a); intro a he
     obtain ⟨x43, hx44, hm⟩ := ob hm
     refine qy he (y_call rfl has39 rfl (keep_SameNode_ok n (f := f) (a0 := [.int .i64 (x19.Kind), .string (x19.Name), .string (x19.Text), v26, .int .i64 (x19.Parent), .int .i64 (x19.First), .int .i64 (x19.Last), .int .i64 (x19.Prev), .int .i64 (x19.Next)]) (a1 := [.int .i64 (x31.Kind), .string (x31.Name), .string (x31.Text), v38, .int .i64 (x31.Parent), .int .i64 (x31.First), .int .i64 (x31.Last), .int .i64 (x31.Prev), .int .i64 (x31.Next)]) ⟨_, rfl, ⟨rw27, hR28, hW29⟩⟩ ⟨_, rfl, ⟨rw39, hR40, hW41⟩⟩ hx44)) ?_; clear he; (try clear a); intro a he
     refine qy (v := .bool ((!x43))) he (y_not rfl) ?_; clear he; (try clear a); intro a he
     refine QL_nil he ?_; clear he; (try clear hs); (try clear a); intro a w hs
     refine hK14 _ _ ?_; clear hK14
     refine W_cond hs rfl (fun hg45 => ?_) (fun hg45 => ?_)
     ·replace hm := oc_t hg45 hm
      refine W_seq fun K15 hK15 => ?_
      refine W_region ?_
      refine sy (v := .bool (false)) hs (y_assign rfl) ?_; clear hs; (try clear a w); intro a w hs
      refine RL_nil ?_
      refine hK15 _ _ ?_; clear hK15
      refine W_ret ?_
      obtain rfl := Option.some.inj hm
      refine RtV1 hs rfl (rv_t hs rfl) ?_
      exact ⟨rfl, ((hs.subL (.cons _ (.cons _ (.refl _)))).weak hle).cw⟩
     ·replace hm := oc_f hg45 hm
      refine W_skip ?_
      refine hK12 _ _ ?_; clear hK12
      refine W_region ?_
      refine sy (v := .int .i64 (y16)) hs (y_move rfl) ?_; clear hs; (try clear a w); intro a w hs
      refine sy hs (y_add rfl rfl rfl) ?_; clear hs; (try clear a w); intro a w hs
      refine sy (v := .int .i64 ((w64 (y16 + 1)))) hs (y_assign rfl) ?_; clear hs; (try clear a w); intro a w hs
      refine RL_nil ?_
      exact hK9 k17 _ _ (Nat.lt_succ_self _) ⟨(w64 (y16 + 1)), hm, hs.sub ⟨rfl, rfl, rfl, trivial⟩⟩
    ·replace hm := oc_f hg18 hm
     refine W_exit ?_
     refine hB8 _ _ ?_
     exact ⟨hm, hs.subs trivial (.cons _ (.cons _ (.refl _)))⟩
/-! casement/casementkeep.Copy -/
def keep_Copy_k1 (y25 : (List api_Node)) : Option api_Tree :=
  some ({Nodes := y25} : api_Tree)
def keep_Copy_l2 (p0 : api_Tree) : Nat → (List api_Node) → Int → Option api_Tree
  | 0, _, _ => none
  | k42 + 1, y36, y41 =>
  (bif (decide (y41 < (p0.Nodes.length : Int))) then (geti p0.Nodes y41).bind fun x45 =>
  (geti y36 y41).bind fun _x57 =>
  (seti y36 y41 x45).bind fun x69 =>
  (geti p0.Nodes y41).bind fun x74 =>
  (appM 32 ([] : List api_Attr) x74.Attrs).bind fun x92 =>
  (geti x69 y41).bind fun x99 =>
  (seti x69 y41 ({x99 with Attrs := x92} : api_Node)).bind fun x125 =>
  (keep_Copy_l2 p0 k42) x125 (w64 (y41 + 1)) else
  keep_Copy_k1 y36)
def keep_Copy (n : Nat) (p0 : api_Tree) : Option api_Tree :=
  (repM 104 (p0.Nodes.length : Int) ({Kind := (0 : Int), Name := (bs []), Text := (bs []), Attrs := ([] : (List api_Attr)), Parent := (0 : Int), First := (0 : Int), Last := (0 : Int), Prev := (0 : Int), Next := (0 : Int)} : api_Node)).bind fun x11 =>
  keep_Copy_l2 p0 n x11 0
theorem keep_Copy_ok (n : Nat) {f : Fz} {p0 : api_Tree} {a0 : List Value} {res : api_Tree} (h0 : t_api_Tree.R f a0 p0) (hm : keep_Copy n p0 = some res) : Does Try.prog 11 [.agg a0.toArray] f [] (fun r f' L' => ∃ (u0 : List Value), L' = [] ∧ r = .agg u0.toArray ∧ t_api_Tree.R f' u0 res) := by
 unfold keep_Copy at hm
 intro w0 L w hC
 obtain ⟨v1, rfl, ⟨rw2, hR3, hW4⟩⟩ := h0
 refine enter Try.func11 rfl Try.ntmps11 (by simp) hC fun a hs => ?_
 have hle := Fz.le.refl f
 refine W_seq fun K1 hK1 => ?_
 refine W_region ?_
 refine sbox hs rfl ?_; clear hs; (try clear a w); intro b6 a w hs
 replace hs : St _ _ _ (.blk b6 (.cells #[v1] 24 (0, 0)) :: L) _ _ _ := hs
 refine RL_alloc hs ti24 (.free rfl) (by decide) ?_; clear hs; (try clear a w); intro b8 a w hs
 replace hs : St _ _ _ (.blk b8 (.cells #[(.slice none 0 0)] 24 (0, 0)) :: .blk b6 (.cells #[v1] 24 (0, 0)) :: L) _ _ _ := hs
 refine RL_nil ?_
 refine hK1 _ _ ?_; clear hK1
 refine W_seq fun K2 hK2 => ?_
 refine W_region ?_
 refine sy (v := .pointer (some ⟨b6, 0, none⟩)) hs (y_fieldAddr rfl (FO.of (off := 0) Try.underlying24 rfl rfl ti22 (by decide))) ?_; clear hs; (try clear a w); intro a w hs
 refine sy (v := v1) hs (y_ld rfl Try.underlying22 rfl (Cell.blk (.tail _ (.head _)) rfl)) ?_; clear hs; (try clear a w); intro a w hs
 refine sy hs (y_lenW hR3 hW4 rfl Try.underlying22) ?_; clear hs; (try clear a w); intro a w hs
 obtain ⟨x11, hx12, hm⟩ := ob hm
 obtain ⟨hix11, hbx11, hex11⟩ := repM_some hx12
 refine RL_makeW hs rfl rfl hix11 Try.underlying22 ti59 (by decide) (AllC.row ⟨rfl, rfl, rfl, rfl, rfl, rfl, rfl, rfl, rfl, trivial⟩ rfl) hbx11 ?_; clear hs; (try clear a w); intro v13 a w hs
 replace hs : St _ _ _ (.row v13 59 9 (List.replicate (p0.Nodes.length : Int).toNat ([.int .i64 (0), .string ((bs [])), .string ((bs [])), (.slice none 0 0), .int .i64 (0), .int .i64 (0), .int .i64 (0), .int .i64 (0), .int .i64 (0)] : List Value)) :: .blk b8 (.cells #[(.slice none 0 0)] 24 (0, 0)) :: .blk b6 (.cells #[v1] 24 (0, 0)) :: L) _ _ _ := hs
 have hW15 : RW t_api_Node f (List.replicate (p0.Nodes.length : Int).toNat ([.int .i64 (0), .string ((bs [])), .string ((bs [])), (.slice none 0 0), .int .i64 (0), .int .i64 (0), .int .i64 (0), .int .i64 (0), .int .i64 (0)] : List Value)) x11 := by rw [← hex11]; exact RW.rep (t := t_api_Node) (r := [.int .i64 (0), .string ((bs [])), .string ((bs [])), (.slice none 0 0), .int .i64 (0), .int .i64 (0), .int .i64 (0), .int .i64 (0), .int .i64 (0)]) (⟨_, rfl, RS.nil⟩) _
 generalize hgx11 : (List.replicate (p0.Nodes.length : Int).toNat ([.int .i64 (0), .string ((bs [])), .string ((bs [])), (.slice none 0 0), .int .i64 (0), .int .i64 (0), .int .i64 (0), .int .i64 (0), .int .i64 (0)] : List Value)) = rw14 at hs hW15; clear hgx11
 replace hs : St _ _ _ (.row v13 59 9 rw14 :: .blk b8 (.cells #[(.slice none 0 0)] 24 (0, 0)) :: .blk b6 (.cells #[v1] 24 (0, 0)) :: L) _ _ _ := hs
 refine sy hs (y_buildS (places := [(0, 1)]) (cs := [v13]) rfl Try.underlying24 ti24 (by kernel_rfl) (by decide) rfl ⟨(hs.one (i := 0) rfl), trivial⟩) ?_; clear hs; (try clear a w); intro a w hs
 refine RL_alloc hs ti24 (.free rfl) (by decide) ?_; clear hs; (try clear a w); intro b20 a w hs
 replace hs : St _ _ _ (.blk b20 (.cells #[(.slice none 0 0)] 24 (0, 0)) :: .row v13 59 9 rw14 :: .blk b8 (.cells #[(.slice none 0 0)] 24 (0, 0)) :: .blk b6 (.cells #[v1] 24 (0, 0)) :: L) _ _ _ := hs
 refine RL_storeAll (i := 0) hs rfl rfl rfl ti24 ⟨rfl, rfl⟩ (AllC.arr (r := [v13]) ⟨(hs.one (i := 1) rfl), trivial⟩) (.free rfl) ?_; clear hs; (try clear a w); intro a w hs
 replace hs : St _ _ _ (.blk b20 (.cells #[v13] 24 (0, 0)) :: .row v13 59 9 rw14 :: .blk b8 (.cells #[(.slice none 0 0)] 24 (0, 0)) :: .blk b6 (.cells #[v1] 24 (0, 0)) :: L) _ _ _ := hs
 refine RL_nil ?_
 refine hK2 _ _ ?_; clear hK2
 refine W_seq fun K3 hK3 => ?_
 refine W_seq fun K4 hK4 => ?_
 refine W_region ?_
 refine sy (v := .int .i64 (0)) hs (y_assign rfl) ?_; clear hs; (try clear a w); intro a w hs
 refine RL_nil ?_
 refine hK4 _ _ ?_; clear hK4
 have hbase30 := Fz.le.refl f
 refine W_post (fun a w => ∃ (f23 : Fz) (y25 : (List api_Node)) (v26 : Value) (rw27 : List (List Value)), Fz.le f f23 ∧ keep_Copy_k1 y25 = some res ∧ RW t_api_Node f23 rw27 y25 ∧ St 40 w0 f23 (.blk b20 (.cells #[v26] 24 (0, 0)) :: .row v26 59 9 rw27 :: .blk b8 (.cells #[(.slice none 0 0)] 24 (0, 0)) :: L) [(2, .pointer (some ⟨b8, 0, none⟩)), (3, .pointer (some ⟨b20, 0, none⟩))] a w) ?_ ?_
 ·clear hs hm
  clear hbase30
  rintro a w ⟨f23, y25, v26, rw27, hl24, hm, hW28, hs⟩
  replace hR3 := hR3.le hl24
  replace hW4 := hW4.le hl24
  replace hW15 := hW15.le hl24
  replace hle := hle.trans hl24
  replace hs : St _ _ _ (.blk b20 (.cells #[v26] 24 (0, 0)) :: .row v26 59 9 rw27 :: .blk b8 (.cells #[(.slice none 0 0)] 24 (0, 0)) :: L) _ _ _ := hs
  unfold keep_Copy_k1 at hm
  refine hK3 _ _ ?_; clear hK3
  refine W_seq fun K5 hK5 => ?_
  refine W_region ?_
  refine sy hs (y_ldB rfl Try.underlying24 rfl ti24 (.head _) rfl) ?_; clear hs; (try clear a w); intro a w hs
  refine RL_storeAll (i := 2) hs rfl rfl rfl ti24 ⟨rfl, rfl⟩ (AllC.arr (r := [v26]) ⟨(hs.one (i := 1) rfl), trivial⟩) (.free rfl) ?_; clear hs; (try clear a w); intro a w hs
  replace hs : St _ _ _ (.blk b20 (.cells #[v26] 24 (0, 0)) :: .row v26 59 9 rw27 :: .blk b8 (.cells #[v26] 24 (0, 0)) :: L) _ _ _ := hs
  refine RL_nil ?_
  refine hK5 _ _ ?_; clear hK5
  refine W_ret ?_
  obtain ⟨f31, hf32, hs2, hR33⟩ := hs.frzAt 1 rfl
  clear hs; have hs := hs2; clear hs2
  replace hW28 := hW28.le hf32
  replace hle := hle.trans hf32
  replace hs : St _ _ _ (.blk b20 (.cells #[v26] 24 (0, 0)) :: .blk b8 (.cells #[v26] 24 (0, 0)) :: L) _ _ _ := hs
  obtain rfl := Option.some.inj hm
  refine RtV1 hs rfl (rv_a hs rfl Try.underlying24 rfl ti24 (fun j u hj => Cell.blk (.tail _ (.head _)) hj) rfl) ?_
  exact ⟨_, f31, [], rfl, hle, (hs.subL (.cons _ (.cons _ (.refl _)))).cw, [v26], rfl, rfl, ⟨_, rfl, ⟨rw27, hR33, hW28⟩⟩⟩
 ·refine W_block fun Qe6 hB6 hO6 => ?_
  have hbase := Fz.le.refl f
  replace hs : St _ _ _ (.blk b20 (.cells #[v13] 24 (0, 0)) :: .row v13 59 9 rw14 :: .blk b8 (.cells #[(.slice none 0 0)] 24 (0, 0)) :: .blk b6 (.cells #[v1] 24 (0, 0)) :: L) _ _ _ := hs
  refine W_loop (fun (k : Nat) a w => ∃ (f34 : Fz) (y36 : (List api_Node)) (y41 : Int) (v37 : Value) (rw38 : List (List Value)), Fz.le f f34 ∧ keep_Copy_l2 p0 k y36 y41 = some res ∧ RW t_api_Node f34 rw38 y36 ∧ St 40 w0 f34 (.blk b20 (.cells #[v37] 24 (0, 0)) :: .row v37 59 9 rw38 :: .blk b8 (.cells #[(.slice none 0 0)] 24 (0, 0)) :: .blk b6 (.cells #[v1] 24 (0, 0)) :: L) [(1, .pointer (some ⟨b6, 0, none⟩)), (2, .pointer (some ⟨b8, 0, none⟩)), (3, .pointer (some ⟨b20, 0, none⟩)), (4, .int .i64 (y41))] a w) (fun k => k) n ⟨_, x11, 0, v13, rw14, (Fz.le.refl _), hm, hW15, hs.sub ⟨rfl, rfl, rfl, rfl, trivial⟩⟩ ?_
  clear hs hm
  intro k
  rintro a w ⟨f34, y36, y41, v37, rw38, hl35, hm, hW39, hs⟩
  replace hR3 := hR3.le hl35
  replace hW4 := hW4.le hl35
  replace hW15 := hW15.le hl35
  replace hle := hle.trans hl35
  replace hbase30 := hbase30.trans hl35
  replace hs : St _ _ _ (.blk b20 (.cells #[v37] 24 (0, 0)) :: .row v37 59 9 rw38 :: .blk b8 (.cells #[(.slice none 0 0)] 24 (0, 0)) :: .blk b6 (.cells #[v1] 24 (0, 0)) :: L) _ _ _ := hs
  intro K7 hK7
  cases k with
  | zero => simp [keep_Copy_l2] at hm
  | succ k42 =>
   rw [keep_Copy_l2] at hm
   have hbase43 := hl35
   refine W_seq fun K8 hK8 => ?_
   refine W_seq fun K9 hK9 => ?_
   refine W_region ?_
   refine sy (v := .int .i64 (y41)) hs (y_move rfl) ?_; clear hs; (try clear a w); intro a w hs
   refine sy (v := .pointer (some ⟨b6, 0, none⟩)) hs (y_fieldAddr rfl (FO.of (off := 0) Try.underlying24 rfl rfl ti22 (by decide))) ?_; clear hs; (try clear a w); intro a w hs
   refine sy (v := v1) hs (y_ld rfl Try.underlying22 rfl (Cell.blk (.tail _ (.tail _ (.tail _ (.head _)))) rfl)) ?_; clear hs; (try clear a w); intro a w hs
   refine sy hs (y_lenW hR3 hW4 rfl Try.underlying22) ?_; clear hs; (try clear a w); intro a w hs
   refine sy hs (y_lss rfl rfl) ?_; clear hs; (try clear a w); intro a w hs
   refine RL_nil ?_
   refine hK9 _ _ ?_; clear hK9
   refine W_cond hs rfl (fun hg44 => ?_) (fun hg44 => ?_)
   ·replace hm := oc_t hg44 hm
    refine W_skip ?_
    refine hK8 _ _ ?_; clear hK8
    refine W_seq fun K10 hK10 => ?_
    refine W_block fun Qe11 hB11 hO11 => ?_
    refine W_seq fun K12 hK12 => ?_
    have hsD := hs.subL (L' := .blk b20 (.cells #[v37] 24 (0, 0)) :: .row v37 59 9 rw38 :: .blk b6 (.cells #[v1] 24 (0, 0)) :: []) (.cons_cons _ (.cons_cons _ (.cons _ (.cons_cons _ (List.nil_sublist _)))))
    refine T_start hs (.blk b20 (.cells #[v37] 24 (0, 0)) :: .row v37 59 9 rw38 :: .blk b6 (.cells #[v1] 24 (0, 0)) :: []) [9] (.look 0 (.look 1 (.look 2 (.look 3 (.look 4 (.look 5 (.look 6 (.look 7 (.look 8 (.any [9] (fun _ => .done))))))))))) mixed (by kernel_rfl) ?_; clear hs; (try clear a w); intro a he
    refine uy (v := .pointer (some ⟨b20, 0, none⟩)) 0 he rfl (y_fieldAddr rfl (FO.of (off := 0) Try.underlying24 rfl rfl ti22 (by decide))) ?_; clear he; (try clear a); intro a he
    refine uy (v := v37) 1 he rfl (y_ld rfl Try.underlying22 rfl (Cell.blk (.head _) rfl)) ?_; clear he; (try clear a); intro a he
    refine uy (v := .int .i64 (y41)) 2 he rfl (y_move rfl) ?_; clear he; (try clear a); intro a he
    refine uy (v := .pointer (some ⟨b6, 0, none⟩)) 3 he rfl (y_fieldAddr rfl (FO.of (off := 0) Try.underlying24 rfl rfl ti22 (by decide))) ?_; clear he; (try clear a); intro a he
    refine uy (v := v1) 4 he rfl (y_ld rfl Try.underlying22 rfl (Cell.blk (.tail _ (.tail _ (.head _))) rfl)) ?_; clear he; (try clear a); intro a he
    refine uy (v := .int .i64 (y41)) 5 he rfl (y_move rfl) ?_; clear he; (try clear a); intro a he
    obtain ⟨x45, hx46, hm⟩ := ob hm
    obtain ⟨r47, hr48, hq49, hi50, hb51⟩ := hW4.geti hx46
    obtain ⟨v52, rfl, ⟨rw53, hR54, hW55⟩⟩ := hq49
    refine uy 6 he rfl (y_indexAddr hR3 rfl rfl hi50 hb51 Try.underlying22 ti59) ?_; clear he; (try clear a); intro a he
    refine uy 7 he rfl (y_loadRow hR3.up rfl hr48 Try.underlying59 rfl ti59) ?_; clear he; (try clear a); intro a he
    obtain ⟨x57, hx58, hm⟩ := ob hm
    obtain ⟨r59, hr60, hq61, hi62, hb63⟩ := hW39.geti hx58
    obtain ⟨v64, rfl, ⟨rw65, hR66, hW67⟩⟩ := hq61
    refine uy 8 he rfl (y_indexAddr (Rd.st hsD (.tail _ (.head _))) rfl rfl hi62 hb63 Try.underlying22 ti59) ?_; clear he; (try clear a); intro a he
    refine T_any1 he rfl ?_; clear he; (try clear a); intro a w hs
    obtain ⟨x69, hx70, hm⟩ := ob hm
    have hex69 := seti_some hx70
    have hW72 := RW.set (i := y41.toNat) (r := [.int .i64 (x45.Kind), .string (x45.Name), .string (x45.Text), v52, .int .i64 (x45.Parent), .int .i64 (x45.First), .int .i64 (x45.Last), .int .i64 (x45.Prev), .int .i64 (x45.Next)]) (x := (x45 : api_Node)) hW39 (⟨_, rfl, ⟨rw53, hR54, hW55⟩⟩); rw [hex69] at hW72
    refine RL_storeElem (i := 1) (m := y41.toNat) (r' := [.int .i64 (x45.Kind), .string (x45.Name), .string (x45.Text), v52, .int .i64 (x45.Parent), .int .i64 (x45.First), .int .i64 (x45.Last), .int .i64 (x45.Prev), .int .i64 (x45.Next)]) hs rfl rfl rfl hr60 ti59 (AllC.row ⟨rfl, rfl, rfl, hR54.one, rfl, rfl, rfl, rfl, rfl, trivial⟩ rfl) (.free rfl) ?_; clear hs; (try clear a w); intro a w hs
    replace hs : St _ _ _ (.blk b20 (.cells #[v37] 24 (0, 0)) :: .row v37 59 9 (rw38.set y41.toNat [.int .i64 (x45.Kind), .string (x45.Name), .string (x45.Text), v52, .int .i64 (x45.Parent), .int .i64 (x45.First), .int .i64 (x45.Last), .int .i64 (x45.Prev), .int .i64 (x45.Next)]) :: .blk b8 (.cells #[(.slice none 0 0)] 24 (0, 0)) :: .blk b6 (.cells #[v1] 24 (0, 0)) :: L) _ _ _ := hs
    generalize hgrw71 : rw38.set y41.toNat [.int .i64 (x45.Kind), .string (x45.Name), .string (x45.Text), v52, .int .i64 (x45.Parent), .int .i64 (x45.First), .int .i64 (x45.Last), .int .i64 (x45.Prev), .int .i64 (x45.Next)] = rw71 at hs hW72; clear hgrw71
    replace hs : St _ _ _ (.blk b20 (.cells #[v37] 24 (0, 0)) :: .row v37 59 9 rw71 :: .blk b8 (.cells #[(.slice none 0 0)] 24 (0, 0)) :: .blk b6 (.cells #[v1] 24 (0, 0)) :: L) _ _ _ := hs
    refine uend hs ?_; clear hs; (try clear a w); intro a he
    refine T_nil he ?_; clear he; (try clear a); intro w hs; try clear hsD
    refine hK12 _ _ ?_; clear hK12
    have hsD := hs.subL (L' := .blk b20 (.cells #[v37] 24 (0, 0)) :: .row v37 59 9 rw71 :: .blk b6 (.cells #[v1] 24 (0, 0)) :: []) (.cons_cons _ (.cons_cons _ (.cons _ (.cons_cons _ (List.nil_sublist _)))))
    refine T_start hs (.blk b20 (.cells #[v37] 24 (0, 0)) :: .row v37 59 9 rw71 :: .blk b6 (.cells #[v1] 24 (0, 0)) :: []) [13] (.look 0 (.look 1 (.look 2 (.look 4 (.look 5 (.look 6 (.look 7 (.look 8 (.look 9 (.any [3] (fun _ => .any [10] (fun _ => .any [11] (fun _ => .look 12 (.any [13] (fun _ => .done))))))))))))))) mixed (by kernel_rfl) ?_; clear hs; (try clear a w); intro a he
    refine uy (v := .pointer (some ⟨b20, 0, none⟩)) 0 he rfl (y_fieldAddr rfl (FO.of (off := 0) Try.underlying24 rfl rfl ti22 (by decide))) ?_; clear he; (try clear a); intro a he
    refine uy (v := v37) 1 he rfl (y_ld rfl Try.underlying22 rfl (Cell.blk (.head _) rfl)) ?_; clear he; (try clear a); intro a he
    refine uy (v := .int .i64 (y41)) 2 he rfl (y_move rfl) ?_; clear he; (try clear a); intro a he
    refine uy (v := .pointer (some ⟨b6, 0, none⟩)) 4 he rfl (y_fieldAddr rfl (FO.of (off := 0) Try.underlying24 rfl rfl ti22 (by decide))) ?_; clear he; (try clear a); intro a he
    refine uy (v := v1) 5 he rfl (y_ld rfl Try.underlying22 rfl (Cell.blk (.tail _ (.tail _ (.head _))) rfl)) ?_; clear he; (try clear a); intro a he
    refine uy (v := .int .i64 (y41)) 6 he rfl (y_move rfl) ?_; clear he; (try clear a); intro a he
    obtain ⟨x74, hx75, hm⟩ := ob hm
    obtain ⟨r76, hr77, hq78, hi79, hb80⟩ := hW4.geti hx75
    obtain ⟨v81, rfl, ⟨rw82, hR83, hW84⟩⟩ := hq78
    refine uy 7 he rfl (y_indexAddr hR3 rfl rfl hi79 hb80 Try.underlying22 ti59) ?_; clear he; (try clear a); intro a he
    refine uy (v := eaddr v1 9 y41.toNat 3) 8 he rfl (y_fieldAddrE (i := y41.toNat) (j := 0) hR3 rfl hb80 (FO.of (off := 3) Try.underlying59 rfl rfl ti32 (by decide))) ?_; clear he; (try clear a); intro a he
    refine uy (v := v81) 9 he rfl (y_loadE (i := y41.toNat) (j := 3) hR3.up rfl hr77 rfl Try.underlying32 rfl) ?_; clear he; (try clear a); intro a he
    refine T_any1 he rfl ?_; clear he; (try clear a); intro a w hs
    refine RL_bs0 hs Try.underlying32 ti53 ?_; clear hs; (try clear a w); intro v86 a w hs
    have hW87 : RW t_api_Attr f34 [] ([] : List api_Attr) := trivial
    generalize hgrw88 : ([] : List (List Value)) = rw88 at hs hW87; clear hgrw88
    replace hs : St _ _ _ (.row v86 53 2 rw88 :: .blk b20 (.cells #[v37] 24 (0, 0)) :: .row v37 59 9 rw71 :: .blk b8 (.cells #[(.slice none 0 0)] 24 (0, 0)) :: .blk b6 (.cells #[v1] 24 (0, 0)) :: L) _ _ _ := hs
    have ho91 : v86.oneCell' = true := hs.one (i := 0) rfl
    refine uon hs ?_; clear hs; (try clear a w); intro a he
    refine T_any1 he rfl ?_; clear he; (try clear a); intro a w hs
    obtain ⟨x92, hx93, hm⟩ := ob hm
    obtain ⟨hbx92, hex92⟩ := appM_some hx93
    have hW96 := hW87.append hW84; rw [hex92] at hW96
    refine RL_append (i := 0) hs rfl rfl rfl hR83.up Try.underlying32 ti53 (by decide) (by rw [RW.len hW87, RW.len hW84]; exact hbx92) (.free rfl) (by decide) ?_; clear hs; (try clear a w); intro v94 a w hs
    generalize hgx92 : rw88 ++ rw82 = rw95 at hs hW96; clear hgx92
    replace hs : St _ _ _ (.row v94 53 2 rw95 :: .blk b20 (.cells #[v37] 24 (0, 0)) :: .row v37 59 9 rw71 :: .blk b8 (.cells #[(.slice none 0 0)] 24 (0, 0)) :: .blk b6 (.cells #[v1] 24 (0, 0)) :: L) _ _ _ := hs
    have ho98 : v94.oneCell' = true := hs.one (i := 0) rfl
    refine uon hs ?_; clear hs; (try clear a w); intro a he
    refine T_any1 he rfl ?_; clear he; (try clear a); intro a w hs
    obtain ⟨x99, hx100, hm⟩ := ob hm
    obtain ⟨r101, hr102, hq103, hi104, hb105⟩ := hW72.geti hx100
    obtain ⟨v106, rfl, ⟨rw107, hR108, hW109⟩⟩ := hq103
    refine sy hs (y_indexAddr (Rd.st hs (.tail _ (.tail _ (.head _)))) rfl rfl hi104 hb105 Try.underlying22 ti59) ?_; clear hs; (try clear a w); intro a w hs
    refine uon hs ?_; clear hs; (try clear a w); intro a he
    refine uy (v := eaddr v37 9 y41.toNat 3) 12 he rfl (y_fieldAddrE (i := y41.toNat) (j := 0) (Rd.st hsD (.tail _ (.head _))) rfl hb105 (FO.of (off := 3) Try.underlying59 rfl rfl ti32 (by decide))) ?_; clear he; (try clear a); intro a he
    refine T_any1 he rfl ?_; clear he; (try clear a); intro a w hs
    obtain ⟨f111, hf112, hs2, hR113⟩ := hs.frzAt 0 rfl
    clear hs; have hs := hs2; clear hs2
    have hR114 := hR3.le hf112
    have hW115 := hW4.le hf112
    have hR116 := hR54.le hf112
    have hW117 := hW55.le hf112
    have hW118 := hW72.le hf112
    have hR119 := hR83.le hf112
    have hW120 := hW84.le hf112
    have hW121 := hW87.le hf112
    have hW122 := hW96.le hf112
    have hR123 := hR108.le hf112
    have hW124 := hW109.le hf112
    replace hle := hle.trans hf112
    replace hbase30 := hbase30.trans hf112
    replace hbase43 := hbase43.trans hf112
    replace hs : St _ _ _ (.blk b20 (.cells #[v37] 24 (0, 0)) :: .row v37 59 9 rw71 :: .blk b8 (.cells #[(.slice none 0 0)] 24 (0, 0)) :: .blk b6 (.cells #[v1] 24 (0, 0)) :: L) _ _ _ := hs
    obtain ⟨x125, hx126, hm⟩ := ob hm
    have hex125 := seti_some hx126
    have hW128 := RW.set (i := y41.toNat) (r := [.int .i64 (x99.Kind), .string (x99.Name), .string (x99.Text), v94, .int .i64 (x99.Parent), .int .i64 (x99.First), .int .i64 (x99.Last), .int .i64 (x99.Prev), .int .i64 (x99.Next)]) (x := (({x99 with Attrs := x92} : api_Node) : api_Node)) hW118 (⟨_, rfl, ⟨rw95, hR113, hW122⟩⟩); rw [hex125] at hW128
    refine RL_storeRow (i := 1) (j := 3) (m := y41.toNat) hs rfl rfl rfl hr102 (by decide) ti32 ho98 (.free rfl) ?_; clear hs; (try clear a w); intro a w hs
    replace hs : St _ _ _ (.blk b20 (.cells #[v37] 24 (0, 0)) :: .row v37 59 9 (rw71.set y41.toNat [.int .i64 (x99.Kind), .string (x99.Name), .string (x99.Text), v94, .int .i64 (x99.Parent), .int .i64 (x99.First), .int .i64 (x99.Last), .int .i64 (x99.Prev), .int .i64 (x99.Next)]) :: .blk b8 (.cells #[(.slice none 0 0)] 24 (0, 0)) :: .blk b6 (.cells #[v1] 24 (0, 0)) :: L) _ _ _ := hs
    generalize hgrw127 : rw71.set y41.toNat [.int .i64 (x99.Kind), .string (x99.Name), .string (x99.Text), v94, .int .i64 (x99.Parent), .int .i64 (x99.First), .int .i64 (x99.Last), .int .i64 (x99.Prev), .int .i64 (x99.Next)] = rw127 at hs hW128; clear hgrw127
    replace hs : St _ _ _ (.blk b20 (.cells #[v37] 24 (0, 0)) :: .row v37 59 9 rw127 :: .blk b8 (.cells #[(.slice none 0 0)] 24 (0, 0)) :: .blk b6 (.cells #[v1] 24 (0, 0)) :: L) _ _ _ := hs
    refine uend hs ?_; clear hs; (try clear a w); intro a he
    refine T_nil he ?_; clear he; (try clear a); intro w hs; try clear hsD
    refine hK10 _ _ ?_; clear hK10
    refine W_region ?_
    refine sy (v := .int .i64 (y41)) hs (y_move rfl) ?_; clear hs; (try clear a w); intro a w hs
    refine sy hs (y_add rfl rfl rfl) ?_; clear hs; (try clear a w); intro a w hs
    refine sy (v := .int .i64 ((w64 (y41 + 1)))) hs (y_assign rfl) ?_; clear hs; (try clear a w); intro a w hs
    refine RL_nil ?_
    replace hs : St _ _ _ (.blk b20 (.cells #[v37] 24 (0, 0)) :: .row v37 59 9 rw127 :: .blk b8 (.cells #[(.slice none 0 0)] 24 (0, 0)) :: .blk b6 (.cells #[v1] 24 (0, 0)) :: L) _ _ _ := hs
    exact hK7 k42 _ _ (Nat.lt_succ_self _) ⟨_, x125, (w64 (y41 + 1)), v37, rw127, hbase43, hm, hW128, hs.sub ⟨rfl, rfl, rfl, rfl, trivial⟩⟩
   ·replace hm := oc_f hg44 hm
    refine W_exit ?_
    refine hB6 _ _ ?_
    replace hs : St _ _ _ (.blk b20 (.cells #[v37] 24 (0, 0)) :: .row v37 59 9 rw38 :: .blk b8 (.cells #[(.slice none 0 0)] 24 (0, 0)) :: .blk b6 (.cells #[v1] 24 (0, 0)) :: L) _ _ _ := hs
    exact ⟨_, y36, v37, rw38, hbase30, hm, hW39, hs.subs ⟨rfl, rfl, trivial⟩ (.cons_cons _ (.cons_cons _ (.cons_cons _ (.cons _ (.refl _)))))⟩
end Go.Proofs.Ytekcbgnkikmhpaa
