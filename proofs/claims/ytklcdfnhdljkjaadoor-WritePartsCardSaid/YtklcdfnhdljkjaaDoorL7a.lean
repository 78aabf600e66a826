/-
  Walks and laws of this seat; the base is the text Base.
-/
import Derived.Test.YtklcdfnhdljkjaaDoorY7
import Derived.Test.YtklcdfnhdljkjaaDoorRows
/-
  Models of functions, and that the functions compute them. Printed by lift.py.
-/
namespace Go.Proofs.YtklcdfnhdljkjaaDoor
open Go.RowKit Go.Sl
/-! casement/dom.has -/
def dom_has (_n : Nat) (p0 : api_Tree) (p1 : Int) : Option Bool :=
  some ((decide (0 ≤ p1)) && (decide (p1 < (p0.Nodes.length : Int))))
set_option maxRecDepth 20000 in
set_option maxHeartbeats 4000000 in
theorem dom_has_ok (n : Nat) {f : Fz} {p0 : api_Tree} {a0 : List Value} {p1 : Int} {res : Bool} (h0 : t_api_Tree.R f a0 p0) (hm : dom_has n p0 p1 = some res) : Gives Tryd.prog 32 [.agg a0.toArray, .int .i64 p1] f (.bool res) := by
 unfold dom_has at hm
 intro w0 L w hC
 obtain ⟨v1, rfl, ⟨rw2, hR3, hW4⟩⟩ := h0
 refine enter Tryd.func32 rfl Tryd.ntmps32 (by simp) hC fun a hs => ?_
 have hle := Fz.le.refl f
 refine W_seq fun K1 hK1 => ?_
 refine W_region ?_
 refine sbox hs rfl ?_; clear hs; (try clear a w); intro b6 a w hs
 replace hs : St _ _ _ (.blk b6 (.cells #[v1] 24 (0, 0)) :: L) _ _ _ := hs
 refine sy (v := .bool (false)) hs (y_assign rfl) ?_; clear hs; (try clear a w); intro a w hs
 refine RL_nil ?_
 refine hK1 _ _ ?_; clear hK1
 refine W_seq fun K2 hK2 => ?_
 refine W_post (fun a w => St 14 w0 f (.blk b6 (.cells #[v1] 24 (0, 0)) :: L) [(4, .bool (((decide (0 ≤ p1)) && (decide (p1 < (p0.Nodes.length : Int))))))] a w) ?_ ?_
 ·clear hs; intro a w hs
  refine hK2 _ _ ?_; clear hK2
  refine W_ret ?_
  obtain rfl := Option.some.inj hm
  refine RtV1 hs rfl (rv_t hs rfl) ?_
  exact ⟨rfl, ((hs.subL (.cons _ (.refl _))).weak hle).cw⟩
 ·refine W_region ?_
  refine sy (v := .int .i64 (p1)) hs (y_move rfl) ?_; clear hs; (try clear a w); intro a w hs
  refine sy hs (y_geq rfl rfl) ?_; clear hs; (try clear a w); intro a w hs
  refine sy (v := .bool (decide (0 ≤ p1))) hs (y_move rfl) ?_; clear hs; (try clear a w); intro a w hs
  refine St.split hs (t := 7) rfl (fun hg8 hq => ?_) (fun hg8 hq => ?_)
  ·clear hs; have hs := hq; clear hq
   refine syg (v := .int .i64 (p1)) hs (y_move rfl) ?_; clear hs; (try clear a w); intro a w hs
   refine syg (v := .pointer (some ⟨b6, 0, none⟩)) hs (y_fieldAddr rfl (FO.of (off := 0) Tryd.underlying24 rfl rfl ti22 (by decide))) ?_; clear hs; (try clear a w); intro a w hs
   refine syg (v := v1) hs (y_ld rfl Tryd.underlying22 rfl (Cell.blk (.head _) rfl)) ?_; clear hs; (try clear a w); intro a w hs
   refine syg hs (y_lenW hR3 hW4 rfl Tryd.underlying22) ?_; clear hs; (try clear a w); intro a w hs
   refine syg hs (y_lss rfl rfl) ?_; clear hs; (try clear a w); intro a w hs
   refine sy (v := .bool (decide (p1 < (p0.Nodes.length : Int)))) hs (y_pick rfl rfl) ?_; clear hs; (try clear a w); intro a w hs
   refine sy (v := .bool (decide (p1 < (p0.Nodes.length : Int)))) hs (y_assign rfl) ?_; clear hs; (try clear a w); intro a w hs
   refine RL_nil ?_
   exact hs.sub ⟨(lkB (((and_t hg8).trans rfl)) rfl), trivial⟩
  ·clear hs; have hs := hq; clear hq
   refine sno hs ?_; clear hs; (try clear a w); intro a w hs
   refine sno hs ?_; clear hs; (try clear a w); intro a w hs
   refine sno hs ?_; clear hs; (try clear a w); intro a w hs
   refine sno hs ?_; clear hs; (try clear a w); intro a w hs
   refine sno hs ?_; clear hs; (try clear a w); intro a w hs
   refine sy (v := .bool (false)) hs (y_pick rfl rfl) ?_; clear hs; (try clear a w); intro a w hs
   refine sy (v := .bool (false)) hs (y_assign rfl) ?_; clear hs; (try clear a w); intro a w hs
   refine RL_nil ?_
   exact hs.sub ⟨(lkB (((and_f hg8).trans rfl)) rfl), trivial⟩
/-! casement/dom.alone -/
def dom_alone_k1 : Option Bool :=
  some true
def dom_alone_k3 (y17 : (List (ByteArray × Int))) (y21 : Int) (lp22 : (List (ByteArray × Int)) → Int → Option Bool) (x24 : api_Attr) (y33 : Bool) : Option Bool :=
  (bif y33 then some false else
  lp22 (mputM y17 x24.Name (w64 (((mgetM y17 x24.Name).getD 0) + 1))) (w64 (y21 + 1)))
def dom_alone_l2 (p0 : api_Node) : Nat → (List (ByteArray × Int)) → Int → Option Bool
  | 0, _, _ => none
  | k22 + 1, y17, y21 =>
  (bif (decide (y21 < (p0.Attrs.length : Int))) then (geti p0.Attrs y21).bind fun x24 =>
  (bif (decide (x24.Name = (bs []))) then dom_alone_k3 y17 y21 (dom_alone_l2 p0 k22) x24 true else
  dom_alone_k3 y17 y21 (dom_alone_l2 p0 k22) x24 (decide (0 < ((mgetM y17 x24.Name).getD 0)))) else
  dom_alone_k1)
def dom_alone (n : Nat) (p0 : api_Node) : Option Bool :=
  (bif (decide (p0.Kind = 2)) then some ((decide (p0.Name = (bs []))) && ((decide (p0.Text ≠ (bs []))) && ((decide ((p0.Attrs.length : Int) = 0)) && ((decide (p0.First = (-1))) && (decide (p0.Last = (-1))))))) else
  (bif ((decide (p0.Kind ≠ 1)) || ((decide (p0.Name = (bs []))) || ((decide (p0.Text ≠ (bs []))) || (decide (64 < (p0.Attrs.length : Int)))))) then some false else
  dom_alone_l2 p0 n ([] : List (ByteArray × Int)) 0))
set_option maxRecDepth 20000 in
set_option maxHeartbeats 4000000 in
theorem dom_alone_ok (n : Nat) {f : Fz} {p0 : api_Node} {a0 : List Value} {res : Bool} (h0 : t_api_Node.R f a0 p0) (hm : dom_alone n p0 = some res) : Gives Tryd.prog 36 [.agg a0.toArray] f (.bool res) := by
 unfold dom_alone at hm
 intro w0 L w hC
 obtain ⟨v1, rfl, ⟨rw2, hR3, hW4⟩⟩ := h0
 refine enter Tryd.func36 rfl Tryd.ntmps36 (by simp) hC fun a hs => ?_
 have hle := Fz.le.refl f
 refine W_seq fun K1 hK1 => ?_
 refine W_region ?_
 refine sbox hs rfl ?_; clear hs; (try clear a w); intro b6 a w hs
 replace hs : St _ _ _ (.blk b6 (.cells #[.int .i64 (p0.Kind), .string (p0.Name), .string (p0.Text), v1, .int .i64 (p0.Parent), .int .i64 (p0.First), .int .i64 (p0.Last), .int .i64 (p0.Prev), .int .i64 (p0.Next)] 37 (0, 0)) :: L) _ _ _ := hs
 refine sy (v := .bool (false)) hs (y_assign rfl) ?_; clear hs; (try clear a w); intro a w hs
 refine RL_nil ?_
 refine hK1 _ _ ?_; clear hK1
 refine W_seq fun K2 hK2 => ?_
 refine W_seq fun K3 hK3 => ?_
 refine W_region ?_
 refine sy (v := .pointer (some ⟨b6, 0, none⟩)) hs (y_fieldAddr rfl (FO.of (off := 0) Tryd.underlying37 rfl rfl ti3 (by decide))) ?_; clear hs; (try clear a w); intro a w hs
 refine sy (v := .int .i64 (p0.Kind)) hs (y_ld rfl Tryd.underlying3 rfl (Cell.blk (.head _) rfl)) ?_; clear hs; (try clear a w); intro a w hs
 refine sy hs (y_eql rfl rfl) ?_; clear hs; (try clear a w); intro a w hs
 refine RL_nil ?_
 refine hK3 _ _ ?_; clear hK3
 refine W_cond hs rfl (fun hg8 => ?_) (fun hg8 => ?_)
 ·replace hm := oc_t hg8 hm
  refine W_seq fun K4 hK4 => ?_
  refine W_post (fun a w => St 76 w0 f (.blk b6 (.cells #[.int .i64 (p0.Kind), .string (p0.Name), .string (p0.Text), v1, .int .i64 (p0.Parent), .int .i64 (p0.First), .int .i64 (p0.Last), .int .i64 (p0.Prev), .int .i64 (p0.Next)] 37 (0, 0)) :: L) [(2, .bool (((decide (p0.Name = (bs []))) && ((decide (p0.Text ≠ (bs []))) && ((decide ((p0.Attrs.length : Int) = 0)) && ((decide (p0.First = (-1))) && (decide (p0.Last = (-1)))))))))] a w) ?_ ?_
  ·clear hs; intro a w hs
   refine hK4 _ _ ?_; clear hK4
   refine W_ret ?_
   obtain rfl := Option.some.inj hm
   refine RtV1 hs rfl (rv_t hs rfl) ?_
   exact ⟨rfl, ((hs.subL (.cons _ (.refl _))).weak hle).cw⟩
  ·refine W_region ?_
   refine sy (v := .pointer (some ⟨b6, 1, none⟩)) hs (y_fieldAddr rfl (FO.of (off := 1) Tryd.underlying37 rfl rfl ti9 (by decide))) ?_; clear hs; (try clear a w); intro a w hs
   refine sy (v := .string (p0.Name)) hs (y_ld rfl Tryd.underlying9 rfl (Cell.blk (.head _) rfl)) ?_; clear hs; (try clear a w); intro a w hs
   refine sy hs (y_seql rfl rfl) ?_; clear hs; (try clear a w); intro a w hs
   refine sy (v := .bool (decide (p0.Name = (bs [])))) hs (y_move rfl) ?_; clear hs; (try clear a w); intro a w hs
   refine St.split hs (t := 12) rfl (fun hg9 hq => ?_) (fun hg9 hq => ?_)
   ·clear hs; have hs := hq; clear hq
    refine syg (v := .pointer (some ⟨b6, 2, none⟩)) hs (y_fieldAddr rfl (FO.of (off := 2) Tryd.underlying37 rfl rfl ti9 (by decide))) ?_; clear hs; (try clear a w); intro a w hs
    refine syg (v := .string (p0.Text)) hs (y_ld rfl Tryd.underlying9 rfl (Cell.blk (.head _) rfl)) ?_; clear hs; (try clear a w); intro a w hs
    refine syg hs (y_sneq rfl rfl) ?_; clear hs; (try clear a w); intro a w hs
    refine sy (v := .bool (decide (p0.Text ≠ (bs [])))) hs (y_pick rfl rfl) ?_; clear hs; (try clear a w); intro a w hs
    refine sy (v := .bool (decide (p0.Text ≠ (bs [])))) hs (y_move rfl) ?_; clear hs; (try clear a w); intro a w hs
    refine St.split hs (t := 17) rfl (fun hg10 hq => ?_) (fun hg10 hq => ?_)
    ·clear hs; have hs := hq; clear hq
     refine syg (v := .pointer (some ⟨b6, 3, none⟩)) hs (y_fieldAddr rfl (FO.of (off := 3) Tryd.underlying37 rfl rfl ti28 (by decide))) ?_; clear hs; (try clear a w); intro a w hs
     refine syg (v := v1) hs (y_ld rfl Tryd.underlying28 rfl (Cell.blk (.head _) rfl)) ?_; clear hs; (try clear a w); intro a w hs
     refine syg hs (y_lenW hR3 hW4 rfl Tryd.underlying28) ?_; clear hs; (try clear a w); intro a w hs
     refine syg hs (y_eql rfl rfl) ?_; clear hs; (try clear a w); intro a w hs
     refine sy (v := .bool (decide ((p0.Attrs.length : Int) = 0))) hs (y_pick rfl rfl) ?_; clear hs; (try clear a w); intro a w hs
     refine sy (v := .bool (decide ((p0.Attrs.length : Int) = 0))) hs (y_move rfl) ?_; clear hs; (try clear a w); intro a w hs
     refine St.split hs (t := 23) rfl (fun hg11 hq => ?_) (fun hg11 hq => ?_)
     ·clear hs; have hs := hq; clear hq
      refine syg (v := .pointer (some ⟨b6, 5, none⟩)) hs (y_fieldAddr rfl (FO.of (off := 5) Tryd.underlying37 rfl rfl ti3 (by decide))) ?_; clear hs; (try clear a w); intro a w hs
      refine syg (v := .int .i64 (p0.First)) hs (y_ld rfl Tryd.underlying3 rfl (Cell.blk (.head _) rfl)) ?_; clear hs; (try clear a w); intro a w hs
      refine syg hs (y_eql rfl rfl) ?_; clear hs; (try clear a w); intro a w hs
      refine sy (v := .bool (decide (p0.First = (-1)))) hs (y_pick rfl rfl) ?_; clear hs; (try clear a w); intro a w hs
      refine sy (v := .bool (decide (p0.First = (-1)))) hs (y_move rfl) ?_; clear hs; (try clear a w); intro a w hs
      refine St.split hs (t := 28) rfl (fun hg12 hq => ?_) (fun hg12 hq => ?_)
      ·clear hs; have hs := hq; clear hq
       refine syg (v := .pointer (some ⟨b6, 6, none⟩)) hs (y_fieldAddr rfl (FO.of (off := 6) Tryd.underlying37 rfl rfl ti3 (by decide))) ?_; clear hs; (try clear a w); intro a w hs
       refine syg (v := .int .i64 (p0.Last)) hs (y_ld rfl Tryd.underlying3 rfl (Cell.blk (.head _) rfl)) ?_; clear hs; (try clear a w); intro a w hs
       refine syg hs (y_eql rfl rfl) ?_; clear hs; (try clear a w); intro a w hs
       refine sy (v := .bool (decide (p0.Last = (-1)))) hs (y_pick rfl rfl) ?_; clear hs; (try clear a w); intro a w hs
       refine sy (v := .bool (decide (p0.Last = (-1)))) hs (y_assign rfl) ?_; clear hs; (try clear a w); intro a w hs
       refine RL_nil ?_
       exact hs.sub ⟨(lkB (((and_t hg9).trans ((and_t hg10).trans ((and_t hg11).trans ((and_t hg12).trans rfl))))) rfl), trivial⟩
      ·clear hs; have hs := hq; clear hq
       refine sno hs ?_; clear hs; (try clear a w); intro a w hs
       refine sno hs ?_; clear hs; (try clear a w); intro a w hs
       refine sno hs ?_; clear hs; (try clear a w); intro a w hs
       refine sy (v := .bool (false)) hs (y_pick rfl rfl) ?_; clear hs; (try clear a w); intro a w hs
       refine sy (v := .bool (false)) hs (y_assign rfl) ?_; clear hs; (try clear a w); intro a w hs
       refine RL_nil ?_
       exact hs.sub ⟨(lkB (((and_t hg9).trans ((and_t hg10).trans ((and_t hg11).trans ((and_f hg12).trans rfl))))) rfl), trivial⟩
     ·clear hs; have hs := hq; clear hq
      refine sno hs ?_; clear hs; (try clear a w); intro a w hs
      refine sno hs ?_; clear hs; (try clear a w); intro a w hs
      refine sno hs ?_; clear hs; (try clear a w); intro a w hs
      refine sy (v := .bool (false)) hs (y_pick rfl rfl) ?_; clear hs; (try clear a w); intro a w hs
      refine sy (v := .bool (false)) hs (y_move rfl) ?_; clear hs; (try clear a w); intro a w hs
      refine sno hs ?_; clear hs; (try clear a w); intro a w hs
      refine sno hs ?_; clear hs; (try clear a w); intro a w hs
      refine sno hs ?_; clear hs; (try clear a w); intro a w hs
      refine sy (v := .bool (false)) hs (y_pick rfl rfl) ?_; clear hs; (try clear a w); intro a w hs
      refine sy (v := .bool (false)) hs (y_assign rfl) ?_; clear hs; (try clear a w); intro a w hs
      refine RL_nil ?_
      exact hs.sub ⟨(lkB (((and_t hg9).trans ((and_t hg10).trans ((and_f hg11).trans rfl)))) rfl), trivial⟩
    ·clear hs; have hs := hq; clear hq
     refine sno hs ?_; clear hs; (try clear a w); intro a w hs
     refine sno hs ?_; clear hs; (try clear a w); intro a w hs
     refine sno hs ?_; clear hs; (try clear a w); intro a w hs
     refine sno hs ?_; clear hs; (try clear a w); intro a w hs
     refine sy (v := .bool (false)) hs (y_pick rfl rfl) ?_; clear hs; (try clear a w); intro a w hs
     refine sy (v := .bool (false)) hs (y_move rfl) ?_; clear hs; (try clear a w); intro a w hs
     refine sno hs ?_; clear hs; (try clear a w); intro a w hs
     refine sno hs ?_; clear hs; (try clear a w); intro a w hs
     refine sno hs ?_; clear hs; (try clear a w); intro a w hs
     refine sy (v := .bool (false)) hs (y_pick rfl rfl) ?_; clear hs; (try clear a w); intro a w hs
     refine sy (v := .bool (false)) hs (y_move rfl) ?_; clear hs; (try clear a w); intro a w hs
     refine sno hs ?_; clear hs; (try clear a w); intro a w hs
     refine sno hs ?_; clear hs; (try clear a w); intro a w hs
     refine sno hs ?_; clear hs; (try clear a w); intro a w hs
     refine sy (v := .bool (false)) hs (y_pick rfl rfl) ?_; clear hs; (try clear a w); intro a w hs
     refine sy (v := .bool (false)) hs (y_assign rfl) ?_; clear hs; (try clear a w); intro a w hs
     refine RL_nil ?_
     exact hs.sub ⟨(lkB (((and_t hg9).trans ((and_f hg10).trans rfl))) rfl), trivial⟩
   ·clear hs; have hs := hq; clear hq
    refine sno hs ?_; clear hs; (try clear a w); intro a w hs
    refine sno hs ?_; clear hs; (try clear a w); intro a w hs
    refine sno hs ?_; clear hs; (try clear a w); intro a w hs
    refine sy (v := .bool (false)) hs (y_pick rfl rfl) ?_; clear hs; (try clear a w); intro a w hs
    refine sy (v := .bool (false)) hs (y_move rfl) ?_; clear hs; (try clear a w); intro a w hs
    refine sno hs ?_; clear hs; (try clear a w); intro a w hs
    refine sno hs ?_; clear hs; (try clear a w); intro a w hs
    refine sno hs ?_; clear hs; (try clear a w); intro a w hs
    refine sno hs ?_; clear hs; (try clear a w); intro a w hs
    refine sy (v := .bool (false)) hs (y_pick rfl rfl) ?_; clear hs; (try clear a w); intro a w hs
    refine sy (v := .bool (false)) hs (y_move rfl) ?_; clear hs; (try clear a w); intro a w hs
    refine sno hs ?_; clear hs; (try clear a w); intro a w hs
    refine sno hs ?_; clear hs; (try clear a w); intro a w hs
    refine sno hs ?_; clear hs; (try clear a w); intro a w hs
    refine sy (v := .bool (false)) hs (y_pick rfl rfl) ?_; clear hs; (try clear a w); intro a w hs
    refine sy (v := .bool (false)) hs (y_move rfl) ?_; clear hs; (try clear a w); intro a w hs
    refine sno hs ?_; clear hs; (try clear a w); intro a w hs
    refine sno hs ?_; clear hs; (try clear a w); intro a w hs
    refine sno hs ?_; clear hs; (try clear a w); intro a w hs
    refine sy (v := .bool (false)) hs (y_pick rfl rfl) ?_; clear hs; (try clear a w); intro a w hs
    refine sy (v := .bool (false)) hs (y_assign rfl) ?_; clear hs; (try clear a w); intro a w hs
    refine RL_nil ?_
    exact hs.sub ⟨(lkB (((and_f hg9).trans rfl)) rfl), trivial⟩
 ·replace hm := oc_f hg8 hm
  refine W_skip ?_
  refine hK2 _ _ ?_; clear hK2
  refine W_seq fun K5 hK5 => ?_
  refine W_seq fun K6 hK6 => ?_
  refine W_post (fun a w => St 76 w0 f (.blk b6 (.cells #[.int .i64 (p0.Kind), .string (p0.Name), .string (p0.Text), v1, .int .i64 (p0.Parent), .int .i64 (p0.First), .int .i64 (p0.Last), .int .i64 (p0.Prev), .int .i64 (p0.Next)] 37 (0, 0)) :: L) [(1, .pointer (some ⟨b6, 0, none⟩)), (51, .bool (((decide (p0.Kind ≠ 1)) || ((decide (p0.Name = (bs []))) || ((decide (p0.Text ≠ (bs []))) || (decide (64 < (p0.Attrs.length : Int))))))))] a w) ?_ ?_
  ·clear hs; intro a w hs
   refine hK6 _ _ ?_; clear hK6
   refine W_cond hs rfl (fun hg13 => ?_) (fun hg13 => ?_)
   ·replace hm := oc_t hg13 hm
    refine W_seq fun K7 hK7 => ?_
    refine W_region ?_
    refine sy (v := .bool (false)) hs (y_assign rfl) ?_; clear hs; (try clear a w); intro a w hs
    refine RL_nil ?_
    refine hK7 _ _ ?_; clear hK7
    refine W_ret ?_
    obtain rfl := Option.some.inj hm
    refine RtV1 hs rfl (rv_t hs rfl) ?_
    exact ⟨rfl, ((hs.subL (.cons _ (.refl _))).weak hle).cw⟩
   ·replace hm := oc_f hg13 hm
    refine W_skip ?_
    refine hK5 _ _ ?_; clear hK5
    refine W_seq fun K8 hK8 => ?_
    refine W_region ?_
    refine RL_makeMap hs ?_; clear hs; (try clear a w); intro b14 a w hs
    have hS15 : SM (fun x => .int .i64 x) #[] [] := SM.nil
    replace hs : St _ _ _ (.blk b14 (.map #[] 0) :: .blk b6 (.cells #[.int .i64 (p0.Kind), .string (p0.Name), .string (p0.Text), v1, .int .i64 (p0.Parent), .int .i64 (p0.First), .int .i64 (p0.Last), .int .i64 (p0.Prev), .int .i64 (p0.Next)] 37 (0, 0)) :: L) _ _ _ := hs
    refine sy (v := .map (some b14)) hs (y_assign rfl) ?_; clear hs; (try clear a w); intro a w hs
    refine RL_nil ?_
    refine hK8 _ _ ?_; clear hK8
    refine W_seq fun K9 hK9 => ?_
    refine W_seq fun K10 hK10 => ?_
    refine W_region ?_
    refine sy (v := .pointer (some ⟨b6, 3, none⟩)) hs (y_fieldAddr rfl (FO.of (off := 3) Tryd.underlying37 rfl rfl ti28 (by decide))) ?_; clear hs; (try clear a w); intro a w hs
    refine sy (v := v1) hs (y_ld rfl Tryd.underlying28 rfl (Cell.blk (.tail _ (.head _)) rfl)) ?_; clear hs; (try clear a w); intro a w hs
    refine sy hs (y_lenW hR3 hW4 rfl Tryd.underlying28) ?_; clear hs; (try clear a w); intro a w hs
    refine sy (v := .int .i64 (0)) hs (y_move rfl) ?_; clear hs; (try clear a w); intro a w hs
    refine RL_nil ?_
    refine hK10 _ _ ?_; clear hK10
    refine W_post (fun a w => dom_alone_k1 = some res ∧ St 76 w0 f (L) [] a w) ?_ ?_
    ·clear hs hm
     rintro a w ⟨hm, hs⟩
     replace hs : St _ _ _ (L) _ _ _ := hs
     unfold dom_alone_k1 at hm
     refine hK9 _ _ ?_; clear hK9
     refine W_seq fun K11 hK11 => ?_
     refine W_region ?_
     refine sy (v := .bool (true)) hs (y_assign rfl) ?_; clear hs; (try clear a w); intro a w hs
     refine RL_nil ?_
     refine hK11 _ _ ?_; clear hK11
     refine W_ret ?_
     obtain rfl := Option.some.inj hm
     refine RtV1 hs rfl (rv_t hs rfl) ?_
     exact ⟨rfl, (hs.weak hle).cw⟩
    ·refine W_block fun Qe12 hB12 hO12 => ?_
     refine W_loop (fun (k : Nat) a w => ∃ (y17 : (List (ByteArray × Int))) (y21 : Int) (es18 : Array MapEntry) (c19 : Nat), dom_alone_l2 p0 k y17 y21 = some res ∧ SM (fun x => .int .i64 x) es18 y17 ∧ St 76 w0 f (.blk b14 (.map es18 c19) :: L) [(3, .map (some b14)), (54, v1), (55, .int .i64 ((p0.Attrs.length : Int))), (56, .int .i64 (y21))] a w) (fun k => k) n ⟨([] : List (ByteArray × Int)), 0, #[], 0, hm, hS15, hs.subs ⟨rfl, rfl, rfl, rfl, trivial⟩ (.cons_cons _ (.cons _ (.refl _)))⟩ ?_
     clear hs hm
     intro k
     rintro a w ⟨y17, y21, es18, c19, hm, hS20, hs⟩
     replace hs : St _ _ _ (.blk b14 (.map es18 c19) :: L) _ _ _ := hs
     intro K13 hK13
     cases k with
     | zero => simp [dom_alone_l2] at hm
     | succ k22 =>
      rw [dom_alone_l2] at hm
      refine W_seq fun K14 hK14 => ?_
      refine W_region ?_
      refine sy hs (y_lss rfl rfl) ?_; clear hs; (try clear a w); intro a w hs
      refine RL_nil ?_
      refine hK14 _ _ ?_; clear hK14
      refine W_seq fun K15 hK15 => ?_
      refine W_cond hs rfl (fun hg23 => ?_) (fun hg23 => ?_)
      ·replace hm := oc_t hg23 hm
       refine W_skip ?_
       refine hK15 _ _ ?_; clear hK15
       refine W_seq fun K16 hK16 => ?_
       refine W_block fun Qe17 hB17 hO17 => ?_
       refine W_seq fun K18 hK18 => ?_
       refine W_region ?_
       obtain ⟨x24, hx25, hm⟩ := ob hm
       obtain ⟨r26, hr27, hq28, hi29, hb30⟩ := hW4.geti hx25
       obtain rfl : _ = ([.string (x24.Name), .string (x24.Value)] : List Value) := hq28
       refine sy hs (y_indexAddr hR3 rfl rfl hi29 hb30 Tryd.underlying28 ti43) ?_; clear hs; (try clear a w); intro a w hs
       refine sy hs (y_loadRow hR3.up rfl hr27 Tryd.underlying43 rfl ti43) ?_; clear hs; (try clear a w); intro a w hs
       refine RL_alloc hs ti43 (.free rfl) (by decide) ?_; clear hs; (try clear a w); intro b31 a w hs
       replace hs : St _ _ _ (.blk b31 (.cells #[.string ((bs [])), .string ((bs []))] 43 (0, 0)) :: .blk b14 (.map es18 c19) :: L) _ _ _ := hs
       refine RL_storeAll (i := 0) hs rfl rfl rfl ti43 ⟨rfl, rfl⟩ (AllC.arr (r := [.string (x24.Name), .string (x24.Value)]) ⟨rfl, rfl, trivial⟩) (.free rfl) ?_; clear hs; (try clear a w); intro a w hs
       replace hs : St _ _ _ (.blk b31 (.cells #[.string (x24.Name), .string (x24.Value)] 43 (0, 0)) :: .blk b14 (.map es18 c19) :: L) _ _ _ := hs
       refine RL_nil ?_
       refine hK18 _ _ ?_; clear hK18
       refine W_seq fun K19 hK19 => ?_
       refine W_seq fun K20 hK20 => ?_
       refine W_post (fun a w => ∃ (y33 : Bool), dom_alone_k3 y17 y21 (dom_alone_l2 p0 k22) x24 y33 = some res ∧ St 76 w0 f (.blk b31 (.cells #[.string (x24.Name), .string (x24.Value)] 43 (0, 0)) :: .blk b14 (.map es18 c19) :: L) [(3, .map (some b14)), (5, .pointer (some ⟨b31, 0, none⟩)), (54, v1), (55, .int .i64 ((p0.Attrs.length : Int))), (56, .int .i64 (y21)), (69, .bool (y33))] a w) ?_ ?_
       ·clear hs hm
        rintro a w ⟨y33, hm, hs⟩
        replace hs : St _ _ _ (.blk b31 (.cells #[.string (x24.Name), .string (x24.Value)] 43 (0, 0)) :: .blk b14 (.map es18 c19) :: L) _ _ _ := hs
        unfold dom_alone_k3 at hm
        refine hK20 _ _ ?_; clear hK20
        refine W_cond hs rfl (fun hg34 => ?_) (fun hg34 => ?_)
        ·replace hm := oc_t hg34 hm
         refine W_seq fun K21 hK21 => ?_
         refine W_region ?_
         refine sy (v := .bool (false)) hs (y_assign rfl) ?_; clear hs; (try clear a w); intro a w hs
         refine RL_nil ?_
         refine hK21 _ _ ?_; clear hK21
         refine W_ret ?_
         obtain rfl := Option.some.inj hm
         refine RtV1 hs rfl (rv_t hs rfl) ?_
         exact ⟨rfl, ((hs.subL (.cons _ (.cons _ (.refl _)))).weak hle).cw⟩
        ·replace hm := oc_f hg34 hm
         refine W_skip ?_
         refine hK19 _ _ ?_; clear hK19
         refine W_region ?_
         refine sy (v := .map (some b14)) hs (y_move rfl) ?_; clear hs; (try clear a w); intro a w hs
         refine sy (v := .pointer (some ⟨b31, 0, none⟩)) hs (y_fieldAddr rfl (FO.of (off := 0) Tryd.underlying43 rfl rfl ti9 (by decide))) ?_; clear hs; (try clear a w); intro a w hs
         refine sy (v := .string (x24.Name)) hs (y_ld rfl Tryd.underlying9 rfl (Cell.blk (.head _) rfl)) ?_; clear hs; (try clear a w); intro a w hs
         refine sy hs (y_lookupM (enc := (fun x => .int .i64 x)) (z := 0) rfl rfl Tryd.underlying97 Tryd.underlying9 ti3 (.tail _ (.head _)) hS20) ?_; clear hs; (try clear a w); intro a w hs
         refine sy hs (y_add rfl rfl rfl) ?_; clear hs; (try clear a w); intro a w hs
         refine RL_mapUpdateM (enc := (fun x => .int .i64 x)) (u := (w64 (((mgetM y17 x24.Name).getD 0) + 1))) 1 hs rfl rfl rfl rfl Tryd.underlying97 Tryd.underlying9 hS20 ?_; clear hs; (try clear a w); intro es35 c36 a w hS37 hs
         replace hs : St _ _ _ (.blk b31 (.cells #[.string (x24.Name), .string (x24.Value)] 43 (0, 0)) :: .blk b14 (.map es35 c36) :: L) _ _ _ := hs
         refine RL_nil ?_
         refine hK16 _ _ ?_; clear hK16
         refine W_region ?_
         refine sy hs (y_add rfl rfl rfl) ?_; clear hs; (try clear a w); intro a w hs
         refine sy (v := .int .i64 ((w64 (y21 + 1)))) hs (y_move rfl) ?_; clear hs; (try clear a w); intro a w hs
         refine RL_nil ?_
         exact hK13 k22 _ _ (Nat.lt_succ_self _) ⟨(mputM y17 x24.Name (w64 (((mgetM y17 x24.Name).getD 0) + 1))), (w64 (y21 + 1)), es35, c36, hm, hS37, hs.subs ⟨rfl, rfl, rfl, rfl, trivial⟩ (.cons _ (.cons_cons _ (.refl _)))⟩
       ·refine W_region ?_
        refine sy (v := .pointer (some ⟨b31, 0, none⟩)) hs (y_fieldAddr rfl (FO.of (off := 0) Tryd.underlying43 rfl rfl ti9 (by decide))) ?_; clear hs; (try clear a w); intro a w hs
        refine sy (v := .string (x24.Name)) hs (y_ld rfl Tryd.underlying9 rfl (Cell.blk (.head _) rfl)) ?_; clear hs; (try clear a w); intro a w hs
        refine sy hs (y_seql rfl rfl) ?_; clear hs; (try clear a w); intro a w hs
        refine sy (v := .bool (decide (x24.Name = (bs [])))) hs (y_move rfl) ?_; clear hs; (try clear a w); intro a w hs
        refine St.split hs (t := 63) rfl (fun hg38 hq => ?_) (fun hg38 hq => ?_)
        ·clear hs; have hs := hq; clear hq
         replace hm := oc_t hg38 hm
         refine sno hs ?_; clear hs; (try clear a w); intro a w hs
         refine sno hs ?_; clear hs; (try clear a w); intro a w hs
         refine sno hs ?_; clear hs; (try clear a w); intro a w hs
         refine sno hs ?_; clear hs; (try clear a w); intro a w hs
         refine sno hs ?_; clear hs; (try clear a w); intro a w hs
         refine sy (v := .bool (true)) hs (y_pick rfl rfl) ?_; clear hs; (try clear a w); intro a w hs
         refine RL_nil ?_
         exact ⟨true, hm, hs.sub ⟨rfl, rfl, rfl, rfl, rfl, rfl, trivial⟩⟩
        ·clear hs; have hs := hq; clear hq
         replace hm := oc_f hg38 hm
         refine syg (v := .map (some b14)) hs (y_move rfl) ?_; clear hs; (try clear a w); intro a w hs
         refine syg (v := .pointer (some ⟨b31, 0, none⟩)) hs (y_fieldAddr rfl (FO.of (off := 0) Tryd.underlying43 rfl rfl ti9 (by decide))) ?_; clear hs; (try clear a w); intro a w hs
         refine syg (v := .string (x24.Name)) hs (y_ld rfl Tryd.underlying9 rfl (Cell.blk (.head _) rfl)) ?_; clear hs; (try clear a w); intro a w hs
         refine syg hs (y_lookupM (enc := (fun x => .int .i64 x)) (z := 0) rfl rfl Tryd.underlying97 Tryd.underlying9 ti3 (.tail _ (.head _)) hS20) ?_; clear hs; (try clear a w); intro a w hs
         refine syg hs (y_gtr rfl rfl) ?_; clear hs; (try clear a w); intro a w hs
         refine sy (v := .bool (decide (0 < ((mgetM y17 x24.Name).getD 0)))) hs (y_pick rfl rfl) ?_; clear hs; (try clear a w); intro a w hs
         refine RL_nil ?_
         exact ⟨decide (0 < ((mgetM y17 x24.Name).getD 0)), hm, hs.sub ⟨rfl, rfl, rfl, rfl, rfl, rfl, trivial⟩⟩
      ·replace hm := oc_f hg23 hm
       refine W_exit ?_
       refine hB12 _ _ ?_
       exact ⟨hm, hs.subs trivial (.cons _ (.refl _))⟩
  ·refine W_region ?_
   refine sy (v := .pointer (some ⟨b6, 0, none⟩)) hs (y_fieldAddr rfl (FO.of (off := 0) Tryd.underlying37 rfl rfl ti3 (by decide))) ?_; clear hs; (try clear a w); intro a w hs
   refine sy (v := .int .i64 (p0.Kind)) hs (y_ld rfl Tryd.underlying3 rfl (Cell.blk (.head _) rfl)) ?_; clear hs; (try clear a w); intro a w hs
   refine sy hs (y_neq rfl rfl) ?_; clear hs; (try clear a w); intro a w hs
   refine sy (v := .bool (decide (p0.Kind ≠ 1))) hs (y_move rfl) ?_; clear hs; (try clear a w); intro a w hs
   refine St.split hs (t := 36) rfl (fun hg39 hq => ?_) (fun hg39 hq => ?_)
   ·clear hs; have hs := hq; clear hq
    refine sno hs ?_; clear hs; (try clear a w); intro a w hs
    refine sno hs ?_; clear hs; (try clear a w); intro a w hs
    refine sno hs ?_; clear hs; (try clear a w); intro a w hs
    refine sy (v := .bool (true)) hs (y_pick rfl rfl) ?_; clear hs; (try clear a w); intro a w hs
    refine sy (v := .bool (true)) hs (y_move rfl) ?_; clear hs; (try clear a w); intro a w hs
    refine sno hs ?_; clear hs; (try clear a w); intro a w hs
    refine sno hs ?_; clear hs; (try clear a w); intro a w hs
    refine sno hs ?_; clear hs; (try clear a w); intro a w hs
    refine sy (v := .bool (true)) hs (y_pick rfl rfl) ?_; clear hs; (try clear a w); intro a w hs
    refine sy (v := .bool (true)) hs (y_move rfl) ?_; clear hs; (try clear a w); intro a w hs
    refine sno hs ?_; clear hs; (try clear a w); intro a w hs
    refine sno hs ?_; clear hs; (try clear a w); intro a w hs
    refine sno hs ?_; clear hs; (try clear a w); intro a w hs
    refine sno hs ?_; clear hs; (try clear a w); intro a w hs
    refine sy (v := .bool (true)) hs (y_pick rfl rfl) ?_; clear hs; (try clear a w); intro a w hs
    refine RL_nil ?_
    exact hs.sub ⟨rfl, (lkB (((or_t hg39).trans rfl)) rfl), trivial⟩
   ·clear hs; have hs := hq; clear hq
    refine syg (v := .pointer (some ⟨b6, 1, none⟩)) hs (y_fieldAddr rfl (FO.of (off := 1) Tryd.underlying37 rfl rfl ti9 (by decide))) ?_; clear hs; (try clear a w); intro a w hs
    refine syg (v := .string (p0.Name)) hs (y_ld rfl Tryd.underlying9 rfl (Cell.blk (.head _) rfl)) ?_; clear hs; (try clear a w); intro a w hs
    refine syg hs (y_seql rfl rfl) ?_; clear hs; (try clear a w); intro a w hs
    refine sy (v := .bool (decide (p0.Name = (bs [])))) hs (y_pick rfl rfl) ?_; clear hs; (try clear a w); intro a w hs
    refine sy (v := .bool (decide (p0.Name = (bs [])))) hs (y_move rfl) ?_; clear hs; (try clear a w); intro a w hs
    refine St.split hs (t := 41) rfl (fun hg40 hq => ?_) (fun hg40 hq => ?_)
    ·clear hs; have hs := hq; clear hq
     refine sno hs ?_; clear hs; (try clear a w); intro a w hs
     refine sno hs ?_; clear hs; (try clear a w); intro a w hs
     refine sno hs ?_; clear hs; (try clear a w); intro a w hs
     refine sy (v := .bool (true)) hs (y_pick rfl rfl) ?_; clear hs; (try clear a w); intro a w hs
     refine sy (v := .bool (true)) hs (y_move rfl) ?_; clear hs; (try clear a w); intro a w hs
     refine sno hs ?_; clear hs; (try clear a w); intro a w hs
     refine sno hs ?_; clear hs; (try clear a w); intro a w hs
     refine sno hs ?_; clear hs; (try clear a w); intro a w hs
     refine sno hs ?_; clear hs; (try clear a w); intro a w hs
     refine sy (v := .bool (true)) hs (y_pick rfl rfl) ?_; clear hs; (try clear a w); intro a w hs
     refine RL_nil ?_
     exact hs.sub ⟨rfl, (lkB (((or_f hg39).trans ((or_t hg40).trans rfl))) rfl), trivial⟩
    ·clear hs; have hs := hq; clear hq
     refine syg (v := .pointer (some ⟨b6, 2, none⟩)) hs (y_fieldAddr rfl (FO.of (off := 2) Tryd.underlying37 rfl rfl ti9 (by decide))) ?_; clear hs; (try clear a w); intro a w hs
     refine syg (v := .string (p0.Text)) hs (y_ld rfl Tryd.underlying9 rfl (Cell.blk (.head _) rfl)) ?_; clear hs; (try clear a w); intro a w hs
     refine syg hs (y_sneq rfl rfl) ?_; clear hs; (try clear a w); intro a w hs
     refine sy (v := .bool (decide (p0.Text ≠ (bs [])))) hs (y_pick rfl rfl) ?_; clear hs; (try clear a w); intro a w hs
     refine sy (v := .bool (decide (p0.Text ≠ (bs [])))) hs (y_move rfl) ?_; clear hs; (try clear a w); intro a w hs
     refine St.split hs (t := 46) rfl (fun hg41 hq => ?_) (fun hg41 hq => ?_)
     ·clear hs; have hs := hq; clear hq
      refine sno hs ?_; clear hs; (try clear a w); intro a w hs
      refine sno hs ?_; clear hs; (try clear a w); intro a w hs
      refine sno hs ?_; clear hs; (try clear a w); intro a w hs
      refine sno hs ?_; clear hs; (try clear a w); intro a w hs
      refine sy (v := .bool (true)) hs (y_pick rfl rfl) ?_; clear hs; (try clear a w); intro a w hs
      refine RL_nil ?_
      exact hs.sub ⟨rfl, (lkB (((or_f hg39).trans ((or_f hg40).trans ((or_t hg41).trans rfl)))) rfl), trivial⟩
     ·clear hs; have hs := hq; clear hq
      refine syg (v := .pointer (some ⟨b6, 3, none⟩)) hs (y_fieldAddr rfl (FO.of (off := 3) Tryd.underlying37 rfl rfl ti28 (by decide))) ?_; clear hs; (try clear a w); intro a w hs
      refine syg (v := v1) hs (y_ld rfl Tryd.underlying28 rfl (Cell.blk (.head _) rfl)) ?_; clear hs; (try clear a w); intro a w hs
      refine syg hs (y_lenW hR3 hW4 rfl Tryd.underlying28) ?_; clear hs; (try clear a w); intro a w hs
      refine syg hs (y_gtr rfl rfl) ?_; clear hs; (try clear a w); intro a w hs
      refine sy (v := .bool (decide (64 < (p0.Attrs.length : Int)))) hs (y_pick rfl rfl) ?_; clear hs; (try clear a w); intro a w hs
      refine RL_nil ?_
      exact hs.sub ⟨rfl, (lkB (((or_f hg39).trans ((or_f hg40).trans ((or_f hg41).trans rfl)))) rfl), trivial⟩
/-! casement/dom.linked -/
def dom_linked_k2 : Option Bool :=
  some true
def dom_linked_k4 (y41 : Int) (lp42 : Int → Option Bool) (y59 : Bool) : Option Bool :=
  (bif y59 then some false else
  lp42 (w64 (y41 + 1)))
def dom_linked_l3 (p0 : api_Tree) (y36 : (List Int)) : Nat → Int → Option Bool
  | 0, _ => none
  | k42 + 1, y41 =>
  (bif (decide (y41 < (p0.Nodes.length : Int))) then (geti p0.Nodes y41).bind fun x44 =>
  (geti y36 y41).bind fun x61 =>
  (bif (decide (x44.Last ≠ x61)) then dom_linked_k4 y41 (dom_linked_l3 p0 y36 k42) true else
  (geti y36 y41).bind fun x69 =>
  (bif (decide (x69 = (-1))) then (bif (decide (x44.First ≠ (-1))) then dom_linked_k4 y41 (dom_linked_l3 p0 y36 k42) true else
  (geti y36 y41).bind fun x78 =>
  (bif (decide (x78 ≠ (-1))) then (geti y36 y41).bind fun x86 =>
  (geti p0.Nodes x86).bind fun x93 =>
  dom_linked_k4 y41 (dom_linked_l3 p0 y36 k42) (decide (x93.Next ≠ (-1))) else
  dom_linked_k4 y41 (dom_linked_l3 p0 y36 k42) false)) else
  (geti y36 y41).bind fun x105 =>
  (bif (decide (x105 ≠ (-1))) then (geti y36 y41).bind fun x113 =>
  (geti p0.Nodes x113).bind fun x120 =>
  dom_linked_k4 y41 (dom_linked_l3 p0 y36 k42) (decide (x120.Next ≠ (-1))) else
  dom_linked_k4 y41 (dom_linked_l3 p0 y36 k42) false))) else
  dom_linked_k2)
def dom_linked_k1 (n : Nat) (p0 : api_Tree) (y36 : (List Int)) : Option Bool :=
  dom_linked_l3 p0 y36 n 0
def dom_linked_k6 (y142 : Int) (lp143 : (List Int) → (List Int) → Int → Option Bool) (y145 : (List Int)) (y150 : (List Int)) : Option Bool :=
  lp143 y145 y150 (w64 (y142 + 1))
def dom_linked_k10 (y142 : Int) (lp143 : (List Int) → (List Int) → Int → Option Bool) (x213 : (List Int)) (y218 : (List Int)) : Option Bool :=
  dom_linked_k6 y142 lp143 y218 x213
def dom_linked_k9 (y142 : Int) (lp143 : (List Int) → (List Int) → Int → Option Bool) (x155 : api_Node) (x177 : (List Int)) (y197 : (List Int)) (y204 : Bool) : Option Bool :=
  (bif y204 then some false else
  (geti x177 x155.Parent).bind fun _x206 =>
  (seti x177 x155.Parent y142).bind fun x213 =>
  (bif (decide (x155.Kind = 1)) then (appM 8 y197 [y142]).bind fun x229 =>
  dom_linked_k10 y142 lp143 x213 x229 else
  dom_linked_k10 y142 lp143 x213 y197))
def dom_linked_k8 (p0 : api_Tree) (y142 : Int) (lp143 : (List Int) → (List Int) → Int → Option Bool) (x155 : api_Node) (x177 : (List Int)) (y197 : (List Int)) (y202 : Bool) : Option Bool :=
  (bif y202 then some false else
  (bif (decide (x155.Prev = (-1))) then (geti p0.Nodes x155.Parent).bind fun x236 =>
  (bif (decide (x236.First ≠ y142)) then dom_linked_k9 y142 lp143 x155 x177 y197 true else
  (bif (decide (x155.Prev ≠ (-1))) then (geti p0.Nodes x155.Prev).bind fun x250 =>
  dom_linked_k9 y142 lp143 x155 x177 y197 (decide (x250.Next ≠ y142)) else
  dom_linked_k9 y142 lp143 x155 x177 y197 false)) else
  (bif (decide (x155.Prev ≠ (-1))) then (geti p0.Nodes x155.Prev).bind fun x263 =>
  dom_linked_k9 y142 lp143 x155 x177 y197 (decide (x263.Next ≠ y142)) else
  dom_linked_k9 y142 lp143 x155 x177 y197 false)))
def dom_linked_k7 (p0 : api_Tree) (y142 : Int) (lp143 : (List Int) → (List Int) → Int → Option Bool) (x155 : api_Node) (x177 : (List Int)) (y197 : (List Int)) : Option Bool :=
  (bif (decide ((y197.length : Int) = 0)) then dom_linked_k8 p0 y142 lp143 x155 x177 y197 true else
  (geti x177 x155.Parent).bind fun x276 =>
  dom_linked_k8 p0 y142 lp143 x155 x177 y197 (decide (x155.Prev ≠ x276)))
def dom_linked_k12 (p0 : api_Tree) (y142 : Int) (lp143 : (List Int) → (List Int) → Int → Option Bool) (x155 : api_Node) (x177 : (List Int)) (y283 : (List Int)) (lp288 : (List Int) → Option Bool) (y289 : Bool) : Option Bool :=
  (bif y289 then (cutM y283 (0 : Int) (w64 ((y283.length : Int) - 1))).bind fun x291 =>
  lp288 x291 else
  dom_linked_k7 p0 y142 lp143 x155 x177 y283)
def dom_linked_l11 (p0 : api_Tree) (y142 : Int) (lp143 : (List Int) → (List Int) → Int → Option Bool) (x155 : api_Node) (x177 : (List Int)) : Nat → (List Int) → Option Bool
  | 0, _ => none
  | k288 + 1, y283 =>
  (bif (decide (0 < (y283.length : Int))) then (geti y283 (w64 ((y283.length : Int) - 1))).bind fun x299 =>
  dom_linked_k12 p0 y142 lp143 x155 x177 y283 (dom_linked_l11 p0 y142 lp143 x155 x177 k288) (decide (x299 ≠ x155.Parent)) else
  dom_linked_k12 p0 y142 lp143 x155 x177 y283 (dom_linked_l11 p0 y142 lp143 x155 x177 k288) false)
def dom_linked_l5 (n : Nat) (p0 : api_Tree) : Nat → (List Int) → (List Int) → Int → Option Bool
  | 0, _, _, _ => none
  | k143 + 1, y132, y137, y142 =>
  (bif (decide (y142 < (p0.Nodes.length : Int))) then (geti p0.Nodes y142).bind fun x155 =>
  (geti y137 y142).bind fun _x170 =>
  (seti y137 y142 (-1)).bind fun x177 =>
  (dom_alone n x155).bind fun x182 =>
  (bif (!x182) then some false else
  (bif (decide (y142 = 0)) then (appM 8 y132 [0]).bind fun x191 =>
  dom_linked_k6 y142 (dom_linked_l5 n p0 k143) x191 x177 else
  dom_linked_l11 p0 y142 (dom_linked_l5 n p0 k143) x155 x177 n y132)) else
  dom_linked_k1 n p0 y137)
def dom_linked (n : Nat) (p0 : api_Tree) : Option Bool :=
  (geti p0.Nodes 0).bind fun x8 =>
  (bif ((decide (x8.Kind ≠ 1)) || ((decide (x8.Parent ≠ (-1))) || ((decide (x8.Prev ≠ (-1))) || (decide (x8.Next ≠ (-1)))))) then some false else
  (repM 8 (p0.Nodes.length : Int) (0 : Int)).bind fun x29 =>
  dom_linked_l5 n p0 n ([] : List Int) x29 0)
set_option maxRecDepth 20000 in
set_option maxHeartbeats 4000000 in
theorem dom_linked_ok (n : Nat) {f : Fz} {p0 : api_Tree} {a0 : List Value} {res : Bool} (h0 : t_api_Tree.R f a0 p0) (hm : dom_linked n p0 = some res) : Gives Tryd.prog 27 [.agg a0.toArray] f (.bool res) := by
 unfold dom_linked at hm
 intro w0 L w hC
 obtain ⟨v1, rfl, ⟨rw2, hR3, hW4⟩⟩ := h0
 refine enter Tryd.func27 rfl Tryd.ntmps27 (by simp) hC fun a hs => ?_
 have hle := Fz.le.refl f
 refine W_seq fun K1 hK1 => ?_
 refine W_region ?_
 refine sbox hs rfl ?_; clear hs; (try clear a w); intro b6 a w hs
 replace hs : St _ _ _ (.blk b6 (.cells #[v1] 24 (0, 0)) :: L) _ _ _ := hs
 refine sy (v := .bool (false)) hs (y_assign rfl) ?_; clear hs; (try clear a w); intro a w hs
 refine RL_nil ?_
 refine hK1 _ _ ?_; clear hK1
 refine W_seq fun K2 hK2 => ?_
 refine W_region ?_
 refine sy (v := .pointer (some ⟨b6, 0, none⟩)) hs (y_fieldAddr rfl (FO.of (off := 0) Tryd.underlying24 rfl rfl ti22 (by decide))) ?_; clear hs; (try clear a w); intro a w hs
 refine sy (v := v1) hs (y_ld rfl Tryd.underlying22 rfl (Cell.blk (.head _) rfl)) ?_; clear hs; (try clear a w); intro a w hs
 obtain ⟨x8, hx9, hm⟩ := ob hm
 obtain ⟨r10, hr11, hq12, hi13, hb14⟩ := hW4.geti hx9
 obtain ⟨v15, rfl, ⟨rw16, hR17, hW18⟩⟩ := hq12
 refine sy hs (y_indexAddr hR3 rfl rfl hi13 hb14 Tryd.underlying22 ti37) ?_; clear hs; (try clear a w); intro a w hs
 refine sy hs (y_loadRow hR3.up rfl hr11 Tryd.underlying37 rfl ti37) ?_; clear hs; (try clear a w); intro a w hs
 refine RL_alloc hs ti37 (.free rfl) (by decide) ?_; clear hs; (try clear a w); intro b20 a w hs
 replace hs : St _ _ _ (.blk b20 (.cells #[.int .i64 (0), .string ((bs [])), .string ((bs [])), (.slice none 0 0), .int .i64 (0), .int .i64 (0), .int .i64 (0), .int .i64 (0), .int .i64 (0)] 37 (0, 0)) :: .blk b6 (.cells #[v1] 24 (0, 0)) :: L) _ _ _ := hs
 refine RL_storeAll (i := 0) hs rfl rfl rfl ti37 ⟨rfl, rfl⟩ (AllC.arr (r := [.int .i64 (x8.Kind), .string (x8.Name), .string (x8.Text), v15, .int .i64 (x8.Parent), .int .i64 (x8.First), .int .i64 (x8.Last), .int .i64 (x8.Prev), .int .i64 (x8.Next)]) ⟨rfl, rfl, rfl, hR17.one, rfl, rfl, rfl, rfl, rfl, trivial⟩) (.free rfl) ?_; clear hs; (try clear a w); intro a w hs
 replace hs : St _ _ _ (.blk b20 (.cells #[.int .i64 (x8.Kind), .string (x8.Name), .string (x8.Text), v15, .int .i64 (x8.Parent), .int .i64 (x8.First), .int .i64 (x8.Last), .int .i64 (x8.Prev), .int .i64 (x8.Next)] 37 (0, 0)) :: .blk b6 (.cells #[v1] 24 (0, 0)) :: L) _ _ _ := hs
 refine RL_nil ?_
 refine hK2 _ _ ?_; clear hK2
 refine W_seq fun K3 hK3 => ?_
 refine W_seq fun K4 hK4 => ?_
 refine W_post (fun a w => St 178 w0 f (.blk b20 (.cells #[.int .i64 (x8.Kind), .string (x8.Name), .string (x8.Text), v15, .int .i64 (x8.Parent), .int .i64 (x8.First), .int .i64 (x8.Last), .int .i64 (x8.Prev), .int .i64 (x8.Next)] 37 (0, 0)) :: .blk b6 (.cells #[v1] 24 (0, 0)) :: L) [(1, .pointer (some ⟨b6, 0, none⟩)), (31, .bool (((decide (x8.Kind ≠ 1)) || ((decide (x8.Parent ≠ (-1))) || ((decide (x8.Prev ≠ (-1))) || (decide (x8.Next ≠ (-1))))))))] a w) ?_ ?_
 ·clear hs; intro a w hs
  refine hK4 _ _ ?_; clear hK4
  refine W_cond hs rfl (fun hg23 => ?_) (fun hg23 => ?_)
  ·replace hm := oc_t hg23 hm
   refine W_seq fun K5 hK5 => ?_
   refine W_region ?_
   refine sy (v := .bool (false)) hs (y_assign rfl) ?_; clear hs; (try clear a w); intro a w hs
   refine RL_nil ?_
   refine hK5 _ _ ?_; clear hK5
   refine W_ret ?_
   obtain rfl := Option.some.inj hm
   refine RtV1 hs rfl (rv_t hs rfl) ?_
   exact ⟨rfl, ((hs.subL (.cons _ (.cons _ (.refl _)))).weak hle).cw⟩
  ·replace hm := oc_f hg23 hm
   refine W_skip ?_
   refine hK3 _ _ ?_; clear hK3
   refine W_seq fun K6 hK6 => ?_
   refine W_region ?_
   refine RL_bs0 hs Tryd.underlying55 ti3 ?_; clear hs; (try clear a w); intro v24 a w hs
   have hW25 : RW (tInt .i64) f [] ([] : List Int) := trivial
   generalize hgrw26 : ([] : List (List Value)) = rw26 at hs hW25; clear hgrw26
   replace hs : St _ _ _ (.row v24 3 1 rw26 :: .blk b20 (.cells #[.int .i64 (x8.Kind), .string (x8.Name), .string (x8.Text), v15, .int .i64 (x8.Parent), .int .i64 (x8.First), .int .i64 (x8.Last), .int .i64 (x8.Prev), .int .i64 (x8.Next)] 37 (0, 0)) :: .blk b6 (.cells #[v1] 24 (0, 0)) :: L) _ _ _ := hs
   refine sy (v := v24) hs (y_assign rfl) ?_; clear hs; (try clear a w); intro a w hs
   refine RL_nil ?_
   refine hK6 _ _ ?_; clear hK6
   refine W_seq fun K7 hK7 => ?_
   refine W_region ?_
   refine sy (v := .pointer (some ⟨b6, 0, none⟩)) hs (y_fieldAddr rfl (FO.of (off := 0) Tryd.underlying24 rfl rfl ti22 (by decide))) ?_; clear hs; (try clear a w); intro a w hs
   refine sy (v := v1) hs (y_ld rfl Tryd.underlying22 rfl (Cell.blk (.tail _ (.tail _ (.head _))) rfl)) ?_; clear hs; (try clear a w); intro a w hs
   refine sy hs (y_lenW hR3 hW4 rfl Tryd.underlying22) ?_; clear hs; (try clear a w); intro a w hs
   obtain ⟨x29, hx30, hm⟩ := ob hm
   obtain ⟨hix29, hbx29, hex29⟩ := repM_some hx30
   refine RL_makeW hs rfl rfl hix29 Tryd.underlying55 ti3 (by decide) (AllC.row ⟨rfl, trivial⟩ rfl) hbx29 ?_; clear hs; (try clear a w); intro v31 a w hs
   replace hs : St _ _ _ (.row v31 3 1 (List.replicate (p0.Nodes.length : Int).toNat ([.int .i64 (0)] : List Value)) :: .row v24 3 1 rw26 :: .blk b20 (.cells #[.int .i64 (x8.Kind), .string (x8.Name), .string (x8.Text), v15, .int .i64 (x8.Parent), .int .i64 (x8.First), .int .i64 (x8.Last), .int .i64 (x8.Prev), .int .i64 (x8.Next)] 37 (0, 0)) :: .blk b6 (.cells #[v1] 24 (0, 0)) :: L) _ _ _ := hs
   have hW33 : RW (tInt .i64) f (List.replicate (p0.Nodes.length : Int).toNat ([.int .i64 (0)] : List Value)) x29 := by rw [← hex29]; exact RW.rep (t := (tInt .i64)) (r := [.int .i64 (0)]) (rfl) _
   generalize hgx29 : (List.replicate (p0.Nodes.length : Int).toNat ([.int .i64 (0)] : List Value)) = rw32 at hs hW33; clear hgx29
   replace hs : St _ _ _ (.row v31 3 1 rw32 :: .row v24 3 1 rw26 :: .blk b20 (.cells #[.int .i64 (x8.Kind), .string (x8.Name), .string (x8.Text), v15, .int .i64 (x8.Parent), .int .i64 (x8.First), .int .i64 (x8.Last), .int .i64 (x8.Prev), .int .i64 (x8.Next)] 37 (0, 0)) :: .blk b6 (.cells #[v1] 24 (0, 0)) :: L) _ _ _ := hs
   refine sy (v := v31) hs (y_assign rfl) ?_; clear hs; (try clear a w); intro a w hs
   refine RL_nil ?_
   refine hK7 _ _ ?_; clear hK7
   refine W_seq fun K8 hK8 => ?_
   refine W_seq fun K9 hK9 => ?_
   refine W_region ?_
   refine sy (v := .pointer (some ⟨b6, 0, none⟩)) hs (y_fieldAddr rfl (FO.of (off := 0) Tryd.underlying24 rfl rfl ti22 (by decide))) ?_; clear hs; (try clear a w); intro a w hs
   refine sy (v := v1) hs (y_ld rfl Tryd.underlying22 rfl (Cell.blk (.tail _ (.tail _ (.tail _ (.head _)))) rfl)) ?_; clear hs; (try clear a w); intro a w hs
   refine sy hs (y_lenW hR3 hW4 rfl Tryd.underlying22) ?_; clear hs; (try clear a w); intro a w hs
   refine sy (v := .int .i64 (0)) hs (y_move rfl) ?_; clear hs; (try clear a w); intro a w hs
   refine RL_nil ?_
   refine hK9 _ _ ?_; clear hK9
   refine W_post (fun a w => ∃ (y36 : (List Int)) (v37 : Value) (rw38 : List (List Value)), dom_linked_k1 n p0 y36 = some res ∧ RW (tInt .i64) f rw38 y36 ∧ St 178 w0 f (.row v37 3 1 rw38 :: .blk b6 (.cells #[v1] 24 (0, 0)) :: L) [(1, .pointer (some ⟨b6, 0, none⟩)), (5, v37)] a w) ?_ ?_
   ·clear hs hm
    rintro a w ⟨y36, v37, rw38, hm, hW39, hs⟩
    replace hs : St _ _ _ (.row v37 3 1 rw38 :: .blk b6 (.cells #[v1] 24 (0, 0)) :: L) _ _ _ := hs
    unfold dom_linked_k1 at hm
    refine hK8 _ _ ?_; clear hK8
    refine W_seq fun K10 hK10 => ?_
    refine W_seq fun K11 hK11 => ?_
    refine W_region ?_
    refine sy (v := .pointer (some ⟨b6, 0, none⟩)) hs (y_fieldAddr rfl (FO.of (off := 0) Tryd.underlying24 rfl rfl ti22 (by decide))) ?_; clear hs; (try clear a w); intro a w hs
    refine sy (v := v1) hs (y_ld rfl Tryd.underlying22 rfl (Cell.blk (.tail _ (.head _)) rfl)) ?_; clear hs; (try clear a w); intro a w hs
    refine sy hs (y_lenW hR3 hW4 rfl Tryd.underlying22) ?_; clear hs; (try clear a w); intro a w hs
    refine sy (v := .int .i64 (0)) hs (y_move rfl) ?_; clear hs; (try clear a w); intro a w hs
    refine RL_nil ?_
    refine hK11 _ _ ?_; clear hK11
    refine W_post (fun a w => dom_linked_k2 = some res ∧ St 178 w0 f (L) [] a w) ?_ ?_
    ·clear hs hm
     rintro a w ⟨hm, hs⟩
     replace hs : St _ _ _ (L) _ _ _ := hs
     unfold dom_linked_k2 at hm
     refine hK10 _ _ ?_; clear hK10
     refine W_seq fun K12 hK12 => ?_
     refine W_region ?_
     refine sy (v := .bool (true)) hs (y_assign rfl) ?_; clear hs; (try clear a w); intro a w hs
     refine RL_nil ?_
     refine hK12 _ _ ?_; clear hK12
     refine W_ret ?_
     obtain rfl := Option.some.inj hm
     refine RtV1 hs rfl (rv_t hs rfl) ?_
     exact ⟨rfl, (hs.weak hle).cw⟩
    ·refine W_block fun Qe13 hB13 hO13 => ?_
     refine W_loop (fun (k : Nat) a w => ∃ (y41 : Int), dom_linked_l3 p0 y36 k y41 = some res ∧ St 178 w0 f (.row v37 3 1 rw38 :: .blk b6 (.cells #[v1] 24 (0, 0)) :: L) [(1, .pointer (some ⟨b6, 0, none⟩)), (5, v37), (132, v1), (133, .int .i64 ((p0.Nodes.length : Int))), (134, .int .i64 (y41))] a w) (fun k => k) n ⟨0, hm, hs.sub ⟨rfl, rfl, rfl, rfl, rfl, trivial⟩⟩ ?_
     clear hs hm
     intro k
     rintro a w ⟨y41, hm, hs⟩
     replace hs : St _ _ _ (.row v37 3 1 rw38 :: .blk b6 (.cells #[v1] 24 (0, 0)) :: L) _ _ _ := hs
     intro K14 hK14
     cases k with
     | zero => simp [dom_linked_l3] at hm
     | succ k42 =>
      rw [dom_linked_l3] at hm
      refine W_seq fun K15 hK15 => ?_
      refine W_region ?_
      refine sy hs (y_lss rfl rfl) ?_; clear hs; (try clear a w); intro a w hs
      refine RL_nil ?_
      refine hK15 _ _ ?_; clear hK15
      refine W_seq fun K16 hK16 => ?_
      refine W_cond hs rfl (fun hg43 => ?_) (fun hg43 => ?_)
      ·replace hm := oc_t hg43 hm
       refine W_skip ?_
       refine hK16 _ _ ?_; clear hK16
       refine W_seq fun K17 hK17 => ?_
       refine W_block fun Qe18 hB18 hO18 => ?_
       refine W_seq fun K19 hK19 => ?_
       refine W_region ?_
       refine sy (v := .int .i64 (y41)) hs (y_move rfl) ?_; clear hs; (try clear a w); intro a w hs
       obtain ⟨x44, hx45, hm⟩ := ob hm
       obtain ⟨r46, hr47, hq48, hi49, hb50⟩ := hW4.geti hx45
       obtain ⟨v51, rfl, ⟨rw52, hR53, hW54⟩⟩ := hq48
       refine sy hs (y_indexAddr hR3 rfl rfl hi49 hb50 Tryd.underlying22 ti37) ?_; clear hs; (try clear a w); intro a w hs
       refine sy hs (y_loadRow hR3.up rfl hr47 Tryd.underlying37 rfl ti37) ?_; clear hs; (try clear a w); intro a w hs
       refine RL_alloc hs ti37 (.free rfl) (by decide) ?_; clear hs; (try clear a w); intro b56 a w hs
       replace hs : St _ _ _ (.blk b56 (.cells #[.int .i64 (0), .string ((bs [])), .string ((bs [])), (.slice none 0 0), .int .i64 (0), .int .i64 (0), .int .i64 (0), .int .i64 (0), .int .i64 (0)] 37 (0, 0)) :: .row v37 3 1 rw38 :: .blk b6 (.cells #[v1] 24 (0, 0)) :: L) _ _ _ := hs
       refine sy (v := .int .i64 (y41)) hs (y_assign rfl) ?_; clear hs; (try clear a w); intro a w hs
       refine RL_storeAll (i := 0) hs rfl rfl rfl ti37 ⟨rfl, rfl⟩ (AllC.arr (r := [.int .i64 (x44.Kind), .string (x44.Name), .string (x44.Text), v51, .int .i64 (x44.Parent), .int .i64 (x44.First), .int .i64 (x44.Last), .int .i64 (x44.Prev), .int .i64 (x44.Next)]) ⟨rfl, rfl, rfl, hR53.one, rfl, rfl, rfl, rfl, rfl, trivial⟩) (.free rfl) ?_; clear hs; (try clear a w); intro a w hs
       replace hs : St _ _ _ (.blk b56 (.cells #[.int .i64 (x44.Kind), .string (x44.Name), .string (x44.Text), v51, .int .i64 (x44.Parent), .int .i64 (x44.First), .int .i64 (x44.Last), .int .i64 (x44.Prev), .int .i64 (x44.Next)] 37 (0, 0)) :: .row v37 3 1 rw38 :: .blk b6 (.cells #[v1] 24 (0, 0)) :: L) _ _ _ := hs
       refine RL_nil ?_
       refine hK19 _ _ ?_; clear hK19
       refine W_seq fun K20 hK20 => ?_
       refine W_post (fun a w => ∃ (y59 : Bool), dom_linked_k4 y41 (dom_linked_l3 p0 y36 k42) y59 = some res ∧ St 178 w0 f (.row v37 3 1 rw38 :: .blk b6 (.cells #[v1] 24 (0, 0)) :: L) [(1, .pointer (some ⟨b6, 0, none⟩)), (5, v37), (132, v1), (133, .int .i64 ((p0.Nodes.length : Int))), (134, .int .i64 (y41)), (176, .bool (y59))] a w) ?_ ?_
       ·clear hs hm
        rintro a w ⟨y59, hm, hs⟩
        replace hs : St _ _ _ (.row v37 3 1 rw38 :: .blk b6 (.cells #[v1] 24 (0, 0)) :: L) _ _ _ := hs
        unfold dom_linked_k4 at hm
        refine hK20 _ _ ?_; clear hK20
        refine W_cond hs rfl (fun hg60 => ?_) (fun hg60 => ?_)
        ·replace hm := oc_t hg60 hm
         refine W_seq fun K21 hK21 => ?_
         refine W_region ?_
         refine sy (v := .bool (false)) hs (y_assign rfl) ?_; clear hs; (try clear a w); intro a w hs
         refine RL_nil ?_
         refine hK21 _ _ ?_; clear hK21
         refine W_ret ?_
         obtain rfl := Option.some.inj hm
         refine RtV1 hs rfl (rv_t hs rfl) ?_
         exact ⟨rfl, ((hs.subL (.cons _ (.cons _ (.refl _)))).weak hle).cw⟩
        ·replace hm := oc_f hg60 hm
         refine W_skip ?_
         refine hK17 _ _ ?_; clear hK17
         refine W_region ?_
         refine sy hs (y_add rfl rfl rfl) ?_; clear hs; (try clear a w); intro a w hs
         refine sy (v := .int .i64 ((w64 (y41 + 1)))) hs (y_move rfl) ?_; clear hs; (try clear a w); intro a w hs
         refine RL_nil ?_
         exact hK14 k42 _ _ (Nat.lt_succ_self _) ⟨(w64 (y41 + 1)), hm, hs.sub ⟨rfl, rfl, rfl, rfl, rfl, trivial⟩⟩
       ·refine W_draw hs mixed (by kernel_rfl) ?_; intro a he
        refine qy (v := .pointer (some ⟨b56, 6, none⟩)) he (y_fieldAddr rfl (FO.of (off := 6) Tryd.underlying37 rfl rfl ti3 (by decide))) ?_; clear he; (try clear a); intro a he
        refine qy (v := .int .i64 (x44.Last)) he (y_ld rfl Tryd.underlying3 rfl (Cell.blk (.head _) rfl)) ?_; clear he; (try clear a); intro a he
        refine qy (v := v37) he (y_move rfl) ?_; clear he; (try clear a); intro a he
        refine qy (v := .int .i64 (y41)) he (y_move rfl) ?_; clear he; (try clear a); intro a he
        obtain ⟨x61, hx62, hm⟩ := ob hm
        obtain ⟨r63, hr64, hq65, hi66, hb67⟩ := hW39.geti hx62
        obtain rfl : _ = ([.int .i64 (x61)] : List Value) := hq65
        refine qy he (y_indexAddr (Rd.st hs (.tail _ (.head _))) rfl rfl hi66 hb67 Tryd.underlying55 ti3) ?_; clear he; (try clear a); intro a he
        refine qy (v := .int .i64 (x61)) he (y_loadE (i := y41.toNat) (j := 0) (Rd.st hs (.tail _ (.head _))) rfl hr64 rfl Tryd.underlying3 rfl) ?_; clear he; (try clear a); intro a he
        refine qy he (y_neq rfl rfl) ?_; clear he; (try clear a); intro a he
        refine qy (v := .bool (decide (x44.Last ≠ x61))) he (y_move rfl) ?_; clear he; (try clear a); intro a he
        refine Ev.split he (t := 146) rfl (fun hg68 hq => ?_) (fun hg68 hq => ?_)
        ·clear he; have he := hq; clear hq
         replace hm := oc_t hg68 hm
         refine qno he ?_; clear he; (try clear a); intro a he
         refine qno he ?_; clear he; (try clear a); intro a he
         refine qno he ?_; clear he; (try clear a); intro a he
         refine qno he ?_; clear he; (try clear a); intro a he
         refine qno he ?_; clear he; (try clear a); intro a he
         refine qno he ?_; clear he; (try clear a); intro a he
         refine qun he ?_; clear he; (try clear a); intro a he
         refine qun he ?_; clear he; (try clear a); intro a he
         refine qun he ?_; clear he; (try clear a); intro a he
         refine qno he ?_; clear he; (try clear a); intro a he
         refine qy (v := .bool (true)) he (y_pick rfl rfl) ?_; clear he; (try clear a); intro a he
         refine qy (v := .bool (true)) he (y_move rfl) ?_; clear he; (try clear a); intro a he
         refine qno he ?_; clear he; (try clear a); intro a he
         refine qno he ?_; clear he; (try clear a); intro a he
         refine qno he ?_; clear he; (try clear a); intro a he
         refine qno he ?_; clear he; (try clear a); intro a he
         refine qno he ?_; clear he; (try clear a); intro a he
         refine qno he ?_; clear he; (try clear a); intro a he
         refine qun he ?_; clear he; (try clear a); intro a he
         refine qun he ?_; clear he; (try clear a); intro a he
         refine qun he ?_; clear he; (try clear a); intro a he
         refine qun he ?_; clear he; (try clear a); intro a he
         refine qun he ?_; clear he; (try clear a); intro a he
         refine qun he ?_; clear he; (try clear a); intro a he
         refine qun he ?_; clear he; (try clear a); intro a he
         refine qun he ?_; clear he; (try clear a); intro a he
         refine qun he ?_; clear he; (try clear a); intro a he
         refine qun he ?_; clear he; (try clear a); intro a he
         refine qno he ?_; clear he; (try clear a); intro a he
         refine qy (v := .bool (true)) he (y_pick rfl rfl) ?_; clear he; (try clear a); intro a he
         refine QL_nil he ?_; clear he; (try clear hs); (try clear a); intro a w hs
         exact ⟨true, hm, hs.subs ⟨rfl, rfl, rfl, rfl, rfl, rfl, trivial⟩ (.cons _ (.cons_cons _ (.cons_cons _ (.refl _))))⟩
        ·clear he; have he := hq; clear hq
         replace hm := oc_f hg68 hm
         refine qyg (v := v37) he (y_move rfl) ?_; clear he; (try clear a); intro a he
         refine qyg (v := .int .i64 (y41)) he (y_move rfl) ?_; clear he; (try clear a); intro a he
         obtain ⟨x69, hx70, hm⟩ := ob hm
         obtain ⟨r71, hr72, hq73, hi74, hb75⟩ := hW39.geti hx70
         obtain rfl : _ = ([.int .i64 (x69)] : List Value) := hq73
         refine qyg he (y_indexAddr (Rd.st hs (.tail _ (.head _))) rfl rfl hi74 hb75 Tryd.underlying55 ti3) ?_; clear he; (try clear a); intro a he
         refine qyg (v := .int .i64 (x69)) he (y_loadE (i := y41.toNat) (j := 0) (Rd.st hs (.tail _ (.head _))) rfl hr72 rfl Tryd.underlying3 rfl) ?_; clear he; (try clear a); intro a he
         refine qyg he (y_eql rfl rfl) ?_; clear he; (try clear a); intro a he
         refine qyg (v := .bool (decide (x69 = (-1)))) he (y_move rfl) ?_; clear he; (try clear a); intro a he
         refine Ev.split he (t := 152) rfl (fun hg76 hq => ?_) (fun hg76 hq => ?_)
         ·clear he; have he := hq; clear hq
          replace hm := oc_t hg76 hm
          refine qyg (v := .pointer (some ⟨b56, 5, none⟩)) he (y_fieldAddr rfl (FO.of (off := 5) Tryd.underlying37 rfl rfl ti3 (by decide))) ?_; clear he; (try clear a); intro a he
          refine qyg (v := .int .i64 (x44.First)) he (y_ld rfl Tryd.underlying3 rfl (Cell.blk (.head _) rfl)) ?_; clear he; (try clear a); intro a he
          refine qyg he (y_neq rfl rfl) ?_; clear he; (try clear a); intro a he
          refine qyg (v := .bool (decide (x44.First ≠ (-1)))) he (y_pick rfl rfl) ?_; clear he; (try clear a); intro a he
          refine qy (v := .bool (decide (x44.First ≠ (-1)))) he (y_pick rfl rfl) ?_; clear he; (try clear a); intro a he
          refine qy (v := .bool (decide (x44.First ≠ (-1)))) he (y_move rfl) ?_; clear he; (try clear a); intro a he
          refine Ev.split he (t := 158) rfl (fun hg77 hq => ?_) (fun hg77 hq => ?_)
          ·clear he; have he := hq; clear hq
           replace hm := oc_t hg77 hm
           refine qno he ?_; clear he; (try clear a); intro a he
           refine qno he ?_; clear he; (try clear a); intro a he
           refine qno he ?_; clear he; (try clear a); intro a he
           refine qno he ?_; clear he; (try clear a); intro a he
           refine qno he ?_; clear he; (try clear a); intro a he
           refine qno he ?_; clear he; (try clear a); intro a he
           refine qun he ?_; clear he; (try clear a); intro a he
           refine qun he ?_; clear he; (try clear a); intro a he
           refine qun he ?_; clear he; (try clear a); intro a he
           refine qun he ?_; clear he; (try clear a); intro a he
           refine qun he ?_; clear he; (try clear a); intro a he
           refine qun he ?_; clear he; (try clear a); intro a he
           refine qun he ?_; clear he; (try clear a); intro a he
           refine qun he ?_; clear he; (try clear a); intro a he
           refine qun he ?_; clear he; (try clear a); intro a he
           refine qun he ?_; clear he; (try clear a); intro a he
           refine qno he ?_; clear he; (try clear a); intro a he
           refine qy (v := .bool (true)) he (y_pick rfl rfl) ?_; clear he; (try clear a); intro a he
           refine QL_nil he ?_; clear he; (try clear hs); (try clear a); intro a w hs
           exact ⟨true, hm, hs.subs ⟨rfl, rfl, rfl, rfl, rfl, rfl, trivial⟩ (.cons _ (.cons_cons _ (.cons_cons _ (.refl _))))⟩
          ·clear he; have he := hq; clear hq
           replace hm := oc_f hg77 hm
           refine qyg (v := v37) he (y_move rfl) ?_; clear he; (try clear a); intro a he
           refine qyg (v := .int .i64 (y41)) he (y_move rfl) ?_; clear he; (try clear a); intro a he
           obtain ⟨x78, hx79, hm⟩ := ob hm
           obtain ⟨r80, hr81, hq82, hi83, hb84⟩ := hW39.geti hx79
           obtain rfl : _ = ([.int .i64 (x78)] : List Value) := hq82
           refine qyg he (y_indexAddr (Rd.st hs (.tail _ (.head _))) rfl rfl hi83 hb84 Tryd.underlying55 ti3) ?_; clear he; (try clear a); intro a he
           refine qyg (v := .int .i64 (x78)) he (y_loadE (i := y41.toNat) (j := 0) (Rd.st hs (.tail _ (.head _))) rfl hr81 rfl Tryd.underlying3 rfl) ?_; clear he; (try clear a); intro a he
           refine qyg he (y_neq rfl rfl) ?_; clear he; (try clear a); intro a he
           refine qyg (v := .bool (decide (x78 ≠ (-1)))) he (y_move rfl) ?_; clear he; (try clear a); intro a he
           refine Ev.split he (t := 164) rfl (fun hg85 hq => ?_) (fun hg85 hq => ?_)
           ·clear he; have he := hq; clear hq
            replace hm := oc_t hg85 hm
            refine qyg (v := .pointer (some ⟨b6, 0, none⟩)) he (y_fieldAddr rfl (FO.of (off := 0) Tryd.underlying24 rfl rfl ti22 (by decide))) ?_; clear he; (try clear a); intro a he
            refine qyg (v := v1) he (y_ld rfl Tryd.underlying22 rfl (Cell.blk (.tail _ (.tail _ (.head _))) rfl)) ?_; clear he; (try clear a); intro a he
            refine qyg (v := v37) he (y_move rfl) ?_; clear he; (try clear a); intro a he
            refine qyg (v := .int .i64 (y41)) he (y_move rfl) ?_; clear he; (try clear a); intro a he
            obtain ⟨x86, hx87, hm⟩ := ob hm
            obtain ⟨r88, hr89, hq90, hi91, hb92⟩ := hW39.geti hx87
            obtain rfl : _ = ([.int .i64 (x86)] : List Value) := hq90
            refine qyg he (y_indexAddr (Rd.st hs (.tail _ (.head _))) rfl rfl hi91 hb92 Tryd.underlying55 ti3) ?_; clear he; (try clear a); intro a he
            refine qyg (v := .int .i64 (x86)) he (y_loadE (i := y41.toNat) (j := 0) (Rd.st hs (.tail _ (.head _))) rfl hr89 rfl Tryd.underlying3 rfl) ?_; clear he; (try clear a); intro a he
            obtain ⟨x93, hx94, hm⟩ := ob hm
            obtain ⟨r95, hr96, hq97, hi98, hb99⟩ := hW4.geti hx94
            obtain ⟨v100, rfl, ⟨rw101, hR102, hW103⟩⟩ := hq97
            refine qyg he (y_indexAddr hR3 rfl rfl hi98 hb99 Tryd.underlying22 ti37) ?_; clear he; (try clear a); intro a he
            refine qyg (v := eaddr v1 9 x86.toNat 8) he (y_fieldAddrE (i := x86.toNat) (j := 0) hR3 rfl hb99 (FO.of (off := 8) Tryd.underlying37 rfl rfl ti3 (by decide))) ?_; clear he; (try clear a); intro a he
            refine qyg (v := .int .i64 (x93.Next)) he (y_loadE (i := x86.toNat) (j := 8) hR3.up rfl hr96 rfl Tryd.underlying3 rfl) ?_; clear he; (try clear a); intro a he
            refine qyg he (y_neq rfl rfl) ?_; clear he; (try clear a); intro a he
            refine qyg (v := .bool (decide (x93.Next ≠ (-1)))) he (y_pick rfl rfl) ?_; clear he; (try clear a); intro a he
            refine qy (v := .bool (decide (x93.Next ≠ (-1)))) he (y_pick rfl rfl) ?_; clear he; (try clear a); intro a he
            refine QL_nil he ?_; clear he; (try clear hs); (try clear a); intro a w hs
            exact ⟨decide (x93.Next ≠ (-1)), hm, hs.subs ⟨rfl, rfl, rfl, rfl, rfl, rfl, trivial⟩ (.cons _ (.cons_cons _ (.cons_cons _ (.refl _))))⟩
           ·clear he; have he := hq; clear hq
            replace hm := oc_f hg85 hm
            refine qno he ?_; clear he; (try clear a); intro a he
            refine qno he ?_; clear he; (try clear a); intro a he
            refine qno he ?_; clear he; (try clear a); intro a he
            refine qno he ?_; clear he; (try clear a); intro a he
            refine qno he ?_; clear he; (try clear a); intro a he
            refine qno he ?_; clear he; (try clear a); intro a he
            refine qno he ?_; clear he; (try clear a); intro a he
            refine qno he ?_; clear he; (try clear a); intro a he
            refine qno he ?_; clear he; (try clear a); intro a he
            refine qno he ?_; clear he; (try clear a); intro a he
            refine qyg (v := .bool (false)) he (y_pick rfl rfl) ?_; clear he; (try clear a); intro a he
            refine qy (v := .bool (false)) he (y_pick rfl rfl) ?_; clear he; (try clear a); intro a he
            refine QL_nil he ?_; clear he; (try clear hs); (try clear a); intro a w hs
            exact ⟨false, hm, hs.subs ⟨rfl, rfl, rfl, rfl, rfl, rfl, trivial⟩ (.cons _ (.cons_cons _ (.cons_cons _ (.refl _))))⟩
         ·clear he; have he := hq; clear hq
          replace hm := oc_f hg76 hm
          refine qno he ?_; clear he; (try clear a); intro a he
          refine qno he ?_; clear he; (try clear a); intro a he
          refine qno he ?_; clear he; (try clear a); intro a he
          refine qyg (v := .bool (false)) he (y_pick rfl rfl) ?_; clear he; (try clear a); intro a he
          refine qy (v := .bool (false)) he (y_pick rfl rfl) ?_; clear he; (try clear a); intro a he
          refine qy (v := .bool (false)) he (y_move rfl) ?_; clear he; (try clear a); intro a he
          refine qyg (v := v37) he (y_move rfl) ?_; clear he; (try clear a); intro a he
          refine qyg (v := .int .i64 (y41)) he (y_move rfl) ?_; clear he; (try clear a); intro a he
          obtain ⟨x105, hx106, hm⟩ := ob hm
          obtain ⟨r107, hr108, hq109, hi110, hb111⟩ := hW39.geti hx106
          obtain rfl : _ = ([.int .i64 (x105)] : List Value) := hq109
          refine qyg he (y_indexAddr (Rd.st hs (.tail _ (.head _))) rfl rfl hi110 hb111 Tryd.underlying55 ti3) ?_; clear he; (try clear a); intro a he
          refine qyg (v := .int .i64 (x105)) he (y_loadE (i := y41.toNat) (j := 0) (Rd.st hs (.tail _ (.head _))) rfl hr108 rfl Tryd.underlying3 rfl) ?_; clear he; (try clear a); intro a he
          refine qyg he (y_neq rfl rfl) ?_; clear he; (try clear a); intro a he
          refine qyg (v := .bool (decide (x105 ≠ (-1)))) he (y_move rfl) ?_; clear he; (try clear a); intro a he
          refine Ev.split he (t := 164) rfl (fun hg112 hq => ?_) (fun hg112 hq => ?_)
          ·clear he; have he := hq; clear hq
           replace hm := oc_t hg112 hm
           refine qyg (v := .pointer (some ⟨b6, 0, none⟩)) he (y_fieldAddr rfl (FO.of (off := 0) Tryd.underlying24 rfl rfl ti22 (by decide))) ?_; clear he; (try clear a); intro a he
           refine qyg (v := v1) he (y_ld rfl Tryd.underlying22 rfl (Cell.blk (.tail _ (.tail _ (.head _))) rfl)) ?_; clear he; (try clear a); intro a he
           refine qyg (v := v37) he (y_move rfl) ?_; clear he; (try clear a); intro a he
           refine qyg (v := .int .i64 (y41)) he (y_move rfl) ?_; clear he; (try clear a); intro a he
           obtain ⟨x113, hx114, hm⟩ := ob hm
           obtain ⟨r115, hr116, hq117, hi118, hb119⟩ := hW39.geti hx114
           obtain rfl : _ = ([.int .i64 (x113)] : List Value) := hq117
           refine qyg he (y_indexAddr (Rd.st hs (.tail _ (.head _))) rfl rfl hi118 hb119 Tryd.underlying55 ti3) ?_; clear he; (try clear a); intro a he
           refine qyg (v := .int .i64 (x113)) he (y_loadE (i := y41.toNat) (j := 0) (Rd.st hs (.tail _ (.head _))) rfl hr116 rfl Tryd.underlying3 rfl) ?_; clear he; (try clear a); intro a he
           obtain ⟨x120, hx121, hm⟩ := ob hm
           obtain ⟨r122, hr123, hq124, hi125, hb126⟩ := hW4.geti hx121
           obtain ⟨v127, rfl, ⟨rw128, hR129, hW130⟩⟩ := hq124
           refine qyg he (y_indexAddr hR3 rfl rfl hi125 hb126 Tryd.underlying22 ti37) ?_; clear he; (try clear a); intro a he
           refine qyg (v := eaddr v1 9 x113.toNat 8) he (y_fieldAddrE (i := x113.toNat) (j := 0) hR3 rfl hb126 (FO.of (off := 8) Tryd.underlying37 rfl rfl ti3 (by decide))) ?_; clear he; (try clear a); intro a he
           refine qyg (v := .int .i64 (x120.Next)) he (y_loadE (i := x113.toNat) (j := 8) hR3.up rfl hr123 rfl Tryd.underlying3 rfl) ?_; clear he; (try clear a); intro a he
           refine qyg he (y_neq rfl rfl) ?_; clear he; (try clear a); intro a he
           refine qyg (v := .bool (decide (x120.Next ≠ (-1)))) he (y_pick rfl rfl) ?_; clear he; (try clear a); intro a he
           refine qy (v := .bool (decide (x120.Next ≠ (-1)))) he (y_pick rfl rfl) ?_; clear he; (try clear a); intro a he
           refine QL_nil he ?_; clear he; (try clear hs); (try clear a); intro a w hs
           exact ⟨decide (x120.Next ≠ (-1)), hm, hs.subs ⟨rfl, rfl, rfl, rfl, rfl, rfl, trivial⟩ (.cons _ (.cons_cons _ (.cons_cons _ (.refl _))))⟩
          ·clear he; have he := hq; clear hq
           replace hm := oc_f hg112 hm
           refine qno he ?_; clear he; (try clear a); intro a he
           refine qno he ?_; clear he; (try clear a); intro a he
           refine qno he ?_; clear he; (try clear a); intro a he
           refine qno he ?_; clear he; (try clear a); intro a he
           refine qno he ?_; clear he; (try clear a); intro a he
           refine qno he ?_; clear he; (try clear a); intro a he
           refine qno he ?_; clear he; (try clear a); intro a he
           refine qno he ?_; clear he; (try clear a); intro a he
           refine qno he ?_; clear he; (try clear a); intro a he
           refine qno he ?_; clear he; (try clear a); intro a he
           refine qyg (v := .bool (false)) he (y_pick rfl rfl) ?_; clear he; (try clear a); intro a he
           refine qy (v := .bool (false)) he (y_pick rfl rfl) ?_; clear he; (try clear a); intro a he
           refine QL_nil he ?_; clear he; (try clear hs); (try clear a); intro a w hs
           exact ⟨false, hm, hs.subs ⟨rfl, rfl, rfl, rfl, rfl, rfl, trivial⟩ (.cons _ (.cons_cons _ (.cons_cons _ (.refl _))))⟩
      ·replace hm := oc_f hg43 hm
       refine W_exit ?_
       refine hB13 _ _ ?_
       exact ⟨hm, hs.subs trivial (.cons _ (.cons _ (.refl _)))⟩
   ·refine W_block fun Qe22 hB22 hO22 => ?_
    refine W_loop (fun (k : Nat) a w => ∃ (y132 : (List Int)) (y137 : (List Int)) (y142 : Int) (v133 : Value) (rw134 : List (List Value)) (v138 : Value) (rw139 : List (List Value)), dom_linked_l5 n p0 k y132 y137 y142 = some res ∧ RW (tInt .i64) f rw134 y132 ∧ RW (tInt .i64) f rw139 y137 ∧ St 178 w0 f (.row v138 3 1 rw139 :: .row v133 3 1 rw134 :: .blk b6 (.cells #[v1] 24 (0, 0)) :: L) [(1, .pointer (some ⟨b6, 0, none⟩)), (4, v133), (5, v138), (38, v1), (39, .int .i64 ((p0.Nodes.length : Int))), (40, .int .i64 (y142))] a w) (fun k => k) n ⟨([] : List Int), x29, 0, v24, rw26, v31, rw32, hm, hW25, hW33, hs.subs ⟨rfl, rfl, rfl, rfl, rfl, rfl, trivial⟩ (.cons_cons _ (.cons_cons _ (.cons _ (.cons_cons _ (.refl _)))))⟩ ?_
    clear hs hm
    intro k
    rintro a w ⟨y132, y137, y142, v133, rw134, v138, rw139, hm, hW135, hW140, hs⟩
    replace hs : St _ _ _ (.row v138 3 1 rw139 :: .row v133 3 1 rw134 :: .blk b6 (.cells #[v1] 24 (0, 0)) :: L) _ _ _ := hs
    intro K23 hK23
    cases k with
    | zero => simp [dom_linked_l5] at hm
    | succ k143 =>
     rw [dom_linked_l5] at hm
     refine W_seq fun K24 hK24 => ?_
     refine W_region ?_
     refine sy hs (y_lss rfl rfl) ?_; clear hs; (try clear a w); intro a w hs
     refine RL_nil ?_
     refine hK24 _ _ ?_; clear hK24
     refine W_seq fun K25 hK25 => ?_
     refine W_cond hs rfl (fun hg144 => ?_) (fun hg144 => ?_)
     ·replace hm := oc_t hg144 hm
      refine W_skip ?_
      refine hK25 _ _ ?_; clear hK25
      refine W_seq fun K26 hK26 => ?_
      refine W_post (fun a w => ∃ (y145 : (List Int)) (y150 : (List Int)) (v146 : Value) (rw147 : List (List Value)) (v151 : Value) (rw152 : List (List Value)), dom_linked_k6 y142 (dom_linked_l5 n p0 k143) y145 y150 = some res ∧ RW (tInt .i64) f rw147 y145 ∧ RW (tInt .i64) f rw152 y150 ∧ St 178 w0 f (.row v151 3 1 rw152 :: .row v146 3 1 rw147 :: .blk b6 (.cells #[v1] 24 (0, 0)) :: L) [(1, .pointer (some ⟨b6, 0, none⟩)), (4, v146), (5, v151), (38, v1), (39, .int .i64 ((p0.Nodes.length : Int))), (40, .int .i64 (y142))] a w) ?_ ?_
      ·clear hs hm
       rintro a w ⟨y145, y150, v146, rw147, v151, rw152, hm, hW148, hW153, hs⟩
       replace hs : St _ _ _ (.row v151 3 1 rw152 :: .row v146 3 1 rw147 :: .blk b6 (.cells #[v1] 24 (0, 0)) :: L) _ _ _ := hs
       unfold dom_linked_k6 at hm
       refine hK26 _ _ ?_; clear hK26
       refine W_region ?_
       refine sy hs (y_add rfl rfl rfl) ?_; clear hs; (try clear a w); intro a w hs
       refine sy (v := .int .i64 ((w64 (y142 + 1)))) hs (y_move rfl) ?_; clear hs; (try clear a w); intro a w hs
       refine RL_nil ?_
       exact hK23 k143 _ _ (Nat.lt_succ_self _) ⟨y145, y150, (w64 (y142 + 1)), v146, rw147, v151, rw152, hm, hW148, hW153, hs.sub ⟨rfl, rfl, rfl, rfl, rfl, rfl, trivial⟩⟩
      ·refine W_block fun Qe27 hB27 hO27 => ?_
       refine W_seq fun K28 hK28 => ?_
       refine W_region ?_
       refine sy (v := .int .i64 (y142)) hs (y_move rfl) ?_; clear hs; (try clear a w); intro a w hs
       obtain ⟨x155, hx156, hm⟩ := ob hm
       obtain ⟨r157, hr158, hq159, hi160, hb161⟩ := hW4.geti hx156
       obtain ⟨v162, rfl, ⟨rw163, hR164, hW165⟩⟩ := hq159
       refine sy hs (y_indexAddr hR3 rfl rfl hi160 hb161 Tryd.underlying22 ti37) ?_; clear hs; (try clear a w); intro a w hs
       refine sy hs (y_loadRow hR3.up rfl hr158 Tryd.underlying37 rfl ti37) ?_; clear hs; (try clear a w); intro a w hs
       refine RL_alloc hs ti37 (.free rfl) (by decide) ?_; clear hs; (try clear a w); intro b167 a w hs
       replace hs : St _ _ _ (.blk b167 (.cells #[.int .i64 (0), .string ((bs [])), .string ((bs [])), (.slice none 0 0), .int .i64 (0), .int .i64 (0), .int .i64 (0), .int .i64 (0), .int .i64 (0)] 37 (0, 0)) :: .row v138 3 1 rw139 :: .row v133 3 1 rw134 :: .blk b6 (.cells #[v1] 24 (0, 0)) :: L) _ _ _ := hs
       refine sy (v := .int .i64 (y142)) hs (y_assign rfl) ?_; clear hs; (try clear a w); intro a w hs
       refine RL_storeAll (i := 0) hs rfl rfl rfl ti37 ⟨rfl, rfl⟩ (AllC.arr (r := [.int .i64 (x155.Kind), .string (x155.Name), .string (x155.Text), v162, .int .i64 (x155.Parent), .int .i64 (x155.First), .int .i64 (x155.Last), .int .i64 (x155.Prev), .int .i64 (x155.Next)]) ⟨rfl, rfl, rfl, hR164.one, rfl, rfl, rfl, rfl, rfl, trivial⟩) (.free rfl) ?_; clear hs; (try clear a w); intro a w hs
       replace hs : St _ _ _ (.blk b167 (.cells #[.int .i64 (x155.Kind), .string (x155.Name), .string (x155.Text), v162, .int .i64 (x155.Parent), .int .i64 (x155.First), .int .i64 (x155.Last), .int .i64 (x155.Prev), .int .i64 (x155.Next)] 37 (0, 0)) :: .row v138 3 1 rw139 :: .row v133 3 1 rw134 :: .blk b6 (.cells #[v1] 24 (0, 0)) :: L) _ _ _ := hs
       refine RL_nil ?_
       refine hK28 _ _ ?_; clear hK28
       refine W_seq fun K29 hK29 => ?_
       refine W_region ?_
       refine sy (v := v138) hs (y_move rfl) ?_; clear hs; (try clear a w); intro a w hs
       refine sy (v := .int .i64 (y142)) hs (y_move rfl) ?_; clear hs; (try clear a w); intro a w hs
       obtain ⟨x170, hx171, hm⟩ := ob hm
       obtain ⟨r172, hr173, hq174, hi175, hb176⟩ := hW140.geti hx171
       obtain rfl : _ = ([.int .i64 (x170)] : List Value) := hq174
       refine sy hs (y_indexAddr (Rd.st hs (.tail _ (.head _))) rfl rfl hi175 hb176 Tryd.underlying55 ti3) ?_; clear hs; (try clear a w); intro a w hs
       obtain ⟨x177, hx178, hm⟩ := ob hm
       have hex177 := seti_some hx178
       have hW180 := RW.set (i := y142.toNat) (r := [.int .i64 ((-1))]) (x := ((-1) : Int)) hW140 (rfl); rw [hex177] at hW180
       refine RL_storeRow (i := 1) (j := 0) (m := y142.toNat) hs rfl rfl rfl hr173 (by decide) ti3 rfl (.free rfl) ?_; clear hs; (try clear a w); intro a w hs
       replace hs : St _ _ _ (.blk b167 (.cells #[.int .i64 (x155.Kind), .string (x155.Name), .string (x155.Text), v162, .int .i64 (x155.Parent), .int .i64 (x155.First), .int .i64 (x155.Last), .int .i64 (x155.Prev), .int .i64 (x155.Next)] 37 (0, 0)) :: .row v138 3 1 (rw139.set y142.toNat [.int .i64 ((-1))]) :: .row v133 3 1 rw134 :: .blk b6 (.cells #[v1] 24 (0, 0)) :: L) _ _ _ := hs
       generalize hgrw179 : rw139.set y142.toNat [.int .i64 ((-1))] = rw179 at hs hW180; clear hgrw179
       replace hs : St _ _ _ (.blk b167 (.cells #[.int .i64 (x155.Kind), .string (x155.Name), .string (x155.Text), v162, .int .i64 (x155.Parent), .int .i64 (x155.First), .int .i64 (x155.Last), .int .i64 (x155.Prev), .int .i64 (x155.Next)] 37 (0, 0)) :: .row v138 3 1 rw179 :: .row v133 3 1 rw134 :: .blk b6 (.cells #[v1] 24 (0, 0)) :: L) _ _ _ := hs
       refine RL_nil ?_
       refine hK29 _ _ ?_; clear hK29
       refine W_seq fun K30 hK30 => ?_
       refine W_seq fun K31 hK31 => ?_
       refine W_region ?_
       refine sy hs (y_ldB rfl Tryd.underlying37 rfl ti37 (.head _) rfl) ?_; clear hs; (try clear a w); intro a w hs
       obtain ⟨x182, hx183, hm⟩ := ob hm
       refine sy hs (y_call rfl has36 rfl (dom_alone_ok n (f := f) (a0 := [.int .i64 (x155.Kind), .string (x155.Name), .string (x155.Text), v162, .int .i64 (x155.Parent), .int .i64 (x155.First), .int .i64 (x155.Last), .int .i64 (x155.Prev), .int .i64 (x155.Next)]) ⟨_, rfl, ⟨rw163, hR164, hW165⟩⟩ hx183)) ?_; clear hs; (try clear a w); intro a w hs
       refine sy (v := .bool ((!x182))) hs (y_not rfl) ?_; clear hs; (try clear a w); intro a w hs
       refine RL_nil ?_
       refine hK31 _ _ ?_; clear hK31
       refine W_cond hs rfl (fun hg184 => ?_) (fun hg184 => ?_)
       ·replace hm := oc_t hg184 hm
        refine W_seq fun K32 hK32 => ?_
        refine W_region ?_
        refine sy (v := .bool (false)) hs (y_assign rfl) ?_; clear hs; (try clear a w); intro a w hs
        refine RL_nil ?_
        refine hK32 _ _ ?_; clear hK32
        refine W_ret ?_
        obtain rfl := Option.some.inj hm
        refine RtV1 hs rfl (rv_t hs rfl) ?_
        exact ⟨rfl, ((hs.subL (.cons _ (.cons _ (.cons _ (.cons _ (.refl _)))))).weak hle).cw⟩
       ·replace hm := oc_f hg184 hm
        refine W_skip ?_
        refine hK30 _ _ ?_; clear hK30
        refine W_seq fun K33 hK33 => ?_
        refine W_seq fun K34 hK34 => ?_
        refine W_region ?_
        refine sy (v := .int .i64 (y142)) hs (y_move rfl) ?_; clear hs; (try clear a w); intro a w hs
        refine sy hs (y_eql rfl rfl) ?_; clear hs; (try clear a w); intro a w hs
        refine RL_nil ?_
        refine hK34 _ _ ?_; clear hK34
        refine W_cond hs rfl (fun hg185 => ?_) (fun hg185 => ?_)
        ·replace hm := oc_t hg185 hm
         refine W_seq fun K35 hK35 => ?_
         refine W_region ?_
         refine sy (v := v133) hs (y_move rfl) ?_; clear hs; (try clear a w); intro a w hs
         refine RL_bs1s hs rfl Tryd.underlying55 ti3 rfl rfl ?_; clear hs; (try clear a w); intro v186 a w hs
         have hW187 : RW (tInt .i64) f [[.int .i64 (0)]] [0] := RW.single (rfl)
         generalize hgrw188 : ([[.int .i64 (0)]] : List (List Value)) = rw188 at hs hW187; clear hgrw188
         replace hs : St _ _ _ (.row v186 3 1 rw188 :: .blk b167 (.cells #[.int .i64 (x155.Kind), .string (x155.Name), .string (x155.Text), v162, .int .i64 (x155.Parent), .int .i64 (x155.First), .int .i64 (x155.Last), .int .i64 (x155.Prev), .int .i64 (x155.Next)] 37 (0, 0)) :: .row v138 3 1 rw179 :: .row v133 3 1 rw134 :: .blk b6 (.cells #[v1] 24 (0, 0)) :: L) _ _ _ := hs
         obtain ⟨x191, hx192, hm⟩ := ob hm
         obtain ⟨hbx191, hex191⟩ := appM_some hx192
         have hW195 := hW135.append hW187; rw [hex191] at hW195
         refine RL_append (i := 3) hs rfl rfl rfl (Rd.st hs (.head _)) Tryd.underlying55 ti3 (by decide) (by rw [RW.len hW135, RW.len hW187]; exact hbx191) (.free rfl) (by decide) ?_; clear hs; (try clear a w); intro v193 a w hs
         generalize hgx191 : rw134 ++ rw188 = rw194 at hs hW195; clear hgx191
         replace hs := hs.erase 0
         replace hs : St _ _ _ (.blk b167 (.cells #[.int .i64 (x155.Kind), .string (x155.Name), .string (x155.Text), v162, .int .i64 (x155.Parent), .int .i64 (x155.First), .int .i64 (x155.Last), .int .i64 (x155.Prev), .int .i64 (x155.Next)] 37 (0, 0)) :: .row v138 3 1 rw179 :: .row v193 3 1 rw194 :: .blk b6 (.cells #[v1] 24 (0, 0)) :: L) _ _ _ := hs
         refine sy (v := v193) hs (y_assign rfl) ?_; clear hs; (try clear a w); intro a w hs
         refine RL_nil ?_
         refine hK35 _ _ ?_; clear hK35
         refine W_exit ?_
         refine hB27 _ _ ?_
         exact ⟨x191, x177, v193, rw194, v138, rw179, hm, hW195, hW180, hs.subs ⟨rfl, rfl, rfl, rfl, rfl, rfl, trivial⟩ (.cons _ (.cons_cons _ (.cons_cons _ (.cons_cons _ (.refl _)))))⟩
        ·replace hm := oc_f hg185 hm
         refine W_skip ?_
         refine hK33 _ _ ?_; clear hK33
         refine W_seq fun K36 hK36 => ?_
         refine W_post (fun a w => ∃ (y197 : (List Int)) (v198 : Value) (rw199 : List (List Value)), dom_linked_k7 p0 y142 (dom_linked_l5 n p0 k143) x155 x177 y197 = some res ∧ RW (tInt .i64) f rw199 y197 ∧ St 178 w0 f (.blk b167 (.cells #[.int .i64 (x155.Kind), .string (x155.Name), .string (x155.Text), v162, .int .i64 (x155.Parent), .int .i64 (x155.First), .int .i64 (x155.Last), .int .i64 (x155.Prev), .int .i64 (x155.Next)] 37 (0, 0)) :: .row v138 3 1 rw179 :: .row v198 3 1 rw199 :: .blk b6 (.cells #[v1] 24 (0, 0)) :: L) [(1, .pointer (some ⟨b6, 0, none⟩)), (4, v198), (5, v138), (6, .int .i64 (y142)), (7, .pointer (some ⟨b167, 0, none⟩)), (38, v1), (39, .int .i64 ((p0.Nodes.length : Int))), (40, .int .i64 (y142))] a w) ?_ ?_
         ·clear hs hm
          rintro a w ⟨y197, v198, rw199, hm, hW200, hs⟩
          replace hs : St _ _ _ (.blk b167 (.cells #[.int .i64 (x155.Kind), .string (x155.Name), .string (x155.Text), v162, .int .i64 (x155.Parent), .int .i64 (x155.First), .int .i64 (x155.Last), .int .i64 (x155.Prev), .int .i64 (x155.Next)] 37 (0, 0)) :: .row v138 3 1 rw179 :: .row v198 3 1 rw199 :: .blk b6 (.cells #[v1] 24 (0, 0)) :: L) _ _ _ := hs
          unfold dom_linked_k7 at hm
          refine hK36 _ _ ?_; clear hK36
          refine W_seq fun K37 hK37 => ?_
          refine W_seq fun K38 hK38 => ?_
          refine W_post (fun a w => ∃ (y202 : Bool), dom_linked_k8 p0 y142 (dom_linked_l5 n p0 k143) x155 x177 y197 y202 = some res ∧ St 178 w0 f (.blk b167 (.cells #[.int .i64 (x155.Kind), .string (x155.Name), .string (x155.Text), v162, .int .i64 (x155.Parent), .int .i64 (x155.First), .int .i64 (x155.Last), .int .i64 (x155.Prev), .int .i64 (x155.Next)] 37 (0, 0)) :: .row v138 3 1 rw179 :: .row v198 3 1 rw199 :: .blk b6 (.cells #[v1] 24 (0, 0)) :: L) [(1, .pointer (some ⟨b6, 0, none⟩)), (4, v198), (5, v138), (6, .int .i64 (y142)), (7, .pointer (some ⟨b167, 0, none⟩)), (38, v1), (39, .int .i64 ((p0.Nodes.length : Int))), (40, .int .i64 (y142)), (87, .bool (y202))] a w) ?_ ?_
          ·clear hs hm
           rintro a w ⟨y202, hm, hs⟩
           replace hs : St _ _ _ (.blk b167 (.cells #[.int .i64 (x155.Kind), .string (x155.Name), .string (x155.Text), v162, .int .i64 (x155.Parent), .int .i64 (x155.First), .int .i64 (x155.Last), .int .i64 (x155.Prev), .int .i64 (x155.Next)] 37 (0, 0)) :: .row v138 3 1 rw179 :: .row v198 3 1 rw199 :: .blk b6 (.cells #[v1] 24 (0, 0)) :: L) _ _ _ := hs
           unfold dom_linked_k8 at hm
           refine hK38 _ _ ?_; clear hK38
           refine W_cond hs rfl (fun hg203 => ?_) (fun hg203 => ?_)
           ·replace hm := oc_t hg203 hm
            refine W_seq fun K39 hK39 => ?_
            refine W_region ?_
            refine sy (v := .bool (false)) hs (y_assign rfl) ?_; clear hs; (try clear a w); intro a w hs
            refine RL_nil ?_
            refine hK39 _ _ ?_; clear hK39
            refine W_ret ?_
            obtain rfl := Option.some.inj hm
            refine RtV1 hs rfl (rv_t hs rfl) ?_
            exact ⟨rfl, ((hs.subL (.cons _ (.cons _ (.cons _ (.cons _ (.refl _)))))).weak hle).cw⟩
           ·replace hm := oc_f hg203 hm
            refine W_skip ?_
            refine hK37 _ _ ?_; clear hK37
            refine W_seq fun K40 hK40 => ?_
            refine W_seq fun K41 hK41 => ?_
            refine W_post (fun a w => ∃ (y204 : Bool), dom_linked_k9 y142 (dom_linked_l5 n p0 k143) x155 x177 y197 y204 = some res ∧ St 178 w0 f (.blk b167 (.cells #[.int .i64 (x155.Kind), .string (x155.Name), .string (x155.Text), v162, .int .i64 (x155.Parent), .int .i64 (x155.First), .int .i64 (x155.Last), .int .i64 (x155.Prev), .int .i64 (x155.Next)] 37 (0, 0)) :: .row v138 3 1 rw179 :: .row v198 3 1 rw199 :: .blk b6 (.cells #[v1] 24 (0, 0)) :: L) [(1, .pointer (some ⟨b6, 0, none⟩)), (4, v198), (5, v138), (6, .int .i64 (y142)), (7, .pointer (some ⟨b167, 0, none⟩)), (38, v1), (39, .int .i64 ((p0.Nodes.length : Int))), (40, .int .i64 (y142)), (117, .bool (y204))] a w) ?_ ?_
            ·clear hs hm
             rintro a w ⟨y204, hm, hs⟩
             replace hs : St _ _ _ (.blk b167 (.cells #[.int .i64 (x155.Kind), .string (x155.Name), .string (x155.Text), v162, .int .i64 (x155.Parent), .int .i64 (x155.First), .int .i64 (x155.Last), .int .i64 (x155.Prev), .int .i64 (x155.Next)] 37 (0, 0)) :: .row v138 3 1 rw179 :: .row v198 3 1 rw199 :: .blk b6 (.cells #[v1] 24 (0, 0)) :: L) _ _ _ := hs
             unfold dom_linked_k9 at hm
             refine hK41 _ _ ?_; clear hK41
             refine W_cond hs rfl (fun hg205 => ?_) (fun hg205 => ?_)
             ·replace hm := oc_t hg205 hm
              refine W_seq fun K42 hK42 => ?_
              refine W_region ?_
              refine sy (v := .bool (false)) hs (y_assign rfl) ?_; clear hs; (try clear a w); intro a w hs
              refine RL_nil ?_
              refine hK42 _ _ ?_; clear hK42
              refine W_ret ?_
              obtain rfl := Option.some.inj hm
              refine RtV1 hs rfl (rv_t hs rfl) ?_
              exact ⟨rfl, ((hs.subL (.cons _ (.cons _ (.cons _ (.cons _ (.refl _)))))).weak hle).cw⟩
             ·replace hm := oc_f hg205 hm
              refine W_skip ?_
              refine hK40 _ _ ?_; clear hK40
              refine W_seq fun K43 hK43 => ?_
              refine W_region ?_
              refine sy (v := v138) hs (y_move rfl) ?_; clear hs; (try clear a w); intro a w hs
              refine sy (v := .pointer (some ⟨b167, 4, none⟩)) hs (y_fieldAddr rfl (FO.of (off := 4) Tryd.underlying37 rfl rfl ti3 (by decide))) ?_; clear hs; (try clear a w); intro a w hs
              refine sy (v := .int .i64 (x155.Parent)) hs (y_ld rfl Tryd.underlying3 rfl (Cell.blk (.head _) rfl)) ?_; clear hs; (try clear a w); intro a w hs
              refine sy (v := .int .i64 (y142)) hs (y_move rfl) ?_; clear hs; (try clear a w); intro a w hs
              obtain ⟨x206, hx207, hm⟩ := ob hm
              obtain ⟨r208, hr209, hq210, hi211, hb212⟩ := hW180.geti hx207
              obtain rfl : _ = ([.int .i64 (x206)] : List Value) := hq210
              refine sy hs (y_indexAddr (Rd.st hs (.tail _ (.head _))) rfl rfl hi211 hb212 Tryd.underlying55 ti3) ?_; clear hs; (try clear a w); intro a w hs
              obtain ⟨x213, hx214, hm⟩ := ob hm
              have hex213 := seti_some hx214
              have hW216 := RW.set (i := x155.Parent.toNat) (r := [.int .i64 (y142)]) (x := (y142 : Int)) hW180 (rfl); rw [hex213] at hW216
              refine RL_storeRow (i := 1) (j := 0) (m := x155.Parent.toNat) hs rfl rfl rfl hr209 (by decide) ti3 rfl (.free rfl) ?_; clear hs; (try clear a w); intro a w hs
              replace hs : St _ _ _ (.blk b167 (.cells #[.int .i64 (x155.Kind), .string (x155.Name), .string (x155.Text), v162, .int .i64 (x155.Parent), .int .i64 (x155.First), .int .i64 (x155.Last), .int .i64 (x155.Prev), .int .i64 (x155.Next)] 37 (0, 0)) :: .row v138 3 1 (rw179.set x155.Parent.toNat [.int .i64 (y142)]) :: .row v198 3 1 rw199 :: .blk b6 (.cells #[v1] 24 (0, 0)) :: L) _ _ _ := hs
              generalize hgrw215 : rw179.set x155.Parent.toNat [.int .i64 (y142)] = rw215 at hs hW216; clear hgrw215
              replace hs : St _ _ _ (.blk b167 (.cells #[.int .i64 (x155.Kind), .string (x155.Name), .string (x155.Text), v162, .int .i64 (x155.Parent), .int .i64 (x155.First), .int .i64 (x155.Last), .int .i64 (x155.Prev), .int .i64 (x155.Next)] 37 (0, 0)) :: .row v138 3 1 rw215 :: .row v198 3 1 rw199 :: .blk b6 (.cells #[v1] 24 (0, 0)) :: L) _ _ _ := hs
              refine RL_nil ?_
              refine hK43 _ _ ?_; clear hK43
              refine W_seq fun K44 hK44 => ?_
              refine W_region ?_
              refine sy (v := .pointer (some ⟨b167, 0, none⟩)) hs (y_fieldAddr rfl (FO.of (off := 0) Tryd.underlying37 rfl rfl ti3 (by decide))) ?_; clear hs; (try clear a w); intro a w hs
              refine sy (v := .int .i64 (x155.Kind)) hs (y_ld rfl Tryd.underlying3 rfl (Cell.blk (.head _) rfl)) ?_; clear hs; (try clear a w); intro a w hs
              refine sy hs (y_eql rfl rfl) ?_; clear hs; (try clear a w); intro a w hs
              refine RL_nil ?_
              refine hK44 _ _ ?_; clear hK44
              refine W_post (fun a w => ∃ (y218 : (List Int)) (v219 : Value) (rw220 : List (List Value)), dom_linked_k10 y142 (dom_linked_l5 n p0 k143) x213 y218 = some res ∧ RW (tInt .i64) f rw220 y218 ∧ St 178 w0 f (.row v138 3 1 rw215 :: .row v219 3 1 rw220 :: .blk b6 (.cells #[v1] 24 (0, 0)) :: L) [(1, .pointer (some ⟨b6, 0, none⟩)), (4, v219), (5, v138), (38, v1), (39, .int .i64 ((p0.Nodes.length : Int))), (40, .int .i64 (y142))] a w) ?_ ?_
              ·clear hs hm
               rintro a w ⟨y218, v219, rw220, hm, hW221, hs⟩
               replace hs : St _ _ _ (.row v138 3 1 rw215 :: .row v219 3 1 rw220 :: .blk b6 (.cells #[v1] 24 (0, 0)) :: L) _ _ _ := hs
               unfold dom_linked_k10 at hm
               exact ⟨y218, x213, v219, rw220, v138, rw215, hm, hW221, hW216, hs.sub ⟨rfl, rfl, rfl, rfl, rfl, rfl, trivial⟩⟩
              ·refine W_cond hs rfl (fun hg223 => ?_) (fun hg223 => ?_)
               ·replace hm := oc_t hg223 hm
                refine W_region ?_
                refine sy (v := v198) hs (y_move rfl) ?_; clear hs; (try clear a w); intro a w hs
                refine sy (v := .int .i64 (y142)) hs (y_move rfl) ?_; clear hs; (try clear a w); intro a w hs
                refine RL_bs1s hs rfl Tryd.underlying55 ti3 rfl rfl ?_; clear hs; (try clear a w); intro v224 a w hs
                have hW225 : RW (tInt .i64) f [[.int .i64 (y142)]] [y142] := RW.single (rfl)
                generalize hgrw226 : ([[.int .i64 (y142)]] : List (List Value)) = rw226 at hs hW225; clear hgrw226
                replace hs : St _ _ _ (.row v224 3 1 rw226 :: .blk b167 (.cells #[.int .i64 (x155.Kind), .string (x155.Name), .string (x155.Text), v162, .int .i64 (x155.Parent), .int .i64 (x155.First), .int .i64 (x155.Last), .int .i64 (x155.Prev), .int .i64 (x155.Next)] 37 (0, 0)) :: .row v138 3 1 rw215 :: .row v198 3 1 rw199 :: .blk b6 (.cells #[v1] 24 (0, 0)) :: L) _ _ _ := hs
                obtain ⟨x229, hx230, hm⟩ := ob hm
                obtain ⟨hbx229, hex229⟩ := appM_some hx230
                have hW233 := hW200.append hW225; rw [hex229] at hW233
                refine RL_append (i := 3) hs rfl rfl rfl (Rd.st hs (.head _)) Tryd.underlying55 ti3 (by decide) (by rw [RW.len hW200, RW.len hW225]; exact hbx229) (.free rfl) (by decide) ?_; clear hs; (try clear a w); intro v231 a w hs
                generalize hgx229 : rw199 ++ rw226 = rw232 at hs hW233; clear hgx229
                replace hs := hs.erase 0
                replace hs : St _ _ _ (.blk b167 (.cells #[.int .i64 (x155.Kind), .string (x155.Name), .string (x155.Text), v162, .int .i64 (x155.Parent), .int .i64 (x155.First), .int .i64 (x155.Last), .int .i64 (x155.Prev), .int .i64 (x155.Next)] 37 (0, 0)) :: .row v138 3 1 rw215 :: .row v231 3 1 rw232 :: .blk b6 (.cells #[v1] 24 (0, 0)) :: L) _ _ _ := hs
                refine sy (v := v231) hs (y_assign rfl) ?_; clear hs; (try clear a w); intro a w hs
                refine RL_nil ?_
                exact ⟨x229, v231, rw232, hm, hW233, hs.subs ⟨rfl, rfl, rfl, rfl, rfl, rfl, trivial⟩ (.cons _ (.cons_cons _ (.cons_cons _ (.cons_cons _ (.refl _)))))⟩
               ·replace hm := oc_f hg223 hm
                refine W_skip ?_
                exact ⟨y197, v198, rw199, hm, hW200, hs.subs ⟨rfl, rfl, rfl, rfl, rfl, rfl, trivial⟩ (.cons _ (.cons_cons _ (.cons_cons _ (.cons_cons _ (.refl _)))))⟩
            ·refine W_region ?_
             refine sy (v := .pointer (some ⟨b167, 7, none⟩)) hs (y_fieldAddr rfl (FO.of (off := 7) Tryd.underlying37 rfl rfl ti3 (by decide))) ?_; clear hs; (try clear a w); intro a w hs
             refine sy (v := .int .i64 (x155.Prev)) hs (y_ld rfl Tryd.underlying3 rfl (Cell.blk (.head _) rfl)) ?_; clear hs; (try clear a w); intro a w hs
             refine sy hs (y_eql rfl rfl) ?_; clear hs; (try clear a w); intro a w hs
             refine sy (v := .bool (decide (x155.Prev = (-1)))) hs (y_move rfl) ?_; clear hs; (try clear a w); intro a w hs
             refine St.split hs (t := 91) rfl (fun hg235 hq => ?_) (fun hg235 hq => ?_)
             ·clear hs; have hs := hq; clear hq
              replace hm := oc_t hg235 hm
              refine syg (v := .pointer (some ⟨b6, 0, none⟩)) hs (y_fieldAddr rfl (FO.of (off := 0) Tryd.underlying24 rfl rfl ti22 (by decide))) ?_; clear hs; (try clear a w); intro a w hs
              refine syg (v := v1) hs (y_ld rfl Tryd.underlying22 rfl (Cell.blk (.tail _ (.tail _ (.tail _ (.head _)))) rfl)) ?_; clear hs; (try clear a w); intro a w hs
              refine syg (v := .pointer (some ⟨b167, 4, none⟩)) hs (y_fieldAddr rfl (FO.of (off := 4) Tryd.underlying37 rfl rfl ti3 (by decide))) ?_; clear hs; (try clear a w); intro a w hs
              refine syg (v := .int .i64 (x155.Parent)) hs (y_ld rfl Tryd.underlying3 rfl (Cell.blk (.head _) rfl)) ?_; clear hs; (try clear a w); intro a w hs
              obtain ⟨x236, hx237, hm⟩ := ob hm
              obtain ⟨r238, hr239, hq240, hi241, hb242⟩ := hW4.geti hx237
              obtain ⟨v243, rfl, ⟨rw244, hR245, hW246⟩⟩ := hq240
              refine syg hs (y_indexAddr hR3 rfl rfl hi241 hb242 Tryd.underlying22 ti37) ?_; clear hs; (try clear a w); intro a w hs
              refine syg (v := eaddr v1 9 x155.Parent.toNat 5) hs (y_fieldAddrE (i := x155.Parent.toNat) (j := 0) hR3 rfl hb242 (FO.of (off := 5) Tryd.underlying37 rfl rfl ti3 (by decide))) ?_; clear hs; (try clear a w); intro a w hs
              refine syg (v := .int .i64 (x236.First)) hs (y_loadE (i := x155.Parent.toNat) (j := 5) hR3.up rfl hr239 rfl Tryd.underlying3 rfl) ?_; clear hs; (try clear a w); intro a w hs
              refine syg (v := .int .i64 (y142)) hs (y_move rfl) ?_; clear hs; (try clear a w); intro a w hs
              refine syg hs (y_neq rfl rfl) ?_; clear hs; (try clear a w); intro a w hs
              refine sy (v := .bool (decide (x236.First ≠ y142))) hs (y_pick rfl rfl) ?_; clear hs; (try clear a w); intro a w hs
              refine sy (v := .bool (decide (x236.First ≠ y142))) hs (y_move rfl) ?_; clear hs; (try clear a w); intro a w hs
              refine St.split hs (t := 102) rfl (fun hg248 hq => ?_) (fun hg248 hq => ?_)
              ·clear hs; have hs := hq; clear hq
               replace hm := oc_t hg248 hm
               refine sno hs ?_; clear hs; (try clear a w); intro a w hs
               refine sno hs ?_; clear hs; (try clear a w); intro a w hs
               refine sno hs ?_; clear hs; (try clear a w); intro a w hs
               refine sno hs ?_; clear hs; (try clear a w); intro a w hs
               refine sun hs ?_; clear hs; (try clear a w); intro a w hs
               refine sun hs ?_; clear hs; (try clear a w); intro a w hs
               refine sun hs ?_; clear hs; (try clear a w); intro a w hs
               refine sun hs ?_; clear hs; (try clear a w); intro a w hs
               refine sun hs ?_; clear hs; (try clear a w); intro a w hs
               refine sun hs ?_; clear hs; (try clear a w); intro a w hs
               refine sun hs ?_; clear hs; (try clear a w); intro a w hs
               refine sun hs ?_; clear hs; (try clear a w); intro a w hs
               refine sun hs ?_; clear hs; (try clear a w); intro a w hs
               refine sno hs ?_; clear hs; (try clear a w); intro a w hs
               refine sy (v := .bool (true)) hs (y_pick rfl rfl) ?_; clear hs; (try clear a w); intro a w hs
               refine RL_nil ?_
               exact ⟨true, hm, hs.sub ⟨rfl, rfl, rfl, rfl, rfl, rfl, rfl, rfl, rfl, trivial⟩⟩
              ·clear hs; have hs := hq; clear hq
               replace hm := oc_f hg248 hm
               refine syg (v := .pointer (some ⟨b167, 7, none⟩)) hs (y_fieldAddr rfl (FO.of (off := 7) Tryd.underlying37 rfl rfl ti3 (by decide))) ?_; clear hs; (try clear a w); intro a w hs
               refine syg (v := .int .i64 (x155.Prev)) hs (y_ld rfl Tryd.underlying3 rfl (Cell.blk (.head _) rfl)) ?_; clear hs; (try clear a w); intro a w hs
               refine syg hs (y_neq rfl rfl) ?_; clear hs; (try clear a w); intro a w hs
               refine syg (v := .bool (decide (x155.Prev ≠ (-1)))) hs (y_move rfl) ?_; clear hs; (try clear a w); intro a w hs
               refine St.split hs (t := 106) rfl (fun hg249 hq => ?_) (fun hg249 hq => ?_)
               ·clear hs; have hs := hq; clear hq
                replace hm := oc_t hg249 hm
                refine syg (v := .pointer (some ⟨b6, 0, none⟩)) hs (y_fieldAddr rfl (FO.of (off := 0) Tryd.underlying24 rfl rfl ti22 (by decide))) ?_; clear hs; (try clear a w); intro a w hs
                refine syg (v := v1) hs (y_ld rfl Tryd.underlying22 rfl (Cell.blk (.tail _ (.tail _ (.tail _ (.head _)))) rfl)) ?_; clear hs; (try clear a w); intro a w hs
                refine syg (v := .pointer (some ⟨b167, 7, none⟩)) hs (y_fieldAddr rfl (FO.of (off := 7) Tryd.underlying37 rfl rfl ti3 (by decide))) ?_; clear hs; (try clear a w); intro a w hs
                refine syg (v := .int .i64 (x155.Prev)) hs (y_ld rfl Tryd.underlying3 rfl (Cell.blk (.head _) rfl)) ?_; clear hs; (try clear a w); intro a w hs
                obtain ⟨x250, hx251, hm⟩ := ob hm
                obtain ⟨r252, hr253, hq254, hi255, hb256⟩ := hW4.geti hx251
                obtain ⟨v257, rfl, ⟨rw258, hR259, hW260⟩⟩ := hq254
                refine syg hs (y_indexAddr hR3 rfl rfl hi255 hb256 Tryd.underlying22 ti37) ?_; clear hs; (try clear a w); intro a w hs
                refine syg (v := eaddr v1 9 x155.Prev.toNat 8) hs (y_fieldAddrE (i := x155.Prev.toNat) (j := 0) hR3 rfl hb256 (FO.of (off := 8) Tryd.underlying37 rfl rfl ti3 (by decide))) ?_; clear hs; (try clear a w); intro a w hs
                refine syg (v := .int .i64 (x250.Next)) hs (y_loadE (i := x155.Prev.toNat) (j := 8) hR3.up rfl hr253 rfl Tryd.underlying3 rfl) ?_; clear hs; (try clear a w); intro a w hs
                refine syg (v := .int .i64 (y142)) hs (y_move rfl) ?_; clear hs; (try clear a w); intro a w hs
                refine syg hs (y_neq rfl rfl) ?_; clear hs; (try clear a w); intro a w hs
                refine syg (v := .bool (decide (x250.Next ≠ y142))) hs (y_pick rfl rfl) ?_; clear hs; (try clear a w); intro a w hs
                refine sy (v := .bool (decide (x250.Next ≠ y142))) hs (y_pick rfl rfl) ?_; clear hs; (try clear a w); intro a w hs
                refine RL_nil ?_
                exact ⟨decide (x250.Next ≠ y142), hm, hs.sub ⟨rfl, rfl, rfl, rfl, rfl, rfl, rfl, rfl, rfl, trivial⟩⟩
               ·clear hs; have hs := hq; clear hq
                replace hm := oc_f hg249 hm
                refine sno hs ?_; clear hs; (try clear a w); intro a w hs
                refine sno hs ?_; clear hs; (try clear a w); intro a w hs
                refine sno hs ?_; clear hs; (try clear a w); intro a w hs
                refine sno hs ?_; clear hs; (try clear a w); intro a w hs
                refine sno hs ?_; clear hs; (try clear a w); intro a w hs
                refine sno hs ?_; clear hs; (try clear a w); intro a w hs
                refine sno hs ?_; clear hs; (try clear a w); intro a w hs
                refine sno hs ?_; clear hs; (try clear a w); intro a w hs
                refine sno hs ?_; clear hs; (try clear a w); intro a w hs
                refine syg (v := .bool (false)) hs (y_pick rfl rfl) ?_; clear hs; (try clear a w); intro a w hs
                refine sy (v := .bool (false)) hs (y_pick rfl rfl) ?_; clear hs; (try clear a w); intro a w hs
                refine RL_nil ?_
                exact ⟨false, hm, hs.sub ⟨rfl, rfl, rfl, rfl, rfl, rfl, rfl, rfl, rfl, trivial⟩⟩
             ·clear hs; have hs := hq; clear hq
              replace hm := oc_f hg235 hm
              refine sno hs ?_; clear hs; (try clear a w); intro a w hs
              refine sno hs ?_; clear hs; (try clear a w); intro a w hs
              refine sno hs ?_; clear hs; (try clear a w); intro a w hs
              refine sno hs ?_; clear hs; (try clear a w); intro a w hs
              refine sno hs ?_; clear hs; (try clear a w); intro a w hs
              refine sno hs ?_; clear hs; (try clear a w); intro a w hs
              refine sno hs ?_; clear hs; (try clear a w); intro a w hs
              refine sno hs ?_; clear hs; (try clear a w); intro a w hs
              refine sno hs ?_; clear hs; (try clear a w); intro a w hs
              refine sy (v := .bool (false)) hs (y_pick rfl rfl) ?_; clear hs; (try clear a w); intro a w hs
              refine sy (v := .bool (false)) hs (y_move rfl) ?_; clear hs; (try clear a w); intro a w hs
              refine syg (v := .pointer (some ⟨b167, 7, none⟩)) hs (y_fieldAddr rfl (FO.of (off := 7) Tryd.underlying37 rfl rfl ti3 (by decide))) ?_; clear hs; (try clear a w); intro a w hs
              refine syg (v := .int .i64 (x155.Prev)) hs (y_ld rfl Tryd.underlying3 rfl (Cell.blk (.head _) rfl)) ?_; clear hs; (try clear a w); intro a w hs
              refine syg hs (y_neq rfl rfl) ?_; clear hs; (try clear a w); intro a w hs
              refine syg (v := .bool (decide (x155.Prev ≠ (-1)))) hs (y_move rfl) ?_; clear hs; (try clear a w); intro a w hs
              refine St.split hs (t := 106) rfl (fun hg262 hq => ?_) (fun hg262 hq => ?_)
              ·clear hs; have hs := hq; clear hq
               replace hm := oc_t hg262 hm
               refine syg (v := .pointer (some ⟨b6, 0, none⟩)) hs (y_fieldAddr rfl (FO.of (off := 0) Tryd.underlying24 rfl rfl ti22 (by decide))) ?_; clear hs; (try clear a w); intro a w hs
               refine syg (v := v1) hs (y_ld rfl Tryd.underlying22 rfl (Cell.blk (.tail _ (.tail _ (.tail _ (.head _)))) rfl)) ?_; clear hs; (try clear a w); intro a w hs
               refine syg (v := .pointer (some ⟨b167, 7, none⟩)) hs (y_fieldAddr rfl (FO.of (off := 7) Tryd.underlying37 rfl rfl ti3 (by decide))) ?_; clear hs; (try clear a w); intro a w hs
               refine syg (v := .int .i64 (x155.Prev)) hs (y_ld rfl Tryd.underlying3 rfl (Cell.blk (.head _) rfl)) ?_; clear hs; (try clear a w); intro a w hs
               obtain ⟨x263, hx264, hm⟩ := ob hm
               obtain ⟨r265, hr266, hq267, hi268, hb269⟩ := hW4.geti hx264
               obtain ⟨v270, rfl, ⟨rw271, hR272, hW273⟩⟩ := hq267
               refine syg hs (y_indexAddr hR3 rfl rfl hi268 hb269 Tryd.underlying22 ti37) ?_; clear hs; (try clear a w); intro a w hs
               refine syg (v := eaddr v1 9 x155.Prev.toNat 8) hs (y_fieldAddrE (i := x155.Prev.toNat) (j := 0) hR3 rfl hb269 (FO.of (off := 8) Tryd.underlying37 rfl rfl ti3 (by decide))) ?_; clear hs; (try clear a w); intro a w hs
               refine syg (v := .int .i64 (x263.Next)) hs (y_loadE (i := x155.Prev.toNat) (j := 8) hR3.up rfl hr266 rfl Tryd.underlying3 rfl) ?_; clear hs; (try clear a w); intro a w hs
               refine syg (v := .int .i64 (y142)) hs (y_move rfl) ?_; clear hs; (try clear a w); intro a w hs
               refine syg hs (y_neq rfl rfl) ?_; clear hs; (try clear a w); intro a w hs
               refine syg (v := .bool (decide (x263.Next ≠ y142))) hs (y_pick rfl rfl) ?_; clear hs; (try clear a w); intro a w hs
               refine sy (v := .bool (decide (x263.Next ≠ y142))) hs (y_pick rfl rfl) ?_; clear hs; (try clear a w); intro a w hs
               refine RL_nil ?_
               exact ⟨decide (x263.Next ≠ y142), hm, hs.sub ⟨rfl, rfl, rfl, rfl, rfl, rfl, rfl, rfl, rfl, trivial⟩⟩
              ·clear hs; have hs := hq; clear hq
               replace hm := oc_f hg262 hm
               refine sno hs ?_; clear hs; (try clear a w); intro a w hs
               refine sno hs ?_; clear hs; (try clear a w); intro a w hs
               refine sno hs ?_; clear hs; (try clear a w); intro a w hs
               refine sno hs ?_; clear hs; (try clear a w); intro a w hs
               refine sno hs ?_; clear hs; (try clear a w); intro a w hs
               refine sno hs ?_; clear hs; (try clear a w); intro a w hs
               refine sno hs ?_; clear hs; (try clear a w); intro a w hs
               refine sno hs ?_; clear hs; (try clear a w); intro a w hs
               refine sno hs ?_; clear hs; (try clear a w); intro a w hs
               refine syg (v := .bool (false)) hs (y_pick rfl rfl) ?_; clear hs; (try clear a w); intro a w hs
               refine sy (v := .bool (false)) hs (y_pick rfl rfl) ?_; clear hs; (try clear a w); intro a w hs
               refine RL_nil ?_
               exact ⟨false, hm, hs.sub ⟨rfl, rfl, rfl, rfl, rfl, rfl, rfl, rfl, rfl, trivial⟩⟩
          ·refine W_draw hs mixed (by kernel_rfl) ?_; intro a he
           refine qy (v := v198) he (y_move rfl) ?_; clear he; (try clear a); intro a he
           refine qy he (y_lenW (Rd.st hs (.tail _ (.tail _ (.head _)))) hW200 rfl Tryd.underlying55) ?_; clear he; (try clear a); intro a he
           refine qy he (y_eql rfl rfl) ?_; clear he; (try clear a); intro a he
           refine qy (v := .bool (decide ((y197.length : Int) = 0))) he (y_move rfl) ?_; clear he; (try clear a); intro a he
           refine Ev.split he (t := 78) rfl (fun hg275 hq => ?_) (fun hg275 hq => ?_)
           ·clear he; have he := hq; clear hq
            replace hm := oc_t hg275 hm
            refine qno he ?_; clear he; (try clear a); intro a he
            refine qno he ?_; clear he; (try clear a); intro a he
            refine qno he ?_; clear he; (try clear a); intro a he
            refine qno he ?_; clear he; (try clear a); intro a he
            refine qno he ?_; clear he; (try clear a); intro a he
            refine qno he ?_; clear he; (try clear a); intro a he
            refine qno he ?_; clear he; (try clear a); intro a he
            refine qno he ?_; clear he; (try clear a); intro a he
            refine qy (v := .bool (true)) he (y_pick rfl rfl) ?_; clear he; (try clear a); intro a he
            refine QL_nil he ?_; clear he; (try clear hs); (try clear a); intro a w hs
            exact ⟨true, hm, hs.sub ⟨rfl, rfl, rfl, rfl, rfl, rfl, rfl, rfl, rfl, trivial⟩⟩
           ·clear he; have he := hq; clear hq
            replace hm := oc_f hg275 hm
            refine qyg (v := .pointer (some ⟨b167, 7, none⟩)) he (y_fieldAddr rfl (FO.of (off := 7) Tryd.underlying37 rfl rfl ti3 (by decide))) ?_; clear he; (try clear a); intro a he
            refine qyg (v := .int .i64 (x155.Prev)) he (y_ld rfl Tryd.underlying3 rfl (Cell.blk (.head _) rfl)) ?_; clear he; (try clear a); intro a he
            refine qyg (v := v138) he (y_move rfl) ?_; clear he; (try clear a); intro a he
            refine qyg (v := .pointer (some ⟨b167, 4, none⟩)) he (y_fieldAddr rfl (FO.of (off := 4) Tryd.underlying37 rfl rfl ti3 (by decide))) ?_; clear he; (try clear a); intro a he
            refine qyg (v := .int .i64 (x155.Parent)) he (y_ld rfl Tryd.underlying3 rfl (Cell.blk (.head _) rfl)) ?_; clear he; (try clear a); intro a he
            obtain ⟨x276, hx277, hm⟩ := ob hm
            obtain ⟨r278, hr279, hq280, hi281, hb282⟩ := hW180.geti hx277
            obtain rfl : _ = ([.int .i64 (x276)] : List Value) := hq280
            refine qyg he (y_indexAddr (Rd.st hs (.tail _ (.head _))) rfl rfl hi281 hb282 Tryd.underlying55 ti3) ?_; clear he; (try clear a); intro a he
            refine qyg (v := .int .i64 (x276)) he (y_loadE (i := x155.Parent.toNat) (j := 0) (Rd.st hs (.tail _ (.head _))) rfl hr279 rfl Tryd.underlying3 rfl) ?_; clear he; (try clear a); intro a he
            refine qyg he (y_neq rfl rfl) ?_; clear he; (try clear a); intro a he
            refine qy (v := .bool (decide (x155.Prev ≠ x276))) he (y_pick rfl rfl) ?_; clear he; (try clear a); intro a he
            refine QL_nil he ?_; clear he; (try clear hs); (try clear a); intro a w hs
            exact ⟨decide (x155.Prev ≠ x276), hm, hs.sub ⟨rfl, rfl, rfl, rfl, rfl, rfl, rfl, rfl, rfl, trivial⟩⟩
         ·refine W_block fun Qe45 hB45 hO45 => ?_
          refine W_loop (fun (k : Nat) a w => ∃ (y283 : (List Int)) (v284 : Value) (rw285 : List (List Value)), dom_linked_l11 p0 y142 (dom_linked_l5 n p0 k143) x155 x177 k y283 = some res ∧ RW (tInt .i64) f rw285 y283 ∧ St 178 w0 f (.blk b167 (.cells #[.int .i64 (x155.Kind), .string (x155.Name), .string (x155.Text), v162, .int .i64 (x155.Parent), .int .i64 (x155.First), .int .i64 (x155.Last), .int .i64 (x155.Prev), .int .i64 (x155.Next)] 37 (0, 0)) :: .row v138 3 1 rw179 :: .row v284 3 1 rw285 :: .blk b6 (.cells #[v1] 24 (0, 0)) :: L) [(1, .pointer (some ⟨b6, 0, none⟩)), (4, v284), (5, v138), (6, .int .i64 (y142)), (7, .pointer (some ⟨b167, 0, none⟩)), (38, v1), (39, .int .i64 ((p0.Nodes.length : Int))), (40, .int .i64 (y142))] a w) (fun k => k) n ⟨y132, v133, rw134, hm, hW135, hs.sub ⟨rfl, rfl, rfl, rfl, rfl, rfl, rfl, rfl, trivial⟩⟩ ?_
          clear hs hm
          intro k
          rintro a w ⟨y283, v284, rw285, hm, hW286, hs⟩
          replace hs : St _ _ _ (.blk b167 (.cells #[.int .i64 (x155.Kind), .string (x155.Name), .string (x155.Text), v162, .int .i64 (x155.Parent), .int .i64 (x155.First), .int .i64 (x155.Last), .int .i64 (x155.Prev), .int .i64 (x155.Next)] 37 (0, 0)) :: .row v138 3 1 rw179 :: .row v284 3 1 rw285 :: .blk b6 (.cells #[v1] 24 (0, 0)) :: L) _ _ _ := hs
          intro K46 hK46
          cases k with
          | zero => simp [dom_linked_l11] at hm
          | succ k288 =>
           rw [dom_linked_l11] at hm
           refine W_seq fun K47 hK47 => ?_
           refine W_seq fun K48 hK48 => ?_
           refine W_post (fun a w => ∃ (y289 : Bool), dom_linked_k12 p0 y142 (dom_linked_l5 n p0 k143) x155 x177 y283 (dom_linked_l11 p0 y142 (dom_linked_l5 n p0 k143) x155 x177 k288) y289 = some res ∧ St 178 w0 f (.blk b167 (.cells #[.int .i64 (x155.Kind), .string (x155.Name), .string (x155.Text), v162, .int .i64 (x155.Parent), .int .i64 (x155.First), .int .i64 (x155.Last), .int .i64 (x155.Prev), .int .i64 (x155.Next)] 37 (0, 0)) :: .row v138 3 1 rw179 :: .row v284 3 1 rw285 :: .blk b6 (.cells #[v1] 24 (0, 0)) :: L) [(1, .pointer (some ⟨b6, 0, none⟩)), (4, v284), (5, v138), (6, .int .i64 (y142)), (7, .pointer (some ⟨b167, 0, none⟩)), (38, v1), (39, .int .i64 ((p0.Nodes.length : Int))), (40, .int .i64 (y142)), (69, .bool (y289))] a w) ?_ ?_
           ·clear hs hm
            rintro a w ⟨y289, hm, hs⟩
            replace hs : St _ _ _ (.blk b167 (.cells #[.int .i64 (x155.Kind), .string (x155.Name), .string (x155.Text), v162, .int .i64 (x155.Parent), .int .i64 (x155.First), .int .i64 (x155.Last), .int .i64 (x155.Prev), .int .i64 (x155.Next)] 37 (0, 0)) :: .row v138 3 1 rw179 :: .row v284 3 1 rw285 :: .blk b6 (.cells #[v1] 24 (0, 0)) :: L) _ _ _ := hs
            unfold dom_linked_k12 at hm
            refine hK48 _ _ ?_; clear hK48
            refine W_cond hs rfl (fun hg290 => ?_) (fun hg290 => ?_)
            ·replace hm := oc_t hg290 hm
             refine W_skip ?_
             refine hK47 _ _ ?_; clear hK47
             refine W_block fun Qe49 hB49 hO49 => ?_
             refine W_region ?_
             refine sy (v := v284) hs (y_move rfl) ?_; clear hs; (try clear a w); intro a w hs
             refine sy (v := v284) hs (y_move rfl) ?_; clear hs; (try clear a w); intro a w hs
             refine sy hs (y_lenW (Rd.st hs (.tail _ (.tail _ (.head _)))) hW286 rfl Tryd.underlying55) ?_; clear hs; (try clear a w); intro a w hs
             refine sy hs (y_sub rfl rfl rfl) ?_; clear hs; (try clear a w); intro a w hs
             obtain ⟨x291, hx292, hm⟩ := ob hm
             obtain ⟨⟨hlx291, hhx291, h1x291, h2x291⟩, hex291⟩ := cutM_some hx292
             have hW293 := (hW286.take (w64 ((y283.length : Int) - 1)).toNat).drop (Int.toNat 0); rw [hex291] at hW293
             simp only [Int.toNat_zero, List.drop_zero] at hW293
             refine sy hs (y_slice (lo := (0 : Nat)) (hi := (w64 ((y283.length : Int) - 1)).toNat) rfl Tryd.underlying55 ti3 (.inl ⟨rfl, rfl⟩) (.inr ⟨_, rfl, by rw [← hhx291]; rfl⟩) h1x291 (by rw [RW.len hW286]; exact h2x291) (Rd.st hs (.tail _ (.tail _ (.head _))))) ?_; clear hs; (try clear a w); intro a w hs
             replace hs := hs.shrink (i := 2) rfl (m := (w64 ((y283.length : Int) - 1)).toNat) (by rw [RW.len hW286]; exact h2x291)
             generalize hgrw295 : List.take _ rw285 = rw295 at hs hW293; clear hgrw295
             generalize hgv296 : cutv v284 1 0 _ = v296 at hs; clear hgv296
             replace hs : St _ _ _ (.blk b167 (.cells #[.int .i64 (x155.Kind), .string (x155.Name), .string (x155.Text), v162, .int .i64 (x155.Parent), .int .i64 (x155.First), .int .i64 (x155.Last), .int .i64 (x155.Prev), .int .i64 (x155.Next)] 37 (0, 0)) :: .row v138 3 1 rw179 :: .row v296 3 1 rw295 :: .blk b6 (.cells #[v1] 24 (0, 0)) :: L) _ _ _ := hs
             refine sy (v := v296) hs (y_assign rfl) ?_; clear hs; (try clear a w); intro a w hs
             refine RL_nil ?_
             exact hK46 k288 _ _ (Nat.lt_succ_self _) ⟨x291, v296, rw295, hm, hW293, hs.sub ⟨rfl, rfl, rfl, rfl, rfl, rfl, rfl, rfl, trivial⟩⟩
            ·replace hm := oc_f hg290 hm
             refine W_exit ?_
             refine hB45 _ _ ?_
             exact ⟨y283, v284, rw285, hm, hW286, hs.sub ⟨rfl, rfl, rfl, rfl, rfl, rfl, rfl, rfl, trivial⟩⟩
           ·refine W_draw hs mixed (by kernel_rfl) ?_; intro a he
            refine qy (v := v284) he (y_move rfl) ?_; clear he; (try clear a); intro a he
            refine qy he (y_lenW (Rd.st hs (.tail _ (.tail _ (.head _)))) hW286 rfl Tryd.underlying55) ?_; clear he; (try clear a); intro a he
            refine qy he (y_gtr rfl rfl) ?_; clear he; (try clear a); intro a he
            refine qy (v := .bool (decide (0 < (y283.length : Int)))) he (y_move rfl) ?_; clear he; (try clear a); intro a he
            refine Ev.split he (t := 59) rfl (fun hg298 hq => ?_) (fun hg298 hq => ?_)
            ·clear he; have he := hq; clear hq
             replace hm := oc_t hg298 hm
             refine qyg (v := v284) he (y_move rfl) ?_; clear he; (try clear a); intro a he
             refine qyg (v := v284) he (y_move rfl) ?_; clear he; (try clear a); intro a he
             refine qyg he (y_lenW (Rd.st hs (.tail _ (.tail _ (.head _)))) hW286 rfl Tryd.underlying55) ?_; clear he; (try clear a); intro a he
             refine qyg he (y_sub rfl rfl rfl) ?_; clear he; (try clear a); intro a he
             obtain ⟨x299, hx300, hm⟩ := ob hm
             obtain ⟨r301, hr302, hq303, hi304, hb305⟩ := hW286.geti hx300
             obtain rfl : _ = ([.int .i64 (x299)] : List Value) := hq303
             refine qyg he (y_indexAddr (Rd.st hs (.tail _ (.tail _ (.head _)))) rfl rfl hi304 hb305 Tryd.underlying55 ti3) ?_; clear he; (try clear a); intro a he
             refine qyg (v := .int .i64 (x299)) he (y_loadE (i := (w64 ((y283.length : Int) - 1)).toNat) (j := 0) (Rd.st hs (.tail _ (.tail _ (.head _)))) rfl hr302 rfl Tryd.underlying3 rfl) ?_; clear he; (try clear a); intro a he
             refine qyg (v := .pointer (some ⟨b167, 4, none⟩)) he (y_fieldAddr rfl (FO.of (off := 4) Tryd.underlying37 rfl rfl ti3 (by decide))) ?_; clear he; (try clear a); intro a he
             refine qyg (v := .int .i64 (x155.Parent)) he (y_ld rfl Tryd.underlying3 rfl (Cell.blk (.head _) rfl)) ?_; clear he; (try clear a); intro a he
             refine qyg he (y_neq rfl rfl) ?_; clear he; (try clear a); intro a he
             refine qy (v := .bool (decide (x299 ≠ x155.Parent))) he (y_pick rfl rfl) ?_; clear he; (try clear a); intro a he
             refine QL_nil he ?_; clear he; (try clear hs); (try clear a); intro a w hs
             exact ⟨decide (x299 ≠ x155.Parent), hm, hs.sub ⟨rfl, rfl, rfl, rfl, rfl, rfl, rfl, rfl, rfl, trivial⟩⟩
            ·clear he; have he := hq; clear hq
             replace hm := oc_f hg298 hm
             refine qno he ?_; clear he; (try clear a); intro a he
             refine qno he ?_; clear he; (try clear a); intro a he
             refine qno he ?_; clear he; (try clear a); intro a he
             refine qno he ?_; clear he; (try clear a); intro a he
             refine qno he ?_; clear he; (try clear a); intro a he
             refine qno he ?_; clear he; (try clear a); intro a he
             refine qno he ?_; clear he; (try clear a); intro a he
             refine qno he ?_; clear he; (try clear a); intro a he
             refine qno he ?_; clear he; (try clear a); intro a he
             refine qy (v := .bool (false)) he (y_pick rfl rfl) ?_; clear he; (try clear a); intro a he
             refine QL_nil he ?_; clear he; (try clear hs); (try clear a); intro a w hs
             exact ⟨false, hm, hs.sub ⟨rfl, rfl, rfl, rfl, rfl, rfl, rfl, rfl, rfl, trivial⟩⟩
     ·replace hm := oc_f hg144 hm
      refine W_exit ?_
      refine hB22 _ _ ?_
      exact ⟨y137, v138, rw139, hm, hW140, hs.subs ⟨rfl, rfl, trivial⟩ (.cons_cons _ (.cons _ (.cons_cons _ (.refl _))))⟩
 ·refine W_region ?_
  refine sy (v := .pointer (some ⟨b20, 0, none⟩)) hs (y_fieldAddr rfl (FO.of (off := 0) Tryd.underlying37 rfl rfl ti3 (by decide))) ?_; clear hs; (try clear a w); intro a w hs
  refine sy (v := .int .i64 (x8.Kind)) hs (y_ld rfl Tryd.underlying3 rfl (Cell.blk (.head _) rfl)) ?_; clear hs; (try clear a w); intro a w hs
  refine sy hs (y_neq rfl rfl) ?_; clear hs; (try clear a w); intro a w hs
  refine sy (v := .bool (decide (x8.Kind ≠ 1))) hs (y_move rfl) ?_; clear hs; (try clear a w); intro a w hs
  refine St.split hs (t := 17) rfl (fun hg306 hq => ?_) (fun hg306 hq => ?_)
  ·clear hs; have hs := hq; clear hq
   refine sno hs ?_; clear hs; (try clear a w); intro a w hs
   refine sno hs ?_; clear hs; (try clear a w); intro a w hs
   refine sno hs ?_; clear hs; (try clear a w); intro a w hs
   refine sy (v := .bool (true)) hs (y_pick rfl rfl) ?_; clear hs; (try clear a w); intro a w hs
   refine sy (v := .bool (true)) hs (y_move rfl) ?_; clear hs; (try clear a w); intro a w hs
   refine sno hs ?_; clear hs; (try clear a w); intro a w hs
   refine sno hs ?_; clear hs; (try clear a w); intro a w hs
   refine sno hs ?_; clear hs; (try clear a w); intro a w hs
   refine sy (v := .bool (true)) hs (y_pick rfl rfl) ?_; clear hs; (try clear a w); intro a w hs
   refine sy (v := .bool (true)) hs (y_move rfl) ?_; clear hs; (try clear a w); intro a w hs
   refine sno hs ?_; clear hs; (try clear a w); intro a w hs
   refine sno hs ?_; clear hs; (try clear a w); intro a w hs
   refine sno hs ?_; clear hs; (try clear a w); intro a w hs
   refine sy (v := .bool (true)) hs (y_pick rfl rfl) ?_; clear hs; (try clear a w); intro a w hs
   refine RL_nil ?_
   exact hs.sub ⟨rfl, (lkB (((or_t hg306).trans rfl)) rfl), trivial⟩
  ·clear hs; have hs := hq; clear hq
   refine syg (v := .pointer (some ⟨b20, 4, none⟩)) hs (y_fieldAddr rfl (FO.of (off := 4) Tryd.underlying37 rfl rfl ti3 (by decide))) ?_; clear hs; (try clear a w); intro a w hs
   refine syg (v := .int .i64 (x8.Parent)) hs (y_ld rfl Tryd.underlying3 rfl (Cell.blk (.head _) rfl)) ?_; clear hs; (try clear a w); intro a w hs
   refine syg hs (y_neq rfl rfl) ?_; clear hs; (try clear a w); intro a w hs
   refine sy (v := .bool (decide (x8.Parent ≠ (-1)))) hs (y_pick rfl rfl) ?_; clear hs; (try clear a w); intro a w hs
   refine sy (v := .bool (decide (x8.Parent ≠ (-1)))) hs (y_move rfl) ?_; clear hs; (try clear a w); intro a w hs
   refine St.split hs (t := 22) rfl (fun hg307 hq => ?_) (fun hg307 hq => ?_)
   ·clear hs; have hs := hq; clear hq
    refine sno hs ?_; clear hs; (try clear a w); intro a w hs
    refine sno hs ?_; clear hs; (try clear a w); intro a w hs
    refine sno hs ?_; clear hs; (try clear a w); intro a w hs
    refine sy (v := .bool (true)) hs (y_pick rfl rfl) ?_; clear hs; (try clear a w); intro a w hs
    refine sy (v := .bool (true)) hs (y_move rfl) ?_; clear hs; (try clear a w); intro a w hs
    refine sno hs ?_; clear hs; (try clear a w); intro a w hs
    refine sno hs ?_; clear hs; (try clear a w); intro a w hs
    refine sno hs ?_; clear hs; (try clear a w); intro a w hs
    refine sy (v := .bool (true)) hs (y_pick rfl rfl) ?_; clear hs; (try clear a w); intro a w hs
    refine RL_nil ?_
    exact hs.sub ⟨rfl, (lkB (((or_f hg306).trans ((or_t hg307).trans rfl))) rfl), trivial⟩
   ·clear hs; have hs := hq; clear hq
    refine syg (v := .pointer (some ⟨b20, 7, none⟩)) hs (y_fieldAddr rfl (FO.of (off := 7) Tryd.underlying37 rfl rfl ti3 (by decide))) ?_; clear hs; (try clear a w); intro a w hs
    refine syg (v := .int .i64 (x8.Prev)) hs (y_ld rfl Tryd.underlying3 rfl (Cell.blk (.head _) rfl)) ?_; clear hs; (try clear a w); intro a w hs
    refine syg hs (y_neq rfl rfl) ?_; clear hs; (try clear a w); intro a w hs
    refine sy (v := .bool (decide (x8.Prev ≠ (-1)))) hs (y_pick rfl rfl) ?_; clear hs; (try clear a w); intro a w hs
    refine sy (v := .bool (decide (x8.Prev ≠ (-1)))) hs (y_move rfl) ?_; clear hs; (try clear a w); intro a w hs
    refine St.split hs (t := 27) rfl (fun hg308 hq => ?_) (fun hg308 hq => ?_)
    ·clear hs; have hs := hq; clear hq
     refine sno hs ?_; clear hs; (try clear a w); intro a w hs
     refine sno hs ?_; clear hs; (try clear a w); intro a w hs
     refine sno hs ?_; clear hs; (try clear a w); intro a w hs
     refine sy (v := .bool (true)) hs (y_pick rfl rfl) ?_; clear hs; (try clear a w); intro a w hs
     refine RL_nil ?_
     exact hs.sub ⟨rfl, (lkB (((or_f hg306).trans ((or_f hg307).trans ((or_t hg308).trans rfl)))) rfl), trivial⟩
    ·clear hs; have hs := hq; clear hq
     refine syg (v := .pointer (some ⟨b20, 8, none⟩)) hs (y_fieldAddr rfl (FO.of (off := 8) Tryd.underlying37 rfl rfl ti3 (by decide))) ?_; clear hs; (try clear a w); intro a w hs
     refine syg (v := .int .i64 (x8.Next)) hs (y_ld rfl Tryd.underlying3 rfl (Cell.blk (.head _) rfl)) ?_; clear hs; (try clear a w); intro a w hs
     refine syg hs (y_neq rfl rfl) ?_; clear hs; (try clear a w); intro a w hs
     refine sy (v := .bool (decide (x8.Next ≠ (-1)))) hs (y_pick rfl rfl) ?_; clear hs; (try clear a w); intro a w hs
     refine RL_nil ?_
     exact hs.sub ⟨rfl, (lkB (((or_f hg306).trans ((or_f hg307).trans ((or_f hg308).trans rfl)))) rfl), trivial⟩
/-! casement/dom.Right -/
def dom_Right_k1 : Option Int :=
  some 0
def dom_Right_k3 (y25 : Int) (lp26 : (List Int) → Int → Option Int) (y55 : (List Int)) : Option Int :=
  (geti y55 y25).bind fun x60 =>
  (bif (decide (256 < x60)) then some 5 else
  lp26 y55 (w64 (y25 + 1)))
def dom_Right_l2 (p0 : api_Tree) : Nat → (List Int) → Int → Option Int
  | 0, _, _ => none
  | k26 + 1, y20, y25 =>
  (bif (decide (y25 < (p0.Nodes.length : Int))) then (geti p0.Nodes y25).bind fun x28 =>
  (geti y20 y25).bind fun _x43 =>
  (seti y20 y25 1).bind fun x50 =>
  (bif (decide (0 < y25)) then (geti x50 x28.Parent).bind fun x69 =>
  (geti x50 y25).bind fun _x76 =>
  (seti x50 y25 (w64 (x69 + 1))).bind fun x83 =>
  dom_Right_k3 y25 (dom_Right_l2 p0 k26) x83 else
  dom_Right_k3 y25 (dom_Right_l2 p0 k26) x50) else
  dom_Right_k1)
def dom_Right (n : Nat) (p0 : api_Tree) : Option Int :=
  (bif (decide ((p0.Nodes.length : Int) = 0)) then some 10 else
  (bif (decide (4096 < (p0.Nodes.length : Int))) then some 4 else
  (dom_linked n p0).bind fun x10 =>
  (bif (!x10) then some 10 else
  (repM 8 (p0.Nodes.length : Int) (0 : Int)).bind fun x13 =>
  dom_Right_l2 p0 n x13 0)))
set_option maxRecDepth 20000 in
set_option maxHeartbeats 4000000 in
theorem dom_Right_ok (n : Nat) {f : Fz} {p0 : api_Tree} {a0 : List Value} {res : Int} (h0 : t_api_Tree.R f a0 p0) (hm : dom_Right n p0 = some res) : Gives Tryd.prog 13 [.agg a0.toArray] f (.int .i64 res) := by
 unfold dom_Right at hm
 intro w0 L w hC
 obtain ⟨v1, rfl, ⟨rw2, hR3, hW4⟩⟩ := h0
 refine enter Tryd.func13 rfl Tryd.ntmps13 (by simp) hC fun a hs => ?_
 have hle := Fz.le.refl f
 refine W_seq fun K1 hK1 => ?_
 refine W_region ?_
 refine sbox hs rfl ?_; clear hs; (try clear a w); intro b6 a w hs
 replace hs : St _ _ _ (.blk b6 (.cells #[v1] 24 (0, 0)) :: L) _ _ _ := hs
 refine sy (v := .int .i64 (0)) hs (y_assign rfl) ?_; clear hs; (try clear a w); intro a w hs
 refine RL_nil ?_
 refine hK1 _ _ ?_; clear hK1
 refine W_seq fun K2 hK2 => ?_
 refine W_block fun Qe3 hB3 hO3 => ?_
 refine W_seq fun K4 hK4 => ?_
 refine W_region ?_
 refine sy (v := .pointer (some ⟨b6, 0, none⟩)) hs (y_fieldAddr rfl (FO.of (off := 0) Tryd.underlying24 rfl rfl ti22 (by decide))) ?_; clear hs; (try clear a w); intro a w hs
 refine sy (v := v1) hs (y_ld rfl Tryd.underlying22 rfl (Cell.blk (.head _) rfl)) ?_; clear hs; (try clear a w); intro a w hs
 refine sy hs (y_lenW hR3 hW4 rfl Tryd.underlying22) ?_; clear hs; (try clear a w); intro a w hs
 refine sy hs (y_eql rfl rfl) ?_; clear hs; (try clear a w); intro a w hs
 refine sy (v := .bool (decide ((p0.Nodes.length : Int) = 0))) hs (y_assign rfl) ?_; clear hs; (try clear a w); intro a w hs
 refine RL_nil ?_
 refine hK4 _ _ ?_; clear hK4
 refine W_cond hs rfl (fun hg8 => ?_) (fun hg8 => ?_)
 ·replace hm := oc_t hg8 hm
  refine W_seq fun K5 hK5 => ?_
  refine W_region ?_
  refine sy (v := .int .i64 (10)) hs (y_assign rfl) ?_; clear hs; (try clear a w); intro a w hs
  refine RL_nil ?_
  refine hK5 _ _ ?_; clear hK5
  refine W_ret ?_
  obtain rfl := Option.some.inj hm
  refine RtV1 hs rfl (rv_t hs rfl) ?_
  exact ⟨rfl, ((hs.subL (.cons _ (.refl _))).weak hle).cw⟩
 ·replace hm := oc_f hg8 hm
  refine W_seq fun K6 hK6 => ?_
  refine W_region ?_
  refine sy (v := .pointer (some ⟨b6, 0, none⟩)) hs (y_fieldAddr rfl (FO.of (off := 0) Tryd.underlying24 rfl rfl ti22 (by decide))) ?_; clear hs; (try clear a w); intro a w hs
  refine sy (v := v1) hs (y_ld rfl Tryd.underlying22 rfl (Cell.blk (.head _) rfl)) ?_; clear hs; (try clear a w); intro a w hs
  refine sy hs (y_lenW hR3 hW4 rfl Tryd.underlying22) ?_; clear hs; (try clear a w); intro a w hs
  refine sy hs (y_gtr rfl rfl) ?_; clear hs; (try clear a w); intro a w hs
  refine sy (v := .bool (decide (4096 < (p0.Nodes.length : Int)))) hs (y_assign rfl) ?_; clear hs; (try clear a w); intro a w hs
  refine RL_nil ?_
  refine hK6 _ _ ?_; clear hK6
  refine W_cond hs rfl (fun hg9 => ?_) (fun hg9 => ?_)
  ·replace hm := oc_t hg9 hm
   refine W_seq fun K7 hK7 => ?_
   refine W_region ?_
   refine sy (v := .int .i64 (4)) hs (y_assign rfl) ?_; clear hs; (try clear a w); intro a w hs
   refine RL_nil ?_
   refine hK7 _ _ ?_; clear hK7
   refine W_ret ?_
   obtain rfl := Option.some.inj hm
   refine RtV1 hs rfl (rv_t hs rfl) ?_
   exact ⟨rfl, ((hs.subL (.cons _ (.refl _))).weak hle).cw⟩
  ·replace hm := oc_f hg9 hm
   refine W_seq fun K8 hK8 => ?_
   refine W_region ?_
   refine sy hs (y_ldB rfl Tryd.underlying24 rfl ti24 (.head _) rfl) ?_; clear hs; (try clear a w); intro a w hs
   obtain ⟨x10, hx11, hm⟩ := ob hm
   refine sy hs (y_call rfl has27 rfl (dom_linked_ok n (f := f) (a0 := [v1]) ⟨_, rfl, ⟨rw2, hR3, hW4⟩⟩ hx11)) ?_; clear hs; (try clear a w); intro a w hs
   refine sy (v := .bool ((!x10))) hs (y_not rfl) ?_; clear hs; (try clear a w); intro a w hs
   refine sy (v := .bool ((!x10))) hs (y_assign rfl) ?_; clear hs; (try clear a w); intro a w hs
   refine RL_nil ?_
   refine hK8 _ _ ?_; clear hK8
   refine W_cond hs rfl (fun hg12 => ?_) (fun hg12 => ?_)
   ·replace hm := oc_t hg12 hm
    refine W_seq fun K9 hK9 => ?_
    refine W_region ?_
    refine sy (v := .int .i64 (10)) hs (y_assign rfl) ?_; clear hs; (try clear a w); intro a w hs
    refine RL_nil ?_
    refine hK9 _ _ ?_; clear hK9
    refine W_ret ?_
    obtain rfl := Option.some.inj hm
    refine RtV1 hs rfl (rv_t hs rfl) ?_
    exact ⟨rfl, ((hs.subL (.cons _ (.refl _))).weak hle).cw⟩
   ·replace hm := oc_f hg12 hm
    refine W_skip ?_
    refine hK2 _ _ ?_; clear hK2
    refine W_seq fun K10 hK10 => ?_
    refine W_region ?_
    refine sy (v := .pointer (some ⟨b6, 0, none⟩)) hs (y_fieldAddr rfl (FO.of (off := 0) Tryd.underlying24 rfl rfl ti22 (by decide))) ?_; clear hs; (try clear a w); intro a w hs
    refine sy (v := v1) hs (y_ld rfl Tryd.underlying22 rfl (Cell.blk (.head _) rfl)) ?_; clear hs; (try clear a w); intro a w hs
    refine sy hs (y_lenW hR3 hW4 rfl Tryd.underlying22) ?_; clear hs; (try clear a w); intro a w hs
    obtain ⟨x13, hx14, hm⟩ := ob hm
    obtain ⟨hix13, hbx13, hex13⟩ := repM_some hx14
    refine RL_makeW hs rfl rfl hix13 Tryd.underlying55 ti3 (by decide) (AllC.row ⟨rfl, trivial⟩ rfl) hbx13 ?_; clear hs; (try clear a w); intro v15 a w hs
    replace hs : St _ _ _ (.row v15 3 1 (List.replicate (p0.Nodes.length : Int).toNat ([.int .i64 (0)] : List Value)) :: .blk b6 (.cells #[v1] 24 (0, 0)) :: L) _ _ _ := hs
    have hW17 : RW (tInt .i64) f (List.replicate (p0.Nodes.length : Int).toNat ([.int .i64 (0)] : List Value)) x13 := by rw [← hex13]; exact RW.rep (t := (tInt .i64)) (r := [.int .i64 (0)]) (rfl) _
    generalize hgx13 : (List.replicate (p0.Nodes.length : Int).toNat ([.int .i64 (0)] : List Value)) = rw16 at hs hW17; clear hgx13
    replace hs : St _ _ _ (.row v15 3 1 rw16 :: .blk b6 (.cells #[v1] 24 (0, 0)) :: L) _ _ _ := hs
    refine sy (v := v15) hs (y_assign rfl) ?_; clear hs; (try clear a w); intro a w hs
    refine RL_nil ?_
    refine hK10 _ _ ?_; clear hK10
    refine W_seq fun K11 hK11 => ?_
    refine W_seq fun K12 hK12 => ?_
    refine W_region ?_
    refine sy (v := .pointer (some ⟨b6, 0, none⟩)) hs (y_fieldAddr rfl (FO.of (off := 0) Tryd.underlying24 rfl rfl ti22 (by decide))) ?_; clear hs; (try clear a w); intro a w hs
    refine sy (v := v1) hs (y_ld rfl Tryd.underlying22 rfl (Cell.blk (.tail _ (.head _)) rfl)) ?_; clear hs; (try clear a w); intro a w hs
    refine sy hs (y_lenW hR3 hW4 rfl Tryd.underlying22) ?_; clear hs; (try clear a w); intro a w hs
    refine sy (v := .int .i64 (0)) hs (y_move rfl) ?_; clear hs; (try clear a w); intro a w hs
    refine RL_nil ?_
    refine hK12 _ _ ?_; clear hK12
    refine W_post (fun a w => dom_Right_k1 = some res ∧ St 52 w0 f (L) [] a w) ?_ ?_
    ·clear hs hm
     rintro a w ⟨hm, hs⟩
     replace hs : St _ _ _ (L) _ _ _ := hs
     unfold dom_Right_k1 at hm
     refine hK11 _ _ ?_; clear hK11
     refine W_seq fun K13 hK13 => ?_
     refine W_region ?_
     refine sy (v := .int .i64 (0)) hs (y_assign rfl) ?_; clear hs; (try clear a w); intro a w hs
     refine RL_nil ?_
     refine hK13 _ _ ?_; clear hK13
     refine W_ret ?_
     obtain rfl := Option.some.inj hm
     refine RtV1 hs rfl (rv_t hs rfl) ?_
     exact ⟨rfl, (hs.weak hle).cw⟩
    ·refine W_block fun Qe14 hB14 hO14 => ?_
     refine W_loop (fun (k : Nat) a w => ∃ (y20 : (List Int)) (y25 : Int) (v21 : Value) (rw22 : List (List Value)), dom_Right_l2 p0 k y20 y25 = some res ∧ RW (tInt .i64) f rw22 y20 ∧ St 52 w0 f (.row v21 3 1 rw22 :: L) [(3, v21), (25, v1), (26, .int .i64 ((p0.Nodes.length : Int))), (27, .int .i64 (y25))] a w) (fun k => k) n ⟨x13, 0, v15, rw16, hm, hW17, hs.subs ⟨rfl, rfl, rfl, rfl, trivial⟩ (.cons_cons _ (.cons _ (.refl _)))⟩ ?_
     clear hs hm
     intro k
     rintro a w ⟨y20, y25, v21, rw22, hm, hW23, hs⟩
     replace hs : St _ _ _ (.row v21 3 1 rw22 :: L) _ _ _ := hs
     intro K15 hK15
     cases k with
     | zero => simp [dom_Right_l2] at hm
     | succ k26 =>
      rw [dom_Right_l2] at hm
      refine W_seq fun K16 hK16 => ?_
      refine W_region ?_
      refine sy hs (y_lss rfl rfl) ?_; clear hs; (try clear a w); intro a w hs
      refine RL_nil ?_
      refine hK16 _ _ ?_; clear hK16
      refine W_seq fun K17 hK17 => ?_
      refine W_cond hs rfl (fun hg27 => ?_) (fun hg27 => ?_)
      ·replace hm := oc_t hg27 hm
       refine W_skip ?_
       refine hK17 _ _ ?_; clear hK17
       refine W_seq fun K18 hK18 => ?_
       refine W_block fun Qe19 hB19 hO19 => ?_
       refine W_seq fun K20 hK20 => ?_
       refine W_region ?_
       refine sy (v := .int .i64 (y25)) hs (y_move rfl) ?_; clear hs; (try clear a w); intro a w hs
       obtain ⟨x28, hx29, hm⟩ := ob hm
       obtain ⟨r30, hr31, hq32, hi33, hb34⟩ := hW4.geti hx29
       obtain ⟨v35, rfl, ⟨rw36, hR37, hW38⟩⟩ := hq32
       refine sy hs (y_indexAddr hR3 rfl rfl hi33 hb34 Tryd.underlying22 ti37) ?_; clear hs; (try clear a w); intro a w hs
       refine sy hs (y_loadRow hR3.up rfl hr31 Tryd.underlying37 rfl ti37) ?_; clear hs; (try clear a w); intro a w hs
       refine RL_alloc hs ti37 (.free rfl) (by decide) ?_; clear hs; (try clear a w); intro b40 a w hs
       replace hs : St _ _ _ (.blk b40 (.cells #[.int .i64 (0), .string ((bs [])), .string ((bs [])), (.slice none 0 0), .int .i64 (0), .int .i64 (0), .int .i64 (0), .int .i64 (0), .int .i64 (0)] 37 (0, 0)) :: .row v21 3 1 rw22 :: L) _ _ _ := hs
       refine sy (v := .int .i64 (y25)) hs (y_assign rfl) ?_; clear hs; (try clear a w); intro a w hs
       refine RL_storeAll (i := 0) hs rfl rfl rfl ti37 ⟨rfl, rfl⟩ (AllC.arr (r := [.int .i64 (x28.Kind), .string (x28.Name), .string (x28.Text), v35, .int .i64 (x28.Parent), .int .i64 (x28.First), .int .i64 (x28.Last), .int .i64 (x28.Prev), .int .i64 (x28.Next)]) ⟨rfl, rfl, rfl, hR37.one, rfl, rfl, rfl, rfl, rfl, trivial⟩) (.free rfl) ?_; clear hs; (try clear a w); intro a w hs
       replace hs : St _ _ _ (.blk b40 (.cells #[.int .i64 (x28.Kind), .string (x28.Name), .string (x28.Text), v35, .int .i64 (x28.Parent), .int .i64 (x28.First), .int .i64 (x28.Last), .int .i64 (x28.Prev), .int .i64 (x28.Next)] 37 (0, 0)) :: .row v21 3 1 rw22 :: L) _ _ _ := hs
       refine RL_nil ?_
       refine hK20 _ _ ?_; clear hK20
       refine W_seq fun K21 hK21 => ?_
       refine W_region ?_
       refine sy (v := v21) hs (y_move rfl) ?_; clear hs; (try clear a w); intro a w hs
       refine sy (v := .int .i64 (y25)) hs (y_move rfl) ?_; clear hs; (try clear a w); intro a w hs
       obtain ⟨x43, hx44, hm⟩ := ob hm
       obtain ⟨r45, hr46, hq47, hi48, hb49⟩ := hW23.geti hx44
       obtain rfl : _ = ([.int .i64 (x43)] : List Value) := hq47
       refine sy hs (y_indexAddr (Rd.st hs (.tail _ (.head _))) rfl rfl hi48 hb49 Tryd.underlying55 ti3) ?_; clear hs; (try clear a w); intro a w hs
       obtain ⟨x50, hx51, hm⟩ := ob hm
       have hex50 := seti_some hx51
       have hW53 := RW.set (i := y25.toNat) (r := [.int .i64 (1)]) (x := (1 : Int)) hW23 (rfl); rw [hex50] at hW53
       refine RL_storeRow (i := 1) (j := 0) (m := y25.toNat) hs rfl rfl rfl hr46 (by decide) ti3 rfl (.free rfl) ?_; clear hs; (try clear a w); intro a w hs
       replace hs : St _ _ _ (.blk b40 (.cells #[.int .i64 (x28.Kind), .string (x28.Name), .string (x28.Text), v35, .int .i64 (x28.Parent), .int .i64 (x28.First), .int .i64 (x28.Last), .int .i64 (x28.Prev), .int .i64 (x28.Next)] 37 (0, 0)) :: .row v21 3 1 (rw22.set y25.toNat [.int .i64 (1)]) :: L) _ _ _ := hs
       generalize hgrw52 : rw22.set y25.toNat [.int .i64 (1)] = rw52 at hs hW53; clear hgrw52
       replace hs : St _ _ _ (.blk b40 (.cells #[.int .i64 (x28.Kind), .string (x28.Name), .string (x28.Text), v35, .int .i64 (x28.Parent), .int .i64 (x28.First), .int .i64 (x28.Last), .int .i64 (x28.Prev), .int .i64 (x28.Next)] 37 (0, 0)) :: .row v21 3 1 rw52 :: L) _ _ _ := hs
       refine RL_nil ?_
       refine hK21 _ _ ?_; clear hK21
       refine W_seq fun K22 hK22 => ?_
       refine W_seq fun K23 hK23 => ?_
       refine W_region ?_
       refine sy (v := .int .i64 (y25)) hs (y_move rfl) ?_; clear hs; (try clear a w); intro a w hs
       refine sy hs (y_gtr rfl rfl) ?_; clear hs; (try clear a w); intro a w hs
       refine RL_nil ?_
       refine hK23 _ _ ?_; clear hK23
       refine W_post (fun a w => ∃ (y55 : (List Int)) (v56 : Value) (rw57 : List (List Value)), dom_Right_k3 y25 (dom_Right_l2 p0 k26) y55 = some res ∧ RW (tInt .i64) f rw57 y55 ∧ St 52 w0 f (.row v56 3 1 rw57 :: L) [(3, v56), (4, .int .i64 (y25)), (25, v1), (26, .int .i64 ((p0.Nodes.length : Int))), (27, .int .i64 (y25))] a w) ?_ ?_
       ·clear hs hm
        rintro a w ⟨y55, v56, rw57, hm, hW58, hs⟩
        replace hs : St _ _ _ (.row v56 3 1 rw57 :: L) _ _ _ := hs
        unfold dom_Right_k3 at hm
        refine hK22 _ _ ?_; clear hK22
        refine W_seq fun K24 hK24 => ?_
        refine W_region ?_
        refine sy (v := v56) hs (y_move rfl) ?_; clear hs; (try clear a w); intro a w hs
        refine sy (v := .int .i64 (y25)) hs (y_move rfl) ?_; clear hs; (try clear a w); intro a w hs
        obtain ⟨x60, hx61, hm⟩ := ob hm
        obtain ⟨r62, hr63, hq64, hi65, hb66⟩ := hW58.geti hx61
        obtain rfl : _ = ([.int .i64 (x60)] : List Value) := hq64
        refine sy hs (y_indexAddr (Rd.st hs (.head _)) rfl rfl hi65 hb66 Tryd.underlying55 ti3) ?_; clear hs; (try clear a w); intro a w hs
        refine sy (v := .int .i64 (x60)) hs (y_loadE (i := y25.toNat) (j := 0) (Rd.st hs (.head _)) rfl hr63 rfl Tryd.underlying3 rfl) ?_; clear hs; (try clear a w); intro a w hs
        refine sy hs (y_gtr rfl rfl) ?_; clear hs; (try clear a w); intro a w hs
        refine RL_nil ?_
        refine hK24 _ _ ?_; clear hK24
        refine W_cond hs rfl (fun hg67 => ?_) (fun hg67 => ?_)
        ·replace hm := oc_t hg67 hm
         refine W_seq fun K25 hK25 => ?_
         refine W_region ?_
         refine sy (v := .int .i64 (5)) hs (y_assign rfl) ?_; clear hs; (try clear a w); intro a w hs
         refine RL_nil ?_
         refine hK25 _ _ ?_; clear hK25
         refine W_ret ?_
         obtain rfl := Option.some.inj hm
         refine RtV1 hs rfl (rv_t hs rfl) ?_
         exact ⟨rfl, ((hs.subL (.cons _ (.refl _))).weak hle).cw⟩
        ·replace hm := oc_f hg67 hm
         refine W_skip ?_
         refine hK18 _ _ ?_; clear hK18
         refine W_region ?_
         refine sy hs (y_add rfl rfl rfl) ?_; clear hs; (try clear a w); intro a w hs
         refine sy (v := .int .i64 ((w64 (y25 + 1)))) hs (y_move rfl) ?_; clear hs; (try clear a w); intro a w hs
         refine RL_nil ?_
         exact hK15 k26 _ _ (Nat.lt_succ_self _) ⟨y55, (w64 (y25 + 1)), v56, rw57, hm, hW58, hs.sub ⟨rfl, rfl, rfl, rfl, trivial⟩⟩
       ·refine W_cond hs rfl (fun hg68 => ?_) (fun hg68 => ?_)
        ·replace hm := oc_t hg68 hm
         refine W_region ?_
         refine sy (v := v21) hs (y_move rfl) ?_; clear hs; (try clear a w); intro a w hs
         refine sy (v := .int .i64 (y25)) hs (y_move rfl) ?_; clear hs; (try clear a w); intro a w hs
         refine sy (v := v21) hs (y_move rfl) ?_; clear hs; (try clear a w); intro a w hs
         refine sy (v := .pointer (some ⟨b40, 4, none⟩)) hs (y_fieldAddr rfl (FO.of (off := 4) Tryd.underlying37 rfl rfl ti3 (by decide))) ?_; clear hs; (try clear a w); intro a w hs
         refine sy (v := .int .i64 (x28.Parent)) hs (y_ld rfl Tryd.underlying3 rfl (Cell.blk (.head _) rfl)) ?_; clear hs; (try clear a w); intro a w hs
         obtain ⟨x69, hx70, hm⟩ := ob hm
         obtain ⟨r71, hr72, hq73, hi74, hb75⟩ := hW53.geti hx70
         obtain rfl : _ = ([.int .i64 (x69)] : List Value) := hq73
         refine sy hs (y_indexAddr (Rd.st hs (.tail _ (.head _))) rfl rfl hi74 hb75 Tryd.underlying55 ti3) ?_; clear hs; (try clear a w); intro a w hs
         refine sy (v := .int .i64 (x69)) hs (y_loadE (i := x28.Parent.toNat) (j := 0) (Rd.st hs (.tail _ (.head _))) rfl hr72 rfl Tryd.underlying3 rfl) ?_; clear hs; (try clear a w); intro a w hs
         refine sy hs (y_add rfl rfl rfl) ?_; clear hs; (try clear a w); intro a w hs
         obtain ⟨x76, hx77, hm⟩ := ob hm
         obtain ⟨r78, hr79, hq80, hi81, hb82⟩ := hW53.geti hx77
         obtain rfl : _ = ([.int .i64 (x76)] : List Value) := hq80
         refine sy hs (y_indexAddr (Rd.st hs (.tail _ (.head _))) rfl rfl hi81 hb82 Tryd.underlying55 ti3) ?_; clear hs; (try clear a w); intro a w hs
         obtain ⟨x83, hx84, hm⟩ := ob hm
         have hex83 := seti_some hx84
         have hW86 := RW.set (i := y25.toNat) (r := [.int .i64 ((w64 (x69 + 1)))]) (x := ((w64 (x69 + 1)) : Int)) hW53 (rfl); rw [hex83] at hW86
         refine RL_storeRow (i := 1) (j := 0) (m := y25.toNat) hs rfl rfl rfl hr79 (by decide) ti3 rfl (.free rfl) ?_; clear hs; (try clear a w); intro a w hs
         replace hs : St _ _ _ (.blk b40 (.cells #[.int .i64 (x28.Kind), .string (x28.Name), .string (x28.Text), v35, .int .i64 (x28.Parent), .int .i64 (x28.First), .int .i64 (x28.Last), .int .i64 (x28.Prev), .int .i64 (x28.Next)] 37 (0, 0)) :: .row v21 3 1 (rw52.set y25.toNat [.int .i64 ((w64 (x69 + 1)))]) :: L) _ _ _ := hs
         generalize hgrw85 : rw52.set y25.toNat [.int .i64 ((w64 (x69 + 1)))] = rw85 at hs hW86; clear hgrw85
         replace hs : St _ _ _ (.blk b40 (.cells #[.int .i64 (x28.Kind), .string (x28.Name), .string (x28.Text), v35, .int .i64 (x28.Parent), .int .i64 (x28.First), .int .i64 (x28.Last), .int .i64 (x28.Prev), .int .i64 (x28.Next)] 37 (0, 0)) :: .row v21 3 1 rw85 :: L) _ _ _ := hs
         refine RL_nil ?_
         exact ⟨x83, v21, rw85, hm, hW86, hs.subs ⟨rfl, rfl, rfl, rfl, rfl, trivial⟩ (.cons _ (.cons_cons _ (.refl _)))⟩
        ·replace hm := oc_f hg68 hm
         refine W_skip ?_
         exact ⟨x50, v21, rw52, hm, hW53, hs.subs ⟨rfl, rfl, rfl, rfl, rfl, trivial⟩ (.cons _ (.cons_cons _ (.refl _)))⟩
      ·replace hm := oc_f hg27 hm
       refine W_exit ?_
       refine hB14 _ _ ?_
       exact ⟨hm, hs.subs trivial (.cons _ (.refl _))⟩
/-! casement/dom.Kids -/
def dom_Kids_k1 (y27 : (List Int)) : Option (List Int) :=
  some y27
def dom_Kids_k3 (p0 : api_Tree) (y36 : (List Int)) (y41 : Int) (lp46 : (List Int) → Int → Option (List Int)) (y47 : Bool) : Option (List Int) :=
  (bif y47 then (appM 8 y36 [y41]).bind fun x54 =>
  (geti p0.Nodes y41).bind fun x60 =>
  lp46 x54 x60.Next else
  dom_Kids_k1 y36)
def dom_Kids_l2 (n : Nat) (p0 : api_Tree) : Nat → (List Int) → Int → Option (List Int)
  | 0, _, _ => none
  | k46 + 1, y36, y41 =>
  (dom_has n p0 y41).bind fun x72 =>
  (bif x72 then dom_Kids_k3 p0 y36 y41 (dom_Kids_l2 n p0 k46) (decide ((y36.length : Int) < (p0.Nodes.length : Int))) else
  dom_Kids_k3 p0 y36 y41 (dom_Kids_l2 n p0 k46) false)
def dom_Kids (n : Nat) (p0 : api_Tree) (p1 : Int) : Option (List Int) :=
  (dom_has n p0 p1).bind fun x9 =>
  (bif (!x9) then some ([] : List Int) else
  (geti p0.Nodes p1).bind fun x14 =>
  dom_Kids_l2 n p0 n ([] : List Int) x14.First)
set_option maxRecDepth 20000 in
set_option maxHeartbeats 4000000 in
theorem dom_Kids_ok (n : Nat) {f : Fz} {p0 : api_Tree} {a0 : List Value} {p1 : Int} {res : (List Int)} (h0 : t_api_Tree.R f a0 p0) (hm : dom_Kids n p0 p1 = some res) : Does Tryd.prog 21 [.agg a0.toArray, .int .i64 p1] f [] (fun r f' L' => ∃ (u0 : Value), L' = [] ∧ r = u0 ∧ RS (tInt .i64) f' u0 res) := by
 unfold dom_Kids at hm
 intro w0 L w hC
 obtain ⟨v1, rfl, ⟨rw2, hR3, hW4⟩⟩ := h0
 refine enter Tryd.func21 rfl Tryd.ntmps21 (by simp) hC fun a hs => ?_
 have hle := Fz.le.refl f
 refine W_seq fun K1 hK1 => ?_
 refine W_region ?_
 refine sbox hs rfl ?_; clear hs; (try clear a w); intro b6 a w hs
 replace hs : St _ _ _ (.blk b6 (.cells #[v1] 24 (0, 0)) :: L) _ _ _ := hs
 refine sy (v := (.slice none 0 0)) hs (y_assign rfl) ?_; clear hs; (try clear a w); intro a w hs
 refine RL_nil ?_
 refine hK1 _ _ ?_; clear hK1
 refine W_seq fun K2 hK2 => ?_
 refine W_seq fun K3 hK3 => ?_
 refine W_region ?_
 refine sy hs (y_ldB rfl Tryd.underlying24 rfl ti24 (.head _) rfl) ?_; clear hs; (try clear a w); intro a w hs
 refine sy (v := .int .i64 (p1)) hs (y_move rfl) ?_; clear hs; (try clear a w); intro a w hs
 obtain ⟨x9, hx10, hm⟩ := ob hm
 refine sy hs (y_call rfl has32 rfl (dom_has_ok n (f := f) (a0 := [v1]) ⟨_, rfl, ⟨rw2, hR3, hW4⟩⟩ hx10)) ?_; clear hs; (try clear a w); intro a w hs
 refine sy (v := .bool ((!x9))) hs (y_not rfl) ?_; clear hs; (try clear a w); intro a w hs
 refine RL_nil ?_
 refine hK3 _ _ ?_; clear hK3
 refine W_cond hs rfl (fun hg11 => ?_) (fun hg11 => ?_)
 ·replace hm := oc_t hg11 hm
  refine W_seq fun K4 hK4 => ?_
  refine W_region ?_
  refine sy (v := (.slice none 0 0)) hs (y_assign rfl) ?_; clear hs; (try clear a w); intro a w hs
  refine RL_nil ?_
  refine hK4 _ _ ?_; clear hK4
  refine W_ret ?_
  obtain rfl := Option.some.inj hm
  refine RtV1 hs rfl (rv_t hs rfl) ?_
  exact ⟨_, f, [], rfl, hle, (hs.subL (.cons _ (.refl _))).cw, (.slice none 0 0), rfl, rfl, RS.nil⟩
 ·replace hm := oc_f hg11 hm
  refine W_skip ?_
  refine hK2 _ _ ?_; clear hK2
  refine W_seq fun K5 hK5 => ?_
  refine W_region ?_
  refine sy (v := (.slice none 0 0)) hs (y_assign rfl) ?_; clear hs; (try clear a w); intro a w hs
  refine RL_nil ?_
  refine hK5 _ _ ?_; clear hK5
  refine W_seq fun K6 hK6 => ?_
  refine W_seq fun K7 hK7 => ?_
  refine W_region ?_
  refine sy (v := .pointer (some ⟨b6, 0, none⟩)) hs (y_fieldAddr rfl (FO.of (off := 0) Tryd.underlying24 rfl rfl ti22 (by decide))) ?_; clear hs; (try clear a w); intro a w hs
  refine sy (v := v1) hs (y_ld rfl Tryd.underlying22 rfl (Cell.blk (.head _) rfl)) ?_; clear hs; (try clear a w); intro a w hs
  refine sy (v := .int .i64 (p1)) hs (y_move rfl) ?_; clear hs; (try clear a w); intro a w hs
  obtain ⟨x14, hx15, hm⟩ := ob hm
  obtain ⟨r16, hr17, hq18, hi19, hb20⟩ := hW4.geti hx15
  obtain ⟨v21, rfl, ⟨rw22, hR23, hW24⟩⟩ := hq18
  refine sy hs (y_indexAddr hR3 rfl rfl hi19 hb20 Tryd.underlying22 ti37) ?_; clear hs; (try clear a w); intro a w hs
  refine sy (v := eaddr v1 9 p1.toNat 5) hs (y_fieldAddrE (i := p1.toNat) (j := 0) hR3 rfl hb20 (FO.of (off := 5) Tryd.underlying37 rfl rfl ti3 (by decide))) ?_; clear hs; (try clear a w); intro a w hs
  refine sy (v := .int .i64 (x14.First)) hs (y_loadE (i := p1.toNat) (j := 5) hR3.up rfl hr17 rfl Tryd.underlying3 rfl) ?_; clear hs; (try clear a w); intro a w hs
  refine sy (v := .int .i64 (x14.First)) hs (y_assign rfl) ?_; clear hs; (try clear a w); intro a w hs
  refine RL_nil ?_
  refine hK7 _ _ ?_; clear hK7
  refine W_post (fun a w => ∃ (y27 : (List Int)) (v28 : Value) (rw29 : List (List Value)), dom_Kids_k1 y27 = some res ∧ RW (tInt .i64) f rw29 y27 ∧ St 39 w0 f (.row v28 3 1 rw29 :: L) [(5, v28)] a w) ?_ ?_
  ·clear hs hm
   rintro a w ⟨y27, v28, rw29, hm, hW30, hs⟩
   replace hs : St _ _ _ (.row v28 3 1 rw29 :: L) _ _ _ := hs
   unfold dom_Kids_k1 at hm
   refine hK6 _ _ ?_; clear hK6
   refine W_seq fun K8 hK8 => ?_
   refine W_region ?_
   refine sy (v := v28) hs (y_move rfl) ?_; clear hs; (try clear a w); intro a w hs
   refine sy (v := v28) hs (y_assign rfl) ?_; clear hs; (try clear a w); intro a w hs
   refine RL_nil ?_
   refine hK8 _ _ ?_; clear hK8
   refine W_ret ?_
   obtain ⟨f32, hf33, hs2, hR34⟩ := hs.frzAt 0 rfl
   clear hs; have hs := hs2; clear hs2
   replace hW30 := hW30.le hf33
   replace hle := hle.trans hf33
   replace hs : St _ _ _ (L) _ _ _ := hs
   obtain rfl := Option.some.inj hm
   refine RtV1 hs rfl (rv_t hs rfl) ?_
   exact ⟨_, f32, [], rfl, hle, hs.cw, v28, rfl, rfl, ⟨rw29, hR34, hW30⟩⟩
  ·refine W_block fun Qe9 hB9 hO9 => ?_
   replace hs := hs.nilRow 3 1
   have hW42 : RW (tInt .i64) f [] ([] : List Int) := trivial
   generalize hgrw43 : ([] : List (List Value)) = rw43 at hs hW42; clear hgrw43
   replace hs : St _ _ _ (.row (.slice none 0 0) 3 1 rw43 :: .blk b6 (.cells #[v1] 24 (0, 0)) :: L) _ _ _ := hs
   refine W_loop (fun (k : Nat) a w => ∃ (y36 : (List Int)) (y41 : Int) (v37 : Value) (rw38 : List (List Value)), dom_Kids_l2 n p0 k y36 y41 = some res ∧ RW (tInt .i64) f rw38 y36 ∧ St 39 w0 f (.row v37 3 1 rw38 :: .blk b6 (.cells #[v1] 24 (0, 0)) :: L) [(2, .pointer (some ⟨b6, 0, none⟩)), (5, v37), (6, .int .i64 (y41))] a w) (fun k => k) n ⟨([] : List Int), x14.First, (.slice none 0 0), rw43, hm, hW42, hs.sub ⟨rfl, rfl, rfl, trivial⟩⟩ ?_
   clear hs hm
   intro k
   rintro a w ⟨y36, y41, v37, rw38, hm, hW39, hs⟩
   replace hs : St _ _ _ (.row v37 3 1 rw38 :: .blk b6 (.cells #[v1] 24 (0, 0)) :: L) _ _ _ := hs
   intro K10 hK10
   cases k with
   | zero => simp [dom_Kids_l2] at hm
   | succ k46 =>
    rw [dom_Kids_l2] at hm
    refine W_seq fun K11 hK11 => ?_
    refine W_seq fun K12 hK12 => ?_
    refine W_post (fun a w => ∃ (y47 : Bool), dom_Kids_k3 p0 y36 y41 (dom_Kids_l2 n p0 k46) y47 = some res ∧ St 39 w0 f (.row v37 3 1 rw38 :: .blk b6 (.cells #[v1] 24 (0, 0)) :: L) [(2, .pointer (some ⟨b6, 0, none⟩)), (5, v37), (6, .int .i64 (y41)), (27, .bool (y47))] a w) ?_ ?_
    ·clear hs hm
     rintro a w ⟨y47, hm, hs⟩
     replace hs : St _ _ _ (.row v37 3 1 rw38 :: .blk b6 (.cells #[v1] 24 (0, 0)) :: L) _ _ _ := hs
     unfold dom_Kids_k3 at hm
     refine hK12 _ _ ?_; clear hK12
     refine W_cond hs rfl (fun hg48 => ?_) (fun hg48 => ?_)
     ·replace hm := oc_t hg48 hm
      refine W_skip ?_
      refine hK11 _ _ ?_; clear hK11
      refine W_seq fun K13 hK13 => ?_
      refine W_block fun Qe14 hB14 hO14 => ?_
      refine W_region ?_
      refine sy (v := v37) hs (y_move rfl) ?_; clear hs; (try clear a w); intro a w hs
      refine sy (v := .int .i64 (y41)) hs (y_move rfl) ?_; clear hs; (try clear a w); intro a w hs
      refine RL_bs1s hs rfl Tryd.underlying55 ti3 rfl rfl ?_; clear hs; (try clear a w); intro v49 a w hs
      have hW50 : RW (tInt .i64) f [[.int .i64 (y41)]] [y41] := RW.single (rfl)
      generalize hgrw51 : ([[.int .i64 (y41)]] : List (List Value)) = rw51 at hs hW50; clear hgrw51
      replace hs : St _ _ _ (.row v49 3 1 rw51 :: .row v37 3 1 rw38 :: .blk b6 (.cells #[v1] 24 (0, 0)) :: L) _ _ _ := hs
      obtain ⟨x54, hx55, hm⟩ := ob hm
      obtain ⟨hbx54, hex54⟩ := appM_some hx55
      have hW58 := hW39.append hW50; rw [hex54] at hW58
      refine RL_append (i := 1) hs rfl rfl rfl (Rd.st hs (.head _)) Tryd.underlying55 ti3 (by decide) (by rw [RW.len hW39, RW.len hW50]; exact hbx54) (.free rfl) (by decide) ?_; clear hs; (try clear a w); intro v56 a w hs
      generalize hgx54 : rw38 ++ rw51 = rw57 at hs hW58; clear hgx54
      replace hs := hs.erase 0
      replace hs : St _ _ _ (.row v56 3 1 rw57 :: .blk b6 (.cells #[v1] 24 (0, 0)) :: L) _ _ _ := hs
      refine sy (v := v56) hs (y_assign rfl) ?_; clear hs; (try clear a w); intro a w hs
      refine RL_nil ?_
      refine hK13 _ _ ?_; clear hK13
      refine W_region ?_
      refine sy (v := .pointer (some ⟨b6, 0, none⟩)) hs (y_fieldAddr rfl (FO.of (off := 0) Tryd.underlying24 rfl rfl ti22 (by decide))) ?_; clear hs; (try clear a w); intro a w hs
      refine sy (v := v1) hs (y_ld rfl Tryd.underlying22 rfl (Cell.blk (.tail _ (.head _)) rfl)) ?_; clear hs; (try clear a w); intro a w hs
      refine sy (v := .int .i64 (y41)) hs (y_move rfl) ?_; clear hs; (try clear a w); intro a w hs
      obtain ⟨x60, hx61, hm⟩ := ob hm
      obtain ⟨r62, hr63, hq64, hi65, hb66⟩ := hW4.geti hx61
      obtain ⟨v67, rfl, ⟨rw68, hR69, hW70⟩⟩ := hq64
      refine sy hs (y_indexAddr hR3 rfl rfl hi65 hb66 Tryd.underlying22 ti37) ?_; clear hs; (try clear a w); intro a w hs
      refine sy (v := eaddr v1 9 y41.toNat 8) hs (y_fieldAddrE (i := y41.toNat) (j := 0) hR3 rfl hb66 (FO.of (off := 8) Tryd.underlying37 rfl rfl ti3 (by decide))) ?_; clear hs; (try clear a w); intro a w hs
      refine sy (v := .int .i64 (x60.Next)) hs (y_loadE (i := y41.toNat) (j := 8) hR3.up rfl hr63 rfl Tryd.underlying3 rfl) ?_; clear hs; (try clear a w); intro a w hs
      refine sy (v := .int .i64 (x60.Next)) hs (y_assign rfl) ?_; clear hs; (try clear a w); intro a w hs
      refine RL_nil ?_
      exact hK10 k46 _ _ (Nat.lt_succ_self _) ⟨x54, x60.Next, v56, rw57, hm, hW58, hs.sub ⟨rfl, rfl, rfl, trivial⟩⟩
     ·replace hm := oc_f hg48 hm
      refine W_exit ?_
      refine hB9 _ _ ?_
      exact ⟨y36, v37, rw38, hm, hW39, hs.subs ⟨rfl, trivial⟩ (.cons_cons _ (.cons _ (.refl _)))⟩
    ·refine W_region ?_
     refine sy hs (y_ldB rfl Tryd.underlying24 rfl ti24 (.tail _ (.head _)) rfl) ?_; clear hs; (try clear a w); intro a w hs
     refine sy (v := .int .i64 (y41)) hs (y_move rfl) ?_; clear hs; (try clear a w); intro a w hs
     obtain ⟨x72, hx73, hm⟩ := ob hm
     refine sy hs (y_call rfl has32 rfl (dom_has_ok n (f := f) (a0 := [v1]) ⟨_, rfl, ⟨rw2, hR3, hW4⟩⟩ hx73)) ?_; clear hs; (try clear a w); intro a w hs
     refine sy (v := .bool (x72)) hs (y_move rfl) ?_; clear hs; (try clear a w); intro a w hs
     refine St.split hs (t := 20) rfl (fun hg74 hq => ?_) (fun hg74 hq => ?_)
     ·clear hs; have hs := hq; clear hq
      replace hm := oc_t hg74 hm
      refine syg (v := v37) hs (y_move rfl) ?_; clear hs; (try clear a w); intro a w hs
      refine syg hs (y_lenW (Rd.st hs (.head _)) hW39 rfl Tryd.underlying55) ?_; clear hs; (try clear a w); intro a w hs
      refine syg (v := .pointer (some ⟨b6, 0, none⟩)) hs (y_fieldAddr rfl (FO.of (off := 0) Tryd.underlying24 rfl rfl ti22 (by decide))) ?_; clear hs; (try clear a w); intro a w hs
      refine syg (v := v1) hs (y_ld rfl Tryd.underlying22 rfl (Cell.blk (.tail _ (.head _)) rfl)) ?_; clear hs; (try clear a w); intro a w hs
      refine syg hs (y_lenW hR3 hW4 rfl Tryd.underlying22) ?_; clear hs; (try clear a w); intro a w hs
      refine syg hs (y_lss rfl rfl) ?_; clear hs; (try clear a w); intro a w hs
      refine sy (v := .bool (decide ((y36.length : Int) < (p0.Nodes.length : Int)))) hs (y_pick rfl rfl) ?_; clear hs; (try clear a w); intro a w hs
      refine RL_nil ?_
      exact ⟨decide ((y36.length : Int) < (p0.Nodes.length : Int)), hm, hs.sub ⟨rfl, rfl, rfl, rfl, trivial⟩⟩
     ·clear hs; have hs := hq; clear hq
      replace hm := oc_f hg74 hm
      refine sno hs ?_; clear hs; (try clear a w); intro a w hs
      refine sno hs ?_; clear hs; (try clear a w); intro a w hs
      refine sno hs ?_; clear hs; (try clear a w); intro a w hs
      refine sno hs ?_; clear hs; (try clear a w); intro a w hs
      refine sno hs ?_; clear hs; (try clear a w); intro a w hs
      refine sno hs ?_; clear hs; (try clear a w); intro a w hs
      refine sy (v := .bool (false)) hs (y_pick rfl rfl) ?_; clear hs; (try clear a w); intro a w hs
      refine RL_nil ?_
      exact ⟨false, hm, hs.sub ⟨rfl, rfl, rfl, rfl, trivial⟩⟩
end Go.Proofs.YtklcdfnhdljkjaaDoor
