/-
  Walks and laws of this seat.
-/
import Derived.Test.YteicdfkmpnmkmaaGreatBasg
import Derived.Test.YteicdfkmpnmkmaaGreatYa
namespace Go.Proofs.YteicdfkmpnmkmaaGreat
set_option linter.unusedVariables false
set_option linter.unusedSimpArgs false
set_option maxHeartbeats 4000000
set_option maxRecDepth 100000
open Go.RowKit Go.Sl
def dom_has (n : Nat) (p0 : api_Tree) (p1 : Int) : Option Bool :=
  some ((decide (0 ≤ p1)) && (decide (p1 < (p0.Nodes.length : Int))))
theorem dom_has_ok (n : Nat) {f : Fz} {p0 : api_Tree} {a0 : List Value} {p1 : Int} {res : Bool} (h0 : t_api_Tree.R f a0 p0) (hm : dom_has n p0 p1 = some res) : Gives Tryz.prog 62 [.agg a0.toArray, .int .i64 p1] f (.bool res) := by
 unfold dom_has at hm
 intro w0 L w hC
 obtain ⟨v1, rfl, ⟨rw2, hR3, hW4⟩⟩ := h0
 refine enter Tryz.func62 rfl Tryz.ntmps62 (by simp) hC fun a hs => ?_
 have hle := Fz.le.refl f
 refine Wq fun hK1 => sbox hs rfl fun b6 _ _ hs => sA (v := .bool (false)) hs rfl fun hs => RL_nil <| hK1 <| Ws fun hK2 => ?_
 refine W_post (fun a w => St 14 w0 f (.blk b6 (.cells #[v1] 37 (0, 0)) :: L) [(4, .bool (((decide (0 ≤ p1)) && (decide (p1 < (p0.Nodes.length : Int))))))] a w) ?_ ?_
 ·clear hs; intro a w hs
  refine hK2 <| W_ret ?_
  obtain rfl := Option.some.inj hm
  refine RtV1 hs rfl (rv_t hs rfl) ?_
  exact ⟨rfl, ((hs.subL (.cons _ (.refl _))).weak hle).cw⟩
 refine W_region <| sM (v := .int .i64 (p1)) hs rfl fun hs => s1 hs (y_geq rfl rfl) fun hs => sM (v := .bool (decide (0 ≤ p1))) hs rfl fun hs => ?_
 refine St.split hs (t := 7) rfl (fun hg8 hs => ?_) (fun hg8 hs => ?_)
 ·refine s2 (v := .int .i64 (p1)) hs (y_move rfl) fun hs => s2 (v := .pointer (some ⟨b6, 0, none⟩)) hs (y_fieldAddr rfl (FO.of (off := 0) Tryz.underlying37 rfl rfl ti35 (by decide))) fun hs => s2 (v := v1) hs (y_ld rfl Tryz.underlying35 rfl (Cell.blk (.head _) rfl)) fun hs => s2 hs (y_lenW hR3 hW4 rfl Tryz.underlying35) fun hs => s2 hs (y_lss rfl rfl) fun hs => sP (v := .bool (decide (p1 < (p0.Nodes.length : Int)))) hs rfl rfl fun hs => sA (v := .bool (decide (p1 < (p0.Nodes.length : Int)))) hs rfl fun hs => RL_nil ?_
  exact hs.sub ⟨(lkB (((and_t hg8).trans rfl)) rfl), trivial⟩
 refine s3 hs fun hs => s3 hs fun hs => s3 hs fun hs => s3 hs fun hs => s3 hs fun hs => sP (v := .bool (false)) hs rfl rfl fun hs => sA (v := .bool (false)) hs rfl fun hs => RL_nil ?_
 exact hs.sub ⟨(lkB (((and_f hg8).trans rfl)) rfl), trivial⟩
def dom_alone_k1 : Option Bool :=
  some true
def dom_alone_k3 (y17 : (List (ByteArray × Int))) (y21 : Int) (lp22 : (List (ByteArray × Int)) → Int → Option Bool) (x24 : api_Attr) (y33 : Bool) : Option Bool :=
  (bif y33 then some false else
  lp22 (mputM y17 x24.Name (w64 (((mgetM y17 x24.Name).getD 0) + 1))) (w64 (y21 + 1)))
def dom_alone_l2 (p0 : api_Node) : Nat → (List (ByteArray × Int)) → Int → Option Bool
  | 0, _, _ => none
  | k22 + 1, y17, y21 =>
  (bif (decide (y21 < (p0.Attrs.length : Int))) then (geti p0.Attrs y21).bind fun x24 =>
  (bif (decide (x24.Name = (bs []))) then dom_alone_k3 y17 y21 (dom_alone_l2 p0 k22) x24 true else
  dom_alone_k3 y17 y21 (dom_alone_l2 p0 k22) x24 (decide (0 < ((mgetM y17 x24.Name).getD 0)))) else
  dom_alone_k1)
def dom_alone (n : Nat) (p0 : api_Node) : Option Bool :=
  (bif (decide (p0.Kind = 2)) then some ((decide (p0.Name = (bs []))) && ((decide (p0.Text ≠ (bs []))) && ((decide ((p0.Attrs.length : Int) = 0)) && ((decide (p0.First = (-1))) && (decide (p0.Last = (-1))))))) else
  (bif ((decide (p0.Kind ≠ 1)) || ((decide (p0.Name = (bs []))) || ((decide (p0.Text ≠ (bs []))) || (decide (64 < (p0.Attrs.length : Int)))))) then some false else
  dom_alone_l2 p0 n ([] : List (ByteArray × Int)) 0))
theorem dom_alone_ok (n : Nat) {f : Fz} {p0 : api_Node} {a0 : List Value} {res : Bool} (h0 : t_api_Node.R f a0 p0) (hm : dom_alone n p0 = some res) : Gives Tryz.prog 100 [.agg a0.toArray] f (.bool res) := by
 unfold dom_alone at hm
 intro w0 L w hC
 obtain ⟨v1, rfl, ⟨rw2, hR3, hW4⟩⟩ := h0
 refine enter Tryz.func100 rfl Tryz.ntmps100 (by simp) hC fun a hs => ?_
 have hle := Fz.le.refl f
 refine Wq fun hK1 => sbox hs rfl fun b6 _ _ hs => sA (v := .bool (false)) hs rfl fun hs => RL_nil <| hK1 <| Ws fun hK2 => Wq fun hK3 => s1 (v := .pointer (some ⟨b6, 0, none⟩)) hs (y_fieldAddr rfl (FO.of (off := 0) Tryz.underlying57 rfl rfl ti3 (by decide))) fun hs => ?_
 refine s1 (v := .int .i64 (p0.Kind)) hs (y_ld rfl Tryz.underlying3 rfl (Cell.blk (.head _) rfl)) fun hs => s1 hs (y_eql rfl rfl) fun hs => RL_nil <| hK3 ?_
 refine W_cond hs rfl (fun hg8 => ?_) (fun hg8 => ?_)
 ·replace hm := oc_t hg8 hm
  refine Ws fun hK4 => ?_
  refine W_post (fun a w => St 76 w0 f (.blk b6 (.cells #[.int .i64 (p0.Kind), .string (p0.Name), .string (p0.Text), v1, .int .i64 (p0.Parent), .int .i64 (p0.First), .int .i64 (p0.Last), .int .i64 (p0.Prev), .int .i64 (p0.Next)] 57 (0, 0)) :: L) [(2, .bool (((decide (p0.Name = (bs []))) && ((decide (p0.Text ≠ (bs []))) && ((decide ((p0.Attrs.length : Int) = 0)) && ((decide (p0.First = (-1))) && (decide (p0.Last = (-1)))))))))] a w) ?_ ?_
  ·clear hs; intro a w hs
   refine hK4 <| W_ret ?_
   obtain rfl := Option.some.inj hm
   refine RtV1 hs rfl (rv_t hs rfl) ?_
   exact ⟨rfl, ((hs.subL (.cons _ (.refl _))).weak hle).cw⟩
  refine W_region <| s1 (v := .pointer (some ⟨b6, 1, none⟩)) hs (y_fieldAddr rfl (FO.of (off := 1) Tryz.underlying57 rfl rfl ti9 (by decide))) fun hs => s1 (v := .string (p0.Name)) hs (y_ld rfl Tryz.underlying9 rfl (Cell.blk (.head _) rfl)) fun hs => s1 hs (y_seql rfl rfl) fun hs => sM (v := .bool (decide (p0.Name = (bs [])))) hs rfl fun hs => ?_
  refine St.split hs (t := 12) rfl (fun hg9 hs => ?_) (fun hg9 hs => ?_)
  ·refine s2 (v := .pointer (some ⟨b6, 2, none⟩)) hs (y_fieldAddr rfl (FO.of (off := 2) Tryz.underlying57 rfl rfl ti9 (by decide))) fun hs => s2 (v := .string (p0.Text)) hs (y_ld rfl Tryz.underlying9 rfl (Cell.blk (.head _) rfl)) fun hs => s2 hs (y_sneq rfl rfl) fun hs => sP (v := .bool (decide (p0.Text ≠ (bs [])))) hs rfl rfl fun hs => sM (v := .bool (decide (p0.Text ≠ (bs [])))) hs rfl fun hs => ?_
   refine St.split hs (t := 17) rfl (fun hg10 hs => ?_) (fun hg10 hs => ?_)
   ·refine s2 (v := .pointer (some ⟨b6, 3, none⟩)) hs (y_fieldAddr rfl (FO.of (off := 3) Tryz.underlying57 rfl rfl ti55 (by decide))) fun hs => s2 (v := v1) hs (y_ld rfl Tryz.underlying55 rfl (Cell.blk (.head _) rfl)) fun hs => s2 hs (y_lenW hR3 hW4 rfl Tryz.underlying55) fun hs => s2 hs (y_eql rfl rfl) fun hs => sP (v := .bool (decide ((p0.Attrs.length : Int) = 0))) hs rfl rfl fun hs => sM (v := .bool (decide ((p0.Attrs.length : Int) = 0))) hs rfl fun hs => ?_
    refine St.split hs (t := 23) rfl (fun hg11 hs => ?_) (fun hg11 hs => ?_)
    ·refine s2 (v := .pointer (some ⟨b6, 5, none⟩)) hs (y_fieldAddr rfl (FO.of (off := 5) Tryz.underlying57 rfl rfl ti3 (by decide))) fun hs => s2 (v := .int .i64 (p0.First)) hs (y_ld rfl Tryz.underlying3 rfl (Cell.blk (.head _) rfl)) fun hs => s2 hs (y_eql rfl rfl) fun hs => sP (v := .bool (decide (p0.First = (-1)))) hs rfl rfl fun hs => sM (v := .bool (decide (p0.First = (-1)))) hs rfl fun hs => ?_
     refine St.split hs (t := 28) rfl (fun hg12 hs => ?_) (fun hg12 hs => ?_)
     ·refine s2 (v := .pointer (some ⟨b6, 6, none⟩)) hs (y_fieldAddr rfl (FO.of (off := 6) Tryz.underlying57 rfl rfl ti3 (by decide))) fun hs => s2 (v := .int .i64 (p0.Last)) hs (y_ld rfl Tryz.underlying3 rfl (Cell.blk (.head _) rfl)) fun hs => s2 hs (y_eql rfl rfl) fun hs => sP (v := .bool (decide (p0.Last = (-1)))) hs rfl rfl fun hs => sA (v := .bool (decide (p0.Last = (-1)))) hs rfl fun hs => RL_nil ?_
      exact hs.sub ⟨(lkB (((and_t hg9).trans ((and_t hg10).trans ((and_t hg11).trans ((and_t hg12).trans rfl))))) rfl), trivial⟩
     refine s3 hs fun hs => s3 hs fun hs => s3 hs fun hs => sP (v := .bool (false)) hs rfl rfl fun hs => sA (v := .bool (false)) hs rfl fun hs => RL_nil ?_
     exact hs.sub ⟨(lkB (((and_t hg9).trans ((and_t hg10).trans ((and_t hg11).trans ((and_f hg12).trans rfl))))) rfl), trivial⟩
    refine s3 hs fun hs => s3 hs fun hs => s3 hs fun hs => sP (v := .bool (false)) hs rfl rfl fun hs => sM (v := .bool (false)) hs rfl fun hs => s3 hs fun hs => s3 hs fun hs => s3 hs fun hs => sP (v := .bool (false)) hs rfl rfl fun hs => sA (v := .bool (false)) hs rfl fun hs => ?_
    refine RL_nil ?_
    exact hs.sub ⟨(lkB (((and_t hg9).trans ((and_t hg10).trans ((and_f hg11).trans rfl)))) rfl), trivial⟩
   refine s3 hs fun hs => s3 hs fun hs => s3 hs fun hs => s3 hs fun hs => sP (v := .bool (false)) hs rfl rfl fun hs => sM (v := .bool (false)) hs rfl fun hs => s3 hs fun hs => s3 hs fun hs => s3 hs fun hs => sP (v := .bool (false)) hs rfl rfl fun hs => ?_
   refine sM (v := .bool (false)) hs rfl fun hs => s3 hs fun hs => s3 hs fun hs => s3 hs fun hs => sP (v := .bool (false)) hs rfl rfl fun hs => sA (v := .bool (false)) hs rfl fun hs => RL_nil ?_
   exact hs.sub ⟨(lkB (((and_t hg9).trans ((and_f hg10).trans rfl))) rfl), trivial⟩
  refine s3 hs fun hs => s3 hs fun hs => s3 hs fun hs => sP (v := .bool (false)) hs rfl rfl fun hs => sM (v := .bool (false)) hs rfl fun hs => s3 hs fun hs => s3 hs fun hs => s3 hs fun hs => s3 hs fun hs => sP (v := .bool (false)) hs rfl rfl fun hs => ?_
  refine sM (v := .bool (false)) hs rfl fun hs => s3 hs fun hs => s3 hs fun hs => s3 hs fun hs => sP (v := .bool (false)) hs rfl rfl fun hs => sM (v := .bool (false)) hs rfl fun hs => s3 hs fun hs => s3 hs fun hs => s3 hs fun hs => sP (v := .bool (false)) hs rfl rfl fun hs => ?_
  refine sA (v := .bool (false)) hs rfl fun hs => RL_nil ?_
  exact hs.sub ⟨(lkB (((and_f hg9).trans rfl)) rfl), trivial⟩
 replace hm := oc_f hg8 hm
 refine W_skip <| hK2 <| Ws fun hK5 => Ws fun hK6 => ?_
 refine W_post (fun a w => St 76 w0 f (.blk b6 (.cells #[.int .i64 (p0.Kind), .string (p0.Name), .string (p0.Text), v1, .int .i64 (p0.Parent), .int .i64 (p0.First), .int .i64 (p0.Last), .int .i64 (p0.Prev), .int .i64 (p0.Next)] 57 (0, 0)) :: L) [(1, .pointer (some ⟨b6, 0, none⟩)), (51, .bool (((decide (p0.Kind ≠ 1)) || ((decide (p0.Name = (bs []))) || ((decide (p0.Text ≠ (bs []))) || (decide (64 < (p0.Attrs.length : Int))))))))] a w) ?_ ?_
 ·clear hs; intro a w hs
  refine hK6 ?_
  refine W_cond hs rfl (fun hg13 => ?_) (fun hg13 => ?_)
  ·replace hm := oc_t hg13 hm
   refine Wq fun hK7 => sA (v := .bool (false)) hs rfl fun hs => RL_nil <| hK7 <| W_ret ?_
   obtain rfl := Option.some.inj hm
   refine RtV1 hs rfl (rv_t hs rfl) ?_
   exact ⟨rfl, ((hs.subL (.cons _ (.refl _))).weak hle).cw⟩
  replace hm := oc_f hg13 hm
  refine W_skip <| hK5 <| Wq fun hK8 => RL_makeMap hs fun b14 _ _ hs => ?_
  have hS15 : SM (fun x => .int .i64 x) #[] [] := SM.nil
  refine sA (v := .map (some b14)) hs rfl fun hs => RL_nil <| hK8 <| Ws fun hK9 => Wq fun hK10 => s1 (v := .pointer (some ⟨b6, 3, none⟩)) hs (y_fieldAddr rfl (FO.of (off := 3) Tryz.underlying57 rfl rfl ti55 (by decide))) fun hs => s1 (v := v1) hs (y_ld rfl Tryz.underlying55 rfl (Cell.blk (.tail _ (.head _)) rfl)) fun hs => s1 hs (y_lenW hR3 hW4 rfl Tryz.underlying55) fun hs => sM (v := .int .i64 (0)) hs rfl fun hs => ?_
  refine RL_nil <| hK10 ?_
  refine W_post (fun a w => dom_alone_k1 = some res ∧ St 76 w0 f (L) [] a w) ?_ ?_
  ·clear hs hm
   rintro a w ⟨hm, hs⟩
   unfold dom_alone_k1 at hm
   refine hK9 <| Wq fun hK11 => sA (v := .bool (true)) hs rfl fun hs => RL_nil <| hK11 <| W_ret ?_
   obtain rfl := Option.some.inj hm
   refine RtV1 hs rfl (rv_t hs rfl) ?_
   exact ⟨rfl, (hs.weak hle).cw⟩
  refine W_block fun Qe12 hB12 hO12 => W_loop (fun (k : Nat) a w => ∃ (y17 : (List (ByteArray × Int))) (y21 : Int) (es18 : Array MapEntry) (c19 : Nat), dom_alone_l2 p0 k y17 y21 = some res ∧ SM (fun x => .int .i64 x) es18 y17 ∧ St 76 w0 f (.blk b14 (.map es18 c19) :: L) [(3, .map (some b14)), (54, v1), (55, .int .i64 ((p0.Attrs.length : Int))), (56, .int .i64 (y21))] a w) (fun k => k) n ⟨([] : List (ByteArray × Int)), 0, #[], 0, hm, hS15, hs.subs ⟨rfl, rfl, rfl, rfl, trivial⟩ (.cons_cons _ (.cons _ (.refl _)))⟩ ?_
  clear hs hm
  intro k
  rintro a w ⟨y17, y21, es18, c19, hm, hS20, hs⟩
  intro K13 hK13
  cases k with
  | zero => simp [dom_alone_l2] at hm
  | succ k22 =>
   rw [dom_alone_l2] at hm
   refine Wq fun hK14 => s1 hs (y_lss rfl rfl) fun hs => RL_nil <| hK14 <| Ws fun hK15 => ?_
   refine W_cond hs rfl (fun hg23 => ?_) (fun hg23 => ?_)
   ·replace hm := oc_t hg23 hm
    refine W_skip <| hK15 <| Ws fun hK16 => W_block fun Qe17 hB17 hO17 => Ws fun hK18 => W_region ?_
    obtain ⟨x24, hx25, hm⟩ := ob hm
    obtain ⟨r26, hr27, hq28, hi29, hb30⟩ := hW4.geti hx25
    obtain rfl : _ = ([.string (x24.Name), .string (x24.Value)] : List Value) := hq28
    refine s1 hs (y_indexAddr hR3 rfl rfl hi29 hb30 Tryz.underlying55 ti85) fun hs => s1 hs (y_loadRow hR3.up rfl hr27 Tryz.underlying85 rfl ti85) fun hs => RL_alloc hs ti85 (.free rfl) (by decide) fun b31 _ _ hs => RL_storeAll (i := 0) hs rfl rfl rfl ti85 ⟨rfl, rfl⟩ (AllC.arr (r := [.string (x24.Name), .string (x24.Value)]) ⟨rfl, rfl, trivial⟩) (.free rfl) fun _ _ hs => RL_nil <| hK18 <| Ws fun hK19 => Ws fun hK20 => ?_
    refine W_post (fun a w => ∃ (y33 : Bool), dom_alone_k3 y17 y21 (dom_alone_l2 p0 k22) x24 y33 = some res ∧ St 76 w0 f (.blk b31 (.cells #[.string (x24.Name), .string (x24.Value)] 85 (0, 0)) :: .blk b14 (.map es18 c19) :: L) [(3, .map (some b14)), (5, .pointer (some ⟨b31, 0, none⟩)), (54, v1), (55, .int .i64 ((p0.Attrs.length : Int))), (56, .int .i64 (y21)), (69, .bool (y33))] a w) ?_ ?_
    ·clear hs hm
     rintro a w ⟨y33, hm, hs⟩
     unfold dom_alone_k3 at hm
     refine hK20 ?_
     refine W_cond hs rfl (fun hg34 => ?_) (fun hg34 => ?_)
     ·replace hm := oc_t hg34 hm
      refine Wq fun hK21 => sA (v := .bool (false)) hs rfl fun hs => RL_nil <| hK21 <| W_ret ?_
      obtain rfl := Option.some.inj hm
      refine RtV1 hs rfl (rv_t hs rfl) ?_
      exact ⟨rfl, ((hs.subL (.cons _ (.cons _ (.refl _)))).weak hle).cw⟩
     replace hm := oc_f hg34 hm
     refine W_skip <| hK19 <| W_region <| sM (v := .map (some b14)) hs rfl fun hs => s1 (v := .pointer (some ⟨b31, 0, none⟩)) hs (y_fieldAddr rfl (FO.of (off := 0) Tryz.underlying85 rfl rfl ti9 (by decide))) fun hs => s1 (v := .string (x24.Name)) hs (y_ld rfl Tryz.underlying9 rfl (Cell.blk (.head _) rfl)) fun hs => sy hs (y_lookupM (enc := (fun x => .int .i64 x)) (z := 0) rfl rfl Tryz.underlying195 Tryz.underlying9 ti3 (.tail _ (.head _)) hS20) fun _ _ hs => s1 hs (y_add rfl rfl rfl) fun hs => RL_mapUpdateM (enc := (fun x => .int .i64 x)) (u := (w64 (((mgetM y17 x24.Name).getD 0) + 1))) 1 hs rfl rfl rfl rfl Tryz.underlying195 Tryz.underlying9 hS20 fun es35 c36 _ _ hS37 hs => RL_nil ?_
     refine hK16 <| W_region <| s1 hs (y_add rfl rfl rfl) fun hs => sM (v := .int .i64 ((w64 (y21 + 1)))) hs rfl fun hs => RL_nil ?_
     exact hK13 k22 _ _ (Nat.lt_succ_self _) ⟨(mputM y17 x24.Name (w64 (((mgetM y17 x24.Name).getD 0) + 1))), (w64 (y21 + 1)), es35, c36, hm, hS37, hs.subs ⟨rfl, rfl, rfl, rfl, trivial⟩ (.cons _ (.cons_cons _ (.refl _)))⟩
    refine W_region <| s1 (v := .pointer (some ⟨b31, 0, none⟩)) hs (y_fieldAddr rfl (FO.of (off := 0) Tryz.underlying85 rfl rfl ti9 (by decide))) fun hs => s1 (v := .string (x24.Name)) hs (y_ld rfl Tryz.underlying9 rfl (Cell.blk (.head _) rfl)) fun hs => s1 hs (y_seql rfl rfl) fun hs => sM (v := .bool (decide (x24.Name = (bs [])))) hs rfl fun hs => ?_
    refine St.split hs (t := 63) rfl (fun hg38 hs => ?_) (fun hg38 hs => ?_)
    ·replace hm := oc_t hg38 hm
     refine s3 hs fun hs => s3 hs fun hs => s3 hs fun hs => s3 hs fun hs => s3 hs fun hs => sP (v := .bool (true)) hs rfl rfl fun hs => RL_nil ?_
     exact ⟨true, hm, hs.sub ⟨rfl, rfl, rfl, rfl, rfl, rfl, trivial⟩⟩
    replace hm := oc_f hg38 hm
    refine s2 (v := .map (some b14)) hs (y_move rfl) fun hs => s2 (v := .pointer (some ⟨b31, 0, none⟩)) hs (y_fieldAddr rfl (FO.of (off := 0) Tryz.underlying85 rfl rfl ti9 (by decide))) fun hs => s2 (v := .string (x24.Name)) hs (y_ld rfl Tryz.underlying9 rfl (Cell.blk (.head _) rfl)) fun hs => syg hs (y_lookupM (enc := (fun x => .int .i64 x)) (z := 0) rfl rfl Tryz.underlying195 Tryz.underlying9 ti3 (.tail _ (.head _)) hS20) fun _ _ hs => s2 hs (y_gtr rfl rfl) fun hs => sP (v := .bool (decide (0 < ((mgetM y17 x24.Name).getD 0)))) hs rfl rfl fun hs => RL_nil ?_
    exact ⟨decide (0 < ((mgetM y17 x24.Name).getD 0)), hm, hs.sub ⟨rfl, rfl, rfl, rfl, rfl, rfl, trivial⟩⟩
   replace hm := oc_f hg23 hm
   refine W_exit <| hB12 _ _ ?_
   exact ⟨hm, hs.subs trivial (.cons _ (.refl _))⟩
 refine W_region <| s1 (v := .pointer (some ⟨b6, 0, none⟩)) hs (y_fieldAddr rfl (FO.of (off := 0) Tryz.underlying57 rfl rfl ti3 (by decide))) fun hs => s1 (v := .int .i64 (p0.Kind)) hs (y_ld rfl Tryz.underlying3 rfl (Cell.blk (.head _) rfl)) fun hs => s1 hs (y_neq rfl rfl) fun hs => sM (v := .bool (decide (p0.Kind ≠ 1))) hs rfl fun hs => ?_
 refine St.split hs (t := 36) rfl (fun hg39 hs => ?_) (fun hg39 hs => ?_)
 ·refine s3 hs fun hs => s3 hs fun hs => s3 hs fun hs => sP (v := .bool (true)) hs rfl rfl fun hs => sM (v := .bool (true)) hs rfl fun hs => s3 hs fun hs => s3 hs fun hs => s3 hs fun hs => sP (v := .bool (true)) hs rfl rfl fun hs => sM (v := .bool (true)) hs rfl fun hs => ?_
  refine s3 hs fun hs => s3 hs fun hs => s3 hs fun hs => s3 hs fun hs => sP (v := .bool (true)) hs rfl rfl fun hs => RL_nil ?_
  exact hs.sub ⟨rfl, (lkB (((or_t hg39).trans rfl)) rfl), trivial⟩
 refine s2 (v := .pointer (some ⟨b6, 1, none⟩)) hs (y_fieldAddr rfl (FO.of (off := 1) Tryz.underlying57 rfl rfl ti9 (by decide))) fun hs => s2 (v := .string (p0.Name)) hs (y_ld rfl Tryz.underlying9 rfl (Cell.blk (.head _) rfl)) fun hs => s2 hs (y_seql rfl rfl) fun hs => sP (v := .bool (decide (p0.Name = (bs [])))) hs rfl rfl fun hs => sM (v := .bool (decide (p0.Name = (bs [])))) hs rfl fun hs => ?_
 refine St.split hs (t := 41) rfl (fun hg40 hs => ?_) (fun hg40 hs => ?_)
 ·refine s3 hs fun hs => s3 hs fun hs => s3 hs fun hs => sP (v := .bool (true)) hs rfl rfl fun hs => sM (v := .bool (true)) hs rfl fun hs => s3 hs fun hs => s3 hs fun hs => s3 hs fun hs => s3 hs fun hs => sP (v := .bool (true)) hs rfl rfl fun hs => ?_
  refine RL_nil ?_
  exact hs.sub ⟨rfl, (lkB (((or_f hg39).trans ((or_t hg40).trans rfl))) rfl), trivial⟩
 refine s2 (v := .pointer (some ⟨b6, 2, none⟩)) hs (y_fieldAddr rfl (FO.of (off := 2) Tryz.underlying57 rfl rfl ti9 (by decide))) fun hs => s2 (v := .string (p0.Text)) hs (y_ld rfl Tryz.underlying9 rfl (Cell.blk (.head _) rfl)) fun hs => s2 hs (y_sneq rfl rfl) fun hs => sP (v := .bool (decide (p0.Text ≠ (bs [])))) hs rfl rfl fun hs => sM (v := .bool (decide (p0.Text ≠ (bs [])))) hs rfl fun hs => ?_
 refine St.split hs (t := 46) rfl (fun hg41 hs => ?_) (fun hg41 hs => ?_)
 ·refine s3 hs fun hs => s3 hs fun hs => s3 hs fun hs => s3 hs fun hs => sP (v := .bool (true)) hs rfl rfl fun hs => RL_nil ?_
  exact hs.sub ⟨rfl, (lkB (((or_f hg39).trans ((or_f hg40).trans ((or_t hg41).trans rfl)))) rfl), trivial⟩
 refine s2 (v := .pointer (some ⟨b6, 3, none⟩)) hs (y_fieldAddr rfl (FO.of (off := 3) Tryz.underlying57 rfl rfl ti55 (by decide))) fun hs => s2 (v := v1) hs (y_ld rfl Tryz.underlying55 rfl (Cell.blk (.head _) rfl)) fun hs => s2 hs (y_lenW hR3 hW4 rfl Tryz.underlying55) fun hs => s2 hs (y_gtr rfl rfl) fun hs => sP (v := .bool (decide (64 < (p0.Attrs.length : Int)))) hs rfl rfl fun hs => RL_nil ?_
 exact hs.sub ⟨rfl, (lkB (((or_f hg39).trans ((or_f hg40).trans ((or_f hg41).trans rfl)))) rfl), trivial⟩
def dom_linked_k2 : Option Bool :=
  some true
def dom_linked_k4 (y41 : Int) (lp42 : Int → Option Bool) (y59 : Bool) : Option Bool :=
  (bif y59 then some false else
  lp42 (w64 (y41 + 1)))
def dom_linked_l3 (p0 : api_Tree) (y36 : (List Int)) : Nat → Int → Option Bool
  | 0, _ => none
  | k42 + 1, y41 =>
  (bif (decide (y41 < (p0.Nodes.length : Int))) then (geti p0.Nodes y41).bind fun x44 =>
  (geti y36 y41).bind fun x61 =>
  (bif (decide (x44.Last ≠ x61)) then dom_linked_k4 y41 (dom_linked_l3 p0 y36 k42) true else
  (geti y36 y41).bind fun x69 =>
  (bif (decide (x69 = (-1))) then (bif (decide (x44.First ≠ (-1))) then dom_linked_k4 y41 (dom_linked_l3 p0 y36 k42) true else
  (geti y36 y41).bind fun x78 =>
  (bif (decide (x78 ≠ (-1))) then (geti y36 y41).bind fun x86 =>
  (geti p0.Nodes x86).bind fun x93 =>
  dom_linked_k4 y41 (dom_linked_l3 p0 y36 k42) (decide (x93.Next ≠ (-1))) else
  dom_linked_k4 y41 (dom_linked_l3 p0 y36 k42) false)) else
  (geti y36 y41).bind fun x105 =>
  (bif (decide (x105 ≠ (-1))) then (geti y36 y41).bind fun x113 =>
  (geti p0.Nodes x113).bind fun x120 =>
  dom_linked_k4 y41 (dom_linked_l3 p0 y36 k42) (decide (x120.Next ≠ (-1))) else
  dom_linked_k4 y41 (dom_linked_l3 p0 y36 k42) false))) else
  dom_linked_k2)
def dom_linked_k1 (n : Nat) (p0 : api_Tree) (y36 : (List Int)) : Option Bool :=
  dom_linked_l3 p0 y36 n 0
def dom_linked_k6 (y142 : Int) (lp143 : (List Int) → (List Int) → Int → Option Bool) (y145 : (List Int)) (y150 : (List Int)) : Option Bool :=
  lp143 y145 y150 (w64 (y142 + 1))
def dom_linked_k10 (y142 : Int) (lp143 : (List Int) → (List Int) → Int → Option Bool) (x213 : (List Int)) (y218 : (List Int)) : Option Bool :=
  dom_linked_k6 y142 lp143 y218 x213
def dom_linked_k9 (y142 : Int) (lp143 : (List Int) → (List Int) → Int → Option Bool) (x155 : api_Node) (x177 : (List Int)) (y197 : (List Int)) (y204 : Bool) : Option Bool :=
  (bif y204 then some false else
  (geti x177 x155.Parent).bind fun x206 =>
  (seti x177 x155.Parent y142).bind fun x213 =>
  (bif (decide (x155.Kind = 1)) then (appM 8 y197 [y142]).bind fun x229 =>
  dom_linked_k10 y142 lp143 x213 x229 else
  dom_linked_k10 y142 lp143 x213 y197))
def dom_linked_k8 (p0 : api_Tree) (y142 : Int) (lp143 : (List Int) → (List Int) → Int → Option Bool) (x155 : api_Node) (x177 : (List Int)) (y197 : (List Int)) (y202 : Bool) : Option Bool :=
  (bif y202 then some false else
  (bif (decide (x155.Prev = (-1))) then (geti p0.Nodes x155.Parent).bind fun x236 =>
  (bif (decide (x236.First ≠ y142)) then dom_linked_k9 y142 lp143 x155 x177 y197 true else
  (bif (decide (x155.Prev ≠ (-1))) then (geti p0.Nodes x155.Prev).bind fun x250 =>
  dom_linked_k9 y142 lp143 x155 x177 y197 (decide (x250.Next ≠ y142)) else
  dom_linked_k9 y142 lp143 x155 x177 y197 false)) else
  (bif (decide (x155.Prev ≠ (-1))) then (geti p0.Nodes x155.Prev).bind fun x263 =>
  dom_linked_k9 y142 lp143 x155 x177 y197 (decide (x263.Next ≠ y142)) else
  dom_linked_k9 y142 lp143 x155 x177 y197 false)))
def dom_linked_k7 (p0 : api_Tree) (y142 : Int) (lp143 : (List Int) → (List Int) → Int → Option Bool) (x155 : api_Node) (x177 : (List Int)) (y197 : (List Int)) : Option Bool :=
  (bif (decide ((y197.length : Int) = 0)) then dom_linked_k8 p0 y142 lp143 x155 x177 y197 true else
  (geti x177 x155.Parent).bind fun x276 =>
  dom_linked_k8 p0 y142 lp143 x155 x177 y197 (decide (x155.Prev ≠ x276)))
def dom_linked_k12 (p0 : api_Tree) (y142 : Int) (lp143 : (List Int) → (List Int) → Int → Option Bool) (x155 : api_Node) (x177 : (List Int)) (y283 : (List Int)) (lp288 : (List Int) → Option Bool) (y289 : Bool) : Option Bool :=
  (bif y289 then (cutM y283 (0 : Int) (w64 ((y283.length : Int) - 1))).bind fun x291 =>
  lp288 x291 else
  dom_linked_k7 p0 y142 lp143 x155 x177 y283)
def dom_linked_l11 (p0 : api_Tree) (y142 : Int) (lp143 : (List Int) → (List Int) → Int → Option Bool) (x155 : api_Node) (x177 : (List Int)) : Nat → (List Int) → Option Bool
  | 0, _ => none
  | k288 + 1, y283 =>
  (bif (decide (0 < (y283.length : Int))) then (geti y283 (w64 ((y283.length : Int) - 1))).bind fun x299 =>
  dom_linked_k12 p0 y142 lp143 x155 x177 y283 (dom_linked_l11 p0 y142 lp143 x155 x177 k288) (decide (x299 ≠ x155.Parent)) else
  dom_linked_k12 p0 y142 lp143 x155 x177 y283 (dom_linked_l11 p0 y142 lp143 x155 x177 k288) false)
def dom_linked_l5 (n : Nat) (p0 : api_Tree) : Nat → (List Int) → (List Int) → Int → Option Bool
  | 0, _, _, _ => none
  | k143 + 1, y132, y137, y142 =>
  (bif (decide (y142 < (p0.Nodes.length : Int))) then (geti p0.Nodes y142).bind fun x155 =>
  (geti y137 y142).bind fun x170 =>
  (seti y137 y142 (-1)).bind fun x177 =>
  (dom_alone n x155).bind fun x182 =>
  (bif (!x182) then some false else
  (bif (decide (y142 = 0)) then (appM 8 y132 [0]).bind fun x191 =>
  dom_linked_k6 y142 (dom_linked_l5 n p0 k143) x191 x177 else
  dom_linked_l11 p0 y142 (dom_linked_l5 n p0 k143) x155 x177 n y132)) else
  dom_linked_k1 n p0 y137)
def dom_linked (n : Nat) (p0 : api_Tree) : Option Bool :=
  (geti p0.Nodes 0).bind fun x8 =>
  (bif ((decide (x8.Kind ≠ 1)) || ((decide (x8.Parent ≠ (-1))) || ((decide (x8.Prev ≠ (-1))) || (decide (x8.Next ≠ (-1)))))) then some false else
  (repM 8 (p0.Nodes.length : Int) (0 : Int)).bind fun x29 =>
  dom_linked_l5 n p0 n ([] : List Int) x29 0)
theorem dom_linked_ok (n : Nat) {f : Fz} {p0 : api_Tree} {a0 : List Value} {res : Bool} (h0 : t_api_Tree.R f a0 p0) (hm : dom_linked n p0 = some res) : Gives Tryz.prog 61 [.agg a0.toArray] f (.bool res) := by
 unfold dom_linked at hm
 intro w0 L w hC
 obtain ⟨v1, rfl, ⟨rw2, hR3, hW4⟩⟩ := h0
 refine enter Tryz.func61 rfl Tryz.ntmps61 (by simp) hC fun a hs => ?_
 have hle := Fz.le.refl f
 refine Wq fun hK1 => sbox hs rfl fun b6 _ _ hs => sA (v := .bool (false)) hs rfl fun hs => RL_nil <| hK1 <| Wq fun hK2 => s1 (v := .pointer (some ⟨b6, 0, none⟩)) hs (y_fieldAddr rfl (FO.of (off := 0) Tryz.underlying37 rfl rfl ti35 (by decide))) fun hs => s1 (v := v1) hs (y_ld rfl Tryz.underlying35 rfl (Cell.blk (.head _) rfl)) fun hs => ?_
 obtain ⟨x8, hx9, hm⟩ := ob hm
 obtain ⟨r10, hr11, hq12, hi13, hb14⟩ := hW4.geti hx9
 obtain ⟨v15, rfl, ⟨rw16, hR17, hW18⟩⟩ := hq12
 refine s1 hs (y_indexAddr hR3 rfl rfl hi13 hb14 Tryz.underlying35 ti57) fun hs => s1 hs (y_loadRow hR3.up rfl hr11 Tryz.underlying57 rfl ti57) fun hs => RL_alloc hs ti57 (.free rfl) (by decide) fun b20 _ _ hs => RL_storeAll (i := 0) hs rfl rfl rfl ti57 ⟨rfl, rfl⟩ (AllC.arr (r := [.int .i64 (x8.Kind), .string (x8.Name), .string (x8.Text), v15, .int .i64 (x8.Parent), .int .i64 (x8.First), .int .i64 (x8.Last), .int .i64 (x8.Prev), .int .i64 (x8.Next)]) ⟨rfl, rfl, rfl, hR17.one, rfl, rfl, rfl, rfl, rfl, trivial⟩) (.free rfl) fun _ _ hs => RL_nil <| hK2 <| Ws fun hK3 => Ws fun hK4 => ?_
 refine W_post (fun a w => St 178 w0 f (.blk b20 (.cells #[.int .i64 (x8.Kind), .string (x8.Name), .string (x8.Text), v15, .int .i64 (x8.Parent), .int .i64 (x8.First), .int .i64 (x8.Last), .int .i64 (x8.Prev), .int .i64 (x8.Next)] 57 (0, 0)) :: .blk b6 (.cells #[v1] 37 (0, 0)) :: L) [(1, .pointer (some ⟨b6, 0, none⟩)), (31, .bool (((decide (x8.Kind ≠ 1)) || ((decide (x8.Parent ≠ (-1))) || ((decide (x8.Prev ≠ (-1))) || (decide (x8.Next ≠ (-1))))))))] a w) ?_ ?_
 ·clear hs; intro a w hs
  refine hK4 ?_
  refine W_cond hs rfl (fun hg23 => ?_) (fun hg23 => ?_)
  ·replace hm := oc_t hg23 hm
   refine Wq fun hK5 => sA (v := .bool (false)) hs rfl fun hs => RL_nil <| hK5 <| W_ret ?_
   obtain rfl := Option.some.inj hm
   refine RtV1 hs rfl (rv_t hs rfl) ?_
   exact ⟨rfl, ((hs.subL (.cons _ (.cons _ (.refl _)))).weak hle).cw⟩
  replace hm := oc_f hg23 hm
  refine W_skip <| hK3 <| Wq fun hK6 => RL_bs0 hs Tryz.underlying78 ti3 fun v24 _ _ hs => ?_
  have hW25 : RW (tInt .i64) f [] ([] : List Int) := trivial
  generalize hgrw26 : ([] : List (List Value)) = rw26 at hs hW25; clear hgrw26
  refine sA (v := v24) hs rfl fun hs => RL_nil <| hK6 <| Wq fun hK7 => s1 (v := .pointer (some ⟨b6, 0, none⟩)) hs (y_fieldAddr rfl (FO.of (off := 0) Tryz.underlying37 rfl rfl ti35 (by decide))) fun hs => s1 (v := v1) hs (y_ld rfl Tryz.underlying35 rfl (Cell.blk (.tail _ (.tail _ (.head _))) rfl)) fun hs => s1 hs (y_lenW hR3 hW4 rfl Tryz.underlying35) fun hs => ?_
  obtain ⟨x29, hx30, hm⟩ := ob hm
  obtain ⟨hix29, hbx29, hex29⟩ := repM_some hx30
  refine RL_makeW hs rfl rfl hix29 Tryz.underlying78 ti3 (by decide) (AllC.row ⟨rfl, trivial⟩ rfl) hbx29 fun v31 _ _ hs => ?_
  replace hs : St _ _ _ (.row v31 3 1 (List.replicate (p0.Nodes.length : Int).toNat ([.int .i64 (0)] : List Value)) :: .row v24 3 1 rw26 :: .blk b20 (.cells #[.int .i64 (x8.Kind), .string (x8.Name), .string (x8.Text), v15, .int .i64 (x8.Parent), .int .i64 (x8.First), .int .i64 (x8.Last), .int .i64 (x8.Prev), .int .i64 (x8.Next)] 57 (0, 0)) :: .blk b6 (.cells #[v1] 37 (0, 0)) :: L) _ _ _ := hs
  have hW33 : RW (tInt .i64) f (List.replicate (p0.Nodes.length : Int).toNat ([.int .i64 (0)] : List Value)) x29 := by rw [← hex29]; exact RW.rep (t := (tInt .i64)) (r := [.int .i64 (0)]) (rfl) _
  generalize hgx29 : (List.replicate (p0.Nodes.length : Int).toNat ([.int .i64 (0)] : List Value)) = rw32 at hs hW33; clear hgx29
  replace hs : St _ _ _ (.row v31 3 1 rw32 :: .row v24 3 1 rw26 :: .blk b20 (.cells #[.int .i64 (x8.Kind), .string (x8.Name), .string (x8.Text), v15, .int .i64 (x8.Parent), .int .i64 (x8.First), .int .i64 (x8.Last), .int .i64 (x8.Prev), .int .i64 (x8.Next)] 57 (0, 0)) :: .blk b6 (.cells #[v1] 37 (0, 0)) :: L) _ _ _ := hs
  refine sA (v := v31) hs rfl fun hs => RL_nil <| hK7 <| Ws fun hK8 => Wq fun hK9 => s1 (v := .pointer (some ⟨b6, 0, none⟩)) hs (y_fieldAddr rfl (FO.of (off := 0) Tryz.underlying37 rfl rfl ti35 (by decide))) fun hs => s1 (v := v1) hs (y_ld rfl Tryz.underlying35 rfl (Cell.blk (.tail _ (.tail _ (.tail _ (.head _)))) rfl)) fun hs => s1 hs (y_lenW hR3 hW4 rfl Tryz.underlying35) fun hs => sM (v := .int .i64 (0)) hs rfl fun hs => ?_
  refine RL_nil <| hK9 ?_
  refine W_post (fun a w => ∃ (y36 : (List Int)) (v37 : Value) (rw38 : List (List Value)), dom_linked_k1 n p0 y36 = some res ∧ RW (tInt .i64) f rw38 y36 ∧ St 178 w0 f (.row v37 3 1 rw38 :: .blk b6 (.cells #[v1] 37 (0, 0)) :: L) [(1, .pointer (some ⟨b6, 0, none⟩)), (5, v37)] a w) ?_ ?_
  ·clear hs hm
   rintro a w ⟨y36, v37, rw38, hm, hW39, hs⟩
   replace hs : St _ _ _ (.row v37 3 1 rw38 :: .blk b6 (.cells #[v1] 37 (0, 0)) :: L) _ _ _ := hs
   unfold dom_linked_k1 at hm
   refine hK8 <| Ws fun hK10 => Wq fun hK11 => s1 (v := .pointer (some ⟨b6, 0, none⟩)) hs (y_fieldAddr rfl (FO.of (off := 0) Tryz.underlying37 rfl rfl ti35 (by decide))) fun hs => s1 (v := v1) hs (y_ld rfl Tryz.underlying35 rfl (Cell.blk (.tail _ (.head _)) rfl)) fun hs => s1 hs (y_lenW hR3 hW4 rfl Tryz.underlying35) fun hs => sM (v := .int .i64 (0)) hs rfl fun hs => RL_nil <| hK11 ?_
   refine W_post (fun a w => dom_linked_k2 = some res ∧ St 178 w0 f (L) [] a w) ?_ ?_
   ·clear hs hm
    rintro a w ⟨hm, hs⟩
    replace hs : St _ _ _ (L) _ _ _ := hs
    unfold dom_linked_k2 at hm
    refine hK10 <| Wq fun hK12 => sA (v := .bool (true)) hs rfl fun hs => RL_nil <| hK12 <| W_ret ?_
    obtain rfl := Option.some.inj hm
    refine RtV1 hs rfl (rv_t hs rfl) ?_
    exact ⟨rfl, (hs.weak hle).cw⟩
   refine W_block fun Qe13 hB13 hO13 => W_loop (fun (k : Nat) a w => ∃ (y41 : Int), dom_linked_l3 p0 y36 k y41 = some res ∧ St 178 w0 f (.row v37 3 1 rw38 :: .blk b6 (.cells #[v1] 37 (0, 0)) :: L) [(1, .pointer (some ⟨b6, 0, none⟩)), (5, v37), (132, v1), (133, .int .i64 ((p0.Nodes.length : Int))), (134, .int .i64 (y41))] a w) (fun k => k) n ⟨0, hm, hs.sub ⟨rfl, rfl, rfl, rfl, rfl, trivial⟩⟩ ?_
   clear hs hm
   intro k
   rintro a w ⟨y41, hm, hs⟩
   replace hs : St _ _ _ (.row v37 3 1 rw38 :: .blk b6 (.cells #[v1] 37 (0, 0)) :: L) _ _ _ := hs
   intro K14 hK14
   cases k with
   | zero => simp [dom_linked_l3] at hm
   | succ k42 =>
    rw [dom_linked_l3] at hm
    refine Wq fun hK15 => s1 hs (y_lss rfl rfl) fun hs => RL_nil <| hK15 <| Ws fun hK16 => ?_
    refine W_cond hs rfl (fun hg43 => ?_) (fun hg43 => ?_)
    ·replace hm := oc_t hg43 hm
     refine W_skip <| hK16 <| Ws fun hK17 => W_block fun Qe18 hB18 hO18 => Wq fun hK19 => sM (v := .int .i64 (y41)) hs rfl fun hs => ?_
     obtain ⟨x44, hx45, hm⟩ := ob hm
     obtain ⟨r46, hr47, hq48, hi49, hb50⟩ := hW4.geti hx45
     obtain ⟨v51, rfl, ⟨rw52, hR53, hW54⟩⟩ := hq48
     refine s1 hs (y_indexAddr hR3 rfl rfl hi49 hb50 Tryz.underlying35 ti57) fun hs => s1 hs (y_loadRow hR3.up rfl hr47 Tryz.underlying57 rfl ti57) fun hs => RL_alloc hs ti57 (.free rfl) (by decide) fun b56 _ _ hs => ?_
     replace hs : St _ _ _ (.blk b56 (.cells #[.int .i64 (0), .string ((bs [])), .string ((bs [])), (.slice none 0 0), .int .i64 (0), .int .i64 (0), .int .i64 (0), .int .i64 (0), .int .i64 (0)] 57 (0, 0)) :: .row v37 3 1 rw38 :: .blk b6 (.cells #[v1] 37 (0, 0)) :: L) _ _ _ := hs
     refine sA (v := .int .i64 (y41)) hs rfl fun hs => RL_storeAll (i := 0) hs rfl rfl rfl ti57 ⟨rfl, rfl⟩ (AllC.arr (r := [.int .i64 (x44.Kind), .string (x44.Name), .string (x44.Text), v51, .int .i64 (x44.Parent), .int .i64 (x44.First), .int .i64 (x44.Last), .int .i64 (x44.Prev), .int .i64 (x44.Next)]) ⟨rfl, rfl, rfl, hR53.one, rfl, rfl, rfl, rfl, rfl, trivial⟩) (.free rfl) fun _ _ hs => ?_
     replace hs : St _ _ _ (.blk b56 (.cells #[.int .i64 (x44.Kind), .string (x44.Name), .string (x44.Text), v51, .int .i64 (x44.Parent), .int .i64 (x44.First), .int .i64 (x44.Last), .int .i64 (x44.Prev), .int .i64 (x44.Next)] 57 (0, 0)) :: .row v37 3 1 rw38 :: .blk b6 (.cells #[v1] 37 (0, 0)) :: L) _ _ _ := hs
     refine RL_nil <| hK19 <| Ws fun hK20 => ?_
     refine W_post (fun a w => ∃ (y59 : Bool), dom_linked_k4 y41 (dom_linked_l3 p0 y36 k42) y59 = some res ∧ St 178 w0 f (.row v37 3 1 rw38 :: .blk b6 (.cells #[v1] 37 (0, 0)) :: L) [(1, .pointer (some ⟨b6, 0, none⟩)), (5, v37), (132, v1), (133, .int .i64 ((p0.Nodes.length : Int))), (134, .int .i64 (y41)), (176, .bool (y59))] a w) ?_ ?_
     ·clear hs hm
      rintro a w ⟨y59, hm, hs⟩
      replace hs : St _ _ _ (.row v37 3 1 rw38 :: .blk b6 (.cells #[v1] 37 (0, 0)) :: L) _ _ _ := hs
      unfold dom_linked_k4 at hm
      refine hK20 ?_
      refine W_cond hs rfl (fun hg60 => ?_) (fun hg60 => ?_)
      ·replace hm := oc_t hg60 hm
       refine Wq fun hK21 => sA (v := .bool (false)) hs rfl fun hs => RL_nil <| hK21 <| W_ret ?_
       obtain rfl := Option.some.inj hm
       refine RtV1 hs rfl (rv_t hs rfl) ?_
       exact ⟨rfl, ((hs.subL (.cons _ (.cons _ (.refl _)))).weak hle).cw⟩
      replace hm := oc_f hg60 hm
      refine W_skip <| hK17 <| W_region <| s1 hs (y_add rfl rfl rfl) fun hs => sM (v := .int .i64 ((w64 (y41 + 1)))) hs rfl fun hs => RL_nil ?_
      exact hK14 k42 _ _ (Nat.lt_succ_self _) ⟨(w64 (y41 + 1)), hm, hs.sub ⟨rfl, rfl, rfl, rfl, rfl, trivial⟩⟩
     refine W_draw hs mixed (by kernel_rfl) ?_; intro a he
     refine qy (v := .pointer (some ⟨b56, 6, none⟩)) he (y_fieldAddr rfl (FO.of (off := 6) Tryz.underlying57 rfl rfl ti3 (by decide))) fun _ he => qy (v := .int .i64 (x44.Last)) he (y_ld rfl Tryz.underlying3 rfl (Cell.blk (.head _) rfl)) fun _ he => qy (v := v37) he (y_move rfl) fun _ he => qy (v := .int .i64 (y41)) he (y_move rfl) fun _ he => ?_
     obtain ⟨x61, hx62, hm⟩ := ob hm
     obtain ⟨r63, hr64, hq65, hi66, hb67⟩ := hW39.geti hx62
     obtain rfl : _ = ([.int .i64 (x61)] : List Value) := hq65
     refine qy he (y_indexAddr (Rd.st hs (.tail _ (.head _))) rfl rfl hi66 hb67 Tryz.underlying78 ti3) fun _ he => qy (v := .int .i64 (x61)) he (y_loadE (i := y41.toNat) (j := 0) (Rd.st hs (.tail _ (.head _))) rfl hr64 rfl Tryz.underlying3 rfl) fun _ he => qy he (y_neq rfl rfl) fun _ he => qy (v := .bool (decide (x44.Last ≠ x61))) he (y_move rfl) fun _ he => ?_
     refine Ev.split he (t := 146) rfl (fun hg68 hq => ?_) (fun hg68 hq => ?_)
     ·clear he; have he := hq; clear hq
      replace hm := oc_t hg68 hm
      refine qno he fun _ he => qno he fun _ he => qno he fun _ he => qno he fun _ he => qno he fun _ he => qno he fun _ he => qun he fun _ he => qun he fun _ he => qun he fun _ he => qno he fun _ he => ?_
      refine qy (v := .bool (true)) he (y_pick rfl rfl) fun _ he => qy (v := .bool (true)) he (y_move rfl) fun _ he => qno he fun _ he => qno he fun _ he => qno he fun _ he => qno he fun _ he => qno he fun _ he => qno he fun _ he => qun he fun _ he => qun he fun _ he => ?_
      refine qun he fun _ he => qun he fun _ he => qun he fun _ he => qun he fun _ he => qun he fun _ he => qun he fun _ he => qun he fun _ he => qun he fun _ he => qno he fun _ he => qy (v := .bool (true)) he (y_pick rfl rfl) fun _ he => ?_
      refine QL_nil he ?_; clear he; (try clear hs); (try clear a); intro a w hs
      exact ⟨true, hm, hs.subs ⟨rfl, rfl, rfl, rfl, rfl, rfl, trivial⟩ (.cons _ (.cons_cons _ (.cons_cons _ (.refl _))))⟩
     clear he; have he := hq; clear hq
     replace hm := oc_f hg68 hm
     refine qyg (v := v37) he (y_move rfl) fun _ he => qyg (v := .int .i64 (y41)) he (y_move rfl) fun _ he => ?_
     obtain ⟨x69, hx70, hm⟩ := ob hm
     obtain ⟨r71, hr72, hq73, hi74, hb75⟩ := hW39.geti hx70
     obtain rfl : _ = ([.int .i64 (x69)] : List Value) := hq73
     refine qyg he (y_indexAddr (Rd.st hs (.tail _ (.head _))) rfl rfl hi74 hb75 Tryz.underlying78 ti3) fun _ he => qyg (v := .int .i64 (x69)) he (y_loadE (i := y41.toNat) (j := 0) (Rd.st hs (.tail _ (.head _))) rfl hr72 rfl Tryz.underlying3 rfl) fun _ he => qyg he (y_eql rfl rfl) fun _ he => qyg (v := .bool (decide (x69 = (-1)))) he (y_move rfl) fun _ he => ?_
     refine Ev.split he (t := 152) rfl (fun hg76 hq => ?_) (fun hg76 hq => ?_)
     ·clear he; have he := hq; clear hq
      replace hm := oc_t hg76 hm
      refine qyg (v := .pointer (some ⟨b56, 5, none⟩)) he (y_fieldAddr rfl (FO.of (off := 5) Tryz.underlying57 rfl rfl ti3 (by decide))) fun _ he => qyg (v := .int .i64 (x44.First)) he (y_ld rfl Tryz.underlying3 rfl (Cell.blk (.head _) rfl)) fun _ he => qyg he (y_neq rfl rfl) fun _ he => qyg (v := .bool (decide (x44.First ≠ (-1)))) he (y_pick rfl rfl) fun _ he => qy (v := .bool (decide (x44.First ≠ (-1)))) he (y_pick rfl rfl) fun _ he => qy (v := .bool (decide (x44.First ≠ (-1)))) he (y_move rfl) fun _ he => ?_
      refine Ev.split he (t := 158) rfl (fun hg77 hq => ?_) (fun hg77 hq => ?_)
      ·clear he; have he := hq; clear hq
       replace hm := oc_t hg77 hm
       refine qno he fun _ he => qno he fun _ he => qno he fun _ he => qno he fun _ he => qno he fun _ he => qno he fun _ he => qun he fun _ he => qun he fun _ he => qun he fun _ he => qun he fun _ he => ?_
       refine qun he fun _ he => qun he fun _ he => qun he fun _ he => qun he fun _ he => qun he fun _ he => qun he fun _ he => qno he fun _ he => qy (v := .bool (true)) he (y_pick rfl rfl) fun _ he => ?_
       refine QL_nil he ?_; clear he; (try clear hs); (try clear a); intro a w hs
       exact ⟨true, hm, hs.subs ⟨rfl, rfl, rfl, rfl, rfl, rfl, trivial⟩ (.cons _ (.cons_cons _ (.cons_cons _ (.refl _))))⟩
      clear he; have he := hq; clear hq
      replace hm := oc_f hg77 hm
      refine qyg (v := v37) he (y_move rfl) fun _ he => qyg (v := .int .i64 (y41)) he (y_move rfl) fun _ he => ?_
      obtain ⟨x78, hx79, hm⟩ := ob hm
      obtain ⟨r80, hr81, hq82, hi83, hb84⟩ := hW39.geti hx79
      obtain rfl : _ = ([.int .i64 (x78)] : List Value) := hq82
      refine qyg he (y_indexAddr (Rd.st hs (.tail _ (.head _))) rfl rfl hi83 hb84 Tryz.underlying78 ti3) fun _ he => qyg (v := .int .i64 (x78)) he (y_loadE (i := y41.toNat) (j := 0) (Rd.st hs (.tail _ (.head _))) rfl hr81 rfl Tryz.underlying3 rfl) fun _ he => qyg he (y_neq rfl rfl) fun _ he => qyg (v := .bool (decide (x78 ≠ (-1)))) he (y_move rfl) fun _ he => ?_
      refine Ev.split he (t := 164) rfl (fun hg85 hq => ?_) (fun hg85 hq => ?_)
      ·clear he; have he := hq; clear hq
       replace hm := oc_t hg85 hm
       refine qyg (v := .pointer (some ⟨b6, 0, none⟩)) he (y_fieldAddr rfl (FO.of (off := 0) Tryz.underlying37 rfl rfl ti35 (by decide))) fun _ he => qyg (v := v1) he (y_ld rfl Tryz.underlying35 rfl (Cell.blk (.tail _ (.tail _ (.head _))) rfl)) fun _ he => qyg (v := v37) he (y_move rfl) fun _ he => qyg (v := .int .i64 (y41)) he (y_move rfl) fun _ he => ?_
       obtain ⟨x86, hx87, hm⟩ := ob hm
       obtain ⟨r88, hr89, hq90, hi91, hb92⟩ := hW39.geti hx87
       obtain rfl : _ = ([.int .i64 (x86)] : List Value) := hq90
       refine qyg he (y_indexAddr (Rd.st hs (.tail _ (.head _))) rfl rfl hi91 hb92 Tryz.underlying78 ti3) fun _ he => qyg (v := .int .i64 (x86)) he (y_loadE (i := y41.toNat) (j := 0) (Rd.st hs (.tail _ (.head _))) rfl hr89 rfl Tryz.underlying3 rfl) fun _ he => ?_
       obtain ⟨x93, hx94, hm⟩ := ob hm
       obtain ⟨r95, hr96, hq97, hi98, hb99⟩ := hW4.geti hx94
       obtain ⟨v100, rfl, ⟨rw101, hR102, hW103⟩⟩ := hq97
       refine qyg he (y_indexAddr hR3 rfl rfl hi98 hb99 Tryz.underlying35 ti57) fun _ he => qyg (v := eaddr v1 9 x86.toNat 8) he (y_fieldAddrE (i := x86.toNat) (j := 0) hR3 rfl hb99 (FO.of (off := 8) Tryz.underlying57 rfl rfl ti3 (by decide))) fun _ he => qyg (v := .int .i64 (x93.Next)) he (y_loadE (i := x86.toNat) (j := 8) hR3.up rfl hr96 rfl Tryz.underlying3 rfl) fun _ he => qyg he (y_neq rfl rfl) fun _ he => qyg (v := .bool (decide (x93.Next ≠ (-1)))) he (y_pick rfl rfl) fun _ he => qy (v := .bool (decide (x93.Next ≠ (-1)))) he (y_pick rfl rfl) fun _ he => ?_
       refine QL_nil he ?_; clear he; (try clear hs); (try clear a); intro a w hs
       exact ⟨decide (x93.Next ≠ (-1)), hm, hs.subs ⟨rfl, rfl, rfl, rfl, rfl, rfl, trivial⟩ (.cons _ (.cons_cons _ (.cons_cons _ (.refl _))))⟩
      clear he; have he := hq; clear hq
      replace hm := oc_f hg85 hm
      refine qno he fun _ he => qno he fun _ he => qno he fun _ he => qno he fun _ he => qno he fun _ he => qno he fun _ he => qno he fun _ he => qno he fun _ he => qno he fun _ he => qno he fun _ he => ?_
      refine qyg (v := .bool (false)) he (y_pick rfl rfl) fun _ he => qy (v := .bool (false)) he (y_pick rfl rfl) fun _ he => ?_
      refine QL_nil he ?_; clear he; (try clear hs); (try clear a); intro a w hs
      exact ⟨false, hm, hs.subs ⟨rfl, rfl, rfl, rfl, rfl, rfl, trivial⟩ (.cons _ (.cons_cons _ (.cons_cons _ (.refl _))))⟩
     clear he; have he := hq; clear hq
     replace hm := oc_f hg76 hm
     refine qno he fun _ he => qno he fun _ he => qno he fun _ he => qyg (v := .bool (false)) he (y_pick rfl rfl) fun _ he => qy (v := .bool (false)) he (y_pick rfl rfl) fun _ he => qy (v := .bool (false)) he (y_move rfl) fun _ he => qyg (v := v37) he (y_move rfl) fun _ he => qyg (v := .int .i64 (y41)) he (y_move rfl) fun _ he => ?_
     obtain ⟨x105, hx106, hm⟩ := ob hm
     obtain ⟨r107, hr108, hq109, hi110, hb111⟩ := hW39.geti hx106
     obtain rfl : _ = ([.int .i64 (x105)] : List Value) := hq109
     refine qyg he (y_indexAddr (Rd.st hs (.tail _ (.head _))) rfl rfl hi110 hb111 Tryz.underlying78 ti3) fun _ he => qyg (v := .int .i64 (x105)) he (y_loadE (i := y41.toNat) (j := 0) (Rd.st hs (.tail _ (.head _))) rfl hr108 rfl Tryz.underlying3 rfl) fun _ he => qyg he (y_neq rfl rfl) fun _ he => qyg (v := .bool (decide (x105 ≠ (-1)))) he (y_move rfl) fun _ he => ?_
     refine Ev.split he (t := 164) rfl (fun hg112 hq => ?_) (fun hg112 hq => ?_)
     ·clear he; have he := hq; clear hq
      replace hm := oc_t hg112 hm
      refine qyg (v := .pointer (some ⟨b6, 0, none⟩)) he (y_fieldAddr rfl (FO.of (off := 0) Tryz.underlying37 rfl rfl ti35 (by decide))) fun _ he => qyg (v := v1) he (y_ld rfl Tryz.underlying35 rfl (Cell.blk (.tail _ (.tail _ (.head _))) rfl)) fun _ he => qyg (v := v37) he (y_move rfl) fun _ he => qyg (v := .int .i64 (y41)) he (y_move rfl) fun _ he => ?_
      obtain ⟨x113, hx114, hm⟩ := ob hm
      obtain ⟨r115, hr116, hq117, hi118, hb119⟩ := hW39.geti hx114
      obtain rfl : _ = ([.int .i64 (x113)] : List Value) := hq117
      refine qyg he (y_indexAddr (Rd.st hs (.tail _ (.head _))) rfl rfl hi118 hb119 Tryz.underlying78 ti3) fun _ he => qyg (v := .int .i64 (x113)) he (y_loadE (i := y41.toNat) (j := 0) (Rd.st hs (.tail _ (.head _))) rfl hr116 rfl Tryz.underlying3 rfl) fun _ he => ?_
      obtain ⟨x120, hx121, hm⟩ := ob hm
      obtain ⟨r122, hr123, hq124, hi125, hb126⟩ := hW4.geti hx121
      obtain ⟨v127, rfl, ⟨rw128, hR129, hW130⟩⟩ := hq124
      refine qyg he (y_indexAddr hR3 rfl rfl hi125 hb126 Tryz.underlying35 ti57) fun _ he => qyg (v := eaddr v1 9 x113.toNat 8) he (y_fieldAddrE (i := x113.toNat) (j := 0) hR3 rfl hb126 (FO.of (off := 8) Tryz.underlying57 rfl rfl ti3 (by decide))) fun _ he => qyg (v := .int .i64 (x120.Next)) he (y_loadE (i := x113.toNat) (j := 8) hR3.up rfl hr123 rfl Tryz.underlying3 rfl) fun _ he => qyg he (y_neq rfl rfl) fun _ he => qyg (v := .bool (decide (x120.Next ≠ (-1)))) he (y_pick rfl rfl) fun _ he => qy (v := .bool (decide (x120.Next ≠ (-1)))) he (y_pick rfl rfl) fun _ he => ?_
      refine QL_nil he ?_; clear he; (try clear hs); (try clear a); intro a w hs
      exact ⟨decide (x120.Next ≠ (-1)), hm, hs.subs ⟨rfl, rfl, rfl, rfl, rfl, rfl, trivial⟩ (.cons _ (.cons_cons _ (.cons_cons _ (.refl _))))⟩
     clear he; have he := hq; clear hq
     replace hm := oc_f hg112 hm
     refine qno he fun _ he => qno he fun _ he => qno he fun _ he => qno he fun _ he => qno he fun _ he => qno he fun _ he => qno he fun _ he => qno he fun _ he => qno he fun _ he => qno he fun _ he => ?_
     refine qyg (v := .bool (false)) he (y_pick rfl rfl) fun _ he => qy (v := .bool (false)) he (y_pick rfl rfl) fun _ he => ?_
     refine QL_nil he ?_; clear he; (try clear hs); (try clear a); intro a w hs
     exact ⟨false, hm, hs.subs ⟨rfl, rfl, rfl, rfl, rfl, rfl, trivial⟩ (.cons _ (.cons_cons _ (.cons_cons _ (.refl _))))⟩
    replace hm := oc_f hg43 hm
    refine W_exit <| hB13 _ _ ?_
    exact ⟨hm, hs.subs trivial (.cons _ (.cons _ (.refl _)))⟩
  refine W_block fun Qe22 hB22 hO22 => W_loop (fun (k : Nat) a w => ∃ (y132 : (List Int)) (y137 : (List Int)) (y142 : Int) (v133 : Value) (rw134 : List (List Value)) (v138 : Value) (rw139 : List (List Value)), dom_linked_l5 n p0 k y132 y137 y142 = some res ∧ RW (tInt .i64) f rw134 y132 ∧ RW (tInt .i64) f rw139 y137 ∧ St 178 w0 f (.row v138 3 1 rw139 :: .row v133 3 1 rw134 :: .blk b6 (.cells #[v1] 37 (0, 0)) :: L) [(1, .pointer (some ⟨b6, 0, none⟩)), (4, v133), (5, v138), (38, v1), (39, .int .i64 ((p0.Nodes.length : Int))), (40, .int .i64 (y142))] a w) (fun k => k) n ⟨([] : List Int), x29, 0, v24, rw26, v31, rw32, hm, hW25, hW33, hs.subs ⟨rfl, rfl, rfl, rfl, rfl, rfl, trivial⟩ (.cons_cons _ (.cons_cons _ (.cons _ (.cons_cons _ (.refl _)))))⟩ ?_
  clear hs hm
  intro k
  rintro a w ⟨y132, y137, y142, v133, rw134, v138, rw139, hm, hW135, hW140, hs⟩
  intro K23 hK23
  cases k with
  | zero => simp [dom_linked_l5] at hm
  | succ k143 =>
   rw [dom_linked_l5] at hm
   refine Wq fun hK24 => s1 hs (y_lss rfl rfl) fun hs => RL_nil <| hK24 <| Ws fun hK25 => ?_
   refine W_cond hs rfl (fun hg144 => ?_) (fun hg144 => ?_)
   ·replace hm := oc_t hg144 hm
    refine W_skip <| hK25 <| Ws fun hK26 => ?_
    refine W_post (fun a w => ∃ (y145 : (List Int)) (y150 : (List Int)) (v146 : Value) (rw147 : List (List Value)) (v151 : Value) (rw152 : List (List Value)), dom_linked_k6 y142 (dom_linked_l5 n p0 k143) y145 y150 = some res ∧ RW (tInt .i64) f rw147 y145 ∧ RW (tInt .i64) f rw152 y150 ∧ St 178 w0 f (.row v151 3 1 rw152 :: .row v146 3 1 rw147 :: .blk b6 (.cells #[v1] 37 (0, 0)) :: L) [(1, .pointer (some ⟨b6, 0, none⟩)), (4, v146), (5, v151), (38, v1), (39, .int .i64 ((p0.Nodes.length : Int))), (40, .int .i64 (y142))] a w) ?_ ?_
    ·clear hs hm
     rintro a w ⟨y145, y150, v146, rw147, v151, rw152, hm, hW148, hW153, hs⟩
     unfold dom_linked_k6 at hm
     refine hK26 <| W_region <| s1 hs (y_add rfl rfl rfl) fun hs => sM (v := .int .i64 ((w64 (y142 + 1)))) hs rfl fun hs => RL_nil ?_
     exact hK23 k143 _ _ (Nat.lt_succ_self _) ⟨y145, y150, (w64 (y142 + 1)), v146, rw147, v151, rw152, hm, hW148, hW153, hs.sub ⟨rfl, rfl, rfl, rfl, rfl, rfl, trivial⟩⟩
    refine W_block fun Qe27 hB27 hO27 => Wq fun hK28 => sM (v := .int .i64 (y142)) hs rfl fun hs => ?_
    obtain ⟨x155, hx156, hm⟩ := ob hm
    obtain ⟨r157, hr158, hq159, hi160, hb161⟩ := hW4.geti hx156
    obtain ⟨v162, rfl, ⟨rw163, hR164, hW165⟩⟩ := hq159
    refine s1 hs (y_indexAddr hR3 rfl rfl hi160 hb161 Tryz.underlying35 ti57) fun hs => s1 hs (y_loadRow hR3.up rfl hr158 Tryz.underlying57 rfl ti57) fun hs => RL_alloc hs ti57 (.free rfl) (by decide) fun b167 _ _ hs => sA (v := .int .i64 (y142)) hs rfl fun hs => RL_storeAll (i := 0) hs rfl rfl rfl ti57 ⟨rfl, rfl⟩ (AllC.arr (r := [.int .i64 (x155.Kind), .string (x155.Name), .string (x155.Text), v162, .int .i64 (x155.Parent), .int .i64 (x155.First), .int .i64 (x155.Last), .int .i64 (x155.Prev), .int .i64 (x155.Next)]) ⟨rfl, rfl, rfl, hR164.one, rfl, rfl, rfl, rfl, rfl, trivial⟩) (.free rfl) fun _ _ hs => RL_nil <| hK28 <| Wq fun hK29 => sM (v := v138) hs rfl fun hs => ?_
    refine sM (v := .int .i64 (y142)) hs rfl fun hs => ?_
    obtain ⟨x170, hx171, hm⟩ := ob hm
    obtain ⟨r172, hr173, hq174, hi175, hb176⟩ := hW140.geti hx171
    obtain rfl : _ = ([.int .i64 (x170)] : List Value) := hq174
    refine s1 hs (y_indexAddr (Rd.st hs (.tail _ (.head _))) rfl rfl hi175 hb176 Tryz.underlying78 ti3) fun hs => ?_
    obtain ⟨x177, hx178, hm⟩ := ob hm
    have hex177 := seti_some hx178
    have hW180 := RW.set (i := y142.toNat) (r := [.int .i64 ((-1))]) (x := ((-1) : Int)) hW140 (rfl); rw [hex177] at hW180
    refine RL_storeRow (i := 1) (j := 0) (m := y142.toNat) hs rfl rfl rfl hr173 (by decide) ti3 rfl (.free rfl) fun _ _ hs => ?_
    replace hs : St _ _ _ (.blk b167 (.cells #[.int .i64 (x155.Kind), .string (x155.Name), .string (x155.Text), v162, .int .i64 (x155.Parent), .int .i64 (x155.First), .int .i64 (x155.Last), .int .i64 (x155.Prev), .int .i64 (x155.Next)] 57 (0, 0)) :: .row v138 3 1 (rw139.set y142.toNat [.int .i64 ((-1))]) :: .row v133 3 1 rw134 :: .blk b6 (.cells #[v1] 37 (0, 0)) :: L) _ _ _ := hs
    generalize hgrw179 : rw139.set y142.toNat [.int .i64 ((-1))] = rw179 at hs hW180; clear hgrw179
    refine RL_nil <| hK29 <| Ws fun hK30 => Wq fun hK31 => s1 hs (y_ldB rfl Tryz.underlying57 rfl ti57 (.head _) rfl) fun hs => ?_
    obtain ⟨x182, hx183, hm⟩ := ob hm
    refine s1 hs (y_call rfl has100 rfl (dom_alone_ok n (f := f) (a0 := [.int .i64 (x155.Kind), .string (x155.Name), .string (x155.Text), v162, .int .i64 (x155.Parent), .int .i64 (x155.First), .int .i64 (x155.Last), .int .i64 (x155.Prev), .int .i64 (x155.Next)]) ⟨_, rfl, ⟨rw163, hR164, hW165⟩⟩ hx183)) fun hs => s1 (v := .bool ((!x182))) hs (y_not rfl) fun hs => RL_nil <| hK31 ?_
    refine W_cond hs rfl (fun hg184 => ?_) (fun hg184 => ?_)
    ·replace hm := oc_t hg184 hm
     refine Wq fun hK32 => sA (v := .bool (false)) hs rfl fun hs => RL_nil <| hK32 <| W_ret ?_
     obtain rfl := Option.some.inj hm
     refine RtV1 hs rfl (rv_t hs rfl) ?_
     exact ⟨rfl, ((hs.subL (.cons _ (.cons _ (.cons _ (.cons _ (.refl _)))))).weak hle).cw⟩
    replace hm := oc_f hg184 hm
    refine W_skip <| hK30 <| Ws fun hK33 => Wq fun hK34 => sM (v := .int .i64 (y142)) hs rfl fun hs => s1 hs (y_eql rfl rfl) fun hs => RL_nil <| hK34 ?_
    refine W_cond hs rfl (fun hg185 => ?_) (fun hg185 => ?_)
    ·replace hm := oc_t hg185 hm
     refine Wq fun hK35 => sM (v := v133) hs rfl fun hs => RL_bs1s hs rfl Tryz.underlying78 ti3 rfl rfl fun v186 _ _ hs => ?_
     have hW187 : RW (tInt .i64) f [[.int .i64 (0)]] [0] := RW.single (rfl)
     generalize hgrw188 : ([[.int .i64 (0)]] : List (List Value)) = rw188 at hs hW187; clear hgrw188
     obtain ⟨x191, hx192, hm⟩ := ob hm
     obtain ⟨hbx191, hex191⟩ := appM_some hx192
     have hW195 := hW135.append hW187; rw [hex191] at hW195
     refine RL_append (i := 3) hs rfl rfl rfl (Rd.st hs (.head _)) Tryz.underlying78 ti3 (by decide) (by rw [RW.len hW135, RW.len hW187]; exact hbx191) (.free rfl) (by decide) fun v193 _ _ hs => ?_
     generalize hgx191 : rw134 ++ rw188 = rw194 at hs hW195; clear hgx191
     replace hs := hs.erase 0
     refine sA (v := v193) hs rfl fun hs => RL_nil <| hK35 <| W_exit <| hB27 _ _ ?_
     exact ⟨x191, x177, v193, rw194, v138, rw179, hm, hW195, hW180, hs.subs ⟨rfl, rfl, rfl, rfl, rfl, rfl, trivial⟩ (.cons _ (.cons_cons _ (.cons_cons _ (.cons_cons _ (.refl _)))))⟩
    replace hm := oc_f hg185 hm
    refine W_skip <| hK33 <| Ws fun hK36 => ?_
    refine W_post (fun a w => ∃ (y197 : (List Int)) (v198 : Value) (rw199 : List (List Value)), dom_linked_k7 p0 y142 (dom_linked_l5 n p0 k143) x155 x177 y197 = some res ∧ RW (tInt .i64) f rw199 y197 ∧ St 178 w0 f (.blk b167 (.cells #[.int .i64 (x155.Kind), .string (x155.Name), .string (x155.Text), v162, .int .i64 (x155.Parent), .int .i64 (x155.First), .int .i64 (x155.Last), .int .i64 (x155.Prev), .int .i64 (x155.Next)] 57 (0, 0)) :: .row v138 3 1 rw179 :: .row v198 3 1 rw199 :: .blk b6 (.cells #[v1] 37 (0, 0)) :: L) [(1, .pointer (some ⟨b6, 0, none⟩)), (4, v198), (5, v138), (6, .int .i64 (y142)), (7, .pointer (some ⟨b167, 0, none⟩)), (38, v1), (39, .int .i64 ((p0.Nodes.length : Int))), (40, .int .i64 (y142))] a w) ?_ ?_
    ·clear hs hm
     rintro a w ⟨y197, v198, rw199, hm, hW200, hs⟩
     unfold dom_linked_k7 at hm
     refine hK36 <| Ws fun hK37 => Ws fun hK38 => ?_
     refine W_post (fun a w => ∃ (y202 : Bool), dom_linked_k8 p0 y142 (dom_linked_l5 n p0 k143) x155 x177 y197 y202 = some res ∧ St 178 w0 f (.blk b167 (.cells #[.int .i64 (x155.Kind), .string (x155.Name), .string (x155.Text), v162, .int .i64 (x155.Parent), .int .i64 (x155.First), .int .i64 (x155.Last), .int .i64 (x155.Prev), .int .i64 (x155.Next)] 57 (0, 0)) :: .row v138 3 1 rw179 :: .row v198 3 1 rw199 :: .blk b6 (.cells #[v1] 37 (0, 0)) :: L) [(1, .pointer (some ⟨b6, 0, none⟩)), (4, v198), (5, v138), (6, .int .i64 (y142)), (7, .pointer (some ⟨b167, 0, none⟩)), (38, v1), (39, .int .i64 ((p0.Nodes.length : Int))), (40, .int .i64 (y142)), (87, .bool (y202))] a w) ?_ ?_
     ·clear hs hm
      rintro a w ⟨y202, hm, hs⟩
      unfold dom_linked_k8 at hm
      refine hK38 ?_
      refine W_cond hs rfl (fun hg203 => ?_) (fun hg203 => ?_)
      ·replace hm := oc_t hg203 hm
       refine Wq fun hK39 => sA (v := .bool (false)) hs rfl fun hs => RL_nil <| hK39 <| W_ret ?_
       obtain rfl := Option.some.inj hm
       refine RtV1 hs rfl (rv_t hs rfl) ?_
       exact ⟨rfl, ((hs.subL (.cons _ (.cons _ (.cons _ (.cons _ (.refl _)))))).weak hle).cw⟩
      replace hm := oc_f hg203 hm
      refine W_skip <| hK37 <| Ws fun hK40 => Ws fun hK41 => ?_
      refine W_post (fun a w => ∃ (y204 : Bool), dom_linked_k9 y142 (dom_linked_l5 n p0 k143) x155 x177 y197 y204 = some res ∧ St 178 w0 f (.blk b167 (.cells #[.int .i64 (x155.Kind), .string (x155.Name), .string (x155.Text), v162, .int .i64 (x155.Parent), .int .i64 (x155.First), .int .i64 (x155.Last), .int .i64 (x155.Prev), .int .i64 (x155.Next)] 57 (0, 0)) :: .row v138 3 1 rw179 :: .row v198 3 1 rw199 :: .blk b6 (.cells #[v1] 37 (0, 0)) :: L) [(1, .pointer (some ⟨b6, 0, none⟩)), (4, v198), (5, v138), (6, .int .i64 (y142)), (7, .pointer (some ⟨b167, 0, none⟩)), (38, v1), (39, .int .i64 ((p0.Nodes.length : Int))), (40, .int .i64 (y142)), (117, .bool (y204))] a w) ?_ ?_
      ·clear hs hm
       rintro a w ⟨y204, hm, hs⟩
       unfold dom_linked_k9 at hm
       refine hK41 ?_
       refine W_cond hs rfl (fun hg205 => ?_) (fun hg205 => ?_)
       ·replace hm := oc_t hg205 hm
        refine Wq fun hK42 => sA (v := .bool (false)) hs rfl fun hs => RL_nil <| hK42 <| W_ret ?_
        obtain rfl := Option.some.inj hm
        refine RtV1 hs rfl (rv_t hs rfl) ?_
        exact ⟨rfl, ((hs.subL (.cons _ (.cons _ (.cons _ (.cons _ (.refl _)))))).weak hle).cw⟩
       replace hm := oc_f hg205 hm
       refine W_skip <| hK40 <| Wq fun hK43 => sM (v := v138) hs rfl fun hs => s1 (v := .pointer (some ⟨b167, 4, none⟩)) hs (y_fieldAddr rfl (FO.of (off := 4) Tryz.underlying57 rfl rfl ti3 (by decide))) fun hs => s1 (v := .int .i64 (x155.Parent)) hs (y_ld rfl Tryz.underlying3 rfl (Cell.blk (.head _) rfl)) fun hs => sM (v := .int .i64 (y142)) hs rfl fun hs => ?_
       obtain ⟨x206, hx207, hm⟩ := ob hm
       obtain ⟨r208, hr209, hq210, hi211, hb212⟩ := hW180.geti hx207
       obtain rfl : _ = ([.int .i64 (x206)] : List Value) := hq210
       refine s1 hs (y_indexAddr (Rd.st hs (.tail _ (.head _))) rfl rfl hi211 hb212 Tryz.underlying78 ti3) fun hs => ?_
       obtain ⟨x213, hx214, hm⟩ := ob hm
       have hex213 := seti_some hx214
       have hW216 := RW.set (i := x155.Parent.toNat) (r := [.int .i64 (y142)]) (x := (y142 : Int)) hW180 (rfl); rw [hex213] at hW216
       refine RL_storeRow (i := 1) (j := 0) (m := x155.Parent.toNat) hs rfl rfl rfl hr209 (by decide) ti3 rfl (.free rfl) fun _ _ hs => ?_
       replace hs : St _ _ _ (.blk b167 (.cells #[.int .i64 (x155.Kind), .string (x155.Name), .string (x155.Text), v162, .int .i64 (x155.Parent), .int .i64 (x155.First), .int .i64 (x155.Last), .int .i64 (x155.Prev), .int .i64 (x155.Next)] 57 (0, 0)) :: .row v138 3 1 (rw179.set x155.Parent.toNat [.int .i64 (y142)]) :: .row v198 3 1 rw199 :: .blk b6 (.cells #[v1] 37 (0, 0)) :: L) _ _ _ := hs
       generalize hgrw215 : rw179.set x155.Parent.toNat [.int .i64 (y142)] = rw215 at hs hW216; clear hgrw215
       refine RL_nil <| hK43 <| Wq fun hK44 => s1 (v := .pointer (some ⟨b167, 0, none⟩)) hs (y_fieldAddr rfl (FO.of (off := 0) Tryz.underlying57 rfl rfl ti3 (by decide))) fun hs => s1 (v := .int .i64 (x155.Kind)) hs (y_ld rfl Tryz.underlying3 rfl (Cell.blk (.head _) rfl)) fun hs => s1 hs (y_eql rfl rfl) fun hs => RL_nil <| hK44 ?_
       refine W_post (fun a w => ∃ (y218 : (List Int)) (v219 : Value) (rw220 : List (List Value)), dom_linked_k10 y142 (dom_linked_l5 n p0 k143) x213 y218 = some res ∧ RW (tInt .i64) f rw220 y218 ∧ St 178 w0 f (.row v138 3 1 rw215 :: .row v219 3 1 rw220 :: .blk b6 (.cells #[v1] 37 (0, 0)) :: L) [(1, .pointer (some ⟨b6, 0, none⟩)), (4, v219), (5, v138), (38, v1), (39, .int .i64 ((p0.Nodes.length : Int))), (40, .int .i64 (y142))] a w) ?_ ?_
       ·clear hs hm
        rintro a w ⟨y218, v219, rw220, hm, hW221, hs⟩
        unfold dom_linked_k10 at hm
        exact ⟨y218, x213, v219, rw220, v138, rw215, hm, hW221, hW216, hs.sub ⟨rfl, rfl, rfl, rfl, rfl, rfl, trivial⟩⟩
       refine W_cond hs rfl (fun hg223 => ?_) (fun hg223 => ?_)
       ·replace hm := oc_t hg223 hm
        refine W_region <| sM (v := v198) hs rfl fun hs => sM (v := .int .i64 (y142)) hs rfl fun hs => RL_bs1s hs rfl Tryz.underlying78 ti3 rfl rfl fun v224 _ _ hs => ?_
        have hW225 : RW (tInt .i64) f [[.int .i64 (y142)]] [y142] := RW.single (rfl)
        generalize hgrw226 : ([[.int .i64 (y142)]] : List (List Value)) = rw226 at hs hW225; clear hgrw226
        obtain ⟨x229, hx230, hm⟩ := ob hm
        obtain ⟨hbx229, hex229⟩ := appM_some hx230
        have hW233 := hW200.append hW225; rw [hex229] at hW233
        refine RL_append (i := 3) hs rfl rfl rfl (Rd.st hs (.head _)) Tryz.underlying78 ti3 (by decide) (by rw [RW.len hW200, RW.len hW225]; exact hbx229) (.free rfl) (by decide) fun v231 _ _ hs => ?_
        generalize hgx229 : rw199 ++ rw226 = rw232 at hs hW233; clear hgx229
        replace hs := hs.erase 0
        refine sA (v := v231) hs rfl fun hs => RL_nil ?_
        exact ⟨x229, v231, rw232, hm, hW233, hs.subs ⟨rfl, rfl, rfl, rfl, rfl, rfl, trivial⟩ (.cons _ (.cons_cons _ (.cons_cons _ (.cons_cons _ (.refl _)))))⟩
       replace hm := oc_f hg223 hm
       refine W_skip ?_
       exact ⟨y197, v198, rw199, hm, hW200, hs.subs ⟨rfl, rfl, rfl, rfl, rfl, rfl, trivial⟩ (.cons _ (.cons_cons _ (.cons_cons _ (.cons_cons _ (.refl _)))))⟩
      refine W_region <| s1 (v := .pointer (some ⟨b167, 7, none⟩)) hs (y_fieldAddr rfl (FO.of (off := 7) Tryz.underlying57 rfl rfl ti3 (by decide))) fun hs => s1 (v := .int .i64 (x155.Prev)) hs (y_ld rfl Tryz.underlying3 rfl (Cell.blk (.head _) rfl)) fun hs => s1 hs (y_eql rfl rfl) fun hs => sM (v := .bool (decide (x155.Prev = (-1)))) hs rfl fun hs => ?_
      refine St.split hs (t := 91) rfl (fun hg235 hs => ?_) (fun hg235 hs => ?_)
      ·replace hm := oc_t hg235 hm
       refine s2 (v := .pointer (some ⟨b6, 0, none⟩)) hs (y_fieldAddr rfl (FO.of (off := 0) Tryz.underlying37 rfl rfl ti35 (by decide))) fun hs => s2 (v := v1) hs (y_ld rfl Tryz.underlying35 rfl (Cell.blk (.tail _ (.tail _ (.tail _ (.head _)))) rfl)) fun hs => s2 (v := .pointer (some ⟨b167, 4, none⟩)) hs (y_fieldAddr rfl (FO.of (off := 4) Tryz.underlying57 rfl rfl ti3 (by decide))) fun hs => s2 (v := .int .i64 (x155.Parent)) hs (y_ld rfl Tryz.underlying3 rfl (Cell.blk (.head _) rfl)) fun hs => ?_
       obtain ⟨x236, hx237, hm⟩ := ob hm
       obtain ⟨r238, hr239, hq240, hi241, hb242⟩ := hW4.geti hx237
       obtain ⟨v243, rfl, ⟨rw244, hR245, hW246⟩⟩ := hq240
       refine s2 hs (y_indexAddr hR3 rfl rfl hi241 hb242 Tryz.underlying35 ti57) fun hs => s2 (v := eaddr v1 9 x155.Parent.toNat 5) hs (y_fieldAddrE (i := x155.Parent.toNat) (j := 0) hR3 rfl hb242 (FO.of (off := 5) Tryz.underlying57 rfl rfl ti3 (by decide))) fun hs => s2 (v := .int .i64 (x236.First)) hs (y_loadE (i := x155.Parent.toNat) (j := 5) hR3.up rfl hr239 rfl Tryz.underlying3 rfl) fun hs => s2 (v := .int .i64 (y142)) hs (y_move rfl) fun hs => s2 hs (y_neq rfl rfl) fun hs => sP (v := .bool (decide (x236.First ≠ y142))) hs rfl rfl fun hs => sM (v := .bool (decide (x236.First ≠ y142))) hs rfl fun hs => ?_
       refine St.split hs (t := 102) rfl (fun hg248 hs => ?_) (fun hg248 hs => ?_)
       ·replace hm := oc_t hg248 hm
        refine s3 hs fun hs => s3 hs fun hs => s3 hs fun hs => s3 hs fun hs => s4 hs fun hs => s4 hs fun hs => s4 hs fun hs => s4 hs fun hs => s4 hs fun hs => s4 hs fun hs => ?_
        refine s4 hs fun hs => s4 hs fun hs => s4 hs fun hs => s3 hs fun hs => sP (v := .bool (true)) hs rfl rfl fun hs => RL_nil ?_
        exact ⟨true, hm, hs.sub ⟨rfl, rfl, rfl, rfl, rfl, rfl, rfl, rfl, rfl, trivial⟩⟩
       replace hm := oc_f hg248 hm
       refine s2 (v := .pointer (some ⟨b167, 7, none⟩)) hs (y_fieldAddr rfl (FO.of (off := 7) Tryz.underlying57 rfl rfl ti3 (by decide))) fun hs => s2 (v := .int .i64 (x155.Prev)) hs (y_ld rfl Tryz.underlying3 rfl (Cell.blk (.head _) rfl)) fun hs => s2 hs (y_neq rfl rfl) fun hs => s2 (v := .bool (decide (x155.Prev ≠ (-1)))) hs (y_move rfl) fun hs => ?_
       refine St.split hs (t := 106) rfl (fun hg249 hs => ?_) (fun hg249 hs => ?_)
       ·replace hm := oc_t hg249 hm
        refine s2 (v := .pointer (some ⟨b6, 0, none⟩)) hs (y_fieldAddr rfl (FO.of (off := 0) Tryz.underlying37 rfl rfl ti35 (by decide))) fun hs => s2 (v := v1) hs (y_ld rfl Tryz.underlying35 rfl (Cell.blk (.tail _ (.tail _ (.tail _ (.head _)))) rfl)) fun hs => s2 (v := .pointer (some ⟨b167, 7, none⟩)) hs (y_fieldAddr rfl (FO.of (off := 7) Tryz.underlying57 rfl rfl ti3 (by decide))) fun hs => s2 (v := .int .i64 (x155.Prev)) hs (y_ld rfl Tryz.underlying3 rfl (Cell.blk (.head _) rfl)) fun hs => ?_
        obtain ⟨x250, hx251, hm⟩ := ob hm
        obtain ⟨r252, hr253, hq254, hi255, hb256⟩ := hW4.geti hx251
        obtain ⟨v257, rfl, ⟨rw258, hR259, hW260⟩⟩ := hq254
        refine s2 hs (y_indexAddr hR3 rfl rfl hi255 hb256 Tryz.underlying35 ti57) fun hs => s2 (v := eaddr v1 9 x155.Prev.toNat 8) hs (y_fieldAddrE (i := x155.Prev.toNat) (j := 0) hR3 rfl hb256 (FO.of (off := 8) Tryz.underlying57 rfl rfl ti3 (by decide))) fun hs => s2 (v := .int .i64 (x250.Next)) hs (y_loadE (i := x155.Prev.toNat) (j := 8) hR3.up rfl hr253 rfl Tryz.underlying3 rfl) fun hs => s2 (v := .int .i64 (y142)) hs (y_move rfl) fun hs => s2 hs (y_neq rfl rfl) fun hs => s2 (v := .bool (decide (x250.Next ≠ y142))) hs (y_pick rfl rfl) fun hs => sP (v := .bool (decide (x250.Next ≠ y142))) hs rfl rfl fun hs => RL_nil ?_
        exact ⟨decide (x250.Next ≠ y142), hm, hs.sub ⟨rfl, rfl, rfl, rfl, rfl, rfl, rfl, rfl, rfl, trivial⟩⟩
       replace hm := oc_f hg249 hm
       refine s3 hs fun hs => s3 hs fun hs => s3 hs fun hs => s3 hs fun hs => s3 hs fun hs => s3 hs fun hs => s3 hs fun hs => s3 hs fun hs => s3 hs fun hs => s2 (v := .bool (false)) hs (y_pick rfl rfl) fun hs => ?_
       refine sP (v := .bool (false)) hs rfl rfl fun hs => RL_nil ?_
       exact ⟨false, hm, hs.sub ⟨rfl, rfl, rfl, rfl, rfl, rfl, rfl, rfl, rfl, trivial⟩⟩
      replace hm := oc_f hg235 hm
      refine s3 hs fun hs => s3 hs fun hs => s3 hs fun hs => s3 hs fun hs => s3 hs fun hs => s3 hs fun hs => s3 hs fun hs => s3 hs fun hs => s3 hs fun hs => sP (v := .bool (false)) hs rfl rfl fun hs => ?_
      refine sM (v := .bool (false)) hs rfl fun hs => s2 (v := .pointer (some ⟨b167, 7, none⟩)) hs (y_fieldAddr rfl (FO.of (off := 7) Tryz.underlying57 rfl rfl ti3 (by decide))) fun hs => s2 (v := .int .i64 (x155.Prev)) hs (y_ld rfl Tryz.underlying3 rfl (Cell.blk (.head _) rfl)) fun hs => s2 hs (y_neq rfl rfl) fun hs => s2 (v := .bool (decide (x155.Prev ≠ (-1)))) hs (y_move rfl) fun hs => ?_
      refine St.split hs (t := 106) rfl (fun hg262 hs => ?_) (fun hg262 hs => ?_)
      ·replace hm := oc_t hg262 hm
       refine s2 (v := .pointer (some ⟨b6, 0, none⟩)) hs (y_fieldAddr rfl (FO.of (off := 0) Tryz.underlying37 rfl rfl ti35 (by decide))) fun hs => s2 (v := v1) hs (y_ld rfl Tryz.underlying35 rfl (Cell.blk (.tail _ (.tail _ (.tail _ (.head _)))) rfl)) fun hs => s2 (v := .pointer (some ⟨b167, 7, none⟩)) hs (y_fieldAddr rfl (FO.of (off := 7) Tryz.underlying57 rfl rfl ti3 (by decide))) fun hs => s2 (v := .int .i64 (x155.Prev)) hs (y_ld rfl Tryz.underlying3 rfl (Cell.blk (.head _) rfl)) fun hs => ?_
       obtain ⟨x263, hx264, hm⟩ := ob hm
       obtain ⟨r265, hr266, hq267, hi268, hb269⟩ := hW4.geti hx264
       obtain ⟨v270, rfl, ⟨rw271, hR272, hW273⟩⟩ := hq267
       refine s2 hs (y_indexAddr hR3 rfl rfl hi268 hb269 Tryz.underlying35 ti57) fun hs => s2 (v := eaddr v1 9 x155.Prev.toNat 8) hs (y_fieldAddrE (i := x155.Prev.toNat) (j := 0) hR3 rfl hb269 (FO.of (off := 8) Tryz.underlying57 rfl rfl ti3 (by decide))) fun hs => s2 (v := .int .i64 (x263.Next)) hs (y_loadE (i := x155.Prev.toNat) (j := 8) hR3.up rfl hr266 rfl Tryz.underlying3 rfl) fun hs => s2 (v := .int .i64 (y142)) hs (y_move rfl) fun hs => s2 hs (y_neq rfl rfl) fun hs => s2 (v := .bool (decide (x263.Next ≠ y142))) hs (y_pick rfl rfl) fun hs => sP (v := .bool (decide (x263.Next ≠ y142))) hs rfl rfl fun hs => RL_nil ?_
       exact ⟨decide (x263.Next ≠ y142), hm, hs.sub ⟨rfl, rfl, rfl, rfl, rfl, rfl, rfl, rfl, rfl, trivial⟩⟩
      replace hm := oc_f hg262 hm
      refine s3 hs fun hs => s3 hs fun hs => s3 hs fun hs => s3 hs fun hs => s3 hs fun hs => s3 hs fun hs => s3 hs fun hs => s3 hs fun hs => s3 hs fun hs => s2 (v := .bool (false)) hs (y_pick rfl rfl) fun hs => ?_
      refine sP (v := .bool (false)) hs rfl rfl fun hs => RL_nil ?_
      exact ⟨false, hm, hs.sub ⟨rfl, rfl, rfl, rfl, rfl, rfl, rfl, rfl, rfl, trivial⟩⟩
     refine W_draw hs mixed (by kernel_rfl) ?_; intro a he
     refine qy (v := v198) he (y_move rfl) fun _ he => qy he (y_lenW (Rd.st hs (.tail _ (.tail _ (.head _)))) hW200 rfl Tryz.underlying78) fun _ he => qy he (y_eql rfl rfl) fun _ he => qy (v := .bool (decide ((y197.length : Int) = 0))) he (y_move rfl) fun _ he => ?_
     refine Ev.split he (t := 78) rfl (fun hg275 hq => ?_) (fun hg275 hq => ?_)
     ·clear he; have he := hq; clear hq
      replace hm := oc_t hg275 hm
      refine qno he fun _ he => qno he fun _ he => qno he fun _ he => qno he fun _ he => qno he fun _ he => qno he fun _ he => qno he fun _ he => qno he fun _ he => qy (v := .bool (true)) he (y_pick rfl rfl) fun _ he => ?_
      refine QL_nil he ?_; clear he; (try clear hs); (try clear a); intro a w hs
      exact ⟨true, hm, hs.sub ⟨rfl, rfl, rfl, rfl, rfl, rfl, rfl, rfl, rfl, trivial⟩⟩
     clear he; have he := hq; clear hq
     replace hm := oc_f hg275 hm
     refine qyg (v := .pointer (some ⟨b167, 7, none⟩)) he (y_fieldAddr rfl (FO.of (off := 7) Tryz.underlying57 rfl rfl ti3 (by decide))) fun _ he => qyg (v := .int .i64 (x155.Prev)) he (y_ld rfl Tryz.underlying3 rfl (Cell.blk (.head _) rfl)) fun _ he => qyg (v := v138) he (y_move rfl) fun _ he => qyg (v := .pointer (some ⟨b167, 4, none⟩)) he (y_fieldAddr rfl (FO.of (off := 4) Tryz.underlying57 rfl rfl ti3 (by decide))) fun _ he => qyg (v := .int .i64 (x155.Parent)) he (y_ld rfl Tryz.underlying3 rfl (Cell.blk (.head _) rfl)) fun _ he => ?_
     obtain ⟨x276, hx277, hm⟩ := ob hm
     obtain ⟨r278, hr279, hq280, hi281, hb282⟩ := hW180.geti hx277
     obtain rfl : _ = ([.int .i64 (x276)] : List Value) := hq280
     refine qyg he (y_indexAddr (Rd.st hs (.tail _ (.head _))) rfl rfl hi281 hb282 Tryz.underlying78 ti3) fun _ he => qyg (v := .int .i64 (x276)) he (y_loadE (i := x155.Parent.toNat) (j := 0) (Rd.st hs (.tail _ (.head _))) rfl hr279 rfl Tryz.underlying3 rfl) fun _ he => qyg he (y_neq rfl rfl) fun _ he => qy (v := .bool (decide (x155.Prev ≠ x276))) he (y_pick rfl rfl) fun _ he => ?_
     refine QL_nil he ?_; clear he; (try clear hs); (try clear a); intro a w hs
     exact ⟨decide (x155.Prev ≠ x276), hm, hs.sub ⟨rfl, rfl, rfl, rfl, rfl, rfl, rfl, rfl, rfl, trivial⟩⟩
    refine W_block fun Qe45 hB45 hO45 => W_loop (fun (k : Nat) a w => ∃ (y283 : (List Int)) (v284 : Value) (rw285 : List (List Value)), dom_linked_l11 p0 y142 (dom_linked_l5 n p0 k143) x155 x177 k y283 = some res ∧ RW (tInt .i64) f rw285 y283 ∧ St 178 w0 f (.blk b167 (.cells #[.int .i64 (x155.Kind), .string (x155.Name), .string (x155.Text), v162, .int .i64 (x155.Parent), .int .i64 (x155.First), .int .i64 (x155.Last), .int .i64 (x155.Prev), .int .i64 (x155.Next)] 57 (0, 0)) :: .row v138 3 1 rw179 :: .row v284 3 1 rw285 :: .blk b6 (.cells #[v1] 37 (0, 0)) :: L) [(1, .pointer (some ⟨b6, 0, none⟩)), (4, v284), (5, v138), (6, .int .i64 (y142)), (7, .pointer (some ⟨b167, 0, none⟩)), (38, v1), (39, .int .i64 ((p0.Nodes.length : Int))), (40, .int .i64 (y142))] a w) (fun k => k) n ⟨y132, v133, rw134, hm, hW135, hs.sub ⟨rfl, rfl, rfl, rfl, rfl, rfl, rfl, rfl, trivial⟩⟩ ?_
    clear hs hm
    intro k
    rintro a w ⟨y283, v284, rw285, hm, hW286, hs⟩
    intro K46 hK46
    cases k with
    | zero => simp [dom_linked_l11] at hm
    | succ k288 =>
     rw [dom_linked_l11] at hm
     refine Ws fun hK47 => Ws fun hK48 => ?_
     refine W_post (fun a w => ∃ (y289 : Bool), dom_linked_k12 p0 y142 (dom_linked_l5 n p0 k143) x155 x177 y283 (dom_linked_l11 p0 y142 (dom_linked_l5 n p0 k143) x155 x177 k288) y289 = some res ∧ St 178 w0 f (.blk b167 (.cells #[.int .i64 (x155.Kind), .string (x155.Name), .string (x155.Text), v162, .int .i64 (x155.Parent), .int .i64 (x155.First), .int .i64 (x155.Last), .int .i64 (x155.Prev), .int .i64 (x155.Next)] 57 (0, 0)) :: .row v138 3 1 rw179 :: .row v284 3 1 rw285 :: .blk b6 (.cells #[v1] 37 (0, 0)) :: L) [(1, .pointer (some ⟨b6, 0, none⟩)), (4, v284), (5, v138), (6, .int .i64 (y142)), (7, .pointer (some ⟨b167, 0, none⟩)), (38, v1), (39, .int .i64 ((p0.Nodes.length : Int))), (40, .int .i64 (y142)), (69, .bool (y289))] a w) ?_ ?_
     ·clear hs hm
      rintro a w ⟨y289, hm, hs⟩
      unfold dom_linked_k12 at hm
      refine hK48 ?_
      refine W_cond hs rfl (fun hg290 => ?_) (fun hg290 => ?_)
      ·replace hm := oc_t hg290 hm
       refine W_skip <| hK47 <| W_block fun Qe49 hB49 hO49 => W_region <| sM (v := v284) hs rfl fun hs => sM (v := v284) hs rfl fun hs => s1 hs (y_lenW (Rd.st hs (.tail _ (.tail _ (.head _)))) hW286 rfl Tryz.underlying78) fun hs => s1 hs (y_sub rfl rfl rfl) fun hs => ?_
       obtain ⟨x291, hx292, hm⟩ := ob hm
       obtain ⟨⟨hlx291, hhx291, h1x291, h2x291⟩, hex291⟩ := cutM_some hx292
       have hW293 := (hW286.take (w64 ((y283.length : Int) - 1)).toNat).drop (Int.toNat 0); rw [hex291] at hW293
       simp only [Int.toNat_zero, List.drop_zero] at hW293
       refine s1 hs (y_slice (lo := (0 : Nat)) (hi := (w64 ((y283.length : Int) - 1)).toNat) rfl Tryz.underlying78 ti3 (.inl ⟨rfl, rfl⟩) (.inr ⟨_, rfl, by rw [← hhx291]; rfl⟩) h1x291 (by rw [RW.len hW286]; exact h2x291) (Rd.st hs (.tail _ (.tail _ (.head _))))) fun hs => ?_
       replace hs := hs.shrink (i := 2) rfl (m := (w64 ((y283.length : Int) - 1)).toNat) (by rw [RW.len hW286]; exact h2x291)
       generalize hgrw295 : List.take _ rw285 = rw295 at hs hW293; clear hgrw295
       generalize hgv296 : cutv v284 1 0 _ = v296 at hs; clear hgv296
       refine sA (v := v296) hs rfl fun hs => RL_nil ?_
       exact hK46 k288 _ _ (Nat.lt_succ_self _) ⟨x291, v296, rw295, hm, hW293, hs.sub ⟨rfl, rfl, rfl, rfl, rfl, rfl, rfl, rfl, trivial⟩⟩
      replace hm := oc_f hg290 hm
      refine W_exit <| hB45 _ _ ?_
      exact ⟨y283, v284, rw285, hm, hW286, hs.sub ⟨rfl, rfl, rfl, rfl, rfl, rfl, rfl, rfl, trivial⟩⟩
     refine W_draw hs mixed (by kernel_rfl) ?_; intro a he
     refine qy (v := v284) he (y_move rfl) fun _ he => qy he (y_lenW (Rd.st hs (.tail _ (.tail _ (.head _)))) hW286 rfl Tryz.underlying78) fun _ he => qy he (y_gtr rfl rfl) fun _ he => qy (v := .bool (decide (0 < (y283.length : Int)))) he (y_move rfl) fun _ he => ?_
     refine Ev.split he (t := 59) rfl (fun hg298 hq => ?_) (fun hg298 hq => ?_)
     ·clear he; have he := hq; clear hq
      replace hm := oc_t hg298 hm
      refine qyg (v := v284) he (y_move rfl) fun _ he => qyg (v := v284) he (y_move rfl) fun _ he => qyg he (y_lenW (Rd.st hs (.tail _ (.tail _ (.head _)))) hW286 rfl Tryz.underlying78) fun _ he => qyg he (y_sub rfl rfl rfl) fun _ he => ?_
      obtain ⟨x299, hx300, hm⟩ := ob hm
      obtain ⟨r301, hr302, hq303, hi304, hb305⟩ := hW286.geti hx300
      obtain rfl : _ = ([.int .i64 (x299)] : List Value) := hq303
      refine qyg he (y_indexAddr (Rd.st hs (.tail _ (.tail _ (.head _)))) rfl rfl hi304 hb305 Tryz.underlying78 ti3) fun _ he => qyg (v := .int .i64 (x299)) he (y_loadE (i := (w64 ((y283.length : Int) - 1)).toNat) (j := 0) (Rd.st hs (.tail _ (.tail _ (.head _)))) rfl hr302 rfl Tryz.underlying3 rfl) fun _ he => qyg (v := .pointer (some ⟨b167, 4, none⟩)) he (y_fieldAddr rfl (FO.of (off := 4) Tryz.underlying57 rfl rfl ti3 (by decide))) fun _ he => qyg (v := .int .i64 (x155.Parent)) he (y_ld rfl Tryz.underlying3 rfl (Cell.blk (.head _) rfl)) fun _ he => qyg he (y_neq rfl rfl) fun _ he => qy (v := .bool (decide (x299 ≠ x155.Parent))) he (y_pick rfl rfl) fun _ he => ?_
      refine QL_nil he ?_; clear he; (try clear hs); (try clear a); intro a w hs
      exact ⟨decide (x299 ≠ x155.Parent), hm, hs.sub ⟨rfl, rfl, rfl, rfl, rfl, rfl, rfl, rfl, rfl, trivial⟩⟩
     clear he; have he := hq; clear hq
     replace hm := oc_f hg298 hm
     refine qno he fun _ he => qno he fun _ he => qno he fun _ he => qno he fun _ he => qno he fun _ he => qno he fun _ he => qno he fun _ he => qno he fun _ he => qno he fun _ he => qy (v := .bool (false)) he (y_pick rfl rfl) fun _ he => ?_
     refine QL_nil he ?_; clear he; (try clear hs); (try clear a); intro a w hs
     exact ⟨false, hm, hs.sub ⟨rfl, rfl, rfl, rfl, rfl, rfl, rfl, rfl, rfl, trivial⟩⟩
   replace hm := oc_f hg144 hm
   refine W_exit <| hB22 _ _ ?_
   exact ⟨y137, v138, rw139, hm, hW140, hs.subs ⟨rfl, rfl, trivial⟩ (.cons_cons _ (.cons _ (.cons_cons _ (.refl _))))⟩
 refine W_region <| s1 (v := .pointer (some ⟨b20, 0, none⟩)) hs (y_fieldAddr rfl (FO.of (off := 0) Tryz.underlying57 rfl rfl ti3 (by decide))) fun hs => s1 (v := .int .i64 (x8.Kind)) hs (y_ld rfl Tryz.underlying3 rfl (Cell.blk (.head _) rfl)) fun hs => s1 hs (y_neq rfl rfl) fun hs => sM (v := .bool (decide (x8.Kind ≠ 1))) hs rfl fun hs => ?_
 refine St.split hs (t := 17) rfl (fun hg306 hs => ?_) (fun hg306 hs => ?_)
 ·refine s3 hs fun hs => s3 hs fun hs => s3 hs fun hs => sP (v := .bool (true)) hs rfl rfl fun hs => sM (v := .bool (true)) hs rfl fun hs => s3 hs fun hs => s3 hs fun hs => s3 hs fun hs => sP (v := .bool (true)) hs rfl rfl fun hs => sM (v := .bool (true)) hs rfl fun hs => ?_
  refine s3 hs fun hs => s3 hs fun hs => s3 hs fun hs => sP (v := .bool (true)) hs rfl rfl fun hs => RL_nil ?_
  exact hs.sub ⟨rfl, (lkB (((or_t hg306).trans rfl)) rfl), trivial⟩
 refine s2 (v := .pointer (some ⟨b20, 4, none⟩)) hs (y_fieldAddr rfl (FO.of (off := 4) Tryz.underlying57 rfl rfl ti3 (by decide))) fun hs => s2 (v := .int .i64 (x8.Parent)) hs (y_ld rfl Tryz.underlying3 rfl (Cell.blk (.head _) rfl)) fun hs => s2 hs (y_neq rfl rfl) fun hs => sP (v := .bool (decide (x8.Parent ≠ (-1)))) hs rfl rfl fun hs => sM (v := .bool (decide (x8.Parent ≠ (-1)))) hs rfl fun hs => ?_
 refine St.split hs (t := 22) rfl (fun hg307 hs => ?_) (fun hg307 hs => ?_)
 ·refine s3 hs fun hs => s3 hs fun hs => s3 hs fun hs => sP (v := .bool (true)) hs rfl rfl fun hs => sM (v := .bool (true)) hs rfl fun hs => s3 hs fun hs => s3 hs fun hs => s3 hs fun hs => sP (v := .bool (true)) hs rfl rfl fun hs => RL_nil ?_
  exact hs.sub ⟨rfl, (lkB (((or_f hg306).trans ((or_t hg307).trans rfl))) rfl), trivial⟩
 refine s2 (v := .pointer (some ⟨b20, 7, none⟩)) hs (y_fieldAddr rfl (FO.of (off := 7) Tryz.underlying57 rfl rfl ti3 (by decide))) fun hs => s2 (v := .int .i64 (x8.Prev)) hs (y_ld rfl Tryz.underlying3 rfl (Cell.blk (.head _) rfl)) fun hs => s2 hs (y_neq rfl rfl) fun hs => sP (v := .bool (decide (x8.Prev ≠ (-1)))) hs rfl rfl fun hs => sM (v := .bool (decide (x8.Prev ≠ (-1)))) hs rfl fun hs => ?_
 refine St.split hs (t := 27) rfl (fun hg308 hs => ?_) (fun hg308 hs => ?_)
 ·refine s3 hs fun hs => s3 hs fun hs => s3 hs fun hs => sP (v := .bool (true)) hs rfl rfl fun hs => RL_nil ?_
  exact hs.sub ⟨rfl, (lkB (((or_f hg306).trans ((or_f hg307).trans ((or_t hg308).trans rfl)))) rfl), trivial⟩
 refine s2 (v := .pointer (some ⟨b20, 8, none⟩)) hs (y_fieldAddr rfl (FO.of (off := 8) Tryz.underlying57 rfl rfl ti3 (by decide))) fun hs => s2 (v := .int .i64 (x8.Next)) hs (y_ld rfl Tryz.underlying3 rfl (Cell.blk (.head _) rfl)) fun hs => s2 hs (y_neq rfl rfl) fun hs => sP (v := .bool (decide (x8.Next ≠ (-1)))) hs rfl rfl fun hs => RL_nil ?_
 exact hs.sub ⟨rfl, (lkB (((or_f hg306).trans ((or_f hg307).trans ((or_f hg308).trans rfl)))) rfl), trivial⟩
def dom_Right_k1 : Option Int :=
  some 0
def dom_Right_k3 (y25 : Int) (lp26 : (List Int) → Int → Option Int) (y55 : (List Int)) : Option Int :=
  (geti y55 y25).bind fun x60 =>
  (bif (decide (256 < x60)) then some 5 else
  lp26 y55 (w64 (y25 + 1)))
def dom_Right_l2 (p0 : api_Tree) : Nat → (List Int) → Int → Option Int
  | 0, _, _ => none
  | k26 + 1, y20, y25 =>
  (bif (decide (y25 < (p0.Nodes.length : Int))) then (geti p0.Nodes y25).bind fun x28 =>
  (geti y20 y25).bind fun x43 =>
  (seti y20 y25 1).bind fun x50 =>
  (bif (decide (0 < y25)) then (geti x50 x28.Parent).bind fun x69 =>
  (geti x50 y25).bind fun x76 =>
  (seti x50 y25 (w64 (x69 + 1))).bind fun x83 =>
  dom_Right_k3 y25 (dom_Right_l2 p0 k26) x83 else
  dom_Right_k3 y25 (dom_Right_l2 p0 k26) x50) else
  dom_Right_k1)
def dom_Right (n : Nat) (p0 : api_Tree) : Option Int :=
  (bif (decide ((p0.Nodes.length : Int) = 0)) then some 10 else
  (bif (decide (4096 < (p0.Nodes.length : Int))) then some 4 else
  (dom_linked n p0).bind fun x10 =>
  (bif (!x10) then some 10 else
  (repM 8 (p0.Nodes.length : Int) (0 : Int)).bind fun x13 =>
  dom_Right_l2 p0 n x13 0)))
theorem dom_Right_ok (n : Nat) {f : Fz} {p0 : api_Tree} {a0 : List Value} {res : Int} (h0 : t_api_Tree.R f a0 p0) (hm : dom_Right n p0 = some res) : Gives Tryz.prog 31 [.agg a0.toArray] f (.int .i64 res) := by
 unfold dom_Right at hm
 intro w0 L w hC
 obtain ⟨v1, rfl, ⟨rw2, hR3, hW4⟩⟩ := h0
 refine enter Tryz.func31 rfl Tryz.ntmps31 (by simp) hC fun a hs => ?_
 have hle := Fz.le.refl f
 refine Wq fun hK1 => sbox hs rfl fun b6 _ _ hs => sA (v := .int .i64 (0)) hs rfl fun hs => RL_nil <| hK1 <| Ws fun hK2 => W_block fun Qe3 hB3 hO3 => Ws fun hK4 => W_region ?_
 refine s1 (v := .pointer (some ⟨b6, 0, none⟩)) hs (y_fieldAddr rfl (FO.of (off := 0) Tryz.underlying37 rfl rfl ti35 (by decide))) fun hs => s1 (v := v1) hs (y_ld rfl Tryz.underlying35 rfl (Cell.blk (.head _) rfl)) fun hs => s1 hs (y_lenW hR3 hW4 rfl Tryz.underlying35) fun hs => s1 hs (y_eql rfl rfl) fun hs => sA (v := .bool (decide ((p0.Nodes.length : Int) = 0))) hs rfl fun hs => RL_nil <| hK4 ?_
 refine W_cond hs rfl (fun hg8 => ?_) (fun hg8 => ?_)
 ·replace hm := oc_t hg8 hm
  refine Wq fun hK5 => sA (v := .int .i64 (10)) hs rfl fun hs => RL_nil <| hK5 <| W_ret ?_
  obtain rfl := Option.some.inj hm
  refine RtV1 hs rfl (rv_t hs rfl) ?_
  exact ⟨rfl, ((hs.subL (.cons _ (.refl _))).weak hle).cw⟩
 replace hm := oc_f hg8 hm
 refine Wq fun hK6 => s1 (v := .pointer (some ⟨b6, 0, none⟩)) hs (y_fieldAddr rfl (FO.of (off := 0) Tryz.underlying37 rfl rfl ti35 (by decide))) fun hs => s1 (v := v1) hs (y_ld rfl Tryz.underlying35 rfl (Cell.blk (.head _) rfl)) fun hs => s1 hs (y_lenW hR3 hW4 rfl Tryz.underlying35) fun hs => s1 hs (y_gtr rfl rfl) fun hs => sA (v := .bool (decide (4096 < (p0.Nodes.length : Int)))) hs rfl fun hs => RL_nil <| hK6 ?_
 refine W_cond hs rfl (fun hg9 => ?_) (fun hg9 => ?_)
 ·replace hm := oc_t hg9 hm
  refine Wq fun hK7 => sA (v := .int .i64 (4)) hs rfl fun hs => RL_nil <| hK7 <| W_ret ?_
  obtain rfl := Option.some.inj hm
  refine RtV1 hs rfl (rv_t hs rfl) ?_
  exact ⟨rfl, ((hs.subL (.cons _ (.refl _))).weak hle).cw⟩
 replace hm := oc_f hg9 hm
 refine Wq fun hK8 => s1 hs (y_ldB rfl Tryz.underlying37 rfl ti37 (.head _) rfl) fun hs => ?_
 obtain ⟨x10, hx11, hm⟩ := ob hm
 refine s1 hs (y_call rfl has61 rfl (dom_linked_ok n (f := f) (a0 := [v1]) ⟨_, rfl, ⟨rw2, hR3, hW4⟩⟩ hx11)) fun hs => s1 (v := .bool ((!x10))) hs (y_not rfl) fun hs => sA (v := .bool ((!x10))) hs rfl fun hs => RL_nil <| hK8 ?_
 refine W_cond hs rfl (fun hg12 => ?_) (fun hg12 => ?_)
 ·replace hm := oc_t hg12 hm
  refine Wq fun hK9 => sA (v := .int .i64 (10)) hs rfl fun hs => RL_nil <| hK9 <| W_ret ?_
  obtain rfl := Option.some.inj hm
  refine RtV1 hs rfl (rv_t hs rfl) ?_
  exact ⟨rfl, ((hs.subL (.cons _ (.refl _))).weak hle).cw⟩
 replace hm := oc_f hg12 hm
 refine W_skip <| hK2 <| Wq fun hK10 => s1 (v := .pointer (some ⟨b6, 0, none⟩)) hs (y_fieldAddr rfl (FO.of (off := 0) Tryz.underlying37 rfl rfl ti35 (by decide))) fun hs => s1 (v := v1) hs (y_ld rfl Tryz.underlying35 rfl (Cell.blk (.head _) rfl)) fun hs => s1 hs (y_lenW hR3 hW4 rfl Tryz.underlying35) fun hs => ?_
 obtain ⟨x13, hx14, hm⟩ := ob hm
 obtain ⟨hix13, hbx13, hex13⟩ := repM_some hx14
 refine RL_makeW hs rfl rfl hix13 Tryz.underlying78 ti3 (by decide) (AllC.row ⟨rfl, trivial⟩ rfl) hbx13 fun v15 _ _ hs => ?_
 replace hs : St _ _ _ (.row v15 3 1 (List.replicate (p0.Nodes.length : Int).toNat ([.int .i64 (0)] : List Value)) :: .blk b6 (.cells #[v1] 37 (0, 0)) :: L) _ _ _ := hs
 have hW17 : RW (tInt .i64) f (List.replicate (p0.Nodes.length : Int).toNat ([.int .i64 (0)] : List Value)) x13 := by rw [← hex13]; exact RW.rep (t := (tInt .i64)) (r := [.int .i64 (0)]) (rfl) _
 generalize hgx13 : (List.replicate (p0.Nodes.length : Int).toNat ([.int .i64 (0)] : List Value)) = rw16 at hs hW17; clear hgx13
 replace hs : St _ _ _ (.row v15 3 1 rw16 :: .blk b6 (.cells #[v1] 37 (0, 0)) :: L) _ _ _ := hs
 refine sA (v := v15) hs rfl fun hs => RL_nil <| hK10 <| Ws fun hK11 => Wq fun hK12 => s1 (v := .pointer (some ⟨b6, 0, none⟩)) hs (y_fieldAddr rfl (FO.of (off := 0) Tryz.underlying37 rfl rfl ti35 (by decide))) fun hs => s1 (v := v1) hs (y_ld rfl Tryz.underlying35 rfl (Cell.blk (.tail _ (.head _)) rfl)) fun hs => s1 hs (y_lenW hR3 hW4 rfl Tryz.underlying35) fun hs => sM (v := .int .i64 (0)) hs rfl fun hs => ?_
 refine RL_nil <| hK12 ?_
 refine W_post (fun a w => dom_Right_k1 = some res ∧ St 52 w0 f (L) [] a w) ?_ ?_
 ·clear hs hm
  rintro a w ⟨hm, hs⟩
  replace hs : St _ _ _ (L) _ _ _ := hs
  unfold dom_Right_k1 at hm
  refine hK11 <| Wq fun hK13 => sA (v := .int .i64 (0)) hs rfl fun hs => RL_nil <| hK13 <| W_ret ?_
  obtain rfl := Option.some.inj hm
  refine RtV1 hs rfl (rv_t hs rfl) ?_
  exact ⟨rfl, (hs.weak hle).cw⟩
 refine W_block fun Qe14 hB14 hO14 => W_loop (fun (k : Nat) a w => ∃ (y20 : (List Int)) (y25 : Int) (v21 : Value) (rw22 : List (List Value)), dom_Right_l2 p0 k y20 y25 = some res ∧ RW (tInt .i64) f rw22 y20 ∧ St 52 w0 f (.row v21 3 1 rw22 :: L) [(3, v21), (25, v1), (26, .int .i64 ((p0.Nodes.length : Int))), (27, .int .i64 (y25))] a w) (fun k => k) n ⟨x13, 0, v15, rw16, hm, hW17, hs.subs ⟨rfl, rfl, rfl, rfl, trivial⟩ (.cons_cons _ (.cons _ (.refl _)))⟩ ?_
 clear hs hm
 intro k
 rintro a w ⟨y20, y25, v21, rw22, hm, hW23, hs⟩
 intro K15 hK15
 cases k with
 | zero => simp [dom_Right_l2] at hm
 | succ k26 =>
  rw [dom_Right_l2] at hm
  refine Wq fun hK16 => s1 hs (y_lss rfl rfl) fun hs => RL_nil <| hK16 <| Ws fun hK17 => ?_
  refine W_cond hs rfl (fun hg27 => ?_) (fun hg27 => ?_)
  ·replace hm := oc_t hg27 hm
   refine W_skip <| hK17 <| Ws fun hK18 => W_block fun Qe19 hB19 hO19 => Wq fun hK20 => sM (v := .int .i64 (y25)) hs rfl fun hs => ?_
   obtain ⟨x28, hx29, hm⟩ := ob hm
   obtain ⟨r30, hr31, hq32, hi33, hb34⟩ := hW4.geti hx29
   obtain ⟨v35, rfl, ⟨rw36, hR37, hW38⟩⟩ := hq32
   refine s1 hs (y_indexAddr hR3 rfl rfl hi33 hb34 Tryz.underlying35 ti57) fun hs => s1 hs (y_loadRow hR3.up rfl hr31 Tryz.underlying57 rfl ti57) fun hs => RL_alloc hs ti57 (.free rfl) (by decide) fun b40 _ _ hs => sA (v := .int .i64 (y25)) hs rfl fun hs => RL_storeAll (i := 0) hs rfl rfl rfl ti57 ⟨rfl, rfl⟩ (AllC.arr (r := [.int .i64 (x28.Kind), .string (x28.Name), .string (x28.Text), v35, .int .i64 (x28.Parent), .int .i64 (x28.First), .int .i64 (x28.Last), .int .i64 (x28.Prev), .int .i64 (x28.Next)]) ⟨rfl, rfl, rfl, hR37.one, rfl, rfl, rfl, rfl, rfl, trivial⟩) (.free rfl) fun _ _ hs => RL_nil <| hK20 <| Wq fun hK21 => sM (v := v21) hs rfl fun hs => ?_
   refine sM (v := .int .i64 (y25)) hs rfl fun hs => ?_
   obtain ⟨x43, hx44, hm⟩ := ob hm
   obtain ⟨r45, hr46, hq47, hi48, hb49⟩ := hW23.geti hx44
   obtain rfl : _ = ([.int .i64 (x43)] : List Value) := hq47
   refine s1 hs (y_indexAddr (Rd.st hs (.tail _ (.head _))) rfl rfl hi48 hb49 Tryz.underlying78 ti3) fun hs => ?_
   obtain ⟨x50, hx51, hm⟩ := ob hm
   have hex50 := seti_some hx51
   have hW53 := RW.set (i := y25.toNat) (r := [.int .i64 (1)]) (x := (1 : Int)) hW23 (rfl); rw [hex50] at hW53
   refine RL_storeRow (i := 1) (j := 0) (m := y25.toNat) hs rfl rfl rfl hr46 (by decide) ti3 rfl (.free rfl) fun _ _ hs => ?_
   replace hs : St _ _ _ (.blk b40 (.cells #[.int .i64 (x28.Kind), .string (x28.Name), .string (x28.Text), v35, .int .i64 (x28.Parent), .int .i64 (x28.First), .int .i64 (x28.Last), .int .i64 (x28.Prev), .int .i64 (x28.Next)] 57 (0, 0)) :: .row v21 3 1 (rw22.set y25.toNat [.int .i64 (1)]) :: L) _ _ _ := hs
   generalize hgrw52 : rw22.set y25.toNat [.int .i64 (1)] = rw52 at hs hW53; clear hgrw52
   refine RL_nil <| hK21 <| Ws fun hK22 => Wq fun hK23 => sM (v := .int .i64 (y25)) hs rfl fun hs => s1 hs (y_gtr rfl rfl) fun hs => RL_nil <| hK23 ?_
   refine W_post (fun a w => ∃ (y55 : (List Int)) (v56 : Value) (rw57 : List (List Value)), dom_Right_k3 y25 (dom_Right_l2 p0 k26) y55 = some res ∧ RW (tInt .i64) f rw57 y55 ∧ St 52 w0 f (.row v56 3 1 rw57 :: L) [(3, v56), (4, .int .i64 (y25)), (25, v1), (26, .int .i64 ((p0.Nodes.length : Int))), (27, .int .i64 (y25))] a w) ?_ ?_
   ·clear hs hm
    rintro a w ⟨y55, v56, rw57, hm, hW58, hs⟩
    unfold dom_Right_k3 at hm
    refine hK22 <| Wq fun hK24 => sM (v := v56) hs rfl fun hs => sM (v := .int .i64 (y25)) hs rfl fun hs => ?_
    obtain ⟨x60, hx61, hm⟩ := ob hm
    obtain ⟨r62, hr63, hq64, hi65, hb66⟩ := hW58.geti hx61
    obtain rfl : _ = ([.int .i64 (x60)] : List Value) := hq64
    refine s1 hs (y_indexAddr (Rd.st hs (.head _)) rfl rfl hi65 hb66 Tryz.underlying78 ti3) fun hs => s1 (v := .int .i64 (x60)) hs (y_loadE (i := y25.toNat) (j := 0) (Rd.st hs (.head _)) rfl hr63 rfl Tryz.underlying3 rfl) fun hs => s1 hs (y_gtr rfl rfl) fun hs => RL_nil <| hK24 ?_
    refine W_cond hs rfl (fun hg67 => ?_) (fun hg67 => ?_)
    ·replace hm := oc_t hg67 hm
     refine Wq fun hK25 => sA (v := .int .i64 (5)) hs rfl fun hs => RL_nil <| hK25 <| W_ret ?_
     obtain rfl := Option.some.inj hm
     refine RtV1 hs rfl (rv_t hs rfl) ?_
     exact ⟨rfl, ((hs.subL (.cons _ (.refl _))).weak hle).cw⟩
    replace hm := oc_f hg67 hm
    refine W_skip <| hK18 <| W_region <| s1 hs (y_add rfl rfl rfl) fun hs => sM (v := .int .i64 ((w64 (y25 + 1)))) hs rfl fun hs => RL_nil ?_
    exact hK15 k26 _ _ (Nat.lt_succ_self _) ⟨y55, (w64 (y25 + 1)), v56, rw57, hm, hW58, hs.sub ⟨rfl, rfl, rfl, rfl, trivial⟩⟩
   refine W_cond hs rfl (fun hg68 => ?_) (fun hg68 => ?_)
   ·replace hm := oc_t hg68 hm
    refine W_region <| sM (v := v21) hs rfl fun hs => sM (v := .int .i64 (y25)) hs rfl fun hs => sM (v := v21) hs rfl fun hs => s1 (v := .pointer (some ⟨b40, 4, none⟩)) hs (y_fieldAddr rfl (FO.of (off := 4) Tryz.underlying57 rfl rfl ti3 (by decide))) fun hs => s1 (v := .int .i64 (x28.Parent)) hs (y_ld rfl Tryz.underlying3 rfl (Cell.blk (.head _) rfl)) fun hs => ?_
    obtain ⟨x69, hx70, hm⟩ := ob hm
    obtain ⟨r71, hr72, hq73, hi74, hb75⟩ := hW53.geti hx70
    obtain rfl : _ = ([.int .i64 (x69)] : List Value) := hq73
    refine s1 hs (y_indexAddr (Rd.st hs (.tail _ (.head _))) rfl rfl hi74 hb75 Tryz.underlying78 ti3) fun hs => s1 (v := .int .i64 (x69)) hs (y_loadE (i := x28.Parent.toNat) (j := 0) (Rd.st hs (.tail _ (.head _))) rfl hr72 rfl Tryz.underlying3 rfl) fun hs => s1 hs (y_add rfl rfl rfl) fun hs => ?_
    obtain ⟨x76, hx77, hm⟩ := ob hm
    obtain ⟨r78, hr79, hq80, hi81, hb82⟩ := hW53.geti hx77
    obtain rfl : _ = ([.int .i64 (x76)] : List Value) := hq80
    refine s1 hs (y_indexAddr (Rd.st hs (.tail _ (.head _))) rfl rfl hi81 hb82 Tryz.underlying78 ti3) fun hs => ?_
    obtain ⟨x83, hx84, hm⟩ := ob hm
    have hex83 := seti_some hx84
    have hW86 := RW.set (i := y25.toNat) (r := [.int .i64 ((w64 (x69 + 1)))]) (x := ((w64 (x69 + 1)) : Int)) hW53 (rfl); rw [hex83] at hW86
    refine RL_storeRow (i := 1) (j := 0) (m := y25.toNat) hs rfl rfl rfl hr79 (by decide) ti3 rfl (.free rfl) fun _ _ hs => ?_
    replace hs : St _ _ _ (.blk b40 (.cells #[.int .i64 (x28.Kind), .string (x28.Name), .string (x28.Text), v35, .int .i64 (x28.Parent), .int .i64 (x28.First), .int .i64 (x28.Last), .int .i64 (x28.Prev), .int .i64 (x28.Next)] 57 (0, 0)) :: .row v21 3 1 (rw52.set y25.toNat [.int .i64 ((w64 (x69 + 1)))]) :: L) _ _ _ := hs
    generalize hgrw85 : rw52.set y25.toNat [.int .i64 ((w64 (x69 + 1)))] = rw85 at hs hW86; clear hgrw85
    refine RL_nil ?_
    exact ⟨x83, v21, rw85, hm, hW86, hs.subs ⟨rfl, rfl, rfl, rfl, rfl, trivial⟩ (.cons _ (.cons_cons _ (.refl _)))⟩
   replace hm := oc_f hg68 hm
   refine W_skip ?_
   exact ⟨x50, v21, rw52, hm, hW53, hs.subs ⟨rfl, rfl, rfl, rfl, rfl, trivial⟩ (.cons _ (.cons_cons _ (.refl _)))⟩
  replace hm := oc_f hg27 hm
  refine W_exit <| hB14 _ _ ?_
  exact ⟨hm, hs.subs trivial (.cons _ (.refl _))⟩
def dom_Kids_k1 (y27 : (List Int)) : Option (List Int) :=
  some y27
def dom_Kids_k3 (p0 : api_Tree) (y36 : (List Int)) (y41 : Int) (lp46 : (List Int) → Int → Option (List Int)) (y47 : Bool) : Option (List Int) :=
  (bif y47 then (appM 8 y36 [y41]).bind fun x54 =>
  (geti p0.Nodes y41).bind fun x60 =>
  lp46 x54 x60.Next else
  dom_Kids_k1 y36)
def dom_Kids_l2 (n : Nat) (p0 : api_Tree) : Nat → (List Int) → Int → Option (List Int)
  | 0, _, _ => none
  | k46 + 1, y36, y41 =>
  (dom_has n p0 y41).bind fun x72 =>
  (bif x72 then dom_Kids_k3 p0 y36 y41 (dom_Kids_l2 n p0 k46) (decide ((y36.length : Int) < (p0.Nodes.length : Int))) else
  dom_Kids_k3 p0 y36 y41 (dom_Kids_l2 n p0 k46) false)
def dom_Kids (n : Nat) (p0 : api_Tree) (p1 : Int) : Option (List Int) :=
  (dom_has n p0 p1).bind fun x9 =>
  (bif (!x9) then some ([] : List Int) else
  (geti p0.Nodes p1).bind fun x14 =>
  dom_Kids_l2 n p0 n ([] : List Int) x14.First)
theorem dom_Kids_ok (n : Nat) {f : Fz} {p0 : api_Tree} {a0 : List Value} {p1 : Int} {res : (List Int)} (h0 : t_api_Tree.R f a0 p0) (hm : dom_Kids n p0 p1 = some res) : Does Tryz.prog 34 [.agg a0.toArray, .int .i64 p1] f [] (fun r f' L' => ∃ (u0 : Value), L' = [] ∧ r = u0 ∧ RS (tInt .i64) f' u0 res) := by
 unfold dom_Kids at hm
 intro w0 L w hC
 obtain ⟨v1, rfl, ⟨rw2, hR3, hW4⟩⟩ := h0
 refine enter Tryz.func34 rfl Tryz.ntmps34 (by simp) hC fun a hs => ?_
 have hle := Fz.le.refl f
 refine Wq fun hK1 => sbox hs rfl fun b6 _ _ hs => sA (v := (.slice none 0 0)) hs rfl fun hs => RL_nil <| hK1 <| Ws fun hK2 => Wq fun hK3 => s1 hs (y_ldB rfl Tryz.underlying37 rfl ti37 (.head _) rfl) fun hs => ?_
 refine sM (v := .int .i64 (p1)) hs rfl fun hs => ?_
 obtain ⟨x9, hx10, hm⟩ := ob hm
 refine s1 hs (y_call rfl has62 rfl (dom_has_ok n (f := f) (a0 := [v1]) ⟨_, rfl, ⟨rw2, hR3, hW4⟩⟩ hx10)) fun hs => s1 (v := .bool ((!x9))) hs (y_not rfl) fun hs => RL_nil <| hK3 ?_
 refine W_cond hs rfl (fun hg11 => ?_) (fun hg11 => ?_)
 ·replace hm := oc_t hg11 hm
  refine Wq fun hK4 => sA (v := (.slice none 0 0)) hs rfl fun hs => RL_nil <| hK4 <| W_ret ?_
  obtain rfl := Option.some.inj hm
  refine RtV1 hs rfl (rv_t hs rfl) ?_
  exact ⟨_, f, [], rfl, hle, (hs.subL (.cons _ (.refl _))).cw, (.slice none 0 0), rfl, rfl, RS.nil⟩
 replace hm := oc_f hg11 hm
 refine W_skip <| hK2 <| Wq fun hK5 => sA (v := (.slice none 0 0)) hs rfl fun hs => RL_nil <| hK5 <| Ws fun hK6 => Ws fun hK7 => W_region ?_
 refine s1 (v := .pointer (some ⟨b6, 0, none⟩)) hs (y_fieldAddr rfl (FO.of (off := 0) Tryz.underlying37 rfl rfl ti35 (by decide))) fun hs => s1 (v := v1) hs (y_ld rfl Tryz.underlying35 rfl (Cell.blk (.head _) rfl)) fun hs => sM (v := .int .i64 (p1)) hs rfl fun hs => ?_
 obtain ⟨x14, hx15, hm⟩ := ob hm
 obtain ⟨r16, hr17, hq18, hi19, hb20⟩ := hW4.geti hx15
 obtain ⟨v21, rfl, ⟨rw22, hR23, hW24⟩⟩ := hq18
 refine s1 hs (y_indexAddr hR3 rfl rfl hi19 hb20 Tryz.underlying35 ti57) fun hs => s1 (v := eaddr v1 9 p1.toNat 5) hs (y_fieldAddrE (i := p1.toNat) (j := 0) hR3 rfl hb20 (FO.of (off := 5) Tryz.underlying57 rfl rfl ti3 (by decide))) fun hs => s1 (v := .int .i64 (x14.First)) hs (y_loadE (i := p1.toNat) (j := 5) hR3.up rfl hr17 rfl Tryz.underlying3 rfl) fun hs => sA (v := .int .i64 (x14.First)) hs rfl fun hs => RL_nil <| hK7 ?_
 refine W_post (fun a w => ∃ (y27 : (List Int)) (v28 : Value) (rw29 : List (List Value)), dom_Kids_k1 y27 = some res ∧ RW (tInt .i64) f rw29 y27 ∧ St 39 w0 f (.row v28 3 1 rw29 :: L) [(5, v28)] a w) ?_ ?_
 ·clear hs hm
  rintro a w ⟨y27, v28, rw29, hm, hW30, hs⟩
  unfold dom_Kids_k1 at hm
  refine hK6 <| Wq fun hK8 => sM (v := v28) hs rfl fun hs => sA (v := v28) hs rfl fun hs => RL_nil <| hK8 <| W_ret ?_
  obtain ⟨f32, hf33, hs2, hR34⟩ := hs.frzAt 0 rfl
  clear hs; have hs := hs2; clear hs2
  replace hW30 := hW30.le hf33
  replace hle := hle.trans hf33
  obtain rfl := Option.some.inj hm
  refine RtV1 hs rfl (rv_t hs rfl) ?_
  exact ⟨_, f32, [], rfl, hle, hs.cw, v28, rfl, rfl, ⟨rw29, hR34, hW30⟩⟩
 refine W_block fun Qe9 hB9 hO9 => ?_
 replace hs := hs.nilRow 3 1
 have hW42 : RW (tInt .i64) f [] ([] : List Int) := trivial
 generalize hgrw43 : ([] : List (List Value)) = rw43 at hs hW42; clear hgrw43
 refine W_loop (fun (k : Nat) a w => ∃ (y36 : (List Int)) (y41 : Int) (v37 : Value) (rw38 : List (List Value)), dom_Kids_l2 n p0 k y36 y41 = some res ∧ RW (tInt .i64) f rw38 y36 ∧ St 39 w0 f (.row v37 3 1 rw38 :: .blk b6 (.cells #[v1] 37 (0, 0)) :: L) [(2, .pointer (some ⟨b6, 0, none⟩)), (5, v37), (6, .int .i64 (y41))] a w) (fun k => k) n ⟨([] : List Int), x14.First, (.slice none 0 0), rw43, hm, hW42, hs.sub ⟨rfl, rfl, rfl, trivial⟩⟩ ?_
 clear hs hm
 intro k
 rintro a w ⟨y36, y41, v37, rw38, hm, hW39, hs⟩
 intro K10 hK10
 cases k with
 | zero => simp [dom_Kids_l2] at hm
 | succ k46 =>
  rw [dom_Kids_l2] at hm
  refine Ws fun hK11 => Ws fun hK12 => ?_
  refine W_post (fun a w => ∃ (y47 : Bool), dom_Kids_k3 p0 y36 y41 (dom_Kids_l2 n p0 k46) y47 = some res ∧ St 39 w0 f (.row v37 3 1 rw38 :: .blk b6 (.cells #[v1] 37 (0, 0)) :: L) [(2, .pointer (some ⟨b6, 0, none⟩)), (5, v37), (6, .int .i64 (y41)), (27, .bool (y47))] a w) ?_ ?_
  ·clear hs hm
   rintro a w ⟨y47, hm, hs⟩
   unfold dom_Kids_k3 at hm
   refine hK12 ?_
   refine W_cond hs rfl (fun hg48 => ?_) (fun hg48 => ?_)
   ·replace hm := oc_t hg48 hm
    refine W_skip <| hK11 <| Ws fun hK13 => W_block fun Qe14 hB14 hO14 => W_region <| sM (v := v37) hs rfl fun hs => sM (v := .int .i64 (y41)) hs rfl fun hs => RL_bs1s hs rfl Tryz.underlying78 ti3 rfl rfl fun v49 _ _ hs => ?_
    have hW50 : RW (tInt .i64) f [[.int .i64 (y41)]] [y41] := RW.single (rfl)
    generalize hgrw51 : ([[.int .i64 (y41)]] : List (List Value)) = rw51 at hs hW50; clear hgrw51
    obtain ⟨x54, hx55, hm⟩ := ob hm
    obtain ⟨hbx54, hex54⟩ := appM_some hx55
    have hW58 := hW39.append hW50; rw [hex54] at hW58
    refine RL_append (i := 1) hs rfl rfl rfl (Rd.st hs (.head _)) Tryz.underlying78 ti3 (by decide) (by rw [RW.len hW39, RW.len hW50]; exact hbx54) (.free rfl) (by decide) fun v56 _ _ hs => ?_
    generalize hgx54 : rw38 ++ rw51 = rw57 at hs hW58; clear hgx54
    replace hs := hs.erase 0
    refine sA (v := v56) hs rfl fun hs => RL_nil <| hK13 <| W_region <| s1 (v := .pointer (some ⟨b6, 0, none⟩)) hs (y_fieldAddr rfl (FO.of (off := 0) Tryz.underlying37 rfl rfl ti35 (by decide))) fun hs => s1 (v := v1) hs (y_ld rfl Tryz.underlying35 rfl (Cell.blk (.tail _ (.head _)) rfl)) fun hs => sM (v := .int .i64 (y41)) hs rfl fun hs => ?_
    obtain ⟨x60, hx61, hm⟩ := ob hm
    obtain ⟨r62, hr63, hq64, hi65, hb66⟩ := hW4.geti hx61
    obtain ⟨v67, rfl, ⟨rw68, hR69, hW70⟩⟩ := hq64
    refine s1 hs (y_indexAddr hR3 rfl rfl hi65 hb66 Tryz.underlying35 ti57) fun hs => s1 (v := eaddr v1 9 y41.toNat 8) hs (y_fieldAddrE (i := y41.toNat) (j := 0) hR3 rfl hb66 (FO.of (off := 8) Tryz.underlying57 rfl rfl ti3 (by decide))) fun hs => s1 (v := .int .i64 (x60.Next)) hs (y_loadE (i := y41.toNat) (j := 8) hR3.up rfl hr63 rfl Tryz.underlying3 rfl) fun hs => sA (v := .int .i64 (x60.Next)) hs rfl fun hs => RL_nil ?_
    exact hK10 k46 _ _ (Nat.lt_succ_self _) ⟨x54, x60.Next, v56, rw57, hm, hW58, hs.sub ⟨rfl, rfl, rfl, trivial⟩⟩
   replace hm := oc_f hg48 hm
   refine W_exit <| hB9 _ _ ?_
   exact ⟨y36, v37, rw38, hm, hW39, hs.subs ⟨rfl, trivial⟩ (.cons_cons _ (.cons _ (.refl _)))⟩
  refine W_region <| s1 hs (y_ldB rfl Tryz.underlying37 rfl ti37 (.tail _ (.head _)) rfl) fun hs => sM (v := .int .i64 (y41)) hs rfl fun hs => ?_
  obtain ⟨x72, hx73, hm⟩ := ob hm
  refine s1 hs (y_call rfl has62 rfl (dom_has_ok n (f := f) (a0 := [v1]) ⟨_, rfl, ⟨rw2, hR3, hW4⟩⟩ hx73)) fun hs => sM (v := .bool (x72)) hs rfl fun hs => ?_
  refine St.split hs (t := 20) rfl (fun hg74 hs => ?_) (fun hg74 hs => ?_)
  ·replace hm := oc_t hg74 hm
   refine s2 (v := v37) hs (y_move rfl) fun hs => s2 hs (y_lenW (Rd.st hs (.head _)) hW39 rfl Tryz.underlying78) fun hs => s2 (v := .pointer (some ⟨b6, 0, none⟩)) hs (y_fieldAddr rfl (FO.of (off := 0) Tryz.underlying37 rfl rfl ti35 (by decide))) fun hs => s2 (v := v1) hs (y_ld rfl Tryz.underlying35 rfl (Cell.blk (.tail _ (.head _)) rfl)) fun hs => s2 hs (y_lenW hR3 hW4 rfl Tryz.underlying35) fun hs => s2 hs (y_lss rfl rfl) fun hs => sP (v := .bool (decide ((y36.length : Int) < (p0.Nodes.length : Int)))) hs rfl rfl fun hs => RL_nil ?_
   exact ⟨decide ((y36.length : Int) < (p0.Nodes.length : Int)), hm, hs.sub ⟨rfl, rfl, rfl, rfl, trivial⟩⟩
  replace hm := oc_f hg74 hm
  refine s3 hs fun hs => s3 hs fun hs => s3 hs fun hs => s3 hs fun hs => s3 hs fun hs => s3 hs fun hs => sP (v := .bool (false)) hs rfl rfl fun hs => RL_nil ?_
  exact ⟨false, hm, hs.sub ⟨rfl, rfl, rfl, rfl, trivial⟩⟩
def ref5_attrs_k1 (p0 : (List api_Attr)) : Option Bool :=
  some (decide ((p0.length : Int) ≤ 64))
def ref5_attrs_k3 (y5 : Int) (lp6 : Int → Option Bool) : Option Bool :=
  lp6 (w64 (y5 + 1))
def ref5_attrs_l4 (p0 : (List api_Attr)) (y5 : Int) (lp6 : Int → Option Bool) : Nat → Int → Option Bool
  | 0, _ => none
  | k17 + 1, y16 =>
  (bif (decide (y16 < y5)) then (geti p0 y16).bind fun x19 =>
  (geti p0 y5).bind fun x26 =>
  (bif (decide (x19.Name = x26.Name)) then some false else
  (ref5_attrs_l4 p0 y5 lp6 k17) (w64 (y16 + 1))) else
  ref5_attrs_k3 y5 lp6)
def ref5_attrs_l2 (n : Nat) (p0 : (List api_Attr)) : Nat → Int → Option Bool
  | 0, _ => none
  | k6 + 1, y5 =>
  (bif (decide (y5 < (p0.length : Int))) then (geti p0 y5).bind fun x8 =>
  (bif (decide (x8.Name = (bs []))) then some false else
  ref5_attrs_l4 p0 y5 (ref5_attrs_l2 n p0 k6) n 0) else
  ref5_attrs_k1 p0)
def ref5_attrs (n : Nat) (p0 : (List api_Attr)) : Option Bool :=
  ref5_attrs_l2 n p0 n 0
theorem ref5_attrs_ok (n : Nat) {f : Fz} {p0 : (List api_Attr)} {a0 : Value} {res : Bool} (h0 : RS t_api_Attr f a0 p0) (hm : ref5_attrs n p0 = some res) : Gives Tryz.prog 104 [a0] f (.bool res) := by
 unfold ref5_attrs at hm
 intro w0 L w hC
 obtain ⟨rw1, hR2, hW3⟩ := h0
 refine enter Tryz.func104 rfl Tryz.ntmps104 (by simp) hC fun a hs => ?_
 have hle := Fz.le.refl f
 refine Wq fun hK1 => sA (v := .bool (false)) hs rfl fun hs => RL_nil <| hK1 <| Ws fun hK2 => Wq fun hK3 => sA (v := .int .i64 (0)) hs rfl fun hs => RL_nil ?_
 refine hK3 ?_
 refine W_post (fun a w => ref5_attrs_k1 p0 = some res ∧ St 36 w0 f (L) [(0, a0)] a w) ?_ ?_
 ·clear hs hm
  rintro a w ⟨hm, hs⟩
  unfold ref5_attrs_k1 at hm
  refine hK2 <| Wq fun hK4 => sM (v := a0) hs rfl fun hs => s1 hs (y_lenW hR2 hW3 rfl Tryz.underlying55) fun hs => s1 hs (y_leq rfl rfl) fun hs => sA (v := .bool (decide ((p0.length : Int) ≤ 64))) hs rfl fun hs => RL_nil <| hK4 <| W_ret ?_
  obtain rfl := Option.some.inj hm
  refine RtV1 hs rfl (rv_t hs rfl) ?_
  exact ⟨rfl, (hs.weak hle).cw⟩
 refine W_block fun Qe5 hB5 hO5 => W_loop (fun (k : Nat) a w => ∃ (y5 : Int), ref5_attrs_l2 n p0 k y5 = some res ∧ St 36 w0 f (L) [(0, a0), (3, .int .i64 (y5))] a w) (fun k => k) n ⟨0, hm, hs.sub ⟨rfl, rfl, trivial⟩⟩ ?_
 clear hs hm
 intro k
 rintro a w ⟨y5, hm, hs⟩
 intro K6 hK6
 cases k with
 | zero => simp [ref5_attrs_l2] at hm
 | succ k6 =>
  rw [ref5_attrs_l2] at hm
  refine Ws fun hK7 => Wq fun hK8 => sM (v := .int .i64 (y5)) hs rfl fun hs => sM (v := a0) hs rfl fun hs => s1 hs (y_lenW hR2 hW3 rfl Tryz.underlying55) fun hs => s1 hs (y_lss rfl rfl) fun hs => RL_nil <| hK8 ?_
  refine W_cond hs rfl (fun hg7 => ?_) (fun hg7 => ?_)
  ·replace hm := oc_t hg7 hm
   refine W_skip <| hK7 <| Ws fun hK9 => W_block fun Qe10 hB10 hO10 => Ws fun hK11 => Wq fun hK12 => sM (v := a0) hs rfl fun hs => sM (v := .int .i64 (y5)) hs rfl fun hs => ?_
   obtain ⟨x8, hx9, hm⟩ := ob hm
   obtain ⟨r10, hr11, hq12, hi13, hb14⟩ := hW3.geti hx9
   obtain rfl : _ = ([.string (x8.Name), .string (x8.Value)] : List Value) := hq12
   refine s1 hs (y_indexAddr hR2 rfl rfl hi13 hb14 Tryz.underlying55 ti85) fun hs => s1 (v := eaddr a0 2 y5.toNat 0) hs (y_fieldAddrE (i := y5.toNat) (j := 0) hR2 rfl hb14 (FO.of (off := 0) Tryz.underlying85 rfl rfl ti9 (by decide))) fun hs => s1 (v := .string (x8.Name)) hs (y_loadE (i := y5.toNat) (j := 0) hR2.up rfl hr11 rfl Tryz.underlying9 rfl) fun hs => s1 hs (y_seql rfl rfl) fun hs => RL_nil <| hK12 ?_
   refine W_cond hs rfl (fun hg15 => ?_) (fun hg15 => ?_)
   ·replace hm := oc_t hg15 hm
    refine Wq fun hK13 => sA (v := .bool (false)) hs rfl fun hs => RL_nil <| hK13 <| W_ret ?_
    obtain rfl := Option.some.inj hm
    refine RtV1 hs rfl (rv_t hs rfl) ?_
    exact ⟨rfl, (hs.weak hle).cw⟩
   replace hm := oc_f hg15 hm
   refine W_skip <| hK11 <| Wq fun hK14 => sA (v := .int .i64 (0)) hs rfl fun hs => RL_nil <| hK14 ?_
   refine W_post (fun a w => ref5_attrs_k3 y5 (ref5_attrs_l2 n p0 k6) = some res ∧ St 36 w0 f (L) [(0, a0), (3, .int .i64 (y5))] a w) ?_ ?_
   ·clear hs hm
    rintro a w ⟨hm, hs⟩
    unfold ref5_attrs_k3 at hm
    refine hK9 <| W_region <| sM (v := .int .i64 (y5)) hs rfl fun hs => s1 hs (y_add rfl rfl rfl) fun hs => sA (v := .int .i64 ((w64 (y5 + 1)))) hs rfl fun hs => RL_nil ?_
    exact hK6 k6 _ _ (Nat.lt_succ_self _) ⟨(w64 (y5 + 1)), hm, hs.sub ⟨rfl, rfl, trivial⟩⟩
   refine W_block fun Qe15 hB15 hO15 => W_loop (fun (k : Nat) a w => ∃ (y16 : Int), ref5_attrs_l4 p0 y5 (ref5_attrs_l2 n p0 k6) k y16 = some res ∧ St 36 w0 f (L) [(0, a0), (3, .int .i64 (y5)), (4, .int .i64 (y16))] a w) (fun k => k) n ⟨0, hm, hs.sub ⟨rfl, rfl, rfl, trivial⟩⟩ ?_
   clear hs hm
   intro k
   rintro a w ⟨y16, hm, hs⟩
   intro K16 hK16
   cases k with
   | zero => simp [ref5_attrs_l4] at hm
   | succ k17 =>
    rw [ref5_attrs_l4] at hm
    refine Ws fun hK17 => Wq fun hK18 => sM (v := .int .i64 (y16)) hs rfl fun hs => sM (v := .int .i64 (y5)) hs rfl fun hs => s1 hs (y_lss rfl rfl) fun hs => RL_nil <| hK18 ?_
    refine W_cond hs rfl (fun hg18 => ?_) (fun hg18 => ?_)
    ·replace hm := oc_t hg18 hm
     refine W_skip <| hK17 <| Ws fun hK19 => W_block fun Qe20 hB20 hO20 => Ws fun hK21 => ?_
     refine W_draw hs mixed (by kernel_rfl) ?_; intro a he
     refine qy (v := a0) he (y_move rfl) fun _ he => qy (v := .int .i64 (y16)) he (y_move rfl) fun _ he => ?_
     obtain ⟨x19, hx20, hm⟩ := ob hm
     obtain ⟨r21, hr22, hq23, hi24, hb25⟩ := hW3.geti hx20
     obtain rfl : _ = ([.string (x19.Name), .string (x19.Value)] : List Value) := hq23
     refine qy he (y_indexAddr hR2 rfl rfl hi24 hb25 Tryz.underlying55 ti85) fun _ he => qy (v := eaddr a0 2 y16.toNat 0) he (y_fieldAddrE (i := y16.toNat) (j := 0) hR2 rfl hb25 (FO.of (off := 0) Tryz.underlying85 rfl rfl ti9 (by decide))) fun _ he => qy (v := .string (x19.Name)) he (y_loadE (i := y16.toNat) (j := 0) hR2.up rfl hr22 rfl Tryz.underlying9 rfl) fun _ he => qy (v := a0) he (y_move rfl) fun _ he => qy (v := .int .i64 (y5)) he (y_move rfl) fun _ he => ?_
     obtain ⟨x26, hx27, hm⟩ := ob hm
     obtain ⟨r28, hr29, hq30, hi31, hb32⟩ := hW3.geti hx27
     obtain rfl : _ = ([.string (x26.Name), .string (x26.Value)] : List Value) := hq30
     refine qy he (y_indexAddr hR2 rfl rfl hi31 hb32 Tryz.underlying55 ti85) fun _ he => qy (v := eaddr a0 2 y5.toNat 0) he (y_fieldAddrE (i := y5.toNat) (j := 0) hR2 rfl hb32 (FO.of (off := 0) Tryz.underlying85 rfl rfl ti9 (by decide))) fun _ he => qy (v := .string (x26.Name)) he (y_loadE (i := y5.toNat) (j := 0) hR2.up rfl hr29 rfl Tryz.underlying9 rfl) fun _ he => qy he (y_seql rfl rfl) fun _ he => ?_
     refine QL_nil he ?_; clear he; (try clear hs); (try clear a); intro a w hs
     refine hK21 ?_
     refine W_cond hs rfl (fun hg33 => ?_) (fun hg33 => ?_)
     ·replace hm := oc_t hg33 hm
      refine Wq fun hK22 => sA (v := .bool (false)) hs rfl fun hs => RL_nil <| hK22 <| W_ret ?_
      obtain rfl := Option.some.inj hm
      refine RtV1 hs rfl (rv_t hs rfl) ?_
      exact ⟨rfl, (hs.weak hle).cw⟩
     replace hm := oc_f hg33 hm
     refine W_skip <| hK19 <| W_region <| sM (v := .int .i64 (y16)) hs rfl fun hs => s1 hs (y_add rfl rfl rfl) fun hs => sA (v := .int .i64 ((w64 (y16 + 1)))) hs rfl fun hs => RL_nil ?_
     exact hK16 k17 _ _ (Nat.lt_succ_self _) ⟨(w64 (y16 + 1)), hm, hs.sub ⟨rfl, rfl, rfl, trivial⟩⟩
    replace hm := oc_f hg18 hm
    refine W_exit <| hB15 _ _ ?_
    exact ⟨hm, hs.sub ⟨rfl, rfl, trivial⟩⟩
  replace hm := oc_f hg7 hm
  refine W_exit <| hB5 _ _ ?_
  exact ⟨hm, hs.sub ⟨rfl, trivial⟩⟩
def ref5_plain_k1 (y9 : Bool) : Option Bool :=
  some y9
def ref5_plain (n : Nat) (p0 : api_Node) : Option Bool :=
  (bif (decide (p0.Kind = 1)) then (bif (decide (p0.Name ≠ (bs []))) then (bif (decide (p0.Text = (bs []))) then (ref5_attrs n p0.Attrs).bind fun x12 =>
  ref5_plain_k1 x12 else
  ref5_plain_k1 false) else
  ref5_plain_k1 false) else
  some ((decide (p0.Kind = 2)) && ((decide (p0.Name = (bs []))) && ((decide (p0.Text ≠ (bs []))) && ((decide ((p0.Attrs.length : Int) = 0)) && ((decide (p0.First = (-1))) && (decide (p0.Last = (-1)))))))))
theorem ref5_plain_ok (n : Nat) {f : Fz} {p0 : api_Node} {a0 : List Value} {res : Bool} (h0 : t_api_Node.R f a0 p0) (hm : ref5_plain n p0 = some res) : Gives Tryz.prog 68 [.agg a0.toArray] f (.bool res) := by
 unfold ref5_plain at hm
 intro w0 L w hC
 obtain ⟨v1, rfl, ⟨rw2, hR3, hW4⟩⟩ := h0
 refine enter Tryz.func68 rfl Tryz.ntmps68 (by simp) hC fun a hs => ?_
 have hle := Fz.le.refl f
 refine Wq fun hK1 => sbox hs rfl fun b6 _ _ hs => sA (v := .bool (false)) hs rfl fun hs => RL_nil <| hK1 <| Ws fun hK2 => Wq fun hK3 => s1 (v := .pointer (some ⟨b6, 0, none⟩)) hs (y_fieldAddr rfl (FO.of (off := 0) Tryz.underlying57 rfl rfl ti3 (by decide))) fun hs => ?_
 refine s1 (v := .int .i64 (p0.Kind)) hs (y_ld rfl Tryz.underlying3 rfl (Cell.blk (.head _) rfl)) fun hs => s1 hs (y_eql rfl rfl) fun hs => RL_nil <| hK3 ?_
 refine W_cond hs rfl (fun hg8 => ?_) (fun hg8 => ?_)
 ·replace hm := oc_t hg8 hm
  refine Ws fun hK4 => ?_
  refine W_post (fun a w => ∃ (y9 : Bool), ref5_plain_k1 y9 = some res ∧ St 48 w0 f (L) [(2, .bool (y9))] a w) ?_ ?_
  ·clear hs hm
   rintro a w ⟨y9, hm, hs⟩
   unfold ref5_plain_k1 at hm
   refine hK4 <| W_ret ?_
   obtain rfl := Option.some.inj hm
   refine RtV1 hs rfl (rv_t hs rfl) ?_
   exact ⟨rfl, (hs.weak hle).cw⟩
  refine W_region <| s1 (v := .pointer (some ⟨b6, 1, none⟩)) hs (y_fieldAddr rfl (FO.of (off := 1) Tryz.underlying57 rfl rfl ti9 (by decide))) fun hs => s1 (v := .string (p0.Name)) hs (y_ld rfl Tryz.underlying9 rfl (Cell.blk (.head _) rfl)) fun hs => s1 hs (y_sneq rfl rfl) fun hs => sM (v := .bool (decide (p0.Name ≠ (bs [])))) hs rfl fun hs => ?_
  refine St.split hs (t := 9) rfl (fun hg10 hs => ?_) (fun hg10 hs => ?_)
  ·replace hm := oc_t hg10 hm
   refine s2 (v := .pointer (some ⟨b6, 2, none⟩)) hs (y_fieldAddr rfl (FO.of (off := 2) Tryz.underlying57 rfl rfl ti9 (by decide))) fun hs => s2 (v := .string (p0.Text)) hs (y_ld rfl Tryz.underlying9 rfl (Cell.blk (.head _) rfl)) fun hs => s2 hs (y_seql rfl rfl) fun hs => sP (v := .bool (decide (p0.Text = (bs [])))) hs rfl rfl fun hs => sM (v := .bool (decide (p0.Text = (bs [])))) hs rfl fun hs => ?_
   refine St.split hs (t := 14) rfl (fun hg11 hs => ?_) (fun hg11 hs => ?_)
   ·replace hm := oc_t hg11 hm
    refine s2 (v := .pointer (some ⟨b6, 3, none⟩)) hs (y_fieldAddr rfl (FO.of (off := 3) Tryz.underlying57 rfl rfl ti55 (by decide))) fun hs => s2 (v := v1) hs (y_ld rfl Tryz.underlying55 rfl (Cell.blk (.head _) rfl)) fun hs => ?_
    obtain ⟨x12, hx13, hm⟩ := ob hm
    refine s2 hs (y_call rfl has104 rfl (ref5_attrs_ok n (f := f) (a0 := v1) ⟨rw2, hR3, hW4⟩ hx13)) fun hs => sP (v := .bool (x12)) hs rfl rfl fun hs => sA (v := .bool (x12)) hs rfl fun hs => RL_nil ?_
    exact ⟨x12, hm, hs.subs ⟨rfl, trivial⟩ (.cons _ (.refl _))⟩
   replace hm := oc_f hg11 hm
   refine s3 hs fun hs => s3 hs fun hs => s3 hs fun hs => sP (v := .bool (false)) hs rfl rfl fun hs => sA (v := .bool (false)) hs rfl fun hs => RL_nil ?_
   exact ⟨false, hm, hs.subs ⟨rfl, trivial⟩ (.cons _ (.refl _))⟩
  replace hm := oc_f hg10 hm
  refine s3 hs fun hs => s3 hs fun hs => s3 hs fun hs => sP (v := .bool (false)) hs rfl rfl fun hs => sM (v := .bool (false)) hs rfl fun hs => s3 hs fun hs => s3 hs fun hs => s3 hs fun hs => sP (v := .bool (false)) hs rfl rfl fun hs => sA (v := .bool (false)) hs rfl fun hs => ?_
  refine RL_nil ?_
  exact ⟨false, hm, hs.subs ⟨rfl, trivial⟩ (.cons _ (.refl _))⟩
 replace hm := oc_f hg8 hm
 refine W_skip <| hK2 <| Ws fun hK5 => ?_
 refine W_post (fun a w => St 48 w0 f (.blk b6 (.cells #[.int .i64 (p0.Kind), .string (p0.Name), .string (p0.Text), v1, .int .i64 (p0.Parent), .int .i64 (p0.First), .int .i64 (p0.Last), .int .i64 (p0.Prev), .int .i64 (p0.Next)] 57 (0, 0)) :: L) [(2, .bool (((decide (p0.Kind = 2)) && ((decide (p0.Name = (bs []))) && ((decide (p0.Text ≠ (bs []))) && ((decide ((p0.Attrs.length : Int) = 0)) && ((decide (p0.First = (-1))) && (decide (p0.Last = (-1))))))))))] a w) ?_ ?_
 ·clear hs; intro a w hs
  refine hK5 <| W_ret ?_
  obtain rfl := Option.some.inj hm
  refine RtV1 hs rfl (rv_t hs rfl) ?_
  exact ⟨rfl, ((hs.subL (.cons _ (.refl _))).weak hle).cw⟩
 refine W_region <| s1 (v := .pointer (some ⟨b6, 0, none⟩)) hs (y_fieldAddr rfl (FO.of (off := 0) Tryz.underlying57 rfl rfl ti3 (by decide))) fun hs => s1 (v := .int .i64 (p0.Kind)) hs (y_ld rfl Tryz.underlying3 rfl (Cell.blk (.head _) rfl)) fun hs => s1 hs (y_eql rfl rfl) fun hs => sM (v := .bool (decide (p0.Kind = 2))) hs rfl fun hs => ?_
 refine St.split hs (t := 22) rfl (fun hg14 hs => ?_) (fun hg14 hs => ?_)
 ·refine s2 (v := .pointer (some ⟨b6, 1, none⟩)) hs (y_fieldAddr rfl (FO.of (off := 1) Tryz.underlying57 rfl rfl ti9 (by decide))) fun hs => s2 (v := .string (p0.Name)) hs (y_ld rfl Tryz.underlying9 rfl (Cell.blk (.head _) rfl)) fun hs => s2 hs (y_seql rfl rfl) fun hs => sP (v := .bool (decide (p0.Name = (bs [])))) hs rfl rfl fun hs => sM (v := .bool (decide (p0.Name = (bs [])))) hs rfl fun hs => ?_
  refine St.split hs (t := 27) rfl (fun hg15 hs => ?_) (fun hg15 hs => ?_)
  ·refine s2 (v := .pointer (some ⟨b6, 2, none⟩)) hs (y_fieldAddr rfl (FO.of (off := 2) Tryz.underlying57 rfl rfl ti9 (by decide))) fun hs => s2 (v := .string (p0.Text)) hs (y_ld rfl Tryz.underlying9 rfl (Cell.blk (.head _) rfl)) fun hs => s2 hs (y_sneq rfl rfl) fun hs => sP (v := .bool (decide (p0.Text ≠ (bs [])))) hs rfl rfl fun hs => sM (v := .bool (decide (p0.Text ≠ (bs [])))) hs rfl fun hs => ?_
   refine St.split hs (t := 32) rfl (fun hg16 hs => ?_) (fun hg16 hs => ?_)
   ·refine s2 (v := .pointer (some ⟨b6, 3, none⟩)) hs (y_fieldAddr rfl (FO.of (off := 3) Tryz.underlying57 rfl rfl ti55 (by decide))) fun hs => s2 (v := v1) hs (y_ld rfl Tryz.underlying55 rfl (Cell.blk (.head _) rfl)) fun hs => s2 hs (y_lenW hR3 hW4 rfl Tryz.underlying55) fun hs => s2 hs (y_eql rfl rfl) fun hs => sP (v := .bool (decide ((p0.Attrs.length : Int) = 0))) hs rfl rfl fun hs => sM (v := .bool (decide ((p0.Attrs.length : Int) = 0))) hs rfl fun hs => ?_
    refine St.split hs (t := 38) rfl (fun hg17 hs => ?_) (fun hg17 hs => ?_)
    ·refine s2 (v := .pointer (some ⟨b6, 5, none⟩)) hs (y_fieldAddr rfl (FO.of (off := 5) Tryz.underlying57 rfl rfl ti3 (by decide))) fun hs => s2 (v := .int .i64 (p0.First)) hs (y_ld rfl Tryz.underlying3 rfl (Cell.blk (.head _) rfl)) fun hs => s2 hs (y_eql rfl rfl) fun hs => sP (v := .bool (decide (p0.First = (-1)))) hs rfl rfl fun hs => sM (v := .bool (decide (p0.First = (-1)))) hs rfl fun hs => ?_
     refine St.split hs (t := 43) rfl (fun hg18 hs => ?_) (fun hg18 hs => ?_)
     ·refine s2 (v := .pointer (some ⟨b6, 6, none⟩)) hs (y_fieldAddr rfl (FO.of (off := 6) Tryz.underlying57 rfl rfl ti3 (by decide))) fun hs => s2 (v := .int .i64 (p0.Last)) hs (y_ld rfl Tryz.underlying3 rfl (Cell.blk (.head _) rfl)) fun hs => s2 hs (y_eql rfl rfl) fun hs => sP (v := .bool (decide (p0.Last = (-1)))) hs rfl rfl fun hs => sA (v := .bool (decide (p0.Last = (-1)))) hs rfl fun hs => RL_nil ?_
      exact hs.sub ⟨(lkB (((and_t hg14).trans ((and_t hg15).trans ((and_t hg16).trans ((and_t hg17).trans ((and_t hg18).trans rfl)))))) rfl), trivial⟩
     refine s3 hs fun hs => s3 hs fun hs => s3 hs fun hs => sP (v := .bool (false)) hs rfl rfl fun hs => sA (v := .bool (false)) hs rfl fun hs => RL_nil ?_
     exact hs.sub ⟨(lkB (((and_t hg14).trans ((and_t hg15).trans ((and_t hg16).trans ((and_t hg17).trans ((and_f hg18).trans rfl)))))) rfl), trivial⟩
    refine s3 hs fun hs => s3 hs fun hs => s3 hs fun hs => sP (v := .bool (false)) hs rfl rfl fun hs => sM (v := .bool (false)) hs rfl fun hs => s3 hs fun hs => s3 hs fun hs => s3 hs fun hs => sP (v := .bool (false)) hs rfl rfl fun hs => sA (v := .bool (false)) hs rfl fun hs => ?_
    refine RL_nil ?_
    exact hs.sub ⟨(lkB (((and_t hg14).trans ((and_t hg15).trans ((and_t hg16).trans ((and_f hg17).trans rfl))))) rfl), trivial⟩
   refine s3 hs fun hs => s3 hs fun hs => s3 hs fun hs => s3 hs fun hs => sP (v := .bool (false)) hs rfl rfl fun hs => sM (v := .bool (false)) hs rfl fun hs => s3 hs fun hs => s3 hs fun hs => s3 hs fun hs => sP (v := .bool (false)) hs rfl rfl fun hs => ?_
   refine sM (v := .bool (false)) hs rfl fun hs => s3 hs fun hs => s3 hs fun hs => s3 hs fun hs => sP (v := .bool (false)) hs rfl rfl fun hs => sA (v := .bool (false)) hs rfl fun hs => RL_nil ?_
   exact hs.sub ⟨(lkB (((and_t hg14).trans ((and_t hg15).trans ((and_f hg16).trans rfl)))) rfl), trivial⟩
  refine s3 hs fun hs => s3 hs fun hs => s3 hs fun hs => sP (v := .bool (false)) hs rfl rfl fun hs => sM (v := .bool (false)) hs rfl fun hs => s3 hs fun hs => s3 hs fun hs => s3 hs fun hs => s3 hs fun hs => sP (v := .bool (false)) hs rfl rfl fun hs => ?_
  refine sM (v := .bool (false)) hs rfl fun hs => s3 hs fun hs => s3 hs fun hs => s3 hs fun hs => sP (v := .bool (false)) hs rfl rfl fun hs => sM (v := .bool (false)) hs rfl fun hs => s3 hs fun hs => s3 hs fun hs => s3 hs fun hs => sP (v := .bool (false)) hs rfl rfl fun hs => ?_
  refine sA (v := .bool (false)) hs rfl fun hs => RL_nil ?_
  exact hs.sub ⟨(lkB (((and_t hg14).trans ((and_f hg15).trans rfl))) rfl), trivial⟩
 refine s3 hs fun hs => s3 hs fun hs => s3 hs fun hs => sP (v := .bool (false)) hs rfl rfl fun hs => sM (v := .bool (false)) hs rfl fun hs => s3 hs fun hs => s3 hs fun hs => s3 hs fun hs => sP (v := .bool (false)) hs rfl rfl fun hs => sM (v := .bool (false)) hs rfl fun hs => ?_
 refine s3 hs fun hs => s3 hs fun hs => s3 hs fun hs => s3 hs fun hs => sP (v := .bool (false)) hs rfl rfl fun hs => sM (v := .bool (false)) hs rfl fun hs => s3 hs fun hs => s3 hs fun hs => s3 hs fun hs => sP (v := .bool (false)) hs rfl rfl fun hs => ?_
 refine sM (v := .bool (false)) hs rfl fun hs => s3 hs fun hs => s3 hs fun hs => s3 hs fun hs => sP (v := .bool (false)) hs rfl rfl fun hs => sA (v := .bool (false)) hs rfl fun hs => RL_nil ?_
 exact hs.sub ⟨(lkB (((and_f hg14).trans rfl)) rfl), trivial⟩
def ref5_Right_k3 (y48 : Int) : Option Int :=
  (bif (decide (256 < y48)) then some 5 else
  some 0)
def ref5_Right_k5 (y50 : Int) (lp51 : Int → Option Int) (y53 : Bool) : Option Int :=
  (bif y53 then some 10 else
  lp51 (w64 (y50 + 1)))
def ref5_Right_l4 (p0 : api_Tree) (y43 : (List api_Node)) (y48 : Int) : Nat → Int → Option Int
  | 0, _ => none
  | k51 + 1, y50 =>
  (bif (decide (y50 < (p0.Nodes.length : Int))) then (geti p0.Nodes y50).bind fun x55 =>
  (geti y43 y50).bind fun x67 =>
  (bif (decide (x55.First ≠ x67.First)) then ref5_Right_k5 y50 (ref5_Right_l4 p0 y43 y48 k51) true else
  (geti p0.Nodes y50).bind fun x80 =>
  (geti y43 y50).bind fun x92 =>
  (bif (decide (x80.Last ≠ x92.Last)) then ref5_Right_k5 y50 (ref5_Right_l4 p0 y43 y48 k51) true else
  (geti p0.Nodes y50).bind fun x105 =>
  (geti y43 y50).bind fun x117 =>
  (bif (decide (x105.Prev ≠ x117.Prev)) then ref5_Right_k5 y50 (ref5_Right_l4 p0 y43 y48 k51) true else
  (geti p0.Nodes y50).bind fun x130 =>
  (geti y43 y50).bind fun x142 =>
  ref5_Right_k5 y50 (ref5_Right_l4 p0 y43 y48 k51) (decide (x130.Next ≠ x142.Next))))) else
  ref5_Right_k3 y48)
def ref5_Right_k2 (n : Nat) (p0 : api_Tree) (y43 : (List api_Node)) (y48 : Int) : Option Int :=
  ref5_Right_l4 p0 y43 y48 n 0
def ref5_Right_k7 (y165 : Int) (lp166 : (List api_Node) → Int → (List Int) → Int → Option Int) (y168 : (List api_Node)) (y173 : Int) (y174 : (List Int)) : Option Int :=
  lp166 y168 y173 y174 (w64 (y165 + 1))
def ref5_Right_k11 (y165 : Int) (lp166 : (List api_Node) → Int → (List Int) → Int → Option Int) (x195 : api_Node) (x219 : (List Int)) (y225 : Int) (y268 : (List api_Node)) : Option Int :=
  (geti y268 x195.Parent).bind fun x273 =>
  (seti y268 x195.Parent ({x273 with Last := y165} : api_Node)).bind fun x285 =>
  ref5_Right_k7 y165 lp166 x285 y225 x219
def ref5_Right_k10 (y154 : (List api_Node)) (y165 : Int) (lp166 : (List api_Node) → Int → (List Int) → Int → Option Int) (x195 : api_Node) (x219 : (List Int)) (y225 : Int) : Option Int :=
  (geti y154 x195.Parent).bind fun x226 =>
  (geti y154 y165).bind fun x239 =>
  (seti y154 y165 ({Kind := 0, Name := (bs []), Text := (bs []), Attrs := ([] : List api_Attr), Parent := x195.Parent, First := (-1), Last := (-1), Prev := x226.Last, Next := (-1)} : api_Node)).bind fun x251 =>
  (geti x251 x195.Parent).bind fun x256 =>
  (bif (decide (0 ≤ x256.Last)) then (geti x251 x195.Parent).bind fun x291 =>
  (geti x251 x291.Last).bind fun x303 =>
  (seti x251 x291.Last ({x303 with Next := y165} : api_Node)).bind fun x315 =>
  ref5_Right_k11 y165 lp166 x195 x219 y225 x315 else
  (geti x251 x195.Parent).bind fun x320 =>
  (seti x251 x195.Parent ({x320 with First := y165} : api_Node)).bind fun x332 =>
  ref5_Right_k11 y165 lp166 x195 x219 y225 x332)
def ref5_Right_k9 (y154 : (List api_Node)) (y159 : Int) (y165 : Int) (lp166 : (List api_Node) → Int → (List Int) → Int → Option Int) (x195 : api_Node) (y207 : (List Int)) (y212 : Bool) : Option Int :=
  (bif y212 then some 10 else
  (appM 8 y207 [y165]).bind fun x219 =>
  (bif (decide (y159 < (x219.length : Int))) then ref5_Right_k10 y154 y165 lp166 x195 x219 (x219.length : Int) else
  ref5_Right_k10 y154 y165 lp166 x195 x219 y159))
def ref5_Right_k8 (p0 : api_Tree) (y154 : (List api_Node)) (y159 : Int) (y165 : Int) (lp166 : (List api_Node) → Int → (List Int) → Int → Option Int) (x195 : api_Node) (y207 : (List Int)) : Option Int :=
  (bif (decide ((y207.length : Int) = 0)) then ref5_Right_k9 y154 y159 y165 lp166 x195 y207 true else
  (geti p0.Nodes x195.Parent).bind fun x339 =>
  ref5_Right_k9 y154 y159 y165 lp166 x195 y207 (decide (x339.Kind ≠ 1)))
def ref5_Right_k13 (p0 : api_Tree) (y154 : (List api_Node)) (y159 : Int) (y165 : Int) (lp166 : (List api_Node) → Int → (List Int) → Int → Option Int) (x195 : api_Node) (y351 : (List Int)) (lp356 : (List Int) → Option Int) (y357 : Bool) : Option Int :=
  (bif y357 then (cutM y351 (0 : Int) (w64 ((y351.length : Int) - 1))).bind fun x359 =>
  lp356 x359 else
  ref5_Right_k8 p0 y154 y159 y165 lp166 x195 y351)
def ref5_Right_l12 (p0 : api_Tree) (y154 : (List api_Node)) (y159 : Int) (y165 : Int) (lp166 : (List api_Node) → Int → (List Int) → Int → Option Int) (x195 : api_Node) : Nat → (List Int) → Option Int
  | 0, _ => none
  | k356 + 1, y351 =>
  (bif (decide (0 < (y351.length : Int))) then (geti y351 (w64 ((y351.length : Int) - 1))).bind fun x367 =>
  ref5_Right_k13 p0 y154 y159 y165 lp166 x195 y351 (ref5_Right_l12 p0 y154 y159 y165 lp166 x195 k356) (decide (x367 ≠ x195.Parent)) else
  ref5_Right_k13 p0 y154 y159 y165 lp166 x195 y351 (ref5_Right_l12 p0 y154 y159 y165 lp166 x195 k356) false)
def ref5_Right_l6 (n : Nat) (p0 : api_Tree) : Nat → (List api_Node) → Int → (List Int) → Int → Option Int
  | 0, _, _, _, _ => none
  | k166 + 1, y154, y159, y160, y165 =>
  (bif (decide (y165 < (p0.Nodes.length : Int))) then (geti p0.Nodes y165).bind fun x179 =>
  (ref5_plain n x179).bind fun x191 =>
  (bif (!x191) then some 10 else
  (bif (decide (y165 = 0)) then ref5_Right_k7 y165 (ref5_Right_l6 n p0 k166) y154 y159 y160 else
  (geti p0.Nodes y165).bind fun x195 =>
  ref5_Right_l12 p0 y154 y159 y165 (ref5_Right_l6 n p0 k166) x195 n y160)) else
  ref5_Right_k2 n p0 y154 y159)
def ref5_Right_k1 (n : Nat) (p0 : api_Tree) (y10 : Bool) : Option Int :=
  (bif y10 then some 10 else
  (repM 104 (p0.Nodes.length : Int) ({Kind := (0 : Int), Name := (bs []), Text := (bs []), Attrs := ([] : (List api_Attr)), Parent := (0 : Int), First := (0 : Int), Last := (0 : Int), Prev := (0 : Int), Next := (0 : Int)} : api_Node)).bind fun x12 =>
  (geti x12 0).bind fun x26 =>
  (seti x12 0 ({Kind := 0, Name := (bs []), Text := (bs []), Attrs := ([] : List api_Attr), Parent := (-1), First := (-1), Last := (-1), Prev := (-1), Next := (-1)} : api_Node)).bind fun x38 =>
  ref5_Right_l6 n p0 n x38 1 [0] 0)
def ref5_Right (n : Nat) (p0 : api_Tree) : Option Int :=
  (bif (decide ((p0.Nodes.length : Int) = 0)) then some 10 else
  (bif (decide (4096 < (p0.Nodes.length : Int))) then some 4 else
  (geti p0.Nodes 0).bind fun x374 =>
  (bif (decide (x374.Kind ≠ 1)) then ref5_Right_k1 n p0 true else
  (geti p0.Nodes 0).bind fun x387 =>
  (bif (decide (x387.Parent ≠ (-1))) then ref5_Right_k1 n p0 true else
  (geti p0.Nodes 0).bind fun x400 =>
  (bif (decide (x400.Prev ≠ (-1))) then ref5_Right_k1 n p0 true else
  (geti p0.Nodes 0).bind fun x413 =>
  ref5_Right_k1 n p0 (decide (x413.Next ≠ (-1))))))))
theorem ref5_Right_ok (n : Nat) {f : Fz} {p0 : api_Tree} {a0 : List Value} {res : Int} (h0 : t_api_Tree.R f a0 p0) (hm : ref5_Right n p0 = some res) : Gives Tryz.prog 38 [.agg a0.toArray] f (.int .i64 res) := by
 unfold ref5_Right at hm
 intro w0 L w hC
 obtain ⟨v1, rfl, ⟨rw2, hR3, hW4⟩⟩ := h0
 refine enter Tryz.func38 rfl Tryz.ntmps38 (by simp) hC fun a hs => ?_
 have hle := Fz.le.refl f
 refine Wq fun hK1 => sbox hs rfl fun b6 _ _ hs => sA (v := .int .i64 (0)) hs rfl fun hs => RL_nil <| hK1 <| Wq fun hK2 => s1 (v := .pointer (some ⟨b6, 0, none⟩)) hs (y_fieldAddr rfl (FO.of (off := 0) Tryz.underlying37 rfl rfl ti35 (by decide))) fun hs => s1 (v := v1) hs (y_ld rfl Tryz.underlying35 rfl (Cell.blk (.head _) rfl)) fun hs => ?_
 refine sA (v := v1) hs rfl fun hs => RL_nil <| hK2 <| Ws fun hK3 => Wq fun hK4 => sM (v := v1) hs rfl fun hs => s1 hs (y_lenW hR3 hW4 rfl Tryz.underlying35) fun hs => s1 hs (y_eql rfl rfl) fun hs => RL_nil ?_
 refine hK4 ?_
 refine W_cond hs rfl (fun hg8 => ?_) (fun hg8 => ?_)
 ·replace hm := oc_t hg8 hm
  refine Wq fun hK5 => sA (v := .int .i64 (10)) hs rfl fun hs => RL_nil <| hK5 <| W_ret ?_
  obtain rfl := Option.some.inj hm
  refine RtV1 hs rfl (rv_t hs rfl) ?_
  exact ⟨rfl, ((hs.subL (.cons _ (.refl _))).weak hle).cw⟩
 replace hm := oc_f hg8 hm
 refine W_skip <| hK3 <| Ws fun hK6 => Wq fun hK7 => sM (v := v1) hs rfl fun hs => s1 hs (y_lenW hR3 hW4 rfl Tryz.underlying35) fun hs => s1 hs (y_gtr rfl rfl) fun hs => RL_nil <| hK7 ?_
 refine W_cond hs rfl (fun hg9 => ?_) (fun hg9 => ?_)
 ·replace hm := oc_t hg9 hm
  refine Wq fun hK8 => sA (v := .int .i64 (4)) hs rfl fun hs => RL_nil <| hK8 <| W_ret ?_
  obtain rfl := Option.some.inj hm
  refine RtV1 hs rfl (rv_t hs rfl) ?_
  exact ⟨rfl, ((hs.subL (.cons _ (.refl _))).weak hle).cw⟩
 replace hm := oc_f hg9 hm
 refine W_skip <| hK6 <| Ws fun hK9 => Ws fun hK10 => ?_
 refine W_post (fun a w => ∃ (y10 : Bool), ref5_Right_k1 n p0 y10 = some res ∧ St 202 w0 f (L) [(3, v1), (43, .bool (y10))] a w) ?_ ?_
 ·clear hs hm
  rintro a w ⟨y10, hm, hs⟩
  unfold ref5_Right_k1 at hm
  refine hK10 ?_
  refine W_cond hs rfl (fun hg11 => ?_) (fun hg11 => ?_)
  ·replace hm := oc_t hg11 hm
   refine Wq fun hK11 => sA (v := .int .i64 (10)) hs rfl fun hs => RL_nil <| hK11 <| W_ret ?_
   obtain rfl := Option.some.inj hm
   refine RtV1 hs rfl (rv_t hs rfl) ?_
   exact ⟨rfl, (hs.weak hle).cw⟩
  replace hm := oc_f hg11 hm
  refine W_skip <| hK9 <| Wq fun hK12 => sM (v := v1) hs rfl fun hs => s1 hs (y_lenW hR3 hW4 rfl Tryz.underlying35) fun hs => ?_
  obtain ⟨x12, hx13, hm⟩ := ob hm
  obtain ⟨hix12, hbx12, hex12⟩ := repM_some hx13
  refine RL_makeW hs rfl rfl hix12 Tryz.underlying35 ti57 (by decide) (AllC.row ⟨rfl, rfl, rfl, rfl, rfl, rfl, rfl, rfl, rfl, trivial⟩ rfl) hbx12 fun v14 _ _ hs => ?_
  replace hs : St _ _ _ (.row v14 57 9 (List.replicate (p0.Nodes.length : Int).toNat ([.int .i64 (0), .string ((bs [])), .string ((bs [])), (.slice none 0 0), .int .i64 (0), .int .i64 (0), .int .i64 (0), .int .i64 (0), .int .i64 (0)] : List Value)) :: L) _ _ _ := hs
  have hW16 : RW t_api_Node f (List.replicate (p0.Nodes.length : Int).toNat ([.int .i64 (0), .string ((bs [])), .string ((bs [])), (.slice none 0 0), .int .i64 (0), .int .i64 (0), .int .i64 (0), .int .i64 (0), .int .i64 (0)] : List Value)) x12 := by rw [← hex12]; exact RW.rep (t := t_api_Node) (r := [.int .i64 (0), .string ((bs [])), .string ((bs [])), (.slice none 0 0), .int .i64 (0), .int .i64 (0), .int .i64 (0), .int .i64 (0), .int .i64 (0)]) (⟨_, rfl, RS.nil⟩) _
  generalize hgx12 : (List.replicate (p0.Nodes.length : Int).toNat ([.int .i64 (0), .string ((bs [])), .string ((bs [])), (.slice none 0 0), .int .i64 (0), .int .i64 (0), .int .i64 (0), .int .i64 (0), .int .i64 (0)] : List Value)) = rw15 at hs hW16; clear hgx12
  replace hs : St _ _ _ (.row v14 57 9 rw15 :: L) _ _ _ := hs
  refine sA (v := v14) hs rfl fun hs => RL_nil <| hK12 <| Wq fun hK13 => sA (v := .int .i64 (1)) hs rfl fun hs => RL_nil <| hK13 <| Ws fun hK14 => W_region ?_
  refine RL_bs1s hs rfl Tryz.underlying78 ti3 rfl rfl fun v20 _ _ hs => ?_
  have hW21 : RW (tInt .i64) f [[.int .i64 (0)]] [0] := RW.single (rfl)
  generalize hgrw22 : ([[.int .i64 (0)]] : List (List Value)) = rw22 at hs hW21; clear hgrw22
  replace hs : St _ _ _ (.row v20 3 1 rw22 :: .row v14 57 9 rw15 :: L) _ _ _ := hs
  refine sA (v := v20) hs rfl fun hs => RL_nil <| hK14 <| Wq fun hK15 => sM (v := v14) hs rfl fun hs => s1 hs (y_buildS (places := [(0, 1), (1, 1), (2, 1), (3, 1), (4, 1), (5, 1), (6, 1), (7, 1), (8, 1)]) (cs := [.int .i64 (0), .string ((bs [])), .string ((bs [])), (.slice none 0 0), .int .i64 ((-1)), .int .i64 ((-1)), .int .i64 ((-1)), .int .i64 ((-1)), .int .i64 ((-1))]) rfl Tryz.underlying57 ti57 (by kernel_rfl) (by decide) rfl ⟨rfl, rfl, rfl, rfl, rfl, trivial⟩) fun hs => ?_
  obtain ⟨x26, hx27, hm⟩ := ob hm
  obtain ⟨r28, hr29, hq30, hi31, hb32⟩ := hW16.geti hx27
  obtain ⟨v33, rfl, ⟨rw34, hR35, hW36⟩⟩ := hq30
  refine s1 hs (y_indexAddr (Rd.st hs (.tail _ (.head _))) rfl rfl hi31 hb32 Tryz.underlying35 ti57) fun hs => ?_
  obtain ⟨x38, hx39, hm⟩ := ob hm
  have hex38 := seti_some hx39
  have hW41 := RW.set (i := (0 : Int).toNat) (r := [.int .i64 (0), .string ((bs [])), .string ((bs [])), (.slice none 0 0), .int .i64 ((-1)), .int .i64 ((-1)), .int .i64 ((-1)), .int .i64 ((-1)), .int .i64 ((-1))]) (x := (({Kind := 0, Name := (bs []), Text := (bs []), Attrs := ([] : List api_Attr), Parent := (-1), First := (-1), Last := (-1), Prev := (-1), Next := (-1)} : api_Node) : api_Node)) hW16 (⟨_, rfl, RS.nil⟩); rw [hex38] at hW41
  refine RL_storeElem (i := 1) (m := (0 : Int).toNat) (r' := [.int .i64 (0), .string ((bs [])), .string ((bs [])), (.slice none 0 0), .int .i64 ((-1)), .int .i64 ((-1)), .int .i64 ((-1)), .int .i64 ((-1)), .int .i64 ((-1))]) hs rfl rfl rfl hr29 ti57 (AllC.row ⟨rfl, rfl, rfl, rfl, rfl, rfl, rfl, rfl, rfl, trivial⟩ rfl) (.free rfl) fun _ _ hs => ?_
  replace hs : St _ _ _ (.row v20 3 1 rw22 :: .row v14 57 9 (rw15.set ((0 : Int).toNat) [.int .i64 (0), .string ((bs [])), .string ((bs [])), (.slice none 0 0), .int .i64 ((-1)), .int .i64 ((-1)), .int .i64 ((-1)), .int .i64 ((-1)), .int .i64 ((-1))]) :: L) _ _ _ := hs
  generalize hgrw40 : rw15.set ((0 : Int).toNat) [.int .i64 (0), .string ((bs [])), .string ((bs [])), (.slice none 0 0), .int .i64 ((-1)), .int .i64 ((-1)), .int .i64 ((-1)), .int .i64 ((-1)), .int .i64 ((-1))] = rw40 at hs hW41; clear hgrw40
  refine RL_nil <| hK15 <| Ws fun hK16 => Wq fun hK17 => sA (v := .int .i64 (0)) hs rfl fun hs => RL_nil <| hK17 ?_
  refine W_post (fun a w => ∃ (y43 : (List api_Node)) (y48 : Int) (v44 : Value) (rw45 : List (List Value)), ref5_Right_k2 n p0 y43 y48 = some res ∧ RW t_api_Node f rw45 y43 ∧ St 202 w0 f (.row v44 57 9 rw45 :: L) [(3, v1), (4, v44), (5, .int .i64 (y48))] a w) ?_ ?_
  ·clear hs hm
   rintro a w ⟨y43, y48, v44, rw45, hm, hW46, hs⟩
   unfold ref5_Right_k2 at hm
   refine hK16 <| Ws fun hK18 => Wq fun hK19 => sA (v := .int .i64 (0)) hs rfl fun hs => RL_nil <| hK19 ?_
   refine W_post (fun a w => ref5_Right_k3 y48 = some res ∧ St 202 w0 f (L) [(5, .int .i64 (y48))] a w) ?_ ?_
   ·clear hs hm
    rintro a w ⟨hm, hs⟩
    unfold ref5_Right_k3 at hm
    refine hK18 <| Ws fun hK20 => Wq fun hK21 => sM (v := .int .i64 (y48)) hs rfl fun hs => s1 hs (y_gtr rfl rfl) fun hs => RL_nil <| hK21 ?_
    refine W_cond hs rfl (fun hg49 => ?_) (fun hg49 => ?_)
    ·replace hm := oc_t hg49 hm
     refine Wq fun hK22 => sA (v := .int .i64 (5)) hs rfl fun hs => RL_nil <| hK22 <| W_ret ?_
     obtain rfl := Option.some.inj hm
     refine RtV1 hs rfl (rv_t hs rfl) ?_
     exact ⟨rfl, (hs.weak hle).cw⟩
    replace hm := oc_f hg49 hm
    refine W_skip <| hK20 <| Wq fun hK23 => sA (v := .int .i64 (0)) hs rfl fun hs => RL_nil <| hK23 <| W_ret ?_
    obtain rfl := Option.some.inj hm
    refine RtV1 hs rfl (rv_t hs rfl) ?_
    exact ⟨rfl, (hs.weak hle).cw⟩
   refine W_block fun Qe24 hB24 hO24 => W_loop (fun (k : Nat) a w => ∃ (y50 : Int), ref5_Right_l4 p0 y43 y48 k y50 = some res ∧ St 202 w0 f (.row v44 57 9 rw45 :: L) [(3, v1), (4, v44), (5, .int .i64 (y48)), (9, .int .i64 (y50))] a w) (fun k => k) n ⟨0, hm, hs.sub ⟨rfl, rfl, rfl, rfl, trivial⟩⟩ ?_
   clear hs hm
   intro k
   rintro a w ⟨y50, hm, hs⟩
   intro K25 hK25
   cases k with
   | zero => simp [ref5_Right_l4] at hm
   | succ k51 =>
    rw [ref5_Right_l4] at hm
    refine Ws fun hK26 => Wq fun hK27 => sM (v := .int .i64 (y50)) hs rfl fun hs => sM (v := v1) hs rfl fun hs => s1 hs (y_lenW hR3 hW4 rfl Tryz.underlying35) fun hs => s1 hs (y_lss rfl rfl) fun hs => RL_nil <| hK27 ?_
    refine W_cond hs rfl (fun hg52 => ?_) (fun hg52 => ?_)
    ·replace hm := oc_t hg52 hm
     refine W_skip <| hK26 <| Ws fun hK28 => W_block fun Qe29 hB29 hO29 => Ws fun hK30 => ?_
     refine W_post (fun a w => ∃ (y53 : Bool), ref5_Right_k5 y50 (ref5_Right_l4 p0 y43 y48 k51) y53 = some res ∧ St 202 w0 f (.row v44 57 9 rw45 :: L) [(3, v1), (4, v44), (5, .int .i64 (y48)), (9, .int .i64 (y50)), (199, .bool (y53))] a w) ?_ ?_
     ·clear hs hm
      rintro a w ⟨y53, hm, hs⟩
      unfold ref5_Right_k5 at hm
      refine hK30 ?_
      refine W_cond hs rfl (fun hg54 => ?_) (fun hg54 => ?_)
      ·replace hm := oc_t hg54 hm
       refine Wq fun hK31 => sA (v := .int .i64 (10)) hs rfl fun hs => RL_nil <| hK31 <| W_ret ?_
       obtain rfl := Option.some.inj hm
       refine RtV1 hs rfl (rv_t hs rfl) ?_
       exact ⟨rfl, ((hs.subL (.cons _ (.refl _))).weak hle).cw⟩
      replace hm := oc_f hg54 hm
      refine W_skip <| hK28 <| W_region <| sM (v := .int .i64 (y50)) hs rfl fun hs => s1 hs (y_add rfl rfl rfl) fun hs => sA (v := .int .i64 ((w64 (y50 + 1)))) hs rfl fun hs => RL_nil ?_
      exact hK25 k51 _ _ (Nat.lt_succ_self _) ⟨(w64 (y50 + 1)), hm, hs.sub ⟨rfl, rfl, rfl, rfl, trivial⟩⟩
     refine W_draw hs mixed (by kernel_rfl) ?_; intro a he
     refine qy (v := v1) he (y_move rfl) fun _ he => qy (v := .int .i64 (y50)) he (y_move rfl) fun _ he => ?_
     obtain ⟨x55, hx56, hm⟩ := ob hm
     obtain ⟨r57, hr58, hq59, hi60, hb61⟩ := hW4.geti hx56
     obtain ⟨v62, rfl, ⟨rw63, hR64, hW65⟩⟩ := hq59
     refine qy he (y_indexAddr hR3 rfl rfl hi60 hb61 Tryz.underlying35 ti57) fun _ he => qy (v := eaddr v1 9 y50.toNat 5) he (y_fieldAddrE (i := y50.toNat) (j := 0) hR3 rfl hb61 (FO.of (off := 5) Tryz.underlying57 rfl rfl ti3 (by decide))) fun _ he => qy (v := .int .i64 (x55.First)) he (y_loadE (i := y50.toNat) (j := 5) hR3.up rfl hr58 rfl Tryz.underlying3 rfl) fun _ he => qy (v := v44) he (y_move rfl) fun _ he => qy (v := .int .i64 (y50)) he (y_move rfl) fun _ he => ?_
     obtain ⟨x67, hx68, hm⟩ := ob hm
     obtain ⟨r69, hr70, hq71, hi72, hb73⟩ := hW46.geti hx68
     obtain ⟨v74, rfl, ⟨rw75, hR76, hW77⟩⟩ := hq71
     refine qy he (y_indexAddr (Rd.st hs (.head _)) rfl rfl hi72 hb73 Tryz.underlying35 ti57) fun _ he => qy (v := eaddr v44 9 y50.toNat 5) he (y_fieldAddrE (i := y50.toNat) (j := 0) (Rd.st hs (.head _)) rfl hb73 (FO.of (off := 5) Tryz.underlying57 rfl rfl ti3 (by decide))) fun _ he => qy (v := .int .i64 (x67.First)) he (y_loadE (i := y50.toNat) (j := 5) (Rd.st hs (.head _)) rfl hr70 rfl Tryz.underlying3 rfl) fun _ he => qy he (y_neq rfl rfl) fun _ he => qy (v := .bool (decide (x55.First ≠ x67.First))) he (y_move rfl) fun _ he => ?_
     refine Ev.split he (t := 161) rfl (fun hg79 hq => ?_) (fun hg79 hq => ?_)
     ·clear he; have he := hq; clear hq
      replace hm := oc_t hg79 hm
      refine qno he fun _ he => qno he fun _ he => qno he fun _ he => qno he fun _ he => qno he fun _ he => qno he fun _ he => qno he fun _ he => qno he fun _ he => qno he fun _ he => qno he fun _ he => ?_
      refine qno he fun _ he => qy (v := .bool (true)) he (y_pick rfl rfl) fun _ he => qy (v := .bool (true)) he (y_move rfl) fun _ he => qno he fun _ he => qno he fun _ he => qno he fun _ he => qno he fun _ he => qno he fun _ he => qno he fun _ he => qno he fun _ he => ?_
      refine qno he fun _ he => qno he fun _ he => qno he fun _ he => qno he fun _ he => qy (v := .bool (true)) he (y_pick rfl rfl) fun _ he => qy (v := .bool (true)) he (y_move rfl) fun _ he => qno he fun _ he => qno he fun _ he => qno he fun _ he => qno he fun _ he => ?_
      refine qno he fun _ he => qno he fun _ he => qno he fun _ he => qno he fun _ he => qno he fun _ he => qno he fun _ he => qno he fun _ he => qy (v := .bool (true)) he (y_pick rfl rfl) fun _ he => ?_
      refine QL_nil he ?_; clear he; (try clear hs); (try clear a); intro a w hs
      exact ⟨true, hm, hs.sub ⟨rfl, rfl, rfl, rfl, rfl, trivial⟩⟩
     clear he; have he := hq; clear hq
     replace hm := oc_f hg79 hm
     refine qyg (v := v1) he (y_move rfl) fun _ he => qyg (v := .int .i64 (y50)) he (y_move rfl) fun _ he => ?_
     obtain ⟨x80, hx81, hm⟩ := ob hm
     obtain ⟨r82, hr83, hq84, hi85, hb86⟩ := hW4.geti hx81
     obtain ⟨v87, rfl, ⟨rw88, hR89, hW90⟩⟩ := hq84
     refine qyg he (y_indexAddr hR3 rfl rfl hi85 hb86 Tryz.underlying35 ti57) fun _ he => qyg (v := eaddr v1 9 y50.toNat 6) he (y_fieldAddrE (i := y50.toNat) (j := 0) hR3 rfl hb86 (FO.of (off := 6) Tryz.underlying57 rfl rfl ti3 (by decide))) fun _ he => qyg (v := .int .i64 (x80.Last)) he (y_loadE (i := y50.toNat) (j := 6) hR3.up rfl hr83 rfl Tryz.underlying3 rfl) fun _ he => qyg (v := v44) he (y_move rfl) fun _ he => qyg (v := .int .i64 (y50)) he (y_move rfl) fun _ he => ?_
     obtain ⟨x92, hx93, hm⟩ := ob hm
     obtain ⟨r94, hr95, hq96, hi97, hb98⟩ := hW46.geti hx93
     obtain ⟨v99, rfl, ⟨rw100, hR101, hW102⟩⟩ := hq96
     refine qyg he (y_indexAddr (Rd.st hs (.head _)) rfl rfl hi97 hb98 Tryz.underlying35 ti57) fun _ he => qyg (v := eaddr v44 9 y50.toNat 6) he (y_fieldAddrE (i := y50.toNat) (j := 0) (Rd.st hs (.head _)) rfl hb98 (FO.of (off := 6) Tryz.underlying57 rfl rfl ti3 (by decide))) fun _ he => qyg (v := .int .i64 (x92.Last)) he (y_loadE (i := y50.toNat) (j := 6) (Rd.st hs (.head _)) rfl hr95 rfl Tryz.underlying3 rfl) fun _ he => qyg he (y_neq rfl rfl) fun _ he => qy (v := .bool (decide (x80.Last ≠ x92.Last))) he (y_pick rfl rfl) fun _ he => qy (v := .bool (decide (x80.Last ≠ x92.Last))) he (y_move rfl) fun _ he => ?_
     refine Ev.split he (t := 174) rfl (fun hg104 hq => ?_) (fun hg104 hq => ?_)
     ·clear he; have he := hq; clear hq
      replace hm := oc_t hg104 hm
      refine qno he fun _ he => qno he fun _ he => qno he fun _ he => qno he fun _ he => qno he fun _ he => qno he fun _ he => qno he fun _ he => qno he fun _ he => qno he fun _ he => qno he fun _ he => ?_
      refine qno he fun _ he => qy (v := .bool (true)) he (y_pick rfl rfl) fun _ he => qy (v := .bool (true)) he (y_move rfl) fun _ he => qno he fun _ he => qno he fun _ he => qno he fun _ he => qno he fun _ he => qno he fun _ he => qno he fun _ he => qno he fun _ he => ?_
      refine qno he fun _ he => qno he fun _ he => qno he fun _ he => qno he fun _ he => qy (v := .bool (true)) he (y_pick rfl rfl) fun _ he => ?_
      refine QL_nil he ?_; clear he; (try clear hs); (try clear a); intro a w hs
      exact ⟨true, hm, hs.sub ⟨rfl, rfl, rfl, rfl, rfl, trivial⟩⟩
     clear he; have he := hq; clear hq
     replace hm := oc_f hg104 hm
     refine qyg (v := v1) he (y_move rfl) fun _ he => qyg (v := .int .i64 (y50)) he (y_move rfl) fun _ he => ?_
     obtain ⟨x105, hx106, hm⟩ := ob hm
     obtain ⟨r107, hr108, hq109, hi110, hb111⟩ := hW4.geti hx106
     obtain ⟨v112, rfl, ⟨rw113, hR114, hW115⟩⟩ := hq109
     refine qyg he (y_indexAddr hR3 rfl rfl hi110 hb111 Tryz.underlying35 ti57) fun _ he => qyg (v := eaddr v1 9 y50.toNat 7) he (y_fieldAddrE (i := y50.toNat) (j := 0) hR3 rfl hb111 (FO.of (off := 7) Tryz.underlying57 rfl rfl ti3 (by decide))) fun _ he => qyg (v := .int .i64 (x105.Prev)) he (y_loadE (i := y50.toNat) (j := 7) hR3.up rfl hr108 rfl Tryz.underlying3 rfl) fun _ he => qyg (v := v44) he (y_move rfl) fun _ he => qyg (v := .int .i64 (y50)) he (y_move rfl) fun _ he => ?_
     obtain ⟨x117, hx118, hm⟩ := ob hm
     obtain ⟨r119, hr120, hq121, hi122, hb123⟩ := hW46.geti hx118
     obtain ⟨v124, rfl, ⟨rw125, hR126, hW127⟩⟩ := hq121
     refine qyg he (y_indexAddr (Rd.st hs (.head _)) rfl rfl hi122 hb123 Tryz.underlying35 ti57) fun _ he => qyg (v := eaddr v44 9 y50.toNat 7) he (y_fieldAddrE (i := y50.toNat) (j := 0) (Rd.st hs (.head _)) rfl hb123 (FO.of (off := 7) Tryz.underlying57 rfl rfl ti3 (by decide))) fun _ he => qyg (v := .int .i64 (x117.Prev)) he (y_loadE (i := y50.toNat) (j := 7) (Rd.st hs (.head _)) rfl hr120 rfl Tryz.underlying3 rfl) fun _ he => qyg he (y_neq rfl rfl) fun _ he => qy (v := .bool (decide (x105.Prev ≠ x117.Prev))) he (y_pick rfl rfl) fun _ he => qy (v := .bool (decide (x105.Prev ≠ x117.Prev))) he (y_move rfl) fun _ he => ?_
     refine Ev.split he (t := 187) rfl (fun hg129 hq => ?_) (fun hg129 hq => ?_)
     ·clear he; have he := hq; clear hq
      replace hm := oc_t hg129 hm
      refine qno he fun _ he => qno he fun _ he => qno he fun _ he => qno he fun _ he => qno he fun _ he => qno he fun _ he => qno he fun _ he => qno he fun _ he => qno he fun _ he => qno he fun _ he => ?_
      refine qno he fun _ he => qy (v := .bool (true)) he (y_pick rfl rfl) fun _ he => ?_
      refine QL_nil he ?_; clear he; (try clear hs); (try clear a); intro a w hs
      exact ⟨true, hm, hs.sub ⟨rfl, rfl, rfl, rfl, rfl, trivial⟩⟩
     clear he; have he := hq; clear hq
     replace hm := oc_f hg129 hm
     refine qyg (v := v1) he (y_move rfl) fun _ he => qyg (v := .int .i64 (y50)) he (y_move rfl) fun _ he => ?_
     obtain ⟨x130, hx131, hm⟩ := ob hm
     obtain ⟨r132, hr133, hq134, hi135, hb136⟩ := hW4.geti hx131
     obtain ⟨v137, rfl, ⟨rw138, hR139, hW140⟩⟩ := hq134
     refine qyg he (y_indexAddr hR3 rfl rfl hi135 hb136 Tryz.underlying35 ti57) fun _ he => qyg (v := eaddr v1 9 y50.toNat 8) he (y_fieldAddrE (i := y50.toNat) (j := 0) hR3 rfl hb136 (FO.of (off := 8) Tryz.underlying57 rfl rfl ti3 (by decide))) fun _ he => qyg (v := .int .i64 (x130.Next)) he (y_loadE (i := y50.toNat) (j := 8) hR3.up rfl hr133 rfl Tryz.underlying3 rfl) fun _ he => qyg (v := v44) he (y_move rfl) fun _ he => qyg (v := .int .i64 (y50)) he (y_move rfl) fun _ he => ?_
     obtain ⟨x142, hx143, hm⟩ := ob hm
     obtain ⟨r144, hr145, hq146, hi147, hb148⟩ := hW46.geti hx143
     obtain ⟨v149, rfl, ⟨rw150, hR151, hW152⟩⟩ := hq146
     refine qyg he (y_indexAddr (Rd.st hs (.head _)) rfl rfl hi147 hb148 Tryz.underlying35 ti57) fun _ he => qyg (v := eaddr v44 9 y50.toNat 8) he (y_fieldAddrE (i := y50.toNat) (j := 0) (Rd.st hs (.head _)) rfl hb148 (FO.of (off := 8) Tryz.underlying57 rfl rfl ti3 (by decide))) fun _ he => qyg (v := .int .i64 (x142.Next)) he (y_loadE (i := y50.toNat) (j := 8) (Rd.st hs (.head _)) rfl hr145 rfl Tryz.underlying3 rfl) fun _ he => qyg he (y_neq rfl rfl) fun _ he => qy (v := .bool (decide (x130.Next ≠ x142.Next))) he (y_pick rfl rfl) fun _ he => ?_
     refine QL_nil he ?_; clear he; (try clear hs); (try clear a); intro a w hs
     exact ⟨decide (x130.Next ≠ x142.Next), hm, hs.sub ⟨rfl, rfl, rfl, rfl, rfl, trivial⟩⟩
    replace hm := oc_f hg52 hm
    refine W_exit <| hB24 _ _ ?_
    exact ⟨hm, hs.subs ⟨rfl, trivial⟩ (.cons _ (.refl _))⟩
  refine W_block fun Qe32 hB32 hO32 => W_loop (fun (k : Nat) a w => ∃ (y154 : (List api_Node)) (y159 : Int) (y160 : (List Int)) (y165 : Int) (v155 : Value) (rw156 : List (List Value)) (v161 : Value) (rw162 : List (List Value)), ref5_Right_l6 n p0 k y154 y159 y160 y165 = some res ∧ RW t_api_Node f rw156 y154 ∧ RW (tInt .i64) f rw162 y160 ∧ St 202 w0 f (.row v161 3 1 rw162 :: .row v155 57 9 rw156 :: L) [(3, v1), (4, v155), (5, .int .i64 (y159)), (6, v161), (7, .int .i64 (y165))] a w) (fun k => k) n ⟨x38, 1, [0], 0, v14, rw40, v20, rw22, hm, hW41, hW21, hs.sub ⟨rfl, rfl, rfl, rfl, rfl, trivial⟩⟩ ?_
  clear hs hm
  intro k
  rintro a w ⟨y154, y159, y160, y165, v155, rw156, v161, rw162, hm, hW157, hW163, hs⟩
  intro K33 hK33
  cases k with
  | zero => simp [ref5_Right_l6] at hm
  | succ k166 =>
   rw [ref5_Right_l6] at hm
   refine Ws fun hK34 => Wq fun hK35 => sM (v := .int .i64 (y165)) hs rfl fun hs => sM (v := v1) hs rfl fun hs => s1 hs (y_lenW hR3 hW4 rfl Tryz.underlying35) fun hs => s1 hs (y_lss rfl rfl) fun hs => RL_nil <| hK35 ?_
   refine W_cond hs rfl (fun hg167 => ?_) (fun hg167 => ?_)
   ·replace hm := oc_t hg167 hm
    refine W_skip <| hK34 <| Ws fun hK36 => ?_
    refine W_post (fun a w => ∃ (y168 : (List api_Node)) (y173 : Int) (y174 : (List Int)) (v169 : Value) (rw170 : List (List Value)) (v175 : Value) (rw176 : List (List Value)), ref5_Right_k7 y165 (ref5_Right_l6 n p0 k166) y168 y173 y174 = some res ∧ RW t_api_Node f rw170 y168 ∧ RW (tInt .i64) f rw176 y174 ∧ St 202 w0 f (.row v175 3 1 rw176 :: .row v169 57 9 rw170 :: L) [(3, v1), (4, v169), (5, .int .i64 (y173)), (6, v175), (7, .int .i64 (y165))] a w) ?_ ?_
    ·clear hs hm
     rintro a w ⟨y168, y173, y174, v169, rw170, v175, rw176, hm, hW171, hW177, hs⟩
     unfold ref5_Right_k7 at hm
     refine hK36 <| W_region <| sM (v := .int .i64 (y165)) hs rfl fun hs => s1 hs (y_add rfl rfl rfl) fun hs => sA (v := .int .i64 ((w64 (y165 + 1)))) hs rfl fun hs => RL_nil ?_
     exact hK33 k166 _ _ (Nat.lt_succ_self _) ⟨y168, y173, y174, (w64 (y165 + 1)), v169, rw170, v175, rw176, hm, hW171, hW177, hs.sub ⟨rfl, rfl, rfl, rfl, rfl, trivial⟩⟩
    refine W_block fun Qe37 hB37 hO37 => Ws fun hK38 => Wq fun hK39 => sM (v := v1) hs rfl fun hs => sM (v := .int .i64 (y165)) hs rfl fun hs => ?_
    obtain ⟨x179, hx180, hm⟩ := ob hm
    obtain ⟨r181, hr182, hq183, hi184, hb185⟩ := hW4.geti hx180
    obtain ⟨v186, rfl, ⟨rw187, hR188, hW189⟩⟩ := hq183
    refine s1 hs (y_indexAddr hR3 rfl rfl hi184 hb185 Tryz.underlying35 ti57) fun hs => s1 hs (y_loadRow hR3.up rfl hr182 Tryz.underlying57 rfl ti57) fun hs => ?_
    obtain ⟨x191, hx192, hm⟩ := ob hm
    refine s1 hs (y_call rfl has68 rfl (ref5_plain_ok n (f := f) (a0 := [.int .i64 (x179.Kind), .string (x179.Name), .string (x179.Text), v186, .int .i64 (x179.Parent), .int .i64 (x179.First), .int .i64 (x179.Last), .int .i64 (x179.Prev), .int .i64 (x179.Next)]) ⟨_, rfl, ⟨rw187, hR188, hW189⟩⟩ hx192)) fun hs => s1 (v := .bool ((!x191))) hs (y_not rfl) fun hs => RL_nil <| hK39 ?_
    refine W_cond hs rfl (fun hg193 => ?_) (fun hg193 => ?_)
    ·replace hm := oc_t hg193 hm
     refine Wq fun hK40 => sA (v := .int .i64 (10)) hs rfl fun hs => RL_nil <| hK40 <| W_ret ?_
     obtain rfl := Option.some.inj hm
     refine RtV1 hs rfl (rv_t hs rfl) ?_
     exact ⟨rfl, ((hs.subL (.cons _ (.cons _ (.refl _)))).weak hle).cw⟩
    replace hm := oc_f hg193 hm
    refine W_skip <| hK38 <| Ws fun hK41 => Wq fun hK42 => sM (v := .int .i64 (y165)) hs rfl fun hs => s1 hs (y_eql rfl rfl) fun hs => RL_nil <| hK42 ?_
    refine W_cond hs rfl (fun hg194 => ?_) (fun hg194 => ?_)
    ·replace hm := oc_t hg194 hm
     refine W_exit <| hB37 _ _ ?_
     exact ⟨y154, y159, y160, v155, rw156, v161, rw162, hm, hW157, hW163, hs.sub ⟨rfl, rfl, rfl, rfl, rfl, trivial⟩⟩
    replace hm := oc_f hg194 hm
    refine W_skip <| hK41 <| Wq fun hK43 => sM (v := v1) hs rfl fun hs => sM (v := .int .i64 (y165)) hs rfl fun hs => ?_
    obtain ⟨x195, hx196, hm⟩ := ob hm
    obtain ⟨r197, hr198, hq199, hi200, hb201⟩ := hW4.geti hx196
    obtain ⟨v202, rfl, ⟨rw203, hR204, hW205⟩⟩ := hq199
    refine s1 hs (y_indexAddr hR3 rfl rfl hi200 hb201 Tryz.underlying35 ti57) fun hs => s1 (v := eaddr v1 9 y165.toNat 4) hs (y_fieldAddrE (i := y165.toNat) (j := 0) hR3 rfl hb201 (FO.of (off := 4) Tryz.underlying57 rfl rfl ti3 (by decide))) fun hs => s1 (v := .int .i64 (x195.Parent)) hs (y_loadE (i := y165.toNat) (j := 4) hR3.up rfl hr198 rfl Tryz.underlying3 rfl) fun hs => sA (v := .int .i64 (x195.Parent)) hs rfl fun hs => RL_nil <| hK43 <| Ws fun hK44 => ?_
    refine W_post (fun a w => ∃ (y207 : (List Int)) (v208 : Value) (rw209 : List (List Value)), ref5_Right_k8 p0 y154 y159 y165 (ref5_Right_l6 n p0 k166) x195 y207 = some res ∧ RW (tInt .i64) f rw209 y207 ∧ St 202 w0 f (.row v208 3 1 rw209 :: .row v155 57 9 rw156 :: L) [(3, v1), (4, v155), (5, .int .i64 (y159)), (6, v208), (7, .int .i64 (y165)), (8, .int .i64 (x195.Parent))] a w) ?_ ?_
    ·clear hs hm
     rintro a w ⟨y207, v208, rw209, hm, hW210, hs⟩
     unfold ref5_Right_k8 at hm
     refine hK44 <| Ws fun hK45 => Ws fun hK46 => ?_
     refine W_post (fun a w => ∃ (y212 : Bool), ref5_Right_k9 y154 y159 y165 (ref5_Right_l6 n p0 k166) x195 y207 y212 = some res ∧ St 202 w0 f (.row v208 3 1 rw209 :: .row v155 57 9 rw156 :: L) [(3, v1), (4, v155), (5, .int .i64 (y159)), (6, v208), (7, .int .i64 (y165)), (8, .int .i64 (x195.Parent)), (98, .bool (y212))] a w) ?_ ?_
     ·clear hs hm
      rintro a w ⟨y212, hm, hs⟩
      unfold ref5_Right_k9 at hm
      refine hK46 ?_
      refine W_cond hs rfl (fun hg213 => ?_) (fun hg213 => ?_)
      ·replace hm := oc_t hg213 hm
       refine Wq fun hK47 => sA (v := .int .i64 (10)) hs rfl fun hs => RL_nil <| hK47 <| W_ret ?_
       obtain rfl := Option.some.inj hm
       refine RtV1 hs rfl (rv_t hs rfl) ?_
       exact ⟨rfl, ((hs.subL (.cons _ (.cons _ (.refl _)))).weak hle).cw⟩
      replace hm := oc_f hg213 hm
      refine W_skip <| hK45 <| Wq fun hK48 => sM (v := v208) hs rfl fun hs => sM (v := .int .i64 (y165)) hs rfl fun hs => RL_bs1s hs rfl Tryz.underlying78 ti3 rfl rfl fun v214 _ _ hs => ?_
      have hW215 : RW (tInt .i64) f [[.int .i64 (y165)]] [y165] := RW.single (rfl)
      generalize hgrw216 : ([[.int .i64 (y165)]] : List (List Value)) = rw216 at hs hW215; clear hgrw216
      obtain ⟨x219, hx220, hm⟩ := ob hm
      obtain ⟨hbx219, hex219⟩ := appM_some hx220
      have hW223 := hW210.append hW215; rw [hex219] at hW223
      refine RL_append (i := 1) hs rfl rfl rfl (Rd.st hs (.head _)) Tryz.underlying78 ti3 (by decide) (by rw [RW.len hW210, RW.len hW215]; exact hbx219) (.free rfl) (by decide) fun v221 _ _ hs => ?_
      generalize hgx219 : rw209 ++ rw216 = rw222 at hs hW223; clear hgx219
      replace hs := hs.erase 0
      refine sA (v := v221) hs rfl fun hs => RL_nil <| hK48 <| Ws fun hK49 => Wq fun hK50 => sM (v := v221) hs rfl fun hs => s1 hs (y_lenW (Rd.st hs (.head _)) hW223 rfl Tryz.underlying78) fun hs => sM (v := .int .i64 (y159)) hs rfl fun hs => s1 hs (y_gtr rfl rfl) fun hs => ?_
      refine RL_nil <| hK50 ?_
      refine W_post (fun a w => ∃ (y225 : Int), ref5_Right_k10 y154 y165 (ref5_Right_l6 n p0 k166) x195 x219 y225 = some res ∧ St 202 w0 f (.row v221 3 1 rw222 :: .row v155 57 9 rw156 :: L) [(3, v1), (4, v155), (5, .int .i64 (y225)), (6, v221), (7, .int .i64 (y165)), (8, .int .i64 (x195.Parent))] a w) ?_ ?_
      ·clear hs hm
       rintro a w ⟨y225, hm, hs⟩
       unfold ref5_Right_k10 at hm
       refine hK49 <| Wq fun hK51 => sM (v := v155) hs rfl fun hs => sM (v := .int .i64 (y165)) hs rfl fun hs => sM (v := .int .i64 (x195.Parent)) hs rfl fun hs => sM (v := v155) hs rfl fun hs => sM (v := .int .i64 (x195.Parent)) hs rfl fun hs => ?_
       obtain ⟨x226, hx227, hm⟩ := ob hm
       obtain ⟨r228, hr229, hq230, hi231, hb232⟩ := hW157.geti hx227
       obtain ⟨v233, rfl, ⟨rw234, hR235, hW236⟩⟩ := hq230
       refine s1 hs (y_indexAddr (Rd.st hs (.tail _ (.head _))) rfl rfl hi231 hb232 Tryz.underlying35 ti57) fun hs => s1 (v := eaddr v155 9 x195.Parent.toNat 6) hs (y_fieldAddrE (i := x195.Parent.toNat) (j := 0) (Rd.st hs (.tail _ (.head _))) rfl hb232 (FO.of (off := 6) Tryz.underlying57 rfl rfl ti3 (by decide))) fun hs => s1 (v := .int .i64 (x226.Last)) hs (y_loadE (i := x195.Parent.toNat) (j := 6) (Rd.st hs (.tail _ (.head _))) rfl hr229 rfl Tryz.underlying3 rfl) fun hs => s1 hs (y_buildS (places := [(0, 1), (1, 1), (2, 1), (3, 1), (4, 1), (5, 1), (6, 1), (7, 1), (8, 1)]) (cs := [.int .i64 (0), .string ((bs [])), .string ((bs [])), (.slice none 0 0), .int .i64 (x195.Parent), .int .i64 ((-1)), .int .i64 ((-1)), .int .i64 (x226.Last), .int .i64 ((-1))]) rfl Tryz.underlying57 ti57 (by kernel_rfl) (by decide) rfl ⟨rfl, rfl, rfl, rfl, rfl, trivial⟩) fun hs => ?_
       obtain ⟨x239, hx240, hm⟩ := ob hm
       obtain ⟨r241, hr242, hq243, hi244, hb245⟩ := hW157.geti hx240
       obtain ⟨v246, rfl, ⟨rw247, hR248, hW249⟩⟩ := hq243
       refine s1 hs (y_indexAddr (Rd.st hs (.tail _ (.head _))) rfl rfl hi244 hb245 Tryz.underlying35 ti57) fun hs => ?_
       obtain ⟨x251, hx252, hm⟩ := ob hm
       have hex251 := seti_some hx252
       have hW254 := RW.set (i := y165.toNat) (r := [.int .i64 (0), .string ((bs [])), .string ((bs [])), (.slice none 0 0), .int .i64 (x195.Parent), .int .i64 ((-1)), .int .i64 ((-1)), .int .i64 (x226.Last), .int .i64 ((-1))]) (x := (({Kind := 0, Name := (bs []), Text := (bs []), Attrs := ([] : List api_Attr), Parent := x195.Parent, First := (-1), Last := (-1), Prev := x226.Last, Next := (-1)} : api_Node) : api_Node)) hW157 (⟨_, rfl, RS.nil⟩); rw [hex251] at hW254
       refine RL_storeElem (i := 1) (m := y165.toNat) (r' := [.int .i64 (0), .string ((bs [])), .string ((bs [])), (.slice none 0 0), .int .i64 (x195.Parent), .int .i64 ((-1)), .int .i64 ((-1)), .int .i64 (x226.Last), .int .i64 ((-1))]) hs rfl rfl rfl hr242 ti57 (AllC.row ⟨rfl, rfl, rfl, rfl, rfl, rfl, rfl, rfl, rfl, trivial⟩ rfl) (.free rfl) fun _ _ hs => ?_
       replace hs : St _ _ _ (.row v221 3 1 rw222 :: .row v155 57 9 (rw156.set y165.toNat [.int .i64 (0), .string ((bs [])), .string ((bs [])), (.slice none 0 0), .int .i64 (x195.Parent), .int .i64 ((-1)), .int .i64 ((-1)), .int .i64 (x226.Last), .int .i64 ((-1))]) :: L) _ _ _ := hs
       generalize hgrw253 : rw156.set y165.toNat [.int .i64 (0), .string ((bs [])), .string ((bs [])), (.slice none 0 0), .int .i64 (x195.Parent), .int .i64 ((-1)), .int .i64 ((-1)), .int .i64 (x226.Last), .int .i64 ((-1))] = rw253 at hs hW254; clear hgrw253
       refine RL_nil <| hK51 <| Ws fun hK52 => Wq fun hK53 => sM (v := v155) hs rfl fun hs => sM (v := .int .i64 (x195.Parent)) hs rfl fun hs => ?_
       obtain ⟨x256, hx257, hm⟩ := ob hm
       obtain ⟨r258, hr259, hq260, hi261, hb262⟩ := hW254.geti hx257
       obtain ⟨v263, rfl, ⟨rw264, hR265, hW266⟩⟩ := hq260
       refine s1 hs (y_indexAddr (Rd.st hs (.tail _ (.head _))) rfl rfl hi261 hb262 Tryz.underlying35 ti57) fun hs => s1 (v := eaddr v155 9 x195.Parent.toNat 6) hs (y_fieldAddrE (i := x195.Parent.toNat) (j := 0) (Rd.st hs (.tail _ (.head _))) rfl hb262 (FO.of (off := 6) Tryz.underlying57 rfl rfl ti3 (by decide))) fun hs => s1 (v := .int .i64 (x256.Last)) hs (y_loadE (i := x195.Parent.toNat) (j := 6) (Rd.st hs (.tail _ (.head _))) rfl hr259 rfl Tryz.underlying3 rfl) fun hs => s1 hs (y_geq rfl rfl) fun hs => RL_nil <| hK53 ?_
       refine W_post (fun a w => ∃ (y268 : (List api_Node)) (v269 : Value) (rw270 : List (List Value)), ref5_Right_k11 y165 (ref5_Right_l6 n p0 k166) x195 x219 y225 y268 = some res ∧ RW t_api_Node f rw270 y268 ∧ St 202 w0 f (.row v221 3 1 rw222 :: .row v269 57 9 rw270 :: L) [(3, v1), (4, v269), (5, .int .i64 (y225)), (6, v221), (7, .int .i64 (y165)), (8, .int .i64 (x195.Parent))] a w) ?_ ?_
       ·clear hs hm
        rintro a w ⟨y268, v269, rw270, hm, hW271, hs⟩
        unfold ref5_Right_k11 at hm
        refine hK52 <| W_region <| sM (v := v269) hs rfl fun hs => sM (v := .int .i64 (x195.Parent)) hs rfl fun hs => sM (v := .int .i64 (y165)) hs rfl fun hs => ?_
        obtain ⟨x273, hx274, hm⟩ := ob hm
        obtain ⟨r275, hr276, hq277, hi278, hb279⟩ := hW271.geti hx274
        obtain ⟨v280, rfl, ⟨rw281, hR282, hW283⟩⟩ := hq277
        refine s1 hs (y_indexAddr (Rd.st hs (.tail _ (.head _))) rfl rfl hi278 hb279 Tryz.underlying35 ti57) fun hs => s1 (v := eaddr v269 9 x195.Parent.toNat 6) hs (y_fieldAddrE (i := x195.Parent.toNat) (j := 0) (Rd.st hs (.tail _ (.head _))) rfl hb279 (FO.of (off := 6) Tryz.underlying57 rfl rfl ti3 (by decide))) fun hs => ?_
        obtain ⟨x285, hx286, hm⟩ := ob hm
        have hex285 := seti_some hx286
        have hW288 := RW.set (i := x195.Parent.toNat) (r := [.int .i64 (x273.Kind), .string (x273.Name), .string (x273.Text), v280, .int .i64 (x273.Parent), .int .i64 (x273.First), .int .i64 (y165), .int .i64 (x273.Prev), .int .i64 (x273.Next)]) (x := (({x273 with Last := y165} : api_Node) : api_Node)) hW271 (⟨_, rfl, ⟨rw281, hR282, hW283⟩⟩); rw [hex285] at hW288
        refine RL_storeRow (i := 1) (j := 6) (m := x195.Parent.toNat) hs rfl rfl rfl hr276 (by decide) ti3 rfl (.free rfl) fun _ _ hs => ?_
        replace hs : St _ _ _ (.row v221 3 1 rw222 :: .row v269 57 9 (rw270.set x195.Parent.toNat [.int .i64 (x273.Kind), .string (x273.Name), .string (x273.Text), v280, .int .i64 (x273.Parent), .int .i64 (x273.First), .int .i64 (y165), .int .i64 (x273.Prev), .int .i64 (x273.Next)]) :: L) _ _ _ := hs
        generalize hgrw287 : rw270.set x195.Parent.toNat [.int .i64 (x273.Kind), .string (x273.Name), .string (x273.Text), v280, .int .i64 (x273.Parent), .int .i64 (x273.First), .int .i64 (y165), .int .i64 (x273.Prev), .int .i64 (x273.Next)] = rw287 at hs hW288; clear hgrw287
        refine RL_nil ?_
        exact ⟨x285, y225, x219, v269, rw287, v221, rw222, hm, hW288, hW223, hs.sub ⟨rfl, rfl, rfl, rfl, rfl, trivial⟩⟩
       refine W_cond hs rfl (fun hg290 => ?_) (fun hg290 => ?_)
       ·replace hm := oc_t hg290 hm
        refine W_region <| sM (v := v155) hs rfl fun hs => sM (v := v155) hs rfl fun hs => sM (v := .int .i64 (x195.Parent)) hs rfl fun hs => ?_
        obtain ⟨x291, hx292, hm⟩ := ob hm
        obtain ⟨r293, hr294, hq295, hi296, hb297⟩ := hW254.geti hx292
        obtain ⟨v298, rfl, ⟨rw299, hR300, hW301⟩⟩ := hq295
        refine s1 hs (y_indexAddr (Rd.st hs (.tail _ (.head _))) rfl rfl hi296 hb297 Tryz.underlying35 ti57) fun hs => s1 (v := eaddr v155 9 x195.Parent.toNat 6) hs (y_fieldAddrE (i := x195.Parent.toNat) (j := 0) (Rd.st hs (.tail _ (.head _))) rfl hb297 (FO.of (off := 6) Tryz.underlying57 rfl rfl ti3 (by decide))) fun hs => s1 (v := .int .i64 (x291.Last)) hs (y_loadE (i := x195.Parent.toNat) (j := 6) (Rd.st hs (.tail _ (.head _))) rfl hr294 rfl Tryz.underlying3 rfl) fun hs => sM (v := .int .i64 (y165)) hs rfl fun hs => ?_
        obtain ⟨x303, hx304, hm⟩ := ob hm
        obtain ⟨r305, hr306, hq307, hi308, hb309⟩ := hW254.geti hx304
        obtain ⟨v310, rfl, ⟨rw311, hR312, hW313⟩⟩ := hq307
        refine s1 hs (y_indexAddr (Rd.st hs (.tail _ (.head _))) rfl rfl hi308 hb309 Tryz.underlying35 ti57) fun hs => s1 (v := eaddr v155 9 x291.Last.toNat 8) hs (y_fieldAddrE (i := x291.Last.toNat) (j := 0) (Rd.st hs (.tail _ (.head _))) rfl hb309 (FO.of (off := 8) Tryz.underlying57 rfl rfl ti3 (by decide))) fun hs => ?_
        obtain ⟨x315, hx316, hm⟩ := ob hm
        have hex315 := seti_some hx316
        have hW318 := RW.set (i := x291.Last.toNat) (r := [.int .i64 (x303.Kind), .string (x303.Name), .string (x303.Text), v310, .int .i64 (x303.Parent), .int .i64 (x303.First), .int .i64 (x303.Last), .int .i64 (x303.Prev), .int .i64 (y165)]) (x := (({x303 with Next := y165} : api_Node) : api_Node)) hW254 (⟨_, rfl, ⟨rw311, hR312, hW313⟩⟩); rw [hex315] at hW318
        refine RL_storeRow (i := 1) (j := 8) (m := x291.Last.toNat) hs rfl rfl rfl hr306 (by decide) ti3 rfl (.free rfl) fun _ _ hs => ?_
        replace hs : St _ _ _ (.row v221 3 1 rw222 :: .row v155 57 9 (rw253.set x291.Last.toNat [.int .i64 (x303.Kind), .string (x303.Name), .string (x303.Text), v310, .int .i64 (x303.Parent), .int .i64 (x303.First), .int .i64 (x303.Last), .int .i64 (x303.Prev), .int .i64 (y165)]) :: L) _ _ _ := hs
        generalize hgrw317 : rw253.set x291.Last.toNat [.int .i64 (x303.Kind), .string (x303.Name), .string (x303.Text), v310, .int .i64 (x303.Parent), .int .i64 (x303.First), .int .i64 (x303.Last), .int .i64 (x303.Prev), .int .i64 (y165)] = rw317 at hs hW318; clear hgrw317
        refine RL_nil ?_
        exact ⟨x315, v155, rw317, hm, hW318, hs.sub ⟨rfl, rfl, rfl, rfl, rfl, rfl, trivial⟩⟩
       replace hm := oc_f hg290 hm
       refine W_region <| sM (v := v155) hs rfl fun hs => sM (v := .int .i64 (x195.Parent)) hs rfl fun hs => sM (v := .int .i64 (y165)) hs rfl fun hs => ?_
       obtain ⟨x320, hx321, hm⟩ := ob hm
       obtain ⟨r322, hr323, hq324, hi325, hb326⟩ := hW254.geti hx321
       obtain ⟨v327, rfl, ⟨rw328, hR329, hW330⟩⟩ := hq324
       refine s1 hs (y_indexAddr (Rd.st hs (.tail _ (.head _))) rfl rfl hi325 hb326 Tryz.underlying35 ti57) fun hs => s1 (v := eaddr v155 9 x195.Parent.toNat 5) hs (y_fieldAddrE (i := x195.Parent.toNat) (j := 0) (Rd.st hs (.tail _ (.head _))) rfl hb326 (FO.of (off := 5) Tryz.underlying57 rfl rfl ti3 (by decide))) fun hs => ?_
       obtain ⟨x332, hx333, hm⟩ := ob hm
       have hex332 := seti_some hx333
       have hW335 := RW.set (i := x195.Parent.toNat) (r := [.int .i64 (x320.Kind), .string (x320.Name), .string (x320.Text), v327, .int .i64 (x320.Parent), .int .i64 (y165), .int .i64 (x320.Last), .int .i64 (x320.Prev), .int .i64 (x320.Next)]) (x := (({x320 with First := y165} : api_Node) : api_Node)) hW254 (⟨_, rfl, ⟨rw328, hR329, hW330⟩⟩); rw [hex332] at hW335
       refine RL_storeRow (i := 1) (j := 5) (m := x195.Parent.toNat) hs rfl rfl rfl hr323 (by decide) ti3 rfl (.free rfl) fun _ _ hs => ?_
       replace hs : St _ _ _ (.row v221 3 1 rw222 :: .row v155 57 9 (rw253.set x195.Parent.toNat [.int .i64 (x320.Kind), .string (x320.Name), .string (x320.Text), v327, .int .i64 (x320.Parent), .int .i64 (y165), .int .i64 (x320.Last), .int .i64 (x320.Prev), .int .i64 (x320.Next)]) :: L) _ _ _ := hs
       generalize hgrw334 : rw253.set x195.Parent.toNat [.int .i64 (x320.Kind), .string (x320.Name), .string (x320.Text), v327, .int .i64 (x320.Parent), .int .i64 (y165), .int .i64 (x320.Last), .int .i64 (x320.Prev), .int .i64 (x320.Next)] = rw334 at hs hW335; clear hgrw334
       refine RL_nil ?_
       exact ⟨x332, v155, rw334, hm, hW335, hs.sub ⟨rfl, rfl, rfl, rfl, rfl, rfl, trivial⟩⟩
      refine W_cond hs rfl (fun hg337 => ?_) (fun hg337 => ?_)
      ·replace hm := oc_t hg337 hm
       refine W_region <| sM (v := v221) hs rfl fun hs => s1 hs (y_lenW (Rd.st hs (.head _)) hW223 rfl Tryz.underlying78) fun hs => sA (v := .int .i64 ((x219.length : Int))) hs rfl fun hs => RL_nil ?_
       exact ⟨(x219.length : Int), hm, hs.sub ⟨rfl, rfl, rfl, rfl, rfl, rfl, trivial⟩⟩
      replace hm := oc_f hg337 hm
      refine W_skip ?_
      exact ⟨y159, hm, hs.sub ⟨rfl, rfl, rfl, rfl, rfl, rfl, trivial⟩⟩
     refine W_region <| sM (v := v208) hs rfl fun hs => s1 hs (y_lenW (Rd.st hs (.head _)) hW210 rfl Tryz.underlying78) fun hs => s1 hs (y_eql rfl rfl) fun hs => sM (v := .bool (decide ((y207.length : Int) = 0))) hs rfl fun hs => ?_
     refine St.split hs (t := 91) rfl (fun hg338 hs => ?_) (fun hg338 hs => ?_)
     ·replace hm := oc_t hg338 hm
      refine s3 hs fun hs => s3 hs fun hs => s3 hs fun hs => s3 hs fun hs => s3 hs fun hs => s3 hs fun hs => sP (v := .bool (true)) hs rfl rfl fun hs => RL_nil ?_
      exact ⟨true, hm, hs.sub ⟨rfl, rfl, rfl, rfl, rfl, rfl, rfl, trivial⟩⟩
     replace hm := oc_f hg338 hm
     refine s2 (v := v1) hs (y_move rfl) fun hs => s2 (v := .int .i64 (x195.Parent)) hs (y_move rfl) fun hs => ?_
     obtain ⟨x339, hx340, hm⟩ := ob hm
     obtain ⟨r341, hr342, hq343, hi344, hb345⟩ := hW4.geti hx340
     obtain ⟨v346, rfl, ⟨rw347, hR348, hW349⟩⟩ := hq343
     refine s2 hs (y_indexAddr hR3 rfl rfl hi344 hb345 Tryz.underlying35 ti57) fun hs => s2 (v := eaddr v1 9 x195.Parent.toNat 0) hs (y_fieldAddrE (i := x195.Parent.toNat) (j := 0) hR3 rfl hb345 (FO.of (off := 0) Tryz.underlying57 rfl rfl ti3 (by decide))) fun hs => s2 (v := .int .i64 (x339.Kind)) hs (y_loadE (i := x195.Parent.toNat) (j := 0) hR3.up rfl hr342 rfl Tryz.underlying3 rfl) fun hs => s2 hs (y_neq rfl rfl) fun hs => sP (v := .bool (decide (x339.Kind ≠ 1))) hs rfl rfl fun hs => RL_nil ?_
     exact ⟨decide (x339.Kind ≠ 1), hm, hs.sub ⟨rfl, rfl, rfl, rfl, rfl, rfl, rfl, trivial⟩⟩
    refine W_block fun Qe54 hB54 hO54 => W_loop (fun (k : Nat) a w => ∃ (y351 : (List Int)) (v352 : Value) (rw353 : List (List Value)), ref5_Right_l12 p0 y154 y159 y165 (ref5_Right_l6 n p0 k166) x195 k y351 = some res ∧ RW (tInt .i64) f rw353 y351 ∧ St 202 w0 f (.row v352 3 1 rw353 :: .row v155 57 9 rw156 :: L) [(3, v1), (4, v155), (5, .int .i64 (y159)), (6, v352), (7, .int .i64 (y165)), (8, .int .i64 (x195.Parent))] a w) (fun k => k) n ⟨y160, v161, rw162, hm, hW163, hs.sub ⟨rfl, rfl, rfl, rfl, rfl, rfl, trivial⟩⟩ ?_
    clear hs hm
    intro k
    rintro a w ⟨y351, v352, rw353, hm, hW354, hs⟩
    intro K55 hK55
    cases k with
    | zero => simp [ref5_Right_l12] at hm
    | succ k356 =>
     rw [ref5_Right_l12] at hm
     refine Ws fun hK56 => Ws fun hK57 => ?_
     refine W_post (fun a w => ∃ (y357 : Bool), ref5_Right_k13 p0 y154 y159 y165 (ref5_Right_l6 n p0 k166) x195 y351 (ref5_Right_l12 p0 y154 y159 y165 (ref5_Right_l6 n p0 k166) x195 k356) y357 = some res ∧ St 202 w0 f (.row v352 3 1 rw353 :: .row v155 57 9 rw156 :: L) [(3, v1), (4, v155), (5, .int .i64 (y159)), (6, v352), (7, .int .i64 (y165)), (8, .int .i64 (x195.Parent)), (82, .bool (y357))] a w) ?_ ?_
     ·clear hs hm
      rintro a w ⟨y357, hm, hs⟩
      unfold ref5_Right_k13 at hm
      refine hK57 ?_
      refine W_cond hs rfl (fun hg358 => ?_) (fun hg358 => ?_)
      ·replace hm := oc_t hg358 hm
       refine W_skip <| hK56 <| W_block fun Qe58 hB58 hO58 => W_region <| sM (v := v352) hs rfl fun hs => sM (v := v352) hs rfl fun hs => s1 hs (y_lenW (Rd.st hs (.head _)) hW354 rfl Tryz.underlying78) fun hs => s1 hs (y_sub rfl rfl rfl) fun hs => ?_
       obtain ⟨x359, hx360, hm⟩ := ob hm
       obtain ⟨⟨hlx359, hhx359, h1x359, h2x359⟩, hex359⟩ := cutM_some hx360
       have hW361 := (hW354.take (w64 ((y351.length : Int) - 1)).toNat).drop (Int.toNat 0); rw [hex359] at hW361
       simp only [Int.toNat_zero, List.drop_zero] at hW361
       refine s1 hs (y_slice (lo := (0 : Nat)) (hi := (w64 ((y351.length : Int) - 1)).toNat) rfl Tryz.underlying78 ti3 (.inl ⟨rfl, rfl⟩) (.inr ⟨_, rfl, by rw [← hhx359]; rfl⟩) h1x359 (by rw [RW.len hW354]; exact h2x359) (Rd.st hs (.head _))) fun hs => ?_
       replace hs := hs.shrink (i := 0) rfl (m := (w64 ((y351.length : Int) - 1)).toNat) (by rw [RW.len hW354]; exact h2x359)
       generalize hgrw363 : List.take _ rw353 = rw363 at hs hW361; clear hgrw363
       generalize hgv364 : cutv v352 1 0 _ = v364 at hs; clear hgv364
       refine sA (v := v364) hs rfl fun hs => RL_nil ?_
       exact hK55 k356 _ _ (Nat.lt_succ_self _) ⟨x359, v364, rw363, hm, hW361, hs.sub ⟨rfl, rfl, rfl, rfl, rfl, rfl, trivial⟩⟩
      replace hm := oc_f hg358 hm
      refine W_exit <| hB54 _ _ ?_
      exact ⟨y351, v352, rw353, hm, hW354, hs.sub ⟨rfl, rfl, rfl, rfl, rfl, rfl, trivial⟩⟩
     refine W_region <| sM (v := v352) hs rfl fun hs => s1 hs (y_lenW (Rd.st hs (.head _)) hW354 rfl Tryz.underlying78) fun hs => s1 hs (y_gtr rfl rfl) fun hs => sM (v := .bool (decide (0 < (y351.length : Int)))) hs rfl fun hs => ?_
     refine St.split hs (t := 73) rfl (fun hg366 hs => ?_) (fun hg366 hs => ?_)
     ·replace hm := oc_t hg366 hm
      refine s2 (v := v352) hs (y_move rfl) fun hs => s2 (v := v352) hs (y_move rfl) fun hs => s2 hs (y_lenW (Rd.st hs (.head _)) hW354 rfl Tryz.underlying78) fun hs => s2 hs (y_sub rfl rfl rfl) fun hs => ?_
      obtain ⟨x367, hx368, hm⟩ := ob hm
      obtain ⟨r369, hr370, hq371, hi372, hb373⟩ := hW354.geti hx368
      obtain rfl : _ = ([.int .i64 (x367)] : List Value) := hq371
      refine s2 hs (y_indexAddr (Rd.st hs (.head _)) rfl rfl hi372 hb373 Tryz.underlying78 ti3) fun hs => s2 (v := .int .i64 (x367)) hs (y_loadE (i := (w64 ((y351.length : Int) - 1)).toNat) (j := 0) (Rd.st hs (.head _)) rfl hr370 rfl Tryz.underlying3 rfl) fun hs => s2 (v := .int .i64 (x195.Parent)) hs (y_move rfl) fun hs => s2 hs (y_neq rfl rfl) fun hs => sP (v := .bool (decide (x367 ≠ x195.Parent))) hs rfl rfl fun hs => RL_nil ?_
      exact ⟨decide (x367 ≠ x195.Parent), hm, hs.sub ⟨rfl, rfl, rfl, rfl, rfl, rfl, rfl, trivial⟩⟩
     replace hm := oc_f hg366 hm
     refine s3 hs fun hs => s3 hs fun hs => s3 hs fun hs => s3 hs fun hs => s3 hs fun hs => s3 hs fun hs => s3 hs fun hs => s3 hs fun hs => sP (v := .bool (false)) hs rfl rfl fun hs => RL_nil ?_
     exact ⟨false, hm, hs.sub ⟨rfl, rfl, rfl, rfl, rfl, rfl, rfl, trivial⟩⟩
   replace hm := oc_f hg167 hm
   refine W_exit <| hB32 _ _ ?_
   exact ⟨y154, y159, v155, rw156, hm, hW157, hs.subs ⟨rfl, rfl, rfl, trivial⟩ (.cons _ (.cons_cons _ (.refl _)))⟩
 refine W_region <| sM (v := v1) hs rfl fun hs => ?_
 obtain ⟨x374, hx375, hm⟩ := ob hm
 obtain ⟨r376, hr377, hq378, hi379, hb380⟩ := hW4.geti hx375
 obtain ⟨v381, rfl, ⟨rw382, hR383, hW384⟩⟩ := hq378
 refine s1 hs (y_indexAddr hR3 rfl rfl hi379 hb380 Tryz.underlying35 ti57) fun hs => s1 (v := eaddr v1 9 ((0 : Int).toNat) 0) hs (y_fieldAddrE (i := (0 : Int).toNat) (j := 0) hR3 rfl hb380 (FO.of (off := 0) Tryz.underlying57 rfl rfl ti3 (by decide))) fun hs => s1 (v := .int .i64 (x374.Kind)) hs (y_loadE (i := (0 : Int).toNat) (j := 0) hR3.up rfl hr377 rfl Tryz.underlying3 rfl) fun hs => s1 hs (y_neq rfl rfl) fun hs => sM (v := .bool (decide (x374.Kind ≠ 1))) hs rfl fun hs => ?_
 refine St.split hs (t := 23) rfl (fun hg386 hs => ?_) (fun hg386 hs => ?_)
 ·replace hm := oc_t hg386 hm
  refine s3 hs fun hs => s3 hs fun hs => s3 hs fun hs => s3 hs fun hs => s3 hs fun hs => sP (v := .bool (true)) hs rfl rfl fun hs => sM (v := .bool (true)) hs rfl fun hs => s3 hs fun hs => s3 hs fun hs => s3 hs fun hs => ?_
  refine s3 hs fun hs => s3 hs fun hs => sP (v := .bool (true)) hs rfl rfl fun hs => sM (v := .bool (true)) hs rfl fun hs => s3 hs fun hs => s3 hs fun hs => s3 hs fun hs => s3 hs fun hs => s3 hs fun hs => sP (v := .bool (true)) hs rfl rfl fun hs => ?_
  refine RL_nil ?_
  exact ⟨true, hm, hs.subs ⟨rfl, rfl, trivial⟩ (.cons _ (.refl _))⟩
 replace hm := oc_f hg386 hm
 refine s2 (v := v1) hs (y_move rfl) fun hs => ?_
 obtain ⟨x387, hx388, hm⟩ := ob hm
 obtain ⟨r389, hr390, hq391, hi392, hb393⟩ := hW4.geti hx388
 obtain ⟨v394, rfl, ⟨rw395, hR396, hW397⟩⟩ := hq391
 refine s2 hs (y_indexAddr hR3 rfl rfl hi392 hb393 Tryz.underlying35 ti57) fun hs => s2 (v := eaddr v1 9 ((0 : Int).toNat) 4) hs (y_fieldAddrE (i := (0 : Int).toNat) (j := 0) hR3 rfl hb393 (FO.of (off := 4) Tryz.underlying57 rfl rfl ti3 (by decide))) fun hs => s2 (v := .int .i64 (x387.Parent)) hs (y_loadE (i := (0 : Int).toNat) (j := 4) hR3.up rfl hr390 rfl Tryz.underlying3 rfl) fun hs => s2 hs (y_neq rfl rfl) fun hs => sP (v := .bool (decide (x387.Parent ≠ (-1)))) hs rfl rfl fun hs => sM (v := .bool (decide (x387.Parent ≠ (-1)))) hs rfl fun hs => ?_
 refine St.split hs (t := 30) rfl (fun hg399 hs => ?_) (fun hg399 hs => ?_)
 ·replace hm := oc_t hg399 hm
  refine s3 hs fun hs => s3 hs fun hs => s3 hs fun hs => s3 hs fun hs => s3 hs fun hs => sP (v := .bool (true)) hs rfl rfl fun hs => sM (v := .bool (true)) hs rfl fun hs => s3 hs fun hs => s3 hs fun hs => s3 hs fun hs => ?_
  refine s3 hs fun hs => s3 hs fun hs => sP (v := .bool (true)) hs rfl rfl fun hs => RL_nil ?_
  exact ⟨true, hm, hs.subs ⟨rfl, rfl, trivial⟩ (.cons _ (.refl _))⟩
 replace hm := oc_f hg399 hm
 refine s2 (v := v1) hs (y_move rfl) fun hs => ?_
 obtain ⟨x400, hx401, hm⟩ := ob hm
 obtain ⟨r402, hr403, hq404, hi405, hb406⟩ := hW4.geti hx401
 obtain ⟨v407, rfl, ⟨rw408, hR409, hW410⟩⟩ := hq404
 refine s2 hs (y_indexAddr hR3 rfl rfl hi405 hb406 Tryz.underlying35 ti57) fun hs => s2 (v := eaddr v1 9 ((0 : Int).toNat) 7) hs (y_fieldAddrE (i := (0 : Int).toNat) (j := 0) hR3 rfl hb406 (FO.of (off := 7) Tryz.underlying57 rfl rfl ti3 (by decide))) fun hs => s2 (v := .int .i64 (x400.Prev)) hs (y_loadE (i := (0 : Int).toNat) (j := 7) hR3.up rfl hr403 rfl Tryz.underlying3 rfl) fun hs => s2 hs (y_neq rfl rfl) fun hs => sP (v := .bool (decide (x400.Prev ≠ (-1)))) hs rfl rfl fun hs => sM (v := .bool (decide (x400.Prev ≠ (-1)))) hs rfl fun hs => ?_
 refine St.split hs (t := 37) rfl (fun hg412 hs => ?_) (fun hg412 hs => ?_)
 ·replace hm := oc_t hg412 hm
  refine s3 hs fun hs => s3 hs fun hs => s3 hs fun hs => s3 hs fun hs => s3 hs fun hs => sP (v := .bool (true)) hs rfl rfl fun hs => RL_nil ?_
  exact ⟨true, hm, hs.subs ⟨rfl, rfl, trivial⟩ (.cons _ (.refl _))⟩
 replace hm := oc_f hg412 hm
 refine s2 (v := v1) hs (y_move rfl) fun hs => ?_
 obtain ⟨x413, hx414, hm⟩ := ob hm
 obtain ⟨r415, hr416, hq417, hi418, hb419⟩ := hW4.geti hx414
 obtain ⟨v420, rfl, ⟨rw421, hR422, hW423⟩⟩ := hq417
 refine s2 hs (y_indexAddr hR3 rfl rfl hi418 hb419 Tryz.underlying35 ti57) fun hs => s2 (v := eaddr v1 9 ((0 : Int).toNat) 8) hs (y_fieldAddrE (i := (0 : Int).toNat) (j := 0) hR3 rfl hb419 (FO.of (off := 8) Tryz.underlying57 rfl rfl ti3 (by decide))) fun hs => s2 (v := .int .i64 (x413.Next)) hs (y_loadE (i := (0 : Int).toNat) (j := 8) hR3.up rfl hr416 rfl Tryz.underlying3 rfl) fun hs => s2 hs (y_neq rfl rfl) fun hs => sP (v := .bool (decide (x413.Next ≠ (-1)))) hs rfl rfl fun hs => RL_nil ?_
 exact ⟨decide (x413.Next ≠ (-1)), hm, hs.subs ⟨rfl, rfl, trivial⟩ (.cons _ (.refl _))⟩
def ref5_Kids_k1 (y25 : (List Int)) : Option (List Int) :=
  some y25
def ref5_Kids_l2 (p0 : api_Tree) : Nat → (List Int) → Int → Option (List Int)
  | 0, _, _ => none
  | k44 + 1, y34, y39 =>
  (bif (decide (0 ≤ y39)) then (appM 8 y34 [y39]).bind fun x51 =>
  (geti p0.Nodes y39).bind fun x57 =>
  (ref5_Kids_l2 p0 k44) x51 x57.Next else
  ref5_Kids_k1 y34)
def ref5_Kids (n : Nat) (p0 : api_Tree) (p1 : Int) : Option (List Int) :=
  (bif ((decide (p1 < 0)) || (decide ((p0.Nodes.length : Int) ≤ p1))) then some ([] : List Int) else
  (geti p0.Nodes p1).bind fun x12 =>
  ref5_Kids_l2 p0 n ([] : List Int) x12.First)
theorem ref5_Kids_ok (n : Nat) {f : Fz} {p0 : api_Tree} {a0 : List Value} {p1 : Int} {res : (List Int)} (h0 : t_api_Tree.R f a0 p0) (hm : ref5_Kids n p0 p1 = some res) : Does Tryz.prog 70 [.agg a0.toArray, .int .i64 p1] f [] (fun r f' L' => ∃ (u0 : Value), L' = [] ∧ r = u0 ∧ RS (tInt .i64) f' u0 res) := by
 unfold ref5_Kids at hm
 intro w0 L w hC
 obtain ⟨v1, rfl, ⟨rw2, hR3, hW4⟩⟩ := h0
 refine enter Tryz.func70 rfl Tryz.ntmps70 (by simp) hC fun a hs => ?_
 have hle := Fz.le.refl f
 refine Wq fun hK1 => sbox hs rfl fun b6 _ _ hs => sA (v := (.slice none 0 0)) hs rfl fun hs => RL_nil <| hK1 <| Wq fun hK2 => sA (v := (.slice none 0 0)) hs rfl fun hs => RL_nil ?_
 refine hK2 <| Ws fun hK3 => Ws fun hK4 => ?_
 refine W_post (fun a w => St 35 w0 f (.blk b6 (.cells #[v1] 37 (0, 0)) :: L) [(1, .int .i64 (p1)), (2, .pointer (some ⟨b6, 0, none⟩)), (5, (.slice none 0 0)), (15, .bool (((decide (p1 < 0)) || (decide ((p0.Nodes.length : Int) ≤ p1)))))] a w) ?_ ?_
 ·clear hs; intro a w hs
  refine hK4 ?_
  refine W_cond hs rfl (fun hg10 => ?_) (fun hg10 => ?_)
  ·replace hm := oc_t hg10 hm
   refine Wq fun hK5 => sA (v := (.slice none 0 0)) hs rfl fun hs => RL_nil <| hK5 <| W_ret ?_
   obtain rfl := Option.some.inj hm
   refine RtV1 hs rfl (rv_t hs rfl) ?_
   exact ⟨_, f, [], rfl, hle, (hs.subL (.cons _ (.refl _))).cw, (.slice none 0 0), rfl, rfl, RS.nil⟩
  replace hm := oc_f hg10 hm
  refine W_skip <| hK3 <| Ws fun hK6 => Wq fun hK7 => s1 (v := .pointer (some ⟨b6, 0, none⟩)) hs (y_fieldAddr rfl (FO.of (off := 0) Tryz.underlying37 rfl rfl ti35 (by decide))) fun hs => s1 (v := v1) hs (y_ld rfl Tryz.underlying35 rfl (Cell.blk (.head _) rfl)) fun hs => sM (v := .int .i64 (p1)) hs rfl fun hs => ?_
  obtain ⟨x12, hx13, hm⟩ := ob hm
  obtain ⟨r14, hr15, hq16, hi17, hb18⟩ := hW4.geti hx13
  obtain ⟨v19, rfl, ⟨rw20, hR21, hW22⟩⟩ := hq16
  refine s1 hs (y_indexAddr hR3 rfl rfl hi17 hb18 Tryz.underlying35 ti57) fun hs => s1 (v := eaddr v1 9 p1.toNat 5) hs (y_fieldAddrE (i := p1.toNat) (j := 0) hR3 rfl hb18 (FO.of (off := 5) Tryz.underlying57 rfl rfl ti3 (by decide))) fun hs => s1 (v := .int .i64 (x12.First)) hs (y_loadE (i := p1.toNat) (j := 5) hR3.up rfl hr15 rfl Tryz.underlying3 rfl) fun hs => sA (v := .int .i64 (x12.First)) hs rfl fun hs => RL_nil <| hK7 ?_
  refine W_post (fun a w => ∃ (y25 : (List Int)) (v26 : Value) (rw27 : List (List Value)), ref5_Kids_k1 y25 = some res ∧ RW (tInt .i64) f rw27 y25 ∧ St 35 w0 f (.row v26 3 1 rw27 :: L) [(5, v26)] a w) ?_ ?_
  ·clear hs hm
   rintro a w ⟨y25, v26, rw27, hm, hW28, hs⟩
   unfold ref5_Kids_k1 at hm
   refine hK6 <| Wq fun hK8 => sM (v := v26) hs rfl fun hs => sA (v := v26) hs rfl fun hs => RL_nil <| hK8 <| W_ret ?_
   obtain ⟨f30, hf31, hs2, hR32⟩ := hs.frzAt 0 rfl
   clear hs; have hs := hs2; clear hs2
   replace hW28 := hW28.le hf31
   replace hle := hle.trans hf31
   obtain rfl := Option.some.inj hm
   refine RtV1 hs rfl (rv_t hs rfl) ?_
   exact ⟨_, f30, [], rfl, hle, hs.cw, v26, rfl, rfl, ⟨rw27, hR32, hW28⟩⟩
  refine W_block fun Qe9 hB9 hO9 => ?_
  replace hs := hs.nilRow 3 1
  have hW40 : RW (tInt .i64) f [] ([] : List Int) := trivial
  generalize hgrw41 : ([] : List (List Value)) = rw41 at hs hW40; clear hgrw41
  refine W_loop (fun (k : Nat) a w => ∃ (y34 : (List Int)) (y39 : Int) (v35 : Value) (rw36 : List (List Value)), ref5_Kids_l2 p0 k y34 y39 = some res ∧ RW (tInt .i64) f rw36 y34 ∧ St 35 w0 f (.row v35 3 1 rw36 :: .blk b6 (.cells #[v1] 37 (0, 0)) :: L) [(2, .pointer (some ⟨b6, 0, none⟩)), (5, v35), (6, .int .i64 (y39))] a w) (fun k => k) n ⟨([] : List Int), x12.First, (.slice none 0 0), rw41, hm, hW40, hs.sub ⟨rfl, rfl, rfl, trivial⟩⟩ ?_
  clear hs hm
  intro k
  rintro a w ⟨y34, y39, v35, rw36, hm, hW37, hs⟩
  intro K10 hK10
  cases k with
  | zero => simp [ref5_Kids_l2] at hm
  | succ k44 =>
   rw [ref5_Kids_l2] at hm
   refine Ws fun hK11 => Wq fun hK12 => sM (v := .int .i64 (y39)) hs rfl fun hs => s1 hs (y_geq rfl rfl) fun hs => RL_nil <| hK12 ?_
   refine W_cond hs rfl (fun hg45 => ?_) (fun hg45 => ?_)
   ·replace hm := oc_t hg45 hm
    refine W_skip <| hK11 <| Ws fun hK13 => W_block fun Qe14 hB14 hO14 => W_region <| sM (v := v35) hs rfl fun hs => sM (v := .int .i64 (y39)) hs rfl fun hs => RL_bs1s hs rfl Tryz.underlying78 ti3 rfl rfl fun v46 _ _ hs => ?_
    have hW47 : RW (tInt .i64) f [[.int .i64 (y39)]] [y39] := RW.single (rfl)
    generalize hgrw48 : ([[.int .i64 (y39)]] : List (List Value)) = rw48 at hs hW47; clear hgrw48
    obtain ⟨x51, hx52, hm⟩ := ob hm
    obtain ⟨hbx51, hex51⟩ := appM_some hx52
    have hW55 := hW37.append hW47; rw [hex51] at hW55
    refine RL_append (i := 1) hs rfl rfl rfl (Rd.st hs (.head _)) Tryz.underlying78 ti3 (by decide) (by rw [RW.len hW37, RW.len hW47]; exact hbx51) (.free rfl) (by decide) fun v53 _ _ hs => ?_
    generalize hgx51 : rw36 ++ rw48 = rw54 at hs hW55; clear hgx51
    replace hs := hs.erase 0
    refine sA (v := v53) hs rfl fun hs => RL_nil <| hK13 <| W_region <| s1 (v := .pointer (some ⟨b6, 0, none⟩)) hs (y_fieldAddr rfl (FO.of (off := 0) Tryz.underlying37 rfl rfl ti35 (by decide))) fun hs => s1 (v := v1) hs (y_ld rfl Tryz.underlying35 rfl (Cell.blk (.tail _ (.head _)) rfl)) fun hs => sM (v := .int .i64 (y39)) hs rfl fun hs => ?_
    obtain ⟨x57, hx58, hm⟩ := ob hm
    obtain ⟨r59, hr60, hq61, hi62, hb63⟩ := hW4.geti hx58
    obtain ⟨v64, rfl, ⟨rw65, hR66, hW67⟩⟩ := hq61
    refine s1 hs (y_indexAddr hR3 rfl rfl hi62 hb63 Tryz.underlying35 ti57) fun hs => s1 (v := eaddr v1 9 y39.toNat 8) hs (y_fieldAddrE (i := y39.toNat) (j := 0) hR3 rfl hb63 (FO.of (off := 8) Tryz.underlying57 rfl rfl ti3 (by decide))) fun hs => s1 (v := .int .i64 (x57.Next)) hs (y_loadE (i := y39.toNat) (j := 8) hR3.up rfl hr60 rfl Tryz.underlying3 rfl) fun hs => sA (v := .int .i64 (x57.Next)) hs rfl fun hs => RL_nil ?_
    exact hK10 k44 _ _ (Nat.lt_succ_self _) ⟨x51, x57.Next, v53, rw54, hm, hW55, hs.sub ⟨rfl, rfl, rfl, trivial⟩⟩
   replace hm := oc_f hg45 hm
   refine W_exit <| hB9 _ _ ?_
   exact ⟨y34, v35, rw36, hm, hW37, hs.subs ⟨rfl, trivial⟩ (.cons_cons _ (.cons _ (.refl _)))⟩
 refine W_region <| sM (v := .int .i64 (p1)) hs rfl fun hs => s1 hs (y_lss rfl rfl) fun hs => sM (v := .bool (decide (p1 < 0))) hs rfl fun hs => ?_
 refine St.split hs (t := 9) rfl (fun hg69 hs => ?_) (fun hg69 hs => ?_)
 ·refine s3 hs fun hs => s3 hs fun hs => s3 hs fun hs => s3 hs fun hs => s3 hs fun hs => sP (v := .bool (true)) hs rfl rfl fun hs => RL_nil ?_
  exact hs.sub ⟨rfl, rfl, rfl, (lkB (((or_t hg69).trans rfl)) rfl), trivial⟩
 refine s2 (v := .int .i64 (p1)) hs (y_move rfl) fun hs => s2 (v := .pointer (some ⟨b6, 0, none⟩)) hs (y_fieldAddr rfl (FO.of (off := 0) Tryz.underlying37 rfl rfl ti35 (by decide))) fun hs => s2 (v := v1) hs (y_ld rfl Tryz.underlying35 rfl (Cell.blk (.head _) rfl)) fun hs => s2 hs (y_lenW hR3 hW4 rfl Tryz.underlying35) fun hs => s2 hs (y_geq rfl rfl) fun hs => sP (v := .bool (decide ((p0.Nodes.length : Int) ≤ p1))) hs rfl rfl fun hs => RL_nil ?_
 exact hs.sub ⟨rfl, rfl, rfl, (lkB (((or_f hg69).trans rfl)) rfl), trivial⟩
def keep_Whole_k1 : Option Bool :=
  some true
def keep_Whole_k3 (y11 : Int) (lp12 : Int → Option Bool) (y42 : ByteArray) : Option Bool :=
  (runesM y42).bind fun x43 =>
  (bif (decide ((textOf x43) ≠ y42)) then some false else
  lp12 (w64 (y11 + 1)))
def keep_Whole_l4 (p0 : api_Tree) (y11 : Int) (lp12 : Int → Option Bool) : Nat → ByteArray → Int → Option Bool
  | 0, _, _ => none
  | k53 + 1, y51, y52 =>
  (geti p0.Nodes y11).bind fun x54 =>
  (bif (decide (y52 < (x54.Attrs.length : Int))) then (addS y51 (bs [124])).bind fun x67 =>
  (geti p0.Nodes y11).bind fun x69 =>
  (geti x69.Attrs y52).bind fun x81 =>
  (addS x67 x81.Name).bind fun x88 =>
  (addS x88 (bs [124])).bind fun x90 =>
  (geti p0.Nodes y11).bind fun x92 =>
  (geti x92.Attrs y52).bind fun x104 =>
  (addS x90 x104.Value).bind fun x111 =>
  (keep_Whole_l4 p0 y11 lp12 k53) x111 (w64 (y52 + 1)) else
  keep_Whole_k3 y11 lp12 y51)
def keep_Whole_l2 (n : Nat) (p0 : api_Tree) : Nat → Int → Option Bool
  | 0, _ => none
  | k12 + 1, y11 =>
  (bif (decide (y11 < (p0.Nodes.length : Int))) then (geti p0.Nodes y11).bind fun x14 =>
  (addS x14.Name (bs [124])).bind fun x26 =>
  (geti p0.Nodes y11).bind fun x28 =>
  (addS x26 x28.Text).bind fun x40 =>
  keep_Whole_l4 p0 y11 (keep_Whole_l2 n p0 k12) n x40 0 else
  keep_Whole_k1)
def keep_Whole (n : Nat) (p0 : api_Tree) : Option Bool :=
  (ref5_Right n p0).bind fun x8 =>
  (bif (decide (x8 ≠ 0)) then some false else
  keep_Whole_l2 n p0 n 0)
theorem keep_Whole_ok (n : Nat) {f : Fz} {p0 : api_Tree} {a0 : List Value} {res : Bool} (h0 : t_api_Tree.R f a0 p0) (hm : keep_Whole n p0 = some res) : Gives Tryz.prog 12 [.agg a0.toArray] f (.bool res) := by
 unfold keep_Whole at hm
 intro w0 L w hC
 obtain ⟨v1, rfl, ⟨rw2, hR3, hW4⟩⟩ := h0
 refine enter Tryz.func12 rfl Tryz.ntmps12 (by simp) hC fun a hs => ?_
 have hle := Fz.le.refl f
 refine Wq fun hK1 => sbox hs rfl fun b6 _ _ hs => sA (v := .bool (false)) hs rfl fun hs => RL_nil <| hK1 <| Ws fun hK2 => Wq fun hK3 => s1 hs (y_ldB rfl Tryz.underlying37 rfl ti37 (.head _) rfl) fun hs => ?_
 obtain ⟨x8, hx9, hm⟩ := ob hm
 refine s1 hs (y_call rfl has38 rfl (ref5_Right_ok n (f := f) (a0 := [v1]) ⟨_, rfl, ⟨rw2, hR3, hW4⟩⟩ hx9)) fun hs => s1 hs (y_neq rfl rfl) fun hs => RL_nil <| hK3 ?_
 refine W_cond hs rfl (fun hg10 => ?_) (fun hg10 => ?_)
 ·replace hm := oc_t hg10 hm
  refine Wq fun hK4 => sA (v := .bool (false)) hs rfl fun hs => RL_nil <| hK4 <| W_ret ?_
  obtain rfl := Option.some.inj hm
  refine RtV1 hs rfl (rv_t hs rfl) ?_
  exact ⟨rfl, ((hs.subL (.cons _ (.refl _))).weak hle).cw⟩
 replace hm := oc_f hg10 hm
 refine W_skip <| hK2 <| Ws fun hK5 => Wq fun hK6 => sA (v := .int .i64 (0)) hs rfl fun hs => RL_nil <| hK6 ?_
 refine W_post (fun a w => keep_Whole_k1 = some res ∧ St 71 w0 f (L) [] a w) ?_ ?_
 ·clear hs hm
  rintro a w ⟨hm, hs⟩
  unfold keep_Whole_k1 at hm
  refine hK5 <| Wq fun hK7 => sA (v := .bool (true)) hs rfl fun hs => RL_nil <| hK7 <| W_ret ?_
  obtain rfl := Option.some.inj hm
  refine RtV1 hs rfl (rv_t hs rfl) ?_
  exact ⟨rfl, (hs.weak hle).cw⟩
 refine W_block fun Qe8 hB8 hO8 => W_loop (fun (k : Nat) a w => ∃ (y11 : Int), keep_Whole_l2 n p0 k y11 = some res ∧ St 71 w0 f (.blk b6 (.cells #[v1] 37 (0, 0)) :: L) [(1, .pointer (some ⟨b6, 0, none⟩)), (3, .int .i64 (y11))] a w) (fun k => k) n ⟨0, hm, hs.sub ⟨rfl, rfl, trivial⟩⟩ ?_
 clear hs hm
 intro k
 rintro a w ⟨y11, hm, hs⟩
 intro K9 hK9
 cases k with
 | zero => simp [keep_Whole_l2] at hm
 | succ k12 =>
  rw [keep_Whole_l2] at hm
  refine Ws fun hK10 => Wq fun hK11 => sM (v := .int .i64 (y11)) hs rfl fun hs => s1 (v := .pointer (some ⟨b6, 0, none⟩)) hs (y_fieldAddr rfl (FO.of (off := 0) Tryz.underlying37 rfl rfl ti35 (by decide))) fun hs => s1 (v := v1) hs (y_ld rfl Tryz.underlying35 rfl (Cell.blk (.head _) rfl)) fun hs => s1 hs (y_lenW hR3 hW4 rfl Tryz.underlying35) fun hs => s1 hs (y_lss rfl rfl) fun hs => RL_nil <| hK11 ?_
  refine W_cond hs rfl (fun hg13 => ?_) (fun hg13 => ?_)
  ·replace hm := oc_t hg13 hm
   refine W_skip <| hK10 <| Ws fun hK12 => W_block fun Qe13 hB13 hO13 => Ws fun hK14 => ?_
   refine W_draw hs mixed (by kernel_rfl) ?_; intro a he
   refine qy (v := .pointer (some ⟨b6, 0, none⟩)) he (y_fieldAddr rfl (FO.of (off := 0) Tryz.underlying37 rfl rfl ti35 (by decide))) fun _ he => qy (v := v1) he (y_ld rfl Tryz.underlying35 rfl (Cell.blk (.head _) rfl)) fun _ he => qy (v := .int .i64 (y11)) he (y_move rfl) fun _ he => ?_
   obtain ⟨x14, hx15, hm⟩ := ob hm
   obtain ⟨r16, hr17, hq18, hi19, hb20⟩ := hW4.geti hx15
   obtain ⟨v21, rfl, ⟨rw22, hR23, hW24⟩⟩ := hq18
   refine qy he (y_indexAddr hR3 rfl rfl hi19 hb20 Tryz.underlying35 ti57) fun _ he => qy (v := eaddr v1 9 y11.toNat 1) he (y_fieldAddrE (i := y11.toNat) (j := 0) hR3 rfl hb20 (FO.of (off := 1) Tryz.underlying57 rfl rfl ti9 (by decide))) fun _ he => qy (v := .string (x14.Name)) he (y_loadE (i := y11.toNat) (j := 1) hR3.up rfl hr17 rfl Tryz.underlying9 rfl) fun _ he => ?_
   obtain ⟨x26, hx27, hm⟩ := ob hm
   obtain ⟨hbx26, hex26⟩ := addS_some hx27
   refine qy he (y_saddW rfl rfl hbx26 hex26) fun _ he => qy (v := .pointer (some ⟨b6, 0, none⟩)) he (y_fieldAddr rfl (FO.of (off := 0) Tryz.underlying37 rfl rfl ti35 (by decide))) fun _ he => qy (v := v1) he (y_ld rfl Tryz.underlying35 rfl (Cell.blk (.head _) rfl)) fun _ he => qy (v := .int .i64 (y11)) he (y_move rfl) fun _ he => ?_
   obtain ⟨x28, hx29, hm⟩ := ob hm
   obtain ⟨r30, hr31, hq32, hi33, hb34⟩ := hW4.geti hx29
   obtain ⟨v35, rfl, ⟨rw36, hR37, hW38⟩⟩ := hq32
   refine qy he (y_indexAddr hR3 rfl rfl hi33 hb34 Tryz.underlying35 ti57) fun _ he => qy (v := eaddr v1 9 y11.toNat 2) he (y_fieldAddrE (i := y11.toNat) (j := 0) hR3 rfl hb34 (FO.of (off := 2) Tryz.underlying57 rfl rfl ti9 (by decide))) fun _ he => qy (v := .string (x28.Text)) he (y_loadE (i := y11.toNat) (j := 2) hR3.up rfl hr31 rfl Tryz.underlying9 rfl) fun _ he => ?_
   obtain ⟨x40, hx41, hm⟩ := ob hm
   obtain ⟨hbx40, hex40⟩ := addS_some hx41
   refine qy he (y_saddW rfl rfl hbx40 hex40) fun _ he => qy (v := .string (x40)) he (y_assign rfl) fun _ he => ?_
   refine QL_nil he ?_; clear he; (try clear hs); (try clear a); intro a w hs
   refine hK14 <| Ws fun hK15 => Wq fun hK16 => sA (v := .int .i64 (0)) hs rfl fun hs => RL_nil <| hK16 ?_
   refine W_post (fun a w => ∃ (y42 : ByteArray), keep_Whole_k3 y11 (keep_Whole_l2 n p0 k12) y42 = some res ∧ St 71 w0 f (.blk b6 (.cells #[v1] 37 (0, 0)) :: L) [(1, .pointer (some ⟨b6, 0, none⟩)), (3, .int .i64 (y11)), (4, .string (y42))] a w) ?_ ?_
   ·clear hs hm
    rintro a w ⟨y42, hm, hs⟩
    unfold keep_Whole_k3 at hm
    refine hK15 <| Wq fun hK17 => sM (v := .string (y42)) hs rfl fun hs => ?_
    obtain ⟨x43, hx44, hm⟩ := ob hm
    refine RL_s2rW hx44 hs rfl Tryz.underlying9 Tryz.underlying73 Tryz.underlying21 fun v45 rw46 _ _ hW47 hs => s1 (v := .string ((textOf x43))) hs (y_r2sW rfl Tryz.underlying73 Tryz.underlying21 Tryz.underlying9 (Rd.st hs (.head _)) hW47) fun hs => sM (v := .string (y42)) hs rfl fun hs => s1 hs (y_sneq rfl rfl) fun hs => RL_nil <| hK17 ?_
    refine W_cond hs rfl (fun hg50 => ?_) (fun hg50 => ?_)
    ·replace hm := oc_t hg50 hm
     refine Wq fun hK18 => sA (v := .bool (false)) hs rfl fun hs => RL_nil <| hK18 <| W_ret ?_
     obtain rfl := Option.some.inj hm
     refine RtV1 hs rfl (rv_t hs rfl) ?_
     exact ⟨rfl, ((hs.subL (.cons _ (.cons _ (.refl _)))).weak hle).cw⟩
    replace hm := oc_f hg50 hm
    refine W_skip <| hK12 <| W_region <| sM (v := .int .i64 (y11)) hs rfl fun hs => s1 hs (y_add rfl rfl rfl) fun hs => sA (v := .int .i64 ((w64 (y11 + 1)))) hs rfl fun hs => RL_nil ?_
    exact hK9 k12 _ _ (Nat.lt_succ_self _) ⟨(w64 (y11 + 1)), hm, hs.subs ⟨rfl, rfl, trivial⟩ (.cons _ (.cons_cons _ (.refl _)))⟩
   refine W_block fun Qe19 hB19 hO19 => W_loop (fun (k : Nat) a w => ∃ (y51 : ByteArray) (y52 : Int), keep_Whole_l4 p0 y11 (keep_Whole_l2 n p0 k12) k y51 y52 = some res ∧ St 71 w0 f (.blk b6 (.cells #[v1] 37 (0, 0)) :: L) [(1, .pointer (some ⟨b6, 0, none⟩)), (3, .int .i64 (y11)), (4, .string (y51)), (5, .int .i64 (y52))] a w) (fun k => k) n ⟨x40, 0, hm, hs.sub ⟨rfl, rfl, rfl, rfl, trivial⟩⟩ ?_
   clear hs hm
   intro k
   rintro a w ⟨y51, y52, hm, hs⟩
   intro K20 hK20
   cases k with
   | zero => simp [keep_Whole_l4] at hm
   | succ k53 =>
    rw [keep_Whole_l4] at hm
    refine Ws fun hK21 => Wq fun hK22 => sM (v := .int .i64 (y52)) hs rfl fun hs => s1 (v := .pointer (some ⟨b6, 0, none⟩)) hs (y_fieldAddr rfl (FO.of (off := 0) Tryz.underlying37 rfl rfl ti35 (by decide))) fun hs => s1 (v := v1) hs (y_ld rfl Tryz.underlying35 rfl (Cell.blk (.head _) rfl)) fun hs => sM (v := .int .i64 (y11)) hs rfl fun hs => ?_
    obtain ⟨x54, hx55, hm⟩ := ob hm
    obtain ⟨r56, hr57, hq58, hi59, hb60⟩ := hW4.geti hx55
    obtain ⟨v61, rfl, ⟨rw62, hR63, hW64⟩⟩ := hq58
    refine s1 hs (y_indexAddr hR3 rfl rfl hi59 hb60 Tryz.underlying35 ti57) fun hs => s1 (v := eaddr v1 9 y11.toNat 3) hs (y_fieldAddrE (i := y11.toNat) (j := 0) hR3 rfl hb60 (FO.of (off := 3) Tryz.underlying57 rfl rfl ti55 (by decide))) fun hs => s1 (v := v61) hs (y_loadE (i := y11.toNat) (j := 3) hR3.up rfl hr57 rfl Tryz.underlying55 rfl) fun hs => s1 hs (y_lenW hR63 hW64 rfl Tryz.underlying55) fun hs => s1 hs (y_lss rfl rfl) fun hs => RL_nil <| hK22 ?_
    refine W_cond hs rfl (fun hg66 => ?_) (fun hg66 => ?_)
    ·replace hm := oc_t hg66 hm
     refine W_skip <| hK21 <| Ws fun hK23 => W_block fun Qe24 hB24 hO24 => ?_
     refine W_draw hs mixed (by kernel_rfl) ?_; intro a he
     refine qy (v := .string (y51)) he (y_move rfl) fun _ he => ?_
     obtain ⟨x67, hx68, hm⟩ := ob hm
     obtain ⟨hbx67, hex67⟩ := addS_some hx68
     refine qy he (y_saddW rfl rfl hbx67 hex67) fun _ he => qy (v := .pointer (some ⟨b6, 0, none⟩)) he (y_fieldAddr rfl (FO.of (off := 0) Tryz.underlying37 rfl rfl ti35 (by decide))) fun _ he => qy (v := v1) he (y_ld rfl Tryz.underlying35 rfl (Cell.blk (.head _) rfl)) fun _ he => qy (v := .int .i64 (y11)) he (y_move rfl) fun _ he => ?_
     obtain ⟨x69, hx70, hm⟩ := ob hm
     obtain ⟨r71, hr72, hq73, hi74, hb75⟩ := hW4.geti hx70
     obtain ⟨v76, rfl, ⟨rw77, hR78, hW79⟩⟩ := hq73
     refine qy he (y_indexAddr hR3 rfl rfl hi74 hb75 Tryz.underlying35 ti57) fun _ he => qy (v := eaddr v1 9 y11.toNat 3) he (y_fieldAddrE (i := y11.toNat) (j := 0) hR3 rfl hb75 (FO.of (off := 3) Tryz.underlying57 rfl rfl ti55 (by decide))) fun _ he => qy (v := v76) he (y_loadE (i := y11.toNat) (j := 3) hR3.up rfl hr72 rfl Tryz.underlying55 rfl) fun _ he => qy (v := .int .i64 (y52)) he (y_move rfl) fun _ he => ?_
     obtain ⟨x81, hx82, hm⟩ := ob hm
     obtain ⟨r83, hr84, hq85, hi86, hb87⟩ := hW79.geti hx82
     obtain rfl : _ = ([.string (x81.Name), .string (x81.Value)] : List Value) := hq85
     refine qy he (y_indexAddr hR78 rfl rfl hi86 hb87 Tryz.underlying55 ti85) fun _ he => qy (v := eaddr v76 2 y52.toNat 0) he (y_fieldAddrE (i := y52.toNat) (j := 0) hR78 rfl hb87 (FO.of (off := 0) Tryz.underlying85 rfl rfl ti9 (by decide))) fun _ he => qy (v := .string (x81.Name)) he (y_loadE (i := y52.toNat) (j := 0) hR78.up rfl hr84 rfl Tryz.underlying9 rfl) fun _ he => ?_
     obtain ⟨x88, hx89, hm⟩ := ob hm
     obtain ⟨hbx88, hex88⟩ := addS_some hx89
     refine qy he (y_saddW rfl rfl hbx88 hex88) fun _ he => ?_
     obtain ⟨x90, hx91, hm⟩ := ob hm
     obtain ⟨hbx90, hex90⟩ := addS_some hx91
     refine qy he (y_saddW rfl rfl hbx90 hex90) fun _ he => qy (v := .pointer (some ⟨b6, 0, none⟩)) he (y_fieldAddr rfl (FO.of (off := 0) Tryz.underlying37 rfl rfl ti35 (by decide))) fun _ he => qy (v := v1) he (y_ld rfl Tryz.underlying35 rfl (Cell.blk (.head _) rfl)) fun _ he => qy (v := .int .i64 (y11)) he (y_move rfl) fun _ he => ?_
     obtain ⟨x92, hx93, hm⟩ := ob hm
     obtain ⟨r94, hr95, hq96, hi97, hb98⟩ := hW4.geti hx93
     obtain ⟨v99, rfl, ⟨rw100, hR101, hW102⟩⟩ := hq96
     refine qy he (y_indexAddr hR3 rfl rfl hi97 hb98 Tryz.underlying35 ti57) fun _ he => qy (v := eaddr v1 9 y11.toNat 3) he (y_fieldAddrE (i := y11.toNat) (j := 0) hR3 rfl hb98 (FO.of (off := 3) Tryz.underlying57 rfl rfl ti55 (by decide))) fun _ he => qy (v := v99) he (y_loadE (i := y11.toNat) (j := 3) hR3.up rfl hr95 rfl Tryz.underlying55 rfl) fun _ he => qy (v := .int .i64 (y52)) he (y_move rfl) fun _ he => ?_
     obtain ⟨x104, hx105, hm⟩ := ob hm
     obtain ⟨r106, hr107, hq108, hi109, hb110⟩ := hW102.geti hx105
     obtain rfl : _ = ([.string (x104.Name), .string (x104.Value)] : List Value) := hq108
     refine qy he (y_indexAddr hR101 rfl rfl hi109 hb110 Tryz.underlying55 ti85) fun _ he => qy (v := eaddr v99 2 y52.toNat 1) he (y_fieldAddrE (i := y52.toNat) (j := 0) hR101 rfl hb110 (FO.of (off := 1) Tryz.underlying85 rfl rfl ti9 (by decide))) fun _ he => qy (v := .string (x104.Value)) he (y_loadE (i := y52.toNat) (j := 1) hR101.up rfl hr107 rfl Tryz.underlying9 rfl) fun _ he => ?_
     obtain ⟨x111, hx112, hm⟩ := ob hm
     obtain ⟨hbx111, hex111⟩ := addS_some hx112
     refine qy he (y_saddW rfl rfl hbx111 hex111) fun _ he => qy (v := .string (x111)) he (y_assign rfl) fun _ he => ?_
     refine QL_nil he ?_; clear he; (try clear hs); (try clear a); intro a w hs
     refine hK23 <| W_region <| sM (v := .int .i64 (y52)) hs rfl fun hs => s1 hs (y_add rfl rfl rfl) fun hs => sA (v := .int .i64 ((w64 (y52 + 1)))) hs rfl fun hs => RL_nil ?_
     exact hK20 k53 _ _ (Nat.lt_succ_self _) ⟨x111, (w64 (y52 + 1)), hm, hs.sub ⟨rfl, rfl, rfl, rfl, trivial⟩⟩
    replace hm := oc_f hg66 hm
    refine W_exit <| hB19 _ _ ?_
    exact ⟨y51, hm, hs.sub ⟨rfl, rfl, rfl, trivial⟩⟩
  replace hm := oc_f hg13 hm
  refine W_exit <| hB8 _ _ ?_
  exact ⟨hm, hs.subs trivial (.cons _ (.refl _))⟩
end Go.Proofs.YteicdfkmpnmkmaaGreat
