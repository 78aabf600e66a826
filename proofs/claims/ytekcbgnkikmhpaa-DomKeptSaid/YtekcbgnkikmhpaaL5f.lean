/-
  Walks and laws of this seat; the base is the text Base.
-/
import Derived.Test.YtekcbgnkikmhpaaL5e
import Derived.Test.YtekcbgnkikmhpaaRows
/-
  Models of functions, and that the functions compute them. Printed by lift.py.
-/
namespace Go.Proofs.Ytekcbgnkikmhpaa
open Go.RowKit Go.Sl
/-! casement/casementlaw5.deep -/
def law5_deep_k1 (y13 : Int) : Option Int :=
  some y13
def law5_deep_l2 (p0 : dom_Part) (p1 : Int) (slf : dom_Part → Int → Option Int) : Nat → Int → Int → Option Int
  | 0, _, _ => none
  | k16 + 1, y14, y15 =>
  (bif ((decide (y15 < (p0.Kids.length : Int))) && (decide (y14 < 2000))) then (bif (decide (600 < p1)) then some 2000 else
  (geti p0.Kids y15).bind fun x19 =>
  (slf x19 (w64 (p1 + 1))).bind fun x36 =>
  (law5_deep_l2 p0 p1 slf k16) (w64 (y14 + x36)) (w64 (y15 + 1))) else
  law5_deep_k1 y14)
def law5_deep_b (slf : dom_Part → Int → Option Int) (n : Nat) (p0 : dom_Part) (p1 : Int) : Option Int :=
  law5_deep_l2 p0 p1 slf n 1 0
def law5_deep : Nat → dom_Part → Int → Option Int
  | 0, _, _ => none
  | n + 1, p0, p1 => law5_deep_b (law5_deep n) n p0 p1
theorem law5_deep_bok {slf : dom_Part → Int → Option Int} (n : Nat) (slf_ok : ∀ {f : Fz} {p0 : dom_Part} {a0 : List Value} {p1 : Int} {res : Int} (_ : t_dom_Part.R f a0 p0) (_ : slf p0 p1 = some res), Gives Try.prog 15 [.agg a0.toArray, .int .i64 p1] f (.int .i64 res)) {f : Fz} {p0 : dom_Part} {a0 : List Value} {p1 : Int} {res : Int} (h0 : t_dom_Part.R f a0 p0) (hm : law5_deep_b slf n p0 p1 = some res) : Gives Try.prog 15 [.agg a0.toArray, .int .i64 p1] f (.int .i64 res) := by
 unfold law5_deep_b at hm
 intro w0 L w hC
 obtain ⟨v1, v6, rfl, ⟨rw2, hR3, hW4⟩, ⟨rw7, hR8, hW9⟩⟩ := R_dom_Part.ex h0
 refine enter Try.func15 rfl Try.ntmps15 (by simp) hC fun a hs => ?_
 have hle := Fz.le.refl f
 refine W_seq fun K1 hK1 => ?_
 refine W_region ?_
 refine sbox hs rfl ?_; clear hs; (try clear a w); intro b11 a w hs
 replace hs : St _ _ _ (.blk b11 (.cells #[.string (p0.Name), .string (p0.Text), v1, v6] 35 (0, 0)) :: L) _ _ _ := hs
 refine sy (v := .int .i64 (0)) hs (y_assign rfl) ?_; clear hs; (try clear a w); intro a w hs
 refine RL_nil ?_
 refine hK1 _ _ ?_; clear hK1
 refine W_seq fun K2 hK2 => ?_
 refine W_region ?_
 refine sy (v := .int .i64 (1)) hs (y_assign rfl) ?_; clear hs; (try clear a w); intro a w hs
 refine RL_nil ?_
 refine hK2 _ _ ?_; clear hK2
 refine W_seq fun K3 hK3 => ?_
 refine W_seq fun K4 hK4 => ?_
 refine W_region ?_
 refine sy (v := .int .i64 (0)) hs (y_assign rfl) ?_; clear hs; (try clear a w); intro a w hs
 refine RL_nil ?_
 refine hK4 _ _ ?_; clear hK4
 refine W_post (fun a w => ∃ (y13 : Int), law5_deep_k1 y13 = some res ∧ St 31 w0 f (L) [(5, .int .i64 (y13))] a w) ?_ ?_
 ·clear hs hm
  rintro a w ⟨y13, hm, hs⟩
  replace hs : St _ _ _ (L) _ _ _ := hs
  unfold law5_deep_k1 at hm
  refine hK3 _ _ ?_; clear hK3
  refine W_seq fun K5 hK5 => ?_
  refine W_region ?_
  refine sy (v := .int .i64 (y13)) hs (y_move rfl) ?_; clear hs; (try clear a w); intro a w hs
  refine sy (v := .int .i64 (y13)) hs (y_assign rfl) ?_; clear hs; (try clear a w); intro a w hs
  refine RL_nil ?_
  refine hK5 _ _ ?_; clear hK5
  refine W_ret ?_
  obtain rfl := Option.some.inj hm
  refine RtV1 hs rfl (rv_t hs rfl) ?_
  exact ⟨rfl, (hs.weak hle).cw⟩
 ·refine W_block fun Qe6 hB6 hO6 => ?_
  refine W_loop (fun (k : Nat) a w => ∃ (y14 : Int) (y15 : Int), law5_deep_l2 p0 p1 slf k y14 y15 = some res ∧ St 31 w0 f (.blk b11 (.cells #[.string (p0.Name), .string (p0.Text), v1, v6] 35 (0, 0)) :: L) [(1, .int .i64 (p1)), (2, .pointer (some ⟨b11, 0, none⟩)), (5, .int .i64 (y14)), (6, .int .i64 (y15))] a w) (fun k => k) n ⟨1, 0, hm, hs.sub ⟨rfl, rfl, rfl, rfl, trivial⟩⟩ ?_
  clear hs hm
  intro k
  rintro a w ⟨y14, y15, hm, hs⟩
  replace hs : St _ _ _ (.blk b11 (.cells #[.string (p0.Name), .string (p0.Text), v1, v6] 35 (0, 0)) :: L) _ _ _ := hs
  intro K7 hK7
  cases k with
  | zero => simp [law5_deep_l2] at hm
  | succ k16 =>
   rw [law5_deep_l2] at hm
   refine W_seq fun K8 hK8 => ?_
   refine W_seq fun K9 hK9 => ?_
   refine W_post (fun a w => St 31 w0 f (.blk b11 (.cells #[.string (p0.Name), .string (p0.Text), v1, v6] 35 (0, 0)) :: L) [(1, .int .i64 (p1)), (2, .pointer (some ⟨b11, 0, none⟩)), (5, .int .i64 (y14)), (6, .int .i64 (y15)), (15, .bool (((decide (y15 < (p0.Kids.length : Int))) && (decide (y14 < 2000)))))] a w) ?_ ?_
   ·clear hs; intro a w hs
    refine hK9 _ _ ?_; clear hK9
    refine W_cond hs rfl (fun hg17 => ?_) (fun hg17 => ?_)
    ·replace hm := oc_t hg17 hm
     refine W_skip ?_
     refine hK8 _ _ ?_; clear hK8
     refine W_seq fun K10 hK10 => ?_
     refine W_block fun Qe11 hB11 hO11 => ?_
     refine W_seq fun K12 hK12 => ?_
     refine W_seq fun K13 hK13 => ?_
     refine W_region ?_
     refine sy (v := .int .i64 (p1)) hs (y_move rfl) ?_; clear hs; (try clear a w); intro a w hs
     refine sy hs (y_gtr rfl rfl) ?_; clear hs; (try clear a w); intro a w hs
     refine RL_nil ?_
     refine hK13 _ _ ?_; clear hK13
     refine W_cond hs rfl (fun hg18 => ?_) (fun hg18 => ?_)
     ·replace hm := oc_t hg18 hm
      refine W_seq fun K14 hK14 => ?_
      refine W_region ?_
      refine sy (v := .int .i64 (2000)) hs (y_assign rfl) ?_; clear hs; (try clear a w); intro a w hs
      refine RL_nil ?_
      refine hK14 _ _ ?_; clear hK14
      refine W_ret ?_
      obtain rfl := Option.some.inj hm
      refine RtV1 hs rfl (rv_t hs rfl) ?_
      exact ⟨rfl, ((hs.subL (.cons _ (.refl _))).weak hle).cw⟩
     ·replace hm := oc_f hg18 hm
      refine W_skip ?_
      refine hK12 _ _ ?_; clear hK12
      refine W_region ?_
      refine sy (v := .int .i64 (y14)) hs (y_move rfl) ?_; clear hs; (try clear a w); intro a w hs
      refine sy (v := .pointer (some ⟨b11, 3, none⟩)) hs (y_fieldAddr rfl (FO.of (off := 3) Try.underlying35 rfl rfl ti33 (by decide))) ?_; clear hs; (try clear a w); intro a w hs
      refine sy (v := v6) hs (y_ld rfl Try.underlying33 rfl (Cell.blk (.head _) rfl)) ?_; clear hs; (try clear a w); intro a w hs
      refine sy (v := .int .i64 (y15)) hs (y_move rfl) ?_; clear hs; (try clear a w); intro a w hs
      obtain ⟨x19, hx20, hm⟩ := ob hm
      obtain ⟨r21, hr22, hq23, hi24, hb25⟩ := hW9.geti hx20
      obtain ⟨v26, v31, rfl, ⟨rw27, hR28, hW29⟩, ⟨rw32, hR33, hW34⟩⟩ := R_dom_Part.ex hq23
      refine sy hs (y_indexAddr hR8 rfl rfl hi24 hb25 Try.underlying33 ti35) ?_; clear hs; (try clear a w); intro a w hs
      refine sy hs (y_loadRow hR8.up rfl hr22 Try.underlying35 rfl ti35) ?_; clear hs; (try clear a w); intro a w hs
      refine sy (v := .int .i64 (p1)) hs (y_move rfl) ?_; clear hs; (try clear a w); intro a w hs
      refine sy hs (y_add rfl rfl rfl) ?_; clear hs; (try clear a w); intro a w hs
      obtain ⟨x36, hx37, hm⟩ := ob hm
      refine sy hs (y_call rfl has15 rfl (slf_ok (f := f) (a0 := [.string (x19.Name), .string (x19.Text), v26, v31]) (R_dom_Part.of (x := x19) ⟨rw27, hR28, hW29⟩ ⟨rw32, hR33, hW34⟩) hx37)) ?_; clear hs; (try clear a w); intro a w hs
      refine sy hs (y_add rfl rfl rfl) ?_; clear hs; (try clear a w); intro a w hs
      refine sy (v := .int .i64 ((w64 (y14 + x36)))) hs (y_assign rfl) ?_; clear hs; (try clear a w); intro a w hs
      refine RL_nil ?_
      refine hK10 _ _ ?_; clear hK10
      refine W_region ?_
      refine sy (v := .int .i64 (y15)) hs (y_move rfl) ?_; clear hs; (try clear a w); intro a w hs
      refine sy hs (y_add rfl rfl rfl) ?_; clear hs; (try clear a w); intro a w hs
      refine sy (v := .int .i64 ((w64 (y15 + 1)))) hs (y_assign rfl) ?_; clear hs; (try clear a w); intro a w hs
      refine RL_nil ?_
      exact hK7 k16 _ _ (Nat.lt_succ_self _) ⟨(w64 (y14 + x36)), (w64 (y15 + 1)), hm, hs.sub ⟨rfl, rfl, rfl, rfl, trivial⟩⟩
    ·replace hm := oc_f hg17 hm
     refine W_exit ?_
     refine hB6 _ _ ?_
     exact ⟨y14, hm, hs.subs ⟨rfl, trivial⟩ (.cons _ (.refl _))⟩
   ·refine W_region ?_
    refine sy (v := .int .i64 (y15)) hs (y_move rfl) ?_; clear hs; (try clear a w); intro a w hs
    refine sy (v := .pointer (some ⟨b11, 3, none⟩)) hs (y_fieldAddr rfl (FO.of (off := 3) Try.underlying35 rfl rfl ti33 (by decide))) ?_; clear hs; (try clear a w); intro a w hs
    refine sy (v := v6) hs (y_ld rfl Try.underlying33 rfl (Cell.blk (.head _) rfl)) ?_; clear hs; (try clear a w); intro a w hs
    refine sy hs (y_lenW hR8 hW9 rfl Try.underlying33) ?_; clear hs; (try clear a w); intro a w hs
    refine sy hs (y_lss rfl rfl) ?_; clear hs; (try clear a w); intro a w hs
    refine sy (v := .bool (decide (y15 < (p0.Kids.length : Int)))) hs (y_move rfl) ?_; clear hs; (try clear a w); intro a w hs
    refine St.split hs (t := 12) rfl (fun hg38 hq => ?_) (fun hg38 hq => ?_)
    ·clear hs; have hs := hq; clear hq
     refine syg (v := .int .i64 (y14)) hs (y_move rfl) ?_; clear hs; (try clear a w); intro a w hs
     refine syg hs (y_lss rfl rfl) ?_; clear hs; (try clear a w); intro a w hs
     refine sy (v := .bool (decide (y14 < 2000))) hs (y_pick rfl rfl) ?_; clear hs; (try clear a w); intro a w hs
     refine RL_nil ?_
     exact hs.sub ⟨rfl, rfl, rfl, rfl, (lkB (((and_t hg38).trans rfl)) rfl), trivial⟩
    ·clear hs; have hs := hq; clear hq
     refine sno hs ?_; clear hs; (try clear a w); intro a w hs
     refine sno hs ?_; clear hs; (try clear a w); intro a w hs
     refine sy (v := .bool (false)) hs (y_pick rfl rfl) ?_; clear hs; (try clear a w); intro a w hs
     refine RL_nil ?_
     exact hs.sub ⟨rfl, rfl, rfl, rfl, (lkB (((and_f hg38).trans rfl)) rfl), trivial⟩
theorem law5_deep_ok : ∀ (n : Nat) {f : Fz} {p0 : dom_Part} {a0 : List Value} {p1 : Int} {res : Int} (_h0 : t_dom_Part.R f a0 p0) (_ : law5_deep n p0 p1 = some res), Gives Try.prog 15 [.agg a0.toArray, .int .i64 p1] f (.int .i64 res)
  | 0, f, p0, a0, p1, res, h0, hm => by simp [law5_deep] at hm
  | n + 1, f, p0, a0, p1, res, h0, hm => law5_deep_bok n (law5_deep_ok n) h0 hm
/-! casement/casementlaw5.plain -/
def law5_plain_k1 (p0 : dom_Part) (y26 : (List ref5_Part)) : Option ref5_Part :=
  some ({Name := p0.Name, Text := p0.Text, Attrs := p0.Attrs, Kids := y26} : ref5_Part)
def law5_plain_l2 (p0 : dom_Part) (slf : dom_Part → Option ref5_Part) : Nat → (List ref5_Part) → Int → Option ref5_Part
  | 0, _, _ => none
  | k48 + 1, y38, y43 =>
  (bif (decide (y43 < (p0.Kids.length : Int))) then (geti p0.Kids y43).bind fun x51 =>
  (slf x51).bind fun x68 =>
  (appM 80 y38 [x68]).bind fun x99 =>
  (law5_plain_l2 p0 slf k48) x99 (w64 (y43 + 1)) else
  law5_plain_k1 p0 y38)
def law5_plain_b (slf : dom_Part → Option ref5_Part) (n : Nat) (p0 : dom_Part) : Option ref5_Part :=
  law5_plain_l2 p0 slf n ([] : List ref5_Part) 0
def law5_plain : Nat → dom_Part → Option ref5_Part
  | 0, _ => none
  | n + 1, p0 => law5_plain_b (law5_plain n) n p0
theorem law5_plain_bok {slf : dom_Part → Option ref5_Part} (n : Nat) (slf_ok : ∀ {f : Fz} {p0 : dom_Part} {a0 : List Value} {res : ref5_Part} (_ : t_dom_Part.R f a0 p0) (_ : slf p0 = some res), Does Try.prog 18 [.agg a0.toArray] f [] (fun r f' L' => ∃ (u0 : List Value), L' = [] ∧ r = .agg u0.toArray ∧ t_ref5_Part.R f' u0 res)) {f : Fz} {p0 : dom_Part} {a0 : List Value} {res : ref5_Part} (h0 : t_dom_Part.R f a0 p0) (hm : law5_plain_b slf n p0 = some res) : Does Try.prog 18 [.agg a0.toArray] f [] (fun r f' L' => ∃ (u0 : List Value), L' = [] ∧ r = .agg u0.toArray ∧ t_ref5_Part.R f' u0 res) := by
 unfold law5_plain_b at hm
 intro w0 L w hC
 obtain ⟨v1, v6, rfl, ⟨rw2, hR3, hW4⟩, ⟨rw7, hR8, hW9⟩⟩ := R_dom_Part.ex h0
 refine enter Try.func18 rfl Try.ntmps18 (by simp) hC fun a hs => ?_
 have hle := Fz.le.refl f
 refine W_seq fun K1 hK1 => ?_
 refine W_region ?_
 refine sbox hs rfl ?_; clear hs; (try clear a w); intro b11 a w hs
 replace hs : St _ _ _ (.blk b11 (.cells #[.string (p0.Name), .string (p0.Text), v1, v6] 35 (0, 0)) :: L) _ _ _ := hs
 refine RL_alloc hs ti43 (.free rfl) (by decide) ?_; clear hs; (try clear a w); intro b13 a w hs
 replace hs : St _ _ _ (.blk b13 (.cells #[.string ((bs [])), .string ((bs [])), (.slice none 0 0), (.slice none 0 0)] 43 (0, 0)) :: .blk b11 (.cells #[.string (p0.Name), .string (p0.Text), v1, v6] 35 (0, 0)) :: L) _ _ _ := hs
 refine RL_nil ?_
 refine hK1 _ _ ?_; clear hK1
 refine W_seq fun K2 hK2 => ?_
 refine W_region ?_
 refine sy (v := .pointer (some ⟨b11, 0, none⟩)) hs (y_fieldAddr rfl (FO.of (off := 0) Try.underlying35 rfl rfl ti9 (by decide))) ?_; clear hs; (try clear a w); intro a w hs
 refine sy (v := .string (p0.Name)) hs (y_ld rfl Try.underlying9 rfl (Cell.blk (.tail _ (.head _)) rfl)) ?_; clear hs; (try clear a w); intro a w hs
 refine sy (v := .pointer (some ⟨b11, 1, none⟩)) hs (y_fieldAddr rfl (FO.of (off := 1) Try.underlying35 rfl rfl ti9 (by decide))) ?_; clear hs; (try clear a w); intro a w hs
 refine sy (v := .string (p0.Text)) hs (y_ld rfl Try.underlying9 rfl (Cell.blk (.tail _ (.head _)) rfl)) ?_; clear hs; (try clear a w); intro a w hs
 refine sy (v := .pointer (some ⟨b11, 2, none⟩)) hs (y_fieldAddr rfl (FO.of (off := 2) Try.underlying35 rfl rfl ti32 (by decide))) ?_; clear hs; (try clear a w); intro a w hs
 refine sy (v := v1) hs (y_ld rfl Try.underlying32 rfl (Cell.blk (.tail _ (.head _)) rfl)) ?_; clear hs; (try clear a w); intro a w hs
 refine sy hs (y_buildS (places := [(0, 1), (1, 1), (2, 1), (3, 1)]) (cs := [.string (p0.Name), .string (p0.Text), v1, (.slice none 0 0)]) rfl Try.underlying43 ti43 (by kernel_rfl) (by decide) rfl ⟨rfl, rfl, hR3.one, trivial⟩) ?_; clear hs; (try clear a w); intro a w hs
 refine RL_alloc hs ti43 (.free rfl) (by decide) ?_; clear hs; (try clear a w); intro b19 a w hs
 replace hs : St _ _ _ (.blk b19 (.cells #[.string ((bs [])), .string ((bs [])), (.slice none 0 0), (.slice none 0 0)] 43 (0, 0)) :: .blk b13 (.cells #[.string ((bs [])), .string ((bs [])), (.slice none 0 0), (.slice none 0 0)] 43 (0, 0)) :: .blk b11 (.cells #[.string (p0.Name), .string (p0.Text), v1, v6] 35 (0, 0)) :: L) _ _ _ := hs
 refine RL_storeAll (i := 0) hs rfl rfl rfl ti43 ⟨rfl, rfl⟩ (AllC.arr (r := [.string (p0.Name), .string (p0.Text), v1, (.slice none 0 0)]) ⟨rfl, rfl, hR3.one, rfl, trivial⟩) (.free rfl) ?_; clear hs; (try clear a w); intro a w hs
 replace hs : St _ _ _ (.blk b19 (.cells #[.string (p0.Name), .string (p0.Text), v1, (.slice none 0 0)] 43 (0, 0)) :: .blk b13 (.cells #[.string ((bs [])), .string ((bs [])), (.slice none 0 0), (.slice none 0 0)] 43 (0, 0)) :: .blk b11 (.cells #[.string (p0.Name), .string (p0.Text), v1, v6] 35 (0, 0)) :: L) _ _ _ := hs
 refine RL_nil ?_
 refine hK2 _ _ ?_; clear hK2
 refine W_seq fun K3 hK3 => ?_
 refine W_seq fun K4 hK4 => ?_
 refine W_region ?_
 refine sy (v := .int .i64 (0)) hs (y_assign rfl) ?_; clear hs; (try clear a w); intro a w hs
 refine RL_nil ?_
 refine hK4 _ _ ?_; clear hK4
 have hbase31 := Fz.le.refl f
 refine W_post (fun a w => ∃ (f23 : Fz) (y26 : (List ref5_Part)) (v27 : Value) (rw28 : List (List Value)), Fz.le f f23 ∧ law5_plain_k1 p0 y26 = some res ∧ RW t_ref5_Part f23 rw28 y26 ∧ St 31 w0 f23 (.row v27 43 4 rw28 :: .blk b19 (.cells #[.string (p0.Name), .string (p0.Text), v1, v27] 43 (0, 0)) :: .blk b13 (.cells #[.string ((bs [])), .string ((bs [])), (.slice none 0 0), (.slice none 0 0)] 43 (0, 0)) :: L) [(2, .pointer (some ⟨b13, 0, none⟩)), (3, .pointer (some ⟨b19, 0, none⟩))] a w) ?_ ?_
 ·clear hs hm
  clear hbase31
  rintro a w ⟨f23, y26, v27, rw28, hl24, hm, hW29, hs⟩
  replace hR3 := hR3.le hl24
  replace hW4 := hW4.le hl24
  replace hR8 := hR8.le hl24
  replace hW9 := hW9.le hl24
  replace hle := hle.trans hl24
  replace hs : St _ _ _ (.row v27 43 4 rw28 :: .blk b19 (.cells #[.string (p0.Name), .string (p0.Text), v1, v27] 43 (0, 0)) :: .blk b13 (.cells #[.string ((bs [])), .string ((bs [])), (.slice none 0 0), (.slice none 0 0)] 43 (0, 0)) :: L) _ _ _ := hs
  unfold law5_plain_k1 at hm
  refine hK3 _ _ ?_; clear hK3
  refine W_seq fun K5 hK5 => ?_
  refine W_region ?_
  refine sy hs (y_ldB rfl Try.underlying43 rfl ti43 (.tail _ (.head _)) rfl) ?_; clear hs; (try clear a w); intro a w hs
  refine RL_storeAll (i := 2) hs rfl rfl rfl ti43 ⟨rfl, rfl⟩ (AllC.arr (r := [.string (p0.Name), .string (p0.Text), v1, v27]) ⟨rfl, rfl, hR3.one, (hs.one (i := 0) rfl), trivial⟩) (.free rfl) ?_; clear hs; (try clear a w); intro a w hs
  replace hs : St _ _ _ (.row v27 43 4 rw28 :: .blk b19 (.cells #[.string (p0.Name), .string (p0.Text), v1, v27] 43 (0, 0)) :: .blk b13 (.cells #[.string (p0.Name), .string (p0.Text), v1, v27] 43 (0, 0)) :: L) _ _ _ := hs
  refine RL_nil ?_
  refine hK5 _ _ ?_; clear hK5
  refine W_ret ?_
  obtain ⟨f32, hf33, hs2, hR34⟩ := hs.frzAt 0 rfl
  clear hs; have hs := hs2; clear hs2
  replace hR3 := hR3.le hf33
  replace hW4 := hW4.le hf33
  replace hW29 := hW29.le hf33
  replace hle := hle.trans hf33
  replace hs : St _ _ _ (.blk b19 (.cells #[.string (p0.Name), .string (p0.Text), v1, v27] 43 (0, 0)) :: .blk b13 (.cells #[.string (p0.Name), .string (p0.Text), v1, v27] 43 (0, 0)) :: L) _ _ _ := hs
  obtain rfl := Option.some.inj hm
  refine RtV1 hs rfl (rv_a hs rfl Try.underlying43 rfl ti43 (fun j u hj => Cell.blk (.tail _ (.head _)) hj) rfl) ?_
  exact ⟨_, f32, [], rfl, hle, (hs.subL (.cons _ (.cons _ (.refl _)))).cw, [.string (p0.Name), .string (p0.Text), v1, v27], rfl, rfl, R_ref5_Part.of (x := ({Name := p0.Name, Text := p0.Text, Attrs := p0.Attrs, Kids := y26} : ref5_Part)) ⟨rw2, hR3, hW4⟩ ⟨rw28, hR34, hW29⟩⟩
 ·refine W_block fun Qe6 hB6 hO6 => ?_
  have hbase := Fz.le.refl f
  replace hs := hs.nilRow 43 4
  have hW44 : RW t_ref5_Part f [] ([] : List ref5_Part) := trivial
  generalize hgrw45 : ([] : List (List Value)) = rw45 at hs hW44; clear hgrw45
  replace hs : St _ _ _ (.row (.slice none 0 0) 43 4 rw45 :: .blk b19 (.cells #[.string (p0.Name), .string (p0.Text), v1, (.slice none 0 0)] 43 (0, 0)) :: .blk b13 (.cells #[.string ((bs [])), .string ((bs [])), (.slice none 0 0), (.slice none 0 0)] 43 (0, 0)) :: .blk b11 (.cells #[.string (p0.Name), .string (p0.Text), v1, v6] 35 (0, 0)) :: L) _ _ _ := hs
  replace hs : St _ _ _ (.row (.slice none 0 0) 43 4 rw45 :: .blk b19 (.cells #[.string (p0.Name), .string (p0.Text), v1, (.slice none 0 0)] 43 (0, 0)) :: .blk b13 (.cells #[.string ((bs [])), .string ((bs [])), (.slice none 0 0), (.slice none 0 0)] 43 (0, 0)) :: .blk b11 (.cells #[.string (p0.Name), .string (p0.Text), v1, v6] 35 (0, 0)) :: L) _ _ _ := hs
  refine W_loop (fun (k : Nat) a w => ∃ (f35 : Fz) (y38 : (List ref5_Part)) (y43 : Int) (v39 : Value) (rw40 : List (List Value)), Fz.le f f35 ∧ law5_plain_l2 p0 slf k y38 y43 = some res ∧ RW t_ref5_Part f35 rw40 y38 ∧ St 31 w0 f35 (.row v39 43 4 rw40 :: .blk b19 (.cells #[.string (p0.Name), .string (p0.Text), v1, v39] 43 (0, 0)) :: .blk b13 (.cells #[.string ((bs [])), .string ((bs [])), (.slice none 0 0), (.slice none 0 0)] 43 (0, 0)) :: .blk b11 (.cells #[.string (p0.Name), .string (p0.Text), v1, v6] 35 (0, 0)) :: L) [(1, .pointer (some ⟨b11, 0, none⟩)), (2, .pointer (some ⟨b13, 0, none⟩)), (3, .pointer (some ⟨b19, 0, none⟩)), (4, .int .i64 (y43))] a w) (fun k => k) n ⟨_, ([] : List ref5_Part), 0, (.slice none 0 0), rw45, (Fz.le.refl _), hm, hW44, hs.sub ⟨rfl, rfl, rfl, rfl, trivial⟩⟩ ?_
  clear hs hm
  intro k
  rintro a w ⟨f35, y38, y43, v39, rw40, hl36, hm, hW41, hs⟩
  replace hR3 := hR3.le hl36
  replace hW4 := hW4.le hl36
  replace hR8 := hR8.le hl36
  replace hW9 := hW9.le hl36
  replace hle := hle.trans hl36
  replace hbase31 := hbase31.trans hl36
  replace hs : St _ _ _ (.row v39 43 4 rw40 :: .blk b19 (.cells #[.string (p0.Name), .string (p0.Text), v1, v39] 43 (0, 0)) :: .blk b13 (.cells #[.string ((bs [])), .string ((bs [])), (.slice none 0 0), (.slice none 0 0)] 43 (0, 0)) :: .blk b11 (.cells #[.string (p0.Name), .string (p0.Text), v1, v6] 35 (0, 0)) :: L) _ _ _ := hs
  intro K7 hK7
  cases k with
  | zero => simp [law5_plain_l2] at hm
  | succ k48 =>
   rw [law5_plain_l2] at hm
   have hbase49 := hl36
   refine W_seq fun K8 hK8 => ?_
   refine W_seq fun K9 hK9 => ?_
   refine W_region ?_
   refine sy (v := .int .i64 (y43)) hs (y_move rfl) ?_; clear hs; (try clear a w); intro a w hs
   refine sy (v := .pointer (some ⟨b11, 3, none⟩)) hs (y_fieldAddr rfl (FO.of (off := 3) Try.underlying35 rfl rfl ti33 (by decide))) ?_; clear hs; (try clear a w); intro a w hs
   refine sy (v := v6) hs (y_ld rfl Try.underlying33 rfl (Cell.blk (.tail _ (.tail _ (.tail _ (.head _)))) rfl)) ?_; clear hs; (try clear a w); intro a w hs
   refine sy hs (y_lenW hR8 hW9 rfl Try.underlying33) ?_; clear hs; (try clear a w); intro a w hs
   refine sy hs (y_lss rfl rfl) ?_; clear hs; (try clear a w); intro a w hs
   refine RL_nil ?_
   refine hK9 _ _ ?_; clear hK9
   refine W_cond hs rfl (fun hg50 => ?_) (fun hg50 => ?_)
   ·replace hm := oc_t hg50 hm
    refine W_skip ?_
    refine hK8 _ _ ?_; clear hK8
    refine W_seq fun K10 hK10 => ?_
    refine W_block fun Qe11 hB11 hO11 => ?_
    have hsD := hs.subL (L' := .blk b19 (.cells #[.string (p0.Name), .string (p0.Text), v1, v39] 43 (0, 0)) :: .blk b11 (.cells #[.string (p0.Name), .string (p0.Text), v1, v6] 35 (0, 0)) :: []) (.cons _ (.cons_cons _ (.cons _ (.cons_cons _ (List.nil_sublist _)))))
    refine T_start hs (.blk b19 (.cells #[.string (p0.Name), .string (p0.Text), v1, v39] 43 (0, 0)) :: .blk b11 (.cells #[.string (p0.Name), .string (p0.Text), v1, v6] 35 (0, 0)) :: []) [11] (.look 0 (.look 1 (.look 2 (.look 3 (.look 4 (.look 5 (.look 6 (.any [7] (fun _ => .any [8] (fun _ => .any [9] (fun _ => .look 10 (.any [11] (fun _ => .done))))))))))))) mixed (by kernel_rfl) ?_; clear hs; (try clear a w); intro a he
    refine uy (v := .pointer (some ⟨b19, 3, none⟩)) 0 he rfl (y_fieldAddr rfl (FO.of (off := 3) Try.underlying43 rfl rfl ti41 (by decide))) ?_; clear he; (try clear a); intro a he
    refine uy (v := v39) 1 he rfl (y_ld rfl Try.underlying41 rfl (Cell.blk (.head _) rfl)) ?_; clear he; (try clear a); intro a he
    refine uy (v := .pointer (some ⟨b11, 3, none⟩)) 2 he rfl (y_fieldAddr rfl (FO.of (off := 3) Try.underlying35 rfl rfl ti33 (by decide))) ?_; clear he; (try clear a); intro a he
    refine uy (v := v6) 3 he rfl (y_ld rfl Try.underlying33 rfl (Cell.blk (.tail _ (.head _)) rfl)) ?_; clear he; (try clear a); intro a he
    refine uy (v := .int .i64 (y43)) 4 he rfl (y_move rfl) ?_; clear he; (try clear a); intro a he
    obtain ⟨x51, hx52, hm⟩ := ob hm
    obtain ⟨r53, hr54, hq55, hi56, hb57⟩ := hW9.geti hx52
    obtain ⟨v58, v63, rfl, ⟨rw59, hR60, hW61⟩, ⟨rw64, hR65, hW66⟩⟩ := R_dom_Part.ex hq55
    refine uy 5 he rfl (y_indexAddr hR8 rfl rfl hi56 hb57 Try.underlying33 ti35) ?_; clear he; (try clear a); intro a he
    refine uy 6 he rfl (y_loadRow hR8.up rfl hr54 Try.underlying35 rfl ti35) ?_; clear he; (try clear a); intro a he
    refine T_any1 he rfl ?_; clear he; (try clear a); intro a w hs
    obtain ⟨x68, hx69, hm⟩ := ob hm
    refine RL_callV hs rfl has18 rfl (slf_ok (f := f35) (a0 := [.string (x51.Name), .string (x51.Text), v58, v63]) (R_dom_Part.of (x := x51) ⟨rw59, hR60, hW61⟩ ⟨rw64, hR65, hW66⟩) hx69) ?_; clear hs; (try clear a w)
    rintro _ f70 _ a w hf71 ⟨r72, rfl, rfl, hq73⟩ hs
    have hR74 := hR3.le hf71
    have hW75 := hW4.le hf71
    have hR76 := hR8.le hf71
    have hW77 := hW9.le hf71
    have hW78 := hW41.le hf71
    have hR79 := hR60.le hf71
    have hW80 := hW61.le hf71
    have hR81 := hR65.le hf71
    have hW82 := hW66.le hf71
    replace hle := hle.trans hf71
    replace hbase31 := hbase31.trans hf71
    replace hbase49 := hbase49.trans hf71
    obtain ⟨v83, v88, rfl, ⟨rw84, hR85, hW86⟩, ⟨rw89, hR90, hW91⟩⟩ := R_ref5_Part.ex hq73
    replace hs : St _ _ _ (.row v39 43 4 rw40 :: .blk b19 (.cells #[.string (p0.Name), .string (p0.Text), v1, v39] 43 (0, 0)) :: .blk b13 (.cells #[.string ((bs [])), .string ((bs [])), (.slice none 0 0), (.slice none 0 0)] 43 (0, 0)) :: .blk b11 (.cells #[.string (p0.Name), .string (p0.Text), v1, v6] 35 (0, 0)) :: L) _ _ _ := hs
    refine uon hs ?_; clear hs; (try clear a w); intro a he
    refine T_any1 he rfl ?_; clear he; (try clear a); intro a w hs
    refine RL_bs1a hs rfl Try.underlying41 ti43 (by decide) (AllC.row ⟨rfl, rfl, hR85.one, hR90.one, trivial⟩ rfl) ?_; clear hs; (try clear a w); intro v93 a w hs
    have hW94 : RW t_ref5_Part f70 [[.string (x68.Name), .string (x68.Text), v83, v88]] [x68] := RW.single (R_ref5_Part.of (x := x68) ⟨rw84, hR85, hW86⟩ ⟨rw89, hR90, hW91⟩)
    generalize hgrw95 : ([[.string (x68.Name), .string (x68.Text), v83, v88]] : List (List Value)) = rw95 at hs hW94; clear hgrw95
    replace hs : St _ _ _ (.row v93 43 4 rw95 :: .row v39 43 4 rw40 :: .blk b19 (.cells #[.string (p0.Name), .string (p0.Text), v1, v39] 43 (0, 0)) :: .blk b13 (.cells #[.string ((bs [])), .string ((bs [])), (.slice none 0 0), (.slice none 0 0)] 43 (0, 0)) :: .blk b11 (.cells #[.string (p0.Name), .string (p0.Text), v1, v6] 35 (0, 0)) :: L) _ _ _ := hs
    have ho98 : v93.oneCell' = true := hs.one (i := 0) rfl
    refine uon hs ?_; clear hs; (try clear a w); intro a he
    refine T_any1 he rfl ?_; clear he; (try clear a); intro a w hs
    obtain ⟨x99, hx100, hm⟩ := ob hm
    obtain ⟨hbx99, hex99⟩ := appM_some hx100
    have hW103 := hW78.append hW94; rw [hex99] at hW103
    refine RL_append (i := 1) hs rfl rfl rfl (Rd.st hs (.head _)) Try.underlying41 ti43 (by decide) (by rw [RW.len hW78, RW.len hW94]; exact hbx99) (.free rfl) (by decide) ?_; clear hs; (try clear a w); intro v101 a w hs
    generalize hgx99 : rw40 ++ rw95 = rw102 at hs hW103; clear hgx99
    replace hs := hs.erase 0
    replace hs : St _ _ _ (.row v101 43 4 rw102 :: .blk b19 (.cells #[.string (p0.Name), .string (p0.Text), v1, v39] 43 (0, 0)) :: .blk b13 (.cells #[.string ((bs [])), .string ((bs [])), (.slice none 0 0), (.slice none 0 0)] 43 (0, 0)) :: .blk b11 (.cells #[.string (p0.Name), .string (p0.Text), v1, v6] 35 (0, 0)) :: L) _ _ _ := hs
    have ho105 : v101.oneCell' = true := hs.one (i := 0) rfl
    refine uon hs ?_; clear hs; (try clear a w); intro a he
    refine uy (v := .pointer (some ⟨b19, 3, none⟩)) 10 he rfl (y_fieldAddr rfl (FO.of (off := 3) Try.underlying43 rfl rfl ti41 (by decide))) ?_; clear he; (try clear a); intro a he
    refine T_any1 he rfl ?_; clear he; (try clear a); intro a w hs
    refine sstore 1 hs rfl rfl rfl ti41 ho105 ?_; clear hs; (try clear a w); intro a w hs
    replace hs : St _ _ _ (.row v101 43 4 rw102 :: .blk b19 (.cells #[.string (p0.Name), .string (p0.Text), v1, v101] 43 (0, 0)) :: .blk b13 (.cells #[.string ((bs [])), .string ((bs [])), (.slice none 0 0), (.slice none 0 0)] 43 (0, 0)) :: .blk b11 (.cells #[.string (p0.Name), .string (p0.Text), v1, v6] 35 (0, 0)) :: L) _ _ _ := hs
    refine uend hs ?_; clear hs; (try clear a w); intro a he
    refine T_nil he ?_; clear he; (try clear a); intro w hs; try clear hsD
    refine hK10 _ _ ?_; clear hK10
    refine W_region ?_
    refine sy (v := .int .i64 (y43)) hs (y_move rfl) ?_; clear hs; (try clear a w); intro a w hs
    refine sy hs (y_add rfl rfl rfl) ?_; clear hs; (try clear a w); intro a w hs
    refine sy (v := .int .i64 ((w64 (y43 + 1)))) hs (y_assign rfl) ?_; clear hs; (try clear a w); intro a w hs
    refine RL_nil ?_
    exact hK7 k48 _ _ (Nat.lt_succ_self _) ⟨_, x99, (w64 (y43 + 1)), v101, rw102, hbase49, hm, hW103, hs.sub ⟨rfl, rfl, rfl, rfl, trivial⟩⟩
   ·replace hm := oc_f hg50 hm
    refine W_exit ?_
    refine hB6 _ _ ?_
    exact ⟨_, y38, v39, rw40, hbase31, hm, hW41, hs.subs ⟨rfl, rfl, trivial⟩ (.cons_cons _ (.cons_cons _ (.cons_cons _ (.cons _ (.refl _)))))⟩
theorem law5_plain_ok : ∀ (n : Nat) {f : Fz} {p0 : dom_Part} {a0 : List Value} {res : ref5_Part} (_h0 : t_dom_Part.R f a0 p0) (_ : law5_plain n p0 = some res), Does Try.prog 18 [.agg a0.toArray] f [] (fun r f' L' => ∃ (u0 : List Value), L' = [] ∧ r = .agg u0.toArray ∧ t_ref5_Part.R f' u0 res)
  | 0, f, p0, a0, res, h0, hm => by simp [law5_plain] at hm
  | n + 1, f, p0, a0, res, h0, hm => law5_plain_bok n (law5_plain_ok n) h0 hm
/-! casement/casementlaw5.same -/
def law5_same_k2 : Option Bool :=
  some true
def law5_same_l3 (p0 : dom_Part) (p1 : dom_Part) (slf : dom_Part → dom_Part → Option Bool) : Nat → Int → Option Bool
  | 0, _ => none
  | k28 + 1, y27 =>
  (bif (decide (y27 < (p0.Kids.length : Int))) then (geti p0.Kids y27).bind fun x30 =>
  (geti p1.Kids y27).bind fun x47 =>
  (slf x30 x47).bind fun x64 =>
  (bif (!x64) then some false else
  (law5_same_l3 p0 p1 slf k28) (w64 (y27 + 1))) else
  law5_same_k2)
def law5_same_k1 (n : Nat) (p0 : dom_Part) (p1 : dom_Part) (slf : dom_Part → dom_Part → Option Bool) (y25 : Bool) : Option Bool :=
  (bif y25 then some false else
  law5_same_l3 p0 p1 slf n 0)
def law5_same_b (slf : dom_Part → dom_Part → Option Bool) (n : Nat) (p0 : dom_Part) (p1 : dom_Part) : Option Bool :=
  (bif (decide (p0.Name ≠ p1.Name)) then law5_same_k1 n p0 p1 slf true else
  (bif (decide (p0.Text ≠ p1.Text)) then law5_same_k1 n p0 p1 slf true else
  (book_Same_api_Attr n p0.Attrs p1.Attrs).bind fun x69 =>
  (bif (!x69) then law5_same_k1 n p0 p1 slf true else
  law5_same_k1 n p0 p1 slf (decide ((p0.Kids.length : Int) ≠ (p1.Kids.length : Int))))))
def law5_same : Nat → dom_Part → dom_Part → Option Bool
  | 0, _, _ => none
  | n + 1, p0, p1 => law5_same_b (law5_same n) n p0 p1
theorem law5_same_bok {slf : dom_Part → dom_Part → Option Bool} (n : Nat) (slf_ok : ∀ {f : Fz} {p0 : dom_Part} {a0 : List Value} {p1 : dom_Part} {a1 : List Value} {res : Bool} (_ : t_dom_Part.R f a0 p0) (_ : t_dom_Part.R f a1 p1) (_ : slf p0 p1 = some res), Gives Try.prog 20 [.agg a0.toArray, .agg a1.toArray] f (.bool res)) {f : Fz} {p0 : dom_Part} {a0 : List Value} {p1 : dom_Part} {a1 : List Value} {res : Bool} (h0 : t_dom_Part.R f a0 p0) (h1 : t_dom_Part.R f a1 p1) (hm : law5_same_b slf n p0 p1 = some res) : Gives Try.prog 20 [.agg a0.toArray, .agg a1.toArray] f (.bool res) := by
 unfold law5_same_b at hm
 intro w0 L w hC
 obtain ⟨v1, v6, rfl, ⟨rw2, hR3, hW4⟩, ⟨rw7, hR8, hW9⟩⟩ := R_dom_Part.ex h0
 obtain ⟨v11, v16, rfl, ⟨rw12, hR13, hW14⟩, ⟨rw17, hR18, hW19⟩⟩ := R_dom_Part.ex h1
 refine enter Try.func20 rfl Try.ntmps20 (by simp) hC fun a hs => ?_
 have hle := Fz.le.refl f
 refine W_seq fun K1 hK1 => ?_
 refine W_region ?_
 refine sbox hs rfl ?_; clear hs; (try clear a w); intro b21 a w hs
 replace hs : St _ _ _ (.blk b21 (.cells #[.string (p0.Name), .string (p0.Text), v1, v6] 35 (0, 0)) :: L) _ _ _ := hs
 refine sbox hs rfl ?_; clear hs; (try clear a w); intro b23 a w hs
 replace hs : St _ _ _ (.blk b23 (.cells #[.string (p1.Name), .string (p1.Text), v11, v16] 35 (0, 0)) :: .blk b21 (.cells #[.string (p0.Name), .string (p0.Text), v1, v6] 35 (0, 0)) :: L) _ _ _ := hs
 refine sy (v := .bool (false)) hs (y_assign rfl) ?_; clear hs; (try clear a w); intro a w hs
 refine RL_nil ?_
 refine hK1 _ _ ?_; clear hK1
 refine W_seq fun K2 hK2 => ?_
 refine W_seq fun K3 hK3 => ?_
 refine W_post (fun a w => ∃ (y25 : Bool), law5_same_k1 n p0 p1 slf y25 = some res ∧ St 54 w0 f (.blk b23 (.cells #[.string (p1.Name), .string (p1.Text), v11, v16] 35 (0, 0)) :: .blk b21 (.cells #[.string (p0.Name), .string (p0.Text), v1, v6] 35 (0, 0)) :: L) [(2, .pointer (some ⟨b21, 0, none⟩)), (3, .pointer (some ⟨b23, 0, none⟩)), (34, .bool (y25))] a w) ?_ ?_
 ·clear hs hm
  rintro a w ⟨y25, hm, hs⟩
  replace hs : St _ _ _ (.blk b23 (.cells #[.string (p1.Name), .string (p1.Text), v11, v16] 35 (0, 0)) :: .blk b21 (.cells #[.string (p0.Name), .string (p0.Text), v1, v6] 35 (0, 0)) :: L) _ _ _ := hs
  unfold law5_same_k1 at hm
  refine hK3 _ _ ?_; clear hK3
  refine W_cond hs rfl (fun hg26 => ?_) (fun hg26 => ?_)
  ·replace hm := oc_t hg26 hm
   refine W_seq fun K4 hK4 => ?_
   refine W_region ?_
   refine sy (v := .bool (false)) hs (y_assign rfl) ?_; clear hs; (try clear a w); intro a w hs
   refine RL_nil ?_
   refine hK4 _ _ ?_; clear hK4
   refine W_ret ?_
   obtain rfl := Option.some.inj hm
   refine RtV1 hs rfl (rv_t hs rfl) ?_
   exact ⟨rfl, ((hs.subL (.cons _ (.cons _ (.refl _)))).weak hle).cw⟩
  ·replace hm := oc_f hg26 hm
   refine W_skip ?_
   refine hK2 _ _ ?_; clear hK2
   refine W_seq fun K5 hK5 => ?_
   refine W_seq fun K6 hK6 => ?_
   refine W_region ?_
   refine sy (v := .int .i64 (0)) hs (y_assign rfl) ?_; clear hs; (try clear a w); intro a w hs
   refine RL_nil ?_
   refine hK6 _ _ ?_; clear hK6
   refine W_post (fun a w => law5_same_k2 = some res ∧ St 54 w0 f (L) [] a w) ?_ ?_
   ·clear hs hm
    rintro a w ⟨hm, hs⟩
    replace hs : St _ _ _ (L) _ _ _ := hs
    unfold law5_same_k2 at hm
    refine hK5 _ _ ?_; clear hK5
    refine W_seq fun K7 hK7 => ?_
    refine W_region ?_
    refine sy (v := .bool (true)) hs (y_assign rfl) ?_; clear hs; (try clear a w); intro a w hs
    refine RL_nil ?_
    refine hK7 _ _ ?_; clear hK7
    refine W_ret ?_
    obtain rfl := Option.some.inj hm
    refine RtV1 hs rfl (rv_t hs rfl) ?_
    exact ⟨rfl, (hs.weak hle).cw⟩
   ·refine W_block fun Qe8 hB8 hO8 => ?_
    refine W_loop (fun (k : Nat) a w => ∃ (y27 : Int), law5_same_l3 p0 p1 slf k y27 = some res ∧ St 54 w0 f (.blk b23 (.cells #[.string (p1.Name), .string (p1.Text), v11, v16] 35 (0, 0)) :: .blk b21 (.cells #[.string (p0.Name), .string (p0.Text), v1, v6] 35 (0, 0)) :: L) [(2, .pointer (some ⟨b21, 0, none⟩)), (3, .pointer (some ⟨b23, 0, none⟩)), (5, .int .i64 (y27))] a w) (fun k => k) n ⟨0, hm, hs.sub ⟨rfl, rfl, rfl, trivial⟩⟩ ?_
    clear hs hm
    intro k
    rintro a w ⟨y27, hm, hs⟩
    replace hs : St _ _ _ (.blk b23 (.cells #[.string (p1.Name), .string (p1.Text), v11, v16] 35 (0, 0)) :: .blk b21 (.cells #[.string (p0.Name), .string (p0.Text), v1, v6] 35 (0, 0)) :: L) _ _ _ := hs
    intro K9 hK9
    cases k with
    | zero => simp [law5_same_l3] at hm
    | succ k28 =>
     rw [law5_same_l3] at hm
     refine W_seq fun K10 hK10 => ?_
     refine W_seq fun K11 hK11 => ?_
     refine W_region ?_
     refine sy (v := .int .i64 (y27)) hs (y_move rfl) ?_; clear hs; (try clear a w); intro a w hs
     refine sy (v := .pointer (some ⟨b21, 3, none⟩)) hs (y_fieldAddr rfl (FO.of (off := 3) Try.underlying35 rfl rfl ti33 (by decide))) ?_; clear hs; (try clear a w); intro a w hs
     refine sy (v := v6) hs (y_ld rfl Try.underlying33 rfl (Cell.blk (.tail _ (.head _)) rfl)) ?_; clear hs; (try clear a w); intro a w hs
     refine sy hs (y_lenW hR8 hW9 rfl Try.underlying33) ?_; clear hs; (try clear a w); intro a w hs
     refine sy hs (y_lss rfl rfl) ?_; clear hs; (try clear a w); intro a w hs
     refine RL_nil ?_
     refine hK11 _ _ ?_; clear hK11
     refine W_cond hs rfl (fun hg29 => ?_) (fun hg29 => ?_)
     ·replace hm := oc_t hg29 hm
      refine W_skip ?_
      refine hK10 _ _ ?_; clear hK10
      refine W_seq fun K12 hK12 => ?_
      refine W_block fun Qe13 hB13 hO13 => ?_
      refine W_seq fun K14 hK14 => ?_
      refine W_draw hs mixed (by kernel_rfl) ?_; intro a he
      refine qy (v := .pointer (some ⟨b21, 3, none⟩)) he (y_fieldAddr rfl (FO.of (off := 3) Try.underlying35 rfl rfl ti33 (by decide))) ?_; clear he; (try clear a); intro a he
      refine qy (v := v6) he (y_ld rfl Try.underlying33 rfl (Cell.blk (.tail _ (.head _)) rfl)) ?_; clear he; (try clear a); intro a he
      refine qy (v := .int .i64 (y27)) he (y_move rfl) ?_; clear he; (try clear a); intro a he
      obtain ⟨x30, hx31, hm⟩ := ob hm
      obtain ⟨r32, hr33, hq34, hi35, hb36⟩ := hW9.geti hx31
      obtain ⟨v37, v42, rfl, ⟨rw38, hR39, hW40⟩, ⟨rw43, hR44, hW45⟩⟩ := R_dom_Part.ex hq34
      refine qy he (y_indexAddr hR8 rfl rfl hi35 hb36 Try.underlying33 ti35) ?_; clear he; (try clear a); intro a he
      refine qy he (y_loadRow hR8.up rfl hr33 Try.underlying35 rfl ti35) ?_; clear he; (try clear a); intro a he
      refine qy (v := .pointer (some ⟨b23, 3, none⟩)) he (y_fieldAddr rfl (FO.of (off := 3) Try.underlying35 rfl rfl ti33 (by decide))) ?_; clear he; (try clear a); intro a he
      refine qy (v := v16) he (y_ld rfl Try.underlying33 rfl (Cell.blk (.head _) rfl)) ?_; clear he; (try clear a); intro a he
      refine qy (v := .int .i64 (y27)) he (y_move rfl) ?_; clear he; (try clear a); intro a he
      obtain ⟨x47, hx48, hm⟩ := ob hm
      obtain ⟨r49, hr50, hq51, hi52, hb53⟩ := hW19.geti hx48
      obtain ⟨v54, v59, rfl, ⟨rw55, hR56, hW57⟩, ⟨rw60, hR61, hW62⟩⟩ := R_dom_Part.ex hq51
      refine qy he (y_indexAddr hR18 rfl rfl hi52 hb53 Try.underlying33 ti35) ?_; clear he; (try clear a); intro a he
      refine qy he (y_loadRow hR18.up rfl hr50 Try.underlying35 rfl ti35) ?_; clear he; (try clear a); intro a he
      obtain ⟨x64, hx65, hm⟩ := ob hm
      refine qy he (y_call rfl has20 rfl (slf_ok (f := f) (a0 := [.string (x30.Name), .string (x30.Text), v37, v42]) (a1 := [.string (x47.Name), .string (x47.Text), v54, v59]) (R_dom_Part.of (x := x30) ⟨rw38, hR39, hW40⟩ ⟨rw43, hR44, hW45⟩) (R_dom_Part.of (x := x47) ⟨rw55, hR56, hW57⟩ ⟨rw60, hR61, hW62⟩) hx65)) ?_; clear he; (try clear a); intro a he
      refine qy (v := .bool ((!x64))) he (y_not rfl) ?_; clear he; (try clear a); intro a he
      refine QL_nil he ?_; clear he; (try clear hs); (try clear a); intro a w hs
      refine hK14 _ _ ?_; clear hK14
      refine W_cond hs rfl (fun hg66 => ?_) (fun hg66 => ?_)
      ·replace hm := oc_t hg66 hm
       refine W_seq fun K15 hK15 => ?_
       refine W_region ?_
       refine sy (v := .bool (false)) hs (y_assign rfl) ?_; clear hs; (try clear a w); intro a w hs
       refine RL_nil ?_
       refine hK15 _ _ ?_; clear hK15
       refine W_ret ?_
       obtain rfl := Option.some.inj hm
       refine RtV1 hs rfl (rv_t hs rfl) ?_
       exact ⟨rfl, ((hs.subL (.cons _ (.cons _ (.refl _)))).weak hle).cw⟩
      ·replace hm := oc_f hg66 hm
       refine W_skip ?_
       refine hK12 _ _ ?_; clear hK12
       refine W_region ?_
       refine sy (v := .int .i64 (y27)) hs (y_move rfl) ?_; clear hs; (try clear a w); intro a w hs
       refine sy hs (y_add rfl rfl rfl) ?_; clear hs; (try clear a w); intro a w hs
       refine sy (v := .int .i64 ((w64 (y27 + 1)))) hs (y_assign rfl) ?_; clear hs; (try clear a w); intro a w hs
       refine RL_nil ?_
       exact hK9 k28 _ _ (Nat.lt_succ_self _) ⟨(w64 (y27 + 1)), hm, hs.sub ⟨rfl, rfl, rfl, trivial⟩⟩
     ·replace hm := oc_f hg29 hm
      refine W_exit ?_
      refine hB8 _ _ ?_
      exact ⟨hm, hs.subs trivial (.cons _ (.cons _ (.refl _)))⟩
 ·refine W_region ?_
  refine sy (v := .pointer (some ⟨b21, 0, none⟩)) hs (y_fieldAddr rfl (FO.of (off := 0) Try.underlying35 rfl rfl ti9 (by decide))) ?_; clear hs; (try clear a w); intro a w hs
  refine sy (v := .string (p0.Name)) hs (y_ld rfl Try.underlying9 rfl (Cell.blk (.tail _ (.head _)) rfl)) ?_; clear hs; (try clear a w); intro a w hs
  refine sy (v := .pointer (some ⟨b23, 0, none⟩)) hs (y_fieldAddr rfl (FO.of (off := 0) Try.underlying35 rfl rfl ti9 (by decide))) ?_; clear hs; (try clear a w); intro a w hs
  refine sy (v := .string (p1.Name)) hs (y_ld rfl Try.underlying9 rfl (Cell.blk (.head _) rfl)) ?_; clear hs; (try clear a w); intro a w hs
  refine sy hs (y_sneq rfl rfl) ?_; clear hs; (try clear a w); intro a w hs
  refine sy (v := .bool (decide (p0.Name ≠ p1.Name))) hs (y_move rfl) ?_; clear hs; (try clear a w); intro a w hs
  refine St.split hs (t := 11) rfl (fun hg67 hq => ?_) (fun hg67 hq => ?_)
  ·clear hs; have hs := hq; clear hq
   replace hm := oc_t hg67 hm
   refine sno hs ?_; clear hs; (try clear a w); intro a w hs
   refine sno hs ?_; clear hs; (try clear a w); intro a w hs
   refine sno hs ?_; clear hs; (try clear a w); intro a w hs
   refine sno hs ?_; clear hs; (try clear a w); intro a w hs
   refine sno hs ?_; clear hs; (try clear a w); intro a w hs
   refine sy (v := .bool (true)) hs (y_pick rfl rfl) ?_; clear hs; (try clear a w); intro a w hs
   refine sy (v := .bool (true)) hs (y_move rfl) ?_; clear hs; (try clear a w); intro a w hs
   refine sno hs ?_; clear hs; (try clear a w); intro a w hs
   refine sno hs ?_; clear hs; (try clear a w); intro a w hs
   refine sno hs ?_; clear hs; (try clear a w); intro a w hs
   refine sno hs ?_; clear hs; (try clear a w); intro a w hs
   refine sno hs ?_; clear hs; (try clear a w); intro a w hs
   refine sno hs ?_; clear hs; (try clear a w); intro a w hs
   refine sy (v := .bool (true)) hs (y_pick rfl rfl) ?_; clear hs; (try clear a w); intro a w hs
   refine sy (v := .bool (true)) hs (y_move rfl) ?_; clear hs; (try clear a w); intro a w hs
   refine sno hs ?_; clear hs; (try clear a w); intro a w hs
   refine sno hs ?_; clear hs; (try clear a w); intro a w hs
   refine sno hs ?_; clear hs; (try clear a w); intro a w hs
   refine sno hs ?_; clear hs; (try clear a w); intro a w hs
   refine sno hs ?_; clear hs; (try clear a w); intro a w hs
   refine sno hs ?_; clear hs; (try clear a w); intro a w hs
   refine sno hs ?_; clear hs; (try clear a w); intro a w hs
   refine sy (v := .bool (true)) hs (y_pick rfl rfl) ?_; clear hs; (try clear a w); intro a w hs
   refine RL_nil ?_
   exact ⟨true, hm, hs.sub ⟨rfl, rfl, rfl, trivial⟩⟩
  ·clear hs; have hs := hq; clear hq
   replace hm := oc_f hg67 hm
   refine syg (v := .pointer (some ⟨b21, 1, none⟩)) hs (y_fieldAddr rfl (FO.of (off := 1) Try.underlying35 rfl rfl ti9 (by decide))) ?_; clear hs; (try clear a w); intro a w hs
   refine syg (v := .string (p0.Text)) hs (y_ld rfl Try.underlying9 rfl (Cell.blk (.tail _ (.head _)) rfl)) ?_; clear hs; (try clear a w); intro a w hs
   refine syg (v := .pointer (some ⟨b23, 1, none⟩)) hs (y_fieldAddr rfl (FO.of (off := 1) Try.underlying35 rfl rfl ti9 (by decide))) ?_; clear hs; (try clear a w); intro a w hs
   refine syg (v := .string (p1.Text)) hs (y_ld rfl Try.underlying9 rfl (Cell.blk (.head _) rfl)) ?_; clear hs; (try clear a w); intro a w hs
   refine syg hs (y_sneq rfl rfl) ?_; clear hs; (try clear a w); intro a w hs
   refine sy (v := .bool (decide (p0.Text ≠ p1.Text))) hs (y_pick rfl rfl) ?_; clear hs; (try clear a w); intro a w hs
   refine sy (v := .bool (decide (p0.Text ≠ p1.Text))) hs (y_move rfl) ?_; clear hs; (try clear a w); intro a w hs
   refine St.split hs (t := 18) rfl (fun hg68 hq => ?_) (fun hg68 hq => ?_)
   ·clear hs; have hs := hq; clear hq
    replace hm := oc_t hg68 hm
    refine sno hs ?_; clear hs; (try clear a w); intro a w hs
    refine sno hs ?_; clear hs; (try clear a w); intro a w hs
    refine sno hs ?_; clear hs; (try clear a w); intro a w hs
    refine sno hs ?_; clear hs; (try clear a w); intro a w hs
    refine sno hs ?_; clear hs; (try clear a w); intro a w hs
    refine sno hs ?_; clear hs; (try clear a w); intro a w hs
    refine sy (v := .bool (true)) hs (y_pick rfl rfl) ?_; clear hs; (try clear a w); intro a w hs
    refine sy (v := .bool (true)) hs (y_move rfl) ?_; clear hs; (try clear a w); intro a w hs
    refine sno hs ?_; clear hs; (try clear a w); intro a w hs
    refine sno hs ?_; clear hs; (try clear a w); intro a w hs
    refine sno hs ?_; clear hs; (try clear a w); intro a w hs
    refine sno hs ?_; clear hs; (try clear a w); intro a w hs
    refine sno hs ?_; clear hs; (try clear a w); intro a w hs
    refine sno hs ?_; clear hs; (try clear a w); intro a w hs
    refine sno hs ?_; clear hs; (try clear a w); intro a w hs
    refine sy (v := .bool (true)) hs (y_pick rfl rfl) ?_; clear hs; (try clear a w); intro a w hs
    refine RL_nil ?_
    exact ⟨true, hm, hs.sub ⟨rfl, rfl, rfl, trivial⟩⟩
   ·clear hs; have hs := hq; clear hq
    replace hm := oc_f hg68 hm
    refine syg (v := .pointer (some ⟨b21, 2, none⟩)) hs (y_fieldAddr rfl (FO.of (off := 2) Try.underlying35 rfl rfl ti32 (by decide))) ?_; clear hs; (try clear a w); intro a w hs
    refine syg (v := v1) hs (y_ld rfl Try.underlying32 rfl (Cell.blk (.tail _ (.head _)) rfl)) ?_; clear hs; (try clear a w); intro a w hs
    refine syg (v := .pointer (some ⟨b23, 2, none⟩)) hs (y_fieldAddr rfl (FO.of (off := 2) Try.underlying35 rfl rfl ti32 (by decide))) ?_; clear hs; (try clear a w); intro a w hs
    refine syg (v := v11) hs (y_ld rfl Try.underlying32 rfl (Cell.blk (.head _) rfl)) ?_; clear hs; (try clear a w); intro a w hs
    obtain ⟨x69, hx70, hm⟩ := ob hm
    refine syg hs (y_call rfl has44 rfl (book_Same_api_Attr_ok n (f := f) (a0 := v1) (a1 := v11) ⟨rw2, hR3, hW4⟩ ⟨rw12, hR13, hW14⟩ hx70)) ?_; clear hs; (try clear a w); intro a w hs
    refine syg (v := .bool ((!x69))) hs (y_not rfl) ?_; clear hs; (try clear a w); intro a w hs
    refine sy (v := .bool ((!x69))) hs (y_pick rfl rfl) ?_; clear hs; (try clear a w); intro a w hs
    refine sy (v := .bool ((!x69))) hs (y_move rfl) ?_; clear hs; (try clear a w); intro a w hs
    refine St.split hs (t := 26) rfl (fun hg71 hq => ?_) (fun hg71 hq => ?_)
    ·clear hs; have hs := hq; clear hq
     replace hm := oc_t hg71 hm
     refine sno hs ?_; clear hs; (try clear a w); intro a w hs
     refine sno hs ?_; clear hs; (try clear a w); intro a w hs
     refine sno hs ?_; clear hs; (try clear a w); intro a w hs
     refine sno hs ?_; clear hs; (try clear a w); intro a w hs
     refine sno hs ?_; clear hs; (try clear a w); intro a w hs
     refine sno hs ?_; clear hs; (try clear a w); intro a w hs
     refine sno hs ?_; clear hs; (try clear a w); intro a w hs
     refine sy (v := .bool (true)) hs (y_pick rfl rfl) ?_; clear hs; (try clear a w); intro a w hs
     refine RL_nil ?_
     exact ⟨true, hm, hs.sub ⟨rfl, rfl, rfl, trivial⟩⟩
    ·clear hs; have hs := hq; clear hq
     replace hm := oc_f hg71 hm
     refine syg (v := .pointer (some ⟨b21, 3, none⟩)) hs (y_fieldAddr rfl (FO.of (off := 3) Try.underlying35 rfl rfl ti33 (by decide))) ?_; clear hs; (try clear a w); intro a w hs
     refine syg (v := v6) hs (y_ld rfl Try.underlying33 rfl (Cell.blk (.tail _ (.head _)) rfl)) ?_; clear hs; (try clear a w); intro a w hs
     refine syg hs (y_lenW hR8 hW9 rfl Try.underlying33) ?_; clear hs; (try clear a w); intro a w hs
     refine syg (v := .pointer (some ⟨b23, 3, none⟩)) hs (y_fieldAddr rfl (FO.of (off := 3) Try.underlying35 rfl rfl ti33 (by decide))) ?_; clear hs; (try clear a w); intro a w hs
     refine syg (v := v16) hs (y_ld rfl Try.underlying33 rfl (Cell.blk (.head _) rfl)) ?_; clear hs; (try clear a w); intro a w hs
     refine syg hs (y_lenW hR18 hW19 rfl Try.underlying33) ?_; clear hs; (try clear a w); intro a w hs
     refine syg hs (y_neq rfl rfl) ?_; clear hs; (try clear a w); intro a w hs
     refine sy (v := .bool (decide ((p0.Kids.length : Int) ≠ (p1.Kids.length : Int)))) hs (y_pick rfl rfl) ?_; clear hs; (try clear a w); intro a w hs
     refine RL_nil ?_
     exact ⟨decide ((p0.Kids.length : Int) ≠ (p1.Kids.length : Int)), hm, hs.sub ⟨rfl, rfl, rfl, trivial⟩⟩
theorem law5_same_ok : ∀ (n : Nat) {f : Fz} {p0 : dom_Part} {a0 : List Value} {p1 : dom_Part} {a1 : List Value} {res : Bool} (_h0 : t_dom_Part.R f a0 p0) (_h1 : t_dom_Part.R f a1 p1) (_ : law5_same n p0 p1 = some res), Gives Try.prog 20 [.agg a0.toArray, .agg a1.toArray] f (.bool res)
  | 0, f, p0, a0, p1, a1, res, h0, h1, hm => by simp [law5_same] at hm
  | n + 1, f, p0, a0, p1, a1, res, h0, h1, hm => law5_same_bok n (law5_same_ok n) h0 h1 hm
/-! casement/casementlaw5.clean -/
def law5_clean_k1 (p0 : dom_Part) (y29 : (List dom_Part)) : Option dom_Part :=
  some ({Name := p0.Name, Text := (bs []), Attrs := p0.Attrs, Kids := y29} : dom_Part)
def law5_clean_l2 (p0 : dom_Part) (slf : dom_Part → Option dom_Part) : Nat → (List dom_Part) → Int → Option dom_Part
  | 0, _, _ => none
  | k51 + 1, y41, y46 =>
  (bif (decide (y46 < (p0.Kids.length : Int))) then (geti p0.Kids y46).bind fun x54 =>
  (slf x54).bind fun x71 =>
  (appM 80 y41 [x71]).bind fun x102 =>
  (law5_clean_l2 p0 slf k51) x102 (w64 (y46 + 1)) else
  law5_clean_k1 p0 y41)
def law5_clean_b (slf : dom_Part → Option dom_Part) (n : Nat) (p0 : dom_Part) : Option dom_Part :=
  (bif (decide (p0.Name = (bs []))) then some ({Name := (bs []), Text := p0.Text, Attrs := ([] : List api_Attr), Kids := ([] : List dom_Part)} : dom_Part) else
  law5_clean_l2 p0 slf n ([] : List dom_Part) 0)
def law5_clean : Nat → dom_Part → Option dom_Part
  | 0, _ => none
  | n + 1, p0 => law5_clean_b (law5_clean n) n p0
theorem law5_clean_bok {slf : dom_Part → Option dom_Part} (n : Nat) (slf_ok : ∀ {f : Fz} {p0 : dom_Part} {a0 : List Value} {res : dom_Part} (_ : t_dom_Part.R f a0 p0) (_ : slf p0 = some res), Does Try.prog 21 [.agg a0.toArray] f [] (fun r f' L' => ∃ (u0 : List Value), L' = [] ∧ r = .agg u0.toArray ∧ t_dom_Part.R f' u0 res)) {f : Fz} {p0 : dom_Part} {a0 : List Value} {res : dom_Part} (h0 : t_dom_Part.R f a0 p0) (hm : law5_clean_b slf n p0 = some res) : Does Try.prog 21 [.agg a0.toArray] f [] (fun r f' L' => ∃ (u0 : List Value), L' = [] ∧ r = .agg u0.toArray ∧ t_dom_Part.R f' u0 res) := by
 unfold law5_clean_b at hm
 intro w0 L w hC
 obtain ⟨v1, v6, rfl, ⟨rw2, hR3, hW4⟩, ⟨rw7, hR8, hW9⟩⟩ := R_dom_Part.ex h0
 refine enter Try.func21 rfl Try.ntmps21 (by simp) hC fun a hs => ?_
 have hle := Fz.le.refl f
 refine W_seq fun K1 hK1 => ?_
 refine W_region ?_
 refine sbox hs rfl ?_; clear hs; (try clear a w); intro b11 a w hs
 replace hs : St _ _ _ (.blk b11 (.cells #[.string (p0.Name), .string (p0.Text), v1, v6] 35 (0, 0)) :: L) _ _ _ := hs
 refine RL_alloc hs ti35 (.free rfl) (by decide) ?_; clear hs; (try clear a w); intro b13 a w hs
 replace hs : St _ _ _ (.blk b13 (.cells #[.string ((bs [])), .string ((bs [])), (.slice none 0 0), (.slice none 0 0)] 35 (0, 0)) :: .blk b11 (.cells #[.string (p0.Name), .string (p0.Text), v1, v6] 35 (0, 0)) :: L) _ _ _ := hs
 refine RL_nil ?_
 refine hK1 _ _ ?_; clear hK1
 refine W_seq fun K2 hK2 => ?_
 refine W_seq fun K3 hK3 => ?_
 refine W_region ?_
 refine sy (v := .pointer (some ⟨b11, 0, none⟩)) hs (y_fieldAddr rfl (FO.of (off := 0) Try.underlying35 rfl rfl ti9 (by decide))) ?_; clear hs; (try clear a w); intro a w hs
 refine sy (v := .string (p0.Name)) hs (y_ld rfl Try.underlying9 rfl (Cell.blk (.tail _ (.head _)) rfl)) ?_; clear hs; (try clear a w); intro a w hs
 refine sy hs (y_seql rfl rfl) ?_; clear hs; (try clear a w); intro a w hs
 refine RL_nil ?_
 refine hK3 _ _ ?_; clear hK3
 refine W_cond hs rfl (fun hg17 => ?_) (fun hg17 => ?_)
 ·replace hm := oc_t hg17 hm
  refine W_seq fun K4 hK4 => ?_
  refine W_region ?_
  refine sy (v := .pointer (some ⟨b11, 1, none⟩)) hs (y_fieldAddr rfl (FO.of (off := 1) Try.underlying35 rfl rfl ti9 (by decide))) ?_; clear hs; (try clear a w); intro a w hs
  refine sy (v := .string (p0.Text)) hs (y_ld rfl Try.underlying9 rfl (Cell.blk (.tail _ (.head _)) rfl)) ?_; clear hs; (try clear a w); intro a w hs
  refine sy hs (y_buildS (places := [(0, 1), (1, 1), (2, 1), (3, 1)]) (cs := [.string ((bs [])), .string (p0.Text), (.slice none 0 0), (.slice none 0 0)]) rfl Try.underlying35 ti35 (by kernel_rfl) (by decide) rfl ⟨rfl, trivial⟩) ?_; clear hs; (try clear a w); intro a w hs
  refine RL_storeAll (i := 0) hs rfl rfl rfl ti35 ⟨rfl, rfl⟩ (AllC.arr (r := [.string ((bs [])), .string (p0.Text), (.slice none 0 0), (.slice none 0 0)]) ⟨rfl, rfl, rfl, rfl, trivial⟩) (.free rfl) ?_; clear hs; (try clear a w); intro a w hs
  replace hs : St _ _ _ (.blk b13 (.cells #[.string ((bs [])), .string (p0.Text), (.slice none 0 0), (.slice none 0 0)] 35 (0, 0)) :: .blk b11 (.cells #[.string (p0.Name), .string (p0.Text), v1, v6] 35 (0, 0)) :: L) _ _ _ := hs
  refine RL_nil ?_
  refine hK4 _ _ ?_; clear hK4
  refine W_ret ?_
  obtain rfl := Option.some.inj hm
  refine RtV1 hs rfl (rv_a hs rfl Try.underlying35 rfl ti35 (fun j u hj => Cell.blk (.head _) hj) rfl) ?_
  exact ⟨_, f, [], rfl, hle, (hs.subL (.cons _ (.cons _ (.refl _)))).cw, [.string ((bs [])), .string (p0.Text), (.slice none 0 0), (.slice none 0 0)], rfl, rfl, R_dom_Part.of (x := ({Name := (bs []), Text := p0.Text, Attrs := ([] : List api_Attr), Kids := ([] : List dom_Part)} : dom_Part)) RS.nil RS.nil⟩
 ·replace hm := oc_f hg17 hm
  refine W_skip ?_
  refine hK2 _ _ ?_; clear hK2
  refine W_seq fun K5 hK5 => ?_
  refine W_region ?_
  refine sy (v := .pointer (some ⟨b11, 0, none⟩)) hs (y_fieldAddr rfl (FO.of (off := 0) Try.underlying35 rfl rfl ti9 (by decide))) ?_; clear hs; (try clear a w); intro a w hs
  refine sy (v := .string (p0.Name)) hs (y_ld rfl Try.underlying9 rfl (Cell.blk (.tail _ (.head _)) rfl)) ?_; clear hs; (try clear a w); intro a w hs
  refine sy (v := .pointer (some ⟨b11, 2, none⟩)) hs (y_fieldAddr rfl (FO.of (off := 2) Try.underlying35 rfl rfl ti32 (by decide))) ?_; clear hs; (try clear a w); intro a w hs
  refine sy (v := v1) hs (y_ld rfl Try.underlying32 rfl (Cell.blk (.tail _ (.head _)) rfl)) ?_; clear hs; (try clear a w); intro a w hs
  refine sy hs (y_buildS (places := [(0, 1), (1, 1), (2, 1), (3, 1)]) (cs := [.string (p0.Name), .string ((bs [])), v1, (.slice none 0 0)]) rfl Try.underlying35 ti35 (by kernel_rfl) (by decide) rfl ⟨rfl, hR3.one, trivial⟩) ?_; clear hs; (try clear a w); intro a w hs
  refine RL_alloc hs ti35 (.free rfl) (by decide) ?_; clear hs; (try clear a w); intro b22 a w hs
  replace hs : St _ _ _ (.blk b22 (.cells #[.string ((bs [])), .string ((bs [])), (.slice none 0 0), (.slice none 0 0)] 35 (0, 0)) :: .blk b13 (.cells #[.string ((bs [])), .string ((bs [])), (.slice none 0 0), (.slice none 0 0)] 35 (0, 0)) :: .blk b11 (.cells #[.string (p0.Name), .string (p0.Text), v1, v6] 35 (0, 0)) :: L) _ _ _ := hs
  refine RL_storeAll (i := 0) hs rfl rfl rfl ti35 ⟨rfl, rfl⟩ (AllC.arr (r := [.string (p0.Name), .string ((bs [])), v1, (.slice none 0 0)]) ⟨rfl, rfl, hR3.one, rfl, trivial⟩) (.free rfl) ?_; clear hs; (try clear a w); intro a w hs
  replace hs : St _ _ _ (.blk b22 (.cells #[.string (p0.Name), .string ((bs [])), v1, (.slice none 0 0)] 35 (0, 0)) :: .blk b13 (.cells #[.string ((bs [])), .string ((bs [])), (.slice none 0 0), (.slice none 0 0)] 35 (0, 0)) :: .blk b11 (.cells #[.string (p0.Name), .string (p0.Text), v1, v6] 35 (0, 0)) :: L) _ _ _ := hs
  refine RL_nil ?_
  refine hK5 _ _ ?_; clear hK5
  refine W_seq fun K6 hK6 => ?_
  refine W_seq fun K7 hK7 => ?_
  refine W_region ?_
  refine sy (v := .int .i64 (0)) hs (y_assign rfl) ?_; clear hs; (try clear a w); intro a w hs
  refine RL_nil ?_
  refine hK7 _ _ ?_; clear hK7
  have hbase34 := Fz.le.refl f
  refine W_post (fun a w => ∃ (f26 : Fz) (y29 : (List dom_Part)) (v30 : Value) (rw31 : List (List Value)), Fz.le f f26 ∧ law5_clean_k1 p0 y29 = some res ∧ RW t_dom_Part f26 rw31 y29 ∧ St 35 w0 f26 (.row v30 35 4 rw31 :: .blk b22 (.cells #[.string (p0.Name), .string ((bs [])), v1, v30] 35 (0, 0)) :: .blk b13 (.cells #[.string ((bs [])), .string ((bs [])), (.slice none 0 0), (.slice none 0 0)] 35 (0, 0)) :: L) [(2, .pointer (some ⟨b13, 0, none⟩)), (3, .pointer (some ⟨b22, 0, none⟩))] a w) ?_ ?_
  ·clear hs hm
   clear hbase34
   rintro a w ⟨f26, y29, v30, rw31, hl27, hm, hW32, hs⟩
   replace hR3 := hR3.le hl27
   replace hW4 := hW4.le hl27
   replace hR8 := hR8.le hl27
   replace hW9 := hW9.le hl27
   replace hle := hle.trans hl27
   replace hs : St _ _ _ (.row v30 35 4 rw31 :: .blk b22 (.cells #[.string (p0.Name), .string ((bs [])), v1, v30] 35 (0, 0)) :: .blk b13 (.cells #[.string ((bs [])), .string ((bs [])), (.slice none 0 0), (.slice none 0 0)] 35 (0, 0)) :: L) _ _ _ := hs
   unfold law5_clean_k1 at hm
   refine hK6 _ _ ?_; clear hK6
   refine W_seq fun K8 hK8 => ?_
   refine W_region ?_
   refine sy hs (y_ldB rfl Try.underlying35 rfl ti35 (.tail _ (.head _)) rfl) ?_; clear hs; (try clear a w); intro a w hs
   refine RL_storeAll (i := 2) hs rfl rfl rfl ti35 ⟨rfl, rfl⟩ (AllC.arr (r := [.string (p0.Name), .string ((bs [])), v1, v30]) ⟨rfl, rfl, hR3.one, (hs.one (i := 0) rfl), trivial⟩) (.free rfl) ?_; clear hs; (try clear a w); intro a w hs
   replace hs : St _ _ _ (.row v30 35 4 rw31 :: .blk b22 (.cells #[.string (p0.Name), .string ((bs [])), v1, v30] 35 (0, 0)) :: .blk b13 (.cells #[.string (p0.Name), .string ((bs [])), v1, v30] 35 (0, 0)) :: L) _ _ _ := hs
   refine RL_nil ?_
   refine hK8 _ _ ?_; clear hK8
   refine W_ret ?_
   obtain ⟨f35, hf36, hs2, hR37⟩ := hs.frzAt 0 rfl
   clear hs; have hs := hs2; clear hs2
   replace hR3 := hR3.le hf36
   replace hW4 := hW4.le hf36
   replace hW32 := hW32.le hf36
   replace hle := hle.trans hf36
   replace hs : St _ _ _ (.blk b22 (.cells #[.string (p0.Name), .string ((bs [])), v1, v30] 35 (0, 0)) :: .blk b13 (.cells #[.string (p0.Name), .string ((bs [])), v1, v30] 35 (0, 0)) :: L) _ _ _ := hs
   obtain rfl := Option.some.inj hm
   refine RtV1 hs rfl (rv_a hs rfl Try.underlying35 rfl ti35 (fun j u hj => Cell.blk (.tail _ (.head _)) hj) rfl) ?_
   exact ⟨_, f35, [], rfl, hle, (hs.subL (.cons _ (.cons _ (.refl _)))).cw, [.string (p0.Name), .string ((bs [])), v1, v30], rfl, rfl, R_dom_Part.of (x := ({Name := p0.Name, Text := (bs []), Attrs := p0.Attrs, Kids := y29} : dom_Part)) ⟨rw2, hR3, hW4⟩ ⟨rw31, hR37, hW32⟩⟩
  ·refine W_block fun Qe9 hB9 hO9 => ?_
   have hbase := Fz.le.refl f
   replace hs := hs.nilRow 35 4
   have hW47 : RW t_dom_Part f [] ([] : List dom_Part) := trivial
   generalize hgrw48 : ([] : List (List Value)) = rw48 at hs hW47; clear hgrw48
   replace hs : St _ _ _ (.row (.slice none 0 0) 35 4 rw48 :: .blk b22 (.cells #[.string (p0.Name), .string ((bs [])), v1, (.slice none 0 0)] 35 (0, 0)) :: .blk b13 (.cells #[.string ((bs [])), .string ((bs [])), (.slice none 0 0), (.slice none 0 0)] 35 (0, 0)) :: .blk b11 (.cells #[.string (p0.Name), .string (p0.Text), v1, v6] 35 (0, 0)) :: L) _ _ _ := hs
   replace hs : St _ _ _ (.row (.slice none 0 0) 35 4 rw48 :: .blk b22 (.cells #[.string (p0.Name), .string ((bs [])), v1, (.slice none 0 0)] 35 (0, 0)) :: .blk b13 (.cells #[.string ((bs [])), .string ((bs [])), (.slice none 0 0), (.slice none 0 0)] 35 (0, 0)) :: .blk b11 (.cells #[.string (p0.Name), .string (p0.Text), v1, v6] 35 (0, 0)) :: L) _ _ _ := hs
   refine W_loop (fun (k : Nat) a w => ∃ (f38 : Fz) (y41 : (List dom_Part)) (y46 : Int) (v42 : Value) (rw43 : List (List Value)), Fz.le f f38 ∧ law5_clean_l2 p0 slf k y41 y46 = some res ∧ RW t_dom_Part f38 rw43 y41 ∧ St 35 w0 f38 (.row v42 35 4 rw43 :: .blk b22 (.cells #[.string (p0.Name), .string ((bs [])), v1, v42] 35 (0, 0)) :: .blk b13 (.cells #[.string ((bs [])), .string ((bs [])), (.slice none 0 0), (.slice none 0 0)] 35 (0, 0)) :: .blk b11 (.cells #[.string (p0.Name), .string (p0.Text), v1, v6] 35 (0, 0)) :: L) [(1, .pointer (some ⟨b11, 0, none⟩)), (2, .pointer (some ⟨b13, 0, none⟩)), (3, .pointer (some ⟨b22, 0, none⟩)), (4, .int .i64 (y46))] a w) (fun k => k) n ⟨_, ([] : List dom_Part), 0, (.slice none 0 0), rw48, (Fz.le.refl _), hm, hW47, hs.sub ⟨rfl, rfl, rfl, rfl, trivial⟩⟩ ?_
   clear hs hm
   intro k
   rintro a w ⟨f38, y41, y46, v42, rw43, hl39, hm, hW44, hs⟩
   replace hR3 := hR3.le hl39
   replace hW4 := hW4.le hl39
   replace hR8 := hR8.le hl39
   replace hW9 := hW9.le hl39
   replace hle := hle.trans hl39
   replace hbase34 := hbase34.trans hl39
   replace hs : St _ _ _ (.row v42 35 4 rw43 :: .blk b22 (.cells #[.string (p0.Name), .string ((bs [])), v1, v42] 35 (0, 0)) :: .blk b13 (.cells #[.string ((bs [])), .string ((bs [])), (.slice none 0 0), (.slice none 0 0)] 35 (0, 0)) :: .blk b11 (.cells #[.string (p0.Name), .string (p0.Text), v1, v6] 35 (0, 0)) :: L) _ _ _ := hs
   intro K10 hK10
   cases k with
   | zero => simp [law5_clean_l2] at hm
   | succ k51 =>
    rw [law5_clean_l2] at hm
    have hbase52 := hl39
    refine W_seq fun K11 hK11 => ?_
    refine W_seq fun K12 hK12 => ?_
    refine W_region ?_
    refine sy (v := .int .i64 (y46)) hs (y_move rfl) ?_; clear hs; (try clear a w); intro a w hs
    refine sy (v := .pointer (some ⟨b11, 3, none⟩)) hs (y_fieldAddr rfl (FO.of (off := 3) Try.underlying35 rfl rfl ti33 (by decide))) ?_; clear hs; (try clear a w); intro a w hs
    refine sy (v := v6) hs (y_ld rfl Try.underlying33 rfl (Cell.blk (.tail _ (.tail _ (.tail _ (.head _)))) rfl)) ?_; clear hs; (try clear a w); intro a w hs
    refine sy hs (y_lenW hR8 hW9 rfl Try.underlying33) ?_; clear hs; (try clear a w); intro a w hs
    refine sy hs (y_lss rfl rfl) ?_; clear hs; (try clear a w); intro a w hs
    refine RL_nil ?_
    refine hK12 _ _ ?_; clear hK12
    refine W_cond hs rfl (fun hg53 => ?_) (fun hg53 => ?_)
    ·replace hm := oc_t hg53 hm
     refine W_skip ?_
     refine hK11 _ _ ?_; clear hK11
     refine W_seq fun K13 hK13 => ?_
     refine W_block fun Qe14 hB14 hO14 => ?_
     have hsD := hs.subL (L' := .blk b22 (.cells #[.string (p0.Name), .string ((bs [])), v1, v42] 35 (0, 0)) :: .blk b11 (.cells #[.string (p0.Name), .string (p0.Text), v1, v6] 35 (0, 0)) :: []) (.cons _ (.cons_cons _ (.cons _ (.cons_cons _ (List.nil_sublist _)))))
     refine T_start hs (.blk b22 (.cells #[.string (p0.Name), .string ((bs [])), v1, v42] 35 (0, 0)) :: .blk b11 (.cells #[.string (p0.Name), .string (p0.Text), v1, v6] 35 (0, 0)) :: []) [11] (.look 0 (.look 1 (.look 2 (.look 3 (.look 4 (.look 5 (.look 6 (.any [7] (fun _ => .any [8] (fun _ => .any [9] (fun _ => .look 10 (.any [11] (fun _ => .done))))))))))))) mixed (by kernel_rfl) ?_; clear hs; (try clear a w); intro a he
     refine uy (v := .pointer (some ⟨b22, 3, none⟩)) 0 he rfl (y_fieldAddr rfl (FO.of (off := 3) Try.underlying35 rfl rfl ti33 (by decide))) ?_; clear he; (try clear a); intro a he
     refine uy (v := v42) 1 he rfl (y_ld rfl Try.underlying33 rfl (Cell.blk (.head _) rfl)) ?_; clear he; (try clear a); intro a he
     refine uy (v := .pointer (some ⟨b11, 3, none⟩)) 2 he rfl (y_fieldAddr rfl (FO.of (off := 3) Try.underlying35 rfl rfl ti33 (by decide))) ?_; clear he; (try clear a); intro a he
     refine uy (v := v6) 3 he rfl (y_ld rfl Try.underlying33 rfl (Cell.blk (.tail _ (.head _)) rfl)) ?_; clear he; (try clear a); intro a he
     refine uy (v := .int .i64 (y46)) 4 he rfl (y_move rfl) ?_; clear he; (try clear a); intro a he
     obtain ⟨x54, hx55, hm⟩ := ob hm
     obtain ⟨r56, hr57, hq58, hi59, hb60⟩ := hW9.geti hx55
     obtain ⟨v61, v66, rfl, ⟨rw62, hR63, hW64⟩, ⟨rw67, hR68, hW69⟩⟩ := R_dom_Part.ex hq58
     refine uy 5 he rfl (y_indexAddr hR8 rfl rfl hi59 hb60 Try.underlying33 ti35) ?_; clear he; (try clear a); intro a he
     refine uy 6 he rfl (y_loadRow hR8.up rfl hr57 Try.underlying35 rfl ti35) ?_; clear he; (try clear a); intro a he
     refine T_any1 he rfl ?_; clear he; (try clear a); intro a w hs
     obtain ⟨x71, hx72, hm⟩ := ob hm
     refine RL_callV hs rfl has21 rfl (slf_ok (f := f38) (a0 := [.string (x54.Name), .string (x54.Text), v61, v66]) (R_dom_Part.of (x := x54) ⟨rw62, hR63, hW64⟩ ⟨rw67, hR68, hW69⟩) hx72) ?_; clear hs; (try clear a w)
     rintro _ f73 _ a w hf74 ⟨r75, rfl, rfl, hq76⟩ hs
     have hR77 := hR3.le hf74
     have hW78 := hW4.le hf74
     have hR79 := hR8.le hf74
     have hW80 := hW9.le hf74
     have hW81 := hW44.le hf74
     have hR82 := hR63.le hf74
     have hW83 := hW64.le hf74
     have hR84 := hR68.le hf74
     have hW85 := hW69.le hf74
     replace hle := hle.trans hf74
     replace hbase34 := hbase34.trans hf74
     replace hbase52 := hbase52.trans hf74
     obtain ⟨v86, v91, rfl, ⟨rw87, hR88, hW89⟩, ⟨rw92, hR93, hW94⟩⟩ := R_dom_Part.ex hq76
     replace hs : St _ _ _ (.row v42 35 4 rw43 :: .blk b22 (.cells #[.string (p0.Name), .string ((bs [])), v1, v42] 35 (0, 0)) :: .blk b13 (.cells #[.string ((bs [])), .string ((bs [])), (.slice none 0 0), (.slice none 0 0)] 35 (0, 0)) :: .blk b11 (.cells #[.string (p0.Name), .string (p0.Text), v1, v6] 35 (0, 0)) :: L) _ _ _ := hs
     refine uon hs ?_; clear hs; (try clear a w); intro a he
     refine T_any1 he rfl ?_; clear he; (try clear a); intro a w hs
     refine RL_bs1a hs rfl Try.underlying33 ti35 (by decide) (AllC.row ⟨rfl, rfl, hR88.one, hR93.one, trivial⟩ rfl) ?_; clear hs; (try clear a w); intro v96 a w hs
     have hW97 : RW t_dom_Part f73 [[.string (x71.Name), .string (x71.Text), v86, v91]] [x71] := RW.single (R_dom_Part.of (x := x71) ⟨rw87, hR88, hW89⟩ ⟨rw92, hR93, hW94⟩)
     generalize hgrw98 : ([[.string (x71.Name), .string (x71.Text), v86, v91]] : List (List Value)) = rw98 at hs hW97; clear hgrw98
     replace hs : St _ _ _ (.row v96 35 4 rw98 :: .row v42 35 4 rw43 :: .blk b22 (.cells #[.string (p0.Name), .string ((bs [])), v1, v42] 35 (0, 0)) :: .blk b13 (.cells #[.string ((bs [])), .string ((bs [])), (.slice none 0 0), (.slice none 0 0)] 35 (0, 0)) :: .blk b11 (.cells #[.string (p0.Name), .string (p0.Text), v1, v6] 35 (0, 0)) :: L) _ _ _ := hs
     have ho101 : v96.oneCell' = true := hs.one (i := 0) rfl
     refine uon hs ?_; clear hs; (try clear a w); intro a he
     refine T_any1 he rfl ?_; clear he; (try clear a); intro a w hs
     obtain ⟨x102, hx103, hm⟩ := ob hm
     obtain ⟨hbx102, hex102⟩ := appM_some hx103
     have hW106 := hW81.append hW97; rw [hex102] at hW106
     refine RL_append (i := 1) hs rfl rfl rfl (Rd.st hs (.head _)) Try.underlying33 ti35 (by decide) (by rw [RW.len hW81, RW.len hW97]; exact hbx102) (.free rfl) (by decide) ?_; clear hs; (try clear a w); intro v104 a w hs
     generalize hgx102 : rw43 ++ rw98 = rw105 at hs hW106; clear hgx102
     replace hs := hs.erase 0
     replace hs : St _ _ _ (.row v104 35 4 rw105 :: .blk b22 (.cells #[.string (p0.Name), .string ((bs [])), v1, v42] 35 (0, 0)) :: .blk b13 (.cells #[.string ((bs [])), .string ((bs [])), (.slice none 0 0), (.slice none 0 0)] 35 (0, 0)) :: .blk b11 (.cells #[.string (p0.Name), .string (p0.Text), v1, v6] 35 (0, 0)) :: L) _ _ _ := hs
     have ho108 : v104.oneCell' = true := hs.one (i := 0) rfl
     refine uon hs ?_; clear hs; (try clear a w); intro a he
     refine uy (v := .pointer (some ⟨b22, 3, none⟩)) 10 he rfl (y_fieldAddr rfl (FO.of (off := 3) Try.underlying35 rfl rfl ti33 (by decide))) ?_; clear he; (try clear a); intro a he
     refine T_any1 he rfl ?_; clear he; (try clear a); intro a w hs
     refine sstore 1 hs rfl rfl rfl ti33 ho108 ?_; clear hs; (try clear a w); intro a w hs
     replace hs : St _ _ _ (.row v104 35 4 rw105 :: .blk b22 (.cells #[.string (p0.Name), .string ((bs [])), v1, v104] 35 (0, 0)) :: .blk b13 (.cells #[.string ((bs [])), .string ((bs [])), (.slice none 0 0), (.slice none 0 0)] 35 (0, 0)) :: .blk b11 (.cells #[.string (p0.Name), .string (p0.Text), v1, v6] 35 (0, 0)) :: L) _ _ _ := hs
     refine uend hs ?_; clear hs; (try clear a w); intro a he
     refine T_nil he ?_; clear he; (try clear a); intro w hs; try clear hsD
     refine hK13 _ _ ?_; clear hK13
     refine W_region ?_
     refine sy (v := .int .i64 (y46)) hs (y_move rfl) ?_; clear hs; (try clear a w); intro a w hs
     refine sy hs (y_add rfl rfl rfl) ?_; clear hs; (try clear a w); intro a w hs
     refine sy (v := .int .i64 ((w64 (y46 + 1)))) hs (y_assign rfl) ?_; clear hs; (try clear a w); intro a w hs
     refine RL_nil ?_
     exact hK10 k51 _ _ (Nat.lt_succ_self _) ⟨_, x102, (w64 (y46 + 1)), v104, rw105, hbase52, hm, hW106, hs.sub ⟨rfl, rfl, rfl, rfl, trivial⟩⟩
    ·replace hm := oc_f hg53 hm
     refine W_exit ?_
     refine hB9 _ _ ?_
     exact ⟨_, y41, v42, rw43, hbase34, hm, hW44, hs.subs ⟨rfl, rfl, trivial⟩ (.cons_cons _ (.cons_cons _ (.cons_cons _ (.cons _ (.refl _)))))⟩
theorem law5_clean_ok : ∀ (n : Nat) {f : Fz} {p0 : dom_Part} {a0 : List Value} {res : dom_Part} (_h0 : t_dom_Part.R f a0 p0) (_ : law5_clean n p0 = some res), Does Try.prog 21 [.agg a0.toArray] f [] (fun r f' L' => ∃ (u0 : List Value), L' = [] ∧ r = .agg u0.toArray ∧ t_dom_Part.R f' u0 res)
  | 0, f, p0, a0, res, h0, hm => by simp [law5_clean] at hm
  | n + 1, f, p0, a0, res, h0, hm => law5_clean_bok n (law5_clean_ok n) h0 hm
/-! casement/casementlaw5.part -/
def law5_part_k1 (p0 : ref5_Part) (y26 : (List dom_Part)) : Option dom_Part :=
  some ({Name := p0.Name, Text := p0.Text, Attrs := p0.Attrs, Kids := y26} : dom_Part)
def law5_part_l2 (p0 : ref5_Part) (slf : ref5_Part → Option dom_Part) : Nat → (List dom_Part) → Int → Option dom_Part
  | 0, _, _ => none
  | k48 + 1, y38, y43 =>
  (bif (decide (y43 < (p0.Kids.length : Int))) then (geti p0.Kids y43).bind fun x51 =>
  (slf x51).bind fun x68 =>
  (appM 80 y38 [x68]).bind fun x99 =>
  (law5_part_l2 p0 slf k48) x99 (w64 (y43 + 1)) else
  law5_part_k1 p0 y38)
def law5_part_b (slf : ref5_Part → Option dom_Part) (n : Nat) (p0 : ref5_Part) : Option dom_Part :=
  law5_part_l2 p0 slf n ([] : List dom_Part) 0
def law5_part : Nat → ref5_Part → Option dom_Part
  | 0, _ => none
  | n + 1, p0 => law5_part_b (law5_part n) n p0
theorem law5_part_bok {slf : ref5_Part → Option dom_Part} (n : Nat) (slf_ok : ∀ {f : Fz} {p0 : ref5_Part} {a0 : List Value} {res : dom_Part} (_ : t_ref5_Part.R f a0 p0) (_ : slf p0 = some res), Does Try.prog 22 [.agg a0.toArray] f [] (fun r f' L' => ∃ (u0 : List Value), L' = [] ∧ r = .agg u0.toArray ∧ t_dom_Part.R f' u0 res)) {f : Fz} {p0 : ref5_Part} {a0 : List Value} {res : dom_Part} (h0 : t_ref5_Part.R f a0 p0) (hm : law5_part_b slf n p0 = some res) : Does Try.prog 22 [.agg a0.toArray] f [] (fun r f' L' => ∃ (u0 : List Value), L' = [] ∧ r = .agg u0.toArray ∧ t_dom_Part.R f' u0 res) := by
 unfold law5_part_b at hm
 intro w0 L w hC
 obtain ⟨v1, v6, rfl, ⟨rw2, hR3, hW4⟩, ⟨rw7, hR8, hW9⟩⟩ := R_ref5_Part.ex h0
 refine enter Try.func22 rfl Try.ntmps22 (by simp) hC fun a hs => ?_
 have hle := Fz.le.refl f
 refine W_seq fun K1 hK1 => ?_
 refine W_region ?_
 refine sbox hs rfl ?_; clear hs; (try clear a w); intro b11 a w hs
 replace hs : St _ _ _ (.blk b11 (.cells #[.string (p0.Name), .string (p0.Text), v1, v6] 43 (0, 0)) :: L) _ _ _ := hs
 refine RL_alloc hs ti35 (.free rfl) (by decide) ?_; clear hs; (try clear a w); intro b13 a w hs
 replace hs : St _ _ _ (.blk b13 (.cells #[.string ((bs [])), .string ((bs [])), (.slice none 0 0), (.slice none 0 0)] 35 (0, 0)) :: .blk b11 (.cells #[.string (p0.Name), .string (p0.Text), v1, v6] 43 (0, 0)) :: L) _ _ _ := hs
 refine RL_nil ?_
 refine hK1 _ _ ?_; clear hK1
 refine W_seq fun K2 hK2 => ?_
 refine W_region ?_
 refine sy (v := .pointer (some ⟨b11, 0, none⟩)) hs (y_fieldAddr rfl (FO.of (off := 0) Try.underlying43 rfl rfl ti9 (by decide))) ?_; clear hs; (try clear a w); intro a w hs
 refine sy (v := .string (p0.Name)) hs (y_ld rfl Try.underlying9 rfl (Cell.blk (.tail _ (.head _)) rfl)) ?_; clear hs; (try clear a w); intro a w hs
 refine sy (v := .pointer (some ⟨b11, 1, none⟩)) hs (y_fieldAddr rfl (FO.of (off := 1) Try.underlying43 rfl rfl ti9 (by decide))) ?_; clear hs; (try clear a w); intro a w hs
 refine sy (v := .string (p0.Text)) hs (y_ld rfl Try.underlying9 rfl (Cell.blk (.tail _ (.head _)) rfl)) ?_; clear hs; (try clear a w); intro a w hs
 refine sy (v := .pointer (some ⟨b11, 2, none⟩)) hs (y_fieldAddr rfl (FO.of (off := 2) Try.underlying43 rfl rfl ti32 (by decide))) ?_; clear hs; (try clear a w); intro a w hs
 refine sy (v := v1) hs (y_ld rfl Try.underlying32 rfl (Cell.blk (.tail _ (.head _)) rfl)) ?_; clear hs; (try clear a w); intro a w hs
 refine sy hs (y_buildS (places := [(0, 1), (1, 1), (2, 1), (3, 1)]) (cs := [.string (p0.Name), .string (p0.Text), v1, (.slice none 0 0)]) rfl Try.underlying35 ti35 (by kernel_rfl) (by decide) rfl ⟨rfl, rfl, hR3.one, trivial⟩) ?_; clear hs; (try clear a w); intro a w hs
 refine RL_alloc hs ti35 (.free rfl) (by decide) ?_; clear hs; (try clear a w); intro b19 a w hs
 replace hs : St _ _ _ (.blk b19 (.cells #[.string ((bs [])), .string ((bs [])), (.slice none 0 0), (.slice none 0 0)] 35 (0, 0)) :: .blk b13 (.cells #[.string ((bs [])), .string ((bs [])), (.slice none 0 0), (.slice none 0 0)] 35 (0, 0)) :: .blk b11 (.cells #[.string (p0.Name), .string (p0.Text), v1, v6] 43 (0, 0)) :: L) _ _ _ := hs
 refine RL_storeAll (i := 0) hs rfl rfl rfl ti35 ⟨rfl, rfl⟩ (AllC.arr (r := [.string (p0.Name), .string (p0.Text), v1, (.slice none 0 0)]) ⟨rfl, rfl, hR3.one, rfl, trivial⟩) (.free rfl) ?_; clear hs; (try clear a w); intro a w hs
 replace hs : St _ _ _ (.blk b19 (.cells #[.string (p0.Name), .string (p0.Text), v1, (.slice none 0 0)] 35 (0, 0)) :: .blk b13 (.cells #[.string ((bs [])), .string ((bs [])), (.slice none 0 0), (.slice none 0 0)] 35 (0, 0)) :: .blk b11 (.cells #[.string (p0.Name), .string (p0.Text), v1, v6] 43 (0, 0)) :: L) _ _ _ := hs
 refine RL_nil ?_
 refine hK2 _ _ ?_; clear hK2
 refine W_seq fun K3 hK3 => ?_
 refine W_seq fun K4 hK4 => ?_
 refine W_region ?_
 refine sy (v := .int .i64 (0)) hs (y_assign rfl) ?_; clear hs; (try clear a w); intro a w hs
 refine RL_nil ?_
 refine hK4 _ _ ?_; clear hK4
 have hbase31 := Fz.le.refl f
 refine W_post (fun a w => ∃ (f23 : Fz) (y26 : (List dom_Part)) (v27 : Value) (rw28 : List (List Value)), Fz.le f f23 ∧ law5_part_k1 p0 y26 = some res ∧ RW t_dom_Part f23 rw28 y26 ∧ St 31 w0 f23 (.row v27 35 4 rw28 :: .blk b19 (.cells #[.string (p0.Name), .string (p0.Text), v1, v27] 35 (0, 0)) :: .blk b13 (.cells #[.string ((bs [])), .string ((bs [])), (.slice none 0 0), (.slice none 0 0)] 35 (0, 0)) :: L) [(2, .pointer (some ⟨b13, 0, none⟩)), (3, .pointer (some ⟨b19, 0, none⟩))] a w) ?_ ?_
 ·clear hs hm
  clear hbase31
  rintro a w ⟨f23, y26, v27, rw28, hl24, hm, hW29, hs⟩
  replace hR3 := hR3.le hl24
  replace hW4 := hW4.le hl24
  replace hR8 := hR8.le hl24
  replace hW9 := hW9.le hl24
  replace hle := hle.trans hl24
  replace hs : St _ _ _ (.row v27 35 4 rw28 :: .blk b19 (.cells #[.string (p0.Name), .string (p0.Text), v1, v27] 35 (0, 0)) :: .blk b13 (.cells #[.string ((bs [])), .string ((bs [])), (.slice none 0 0), (.slice none 0 0)] 35 (0, 0)) :: L) _ _ _ := hs
  unfold law5_part_k1 at hm
  refine hK3 _ _ ?_; clear hK3
  refine W_seq fun K5 hK5 => ?_
  refine W_region ?_
  refine sy hs (y_ldB rfl Try.underlying35 rfl ti35 (.tail _ (.head _)) rfl) ?_; clear hs; (try clear a w); intro a w hs
  refine RL_storeAll (i := 2) hs rfl rfl rfl ti35 ⟨rfl, rfl⟩ (AllC.arr (r := [.string (p0.Name), .string (p0.Text), v1, v27]) ⟨rfl, rfl, hR3.one, (hs.one (i := 0) rfl), trivial⟩) (.free rfl) ?_; clear hs; (try clear a w); intro a w hs
  replace hs : St _ _ _ (.row v27 35 4 rw28 :: .blk b19 (.cells #[.string (p0.Name), .string (p0.Text), v1, v27] 35 (0, 0)) :: .blk b13 (.cells #[.string (p0.Name), .string (p0.Text), v1, v27] 35 (0, 0)) :: L) _ _ _ := hs
  refine RL_nil ?_
  refine hK5 _ _ ?_; clear hK5
  refine W_ret ?_
  obtain ⟨f32, hf33, hs2, hR34⟩ := hs.frzAt 0 rfl
  clear hs; have hs := hs2; clear hs2
  replace hR3 := hR3.le hf33
  replace hW4 := hW4.le hf33
  replace hW29 := hW29.le hf33
  replace hle := hle.trans hf33
  replace hs : St _ _ _ (.blk b19 (.cells #[.string (p0.Name), .string (p0.Text), v1, v27] 35 (0, 0)) :: .blk b13 (.cells #[.string (p0.Name), .string (p0.Text), v1, v27] 35 (0, 0)) :: L) _ _ _ := hs
  obtain rfl := Option.some.inj hm
  refine RtV1 hs rfl (rv_a hs rfl Try.underlying35 rfl ti35 (fun j u hj => Cell.blk (.tail _ (.head _)) hj) rfl) ?_
  exact ⟨_, f32, [], rfl, hle, (hs.subL (.cons _ (.cons _ (.refl _)))).cw, [.string (p0.Name), .string (p0.Text), v1, v27], rfl, rfl, R_dom_Part.of (x := ({Name := p0.Name, Text := p0.Text, Attrs := p0.Attrs, Kids := y26} : dom_Part)) ⟨rw2, hR3, hW4⟩ ⟨rw28, hR34, hW29⟩⟩
 ·refine W_block fun Qe6 hB6 hO6 => ?_
  have hbase := Fz.le.refl f
  replace hs := hs.nilRow 35 4
  have hW44 : RW t_dom_Part f [] ([] : List dom_Part) := trivial
  generalize hgrw45 : ([] : List (List Value)) = rw45 at hs hW44; clear hgrw45
  replace hs : St _ _ _ (.row (.slice none 0 0) 35 4 rw45 :: .blk b19 (.cells #[.string (p0.Name), .string (p0.Text), v1, (.slice none 0 0)] 35 (0, 0)) :: .blk b13 (.cells #[.string ((bs [])), .string ((bs [])), (.slice none 0 0), (.slice none 0 0)] 35 (0, 0)) :: .blk b11 (.cells #[.string (p0.Name), .string (p0.Text), v1, v6] 43 (0, 0)) :: L) _ _ _ := hs
  replace hs : St _ _ _ (.row (.slice none 0 0) 35 4 rw45 :: .blk b19 (.cells #[.string (p0.Name), .string (p0.Text), v1, (.slice none 0 0)] 35 (0, 0)) :: .blk b13 (.cells #[.string ((bs [])), .string ((bs [])), (.slice none 0 0), (.slice none 0 0)] 35 (0, 0)) :: .blk b11 (.cells #[.string (p0.Name), .string (p0.Text), v1, v6] 43 (0, 0)) :: L) _ _ _ := hs
  refine W_loop (fun (k : Nat) a w => ∃ (f35 : Fz) (y38 : (List dom_Part)) (y43 : Int) (v39 : Value) (rw40 : List (List Value)), Fz.le f f35 ∧ law5_part_l2 p0 slf k y38 y43 = some res ∧ RW t_dom_Part f35 rw40 y38 ∧ St 31 w0 f35 (.row v39 35 4 rw40 :: .blk b19 (.cells #[.string (p0.Name), .string (p0.Text), v1, v39] 35 (0, 0)) :: .blk b13 (.cells #[.string ((bs [])), .string ((bs [])), (.slice none 0 0), (.slice none 0 0)] 35 (0, 0)) :: .blk b11 (.cells #[.string (p0.Name), .string (p0.Text), v1, v6] 43 (0, 0)) :: L) [(1, .pointer (some ⟨b11, 0, none⟩)), (2, .pointer (some ⟨b13, 0, none⟩)), (3, .pointer (some ⟨b19, 0, none⟩)), (4, .int .i64 (y43))] a w) (fun k => k) n ⟨_, ([] : List dom_Part), 0, (.slice none 0 0), rw45, (Fz.le.refl _), hm, hW44, hs.sub ⟨rfl, rfl, rfl, rfl, trivial⟩⟩ ?_
  clear hs hm
  intro k
  rintro a w ⟨f35, y38, y43, v39, rw40, hl36, hm, hW41, hs⟩
  replace hR3 := hR3.le hl36
  replace hW4 := hW4.le hl36
  replace hR8 := hR8.le hl36
  replace hW9 := hW9.le hl36
  replace hle := hle.trans hl36
  replace hbase31 := hbase31.trans hl36
  replace hs : St _ _ _ (.row v39 35 4 rw40 :: .blk b19 (.cells #[.string (p0.Name), .string (p0.Text), v1, v39] 35 (0, 0)) :: .blk b13 (.cells #[.string ((bs [])), .string ((bs [])), (.slice none 0 0), (.slice none 0 0)] 35 (0, 0)) :: .blk b11 (.cells #[.string (p0.Name), .string (p0.Text), v1, v6] 43 (0, 0)) :: L) _ _ _ := hs
  intro K7 hK7
  cases k with
  | zero => simp [law5_part_l2] at hm
  | succ k48 =>
   rw [law5_part_l2] at hm
   have hbase49 := hl36
   refine W_seq fun K8 hK8 => ?_
   refine W_seq fun K9 hK9 => ?_
   refine W_region ?_
   refine sy (v := .int .i64 (y43)) hs (y_move rfl) ?_; clear hs; (try clear a w); intro a w hs
   refine sy (v := .pointer (some ⟨b11, 3, none⟩)) hs (y_fieldAddr rfl (FO.of (off := 3) Try.underlying43 rfl rfl ti41 (by decide))) ?_; clear hs; (try clear a w); intro a w hs
   refine sy (v := v6) hs (y_ld rfl Try.underlying41 rfl (Cell.blk (.tail _ (.tail _ (.tail _ (.head _)))) rfl)) ?_; clear hs; (try clear a w); intro a w hs
   refine sy hs (y_lenW hR8 hW9 rfl Try.underlying41) ?_; clear hs; (try clear a w); intro a w hs
   refine sy hs (y_lss rfl rfl) ?_; clear hs; (try clear a w); intro a w hs
   refine RL_nil ?_
   refine hK9 _ _ ?_; clear hK9
   refine W_cond hs rfl (fun hg50 => ?_) (fun hg50 => ?_)
   ·replace hm := oc_t hg50 hm
    refine W_skip ?_
    refine hK8 _ _ ?_; clear hK8
    refine W_seq fun K10 hK10 => ?_
    refine W_block fun Qe11 hB11 hO11 => ?_
    have hsD := hs.subL (L' := .blk b19 (.cells #[.string (p0.Name), .string (p0.Text), v1, v39] 35 (0, 0)) :: .blk b11 (.cells #[.string (p0.Name), .string (p0.Text), v1, v6] 43 (0, 0)) :: []) (.cons _ (.cons_cons _ (.cons _ (.cons_cons _ (List.nil_sublist _)))))
    refine T_start hs (.blk b19 (.cells #[.string (p0.Name), .string (p0.Text), v1, v39] 35 (0, 0)) :: .blk b11 (.cells #[.string (p0.Name), .string (p0.Text), v1, v6] 43 (0, 0)) :: []) [11] (.look 0 (.look 1 (.look 2 (.look 3 (.look 4 (.look 5 (.look 6 (.any [7] (fun _ => .any [8] (fun _ => .any [9] (fun _ => .look 10 (.any [11] (fun _ => .done))))))))))))) mixed (by kernel_rfl) ?_; clear hs; (try clear a w); intro a he
    refine uy (v := .pointer (some ⟨b19, 3, none⟩)) 0 he rfl (y_fieldAddr rfl (FO.of (off := 3) Try.underlying35 rfl rfl ti33 (by decide))) ?_; clear he; (try clear a); intro a he
    refine uy (v := v39) 1 he rfl (y_ld rfl Try.underlying33 rfl (Cell.blk (.head _) rfl)) ?_; clear he; (try clear a); intro a he
    refine uy (v := .pointer (some ⟨b11, 3, none⟩)) 2 he rfl (y_fieldAddr rfl (FO.of (off := 3) Try.underlying43 rfl rfl ti41 (by decide))) ?_; clear he; (try clear a); intro a he
    refine uy (v := v6) 3 he rfl (y_ld rfl Try.underlying41 rfl (Cell.blk (.tail _ (.head _)) rfl)) ?_; clear he; (try clear a); intro a he
    refine uy (v := .int .i64 (y43)) 4 he rfl (y_move rfl) ?_; clear he; (try clear a); intro a he
    obtain ⟨x51, hx52, hm⟩ := ob hm
    obtain ⟨r53, hr54, hq55, hi56, hb57⟩ := hW9.geti hx52
    obtain ⟨v58, v63, rfl, ⟨rw59, hR60, hW61⟩, ⟨rw64, hR65, hW66⟩⟩ := R_ref5_Part.ex hq55
    refine uy 5 he rfl (y_indexAddr hR8 rfl rfl hi56 hb57 Try.underlying41 ti43) ?_; clear he; (try clear a); intro a he
    refine uy 6 he rfl (y_loadRow hR8.up rfl hr54 Try.underlying43 rfl ti43) ?_; clear he; (try clear a); intro a he
    refine T_any1 he rfl ?_; clear he; (try clear a); intro a w hs
    obtain ⟨x68, hx69, hm⟩ := ob hm
    refine RL_callV hs rfl has22 rfl (slf_ok (f := f35) (a0 := [.string (x51.Name), .string (x51.Text), v58, v63]) (R_ref5_Part.of (x := x51) ⟨rw59, hR60, hW61⟩ ⟨rw64, hR65, hW66⟩) hx69) ?_; clear hs; (try clear a w)
    rintro _ f70 _ a w hf71 ⟨r72, rfl, rfl, hq73⟩ hs
    have hR74 := hR3.le hf71
    have hW75 := hW4.le hf71
    have hR76 := hR8.le hf71
    have hW77 := hW9.le hf71
    have hW78 := hW41.le hf71
    have hR79 := hR60.le hf71
    have hW80 := hW61.le hf71
    have hR81 := hR65.le hf71
    have hW82 := hW66.le hf71
    replace hle := hle.trans hf71
    replace hbase31 := hbase31.trans hf71
    replace hbase49 := hbase49.trans hf71
    obtain ⟨v83, v88, rfl, ⟨rw84, hR85, hW86⟩, ⟨rw89, hR90, hW91⟩⟩ := R_dom_Part.ex hq73
    replace hs : St _ _ _ (.row v39 35 4 rw40 :: .blk b19 (.cells #[.string (p0.Name), .string (p0.Text), v1, v39] 35 (0, 0)) :: .blk b13 (.cells #[.string ((bs [])), .string ((bs [])), (.slice none 0 0), (.slice none 0 0)] 35 (0, 0)) :: .blk b11 (.cells #[.string (p0.Name), .string (p0.Text), v1, v6] 43 (0, 0)) :: L) _ _ _ := hs
    refine uon hs ?_; clear hs; (try clear a w); intro a he
    refine T_any1 he rfl ?_; clear he; (try clear a); intro a w hs
    refine RL_bs1a hs rfl Try.underlying33 ti35 (by decide) (AllC.row ⟨rfl, rfl, hR85.one, hR90.one, trivial⟩ rfl) ?_; clear hs; (try clear a w); intro v93 a w hs
    have hW94 : RW t_dom_Part f70 [[.string (x68.Name), .string (x68.Text), v83, v88]] [x68] := RW.single (R_dom_Part.of (x := x68) ⟨rw84, hR85, hW86⟩ ⟨rw89, hR90, hW91⟩)
    generalize hgrw95 : ([[.string (x68.Name), .string (x68.Text), v83, v88]] : List (List Value)) = rw95 at hs hW94; clear hgrw95
    replace hs : St _ _ _ (.row v93 35 4 rw95 :: .row v39 35 4 rw40 :: .blk b19 (.cells #[.string (p0.Name), .string (p0.Text), v1, v39] 35 (0, 0)) :: .blk b13 (.cells #[.string ((bs [])), .string ((bs [])), (.slice none 0 0), (.slice none 0 0)] 35 (0, 0)) :: .blk b11 (.cells #[.string (p0.Name), .string (p0.Text), v1, v6] 43 (0, 0)) :: L) _ _ _ := hs
    have ho98 : v93.oneCell' = true := hs.one (i := 0) rfl
    refine uon hs ?_; clear hs; (try clear a w); intro a he
    refine T_any1 he rfl ?_; clear he; (try clear a); intro a w hs
    obtain ⟨x99, hx100, hm⟩ := ob hm
    obtain ⟨hbx99, hex99⟩ := appM_some hx100
    have hW103 := hW78.append hW94; rw [hex99] at hW103
    refine RL_append (i := 1) hs rfl rfl rfl (Rd.st hs (.head _)) Try.underlying33 ti35 (by decide) (by rw [RW.len hW78, RW.len hW94]; exact hbx99) (.free rfl) (by decide) ?_; clear hs; (try clear a w); intro v101 a w hs
    generalize hgx99 : rw40 ++ rw95 = rw102 at hs hW103; clear hgx99
    replace hs := hs.erase 0
    replace hs : St _ _ _ (.row v101 35 4 rw102 :: .blk b19 (.cells #[.string (p0.Name), .string (p0.Text), v1, v39] 35 (0, 0)) :: .blk b13 (.cells #[.string ((bs [])), .string ((bs [])), (.slice none 0 0), (.slice none 0 0)] 35 (0, 0)) :: .blk b11 (.cells #[.string (p0.Name), .string (p0.Text), v1, v6] 43 (0, 0)) :: L) _ _ _ := hs
    have ho105 : v101.oneCell' = true := hs.one (i := 0) rfl
    refine uon hs ?_; clear hs; (try clear a w); intro a he
    refine uy (v := .pointer (some ⟨b19, 3, none⟩)) 10 he rfl (y_fieldAddr rfl (FO.of (off := 3) Try.underlying35 rfl rfl ti33 (by decide))) ?_; clear he; (try clear a); intro a he
    refine T_any1 he rfl ?_; clear he; (try clear a); intro a w hs
    refine sstore 1 hs rfl rfl rfl ti33 ho105 ?_; clear hs; (try clear a w); intro a w hs
    replace hs : St _ _ _ (.row v101 35 4 rw102 :: .blk b19 (.cells #[.string (p0.Name), .string (p0.Text), v1, v101] 35 (0, 0)) :: .blk b13 (.cells #[.string ((bs [])), .string ((bs [])), (.slice none 0 0), (.slice none 0 0)] 35 (0, 0)) :: .blk b11 (.cells #[.string (p0.Name), .string (p0.Text), v1, v6] 43 (0, 0)) :: L) _ _ _ := hs
    refine uend hs ?_; clear hs; (try clear a w); intro a he
    refine T_nil he ?_; clear he; (try clear a); intro w hs; try clear hsD
    refine hK10 _ _ ?_; clear hK10
    refine W_region ?_
    refine sy (v := .int .i64 (y43)) hs (y_move rfl) ?_; clear hs; (try clear a w); intro a w hs
    refine sy hs (y_add rfl rfl rfl) ?_; clear hs; (try clear a w); intro a w hs
    refine sy (v := .int .i64 ((w64 (y43 + 1)))) hs (y_assign rfl) ?_; clear hs; (try clear a w); intro a w hs
    refine RL_nil ?_
    exact hK7 k48 _ _ (Nat.lt_succ_self _) ⟨_, x99, (w64 (y43 + 1)), v101, rw102, hbase49, hm, hW103, hs.sub ⟨rfl, rfl, rfl, rfl, trivial⟩⟩
   ·replace hm := oc_f hg50 hm
    refine W_exit ?_
    refine hB6 _ _ ?_
    exact ⟨_, y38, v39, rw40, hbase31, hm, hW41, hs.subs ⟨rfl, rfl, trivial⟩ (.cons_cons _ (.cons_cons _ (.cons_cons _ (.cons _ (.refl _)))))⟩
theorem law5_part_ok : ∀ (n : Nat) {f : Fz} {p0 : ref5_Part} {a0 : List Value} {res : dom_Part} (_h0 : t_ref5_Part.R f a0 p0) (_ : law5_part n p0 = some res), Does Try.prog 22 [.agg a0.toArray] f [] (fun r f' L' => ∃ (u0 : List Value), L' = [] ∧ r = .agg u0.toArray ∧ t_dom_Part.R f' u0 res)
  | 0, f, p0, a0, res, h0, hm => by simp [law5_part] at hm
  | n + 1, f, p0, a0, res, h0, hm => law5_part_bok n (law5_part_ok n) h0 hm
/-! casement/casementlaw5.sample -/
def law5_sample (n : Nat) : Option (api_Tree × Int) :=
  (dom_Make n ({Name := (bs [100, 105, 118]), Text := (bs []), Attrs := ([] : List api_Attr), Kids := [({Name := (bs []), Text := (bs [120]), Attrs := ([] : List api_Attr), Kids := ([] : List dom_Part)} : dom_Part), ({Name := (bs [112]), Text := (bs []), Attrs := ([] : List api_Attr), Kids := ([] : List dom_Part)} : dom_Part)]} : dom_Part)).bind fun x18 =>
  some (x18.1, x18.2)
theorem law5_sample_ok (n : Nat) {f : Fz}  {res : (api_Tree × Int)}  (hm : law5_sample n = some res) : Does Try.prog 28 [] f [] (fun r f' L' => ∃ (u0 : List Value), L' = [] ∧ r = .tuple #[.agg u0.toArray, .int .i64 res.2] ∧ t_api_Tree.R f' u0 res.1) := by
 unfold law5_sample at hm
 intro w0 L w hC
 refine enter Try.func28 rfl Try.ntmps28 (by simp) hC fun a hs => ?_
 have hle := Fz.le.refl f
 refine W_seq fun K1 hK1 => ?_
 refine W_region ?_
 refine RL_alloc hs ti24 (.free rfl) (by decide) ?_; clear hs; (try clear a w); intro b1 a w hs
 replace hs : St _ _ _ (.blk b1 (.cells #[(.slice none 0 0)] 24 (0, 0)) :: L) _ _ _ := hs
 refine sy (v := .int .i64 (0)) hs (y_assign rfl) ?_; clear hs; (try clear a w); intro a w hs
 refine RL_nil ?_
 refine hK1 _ _ ?_; clear hK1
 refine W_seq fun K2 hK2 => ?_
 refine W_region ?_
 refine sy hs (y_buildS (places := [(0, 1), (1, 1), (2, 1), (3, 1)]) (cs := [.string ((bs [])), .string ((bs [120])), (.slice none 0 0), (.slice none 0 0)]) rfl Try.underlying35 ti35 (by kernel_rfl) (by decide) rfl ⟨rfl, trivial⟩) ?_; clear hs; (try clear a w); intro a w hs
 refine sy hs (y_buildS (places := [(0, 1), (1, 1), (2, 1), (3, 1)]) (cs := [.string ((bs [112])), .string ((bs [])), (.slice none 0 0), (.slice none 0 0)]) rfl Try.underlying35 ti35 (by kernel_rfl) (by decide) rfl ⟨rfl, trivial⟩) ?_; clear hs; (try clear a w); intro a w hs
 refine RL_bsN (parts := [(0, .tmp 2), (1, .tmp 3)]) (us := [.agg #[.string ((bs [])), .string ((bs [120])), (.slice none 0 0), (.slice none 0 0)], .agg #[.string ((bs [112])), .string ((bs [])), (.slice none 0 0), (.slice none 0 0)]]) (rows := [[.string ((bs [])), .string ((bs [120])), (.slice none 0 0), (.slice none 0 0)], [.string ((bs [112])), .string ((bs [])), (.slice none 0 0), (.slice none 0 0)]]) hs rfl Try.underlying33 ti35 (by decide) rfl rfl (by intro r hr; simp only [List.mem_cons, List.mem_nil_iff, or_false] at hr; rcases hr with rfl | rfl; exact AllC.row ⟨rfl, rfl, rfl, rfl, trivial⟩ rfl; exact AllC.row ⟨rfl, rfl, rfl, rfl, trivial⟩ rfl) ?_; clear hs; (try clear a w); intro v8 a w hs
 have hW9 : RW t_dom_Part f [[.string ((bs [])), .string ((bs [120])), (.slice none 0 0), (.slice none 0 0)], [.string ((bs [112])), .string ((bs [])), (.slice none 0 0), (.slice none 0 0)]] [({Name := (bs []), Text := (bs [120]), Attrs := ([] : List api_Attr), Kids := ([] : List dom_Part)} : dom_Part), ({Name := (bs [112]), Text := (bs []), Attrs := ([] : List api_Attr), Kids := ([] : List dom_Part)} : dom_Part)] := ⟨R_dom_Part.of (x := ({Name := (bs []), Text := (bs [120]), Attrs := ([] : List api_Attr), Kids := ([] : List dom_Part)} : dom_Part)) RS.nil RS.nil, ⟨R_dom_Part.of (x := ({Name := (bs [112]), Text := (bs []), Attrs := ([] : List api_Attr), Kids := ([] : List dom_Part)} : dom_Part)) RS.nil RS.nil, trivial⟩⟩
 generalize hgrw10 : ([[.string ((bs [])), .string ((bs [120])), (.slice none 0 0), (.slice none 0 0)], [.string ((bs [112])), .string ((bs [])), (.slice none 0 0), (.slice none 0 0)]] : List (List Value)) = rw10 at hs hW9; clear hgrw10
 replace hs : St _ _ _ (.row v8 35 4 rw10 :: .blk b1 (.cells #[(.slice none 0 0)] 24 (0, 0)) :: L) _ _ _ := hs
 refine sy hs (y_buildS (places := [(0, 1), (1, 1), (2, 1), (3, 1)]) (cs := [.string ((bs [100, 105, 118])), .string ((bs [])), (.slice none 0 0), v8]) rfl Try.underlying35 ti35 (by kernel_rfl) (by decide) rfl ⟨rfl, (hs.one (i := 0) rfl), trivial⟩) ?_; clear hs; (try clear a w); intro a w hs
 obtain ⟨f15, hf16, hs2, hR17⟩ := hs.frzAt 0 rfl
 clear hs; have hs := hs2; clear hs2
 replace hW9 := hW9.le hf16
 replace hle := hle.trans hf16
 replace hs : St _ _ _ (.blk b1 (.cells #[(.slice none 0 0)] 24 (0, 0)) :: L) _ _ _ := hs
 obtain ⟨x18, hx19, hm⟩ := ob hm
 refine RL_callV hs rfl has16 rfl (dom_Make_ok n (f := f15) (a0 := [.string ((bs [100, 105, 118])), .string ((bs [])), (.slice none 0 0), v8]) (R_dom_Part.of (x := ({Name := (bs [100, 105, 118]), Text := (bs []), Attrs := ([] : List api_Attr), Kids := [({Name := (bs []), Text := (bs [120]), Attrs := ([] : List api_Attr), Kids := ([] : List dom_Part)} : dom_Part), ({Name := (bs [112]), Text := (bs []), Attrs := ([] : List api_Attr), Kids := ([] : List dom_Part)} : dom_Part)]} : dom_Part)) RS.nil ⟨rw10, hR17, hW9⟩) hx19) ?_; clear hs; (try clear a w)
 rintro _ f20 _ a w hf21 ⟨r22, rfl, rfl, hq23⟩ hs
 replace hW9 := hW9.le hf21
 replace hR17 := hR17.le hf21
 replace hle := hle.trans hf21
 obtain ⟨v24, rfl, ⟨rw25, hR26, hW27⟩⟩ := hq23
 replace hs : St _ _ _ (.blk b1 (.cells #[(.slice none 0 0)] 24 (0, 0)) :: L) _ _ _ := hs
 refine sy (v := .agg #[v24]) hs (y_extract rfl rfl) ?_; clear hs; (try clear a w); intro a w hs
 refine sy (v := .int .i64 (x18.2)) hs (y_extract rfl rfl) ?_; clear hs; (try clear a w); intro a w hs
 refine RL_storeAll (i := 0) hs rfl rfl rfl ti24 ⟨rfl, rfl⟩ (AllC.arr (r := [v24]) ⟨hR26.one, trivial⟩) (.free rfl) ?_; clear hs; (try clear a w); intro a w hs
 replace hs : St _ _ _ (.blk b1 (.cells #[v24] 24 (0, 0)) :: L) _ _ _ := hs
 refine sy (v := .int .i64 (x18.2)) hs (y_assign rfl) ?_; clear hs; (try clear a w); intro a w hs
 refine RL_nil ?_
 refine hK2 _ _ ?_; clear hK2
 refine W_ret ?_
 obtain rfl := Option.some.inj hm
 refine RtV2 hs rfl (rv_a hs rfl Try.underlying24 rfl ti24 (fun j u hj => Cell.blk (.head _) hj) rfl) (rv_t hs rfl) ?_
 exact ⟨_, f20, [], rfl, hle, (hs.subL (.cons _ (.refl _))).cw, [v24], rfl, rfl, ⟨_, rfl, ⟨rw25, hR26, hW27⟩⟩⟩
/-! casement/casementlaw5.known -/
def law5_known_k1 (y15 : Bool) : Option Bool :=
  some y15
def law5_known (n : Nat) : Option Bool :=
  (law5_sample n).bind fun x1 =>
  (bif (decide (x1.2 = 0)) then (bif (decide ((x1.1.Nodes.length : Int) = 3)) then (geti x1.1.Nodes 0).bind fun x18 =>
  (bif (decide (x18.First = 1)) then (geti x1.1.Nodes 0).bind fun x31 =>
  (bif (decide (x31.Last = 2)) then (geti x1.1.Nodes 2).bind fun x44 =>
  (bif (decide (x44.Prev = 1)) then (geti x1.1.Nodes 2).bind fun x57 =>
  (bif (decide (x57.Parent = 0)) then (dom_Right n x1.1).bind fun x70 =>
  (bif (decide (x70 = 0)) then (dom_Depth n x1.1 2).bind fun x73 =>
  (bif (decide (x73 = 2)) then (dom_Index n x1.1 2).bind fun x76 =>
  law5_known_k1 (decide (x76 = 1)) else
  law5_known_k1 false) else
  law5_known_k1 false) else
  law5_known_k1 false) else
  law5_known_k1 false) else
  law5_known_k1 false) else
  law5_known_k1 false) else
  law5_known_k1 false) else
  law5_known_k1 false)
theorem law5_known_ok (n : Nat) {f : Fz}  {res : Bool}  (hm : law5_known n = some res) : Gives Try.prog 10 [] f (.bool res) := by
 unfold law5_known at hm
 intro w0 L w hC
 refine enter Try.func10 rfl Try.ntmps10 (by simp) hC fun a hs => ?_
 have hle := Fz.le.refl f
 refine W_seq fun K1 hK1 => ?_
 refine W_region ?_
 refine sy (v := .bool (false)) hs (y_assign rfl) ?_; clear hs; (try clear a w); intro a w hs
 refine RL_nil ?_
 refine hK1 _ _ ?_; clear hK1
 refine W_seq fun K2 hK2 => ?_
 refine W_region ?_
 obtain ⟨x1, hx2, hm⟩ := ob hm
 refine RL_callV hs rfl has28 rfl (law5_sample_ok n (f := f)  hx2) ?_; clear hs; (try clear a w)
 rintro _ f3 _ a w hf4 ⟨r5, rfl, rfl, hq6⟩ hs
 replace hle := hle.trans hf4
 obtain ⟨v7, rfl, ⟨rw8, hR9, hW10⟩⟩ := hq6
 replace hs : St _ _ _ (L) _ _ _ := hs
 refine sy (v := .tuple #[.agg #[v7], .int .i64 (x1.2)]) hs (y_move rfl) ?_; clear hs; (try clear a w); intro a w hs
 refine sy (v := .agg #[v7]) hs (y_extract rfl rfl) ?_; clear hs; (try clear a w); intro a w hs
 refine sy (v := .int .i64 (x1.2)) hs (y_extract rfl rfl) ?_; clear hs; (try clear a w); intro a w hs
 refine RL_alloc hs ti24 (.free rfl) (by decide) ?_; clear hs; (try clear a w); intro b12 a w hs
 replace hs : St _ _ _ (.blk b12 (.cells #[(.slice none 0 0)] 24 (0, 0)) :: L) _ _ _ := hs
 refine RL_storeAll (i := 0) hs rfl rfl rfl ti24 ⟨rfl, rfl⟩ (AllC.arr (r := [v7]) ⟨hR9.one, trivial⟩) (.free rfl) ?_; clear hs; (try clear a w); intro a w hs
 replace hs : St _ _ _ (.blk b12 (.cells #[v7] 24 (0, 0)) :: L) _ _ _ := hs
 refine sy (v := .int .i64 (x1.2)) hs (y_assign rfl) ?_; clear hs; (try clear a w); intro a w hs
 refine RL_nil ?_
 refine hK2 _ _ ?_; clear hK2
 refine W_seq fun K3 hK3 => ?_
 refine W_post (fun a w => ∃ (y15 : Bool), law5_known_k1 y15 = some res ∧ St 62 w0 f3 (L) [(0, .bool (y15))] a w) ?_ ?_
 ·clear hs hm
  rintro a w ⟨y15, hm, hs⟩
  replace hs : St _ _ _ (L) _ _ _ := hs
  unfold law5_known_k1 at hm
  refine hK3 _ _ ?_; clear hK3
  refine W_ret ?_
  obtain rfl := Option.some.inj hm
  refine RtV1 hs rfl (rv_t hs rfl) ?_
  exact ⟨rfl, (hs.weak hle).cw⟩
 ·refine W_region ?_
  refine sy (v := .int .i64 (x1.2)) hs (y_move rfl) ?_; clear hs; (try clear a w); intro a w hs
  refine sy hs (y_eql rfl rfl) ?_; clear hs; (try clear a w); intro a w hs
  refine sy (v := .bool (decide (x1.2 = 0))) hs (y_move rfl) ?_; clear hs; (try clear a w); intro a w hs
  refine St.split hs (t := 9) rfl (fun hg16 hq => ?_) (fun hg16 hq => ?_)
  ·clear hs; have hs := hq; clear hq
   replace hm := oc_t hg16 hm
   refine syg (v := .pointer (some ⟨b12, 0, none⟩)) hs (y_fieldAddr rfl (FO.of (off := 0) Try.underlying24 rfl rfl ti22 (by decide))) ?_; clear hs; (try clear a w); intro a w hs
   refine syg (v := v7) hs (y_ld rfl Try.underlying22 rfl (Cell.blk (.head _) rfl)) ?_; clear hs; (try clear a w); intro a w hs
   refine syg hs (y_lenW hR9 hW10 rfl Try.underlying22) ?_; clear hs; (try clear a w); intro a w hs
   refine syg hs (y_eql rfl rfl) ?_; clear hs; (try clear a w); intro a w hs
   refine sy (v := .bool (decide ((x1.1.Nodes.length : Int) = 3))) hs (y_pick rfl rfl) ?_; clear hs; (try clear a w); intro a w hs
   refine sy (v := .bool (decide ((x1.1.Nodes.length : Int) = 3))) hs (y_move rfl) ?_; clear hs; (try clear a w); intro a w hs
   refine St.split hs (t := 15) rfl (fun hg17 hq => ?_) (fun hg17 hq => ?_)
   ·clear hs; have hs := hq; clear hq
    replace hm := oc_t hg17 hm
    refine syg (v := .pointer (some ⟨b12, 0, none⟩)) hs (y_fieldAddr rfl (FO.of (off := 0) Try.underlying24 rfl rfl ti22 (by decide))) ?_; clear hs; (try clear a w); intro a w hs
    refine syg (v := v7) hs (y_ld rfl Try.underlying22 rfl (Cell.blk (.head _) rfl)) ?_; clear hs; (try clear a w); intro a w hs
    obtain ⟨x18, hx19, hm⟩ := ob hm
    obtain ⟨r20, hr21, hq22, hi23, hb24⟩ := hW10.geti hx19
    obtain ⟨v25, rfl, ⟨rw26, hR27, hW28⟩⟩ := hq22
    refine syg hs (y_indexAddr hR9 rfl rfl hi23 hb24 Try.underlying22 ti59) ?_; clear hs; (try clear a w); intro a w hs
    refine syg (v := eaddr v7 9 ((0 : Int).toNat) 5) hs (y_fieldAddrE (i := (0 : Int).toNat) (j := 0) hR9 rfl hb24 (FO.of (off := 5) Try.underlying59 rfl rfl ti3 (by decide))) ?_; clear hs; (try clear a w); intro a w hs
    refine syg (v := .int .i64 (x18.First)) hs (y_loadE (i := (0 : Int).toNat) (j := 5) hR9.up rfl hr21 rfl Try.underlying3 rfl) ?_; clear hs; (try clear a w); intro a w hs
    refine syg hs (y_eql rfl rfl) ?_; clear hs; (try clear a w); intro a w hs
    refine sy (v := .bool (decide (x18.First = 1))) hs (y_pick rfl rfl) ?_; clear hs; (try clear a w); intro a w hs
    refine sy (v := .bool (decide (x18.First = 1))) hs (y_move rfl) ?_; clear hs; (try clear a w); intro a w hs
    refine St.split hs (t := 23) rfl (fun hg30 hq => ?_) (fun hg30 hq => ?_)
    ·clear hs; have hs := hq; clear hq
     replace hm := oc_t hg30 hm
     refine syg (v := .pointer (some ⟨b12, 0, none⟩)) hs (y_fieldAddr rfl (FO.of (off := 0) Try.underlying24 rfl rfl ti22 (by decide))) ?_; clear hs; (try clear a w); intro a w hs
     refine syg (v := v7) hs (y_ld rfl Try.underlying22 rfl (Cell.blk (.head _) rfl)) ?_; clear hs; (try clear a w); intro a w hs
     obtain ⟨x31, hx32, hm⟩ := ob hm
     obtain ⟨r33, hr34, hq35, hi36, hb37⟩ := hW10.geti hx32
     obtain ⟨v38, rfl, ⟨rw39, hR40, hW41⟩⟩ := hq35
     refine syg hs (y_indexAddr hR9 rfl rfl hi36 hb37 Try.underlying22 ti59) ?_; clear hs; (try clear a w); intro a w hs
     refine syg (v := eaddr v7 9 ((0 : Int).toNat) 6) hs (y_fieldAddrE (i := (0 : Int).toNat) (j := 0) hR9 rfl hb37 (FO.of (off := 6) Try.underlying59 rfl rfl ti3 (by decide))) ?_; clear hs; (try clear a w); intro a w hs
     refine syg (v := .int .i64 (x31.Last)) hs (y_loadE (i := (0 : Int).toNat) (j := 6) hR9.up rfl hr34 rfl Try.underlying3 rfl) ?_; clear hs; (try clear a w); intro a w hs
     refine syg hs (y_eql rfl rfl) ?_; clear hs; (try clear a w); intro a w hs
     refine sy (v := .bool (decide (x31.Last = 2))) hs (y_pick rfl rfl) ?_; clear hs; (try clear a w); intro a w hs
     refine sy (v := .bool (decide (x31.Last = 2))) hs (y_move rfl) ?_; clear hs; (try clear a w); intro a w hs
     refine St.split hs (t := 31) rfl (fun hg43 hq => ?_) (fun hg43 hq => ?_)
     ·clear hs; have hs := hq; clear hq
      replace hm := oc_t hg43 hm
      refine syg (v := .pointer (some ⟨b12, 0, none⟩)) hs (y_fieldAddr rfl (FO.of (off := 0) Try.underlying24 rfl rfl ti22 (by decide))) ?_; clear hs; (try clear a w); intro a w hs
      refine syg (v := v7) hs (y_ld rfl Try.underlying22 rfl (Cell.blk (.head _) rfl)) ?_; clear hs; (try clear a w); intro a w hs
      obtain ⟨x44, hx45, hm⟩ := ob hm
      obtain ⟨r46, hr47, hq48, hi49, hb50⟩ := hW10.geti hx45
      obtain ⟨v51, rfl, ⟨rw52, hR53, hW54⟩⟩ := hq48
      refine syg hs (y_indexAddr hR9 rfl rfl hi49 hb50 Try.underlying22 ti59) ?_; clear hs; (try clear a w); intro a w hs
      refine syg (v := eaddr v7 9 ((2 : Int).toNat) 7) hs (y_fieldAddrE (i := (2 : Int).toNat) (j := 0) hR9 rfl hb50 (FO.of (off := 7) Try.underlying59 rfl rfl ti3 (by decide))) ?_; clear hs; (try clear a w); intro a w hs
      refine syg (v := .int .i64 (x44.Prev)) hs (y_loadE (i := (2 : Int).toNat) (j := 7) hR9.up rfl hr47 rfl Try.underlying3 rfl) ?_; clear hs; (try clear a w); intro a w hs
      refine syg hs (y_eql rfl rfl) ?_; clear hs; (try clear a w); intro a w hs
      refine sy (v := .bool (decide (x44.Prev = 1))) hs (y_pick rfl rfl) ?_; clear hs; (try clear a w); intro a w hs
      refine sy (v := .bool (decide (x44.Prev = 1))) hs (y_move rfl) ?_; clear hs; (try clear a w); intro a w hs
      refine St.split hs (t := 39) rfl (fun hg56 hq => ?_) (fun hg56 hq => ?_)
      ·clear hs; have hs := hq; clear hq
       replace hm := oc_t hg56 hm
       refine syg (v := .pointer (some ⟨b12, 0, none⟩)) hs (y_fieldAddr rfl (FO.of (off := 0) Try.underlying24 rfl rfl ti22 (by decide))) ?_; clear hs; (try clear a w); intro a w hs
       refine syg (v := v7) hs (y_ld rfl Try.underlying22 rfl (Cell.blk (.head _) rfl)) ?_; clear hs; (try clear a w); intro a w hs
       obtain ⟨x57, hx58, hm⟩ := ob hm
       obtain ⟨r59, hr60, hq61, hi62, hb63⟩ := hW10.geti hx58
       obtain ⟨v64, rfl, ⟨rw65, hR66, hW67⟩⟩ := hq61
       refine syg hs (y_indexAddr hR9 rfl rfl hi62 hb63 Try.underlying22 ti59) ?_; clear hs; (try clear a w); intro a w hs
       refine syg (v := eaddr v7 9 ((2 : Int).toNat) 4) hs (y_fieldAddrE (i := (2 : Int).toNat) (j := 0) hR9 rfl hb63 (FO.of (off := 4) Try.underlying59 rfl rfl ti3 (by decide))) ?_; clear hs; (try clear a w); intro a w hs
       refine syg (v := .int .i64 (x57.Parent)) hs (y_loadE (i := (2 : Int).toNat) (j := 4) hR9.up rfl hr60 rfl Try.underlying3 rfl) ?_; clear hs; (try clear a w); intro a w hs
       refine syg hs (y_eql rfl rfl) ?_; clear hs; (try clear a w); intro a w hs
       refine sy (v := .bool (decide (x57.Parent = 0))) hs (y_pick rfl rfl) ?_; clear hs; (try clear a w); intro a w hs
       refine sy (v := .bool (decide (x57.Parent = 0))) hs (y_move rfl) ?_; clear hs; (try clear a w); intro a w hs
       refine St.split hs (t := 47) rfl (fun hg69 hq => ?_) (fun hg69 hq => ?_)
       ·clear hs; have hs := hq; clear hq
        replace hm := oc_t hg69 hm
        refine syg hs (y_ldB rfl Try.underlying24 rfl ti24 (.head _) rfl) ?_; clear hs; (try clear a w); intro a w hs
        obtain ⟨x70, hx71, hm⟩ := ob hm
        refine syg hs (y_call rfl has12 rfl (dom_Right_ok n (f := f3) (a0 := [v7]) ⟨_, rfl, ⟨rw8, hR9, hW10⟩⟩ hx71)) ?_; clear hs; (try clear a w); intro a w hs
        refine syg hs (y_eql rfl rfl) ?_; clear hs; (try clear a w); intro a w hs
        refine sy (v := .bool (decide (x70 = 0))) hs (y_pick rfl rfl) ?_; clear hs; (try clear a w); intro a w hs
        refine sy (v := .bool (decide (x70 = 0))) hs (y_move rfl) ?_; clear hs; (try clear a w); intro a w hs
        refine St.split hs (t := 52) rfl (fun hg72 hq => ?_) (fun hg72 hq => ?_)
        ·clear hs; have hs := hq; clear hq
         replace hm := oc_t hg72 hm
         refine syg hs (y_ldB rfl Try.underlying24 rfl ti24 (.head _) rfl) ?_; clear hs; (try clear a w); intro a w hs
         obtain ⟨x73, hx74, hm⟩ := ob hm
         refine syg hs (y_call rfl has25 rfl (dom_Depth_ok n (f := f3) (a0 := [v7]) ⟨_, rfl, ⟨rw8, hR9, hW10⟩⟩ hx74)) ?_; clear hs; (try clear a w); intro a w hs
         refine syg hs (y_eql rfl rfl) ?_; clear hs; (try clear a w); intro a w hs
         refine sy (v := .bool (decide (x73 = 2))) hs (y_pick rfl rfl) ?_; clear hs; (try clear a w); intro a w hs
         refine sy (v := .bool (decide (x73 = 2))) hs (y_move rfl) ?_; clear hs; (try clear a w); intro a w hs
         refine St.split hs (t := 57) rfl (fun hg75 hq => ?_) (fun hg75 hq => ?_)
         ·clear hs; have hs := hq; clear hq
          replace hm := oc_t hg75 hm
          refine syg hs (y_ldB rfl Try.underlying24 rfl ti24 (.head _) rfl) ?_; clear hs; (try clear a w); intro a w hs
          obtain ⟨x76, hx77, hm⟩ := ob hm
          refine syg hs (y_call rfl has27 rfl (dom_Index_ok n (f := f3) (a0 := [v7]) ⟨_, rfl, ⟨rw8, hR9, hW10⟩⟩ hx77)) ?_; clear hs; (try clear a w); intro a w hs
          refine syg hs (y_eql rfl rfl) ?_; clear hs; (try clear a w); intro a w hs
          refine sy (v := .bool (decide (x76 = 1))) hs (y_pick rfl rfl) ?_; clear hs; (try clear a w); intro a w hs
          refine sy (v := .bool (decide (x76 = 1))) hs (y_assign rfl) ?_; clear hs; (try clear a w); intro a w hs
          refine RL_nil ?_
          exact ⟨decide (x76 = 1), hm, hs.subs ⟨rfl, trivial⟩ (.cons _ (.refl _))⟩
         ·clear hs; have hs := hq; clear hq
          replace hm := oc_f hg75 hm
          refine sno hs ?_; clear hs; (try clear a w); intro a w hs
          refine sno hs ?_; clear hs; (try clear a w); intro a w hs
          refine sno hs ?_; clear hs; (try clear a w); intro a w hs
          refine sy (v := .bool (false)) hs (y_pick rfl rfl) ?_; clear hs; (try clear a w); intro a w hs
          refine sy (v := .bool (false)) hs (y_assign rfl) ?_; clear hs; (try clear a w); intro a w hs
          refine RL_nil ?_
          exact ⟨false, hm, hs.subs ⟨rfl, trivial⟩ (.cons _ (.refl _))⟩
        ·clear hs; have hs := hq; clear hq
         replace hm := oc_f hg72 hm
         refine sno hs ?_; clear hs; (try clear a w); intro a w hs
         refine sno hs ?_; clear hs; (try clear a w); intro a w hs
         refine sno hs ?_; clear hs; (try clear a w); intro a w hs
         refine sy (v := .bool (false)) hs (y_pick rfl rfl) ?_; clear hs; (try clear a w); intro a w hs
         refine sy (v := .bool (false)) hs (y_move rfl) ?_; clear hs; (try clear a w); intro a w hs
         refine sno hs ?_; clear hs; (try clear a w); intro a w hs
         refine sno hs ?_; clear hs; (try clear a w); intro a w hs
         refine sno hs ?_; clear hs; (try clear a w); intro a w hs
         refine sy (v := .bool (false)) hs (y_pick rfl rfl) ?_; clear hs; (try clear a w); intro a w hs
         refine sy (v := .bool (false)) hs (y_assign rfl) ?_; clear hs; (try clear a w); intro a w hs
         refine RL_nil ?_
         exact ⟨false, hm, hs.subs ⟨rfl, trivial⟩ (.cons _ (.refl _))⟩
       ·clear hs; have hs := hq; clear hq
        replace hm := oc_f hg69 hm
        refine sno hs ?_; clear hs; (try clear a w); intro a w hs
        refine sno hs ?_; clear hs; (try clear a w); intro a w hs
        refine sno hs ?_; clear hs; (try clear a w); intro a w hs
        refine sy (v := .bool (false)) hs (y_pick rfl rfl) ?_; clear hs; (try clear a w); intro a w hs
        refine sy (v := .bool (false)) hs (y_move rfl) ?_; clear hs; (try clear a w); intro a w hs
        refine sno hs ?_; clear hs; (try clear a w); intro a w hs
        refine sno hs ?_; clear hs; (try clear a w); intro a w hs
        refine sno hs ?_; clear hs; (try clear a w); intro a w hs
        refine sy (v := .bool (false)) hs (y_pick rfl rfl) ?_; clear hs; (try clear a w); intro a w hs
        refine sy (v := .bool (false)) hs (y_move rfl) ?_; clear hs; (try clear a w); intro a w hs
        refine sno hs ?_; clear hs; (try clear a w); intro a w hs
        refine sno hs ?_; clear hs; (try clear a w); intro a w hs
        refine sno hs ?_; clear hs; (try clear a w); intro a w hs
        refine sy (v := .bool (false)) hs (y_pick rfl rfl) ?_; clear hs; (try clear a w); intro a w hs
        refine sy (v := .bool (false)) hs (y_assign rfl) ?_; clear hs; (try clear a w); intro a w hs
        refine RL_nil ?_
        exact ⟨false, hm, hs.subs ⟨rfl, trivial⟩ (.cons _ (.refl _))⟩
      ·clear hs; have hs := hq; clear hq
       replace hm := oc_f hg56 hm
       refine sno hs ?_; clear hs; (try clear a w); intro a w hs
       refine sno hs ?_; clear hs; (try clear a w); intro a w hs
       refine sno hs ?_; clear hs; (try clear a w); intro a w hs
       refine sno hs ?_; clear hs; (try clear a w); intro a w hs
       refine sno hs ?_; clear hs; (try clear a w); intro a w hs
       refine sno hs ?_; clear hs; (try clear a w); intro a w hs
       refine sy (v := .bool (false)) hs (y_pick rfl rfl) ?_; clear hs; (try clear a w); intro a w hs
       refine sy (v := .bool (false)) hs (y_move rfl) ?_; clear hs; (try clear a w); intro a w hs
       refine sno hs ?_; clear hs; (try clear a w); intro a w hs
       refine sno hs ?_; clear hs; (try clear a w); intro a w hs
       refine sno hs ?_; clear hs; (try clear a w); intro a w hs
       refine sy (v := .bool (false)) hs (y_pick rfl rfl) ?_; clear hs; (try clear a w); intro a w hs
       refine sy (v := .bool (false)) hs (y_move rfl) ?_; clear hs; (try clear a w); intro a w hs
       refine sno hs ?_; clear hs; (try clear a w); intro a w hs
       refine sno hs ?_; clear hs; (try clear a w); intro a w hs
       refine sno hs ?_; clear hs; (try clear a w); intro a w hs
       refine sy (v := .bool (false)) hs (y_pick rfl rfl) ?_; clear hs; (try clear a w); intro a w hs
       refine sy (v := .bool (false)) hs (y_move rfl) ?_; clear hs; (try clear a w); intro a w hs
       refine sno hs ?_; clear hs; (try clear a w); intro a w hs
       refine sno hs ?_; clear hs; (try clear a w); intro a w hs
       refine sno hs ?_; clear hs; (try clear a w); intro a w hs
       refine sy (v := .bool (false)) hs (y_pick rfl rfl) ?_; clear hs; (try clear a w); intro a w hs
       refine sy (v := .bool (false)) hs (y_assign rfl) ?_; clear hs; (try clear a w); intro a w hs
       refine RL_nil ?_
       exact ⟨false, hm, hs.subs ⟨rfl, trivial⟩ (.cons _ (.refl _))⟩
     ·clear hs; have hs := hq; clear hq
      replace hm := oc_f hg43 hm
      refine sno hs ?_; clear hs; (try clear a w); intro a w hs
      refine sno hs ?_; clear hs; (try clear a w); intro a w hs
      refine sno hs ?_; clear hs; (try clear a w); intro a w hs
      refine sno hs ?_; clear hs; (try clear a w); intro a w hs
      refine sno hs ?_; clear hs; (try clear a w); intro a w hs
      refine sno hs ?_; clear hs; (try clear a w); intro a w hs
      refine sy (v := .bool (false)) hs (y_pick rfl rfl) ?_; clear hs; (try clear a w); intro a w hs
      refine sy (v := .bool (false)) hs (y_move rfl) ?_; clear hs; (try clear a w); intro a w hs
      refine sno hs ?_; clear hs; (try clear a w); intro a w hs
      refine sno hs ?_; clear hs; (try clear a w); intro a w hs
      refine sno hs ?_; clear hs; (try clear a w); intro a w hs
      refine sno hs ?_; clear hs; (try clear a w); intro a w hs
      refine sno hs ?_; clear hs; (try clear a w); intro a w hs
      refine sno hs ?_; clear hs; (try clear a w); intro a w hs
      refine sy (v := .bool (false)) hs (y_pick rfl rfl) ?_; clear hs; (try clear a w); intro a w hs
      refine sy (v := .bool (false)) hs (y_move rfl) ?_; clear hs; (try clear a w); intro a w hs
      refine sno hs ?_; clear hs; (try clear a w); intro a w hs
      refine sno hs ?_; clear hs; (try clear a w); intro a w hs
      refine sno hs ?_; clear hs; (try clear a w); intro a w hs
      refine sy (v := .bool (false)) hs (y_pick rfl rfl) ?_; clear hs; (try clear a w); intro a w hs
      refine sy (v := .bool (false)) hs (y_move rfl) ?_; clear hs; (try clear a w); intro a w hs
      refine sno hs ?_; clear hs; (try clear a w); intro a w hs
      refine sno hs ?_; clear hs; (try clear a w); intro a w hs
      refine sno hs ?_; clear hs; (try clear a w); intro a w hs
      refine sy (v := .bool (false)) hs (y_pick rfl rfl) ?_; clear hs; (try clear a w); intro a w hs
      refine sy (v := .bool (false)) hs (y_move rfl) ?_; clear hs; (try clear a w); intro a w hs
      refine sno hs ?_; clear hs; (try clear a w); intro a w hs
      refine sno hs ?_; clear hs; (try clear a w); intro a w hs
      refine sno hs ?_; clear hs; (try clear a w); intro a w hs
      refine sy (v := .bool (false)) hs (y_pick rfl rfl) ?_; clear hs; (try clear a w); intro a w hs
      refine sy (v := .bool (false)) hs (y_assign rfl) ?_; clear hs; (try clear a w); intro a w hs
      refine RL_nil ?_
      exact ⟨false, hm, hs.subs ⟨rfl, trivial⟩ (.cons _ (.refl _))⟩
    ·clear hs; have hs := hq; clear hq
     replace hm := oc_f hg30 hm
     refine sno hs ?_; clear hs; (try clear a w); intro a w hs
     refine sno hs ?_; clear hs; (try clear a w); intro a w hs
     refine sno hs ?_; clear hs; (try clear a w); intro a w hs
     refine sno hs ?_; clear hs; (try clear a w); intro a w hs
     refine sno hs ?_; clear hs; (try clear a w); intro a w hs
     refine sno hs ?_; clear hs; (try clear a w); intro a w hs
     refine sy (v := .bool (false)) hs (y_pick rfl rfl) ?_; clear hs; (try clear a w); intro a w hs
     refine sy (v := .bool (false)) hs (y_move rfl) ?_; clear hs; (try clear a w); intro a w hs
     refine sno hs ?_; clear hs; (try clear a w); intro a w hs
     refine sno hs ?_; clear hs; (try clear a w); intro a w hs
     refine sno hs ?_; clear hs; (try clear a w); intro a w hs
     refine sno hs ?_; clear hs; (try clear a w); intro a w hs
     refine sno hs ?_; clear hs; (try clear a w); intro a w hs
     refine sno hs ?_; clear hs; (try clear a w); intro a w hs
     refine sy (v := .bool (false)) hs (y_pick rfl rfl) ?_; clear hs; (try clear a w); intro a w hs
     refine sy (v := .bool (false)) hs (y_move rfl) ?_; clear hs; (try clear a w); intro a w hs
     refine sno hs ?_; clear hs; (try clear a w); intro a w hs
     refine sno hs ?_; clear hs; (try clear a w); intro a w hs
     refine sno hs ?_; clear hs; (try clear a w); intro a w hs
     refine sno hs ?_; clear hs; (try clear a w); intro a w hs
     refine sno hs ?_; clear hs; (try clear a w); intro a w hs
     refine sno hs ?_; clear hs; (try clear a w); intro a w hs
     refine sy (v := .bool (false)) hs (y_pick rfl rfl) ?_; clear hs; (try clear a w); intro a w hs
     refine sy (v := .bool (false)) hs (y_move rfl) ?_; clear hs; (try clear a w); intro a w hs
     refine sno hs ?_; clear hs; (try clear a w); intro a w hs
     refine sno hs ?_; clear hs; (try clear a w); intro a w hs
     refine sno hs ?_; clear hs; (try clear a w); intro a w hs
     refine sy (v := .bool (false)) hs (y_pick rfl rfl) ?_; clear hs; (try clear a w); intro a w hs
     refine sy (v := .bool (false)) hs (y_move rfl) ?_; clear hs; (try clear a w); intro a w hs
     refine sno hs ?_; clear hs; (try clear a w); intro a w hs
     refine sno hs ?_; clear hs; (try clear a w); intro a w hs
     refine sno hs ?_; clear hs; (try clear a w); intro a w hs
     refine sy (v := .bool (false)) hs (y_pick rfl rfl) ?_; clear hs; (try clear a w); intro a w hs
     refine sy (v := .bool (false)) hs (y_move rfl) ?_; clear hs; (try clear a w); intro a w hs
     refine sno hs ?_; clear hs; (try clear a w); intro a w hs
     refine sno hs ?_; clear hs; (try clear a w); intro a w hs
     refine sno hs ?_; clear hs; (try clear a w); intro a w hs
     refine sy (v := .bool (false)) hs (y_pick rfl rfl) ?_; clear hs; (try clear a w); intro a w hs
     refine sy (v := .bool (false)) hs (y_assign rfl) ?_; clear hs; (try clear a w); intro a w hs
     refine RL_nil ?_
     exact ⟨false, hm, hs.subs ⟨rfl, trivial⟩ (.cons _ (.refl _))⟩
   ·clear hs; have hs := hq; clear hq
    replace hm := oc_f hg17 hm
    refine sno hs ?_; clear hs; (try clear a w); intro a w hs
    refine sno hs ?_; clear hs; (try clear a w); intro a w hs
    refine sno hs ?_; clear hs; (try clear a w); intro a w hs
    refine sno hs ?_; clear hs; (try clear a w); intro a w hs
    refine sno hs ?_; clear hs; (try clear a w); intro a w hs
    refine sno hs ?_; clear hs; (try clear a w); intro a w hs
    refine sy (v := .bool (false)) hs (y_pick rfl rfl) ?_; clear hs; (try clear a w); intro a w hs
    refine sy (v := .bool (false)) hs (y_move rfl) ?_; clear hs; (try clear a w); intro a w hs
    refine sno hs ?_; clear hs; (try clear a w); intro a w hs
    refine sno hs ?_; clear hs; (try clear a w); intro a w hs
    refine sno hs ?_; clear hs; (try clear a w); intro a w hs
    refine sno hs ?_; clear hs; (try clear a w); intro a w hs
    refine sno hs ?_; clear hs; (try clear a w); intro a w hs
    refine sno hs ?_; clear hs; (try clear a w); intro a w hs
    refine sy (v := .bool (false)) hs (y_pick rfl rfl) ?_; clear hs; (try clear a w); intro a w hs
    refine sy (v := .bool (false)) hs (y_move rfl) ?_; clear hs; (try clear a w); intro a w hs
    refine sno hs ?_; clear hs; (try clear a w); intro a w hs
    refine sno hs ?_; clear hs; (try clear a w); intro a w hs
    refine sno hs ?_; clear hs; (try clear a w); intro a w hs
    refine sno hs ?_; clear hs; (try clear a w); intro a w hs
    refine sno hs ?_; clear hs; (try clear a w); intro a w hs
    refine sno hs ?_; clear hs; (try clear a w); intro a w hs
    refine sy (v := .bool (false)) hs (y_pick rfl rfl) ?_; clear hs; (try clear a w); intro a w hs
    refine sy (v := .bool (false)) hs (y_move rfl) ?_; clear hs; (try clear a w); intro a w hs
    refine sno hs ?_; clear hs; (try clear a w); intro a w hs
    refine sno hs ?_; clear hs; (try clear a w); intro a w hs
    refine sno hs ?_; clear hs; (try clear a w); intro a w hs
    refine sno hs ?_; clear hs; (try clear a w); intro a w hs
    refine sno hs ?_; clear hs; (try clear a w); intro a w hs
    refine sno hs ?_; clear hs; (try clear a w); intro a w hs
    refine sy (v := .bool (false)) hs (y_pick rfl rfl) ?_; clear hs; (try clear a w); intro a w hs
    refine sy (v := .bool (false)) hs (y_move rfl) ?_; clear hs; (try clear a w); intro a w hs
    refine sno hs ?_; clear hs; (try clear a w); intro a w hs
    refine sno hs ?_; clear hs; (try clear a w); intro a w hs
    refine sno hs ?_; clear hs; (try clear a w); intro a w hs
    refine sy (v := .bool (false)) hs (y_pick rfl rfl) ?_; clear hs; (try clear a w); intro a w hs
    refine sy (v := .bool (false)) hs (y_move rfl) ?_; clear hs; (try clear a w); intro a w hs
    refine sno hs ?_; clear hs; (try clear a w); intro a w hs
    refine sno hs ?_; clear hs; (try clear a w); intro a w hs
    refine sno hs ?_; clear hs; (try clear a w); intro a w hs
    refine sy (v := .bool (false)) hs (y_pick rfl rfl) ?_; clear hs; (try clear a w); intro a w hs
    refine sy (v := .bool (false)) hs (y_move rfl) ?_; clear hs; (try clear a w); intro a w hs
    refine sno hs ?_; clear hs; (try clear a w); intro a w hs
    refine sno hs ?_; clear hs; (try clear a w); intro a w hs
    refine sno hs ?_; clear hs; (try clear a w); intro a w hs
    refine sy (v := .bool (false)) hs (y_pick rfl rfl) ?_; clear hs; (try clear a w); intro a w hs
    refine sy (v := .bool (false)) hs (y_assign rfl) ?_; clear hs; (try clear a w); intro a w hs
    refine RL_nil ?_
    exact ⟨false, hm, hs.subs ⟨rfl, trivial⟩ (.cons _ (.refl _))⟩
  ·clear hs; have hs := hq; clear hq
   replace hm := oc_f hg16 hm
   refine sno hs ?_; clear hs; (try clear a w); intro a w hs
   refine sno hs ?_; clear hs; (try clear a w); intro a w hs
   refine sno hs ?_; clear hs; (try clear a w); intro a w hs
   refine sno hs ?_; clear hs; (try clear a w); intro a w hs
   refine sy (v := .bool (false)) hs (y_pick rfl rfl) ?_; clear hs; (try clear a w); intro a w hs
   refine sy (v := .bool (false)) hs (y_move rfl) ?_; clear hs; (try clear a w); intro a w hs
   refine sno hs ?_; clear hs; (try clear a w); intro a w hs
   refine sno hs ?_; clear hs; (try clear a w); intro a w hs
   refine sno hs ?_; clear hs; (try clear a w); intro a w hs
   refine sno hs ?_; clear hs; (try clear a w); intro a w hs
   refine sno hs ?_; clear hs; (try clear a w); intro a w hs
   refine sno hs ?_; clear hs; (try clear a w); intro a w hs
   refine sy (v := .bool (false)) hs (y_pick rfl rfl) ?_; clear hs; (try clear a w); intro a w hs
   refine sy (v := .bool (false)) hs (y_move rfl) ?_; clear hs; (try clear a w); intro a w hs
   refine sno hs ?_; clear hs; (try clear a w); intro a w hs
   refine sno hs ?_; clear hs; (try clear a w); intro a w hs
   refine sno hs ?_; clear hs; (try clear a w); intro a w hs
   refine sno hs ?_; clear hs; (try clear a w); intro a w hs
   refine sno hs ?_; clear hs; (try clear a w); intro a w hs
   refine sno hs ?_; clear hs; (try clear a w); intro a w hs
   refine sy (v := .bool (false)) hs (y_pick rfl rfl) ?_; clear hs; (try clear a w); intro a w hs
   refine sy (v := .bool (false)) hs (y_move rfl) ?_; clear hs; (try clear a w); intro a w hs
   refine sno hs ?_; clear hs; (try clear a w); intro a w hs
   refine sno hs ?_; clear hs; (try clear a w); intro a w hs
   refine sno hs ?_; clear hs; (try clear a w); intro a w hs
   refine sno hs ?_; clear hs; (try clear a w); intro a w hs
   refine sno hs ?_; clear hs; (try clear a w); intro a w hs
   refine sno hs ?_; clear hs; (try clear a w); intro a w hs
   refine sy (v := .bool (false)) hs (y_pick rfl rfl) ?_; clear hs; (try clear a w); intro a w hs
   refine sy (v := .bool (false)) hs (y_move rfl) ?_; clear hs; (try clear a w); intro a w hs
   refine sno hs ?_; clear hs; (try clear a w); intro a w hs
   refine sno hs ?_; clear hs; (try clear a w); intro a w hs
   refine sno hs ?_; clear hs; (try clear a w); intro a w hs
   refine sno hs ?_; clear hs; (try clear a w); intro a w hs
   refine sno hs ?_; clear hs; (try clear a w); intro a w hs
   refine sno hs ?_; clear hs; (try clear a w); intro a w hs
   refine sy (v := .bool (false)) hs (y_pick rfl rfl) ?_; clear hs; (try clear a w); intro a w hs
   refine sy (v := .bool (false)) hs (y_move rfl) ?_; clear hs; (try clear a w); intro a w hs
   refine sno hs ?_; clear hs; (try clear a w); intro a w hs
   refine sno hs ?_; clear hs; (try clear a w); intro a w hs
   refine sno hs ?_; clear hs; (try clear a w); intro a w hs
   refine sy (v := .bool (false)) hs (y_pick rfl rfl) ?_; clear hs; (try clear a w); intro a w hs
   refine sy (v := .bool (false)) hs (y_move rfl) ?_; clear hs; (try clear a w); intro a w hs
   refine sno hs ?_; clear hs; (try clear a w); intro a w hs
   refine sno hs ?_; clear hs; (try clear a w); intro a w hs
   refine sno hs ?_; clear hs; (try clear a w); intro a w hs
   refine sy (v := .bool (false)) hs (y_pick rfl rfl) ?_; clear hs; (try clear a w); intro a w hs
   refine sy (v := .bool (false)) hs (y_move rfl) ?_; clear hs; (try clear a w); intro a w hs
   refine sno hs ?_; clear hs; (try clear a w); intro a w hs
   refine sno hs ?_; clear hs; (try clear a w); intro a w hs
   refine sno hs ?_; clear hs; (try clear a w); intro a w hs
   refine sy (v := .bool (false)) hs (y_pick rfl rfl) ?_; clear hs; (try clear a w); intro a w hs
   refine sy (v := .bool (false)) hs (y_assign rfl) ?_; clear hs; (try clear a w); intro a w hs
   refine RL_nil ?_
   exact ⟨false, hm, hs.subs ⟨rfl, trivial⟩ (.cons _ (.refl _))⟩
end Go.Proofs.Ytekcbgnkikmhpaa
