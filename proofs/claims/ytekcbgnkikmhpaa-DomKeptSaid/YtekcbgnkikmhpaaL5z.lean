/-
  Walks and laws of this seat; the base is the text Base.
-/
import Derived.Test.YtekcbgnkikmhpaaL5c
import Derived.Test.YtekcbgnkikmhpaaG5y
namespace Go.Proofs.Ytekcbgnkikmhpaa
open Go.RowKit Go.Sl
set_option maxHeartbeats 4000000 in
set_option maxRecDepth 20000 in
theorem dom_Parts_1_byk {f0 : Fz} {slf : Int → api_Tree → Option dom_Part} (n : Nat) (slf_ok : ∀ {f : Fz} {p0 : Int} {cb0 : Nat} {q0 : api_Tree} {ca0 : List Value} {cb1 : Nat} {res : dom_Part} (_hf0 : Fz.le f0 f) (_ : t_api_Tree.R f ca0 q0) (_ : f cb0 = some (.cells ca0.toArray 24 (0, 0))) (_ : f cb1 = some (.cells #[.func (.func 43) #[] #[.pointer (some ⟨cb0, 0, none⟩), .pointer (some ⟨cb1, 0, none⟩)]] 74 (0, 0))) (_ : slf p0 q0 = some res), Does Try.prog 43 [.int .i64 p0, .pointer (some ⟨cb0, 0, none⟩), .pointer (some ⟨cb1, 0, none⟩)] f [] (fun r f' L' => ∃ (u0 : List Value), L' = [] ∧ r = .agg u0.toArray ∧ t_dom_Part.R (fy f0 f') u0 res)) {f : Fz} {p0 : Int} {cb0 : Nat} {q0 : api_Tree} {ca0 : List Value} {cb1 : Nat} {res : dom_Part} (hf0 : Fz.le f0 f) (hq0 : t_api_Tree.R f ca0 q0) (hc0 : f cb0 = some (.cells ca0.toArray 24 (0, 0))) (hc1 : f cb1 = some (.cells #[.func (.func 43) #[] #[.pointer (some ⟨cb0, 0, none⟩), .pointer (some ⟨cb1, 0, none⟩)]] 74 (0, 0))) (hm : dom_Parts_1_b slf n p0 q0 = some res) : Does Try.prog 43 [.int .i64 p0, .pointer (some ⟨cb0, 0, none⟩), .pointer (some ⟨cb1, 0, none⟩)] f [] (fun r f' L' => ∃ (u0 : List Value), L' = [] ∧ r = .agg u0.toArray ∧ t_dom_Part.R (fy f0 f') u0 res) := by
 unfold dom_Parts_1_b at hm
 intro w0 L w hC
 obtain ⟨v2, rfl, ⟨rw3, hR4, hW5⟩⟩ := hq0
 refine enter Try.func43 rfl Try.ntmps43 (by simp) hC fun a hs => ?_
 have hle := Fz.le.refl f
 refine W_seq fun K1 hK1 => ?_
 refine W_region ?_
 refine RL_alloc hs ti35 (.free rfl) (by decide) ?_; clear hs; (try clear a w); intro b8 a w hs
 replace hs : St _ _ _ (.blk b8 (.cells #[.string ((bs [])), .string ((bs [])), (.slice none 0 0), (.slice none 0 0)] 35 (0, 0)) :: L) _ _ _ := hs
 refine RL_nil ?_
 refine hK1 _ _ ?_; clear hK1
 refine W_seq fun K2 hK2 => ?_
 refine W_region ?_
 refine sy (v := .pointer (some ⟨cb0, 0, none⟩)) hs (y_fieldAddr rfl (FO.of (off := 0) Try.underlying24 rfl rfl ti22 (by decide))) ?_; clear hs; (try clear a w); intro a w hs
 refine sy (v := v2) hs (y_ld rfl Try.underlying22 rfl (Cell.fz hc0 rfl)) ?_; clear hs; (try clear a w); intro a w hs
 refine sy (v := .int .i64 (p0)) hs (y_move rfl) ?_; clear hs; (try clear a w); intro a w hs
 obtain ⟨x12, hx13, hm⟩ := ob hm
 obtain ⟨r14, hr15, hq16, hi17, hb18⟩ := hW5.geti hx13
 obtain ⟨v19, rfl, ⟨rw20, hR21, hW22⟩⟩ := hq16
 refine sy hs (y_indexAddr hR4 rfl rfl hi17 hb18 Try.underlying22 ti59) ?_; clear hs; (try clear a w); intro a w hs
 refine sy hs (y_loadRow hR4.up rfl hr15 Try.underlying59 rfl ti59) ?_; clear hs; (try clear a w); intro a w hs
 refine RL_alloc hs ti59 (.free rfl) (by decide) ?_; clear hs; (try clear a w); intro b24 a w hs
 replace hs : St _ _ _ (.blk b24 (.cells #[.int .i64 (0), .string ((bs [])), .string ((bs [])), (.slice none 0 0), .int .i64 (0), .int .i64 (0), .int .i64 (0), .int .i64 (0), .int .i64 (0)] 59 (0, 0)) :: .blk b8 (.cells #[.string ((bs [])), .string ((bs [])), (.slice none 0 0), (.slice none 0 0)] 35 (0, 0)) :: L) _ _ _ := hs
 refine RL_storeAll (i := 0) hs rfl rfl rfl ti59 ⟨rfl, rfl⟩ (AllC.arr (r := [.int .i64 (x12.Kind), .string (x12.Name), .string (x12.Text), v19, .int .i64 (x12.Parent), .int .i64 (x12.First), .int .i64 (x12.Last), .int .i64 (x12.Prev), .int .i64 (x12.Next)]) ⟨rfl, rfl, rfl, hR21.one, rfl, rfl, rfl, rfl, rfl, trivial⟩) (.free rfl) ?_; clear hs; (try clear a w); intro a w hs
 replace hs : St _ _ _ (.blk b24 (.cells #[.int .i64 (x12.Kind), .string (x12.Name), .string (x12.Text), v19, .int .i64 (x12.Parent), .int .i64 (x12.First), .int .i64 (x12.Last), .int .i64 (x12.Prev), .int .i64 (x12.Next)] 59 (0, 0)) :: .blk b8 (.cells #[.string ((bs [])), .string ((bs [])), (.slice none 0 0), (.slice none 0 0)] 35 (0, 0)) :: L) _ _ _ := hs
 refine RL_nil ?_
 refine hK2 _ _ ?_; clear hK2
 refine W_seq fun K3 hK3 => ?_
 have hbase39 := Fz.le.refl f
 refine W_post (fun a w => ∃ (f27 : Fz) (y31 : (List api_Attr)) (b30 : Nat) (v32 : Value), Fz.le f f27 ∧ dom_Parts_1_k1 n q0 slf x12 y31 = some res ∧ RS t_api_Attr (fy f0 f27) v32 y31 ∧ St 40 w0 f27 (.blk b30 (.cells #[.string (x12.Name), .string (x12.Text), v32, (.slice none 0 0)] 35 (0, 0)) :: .blk b24 (.cells #[.int .i64 (x12.Kind), .string (x12.Name), .string (x12.Text), v19, .int .i64 (x12.Parent), .int .i64 (x12.First), .int .i64 (x12.Last), .int .i64 (x12.Prev), .int .i64 (x12.Next)] 59 (0, 0)) :: .blk b8 (.cells #[.string ((bs [])), .string ((bs [])), (.slice none 0 0), (.slice none 0 0)] 35 (0, 0)) :: L) [(1, .pointer (some ⟨cb0, 0, none⟩)), (2, .pointer (some ⟨cb1, 0, none⟩)), (4, .pointer (some ⟨b8, 0, none⟩)), (5, .pointer (some ⟨b24, 0, none⟩)), (6, .pointer (some ⟨b30, 0, none⟩))] a w) ?_ ?_
 ·clear hs hm
  clear hbase39
  rintro a w ⟨f27, y31, b30, v32, hl28, hm, hs33, hs⟩
  first | replace hR4 := hR4.le hl28 | replace hR4 := hR4.le (fyl hl28)
  first | replace hW5 := hW5.le hl28 | replace hW5 := hW5.le (fyl hl28)
  replace hc0 := hl28 _ _ hc0
  replace hc1 := hl28 _ _ hc1
  first | replace hR21 := hR21.le hl28 | replace hR21 := hR21.le (fyl hl28)
  first | replace hW22 := hW22.le hl28 | replace hW22 := hW22.le (fyl hl28)
  replace hle := hle.trans hl28
  obtain ⟨rw34, hR35, hW36⟩ := hs33
  replace hs : St _ _ _ (.blk b30 (.cells #[.string (x12.Name), .string (x12.Text), v32, (.slice none 0 0)] 35 (0, 0)) :: .blk b24 (.cells #[.int .i64 (x12.Kind), .string (x12.Name), .string (x12.Text), v19, .int .i64 (x12.Parent), .int .i64 (x12.First), .int .i64 (x12.Last), .int .i64 (x12.Prev), .int .i64 (x12.Next)] 59 (0, 0)) :: .blk b8 (.cells #[.string ((bs [])), .string ((bs [])), (.slice none 0 0), (.slice none 0 0)] 35 (0, 0)) :: L) _ _ _ := hs
  unfold dom_Parts_1_k1 at hm
  refine hK3 _ _ ?_; clear hK3
  refine W_seq fun K4 hK4 => ?_
  refine W_seq fun K5 hK5 => ?_
  refine W_region ?_
  refine sy (v := .pointer (some ⟨b24, 5, none⟩)) hs (y_fieldAddr rfl (FO.of (off := 5) Try.underlying59 rfl rfl ti3 (by decide))) ?_; clear hs; (try clear a w); intro a w hs
  refine sy (v := .int .i64 (x12.First)) hs (y_ld rfl Try.underlying3 rfl (Cell.blk (.tail _ (.head _)) rfl)) ?_; clear hs; (try clear a w); intro a w hs
  refine sy (v := .int .i64 (x12.First)) hs (y_assign rfl) ?_; clear hs; (try clear a w); intro a w hs
  refine RL_nil ?_
  refine hK5 _ _ ?_; clear hK5
  have hbase48 := Fz.le.refl f27
  refine W_post (fun a w => ∃ (f40 : Fz) (y43 : (List dom_Part)) (v44 : Value) (rw45 : List (List Value)), Fz.le f27 f40 ∧ dom_Parts_1_k2 x12 y31 y43 = some res ∧ RW t_dom_Part (fy f0 f40) rw45 y43 ∧ St 40 w0 f40 (.row v44 35 4 rw45 :: .blk b30 (.cells #[.string (x12.Name), .string (x12.Text), v32, v44] 35 (0, 0)) :: .blk b8 (.cells #[.string ((bs [])), .string ((bs [])), (.slice none 0 0), (.slice none 0 0)] 35 (0, 0)) :: L) [(4, .pointer (some ⟨b8, 0, none⟩)), (6, .pointer (some ⟨b30, 0, none⟩))] a w) ?_ ?_
  ·clear hs hm
   clear hbase48
   rintro a w ⟨f40, y43, v44, rw45, hl41, hm, hW46, hs⟩
   first | replace hR4 := hR4.le hl41 | replace hR4 := hR4.le (fyl hl41)
   first | replace hW5 := hW5.le hl41 | replace hW5 := hW5.le (fyl hl41)
   replace hc0 := hl41 _ _ hc0
   replace hc1 := hl41 _ _ hc1
   first | replace hR21 := hR21.le hl41 | replace hR21 := hR21.le (fyl hl41)
   first | replace hW22 := hW22.le hl41 | replace hW22 := hW22.le (fyl hl41)
   first | replace hR35 := hR35.le hl41 | replace hR35 := hR35.le (fyl hl41)
   first | replace hW36 := hW36.le hl41 | replace hW36 := hW36.le (fyl hl41)
   replace hle := hle.trans hl41
   replace hs : St _ _ _ (.row v44 35 4 rw45 :: .blk b30 (.cells #[.string (x12.Name), .string (x12.Text), v32, v44] 35 (0, 0)) :: .blk b8 (.cells #[.string ((bs [])), .string ((bs [])), (.slice none 0 0), (.slice none 0 0)] 35 (0, 0)) :: L) _ _ _ := hs
   unfold dom_Parts_1_k2 at hm
   refine hK4 _ _ ?_; clear hK4
   refine W_seq fun K6 hK6 => ?_
   refine W_region ?_
   refine sy hs (y_ldB rfl Try.underlying35 rfl ti35 (.tail _ (.head _)) rfl) ?_; clear hs; (try clear a w); intro a w hs
   refine RL_storeAll (i := 2) hs rfl rfl rfl ti35 ⟨rfl, rfl⟩ (AllC.arr (r := [.string (x12.Name), .string (x12.Text), v32, v44]) ⟨rfl, rfl, hR35.one, (hs.one (i := 0) rfl), trivial⟩) (.free rfl) ?_; clear hs; (try clear a w); intro a w hs
   replace hs : St _ _ _ (.row v44 35 4 rw45 :: .blk b30 (.cells #[.string (x12.Name), .string (x12.Text), v32, v44] 35 (0, 0)) :: .blk b8 (.cells #[.string (x12.Name), .string (x12.Text), v32, v44] 35 (0, 0)) :: L) _ _ _ := hs
   refine RL_nil ?_
   refine hK6 _ _ ?_; clear hK6
   refine W_ret ?_
   obtain ⟨f49, hf50, hs2, hR51⟩ := hs.frzY 0 rfl (hf0.trans hle)
   clear hs; have hs := hs2; clear hs2
   first | replace hR4 := hR4.le hf50 | replace hR4 := hR4.le (fyl hf50)
   first | replace hW5 := hW5.le hf50 | replace hW5 := hW5.le (fyl hf50)
   replace hc0 := hf50 _ _ hc0
   replace hc1 := hf50 _ _ hc1
   first | replace hR35 := hR35.le hf50 | replace hR35 := hR35.le (fyl hf50)
   first | replace hW36 := hW36.le hf50 | replace hW36 := hW36.le (fyl hf50)
   first | replace hW46 := hW46.le hf50 | replace hW46 := hW46.le (fyl hf50)
   replace hle := hle.trans hf50
   replace hs : St _ _ _ (.blk b30 (.cells #[.string (x12.Name), .string (x12.Text), v32, v44] 35 (0, 0)) :: .blk b8 (.cells #[.string (x12.Name), .string (x12.Text), v32, v44] 35 (0, 0)) :: L) _ _ _ := hs
   obtain rfl := Option.some.inj hm
   refine RtV1 hs rfl (rv_a hs rfl Try.underlying35 rfl ti35 (fun j u hj => Cell.blk (.tail _ (.head _)) hj) rfl) ?_
   exact ⟨_, f49, [], rfl, hle, (hs.subL (.cons _ (.cons _ (.refl _)))).cw, [.string (x12.Name), .string (x12.Text), v32, v44], rfl, rfl, R_dom_Part.of (x := ({Name := x12.Name, Text := x12.Text, Attrs := y31, Kids := y43} : dom_Part)) ⟨rw34, hR35, hW36⟩ ⟨rw45, hR51, hW46⟩⟩
  ·refine W_block fun Qe7 hB7 hO7 => ?_
   have hbase := Fz.le.refl f27
   replace hs := hs.nilRow 35 4
   have hW61 : RW t_dom_Part (fy f0 f27) [] ([] : List dom_Part) := trivial
   generalize hgrw62 : ([] : List (List Value)) = rw62 at hs hW61; clear hgrw62
   replace hs : St _ _ _ (.row (.slice none 0 0) 35 4 rw62 :: .blk b30 (.cells #[.string (x12.Name), .string (x12.Text), v32, (.slice none 0 0)] 35 (0, 0)) :: .blk b24 (.cells #[.int .i64 (x12.Kind), .string (x12.Name), .string (x12.Text), v19, .int .i64 (x12.Parent), .int .i64 (x12.First), .int .i64 (x12.Last), .int .i64 (x12.Prev), .int .i64 (x12.Next)] 59 (0, 0)) :: .blk b8 (.cells #[.string ((bs [])), .string ((bs [])), (.slice none 0 0), (.slice none 0 0)] 35 (0, 0)) :: L) _ _ _ := hs
   replace hs : St _ _ _ (.row (.slice none 0 0) 35 4 rw62 :: .blk b30 (.cells #[.string (x12.Name), .string (x12.Text), v32, (.slice none 0 0)] 35 (0, 0)) :: .blk b24 (.cells #[.int .i64 (x12.Kind), .string (x12.Name), .string (x12.Text), v19, .int .i64 (x12.Parent), .int .i64 (x12.First), .int .i64 (x12.Last), .int .i64 (x12.Prev), .int .i64 (x12.Next)] 59 (0, 0)) :: .blk b8 (.cells #[.string ((bs [])), .string ((bs [])), (.slice none 0 0), (.slice none 0 0)] 35 (0, 0)) :: L) _ _ _ := hs
   refine W_loop (fun (k : Nat) a w => ∃ (f52 : Fz) (y55 : (List dom_Part)) (y60 : Int) (v56 : Value) (rw57 : List (List Value)), Fz.le f27 f52 ∧ dom_Parts_1_l3 q0 slf x12 y31 k y55 y60 = some res ∧ RW t_dom_Part (fy f0 f52) rw57 y55 ∧ St 40 w0 f52 (.row v56 35 4 rw57 :: .blk b30 (.cells #[.string (x12.Name), .string (x12.Text), v32, v56] 35 (0, 0)) :: .blk b8 (.cells #[.string ((bs [])), .string ((bs [])), (.slice none 0 0), (.slice none 0 0)] 35 (0, 0)) :: L) [(1, .pointer (some ⟨cb0, 0, none⟩)), (2, .pointer (some ⟨cb1, 0, none⟩)), (4, .pointer (some ⟨b8, 0, none⟩)), (6, .pointer (some ⟨b30, 0, none⟩)), (7, .int .i64 (y60))] a w) (fun k => k) n ⟨_, ([] : List dom_Part), x12.First, (.slice none 0 0), rw62, (Fz.le.refl _), hm, hW61, hs.subs ⟨rfl, rfl, rfl, rfl, rfl, trivial⟩ (.cons_cons _ (.cons_cons _ (.cons _ (.cons_cons _ (.refl _)))))⟩ ?_
   clear hs hm
   intro k
   rintro a w ⟨f52, y55, y60, v56, rw57, hl53, hm, hW58, hs⟩
   first | replace hR4 := hR4.le hl53 | replace hR4 := hR4.le (fyl hl53)
   first | replace hW5 := hW5.le hl53 | replace hW5 := hW5.le (fyl hl53)
   replace hc0 := hl53 _ _ hc0
   replace hc1 := hl53 _ _ hc1
   first | replace hR21 := hR21.le hl53 | replace hR21 := hR21.le (fyl hl53)
   first | replace hW22 := hW22.le hl53 | replace hW22 := hW22.le (fyl hl53)
   first | replace hR35 := hR35.le hl53 | replace hR35 := hR35.le (fyl hl53)
   first | replace hW36 := hW36.le hl53 | replace hW36 := hW36.le (fyl hl53)
   replace hle := hle.trans hl53
   replace hbase48 := hbase48.trans hl53
   replace hs : St _ _ _ (.row v56 35 4 rw57 :: .blk b30 (.cells #[.string (x12.Name), .string (x12.Text), v32, v56] 35 (0, 0)) :: .blk b8 (.cells #[.string ((bs [])), .string ((bs [])), (.slice none 0 0), (.slice none 0 0)] 35 (0, 0)) :: L) _ _ _ := hs
   intro K8 hK8
   cases k with
   | zero => simp [dom_Parts_1_l3] at hm
   | succ k65 =>
    rw [dom_Parts_1_l3] at hm
    have hbase66 := hl53
    refine W_seq fun K9 hK9 => ?_
    refine W_seq fun K10 hK10 => ?_
    refine W_region ?_
    refine sy (v := .int .i64 (y60)) hs (y_move rfl) ?_; clear hs; (try clear a w); intro a w hs
    refine sy hs (y_neq rfl rfl) ?_; clear hs; (try clear a w); intro a w hs
    refine RL_nil ?_
    refine hK10 _ _ ?_; clear hK10
    refine W_cond hs rfl (fun hg67 => ?_) (fun hg67 => ?_)
    ·replace hm := oc_t hg67 hm
     refine W_skip ?_
     refine hK9 _ _ ?_; clear hK9
     refine W_seq fun K11 hK11 => ?_
     refine W_block fun Qe12 hB12 hO12 => ?_
     have hsD := hs.subL (L' := .blk b30 (.cells #[.string (x12.Name), .string (x12.Text), v32, v56] 35 (0, 0)) :: []) (.cons _ (.cons_cons _ (.cons _ (List.nil_sublist _))))
     refine T_start hs (.blk b30 (.cells #[.string (x12.Name), .string (x12.Text), v32, v56] 35 (0, 0)) :: []) [8] (.look 0 (.look 1 (.look 2 (.look 3 (.any [4] (fun _ => .any [5] (fun _ => .any [6] (fun _ => .look 7 (.any [8] (fun _ => .done)))))))))) mixed (by kernel_rfl) ?_; clear hs; (try clear a w); intro a he
     refine uy (v := .pointer (some ⟨b30, 3, none⟩)) 0 he rfl (y_fieldAddr rfl (FO.of (off := 3) Try.underlying35 rfl rfl ti33 (by decide))) ?_; clear he; (try clear a); intro a he
     refine uy (v := v56) 1 he rfl (y_ld rfl Try.underlying33 rfl (Cell.blk (.head _) rfl)) ?_; clear he; (try clear a); intro a he
     refine uy (v := .func (.func 43) #[] #[.pointer (some ⟨cb0, 0, none⟩), .pointer (some ⟨cb1, 0, none⟩)]) 2 he rfl (y_ld rfl Try.underlying74 rfl (Cell.fz hc1 rfl)) ?_; clear he; (try clear a); intro a he
     refine uy (v := .int .i64 (y60)) 3 he rfl (y_move rfl) ?_; clear he; (try clear a); intro a he
     refine T_any1 he rfl ?_; clear he; (try clear a); intro a w hs
     obtain ⟨x68, hx69, hm⟩ := ob hm
     refine RL_callVK hs rfl has43 rfl (slf_ok (_hf0 := hf0.trans hle) (f := f52) (cb0 := cb0) (ca0 := [v2]) (cb1 := cb1) ⟨_, rfl, ⟨rw3, hR4, hW5⟩⟩ hc0 hc1 hx69) ?_; clear hs; (try clear a w)
     rintro _ f70 _ a w hf71 ⟨r72, rfl, rfl, hq73⟩ hs
     first | have hR74 := hR4.le hf71 | have hR74 := hR4.le (fyl hf71)
     first | have hW75 := hW5.le hf71 | have hW75 := hW5.le (fyl hf71)
     have hc76 := hf71 _ _ hc0
     have hc77 := hf71 _ _ hc1
     first | have hR78 := hR21.le hf71 | have hR78 := hR21.le (fyl hf71)
     first | have hW79 := hW22.le hf71 | have hW79 := hW22.le (fyl hf71)
     first | have hR80 := hR35.le hf71 | have hR80 := hR35.le (fyl hf71)
     first | have hW81 := hW36.le hf71 | have hW81 := hW36.le (fyl hf71)
     first | have hW82 := hW58.le hf71 | have hW82 := hW58.le (fyl hf71)
     replace hle := hle.trans hf71
     replace hbase48 := hbase48.trans hf71
     replace hbase66 := hbase66.trans hf71
     obtain ⟨v83, v88, rfl, ⟨rw84, hR85, hW86⟩, ⟨rw89, hR90, hW91⟩⟩ := R_dom_Part.ex hq73
     replace hs : St _ _ _ (.row v56 35 4 rw57 :: .blk b30 (.cells #[.string (x12.Name), .string (x12.Text), v32, v56] 35 (0, 0)) :: .blk b8 (.cells #[.string ((bs [])), .string ((bs [])), (.slice none 0 0), (.slice none 0 0)] 35 (0, 0)) :: L) _ _ _ := hs
     refine uon hs ?_; clear hs; (try clear a w); intro a he
     refine T_any1 he rfl ?_; clear he; (try clear a); intro a w hs
     refine RL_bs1a hs rfl Try.underlying33 ti35 (by decide) (AllC.row ⟨rfl, rfl, hR85.one, hR90.one, trivial⟩ rfl) ?_; clear hs; (try clear a w); intro v93 a w hs
     have hW94 : RW t_dom_Part (fy f0 f70) [[.string (x68.Name), .string (x68.Text), v83, v88]] [x68] := RW.single (R_dom_Part.of (x := x68) ⟨rw84, hR85, hW86⟩ ⟨rw89, hR90, hW91⟩)
     generalize hgrw95 : ([[.string (x68.Name), .string (x68.Text), v83, v88]] : List (List Value)) = rw95 at hs hW94; clear hgrw95
     replace hs : St _ _ _ (.row v93 35 4 rw95 :: .row v56 35 4 rw57 :: .blk b30 (.cells #[.string (x12.Name), .string (x12.Text), v32, v56] 35 (0, 0)) :: .blk b8 (.cells #[.string ((bs [])), .string ((bs [])), (.slice none 0 0), (.slice none 0 0)] 35 (0, 0)) :: L) _ _ _ := hs
     have ho98 : v93.oneCell' = true := hs.one (i := 0) rfl
     refine uon hs ?_; clear hs; (try clear a w); intro a he
     refine T_any1 he rfl ?_; clear he; (try clear a); intro a w hs
     obtain ⟨x99, hx100, hm⟩ := ob hm
     obtain ⟨hbx99, hex99⟩ := appM_some hx100
     have hW103 := hW82.append hW94; rw [hex99] at hW103
     refine RL_append (i := 1) hs rfl rfl rfl (Rd.st hs (.head _)) Try.underlying33 ti35 (by decide) (by rw [RW.len hW82, RW.len hW94]; exact hbx99) (.free rfl) (by decide) ?_; clear hs; (try clear a w); intro v101 a w hs
     generalize hgx99 : rw57 ++ rw95 = rw102 at hs hW103; clear hgx99
     replace hs := hs.erase 0
     replace hs : St _ _ _ (.row v101 35 4 rw102 :: .blk b30 (.cells #[.string (x12.Name), .string (x12.Text), v32, v56] 35 (0, 0)) :: .blk b8 (.cells #[.string ((bs [])), .string ((bs [])), (.slice none 0 0), (.slice none 0 0)] 35 (0, 0)) :: L) _ _ _ := hs
     have ho105 : v101.oneCell' = true := hs.one (i := 0) rfl
     refine uon hs ?_; clear hs; (try clear a w); intro a he
     refine uy (v := .pointer (some ⟨b30, 3, none⟩)) 7 he rfl (y_fieldAddr rfl (FO.of (off := 3) Try.underlying35 rfl rfl ti33 (by decide))) ?_; clear he; (try clear a); intro a he
     refine T_any1 he rfl ?_; clear he; (try clear a); intro a w hs
     refine sstore 1 hs rfl rfl rfl ti33 ho105 ?_; clear hs; (try clear a w); intro a w hs
     replace hs : St _ _ _ (.row v101 35 4 rw102 :: .blk b30 (.cells #[.string (x12.Name), .string (x12.Text), v32, v101] 35 (0, 0)) :: .blk b8 (.cells #[.string ((bs [])), .string ((bs [])), (.slice none 0 0), (.slice none 0 0)] 35 (0, 0)) :: L) _ _ _ := hs
     refine uend hs ?_; clear hs; (try clear a w); intro a he
     refine T_nil he ?_; clear he; (try clear a); intro w hs; try clear hsD
     refine hK11 _ _ ?_; clear hK11
     refine W_region ?_
     refine sy (v := .pointer (some ⟨cb0, 0, none⟩)) hs (y_fieldAddr rfl (FO.of (off := 0) Try.underlying24 rfl rfl ti22 (by decide))) ?_; clear hs; (try clear a w); intro a w hs
     refine sy (v := v2) hs (y_ld rfl Try.underlying22 rfl (Cell.fz hc76 rfl)) ?_; clear hs; (try clear a w); intro a w hs
     refine sy (v := .int .i64 (y60)) hs (y_move rfl) ?_; clear hs; (try clear a w); intro a w hs
     obtain ⟨x106, hx107, hm⟩ := ob hm
     obtain ⟨r108, hr109, hq110, hi111, hb112⟩ := hW75.geti hx107
     obtain ⟨v113, rfl, ⟨rw114, hR115, hW116⟩⟩ := hq110
     refine sy hs (y_indexAddr hR74 rfl rfl hi111 hb112 Try.underlying22 ti59) ?_; clear hs; (try clear a w); intro a w hs
     refine sy (v := eaddr v2 9 y60.toNat 8) hs (y_fieldAddrE (i := y60.toNat) (j := 0) hR74 rfl hb112 (FO.of (off := 8) Try.underlying59 rfl rfl ti3 (by decide))) ?_; clear hs; (try clear a w); intro a w hs
     refine sy (v := .int .i64 (x106.Next)) hs (y_loadE (i := y60.toNat) (j := 8) hR74.up rfl hr109 rfl Try.underlying3 rfl) ?_; clear hs; (try clear a w); intro a w hs
     refine sy (v := .int .i64 (x106.Next)) hs (y_assign rfl) ?_; clear hs; (try clear a w); intro a w hs
     refine RL_nil ?_
     exact hK8 k65 _ _ (Nat.lt_succ_self _) ⟨_, x99, x106.Next, v101, rw102, hbase66, hm, hW103, hs.sub ⟨rfl, rfl, rfl, rfl, rfl, trivial⟩⟩
    ·replace hm := oc_f hg67 hm
     refine W_exit ?_
     refine hB7 _ _ ?_
     exact ⟨_, y55, v56, rw57, hbase48, hm, hW58, hs.sub ⟨rfl, rfl, trivial⟩⟩
 ·have hsD := hs.subL (L' := .blk b24 (.cells #[.int .i64 (x12.Kind), .string (x12.Name), .string (x12.Text), v19, .int .i64 (x12.Parent), .int .i64 (x12.First), .int .i64 (x12.Last), .int .i64 (x12.Prev), .int .i64 (x12.Next)] 59 (0, 0)) :: []) (.cons_cons _ (.cons _ (List.nil_sublist _)))
  refine T_start hs (.blk b24 (.cells #[.int .i64 (x12.Kind), .string (x12.Name), .string (x12.Text), v19, .int .i64 (x12.Parent), .int .i64 (x12.First), .int .i64 (x12.Last), .int .i64 (x12.Prev), .int .i64 (x12.Next)] 59 (0, 0)) :: []) [9] (.look 0 (.look 1 (.look 2 (.look 3 (.look 4 (.look 5 (.any [6, 8] (fun i => bif Nat.beq i 6 then .look 7 (.any [8] (fun _ => .any [9] (fun _ => .done))) else .any [6] (fun _ => .look 7 (.any [9] (fun _ => .done))))))))))) mixed (by kernel_rfl) ?_; clear hs; (try clear a w); intro a he
  refine uy (v := .pointer (some ⟨b24, 1, none⟩)) 0 he rfl (y_fieldAddr rfl (FO.of (off := 1) Try.underlying59 rfl rfl ti9 (by decide))) ?_; clear he; (try clear a); intro a he
  refine uy (v := .string (x12.Name)) 1 he rfl (y_ld rfl Try.underlying9 rfl (Cell.blk (.head _) rfl)) ?_; clear he; (try clear a); intro a he
  refine uy (v := .pointer (some ⟨b24, 2, none⟩)) 2 he rfl (y_fieldAddr rfl (FO.of (off := 2) Try.underlying59 rfl rfl ti9 (by decide))) ?_; clear he; (try clear a); intro a he
  refine uy (v := .string (x12.Text)) 3 he rfl (y_ld rfl Try.underlying9 rfl (Cell.blk (.head _) rfl)) ?_; clear he; (try clear a); intro a he
  refine uy (v := .pointer (some ⟨b24, 3, none⟩)) 4 he rfl (y_fieldAddr rfl (FO.of (off := 3) Try.underlying59 rfl rfl ti32 (by decide))) ?_; clear he; (try clear a); intro a he
  refine uy (v := v19) 5 he rfl (y_ld rfl Try.underlying32 rfl (Cell.blk (.head _) rfl)) ?_; clear he; (try clear a); intro a he
  refine T_any2 he rfl rfl ?_ ?_ <;> (clear he; (try clear a); intro a w hs)
  ·obtain ⟨x118, hx119, hm⟩ := ob hm
   refine RL_callV hs rfl has41 rfl (slices_Clone_y n (hf0 := hf0.trans hle) (f := f) (a0 := v19) ⟨rw20, hR21, hW22⟩ hx119) ?_; clear hs; (try clear a w)
   rintro v122 f120 _ a w hf121 ⟨_, rfl, rfl, ⟨rw123, hR124, hW125⟩⟩ hs
   first | have hR126 := hR4.le hf121 | have hR126 := hR4.le (fyl hf121)
   first | have hW127 := hW5.le hf121 | have hW127 := hW5.le (fyl hf121)
   have hc128 := hf121 _ _ hc0
   have hc129 := hf121 _ _ hc1
   first | have hR130 := hR21.le hf121 | have hR130 := hR21.le (fyl hf121)
   first | have hW131 := hW22.le hf121 | have hW131 := hW22.le (fyl hf121)
   replace hle := hle.trans hf121
   replace hbase39 := hbase39.trans hf121
   replace hs : St _ _ _ (.blk b24 (.cells #[.int .i64 (x12.Kind), .string (x12.Name), .string (x12.Text), v19, .int .i64 (x12.Parent), .int .i64 (x12.First), .int .i64 (x12.Last), .int .i64 (x12.Prev), .int .i64 (x12.Next)] 59 (0, 0)) :: .blk b8 (.cells #[.string ((bs [])), .string ((bs [])), (.slice none 0 0), (.slice none 0 0)] 35 (0, 0)) :: L) _ _ _ := hs
   refine uon hs ?_; clear hs; (try clear a w); intro a he
   refine uy 7 he rfl (y_buildS (places := [(0, 1), (1, 1), (2, 1), (3, 1)]) (cs := [.string (x12.Name), .string (x12.Text), v122, (.slice none 0 0)]) rfl Try.underlying35 ti35 (by kernel_rfl) (by decide) rfl ⟨rfl, rfl, hR124.one, trivial⟩) ?_; clear he; (try clear a); intro a he
   refine T_any1 he rfl ?_; clear he; (try clear a); intro a w hs
   refine RL_alloc hs ti35 (.free rfl) (by decide) ?_; clear hs; (try clear a w); intro b135 a w hs
   replace hs : St _ _ _ (.blk b135 (.cells #[.string ((bs [])), .string ((bs [])), (.slice none 0 0), (.slice none 0 0)] 35 (0, 0)) :: .blk b24 (.cells #[.int .i64 (x12.Kind), .string (x12.Name), .string (x12.Text), v19, .int .i64 (x12.Parent), .int .i64 (x12.First), .int .i64 (x12.Last), .int .i64 (x12.Prev), .int .i64 (x12.Next)] 59 (0, 0)) :: .blk b8 (.cells #[.string ((bs [])), .string ((bs [])), (.slice none 0 0), (.slice none 0 0)] 35 (0, 0)) :: L) _ _ _ := hs
   refine uon hs ?_; clear hs; (try clear a w); intro a he
   refine T_any1 he rfl ?_; clear he; (try clear a); intro a w hs
   refine RL_storeAll (i := 0) hs rfl rfl rfl ti35 ⟨rfl, rfl⟩ (AllC.arr (r := [.string (x12.Name), .string (x12.Text), v122, (.slice none 0 0)]) ⟨rfl, rfl, hR124.one, rfl, trivial⟩) (.free rfl) ?_; clear hs; (try clear a w); intro a w hs
   replace hs : St _ _ _ (.blk b135 (.cells #[.string (x12.Name), .string (x12.Text), v122, (.slice none 0 0)] 35 (0, 0)) :: .blk b24 (.cells #[.int .i64 (x12.Kind), .string (x12.Name), .string (x12.Text), v19, .int .i64 (x12.Parent), .int .i64 (x12.First), .int .i64 (x12.Last), .int .i64 (x12.Prev), .int .i64 (x12.Next)] 59 (0, 0)) :: .blk b8 (.cells #[.string ((bs [])), .string ((bs [])), (.slice none 0 0), (.slice none 0 0)] 35 (0, 0)) :: L) _ _ _ := hs
   refine uend hs ?_; clear hs; (try clear a w); intro a he
   refine T_nil he ?_; clear he; (try clear a); intro w hs; try clear hsD
   exact ⟨_, x118, b135, v122, hbase39, hm, ⟨rw123, hR124, hW125⟩, hs.sub ⟨rfl, rfl, rfl, rfl, rfl, trivial⟩⟩
  ·refine RL_alloc hs ti35 (.free rfl) (by decide) ?_; clear hs; (try clear a w); intro b139 a w hs
   replace hs : St _ _ _ (.blk b139 (.cells #[.string ((bs [])), .string ((bs [])), (.slice none 0 0), (.slice none 0 0)] 35 (0, 0)) :: .blk b24 (.cells #[.int .i64 (x12.Kind), .string (x12.Name), .string (x12.Text), v19, .int .i64 (x12.Parent), .int .i64 (x12.First), .int .i64 (x12.Last), .int .i64 (x12.Prev), .int .i64 (x12.Next)] 59 (0, 0)) :: .blk b8 (.cells #[.string ((bs [])), .string ((bs [])), (.slice none 0 0), (.slice none 0 0)] 35 (0, 0)) :: L) _ _ _ := hs
   refine uon hs ?_; clear hs; (try clear a w); intro a he
   refine T_any1 he rfl ?_; clear he; (try clear a); intro a w hs
   obtain ⟨x143, hx144, hm⟩ := ob hm
   refine RL_callV hs rfl has41 rfl (slices_Clone_y n (hf0 := hf0.trans hle) (f := f) (a0 := v19) ⟨rw20, hR21, hW22⟩ hx144) ?_; clear hs; (try clear a w)
   rintro v147 f145 _ a w hf146 ⟨_, rfl, rfl, ⟨rw148, hR149, hW150⟩⟩ hs
   first | have hR151 := hR4.le hf146 | have hR151 := hR4.le (fyl hf146)
   first | have hW152 := hW5.le hf146 | have hW152 := hW5.le (fyl hf146)
   have hc153 := hf146 _ _ hc0
   have hc154 := hf146 _ _ hc1
   first | have hR155 := hR21.le hf146 | have hR155 := hR21.le (fyl hf146)
   first | have hW156 := hW22.le hf146 | have hW156 := hW22.le (fyl hf146)
   replace hle := hle.trans hf146
   replace hbase39 := hbase39.trans hf146
   replace hs : St _ _ _ (.blk b139 (.cells #[.string ((bs [])), .string ((bs [])), (.slice none 0 0), (.slice none 0 0)] 35 (0, 0)) :: .blk b24 (.cells #[.int .i64 (x12.Kind), .string (x12.Name), .string (x12.Text), v19, .int .i64 (x12.Parent), .int .i64 (x12.First), .int .i64 (x12.Last), .int .i64 (x12.Prev), .int .i64 (x12.Next)] 59 (0, 0)) :: .blk b8 (.cells #[.string ((bs [])), .string ((bs [])), (.slice none 0 0), (.slice none 0 0)] 35 (0, 0)) :: L) _ _ _ := hs
   refine uon hs ?_; clear hs; (try clear a w); intro a he
   refine uy 7 he rfl (y_buildS (places := [(0, 1), (1, 1), (2, 1), (3, 1)]) (cs := [.string (x12.Name), .string (x12.Text), v147, (.slice none 0 0)]) rfl Try.underlying35 ti35 (by kernel_rfl) (by decide) rfl ⟨rfl, rfl, hR149.one, trivial⟩) ?_; clear he; (try clear a); intro a he
   refine T_any1 he rfl ?_; clear he; (try clear a); intro a w hs
   refine RL_storeAll (i := 0) hs rfl rfl rfl ti35 ⟨rfl, rfl⟩ (AllC.arr (r := [.string (x12.Name), .string (x12.Text), v147, (.slice none 0 0)]) ⟨rfl, rfl, hR149.one, rfl, trivial⟩) (.free rfl) ?_; clear hs; (try clear a w); intro a w hs
   replace hs : St _ _ _ (.blk b139 (.cells #[.string (x12.Name), .string (x12.Text), v147, (.slice none 0 0)] 35 (0, 0)) :: .blk b24 (.cells #[.int .i64 (x12.Kind), .string (x12.Name), .string (x12.Text), v19, .int .i64 (x12.Parent), .int .i64 (x12.First), .int .i64 (x12.Last), .int .i64 (x12.Prev), .int .i64 (x12.Next)] 59 (0, 0)) :: .blk b8 (.cells #[.string ((bs [])), .string ((bs [])), (.slice none 0 0), (.slice none 0 0)] 35 (0, 0)) :: L) _ _ _ := hs
   refine uend hs ?_; clear hs; (try clear a w); intro a he
   refine T_nil he ?_; clear he; (try clear a); intro w hs; try clear hsD
   exact ⟨_, x143, b139, v147, hbase39, hm, ⟨rw148, hR149, hW150⟩, hs.sub ⟨rfl, rfl, rfl, rfl, rfl, trivial⟩⟩
theorem dom_Parts_1_y {f0 : Fz} : ∀ (n : Nat) {f : Fz} {p0 : Int} {cb0 : Nat} {q0 : api_Tree} {ca0 : List Value} {cb1 : Nat} {res : dom_Part} (_hf0 : Fz.le f0 f) (_hq0 : t_api_Tree.R f ca0 q0) (_hc0 : f cb0 = some (.cells ca0.toArray 24 (0, 0))) (_hc1 : f cb1 = some (.cells #[.func (.func 43) #[] #[.pointer (some ⟨cb0, 0, none⟩), .pointer (some ⟨cb1, 0, none⟩)]] 74 (0, 0))) (_ : dom_Parts_1 n p0 q0 = some res), Does Try.prog 43 [.int .i64 p0, .pointer (some ⟨cb0, 0, none⟩), .pointer (some ⟨cb1, 0, none⟩)] f [] (fun r f' L' => ∃ (u0 : List Value), L' = [] ∧ r = .agg u0.toArray ∧ t_dom_Part.R (fy f0 f') u0 res)
  | 0, f, p0, cb0, q0, ca0, cb1, res, hf0, hq0, hc0, hc1, hm => by simp [dom_Parts_1] at hm
  | n + 1, f, p0, cb0, q0, ca0, cb1, res, hf0, hq0, hc0, hc1, hm => dom_Parts_1_byk n (dom_Parts_1_y n) hf0 hq0 hc0 hc1 hm
set_option maxHeartbeats 4000000 in
set_option maxRecDepth 20000 in
theorem dom_Parts_y (n : Nat) {f0 f : Fz} (hf0 : Fz.le f0 f) {p0 : api_Tree} {a0 : List Value} {res : dom_Part} (h0 : t_api_Tree.R f a0 p0) (hm : dom_Parts n p0 = some res) : Does Try.prog 19 [.agg a0.toArray] f [] (fun r f' L' => ∃ (u0 : List Value), L' = [] ∧ r = .agg u0.toArray ∧ t_dom_Part.R (fy f0 f') u0 res) := by
 unfold dom_Parts at hm
 intro w0 L w hC
 obtain ⟨v1, rfl, ⟨rw2, hR3, hW4⟩⟩ := h0
 refine enter Try.func19 rfl Try.ntmps19 (by simp) hC fun a hs => ?_
 have hle := Fz.le.refl f
 refine W_seq fun K1 hK1 => ?_
 refine W_region ?_
 refine sbox hs rfl ?_; clear hs; (try clear a w); intro b6 a w hs
 replace hs : St _ _ _ (.blk b6 (.cells #[v1] 24 (0, 0)) :: L) _ _ _ := hs
 refine RL_alloc hs ti35 (.free rfl) (by decide) ?_; clear hs; (try clear a w); intro b8 a w hs
 replace hs : St _ _ _ (.blk b8 (.cells #[.string ((bs [])), .string ((bs [])), (.slice none 0 0), (.slice none 0 0)] 35 (0, 0)) :: .blk b6 (.cells #[v1] 24 (0, 0)) :: L) _ _ _ := hs
 refine RL_nil ?_
 refine hK1 _ _ ?_; clear hK1
 refine W_seq fun K2 hK2 => ?_
 refine W_seq fun K3 hK3 => ?_
 refine W_region ?_
 refine sy hs (y_ldB rfl Try.underlying24 rfl ti24 (.tail _ (.head _)) rfl) ?_; clear hs; (try clear a w); intro a w hs
 obtain ⟨x12, hx13, hm⟩ := ob hm
 refine sy hs (y_call rfl has12 rfl (dom_Right_ok n (f := f) (a0 := [v1]) ⟨_, rfl, ⟨rw2, hR3, hW4⟩⟩ hx13)) ?_; clear hs; (try clear a w); intro a w hs
 refine sy hs (y_neq rfl rfl) ?_; clear hs; (try clear a w); intro a w hs
 refine RL_nil ?_
 refine hK3 _ _ ?_; clear hK3
 refine W_cond hs rfl (fun hg14 => ?_) (fun hg14 => ?_)
 ·replace hm := oc_t hg14 hm
  refine W_seq fun K4 hK4 => ?_
  refine W_region ?_
  refine sy hs (y_buildS (places := [(0, 1), (1, 1), (2, 1), (3, 1)]) (cs := [.string ((bs [])), .string ((bs [])), (.slice none 0 0), (.slice none 0 0)]) rfl Try.underlying35 ti35 (by kernel_rfl) (by decide) rfl trivial) ?_; clear hs; (try clear a w); intro a w hs
  refine RL_storeAll (i := 0) hs rfl rfl rfl ti35 ⟨rfl, rfl⟩ (AllC.arr (r := [.string ((bs [])), .string ((bs [])), (.slice none 0 0), (.slice none 0 0)]) ⟨rfl, rfl, rfl, rfl, trivial⟩) (.free rfl) ?_; clear hs; (try clear a w); intro a w hs
  replace hs : St _ _ _ (.blk b8 (.cells #[.string ((bs [])), .string ((bs [])), (.slice none 0 0), (.slice none 0 0)] 35 (0, 0)) :: .blk b6 (.cells #[v1] 24 (0, 0)) :: L) _ _ _ := hs
  refine RL_nil ?_
  refine hK4 _ _ ?_; clear hK4
  refine W_ret ?_
  obtain rfl := Option.some.inj hm
  refine RtV1 hs rfl (rv_a hs rfl Try.underlying35 rfl ti35 (fun j u hj => Cell.blk (.head _) hj) rfl) ?_
  exact ⟨_, f, [], rfl, hle, (hs.subL (.cons _ (.cons _ (.refl _)))).cw, [.string ((bs [])), .string ((bs [])), (.slice none 0 0), (.slice none 0 0)], rfl, rfl, R_dom_Part.of (x := ({Name := (bs []), Text := (bs []), Attrs := ([] : List api_Attr), Kids := ([] : List dom_Part)} : dom_Part)) RS.nil RS.nil⟩
 ·replace hm := oc_f hg14 hm
  refine W_skip ?_
  refine hK2 _ _ ?_; clear hK2
  refine W_seq fun K5 hK5 => ?_
  refine W_region ?_
  refine RL_alloc hs ti74 (.free rfl) (by decide) ?_; clear hs; (try clear a w); intro b17 a w hs
  replace hs : St _ _ _ (.blk b17 (.cells #[.nilFunc] 74 (0, 0)) :: .blk b8 (.cells #[.string ((bs [])), .string ((bs [])), (.slice none 0 0), (.slice none 0 0)] 35 (0, 0)) :: .blk b6 (.cells #[v1] 24 (0, 0)) :: L) _ _ _ := hs
  refine RL_nil ?_
  refine hK5 _ _ ?_; clear hK5
  refine W_seq fun K6 hK6 => ?_
  refine W_region ?_
  obtain ⟨f19, hf20, hs2, hB21⟩ := hs.frzB 2 rfl
  clear hs; have hs := hs2; clear hs2
  first | replace hR3 := hR3.le hf20 | replace hR3 := hR3.le (fyl hf20)
  first | replace hW4 := hW4.le hf20 | replace hW4 := hW4.le (fyl hf20)
  replace hle := hle.trans hf20
  replace hs : St _ _ _ (.blk b17 (.cells #[.nilFunc] 74 (0, 0)) :: .blk b8 (.cells #[.string ((bs [])), .string ((bs [])), (.slice none 0 0), (.slice none 0 0)] 35 (0, 0)) :: L) _ _ _ := hs
  refine sy hs (y_makeFunc rfl) ?_; clear hs; (try clear a w); intro a w hs
  refine sstore 0 hs rfl rfl rfl ti74 rfl ?_; clear hs; (try clear a w); intro a w hs
  replace hs : St _ _ _ (.blk b17 (.cells #[.func (.func 43) #[] #[.pointer (some ⟨b6, 0, none⟩), .pointer (some ⟨b17, 0, none⟩)]] 74 (0, 0)) :: .blk b8 (.cells #[.string ((bs [])), .string ((bs [])), (.slice none 0 0), (.slice none 0 0)] 35 (0, 0)) :: L) _ _ _ := hs
  refine RL_nil ?_
  refine hK6 _ _ ?_; clear hK6
  refine W_seq fun K7 hK7 => ?_
  refine W_region ?_
  refine sy (v := .func (.func 43) #[] #[.pointer (some ⟨b6, 0, none⟩), .pointer (some ⟨b17, 0, none⟩)]) hs (y_ld rfl Try.underlying74 rfl (Cell.blk (.head _) rfl)) ?_; clear hs; (try clear a w); intro a w hs
  obtain ⟨f22, hf23, hs2, hB24⟩ := hs.frzB 0 rfl
  clear hs; have hs := hs2; clear hs2
  first | replace hR3 := hR3.le hf23 | replace hR3 := hR3.le (fyl hf23)
  first | replace hW4 := hW4.le hf23 | replace hW4 := hW4.le (fyl hf23)
  replace hB21 := hf23 _ _ hB21
  replace hle := hle.trans hf23
  replace hs : St _ _ _ (.blk b8 (.cells #[.string ((bs [])), .string ((bs [])), (.slice none 0 0), (.slice none 0 0)] 35 (0, 0)) :: L) _ _ _ := hs
  obtain ⟨x25, hx26, hm⟩ := ob hm
  refine RL_callVK hs rfl has43 rfl (dom_Parts_1_y n (_hf0 := hf0.trans hle) (f := f22) (cb0 := b6) (ca0 := [v1]) (cb1 := b17) ⟨_, rfl, ⟨rw2, hR3, hW4⟩⟩ hB21 hB24 hx26) ?_; clear hs; (try clear a w)
  rintro _ f27 _ a w hf28 ⟨r29, rfl, rfl, hq30⟩ hs
  first | replace hR3 := hR3.le hf28 | replace hR3 := hR3.le (fyl hf28)
  first | replace hW4 := hW4.le hf28 | replace hW4 := hW4.le (fyl hf28)
  replace hB21 := hf28 _ _ hB21
  replace hB24 := hf28 _ _ hB24
  replace hle := hle.trans hf28
  obtain ⟨v31, v36, rfl, ⟨rw32, hR33, hW34⟩, ⟨rw37, hR38, hW39⟩⟩ := R_dom_Part.ex hq30
  replace hs : St _ _ _ (.blk b8 (.cells #[.string ((bs [])), .string ((bs [])), (.slice none 0 0), (.slice none 0 0)] 35 (0, 0)) :: L) _ _ _ := hs
  refine RL_storeAll (i := 0) hs rfl rfl rfl ti35 ⟨rfl, rfl⟩ (AllC.arr (r := [.string (x25.Name), .string (x25.Text), v31, v36]) ⟨rfl, rfl, hR33.one, hR38.one, trivial⟩) (.free rfl) ?_; clear hs; (try clear a w); intro a w hs
  replace hs : St _ _ _ (.blk b8 (.cells #[.string (x25.Name), .string (x25.Text), v31, v36] 35 (0, 0)) :: L) _ _ _ := hs
  refine RL_nil ?_
  refine hK7 _ _ ?_; clear hK7
  refine W_ret ?_
  obtain rfl := Option.some.inj hm
  refine RtV1 hs rfl (rv_a hs rfl Try.underlying35 rfl ti35 (fun j u hj => Cell.blk (.head _) hj) rfl) ?_
  exact ⟨_, f27, [], rfl, hle, (hs.subL (.cons _ (.refl _))).cw, [.string (x25.Name), .string (x25.Text), v31, v36], rfl, rfl, R_dom_Part.of (x := x25) ⟨rw32, hR33, hW34⟩ ⟨rw37, hR38, hW39⟩⟩
end Go.Proofs.Ytekcbgnkikmhpaa
