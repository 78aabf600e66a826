/-
  Walks and laws of this seat; the base is the text Base.
-/
import Derived.Test.YtekcbgnkikmhpaaL5y
namespace Go.Proofs.Ytekcbgnkikmhpaa
open Go.RowKit Go.Sl
set_option maxHeartbeats 4000000 in
set_option maxRecDepth 20000 in
theorem dom_Make_o (n : Nat) {f0 f : Fz} (hf0 : Fz.le f0 f) {p0 : dom_Part} {a0 : List Value} {res : (api_Tree × Int)} (h0 : t_dom_Part.R f a0 p0) (hm : dom_Make n p0 = some res) : Does Try.prog 16 [.agg a0.toArray] f [] (fun r f' L' => ∃ (v0 : Value) (rows : List (List Value)), L' = [.row v0 59 9 rows] ∧ r = .tuple #[.agg #[v0], .int .i64 res.2] ∧ RW t_api_Node (fy f0 f') rows res.1.Nodes) := by
 unfold dom_Make at hm
 intro w0 L w hC
 obtain ⟨v1, v6, rfl, ⟨rw2, hR3, hW4⟩, ⟨rw7, hR8, hW9⟩⟩ := R_dom_Part.ex h0
 refine enter Try.func16 rfl Try.ntmps16 (by simp) hC fun a hs => ?_
 have hle := Fz.le.refl f
 refine W_seq fun K1 hK1 => ?_
 refine W_region ?_
 refine sbox hs rfl ?_; clear hs; (try clear a w); intro b11 a w hs
 replace hs : St _ _ _ (.blk b11 (.cells #[.string (p0.Name), .string (p0.Text), v1, v6] 35 (0, 0)) :: L) _ _ _ := hs
 refine RL_alloc hs ti24 (.free rfl) (by decide) ?_; clear hs; (try clear a w); intro b13 a w hs
 replace hs : St _ _ _ (.blk b13 (.cells #[(.slice none 0 0)] 24 (0, 0)) :: .blk b11 (.cells #[.string (p0.Name), .string (p0.Text), v1, v6] 35 (0, 0)) :: L) _ _ _ := hs
 refine sy (v := .int .i64 (0)) hs (y_assign rfl) ?_; clear hs; (try clear a w); intro a w hs
 refine RL_nil ?_
 refine hK1 _ _ ?_; clear hK1
 refine W_seq fun K2 hK2 => ?_
 refine W_region ?_
 refine RL_alloc hs ti24 (.free rfl) (by decide) ?_; clear hs; (try clear a w); intro b16 a w hs
 replace hs : St _ _ _ (.blk b16 (.cells #[(.slice none 0 0)] 24 (0, 0)) :: .blk b13 (.cells #[(.slice none 0 0)] 24 (0, 0)) :: .blk b11 (.cells #[.string (p0.Name), .string (p0.Text), v1, v6] 35 (0, 0)) :: L) _ _ _ := hs
 refine RL_nil ?_
 refine hK2 _ _ ?_; clear hK2
 refine W_seq fun K3 hK3 => ?_
 refine W_region ?_
 refine RL_alloc hs ti71 (.free rfl) (by decide) ?_; clear hs; (try clear a w); intro b19 a w hs
 replace hs : St _ _ _ (.blk b19 (.cells #[.nilFunc] 71 (0, 0)) :: .blk b16 (.cells #[(.slice none 0 0)] 24 (0, 0)) :: .blk b13 (.cells #[(.slice none 0 0)] 24 (0, 0)) :: .blk b11 (.cells #[.string (p0.Name), .string (p0.Text), v1, v6] 35 (0, 0)) :: L) _ _ _ := hs
 refine RL_nil ?_
 refine hK3 _ _ ?_; clear hK3
 refine W_seq fun K4 hK4 => ?_
 refine W_region ?_
 refine sy hs (y_makeFunc rfl) ?_; clear hs; (try clear a w); intro a w hs
 refine sstore 0 hs rfl rfl rfl ti71 rfl ?_; clear hs; (try clear a w); intro a w hs
 replace hs : St _ _ _ (.blk b19 (.cells #[.func (.func 40) #[] #[.pointer (some ⟨b16, 0, none⟩), .pointer (some ⟨b19, 0, none⟩)]] 71 (0, 0)) :: .blk b16 (.cells #[(.slice none 0 0)] 24 (0, 0)) :: .blk b13 (.cells #[(.slice none 0 0)] 24 (0, 0)) :: .blk b11 (.cells #[.string (p0.Name), .string (p0.Text), v1, v6] 35 (0, 0)) :: L) _ _ _ := hs
 refine RL_nil ?_
 refine hK4 _ _ ?_; clear hK4
 refine W_seq fun K5 hK5 => ?_
 refine W_region ?_
 refine sy (v := .func (.func 40) #[] #[.pointer (some ⟨b16, 0, none⟩), .pointer (some ⟨b19, 0, none⟩)]) hs (y_ld rfl Try.underlying71 rfl (Cell.blk (.head _) rfl)) ?_; clear hs; (try clear a w); intro a w hs
 refine sy hs (y_ldB rfl Try.underlying35 rfl ti35 (.tail _ (.tail _ (.tail _ (.head _)))) rfl) ?_; clear hs; (try clear a w); intro a w hs
 obtain ⟨f21, hf22, hs2, hB23⟩ := hs.frzB 0 rfl
 clear hs; have hs := hs2; clear hs2
 first | replace hR3 := hR3.le hf22 | replace hR3 := hR3.le (fyl hf22)
 first | replace hW4 := hW4.le hf22 | replace hW4 := hW4.le (fyl hf22)
 first | replace hR8 := hR8.le hf22 | replace hR8 := hR8.le (fyl hf22)
 first | replace hW9 := hW9.le hf22 | replace hW9 := hW9.le (fyl hf22)
 replace hle := hle.trans hf22
 replace hs : St _ _ _ (.blk b16 (.cells #[(.slice none 0 0)] 24 (0, 0)) :: .blk b13 (.cells #[(.slice none 0 0)] 24 (0, 0)) :: .blk b11 (.cells #[.string (p0.Name), .string (p0.Text), v1, v6] 35 (0, 0)) :: L) _ _ _ := hs
 obtain ⟨x24, hx25, hm⟩ := ob hm
 replace hs := hs.nilRow 59 9
 have hW26 : RW t_api_Node (fy f0 f21) [] ([] : List api_Node) := trivial
 generalize hgrw27 : ([] : List (List Value)) = rw27 at hs hW26; clear hgrw27
 replace hs : St _ _ _ (.row (.slice none 0 0) 59 9 rw27 :: .blk b16 (.cells #[(.slice none 0 0)] 24 (0, 0)) :: .blk b13 (.cells #[(.slice none 0 0)] 24 (0, 0)) :: .blk b11 (.cells #[.string (p0.Name), .string (p0.Text), v1, v6] 35 (0, 0)) :: L) _ _ _ := hs
 replace hs := hs.front 0
 replace hs := hs.front 1
 replace hs : St _ _ _ (.blk b16 (.cells #[(.slice none 0 0)] 24 (0, 0)) :: .row (.slice none 0 0) 59 9 rw27 :: .blk b13 (.cells #[(.slice none 0 0)] 24 (0, 0)) :: .blk b11 (.cells #[.string (p0.Name), .string (p0.Text), v1, v6] 35 (0, 0)) :: L) _ _ _ := hs
 refine RL_call (Lr := [.blk b16 (.cells #[(.slice none 0 0)] 24 (0, 0)), .row (.slice none 0 0) 59 9 rw27]) (Lf := .blk b13 (.cells #[(.slice none 0 0)] 24 (0, 0)) :: .blk b11 (.cells #[.string (p0.Name), .string (p0.Text), v1, v6] 35 (0, 0)) :: L) hs rfl has40 rfl rfl (dom_Make_1_y n (_hf0 := hf0.trans hle) (f := f21) (a0 := [.string (p0.Name), .string (p0.Text), v1, v6]) (cb0 := b16) (cb1 := b19) (R_dom_Part.of (x := p0) ⟨rw2, hR3, hW4⟩ ⟨rw7, hR8, hW9⟩) hW26 hB23 hx25) (.free rfl) (by decide) ?_; clear hs; (try clear a w)
 rintro _ f30 _ a w hf31 ⟨v32, rw33, rfl, rfl, hW34⟩ hs
 first | replace hR3 := hR3.le hf31 | replace hR3 := hR3.le (fyl hf31)
 first | replace hW4 := hW4.le hf31 | replace hW4 := hW4.le (fyl hf31)
 first | replace hR8 := hR8.le hf31 | replace hR8 := hR8.le (fyl hf31)
 first | replace hW9 := hW9.le hf31 | replace hW9 := hW9.le (fyl hf31)
 replace hB23 := hf31 _ _ hB23
 first | replace hW26 := hW26.le hf31 | replace hW26 := hW26.le (fyl hf31)
 replace hle := hle.trans hf31
 replace hs : St _ _ _ (.blk b16 (.cells #[v32] 24 (0, 0)) :: .row v32 59 9 rw33 :: .blk b13 (.cells #[(.slice none 0 0)] 24 (0, 0)) :: .blk b11 (.cells #[.string (p0.Name), .string (p0.Text), v1, v6] 35 (0, 0)) :: L) _ _ _ := hs
 refine RL_nil ?_
 refine hK5 _ _ ?_; clear hK5
 refine W_seq fun K6 hK6 => ?_
 refine W_seq fun K7 hK7 => ?_
 refine W_region ?_
 refine sy hs (y_ldB rfl Try.underlying24 rfl ti24 (.head _) rfl) ?_; clear hs; (try clear a w); intro a w hs
 obtain ⟨x39, hx40, hm⟩ := ob hm
 refine sy hs (y_callL 1 rfl has12 rfl rfl (fun f36 hf hR38 => dom_Right_ok n (f := f36) (a0 := [v32]) ⟨_, rfl, ⟨rw33, hR38, (hW34.le fy_le).le hf⟩⟩ hx40)) ?_; clear hs; (try clear a w); intro a w hs
 refine sy (v := .int .i64 (x39)) hs (y_assign rfl) ?_; clear hs; (try clear a w); intro a w hs
 refine RL_nil ?_
 refine hK7 _ _ ?_; clear hK7
 refine W_seq fun K8 hK8 => ?_
 refine W_region ?_
 refine sy (v := .int .i64 (x39)) hs (y_move rfl) ?_; clear hs; (try clear a w); intro a w hs
 refine sy hs (y_neq rfl rfl) ?_; clear hs; (try clear a w); intro a w hs
 refine RL_nil ?_
 refine hK8 _ _ ?_; clear hK8
 refine W_cond hs rfl (fun hg41 => ?_) (fun hg41 => ?_)
 ·replace hm := oc_t hg41 hm
  refine W_seq fun K9 hK9 => ?_
  refine W_region ?_
  refine sy hs (y_buildS (places := [(0, 1)]) (cs := [(.slice none 0 0)]) rfl Try.underlying24 ti24 (by kernel_rfl) (by decide) rfl trivial) ?_; clear hs; (try clear a w); intro a w hs
  refine sy (v := .int .i64 (x39)) hs (y_move rfl) ?_; clear hs; (try clear a w); intro a w hs
  refine RL_storeAll (i := 2) hs rfl rfl rfl ti24 ⟨rfl, rfl⟩ (AllC.arr (r := [(.slice none 0 0)]) ⟨rfl, trivial⟩) (.free rfl) ?_; clear hs; (try clear a w); intro a w hs
  replace hs : St _ _ _ (.blk b16 (.cells #[v32] 24 (0, 0)) :: .row v32 59 9 rw33 :: .blk b13 (.cells #[(.slice none 0 0)] 24 (0, 0)) :: .blk b11 (.cells #[.string (p0.Name), .string (p0.Text), v1, v6] 35 (0, 0)) :: L) _ _ _ := hs
  refine sy (v := .int .i64 (x39)) hs (y_assign rfl) ?_; clear hs; (try clear a w); intro a w hs
  refine RL_nil ?_
  refine hK9 _ _ ?_; clear hK9
  refine W_ret ?_
  obtain rfl := Option.some.inj hm
  refine RtV2 hs rfl (rv_a hs rfl Try.underlying24 rfl ti24 (fun j u hj => Cell.blk (.tail _ (.tail _ (.head _))) hj) rfl) (rv_t hs rfl) ?_
  exact ⟨_, f30, [.row (.slice none 0 0) 59 9 []], rfl, hle, ((hs.subL (.cons _ (.cons _ (.cons _ (.cons _ (.refl _)))))).nilRow 59 9).cw, _, [], rfl, rfl, trivial⟩
 ·replace hm := oc_f hg41 hm
  refine W_skip ?_
  refine hK6 _ _ ?_; clear hK6
  refine W_seq fun K10 hK10 => ?_
  refine W_region ?_
  refine sy hs (y_ldB rfl Try.underlying24 rfl ti24 (.head _) rfl) ?_; clear hs; (try clear a w); intro a w hs
  refine RL_storeAll (i := 2) hs rfl rfl rfl ti24 ⟨rfl, rfl⟩ (AllC.arr (r := [v32]) ⟨(hs.one (i := 1) rfl), trivial⟩) (.free rfl) ?_; clear hs; (try clear a w); intro a w hs
  replace hs : St _ _ _ (.blk b16 (.cells #[v32] 24 (0, 0)) :: .row v32 59 9 rw33 :: .blk b13 (.cells #[v32] 24 (0, 0)) :: .blk b11 (.cells #[.string (p0.Name), .string (p0.Text), v1, v6] 35 (0, 0)) :: L) _ _ _ := hs
  refine sy (v := .int .i64 (0)) hs (y_assign rfl) ?_; clear hs; (try clear a w); intro a w hs
  refine RL_nil ?_
  refine hK10 _ _ ?_; clear hK10
  refine W_ret ?_
  obtain rfl := Option.some.inj hm
  refine RtV2 hs rfl (rv_a hs rfl Try.underlying24 rfl ti24 (fun j u hj => Cell.blk (.tail _ (.tail _ (.head _))) hj) rfl) (rv_t hs rfl) ?_
  exact ⟨_, f30, [.row v32 59 9 rw33], rfl, hle, (hs.subL (.cons _ (.cons_cons _ (.cons _ (.cons _ (.refl _)))))).cw, v32, rw33, rfl, rfl, hW34⟩
end Go.Proofs.Ytekcbgnkikmhpaa
