/-
  Walks and laws of this seat.
-/
import Derived.Test.YteicdfkmpnmkmaaGreatS13p
import Derived.Test.YteicdfkmpnmkmaaGreatRows
namespace Go.Proofs.YteicdfkmpnmkmaaGreat
set_option linter.unusedVariables false
set_option linter.unusedSimpArgs false
open Go.RowKit Go.Sl
theorem cw_swap {w0 w : World} {f : Fz} {L : List Ent} {x y : Ent} (h : Cw w0 f (x :: L) w) (hk : x.key = y.key) (hy : y.holds w) : Cw w0 f (y :: L) w where
  os := h.os
  tape := h.tape
  output := h.output
  size := h.size
  frz := h.frz
  live := fun e he => by
    rcases List.mem_cons.1 he with rfl | he
    · exact hy
    · exact h.live e (.tail _ he)
  apart := fun e he b hb => by
    rcases List.mem_cons.1 he with rfl | he
    · exact h.apart x (.head _) b (hk.trans hb)
    · exact h.apart e (.tail _ he) b hb
  sep := fun i j p q hp hq hij k hkp hkq => by
    cases i with
    | zero =>
      cases j with
      | zero => exact hij rfl
      | succ j =>
        simp at hp; subst hp
        exact h.sep 0 (j + 1) x q rfl (by simpa using hq) (by omega) k (hk.trans hkp) hkq
    | succ i =>
      cases j with
      | zero =>
        simp at hq; subst hq
        exact h.sep (i + 1) 0 p x (by simpa using hp) rfl (by omega) k hkp (hk.trans hkq)
      | succ j => exact h.sep (i + 1) (j + 1) p q (by simpa using hp) (by simpa using hq) hij k hkp hkq
section
variable {n : Nat} {w0 w : World} {f : Fz} {L : List Ent} {E : List (Nat × Value)} {a : Act} {b k : Nat} {e : TypeId} {r : List Value}
theorem blkRow (hs : St n w0 f (.blk b (.cells r.toArray e (0, 0)) :: L) E a w) (hr : OneRow k r) : St n w0 f (.row (.slice (some ⟨b, 0, none⟩) 1 1) e k [r] :: L) E a w :=
  ⟨hs.ev, cw_swap hs.cw rfl ⟨⟨by simp [hr.1], .inr ⟨b, 1, r.toArray, rfl, Nat.zero_le _, hs.cw.live _ (.head _), Nat.le_refl _, by decide, by simp [hr.1], by simp [List.take_of_length_le (Nat.le_of_eq hr.1)]⟩⟩, fun x hx => by
    rw [List.mem_singleton.1 hx]; exact hr⟩⟩
theorem rowBlk (hs : St n w0 f (.row (.slice (some ⟨b, 0, none⟩) 1 1) e k [r] :: L) E a w) : OneRow k r ∧ St n w0 f (.blk b (.cells r.toArray e (0, 0)) :: L) E a w := by
  obtain ⟨⟨h0, h⟩, h1⟩ := hs.cw.live _ (.head _)
  have hr := h1 r (by simp)
  refine ⟨hr, hs.ev, cw_swap hs.cw rfl ?_⟩
  rcases h with ⟨h, _⟩ | ⟨g, cap, cur, h2, _, h3, _, _, h4, h5⟩
  · cases h
  · injection h2 with h2 _ h6
    injection h2 with h2
    injection h2 with h2
    subst h2; subst h6
    have h7 : cur = r.toArray := by
      have h8 : cur.toList.length = 1 * k := by simpa using h4
      have h9 : cur.toList.take (1 * k) = r := by simpa using h5
      rw [List.take_of_length_le (Nat.le_of_eq h8)] at h9
      rw [← h9]
    rw [h7] at h3
    exact h3
end
theorem pmN {x y z : Ent} {A C : List Ent} : (x :: y :: z :: (A ++ C)).Perm ((y :: x :: A) ++ (z :: C)) :=
  perm_of_count fun a => by simp only [List.count_append, List.count_cons, List.cons_append]; omega
theorem pmO {x y z : Ent} {A C : List Ent} : ((y :: x :: A) ++ (z :: C)).Perm (x :: y :: z :: (A ++ C)) := pmN.symm
def buildR (e : TypeId) (o : Option BT) : Value → Fz → List Ent → Prop := fun u _ L' => ∃ r, u = .tuple #[.agg r.toArray, .bool o.isSome] ∧ OneRow 57 r ∧ (match o with | none => r = zB ∧ L' = [] | some b => BoxO e b r L')
def buildT (ns : List api_Node) (ss : List Sty) : Option BT := if ss.length ≠ ns.length ∨ dispS (ss.getD 0 []) = 2 then none else (buildM ns ss ns.length 0 0 0).map fun b => (numB b 0).1
set_option maxRecDepth 20000 in
set_option maxHeartbeats 16000000 in
theorem Build_ok {f : Fz} {ns : List api_Node} {ss : List Sty} {v0 lv : Value} (hT : RT ns) (hr0 : rightR ns 0) (hN : RS t_api_Node f v0 ns) (hL : Rd f [] lv 52 ss) (hSS : ∀ s ∈ ss, StyOK s) :
    Does Tryz.prog 9 [.agg #[v0], lv] f [] (buildR 31 (buildT ns ss)) := by
  intro w0 L w hC
  have hright : dom_Right 5000 ⟨ns⟩ = some 0 := by
    obtain ⟨r, h1, h2⟩ := dom_Right_eq ns (n := 5000) (by omega)
    rw [h1, rightR.uniq ns h2 hr0]
  have hpos := hT.pos
  have hsml := hT.small
  have hv1 := hN.one
  have hl1 := hL.one
  have hTR : t_api_Tree.R f [v0] ⟨ns⟩ := ⟨v0, rfl, hN⟩
  obtain ⟨nrows, hNR, hNW⟩ := hN
  have hnl := hNW.len
  refine enter Tryz.func9 rfl Tryz.ntmps9 (by simp) hC fun a hs => ?_
  refine W_seq fun K1 hK1 => ?_
  refine W_region ?_
  refine sbox (cs := #[v0]) hs rfl ?_; clear hs; (try clear a w); intro b2 a w hs
  refine sbox1 hs rfl hl1 ?_; clear hs; (try clear a w); intro b3 a w hs
  refine RL_alloc hs ti31 (.free rfl) (by decide) ?_; clear hs; (try clear a w); intro b4 a w hs
  replace hs : St _ _ _ (.blk b4 (.cells zB.toArray 31 (0, 0)) :: .blk b3 (.cells #[lv] 40 (0, 0)) :: .blk b2 (.cells #[v0] 37 (0, 0)) :: ([] ++ L)) _ _ _ := hs
  refine sy hs (y_assign rfl) ?_; clear hs; (try clear a w); intro a w hs
  refine RL_nil ?_
  refine hK1 _ _ ?_; clear hK1
  refine W_seq fun K2 hK2 => ?_
  refine W_seq fun K3 hK3 => ?_
  refine W_region ?_
  refine sy hs (y_ldB (cs := #[v0]) rfl Tryz.underlying37 rfl ti37 (.tail _ (.tail _ (.head _))) rfl) ?_; clear hs; (try clear a w); intro a w hs
  refine sy hs (y_call rfl has31 rfl (dom_Right_ok 5000 (a0 := [v0]) hTR hright)) ?_; clear hs; (try clear a w); intro a w hs
  refine sy hs (y_neq rfl rfl) ?_; clear hs; (try clear a w); intro a w hs
  refine sy hs (y_move rfl) ?_; clear hs; (try clear a w); intro a w hs
  refine syg hs (y_ld (u := lv) rfl Tryz.underlying40 rfl (Cell.blk (.tail _ (.head _)) rfl)) ?_; clear hs; (try clear a w); intro a w hs
  refine syg hs (y_lenR0 hL rfl Tryz.underlying40) ?_; clear hs; (try clear a w); intro a w hs
  first | (refine syg hs (y_fieldAddr rfl (FO.of (off := 0) Tryz.underlying37 rfl rfl ti35 (by decide))) ?_; clear hs; (try clear a w); intro a w hs) | (refine syg hs (y_faE rfl (FO.of (off := 0) Tryz.underlying37 rfl rfl ti35 (by decide))) ?_; clear hs; (try clear a w); intro a w hs)
  refine syg hs (y_ld (u := v0) rfl Tryz.underlying35 rfl (Cell.blk (.tail _ (.tail _ (.head _))) rfl)) ?_; clear hs; (try clear a w); intro a w hs
  refine syg hs (y_lenR0 hNR rfl Tryz.underlying35) ?_; clear hs; (try clear a w); intro a w hs
  refine syg hs (y_neq rfl rfl) ?_; clear hs; (try clear a w); intro a w hs
  refine sy hs (y_pick rfl rfl) ?_; clear hs; (try clear a w); intro a w hs
  refine sy hs (y_move rfl) ?_; clear hs; (try clear a w); intro a w hs
  first | refine St.splitP hs (t := 22) rfl (fun hl hq => ?_) (fun hl hq => ?_) | refine St.split hs (t := 22) rfl (fun hl hq => ?_) (fun hl hq => ?_)
  · clear hs; have hs := hq; clear hq
    refine sno hs ?_; clear hs; (try clear a w); intro a w hs
    refine sno hs ?_; clear hs; (try clear a w); intro a w hs
    refine sno hs ?_; clear hs; (try clear a w); intro a w hs
    refine sno hs ?_; clear hs; (try clear a w); intro a w hs
    refine sno hs ?_; clear hs; (try clear a w); intro a w hs
    refine sy hs (y_pick rfl rfl) ?_; clear hs; (try clear a w); intro a w hs
    refine RL_nil ?_
    refine hK3 _ _ ?_; clear hK3
    refine W_condT hs rfl ?_
    refine W_seq fun K4 hK4 => ?_
    refine W_region ?_
    refine sy hs (y_buildN (places := boxP) (zl := zB) (ls := []) (cs := zB) rfl Tryz.underlying31 ti31 (by kernel_rfl) trivial rfl) ?_; clear hs; (try clear a w); intro a w hs
    refine RL_storeAll (i := 0) hs rfl rfl rfl ti31 ⟨rfl, rfl⟩ (one_arr zB_one) (.free rfl) ?_; clear hs; (try clear a w); intro a w hs
    refine sy hs (y_assign rfl) ?_; clear hs; (try clear a w); intro a w hs
    refine RL_nil ?_
    refine hK4 _ _ ?_; clear hK4
    refine W_ret ?_
    refine RtV2 hs rfl (rv_a hs rfl Tryz.underlying31 rfl ti31 (fun j u hj => Cell.blk (.head _) hj) rfl) (rv_t hs rfl) ?_
    have hno : buildT ns ss = none := if_pos (.inl (by omega))
    rw [hno]
    exact ⟨_, _, [], rfl, .refl _, hs.cw.tail.tail.tail, zB, rfl, zB_one, rfl, rfl⟩
  · clear hs; have hs := hq; clear hq
    have hl : ss.length = ns.length := by omega
    obtain ⟨s0, hs0⟩ : ∃ s0, ss.getD 0 [] = s0 := ⟨_, rfl⟩
    have hsm : ss[0]? = some s0 := by rw [← hs0, List.getD_eq_getElem?_getD, List.getElem?_eq_getElem (by omega)]; rfl
    have hS : StyOK s0 := hSS _ (List.mem_of_getElem? hsm)
    refine syg hs (y_ld (u := lv) rfl Tryz.underlying40 rfl (Cell.blk (.tail _ (.head _)) rfl)) ?_; clear hs; (try clear a w); intro a w hs
    refine syg hs (y_indexAddr (m := 0) hL rfl rfl rfl (by omega) Tryz.underlying40 ti28) ?_; clear hs; (try clear a w); intro a w hs
    refine syg hs (y_faE rfl (FO.of (off := 0) Tryz.underlying28 rfl rfl ti3 (by decide)) hL (by omega)) ?_; clear hs; (try clear a w); intro a w hs
    refine syg hs (y_loadE (u := .int .i64 (dispS s0)) hL.up rfl hsm hS.d Tryz.underlying3 rfl) ?_; clear hs; (try clear a w); intro a w hs
    refine syg hs (y_eql rfl rfl) ?_; clear hs; (try clear a w); intro a w hs
    refine sy hs (y_pick rfl rfl) ?_; clear hs; (try clear a w); intro a w hs
    refine RL_nil ?_
    refine hK3 _ _ ?_; clear hK3
    first | refine W_condP hs rfl (fun hd => ?_) (fun hd => ?_) | refine W_cond hs rfl (fun hd => ?_) (fun hd => ?_)
    · refine W_seq fun K5 hK5 => ?_
      refine W_region ?_
      refine sy hs (y_buildN (places := boxP) (zl := zB) (ls := []) (cs := zB) rfl Tryz.underlying31 ti31 (by kernel_rfl) trivial rfl) ?_; clear hs; (try clear a w); intro a w hs
      refine RL_storeAll (i := 0) hs rfl rfl rfl ti31 ⟨rfl, rfl⟩ (one_arr zB_one) (.free rfl) ?_; clear hs; (try clear a w); intro a w hs
      refine sy hs (y_assign rfl) ?_; clear hs; (try clear a w); intro a w hs
      refine RL_nil ?_
      refine hK5 _ _ ?_; clear hK5
      refine W_ret ?_
      refine RtV2 hs rfl (rv_a hs rfl Tryz.underlying31 rfl ti31 (fun j u hj => Cell.blk (.head _) hj) rfl) (rv_t hs rfl) ?_
      have hno : buildT ns ss = none := if_pos (.inr (by rw [hs0]; exact hd))
      rw [hno]
      exact ⟨_, _, [], rfl, .refl _, hs.cw.tail.tail.tail, zB, rfl, zB_one, rfl, rfl⟩
    · have hBT : buildT ns ss = (buildM ns ss ns.length 0 0 0).map fun b => (numB b 0).1 := if_neg (fun h => h.elim (fun h => h hl) (fun h => by rw [hs0] at h; exact hd h))
      refine W_skip ?_
      refine hK2 _ _ ?_; clear hK2
      refine W_seq fun K6 hK6 => ?_
      refine W_region ?_
      refine RL_alloc hs ti76 (.free rfl) (by decide) ?_; clear hs; (try clear a w); intro b6 a w hs
      refine RL_nil ?_
      refine hK6 _ _ ?_; clear hK6
      refine W_seq fun K7 hK7 => ?_
      refine W_region ?_
      refine sy hs (y_makeFunc rfl) ?_; clear hs; (try clear a w); intro a w hs
      refine sstore 0 hs rfl rfl rfl ti76 rfl ?_ (by decide); clear hs; (try clear a w); intro a w hs
      replace hs : St _ _ _ (.blk b6 (.cells #[(.func (.func 32) #[] #[.pointer (some ⟨b2, 0, none⟩), .pointer (some ⟨b3, 0, none⟩), .pointer (some ⟨b6, 0, none⟩)])] 76 (0, 0)) :: .blk b4 (.cells zB.toArray 31 (0, 0)) :: .blk b3 (.cells #[lv] 40 (0, 0)) :: .blk b2 (.cells #[v0] 37 (0, 0)) :: ([] ++ L)) _ _ _ := hs
      obtain ⟨f1, hf1, hs, h6⟩ := hs.frzB 0 rfl
      obtain ⟨f2, hf2, hs, h3⟩ := St.frzB 1 hs rfl
      obtain ⟨f3, hf3, hs, h2⟩ := St.frzB 1 hs rfl
      have hf : Fz.le f f3 := hf1.trans (hf2.trans hf3)
      have hE : MadeE f3 ns ss v0 lv b2 b3 b6 := ⟨hT, ⟨nrows, hNR.le hf, hNW.le hf⟩, hL.le hf, hSS, hl, h2, hf3 _ _ h3, hf3 _ _ (hf2 _ _ h6)⟩
      replace hs : St 43 w0 f3 (.blk b4 (.cells zB.toArray 31 (0, 0)) :: ([] ++ L)) _ a w := hs
      refine RL_nil ?_
      refine hK7 _ _ ?_; clear hK7
      refine W_seq fun K8 hK8 => ?_
      refine W_region ?_
      refine sy hs (y_ld (u := (.func (.func 32) #[] #[.pointer (some ⟨b2, 0, none⟩), .pointer (some ⟨b3, 0, none⟩), .pointer (some ⟨b6, 0, none⟩)])) rfl Tryz.underlying76 rfl (Cell.fz hE.e6 rfl)) ?_; clear hs; (try clear a w); intro a w hs
      refine RL_call (Lr := []) hs rfl has32 rfl rfl (made_ok ns.length f3 0 0 0 hE hpos (by omega) (by omega) (by omega)) (.free rfl) (by decide) ?_; clear hs; (try clear a w)
      rintro _ f4 X a w hf4 ⟨r, rfl, hr1, hB⟩ hs
      generalize ho : buildM ns ss ns.length 0 0 0 = o at *
      replace hs := stPm hs (List.perm_middle (l₁ := X))
      refine sy hs (y_move rfl) ?_; clear hs; (try clear a w); intro a w hs
      refine sy hs (y_extract (vs := [.agg r.toArray, .bool o.isSome]) rfl rfl) ?_; clear hs; (try clear a w); intro a w hs
      refine sy hs (y_extract (vs := [.agg r.toArray, .bool o.isSome]) rfl rfl) ?_; clear hs; (try clear a w); intro a w hs
      refine RL_alloc hs ti31 (.free rfl) (by decide) ?_; clear hs; (try clear a w); intro b7 a w hs
      refine RL_storeAll (i := 0) hs rfl rfl rfl ti31 ⟨rfl, by simp [hr1.1]⟩ (one_arr hr1) (.free rfl) ?_; clear hs; (try clear a w); intro a w hs
      refine sy hs (y_assign rfl) ?_; clear hs; (try clear a w); intro a w hs
      refine RL_nil ?_
      refine hK8 _ _ ?_; clear hK8
      refine W_seq fun K9 hK9 => ?_
      refine W_seq fun K10 hK10 => ?_
      refine W_region ?_
      refine sy hs (y_move rfl) ?_; clear hs; (try clear a w); intro a w hs
      refine sy hs (y_not rfl) ?_; clear hs; (try clear a w); intro a w hs
      refine RL_nil ?_
      refine hK10 _ _ ?_; clear hK10
      first | refine W_condP hs rfl (fun hno => ?_) (fun hno => ?_) | refine W_cond hs rfl (fun hno => ?_) (fun hno => ?_)
      · obtain rfl : o = none := by simpa using hno
        obtain rfl : X = [] := hB
        refine W_seq fun K11 hK11 => ?_
        refine W_region ?_
        refine sy hs (y_buildN (places := boxP) (zl := zB) (ls := []) (cs := zB) rfl Tryz.underlying31 ti31 (by kernel_rfl) trivial rfl) ?_; clear hs; (try clear a w); intro a w hs
        refine RL_storeAll (i := 1) hs rfl rfl rfl ti31 ⟨rfl, rfl⟩ (one_arr zB_one) (.free rfl) ?_; clear hs; (try clear a w); intro a w hs
        refine sy hs (y_assign rfl) ?_; clear hs; (try clear a w); intro a w hs
        refine RL_nil ?_
        refine hK11 _ _ ?_; clear hK11
        refine W_ret ?_
        refine RtV2 hs rfl (rv_a hs rfl Tryz.underlying31 rfl ti31 (fun j u hj => Cell.blk (.tail _ (.head _)) hj) rfl) (rv_t hs rfl) ?_
        rw [hBT]
        exact ⟨_, _, [], rfl, hf.trans hf4, hs.cw.tail.tail, zB, rfl, zB_one, rfl, rfl⟩
      · obtain ⟨b, rfl⟩ : ∃ b, o = some b := Option.isSome_iff_exists.1 (by simpa using hno)
        refine W_skip ?_
        refine hK9 _ _ ?_; clear hK9
        refine W_seq fun K12 hK12 => ?_
        refine W_region ?_
        refine RL_alloc hs ti3 (.free rfl) (by decide) ?_; clear hs; (try clear a w); intro b9 a w hs
        refine sstore 0 hs rfl rfl rfl ti3 rfl ?_ (by decide); clear hs; (try clear a w); intro a w hs
        refine RL_nil ?_
        refine hK12 _ _ ?_; clear hK12
        refine W_seq fun K13 hK13 => ?_
        refine W_region ?_
        refine RL_alloc hs ti81 (.free rfl) (by decide) ?_; clear hs; (try clear a w); intro b10 a w hs
        refine RL_nil ?_
        refine hK13 _ _ ?_; clear hK13
        refine W_seq fun K14 hK14 => ?_
        refine W_region ?_
        refine sy hs (y_makeFunc rfl) ?_; clear hs; (try clear a w); intro a w hs
        refine sstore 0 hs rfl rfl rfl ti81 rfl ?_ (by decide); clear hs; (try clear a w); intro a w hs
        replace hs : St _ _ _ (.blk b10 (.cells #[(.func (.func 36) #[] #[.pointer (some ⟨b9, 0, none⟩), .pointer (some ⟨b10, 0, none⟩)])] 81 (0, 0)) :: .blk b9 (.cells #[.int .i64 0] 3 (0, 0)) :: .blk b7 (.cells r.toArray 31 (0, 0)) :: .blk b4 (.cells zB.toArray 31 (0, 0)) :: (X ++ L)) _ _ _ := hs
        obtain ⟨f5, hf5, hs, h10⟩ := hs.frzB 0 rfl
        replace hs : St 43 w0 f5 (.blk b9 (.cells #[.int .i64 0] 3 (0, 0)) :: .blk b7 (.cells r.toArray 31 (0, 0)) :: .blk b4 (.cells zB.toArray 31 (0, 0)) :: (X ++ L)) _ a w := hs
        replace hs := stPm (blkRow (stPm hs (.swap _ _ _)) hr1) pmN
        refine RL_nil ?_
        refine hK14 _ _ ?_; clear hK14
        refine W_seq fun K15 hK15 => ?_
        refine W_region ?_
        refine sy hs (y_ld (u := (.func (.func 36) #[] #[.pointer (some ⟨b9, 0, none⟩), .pointer (some ⟨b10, 0, none⟩)])) rfl Tryz.underlying81 rfl (Cell.fz h10 rfl)) ?_; clear hs; (try clear a w); intro a w hs
        refine RL_call hs rfl has36 rfl rfl (number_ok b f5 0 (.slice (some ⟨b7, 0, none⟩) 1 1) [r] 0 r X h10 rfl hB) (.free rfl) (by decide) ?_; clear hs; (try clear a w)
        rintro _ _ _ a w _ ⟨rfl, r', X', hB', rfl⟩ hs
        obtain ⟨hr2, hs⟩ := rowBlk (r := r') (stPm hs pmO)
        refine RL_nil ?_
        refine hK15 _ _ ?_; clear hK15
        refine W_seq fun K16 hK16 => ?_
        refine W_region ?_
        refine sy hs (y_ldB rfl Tryz.underlying31 rfl ti31 (.head _) (by simp [hr2.1])) ?_; clear hs; (try clear a w); intro a w hs
        refine RL_storeAll (i := 2) hs rfl rfl rfl ti31 ⟨rfl, by simp [hr2.1]⟩ (one_arr hr2) (.free rfl) ?_; clear hs; (try clear a w); intro a w hs
        refine sy hs (y_assign rfl) ?_; clear hs; (try clear a w); intro a w hs
        refine RL_nil ?_
        refine hK16 _ _ ?_; clear hK16
        refine W_ret ?_
        refine RtV2 hs rfl (rv_a hs rfl Tryz.underlying31 rfl ti31 (fun j u hj => Cell.blk (.tail _ (.tail _ (.head _))) hj) (by simp [hr2.1])) (rv_t hs rfl) ?_
        rw [hBT]
        exact ⟨_, _, X', rfl, (hf.trans hf4).trans hf5, hs.cw.tail.tail.tail, r', rfl, hr2, hB'⟩
end Go.Proofs.YteicdfkmpnmkmaaGreat
