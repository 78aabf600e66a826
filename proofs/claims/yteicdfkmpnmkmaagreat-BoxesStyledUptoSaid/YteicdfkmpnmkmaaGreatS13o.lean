/-
  Walks and laws of this seat.
-/
import Derived.Test.YteicdfkmpnmkmaaGreatS13n
import Derived.Test.YteicdfkmpnmkmaaGreatRows
namespace Go.Proofs.YteicdfkmpnmkmaaGreat
set_option linter.unusedVariables false
set_option linter.unusedSimpArgs false
open Go.RowKit Go.Sl
def madeR (e : TypeId) (o : Option BT) : Value → Fz → List Ent → Prop := fun u _ L' => ∃ r, u = .tuple #[.agg r.toArray, .bool o.isSome] ∧ OneRow 57 r ∧ (match o with | none => L' = [] | some b => BoxO e b r L')
/-- What made reads. -/
structure MadeE (f : Fz) (ns : List api_Node) (ss : List Sty) (v0 lv : Value) (c2 c3 c6 : Nat) : Prop where
  t : RT ns
  n : RS t_api_Node f v0 ns
  l : Rd f [] lv 52 ss
  s : ∀ s ∈ ss, StyOK s
  len : ss.length = ns.length
  e2 : f c2 = some (.cells #[v0] 37 (0, 0))
  e3 : f c3 = some (.cells #[lv] 40 (0, 0))
  e6 : f c6 = some (.cells #[.func (.func 32) #[] #[.pointer (some ⟨c2, 0, none⟩), .pointer (some ⟨c3, 0, none⟩), .pointer (some ⟨c6, 0, none⟩)]] 76 (0, 0))
theorem MadeE.le {f f' : Fz} {ns : List api_Node} {ss : List Sty} {v0 lv : Value} {c2 c3 c6 : Nat} (h : MadeE f ns ss v0 lv c2 c3 c6) (hf : Fz.le f f') : MadeE f' ns ss v0 lv c2 c3 c6 :=
  ⟨h.t, h.n.le hf, h.l.le hf, h.s, h.len, hf _ _ h.e2, hf _ _ h.e3, hf _ _ h.e6⟩
def MadeOK (ns : List api_Node) (ss : List Sty) (v0 lv : Value) (c2 c3 c6 : Nat) (d : Nat) : Prop := ∀ (f : Fz) (m : Nat) (above heavy : Int), MadeE f ns ss v0 lv c2 c3 c6 → m < ns.length → ns.length - m ≤ d → 0 ≤ heavy → heavy ≤ m →
  Does Tryz.prog 32 [.int .i64 m, .int .i64 above, .int .i64 heavy, .pointer (some ⟨c2, 0, none⟩), .pointer (some ⟨c3, 0, none⟩), .pointer (some ⟨c6, 0, none⟩)] f [] (madeR 31 (buildM ns ss d m above heavy))
theorem fm_take {α β : Type} {g : α → Option β} {l : List α} {j : Nat} {x : α} (h : l[j]? = some x) : (l.take (j + 1)).filterMap g = (l.take j).filterMap g ++ (g x).toList := by
  rw [List.take_add_one, h, List.filterMap_append]
  simp [List.filterMap]
  cases g x <;> rfl
theorem pmK {x1 x2 y : Ent} {A C B : List Ent} : (B ++ (x1 :: x2 :: y :: (A ++ C))).Perm (x1 :: x2 :: y :: (A ++ (B ++ C))) :=
  perm_of_count fun a => by simp only [List.count_append, List.count_cons]; omega
section
variable {k n i : Int} {s : Sty} {t : ByteArray} {kv v : Value}
theorem cB_set4 (h : s.length = 52) : (cB k n i s t kv).set 4 v = cB k n i (s.set 1 v) t kv := cB_setS (j := 1) h (by decide)
theorem cB_set5 (h : s.length = 52) : (cB k n i s t kv).set 5 v = cB k n i (s.set 2 v) t kv := cB_setS (j := 2) h (by decide)
end
theorem pmL {x1 x2 : Ent} {A C : List Ent} : (A ++ (x1 :: x2 :: C)).Perm (x1 :: x2 :: (A ++ C)) :=
  perm_of_count fun a => by simp only [List.count_append, List.count_cons]; omega
theorem rs_int {f : Fz} {rows : List (List Value)} {xs : List Int} (h : RW (tInt .i64) f rows xs) {j : Nat} {z : Int} (hz : xs[j]? = some z) : rows[j]? = some [.int .i64 z] := by
  obtain ⟨r, h1, h2⟩ := h.get hz
  rw [h1]; exact congrArg some h2
set_option maxRecDepth 20000 in
set_option maxHeartbeats 16000000 in
theorem made_step {ns : List api_Node} {ss : List Sty} {v0 lv : Value} {c2 c3 c6 : Nat} {d : Nat} (ih : MadeOK ns ss v0 lv c2 c3 c6 d) : MadeOK ns ss v0 lv c2 c3 c6 (d + 1) := by
  intro f m above heavy hE hm hd hh0 hhm w0 L w hC
  obtain ⟨nrows, hNR, hNW⟩ := hE.n
  obtain ⟨nr, hn1, va, rfl, hva⟩ := hNW.get (nd_get ns hm)
  have hnl : m < nrows.length := (List.getElem?_eq_some_iff.1 hn1).1
  have hsl := hE.len
  obtain ⟨s0, hs0⟩ : ∃ s0, ss.getD m [] = s0 := ⟨_, rfl⟩
  have hsm : ss[m]? = some s0 := by rw [← hs0, List.getD_eq_getElem?_getD, List.getElem?_eq_getElem (by omega)]; rfl
  have hS : StyOK s0 := hE.s _ (List.mem_of_getElem? hsm)
  have hsml := hE.t.small
  obtain ⟨kd1, kd2, kd3, kd4⟩ := kd_eq hE.t hm
  have hva1 := hva.one
  refine enter Tryz.func32 rfl Tryz.ntmps32 (by simp) hC fun a hs => ?_
  refine W_seq fun K1 hK1 => ?_
  refine W_region ?_
  refine RL_alloc hs ti31 (.free rfl) (by decide) fun b9 _ _ hs => ?_
  refine sy hs (y_assign rfl) fun _ _ hs => ?_
  refine RL_nil ?_
  refine hK1 _ _ ?_; clear hK1
  refine W_seq fun K2 hK2 => ?_
  refine W_region ?_
  first | (refine sy hs (y_fieldAddr rfl (FO.of (off := 0) Tryz.underlying37 rfl rfl ti35 (by decide))) ?_; clear hs; (try clear a w); intro a w hs) | (refine sy hs (y_faE rfl (FO.of (off := 0) Tryz.underlying37 rfl rfl ti35 (by decide))) ?_; clear hs; (try clear a w); intro a w hs)
  refine sy hs (y_ld (u := v0) rfl Tryz.underlying35 rfl (Cell.fz hE.e2 rfl)) fun _ _ hs => ?_
  refine sy hs (y_move rfl) fun _ _ hs => ?_
  refine sy hs (y_indexAddr hNR rfl rfl rfl hnl Tryz.underlying35 ti57) fun _ _ hs => ?_
  refine sy hs (y_ldRow rfl Tryz.underlying57 rfl ti57 hNR.up hn1) fun _ _ hs => ?_
  refine RL_alloc hs ti57 (.free rfl) (by decide) fun b11 _ _ hs => ?_
  refine RL_storeAll (i := 0) hs rfl rfl rfl ti57 ⟨rfl, rfl⟩ (AllC.arr ⟨rfl, rfl, rfl, hva1, rfl, rfl, rfl, rfl, rfl, trivial⟩) (.free rfl) fun _ _ hs => ?_
  refine RL_nil ?_
  refine hK2 _ _ ?_; clear hK2
  refine W_seq fun K3 hK3 => ?_
  refine W_region ?_
  refine sy hs (y_move rfl) fun _ _ hs => ?_
  refine sy hs (y_ld (u := lv) rfl Tryz.underlying40 rfl (Cell.fz hE.e3 rfl)) fun _ _ hs => ?_
  refine sy hs (y_move rfl) fun _ _ hs => ?_
  refine sy hs (y_indexAddr hE.l rfl rfl rfl (by omega) Tryz.underlying40 ti28) fun _ _ hs => ?_
  refine sy hs (y_ldRow rfl Tryz.underlying28 rfl ti28 hE.l.up hsm) fun _ _ hs => ?_
  refine sy hs (y_buildN (places := boxP) (zl := zB) (ls := [(1, [.int .i64 m]), (3, s0)]) (cs := cB 0 m 0 (s0) ByteArray.empty (.slice none 0 0)) rfl Tryz.underlying31 ti31 (by kernel_rfl) ⟨rfl, rfl, rfl, rfl, trivial⟩ (by rw [zB_eq, put1 rfl, put3 rfl hS.len]; rfl)) fun _ _ hs => ?_
  refine RL_alloc hs ti31 (.free rfl) (by decide) fun b12 _ _ hs => ?_
  refine RL_storeAll (i := 0) hs rfl rfl rfl ti31 ⟨rfl, by simp [cB_len hS.len]⟩ (one_arr (cB_one hS rfl)) (.free rfl) fun _ _ hs => ?_
  refine RL_nil ?_
  refine hK3 _ _ ?_; clear hK3
  refine W_seq fun K4 hK4 => ?_
  refine W_block fun Qe5 hB5 hO5 => ?_
  refine W_seq fun K6 hK6 => ?_
  refine W_region ?_
  first | (refine sy hs (y_fieldAddr rfl (FO.of (off := 0) Tryz.underlying57 rfl rfl ti3 (by decide))) ?_; clear hs; (try clear a w); intro a w hs) | (refine sy hs (y_faE rfl (FO.of (off := 0) Tryz.underlying57 rfl rfl ti3 (by decide))) ?_; clear hs; (try clear a w); intro a w hs)
  first | (refine sy hs (y_ld rfl Tryz.underlying3 rfl) ?_; clear hs; (try clear a w); intro a w hs) | (refine sy hs (y_ldE rfl Tryz.underlying3 rfl) ?_; clear hs; (try clear a w); intro a w hs)
  refine sy hs (y_eql rfl rfl) fun _ _ hs => ?_
  refine sy hs (y_assign rfl) fun _ _ hs => ?_
  refine RL_nil ?_
  refine hK6 _ _ ?_; clear hK6
  first | refine W_condP hs rfl (fun hk2 => ?_) (fun hk2 => ?_) | refine W_cond hs rfl (fun hk2 => ?_) (fun hk2 => ?_)
  · refine W_seq fun K7 hK7 => ?_
    refine D_start hs ([.blk b11 (.cells #[.int .i64 (nd ns m).Kind, .string (nd ns m).Name, .string (nd ns m).Text, va, .int .i64 (nd ns m).Parent, .int .i64 (nd ns m).First, .int .i64 (nd ns m).Last, .int .i64 (nd ns m).Prev, .int .i64 (nd ns m).Next] 57 (0, 0))]) [5] [(0, true), (1, true), (2, true), (3, false), (4, true), (5, false)] mixed (by kernel_rfl) fun _ he => ?_
    first | (refine dy 0 he rfl (y_fieldAddr rfl (FO.of (off := 2) Tryz.underlying57 rfl rfl ti9 (by decide))) ?_; clear he; (try clear a); intro a he) | (refine dy 0 he rfl (y_faE rfl (FO.of (off := 2) Tryz.underlying57 rfl rfl ti9 (by decide))) ?_; clear he; (try clear a); intro a he)
    refine dy 1 he rfl (y_ld (u := .string (nd ns m).Text) rfl Tryz.underlying9 rfl (Cell.blk (.head _) rfl)) fun _ he => ?_
    first | (refine dy 2 he rfl (y_fieldAddr rfl (FO.of (off := 0) Tryz.underlying31 rfl rfl ti3 (by decide))) ?_; clear he; (try clear a); intro a he) | (refine dy 2 he rfl (y_faE rfl (FO.of (off := 0) Tryz.underlying31 rfl rfl ti3 (by decide))) ?_; clear he; (try clear a); intro a he)
    refine D_eff (i := 3) rfl he ?_; clear he; (try clear a); intro a w hs
    refine RL_storeBlk (i := 0) (o := 0) (u := .int .i64 7) hs rfl rfl rfl ti3 rfl (by simp [cB]) (by rw [List.setIfInBounds_toArray, cB_set0]) (.free rfl) fun _ _ hs => ?_
    refine don hs fun _ he => ?_
    first | (refine dy 4 he rfl (y_fieldAddr rfl (FO.of (off := 55) Tryz.underlying31 rfl rfl ti9 (by decide))) ?_; clear he; (try clear a); intro a he) | (refine dy 4 he rfl (y_faE rfl (FO.of (off := 55) Tryz.underlying31 rfl rfl ti9 (by decide))) ?_; clear he; (try clear a); intro a he)
    refine D_eff (i := 5) rfl he ?_; clear he; (try clear a); intro a w hs
    refine RL_storeBlk (i := 0) (o := 55) (u := .string (nd ns m).Text) hs rfl rfl rfl ti9 rfl (by simp [cB_len hS.len]) (by rw [List.setIfInBounds_toArray, cB_setT hS.len]) (.free rfl) fun _ _ hs => ?_
    refine dend hs fun _ he => ?_
    refine D_nil he ?_; clear he; (try clear a); intro w hs
    refine hK7 _ _ ?_; clear hK7
    refine W_seq fun K8 hK8 => ?_
    refine W_region ?_
    refine sy hs (y_ldB rfl Tryz.underlying31 rfl ti31 (.head _) (by simp [cB_len hS.len])) fun _ _ hs => ?_
    refine RL_storeAll (i := 2) hs rfl rfl rfl ti31 ⟨rfl, by simp [cB_len hS.len]⟩ (one_arr (cB_one hS rfl)) (.free rfl) fun _ _ hs => ?_
    refine sy hs (y_assign rfl) fun _ _ hs => ?_
    refine RL_nil ?_
    refine hK8 _ _ ?_; clear hK8
    refine W_ret ?_
    refine RtV2 hs rfl (rv_a hs rfl Tryz.underlying31 rfl ti31 (fun j u hj => Cell.blk (.tail _ (.tail _ (.head _))) hj) (by simp [cB_len hS.len])) (rv_t hs rfl) ?_
    refine ⟨_, _, [.row (.slice none 0 0) 31 57 []], rfl, .refl _, (hs.cw.tail.tail.tail.nilRow 31 57), _, by rw [buildM, hs0, if_pos hk2]; rfl, cB_one hS rfl, ?_⟩
    rw [buildM, hs0, if_pos hk2]
    exact ⟨hS, _, [], [], rfl, rfl, rfl, rfl⟩
  · refine W_seq fun K9 hK9 => ?_
    refine W_region ?_
    first | (refine sy hs (y_fieldAddr rfl (FO.of (off := 3) Tryz.underlying31 rfl rfl ti28 (by decide))) ?_; clear hs; (try clear a w); intro a w hs) | (refine sy hs (y_faE rfl (FO.of (off := 3) Tryz.underlying31 rfl rfl ti28 (by decide))) ?_; clear hs; (try clear a w); intro a w hs)
    first | (refine sy hs (y_fieldAddr rfl (FO.of (off := 0) Tryz.underlying28 rfl rfl ti3 (by decide))) ?_; clear hs; (try clear a w); intro a w hs) | (refine sy hs (y_faE rfl (FO.of (off := 0) Tryz.underlying28 rfl rfl ti3 (by decide))) ?_; clear hs; (try clear a w); intro a w hs)
    refine sy hs (y_ld (u := .int .i64 (dispS (s0))) rfl Tryz.underlying3 rfl (Cell.blk (.head _) (cB_sty28 hS 0 _ hS.d))) fun _ _ hs => ?_
    refine sy hs (y_eql rfl rfl) fun _ _ hs => ?_
    refine sy hs (y_assign rfl) fun _ _ hs => ?_
    refine RL_nil ?_
    refine hK9 _ _ ?_; clear hK9
    first | refine W_condP hs rfl (fun hd2 => ?_) (fun hd2 => ?_) | refine W_cond hs rfl (fun hd2 => ?_) (fun hd2 => ?_)
    · refine W_seq fun K10 hK10 => ?_
      refine W_region ?_
      refine sy hs (y_buildN (places := boxP) (zl := zB) (ls := []) (cs := zB) rfl Tryz.underlying31 ti31 (by kernel_rfl) trivial rfl) fun _ _ hs => ?_
      refine RL_storeAll (i := 2) hs rfl rfl rfl ti31 ⟨rfl, rfl⟩ (one_arr zB_one) (.free rfl) fun _ _ hs => ?_
      refine sy hs (y_assign rfl) fun _ _ hs => ?_
      refine RL_nil ?_
      refine hK10 _ _ ?_; clear hK10
      refine W_ret ?_
      refine RtV2 hs rfl (rv_a hs rfl Tryz.underlying31 rfl ti31 (fun j u hj => Cell.blk (.tail _ (.tail _ (.head _))) hj) rfl) (rv_t hs rfl) ?_
      refine ⟨_, _, [], rfl, .refl _, hs.cw.tail.tail.tail, zB, by rw [buildM, hs0, if_neg hk2, if_pos hd2]; rfl, zB_one, ?_⟩
      rw [buildM, hs0, if_neg hk2, if_pos hd2]
    · refine W_seq fun K11 hK11 => ?_
      refine W_region ?_
      first | (refine sy hs (y_fieldAddr rfl (FO.of (off := 1) Tryz.underlying57 rfl rfl ti9 (by decide))) ?_; clear hs; (try clear a w); intro a w hs) | (refine sy hs (y_faE rfl (FO.of (off := 1) Tryz.underlying57 rfl rfl ti9 (by decide))) ?_; clear hs; (try clear a w); intro a w hs)
      refine sy hs (y_ld (u := .string (nd ns m).Name) rfl Tryz.underlying9 rfl (Cell.blk (.tail _ (.head _)) rfl)) fun _ _ hs => ?_
      refine sy hs (y_seql rfl rfl) fun _ _ hs => ?_
      refine sy hs (y_assign rfl) fun _ _ hs => ?_
      refine RL_nil ?_
      refine hK11 _ _ ?_; clear hK11
      first | refine W_condP hs rfl (fun hbr => ?_) (fun hbr => ?_) | refine W_cond hs rfl (fun hbr => ?_) (fun hbr => ?_)
      · have hbr : (nd ns m).Name = bs [98, 114] := hbr
        refine W_seq fun K12 hK12 => ?_
        refine W_region ?_
        first | (refine sy hs (y_fieldAddr rfl (FO.of (off := 0) Tryz.underlying31 rfl rfl ti3 (by decide))) ?_; clear hs; (try clear a w); intro a w hs) | (refine sy hs (y_faE rfl (FO.of (off := 0) Tryz.underlying31 rfl rfl ti3 (by decide))) ?_; clear hs; (try clear a w); intro a w hs)
        refine RL_storeBlk (i := 0) (o := 0) (u := .int .i64 8) hs rfl rfl rfl ti3 rfl (by simp [cB]) (by rw [List.setIfInBounds_toArray, cB_set0]) (.free rfl) fun _ _ hs => ?_
        refine RL_nil ?_
        refine hK12 _ _ ?_; clear hK12
        refine W_seq fun K13 hK13 => ?_
        refine W_region ?_
        refine sy hs (y_ldB rfl Tryz.underlying31 rfl ti31 (.head _) (by simp [cB_len hS.len])) fun _ _ hs => ?_
        refine RL_storeAll (i := 2) hs rfl rfl rfl ti31 ⟨rfl, by simp [cB_len hS.len]⟩ (one_arr (cB_one hS rfl)) (.free rfl) fun _ _ hs => ?_
        refine sy hs (y_assign rfl) fun _ _ hs => ?_
        refine RL_nil ?_
        refine hK13 _ _ ?_; clear hK13
        refine W_ret ?_
        refine RtV2 hs rfl (rv_a hs rfl Tryz.underlying31 rfl ti31 (fun j u hj => Cell.blk (.tail _ (.tail _ (.head _))) hj) (by simp [cB_len hS.len])) (rv_t hs rfl) ?_
        refine ⟨_, _, [.row (.slice none 0 0) 31 57 []], rfl, .refl _, (hs.cw.tail.tail.tail.nilRow 31 57), _, by rw [buildM, hs0, if_neg hk2, if_neg hd2, if_pos hbr]; rfl, cB_one hS rfl, ?_⟩
        rw [buildM, hs0, if_neg hk2, if_neg hd2, if_pos hbr]
        exact ⟨hS, _, [], [], rfl, rfl, rfl, rfl⟩
      · have hbr : ¬ (nd ns m).Name = bs [98, 114] := hbr
        have hbM : buildM ns ss (d + 1) m above heavy = some (fitM (kindM (styM (s0) above heavy) above heavy) m 0 (styM (s0) above heavy) ByteArray.empty ((kd ns m).filterMap fun c => buildM ns ss d c.toNat (kindM (styM (s0) above heavy) above heavy) (heavyM (kindM (styM (s0) above heavy) above heavy) (styM (s0) above heavy) heavy))) := by
          rw [buildM, hs0, if_neg hk2, if_neg hd2, if_neg hbr]
        clear hk2 hd2 hbr
        replace hs := (hs.subL (L' := .blk b12 (.cells (cB 0 m 0 s0 ByteArray.empty (.slice none 0 0)).toArray 31 (0, 0)) :: .blk b9 (.cells zB.toArray 31 (0, 0)) :: ([] ++ L)) (.cons_cons _ (.cons _ (.refl _)))).sub (E' := [(0, .int .i64 (m : Int)), (1, .int .i64 above), (2, .int .i64 heavy), (3, .pointer (some ⟨c2, 0, none⟩)), (4, .pointer (some ⟨c3, 0, none⟩)), (5, .pointer (some ⟨c6, 0, none⟩)), (9, .pointer (some ⟨b9, 0, none⟩)), (12, .pointer (some ⟨b12, 0, none⟩))]) ⟨rfl, rfl, rfl, rfl, rfl, rfl, rfl, rfl, trivial⟩
        refine W_skip ?_
        refine hK4 _ _ ?_; clear hK4
        refine W_cut (fun a w => St 148 w0 f (.blk b12 (.cells (cB 0 m 0 (sty1 s0 heavy) ByteArray.empty (.slice none 0 0)).toArray 31 (0, 0)) :: .blk b9 (.cells zB.toArray 31 (0, 0)) :: ([] ++ L)) [(0, .int .i64 (m : Int)), (1, .int .i64 above), (2, .int .i64 heavy), (3, .pointer (some ⟨c2, 0, none⟩)), (4, .pointer (some ⟨c3, 0, none⟩)), (5, .pointer (some ⟨c6, 0, none⟩)), (9, .pointer (some ⟨b9, 0, none⟩)), (12, .pointer (some ⟨b12, 0, none⟩))] a w) ?_ (fun a w hI => ?_)
        · refine W_cut (fun a w => St 148 w0 f (.blk b12 (.cells (cB 0 m 0 s0 ByteArray.empty (.slice none 0 0)).toArray 31 (0, 0)) :: .blk b9 (.cells zB.toArray 31 (0, 0)) :: ([] ++ L)) ((63, .bool (decide (4 ≤ heavy) && liftS s0)) :: [(0, .int .i64 (m : Int)), (1, .int .i64 above), (2, .int .i64 heavy), (3, .pointer (some ⟨c2, 0, none⟩)), (4, .pointer (some ⟨c3, 0, none⟩)), (5, .pointer (some ⟨c6, 0, none⟩)), (9, .pointer (some ⟨b9, 0, none⟩)), (12, .pointer (some ⟨b12, 0, none⟩))]) a w) ?_ (fun a w hI => ?_)
          · refine W_region ?_
            refine sy hs (y_move rfl) fun _ _ hs => ?_
            refine sy hs (y_geq rfl rfl) fun _ _ hs => ?_
            refine sy hs (y_move rfl) fun _ _ hs => ?_
            first | refine St.splitP hs (t := 52) rfl (fun g1 hq => ?_) (fun g1 hq => ?_) | refine St.split hs (t := 52) rfl (fun g1 hq => ?_) (fun g1 hq => ?_)
            · clear hs; have hs := hq; clear hq
              have g1 : (4 : Int) ≤ heavy := g1
              first | (refine syg hs (y_fieldAddr rfl (FO.of (off := 3) Tryz.underlying31 rfl rfl ti28 (by decide))) ?_; clear hs; (try clear a w); intro a w hs) | (refine syg hs (y_faE rfl (FO.of (off := 3) Tryz.underlying31 rfl rfl ti28 (by decide))) ?_; clear hs; (try clear a w); intro a w hs)
              first | (refine syg hs (y_fieldAddr rfl (FO.of (off := 1) Tryz.underlying28 rfl rfl ti3 (by decide))) ?_; clear hs; (try clear a w); intro a w hs) | (refine syg hs (y_faE rfl (FO.of (off := 1) Tryz.underlying28 rfl rfl ti3 (by decide))) ?_; clear hs; (try clear a w); intro a w hs)
              refine syg hs (y_ld (u := .int .i64 (posS s0)) rfl Tryz.underlying3 rfl (Cell.blk (.head _) (cB_sty28 hS 1 _ hS.p))) fun _ _ hs => ?_
              refine syg hs (y_eql rfl rfl) fun _ _ hs => ?_
              refine syg hs (y_move rfl) fun _ _ hs => ?_
              first | refine St.splitP hs (t := 57) rfl (fun g2 hq => ?_) (fun g2 hq => ?_) | refine St.split hs (t := 57) rfl (fun g2 hq => ?_) (fun g2 hq => ?_)
              · clear hs; have hs := hq; clear hq
                refine sno hs fun _ _ hs => ?_
                refine sno hs fun _ _ hs => ?_
                refine sno hs fun _ _ hs => ?_
                refine sno hs fun _ _ hs => ?_
                refine syg hs (y_pick rfl rfl) fun _ _ hs => ?_
                refine sy hs (y_pick rfl rfl) fun _ _ hs => ?_
                refine RL_nil ?_
                rw [show (decide (4 ≤ heavy) && liftS s0) = true by simp [liftS, g1, g2]]
                exact hs.sub ⟨rfl, rfl, rfl, rfl, rfl, rfl, rfl, rfl, rfl, trivial⟩
              · clear hs; have hs := hq; clear hq
                first | (refine syg hs (y_fieldAddr rfl (FO.of (off := 3) Tryz.underlying31 rfl rfl ti28 (by decide))) ?_; clear hs; (try clear a w); intro a w hs) | (refine syg hs (y_faE rfl (FO.of (off := 3) Tryz.underlying31 rfl rfl ti28 (by decide))) ?_; clear hs; (try clear a w); intro a w hs)
                first | (refine syg hs (y_fieldAddr rfl (FO.of (off := 1) Tryz.underlying28 rfl rfl ti3 (by decide))) ?_; clear hs; (try clear a w); intro a w hs) | (refine syg hs (y_faE rfl (FO.of (off := 1) Tryz.underlying28 rfl rfl ti3 (by decide))) ?_; clear hs; (try clear a w); intro a w hs)
                refine syg hs (y_ld (u := .int .i64 (posS s0)) rfl Tryz.underlying3 rfl (Cell.blk (.head _) (cB_sty28 hS 1 _ hS.p))) fun _ _ hs => ?_
                refine syg hs (y_eql rfl rfl) fun _ _ hs => ?_
                refine syg hs (y_pick rfl rfl) fun _ _ hs => ?_
                refine sy hs (y_pick rfl rfl) fun _ _ hs => ?_
                refine RL_nil ?_
                rw [show (decide (4 ≤ heavy) && liftS s0) = decide (posS s0 = 3) by simp [liftS, g1, g2]]
                exact hs.sub ⟨rfl, rfl, rfl, rfl, rfl, rfl, rfl, rfl, rfl, trivial⟩
            · clear hs; have hs := hq; clear hq
              refine sno hs fun _ _ hs => ?_
              refine sno hs fun _ _ hs => ?_
              refine sno hs fun _ _ hs => ?_
              refine sno hs fun _ _ hs => ?_
              refine sno hs fun _ _ hs => ?_
              refine sun hs fun _ _ hs => ?_
              refine sun hs fun _ _ hs => ?_
              refine sun hs fun _ _ hs => ?_
              refine sun hs fun _ _ hs => ?_
              refine sno hs fun _ _ hs => ?_
              refine sy hs (y_pick rfl rfl) fun _ _ hs => ?_
              refine RL_nil ?_
              have g1 : ¬ (4 : Int) ≤ heavy := g1
              rw [show (decide (4 ≤ heavy) && liftS s0) = false by simp [g1]]
              exact hs.sub ⟨rfl, rfl, rfl, rfl, rfl, rfl, rfl, rfl, rfl, trivial⟩
          · have hs := hI; clear hI
            first | refine W_condP hs rfl (fun hc => ?_) (fun hc => ?_) | refine W_cond hs rfl (fun hc => ?_) (fun hc => ?_)
            · refine W_region ?_
              first | (refine sy hs (y_fieldAddr rfl (FO.of (off := 3) Tryz.underlying31 rfl rfl ti28 (by decide))) ?_; clear hs; (try clear a w); intro a w hs) | (refine sy hs (y_faE rfl (FO.of (off := 3) Tryz.underlying31 rfl rfl ti28 (by decide))) ?_; clear hs; (try clear a w); intro a w hs)
              first | (refine sy hs (y_fieldAddr rfl (FO.of (off := 1) Tryz.underlying28 rfl rfl ti3 (by decide))) ?_; clear hs; (try clear a w); intro a w hs) | (refine sy hs (y_faE rfl (FO.of (off := 1) Tryz.underlying28 rfl rfl ti3 (by decide))) ?_; clear hs; (try clear a w); intro a w hs)
              refine RL_storeBlk (i := 0) (o := 4) (u := .int .i64 0) hs rfl rfl rfl ti3 rfl (by simp [cB_len hS.len]) (by rw [List.setIfInBounds_toArray, cB_set4 hS.len]) (.free rfl) fun _ _ hs => ?_
              refine RL_nil ?_
              rw [sty1, if_pos (by simpa using hc)]
              exact hs.sub ⟨rfl, rfl, rfl, rfl, rfl, rfl, rfl, rfl, trivial⟩
            · refine W_skip ?_
              rw [sty1, if_neg (by simpa using hc)]
              exact hs.sub ⟨rfl, rfl, rfl, rfl, rfl, rfl, rfl, rfl, trivial⟩
        · have hs := hI; clear hI
          have hS1 : StyOK (sty1 s0 heavy) := sty1_OK hS
          refine W_cut (fun a w => St 148 w0 f (.blk b12 (.cells (cB 0 m 0 (styM s0 above heavy) ByteArray.empty (.slice none 0 0)).toArray 31 (0, 0)) :: .blk b9 (.cells zB.toArray 31 (0, 0)) :: ([] ++ L)) [(0, .int .i64 (m : Int)), (1, .int .i64 above), (2, .int .i64 heavy), (3, .pointer (some ⟨c2, 0, none⟩)), (4, .pointer (some ⟨c3, 0, none⟩)), (5, .pointer (some ⟨c6, 0, none⟩)), (9, .pointer (some ⟨b9, 0, none⟩)), (12, .pointer (some ⟨b12, 0, none⟩))] a w) ?_ (fun a w hI => ?_)
          · refine W_seq fun K17 hK17 => ?_
            refine W_region ?_
            first | (refine sy hs (y_fieldAddr rfl (FO.of (off := 3) Tryz.underlying31 rfl rfl ti28 (by decide))) ?_; clear hs; (try clear a w); intro a w hs) | (refine sy hs (y_faE rfl (FO.of (off := 3) Tryz.underlying31 rfl rfl ti28 (by decide))) ?_; clear hs; (try clear a w); intro a w hs)
            first | (refine sy hs (y_fieldAddr rfl (FO.of (off := 1) Tryz.underlying28 rfl rfl ti3 (by decide))) ?_; clear hs; (try clear a w); intro a w hs) | (refine sy hs (y_faE rfl (FO.of (off := 1) Tryz.underlying28 rfl rfl ti3 (by decide))) ?_; clear hs; (try clear a w); intro a w hs)
            refine sy hs (y_ld (u := .int .i64 (posS (sty1 s0 heavy))) rfl Tryz.underlying3 rfl (Cell.blk (.head _) (cB_sty28 hS1 1 _ hS1.p))) fun _ _ hs => ?_
            refine sy hs (y_assign rfl) fun _ _ hs => ?_
            refine RL_nil ?_
            refine hK17 _ _ ?_; clear hK17
            refine W_cut (fun a w => St 148 w0 f (.blk b12 (.cells (cB 0 m 0 (sty1 s0 heavy) ByteArray.empty (.slice none 0 0)).toArray 31 (0, 0)) :: .blk b9 (.cells zB.toArray 31 (0, 0)) :: ([] ++ L)) ((78, .bool (liftS (sty1 s0 heavy) || decide (above = 2))) :: [(0, .int .i64 (m : Int)), (1, .int .i64 above), (2, .int .i64 heavy), (3, .pointer (some ⟨c2, 0, none⟩)), (4, .pointer (some ⟨c3, 0, none⟩)), (5, .pointer (some ⟨c6, 0, none⟩)), (9, .pointer (some ⟨b9, 0, none⟩)), (12, .pointer (some ⟨b12, 0, none⟩))]) a w) ?_ (fun a w hI => ?_)
            · refine W_region ?_
              refine sy hs (y_move rfl) fun _ _ hs => ?_
              refine sy hs (y_eql rfl rfl) fun _ _ hs => ?_
              refine sy hs (y_move rfl) fun _ _ hs => ?_
              first | refine St.splitP hs (t := 71) rfl (fun g1 hq => ?_) (fun g1 hq => ?_) | refine St.split hs (t := 71) rfl (fun g1 hq => ?_) (fun g1 hq => ?_)
              · clear hs; have hs := hq; clear hq
                refine sno hs fun _ _ hs => ?_
                refine sno hs fun _ _ hs => ?_
                refine sy hs (y_pick rfl rfl) fun _ _ hs => ?_
                refine sy hs (y_move rfl) fun _ _ hs => ?_
                refine sno hs fun _ _ hs => ?_
                refine sno hs fun _ _ hs => ?_
                refine sy hs (y_pick rfl rfl) fun _ _ hs => ?_
                refine RL_nil ?_
                rw [show (liftS (sty1 s0 heavy) || decide (above = 2)) = true by simp [liftS, g1]]
                exact hs.sub ⟨rfl, rfl, rfl, rfl, rfl, rfl, rfl, rfl, rfl, trivial⟩
              · clear hs; have hs := hq; clear hq
                refine syg hs (y_move rfl) fun _ _ hs => ?_
                refine syg hs (y_eql rfl rfl) fun _ _ hs => ?_
                refine sy hs (y_pick rfl rfl) fun _ _ hs => ?_
                refine sy hs (y_move rfl) fun _ _ hs => ?_
                first | refine St.splitP hs (t := 75) rfl (fun g2 hq => ?_) (fun g2 hq => ?_) | refine St.split hs (t := 75) rfl (fun g2 hq => ?_) (fun g2 hq => ?_)
                · clear hs; have hs := hq; clear hq
                  refine sno hs fun _ _ hs => ?_
                  refine sno hs fun _ _ hs => ?_
                  refine sy hs (y_pick rfl rfl) fun _ _ hs => ?_
                  refine RL_nil ?_
                  rw [show (liftS (sty1 s0 heavy) || decide (above = 2)) = true by simp [liftS, g2]]
                  exact hs.sub ⟨rfl, rfl, rfl, rfl, rfl, rfl, rfl, rfl, rfl, trivial⟩
                · clear hs; have hs := hq; clear hq
                  refine syg hs (y_move rfl) fun _ _ hs => ?_
                  refine syg hs (y_eql rfl rfl) fun _ _ hs => ?_
                  refine sy hs (y_pick rfl rfl) fun _ _ hs => ?_
                  refine RL_nil ?_
                  rw [show (liftS (sty1 s0 heavy) || decide (above = 2)) = decide (above = 2) by simp [liftS, g1, g2]]
                  exact hs.sub ⟨rfl, rfl, rfl, rfl, rfl, rfl, rfl, rfl, rfl, trivial⟩
            · have hs := hI; clear hI
              first | refine W_condP hs rfl (fun hc => ?_) (fun hc => ?_) | refine W_cond hs rfl (fun hc => ?_) (fun hc => ?_)
              · refine W_region ?_
                first | (refine sy hs (y_fieldAddr rfl (FO.of (off := 3) Tryz.underlying31 rfl rfl ti28 (by decide))) ?_; clear hs; (try clear a w); intro a w hs) | (refine sy hs (y_faE rfl (FO.of (off := 3) Tryz.underlying31 rfl rfl ti28 (by decide))) ?_; clear hs; (try clear a w); intro a w hs)
                first | (refine sy hs (y_fieldAddr rfl (FO.of (off := 2) Tryz.underlying28 rfl rfl ti3 (by decide))) ?_; clear hs; (try clear a w); intro a w hs) | (refine sy hs (y_faE rfl (FO.of (off := 2) Tryz.underlying28 rfl rfl ti3 (by decide))) ?_; clear hs; (try clear a w); intro a w hs)
                refine RL_storeBlk (i := 0) (o := 5) (u := .int .i64 0) hs rfl rfl rfl ti3 rfl (by simp [cB_len hS1.len]) (by rw [List.setIfInBounds_toArray, cB_set5 hS1.len]) (.free rfl) fun _ _ hs => ?_
                refine RL_nil ?_
                rw [styM, if_pos (by simpa using hc)]
                exact hs.sub ⟨rfl, rfl, rfl, rfl, rfl, rfl, rfl, rfl, trivial⟩
              · refine W_skip ?_
                rw [styM, if_neg (by simpa using hc)]
                exact hs.sub ⟨rfl, rfl, rfl, rfl, rfl, rfl, rfl, rfl, trivial⟩
          · have hs := hI; clear hI
            have hS2 : StyOK (styM s0 above heavy) := styM_OK hS
            refine W_seq fun K19 hK19 => ?_
            refine W_region ?_
            first | (refine sy hs (y_fieldAddr rfl (FO.of (off := 3) Tryz.underlying31 rfl rfl ti28 (by decide))) ?_; clear hs; (try clear a w); intro a w hs) | (refine sy hs (y_faE rfl (FO.of (off := 3) Tryz.underlying31 rfl rfl ti28 (by decide))) ?_; clear hs; (try clear a w); intro a w hs)
            refine sy hs (y_loadAgg (cs := styM s0 above heavy) rfl (fun j u h => Cell.blk (.head _) (cB_sty28 hS2 j u h)) Tryz.underlying28 rfl ti28 hS2.len) fun _ _ hs => ?_
            refine sy hs (y_move rfl) fun _ _ hs => ?_
            refine sy hs (y_call rfl has33 rfl (kind_ok hS2)) fun _ _ hs => ?_
            first | (refine sy hs (y_fieldAddr rfl (FO.of (off := 0) Tryz.underlying31 rfl rfl ti3 (by decide))) ?_; clear hs; (try clear a w); intro a w hs) | (refine sy hs (y_faE rfl (FO.of (off := 0) Tryz.underlying31 rfl rfl ti3 (by decide))) ?_; clear hs; (try clear a w); intro a w hs)
            refine RL_storeBlk (i := 0) (o := 0) (u := .int .i64 (kindS (styM s0 above heavy) above)) hs rfl rfl rfl ti3 rfl (by simp [cB]) (by rw [List.setIfInBounds_toArray, cB_set0]) (.free rfl) fun _ _ hs => ?_
            refine RL_nil ?_
            refine hK19 _ _ ?_; clear hK19
            refine W_cut (fun a w => St 148 w0 f (.blk b12 (.cells (cB (kindM (styM s0 above heavy) above heavy) m 0 (styM s0 above heavy) ByteArray.empty (.slice none 0 0)).toArray 31 (0, 0)) :: .blk b9 (.cells zB.toArray 31 (0, 0)) :: ([] ++ L)) [(0, .int .i64 (m : Int)), (1, .int .i64 above), (2, .int .i64 heavy), (3, .pointer (some ⟨c2, 0, none⟩)), (4, .pointer (some ⟨c3, 0, none⟩)), (5, .pointer (some ⟨c6, 0, none⟩)), (9, .pointer (some ⟨b9, 0, none⟩)), (12, .pointer (some ⟨b12, 0, none⟩))] a w) ?_ (fun a w hI => ?_)
            · refine W_cut (fun a w => St 148 w0 f (.blk b12 (.cells (cB (kindS (styM s0 above heavy) above) m 0 (styM s0 above heavy) ByteArray.empty (.slice none 0 0)).toArray 31 (0, 0)) :: .blk b9 (.cells zB.toArray 31 (0, 0)) :: ([] ++ L)) ((97, .bool (decide (4 ≤ heavy) && (decide ((kindS (styM s0 above heavy) above) = 2) || decide ((kindS (styM s0 above heavy) above) = 3)))) :: [(0, .int .i64 (m : Int)), (1, .int .i64 above), (2, .int .i64 heavy), (3, .pointer (some ⟨c2, 0, none⟩)), (4, .pointer (some ⟨c3, 0, none⟩)), (5, .pointer (some ⟨c6, 0, none⟩)), (9, .pointer (some ⟨b9, 0, none⟩)), (12, .pointer (some ⟨b12, 0, none⟩))]) a w) ?_ (fun a w hI => ?_)
              · refine W_region ?_
                refine sy hs (y_move rfl) fun _ _ hs => ?_
                refine sy hs (y_geq rfl rfl) fun _ _ hs => ?_
                refine sy hs (y_move rfl) fun _ _ hs => ?_
                first | refine St.splitP hs (t := 88) rfl (fun g1 hq => ?_) (fun g1 hq => ?_) | refine St.split hs (t := 88) rfl (fun g1 hq => ?_) (fun g1 hq => ?_)
                · clear hs; have hs := hq; clear hq
                  have g1 : (4 : Int) ≤ heavy := g1
                  first | (refine syg hs (y_fieldAddr rfl (FO.of (off := 0) Tryz.underlying31 rfl rfl ti3 (by decide))) ?_; clear hs; (try clear a w); intro a w hs) | (refine syg hs (y_faE rfl (FO.of (off := 0) Tryz.underlying31 rfl rfl ti3 (by decide))) ?_; clear hs; (try clear a w); intro a w hs)
                  refine syg hs (y_ld (u := .int .i64 (kindS (styM s0 above heavy) above)) rfl Tryz.underlying3 rfl (Cell.blk (.head _) rfl)) fun _ _ hs => ?_
                  refine syg hs (y_eql rfl rfl) fun _ _ hs => ?_
                  refine syg hs (y_move rfl) fun _ _ hs => ?_
                  first | refine St.splitP hs (t := 92) rfl (fun g2 hq => ?_) (fun g2 hq => ?_) | refine St.split hs (t := 92) rfl (fun g2 hq => ?_) (fun g2 hq => ?_)
                  · clear hs; have hs := hq; clear hq
                    refine sno hs fun _ _ hs => ?_
                    refine sno hs fun _ _ hs => ?_
                    refine sno hs fun _ _ hs => ?_
                    refine syg hs (y_pick rfl rfl) fun _ _ hs => ?_
                    refine sy hs (y_pick rfl rfl) fun _ _ hs => ?_
                    refine RL_nil ?_
                    rw [show (decide (4 ≤ heavy) && (decide ((kindS (styM s0 above heavy) above) = 2) || decide ((kindS (styM s0 above heavy) above) = 3))) = true by simp [g1, g2]]
                    exact hs.sub ⟨rfl, rfl, rfl, rfl, rfl, rfl, rfl, rfl, rfl, trivial⟩
                  · clear hs; have hs := hq; clear hq
                    first | (refine syg hs (y_fieldAddr rfl (FO.of (off := 0) Tryz.underlying31 rfl rfl ti3 (by decide))) ?_; clear hs; (try clear a w); intro a w hs) | (refine syg hs (y_faE rfl (FO.of (off := 0) Tryz.underlying31 rfl rfl ti3 (by decide))) ?_; clear hs; (try clear a w); intro a w hs)
                    refine syg hs (y_ld (u := .int .i64 (kindS (styM s0 above heavy) above)) rfl Tryz.underlying3 rfl (Cell.blk (.head _) rfl)) fun _ _ hs => ?_
                    refine syg hs (y_eql rfl rfl) fun _ _ hs => ?_
                    refine syg hs (y_pick rfl rfl) fun _ _ hs => ?_
                    refine sy hs (y_pick rfl rfl) fun _ _ hs => ?_
                    refine RL_nil ?_
                    rw [show (decide (4 ≤ heavy) && (decide ((kindS (styM s0 above heavy) above) = 2) || decide ((kindS (styM s0 above heavy) above) = 3))) = decide ((kindS (styM s0 above heavy) above) = 3) by simp [g1, g2]]
                    exact hs.sub ⟨rfl, rfl, rfl, rfl, rfl, rfl, rfl, rfl, rfl, trivial⟩
                · clear hs; have hs := hq; clear hq
                  refine sno hs fun _ _ hs => ?_
                  refine sno hs fun _ _ hs => ?_
                  refine sno hs fun _ _ hs => ?_
                  refine sno hs fun _ _ hs => ?_
                  refine sun hs fun _ _ hs => ?_
                  refine sun hs fun _ _ hs => ?_
                  refine sun hs fun _ _ hs => ?_
                  refine sno hs fun _ _ hs => ?_
                  refine sy hs (y_pick rfl rfl) fun _ _ hs => ?_
                  refine RL_nil ?_
                  have g1 : ¬ (4 : Int) ≤ heavy := g1
                  rw [show (decide (4 ≤ heavy) && (decide ((kindS (styM s0 above heavy) above) = 2) || decide ((kindS (styM s0 above heavy) above) = 3))) = false by simp [g1]]
                  exact hs.sub ⟨rfl, rfl, rfl, rfl, rfl, rfl, rfl, rfl, rfl, trivial⟩
              · have hs := hI; clear hI
                first | refine W_condP hs rfl (fun hc => ?_) (fun hc => ?_) | refine W_cond hs rfl (fun hc => ?_) (fun hc => ?_)
                · refine W_region ?_
                  first | (refine sy hs (y_fieldAddr rfl (FO.of (off := 0) Tryz.underlying31 rfl rfl ti3 (by decide))) ?_; clear hs; (try clear a w); intro a w hs) | (refine sy hs (y_faE rfl (FO.of (off := 0) Tryz.underlying31 rfl rfl ti3 (by decide))) ?_; clear hs; (try clear a w); intro a w hs)
                  refine RL_storeBlk (i := 0) (o := 0) (u := .int .i64 1) hs rfl rfl rfl ti3 rfl (by simp [cB]) (by rw [List.setIfInBounds_toArray, cB_set0]) (.free rfl) fun _ _ hs => ?_
                  refine RL_nil ?_
                  rw [kindM, if_pos (by simpa using hc)]
                  exact hs.sub ⟨rfl, rfl, rfl, rfl, rfl, rfl, rfl, rfl, trivial⟩
                · refine W_skip ?_
                  rw [kindM, if_neg (by simpa using hc)]
                  exact hs.sub ⟨rfl, rfl, rfl, rfl, rfl, rfl, rfl, rfl, trivial⟩
            · have hs := hI; clear hI
              refine W_cut (fun a w => St 148 w0 f (.blk b12 (.cells (cB (kindM (styM s0 above heavy) above heavy) m 0 (styM s0 above heavy) ByteArray.empty (.slice none 0 0)).toArray 31 (0, 0)) :: .blk b9 (.cells zB.toArray 31 (0, 0)) :: ([] ++ L)) [(0, .int .i64 (m : Int)), (1, .int .i64 above), (2, .int .i64 (heavyM (kindM (styM s0 above heavy) above heavy) (styM s0 above heavy) heavy)), (3, .pointer (some ⟨c2, 0, none⟩)), (4, .pointer (some ⟨c3, 0, none⟩)), (5, .pointer (some ⟨c6, 0, none⟩)), (9, .pointer (some ⟨b9, 0, none⟩)), (12, .pointer (some ⟨b12, 0, none⟩))] a w) ?_ (fun a w hI => ?_)
              · refine W_cut (fun a w => St 148 w0 f (.blk b12 (.cells (cB (kindM (styM s0 above heavy) above heavy) m 0 (styM s0 above heavy) ByteArray.empty (.slice none 0 0)).toArray 31 (0, 0)) :: .blk b9 (.cells zB.toArray 31 (0, 0)) :: ([] ++ L)) ((118, .bool (decide ((kindM (styM s0 above heavy) above heavy) = 2) || (decide ((kindM (styM s0 above heavy) above heavy) = 3) || liftS (styM s0 above heavy)))) :: [(0, .int .i64 (m : Int)), (1, .int .i64 above), (2, .int .i64 heavy), (3, .pointer (some ⟨c2, 0, none⟩)), (4, .pointer (some ⟨c3, 0, none⟩)), (5, .pointer (some ⟨c6, 0, none⟩)), (9, .pointer (some ⟨b9, 0, none⟩)), (12, .pointer (some ⟨b12, 0, none⟩))]) a w) ?_ (fun a w hI => ?_)
                · refine W_region ?_
                  first | (refine sy hs (y_fieldAddr rfl (FO.of (off := 0) Tryz.underlying31 rfl rfl ti3 (by decide))) ?_; clear hs; (try clear a w); intro a w hs) | (refine sy hs (y_faE rfl (FO.of (off := 0) Tryz.underlying31 rfl rfl ti3 (by decide))) ?_; clear hs; (try clear a w); intro a w hs)
                  refine sy hs (y_ld (u := .int .i64 (kindM (styM s0 above heavy) above heavy)) rfl Tryz.underlying3 rfl (Cell.blk (.head _) rfl)) fun _ _ hs => ?_
                  refine sy hs (y_eql rfl rfl) fun _ _ hs => ?_
                  refine sy hs (y_move rfl) fun _ _ hs => ?_
                  first | refine St.splitP hs (t := 102) rfl (fun g1 hq => ?_) (fun g1 hq => ?_) | refine St.split hs (t := 102) rfl (fun g1 hq => ?_) (fun g1 hq => ?_)
                  · clear hs; have hs := hq; clear hq
                    refine sno hs fun _ _ hs => ?_
                    refine sno hs fun _ _ hs => ?_
                    refine sno hs fun _ _ hs => ?_
                    refine sy hs (y_pick rfl rfl) fun _ _ hs => ?_
                    refine sy hs (y_move rfl) fun _ _ hs => ?_
                    refine sno hs fun _ _ hs => ?_
                    refine sno hs fun _ _ hs => ?_
                    refine sno hs fun _ _ hs => ?_
                    refine sno hs fun _ _ hs => ?_
                    refine sy hs (y_pick rfl rfl) fun _ _ hs => ?_
                    refine sy hs (y_move rfl) fun _ _ hs => ?_
                    refine sno hs fun _ _ hs => ?_
                    refine sno hs fun _ _ hs => ?_
                    refine sno hs fun _ _ hs => ?_
                    refine sno hs fun _ _ hs => ?_
                    refine sy hs (y_pick rfl rfl) fun _ _ hs => ?_
                    refine RL_nil ?_
                    rw [show (decide ((kindM (styM s0 above heavy) above heavy) = 2) || (decide ((kindM (styM s0 above heavy) above heavy) = 3) || liftS (styM s0 above heavy))) = true by rw [decide_eq_true g1]; rfl]
                    exact hs.sub ⟨rfl, rfl, rfl, rfl, rfl, rfl, rfl, rfl, rfl, trivial⟩
                  · clear hs; have hs := hq; clear hq
                    first | (refine syg hs (y_fieldAddr rfl (FO.of (off := 0) Tryz.underlying31 rfl rfl ti3 (by decide))) ?_; clear hs; (try clear a w); intro a w hs) | (refine syg hs (y_faE rfl (FO.of (off := 0) Tryz.underlying31 rfl rfl ti3 (by decide))) ?_; clear hs; (try clear a w); intro a w hs)
                    refine syg hs (y_ld (u := .int .i64 (kindM (styM s0 above heavy) above heavy)) rfl Tryz.underlying3 rfl (Cell.blk (.head _) rfl)) fun _ _ hs => ?_
                    refine syg hs (y_eql rfl rfl) fun _ _ hs => ?_
                    refine sy hs (y_pick rfl rfl) fun _ _ hs => ?_
                    refine sy hs (y_move rfl) fun _ _ hs => ?_
                    first | refine St.splitP hs (t := 107) rfl (fun g2 hq => ?_) (fun g2 hq => ?_) | refine St.split hs (t := 107) rfl (fun g2 hq => ?_) (fun g2 hq => ?_)
                    · clear hs; have hs := hq; clear hq
                      refine sno hs fun _ _ hs => ?_
                      refine sno hs fun _ _ hs => ?_
                      refine sno hs fun _ _ hs => ?_
                      refine sno hs fun _ _ hs => ?_
                      refine sy hs (y_pick rfl rfl) fun _ _ hs => ?_
                      refine sy hs (y_move rfl) fun _ _ hs => ?_
                      refine sno hs fun _ _ hs => ?_
                      refine sno hs fun _ _ hs => ?_
                      refine sno hs fun _ _ hs => ?_
                      refine sno hs fun _ _ hs => ?_
                      refine sy hs (y_pick rfl rfl) fun _ _ hs => ?_
                      refine RL_nil ?_
                      rw [show (decide ((kindM (styM s0 above heavy) above heavy) = 2) || (decide ((kindM (styM s0 above heavy) above heavy) = 3) || liftS (styM s0 above heavy))) = true by rw [decide_eq_true g2, Bool.true_or, Bool.or_true]]
                      exact hs.sub ⟨rfl, rfl, rfl, rfl, rfl, rfl, rfl, rfl, rfl, trivial⟩
                    · clear hs; have hs := hq; clear hq
                      first | (refine syg hs (y_fieldAddr rfl (FO.of (off := 3) Tryz.underlying31 rfl rfl ti28 (by decide))) ?_; clear hs; (try clear a w); intro a w hs) | (refine syg hs (y_faE rfl (FO.of (off := 3) Tryz.underlying31 rfl rfl ti28 (by decide))) ?_; clear hs; (try clear a w); intro a w hs)
                      first | (refine syg hs (y_fieldAddr rfl (FO.of (off := 1) Tryz.underlying28 rfl rfl ti3 (by decide))) ?_; clear hs; (try clear a w); intro a w hs) | (refine syg hs (y_faE rfl (FO.of (off := 1) Tryz.underlying28 rfl rfl ti3 (by decide))) ?_; clear hs; (try clear a w); intro a w hs)
                      refine syg hs (y_ld (u := .int .i64 (posS (styM s0 above heavy))) rfl Tryz.underlying3 rfl (Cell.blk (.head _) (cB_sty28 hS2 1 _ hS2.p))) fun _ _ hs => ?_
                      refine syg hs (y_eql rfl rfl) fun _ _ hs => ?_
                      refine sy hs (y_pick rfl rfl) fun _ _ hs => ?_
                      refine sy hs (y_move rfl) fun _ _ hs => ?_
                      first | refine St.splitP hs (t := 113) rfl (fun g3 hq => ?_) (fun g3 hq => ?_) | refine St.split hs (t := 113) rfl (fun g3 hq => ?_) (fun g3 hq => ?_)
                      · clear hs; have hs := hq; clear hq
                        refine sno hs fun _ _ hs => ?_
                        refine sno hs fun _ _ hs => ?_
                        refine sno hs fun _ _ hs => ?_
                        refine sno hs fun _ _ hs => ?_
                        refine sy hs (y_pick rfl rfl) fun _ _ hs => ?_
                        refine RL_nil ?_
                        rw [show (decide ((kindM (styM s0 above heavy) above heavy) = 2) || (decide ((kindM (styM s0 above heavy) above heavy) = 3) || liftS (styM s0 above heavy))) = true by rw [liftS, decide_eq_true g3, Bool.true_or, Bool.or_true, Bool.or_true]]
                        exact hs.sub ⟨rfl, rfl, rfl, rfl, rfl, rfl, rfl, rfl, rfl, trivial⟩
                      · clear hs; have hs := hq; clear hq
                        first | (refine syg hs (y_fieldAddr rfl (FO.of (off := 3) Tryz.underlying31 rfl rfl ti28 (by decide))) ?_; clear hs; (try clear a w); intro a w hs) | (refine syg hs (y_faE rfl (FO.of (off := 3) Tryz.underlying31 rfl rfl ti28 (by decide))) ?_; clear hs; (try clear a w); intro a w hs)
                        first | (refine syg hs (y_fieldAddr rfl (FO.of (off := 1) Tryz.underlying28 rfl rfl ti3 (by decide))) ?_; clear hs; (try clear a w); intro a w hs) | (refine syg hs (y_faE rfl (FO.of (off := 1) Tryz.underlying28 rfl rfl ti3 (by decide))) ?_; clear hs; (try clear a w); intro a w hs)
                        refine syg hs (y_ld (u := .int .i64 (posS (styM s0 above heavy))) rfl Tryz.underlying3 rfl (Cell.blk (.head _) (cB_sty28 hS2 1 _ hS2.p))) fun _ _ hs => ?_
                        refine syg hs (y_eql rfl rfl) fun _ _ hs => ?_
                        refine sy hs (y_pick rfl rfl) fun _ _ hs => ?_
                        refine RL_nil ?_
                        rw [show (decide ((kindM (styM s0 above heavy) above heavy) = 2) || (decide ((kindM (styM s0 above heavy) above heavy) = 3) || liftS (styM s0 above heavy))) = decide (posS (styM s0 above heavy) = 3) by rw [liftS, decide_eq_false g1, decide_eq_false g2, decide_eq_false g3]; rfl]
                        exact hs.sub ⟨rfl, rfl, rfl, rfl, rfl, rfl, rfl, rfl, rfl, trivial⟩
                · have hs := hI; clear hI
                  first | refine W_condP hs rfl (fun hc => ?_) (fun hc => ?_) | refine W_cond hs rfl (fun hc => ?_) (fun hc => ?_)
                  · refine W_region ?_
                    refine sy hs (y_move rfl) fun _ _ hs => ?_
                    refine sy hs (y_add rfl rfl (wr_i64 (by omega))) fun _ _ hs => ?_
                    refine sy hs (y_assign rfl) fun _ _ hs => ?_
                    refine RL_nil ?_
                    rw [heavyM, if_pos (by simpa using hc)]
                    exact hs.sub ⟨rfl, rfl, rfl, rfl, rfl, rfl, rfl, rfl, trivial⟩
                  · refine W_skip ?_
                    rw [heavyM, if_neg (by simpa using hc)]
                    exact hs.sub ⟨rfl, rfl, rfl, rfl, rfl, rfl, rfl, rfl, trivial⟩
              · have hs := hI; clear hI
                have hh1 : heavyM (kindM (styM s0 above heavy) above heavy) (styM s0 above heavy) heavy ≤ heavy + 1 ∧ 0 ≤ heavyM (kindM (styM s0 above heavy) above heavy) (styM s0 above heavy) heavy := by unfold heavyM; split <;> omega
                have hkin : 1 ≤ (kindM (styM s0 above heavy) above heavy) ∧ (kindM (styM s0 above heavy) above heavy) ≤ 8 := kindM_in
                generalize hkm : (kindM (styM s0 above heavy) above heavy) = km at *
                generalize hst : (styM s0 above heavy) = s2 at *
                generalize hhm : heavyM km s2 heavy = hv at *
                refine W_seq fun K24 hK24 => ?_
                refine W_seq fun K25 hK25 => ?_
                refine W_region ?_
                refine sy hs (y_loadAgg (cs := [v0]) rfl (fun j u h => Cell.fz hE.e2 (by simpa using h)) Tryz.underlying37 rfl ti37 rfl) fun _ _ hs => ?_
                refine sy hs (y_move rfl) fun _ _ hs => ?_
                refine RL_callV hs rfl has34 rfl (dom_Kids_ok 5000 (p0 := ⟨ns⟩) (a0 := [v0]) (p1 := (m : Int)) ⟨v0, rfl, hE.n⟩ kd1) ?_; clear hs; (try clear a w)
                rintro kvv f2 _ a w hf2 ⟨_, rfl, rfl, krows, hKR, hKW⟩ hs
                have hkl := hKW.len
                refine sy hs (y_lenR0 hKR rfl Tryz.underlying78) fun _ _ hs => ?_
                refine sy hs (y_move rfl) fun _ _ hs => ?_
                refine RL_nil ?_
                refine hK25 _ _ ?_; clear hK25
                refine W_block fun Qe26 hB26 hO26 => ?_
                refine W_loop (fun (j : Nat) a w => ∃ f3 kv rows X, j ≤ (kd ns m).length ∧ Fz.le f2 f3 ∧ OwnL 31 (((kd ns m).take j).filterMap fun c => buildM ns ss d c.toNat km hv) rows X ∧ St 148 w0 f3 (.blk b12 (.cells (cB km m 0 s2 ByteArray.empty kv).toArray 31 (0, 0)) :: .blk b9 (.cells zB.toArray 31 (0, 0)) :: .row kv 31 57 rows :: (X ++ L)) [(0, .int .i64 (m : Int)), (1, .int .i64 above), (2, .int .i64 hv), (3, .pointer (some ⟨c2, 0, none⟩)), (4, .pointer (some ⟨c3, 0, none⟩)), (5, .pointer (some ⟨c6, 0, none⟩)), (9, .pointer (some ⟨b9, 0, none⟩)), (12, .pointer (some ⟨b12, 0, none⟩)), (123, kvv), (124, .int .i64 krows.length), (125, .int .i64 (j : Int))] a w) (fun j => (kd ns m).length - j) 0 ⟨f2, .slice none 0 0, [], [], by omega, .refl _, ⟨rfl, rfl⟩, (stPm (hs.nilRow 31 57) pmH).sub ⟨rfl, rfl, rfl, rfl, rfl, rfl, rfl, rfl, rfl, rfl, rfl, trivial⟩⟩ ?_
                clear hs; rintro j a w ⟨f3, kv, rows, X, hj, hf3, hO, hs⟩ K hK
                have hE3 := hE.le (hf2.trans hf3)
                have hK3 := hKR.le hf3
                have hrl := hO.len
                have hfl := List.length_filterMap_le (fun c => buildM ns ss d c.toNat km hv) ((kd ns m).take j)
                have htl := List.length_take_le j (kd ns m)
                have hkv1 := (Rd.st hs (.tail _ (.tail _ (.head _)))).one
                refine W_seq fun K27 hK27 => ?_
                refine W_region ?_
                refine sy hs (y_lss rfl rfl) fun _ _ hs => ?_
                refine RL_nil ?_
                refine hK27 _ _ ?_; clear hK27
                refine W_seq fun K28 hK28 => ?_
                first | refine W_condP hs rfl (fun hlt => ?_) (fun hlt => ?_) | refine W_cond hs rfl (fun hlt => ?_) (fun hlt => ?_)
                · obtain ⟨c, hc⟩ : ∃ c, (kd ns m)[j]? = some c := ⟨_, List.getElem?_eq_getElem (by omega)⟩
                  obtain ⟨q, rfl, hq1, hq2⟩ := kd4 c (List.mem_of_getElem? hc)
                  refine W_skip ?_
                  refine hK28 _ _ ?_; clear hK28
                  refine W_seq fun K29 hK29 => ?_
                  refine W_block fun Qe30 hB30 hO30 => ?_
                  refine W_seq fun K31 hK31 => ?_
                  refine W_region ?_
                  refine sy hs (y_indexAddr hK3 rfl rfl rfl (by omega) Tryz.underlying78 ti3) fun _ _ hs => ?_
                  refine sy hs (y_loadE (u := .int .i64 q) hK3.up rfl (rs_int hKW hc) rfl Tryz.underlying3 rfl) fun _ _ hs => ?_
                  refine sy hs (y_assign rfl) fun _ _ hs => ?_
                  refine RL_nil ?_
                  refine hK31 _ _ ?_; clear hK31
                  refine W_seq fun K32 hK32 => ?_
                  refine W_region ?_
                  refine sy hs (y_ld (u := .func (.func 32) #[] #[.pointer (some ⟨c2, 0, none⟩), .pointer (some ⟨c3, 0, none⟩), .pointer (some ⟨c6, 0, none⟩)]) rfl Tryz.underlying76 rfl (Cell.fz hE3.e6 rfl)) fun _ _ hs => ?_
                  refine sy hs (y_move rfl) fun _ _ hs => ?_
                  first | (refine sy hs (y_fieldAddr rfl (FO.of (off := 0) Tryz.underlying31 rfl rfl ti3 (by decide))) ?_; clear hs; (try clear a w); intro a w hs) | (refine sy hs (y_faE rfl (FO.of (off := 0) Tryz.underlying31 rfl rfl ti3 (by decide))) ?_; clear hs; (try clear a w); intro a w hs)
                  refine sy hs (y_ld (u := .int .i64 km) rfl Tryz.underlying3 rfl (Cell.blk (.head _) rfl)) fun _ _ hs => ?_
                  refine sy hs (y_move rfl) fun _ _ hs => ?_
                  refine RL_call (Lr := []) hs rfl has32 rfl rfl (ih f3 q km hv hE3 hq2 (by omega) hh1.2 (by omega)) (.free rfl) (by decide) ?_; clear hs; (try clear a w)
                  rintro _ f4 L2 a w hf4 ⟨r, rfl, hr1, hB⟩ hs
                  replace hs := stPm hs pmK
                  generalize ho : buildM ns ss d q km hv = o at *
                  have ho' : buildM ns ss d (q : Int).toNat km hv = o := by rw [Int.toNat_natCast]; exact ho
                  refine sy hs (y_move rfl) fun _ _ hs => ?_
                  refine sy hs (y_extract (vs := [.agg r.toArray, .bool o.isSome]) rfl rfl) fun _ _ hs => ?_
                  refine sy hs (y_extract (vs := [.agg r.toArray, .bool o.isSome]) rfl rfl) fun _ _ hs => ?_
                  refine RL_alloc hs ti31 (.free rfl) (by decide) fun b16 _ _ hs => ?_
                  refine RL_storeAll (i := 0) hs rfl rfl rfl ti31 ⟨rfl, by simp [hr1.1]⟩ (one_arr hr1) (.free rfl) fun _ _ hs => ?_
                  refine sy hs (y_assign rfl) fun _ _ hs => ?_
                  refine RL_nil ?_
                  refine hK32 _ _ ?_; clear hK32
                  refine W_seq fun K33 hK33 => ?_
                  refine W_region ?_
                  refine sy hs (y_move rfl) fun _ _ hs => ?_
                  refine RL_nil ?_
                  refine hK33 _ _ ?_; clear hK33
                  first | refine W_condP hs rfl (fun hsome => ?_) (fun hsome => ?_) | refine W_cond hs rfl (fun hsome => ?_) (fun hsome => ?_)
                  · obtain ⟨b, rfl⟩ : ∃ b, o = some b := Option.isSome_iff_exists.1 hsome
                    refine W_region ?_
                    first | (refine sy hs (y_fieldAddr rfl (FO.of (off := 56) Tryz.underlying31 rfl rfl ti29 (by decide))) ?_; clear hs; (try clear a w); intro a w hs) | (refine sy hs (y_faE rfl (FO.of (off := 56) Tryz.underlying31 rfl rfl ti29 (by decide))) ?_; clear hs; (try clear a w); intro a w hs)
                    refine sy hs (y_ld (u := kv) rfl Tryz.underlying29 rfl (Cell.blk (.tail _ (.head _)) (cB_kids' hS2))) fun _ _ hs => ?_
                    refine sy hs (y_ldB rfl Tryz.underlying31 rfl ti31 (.head _) (by simp [hr1.1])) fun _ _ hs => ?_
                    refine RL_bs1a (r := r) hs rfl Tryz.underlying29 ti31 (by decide) hr1 fun tv _ _ hs => ?_
                    refine RL_app1 3 hs rfl rfl rfl Tryz.underlying29 ti31 (by decide) (by omega) fun nv _ _ hs => ?_; simp only [List.set] at hs
                    first | (refine sy hs (y_fieldAddr rfl (FO.of (off := 56) Tryz.underlying31 rfl rfl ti29 (by decide))) ?_; clear hs; (try clear a w); intro a w hs) | (refine sy hs (y_faE rfl (FO.of (off := 56) Tryz.underlying31 rfl rfl ti29 (by decide))) ?_; clear hs; (try clear a w); intro a w hs)
                    refine RL_storeBlk (i := 1) (o := 56) (u := nv) hs rfl rfl rfl ti29 (Rd.st hs (.tail _ (.tail _ (.tail _ (.head _))))).one (by simp [cB_len hS2.len]) (by rw [List.setIfInBounds_toArray, cB_setK hS2.len]) (.free rfl) fun _ _ hs => ?_
                    refine RL_nil ?_
                    refine hK29 _ _ ?_; clear hK29
                    refine W_region ?_
                    refine sy hs (y_add rfl rfl (wr_i64 (by omega))) fun _ _ hs => ?_
                    refine sy hs (y_move rfl) fun _ _ hs => ?_
                    refine RL_nil ?_
                    refine hK (j + 1) _ _ (by omega) ⟨f4, nv, rows ++ [r], X ++ L2, by omega, hf3.trans hf4, ?_, ?_⟩
                    · rw [fm_take hc, ho']; exact hO.append (.one hB)
                    · rw [List.append_assoc]; exact hs.tail.sub ⟨rfl, rfl, rfl, rfl, rfl, rfl, rfl, rfl, rfl, rfl, rfl, trivial⟩
                  · refine W_skip ?_
                    refine hK29 _ _ ?_; clear hK29
                    refine W_region ?_
                    refine sy hs (y_add rfl rfl (wr_i64 (by omega))) fun _ _ hs => ?_
                    refine sy hs (y_move rfl) fun _ _ hs => ?_
                    refine RL_nil ?_
                    obtain rfl : o = none := by simpa using hsome
                    obtain rfl : L2 = [] := hB
                    refine hK (j + 1) _ _ (by omega) ⟨f4, kv, rows, X, by omega, hf3.trans hf4, ?_, ?_⟩
                    · rw [fm_take hc, ho']; simpa using hO
                    · exact hs.tail.sub ⟨rfl, rfl, rfl, rfl, rfl, rfl, rfl, rfl, rfl, rfl, rfl, trivial⟩
                · rw [List.take_of_length_le (by omega)] at hO hfl
                  refine W_exit ?_
                  refine hB26 _ _ ?_
                  refine hK24 _ _ ?_; clear hK24
                  refine W_seq fun K34 hK34 => ?_
                  refine W_region ?_
                  refine sy hs (y_ldB rfl Tryz.underlying31 rfl ti31 (.head _) (by simp [cB_len hS2.len])) fun _ _ hs => ?_
                  refine RL_call (stPm hs pmA) rfl has35 rfl rfl (fit_ok hS2 (by omega) _ _ _ _ _ _ _ hO) (.free rfl) (by decide) ?_; clear hs; (try clear a w)
                  rintro _ _ X' a w _ ⟨rfl, r, rfl, hr1, hB⟩ hs
                  replace hs := stPm hs pmL
                  refine RL_storeAll (i := 1) hs rfl rfl rfl ti31 ⟨rfl, by simp [hr1.1]⟩ (one_arr hr1) (.free rfl) fun _ _ hs => ?_
                  refine sy hs (y_assign rfl) fun _ _ hs => ?_
                  refine RL_nil ?_
                  refine hK34 _ _ ?_; clear hK34
                  refine W_ret ?_
                  refine RtV2 hs rfl (rv_a hs rfl Tryz.underlying31 rfl ti31 (fun j u hj => Cell.blk (.tail _ (.head _)) hj) (by simp [hr1.1])) (rv_t hs rfl) ?_
                  exact ⟨_, _, X', rfl, hf2.trans hf3, hs.cw.tail.tail, r, by rw [hbM]; rfl, hr1, by rw [hbM]; exact hB⟩
theorem made_ok {ns : List api_Node} {ss : List Sty} {v0 lv : Value} {c2 c3 c6 : Nat} : ∀ d, MadeOK ns ss v0 lv c2 c3 c6 d
  | 0 => fun f m above heavy hE hm hd => by omega
  | d + 1 => made_step (made_ok d)
end Go.Proofs.YteicdfkmpnmkmaaGreat
