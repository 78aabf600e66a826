/-
  Walks and laws of this seat.
-/
import Derived.Test.YteicdfkmpnmkmaaGreatS13l
import Derived.Test.YteicdfkmpnmkmaaGreatRows
namespace Go.Proofs.YteicdfkmpnmkmaaGreat
set_option linter.unusedVariables false
set_option linter.unusedSimpArgs false
open Go.RowKit Go.Sl
def RunsOK (g : Int) (s : Sty) (bs res : List BT) : Prop := ∀ (f : Fz) (v : Value) (rows : List (List Value)) (X : List Ent), OwnL 44 bs rows X → Does Tryz.prog 71 [v, .agg s.toArray, .int .i64 g] f (.row v 44 57 rows :: X) (toRow 44 f res)
set_option maxRecDepth 20000 in
set_option maxHeartbeats 8000000 in
theorem runs_ok {s : Sty} {g : Int} {p : Int → Bool} {an : List BT → BT} {bs : List BT} (hS : StyOK s) (hsz : bs.length ≤ 50000) (hp : ∀ b ∈ bs, tk g false b.kind = p b.kind) (han : ∀ run, (∀ b ∈ run, p b.kind = true) → (∀ b ∈ run, b ∈ bs) → run.length ≤ bs.length → AroundOK an g s run) :
    RunsOK g s bs (wrapM an (decide (g = 1)) p bs) := by
  intro f v rows X hO w0 L w hC
  refine enter Tryz.func71 rfl Tryz.ntmps71 (by simp) hC fun a hs => ?_
  refine W_seq fun K1 hK1 => ?_
  refine W_region ?_
  refine sbox hs rfl ?_; clear hs; (try clear a w); intro b4 a w hs
  refine sy hs (y_assign rfl) ?_; clear hs; (try clear a w); intro a w hs
  refine RL_nil ?_
  refine hK1 _ _ ?_; clear hK1
  refine W_seq fun K2 hK2 => ?_
  refine W_region ?_
  refine sy hs (y_move rfl) ?_; clear hs; (try clear a w); intro a w hs
  refine sy hs (y_ldB rfl Tryz.underlying28 rfl ti28 (.head _) (by simp [hS.len])) ?_; clear hs; (try clear a w); intro a w hs
  refine sy hs (y_move rfl) ?_; clear hs; (try clear a w); intro a w hs
  refine RL_call (Lr := .row v 44 57 rows :: X) (stPm hs (List.perm_middle (l₁ := .row v 44 57 rows :: X)).symm) rfl has72 rfl rfl (wrap_ok hS hsz hp han hO) (.free rfl) (by decide) ?_; clear hs; (try clear a w)
  rintro nv _ _ a w _ ⟨rfl, rows', X', rfl, hE⟩ hs
  refine sy hs (y_assign rfl) ?_; clear hs; (try clear a w); intro a w hs
  refine RL_nil ?_
  refine hK2 _ _ ?_; clear hK2
  refine W_ret ?_
  refine Rt_1 hs rfl rfl ?_
  exact ⟨_, _, _, rfl, .refl _, hs.cw.sub (L' := (.row nv 44 57 rows' :: X') ++ L) ((List.Sublist.refl _).append (.cons _ (.refl L))), rfl, rows', X', rfl, hE⟩
def aroundM (g : Int) (s : Sty) (l : List BT) : BT := .mk g (-1) 0 (anonS g s) ByteArray.empty (if g = 4 then wrapC (anonS g s) l else if g = 5 ∧ outers l = true then wrapB innerK (anonS g s) l else l)
set_option maxRecDepth 20000 in
set_option maxHeartbeats 8000000 in
theorem around_ok {g : Int} {s : Sty} {l : List BT} (hS : StyOK s) (hg : g = 1 ∨ g = 4 ∨ g = 5) (hsz : l.length ≤ 50000) (h4 : g = 4 → RunsOK 5 (anonS g s) l (wrapC (anonS g s) l)) (h5 : g = 5 → outers l = true → RunsOK 1 (anonS g s) l (wrapB innerK (anonS g s) l)) : AroundOK (aroundM g s) g s l := by
  intro f v rows X hO w0 L w hC
  rw [List.cons_append] at hC
  have hk1 := (Rd.ofOwn (.head _) hC).one
  have hSF := firstS_OK hS
  have hSA := anonS_OK (g := g) hS
  have hbl := hO.len
  have hRl : Rd f (.row v 44 57 rows :: (X ++ L)) v 57 rows := Rd.ofOwn (.head _) hC
  refine enter Tryz.func107 rfl Tryz.ntmps107 (by simp) hC fun a hs => ?_
  refine W_seq fun K1 hK1 => ?_
  refine W_region ?_
  refine sbox hs rfl ?_; clear hs; (try clear a w); intro b4 a w hs
  refine RL_alloc hs ti44 (.free rfl) (by decide) ?_; clear hs; (try clear a w); intro b6 a w hs
  refine RL_nil ?_
  refine hK1 _ _ ?_; clear hK1
  refine W_seq fun K2 hK2 => ?_
  refine W_region ?_
  refine sy hs (y_ldB rfl Tryz.underlying28 rfl ti28 (.tail _ (.head _)) (by simp [hS.len])) ?_; clear hs; (try clear a w); intro a w hs
  refine sy hs (y_call rfl has77 rfl (first2_ok hS)) ?_; clear hs; (try clear a w); intro a w hs
  refine RL_alloc hs ti28 (.free rfl) (by decide) ?_; clear hs; (try clear a w); intro b7 a w hs
  refine RL_storeAll (i := 0) hs rfl rfl rfl ti28 ⟨rfl, by simp [hSF.len]⟩ (one_arr ⟨rfl, hSF.one⟩) (.free rfl) ?_; clear hs; (try clear a w); intro a w hs
  replace hs : St _ _ _ (.blk b7 (.cells (firstS s).toArray 28 (0, 0)) :: .blk b6 (.cells zB.toArray 44 (0, 0)) :: .blk b4 (.cells s.toArray 28 (0, 0)) :: .row v 44 57 rows :: (X ++ L)) _ _ _ := hs
  refine RL_nil ?_
  refine hK2 _ _ ?_; clear hK2
  refine W_seq fun K3 hK3 => ?_
  refine W_region ?_
  refine RL_bsN (us := [.int .i64 0, .int .i64 1, .int .i64 0, .int .i64 0, .int .i64 5, .int .i64 6]) (rows := [[.int .i64 0], [.int .i64 1], [.int .i64 0], [.int .i64 0], [.int .i64 5], [.int .i64 6]]) hs rfl Tryz.underlying78 ti3 (by decide) rfl rfl (fun r hr => by simp at hr; rcases hr with rfl | rfl | rfl | rfl | rfl | rfl <;> exact ⟨rfl, by simp [Value.oneCell']⟩) ?_; clear hs; (try clear a w); intro dv a w hs
  obtain ⟨m, d, rfl, hm, hd, hA⟩ : ∃ (m : Nat) (d : Int), g = (m : Int) ∧ m < 6 ∧ ([[.int .i64 0], [.int .i64 1], [.int .i64 0], [.int .i64 0], [.int .i64 5], [.int .i64 6]] : List (List Value))[m]? = some [.int .i64 d] ∧ (firstS s).set 0 (.int .i64 d) = anonS m s := by
    rcases hg with rfl | rfl | rfl
    · exact ⟨1, 1, rfl, by decide, rfl, by simp [anonS]⟩
    · exact ⟨4, 5, rfl, by decide, rfl, by simp [anonS]⟩
    · exact ⟨5, 6, rfl, by decide, rfl, by simp [anonS]⟩
  generalize hgm : (m : Int) = g at *
  refine sy hs (y_move rfl) ?_; clear hs; (try clear a w); intro a w hs
  refine sy hs (y_indexAddr (m := m) (Rd.st hs (.head _)) rfl rfl hgm.symm hm Tryz.underlying78 ti3) ?_; clear hs; (try clear a w); intro a w hs
  refine sy hs (y_loadE (u := .int .i64 d) (Rd.st hs (.head _)) rfl hd rfl Tryz.underlying3 rfl) ?_; clear hs; (try clear a w); intro a w hs
  first | (refine sy hs (y_fieldAddr rfl (FO.of (off := 0) Tryz.underlying28 rfl rfl ti3 (by decide))) ?_; clear hs; (try clear a w); intro a w hs) | (refine sy hs (y_faE rfl (FO.of (off := 0) Tryz.underlying28 rfl rfl ti3 (by decide))) ?_; clear hs; (try clear a w); intro a w hs)
  refine RL_storeBlk (i := 1) (o := 0) (u := .int .i64 d) (cs' := (anonS g s).toArray) hs rfl rfl rfl ti3 rfl (by simp [hSF.len]) (by rw [List.setIfInBounds_toArray, hA]) (.free rfl) ?_; clear hs; (try clear a w); intro a w hs
  replace hs := hs.tail
  refine RL_nil ?_
  refine hK3 _ _ ?_; clear hK3
  refine W_seq fun K4 hK4 => ?_
  refine W_region ?_
  refine sy hs (y_move rfl) ?_; clear hs; (try clear a w); intro a w hs
  refine sy hs (y_ldB rfl Tryz.underlying28 rfl ti28 (.head _) (by simp [hSA.len])) ?_; clear hs; (try clear a w); intro a w hs
  refine sy hs (y_move rfl) ?_; clear hs; (try clear a w); intro a w hs
  refine sy hs (y_buildN (places := boxP) (zl := zB) (ls := [(0, [.int .i64 g]), (1, [.int .i64 (-1)]), (3, anonS g s), (5, [v])]) (cs := cB g (-1) 0 (anonS g s) ByteArray.empty v) rfl Tryz.underlying44 ti44 (by kernel_rfl) ⟨rfl, rfl, rfl, rfl, rfl, rfl, rfl, cells_one hk1, trivial⟩ (by rw [zB_eq, put0 rfl, put1 rfl, put3 rfl hSA.len, put5 hSA.len]; rfl)) ?_; clear hs; (try clear a w); intro a w hs
  refine RL_alloc hs ti44 (.free rfl) (by decide) ?_; clear hs; (try clear a w); intro b8 a w hs
  refine RL_storeAll (i := 0) hs rfl rfl rfl ti44 ⟨rfl, by simp [cB_len hSA.len]⟩ (one_arr (cB_one hSA hk1)) (.free rfl) ?_; clear hs; (try clear a w); intro a w hs
  replace hs : St _ _ _ (.blk b8 (.cells (cB g (-1) 0 (anonS g s) ByteArray.empty v).toArray 44 (0, 0)) :: .blk b7 (.cells (anonS g s).toArray 28 (0, 0)) :: .blk b6 (.cells zB.toArray 44 (0, 0)) :: .row v 44 57 rows :: (X ++ L)) _ _ _ := hs.subL (.cons_cons _ (.cons_cons _ (.cons_cons _ (.cons _ (.refl _)))))
  refine RL_nil ?_
  refine hK4 _ _ ?_; clear hK4
  refine W_cut (fun a w => ∃ kv' rows' X', OwnL 44 (if g = 4 then wrapC (anonS g s) l else l) rows' X' ∧ (g ≠ 4 → kv' = v ∧ rows' = rows ∧ X' = X) ∧ St 47 w0 f (.blk b8 (.cells (cB g (-1) 0 (anonS g s) ByteArray.empty kv').toArray 44 (0, 0)) :: .blk b7 (.cells (anonS g s).toArray 28 (0, 0)) :: .blk b6 (.cells zB.toArray 44 (0, 0)) :: .row kv' 44 57 rows' :: (X' ++ L)) [(0, .int .i64 g), (2, v), (6, .pointer (some ⟨b6, 0, none⟩)), (7, .pointer (some ⟨b7, 0, none⟩)), (8, .pointer (some ⟨b8, 0, none⟩))] a w) ?_ (fun a w hI => ?_)
  · refine W_seq fun K6 hK6 => ?_
    refine W_region ?_
    refine sy hs (y_move rfl) ?_; clear hs; (try clear a w); intro a w hs
    refine sy hs (y_eql rfl rfl) ?_; clear hs; (try clear a w); intro a w hs
    refine RL_nil ?_
    refine hK6 _ _ ?_; clear hK6
    first | refine W_condP hs rfl (fun c4 => ?_) (fun c4 => ?_) | refine W_cond hs rfl (fun c4 => ?_) (fun c4 => ?_)
    · refine W_region ?_
      refine sy hs (y_move rfl) ?_; clear hs; (try clear a w); intro a w hs
      refine sy hs (y_ldB rfl Tryz.underlying28 rfl ti28 (.tail _ (.head _)) (by simp [hSA.len])) ?_; clear hs; (try clear a w); intro a w hs
      refine RL_call (stPm hs pmC) rfl has71 rfl rfl (h4 c4 _ _ _ _ hO) (.free rfl) (by decide) ?_; clear hs; (try clear a w)
      rintro nv _ _ a w _ ⟨rfl, rows', X', rfl, hE⟩ hs
      replace hs := stPm hs pmC.symm
      first | (refine sy hs (y_fieldAddr rfl (FO.of (off := 56) Tryz.underlying44 rfl rfl ti42 (by decide))) ?_; clear hs; (try clear a w); intro a w hs) | (refine sy hs (y_faE rfl (FO.of (off := 56) Tryz.underlying44 rfl rfl ti42 (by decide))) ?_; clear hs; (try clear a w); intro a w hs)
      refine RL_storeBlk (i := 0) (o := 56) (u := nv) hs rfl rfl rfl ti42 (Rd.st hs (.tail _ (.tail _ (.tail _ (.head _))))).one (by simp [cB_len hSA.len]) (by rw [List.setIfInBounds_toArray, cB_setK hSA.len]) (.free rfl) ?_; clear hs; (try clear a w); intro a w hs
      refine RL_nil ?_
      exact ⟨nv, rows', X', by rw [if_pos c4]; exact hE, fun h => absurd c4 h, hs.sub ⟨rfl, rfl, rfl, rfl, rfl, trivial⟩⟩
    · refine W_skip ?_
      exact ⟨v, rows, X, by rw [if_neg c4]; exact hO, fun _ => ⟨rfl, rfl, rfl⟩, hs.sub ⟨rfl, rfl, rfl, rfl, rfl, trivial⟩⟩
  · clear hs
    obtain ⟨kv', rows', X', hE, hsame, hs⟩ := hI
    refine W_cut (fun a w => ∃ kv' rows' X', OwnL 44 (if g = 4 then wrapC (anonS g s) l else if g = 5 ∧ outers l = true then wrapB innerK (anonS g s) l else l) rows' X' ∧ St 47 w0 f (.blk b8 (.cells (cB g (-1) 0 (anonS g s) ByteArray.empty kv').toArray 44 (0, 0)) :: .blk b7 (.cells (anonS g s).toArray 28 (0, 0)) :: .blk b6 (.cells zB.toArray 44 (0, 0)) :: .row kv' 44 57 rows' :: (X' ++ L)) [(6, .pointer (some ⟨b6, 0, none⟩)), (8, .pointer (some ⟨b8, 0, none⟩))] a w) ?_ (fun a w hI => ?_)
    · refine W_seq fun K8 hK8 => ?_
      refine W_region ?_
      refine sy hs (y_assign rfl) ?_; clear hs; (try clear a w); intro a w hs
      refine RL_nil ?_
      refine hK8 _ _ ?_; clear hK8
      refine W_block fun Qe9 hB9 hO9 => ?_
      refine W_loop (fun (j : Nat) a w => j ≤ l.length ∧ (g = 5 → outers (l.take j) = false) ∧ St 47 w0 f (.blk b8 (.cells (cB g (-1) 0 (anonS g s) ByteArray.empty kv').toArray 44 (0, 0)) :: .blk b7 (.cells (anonS g s).toArray 28 (0, 0)) :: .blk b6 (.cells zB.toArray 44 (0, 0)) :: .row kv' 44 57 rows' :: (X' ++ L)) [(9, .int .i64 (j : Int)), (0, .int .i64 g), (2, v), (6, .pointer (some ⟨b6, 0, none⟩)), (7, .pointer (some ⟨b7, 0, none⟩)), (8, .pointer (some ⟨b8, 0, none⟩))] a w) (fun j => l.length - j) 0 ⟨by omega, fun _ => rfl, hs.sub ⟨rfl, rfl, rfl, rfl, rfl, rfl, trivial⟩⟩ ?_
      clear hs; rintro j a w ⟨hj, hno, hs⟩ K hK
      refine W_seq fun K10 hK10 => ?_
      refine W_seq fun K11 hK11 => ?_
      refine W_region ?_
      refine sy hs (y_move rfl) ?_; clear hs; (try clear a w); intro a w hs
      refine sy hs (y_move rfl) ?_; clear hs; (try clear a w); intro a w hs
      refine sy hs (y_lenR0 hRl rfl Tryz.underlying42) ?_; clear hs; (try clear a w); intro a w hs
      refine sy hs (y_lss rfl rfl) ?_; clear hs; (try clear a w); intro a w hs
      refine sy hs (y_move rfl) ?_; clear hs; (try clear a w); intro a w hs
      first | refine St.splitP hs (t := 31) rfl (fun hlt hq => ?_) (fun hlt hq => ?_) | refine St.split hs (t := 31) rfl (fun hlt hq => ?_) (fun hlt hq => ?_)
      · clear hs; have hs := hq; clear hq
        refine syg hs (y_move rfl) ?_; clear hs; (try clear a w); intro a w hs
        refine syg hs (y_eql rfl rfl) ?_; clear hs; (try clear a w); intro a w hs
        refine sy hs (y_pick rfl rfl) ?_; clear hs; (try clear a w); intro a w hs
        refine RL_nil ?_
        refine hK11 _ _ ?_; clear hK11
        first | refine W_condP hs rfl (fun c5 => ?_) (fun c5 => ?_) | refine W_cond hs rfl (fun c5 => ?_) (fun c5 => ?_)
        · obtain ⟨rfl, rfl, rfl⟩ := hsame (by omega)
          have hRr := Rd.st hs (.tail _ (.tail _ (.tail _ (.head _))))
          obtain ⟨x, hx⟩ : ∃ x, l[j]? = some x := ⟨_, List.getElem?_eq_getElem (by omega)⟩
          obtain ⟨xk, hxr, hxS⟩ := hO.get hx
          refine W_skip ?_
          refine hK10 _ _ ?_; clear hK10
          refine W_seq fun K12 hK12 => ?_
          refine W_block fun Qe13 hB13 hO13 => ?_
          refine W_seq fun K14 hK14 => ?_
          refine W_region ?_
          refine sy hs (y_move rfl) ?_; clear hs; (try clear a w); intro a w hs
          refine sy hs (y_move rfl) ?_; clear hs; (try clear a w); intro a w hs
          refine sy hs (y_indexAddr hRr rfl rfl rfl (by omega) Tryz.underlying42 ti44) ?_; clear hs; (try clear a w); intro a w hs
          refine sy hs (y_ldRow rfl Tryz.underlying44 rfl ti44 hRr hxr) ?_; clear hs; (try clear a w); intro a w hs
          refine sy hs (y_call rfl has26 rfl outer2_ok) ?_; clear hs; (try clear a w); intro a w hs
          refine RL_nil ?_
          refine hK14 _ _ ?_; clear hK14
          first | refine W_condP hs rfl (fun ho => ?_) (fun ho => ?_) | refine W_cond hs rfl (fun ho => ?_) (fun ho => ?_)
          · have hol : outers l = true := by
              unfold outers
              rw [List.any_eq_true]
              exact ⟨x, List.mem_of_getElem? hx, ho⟩
            refine W_seq fun K15 hK15 => ?_
            refine W_region ?_
            refine sy hs (y_move rfl) ?_; clear hs; (try clear a w); intro a w hs
            refine sy hs (y_ldB rfl Tryz.underlying28 rfl ti28 (.tail _ (.head _)) (by simp [hSA.len])) ?_; clear hs; (try clear a w); intro a w hs
            refine RL_call (stPm hs pmC) rfl has71 rfl rfl (h5 c5 hol _ _ _ _ hO) (.free rfl) (by decide) ?_; clear hs; (try clear a w)
            rintro nv _ _ a w _ ⟨rfl, rows', X', rfl, hE⟩ hs
            replace hs := stPm hs pmC.symm
            first | (refine sy hs (y_fieldAddr rfl (FO.of (off := 56) Tryz.underlying44 rfl rfl ti42 (by decide))) ?_; clear hs; (try clear a w); intro a w hs) | (refine sy hs (y_faE rfl (FO.of (off := 56) Tryz.underlying44 rfl rfl ti42 (by decide))) ?_; clear hs; (try clear a w); intro a w hs)
            refine RL_storeBlk (i := 0) (o := 56) (u := nv) hs rfl rfl rfl ti42 (Rd.st hs (.tail _ (.tail _ (.tail _ (.head _))))).one (by simp [cB_len hSA.len]) (by rw [List.setIfInBounds_toArray, cB_setK hSA.len]) (.free rfl) ?_; clear hs; (try clear a w); intro a w hs
            refine RL_nil ?_
            refine hK15 _ _ ?_; clear hK15
            refine W_exit ?_
            refine hO13 _ rfl _ _ ?_
            refine hB9 _ _ ?_
            exact ⟨nv, rows', X', by rw [if_neg (by omega), if_pos ⟨c5, hol⟩]; exact hE, hs.sub ⟨rfl, rfl, trivial⟩⟩
          · refine W_skip ?_
            refine hK12 _ _ ?_; clear hK12
            refine W_region ?_
            refine sy hs (y_move rfl) ?_; clear hs; (try clear a w); intro a w hs
            refine sy hs (y_add rfl rfl (wr_i64 (by omega))) ?_; clear hs; (try clear a w); intro a w hs
            refine sy hs (y_assign rfl) ?_; clear hs; (try clear a w); intro a w hs
            refine RL_nil ?_
            refine hK (j + 1) _ _ (by omega) ⟨by omega, fun h => ?_, hs.sub ⟨rfl, rfl, rfl, rfl, rfl, rfl, trivial⟩⟩
            unfold outers
            rw [any_take hx, show (l.take j).any (fun b => outerK b.kind) = false from hno h]
            simpa using ho
        · refine W_exit ?_
          refine hB9 _ _ ?_
          refine ⟨kv', rows', X', ?_, hs.sub ⟨rfl, rfl, trivial⟩⟩
          by_cases c4 : g = 4
          · rw [if_pos c4]; rw [if_pos c4] at hE; exact hE
          · rw [if_neg c4, if_neg (fun h => c5 h.1)]; rw [if_neg c4] at hE; exact hE
      · clear hs; have hs := hq; clear hq
        refine sno hs ?_; clear hs; (try clear a w); intro a w hs
        refine sno hs ?_; clear hs; (try clear a w); intro a w hs
        refine sy hs (y_pick rfl rfl) ?_; clear hs; (try clear a w); intro a w hs
        refine RL_nil ?_
        refine hK11 _ _ ?_; clear hK11
        refine W_condF hs rfl ?_
        refine W_exit ?_
        refine hB9 _ _ ?_
        refine ⟨kv', rows', X', ?_, hs.sub ⟨rfl, rfl, trivial⟩⟩
        by_cases c4 : g = 4
        · rw [if_pos c4]; rw [if_pos c4] at hE; exact hE
        · rw [if_neg c4, if_neg (fun h => by have := hno h.1; rw [List.take_of_length_le (by omega)] at this; rw [this] at h; simp at h)]; rw [if_neg c4] at hE; exact hE
    · clear hs
      obtain ⟨kv', rows', X', hE, hs⟩ := hI
      have hk2 := (Rd.st hs (.tail _ (.tail _ (.tail _ (.head _))))).one
      refine W_seq fun K16 hK16 => ?_
      refine W_region ?_
      refine sy hs (y_ldB rfl Tryz.underlying44 rfl ti44 (.head _) (by simp [cB_len hSA.len])) ?_; clear hs; (try clear a w); intro a w hs
      refine RL_storeAll (i := 2) hs rfl rfl rfl ti44 ⟨rfl, by simp [cB_len hSA.len]⟩ (one_arr (cB_one hSA hk2)) (.free rfl) ?_; clear hs; (try clear a w); intro a w hs
      refine RL_nil ?_
      refine hK16 _ _ ?_; clear hK16
      refine W_ret ?_
      refine RtV1 hs rfl (rv_a hs rfl Tryz.underlying44 rfl ti44 (fun j u hj => Cell.blk (.tail _ (.tail _ (.head _))) hj) (by simp [cB_len hSA.len])) ?_
      exact ⟨_, _, _, rfl, .refl _, (hs.cw.tail.tail.tail : Cw w0 f ((.row kv' 44 57 rows' :: X') ++ L) w), rfl, _, rfl, cB_one hSA hk2, ⟨hSA, kv', rows', X', rfl, rfl, hE⟩⟩
end Go.Proofs.YteicdfkmpnmkmaaGreat
