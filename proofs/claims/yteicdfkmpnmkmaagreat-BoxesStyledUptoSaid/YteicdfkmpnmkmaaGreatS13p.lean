/-
  Walks and laws of this seat.
-/
import Derived.Test.YteicdfkmpnmkmaaGreatS13o
import Derived.Test.YteicdfkmpnmkmaaGreatRows
namespace Go.Proofs.YteicdfkmpnmkmaaGreat
set_option linter.unusedVariables false
set_option linter.unusedSimpArgs false
open Go.RowKit Go.Sl
mutual
/-- A box numbered, and the next number. -/
def numB : BT → Int → BT × Int
  | .mk k m _ s t ks, n => (.mk k m n s t (numL ks (w64 (n + 1))).1, (numL ks (w64 (n + 1))).2)
def numL : List BT → Int → List BT × Int
  | [], n => ([], n)
  | b :: bs, n => ((numB b n).1 :: (numL bs (numB b n).2).1, (numL bs (numB b n).2).2)
end
theorem numB_mk {k m i : Int} {s : Sty} {t : ByteArray} {ks : List BT} {n : Int} : numB (.mk k m i s t ks) n = (.mk k m n s t (numL ks (w64 (n + 1))).1, (numL ks (w64 (n + 1))).2) := by rw [numB]
theorem numL_cons {b : BT} {bs : List BT} {n : Int} : numL (b :: bs) n = ((numB b n).1 :: (numL bs (numB b n).2).1, (numL bs (numB b n).2).2) := by rw [numL]
theorem numL_nil {n : Int} : numL [] n = ([], n) := by rw [numL]
def NumOK (c1 c2 : Nat) (b : BT) : Prop := ∀ (f : Fz) (n : Int) (v : Value) (rows : List (List Value)) (i : Nat) (r : List Value) (X : List Ent), f c2 = some (.cells #[.func (.func 36) #[] #[.pointer (some ⟨c1, 0, none⟩), .pointer (some ⟨c2, 0, none⟩)]] 81 (0, 0)) → rows[i]? = some r → BoxO 31 b r X →
  Does Tryz.prog 36 [eaddr v 57 i 0, .pointer (some ⟨c1, 0, none⟩), .pointer (some ⟨c2, 0, none⟩)] f (.blk c1 (.cells #[.int .i64 n] 3 (0, 0)) :: .row v 31 57 rows :: X)
    (fun _ f' L' => f' = f ∧ ∃ r' X', BoxO 31 (numB b n).1 r' X' ∧ L' = .blk c1 (.cells #[.int .i64 (numB b n).2] 3 (0, 0)) :: .row v 31 57 (rows.set i r') :: X')
theorem pmM {x y z : Ent} {A B T : List Ent} {X1 : List Ent} : (x :: y :: z :: (A ++ ((X1 ++ B) ++ T))).Perm ((x :: z :: X1) ++ (y :: (A ++ (B ++ T)))) :=
  perm_of_count fun a => by simp only [List.count_append, List.count_cons, List.cons_append]; omega
theorem rowMax {n : Nat} {w0 w : World} {f : Fz} {L : List Ent} {E : List (Nat × Value)} {a : Act} {v : Value} {e k} {rows : List (List Value)} (hs : St n w0 f L E a w) (hm : .row v e k rows ∈ L) : rows.length ≤ 9223372036854775807 := by
  obtain ⟨⟨_, h⟩, _⟩ := hs.cw.live _ hm
  rcases h with ⟨_, h⟩ | ⟨_, cap, _, _, _, _, h1, h2, _⟩
  · omega
  · simp only [maxLen] at h2; omega
/-- Where the loop over a box' kids stands. -/
structure NumI (e : TypeId) (ks : List BT) (n0 : Int) (j : Nat) (cnt : Int) (krows : List (List Value)) (XA XB : List Ent) : Prop where
  hj : j ≤ ks.length
  ex : ∃ D ra rb, krows = ra ++ rb ∧ ra.length = j ∧ D.length = j ∧ OwnL e D ra XA ∧ OwnL e (ks.drop j) rb XB ∧ numL ks n0 = (D ++ (numL (ks.drop j) cnt).1, (numL (ks.drop j) cnt).2)
theorem NumI.len {e : TypeId} {ks : List BT} {n0 : Int} {j : Nat} {cnt : Int} {krows : List (List Value)} {XA XB : List Ent} (h : NumI e ks n0 j cnt krows XA XB) : krows.length = ks.length := by
  obtain ⟨D, ra, rb, h1, h2, h3, h4, h5, h6⟩ := h.ex
  have := h5.len
  have := h.hj
  rw [h1, List.length_append, h2, h5.len, List.length_drop]; omega
theorem NumI.next {e : TypeId} {ks : List BT} {n0 : Int} {j : Nat} {cnt : Int} {krows : List (List Value)} {XA XB : List Ent} (h : NumI e ks n0 j cnt krows XA XB) (hj : j < ks.length) : ∃ x r X1 X2, ks[j]? = some x ∧ krows[j]? = some r ∧ XB = X1 ++ X2 ∧ BoxO e x r X1 ∧ ∀ r' X', BoxO e (numB x cnt).1 r' X' → NumI e ks n0 (j + 1) (numB x cnt).2 (krows.set j r') (XA ++ X') X2 := by
  obtain ⟨D, ra, rb, rfl, h2, h3, h4, h5, h6⟩ := h.ex
  rw [List.drop_eq_getElem_cons hj] at h5
  obtain ⟨r, rs, X1, X2, rfl, rfl, h7, h8⟩ := h5
  refine ⟨ks[j], r, X1, X2, List.getElem?_eq_getElem hj, by rw [← h2]; simp, rfl, h7, fun r' X' hB => ⟨hj, D ++ [(numB ks[j] cnt).1], ra ++ [r'], rs, ?_, by simp [h2], by simp [h3], h4.append (.one hB), h8, ?_⟩⟩
  · rw [← h2, List.set_append_right _ _ (Nat.le_refl _)]; simp
  · rw [h6, List.drop_eq_getElem_cons hj, numL_cons]; simp
set_option maxRecDepth 20000 in
set_option maxHeartbeats 8000000 in
theorem number_step {c1 c2 : Nat} {k m i0 : Int} {s : Sty} {t : ByteArray} {ks : List BT} (ih : ∀ b ∈ ks, NumOK c1 c2 b) : NumOK c1 c2 (.mk k m i0 s t ks) := by
  intro f n v rows i r X hc2 hr hB w0 L w hC
  obtain ⟨hS, kv, krows, X, rfl, rfl, hO⟩ := hB
  have hi : i < rows.length := (List.getElem?_eq_some_iff.1 hr).1
  have hkl := hO.len
  rw [List.cons_append, List.cons_append, List.cons_append] at hC
  refine enter Tryz.func36 rfl Tryz.ntmps36 (by simp) hC fun a hs => ?_
  refine W_seq fun K1 hK1 => ?_
  refine W_region ?_
  refine sy hs (y_move rfl) fun _ _ hs => ?_
  refine sy hs (y_ld (u := .int .i64 n) rfl Tryz.underlying3 rfl) fun _ _ hs => ?_
  refine sy hs (y_nilE rfl (Rd.st hs (.tail _ (.head _))) hi) fun _ _ hs => ?_
  refine sy hs (y_faE rfl (FO.of (off := 2) Tryz.underlying31 rfl rfl ti3 (by decide)) (Rd.st hs (.tail _ (.head _))) hi) fun _ _ hs => ?_
  refine RL_storeRow (i := 1) (m := i) (j := 2) hs rfl rfl rfl hr (by decide) ti3 rfl (.free rfl) fun _ _ hs => ?_
  replace hs : St 28 w0 f (.blk c1 (.cells #[.int .i64 n] 3 (0, 0)) :: .row v 31 57 (rows.set i (cB k m n s t kv)) :: .row kv 31 57 krows :: (X ++ L)) _ _ _ := hs
  have hr2 : (rows.set i (cB k m n s t kv))[i]? = some (cB k m n s t kv) := by simp [hi]
  have hi2 : i < (rows.set i (cB k m n s t kv)).length := by simpa using hi
  refine RL_nil ?_
  refine hK1 _ _ ?_; clear hK1
  refine W_seq fun K2 hK2 => ?_
  refine W_region ?_
  refine sy hs (y_ld (u := .int .i64 n) rfl Tryz.underlying3 rfl) fun _ _ hs => ?_
  refine sy hs (y_add (m := w64 (n + 1)) rfl rfl rfl) fun _ _ hs => ?_
  refine sstore 0 hs rfl rfl rfl ti3 rfl fun _ _ hs => ?_
  replace hs : St 28 w0 f (.blk c1 (.cells #[.int .i64 (w64 (n + 1))] 3 (0, 0)) :: .row v 31 57 (rows.set i (cB k m n s t kv)) :: .row kv 31 57 krows :: (X ++ L)) _ _ _ := hs
  refine RL_nil ?_
  refine hK2 _ _ ?_; clear hK2
  refine W_seq fun K3 hK3 => ?_
  refine W_region ?_
  refine sy hs (y_move rfl) fun _ _ hs => ?_
  refine sy hs (y_nilE rfl (Rd.st hs (.tail _ (.head _))) hi2) fun _ _ hs => ?_
  refine sy hs (y_faE rfl (FO.of (off := 56) Tryz.underlying31 rfl rfl ti29 (by decide)) (Rd.st hs (.tail _ (.head _))) hi2) fun _ _ hs => ?_
  refine sy hs (y_loadE (u := kv) (Rd.st hs (.tail _ (.head _))) rfl hr2 (cB_kids hS.len) Tryz.underlying29 rfl) fun _ _ hs => ?_
  refine sy hs (y_lenR0 (Rd.st hs (.tail _ (.tail _ (.head _)))) rfl Tryz.underlying29) fun _ _ hs => ?_
  refine sy hs (y_move rfl) fun _ _ hs => ?_
  refine RL_nil ?_
  refine hK3 _ _ ?_; clear hK3
  refine W_block fun Qe4 hB4 hO4 => ?_
  refine W_loop (fun (j : Nat) a w => ∃ cnt krj XA XB, NumI 31 ks (w64 (n + 1)) j cnt krj XA XB ∧ St 28 w0 f (.blk c1 (.cells #[.int .i64 cnt] 3 (0, 0)) :: .row v 31 57 (rows.set i (cB k m n s t kv)) :: .row kv 31 57 krj :: (XA ++ (XB ++ L))) [(0, eaddr v 57 i 0), (1, .pointer (some ⟨c1, 0, none⟩)), (2, .pointer (some ⟨c2, 0, none⟩)), (15, .int .i64 krows.length), (16, .int .i64 (j : Int))] a w) (fun j => ks.length - j) 0 ⟨w64 (n + 1), krows, [], X, ⟨by omega, [], [], krows, rfl, rfl, rfl, ⟨rfl, rfl⟩, hO, rfl⟩, hs.sub ⟨rfl, rfl, rfl, rfl, rfl, trivial⟩⟩ ?_
  clear hs; rintro j a w ⟨cnt, krj, XA, XB, hI, hs⟩ K hK
  have hjl := hI.len
  refine W_seq fun K5 hK5 => ?_
  refine W_region ?_
  refine sy hs (y_lss rfl rfl) fun _ _ hs => ?_
  refine RL_nil ?_
  refine hK5 _ _ ?_; clear hK5
  refine W_seq fun K6 hK6 => ?_
  first | refine W_condP hs rfl (fun hlt => ?_) (fun hlt => ?_) | refine W_cond hs rfl (fun hlt => ?_) (fun hlt => ?_)
  · obtain ⟨x, r, X1, X2, hx, hxr, rfl, hB, hnext⟩ := hI.next (by omega)
    have hRv := Rd.st (hs.subL (L' := .row v 31 57 (rows.set i (cB k m n s t kv)) :: []) (.cons _ (.cons_cons _ (List.nil_sublist _)))) (.head _)
    have hRk := Rd.st hs (.tail _ (.tail _ (.head _)))
    have hmx := rowMax hs (.tail _ (.tail _ (.head _)))
    refine W_skip ?_
    refine hK6 _ _ ?_; clear hK6
    refine W_seq fun K7 hK7 => ?_
    refine W_block fun Qe8 hB8 hO8 => ?_
    refine W_seq fun K9 hK9 => ?_
    refine W_region ?_
    refine sy hs (y_move rfl) fun _ _ hs => ?_
    refine sy hs (y_assign rfl) fun _ _ hs => ?_
    refine RL_nil ?_
    refine hK9 _ _ ?_; clear hK9
    refine D_start hs (.row v 31 57 (rows.set i (cB k m n s t kv)) :: []) [7] [(0, true), (1, true), (2, true), (3, true), (4, true), (5, true), (6, true), (7, false)] mixed (by kernel_rfl) fun _ he => ?_
    refine dy 0 he rfl (y_ld (u := .func (.func 36) #[] #[.pointer (some ⟨c1, 0, none⟩), .pointer (some ⟨c2, 0, none⟩)]) rfl Tryz.underlying81 rfl (Cell.fz hc2 rfl)) fun _ he => ?_
    refine dy 1 he rfl (y_move rfl) fun _ he => ?_
    refine dy 2 he rfl (y_nilE rfl hRv hi2) fun _ he => ?_
    refine dy 3 he rfl (y_faE rfl (FO.of (off := 56) Tryz.underlying31 rfl rfl ti29 (by decide)) hRv hi2) fun _ he => ?_
    refine dy 4 he rfl (y_loadE (u := kv) hRv rfl hr2 (cB_kids hS.len) Tryz.underlying29 rfl) fun _ he => ?_
    refine dy 5 he rfl (y_move rfl) fun _ he => ?_
    refine dy 6 he rfl (y_indexAddr hRk rfl rfl rfl (by omega) Tryz.underlying29 ti31) fun _ he => ?_
    refine D_eff (i := 7) rfl he ?_; clear he; (try clear a); intro a w hs
    refine RL_call (stPm hs pmM) rfl has36 rfl rfl (ih x (List.mem_of_getElem? hx) f cnt kv krj j r X1 hc2 hxr hB) (.free rfl) (by decide) ?_; clear hs; (try clear a w)
    rintro _ _ _ a w _ ⟨rfl, r', X', hB', rfl⟩ hs
    replace hs := stPm hs pmM.symm
    refine dend hs fun _ he => ?_
    refine D_nil he ?_; clear he; (try clear a); intro w hs
    refine hK7 _ _ ?_; clear hK7
    refine W_region ?_
    refine sy hs (y_add rfl rfl (wr_i64 (by omega))) fun _ _ hs => ?_
    refine sy hs (y_move rfl) fun _ _ hs => ?_
    refine RL_nil ?_
    exact hK (j + 1) _ _ (by omega) ⟨_, _, _, _, hnext r' X' hB', by simp only [List.append_assoc]; simp only [List.append_assoc] at hs; exact hs.sub ⟨rfl, rfl, rfl, rfl, rfl, trivial⟩⟩
  · refine W_exit ?_
    refine hB4 _ _ ?_
    refine Rt_0 hs rfl ?_
    obtain ⟨D, ra, rb, rfl, h2, h3, h4, h5, h6⟩ := hI.ex
    rw [List.drop_eq_nil_of_le (by omega)] at h5 h6
    obtain ⟨rfl, rfl⟩ := h5
    rw [numL_nil, List.append_nil] at h6
    refine ⟨_, _, .blk c1 (.cells #[.int .i64 cnt] 3 (0, 0)) :: .row v 31 57 (rows.set i (cB k m n s t kv)) :: .row kv 31 57 (ra ++ []) :: XA, rfl, .refl _, hs.cw, rfl, cB k m n s t kv, .row kv 31 57 (ra ++ []) :: XA, ?_, ?_⟩
    · rw [numB_mk, h6]
      exact ⟨hS, kv, ra ++ [], XA, rfl, rfl, by rw [List.append_nil]; exact h4⟩
    · rw [numB_mk, h6]
mutual
theorem number_ok {c1 c2 : Nat} : ∀ b, NumOK c1 c2 b
  | .mk _ _ _ _ _ ks => number_step (number_all ks)
theorem number_all {c1 c2 : Nat} : ∀ (ks : List BT), ∀ b ∈ ks, NumOK c1 c2 b
  | [], _, h => by simp at h
  | b :: bs, x, h => by
    rcases List.mem_cons.1 h with h | h
    · rw [h]; exact number_ok b
    · exact number_all bs x h
end
end Go.Proofs.YteicdfkmpnmkmaaGreat
