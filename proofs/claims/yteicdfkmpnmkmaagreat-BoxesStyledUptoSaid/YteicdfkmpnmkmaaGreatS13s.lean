/-
  Walks and laws of this seat.
-/
import Derived.Test.YteicdfkmpnmkmaaGreatS13r
import Derived.Test.YteicdfkmpnmkmaaGreatRows
namespace Go.Proofs.YteicdfkmpnmkmaaGreat
set_option linter.unusedVariables false
set_option linter.unusedSimpArgs false
open Go.RowKit Go.Sl
def Num2OK (b : BT) : Prop := ∀ (f : Fz) (n : Int) (v : Value) (rows : List (List Value)) (i : Nat) (r : List Value) (X : List Ent), rows[i]? = some r → BoxO 44 b r X →
  Does Tryz.prog 40 [eaddr v 57 i 0, .int .i64 n] f (.row v 44 57 rows :: X) (fun u f' L' => f' = f ∧ u = .int .i64 (numB b n).2 ∧ ∃ r' X', BoxO 44 (numB b n).1 r' X' ∧ L' = .row v 44 57 (rows.set i r') :: X')
theorem pmT {y z : Ent} {A B T X1 : List Ent} : (y :: z :: (A ++ ((X1 ++ B) ++ T))).Perm ((z :: X1) ++ (y :: (A ++ (B ++ T)))) :=
  perm_of_count fun a => by simp only [List.count_append, List.count_cons, List.cons_append]; omega
set_option maxRecDepth 20000 in
set_option maxHeartbeats 8000000 in
theorem number2_step {k m i0 : Int} {s : Sty} {t : ByteArray} {ks : List BT} (ih : ∀ b ∈ ks, Num2OK b) : Num2OK (.mk k m i0 s t ks) := by
  intro f n v rows i r X hr hB w0 L w hC
  obtain ⟨hS, kv, krows, X, rfl, rfl, hO⟩ := hB
  have hi : i < rows.length := (List.getElem?_eq_some_iff.1 hr).1
  have hkl := hO.len
  rw [List.cons_append, List.cons_append] at hC
  refine enter Tryz.func40 rfl Tryz.ntmps40 (by simp) hC fun a hs => ?_
  refine W_seq fun K1 hK1 => ?_
  refine W_region ?_
  refine sy hs (y_assign rfl) fun _ _ hs => ?_
  refine RL_nil ?_
  refine hK1 _ _ ?_; clear hK1
  refine W_seq fun K2 hK2 => ?_
  refine W_region ?_
  refine sy hs (y_move rfl) fun _ _ hs => ?_
  refine sy hs (y_move rfl) fun _ _ hs => ?_
  refine sy hs (y_nilE rfl (Rd.st hs (.head _)) hi) fun _ _ hs => ?_
  refine sy hs (y_faE rfl (FO.of (off := 2) Tryz.underlying44 rfl rfl ti3 (by decide)) (Rd.st hs (.head _)) hi) fun _ _ hs => ?_
  refine RL_storeRow (i := 0) (m := i) (j := 2) hs rfl rfl rfl hr (by decide) ti3 rfl (.free rfl) fun _ _ hs => ?_
  replace hs : St 30 w0 f (.row v 44 57 (rows.set i (cB k m n s t kv)) :: .row kv 44 57 krows :: (X ++ L)) _ _ _ := hs
  have hr2 : (rows.set i (cB k m n s t kv))[i]? = some (cB k m n s t kv) := by simp [hi]
  have hi2 : i < (rows.set i (cB k m n s t kv)).length := by simpa using hi
  refine RL_nil ?_
  refine hK2 _ _ ?_; clear hK2
  refine W_seq fun K3 hK3 => ?_
  refine W_region ?_
  refine sy hs (y_move rfl) fun _ _ hs => ?_
  refine sy hs (y_add (m := w64 (n + 1)) rfl rfl rfl) fun _ _ hs => ?_
  refine sy hs (y_assign rfl) fun _ _ hs => ?_
  refine RL_nil ?_
  refine hK3 _ _ ?_; clear hK3
  refine W_seq fun K4 hK4 => ?_
  refine W_seq fun K5 hK5 => ?_
  refine W_region ?_
  refine sy hs (y_assign rfl) fun _ _ hs => ?_
  refine RL_nil ?_
  refine hK5 _ _ ?_; clear hK5
  refine W_block fun Qe6 hB6 hO6 => ?_
  refine W_loop (fun (j : Nat) a w => ∃ cnt krj XA XB, NumI 44 ks (w64 (n + 1)) j cnt krj XA XB ∧ St 30 w0 f (.row v 44 57 (rows.set i (cB k m n s t kv)) :: .row kv 44 57 krj :: (XA ++ (XB ++ L))) [(0, eaddr v 57 i 0), (1, .int .i64 cnt), (5, .int .i64 (j : Int))] a w) (fun j => ks.length - j) 0 ⟨w64 (n + 1), krows, [], X, ⟨by omega, [], [], krows, rfl, rfl, rfl, ⟨rfl, rfl⟩, hO, rfl⟩, hs.sub ⟨rfl, rfl, rfl, trivial⟩⟩ ?_
  clear hs; rintro j a w ⟨cnt, krj, XA, XB, hI, hs⟩ K hK
  have hjl := hI.len
  have hmx := rowMax hs (.tail _ (.head _))
  refine W_seq fun K7 hK7 => ?_
  refine W_seq fun K8 hK8 => ?_
  refine W_region ?_
  refine sy hs (y_move rfl) fun _ _ hs => ?_
  refine sy hs (y_move rfl) fun _ _ hs => ?_
  refine sy hs (y_nilE rfl (Rd.st hs (.head _)) hi2) fun _ _ hs => ?_
  refine sy hs (y_faE rfl (FO.of (off := 56) Tryz.underlying44 rfl rfl ti42 (by decide)) (Rd.st hs (.head _)) hi2) fun _ _ hs => ?_
  refine sy hs (y_loadE (u := kv) (Rd.st hs (.head _)) rfl hr2 (cB_kids hS.len) Tryz.underlying42 rfl) fun _ _ hs => ?_
  refine sy hs (y_lenR0 (Rd.st hs (.tail _ (.head _))) rfl Tryz.underlying42) fun _ _ hs => ?_
  refine sy hs (y_lss rfl rfl) fun _ _ hs => ?_
  refine RL_nil ?_
  refine hK8 _ _ ?_; clear hK8
  first | refine W_condP hs rfl (fun hlt => ?_) (fun hlt => ?_) | refine W_cond hs rfl (fun hlt => ?_) (fun hlt => ?_)
  · obtain ⟨x, r, X1, X2, hx, hxr, rfl, hB, hnext⟩ := hI.next (by omega)
    have hRk := Rd.st hs (.tail _ (.head _))
    refine W_skip ?_
    refine hK7 _ _ ?_; clear hK7
    refine W_seq fun K9 hK9 => ?_
    refine W_block fun Qe10 hB10 hO10 => ?_
    refine W_region ?_
    refine sy hs (y_move rfl) fun _ _ hs => ?_
    refine sy hs (y_nilE rfl (Rd.st hs (.head _)) hi2) fun _ _ hs => ?_
    refine sy hs (y_faE rfl (FO.of (off := 56) Tryz.underlying44 rfl rfl ti42 (by decide)) (Rd.st hs (.head _)) hi2) fun _ _ hs => ?_
    refine sy hs (y_loadE (u := kv) (Rd.st hs (.head _)) rfl hr2 (cB_kids hS.len) Tryz.underlying42 rfl) fun _ _ hs => ?_
    refine sy hs (y_move rfl) fun _ _ hs => ?_
    refine sy hs (y_indexAddr hRk rfl rfl rfl (by omega) Tryz.underlying42 ti44) fun _ _ hs => ?_
    refine sy hs (y_move rfl) fun _ _ hs => ?_
    refine RL_call (stPm hs pmT) rfl has40 rfl rfl (ih x (List.mem_of_getElem? hx) f cnt kv krj j r X1 hxr hB) (.free rfl) (by decide) ?_; clear hs; (try clear a w)
    rintro _ _ _ a w _ ⟨rfl, rfl, r', X', hB', rfl⟩ hs
    replace hs := stPm hs pmT.symm
    refine sy hs (y_assign rfl) fun _ _ hs => ?_
    refine RL_nil ?_
    refine hK9 _ _ ?_; clear hK9
    refine W_region ?_
    refine sy hs (y_move rfl) fun _ _ hs => ?_
    refine sy hs (y_add rfl rfl (wr_i64 (by omega))) fun _ _ hs => ?_
    refine sy hs (y_assign rfl) fun _ _ hs => ?_
    refine RL_nil ?_
    exact hK (j + 1) _ _ (by omega) ⟨_, _, _, _, hnext r' X' hB', by simp only [List.append_assoc]; simp only [List.append_assoc] at hs; exact hs.sub ⟨rfl, rfl, rfl, trivial⟩⟩
  · refine W_exit ?_
    refine hB6 _ _ ?_
    refine hK4 _ _ ?_; clear hK4
    refine W_seq fun K11 hK11 => ?_
    refine W_region ?_
    refine sy hs (y_move rfl) fun _ _ hs => ?_
    refine sy hs (y_assign rfl) fun _ _ hs => ?_
    refine RL_nil ?_
    refine hK11 _ _ ?_; clear hK11
    refine W_ret ?_
    refine Rt_1 hs rfl rfl ?_
    obtain ⟨D, ra, rb, rfl, h2, h3, h4, h5, h6⟩ := hI.ex
    rw [List.drop_eq_nil_of_le (by omega)] at h5 h6
    obtain ⟨rfl, rfl⟩ := h5
    rw [numL_nil, List.append_nil] at h6
    refine ⟨_, _, .row v 44 57 (rows.set i (cB k m n s t kv)) :: .row kv 44 57 (ra ++ []) :: XA, rfl, .refl _, hs.cw, rfl, ?_, cB k m n s t kv, .row kv 44 57 (ra ++ []) :: XA, ?_, rfl⟩
    · rw [numB_mk, h6]
    · rw [numB_mk, h6]
      exact ⟨hS, kv, ra ++ [], XA, rfl, rfl, by rw [List.append_nil]; exact h4⟩
mutual
theorem number2_ok : ∀ b, Num2OK b
  | .mk _ _ _ _ _ ks => number2_step (number2_all ks)
theorem number2_all : ∀ (ks : List BT), ∀ b ∈ ks, Num2OK b
  | [], _, h => by simp at h
  | b :: bs, x, h => by
    rcases List.mem_cons.1 h with h | h
    · rw [h]; exact number2_ok b
    · exact number2_all bs x h
end
theorem pmV {x y z : Ent} {A C : List Ent} : (y :: x :: z :: (A ++ C)).Perm ((y :: A) ++ (x :: z :: C)) :=
  perm_of_count fun a => by simp only [List.count_append, List.count_cons, List.cons_append]; omega
set_option maxRecDepth 20000 in
set_option maxHeartbeats 16000000 in
theorem Build2_ok {f : Fz} {ns : List api_Node} {ss : List Sty} {v0 lv : Value} (hT : RT ns) (hSS : ∀ s ∈ ss, StyOK s ∧ 0 ≤ dispS s ∧ dispS s ≤ 6) (hsl : ss.length = ns.length) (hN : RS t_api_Node f v0 ns) (hL : Rd f [] lv 52 ss) :
    Does Tryz.prog 13 [.agg #[v0], lv] f [] (buildR 44 ((buildM ns ss ns.length 0 0 0).map fun b => (numB b 0).1)) := by
  intro w0 L w hC
  have hpos := hT.pos
  refine enter Tryz.func13 rfl Tryz.ntmps13 (by simp) hC fun a hs => ?_
  refine W_seq fun K1 hK1 => ?_
  refine W_region ?_
  refine sbox (cs := #[v0]) hs rfl fun b2 _ _ hs => ?_
  refine RL_alloc hs ti44 (.free rfl) (by decide) fun b4 _ _ hs => ?_
  refine sy hs (y_assign rfl) fun _ _ hs => ?_
  refine RL_nil ?_
  refine hK1 _ _ ?_; clear hK1
  refine W_seq fun K2 hK2 => ?_
  refine W_region ?_
  refine sy hs (y_ldB (cs := #[v0]) rfl Tryz.underlying37 rfl ti37 (.tail _ (.head _)) rfl) fun _ _ hs => ?_
  refine sy hs (y_move rfl) fun _ _ hs => ?_
  refine RL_call (Lr := []) hs rfl has39 rfl rfl (made2_ok hT hSS hsl ns.length f 0 0 0 hN hL hpos (by omega) (by omega) (by omega)) (.free rfl) (by decide) ?_; clear hs; (try clear a w)
  rintro _ f4 X a w hf4 ⟨r, rfl, hr1, hB⟩ hs
  generalize ho : buildM ns ss ns.length 0 0 0 = o at *
  replace hs := stPm hs pmL
  refine sy hs (y_move rfl) fun _ _ hs => ?_
  refine sy hs (y_extract (vs := [.agg r.toArray, .bool o.isSome]) rfl rfl) fun _ _ hs => ?_
  refine sy hs (y_extract (vs := [.agg r.toArray, .bool o.isSome]) rfl rfl) fun _ _ hs => ?_
  refine RL_alloc hs ti44 (.free rfl) (by decide) fun b7 _ _ hs => ?_
  refine RL_storeAll (i := 0) hs rfl rfl rfl ti44 ⟨rfl, by simp [hr1.1]⟩ (one_arr hr1) (.free rfl) fun _ _ hs => ?_
  refine sy hs (y_assign rfl) fun _ _ hs => ?_
  refine RL_nil ?_
  refine hK2 _ _ ?_; clear hK2
  refine W_seq fun K3 hK3 => ?_
  refine W_seq fun K4 hK4 => ?_
  refine W_region ?_
  refine sy hs (y_move rfl) fun _ _ hs => ?_
  refine sy hs (y_not rfl) fun _ _ hs => ?_
  refine RL_nil ?_
  refine hK4 _ _ ?_; clear hK4
  first | refine W_condP hs rfl (fun hno => ?_) (fun hno => ?_) | refine W_cond hs rfl (fun hno => ?_) (fun hno => ?_)
  · obtain rfl : o = none := by simpa using hno
    obtain rfl : X = [] := hB
    refine W_seq fun K5 hK5 => ?_
    refine W_region ?_
    refine sy hs (y_buildN (places := boxP) (zl := zB) (ls := []) (cs := zB) rfl Tryz.underlying44 ti44 (by kernel_rfl) trivial rfl) fun _ _ hs => ?_
    refine RL_storeAll (i := 1) hs rfl rfl rfl ti44 ⟨rfl, rfl⟩ (one_arr zB_one) (.free rfl) fun _ _ hs => ?_
    refine sy hs (y_assign rfl) fun _ _ hs => ?_
    refine RL_nil ?_
    refine hK5 _ _ ?_; clear hK5
    refine W_ret ?_
    refine RtV2 hs rfl (rv_a hs rfl Tryz.underlying44 rfl ti44 (fun j u hj => Cell.blk (.tail _ (.head _)) hj) rfl) (rv_t hs rfl) ?_
    exact ⟨_, _, [], rfl, hf4, hs.cw.tail.tail.tail, zB, rfl, zB_one, rfl, rfl⟩
  · obtain ⟨b, rfl⟩ : ∃ b, o = some b := Option.isSome_iff_exists.1 (by simpa using hno)
    replace hs := stPm (blkRow hs hr1) (List.Perm.cons _ (.refl _))
    refine W_skip ?_
    refine hK3 _ _ ?_; clear hK3
    refine W_seq fun K6 hK6 => ?_
    refine W_region ?_
    refine RL_call (stPm hs pmV) rfl has40 rfl rfl (number2_ok b f4 0 (.slice (some ⟨b7, 0, none⟩) 1 1) [r] 0 r X rfl hB) (.free rfl) (by decide) ?_; clear hs; (try clear a w)
    rintro _ _ _ a w _ ⟨rfl, rfl, r', X', hB', rfl⟩ hs
    obtain ⟨hr2, hs⟩ := rowBlk (r := r') (stPm hs pmV.symm)
    refine RL_nil ?_
    refine hK6 _ _ ?_; clear hK6
    refine W_seq fun K7 hK7 => ?_
    refine W_region ?_
    refine sy hs (y_ldB rfl Tryz.underlying44 rfl ti44 (.head _) (by simp [hr2.1])) fun _ _ hs => ?_
    refine RL_storeAll (i := 1) hs rfl rfl rfl ti44 ⟨rfl, by simp [hr2.1]⟩ (one_arr hr2) (.free rfl) fun _ _ hs => ?_
    refine sy hs (y_assign rfl) fun _ _ hs => ?_
    refine RL_nil ?_
    refine hK7 _ _ ?_; clear hK7
    refine W_ret ?_
    refine RtV2 hs rfl (rv_a hs rfl Tryz.underlying44 rfl ti44 (fun j u hj => Cell.blk (.tail _ (.head _)) hj) (by simp [hr2.1])) (rv_t hs rfl) ?_
    exact ⟨_, _, X', rfl, hf4, hs.cw.tail.tail.tail, r', rfl, hr2, hB'⟩
end Go.Proofs.YteicdfkmpnmkmaaGreat
