/-
  Walks and laws of this seat; the base is the text Base.
-/
import Derived.Test.YtklcdfnhdljkjaaDoorS7e
import Derived.Test.YtklcdfnhdljkjaaDoorRows
namespace Go.Proofs.YtklcdfnhdljkjaaDoor
open Go.RowKit Go.Sl
theorem markB_take {l : List Int} {M : List Int} {j : Nat} {c : Int} (h : l[j]? = some c) : markB M (l.take (j + 1)) = (markB M (l.take j)).set c.toNat 1 := by
  obtain ⟨hj, hc⟩ := List.getElem?_eq_some_iff.1 h
  rw [List.take_succ_eq_append_getElem hj, hc]
  unfold markB
  rw [List.foldl_append]; rfl
theorem byte_at {s : ByteArray} {j : Nat} (h : j < s.size) : ∃ c : Nat, c < 256 ∧ getS s (j : Int) = some (c : Int) ∧ (bytesIn s)[j]? = some (c : Int) := by
  have hl : j < s.data.toList.length := by simpa using h
  have e : (bytesIn s)[j]? = some ((s.data.toList[j].toNat : Nat) : Int) := by
    unfold bytesIn
    rw [List.getElem?_map, List.getElem?_eq_getElem hl]; rfl
  refine ⟨s.data.toList[j].toNat, UInt8.toNat_lt _, ?_, e⟩
  unfold getS geti
  rw [if_pos (by omega), Int.toNat_natCast, e]
theorem permX {α : Type} (X G R : List α) : (X ++ (G ++ R)).Perm (G ++ (X ++ R)) := by
  rw [← List.append_assoc, ← List.append_assoc]
  exact List.perm_append_comm.append_right _
/-- How a text stands in the trie, from its second byte on. -/
def NodeAt (Ls : List Ent) (n1 : Nat) (rest val : ByteArray) (pr : Int) : Prop :=
  (rest = bs [] ∧ Ent.blk n1 (.cells (node val pr (bs []) (.pointer none) (.slice none 0 0)) 125 (0, 0)) ∈ Ls) ∨
  (rest ≠ bs [] ∧ ∃ n2, Ent.blk n1 (.cells (node (bs []) 0 rest (.pointer (some ⟨n2, 0, none⟩)) (.slice none 0 0)) 125 (0, 0)) ∈ Ls ∧ Ent.blk n2 (.cells (node val pr (bs []) (.pointer none) (.slice none 0 0)) 125 (0, 0)) ∈ Ls)
theorem NodeAt.mono {Ls Ls' : List Ent} {n1 : Nat} {rest val : ByteArray} {pr : Int} (h : NodeAt Ls n1 rest val pr) (hs : ∀ e ∈ Ls, e ∈ Ls') : NodeAt Ls' n1 rest val pr := by
  rcases h with ⟨h1, h2⟩ | ⟨h1, n2, h2, h3⟩
  · exact .inl ⟨h1, hs _ h2⟩
  · exact .inr ⟨h1, n2, hs _ h2, hs _ h3⟩
theorem add_rest {f : Fz} {gp : Value} {n1 : Nat} {rest val : ByteArray} {pr : Int} : Does Tryd.prog 59 [.pointer (some ⟨n1, 0, none⟩), .string rest, .string val, .int .i64 pr, gp] f [.blk n1 (.cells (node (bs []) 0 (bs []) (.pointer none) (.slice none 0 0)) 125 (0, 0))] (fun _ f' L' => f' = f ∧ NodeAt L' n1 rest val pr) := by
  by_cases h : rest = bs []
  · subst h
    refine Does.mono (add_nil (f := f)) fun _ f' L' ⟨h1, h2⟩ => ⟨h1, .inl ⟨rfl, ?_⟩⟩
    rw [h2]; exact .head _
  · refine Does.mono (add_one (f := f) h) fun _ f' L' ⟨h1, n2, h2⟩ => ⟨h1, .inr ⟨h, n2, ?_, ?_⟩⟩
    · rw [h2]; exact .tail _ (.head _)
    · rw [h2]; exact .head _
/-- The trie behind p texts. -/
structure Tri (l : List ByteArray) (mf : Nat → Nat) (T : Nat) (p : Nat) (rows : List (List Value)) (Ls : List Ent) : Prop where
  len : rows.length = T
  free : ∀ m, m < T → (∀ q, q < p → mf q ≠ m) → rows[m]? = some [.pointer none]
  node : ∀ q, q < p → ∃ n1 key val, l[2 * q]? = some key ∧ l[2 * q + 1]? = some val ∧ rows[mf q]? = some [.pointer (some ⟨n1, 0, none⟩)] ∧ NodeAt Ls n1 (key.extract 1 key.size) val (l.length - (2 * q : Nat))
set_option maxRecDepth 20000 in
set_option maxHeartbeats 8000000 in
theorem mkGen_ok {f : Fz} {a0 : Value} {l : List ByteArray} {w0 w : World} {L : List Ent} (h0 : RS tStr f a0 l) (hl : l.length ≤ 1000) (hsz : ∀ s ∈ l, s.size ≤ 1000000) (hev : l.length % 2 = 0) {mf : Nat → Nat} {T : Nat} {N : List Int} (hT0 : sumB (markL l (l.length / 2)) 256 = (T : Int)) (hT1 : T ≤ 256) (hN0 : (numB T (markL l (l.length / 2)) 256).1 = N)
    (hmf : ∀ p, 2 * p < l.length → ∃ key c, l[2 * p]? = some key ∧ key ≠ bs [] ∧ 1 ≤ key.size ∧ getS key 0 = some ((c : Nat) : Int) ∧ c < 256 ∧ N[c]? = some (mf p : Int) ∧ mf p < T) (hinj : ∀ p q, p < q → 2 * q < l.length → mf p ≠ mf q) (hC : Cw w0 f L w) :
    Calls Tryd.prog 49 [a0].toArray w fun e w' => ∃ b tv rows Ls, e = .returned (.pointer (some ⟨b, 0, none⟩)) ∧ Tri l mf T (l.length / 2) rows Ls ∧ Cw w0 f (.blk b (.cells (gcA tv T N) 127 (0, 0)) :: .row tv 122 1 rows :: (Ls ++ L)) w' := by
  refine enter Tryd.func49 rfl Tryd.ntmps49 (by simp) hC fun a hs => ?_
  obtain ⟨rw0, hR0, hW0⟩ := h0
  have hlen := hW0.len
  refine W_seq fun K1 hK1 => ?_
  refine W_region ?_
  refine sy hs (y_assign rfl) ?_; clear hs; (try clear a w); intro a w hs
  refine RL_nil ?_
  refine hK1 _ _ ?_; clear hK1
  refine W_seq fun K2 hK2 => ?_
  refine W_region ?_
  refine RL_alloc hs ti127' (.free rfl) (by decide) ?_; clear hs; (try clear a w); intro b a w hs
  replace hs : St _ _ _ (.blk b (.cells (gcA (.slice none 0 0) 0 (List.replicate 256 0)) 127 (0, 0)) :: L) _ _ _ := hs
  refine sy hs (y_assign rfl) ?_; clear hs; (try clear a w); intro a w hs
  refine RL_nil ?_
  refine hK2 _ _ ?_; clear hK2
  refine W_seq fun K3 hK3 => ?_
  refine W_seq fun K4 hK4 => ?_
  refine W_region ?_
  refine sy hs (y_assign rfl) ?_; clear hs; (try clear a w); intro a w hs
  refine RL_nil ?_
  refine hK4 _ _ ?_; clear hK4
  refine W_block fun Qe5 hB5 hO5 => ?_
  refine W_loop (fun (k : Nat) a w => 2 * k ≤ l.length ∧ St 117 w0 f (.blk b (.cells (gcA (.slice none 0 0) 0 (markL l k)) 127 (0, 0)) :: L) [(0, a0), (3, .pointer (some ⟨b, 0, none⟩)), (4, .int .i64 ((2 * k : Nat) : Int))] a w) (fun k => l.length - 2 * k) 0 ⟨by omega, hs.sub ⟨rfl, rfl, rfl, trivial⟩⟩ ?_
  clear hs; rintro k a w ⟨hk, hs⟩ K hK
  refine W_seq fun K6 hK6 => ?_
  refine W_seq fun K7 hK7 => ?_
  refine W_region ?_
  refine sy hs (y_move rfl) ?_; clear hs; (try clear a w); intro a w hs
  refine sy hs (y_move rfl) ?_; clear hs; (try clear a w); intro a w hs
  refine sy hs (y_lenR0 hR0 rfl Tryd.underlying47) ?_; clear hs; (try clear a w); intro a w hs
  refine sy hs (y_lss rfl rfl) ?_; clear hs; (try clear a w); intro a w hs
  refine RL_nil ?_
  refine hK7 _ _ ?_; clear hK7
  first | refine W_condP hs rfl (fun hlt => ?_) (fun hlt => ?_) | refine W_cond hs rfl (fun hlt => ?_) (fun hlt => ?_)
  · have hlt' : 2 * k < l.length := by
      have : ((2 * k : Nat) : Int) < ((rw0.length : Nat) : Int) := by simpa using hlt
      omega
    obtain ⟨s, hs0⟩ : ∃ s, l[2 * k]? = some s := ⟨_, List.getElem?_eq_getElem hlt'⟩
    obtain ⟨r, hr, hrs⟩ := hW0.get hs0
    have hss := hsz s (List.mem_of_getElem? hs0)
    obtain rfl : r = [.string s] := hrs
    refine W_skip ?_
    refine hK6 _ _ ?_; clear hK6
    refine W_seq fun K8 hK8 => ?_
    refine W_block fun Qe9 hB9 hO9 => ?_
    refine W_seq fun K10 hK10 => ?_
    refine W_region ?_
    refine sy hs (y_move rfl) ?_; clear hs; (try clear a w); intro a w hs
    refine sy hs (y_move rfl) ?_; clear hs; (try clear a w); intro a w hs
    refine sy hs (y_indexAddr hR0 rfl rfl rfl (by omega) Tryd.underlying47 ti9) ?_; clear hs; (try clear a w); intro a w hs
    refine sy hs (y_loadE (i := 2 * k) (j := 0) (hR0.up (L := _)) rfl hr rfl Tryd.underlying9 rfl) ?_; clear hs; (try clear a w); intro a w hs
    refine sy hs (y_assign rfl) ?_; clear hs; (try clear a w); intro a w hs
    refine RL_nil ?_
    refine hK10 _ _ ?_; clear hK10
    refine W_seq fun K11 hK11 => ?_
    refine W_region ?_
    refine sy hs (y_assign rfl) ?_; clear hs; (try clear a w); intro a w hs
    refine RL_nil ?_
    refine hK11 _ _ ?_; clear hK11
    refine W_block fun Qe12 hB12 hO12 => ?_
    refine W_loop (fun (j : Nat) a w => j ≤ s.size ∧ St 117 w0 f (.blk b (.cells (gcA (.slice none 0 0) 0 (markB (markL l k) ((bytesIn s).take j))) 127 (0, 0)) :: L) [(0, a0), (3, .pointer (some ⟨b, 0, none⟩)), (4, .int .i64 ((2 * k : Nat) : Int)), (5, .string s), (6, .int .i64 (j : Int))] a w) (fun j => s.size - j) 0 ⟨by omega, hs.sub ⟨rfl, rfl, rfl, rfl, rfl, trivial⟩⟩ ?_
    clear hs; rintro j a w ⟨hj, hs⟩ K' hK'
    refine W_seq fun K13 hK13 => ?_
    refine W_seq fun K14 hK14 => ?_
    refine W_region ?_
    refine sy hs (y_move rfl) ?_; clear hs; (try clear a w); intro a w hs
    refine sy hs (y_move rfl) ?_; clear hs; (try clear a w); intro a w hs
    refine sy hs (y_lenS rfl Tryd.underlying9) ?_; clear hs; (try clear a w); intro a w hs
    refine sy hs (y_lss rfl rfl) ?_; clear hs; (try clear a w); intro a w hs
    refine RL_nil ?_
    refine hK14 _ _ ?_; clear hK14
    first | refine W_condP hs rfl (fun hlj => ?_) (fun hlj => ?_) | refine W_cond hs rfl (fun hlj => ?_) (fun hlj => ?_)
    · have hlj' : j < s.size := by
        have : ((j : Nat) : Int) < ((s.size : Nat) : Int) := by simpa using hlj
        omega
      obtain ⟨c, hc, hg, hb⟩ := byte_at hlj'
      refine W_skip ?_
      refine hK13 _ _ ?_; clear hK13
      refine W_seq fun K15 hK15 => ?_
      refine W_block fun Qe16 hB16 hO16 => ?_
      refine D_start hs ([]) [7] [(0, true), (1, true), (2, true), (3, true), (4, true), (5, true), (6, true), (7, false)] mixed (by kernel_rfl) ?_; clear hs; (try clear a w); intro a he
      refine dy 0 he rfl (y_move rfl) ?_; clear he; (try clear a); intro a he
      refine dy 1 he rfl (y_move rfl) ?_; clear he; (try clear a); intro a he
      refine dy 2 he rfl (y_move rfl) ?_; clear he; (try clear a); intro a he
      refine dy 3 he rfl (y_ixW rfl rfl Tryd.underlying9 hg) ?_; clear he; (try clear a); intro a he
      first | (refine dy 4 he rfl (y_nilCheck rfl) ?_; clear he; (try clear a); intro a he) | (refine dy 4 he rfl (y_nilE rfl) ?_; clear he; (try clear a); intro a he)
      first | (refine dy 5 he rfl (y_fieldAddr rfl (FO.of (off := 6) Tryd.underlying127 rfl rfl ti87 (by decide))) ?_; clear he; (try clear a); intro a he) | (refine dy 5 he rfl (y_faE rfl (FO.of (off := 6) Tryd.underlying127 rfl rfl ti87 (by decide))) ?_; clear he; (try clear a); intro a he)
      refine dy 6 he rfl (y_ixArr (j := c) rfl rfl Tryd.underlying87 ti5 rfl hc) ?_; clear he; (try clear a); intro a he
      refine D_eff (i := 7) rfl he ?_; clear he; (try clear a); intro a w hs
      refine RL_storeBlk (i := 0) (o := 6 + c) (u := .int .u8 1) hs rfl (by rw [show 6 + c = 0 + 6 + c * 1 by omega]; rfl) rfl ti5 rfl (by rw [gcA_size, markB_len, markL_len]; omega) gcA_set (.free rfl) ?_; clear hs; (try clear a w); intro a w hs
      refine dend hs ?_; clear hs; (try clear a w); intro a he
      refine D_nil he ?_; clear he; (try clear a); intro w hs
      refine hK15 _ _ ?_; clear hK15
      refine W_region ?_
      refine sy hs (y_move rfl) ?_; clear hs; (try clear a w); intro a w hs
      refine sy hs (y_add rfl rfl (wr_i64 (by omega))) ?_; clear hs; (try clear a w); intro a w hs
      refine sy hs (y_assign rfl) ?_; clear hs; (try clear a w); intro a w hs
      refine RL_nil ?_
      refine hK' (j + 1) _ _ (by omega) ⟨by omega, by rw [markB_take hb, Int.toNat_natCast]; exact hs.sub ⟨rfl, rfl, rfl, rfl, rfl, trivial⟩⟩
    · have hjs : j = s.size := by
        have : ¬ ((j : Nat) : Int) < ((s.size : Nat) : Int) := by simpa using hlj
        omega
      rw [hjs, List.take_of_length_le (by rw [bytesIn_length]; exact Nat.le_refl _)] at hs
      refine W_exit ?_
      refine hB12 _ _ ?_
      refine hK8 _ _ ?_; clear hK8
      refine W_region ?_
      refine sy hs (y_move rfl) ?_; clear hs; (try clear a w); intro a w hs
      refine sy hs (y_add rfl rfl (wr_i64 (by omega))) ?_; clear hs; (try clear a w); intro a w hs
      refine sy hs (y_assign rfl) ?_; clear hs; (try clear a w); intro a w hs
      refine RL_nil ?_
      refine hK (k + 1) _ _ (by omega) ⟨by omega, by
        rw [show markL l (k + 1) = markB (markL l k) (bytesIn s) by rw [markL, hs0, Option.getD_some]]
        exact hs.sub ⟨rfl, rfl, rfl, trivial⟩⟩
  · obtain ⟨M, hM⟩ : ∃ M, M = markL l (l.length / 2) := ⟨_, rfl⟩
    have hML : M.length = 256 := by rw [hM]; exact markL_len _ _
    have hkl : k = l.length / 2 := by
      have : ¬ ((2 * k : Nat) : Int) < ((rw0.length : Nat) : Int) := by simpa using hlt
      omega
    rw [hkl, ← hM] at hs
    clear hK
    refine W_exit ?_
    refine hB5 _ _ ?_
    refine hK3 _ _ ?_; clear hK3
    refine W_seq fun K17 hK17 => ?_
    refine W_seq fun K18 hK18 => ?_
    refine W_region ?_
    refine sy hs (y_move rfl) ?_; clear hs; (try clear a w); intro a w hs
    first | (refine sy hs (y_nilCheck rfl) ?_; clear hs; (try clear a w); intro a w hs) | (refine sy hs (y_nilE rfl) ?_; clear hs; (try clear a w); intro a w hs)
    first | (refine sy hs (y_fieldAddr rfl (FO.of (off := 6) Tryd.underlying127 rfl rfl ti87 (by decide))) ?_; clear hs; (try clear a w); intro a w hs) | (refine sy hs (y_faE rfl (FO.of (off := 6) Tryd.underlying127 rfl rfl ti87 (by decide))) ?_; clear hs; (try clear a w); intro a w hs)
    refine sy hs (y_ldP (cs := M.map fun x => Value.int .u8 x) rfl Tryd.underlying87 rfl ti87 (.head _) (by simp [hML]) (by rw [show (0 + 6) = 6 from rfl, gcA_drop, List.take_of_length_le (by simp [hML])])) ?_; clear hs; (try clear a w); intro a w hs
    refine sy hs (y_move rfl) ?_; clear hs; (try clear a w); intro a w hs
    refine RL_nil ?_
    refine hK18 _ _ ?_; clear hK18
    refine W_block fun Qe19 hB19 hO19 => ?_
    refine W_loop (fun (i : Nat) a w => i ≤ 256 ∧ St 117 w0 f (.blk b (.cells (gcA (.slice none 0 0) (sumB M i) M) 127 (0, 0)) :: L) [(0, a0), (3, .pointer (some ⟨b, 0, none⟩)), (40, .agg (M.map fun x => Value.int .u8 x).toArray), (41, .int .i64 (i : Int))] a w) (fun i => 256 - i) 0 ⟨by omega, hs.sub ⟨rfl, rfl, rfl, rfl, trivial⟩⟩ ?_
    clear hs; rintro i a w ⟨hi, hs⟩ K hK
    refine W_seq fun K20 hK20 => ?_
    refine W_region ?_
    refine sy hs (y_lss rfl rfl) ?_; clear hs; (try clear a w); intro a w hs
    refine RL_nil ?_
    refine hK20 _ _ ?_; clear hK20
    refine W_seq fun K21 hK21 => ?_
    first | refine W_condP hs rfl (fun hi2 => ?_) (fun hi2 => ?_) | refine W_cond hs rfl (fun hi2 => ?_) (fun hi2 => ?_)
    · have hi2' : i < 256 := by
        have : ((i : Nat) : Int) < 256 := by simpa using hi2
        omega
      obtain ⟨x, hx⟩ : ∃ x, M[i]? = some x := ⟨_, List.getElem?_eq_getElem (by omega)⟩
      refine W_skip ?_
      refine hK21 _ _ ?_; clear hK21
      refine W_seq fun K22 hK22 => ?_
      refine W_block fun Qe23 hB23 hO23 => ?_
      refine W_seq fun K24 hK24 => ?_
      refine W_region ?_
      refine sy hs (y_ixAV rfl rfl Tryd.underlying87 Tryd.underlying5 rfl ti5 rfl hi2' (by rw [List.getElem?_toArray, List.getElem?_map, hx]; rfl)) ?_; clear hs; (try clear a w); intro a w hs
      refine sy hs (y_assign rfl) ?_; clear hs; (try clear a w); intro a w hs
      refine RL_nil ?_
      refine hK24 _ _ ?_; clear hK24
      refine W_region ?_
      refine sy hs (y_move rfl) ?_; clear hs; (try clear a w); intro a w hs
      first | (refine sy hs (y_nilCheck rfl) ?_; clear hs; (try clear a w); intro a w hs) | (refine sy hs (y_nilE rfl) ?_; clear hs; (try clear a w); intro a w hs)
      first | (refine sy hs (y_fieldAddr rfl (FO.of (off := 5) Tryd.underlying127 rfl rfl ti3 (by decide))) ?_; clear hs; (try clear a w); intro a w hs) | (refine sy hs (y_faE rfl (FO.of (off := 5) Tryd.underlying127 rfl rfl ti3 (by decide))) ?_; clear hs; (try clear a w); intro a w hs)
      refine sy hs (y_ld rfl Tryd.underlying3 rfl (Cell.blk (.head _) gcA_5)) ?_; clear hs; (try clear a w); intro a w hs
      refine sy hs (y_move rfl) ?_; clear hs; (try clear a w); intro a w hs
      refine sy hs (y_i2i rfl (by rw [Tryd.underlying5]; rfl) Tryd.underlying3 rfl) ?_; clear hs; (try clear a w); intro a w hs
      refine sy hs (y_add rfl rfl rfl) ?_; clear hs; (try clear a w); intro a w hs
      first | (refine sy hs (y_nilCheck rfl) ?_; clear hs; (try clear a w); intro a w hs) | (refine sy hs (y_nilE rfl) ?_; clear hs; (try clear a w); intro a w hs)
      first | (refine sy hs (y_fieldAddr rfl (FO.of (off := 5) Tryd.underlying127 rfl rfl ti3 (by decide))) ?_; clear hs; (try clear a w); intro a w hs) | (refine sy hs (y_faE rfl (FO.of (off := 5) Tryd.underlying127 rfl rfl ti3 (by decide))) ?_; clear hs; (try clear a w); intro a w hs)
      refine RL_storeBlk (i := 0) (o := 5) hs rfl rfl rfl ti3 rfl (by rw [gcA_size]; omega) gcA_T (.free rfl) ?_; clear hs; (try clear a w); intro a w hs
      refine RL_nil ?_
      refine hK22 _ _ ?_; clear hK22
      refine W_region ?_
      refine sy hs (y_add rfl rfl (wr_i64 (by omega))) ?_; clear hs; (try clear a w); intro a w hs
      refine sy hs (y_move rfl) ?_; clear hs; (try clear a w); intro a w hs
      refine RL_nil ?_
      exact hK (i + 1) _ _ (by omega) ⟨by omega, by
        have e : sumB M (i + 1) = IntKind.i64.wrap (sumB M i + IntKind.i64.wrap x) := by rw [sumB, hx, Option.getD_some]
        rw [e]
        exact hs.sub ⟨rfl, rfl, rfl, rfl, trivial⟩⟩
    · have hi3 : i = 256 := by
        have : ¬ ((i : Nat) : Int) < 256 := by simpa using hi2
        omega
      rw [hi3] at hs
      rw [hM, hT0, ← hM] at hs
      clear hK
      refine W_exit ?_
      refine hB19 _ _ ?_
      refine hK17 _ _ ?_; clear hK17
      refine W_seq fun K25 hK25 => ?_
      refine W_region ?_
      refine sy hs (y_assign rfl) ?_; clear hs; (try clear a w); intro a w hs
      refine RL_nil ?_
      refine hK25 _ _ ?_; clear hK25
      refine W_seq fun K26 hK26 => ?_
      refine W_seq fun K27 hK27 => ?_
      refine W_region ?_
      refine sy hs (y_move rfl) ?_; clear hs; (try clear a w); intro a w hs
      first | (refine sy hs (y_nilCheck rfl) ?_; clear hs; (try clear a w); intro a w hs) | (refine sy hs (y_nilE rfl) ?_; clear hs; (try clear a w); intro a w hs)
      first | (refine sy hs (y_fieldAddr rfl (FO.of (off := 6) Tryd.underlying127 rfl rfl ti87 (by decide))) ?_; clear hs; (try clear a w); intro a w hs) | (refine sy hs (y_faE rfl (FO.of (off := 6) Tryd.underlying127 rfl rfl ti87 (by decide))) ?_; clear hs; (try clear a w); intro a w hs)
      refine sy hs (y_ldP (cs := M.map fun x => Value.int .u8 x) rfl Tryd.underlying87 rfl ti87 (.head _) (by simp [hML]) (by rw [show (0 + 6) = 6 from rfl, gcA_drop, List.take_of_length_le (by simp [hML])])) ?_; clear hs; (try clear a w); intro a w hs
      refine sy hs (y_move rfl) ?_; clear hs; (try clear a w); intro a w hs
      refine RL_nil ?_
      refine hK27 _ _ ?_; clear hK27
      refine W_block fun Qe28 hB28 hO28 => ?_
      refine W_loop (fun (i : Nat) a w => i ≤ 256 ∧ St 117 w0 f (.blk b (.cells (gcA (.slice none 0 0) T (numB T M i).1) 127 (0, 0)) :: L) [(0, a0), (3, .pointer (some ⟨b, 0, none⟩)), (9, .int .u8 (numB T M i).2), (57, .agg (M.map fun x => Value.int .u8 x).toArray), (58, .int .i64 (i : Int))] a w) (fun i => 256 - i) 0 ⟨by omega, hs.sub ⟨rfl, rfl, rfl, rfl, rfl, trivial⟩⟩ ?_
      clear hs; rintro i a w ⟨hi, hs⟩ K hK
      refine W_seq fun K29 hK29 => ?_
      refine W_region ?_
      refine sy hs (y_lss rfl rfl) ?_; clear hs; (try clear a w); intro a w hs
      refine RL_nil ?_
      refine hK29 _ _ ?_; clear hK29
      refine W_seq fun K30 hK30 => ?_
      first | refine W_condP hs rfl (fun hj2 => ?_) (fun hj2 => ?_) | refine W_cond hs rfl (fun hj2 => ?_) (fun hj2 => ?_)
      · have hi2' : i < 256 := by
          have : ((i : Nat) : Int) < 256 := by simpa using hj2
          omega
        obtain ⟨x, hx⟩ : ∃ x, M[i]? = some x := ⟨_, List.getElem?_eq_getElem (by omega)⟩
        have hgs : 6 + i < (gcA (.slice none 0 0) T (numB T M i).1).size := by rw [gcA_size, numB_len]; omega
        refine W_skip ?_
        refine hK30 _ _ ?_; clear hK30
        refine W_seq fun K31 hK31 => ?_
        refine W_block fun Qe32 hB32 hO32 => ?_
        refine W_seq fun K33 hK33 => ?_
        refine W_region ?_
        refine sy hs (y_move rfl) ?_; clear hs; (try clear a w); intro a w hs
        refine sy hs (y_ixAV rfl rfl Tryd.underlying87 Tryd.underlying5 rfl ti5 rfl hi2' (by rw [List.getElem?_toArray, List.getElem?_map, hx]; rfl)) ?_; clear hs; (try clear a w); intro a w hs
        refine sy hs (y_assign rfl) ?_; clear hs; (try clear a w); intro a w hs
        refine sy hs (y_assign rfl) ?_; clear hs; (try clear a w); intro a w hs
        refine RL_nil ?_
        refine hK33 _ _ ?_; clear hK33
        refine W_seq fun K34 hK34 => ?_
        refine W_region ?_
        refine sy hs (y_move rfl) ?_; clear hs; (try clear a w); intro a w hs
        refine sy hs (y_eql rfl rfl) ?_; clear hs; (try clear a w); intro a w hs
        refine RL_nil ?_
        refine hK34 _ _ ?_; clear hK34
        first | refine W_condP hs rfl (fun hz => ?_) (fun hz => ?_) | refine W_cond hs rfl (fun hz => ?_) (fun hz => ?_)
        · refine D_start hs ([.blk b (.cells (gcA (.slice none 0 0) T (numB T M i).1) 127 (0, 0))]) [10] [(0, true), (1, true), (2, true), (3, true), (4, true), (5, true), (6, true), (7, true), (8, true), (9, true), (10, false)] mixed (by kernel_rfl) ?_; clear hs; (try clear a w); intro a he
          refine dy 0 he rfl (y_move rfl) ?_; clear he; (try clear a); intro a he
          refine dy 1 he rfl (y_move rfl) ?_; clear he; (try clear a); intro a he
          refine dy 2 he rfl (y_move rfl) ?_; clear he; (try clear a); intro a he
          first | (refine dy 3 he rfl (y_nilCheck rfl) ?_; clear he; (try clear a); intro a he) | (refine dy 3 he rfl (y_nilE rfl) ?_; clear he; (try clear a); intro a he)
          first | (refine dy 4 he rfl (y_fieldAddr rfl (FO.of (off := 5) Tryd.underlying127 rfl rfl ti3 (by decide))) ?_; clear he; (try clear a); intro a he) | (refine dy 4 he rfl (y_faE rfl (FO.of (off := 5) Tryd.underlying127 rfl rfl ti3 (by decide))) ?_; clear he; (try clear a); intro a he)
          refine dy 5 he rfl (y_ld rfl Tryd.underlying3 rfl (Cell.blk (.head _) gcA_5)) ?_; clear he; (try clear a); intro a he
          refine dy 6 he rfl (y_i2i rfl (by rw [Tryd.underlying3]; rfl) Tryd.underlying5 rfl) ?_; clear he; (try clear a); intro a he
          first | (refine dy 7 he rfl (y_nilCheck rfl) ?_; clear he; (try clear a); intro a he) | (refine dy 7 he rfl (y_nilE rfl) ?_; clear he; (try clear a); intro a he)
          first | (refine dy 8 he rfl (y_fieldAddr rfl (FO.of (off := 6) Tryd.underlying127 rfl rfl ti87 (by decide))) ?_; clear he; (try clear a); intro a he) | (refine dy 8 he rfl (y_faE rfl (FO.of (off := 6) Tryd.underlying127 rfl rfl ti87 (by decide))) ?_; clear he; (try clear a); intro a he)
          refine dy 9 he rfl (y_ixArr (j := i) rfl rfl Tryd.underlying87 ti5 rfl hi2') ?_; clear he; (try clear a); intro a he
          refine D_eff (i := 10) rfl he ?_; clear he; (try clear a); intro a w hs
          refine RL_storeBlk (i := 0) (o := 6 + i) hs rfl (by rw [show 6 + i = 0 + 6 + i * 1 by omega]; rfl) rfl ti5 rfl hgs gcA_set (.free rfl) ?_; clear hs; (try clear a w); intro a w hs
          refine dend hs ?_; clear hs; (try clear a w); intro a he
          refine D_nil he ?_; clear he; (try clear a); intro w hs
          refine hK31 _ _ ?_; clear hK31
          refine W_region ?_
          refine sy hs (y_add rfl rfl (wr_i64 (by omega))) ?_; clear hs; (try clear a w); intro a w hs
          refine sy hs (y_move rfl) ?_; clear hs; (try clear a w); intro a w hs
          refine RL_nil ?_
          refine hK (i + 1) _ _ (by omega) ⟨by omega, ?_⟩
          have hx0 : x = 0 := by simpa using hz
          have e : numB T M (i + 1) = ((numB T M i).1.set i (IntKind.u8.wrap T), (numB T M i).2) := by
            rw [numB, hx, Option.getD_some, if_pos hx0]
          rw [e]
          exact hs.sub ⟨rfl, rfl, rfl, rfl, rfl, trivial⟩
        · refine W_seq fun K35 hK35 => ?_
          refine W_region ?_
          refine sy hs (y_move rfl) ?_; clear hs; (try clear a w); intro a w hs
          refine sy hs (y_move rfl) ?_; clear hs; (try clear a w); intro a w hs
          refine sy hs (y_move rfl) ?_; clear hs; (try clear a w); intro a w hs
          first | (refine sy hs (y_nilCheck rfl) ?_; clear hs; (try clear a w); intro a w hs) | (refine sy hs (y_nilE rfl) ?_; clear hs; (try clear a w); intro a w hs)
          first | (refine sy hs (y_fieldAddr rfl (FO.of (off := 6) Tryd.underlying127 rfl rfl ti87 (by decide))) ?_; clear hs; (try clear a w); intro a w hs) | (refine sy hs (y_faE rfl (FO.of (off := 6) Tryd.underlying127 rfl rfl ti87 (by decide))) ?_; clear hs; (try clear a w); intro a w hs)
          refine sy hs (y_ixArr (j := i) rfl rfl Tryd.underlying87 ti5 rfl hi2') ?_; clear hs; (try clear a w); intro a w hs
          refine RL_storeBlk (i := 0) (o := 6 + i) hs rfl (by rw [show 6 + i = 0 + 6 + i * 1 by omega]; rfl) rfl ti5 rfl hgs gcA_set (.free rfl) ?_; clear hs; (try clear a w); intro a w hs
          refine RL_nil ?_
          refine hK35 _ _ ?_; clear hK35
          refine W_region ?_
          refine sy hs (y_move rfl) ?_; clear hs; (try clear a w); intro a w hs
          refine sy hs (y_add rfl rfl rfl) ?_; clear hs; (try clear a w); intro a w hs
          refine sy hs (y_assign rfl) ?_; clear hs; (try clear a w); intro a w hs
          refine RL_nil ?_
          refine hK31 _ _ ?_; clear hK31
          refine W_region ?_
          refine sy hs (y_add rfl rfl (wr_i64 (by omega))) ?_; clear hs; (try clear a w); intro a w hs
          refine sy hs (y_move rfl) ?_; clear hs; (try clear a w); intro a w hs
          refine RL_nil ?_
          refine hK (i + 1) _ _ (by omega) ⟨by omega, ?_⟩
          have hx0 : ¬ x = 0 := by simpa using hz
          have e : numB T M (i + 1) = ((numB T M i).1.set i (numB T M i).2, IntKind.u8.wrap ((numB T M i).2 + 1)) := by
            rw [numB, hx, Option.getD_some, if_neg hx0]
          rw [e]
          exact hs.sub ⟨rfl, rfl, rfl, rfl, rfl, trivial⟩
      · have hi3 : i = 256 := by
          have : ¬ ((i : Nat) : Int) < 256 := by simpa using hj2
          omega
        rw [hi3] at hs
        rw [hM, hN0] at hs
        clear hK
        refine W_exit ?_
        refine hB28 _ _ ?_
        refine hK26 _ _ ?_; clear hK26
        refine W_seq fun K36 hK36 => ?_
        refine W_region ?_
        refine sy hs (y_move rfl) ?_; clear hs; (try clear a w); intro a w hs
        refine sy hs (y_move rfl) ?_; clear hs; (try clear a w); intro a w hs
        first | (refine sy hs (y_nilCheck rfl) ?_; clear hs; (try clear a w); intro a w hs) | (refine sy hs (y_nilE rfl) ?_; clear hs; (try clear a w); intro a w hs)
        first | (refine sy hs (y_fieldAddr rfl (FO.of (off := 5) Tryd.underlying127 rfl rfl ti3 (by decide))) ?_; clear hs; (try clear a w); intro a w hs) | (refine sy hs (y_faE rfl (FO.of (off := 5) Tryd.underlying127 rfl rfl ti3 (by decide))) ?_; clear hs; (try clear a w); intro a w hs)
        refine sy hs (y_ld rfl Tryd.underlying3 rfl (Cell.blk (.head _) gcA_5)) ?_; clear hs; (try clear a w); intro a w hs
        refine RL_make (m := T) hs rfl rfl Tryd.underlying123 ti122 ⟨by decide, rfl⟩ ⟨rfl, by simp [Value.cells, Value.oneCell']⟩ (by omega) ?_; clear hs; (try clear a w); intro tv a w hs
        have htv := hs.one (i := 0) rfl
        replace hs := hs.front 1
        first | (refine sy hs (y_nilCheck rfl) ?_; clear hs; (try clear a w); intro a w hs) | (refine sy hs (y_nilE rfl) ?_; clear hs; (try clear a w); intro a w hs)
        first | (refine sy hs (y_fieldAddr rfl (FO.of (off := 0) Tryd.underlying127 rfl rfl ti125 (by decide))) ?_; clear hs; (try clear a w); intro a w hs) | (refine sy hs (y_faE rfl (FO.of (off := 0) Tryd.underlying127 rfl rfl ti125 (by decide))) ?_; clear hs; (try clear a w); intro a w hs)
        first | (refine sy hs (y_fieldAddr rfl (FO.of (off := 4) Tryd.underlying125 rfl rfl ti123 (by decide))) ?_; clear hs; (try clear a w); intro a w hs) | (refine sy hs (y_faE rfl (FO.of (off := 4) Tryd.underlying125 rfl rfl ti123 (by decide))) ?_; clear hs; (try clear a w); intro a w hs)
        refine RL_storeBlk (i := 0) (o := 4) hs rfl rfl rfl ti123 htv (by rw [gcA_size]; omega) gcA_tv (.free rfl) ?_; clear hs; (try clear a w); intro a w hs
        refine RL_nil ?_
        refine hK36 _ _ ?_; clear hK36
        refine W_seq fun K37 hK37 => ?_
        refine W_seq fun K38 hK38 => ?_
        refine W_region ?_
        refine sy hs (y_assign rfl) ?_; clear hs; (try clear a w); intro a w hs
        refine RL_nil ?_
        refine hK38 _ _ ?_; clear hK38
        refine W_block fun Qe39 hB39 hO39 => ?_
        have hNl : N.length = 256 := by rw [← hN0, numB_len]; exact markL_len _ _
        refine W_loop (fun (p : Nat) a w => 2 * p ≤ l.length ∧ ∃ rows Ls, Tri l mf T p rows Ls ∧ St 117 w0 f (.blk b (.cells (gcA tv T N) 127 (0, 0)) :: .row tv 122 1 rows :: (Ls ++ L)) [(0, a0), (3, .pointer (some ⟨b, 0, none⟩)), (12, .int .i64 ((2 * p : Nat) : Int))] a w) (fun p => l.length - 2 * p) 0
          ⟨by omega, List.replicate T [.pointer none], [], ⟨by simp, fun m hm _ => by rw [List.getElem?_replicate, if_pos hm], fun q hq => absurd hq (by omega)⟩, hs.sub ⟨rfl, rfl, rfl, trivial⟩⟩ ?_
        clear hs; rintro p a w ⟨hp, rows, Ls, hTr, hs⟩ K hK
        refine W_seq fun K40 hK40 => ?_
        refine W_seq fun K41 hK41 => ?_
        refine W_region ?_
        refine sy hs (y_move rfl) ?_; clear hs; (try clear a w); intro a w hs
        refine sy hs (y_move rfl) ?_; clear hs; (try clear a w); intro a w hs
        refine sy hs (y_lenR0 hR0 rfl Tryd.underlying47) ?_; clear hs; (try clear a w); intro a w hs
        refine sy hs (y_lss rfl rfl) ?_; clear hs; (try clear a w); intro a w hs
        refine RL_nil ?_
        refine hK41 _ _ ?_; clear hK41
        first | refine W_condP hs rfl (fun hlp => ?_) (fun hlp => ?_) | refine W_cond hs rfl (fun hlp => ?_) (fun hlp => ?_)
        · have hlp' : 2 * p < l.length := by
            have : ((2 * p : Nat) : Int) < ((rw0.length : Nat) : Int) := by simpa using hlp
            omega
          obtain ⟨key, c, hkey, hk1, hk2, hk3, hk4, hk5, hk6⟩ := hmf p hlp'
          obtain ⟨val, hval⟩ : ∃ v, l[2 * p + 1]? = some v := ⟨_, List.getElem?_eq_getElem (by omega)⟩
          obtain ⟨r1, hr1, hrs1⟩ := hW0.get hkey
          obtain rfl : r1 = [.string key] := hrs1
          obtain ⟨r2, hr2, hrs2⟩ := hW0.get hval
          obtain rfl : r2 = [.string val] := hrs2
          refine W_skip ?_
          refine hK40 _ _ ?_; clear hK40
          refine W_seq fun K42 hK42 => ?_
          refine W_block fun Qe43 hB43 hO43 => ?_
          refine D_start hs ([]) [17] [(0, true), (1, true), (2, true), (3, true), (4, true), (5, true), (6, true), (7, true), (8, true), (9, true), (10, true), (11, true), (12, true), (13, true), (14, true), (15, true), (16, true), (17, false)] mixed (by kernel_rfl) ?_; clear hs; (try clear a w); intro a he
          refine dy 0 he rfl (y_move rfl) ?_; clear he; (try clear a); intro a he
          first | (refine dy 1 he rfl (y_nilCheck rfl) ?_; clear he; (try clear a); intro a he) | (refine dy 1 he rfl (y_nilE rfl) ?_; clear he; (try clear a); intro a he)
          first | (refine dy 2 he rfl (y_fieldAddr rfl (FO.of (off := 0) Tryd.underlying127 rfl rfl ti125 (by decide))) ?_; clear he; (try clear a); intro a he) | (refine dy 2 he rfl (y_faE rfl (FO.of (off := 0) Tryd.underlying127 rfl rfl ti125 (by decide))) ?_; clear he; (try clear a); intro a he)
          refine dy 3 he rfl (y_move rfl) ?_; clear he; (try clear a); intro a he
          refine dy 4 he rfl (y_move rfl) ?_; clear he; (try clear a); intro a he
          refine dy 5 he rfl (y_indexAddr (m := 2 * p) hR0 rfl rfl rfl (by omega) Tryd.underlying47 ti9) ?_; clear he; (try clear a); intro a he
          refine dy 6 he rfl (y_loadE (i := 2 * p) (j := 0) (hR0.up (L := _)) rfl hr1 rfl Tryd.underlying9 rfl) ?_; clear he; (try clear a); intro a he
          refine dy 7 he rfl (y_move rfl) ?_; clear he; (try clear a); intro a he
          refine dy 8 he rfl (y_move rfl) ?_; clear he; (try clear a); intro a he
          refine dy 9 he rfl (y_add rfl rfl (wr_i64 (by omega))) ?_; clear he; (try clear a); intro a he
          refine dy 10 he rfl (y_indexAddr (m := 2 * p + 1) hR0 rfl rfl rfl (by omega) Tryd.underlying47 ti9) ?_; clear he; (try clear a); intro a he
          refine dy 11 he rfl (y_loadE (i := 2 * p + 1) (j := 0) (hR0.up (L := _)) rfl hr2 rfl Tryd.underlying9 rfl) ?_; clear he; (try clear a); intro a he
          refine dy 12 he rfl (y_move rfl) ?_; clear he; (try clear a); intro a he
          refine dy 13 he rfl (y_lenR0 hR0 rfl Tryd.underlying47) ?_; clear he; (try clear a); intro a he
          refine dy 14 he rfl (y_move rfl) ?_; clear he; (try clear a); intro a he
          refine dy 15 he rfl (y_sub rfl rfl (wr_i64 (by omega))) ?_; clear he; (try clear a); intro a he
          refine dy 16 he rfl (y_move rfl) ?_; clear he; (try clear a); intro a he
          refine D_eff (i := 17) rfl he ?_; clear he; (try clear a); intro a w hs
          refine RL_call (Lr := [.blk b (.cells (gcA tv T N) 127 (0, 0)), .row tv 122 1 rows]) (Lf := Ls ++ L) hs rfl has59 rfl rfl (add_root (Q := fun n1 LX => NodeAt LX n1 (key.extract 1 key.size) val (rw0.length - (2 * p : Nat))) hk1 hk3 hk4 rfl hk2 gcA_2 gcA_4 (by rw [Nat.mul_one]; exact gcA_get hk5) (hTr.free _ hk6 (fun q hq => hinj q p hq hlp')) (fun n1 => add_rest)) (.free rfl) (by decide) ?_; clear hs; (try clear a w)
          rintro _ _ _ a w _ ⟨rfl, n1, LX, hQ, rfl⟩ hs
          refine dend hs ?_; clear hs; (try clear a w); intro a he
          refine D_nil he ?_; clear he; (try clear a); intro w hs
          refine hK42 _ _ ?_; clear hK42
          refine W_region ?_
          refine sy hs (y_move rfl) ?_; clear hs; (try clear a w); intro a w hs
          refine sy hs (y_add rfl rfl (wr_i64 (by omega))) ?_; clear hs; (try clear a w); intro a w hs
          refine sy hs (y_assign rfl) ?_; clear hs; (try clear a w); intro a w hs
          refine RL_nil ?_
          refine hK (p + 1) _ _ (by omega) ⟨by omega, rows.set (mf p) [.pointer (some ⟨n1, 0, none⟩)], LX ++ Ls, ⟨by simpa using hTr.len, fun m hm hq => ?_, fun q hq => ?_⟩, ?_⟩
          · rw [List.getElem?_set_ne (fun e => hq p (by omega) e)]
            exact hTr.free m hm fun q h => hq q (by omega)
          · by_cases e : q = p
            · subst e
              exact ⟨n1, key, val, hkey, hval, List.getElem?_set_self (by rw [hTr.len]; exact hk6), by rw [← hlen]; exact hQ.mono fun e he => List.mem_append_left _ he⟩
            · obtain ⟨n2, k2, v2, q1, q2, q3, q4⟩ := hTr.node q (by omega)
              exact ⟨n2, k2, v2, q1, q2, by rw [List.getElem?_set_ne (fun e => hinj q p (by omega) hlp' e.symm)]; exact q3, q4.mono fun e he => List.mem_append_right _ he⟩
          · have := hs.sub (E' := [(0, a0), (3, .pointer (some ⟨b, 0, none⟩)), (12, .int .i64 ((2 * (p + 1) : Nat) : Int))]) ⟨rfl, rfl, rfl, trivial⟩
            refine ⟨this.ev, this.cw.perm ?_⟩
            simp only [List.append_assoc, List.cons_append, List.nil_append]
            exact permX LX [_, _] (Ls ++ L)
        · have hpl : p = l.length / 2 := by
            have : ¬ ((2 * p : Nat) : Int) < ((rw0.length : Nat) : Int) := by simpa using hlp
            omega
          refine W_exit ?_
          refine hB39 _ _ ?_
          refine hK37 _ _ ?_; clear hK37
          refine W_seq fun K44 hK44 => ?_
          refine W_region ?_
          refine sy hs (y_move rfl) ?_; clear hs; (try clear a w); intro a w hs
          refine sy hs (y_assign rfl) ?_; clear hs; (try clear a w); intro a w hs
          refine RL_nil ?_
          refine hK44 _ _ ?_; clear hK44
          refine W_ret ?_
          refine Rt_1 hs rfl rfl ?_
          exact ⟨b, tv, rows, Ls, rfl, hpl ▸ hTr, hs.cw⟩
