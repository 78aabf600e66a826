/-
  Walks and laws of this seat; the base is the text Base.
-/
import Derived.Test.YtklcdfnhdljkjaaDoorS7x
import Derived.Test.YtklcdfnhdljkjaaDoorRows
namespace Go.Proofs.YtklcdfnhdljkjaaDoor
open Go.RowKit Go.Sl
/-! The replacer's block: the root's cells, the table's size, the bytes' numbers. -/
def gcA (tv : Value) (T : Int) (M : List Int) : Array Value := ([.string (bs []), .int .i64 0, .string (bs []), .pointer none, tv, .int .i64 T] ++ M.map (fun x => Value.int .u8 x)).toArray
section
variable {tv : Value} {T : Int} {M : List Int}
theorem gcA_get {i : Nat} {x : Int} (h : M[i]? = some x) : (gcA tv T M)[6 + i]? = some (.int .u8 x) := by
  unfold gcA
  rw [List.getElem?_toArray, List.getElem?_append_right (by simp)]
  simp [h]
theorem gcA_set {i : Nat} {x : Int} : (gcA tv T M).setIfInBounds (6 + i) (.int .u8 x) = gcA tv T (M.set i x) := by
  unfold gcA
  rw [List.setIfInBounds_toArray, List.set_append_right _ _ (by simp)]
  simp [List.map_set]
theorem gcA_T {T' : Int} : (gcA tv T M).setIfInBounds 5 (.int .i64 T') = gcA tv T' M := by
  unfold gcA; rw [List.setIfInBounds_toArray]; rfl
theorem gcA_tv {tv' : Value} : (gcA tv T M).setIfInBounds 4 tv' = gcA tv' T M := by
  unfold gcA; rw [List.setIfInBounds_toArray]; rfl
theorem gcA_1 : (gcA tv T M)[1]? = some (.int .i64 0) := rfl
theorem gcA_2 : (gcA tv T M)[2]? = some (.string (bs [])) := rfl
theorem gcA_4 : (gcA tv T M)[4]? = some tv := rfl
theorem gcA_5 : (gcA tv T M)[5]? = some (.int .i64 T) := rfl
theorem gcA_size : (gcA tv T M).size = 6 + M.length := by simp [gcA]; omega
theorem gcA_drop : ((gcA tv T M).toList.drop 6).take 256 = (M.map (fun x => Value.int .u8 x)).take 256 := by unfold gcA; rfl
end
/-- Which bytes stand in texts. -/
def markB (M : List Int) (l : List Int) : List Int := l.foldl (fun M c => M.set c.toNat 1) M
theorem markB_len : ∀ (l : List Int) (M : List Int), (markB M l).length = M.length
  | [], _ => rfl
  | c :: l, M => by unfold markB; rw [List.foldl_cons]; exact (markB_len l _).trans (by simp)
/-- The same of each second text of a list. -/
def markL (l : List ByteArray) : Nat → List Int
  | 0 => List.replicate 256 0
  | k + 1 => markB (markL l k) (bytesIn (l[2 * k]?.getD (bs [])))
theorem markL_len (l : List ByteArray) : ∀ k, (markL l k).length = 256
  | 0 => by rw [markL, List.length_replicate]
  | k + 1 => by rw [markL, markB_len]; exact markL_len l k
/-- How many these are. -/
def sumB (M : List Int) : Nat → Int
  | 0 => 0
  | k + 1 => IntKind.i64.wrap (sumB M k + IntKind.i64.wrap (M[k]?.getD 0))
/-- Their numbers; the others have the number of all. -/
def numB (T : Int) (M : List Int) : Nat → List Int × Int
  | 0 => (M, 0)
  | k + 1 => let s := numB T M k
    if M[k]?.getD 0 = 0 then (s.1.set k (IntKind.u8.wrap T), s.2) else (s.1.set k s.2, IntKind.u8.wrap (s.2 + 1))
theorem numB_len (T : Int) (M : List Int) : ∀ k, (numB T M k).1.length = M.length
  | 0 => rfl
  | k + 1 => by
    unfold numB
    simp only
    split <;> simp [numB_len T M k]
theorem ti127' : TI Tryd.prog 127 262 (match Tryd.prog.info? 127 with | some i => i.bytes | none => 0) (.agg (gcA (.slice none 0 0) 0 (List.replicate 256 0))) := .of (by kernel_rfl)
/-- The texts that Escape hands over, and what is to be known of them. -/
def escL (q : Bool) : List ByteArray := [bs [38], bs [38, 97, 109, 112, 59], bs [60], bs [38, 108, 116, 59], bs [62], bs [38, 103, 116, 59], bs [194, 160], bs [38, 110, 98, 115, 112, 59], bs [13], bs [38, 35, 49, 51, 59]] ++ (if q then [bs [34], bs [38, 113, 117, 111, 116, 59]] else [])
set_option maxRecDepth 100000 in
example : sumB (markL (escL true) 6) 256 = 7 ∧ sumB (markL (escL false) 5) 256 = 6 := by decide +kernel
set_option maxRecDepth 100000 in
example : (numB 7 (markL (escL true) 6) 256).1[38]? = some 2 := by decide +kernel
end Go.Proofs.YtklcdfnhdljkjaaDoor
namespace Go.Proofs.YtklcdfnhdljkjaaDoor
open Go.RowKit Go.Sl
theorem markB_take {l : List Int} {M : List Int} {j : Nat} {c : Int} (h : l[j]? = some c) : markB M (l.take (j + 1)) = (markB M (l.take j)).set c.toNat 1 := by
  obtain ⟨hj, hc⟩ := List.getElem?_eq_some_iff.1 h
  rw [List.take_succ_eq_append_getElem hj, hc]
  unfold markB
  rw [List.foldl_append]; rfl
theorem byte_at {s : ByteArray} {j : Nat} (h : j < s.size) : ∃ c : Nat, c < 256 ∧ getS s (j : Int) = some (c : Int) ∧ (bytesIn s)[j]? = some (c : Int) := by
  have hl : j < s.data.toList.length := by simpa using h
  have e : (bytesIn s)[j]? = some ((s.data.toList[j].toNat : Nat) : Int) := by
    unfold bytesIn
    rw [List.getElem?_map, List.getElem?_eq_getElem hl]; rfl
  refine ⟨s.data.toList[j].toNat, UInt8.toNat_lt _, ?_, e⟩
  unfold getS geti
  rw [if_pos (by omega), Int.toNat_natCast, e]
theorem permX {α : Type} (X G R : List α) : (X ++ (G ++ R)).Perm (G ++ (X ++ R)) := by
  rw [← List.append_assoc, ← List.append_assoc]
  exact List.perm_append_comm.append_right _
/-- How a text stands in the trie, from its second byte on. -/
def NodeAt (Ls : List Ent) (n1 : Nat) (rest val : ByteArray) (pr : Int) : Prop :=
  (rest = bs [] ∧ Ent.blk n1 (.cells (node val pr (bs []) (.pointer none) (.slice none 0 0)) 125 (0, 0)) ∈ Ls) ∨
  (rest ≠ bs [] ∧ ∃ n2, Ent.blk n1 (.cells (node (bs []) 0 rest (.pointer (some ⟨n2, 0, none⟩)) (.slice none 0 0)) 125 (0, 0)) ∈ Ls ∧ Ent.blk n2 (.cells (node val pr (bs []) (.pointer none) (.slice none 0 0)) 125 (0, 0)) ∈ Ls)
theorem NodeAt.mono {Ls Ls' : List Ent} {n1 : Nat} {rest val : ByteArray} {pr : Int} (h : NodeAt Ls n1 rest val pr) (hs : ∀ e ∈ Ls, e ∈ Ls') : NodeAt Ls' n1 rest val pr := by
  rcases h with ⟨h1, h2⟩ | ⟨h1, n2, h2, h3⟩
  · exact .inl ⟨h1, hs _ h2⟩
  · exact .inr ⟨h1, n2, hs _ h2, hs _ h3⟩
theorem add_rest {f : Fz} {gp : Value} {n1 : Nat} {rest val : ByteArray} {pr : Int} : Does Tryd.prog 59 [.pointer (some ⟨n1, 0, none⟩), .string rest, .string val, .int .i64 pr, gp] f [.blk n1 (.cells (node (bs []) 0 (bs []) (.pointer none) (.slice none 0 0)) 125 (0, 0))] (fun _ f' L' => f' = f ∧ NodeAt L' n1 rest val pr) := by
  by_cases h : rest = bs []
  · subst h
    refine Does.mono (add_nil (f := f)) fun _ f' L' ⟨h1, h2⟩ => ⟨h1, .inl ⟨rfl, ?_⟩⟩
    rw [h2]; exact .head _
  · refine Does.mono (add_one (f := f) h) fun _ f' L' ⟨h1, n2, h2⟩ => ⟨h1, .inr ⟨h, n2, ?_, ?_⟩⟩
    · rw [h2]; exact .tail _ (.head _)
    · rw [h2]; exact .head _
/-- The trie behind p texts. -/
structure Tri (l : List ByteArray) (mf : Nat → Nat) (T : Nat) (p : Nat) (rows : List (List Value)) (Ls : List Ent) : Prop where
  len : rows.length = T
  free : ∀ m, m < T → (∀ q, q < p → mf q ≠ m) → rows[m]? = some [.pointer none]
  node : ∀ q, q < p → ∃ n1 key val, l[2 * q]? = some key ∧ l[2 * q + 1]? = some val ∧ rows[mf q]? = some [.pointer (some ⟨n1, 0, none⟩)] ∧ NodeAt Ls n1 (key.extract 1 key.size) val (l.length - (2 * q : Nat))
set_option maxRecDepth 20000 in
set_option maxHeartbeats 8000000 in
theorem mkGen_ok {f : Fz} {a0 : Value} {l : List ByteArray} {w0 w : World} {L : List Ent} (h0 : RS tStr f a0 l) (hl : l.length ≤ 1000) (hsz : ∀ s ∈ l, s.size ≤ 1000000) (hev : l.length % 2 = 0) {mf : Nat → Nat} {T : Nat} {N : List Int} (hT0 : sumB (markL l (l.length / 2)) 256 = (T : Int)) (hT1 : T ≤ 256) (hN0 : (numB T (markL l (l.length / 2)) 256).1 = N)
    (hmf : ∀ p, 2 * p < l.length → ∃ key c, l[2 * p]? = some key ∧ key ≠ bs [] ∧ 1 ≤ key.size ∧ getS key 0 = some ((c : Nat) : Int) ∧ c < 256 ∧ N[c]? = some (mf p : Int) ∧ mf p < T) (hinj : ∀ p q, p < q → 2 * q < l.length → mf p ≠ mf q) (hC : Cw w0 f L w) :
    Calls Tryd.prog 49 [a0].toArray w fun e w' => ∃ b tv rows Ls, e = .returned (.pointer (some ⟨b, 0, none⟩)) ∧ Tri l mf T (l.length / 2) rows Ls ∧ Cw w0 f (.blk b (.cells (gcA tv T N) 127 (0, 0)) :: .row tv 122 1 rows :: (Ls ++ L)) w' := by
  refine enter Tryd.func49 rfl Tryd.ntmps49 (by simp) hC fun a hs => ?_
  obtain ⟨rw0, hR0, hW0⟩ := h0
  have hlen := hW0.len
  refine W_seq fun K1 hK1 => ?_
  refine W_region ?_
  refine sy hs (y_assign rfl) ?_; clear hs; (try clear a w); intro a w hs
  refine RL_nil ?_
  refine hK1 _ _ ?_; clear hK1
  refine W_seq fun K2 hK2 => ?_
  refine W_region ?_
  refine RL_alloc hs ti127' (.free rfl) (by decide) ?_; clear hs; (try clear a w); intro b a w hs
  replace hs : St _ _ _ (.blk b (.cells (gcA (.slice none 0 0) 0 (List.replicate 256 0)) 127 (0, 0)) :: L) _ _ _ := hs
  refine sy hs (y_assign rfl) ?_; clear hs; (try clear a w); intro a w hs
  refine RL_nil ?_
  refine hK2 _ _ ?_; clear hK2
  refine W_seq fun K3 hK3 => ?_
  refine W_seq fun K4 hK4 => ?_
  refine W_region ?_
  refine sy hs (y_assign rfl) ?_; clear hs; (try clear a w); intro a w hs
  refine RL_nil ?_
  refine hK4 _ _ ?_; clear hK4
  refine W_block fun Qe5 hB5 hO5 => ?_
  refine W_loop (fun (k : Nat) a w => 2 * k ≤ l.length ∧ St 117 w0 f (.blk b (.cells (gcA (.slice none 0 0) 0 (markL l k)) 127 (0, 0)) :: L) [(0, a0), (3, .pointer (some ⟨b, 0, none⟩)), (4, .int .i64 ((2 * k : Nat) : Int))] a w) (fun k => l.length - 2 * k) 0 ⟨by omega, hs.sub ⟨rfl, rfl, rfl, trivial⟩⟩ ?_
  clear hs; rintro k a w ⟨hk, hs⟩ K hK
  refine W_seq fun K6 hK6 => ?_
  refine W_seq fun K7 hK7 => ?_
  refine W_region ?_
  refine sy hs (y_move rfl) ?_; clear hs; (try clear a w); intro a w hs
  refine sy hs (y_move rfl) ?_; clear hs; (try clear a w); intro a w hs
  refine sy hs (y_lenR0 hR0 rfl Tryd.underlying47) ?_; clear hs; (try clear a w); intro a w hs
  refine sy hs (y_lss rfl rfl) ?_; clear hs; (try clear a w); intro a w hs
  refine RL_nil ?_
  refine hK7 _ _ ?_; clear hK7
  first | refine W_condP hs rfl (fun hlt => ?_) (fun hlt => ?_) | refine W_cond hs rfl (fun hlt => ?_) (fun hlt => ?_)
  · have hlt' : 2 * k < l.length := by
      have : ((2 * k : Nat) : Int) < ((rw0.length : Nat) : Int) := by simpa using hlt
      omega
    obtain ⟨s, hs0⟩ : ∃ s, l[2 * k]? = some s := ⟨_, List.getElem?_eq_getElem hlt'⟩
    obtain ⟨r, hr, hrs⟩ := hW0.get hs0
    have hss := hsz s (List.mem_of_getElem? hs0)
    obtain rfl : r = [.string s] := hrs
    refine W_skip ?_
    refine hK6 _ _ ?_; clear hK6
    refine W_seq fun K8 hK8 => ?_
    refine W_block fun Qe9 hB9 hO9 => ?_
    refine W_seq fun K10 hK10 => ?_
    refine W_region ?_
    refine sy hs (y_move rfl) ?_; clear hs; (try clear a w); intro a w hs
    refine sy hs (y_move rfl) ?_; clear hs; (try clear a w); intro a w hs
    refine sy hs (y_indexAddr hR0 rfl rfl rfl (by omega) Tryd.underlying47 ti9) ?_; clear hs; (try clear a w); intro a w hs
    refine sy hs (y_loadE (i := 2 * k) (j := 0) (hR0.up (L := _)) rfl hr rfl Tryd.underlying9 rfl) ?_; clear hs; (try clear a w); intro a w hs
    refine sy hs (y_assign rfl) ?_; clear hs; (try clear a w); intro a w hs
    refine RL_nil ?_
    refine hK10 _ _ ?_; clear hK10
    refine W_seq fun K11 hK11 => ?_
    refine W_region ?_
    refine sy hs (y_assign rfl) ?_; clear hs; (try clear a w); intro a w hs
    refine RL_nil ?_
    refine hK11 _ _ ?_; clear hK11
    refine W_block fun Qe12 hB12 hO12 => ?_
    refine W_loop (fun (j : Nat) a w => j ≤ s.size ∧ St 117 w0 f (.blk b (.cells (gcA (.slice none 0 0) 0 (markB (markL l k) ((bytesIn s).take j))) 127 (0, 0)) :: L) [(0, a0), (3, .pointer (some ⟨b, 0, none⟩)), (4, .int .i64 ((2 * k : Nat) : Int)), (5, .string s), (6, .int .i64 (j : Int))] a w) (fun j => s.size - j) 0 ⟨by omega, hs.sub ⟨rfl, rfl, rfl, rfl, rfl, trivial⟩⟩ ?_
    clear hs; rintro j a w ⟨hj, hs⟩ K' hK'
    refine W_seq fun K13 hK13 => ?_
    refine W_seq fun K14 hK14 => ?_
    refine W_region ?_
    refine sy hs (y_move rfl) ?_; clear hs; (try clear a w); intro a w hs
    refine sy hs (y_move rfl) ?_; clear hs; (try clear a w); intro a w hs
    refine sy hs (y_lenS rfl Tryd.underlying9) ?_; clear hs; (try clear a w); intro a w hs
    refine sy hs (y_lss rfl rfl) ?_; clear hs; (try clear a w); intro a w hs
    refine RL_nil ?_
    refine hK14 _ _ ?_; clear hK14
    first | refine W_condP hs rfl (fun hlj => ?_) (fun hlj => ?_) | refine W_cond hs rfl (fun hlj => ?_) (fun hlj => ?_)
    · have hlj' : j < s.size := by
        have : ((j : Nat) : Int) < ((s.size : Nat) : Int) := by simpa using hlj
        omega
      obtain ⟨c, hc, hg, hb⟩ := byte_at hlj'
      refine W_skip ?_
      refine hK13 _ _ ?_; clear hK13
      refine W_seq fun K15 hK15 => ?_
      refine W_block fun Qe16 hB16 hO16 => ?_
      refine D_start hs ([]) [7] [(0, true), (1, true), (2, true), (3, true), (4, true), (5, true), (6, true), (7, false)] mixed (by kernel_rfl) ?_; clear hs; (try clear a w); intro a he
      refine dy 0 he rfl (y_move rfl) ?_; clear he; (try clear a); intro a he
      refine dy 1 he rfl (y_move rfl) ?_; clear he; (try clear a); intro a he
      refine dy 2 he rfl (y_move rfl) ?_; clear he; (try clear a); intro a he
      refine dy 3 he rfl (y_ixW rfl rfl Tryd.underlying9 hg) ?_; clear he; (try clear a); intro a he
      first | (refine dy 4 he rfl (y_nilCheck rfl) ?_; clear he; (try clear a); intro a he) | (refine dy 4 he rfl (y_nilE rfl) ?_; clear he; (try clear a); intro a he)
      first | (refine dy 5 he rfl (y_fieldAddr rfl (FO.of (off := 6) Tryd.underlying127 rfl rfl ti87 (by decide))) ?_; clear he; (try clear a); intro a he) | (refine dy 5 he rfl (y_faE rfl (FO.of (off := 6) Tryd.underlying127 rfl rfl ti87 (by decide))) ?_; clear he; (try clear a); intro a he)
      refine dy 6 he rfl (y_ixArr (j := c) rfl rfl Tryd.underlying87 ti5 rfl hc) ?_; clear he; (try clear a); intro a he
      refine D_eff (i := 7) rfl he ?_; clear he; (try clear a); intro a w hs
      refine RL_storeBlk (i := 0) (o := 6 + c) (u := .int .u8 1) hs rfl (by rw [show 6 + c = 0 + 6 + c * 1 by omega]; rfl) rfl ti5 rfl (by rw [gcA_size, markB_len, markL_len]; omega) gcA_set (.free rfl) ?_; clear hs; (try clear a w); intro a w hs
      refine dend hs ?_; clear hs; (try clear a w); intro a he
      refine D_nil he ?_; clear he; (try clear a); intro w hs
      refine hK15 _ _ ?_; clear hK15
      refine W_region ?_
      refine sy hs (y_move rfl) ?_; clear hs; (try clear a w); intro a w hs
      refine sy hs (y_add rfl rfl (wr_i64 (by omega))) ?_; clear hs; (try clear a w); intro a w hs
      refine sy hs (y_assign rfl) ?_; clear hs; (try clear a w); intro a w hs
      refine RL_nil ?_
      refine hK' (j + 1) _ _ (by omega) ⟨by omega, by rw [markB_take hb, Int.toNat_natCast]; exact hs.sub ⟨rfl, rfl, rfl, rfl, rfl, trivial⟩⟩
    · have hjs : j = s.size := by
        have : ¬ ((j : Nat) : Int) < ((s.size : Nat) : Int) := by simpa using hlj
        omega
      rw [hjs, List.take_of_length_le (by rw [bytesIn_length]; exact Nat.le_refl _)] at hs
      refine W_exit ?_
      refine hB12 _ _ ?_
      refine hK8 _ _ ?_; clear hK8
      refine W_region ?_
      refine sy hs (y_move rfl) ?_; clear hs; (try clear a w); intro a w hs
      refine sy hs (y_add rfl rfl (wr_i64 (by omega))) ?_; clear hs; (try clear a w); intro a w hs
      refine sy hs (y_assign rfl) ?_; clear hs; (try clear a w); intro a w hs
      refine RL_nil ?_
      refine hK (k + 1) _ _ (by omega) ⟨by omega, by
        rw [show markL l (k + 1) = markB (markL l k) (bytesIn s) by rw [markL, hs0, Option.getD_some]]
        exact hs.sub ⟨rfl, rfl, rfl, trivial⟩⟩
  · obtain ⟨M, hM⟩ : ∃ M, M = markL l (l.length / 2) := ⟨_, rfl⟩
    have hML : M.length = 256 := by rw [hM]; exact markL_len _ _
    have hkl : k = l.length / 2 := by
      have : ¬ ((2 * k : Nat) : Int) < ((rw0.length : Nat) : Int) := by simpa using hlt
      omega
    rw [hkl, ← hM] at hs
    clear hK
    refine W_exit ?_
    refine hB5 _ _ ?_
    refine hK3 _ _ ?_; clear hK3
    refine W_seq fun K17 hK17 => ?_
    refine W_seq fun K18 hK18 => ?_
    refine W_region ?_
    refine sy hs (y_move rfl) ?_; clear hs; (try clear a w); intro a w hs
    first | (refine sy hs (y_nilCheck rfl) ?_; clear hs; (try clear a w); intro a w hs) | (refine sy hs (y_nilE rfl) ?_; clear hs; (try clear a w); intro a w hs)
    first | (refine sy hs (y_fieldAddr rfl (FO.of (off := 6) Tryd.underlying127 rfl rfl ti87 (by decide))) ?_; clear hs; (try clear a w); intro a w hs) | (refine sy hs (y_faE rfl (FO.of (off := 6) Tryd.underlying127 rfl rfl ti87 (by decide))) ?_; clear hs; (try clear a w); intro a w hs)
    refine sy hs (y_ldP (cs := M.map fun x => Value.int .u8 x) rfl Tryd.underlying87 rfl ti87 (.head _) (by simp [hML]) (by rw [show (0 + 6) = 6 from rfl, gcA_drop, List.take_of_length_le (by simp [hML])])) ?_; clear hs; (try clear a w); intro a w hs
    refine sy hs (y_move rfl) ?_; clear hs; (try clear a w); intro a w hs
    refine RL_nil ?_
    refine hK18 _ _ ?_; clear hK18
    refine W_block fun Qe19 hB19 hO19 => ?_
    refine W_loop (fun (i : Nat) a w => i ≤ 256 ∧ St 117 w0 f (.blk b (.cells (gcA (.slice none 0 0) (sumB M i) M) 127 (0, 0)) :: L) [(0, a0), (3, .pointer (some ⟨b, 0, none⟩)), (40, .agg (M.map fun x => Value.int .u8 x).toArray), (41, .int .i64 (i : Int))] a w) (fun i => 256 - i) 0 ⟨by omega, hs.sub ⟨rfl, rfl, rfl, rfl, trivial⟩⟩ ?_
    clear hs; rintro i a w ⟨hi, hs⟩ K hK
    refine W_seq fun K20 hK20 => ?_
    refine W_region ?_
    refine sy hs (y_lss rfl rfl) ?_; clear hs; (try clear a w); intro a w hs
    refine RL_nil ?_
    refine hK20 _ _ ?_; clear hK20
    refine W_seq fun K21 hK21 => ?_
    first | refine W_condP hs rfl (fun hi2 => ?_) (fun hi2 => ?_) | refine W_cond hs rfl (fun hi2 => ?_) (fun hi2 => ?_)
    · have hi2' : i < 256 := by
        have : ((i : Nat) : Int) < 256 := by simpa using hi2
        omega
      obtain ⟨x, hx⟩ : ∃ x, M[i]? = some x := ⟨_, List.getElem?_eq_getElem (by omega)⟩
      refine W_skip ?_
      refine hK21 _ _ ?_; clear hK21
      refine W_seq fun K22 hK22 => ?_
      refine W_block fun Qe23 hB23 hO23 => ?_
      refine W_seq fun K24 hK24 => ?_
      refine W_region ?_
      refine sy hs (y_ixAV rfl rfl Tryd.underlying87 Tryd.underlying5 rfl ti5 rfl hi2' (by rw [List.getElem?_toArray, List.getElem?_map, hx]; rfl)) ?_; clear hs; (try clear a w); intro a w hs
      refine sy hs (y_assign rfl) ?_; clear hs; (try clear a w); intro a w hs
      refine RL_nil ?_
      refine hK24 _ _ ?_; clear hK24
      refine W_region ?_
      refine sy hs (y_move rfl) ?_; clear hs; (try clear a w); intro a w hs
      first | (refine sy hs (y_nilCheck rfl) ?_; clear hs; (try clear a w); intro a w hs) | (refine sy hs (y_nilE rfl) ?_; clear hs; (try clear a w); intro a w hs)
      first | (refine sy hs (y_fieldAddr rfl (FO.of (off := 5) Tryd.underlying127 rfl rfl ti3 (by decide))) ?_; clear hs; (try clear a w); intro a w hs) | (refine sy hs (y_faE rfl (FO.of (off := 5) Tryd.underlying127 rfl rfl ti3 (by decide))) ?_; clear hs; (try clear a w); intro a w hs)
      refine sy hs (y_ld rfl Tryd.underlying3 rfl (Cell.blk (.head _) gcA_5)) ?_; clear hs; (try clear a w); intro a w hs
      refine sy hs (y_move rfl) ?_; clear hs; (try clear a w); intro a w hs
      refine sy hs (y_i2i rfl (by rw [Tryd.underlying5]; rfl) Tryd.underlying3 rfl) ?_; clear hs; (try clear a w); intro a w hs
      refine sy hs (y_add rfl rfl rfl) ?_; clear hs; (try clear a w); intro a w hs
      first | (refine sy hs (y_nilCheck rfl) ?_; clear hs; (try clear a w); intro a w hs) | (refine sy hs (y_nilE rfl) ?_; clear hs; (try clear a w); intro a w hs)
      first | (refine sy hs (y_fieldAddr rfl (FO.of (off := 5) Tryd.underlying127 rfl rfl ti3 (by decide))) ?_; clear hs; (try clear a w); intro a w hs) | (refine sy hs (y_faE rfl (FO.of (off := 5) Tryd.underlying127 rfl rfl ti3 (by decide))) ?_; clear hs; (try clear a w); intro a w hs)
      refine RL_storeBlk (i := 0) (o := 5) hs rfl rfl rfl ti3 rfl (by rw [gcA_size]; omega) gcA_T (.free rfl) ?_; clear hs; (try clear a w); intro a w hs
      refine RL_nil ?_
      refine hK22 _ _ ?_; clear hK22
      refine W_region ?_
      refine sy hs (y_add rfl rfl (wr_i64 (by omega))) ?_; clear hs; (try clear a w); intro a w hs
      refine sy hs (y_move rfl) ?_; clear hs; (try clear a w); intro a w hs
      refine RL_nil ?_
      exact hK (i + 1) _ _ (by omega) ⟨by omega, by
        have e : sumB M (i + 1) = IntKind.i64.wrap (sumB M i + IntKind.i64.wrap x) := by rw [sumB, hx, Option.getD_some]
        rw [e]
        exact hs.sub ⟨rfl, rfl, rfl, rfl, trivial⟩⟩
    · have hi3 : i = 256 := by
        have : ¬ ((i : Nat) : Int) < 256 := by simpa using hi2
        omega
      rw [hi3] at hs
      rw [hM, hT0, ← hM] at hs
      clear hK
      refine W_exit ?_
      refine hB19 _ _ ?_
      refine hK17 _ _ ?_; clear hK17
      refine W_seq fun K25 hK25 => ?_
      refine W_region ?_
      refine sy hs (y_assign rfl) ?_; clear hs; (try clear a w); intro a w hs
      refine RL_nil ?_
      refine hK25 _ _ ?_; clear hK25
      refine W_seq fun K26 hK26 => ?_
      refine W_seq fun K27 hK27 => ?_
      refine W_region ?_
      refine sy hs (y_move rfl) ?_; clear hs; (try clear a w); intro a w hs
      first | (refine sy hs (y_nilCheck rfl) ?_; clear hs; (try clear a w); intro a w hs) | (refine sy hs (y_nilE rfl) ?_; clear hs; (try clear a w); intro a w hs)
      first | (refine sy hs (y_fieldAddr rfl (FO.of (off := 6) Tryd.underlying127 rfl rfl ti87 (by decide))) ?_; clear hs; (try clear a w); intro a w hs) | (refine sy hs (y_faE rfl (FO.of (off := 6) Tryd.underlying127 rfl rfl ti87 (by decide))) ?_; clear hs; (try clear a w); intro a w hs)
      refine sy hs (y_ldP (cs := M.map fun x => Value.int .u8 x) rfl Tryd.underlying87 rfl ti87 (.head _) (by simp [hML]) (by rw [show (0 + 6) = 6 from rfl, gcA_drop, List.take_of_length_le (by simp [hML])])) ?_; clear hs; (try clear a w); intro a w hs
      refine sy hs (y_move rfl) ?_; clear hs; (try clear a w); intro a w hs
      refine RL_nil ?_
      refine hK27 _ _ ?_; clear hK27
      refine W_block fun Qe28 hB28 hO28 => ?_
      refine W_loop (fun (i : Nat) a w => i ≤ 256 ∧ St 117 w0 f (.blk b (.cells (gcA (.slice none 0 0) T (numB T M i).1) 127 (0, 0)) :: L) [(0, a0), (3, .pointer (some ⟨b, 0, none⟩)), (9, .int .u8 (numB T M i).2), (57, .agg (M.map fun x => Value.int .u8 x).toArray), (58, .int .i64 (i : Int))] a w) (fun i => 256 - i) 0 ⟨by omega, hs.sub ⟨rfl, rfl, rfl, rfl, rfl, trivial⟩⟩ ?_
      clear hs; rintro i a w ⟨hi, hs⟩ K hK
      refine W_seq fun K29 hK29 => ?_
      refine W_region ?_
      refine sy hs (y_lss rfl rfl) ?_; clear hs; (try clear a w); intro a w hs
      refine RL_nil ?_
      refine hK29 _ _ ?_; clear hK29
      refine W_seq fun K30 hK30 => ?_
      first | refine W_condP hs rfl (fun hj2 => ?_) (fun hj2 => ?_) | refine W_cond hs rfl (fun hj2 => ?_) (fun hj2 => ?_)
      · have hi2' : i < 256 := by
          have : ((i : Nat) : Int) < 256 := by simpa using hj2
          omega
        obtain ⟨x, hx⟩ : ∃ x, M[i]? = some x := ⟨_, List.getElem?_eq_getElem (by omega)⟩
        have hgs : 6 + i < (gcA (.slice none 0 0) T (numB T M i).1).size := by rw [gcA_size, numB_len]; omega
        refine W_skip ?_
        refine hK30 _ _ ?_; clear hK30
        refine W_seq fun K31 hK31 => ?_
        refine W_block fun Qe32 hB32 hO32 => ?_
        refine W_seq fun K33 hK33 => ?_
        refine W_region ?_
        refine sy hs (y_move rfl) ?_; clear hs; (try clear a w); intro a w hs
        refine sy hs (y_ixAV rfl rfl Tryd.underlying87 Tryd.underlying5 rfl ti5 rfl hi2' (by rw [List.getElem?_toArray, List.getElem?_map, hx]; rfl)) ?_; clear hs; (try clear a w); intro a w hs
        refine sy hs (y_assign rfl) ?_; clear hs; (try clear a w); intro a w hs
        refine sy hs (y_assign rfl) ?_; clear hs; (try clear a w); intro a w hs
        refine RL_nil ?_
        refine hK33 _ _ ?_; clear hK33
        refine W_seq fun K34 hK34 => ?_
        refine W_region ?_
        refine sy hs (y_move rfl) ?_; clear hs; (try clear a w); intro a w hs
        refine sy hs (y_eql rfl rfl) ?_; clear hs; (try clear a w); intro a w hs
        refine RL_nil ?_
        refine hK34 _ _ ?_; clear hK34
        first | refine W_condP hs rfl (fun hz => ?_) (fun hz => ?_) | refine W_cond hs rfl (fun hz => ?_) (fun hz => ?_)
        · refine D_start hs ([.blk b (.cells (gcA (.slice none 0 0) T (numB T M i).1) 127 (0, 0))]) [10] [(0, true), (1, true), (2, true), (3, true), (4, true), (5, true), (6, true), (7, true), (8, true), (9, true), (10, false)] mixed (by kernel_rfl) ?_; clear hs; (try clear a w); intro a he
          refine dy 0 he rfl (y_move rfl) ?_; clear he; (try clear a); intro a he
          refine dy 1 he rfl (y_move rfl) ?_; clear he; (try clear a); intro a he
          refine dy 2 he rfl (y_move rfl) ?_; clear he; (try clear a); intro a he
          first | (refine dy 3 he rfl (y_nilCheck rfl) ?_; clear he; (try clear a); intro a he) | (refine dy 3 he rfl (y_nilE rfl) ?_; clear he; (try clear a); intro a he)
          first | (refine dy 4 he rfl (y_fieldAddr rfl (FO.of (off := 5) Tryd.underlying127 rfl rfl ti3 (by decide))) ?_; clear he; (try clear a); intro a he) | (refine dy 4 he rfl (y_faE rfl (FO.of (off := 5) Tryd.underlying127 rfl rfl ti3 (by decide))) ?_; clear he; (try clear a); intro a he)
          refine dy 5 he rfl (y_ld rfl Tryd.underlying3 rfl (Cell.blk (.head _) gcA_5)) ?_; clear he; (try clear a); intro a he
          refine dy 6 he rfl (y_i2i rfl (by rw [Tryd.underlying3]; rfl) Tryd.underlying5 rfl) ?_; clear he; (try clear a); intro a he
          first | (refine dy 7 he rfl (y_nilCheck rfl) ?_; clear he; (try clear a); intro a he) | (refine dy 7 he rfl (y_nilE rfl) ?_; clear he; (try clear a); intro a he)
          first | (refine dy 8 he rfl (y_fieldAddr rfl (FO.of (off := 6) Tryd.underlying127 rfl rfl ti87 (by decide))) ?_; clear he; (try clear a); intro a he) | (refine dy 8 he rfl (y_faE rfl (FO.of (off := 6) Tryd.underlying127 rfl rfl ti87 (by decide))) ?_; clear he; (try clear a); intro a he)
          refine dy 9 he rfl (y_ixArr (j := i) rfl rfl Tryd.underlying87 ti5 rfl hi2') ?_; clear he; (try clear a); intro a he
          refine D_eff (i := 10) rfl he ?_; clear he; (try clear a); intro a w hs
          refine RL_storeBlk (i := 0) (o := 6 + i) hs rfl (by rw [show 6 + i = 0 + 6 + i * 1 by omega]; rfl) rfl ti5 rfl hgs gcA_set (.free rfl) ?_; clear hs; (try clear a w); intro a w hs
          refine dend hs ?_; clear hs; (try clear a w); intro a he
          refine D_nil he ?_; clear he; (try clear a); intro w hs
          refine hK31 _ _ ?_; clear hK31
          refine W_region ?_
          refine sy hs (y_add rfl rfl (wr_i64 (by omega))) ?_; clear hs; (try clear a w); intro a w hs
          refine sy hs (y_move rfl) ?_; clear hs; (try clear a w); intro a w hs
          refine RL_nil ?_
          refine hK (i + 1) _ _ (by omega) ⟨by omega, ?_⟩
          have hx0 : x = 0 := by simpa using hz
          have e : numB T M (i + 1) = ((numB T M i).1.set i (IntKind.u8.wrap T), (numB T M i).2) := by
            rw [numB, hx, Option.getD_some, if_pos hx0]
          rw [e]
          exact hs.sub ⟨rfl, rfl, rfl, rfl, rfl, trivial⟩
        · refine W_seq fun K35 hK35 => ?_
          refine W_region ?_
          refine sy hs (y_move rfl) ?_; clear hs; (try clear a w); intro a w hs
          refine sy hs (y_move rfl) ?_; clear hs; (try clear a w); intro a w hs
          refine sy hs (y_move rfl) ?_; clear hs; (try clear a w); intro a w hs
          first | (refine sy hs (y_nilCheck rfl) ?_; clear hs; (try clear a w); intro a w hs) | (refine sy hs (y_nilE rfl) ?_; clear hs; (try clear a w); intro a w hs)
          first | (refine sy hs (y_fieldAddr rfl (FO.of (off := 6) Tryd.underlying127 rfl rfl ti87 (by decide))) ?_; clear hs; (try clear a w); intro a w hs) | (refine sy hs (y_faE rfl (FO.of (off := 6) Tryd.underlying127 rfl rfl ti87 (by decide))) ?_; clear hs; (try clear a w); intro a w hs)
          refine sy hs (y_ixArr (j := i) rfl rfl Tryd.underlying87 ti5 rfl hi2') ?_; clear hs; (try clear a w); intro a w hs
          refine RL_storeBlk (i := 0) (o := 6 + i) hs rfl (by rw [show 6 + i = 0 + 6 + i * 1 by omega]; rfl) rfl ti5 rfl hgs gcA_set (.free rfl) ?_; clear hs; (try clear a w); intro a w hs
          refine RL_nil ?_
          refine hK35 _ _ ?_; clear hK35
          refine W_region ?_
          refine sy hs (y_move rfl) ?_; clear hs; (try clear a w); intro a w hs
          refine sy hs (y_add rfl rfl rfl) ?_; clear hs; (try clear a w); intro a w hs
          refine sy hs (y_assign rfl) ?_; clear hs; (try clear a w); intro a w hs
          refine RL_nil ?_
          refine hK31 _ _ ?_; clear hK31
          refine W_region ?_
          refine sy hs (y_add rfl rfl (wr_i64 (by omega))) ?_; clear hs; (try clear a w); intro a w hs
          refine sy hs (y_move rfl) ?_; clear hs; (try clear a w); intro a w hs
          refine RL_nil ?_
          refine hK (i + 1) _ _ (by omega) ⟨by omega, ?_⟩
          have hx0 : ¬ x = 0 := by simpa using hz
          have e : numB T M (i + 1) = ((numB T M i).1.set i (numB T M i).2, IntKind.u8.wrap ((numB T M i).2 + 1)) := by
            rw [numB, hx, Option.getD_some, if_neg hx0]
          rw [e]
          exact hs.sub ⟨rfl, rfl, rfl, rfl, rfl, trivial⟩
      · have hi3 : i = 256 := by
          have : ¬ ((i : Nat) : Int) < 256 := by simpa using hj2
          omega
        rw [hi3] at hs
        rw [hM, hN0] at hs
        clear hK
        refine W_exit ?_
        refine hB28 _ _ ?_
        refine hK26 _ _ ?_; clear hK26
        refine W_seq fun K36 hK36 => ?_
        refine W_region ?_
        refine sy hs (y_move rfl) ?_; clear hs; (try clear a w); intro a w hs
        refine sy hs (y_move rfl) ?_; clear hs; (try clear a w); intro a w hs
        first | (refine sy hs (y_nilCheck rfl) ?_; clear hs; (try clear a w); intro a w hs) | (refine sy hs (y_nilE rfl) ?_; clear hs; (try clear a w); intro a w hs)
        first | (refine sy hs (y_fieldAddr rfl (FO.of (off := 5) Tryd.underlying127 rfl rfl ti3 (by decide))) ?_; clear hs; (try clear a w); intro a w hs) | (refine sy hs (y_faE rfl (FO.of (off := 5) Tryd.underlying127 rfl rfl ti3 (by decide))) ?_; clear hs; (try clear a w); intro a w hs)
        refine sy hs (y_ld rfl Tryd.underlying3 rfl (Cell.blk (.head _) gcA_5)) ?_; clear hs; (try clear a w); intro a w hs
        refine RL_make (m := T) hs rfl rfl Tryd.underlying123 ti122 ⟨by decide, rfl⟩ ⟨rfl, by simp [Value.cells, Value.oneCell']⟩ (by omega) ?_; clear hs; (try clear a w); intro tv a w hs
        have htv := hs.one (i := 0) rfl
        replace hs := hs.front 1
        first | (refine sy hs (y_nilCheck rfl) ?_; clear hs; (try clear a w); intro a w hs) | (refine sy hs (y_nilE rfl) ?_; clear hs; (try clear a w); intro a w hs)
        first | (refine sy hs (y_fieldAddr rfl (FO.of (off := 0) Tryd.underlying127 rfl rfl ti125 (by decide))) ?_; clear hs; (try clear a w); intro a w hs) | (refine sy hs (y_faE rfl (FO.of (off := 0) Tryd.underlying127 rfl rfl ti125 (by decide))) ?_; clear hs; (try clear a w); intro a w hs)
        first | (refine sy hs (y_fieldAddr rfl (FO.of (off := 4) Tryd.underlying125 rfl rfl ti123 (by decide))) ?_; clear hs; (try clear a w); intro a w hs) | (refine sy hs (y_faE rfl (FO.of (off := 4) Tryd.underlying125 rfl rfl ti123 (by decide))) ?_; clear hs; (try clear a w); intro a w hs)
        refine RL_storeBlk (i := 0) (o := 4) hs rfl rfl rfl ti123 htv (by rw [gcA_size]; omega) gcA_tv (.free rfl) ?_; clear hs; (try clear a w); intro a w hs
        refine RL_nil ?_
        refine hK36 _ _ ?_; clear hK36
        refine W_seq fun K37 hK37 => ?_
        refine W_seq fun K38 hK38 => ?_
        refine W_region ?_
        refine sy hs (y_assign rfl) ?_; clear hs; (try clear a w); intro a w hs
        refine RL_nil ?_
        refine hK38 _ _ ?_; clear hK38
        refine W_block fun Qe39 hB39 hO39 => ?_
        have hNl : N.length = 256 := by rw [← hN0, numB_len]; exact markL_len _ _
        refine W_loop (fun (p : Nat) a w => 2 * p ≤ l.length ∧ ∃ rows Ls, Tri l mf T p rows Ls ∧ St 117 w0 f (.blk b (.cells (gcA tv T N) 127 (0, 0)) :: .row tv 122 1 rows :: (Ls ++ L)) [(0, a0), (3, .pointer (some ⟨b, 0, none⟩)), (12, .int .i64 ((2 * p : Nat) : Int))] a w) (fun p => l.length - 2 * p) 0
          ⟨by omega, List.replicate T [.pointer none], [], ⟨by simp, fun m hm _ => by rw [List.getElem?_replicate, if_pos hm], fun q hq => absurd hq (by omega)⟩, hs.sub ⟨rfl, rfl, rfl, trivial⟩⟩ ?_
        clear hs; rintro p a w ⟨hp, rows, Ls, hTr, hs⟩ K hK
        refine W_seq fun K40 hK40 => ?_
        refine W_seq fun K41 hK41 => ?_
        refine W_region ?_
        refine sy hs (y_move rfl) ?_; clear hs; (try clear a w); intro a w hs
        refine sy hs (y_move rfl) ?_; clear hs; (try clear a w); intro a w hs
        refine sy hs (y_lenR0 hR0 rfl Tryd.underlying47) ?_; clear hs; (try clear a w); intro a w hs
        refine sy hs (y_lss rfl rfl) ?_; clear hs; (try clear a w); intro a w hs
        refine RL_nil ?_
        refine hK41 _ _ ?_; clear hK41
        first | refine W_condP hs rfl (fun hlp => ?_) (fun hlp => ?_) | refine W_cond hs rfl (fun hlp => ?_) (fun hlp => ?_)
        · have hlp' : 2 * p < l.length := by
            have : ((2 * p : Nat) : Int) < ((rw0.length : Nat) : Int) := by simpa using hlp
            omega
          obtain ⟨key, c, hkey, hk1, hk2, hk3, hk4, hk5, hk6⟩ := hmf p hlp'
          obtain ⟨val, hval⟩ : ∃ v, l[2 * p + 1]? = some v := ⟨_, List.getElem?_eq_getElem (by omega)⟩
          obtain ⟨r1, hr1, hrs1⟩ := hW0.get hkey
          obtain rfl : r1 = [.string key] := hrs1
          obtain ⟨r2, hr2, hrs2⟩ := hW0.get hval
          obtain rfl : r2 = [.string val] := hrs2
          refine W_skip ?_
          refine hK40 _ _ ?_; clear hK40
          refine W_seq fun K42 hK42 => ?_
          refine W_block fun Qe43 hB43 hO43 => ?_
          refine D_start hs ([]) [17] [(0, true), (1, true), (2, true), (3, true), (4, true), (5, true), (6, true), (7, true), (8, true), (9, true), (10, true), (11, true), (12, true), (13, true), (14, true), (15, true), (16, true), (17, false)] mixed (by kernel_rfl) ?_; clear hs; (try clear a w); intro a he
          refine dy 0 he rfl (y_move rfl) ?_; clear he; (try clear a); intro a he
          first | (refine dy 1 he rfl (y_nilCheck rfl) ?_; clear he; (try clear a); intro a he) | (refine dy 1 he rfl (y_nilE rfl) ?_; clear he; (try clear a); intro a he)
          first | (refine dy 2 he rfl (y_fieldAddr rfl (FO.of (off := 0) Tryd.underlying127 rfl rfl ti125 (by decide))) ?_; clear he; (try clear a); intro a he) | (refine dy 2 he rfl (y_faE rfl (FO.of (off := 0) Tryd.underlying127 rfl rfl ti125 (by decide))) ?_; clear he; (try clear a); intro a he)
          refine dy 3 he rfl (y_move rfl) ?_; clear he; (try clear a); intro a he
          refine dy 4 he rfl (y_move rfl) ?_; clear he; (try clear a); intro a he
          refine dy 5 he rfl (y_indexAddr (m := 2 * p) hR0 rfl rfl rfl (by omega) Tryd.underlying47 ti9) ?_; clear he; (try clear a); intro a he
          refine dy 6 he rfl (y_loadE (i := 2 * p) (j := 0) (hR0.up (L := _)) rfl hr1 rfl Tryd.underlying9 rfl) ?_; clear he; (try clear a); intro a he
          refine dy 7 he rfl (y_move rfl) ?_; clear he; (try clear a); intro a he
          refine dy 8 he rfl (y_move rfl) ?_; clear he; (try clear a); intro a he
          refine dy 9 he rfl (y_add rfl rfl (wr_i64 (by omega))) ?_; clear he; (try clear a); intro a he
          refine dy 10 he rfl (y_indexAddr (m := 2 * p + 1) hR0 rfl rfl rfl (by omega) Tryd.underlying47 ti9) ?_; clear he; (try clear a); intro a he
          refine dy 11 he rfl (y_loadE (i := 2 * p + 1) (j := 0) (hR0.up (L := _)) rfl hr2 rfl Tryd.underlying9 rfl) ?_; clear he; (try clear a); intro a he
          refine dy 12 he rfl (y_move rfl) ?_; clear he; (try clear a); intro a he
          refine dy 13 he rfl (y_lenR0 hR0 rfl Tryd.underlying47) ?_; clear he; (try clear a); intro a he
          refine dy 14 he rfl (y_move rfl) ?_; clear he; (try clear a); intro a he
          refine dy 15 he rfl (y_sub rfl rfl (wr_i64 (by omega))) ?_; clear he; (try clear a); intro a he
          refine dy 16 he rfl (y_move rfl) ?_; clear he; (try clear a); intro a he
          refine D_eff (i := 17) rfl he ?_; clear he; (try clear a); intro a w hs
          refine RL_call (Lr := [.blk b (.cells (gcA tv T N) 127 (0, 0)), .row tv 122 1 rows]) (Lf := Ls ++ L) hs rfl has59 rfl rfl (add_root (Q := fun n1 LX => NodeAt LX n1 (key.extract 1 key.size) val (rw0.length - (2 * p : Nat))) hk1 hk3 hk4 rfl hk2 gcA_2 gcA_4 (by rw [Nat.mul_one]; exact gcA_get hk5) (hTr.free _ hk6 (fun q hq => hinj q p hq hlp')) (fun n1 => add_rest)) (.free rfl) (by decide) ?_; clear hs; (try clear a w)
          rintro _ _ _ a w _ ⟨rfl, n1, LX, hQ, rfl⟩ hs
          refine dend hs ?_; clear hs; (try clear a w); intro a he
          refine D_nil he ?_; clear he; (try clear a); intro w hs
          refine hK42 _ _ ?_; clear hK42
          refine W_region ?_
          refine sy hs (y_move rfl) ?_; clear hs; (try clear a w); intro a w hs
          refine sy hs (y_add rfl rfl (wr_i64 (by omega))) ?_; clear hs; (try clear a w); intro a w hs
          refine sy hs (y_assign rfl) ?_; clear hs; (try clear a w); intro a w hs
          refine RL_nil ?_
          refine hK (p + 1) _ _ (by omega) ⟨by omega, rows.set (mf p) [.pointer (some ⟨n1, 0, none⟩)], LX ++ Ls, ⟨by simpa using hTr.len, fun m hm hq => ?_, fun q hq => ?_⟩, ?_⟩
          · rw [List.getElem?_set_ne (fun e => hq p (by omega) e)]
            exact hTr.free m hm fun q h => hq q (by omega)
          · by_cases e : q = p
            · subst e
              exact ⟨n1, key, val, hkey, hval, List.getElem?_set_self (by rw [hTr.len]; exact hk6), by rw [← hlen]; exact hQ.mono fun e he => List.mem_append_left _ he⟩
            · obtain ⟨n2, k2, v2, q1, q2, q3, q4⟩ := hTr.node q (by omega)
              exact ⟨n2, k2, v2, q1, q2, by rw [List.getElem?_set_ne (fun e => hinj q p (by omega) hlp' e.symm)]; exact q3, q4.mono fun e he => List.mem_append_right _ he⟩
          · have := hs.sub (E' := [(0, a0), (3, .pointer (some ⟨b, 0, none⟩)), (12, .int .i64 ((2 * (p + 1) : Nat) : Int))]) ⟨rfl, rfl, rfl, trivial⟩
            refine ⟨this.ev, this.cw.perm ?_⟩
            simp only [List.append_assoc, List.cons_append, List.nil_append]
            exact permX LX [_, _] (Ls ++ L)
        · have hpl : p = l.length / 2 := by
            have : ¬ ((2 * p : Nat) : Int) < ((rw0.length : Nat) : Int) := by simpa using hlp
            omega
          refine W_exit ?_
          refine hB39 _ _ ?_
          refine hK37 _ _ ?_; clear hK37
          refine W_seq fun K44 hK44 => ?_
          refine W_region ?_
          refine sy hs (y_move rfl) ?_; clear hs; (try clear a w); intro a w hs
          refine sy hs (y_assign rfl) ?_; clear hs; (try clear a w); intro a w hs
          refine RL_nil ?_
          refine hK44 _ _ ?_; clear hK44
          refine W_ret ?_
          refine Rt_1 hs rfl rfl ?_
          exact ⟨b, tv, rows, Ls, rfl, hpl ▸ hTr, hs.cw⟩
end Go.Proofs.YtklcdfnhdljkjaaDoor
namespace Go.Proofs.YtklcdfnhdljkjaaDoor
open Go.RowKit Go.Sl
/-- What is known of the texts: the trie's numbers. -/
structure TexOK (l : List ByteArray) (mf : Nat → Nat) (T : Nat) (N : List Int) : Prop where
  len : l.length ≤ 1000
  len8 : 8 ≤ l.length
  sz : ∀ s ∈ l, s.size ≤ 1000000
  ev : l.length % 2 = 0
  T0 : sumB (markL l (l.length / 2)) 256 = (T : Int)
  T1 : T ≤ 256
  N0 : (numB T (markL l (l.length / 2)) 256).1 = N
  nu : ∀ p, 2 * p < l.length → ∃ key c, l[2 * p]? = some key ∧ key ≠ bs [] ∧ 1 ≤ key.size ∧ getS key 0 = some ((c : Nat) : Int) ∧ c < 256 ∧ N[c]? = some (mf p : Int) ∧ mf p < T
  inj : ∀ p q, p < q → 2 * q < l.length → mf p ≠ mf q
  k3 : ∀ k, k < 3 → ∃ key, l[2 * k]? = some key ∧ key.size = 1
  k6 : ∃ key, l[6]? = some key ∧ key.size ≠ 1
set_option maxRecDepth 20000 in
set_option maxHeartbeats 8000000 in
theorem build_ok {f : Fz} {b : Nat} {cs : Array Value} {ov : Value} {l : List ByteArray} {w0 w : World} {L : List Ent} {mf : Nat → Nat} {T : Nat} {N : List Int} (hT : TexOK l mf T N) (h0 : RS tStr f ov l) (h4 : cs[4]? = some ov) (hC : Cw w0 f (.blk b (.cells cs 83 (0, 0)) :: L) w) :
    Calls Tryd.prog 42 [.pointer (some ⟨b, 0, none⟩)].toArray w fun e w' => ∃ g tv rows Ls, e = .returned (.iface 105 (.pointer (some ⟨g, 0, none⟩))) ∧ Tri l mf T (l.length / 2) rows Ls ∧ Cw w0 f (.blk g (.cells (gcA tv T N) 127 (0, 0)) :: .row tv 122 1 rows :: (Ls ++ .blk b (.cells cs 83 (0, 0)) :: L)) w' := by
  refine enter Tryd.func42 rfl Tryd.ntmps42 (by simp) hC fun a hs => ?_
  obtain ⟨rw0, hR0, hW0⟩ := id h0
  have hlen := hW0.len
  have hl8 := hT.len8
  have hl1 := hT.len
  refine W_seq fun K1 hK1 => ?_
  refine W_region ?_
  refine sy hs (y_assign rfl) ?_; clear hs; (try clear a w); intro a w hs
  refine RL_nil ?_
  refine hK1 _ _ ?_; clear hK1
  refine W_seq fun K2 hK2 => ?_
  refine W_region ?_
  refine sy hs (y_move rfl) ?_; clear hs; (try clear a w); intro a w hs
  first | (refine sy hs (y_nilCheck rfl) ?_; clear hs; (try clear a w); intro a w hs) | (refine sy hs (y_nilE rfl) ?_; clear hs; (try clear a w); intro a w hs)
  first | (refine sy hs (y_fieldAddr rfl (FO.of (off := 4) Tryd.underlying83 rfl rfl ti47 (by decide))) ?_; clear hs; (try clear a w); intro a w hs) | (refine sy hs (y_faE rfl (FO.of (off := 4) Tryd.underlying83 rfl rfl ti47 (by decide))) ?_; clear hs; (try clear a w); intro a w hs)
  refine sy hs (y_ld rfl Tryd.underlying47 rfl (Cell.blk (.head _) h4)) ?_; clear hs; (try clear a w); intro a w hs
  refine sy hs (y_assign rfl) ?_; clear hs; (try clear a w); intro a w hs
  refine RL_nil ?_
  refine hK2 _ _ ?_; clear hK2
  refine W_seq fun K3 hK3 => ?_
  refine W_seq fun K4 hK4 => ?_
  refine W_region ?_
  refine sy hs (y_move rfl) ?_; clear hs; (try clear a w); intro a w hs
  refine sy hs (y_lenR0 hR0 rfl Tryd.underlying47) ?_; clear hs; (try clear a w); intro a w hs
  refine sy hs (y_eql rfl rfl) ?_; clear hs; (try clear a w); intro a w hs
  rw [show decide ((rw0.length : Int) = 2) = false from decide_eq_false (by omega)] at hs
  refine sy hs (y_move rfl) ?_; clear hs; (try clear a w); intro a w hs
  refine sno hs ?_; clear hs; (try clear a w); intro a w hs
  refine sno hs ?_; clear hs; (try clear a w); intro a w hs
  refine sno hs ?_; clear hs; (try clear a w); intro a w hs
  refine sno hs ?_; clear hs; (try clear a w); intro a w hs
  refine sno hs ?_; clear hs; (try clear a w); intro a w hs
  refine sy hs (y_pick rfl rfl) ?_; clear hs; (try clear a w); intro a w hs
  refine RL_nil ?_
  refine hK4 _ _ ?_; clear hK4
  refine W_condF hs rfl ?_
  refine W_skip ?_
  refine hK3 _ _ ?_; clear hK3
  refine W_seq fun K5 hK5 => ?_
  refine W_region ?_
  refine sy hs (y_assign rfl) ?_; clear hs; (try clear a w); intro a w hs
  refine RL_nil ?_
  refine hK5 _ _ ?_; clear hK5
  refine W_seq fun K6 hK6 => ?_
  refine W_seq fun K7 hK7 => ?_
  refine W_region ?_
  refine sy hs (y_assign rfl) ?_; clear hs; (try clear a w); intro a w hs
  refine RL_nil ?_
  refine hK7 _ _ ?_; clear hK7
  refine W_block fun Qe8 hB8 hO8 => ?_
  refine W_loop (fun (k : Nat) a w => k ≤ 3 ∧ St 132 w0 f (.blk b (.cells cs 83 (0, 0)) :: L) [(0, .pointer (some ⟨b, 0, none⟩)), (3, ov), (5, .int .i64 ((2 * k : Nat) : Int))] a w) (fun k => 3 - k) 0 ⟨by omega, hs.sub ⟨rfl, rfl, rfl, trivial⟩⟩ ?_
  clear hs; rintro k a w ⟨hk, hs⟩ K hK
  refine W_seq fun K9 hK9 => ?_
  refine W_seq fun K10 hK10 => ?_
  refine W_region ?_
  refine sy hs (y_move rfl) ?_; clear hs; (try clear a w); intro a w hs
  refine sy hs (y_move rfl) ?_; clear hs; (try clear a w); intro a w hs
  refine sy hs (y_lenR0 hR0 rfl Tryd.underlying47) ?_; clear hs; (try clear a w); intro a w hs
  refine sy hs (y_lss rfl rfl) ?_; clear hs; (try clear a w); intro a w hs
  refine RL_nil ?_
  refine hK10 _ _ ?_; clear hK10
  rw [show decide (((2 * k : Nat) : Int) < (rw0.length : Int)) = true from decide_eq_true (by omega)] at hs
  refine W_condT hs rfl ?_
  by_cases hk3 : k < 3
  · obtain ⟨key, hkey, hks⟩ := hT.k3 k hk3
    obtain ⟨val, hval⟩ : ∃ v, l[2 * k + 1]? = some v := ⟨_, List.getElem?_eq_getElem (by omega)⟩
    obtain ⟨r1, hr1, hrs1⟩ := hW0.get hkey
    obtain rfl : r1 = [.string key] := hrs1
    obtain ⟨r2, hr2, hrs2⟩ := hW0.get hval
    obtain rfl : r2 = [.string val] := hrs2
    refine W_skip ?_
    refine hK9 _ _ ?_; clear hK9
    refine W_seq fun K11 hK11 => ?_
    refine W_block fun Qe12 hB12 hO12 => ?_
    refine W_seq fun K13 hK13 => ?_
    refine W_seq fun K14 hK14 => ?_
    refine W_region ?_
    refine sy hs (y_move rfl) ?_; clear hs; (try clear a w); intro a w hs
    refine sy hs (y_move rfl) ?_; clear hs; (try clear a w); intro a w hs
    refine sy hs (y_indexAddr (m := 2 * k) hR0 rfl rfl rfl (by omega) Tryd.underlying47 ti9) ?_; clear hs; (try clear a w); intro a w hs
    refine sy hs (y_loadE (i := 2 * k) (j := 0) (hR0.up (L := _)) rfl hr1 rfl Tryd.underlying9 rfl) ?_; clear hs; (try clear a w); intro a w hs
    refine sy hs (y_lenS rfl Tryd.underlying9) ?_; clear hs; (try clear a w); intro a w hs
    refine sy hs (y_neq rfl rfl) ?_; clear hs; (try clear a w); intro a w hs
    refine RL_nil ?_
    refine hK14 _ _ ?_; clear hK14
    rw [show decide ((key.size : Int) ≠ 1) = false from decide_eq_false (by omega)] at hs
    refine W_condF hs rfl ?_
    refine W_skip ?_
    refine hK13 _ _ ?_; clear hK13
    refine W_seq fun K15 hK15 => ?_
    refine W_region ?_
    refine sy hs (y_move rfl) ?_; clear hs; (try clear a w); intro a w hs
    refine sy hs (y_move rfl) ?_; clear hs; (try clear a w); intro a w hs
    refine sy hs (y_add rfl rfl (wr_i64 (by omega))) ?_; clear hs; (try clear a w); intro a w hs
    refine sy hs (y_indexAddr (m := 2 * k + 1) hR0 rfl rfl rfl (by omega) Tryd.underlying47 ti9) ?_; clear hs; (try clear a w); intro a w hs
    refine sy hs (y_loadE (i := 2 * k + 1) (j := 0) (hR0.up (L := _)) rfl hr2 rfl Tryd.underlying9 rfl) ?_; clear hs; (try clear a w); intro a w hs
    refine sy hs (y_lenS rfl Tryd.underlying9) ?_; clear hs; (try clear a w); intro a w hs
    refine sy hs (y_neq rfl rfl) ?_; clear hs; (try clear a w); intro a w hs
    refine RL_nil ?_
    refine hK15 _ _ ?_; clear hK15
    first | refine W_condP hs rfl (fun hv => ?_) (fun hv => ?_) | refine W_cond hs rfl (fun hv => ?_) (fun hv => ?_)
    · refine W_region ?_
      refine sy hs (y_assign rfl) ?_; clear hs; (try clear a w); intro a w hs
      refine RL_nil ?_
      refine hK11 _ _ ?_; clear hK11
      refine W_region ?_
      refine sy hs (y_move rfl) ?_; clear hs; (try clear a w); intro a w hs
      refine sy hs (y_add rfl rfl (wr_i64 (by omega))) ?_; clear hs; (try clear a w); intro a w hs
      refine sy hs (y_assign rfl) ?_; clear hs; (try clear a w); intro a w hs
      refine RL_nil ?_
      exact hK (k + 1) _ _ (by omega) ⟨by omega, hs.sub ⟨rfl, rfl, rfl, trivial⟩⟩
    · refine W_skip ?_
      refine hK11 _ _ ?_; clear hK11
      refine W_region ?_
      refine sy hs (y_move rfl) ?_; clear hs; (try clear a w); intro a w hs
      refine sy hs (y_add rfl rfl (wr_i64 (by omega))) ?_; clear hs; (try clear a w); intro a w hs
      refine sy hs (y_assign rfl) ?_; clear hs; (try clear a w); intro a w hs
      refine RL_nil ?_
      exact hK (k + 1) _ _ (by omega) ⟨by omega, hs.sub ⟨rfl, rfl, rfl, trivial⟩⟩
  · obtain rfl : k = 3 := by omega
    obtain ⟨key, hkey, hks⟩ := hT.k6
    obtain ⟨r1, hr1, hrs1⟩ := hW0.get hkey
    obtain rfl : r1 = [.string key] := hrs1
    refine W_skip ?_
    refine hK9 _ _ ?_; clear hK9
    refine W_seq fun K16 hK16 => ?_
    refine W_block fun Qe17 hB17 hO17 => ?_
    refine W_seq fun K18 hK18 => ?_
    refine W_seq fun K19 hK19 => ?_
    refine W_region ?_
    refine sy hs (y_move rfl) ?_; clear hs; (try clear a w); intro a w hs
    refine sy hs (y_move rfl) ?_; clear hs; (try clear a w); intro a w hs
    refine sy hs (y_indexAddr (m := 6) hR0 rfl rfl rfl (by omega) Tryd.underlying47 ti9) ?_; clear hs; (try clear a w); intro a w hs
    refine sy hs (y_loadE (i := 6) (j := 0) (hR0.up (L := _)) rfl hr1 rfl Tryd.underlying9 rfl) ?_; clear hs; (try clear a w); intro a w hs
    refine sy hs (y_lenS rfl Tryd.underlying9) ?_; clear hs; (try clear a w); intro a w hs
    refine sy hs (y_neq rfl rfl) ?_; clear hs; (try clear a w); intro a w hs
    refine RL_nil ?_
    refine hK19 _ _ ?_; clear hK19
    rw [show decide ((key.size : Int) ≠ 1) = true from decide_eq_true (by omega)] at hs
    refine W_condT hs rfl ?_
    refine W_seq fun K20 hK20 => ?_
    refine W_region ?_
    refine sy hs (y_move rfl) ?_; clear hs; (try clear a w); intro a w hs
    refine RL_callW (R := fun v f' L' => ∃ g tv rows Ls, v = .pointer (some ⟨g, 0, none⟩) ∧ f' = f ∧ Tri l mf T (l.length / 2) rows Ls ∧ L' = .blk g (.cells (gcA tv T N) 127 (0, 0)) :: .row tv 122 1 rows :: (Ls ++ .blk b (.cells cs 83 (0, 0)) :: L)) hs rfl has49 rfl (fun w hw => (mkGen_ok h0 hT.len hT.sz hT.ev hT.T0 hT.T1 hT.N0 hT.nu hT.inj hw).mono fun e w' ⟨g, tv, rows, Ls, q1, q2, q3⟩ => ⟨_, f, _, q1, .refl _, q3, g, tv, rows, Ls, rfl, rfl, q2, rfl⟩) ?_; clear hs; (try clear a w); rintro _ _ _ a w _ ⟨g, tv, rows, Ls, rfl, rfl, hTr, rfl⟩ hs
    refine sy hs (y_mkIface rfl Tryd.underlying105 rfl) ?_; clear hs; (try clear a w); intro a w hs
    refine sy hs (y_assign rfl) ?_; clear hs; (try clear a w); intro a w hs
    refine RL_nil ?_
    refine hK20 _ _ ?_; clear hK20
    refine W_ret ?_
    refine Rt_1 hs rfl rfl ?_
    exact ⟨g, tv, rows, Ls, rfl, hTr, hs.cw⟩
end Go.Proofs.YtklcdfnhdljkjaaDoor
namespace Go.Proofs.YtklcdfnhdljkjaaDoor
open Go.RowKit Go.Sl
/-- A Replacer's block. -/
abbrev rcA (d s : Int) (r ov : Value) : Array Value := #[.int .u32 d, .int .i32 s, .int .u32 0, r, ov]
def TrieL (l : List ByteArray) (mf : Nat → Nat) (T : Nat) (N : List Int) (g : Nat) (LX : List Ent) : Prop := ∃ tv rows Ls, Tri l mf T (l.length / 2) rows Ls ∧ LX = .blk g (.cells (gcA tv T N) 127 (0, 0)) :: .row tv 122 1 rows :: Ls
set_option maxRecDepth 20000 in
set_option maxHeartbeats 8000000 in
theorem buildOnce_ok {f : Fz} {b : Nat} {ov : Value} {l : List ByteArray} {mf : Nat → Nat} {T : Nat} {N : List Int} (hT : TexOK l mf T N) (h0 : RS tStr f ov l) :
    Does Tryd.prog 35 [.pointer (some ⟨b, 0, none⟩)] f [.blk b (.cells (rcA 0 1 .nilIface ov) 83 (0, 0))] (fun _ f' L' => f' = f ∧ ∃ g LX, TrieL l mf T N g LX ∧ L' = .blk b (.cells (rcA 0 1 (.iface 105 (.pointer (some ⟨g, 0, none⟩))) (.slice none 0 0)) 83 (0, 0)) :: LX) := by
  intro w0 L w hC
  replace hC : Cw w0 f (.blk b (.cells (rcA 0 1 .nilIface ov) 83 (0, 0)) :: L) w := hC
  refine enter Tryd.func35 rfl Tryd.ntmps35 (by simp) hC fun a hs => ?_
  refine W_seq fun K1 hK1 => ?_
  refine W_region ?_
  refine sy hs (y_move rfl) ?_; clear hs; (try clear a w); intro a w hs
  refine sy hs (y_move rfl) ?_; clear hs; (try clear a w); intro a w hs
  refine RL_callW (R := fun v f' L' => ∃ g LX, v = .iface 105 (.pointer (some ⟨g, 0, none⟩)) ∧ f' = f ∧ TrieL l mf T N g LX ∧ L' = LX ++ .blk b (.cells (rcA 0 1 .nilIface ov) 83 (0, 0)) :: L) hs rfl has42 rfl (fun w hw => (build_ok hT h0 (cs := rcA 0 1 .nilIface ov) rfl hw).mono fun e w' ⟨g, tv, rows, Ls, q1, q2, q3⟩ => ⟨_, f, _, q1, .refl _, q3, g, _, rfl, rfl, ⟨tv, rows, Ls, q2, rfl⟩, rfl⟩) ?_; clear hs; (try clear a w); rintro _ _ _ a w _ ⟨g, LX, rfl, rfl, hTr, rfl⟩ hs
  replace hs : St _ _ _ (.blk b (.cells (rcA 0 1 .nilIface ov) 83 (0, 0)) :: (LX ++ L)) _ _ _ := ⟨hs.ev, hs.cw.perm (permX LX [_] L)⟩
  first | (refine sy hs (y_nilCheck rfl) ?_; clear hs; (try clear a w); intro a w hs) | (refine sy hs (y_nilE rfl) ?_; clear hs; (try clear a w); intro a w hs)
  first | (refine sy hs (y_fieldAddr rfl (FO.of (off := 3) Tryd.underlying83 rfl rfl ti81 (by decide))) ?_; clear hs; (try clear a w); intro a w hs) | (refine sy hs (y_faE rfl (FO.of (off := 3) Tryd.underlying83 rfl rfl ti81 (by decide))) ?_; clear hs; (try clear a w); intro a w hs)
  refine RL_storeBlk (i := 0) (o := 3) (u := .iface 105 (.pointer (some ⟨g, 0, none⟩))) hs rfl rfl rfl ti81 rfl (by simp) rfl (.free rfl) ?_; clear hs; (try clear a w); intro a w hs
  replace hs : St _ _ _ (.blk b (.cells (rcA 0 1 (.iface 105 (.pointer (some ⟨g, 0, none⟩))) ov) 83 (0, 0)) :: (LX ++ L)) _ _ _ := hs
  refine RL_nil ?_
  refine hK1 _ _ ?_; clear hK1
  refine W_region ?_
  refine sy hs (y_move rfl) ?_; clear hs; (try clear a w); intro a w hs
  first | (refine sy hs (y_nilCheck rfl) ?_; clear hs; (try clear a w); intro a w hs) | (refine sy hs (y_nilE rfl) ?_; clear hs; (try clear a w); intro a w hs)
  first | (refine sy hs (y_fieldAddr rfl (FO.of (off := 4) Tryd.underlying83 rfl rfl ti47 (by decide))) ?_; clear hs; (try clear a w); intro a w hs) | (refine sy hs (y_faE rfl (FO.of (off := 4) Tryd.underlying83 rfl rfl ti47 (by decide))) ?_; clear hs; (try clear a w); intro a w hs)
  refine RL_storeBlk (i := 0) (o := 4) (u := .slice none 0 0) hs rfl rfl rfl ti47 rfl (by simp) rfl (.free rfl) ?_; clear hs; (try clear a w); intro a w hs
  refine RL_nil ?_
  refine Rt_0 hs rfl ?_
  exact ⟨_, _, .blk b (.cells (rcA 0 1 (.iface 105 (.pointer (some ⟨g, 0, none⟩))) (.slice none 0 0)) 83 (0, 0)) :: LX, rfl, .refl _, hs.cw, rfl, g, LX, hTr, rfl⟩
theorem once_ok {f : Fz} {b : Nat} {ov : Value} {l : List ByteArray} {mf : Nat → Nat} {T : Nat} {N : List Int} (hT : TexOK l mf T N) (h0 : RS tStr f ov l) :
    Does Tryd.prog 34 [.pointer (some ⟨b, 0, none⟩), .func (.func 35) #[.pointer (some ⟨b, 0, none⟩)] #[]] f [.blk b (.cells (rcA 0 0 .nilIface ov) 83 (0, 0))]
      (fun _ f' L' => f' = f ∧ ∃ g LX, TrieL l mf T N g LX ∧ L' = .blk b (.cells (rcA 1 0 (.iface 105 (.pointer (some ⟨g, 0, none⟩))) (.slice none 0 0)) 83 (0, 0)) :: LX) := by
  refine Does.mono (Do_ok (cs := rcA 0 0 .nilIface ov) (Q := fun f' cs2 LX => f' = f ∧ ∃ g, TrieL l mf T N g LX ∧ cs2 = rcA 0 1 (.iface 105 (.pointer (some ⟨g, 0, none⟩))) (.slice none 0 0)) has35 rfl rfl ?_) ?_
  · refine Does.mono (buildOnce_ok hT h0) fun _ f' L' ⟨h1, g, LX, h2, h3⟩ => ⟨_, LX, h3, ⟨_, rfl⟩, rfl, h1, g, h2, rfl⟩
  · rintro _ f' L' ⟨cs2, LX, rfl, h1, g, h2, rfl⟩
    exact ⟨h1, g, LX, h2, rfl⟩
end Go.Proofs.YtklcdfnhdljkjaaDoor
