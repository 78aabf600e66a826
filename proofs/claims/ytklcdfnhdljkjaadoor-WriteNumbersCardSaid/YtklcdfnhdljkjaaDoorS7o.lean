/-
  Walks and laws of this seat; the base is the text Base.
-/
import Derived.Test.YtklcdfnhdljkjaaDoorS7n
import Derived.Test.YtklcdfnhdljkjaaDoorS7j
import Derived.Test.YtklcdfnhdljkjaaDoorRows
namespace Go.Proofs.YtklcdfnhdljkjaaDoor
open Go.RowKit Go.Sl
def u8R (B : List Int) : List (List Value) := B.map fun x => [Value.int .u8 x]
theorem u8R_app (B : List Int) (s : ByteArray) : u8R B ++ ((bytesIn s).map fun x => [Value.int .u8 x]) = u8R (B ++ bytesIn s) := by
  unfold u8R; rw [List.map_append]
theorem u8R_len (B : List Int) : (u8R B).length = B.length := by unfold u8R; rw [List.length_map]
set_option maxRecDepth 20000 in
set_option maxHeartbeats 16000000 in
theorem ws_ok {f : Fz} {LX : List Ent} {g wb : Nat} {q : Bool} {s : ByteArray} {v : Value} (hT : TrieL (escL q) (escM q) (escT q) (escN q) g LX) (hsz : s.size ≤ 1099511627776) :
    Does Tryd.prog 104 [.pointer (some ⟨g, 0, none⟩), .iface 161 (.pointer (some ⟨wb, 0, none⟩)), .string s] f (.blk wb (.cells #[v] 160 (0, 0)) :: .row v 5 1 (u8R []) :: LX) (fun _ f' L' => f' = f ∧ ∃ v', L' = .blk wb (.cells #[v'] 160 (0, 0)) :: .row v' 5 1 (u8R (escA q false (bytesIn s))) :: LX) := by
  intro w0 L w hC
  replace hC : Cw w0 f (.blk wb (.cells #[v] 160 (0, 0)) :: .row v 5 1 (u8R []) :: (LX ++ L)) w := hC
  obtain ⟨tv, rows, Ls, hTr, hLX⟩ := hT
  have hg : Ent.blk g (.cells (gcA tv (escT q) (escN q)) 127 (0, 0)) ∈ LX := by rw [hLX]; exact .head _
  have hrw : Ent.row tv 122 1 rows ∈ LX := by rw [hLX]; exact .tail _ (.head _)
  have hLs : ∀ e ∈ Ls, e ∈ LX := fun e he => by rw [hLX]; exact .tail _ (.tail _ he)
  clear hLX
  have hTE := esc_ok q
  have hT1 := hTE.T1
  have up : ∀ {e : Ent} {x y : Ent}, e ∈ LX → e ∈ x :: y :: (LX ++ L) := fun h => .tail _ (.tail _ (List.mem_append_left _ h))
  refine enter Tryd.func104 rfl Tryd.ntmps104 (by simp) hC fun a hs => ?_
  refine W_seq fun K1 hK1 => ?_
  refine W_region ?_
  refine sy hs (y_assign rfl) ?_; clear hs; (try clear a w); intro a w hs
  refine sy hs (y_assign rfl) ?_; clear hs; (try clear a w); intro a w hs
  refine RL_nil ?_
  refine hK1 _ _ ?_; clear hK1
  refine W_seq fun K2 hK2 => ?_
  refine W_region ?_
  refine sy hs (y_move rfl) ?_; clear hs; (try clear a w); intro a w hs
  refine sy hs (y_call rfl has105 rfl gsw_ok) ?_; clear hs; (try clear a w); intro a w hs
  refine sy hs (y_assign rfl) ?_; clear hs; (try clear a w); intro a w hs
  refine RL_nil ?_
  refine hK2 _ _ ?_; clear hK2
  refine W_seq fun K3 hK3 => ?_
  refine W_region ?_
  refine sy hs (y_assign rfl) ?_; clear hs; (try clear a w); intro a w hs
  refine sy hs (y_assign rfl) ?_; clear hs; (try clear a w); intro a w hs
  refine RL_nil ?_
  refine hK3 _ _ ?_; clear hK3
  refine W_seq fun K4 hK4 => ?_
  refine W_region ?_
  refine sy hs (y_assign rfl) ?_; clear hs; (try clear a w); intro a w hs
  refine RL_nil ?_
  refine hK4 _ _ ?_; clear hK4
  refine W_seq fun K5 hK5 => ?_
  refine W_seq fun K6 hK6 => ?_
  refine W_region ?_
  refine sy hs (y_assign rfl) ?_; clear hs; (try clear a w); intro a w hs
  refine RL_nil ?_
  refine hK6 _ _ ?_; clear hK6
  refine W_block fun Qe7 hB7 hO7 => ?_
  refine W_loop (fun (i : Nat) a w => ∃ last B v n wn, WInv q s i last B ∧ St 131 w0 f (.blk wb (.cells #[v] 160 (0, 0)) :: .row v 5 1 (u8R B) :: (LX ++ L)) [(0, .pointer (some ⟨g, 0, none⟩)), (2, .string s), (6, .int .i64 n), (7, .nilIface), (8, .iface 161 (.pointer (some ⟨wb, 0, none⟩))), (9, .int .i64 ((last : Nat) : Int)), (10, .int .i64 wn), (11, .bool false), (12, .int .i64 (i : Int))] a w) (fun i => s.size + 1 - i) 0 ⟨0, [], v, 0, 0, ⟨Nat.le_refl _, by omega, by omega, by simp⟩, hs.sub ⟨rfl, rfl, rfl, rfl, rfl, rfl, rfl, rfl, rfl, trivial⟩⟩ ?_
  clear hs; rintro i a w ⟨last, B, v, n, wn, hI, hs⟩ K hK
  have hBl := hI.len
  have hla := hI.1
  have hl2 := hI.2.2.1
  refine W_seq fun K8 hK8 => ?_
  refine W_seq fun K9 hK9 => ?_
  refine W_region ?_
  refine sy hs (y_move rfl) ?_; clear hs; (try clear a w); intro a w hs
  refine sy hs (y_move rfl) ?_; clear hs; (try clear a w); intro a w hs
  refine sy hs (y_lenS rfl Tryd.underlying9) ?_; clear hs; (try clear a w); intro a w hs
  refine sy hs (y_leq rfl rfl) ?_; clear hs; (try clear a w); intro a w hs
  refine RL_nil ?_
  refine hK9 _ _ ?_; clear hK9
  first | refine W_condP hs rfl (fun hil => ?_) (fun hil => ?_) | refine W_cond hs rfl (fun hil => ?_) (fun hil => ?_)
  · have hil' : i ≤ s.size := by
      have : ((i : Nat) : Int) ≤ ((s.size : Nat) : Int) := by simpa using hil
      omega
    by_cases hi : i < s.size
    · obtain ⟨c, hc2, hc, hcb⟩ := byte_at hi
      refine W_skip ?_
      refine hK8 _ _ ?_; clear hK8
      refine W_block fun Qe10 hB10 hO10 => ?_
      refine W_seq fun K11 hK11 => ?_
      refine W_seq fun K12 hK12 => ?_
      refine W_region ?_
      refine sy hs (y_move rfl) ?_; clear hs; (try clear a w); intro a w hs
      refine sy hs (y_move rfl) ?_; clear hs; (try clear a w); intro a w hs
      refine sy hs (y_lenS rfl Tryd.underlying9) ?_; clear hs; (try clear a w); intro a w hs
      refine sy hs (y_neq rfl rfl) ?_; clear hs; (try clear a w); intro a w hs
      rw [decide_eq_true (show ((i : Nat) : Int) ≠ ((s.size : Nat) : Int) by omega)] at hs
      refine sy hs (y_move rfl) ?_; clear hs; (try clear a w); intro a w hs
      refine syg hs (y_move rfl) ?_; clear hs; (try clear a w); intro a w hs
      first | (refine syg hs (y_nilCheck rfl) ?_; clear hs; (try clear a w); intro a w hs) | (refine syg hs (y_nilE rfl) ?_; clear hs; (try clear a w); intro a w hs)
      first | (refine syg hs (y_fieldAddr rfl (FO.of (off := 0) Tryd.underlying127 rfl rfl ti125 (by decide))) ?_; clear hs; (try clear a w); intro a w hs) | (refine syg hs (y_faE rfl (FO.of (off := 0) Tryd.underlying127 rfl rfl ti125 (by decide))) ?_; clear hs; (try clear a w); intro a w hs)
      first | (refine syg hs (y_fieldAddr rfl (FO.of (off := 1) Tryd.underlying125 rfl rfl ti3 (by decide))) ?_; clear hs; (try clear a w); intro a w hs) | (refine syg hs (y_faE rfl (FO.of (off := 1) Tryd.underlying125 rfl rfl ti3 (by decide))) ?_; clear hs; (try clear a w); intro a w hs)
      refine syg hs (y_ld rfl Tryd.underlying3 rfl (Cell.blk (up hg) gcA_1)) ?_; clear hs; (try clear a w); intro a w hs
      refine syg hs (y_eql rfl rfl) ?_; clear hs; (try clear a w); intro a w hs
      rw [show decide ((0 : Int) = 0) = true from rfl] at hs
      refine sy hs (y_pick rfl rfl) ?_; clear hs; (try clear a w); intro a w hs
      refine RL_nil ?_
      refine hK12 _ _ ?_; clear hK12
      refine W_condT hs rfl ?_
      by_cases hsp : c ∈ specB q
      · obtain ⟨p, key, val, hH⟩ := hit_of hsp
        obtain ⟨n1, key', val', e1, e2, hr, hA⟩ := hTr.node p (by have := hH.lt; have := hTE.ev; omega)
        obtain rfl := Option.some.inj (hH.kat.symm.trans e1)
        obtain rfl := Option.some.inj (hH.vat.symm.trans e2)
        have hmT := hH.mT
        have hmr : escM q p < rows.length := (List.getElem?_eq_some_iff.1 hr).1
        have hks := hTE.sz key (List.mem_of_getElem? hH.kat)
        have hvs := hTE.sz val (List.mem_of_getElem? hH.vat)
        have hrs : (key.extract 1 key.size).size ≤ 1000000 := by rw [ByteArray.size_extract]; omega
        refine W_seq fun K13 hK13 => ?_
        refine W_draw hs mixed (by kernel_rfl) ?_; intro a he
        refine qy he (y_move rfl) ?_; clear he; (try clear a); intro a he
        refine qy he (y_move rfl) ?_; clear he; (try clear a); intro a he
        refine qy he (y_move rfl) ?_; clear he; (try clear a); intro a he
        refine qy he (y_ixW rfl rfl Tryd.underlying9 hc) ?_; clear he; (try clear a); intro a he
        first | (refine qy he (y_nilCheck rfl) ?_; clear he; (try clear a); intro a he) | (refine qy he (y_nilE rfl) ?_; clear he; (try clear a); intro a he)
        first | (refine qy he (y_fieldAddr rfl (FO.of (off := 6) Tryd.underlying127 rfl rfl ti87 (by decide))) ?_; clear he; (try clear a); intro a he) | (refine qy he (y_faE rfl (FO.of (off := 6) Tryd.underlying127 rfl rfl ti87 (by decide))) ?_; clear he; (try clear a); intro a he)
        refine qy he (y_ixArr (j := c) rfl rfl Tryd.underlying87 ti5 rfl hc2) ?_; clear he; (try clear a); intro a he
        refine qy he (y_ld rfl Tryd.underlying5 rfl (Cell.blk (up hg) (by rw [show 0 + 6 + c * 1 = 6 + c by omega]; exact gcA_get hH.num))) ?_; clear he; (try clear a); intro a he
        refine qy he (y_i2i rfl (by rw [Tryd.underlying5]; rfl) Tryd.underlying3 (wr_i64 (by omega))) ?_; clear he; (try clear a); intro a he
        refine qy he (y_assign rfl) ?_; clear he; (try clear a); intro a he
        refine QL_nil he ?_; clear he hs; intro a w hs
        refine hK13 _ _ ?_; clear hK13
        refine W_seq fun K14 hK14 => ?_
        refine W_region ?_
        refine sy hs (y_move rfl) ?_; clear hs; (try clear a w); intro a w hs
        refine sy hs (y_move rfl) ?_; clear hs; (try clear a w); intro a w hs
        first | (refine sy hs (y_nilCheck rfl) ?_; clear hs; (try clear a w); intro a w hs) | (refine sy hs (y_nilE rfl) ?_; clear hs; (try clear a w); intro a w hs)
        first | (refine sy hs (y_fieldAddr rfl (FO.of (off := 5) Tryd.underlying127 rfl rfl ti3 (by decide))) ?_; clear hs; (try clear a w); intro a w hs) | (refine sy hs (y_faE rfl (FO.of (off := 5) Tryd.underlying127 rfl rfl ti3 (by decide))) ?_; clear hs; (try clear a w); intro a w hs)
        refine sy hs (y_ld rfl Tryd.underlying3 rfl (Cell.blk (up hg) gcA_5)) ?_; clear hs; (try clear a w); intro a w hs
        refine sy hs (y_eql rfl rfl) ?_; clear hs; (try clear a w); intro a w hs
        rw [decide_eq_false (show ¬ (escM q p : Int) = (escT q : Int) by omega)] at hs
        refine sy hs (y_move rfl) ?_; clear hs; (try clear a w); intro a w hs
        refine syg hs (y_move rfl) ?_; clear hs; (try clear a w); intro a w hs
        first | (refine syg hs (y_nilCheck rfl) ?_; clear hs; (try clear a w); intro a w hs) | (refine syg hs (y_nilE rfl) ?_; clear hs; (try clear a w); intro a w hs)
        first | (refine syg hs (y_fieldAddr rfl (FO.of (off := 0) Tryd.underlying127 rfl rfl ti125 (by decide))) ?_; clear hs; (try clear a w); intro a w hs) | (refine syg hs (y_faE rfl (FO.of (off := 0) Tryd.underlying127 rfl rfl ti125 (by decide))) ?_; clear hs; (try clear a w); intro a w hs)
        first | (refine syg hs (y_fieldAddr rfl (FO.of (off := 4) Tryd.underlying125 rfl rfl ti123 (by decide))) ?_; clear hs; (try clear a w); intro a w hs) | (refine syg hs (y_faE rfl (FO.of (off := 4) Tryd.underlying125 rfl rfl ti123 (by decide))) ?_; clear hs; (try clear a w); intro a w hs)
        refine syg hs (y_ld rfl Tryd.underlying123 rfl (Cell.blk (up hg) gcA_4)) ?_; clear hs; (try clear a w); intro a w hs
        refine syg hs (y_move rfl) ?_; clear hs; (try clear a w); intro a w hs
        refine syg hs (y_indexAddr (m := escM q p) (Rd.st hs (up hrw)) rfl rfl rfl hmr Tryd.underlying123 ti122) ?_; clear hs; (try clear a w); intro a w hs
        refine syg hs (y_loadE (i := escM q p) (j := 0) (Rd.st hs (up hrw)) rfl hr rfl Tryd.underlying122 rfl) ?_; clear hs; (try clear a w); intro a w hs
        refine syg hs (y_pnil rfl rfl Tryd.underlying122) ?_; clear hs; (try clear a w); intro a w hs
        refine sy hs (y_pick rfl rfl) ?_; clear hs; (try clear a w); intro a w hs
        refine RL_nil ?_
        refine hK14 _ _ ?_; clear hK14
        refine W_condF hs rfl ?_
        have hlk := lookup_ok (f := f) (s := s.extract i s.size) (c := c) (m := escM q p) (pr := (escL q).length - (2 * p : Nat)) hg hrw (by
          have : (bytesIn (s.extract i s.size))[0]? = some (c : Int) := by
            rw [bytesIn_ext, List.getElem?_take_of_lt (by omega), List.getElem?_drop]; exact hcb
          exact this) hc2 hH.num hmT hT1 hr (hA.mono hLs) (by have := hH.lt; omega) hrs
        unfold lkV at hlk
        refine W_skip ?_
        refine hK11 _ _ ?_; clear hK11
        refine W_seq fun K15 hK15 => ?_
        refine W_region ?_
        refine sy hs (y_move rfl) ?_; clear hs; (try clear a w); intro a w hs
        refine sy hs (y_move rfl) ?_; clear hs; (try clear a w); intro a w hs
        refine sy hs (y_move rfl) ?_; clear hs; (try clear a w); intro a w hs
        refine sy hs (y_sliceSV (lo := i) (hi := s.size) rfl rfl Tryd.underlying9 (.inr ⟨_, rfl, rfl⟩) (.inl ⟨rfl, rfl⟩) hil' (Nat.le_refl _)) ?_; clear hs; (try clear a w); intro a w hs
        by_cases hp : pfx ((s.extract i s.size).extract 1 (s.extract i s.size).size) (key.extract 1 key.size) = true
        · rw [if_pos hp] at hlk
          obtain ⟨hfit, hesc⟩ := hit_step hH hcb hp
          refine sy hs (y_move rfl) ?_; clear hs; (try clear a w); intro a w hs
          refine sy hs (y_callR (cap := []) (Lr := LX) (Lf := .blk wb (.cells #[v] 160 (0, 0)) :: .row v 5 1 (u8R B) :: L) rfl has106 rfl (permX [_, _] LX L) hlk) ?_; clear hs; (try clear a w); intro a w hs
          refine sy hs (y_move rfl) ?_; clear hs; (try clear a w); intro a w hs
          refine sy hs (y_extract rfl rfl) ?_; clear hs; (try clear a w); intro a w hs
          refine sy hs (y_extract rfl rfl) ?_; clear hs; (try clear a w); intro a w hs
          refine sy hs (y_extract rfl rfl) ?_; clear hs; (try clear a w); intro a w hs
          refine sy hs (y_assign rfl) ?_; clear hs; (try clear a w); intro a w hs
          refine sy hs (y_assign rfl) ?_; clear hs; (try clear a w); intro a w hs
          refine sy hs (y_assign rfl) ?_; clear hs; (try clear a w); intro a w hs
          refine RL_nil ?_
          refine hK15 _ _ ?_; clear hK15
          refine W_seq fun K16 hK16 => ?_
          refine W_region ?_
          refine sy hs (y_move rfl) ?_; clear hs; (try clear a w); intro a w hs
          refine sy hs (y_move rfl) ?_; clear hs; (try clear a w); intro a w hs
          refine syg hs (y_move rfl) ?_; clear hs; (try clear a w); intro a w hs
          refine syg hs (y_eql rfl rfl) ?_; clear hs; (try clear a w); intro a w hs
          rw [decide_eq_false (show ¬ (1 + ((key.extract 1 key.size).size : Int) = 0) by omega)] at hs
          refine sy hs (y_pick rfl rfl) ?_; clear hs; (try clear a w); intro a w hs
          refine sy hs (y_assign rfl) ?_; clear hs; (try clear a w); intro a w hs
          refine RL_nil ?_
          refine hK16 _ _ ?_; clear hK16
          refine W_seq fun K17 hK17 => ?_
          refine W_seq fun K18 hK18 => ?_
          refine W_region ?_
          refine sy hs (y_move rfl) ?_; clear hs; (try clear a w); intro a w hs
          refine RL_nil ?_
          refine hK18 _ _ ?_; clear hK18
          refine W_condT hs rfl ?_
          have hb : (u8R B).length + (s.extract last i).size ≤ 140737488355328 := by rw [u8R_len, ByteArray.size_extract]; omega
          refine W_seq fun K19 hK19 => ?_
          refine D_start hs ([]) [] [(0, true), (1, true), (2, true), (3, true), (4, true), (5, true), (6, true), (7, true), (8, false), (9, true), (10, true), (11, true), (12, true), (13, true)] mixed (by kernel_rfl) ?_; clear hs; (try clear a w); intro a he
          refine dy 0 he rfl (y_move rfl) ?_; clear he; (try clear a); intro a he
          refine dy 1 he rfl (y_move rfl) ?_; clear he; (try clear a); intro a he
          refine dy 2 he rfl (y_move rfl) ?_; clear he; (try clear a); intro a he
          refine dy 3 he rfl (y_move rfl) ?_; clear he; (try clear a); intro a he
          refine dy 4 he rfl (y_sliceSV (lo := last) (hi := i) rfl rfl Tryd.underlying9 (.inr ⟨_, rfl, rfl⟩) (.inr ⟨_, rfl, rfl⟩) hla hil') ?_; clear he; (try clear a); intro a he
          refine dy 5 he rfl (y_mkMeth rfl) ?_; clear he; (try clear a); intro a he
          refine dy 6 he rfl (y_nilMeth rfl n219) ?_; clear he; (try clear a); intro a he
          refine dy 7 he rfl (y_move rfl) ?_; clear he; (try clear a); intro a he
          refine D_eff (i := 8) rfl he ?_; clear he; (try clear a); intro a w hs
          refine RL_invoke (Lr := [.blk wb (.cells #[v] 160 (0, 0)), .row v 5 1 (u8R B)]) (Lf := LX ++ L) hs rfl m219 has116 rfl rfl (aws_ok (e := 160) hb) (.free rfl) (by decide) ?_; clear hs; (try clear a w); rintro _ _ _ a w _ ⟨rfl, rfl, v2, rfl⟩ hs
          replace hs : St _ _ _ (.blk wb (.cells #[v2] 160 (0, 0)) :: .row v2 5 1 (u8R B ++ ((bytesIn (s.extract last i)).map fun x => [Value.int .u8 x])) :: (LX ++ L)) _ _ _ := hs
          rw [u8R_app] at hs
          refine don hs ?_; clear hs; (try clear a w); intro a he
          refine dy 9 he rfl (y_move rfl) ?_; clear he; (try clear a); intro a he
          refine dy 10 he rfl (y_extract rfl rfl) ?_; clear he; (try clear a); intro a he
          refine dy 11 he rfl (y_extract rfl rfl) ?_; clear he; (try clear a); intro a he
          refine dy 12 he rfl (y_assign rfl) ?_; clear he; (try clear a); intro a he
          refine dy 13 he rfl (y_assign rfl) ?_; clear he; (try clear a); intro a he
          refine D_nil he ?_; clear he; (try clear a); intro w hs
          refine hK19 _ _ ?_; clear hK19
          refine W_seq fun K20 hK20 => ?_
          refine W_region ?_
          refine sy hs (y_move rfl) ?_; clear hs; (try clear a w); intro a w hs
          refine sy hs (y_move rfl) ?_; clear hs; (try clear a w); intro a w hs
          refine sy hs (y_add rfl rfl rfl) ?_; clear hs; (try clear a w); intro a w hs
          refine sy hs (y_assign rfl) ?_; clear hs; (try clear a w); intro a w hs
          refine RL_nil ?_
          refine hK20 _ _ ?_; clear hK20
          refine W_seq fun K21 hK21 => ?_
          refine W_seq fun K22 hK22 => ?_
          refine W_region ?_
          refine sy hs (y_move rfl) ?_; clear hs; (try clear a w); intro a w hs
          refine sy hs (y_ifNil rfl Tryd.underlying58) ?_; clear hs; (try clear a w); intro a w hs
          refine RL_nil ?_
          refine hK22 _ _ ?_; clear hK22
          refine W_condF hs rfl ?_
          clear hb
          have hb : (u8R (B ++ bytesIn (s.extract last i))).length + val.size ≤ 140737488355328 := by rw [u8R_len, List.length_append, bytesIn_length, ByteArray.size_extract]; omega
          refine W_skip ?_
          refine hK21 _ _ ?_; clear hK21
          refine W_seq fun K23 hK23 => ?_
          refine W_region ?_
          refine sy hs (y_move rfl) ?_; clear hs; (try clear a w); intro a w hs
          refine sy hs (y_move rfl) ?_; clear hs; (try clear a w); intro a w hs
          refine RL_invoke (Lr := [.blk wb (.cells #[v2] 160 (0, 0)), .row v2 5 1 (u8R (B ++ bytesIn (s.extract last i)))]) (Lf := LX ++ L) hs rfl m219 has116 rfl rfl (aws_ok (e := 160) hb) (.free rfl) (by decide) ?_; clear hs; (try clear a w); rintro _ _ _ a w _ ⟨rfl, rfl, v3, rfl⟩ hs
          replace hs : St _ _ _ (.blk wb (.cells #[v3] 160 (0, 0)) :: .row v3 5 1 (u8R (B ++ bytesIn (s.extract last i)) ++ ((bytesIn (val)).map fun x => [Value.int .u8 x])) :: (LX ++ L)) _ _ _ := hs
          rw [u8R_app] at hs
          refine sy hs (y_move rfl) ?_; clear hs; (try clear a w); intro a w hs
          refine sy hs (y_extract rfl rfl) ?_; clear hs; (try clear a w); intro a w hs
          refine sy hs (y_extract rfl rfl) ?_; clear hs; (try clear a w); intro a w hs
          refine sy hs (y_assign rfl) ?_; clear hs; (try clear a w); intro a w hs
          refine sy hs (y_assign rfl) ?_; clear hs; (try clear a w); intro a w hs
          refine RL_nil ?_
          refine hK23 _ _ ?_; clear hK23
          refine W_seq fun K24 hK24 => ?_
          refine W_region ?_
          refine sy hs (y_move rfl) ?_; clear hs; (try clear a w); intro a w hs
          refine sy hs (y_move rfl) ?_; clear hs; (try clear a w); intro a w hs
          refine sy hs (y_add rfl rfl rfl) ?_; clear hs; (try clear a w); intro a w hs
          refine sy hs (y_assign rfl) ?_; clear hs; (try clear a w); intro a w hs
          refine RL_nil ?_
          refine hK24 _ _ ?_; clear hK24
          refine W_seq fun K25 hK25 => ?_
          refine W_seq fun K26 hK26 => ?_
          refine W_region ?_
          refine sy hs (y_move rfl) ?_; clear hs; (try clear a w); intro a w hs
          refine sy hs (y_ifNil rfl Tryd.underlying58) ?_; clear hs; (try clear a w); intro a w hs
          refine RL_nil ?_
          refine hK26 _ _ ?_; clear hK26
          refine W_condF hs rfl ?_
          refine W_skip ?_
          refine hK25 _ _ ?_; clear hK25
          refine W_seq fun K27 hK27 => ?_
          refine W_region ?_
          refine sy hs (y_move rfl) ?_; clear hs; (try clear a w); intro a w hs
          refine sy hs (y_move rfl) ?_; clear hs; (try clear a w); intro a w hs
          refine sy hs (y_add rfl rfl (wr_i64 (by omega))) ?_; clear hs; (try clear a w); intro a w hs
          refine sy hs (y_assign rfl) ?_; clear hs; (try clear a w); intro a w hs
          refine RL_nil ?_
          refine hK27 _ _ ?_; clear hK27
          refine W_seq fun K28 hK28 => ?_
          refine W_region ?_
          refine sy hs (y_move rfl) ?_; clear hs; (try clear a w); intro a w hs
          refine sy hs (y_assign rfl) ?_; clear hs; (try clear a w); intro a w hs
          refine RL_nil ?_
          refine hK28 _ _ ?_; clear hK28
          refine W_exit ?_
          refine hB10 _ _ ?_
          exact hK (i + (1 + (key.extract 1 key.size).size)) _ _ (by omega) ⟨_, _, v3, _, _, hI.hit hfit hesc, hs.sub ⟨rfl, rfl, rfl, rfl, rfl, rfl, rfl, rfl, rfl, trivial⟩⟩
        · rw [if_neg hp] at hlk
          have hms := miss_step hH hcb (by simpa using hp)
          refine sy hs (y_move rfl) ?_; clear hs; (try clear a w); intro a w hs
          refine sy hs (y_callR (cap := []) (Lr := LX) (Lf := .blk wb (.cells #[v] 160 (0, 0)) :: .row v 5 1 (u8R B) :: L) rfl has106 rfl (permX [_, _] LX L) hlk) ?_; clear hs; (try clear a w); intro a w hs
          refine sy hs (y_move rfl) ?_; clear hs; (try clear a w); intro a w hs
          refine sy hs (y_extract rfl rfl) ?_; clear hs; (try clear a w); intro a w hs
          refine sy hs (y_extract rfl rfl) ?_; clear hs; (try clear a w); intro a w hs
          refine sy hs (y_extract rfl rfl) ?_; clear hs; (try clear a w); intro a w hs
          refine sy hs (y_assign rfl) ?_; clear hs; (try clear a w); intro a w hs
          refine sy hs (y_assign rfl) ?_; clear hs; (try clear a w); intro a w hs
          refine sy hs (y_assign rfl) ?_; clear hs; (try clear a w); intro a w hs
          refine RL_nil ?_
          refine hK15 _ _ ?_; clear hK15
          refine W_seq fun K29 hK29 => ?_
          refine W_region ?_
          refine sy hs (y_move rfl) ?_; clear hs; (try clear a w); intro a w hs
          refine sy hs (y_move rfl) ?_; clear hs; (try clear a w); intro a w hs
          refine sno hs ?_; clear hs; (try clear a w); intro a w hs
          refine sno hs ?_; clear hs; (try clear a w); intro a w hs
          refine sy hs (y_pick rfl rfl) ?_; clear hs; (try clear a w); intro a w hs
          refine sy hs (y_assign rfl) ?_; clear hs; (try clear a w); intro a w hs
          refine RL_nil ?_
          refine hK29 _ _ ?_; clear hK29
          refine W_seq fun K30 hK30 => ?_
          refine W_seq fun K31 hK31 => ?_
          refine W_region ?_
          refine sy hs (y_move rfl) ?_; clear hs; (try clear a w); intro a w hs
          refine RL_nil ?_
          refine hK31 _ _ ?_; clear hK31
          refine W_condF hs rfl ?_
          refine W_skip ?_
          refine hK30 _ _ ?_; clear hK30
          refine W_region ?_
          refine sy hs (y_move rfl) ?_; clear hs; (try clear a w); intro a w hs
          refine sy hs (y_add rfl rfl (wr_i64 (by omega))) ?_; clear hs; (try clear a w); intro a w hs
          refine sy hs (y_assign rfl) ?_; clear hs; (try clear a w); intro a w hs
          refine RL_nil ?_
          exact hK (i + 1) _ _ (by omega) ⟨_, _, v, _, _, hI.step hcb hms, hs.sub ⟨rfl, rfl, rfl, rfl, rfl, rfl, rfl, rfl, rfl, trivial⟩⟩
      · obtain ⟨m, hm, hmo⟩ := fast_ok ((fast_all q c hc2).resolve_left hsp)
        have hmT : m ≤ escT q := by rcases hmo with h | h <;> omega
        refine W_seq fun K32 hK32 => ?_
        refine W_draw hs mixed (by kernel_rfl) ?_; intro a he
        refine qy he (y_move rfl) ?_; clear he; (try clear a); intro a he
        refine qy he (y_move rfl) ?_; clear he; (try clear a); intro a he
        refine qy he (y_move rfl) ?_; clear he; (try clear a); intro a he
        refine qy he (y_ixW rfl rfl Tryd.underlying9 hc) ?_; clear he; (try clear a); intro a he
        first | (refine qy he (y_nilCheck rfl) ?_; clear he; (try clear a); intro a he) | (refine qy he (y_nilE rfl) ?_; clear he; (try clear a); intro a he)
        first | (refine qy he (y_fieldAddr rfl (FO.of (off := 6) Tryd.underlying127 rfl rfl ti87 (by decide))) ?_; clear he; (try clear a); intro a he) | (refine qy he (y_faE rfl (FO.of (off := 6) Tryd.underlying127 rfl rfl ti87 (by decide))) ?_; clear he; (try clear a); intro a he)
        refine qy he (y_ixArr (j := c) rfl rfl Tryd.underlying87 ti5 rfl hc2) ?_; clear he; (try clear a); intro a he
        refine qy he (y_ld rfl Tryd.underlying5 rfl (Cell.blk (up hg) (by rw [show 0 + 6 + c * 1 = 6 + c by omega]; exact gcA_get hm))) ?_; clear he; (try clear a); intro a he
        refine qy he (y_i2i rfl (by rw [Tryd.underlying5]; rfl) Tryd.underlying3 (wr_i64 (by omega))) ?_; clear he; (try clear a); intro a he
        refine qy he (y_assign rfl) ?_; clear he; (try clear a); intro a he
        refine QL_nil he ?_; clear he hs; intro a w hs
        refine hK32 _ _ ?_; clear hK32
        refine W_seq fun K33 hK33 => ?_
        refine W_region ?_
        refine sy hs (y_move rfl) ?_; clear hs; (try clear a w); intro a w hs
        refine sy hs (y_move rfl) ?_; clear hs; (try clear a w); intro a w hs
        first | (refine sy hs (y_nilCheck rfl) ?_; clear hs; (try clear a w); intro a w hs) | (refine sy hs (y_nilE rfl) ?_; clear hs; (try clear a w); intro a w hs)
        first | (refine sy hs (y_fieldAddr rfl (FO.of (off := 5) Tryd.underlying127 rfl rfl ti3 (by decide))) ?_; clear hs; (try clear a w); intro a w hs) | (refine sy hs (y_faE rfl (FO.of (off := 5) Tryd.underlying127 rfl rfl ti3 (by decide))) ?_; clear hs; (try clear a w); intro a w hs)
        refine sy hs (y_ld rfl Tryd.underlying3 rfl (Cell.blk (up hg) gcA_5)) ?_; clear hs; (try clear a w); intro a w hs
        refine sy hs (y_eql rfl rfl) ?_; clear hs; (try clear a w); intro a w hs
        by_cases hmT2 : m = escT q
        · rw [decide_eq_true (show (m : Int) = (escT q : Int) by omega)] at hs
          refine sy hs (y_move rfl) ?_; clear hs; (try clear a w); intro a w hs
          refine sno hs ?_; clear hs; (try clear a w); intro a w hs
          refine sno hs ?_; clear hs; (try clear a w); intro a w hs
          refine sno hs ?_; clear hs; (try clear a w); intro a w hs
          refine sno hs ?_; clear hs; (try clear a w); intro a w hs
          refine sno hs ?_; clear hs; (try clear a w); intro a w hs
          refine sno hs ?_; clear hs; (try clear a w); intro a w hs
          refine sno hs ?_; clear hs; (try clear a w); intro a w hs
          refine sno hs ?_; clear hs; (try clear a w); intro a w hs
          refine sno hs ?_; clear hs; (try clear a w); intro a w hs
          refine sy hs (y_pick rfl rfl) ?_; clear hs; (try clear a w); intro a w hs
          refine RL_nil ?_
          refine hK33 _ _ ?_; clear hK33
          refine W_condT hs rfl ?_
          refine W_seq fun K34 hK34 => ?_
          refine W_region ?_
          refine sy hs (y_move rfl) ?_; clear hs; (try clear a w); intro a w hs
          refine sy hs (y_add rfl rfl (wr_i64 (by omega))) ?_; clear hs; (try clear a w); intro a w hs
          refine sy hs (y_assign rfl) ?_; clear hs; (try clear a w); intro a w hs
          refine RL_nil ?_
          refine hK34 _ _ ?_; clear hK34
          refine W_exit ?_
          refine hB10 _ _ ?_
          exact hK (i + 1) _ _ (by omega) ⟨_, _, v, _, _, hI.step hcb (fast_step hcb hsp), hs.sub ⟨rfl, rfl, rfl, rfl, rfl, rfl, rfl, rfl, rfl, trivial⟩⟩
        · rw [decide_eq_false (show ¬ (m : Int) = (escT q : Int) by omega)] at hs
          have hr : rows[m]? = some [.pointer none] := hTr.free m (by omega) ((hmo.resolve_left hmT2).2)
          have hmr : m < rows.length := (List.getElem?_eq_some_iff.1 hr).1
          refine sy hs (y_move rfl) ?_; clear hs; (try clear a w); intro a w hs
          refine syg hs (y_move rfl) ?_; clear hs; (try clear a w); intro a w hs
          first | (refine syg hs (y_nilCheck rfl) ?_; clear hs; (try clear a w); intro a w hs) | (refine syg hs (y_nilE rfl) ?_; clear hs; (try clear a w); intro a w hs)
          first | (refine syg hs (y_fieldAddr rfl (FO.of (off := 0) Tryd.underlying127 rfl rfl ti125 (by decide))) ?_; clear hs; (try clear a w); intro a w hs) | (refine syg hs (y_faE rfl (FO.of (off := 0) Tryd.underlying127 rfl rfl ti125 (by decide))) ?_; clear hs; (try clear a w); intro a w hs)
          first | (refine syg hs (y_fieldAddr rfl (FO.of (off := 4) Tryd.underlying125 rfl rfl ti123 (by decide))) ?_; clear hs; (try clear a w); intro a w hs) | (refine syg hs (y_faE rfl (FO.of (off := 4) Tryd.underlying125 rfl rfl ti123 (by decide))) ?_; clear hs; (try clear a w); intro a w hs)
          refine syg hs (y_ld rfl Tryd.underlying123 rfl (Cell.blk (up hg) gcA_4)) ?_; clear hs; (try clear a w); intro a w hs
          refine syg hs (y_move rfl) ?_; clear hs; (try clear a w); intro a w hs
          refine syg hs (y_indexAddr (m := m) (Rd.st hs (up hrw)) rfl rfl rfl hmr Tryd.underlying123 ti122) ?_; clear hs; (try clear a w); intro a w hs
          refine syg hs (y_loadE (i := m) (j := 0) (Rd.st hs (up hrw)) rfl hr rfl Tryd.underlying122 rfl) ?_; clear hs; (try clear a w); intro a w hs
          refine syg hs (y_pnn rfl rfl Tryd.underlying122) ?_; clear hs; (try clear a w); intro a w hs
          refine sy hs (y_pick rfl rfl) ?_; clear hs; (try clear a w); intro a w hs
          refine RL_nil ?_
          refine hK33 _ _ ?_; clear hK33
          refine W_condT hs rfl ?_
          refine W_seq fun K35 hK35 => ?_
          refine W_region ?_
          refine sy hs (y_move rfl) ?_; clear hs; (try clear a w); intro a w hs
          refine sy hs (y_add rfl rfl (wr_i64 (by omega))) ?_; clear hs; (try clear a w); intro a w hs
          refine sy hs (y_assign rfl) ?_; clear hs; (try clear a w); intro a w hs
          refine RL_nil ?_
          refine hK35 _ _ ?_; clear hK35
          refine W_exit ?_
          refine hB10 _ _ ?_
          exact hK (i + 1) _ _ (by omega) ⟨_, _, v, _, _, hI.step hcb (fast_step hcb hsp), hs.sub ⟨rfl, rfl, rfl, rfl, rfl, rfl, rfl, rfl, rfl, trivial⟩⟩
    · obtain rfl : i = s.size := by omega
      have hee : s.extract s.size s.size = bs [] := by
        apply ByteArray.ext
        simp
      refine W_skip ?_
      refine hK8 _ _ ?_; clear hK8
      refine W_block fun Qe36 hB36 hO36 => ?_
      refine W_seq fun K37 hK37 => ?_
      refine W_seq fun K38 hK38 => ?_
      refine W_region ?_
      refine sy hs (y_move rfl) ?_; clear hs; (try clear a w); intro a w hs
      refine sy hs (y_move rfl) ?_; clear hs; (try clear a w); intro a w hs
      refine sy hs (y_lenS rfl Tryd.underlying9) ?_; clear hs; (try clear a w); intro a w hs
      refine sy hs (y_neq rfl rfl) ?_; clear hs; (try clear a w); intro a w hs
      rw [decide_eq_false (show ¬ ((s.size : Nat) : Int) ≠ ((s.size : Nat) : Int) from fun h => h rfl)] at hs
      refine sy hs (y_move rfl) ?_; clear hs; (try clear a w); intro a w hs
      refine sno hs ?_; clear hs; (try clear a w); intro a w hs
      refine sno hs ?_; clear hs; (try clear a w); intro a w hs
      refine sno hs ?_; clear hs; (try clear a w); intro a w hs
      refine sno hs ?_; clear hs; (try clear a w); intro a w hs
      refine sno hs ?_; clear hs; (try clear a w); intro a w hs
      refine sno hs ?_; clear hs; (try clear a w); intro a w hs
      refine sy hs (y_pick rfl rfl) ?_; clear hs; (try clear a w); intro a w hs
      refine RL_nil ?_
      refine hK38 _ _ ?_; clear hK38
      refine W_condF hs rfl ?_
      refine W_skip ?_
      refine hK37 _ _ ?_; clear hK37
      refine W_seq fun K39 hK39 => ?_
      refine W_region ?_
      refine sy hs (y_move rfl) ?_; clear hs; (try clear a w); intro a w hs
      refine sy hs (y_move rfl) ?_; clear hs; (try clear a w); intro a w hs
      refine sy hs (y_move rfl) ?_; clear hs; (try clear a w); intro a w hs
      refine sy hs (y_sliceSV (lo := s.size) (hi := s.size) hee rfl Tryd.underlying9 (.inr ⟨_, rfl, rfl⟩) (.inl ⟨rfl, rfl⟩) (Nat.le_refl _) (Nat.le_refl _)) ?_; clear hs; (try clear a w); intro a w hs
      refine sy hs (y_move rfl) ?_; clear hs; (try clear a w); intro a w hs
      refine sy hs (y_callR (cap := []) (Lr := LX) (Lf := .blk wb (.cells #[v] 160 (0, 0)) :: .row v 5 1 (u8R B) :: L) rfl has106 rfl (permX [_, _] LX L) (lookup_end hg)) ?_; clear hs; (try clear a w); intro a w hs
      refine sy hs (y_move rfl) ?_; clear hs; (try clear a w); intro a w hs
      refine sy hs (y_extract rfl rfl) ?_; clear hs; (try clear a w); intro a w hs
      refine sy hs (y_extract rfl rfl) ?_; clear hs; (try clear a w); intro a w hs
      refine sy hs (y_extract rfl rfl) ?_; clear hs; (try clear a w); intro a w hs
      refine sy hs (y_assign rfl) ?_; clear hs; (try clear a w); intro a w hs
      refine sy hs (y_assign rfl) ?_; clear hs; (try clear a w); intro a w hs
      refine sy hs (y_assign rfl) ?_; clear hs; (try clear a w); intro a w hs
      refine RL_nil ?_
      refine hK39 _ _ ?_; clear hK39
      refine W_seq fun K40 hK40 => ?_
      refine W_region ?_
      refine sy hs (y_move rfl) ?_; clear hs; (try clear a w); intro a w hs
      refine sy hs (y_move rfl) ?_; clear hs; (try clear a w); intro a w hs
      refine sno hs ?_; clear hs; (try clear a w); intro a w hs
      refine sno hs ?_; clear hs; (try clear a w); intro a w hs
      refine sy hs (y_pick rfl rfl) ?_; clear hs; (try clear a w); intro a w hs
      refine sy hs (y_assign rfl) ?_; clear hs; (try clear a w); intro a w hs
      refine RL_nil ?_
      refine hK40 _ _ ?_; clear hK40
      refine W_seq fun K41 hK41 => ?_
      refine W_seq fun K42 hK42 => ?_
      refine W_region ?_
      refine sy hs (y_move rfl) ?_; clear hs; (try clear a w); intro a w hs
      refine RL_nil ?_
      refine hK42 _ _ ?_; clear hK42
      refine W_condF hs rfl ?_
      refine W_skip ?_
      refine hK41 _ _ ?_; clear hK41
      refine W_region ?_
      refine sy hs (y_move rfl) ?_; clear hs; (try clear a w); intro a w hs
      refine sy hs (y_add rfl rfl (wr_i64 (by omega))) ?_; clear hs; (try clear a w); intro a w hs
      refine sy hs (y_assign rfl) ?_; clear hs; (try clear a w); intro a w hs
      refine RL_nil ?_
      exact hK (s.size + 1) _ _ (by omega) ⟨_, _, v, _, _, hI.fin, hs.sub ⟨rfl, rfl, rfl, rfl, rfl, rfl, rfl, rfl, rfl, trivial⟩⟩
  · obtain rfl : i = s.size + 1 := by
      have : ¬ ((i : Nat) : Int) ≤ ((s.size : Nat) : Int) := by simpa using hil
      have := hI.2.1
      omega
    have hout := hI.out
    refine W_exit ?_
    refine hB7 _ _ ?_
    refine hK5 _ _ ?_; clear hK5
    refine W_seq fun K43 hK43 => ?_
    refine W_seq fun K44 hK44 => ?_
    refine W_region ?_
    refine sy hs (y_move rfl) ?_; clear hs; (try clear a w); intro a w hs
    refine sy hs (y_move rfl) ?_; clear hs; (try clear a w); intro a w hs
    refine sy hs (y_lenS rfl Tryd.underlying9) ?_; clear hs; (try clear a w); intro a w hs
    refine sy hs (y_neq rfl rfl) ?_; clear hs; (try clear a w); intro a w hs
    refine RL_nil ?_
    refine hK44 _ _ ?_; clear hK44
    first | refine W_condP hs rfl (fun hls => ?_) (fun hls => ?_) | refine W_cond hs rfl (fun hls => ?_) (fun hls => ?_)
    · have hb : (u8R B).length + (s.extract last s.size).size ≤ 140737488355328 := by rw [u8R_len, ByteArray.size_extract]; omega
      refine W_seq fun K45 hK45 => ?_
      refine D_start hs ([]) [] [(0, true), (1, true), (2, true), (3, true), (4, true), (5, true), (6, true), (7, false), (8, true), (9, true), (10, true), (11, true), (12, true)] mixed (by kernel_rfl) ?_; clear hs; (try clear a w); intro a he
      refine dy 0 he rfl (y_move rfl) ?_; clear he; (try clear a); intro a he
      refine dy 1 he rfl (y_move rfl) ?_; clear he; (try clear a); intro a he
      refine dy 2 he rfl (y_move rfl) ?_; clear he; (try clear a); intro a he
      refine dy 3 he rfl (y_sliceSV (lo := last) (hi := s.size) rfl rfl Tryd.underlying9 (.inr ⟨_, rfl, rfl⟩) (.inl ⟨rfl, rfl⟩) hl2 (Nat.le_refl _)) ?_; clear he; (try clear a); intro a he
      refine dy 4 he rfl (y_mkMeth rfl) ?_; clear he; (try clear a); intro a he
      refine dy 5 he rfl (y_nilMeth rfl n219) ?_; clear he; (try clear a); intro a he
      refine dy 6 he rfl (y_move rfl) ?_; clear he; (try clear a); intro a he
      refine D_eff (i := 7) rfl he ?_; clear he; (try clear a); intro a w hs
      refine RL_invoke (Lr := [.blk wb (.cells #[v] 160 (0, 0)), .row v 5 1 (u8R B)]) (Lf := LX ++ L) hs rfl m219 has116 rfl rfl (aws_ok (e := 160) hb) (.free rfl) (by decide) ?_; clear hs; (try clear a w); rintro _ _ _ a w _ ⟨rfl, rfl, v2, rfl⟩ hs
      replace hs : St _ _ _ (.blk wb (.cells #[v2] 160 (0, 0)) :: .row v2 5 1 (u8R B ++ ((bytesIn (s.extract last s.size)).map fun x => [Value.int .u8 x])) :: (LX ++ L)) _ _ _ := hs
      rw [u8R_app, ← hout] at hs
      refine don hs ?_; clear hs; (try clear a w); intro a he
      refine dy 8 he rfl (y_move rfl) ?_; clear he; (try clear a); intro a he
      refine dy 9 he rfl (y_extract rfl rfl) ?_; clear he; (try clear a); intro a he
      refine dy 10 he rfl (y_extract rfl rfl) ?_; clear he; (try clear a); intro a he
      refine dy 11 he rfl (y_assign rfl) ?_; clear he; (try clear a); intro a he
      refine dy 12 he rfl (y_assign rfl) ?_; clear he; (try clear a); intro a he
      refine D_nil he ?_; clear he; (try clear a); intro w hs
      refine hK45 _ _ ?_; clear hK45
      refine W_region ?_
      refine sy hs (y_move rfl) ?_; clear hs; (try clear a w); intro a w hs
      refine sy hs (y_move rfl) ?_; clear hs; (try clear a w); intro a w hs
      refine sy hs (y_add rfl rfl rfl) ?_; clear hs; (try clear a w); intro a w hs
      refine sy hs (y_assign rfl) ?_; clear hs; (try clear a w); intro a w hs
      refine RL_nil ?_
      refine hK43 _ _ ?_; clear hK43
      refine W_ret ?_
      refine Rt_2 hs rfl rfl rfl ?_
      exact ⟨_, _, .blk wb (.cells #[v2] 160 (0, 0)) :: .row v2 5 1 (u8R (escA q false (bytesIn s))) :: LX, rfl, .refl _, hs.cw, rfl, v2, rfl⟩
    · obtain rfl : last = s.size := by
        have : ¬ ((last : Nat) : Int) ≠ ((s.size : Nat) : Int) := by simpa using hls
        omega
      have hee : s.extract s.size s.size = bs [] := by
        apply ByteArray.ext
        simp
      rw [hee, show bytesIn (bs []) = [] from rfl, List.append_nil] at hout
      refine W_skip ?_
      refine hK43 _ _ ?_; clear hK43
      refine W_ret ?_
      refine Rt_2 hs rfl rfl rfl ?_
      exact ⟨_, f, .blk wb (.cells #[v] 160 (0, 0)) :: .row v 5 1 (u8R (escA q false (bytesIn s))) :: LX, rfl, .refl _, by rw [hout]; exact hs.cw, rfl, v, rfl⟩
