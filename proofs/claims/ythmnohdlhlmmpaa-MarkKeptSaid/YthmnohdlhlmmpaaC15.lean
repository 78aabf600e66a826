/-
  Walks and laws of this seat; the base is the text Base.
-/
import Derived.Test.YthmnohdlhlmmpaaC14
import Derived.Test.YthmnohdlhlmmpaaRows
namespace Go.Proofs.Ythmnohdlhlmmpaa
open Go.RowKit Go.Sl
set_option maxRecDepth 20000 in
set_option maxHeartbeats 4000000 in
theorem Stays_ok {f : Fz} {w0 w : World} {L : List Ent} {b : Nat} {lv wv : Value} {lr wr : List (List Value)} {lo lo' : Nat} {held : Int} {ls ws : List Value} (hB : Book f lr wr lo lo' ls ws) (hn2 : ls.length ≤ 4000)
    (hC : Cw w0 f (BkL b lv wv lr wr lo lo' held ++ L) w) :
    Calls Try.prog 59 [.pointer (some ⟨b, 0, none⟩)].toArray w fun e w' => e = .returned (.bool true) ∧ Cw w0 f (BkL b lv wv lr wr lo lo' held ++ L) w' := by
  refine enter Try.func59 rfl Try.ntmps59 (by simp) hC fun a hs => ?_
  replace hs : St _ _ _ (.blk b (.cells #[cutv lv 1 lo lr.length, cutv wv 1 lo' wr.length, .int .i64 held, .bool false] 48 (0, 0)) :: .row lv 23 1 lr :: .row wv 23 1 wr :: L) _ _ _ := hs
  have hRlD : Rd f [.blk b (.cells #[cutv lv 1 lo lr.length, cutv wv 1 lo' wr.length, .int .i64 held, .bool false] 48 (0, 0)), .row lv 23 1 lr, .row wv 23 1 wr] (cutv lv 1 lo lr.length) 1 (one ls) := rdCut (Rd.ofOwn (.tail _ (.head _)) (hs.cw.sub (List.sublist_append_left [_, _, _] L))) hB.l0 hB.rl
  have hRwD : Rd f [.blk b (.cells #[cutv lv 1 lo lr.length, cutv wv 1 lo' wr.length, .int .i64 held, .bool false] 48 (0, 0)), .row lv 23 1 lr, .row wv 23 1 wr] (cutv wv 1 lo' wr.length) 1 (one ws) := rdCut (Rd.ofOwn (.tail _ (.tail _ (.head _))) (hs.cw.sub (List.sublist_append_left [_, _, _] L))) hB.w0 hB.rw
  have hRl := hRlD.mono (.refl _) (fun e he => List.mem_append_left L he)
  have hlen := hB.len
  refine W_seq fun K1 hK1 => ?_
  refine W_region ?_
  refine sy hs (y_assign rfl) ?_; clear hs; (try clear a w); intro a w hs
  refine RL_nil ?_
  refine hK1 _ _ ?_; clear hK1
  refine W_seq fun K2 hK2 => ?_
  refine W_seq fun K3 hK3 => ?_
  refine W_region ?_
  refine sy hs (y_assign rfl) ?_; clear hs; (try clear a w); intro a w hs
  refine RL_nil ?_
  refine hK3 _ _ ?_; clear hK3
  refine W_block fun Qe4 hB4 hO4 => ?_
  refine W_loop (fun (i : Nat) a w => i ≤ ls.length ∧ St 43 w0 f (.blk b (.cells #[cutv lv 1 lo lr.length, cutv wv 1 lo' wr.length, .int .i64 held, .bool false] 48 (0, 0)) :: .row lv 23 1 lr :: .row wv 23 1 wr :: L) [(0, .pointer (some ⟨b, 0, none⟩)), (3, .int .i64 i)] a w) (fun i => ls.length - i) 0 ⟨by omega, hs.sub ⟨rfl, rfl, trivial⟩⟩ ?_
  clear hs; rintro i a w ⟨hi, hs⟩ K hK
  refine W_seq fun K5 hK5 => ?_
  refine W_seq fun K6 hK6 => ?_
  refine W_region ?_
  refine sy hs (y_move rfl) ?_; clear hs; (try clear a w); intro a w hs
  refine sy hs (y_move rfl) ?_; clear hs; (try clear a w); intro a w hs
  first | (refine sy hs (y_nilCheck rfl) ?_; clear hs; (try clear a w); intro a w hs) | (refine sy hs (y_nilE rfl) ?_; clear hs; (try clear a w); intro a w hs)
  first | (refine sy hs (y_fieldAddr rfl (FO.of (off := 0) Try.underlying48 rfl rfl ti46 (by decide))) ?_; clear hs; (try clear a w); intro a w hs) | (refine sy hs (y_faE rfl (FO.of (off := 0) Try.underlying48 rfl rfl ti46 (by decide))) ?_; clear hs; (try clear a w); intro a w hs)
  first | (refine sy hs (y_ld rfl Try.underlying46 rfl) ?_; clear hs; (try clear a w); intro a w hs) | (refine sy hs (y_ldE rfl Try.underlying46 rfl) ?_; clear hs; (try clear a w); intro a w hs)
  refine sy hs (y_lenR0 hRl rfl Try.underlying46) ?_; clear hs; (try clear a w); intro a w hs
  refine sy hs (y_lss rfl rfl) ?_; clear hs; (try clear a w); intro a w hs
  refine RL_nil ?_
  refine hK6 _ _ ?_; clear hK6
  first | refine W_condP hs rfl (fun hlt => ?_) (fun hlt => ?_) | refine W_cond hs rfl (fun hlt => ?_) (fun hlt => ?_)
  · have hlt' : i < ls.length := by
      have : ((i : Nat) : Int) < ((ls.length : Nat) : Int) := by simpa using hlt
      omega
    obtain ⟨v, hv⟩ : ∃ v, ls[i]? = some v := ⟨_, List.getElem?_eq_getElem (by omega)⟩
    obtain ⟨u, hu⟩ : ∃ v, ws[i]? = some v := ⟨_, List.getElem?_eq_getElem (by omega)⟩
    obtain ⟨xs, hxs, hRv, hRu⟩ := hB.kept i v u hv hu
    refine W_skip ?_
    refine hK5 _ _ ?_; clear hK5
    refine W_seq fun K7 hK7 => ?_
    refine W_block fun Qe8 hB8 hO8 => ?_
    refine D_start hs ([.blk b (.cells #[cutv lv 1 lo lr.length, cutv wv 1 lo' wr.length, .int .i64 held, .bool false] 48 (0, 0)), .row lv 23 1 lr, .row wv 23 1 wr]) [25] [(0, true), (1, true), (2, true), (3, true), (4, true), (5, true), (6, true), (7, true), (8, true), (9, true), (10, true), (11, true), (12, true), (13, true), (14, true), (15, true), (16, true), (17, true), (18, true), (19, true), (20, true), (21, true), (22, true), (23, true), (24, true), (25, false)] mixed (by kernel_rfl) ?_; clear hs; (try clear a w); intro a he
    refine dy 0 he rfl (y_move rfl) ?_; clear he; (try clear a); intro a he
    refine dy 1 he rfl (y_move rfl) ?_; clear he; (try clear a); intro a he
    first | (refine dy 2 he rfl (y_nilCheck rfl) ?_; clear he; (try clear a); intro a he) | (refine dy 2 he rfl (y_nilE rfl) ?_; clear he; (try clear a); intro a he)
    first | (refine dy 3 he rfl (y_fieldAddr rfl (FO.of (off := 3) Try.underlying48 rfl rfl ti4 (by decide))) ?_; clear he; (try clear a); intro a he) | (refine dy 3 he rfl (y_faE rfl (FO.of (off := 3) Try.underlying48 rfl rfl ti4 (by decide))) ?_; clear he; (try clear a); intro a he)
    first | (refine dy 4 he rfl (y_ld rfl Try.underlying4 rfl) ?_; clear he; (try clear a); intro a he) | (refine dy 4 he rfl (y_ldE rfl Try.underlying4 rfl) ?_; clear he; (try clear a); intro a he)
    refine dy 5 he rfl (y_move rfl) ?_; clear he; (try clear a); intro a he
    refine dyg 6 he rfl (y_move rfl) ?_; clear he; (try clear a); intro a he
    first | (refine dyg 7 he rfl (y_nilCheck rfl) ?_; clear he; (try clear a); intro a he) | (refine dyg 7 he rfl (y_nilE rfl) ?_; clear he; (try clear a); intro a he)
    first | (refine dyg 8 he rfl (y_fieldAddr rfl (FO.of (off := 0) Try.underlying48 rfl rfl ti46 (by decide))) ?_; clear he; (try clear a); intro a he) | (refine dyg 8 he rfl (y_faE rfl (FO.of (off := 0) Try.underlying48 rfl rfl ti46 (by decide))) ?_; clear he; (try clear a); intro a he)
    first | (refine dyg 9 he rfl (y_ld rfl Try.underlying46 rfl) ?_; clear he; (try clear a); intro a he) | (refine dyg 9 he rfl (y_ldE rfl Try.underlying46 rfl) ?_; clear he; (try clear a); intro a he)
    refine dyg 10 he rfl (y_move rfl) ?_; clear he; (try clear a); intro a he
    refine dyg 11 he rfl (y_ix (m := i) rfl rfl Try.underlying46 ti23 rfl hRlD (by simp; omega)) ?_; clear he; (try clear a); intro a he
    refine dyg 12 he rfl (y_ldE rfl Try.underlying23 rfl hRlD (map_get hv) rfl) ?_; clear he; (try clear a); intro a he
    refine dyg 13 he rfl (y_move rfl) ?_; clear he; (try clear a); intro a he
    first | (refine dyg 14 he rfl (y_nilCheck rfl) ?_; clear he; (try clear a); intro a he) | (refine dyg 14 he rfl (y_nilE rfl) ?_; clear he; (try clear a); intro a he)
    first | (refine dyg 15 he rfl (y_fieldAddr rfl (FO.of (off := 1) Try.underlying48 rfl rfl ti46 (by decide))) ?_; clear he; (try clear a); intro a he) | (refine dyg 15 he rfl (y_faE rfl (FO.of (off := 1) Try.underlying48 rfl rfl ti46 (by decide))) ?_; clear he; (try clear a); intro a he)
    first | (refine dyg 16 he rfl (y_ld rfl Try.underlying46 rfl) ?_; clear he; (try clear a); intro a he) | (refine dyg 16 he rfl (y_ldE rfl Try.underlying46 rfl) ?_; clear he; (try clear a); intro a he)
    refine dyg 17 he rfl (y_move rfl) ?_; clear he; (try clear a); intro a he
    refine dyg 18 he rfl (y_ix (m := i) rfl rfl Try.underlying46 ti23 rfl hRwD (by simp; omega)) ?_; clear he; (try clear a); intro a he
    refine dyg 19 he rfl (y_ldE rfl Try.underlying23 rfl hRwD (map_get hu) rfl) ?_; clear he; (try clear a); intro a he
    refine dcallg (v := .bool true) 20 he rfl rfl has58 rfl (fun f' L' w h1 h2 hw => book_Same_api_Attr_ok 1000002 (hRv.le h1) (hRu.le h1) (kb_self _ _ hxs (Nat.le_refl _)) _ _ _ hw) ?_; clear he; (try clear a); intro a he
    refine dyg 21 he rfl (y_not rfl) ?_; clear he; (try clear a); intro a he
    refine dy 22 he rfl (y_pick rfl rfl) ?_; clear he; (try clear a); intro a he
    first | (refine dy 23 he rfl (y_nilCheck rfl) ?_; clear he; (try clear a); intro a he) | (refine dy 23 he rfl (y_nilE rfl) ?_; clear he; (try clear a); intro a he)
    first | (refine dy 24 he rfl (y_fieldAddr rfl (FO.of (off := 3) Try.underlying48 rfl rfl ti4 (by decide))) ?_; clear he; (try clear a); intro a he) | (refine dy 24 he rfl (y_faE rfl (FO.of (off := 3) Try.underlying48 rfl rfl ti4 (by decide))) ?_; clear he; (try clear a); intro a he)
    refine D_eff (i := 25) rfl he ?_; clear he; (try clear a); intro a w hs
    refine sstore 0 hs rfl rfl rfl ti4 (by first | rfl | assumption) ?_; clear hs; (try clear a w); intro a w hs; (try simp only [List.set] at hs); (try simp only [Array.setIfInBounds] at hs)
    refine dend hs ?_; clear hs; (try clear a w); intro a he
    refine D_nil he ?_; clear he; (try clear a); intro w hs
    refine hK7 _ _ ?_; clear hK7
    refine W_region ?_
    refine sy hs (y_move rfl) ?_; clear hs; (try clear a w); intro a w hs
    refine sy hs (y_add rfl rfl (wr_i64 (by omega))) ?_; clear hs; (try clear a w); intro a w hs
    refine sy hs (y_assign rfl) ?_; clear hs; (try clear a w); intro a w hs
    refine RL_nil ?_
    exact hK (i + 1) _ _ (by omega) ⟨by omega, hs.sub ⟨rfl, rfl, trivial⟩⟩
  · refine W_exit ?_
    refine hB4 _ _ ?_
    refine hK2 _ _ ?_; clear hK2
    refine W_seq fun K9 hK9 => ?_
    refine W_region ?_
    refine sy hs (y_move rfl) ?_; clear hs; (try clear a w); intro a w hs
    first | (refine sy hs (y_nilCheck rfl) ?_; clear hs; (try clear a w); intro a w hs) | (refine sy hs (y_nilE rfl) ?_; clear hs; (try clear a w); intro a w hs)
    first | (refine sy hs (y_fieldAddr rfl (FO.of (off := 3) Try.underlying48 rfl rfl ti4 (by decide))) ?_; clear hs; (try clear a w); intro a w hs) | (refine sy hs (y_faE rfl (FO.of (off := 3) Try.underlying48 rfl rfl ti4 (by decide))) ?_; clear hs; (try clear a w); intro a w hs)
    first | (refine sy hs (y_ld rfl Try.underlying4 rfl) ?_; clear hs; (try clear a w); intro a w hs) | (refine sy hs (y_ldE rfl Try.underlying4 rfl) ?_; clear hs; (try clear a w); intro a w hs)
    refine sy hs (y_not rfl) ?_; clear hs; (try clear a w); intro a w hs
    refine sy hs (y_assign rfl) ?_; clear hs; (try clear a w); intro a w hs
    refine RL_nil ?_
    refine hK9 _ _ ?_; clear hK9
    refine W_ret ?_
    refine Rt_1 hs rfl rfl ?_
    exact ⟨rfl, hs.cw⟩
