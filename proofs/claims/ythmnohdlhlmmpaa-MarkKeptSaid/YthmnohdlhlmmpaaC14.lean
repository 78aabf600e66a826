/-
  Walks and laws of this seat; the base is the text Base.
-/
import Derived.Test.YthmnohdlhlmmpaaBasg
import Derived.Test.YthmnohdlhlmmpaaL4h
import Derived.Test.YthmnohdlhlmmpaaRows
namespace Go.Proofs.Ythmnohdlhlmmpaa
open Go.RowKit Go.Sl
/-- Slices as the elements of a slice. -/
abbrev one (vs : List Value) : List (List Value) := vs.map fun v => [v]
/-- The book's entries. -/
abbrev BkL (b : Nat) (lv wv : Value) (lr wr : List (List Value)) (lo lo' : Nat) (held : Int) : List Ent :=
  [.blk b (.cells #[cutv lv 1 lo lr.length, cutv wv 1 lo' wr.length, .int .i64 held, .bool false] 48 (0, 0)), .row lv 23 1 lr, .row wv 23 1 wr]
/-- What the book holds: the lists, and what they were. -/
structure Book (f : Fz) (lr wr : List (List Value)) (lo lo' : Nat) (ls ws : List Value) : Prop where
  l0 : lo = 0 ∨ lo < lr.length
  w0 : lo' = 0 ∨ lo' < wr.length
  rl : lr.drop lo = one ls
  rw : wr.drop lo' = one ws
  len : ls.length = ws.length
  kept : ∀ (i : Nat) (v u : Value), ls[i]? = some v → ws[i]? = some u → ∃ xs : List api_Attr, xs.length ≤ 1000000 ∧ RS t_api_Attr f v xs ∧ RS t_api_Attr f u xs
theorem Book.le {f f' : Fz} {lr wr : List (List Value)} {lo lo' : Nat} {ls ws : List Value} (h : Book f lr wr lo lo' ls ws) (hf : Fz.le f f') : Book f' lr wr lo lo' ls ws :=
  ⟨h.l0, h.w0, h.rl, h.rw, h.len, fun i v u h1 h2 => by obtain ⟨xs, g1, g2, g3⟩ := h.kept i v u h1 h2; exact ⟨xs, g1, g2.le hf, g3.le hf⟩⟩
theorem rdCut {f : Fz} {L : List Ent} {v : Value} {lr : List (List Value)} {lo : Nat} {ls : List Value} (h : Rd f L v 1 lr) (h0 : lo = 0 ∨ lo < lr.length) (hl : lr.drop lo = one ls) : Rd f L (cutv v 1 lo lr.length) 1 (one ls) := by
  have := h.cut (lo := lo) (hi := lr.length) (by omega) (Nat.le_refl _)
  rwa [List.take_length, hl] at this
theorem cutv_cut {f : Fz} {L : List Ent} {v : Value} {lr : List (List Value)} {lo : Nat} (h : Rd f L v 1 lr) (h1 : lo + 1 < lr.length) : cutv (cutv v 1 lo lr.length) 1 1 (lr.length - lo) = cutv v 1 (lo + 1) lr.length := by
  obtain ⟨hl, ao, cap, rfl, e1, e2, e3⟩ := h
  cases ao with
  | none => rw [e2 rfl] at h1; simp at h1
  | some a =>
    obtain ⟨g, o, sp⟩ := a
    have hne : lr ≠ [] := fun e => by rw [e] at h1; simp at h1
    have : sp = none := (e3 _ rfl).1 hne
    subst this
    simp only [cutv]
    rw [if_neg (by omega), if_neg (by omega), if_neg (by omega)]
    simp only [Option.map_some, add_lit, Nat.mul_one]
    congr 1
theorem Book.tail {f : Fz} {lr wr : List (List Value)} {lo lo' : Nat} {ls ws : List Value} (h : Book f lr wr lo lo' ls ws) (h1 : 1 < ls.length) : Book f lr wr (lo + 1) (lo' + 1) ls.tail ws.tail := by
  have e1 : lr.length - lo = ls.length := by rw [← List.length_drop, h.rl, List.length_map]
  have e2 : wr.length - lo' = ws.length := by rw [← List.length_drop, h.rw, List.length_map]
  have e3 := h.len
  refine ⟨.inr (by omega), .inr (by omega), by rw [← List.tail_drop, h.rl]; cases ls <;> rfl, by rw [← List.tail_drop, h.rw]; cases ws <;> rfl, by simp [h.len], fun i v u h1 h2 => h.kept (i + 1) v u (by rw [← h1]; simp) (by rw [← h2]; simp)⟩
theorem kb_l2 (al : List api_Attr) (hb : al.length ≤ 1000000) : ∀ (d j k : Nat), j + d = al.length → d + 1 ≤ k → book_Same_api_Attr_l2 al al k (j : Int) = some true
  | 0, j, k, hj, hk => by
    obtain ⟨k, rfl⟩ : ∃ i, k = i + 1 := ⟨k - 1, by omega⟩
    rw [book_Same_api_Attr_l2, decide_eq_false (by omega)]; rfl
  | d + 1, j, k, hj, hk => by
    obtain ⟨k, rfl⟩ : ∃ i, k = i + 1 := ⟨k - 1, by omega⟩
    have hlt : j < al.length := by omega
    have hg : geti al (j : Int) = some al[j] := by
      unfold geti
      rw [if_pos (by omega), Int.toNat_natCast, List.getElem?_eq_getElem hlt]
    rw [book_Same_api_Attr_l2, decide_eq_true (by omega), hg, Option.bind_some, Option.bind_some, decide_eq_true rfl, decide_eq_true rfl]
    simp only [Bool.and_true, Bool.not_true, cond_false]
    rw [cond_true, show w64 ((j : Int) + 1) = ((j + 1 : Nat) : Int) from wr_i64 (by omega)]
    exact kb_l2 al hb d (j + 1) k (by omega) (by omega)
theorem kb_self (n : Nat) (xs : List api_Attr) (h : xs.length ≤ 1000000) (hn : 1000002 ≤ n) : book_Same_api_Attr n xs xs = some true := by
  unfold book_Same_api_Attr
  rw [decide_eq_false (by simp)]
  exact kb_l2 xs h xs.length 0 n (by omega) (by omega)
set_option maxRecDepth 20000 in
set_option maxHeartbeats 4000000 in
theorem Keep_ok {f : Fz} {w0 w : World} {L : List Ent} {b : Nat} {lv wv v : Value} {lr wr : List (List Value)} {lo lo' : Nat} {held : Int} {ls ws : List Value} {xs : List api_Attr} (hx : xs.length ≤ 1000000) (hv : RS t_api_Attr f v xs)
    (hB : Book f lr wr lo lo' ls ws) (hl : lr.length ≤ 100000) (hw : wr.length ≤ 100000) (hl4 : ls.length + 1 ≤ 4000) (hC : Cw w0 f (BkL b lv wv lr wr lo lo' held ++ L) w) :
    Calls Try.prog 28 [.pointer (some ⟨b, 0, none⟩), v].toArray w fun e w' => ∃ r f' L', e = .returned r ∧ Fz.le f f' ∧ Cw w0 f' (L' ++ L) w' ∧ ∃ lv wv lr' wr' lo lo' held ls' ws',
      L' = BkL b lv wv lr' wr' lo lo' held ∧ Book f' lr' wr' lo lo' ls' ws' ∧ ls' <:+ ls ++ [v] ∧ lr'.length ≤ lr.length + 1 ∧ wr'.length ≤ wr.length + 1 := by
  refine enter Try.func28 rfl Try.ntmps28 (by simp) hC fun a hs => ?_
  have hv1 := hv.one
  obtain ⟨rwv, hRv0, hWv⟩ := id hv
  obtain ⟨aov, capv, rfl, _⟩ := hRv0.val
  replace hs : St _ _ _ (.blk b (.cells #[cutv lv 1 lo lr.length, cutv wv 1 lo' wr.length, .int .i64 held, .bool false] 48 (0, 0)) :: .row lv 23 1 lr :: .row wv 23 1 wr :: L) _ _ _ := hs
  refine W_seq fun K1 hK1 => ?_
  refine W_region ?_
  refine sy hs (y_move rfl) ?_; clear hs; (try clear a w); intro a w hs
  refine sy hs (y_move rfl) ?_; clear hs; (try clear a w); intro a w hs
  first | (refine sy hs (y_nilCheck rfl) ?_; clear hs; (try clear a w); intro a w hs) | (refine sy hs (y_nilE rfl) ?_; clear hs; (try clear a w); intro a w hs)
  first | (refine sy hs (y_fieldAddr rfl (FO.of (off := 0) Try.underlying48 rfl rfl ti46 (by decide))) ?_; clear hs; (try clear a w); intro a w hs) | (refine sy hs (y_faE rfl (FO.of (off := 0) Try.underlying48 rfl rfl ti46 (by decide))) ?_; clear hs; (try clear a w); intro a w hs)
  first | (refine sy hs (y_ld rfl Try.underlying46 rfl) ?_; clear hs; (try clear a w); intro a w hs) | (refine sy hs (y_ldE rfl Try.underlying46 rfl) ?_; clear hs; (try clear a w); intro a w hs)
  refine sy hs (y_move rfl) ?_; clear hs; (try clear a w); intro a w hs
  refine RL_bs1s hs rfl Try.underlying46 ti23 rfl (by first | rfl | assumption) ?_; clear hs; (try clear a w); intro tv a w hs
  refine RL_appendCut (i := 2) (lo := lo) hs rfl rfl rfl (Rd.st hs (.head _)) Try.underlying46 ti23 rfl hB.l0 (by simp only [maxLen]; omega) (.free rfl) (by decide) ?_; clear hs; (try clear a w); intro lv2 lr2 lo2 a w hd1 hd2 hd3 hs; simp only [List.set] at hs
  replace hs := hs.tail
  rw [hB.rl] at hd1
  have hd1' : lr2.drop lo2 = one (ls ++ [.slice aov rwv.length capv]) := by rw [hd1]; simp
  have ho2 := (rdCut (Rd.st hs (.tail _ (.head _))) (.inr hd2) hd1').one
  first | (refine sy hs (y_nilCheck rfl) ?_; clear hs; (try clear a w); intro a w hs) | (refine sy hs (y_nilE rfl) ?_; clear hs; (try clear a w); intro a w hs)
  first | (refine sy hs (y_fieldAddr rfl (FO.of (off := 0) Try.underlying48 rfl rfl ti46 (by decide))) ?_; clear hs; (try clear a w); intro a w hs) | (refine sy hs (y_faE rfl (FO.of (off := 0) Try.underlying48 rfl rfl ti46 (by decide))) ?_; clear hs; (try clear a w); intro a w hs)
  refine sstore 0 hs rfl rfl rfl ti46 (by first | rfl | assumption) ?_; clear hs; (try clear a w); intro a w hs; (try simp only [List.set] at hs); (try simp only [Array.setIfInBounds] at hs)
  refine RL_nil ?_
  refine hK1 _ _ ?_; clear hK1
  refine W_seq fun K2 hK2 => ?_
  refine D_start hs ([.blk b (.cells #[cutv lv2 1 lo2 lr2.length, cutv wv 1 lo' wr.length, .int .i64 held, .bool false] 48 (0, 0))]) [11] [(0, true), (1, true), (2, true), (3, true), (4, true), (5, true), (6, false), (7, false), (8, false), (9, true), (10, true), (11, false)] mixed (by kernel_rfl) ?_; clear hs; (try clear a w); intro a he
  refine dy 0 he rfl (y_move rfl) ?_; clear he; (try clear a); intro a he
  refine dy 1 he rfl (y_move rfl) ?_; clear he; (try clear a); intro a he
  first | (refine dy 2 he rfl (y_nilCheck rfl) ?_; clear he; (try clear a); intro a he) | (refine dy 2 he rfl (y_nilE rfl) ?_; clear he; (try clear a); intro a he)
  first | (refine dy 3 he rfl (y_fieldAddr rfl (FO.of (off := 1) Try.underlying48 rfl rfl ti46 (by decide))) ?_; clear he; (try clear a); intro a he) | (refine dy 3 he rfl (y_faE rfl (FO.of (off := 1) Try.underlying48 rfl rfl ti46 (by decide))) ?_; clear he; (try clear a); intro a he)
  first | (refine dy 4 he rfl (y_ld rfl Try.underlying46 rfl) ?_; clear he; (try clear a); intro a he) | (refine dy 4 he rfl (y_ldE rfl Try.underlying46 rfl) ?_; clear he; (try clear a); intro a he)
  refine dy 5 he rfl (y_move rfl) ?_; clear he; (try clear a); intro a he
  refine D_eff (i := 6) rfl he ?_; clear he; (try clear a); intro a w hs
  refine RL_appNil hs rfl rfl hRv0.up Try.underlying23 ti29 (by decide) (by rw [hWv.len]; omega) ?_; clear hs; (try clear a w); intro cv a w hs
  have hcv := (Rd.st hs (.head _)).one
  refine don hs ?_; clear hs; (try clear a w); intro a he
  refine D_eff (i := 7) rfl he ?_; clear he; (try clear a); intro a w hs
  refine RL_bs1s hs rfl Try.underlying46 ti23 rfl (by first | rfl | assumption) ?_; clear hs; (try clear a w); intro tv a w hs
  refine don hs ?_; clear hs; (try clear a w); intro a he
  refine D_eff (i := 8) rfl he ?_; clear he; (try clear a); intro a w hs
  refine RL_appendCut (i := 4) (lo := lo') hs rfl rfl rfl (Rd.st hs (.head _)) Try.underlying46 ti23 rfl hB.w0 (by simp only [maxLen]; omega) (.free rfl) (by decide) ?_; clear hs; (try clear a w); intro wv2 wr2 lo2' a w he1 he2 he3 hs; simp only [List.set] at hs
  replace hs := hs.tail
  rw [hB.rw] at he1
  have he1' : wr2.drop lo2' = one (ws ++ [cv]) := by rw [he1]; simp
  obtain ⟨f1, hf1, hs, hRc⟩ := hs.frz
  have ho3 := (rdCut (Rd.st hs (.tail _ (.tail _ (.head _)))) (.inr he2) he1').one
  refine don hs ?_; clear hs; (try clear a w); intro a he
  first | (refine dy 9 he rfl (y_nilCheck rfl) ?_; clear he; (try clear a); intro a he) | (refine dy 9 he rfl (y_nilE rfl) ?_; clear he; (try clear a); intro a he)
  first | (refine dy 10 he rfl (y_fieldAddr rfl (FO.of (off := 1) Try.underlying48 rfl rfl ti46 (by decide))) ?_; clear he; (try clear a); intro a he) | (refine dy 10 he rfl (y_faE rfl (FO.of (off := 1) Try.underlying48 rfl rfl ti46 (by decide))) ?_; clear he; (try clear a); intro a he)
  refine D_eff (i := 11) rfl he ?_; clear he; (try clear a); intro a w hs
  refine sstore 0 hs rfl rfl rfl ti46 (by first | rfl | assumption) ?_; clear hs; (try clear a w); intro a w hs; (try simp only [List.set] at hs); (try simp only [Array.setIfInBounds] at hs)
  refine dend hs ?_; clear hs; (try clear a w); intro a he
  refine D_nil he ?_; clear he; (try clear a); intro w hs
  refine hK2 _ _ ?_; clear hK2
  refine W_seq fun K3 hK3 => ?_
  refine W_region ?_
  refine sy hs (y_move rfl) ?_; clear hs; (try clear a w); intro a w hs
  refine sy hs (y_move rfl) ?_; clear hs; (try clear a w); intro a w hs
  first | (refine sy hs (y_nilCheck rfl) ?_; clear hs; (try clear a w); intro a w hs) | (refine sy hs (y_nilE rfl) ?_; clear hs; (try clear a w); intro a w hs)
  first | (refine sy hs (y_fieldAddr rfl (FO.of (off := 2) Try.underlying48 rfl rfl ti3 (by decide))) ?_; clear hs; (try clear a w); intro a w hs) | (refine sy hs (y_faE rfl (FO.of (off := 2) Try.underlying48 rfl rfl ti3 (by decide))) ?_; clear hs; (try clear a w); intro a w hs)
  first | (refine sy hs (y_ld rfl Try.underlying3 rfl) ?_; clear hs; (try clear a w); intro a w hs) | (refine sy hs (y_ldE rfl Try.underlying3 rfl) ?_; clear hs; (try clear a w); intro a w hs)
  refine sy hs (y_move rfl) ?_; clear hs; (try clear a w); intro a w hs
  refine sy hs (y_cap rfl Try.underlying23) ?_; clear hs; (try clear a w); intro a w hs
  refine sy hs (y_addW rfl rfl) ?_; clear hs; (try clear a w); intro a w hs
  refine sy hs (y_addW rfl rfl) ?_; clear hs; (try clear a w); intro a w hs
  first | (refine sy hs (y_nilCheck rfl) ?_; clear hs; (try clear a w); intro a w hs) | (refine sy hs (y_nilE rfl) ?_; clear hs; (try clear a w); intro a w hs)
  first | (refine sy hs (y_fieldAddr rfl (FO.of (off := 2) Try.underlying48 rfl rfl ti3 (by decide))) ?_; clear hs; (try clear a w); intro a w hs) | (refine sy hs (y_faE rfl (FO.of (off := 2) Try.underlying48 rfl rfl ti3 (by decide))) ?_; clear hs; (try clear a w); intro a w hs)
  refine sstore 0 hs rfl rfl rfl ti3 (by first | rfl | assumption) ?_; clear hs; (try clear a w); intro a w hs; (try simp only [List.set] at hs); (try simp only [Array.setIfInBounds] at hs)
  refine RL_nil ?_
  refine hK3 _ _ ?_; clear hK3
  refine W_block fun Qe4 hB4 hO4 => ?_
  have hB2 : Book f1 lr2 wr2 lo2 lo2' (ls ++ [.slice aov rwv.length capv]) (ws ++ [cv]) := by
    refine ⟨.inr hd2, .inr he2, hd1', he1', by simp [hB.len], fun i v u h1 h2 => ?_⟩
    by_cases hi : i < ls.length
    · rw [List.getElem?_append_left hi] at h1
      rw [List.getElem?_append_left (by rw [← hB.len]; exact hi)] at h2
      exact (hB.le hf1).kept i v u h1 h2
    · rw [List.getElem?_append_right (by omega)] at h1
      rw [List.getElem?_append_right (by rw [← hB.len]; omega), ← hB.len] at h2
      obtain ⟨j, hj⟩ : ∃ j, i - ls.length = j := ⟨_, rfl⟩
      rw [hj] at h1 h2
      cases j with
      | zero =>
        cases h1; cases h2
        exact ⟨xs, hx, hv.le hf1, rwv, hRc, hWv.le hf1⟩
      | succ j => simp at h1
  refine W_loop (fun (k : Nat) a w => ∃ (lv wv : Value) (lr wr : List (List Value)) (lo lo' : Nat) (held : Int) (ls' ws' : List Value), ls'.length = k ∧ Book f1 lr wr lo lo' ls' ws' ∧ (ls' <:+ ls ++ [.slice aov rwv.length capv] ∧ lr.length ≤ lr2.length ∧ wr.length ≤ wr2.length) ∧
    St 112 w0 f1 (.blk b (.cells #[cutv lv 1 lo lr.length, cutv wv 1 lo' wr.length, .int .i64 held, .bool false] 48 (0, 0)) :: .row lv 23 1 lr :: .row wv 23 1 wr :: L) [(0, .pointer (some ⟨b, 0, none⟩))] a w) (fun k => k) _ ⟨lv2, wv2, lr2, wr2, lo2, lo2', _, _, _, rfl, hB2, ⟨List.suffix_refl _, Nat.le_refl _, Nat.le_refl _⟩, hs.sub ⟨rfl, trivial⟩⟩ ?_
  clear hs hB2 hd1' he1' ho2 ho3 hcv hd1 he1 hd2 he2 hB
  rintro k a w ⟨lv, wv, lr, wr, lo, lo', held, ls', ws', hk, hB, hsf, hs⟩ K hK
  have hRlD : Rd f1 [.blk b (.cells #[cutv lv 1 lo lr.length, cutv wv 1 lo' wr.length, .int .i64 held, .bool false] 48 (0, 0)), .row lv 23 1 lr, .row wv 23 1 wr] (cutv lv 1 lo lr.length) 1 (one ls') := rdCut (Rd.ofOwn (.tail _ (.head _)) (hs.cw.sub (List.sublist_append_left [_, _, _] L))) hB.l0 hB.rl
  have hRwD : Rd f1 [.blk b (.cells #[cutv lv 1 lo lr.length, cutv wv 1 lo' wr.length, .int .i64 held, .bool false] 48 (0, 0)), .row lv 23 1 lr, .row wv 23 1 wr] (cutv wv 1 lo' wr.length) 1 (one ws') := rdCut (Rd.ofOwn (.tail _ (.tail _ (.head _))) (hs.cw.sub (List.sublist_append_left [_, _, _] L))) hB.w0 hB.rw
  have hRl := hRlD.mono (.refl _) (fun e he => List.mem_append_left L he)
  refine W_seq fun K5 hK5 => ?_
  refine W_seq fun K6 hK6 => ?_
  refine W_region ?_
  refine sy hs (y_move rfl) ?_; clear hs; (try clear a w); intro a w hs
  first | (refine sy hs (y_nilCheck rfl) ?_; clear hs; (try clear a w); intro a w hs) | (refine sy hs (y_nilE rfl) ?_; clear hs; (try clear a w); intro a w hs)
  first | (refine sy hs (y_fieldAddr rfl (FO.of (off := 0) Try.underlying48 rfl rfl ti46 (by decide))) ?_; clear hs; (try clear a w); intro a w hs) | (refine sy hs (y_faE rfl (FO.of (off := 0) Try.underlying48 rfl rfl ti46 (by decide))) ?_; clear hs; (try clear a w); intro a w hs)
  first | (refine sy hs (y_ld rfl Try.underlying46 rfl) ?_; clear hs; (try clear a w); intro a w hs) | (refine sy hs (y_ldE rfl Try.underlying46 rfl) ?_; clear hs; (try clear a w); intro a w hs)
  refine sy hs (y_lenR0 hRl rfl Try.underlying46) ?_; clear hs; (try clear a w); intro a w hs
  refine sy hs (y_gtr rfl rfl) ?_; clear hs; (try clear a w); intro a w hs
  refine sy hs (y_move rfl) ?_; clear hs; (try clear a w); intro a w hs
  first | refine St.splitP hs (t := 42) rfl (fun h1 hq => ?_) (fun h1 hq => ?_) | refine St.split hs (t := 42) rfl (fun h1 hq => ?_) (fun h1 hq => ?_)
  · clear hs; have hs := hq; clear hq
    refine syg hs (y_move rfl) ?_; clear hs; (try clear a w); intro a w hs
    first | (refine syg hs (y_nilCheck rfl) ?_; clear hs; (try clear a w); intro a w hs) | (refine syg hs (y_nilE rfl) ?_; clear hs; (try clear a w); intro a w hs)
    first | (refine syg hs (y_fieldAddr rfl (FO.of (off := 2) Try.underlying48 rfl rfl ti3 (by decide))) ?_; clear hs; (try clear a w); intro a w hs) | (refine syg hs (y_faE rfl (FO.of (off := 2) Try.underlying48 rfl rfl ti3 (by decide))) ?_; clear hs; (try clear a w); intro a w hs)
    first | (refine syg hs (y_ld rfl Try.underlying3 rfl) ?_; clear hs; (try clear a w); intro a w hs) | (refine syg hs (y_ldE rfl Try.underlying3 rfl) ?_; clear hs; (try clear a w); intro a w hs)
    refine syg hs (y_gtr rfl rfl) ?_; clear hs; (try clear a w); intro a w hs
    refine syg hs (y_move rfl) ?_; clear hs; (try clear a w); intro a w hs
    first | refine St.splitP hs (t := 48) rfl (fun h2 hq => ?_) (fun h2 hq => ?_) | refine St.split hs (t := 48) rfl (fun h2 hq => ?_) (fun h2 hq => ?_)
    · clear hs; have hs := hq; clear hq
      have hl1 : 1 < ls'.length := by
        have h1' : (1 : Int) < ((ls'.length : Nat) : Int) := by simpa using h1
        omega
      obtain ⟨k, rfl⟩ : ∃ q, k = q + 1 := ⟨k - 1, by omega⟩
      have e1 : lr.length - lo = ls'.length := by rw [← List.length_drop, hB.rl, List.length_map]
      have e2 : wr.length - lo' = ws'.length := by rw [← List.length_drop, hB.rw, List.length_map]
      have e3 := hB.len
      obtain ⟨v0, hv0⟩ : ∃ v, ls'[0]? = some v := ⟨_, List.getElem?_eq_getElem (by omega)⟩
      obtain ⟨u0, hu0⟩ : ∃ v, ws'[0]? = some v := ⟨_, List.getElem?_eq_getElem (by omega)⟩
      obtain ⟨xs0, hxs0, hRv, hRu⟩ := hB.kept 0 v0 u0 hv0 hu0
      obtain ⟨rw0, hRr0, _⟩ := id hRv
      obtain ⟨ao0, cap0, rfl, _⟩ := hRr0.val
      refine sno hs ?_; clear hs; (try clear a w); intro a w hs
      refine sno hs ?_; clear hs; (try clear a w); intro a w hs
      refine sno hs ?_; clear hs; (try clear a w); intro a w hs
      refine sno hs ?_; clear hs; (try clear a w); intro a w hs
      refine sno hs ?_; clear hs; (try clear a w); intro a w hs
      refine sno hs ?_; clear hs; (try clear a w); intro a w hs
      refine syg hs (y_pick rfl rfl) ?_; clear hs; (try clear a w); intro a w hs
      refine sy hs (y_pick rfl rfl) ?_; clear hs; (try clear a w); intro a w hs
      refine RL_nil ?_
      refine hK6 _ _ ?_; clear hK6
      refine W_condT hs rfl ?_
      refine W_skip ?_
      refine hK5 _ _ ?_; clear hK5
      refine W_block fun Qe7 hB7 hO7 => ?_
      refine W_seq fun K8 hK8 => ?_
      refine D_start hs ([.blk b (.cells #[cutv lv 1 lo lr.length, cutv wv 1 lo' wr.length, .int .i64 held, .bool false] 48 (0, 0)), .row lv 23 1 lr, .row wv 23 1 wr]) [23] [(0, true), (1, true), (2, true), (3, true), (4, true), (5, true), (6, true), (7, true), (8, true), (9, true), (10, true), (11, true), (12, true), (13, true), (14, true), (15, true), (16, true), (17, true), (18, true), (19, true), (20, true), (21, true), (22, true), (23, false)] mixed (by kernel_rfl) ?_; clear hs; (try clear a w); intro a he
      refine dy 0 he rfl (y_move rfl) ?_; clear he; (try clear a); intro a he
      refine dy 1 he rfl (y_move rfl) ?_; clear he; (try clear a); intro a he
      first | (refine dy 2 he rfl (y_nilCheck rfl) ?_; clear he; (try clear a); intro a he) | (refine dy 2 he rfl (y_nilE rfl) ?_; clear he; (try clear a); intro a he)
      first | (refine dy 3 he rfl (y_fieldAddr rfl (FO.of (off := 3) Try.underlying48 rfl rfl ti4 (by decide))) ?_; clear he; (try clear a); intro a he) | (refine dy 3 he rfl (y_faE rfl (FO.of (off := 3) Try.underlying48 rfl rfl ti4 (by decide))) ?_; clear he; (try clear a); intro a he)
      first | (refine dy 4 he rfl (y_ld rfl Try.underlying4 rfl) ?_; clear he; (try clear a); intro a he) | (refine dy 4 he rfl (y_ldE rfl Try.underlying4 rfl) ?_; clear he; (try clear a); intro a he)
      refine dy 5 he rfl (y_move rfl) ?_; clear he; (try clear a); intro a he
      refine dyg 6 he rfl (y_move rfl) ?_; clear he; (try clear a); intro a he
      first | (refine dyg 7 he rfl (y_nilCheck rfl) ?_; clear he; (try clear a); intro a he) | (refine dyg 7 he rfl (y_nilE rfl) ?_; clear he; (try clear a); intro a he)
      first | (refine dyg 8 he rfl (y_fieldAddr rfl (FO.of (off := 0) Try.underlying48 rfl rfl ti46 (by decide))) ?_; clear he; (try clear a); intro a he) | (refine dyg 8 he rfl (y_faE rfl (FO.of (off := 0) Try.underlying48 rfl rfl ti46 (by decide))) ?_; clear he; (try clear a); intro a he)
      first | (refine dyg 9 he rfl (y_ld rfl Try.underlying46 rfl) ?_; clear he; (try clear a); intro a he) | (refine dyg 9 he rfl (y_ldE rfl Try.underlying46 rfl) ?_; clear he; (try clear a); intro a he)
      refine dyg 10 he rfl (y_ix (m := 0) rfl rfl Try.underlying46 ti23 rfl hRlD (by simp; omega)) ?_; clear he; (try clear a); intro a he
      refine dyg 11 he rfl (y_ldE rfl Try.underlying23 rfl hRlD (map_get hv0) rfl) ?_; clear he; (try clear a); intro a he
      refine dyg 12 he rfl (y_move rfl) ?_; clear he; (try clear a); intro a he
      first | (refine dyg 13 he rfl (y_nilCheck rfl) ?_; clear he; (try clear a); intro a he) | (refine dyg 13 he rfl (y_nilE rfl) ?_; clear he; (try clear a); intro a he)
      first | (refine dyg 14 he rfl (y_fieldAddr rfl (FO.of (off := 1) Try.underlying48 rfl rfl ti46 (by decide))) ?_; clear he; (try clear a); intro a he) | (refine dyg 14 he rfl (y_faE rfl (FO.of (off := 1) Try.underlying48 rfl rfl ti46 (by decide))) ?_; clear he; (try clear a); intro a he)
      first | (refine dyg 15 he rfl (y_ld rfl Try.underlying46 rfl) ?_; clear he; (try clear a); intro a he) | (refine dyg 15 he rfl (y_ldE rfl Try.underlying46 rfl) ?_; clear he; (try clear a); intro a he)
      refine dyg 16 he rfl (y_ix (m := 0) rfl rfl Try.underlying46 ti23 rfl hRwD (by simp; omega)) ?_; clear he; (try clear a); intro a he
      refine dyg 17 he rfl (y_ldE rfl Try.underlying23 rfl hRwD (map_get hu0) rfl) ?_; clear he; (try clear a); intro a he
      refine dcallg (v := .bool true) 18 he rfl rfl has58 rfl (fun f' L' w h1 h2 hw => book_Same_api_Attr_ok 1000002 (hRv.le h1) (hRu.le h1) (kb_self _ _ hxs0 (Nat.le_refl _)) _ _ _ hw) ?_; clear he; (try clear a); intro a he
      refine dyg 19 he rfl (y_not rfl) ?_; clear he; (try clear a); intro a he
      refine dy 20 he rfl (y_pick rfl rfl) ?_; clear he; (try clear a); intro a he
      first | (refine dy 21 he rfl (y_nilCheck rfl) ?_; clear he; (try clear a); intro a he) | (refine dy 21 he rfl (y_nilE rfl) ?_; clear he; (try clear a); intro a he)
      first | (refine dy 22 he rfl (y_fieldAddr rfl (FO.of (off := 3) Try.underlying48 rfl rfl ti4 (by decide))) ?_; clear he; (try clear a); intro a he) | (refine dy 22 he rfl (y_faE rfl (FO.of (off := 3) Try.underlying48 rfl rfl ti4 (by decide))) ?_; clear he; (try clear a); intro a he)
      refine D_eff (i := 23) rfl he ?_; clear he; (try clear a); intro a w hs
      refine sstore 0 hs rfl rfl rfl ti4 (by first | rfl | assumption) ?_; clear hs; (try clear a w); intro a w hs; (try simp only [List.set] at hs); (try simp only [Array.setIfInBounds] at hs)
      refine dend hs ?_; clear hs; (try clear a w); intro a he
      refine D_nil he ?_; clear he; (try clear a); intro w hs
      refine hK8 _ _ ?_; clear hK8
      refine W_seq fun K9 hK9 => ?_
      refine D_start hs ([.blk b (.cells #[cutv lv 1 lo lr.length, cutv wv 1 lo' wr.length, .int .i64 held, .bool false] 48 (0, 0)), .row lv 23 1 lr, .row wv 23 1 wr]) [16] [(0, true), (1, true), (2, true), (3, true), (4, true), (5, true), (6, true), (7, true), (8, true), (9, true), (10, true), (11, true), (12, true), (13, true), (14, true), (15, true), (16, false)] mixed (by kernel_rfl) ?_; clear hs; (try clear a w); intro a he
      refine dy 0 he rfl (y_move rfl) ?_; clear he; (try clear a); intro a he
      refine dy 1 he rfl (y_move rfl) ?_; clear he; (try clear a); intro a he
      first | (refine dy 2 he rfl (y_nilCheck rfl) ?_; clear he; (try clear a); intro a he) | (refine dy 2 he rfl (y_nilE rfl) ?_; clear he; (try clear a); intro a he)
      first | (refine dy 3 he rfl (y_fieldAddr rfl (FO.of (off := 2) Try.underlying48 rfl rfl ti3 (by decide))) ?_; clear he; (try clear a); intro a he) | (refine dy 3 he rfl (y_faE rfl (FO.of (off := 2) Try.underlying48 rfl rfl ti3 (by decide))) ?_; clear he; (try clear a); intro a he)
      first | (refine dy 4 he rfl (y_ld rfl Try.underlying3 rfl) ?_; clear he; (try clear a); intro a he) | (refine dy 4 he rfl (y_ldE rfl Try.underlying3 rfl) ?_; clear he; (try clear a); intro a he)
      refine dy 5 he rfl (y_move rfl) ?_; clear he; (try clear a); intro a he
      first | (refine dy 6 he rfl (y_nilCheck rfl) ?_; clear he; (try clear a); intro a he) | (refine dy 6 he rfl (y_nilE rfl) ?_; clear he; (try clear a); intro a he)
      first | (refine dy 7 he rfl (y_fieldAddr rfl (FO.of (off := 0) Try.underlying48 rfl rfl ti46 (by decide))) ?_; clear he; (try clear a); intro a he) | (refine dy 7 he rfl (y_faE rfl (FO.of (off := 0) Try.underlying48 rfl rfl ti46 (by decide))) ?_; clear he; (try clear a); intro a he)
      first | (refine dy 8 he rfl (y_ld rfl Try.underlying46 rfl) ?_; clear he; (try clear a); intro a he) | (refine dy 8 he rfl (y_ldE rfl Try.underlying46 rfl) ?_; clear he; (try clear a); intro a he)
      refine dy 9 he rfl (y_ix (m := 0) rfl rfl Try.underlying46 ti23 rfl hRlD (by simp; omega)) ?_; clear he; (try clear a); intro a he
      refine dy 10 he rfl (y_ldE rfl Try.underlying23 rfl hRlD (map_get hv0) rfl) ?_; clear he; (try clear a); intro a he
      refine dy 11 he rfl (y_cap rfl Try.underlying23) ?_; clear he; (try clear a); intro a he
      refine dy 12 he rfl (y_subW rfl rfl) ?_; clear he; (try clear a); intro a he
      refine dy 13 he rfl (y_subW rfl rfl) ?_; clear he; (try clear a); intro a he
      first | (refine dy 14 he rfl (y_nilCheck rfl) ?_; clear he; (try clear a); intro a he) | (refine dy 14 he rfl (y_nilE rfl) ?_; clear he; (try clear a); intro a he)
      first | (refine dy 15 he rfl (y_fieldAddr rfl (FO.of (off := 2) Try.underlying48 rfl rfl ti3 (by decide))) ?_; clear he; (try clear a); intro a he) | (refine dy 15 he rfl (y_faE rfl (FO.of (off := 2) Try.underlying48 rfl rfl ti3 (by decide))) ?_; clear he; (try clear a); intro a he)
      refine D_eff (i := 16) rfl he ?_; clear he; (try clear a); intro a w hs
      refine sstore 0 hs rfl rfl rfl ti3 (by first | rfl | assumption) ?_; clear hs; (try clear a w); intro a w hs; (try simp only [List.set] at hs); (try simp only [Array.setIfInBounds] at hs)
      replace hs : St _ _ _ (.blk b (.cells #[cutv lv 1 lo lr.length, cutv wv 1 lo' wr.length, .int .i64 (IntKind.i64.wrap (IntKind.i64.wrap (held - cap0) - 1)), .bool false] 48 (0, 0)) :: .row lv 23 1 lr :: .row wv 23 1 wr :: L) _ _ _ := hs
      refine dend hs ?_; clear hs; (try clear a w); intro a he
      refine D_nil he ?_; clear he; (try clear a); intro w hs
      refine hK9 _ _ ?_; clear hK9
      refine W_seq fun K10 hK10 => ?_
      refine W_region ?_
      refine sy hs (y_move rfl) ?_; clear hs; (try clear a w); intro a w hs
      refine sy hs (y_move rfl) ?_; clear hs; (try clear a w); intro a w hs
      first | (refine sy hs (y_nilCheck rfl) ?_; clear hs; (try clear a w); intro a w hs) | (refine sy hs (y_nilE rfl) ?_; clear hs; (try clear a w); intro a w hs)
      first | (refine sy hs (y_fieldAddr rfl (FO.of (off := 0) Try.underlying48 rfl rfl ti46 (by decide))) ?_; clear hs; (try clear a w); intro a w hs) | (refine sy hs (y_faE rfl (FO.of (off := 0) Try.underlying48 rfl rfl ti46 (by decide))) ?_; clear hs; (try clear a w); intro a w hs)
      first | (refine sy hs (y_ld rfl Try.underlying46 rfl) ?_; clear hs; (try clear a w); intro a w hs) | (refine sy hs (y_ldE rfl Try.underlying46 rfl) ?_; clear hs; (try clear a w); intro a w hs)
      refine sy hs (y_slice (v := cutv lv 1 lo lr.length) (lo := 1) (hi := lr.length - lo) rfl Try.underlying46 ti23 (.inr ⟨_, rfl, rfl⟩) (.inl ⟨rfl, by simp only [List.length_map]; omega⟩) (by omega) (by simp only [List.length_map]; omega) (rdCut (Rd.st hs (.tail _ (.head _))) hB.l0 hB.rl)) ?_; clear hs; (try clear a w); intro a w hs
      rw [cutv_cut (lo := lo) (Rd.st hs (.tail _ (.head _))) (by omega)] at hs
      have ho5 := ((Rd.st hs (.tail _ (.head _))).cut (lo := lo + 1) (hi := lr.length) (by omega) (Nat.le_refl _)).one
      first | (refine sy hs (y_nilCheck rfl) ?_; clear hs; (try clear a w); intro a w hs) | (refine sy hs (y_nilE rfl) ?_; clear hs; (try clear a w); intro a w hs)
      first | (refine sy hs (y_fieldAddr rfl (FO.of (off := 0) Try.underlying48 rfl rfl ti46 (by decide))) ?_; clear hs; (try clear a w); intro a w hs) | (refine sy hs (y_faE rfl (FO.of (off := 0) Try.underlying48 rfl rfl ti46 (by decide))) ?_; clear hs; (try clear a w); intro a w hs)
      refine sstore 0 hs rfl rfl rfl ti46 (by first | rfl | assumption) ?_; clear hs; (try clear a w); intro a w hs; (try simp only [List.set] at hs); (try simp only [Array.setIfInBounds] at hs)
      refine RL_nil ?_
      refine hK10 _ _ ?_; clear hK10
      replace hs : St _ _ _ (.blk b (.cells #[cutv lv 1 (lo + 1) lr.length, cutv wv 1 lo' wr.length, .int .i64 (IntKind.i64.wrap (IntKind.i64.wrap (held - cap0) - 1)), .bool false] 48 (0, 0)) :: .row lv 23 1 lr :: .row wv 23 1 wr :: L) _ _ _ := hs
      refine W_region ?_
      refine sy hs (y_move rfl) ?_; clear hs; (try clear a w); intro a w hs
      refine sy hs (y_move rfl) ?_; clear hs; (try clear a w); intro a w hs
      first | (refine sy hs (y_nilCheck rfl) ?_; clear hs; (try clear a w); intro a w hs) | (refine sy hs (y_nilE rfl) ?_; clear hs; (try clear a w); intro a w hs)
      first | (refine sy hs (y_fieldAddr rfl (FO.of (off := 1) Try.underlying48 rfl rfl ti46 (by decide))) ?_; clear hs; (try clear a w); intro a w hs) | (refine sy hs (y_faE rfl (FO.of (off := 1) Try.underlying48 rfl rfl ti46 (by decide))) ?_; clear hs; (try clear a w); intro a w hs)
      first | (refine sy hs (y_ld rfl Try.underlying46 rfl) ?_; clear hs; (try clear a w); intro a w hs) | (refine sy hs (y_ldE rfl Try.underlying46 rfl) ?_; clear hs; (try clear a w); intro a w hs)
      refine sy hs (y_slice (v := cutv wv 1 lo' wr.length) (lo := 1) (hi := wr.length - lo') rfl Try.underlying46 ti23 (.inr ⟨_, rfl, rfl⟩) (.inl ⟨rfl, by simp only [List.length_map]; omega⟩) (by omega) (by simp only [List.length_map]; omega) (rdCut (Rd.st hs (.tail _ (.tail _ (.head _)))) hB.w0 hB.rw)) ?_; clear hs; (try clear a w); intro a w hs
      rw [cutv_cut (lo := lo') (Rd.st hs (.tail _ (.tail _ (.head _)))) (by omega)] at hs
      have ho6 := ((Rd.st hs (.tail _ (.tail _ (.head _)))).cut (lo := lo' + 1) (hi := wr.length) (by omega) (Nat.le_refl _)).one
      first | (refine sy hs (y_nilCheck rfl) ?_; clear hs; (try clear a w); intro a w hs) | (refine sy hs (y_nilE rfl) ?_; clear hs; (try clear a w); intro a w hs)
      first | (refine sy hs (y_fieldAddr rfl (FO.of (off := 1) Try.underlying48 rfl rfl ti46 (by decide))) ?_; clear hs; (try clear a w); intro a w hs) | (refine sy hs (y_faE rfl (FO.of (off := 1) Try.underlying48 rfl rfl ti46 (by decide))) ?_; clear hs; (try clear a w); intro a w hs)
      refine sstore 0 hs rfl rfl rfl ti46 (by first | rfl | assumption) ?_; clear hs; (try clear a w); intro a w hs; (try simp only [List.set] at hs); (try simp only [Array.setIfInBounds] at hs)
      refine RL_nil ?_
      replace hs : St _ _ _ (.blk b (.cells #[cutv lv 1 (lo + 1) lr.length, cutv wv 1 (lo' + 1) wr.length, .int .i64 (IntKind.i64.wrap (IntKind.i64.wrap (held - cap0) - 1)), .bool false] 48 (0, 0)) :: .row lv 23 1 lr :: .row wv 23 1 wr :: L) _ _ _ := hs
      refine hK k _ _ (Nat.lt_succ_self _) ⟨lv, wv, lr, wr, lo + 1, lo' + 1, _, ls'.tail, ws'.tail, by simp; omega, hB.tail hl1, ⟨(List.tail_suffix _).trans hsf.1, hsf.2⟩, hs.sub ⟨rfl, trivial⟩⟩
    · clear hs; have hs := hq; clear hq
      refine syg hs (y_move rfl) ?_; clear hs; (try clear a w); intro a w hs
      first | (refine syg hs (y_nilCheck rfl) ?_; clear hs; (try clear a w); intro a w hs) | (refine syg hs (y_nilE rfl) ?_; clear hs; (try clear a w); intro a w hs)
      first | (refine syg hs (y_fieldAddr rfl (FO.of (off := 0) Try.underlying48 rfl rfl ti46 (by decide))) ?_; clear hs; (try clear a w); intro a w hs) | (refine syg hs (y_faE rfl (FO.of (off := 0) Try.underlying48 rfl rfl ti46 (by decide))) ?_; clear hs; (try clear a w); intro a w hs)
      first | (refine syg hs (y_ld rfl Try.underlying46 rfl) ?_; clear hs; (try clear a w); intro a w hs) | (refine syg hs (y_ldE rfl Try.underlying46 rfl) ?_; clear hs; (try clear a w); intro a w hs)
      refine syg hs (y_lenR0 hRl rfl Try.underlying46) ?_; clear hs; (try clear a w); intro a w hs
      refine syg hs (y_gtr rfl rfl) ?_; clear hs; (try clear a w); intro a w hs
      refine syg hs (y_pick rfl rfl) ?_; clear hs; (try clear a w); intro a w hs
      refine sy hs (y_pick rfl rfl) ?_; clear hs; (try clear a w); intro a w hs
      refine RL_nil ?_
      refine hK6 _ _ ?_; clear hK6
      first | refine W_condP hs rfl (fun h4 => ?_) (fun h4 => ?_) | refine W_cond hs rfl (fun h4 => ?_) (fun h4 => ?_)
      · exfalso
        have h5 : 4000 < ls'.length := by
          have h4' : (4000 : Int) < ((ls'.length : Nat) : Int) := by simpa using h4
          omega
        have h6 := hsf.1.length_le
        simp only [List.length_append, List.length_singleton] at h6
        omega
      · refine W_exit ?_
        refine hB4 _ _ ?_
        refine Rt_0 hs rfl ?_
        exact ⟨_, f1, [_, _, _], rfl, hf1, hs.cw, lv, wv, lr, wr, lo, lo', held, ls', ws', rfl, hB, hsf.1, by omega, by omega⟩
  · clear hs; have hs := hq; clear hq
    refine sno hs ?_; clear hs; (try clear a w); intro a w hs
    refine sno hs ?_; clear hs; (try clear a w); intro a w hs
    refine sno hs ?_; clear hs; (try clear a w); intro a w hs
    refine sno hs ?_; clear hs; (try clear a w); intro a w hs
    refine sno hs ?_; clear hs; (try clear a w); intro a w hs
    refine sno hs ?_; clear hs; (try clear a w); intro a w hs
    refine sun hs ?_; clear hs; (try clear a w); intro a w hs
    refine sun hs ?_; clear hs; (try clear a w); intro a w hs
    refine sun hs ?_; clear hs; (try clear a w); intro a w hs
    refine sun hs ?_; clear hs; (try clear a w); intro a w hs
    refine sun hs ?_; clear hs; (try clear a w); intro a w hs
    refine sun hs ?_; clear hs; (try clear a w); intro a w hs
    refine sno hs ?_; clear hs; (try clear a w); intro a w hs
    refine sy hs (y_pick rfl rfl) ?_; clear hs; (try clear a w); intro a w hs
    refine RL_nil ?_
    refine hK6 _ _ ?_; clear hK6
    refine W_condF hs rfl ?_
    refine W_exit ?_
    refine hB4 _ _ ?_
    refine Rt_0 hs rfl ?_
    exact ⟨_, f1, [_, _, _], rfl, hf1, hs.cw, lv, wv, lr, wr, lo, lo', held, ls', ws', rfl, hB, hsf.1, by omega, by omega⟩
