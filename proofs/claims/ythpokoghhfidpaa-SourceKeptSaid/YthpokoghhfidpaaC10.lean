/-
  Walks and laws of this seat; the base is the text Base.
-/
import Derived.Test.YthpokoghhfidpaaBase
import Derived.Test.YthpokoghhfidpaaRows
import Derived.Test.YthpokoghhfidpaaT1
import Derived.Test.YthpokoghhfidpaaC9
namespace Go.Proofs.Ythpokoghhfidpaa
open Go.RowKit Go.Sl

/-- Slices as the elements of a slice. -/
abbrev one (vs : List Value) : List (List Value) := vs.map fun v => [v]
abbrev bkT : TypeId := 36

theorem Runes_ok {f : Fz} {i : Nat} {j : Int} (hi : i ≤ 4000) : Gives Try.prog 16 [.int .i64 i, .int .i64 j] f (.int .i32 (-1000 - i)) := by
  intro w0 L w hC
  refine enter Try.func16 rfl Try.ntmps16 (by simp) hC fun a hs => ?_
  refine W_seq fun K1 hK1 => ?_
  refine W_region ?_
  refine sy hs (y_assign rfl) ?_; clear hs; (try clear a w); intro a w hs
  refine RL_nil ?_
  refine hK1 _ _ ?_; clear hK1
  refine W_seq fun K2 hK2 => ?_
  refine W_region ?_
  refine sy hs (y_move rfl) ?_; clear hs; (try clear a w); intro a w hs
  refine sy hs (y_sub rfl rfl (wr_i64 (by omega))) ?_; clear hs; (try clear a w); intro a w hs
  refine sy hs (y_i2i rfl rfl Try.underlying21 (wr_i32 (by omega))) ?_; clear hs; (try clear a w); intro a w hs
  refine sy hs (y_assign rfl) ?_; clear hs; (try clear a w); intro a w hs
  refine RL_nil ?_
  refine hK2 _ _ ?_; clear hK2
  refine W_ret ?_
  refine Rt_1 hs rfl rfl ?_
  exact ⟨rfl, hs.cw⟩


theorem Keep_first {f : Fz} {w0 w : World} {L : List Ent} {b : Nat} {lv : Value} {xs : List Int} (hm : xs.length ≤ 35184372087000) (hC : Cw w0 f (.row lv 21 1 (rl xs) :: .blk b (.cells #[.slice none 0 0, .slice none 0 0, .int .i64 0, .bool false] bkT) :: L) w) :
    Calls Try.prog 14 [.pointer (some ⟨b, 0, none⟩), lv].toArray w fun e w' => ∃ r f' L', e = .returned r ∧ Fz.le f f' ∧ Cw w0 f' L' w' ∧ ∃ lsv wsv cv held, Rd f' [] cv 1 (rl xs) ∧
      L' = .row wsv 24 1 (one [cv]) :: .row lsv 24 1 (one [lv]) :: .row lv 21 1 (rl xs) :: .blk b (.cells #[lsv, wsv, .int .i64 held, .bool false] bkT) :: L := by
  refine enter Try.func14 rfl Try.ntmps14 (by simp) hC fun a hs => ?_
  have hlv := (Rd.st hs (.head _)).one
  have hRl := Rd.st hs (.head _)
  obtain ⟨hl0, ao, cap, rfl, e1, e2, e3⟩ := id hRl
  replace hs := hs.nilRow 24 1
  refine W_seq fun K1 hK1 => ?_
  refine W_region ?_
  refine sy hs (y_move rfl) ?_; clear hs; (try clear a w); intro a w hs
  refine sy hs (y_move rfl) ?_; clear hs; (try clear a w); intro a w hs
  first | (refine sy hs (y_nilCheck rfl) ?_; clear hs; (try clear a w); intro a w hs) | (refine sy hs (y_nilE rfl) ?_; clear hs; (try clear a w); intro a w hs)
  first | (refine sy hs (y_fieldAddr rfl (FO.of (off := 0) Try.underlying36 rfl rfl ti34 (by decide))) ?_; clear hs; (try clear a w); intro a w hs) | (refine sy hs (y_faE rfl (FO.of (off := 0) Try.underlying36 rfl rfl ti34 (by decide))) ?_; clear hs; (try clear a w); intro a w hs)
  first | (refine sy hs (y_ld rfl Try.underlying34 rfl) ?_; clear hs; (try clear a w); intro a w hs) | (refine sy hs (y_ldE rfl Try.underlying34 rfl) ?_; clear hs; (try clear a w); intro a w hs)
  refine sy hs (y_move rfl) ?_; clear hs; (try clear a w); intro a w hs
  refine RL_bs1s hs rfl Try.underlying34 ti24 rfl (by first | rfl | assumption) ?_; clear hs; (try clear a w); intro tv a w hs
  refine RL_app1 0 hs rfl rfl rfl Try.underlying34 ti24 (by decide) (by simp) ?_; clear hs; (try clear a w); intro v11 a w hs; simp only [List.set] at hs
  have hv11 := (Rd.st hs (.head _)).one
  first | (refine sy hs (y_nilCheck rfl) ?_; clear hs; (try clear a w); intro a w hs) | (refine sy hs (y_nilE rfl) ?_; clear hs; (try clear a w); intro a w hs)
  first | (refine sy hs (y_fieldAddr rfl (FO.of (off := 0) Try.underlying36 rfl rfl ti34 (by decide))) ?_; clear hs; (try clear a w); intro a w hs) | (refine sy hs (y_faE rfl (FO.of (off := 0) Try.underlying36 rfl rfl ti34 (by decide))) ?_; clear hs; (try clear a w); intro a w hs)
  refine sstore 2 hs rfl rfl rfl ti34 (by first | rfl | assumption) ?_; clear hs; (try clear a w); intro a w hs; (try simp only [List.set] at hs); (try simp only [Array.setIfInBounds] at hs)
  refine RL_nil ?_
  refine hK1 _ _ ?_; clear hK1
  refine W_seq fun K2 hK2 => ?_
  refine D_start hs ([.blk b (.cells #[v11, .slice none 0 0, .int .i64 0, .bool false] bkT)]) [11] [(0, true), (1, true), (2, true), (3, true), (4, true), (5, true), (6, false), (7, false), (8, false), (9, true), (10, true), (11, false)] mixed (by kernel_rfl) ?_; clear hs; (try clear a w); intro a he
  refine dy 0 he rfl (y_move rfl) ?_; clear he; (try clear a); intro a he
  refine dy 1 he rfl (y_move rfl) ?_; clear he; (try clear a); intro a he
  first | (refine dy 2 he rfl (y_nilCheck rfl) ?_; clear he; (try clear a); intro a he) | (refine dy 2 he rfl (y_nilE rfl) ?_; clear he; (try clear a); intro a he)
  first | (refine dy 3 he rfl (y_fieldAddr rfl (FO.of (off := 1) Try.underlying36 rfl rfl ti34 (by decide))) ?_; clear he; (try clear a); intro a he) | (refine dy 3 he rfl (y_faE rfl (FO.of (off := 1) Try.underlying36 rfl rfl ti34 (by decide))) ?_; clear he; (try clear a); intro a he)
  first | (refine dy 4 he rfl (y_ld rfl Try.underlying34 rfl) ?_; clear he; (try clear a); intro a he) | (refine dy 4 he rfl (y_ldE rfl Try.underlying34 rfl) ?_; clear he; (try clear a); intro a he)
  refine dy 5 he rfl (y_move rfl) ?_; clear he; (try clear a); intro a he
  refine D_eff (i := 6) rfl he ?_; clear he; (try clear a); intro a w hs
  refine RL_appNil hs rfl rfl (Rd.st hs (.tail _ (.head _))) Try.underlying24 ti21 (by decide) (by simp; omega) ?_; clear hs; (try clear a w); intro cv a w hs
  have hcv := (Rd.st hs (.head _)).one
  refine don hs ?_; clear hs; (try clear a w); intro a he
  refine D_eff (i := 7) rfl he ?_; clear he; (try clear a); intro a w hs
  refine RL_bs1s hs rfl Try.underlying34 ti24 rfl (by first | rfl | assumption) ?_; clear hs; (try clear a w); intro tv a w hs
  refine don hs ?_; clear hs; (try clear a w); intro a he
  refine D_eff (i := 8) rfl he ?_; clear he; (try clear a); intro a w hs
  refine RL_appNil hs rfl rfl (Rd.st hs (.head _)) Try.underlying34 ti24 (by decide) (by simp) ?_; clear hs; (try clear a w); intro wsv a w hs
  replace hs := hs.erase 1
  have hwsv := (Rd.st hs (.head _)).one
  obtain ⟨f1, hf1, hs, hRc⟩ := hs.frzAt 1 rfl
  refine don hs ?_; clear hs; (try clear a w); intro a he
  first | (refine dy 9 he rfl (y_nilCheck rfl) ?_; clear he; (try clear a); intro a he) | (refine dy 9 he rfl (y_nilE rfl) ?_; clear he; (try clear a); intro a he)
  first | (refine dy 10 he rfl (y_fieldAddr rfl (FO.of (off := 1) Try.underlying36 rfl rfl ti34 (by decide))) ?_; clear he; (try clear a); intro a he) | (refine dy 10 he rfl (y_faE rfl (FO.of (off := 1) Try.underlying36 rfl rfl ti34 (by decide))) ?_; clear he; (try clear a); intro a he)
  refine D_eff (i := 11) rfl he ?_; clear he; (try clear a); intro a w hs
  refine sstore 3 hs rfl rfl rfl ti34 (by first | rfl | assumption) ?_; clear hs; (try clear a w); intro a w hs; (try simp only [List.set] at hs); (try simp only [Array.setIfInBounds] at hs)
  refine dend hs ?_; clear hs; (try clear a w); intro a he
  refine D_nil he ?_; clear he; (try clear a); intro w hs
  refine hK2 _ _ ?_; clear hK2
  refine W_seq fun K3 hK3 => ?_
  refine W_region ?_
  refine sy hs (y_move rfl) ?_; clear hs; (try clear a w); intro a w hs
  refine sy hs (y_move rfl) ?_; clear hs; (try clear a w); intro a w hs
  first | (refine sy hs (y_nilCheck rfl) ?_; clear hs; (try clear a w); intro a w hs) | (refine sy hs (y_nilE rfl) ?_; clear hs; (try clear a w); intro a w hs)
  first | (refine sy hs (y_fieldAddr rfl (FO.of (off := 2) Try.underlying36 rfl rfl ti3 (by decide))) ?_; clear hs; (try clear a w); intro a w hs) | (refine sy hs (y_faE rfl (FO.of (off := 2) Try.underlying36 rfl rfl ti3 (by decide))) ?_; clear hs; (try clear a w); intro a w hs)
  first | (refine sy hs (y_ld rfl Try.underlying3 rfl) ?_; clear hs; (try clear a w); intro a w hs) | (refine sy hs (y_ldE rfl Try.underlying3 rfl) ?_; clear hs; (try clear a w); intro a w hs)
  refine sy hs (y_move rfl) ?_; clear hs; (try clear a w); intro a w hs
  refine sy hs (y_cap rfl Try.underlying24) ?_; clear hs; (try clear a w); intro a w hs
  refine sy hs (y_addW rfl rfl) ?_; clear hs; (try clear a w); intro a w hs
  refine sy hs (y_addW rfl rfl) ?_; clear hs; (try clear a w); intro a w hs
  first | (refine sy hs (y_nilCheck rfl) ?_; clear hs; (try clear a w); intro a w hs) | (refine sy hs (y_nilE rfl) ?_; clear hs; (try clear a w); intro a w hs)
  first | (refine sy hs (y_fieldAddr rfl (FO.of (off := 2) Try.underlying36 rfl rfl ti3 (by decide))) ?_; clear hs; (try clear a w); intro a w hs) | (refine sy hs (y_faE rfl (FO.of (off := 2) Try.underlying36 rfl rfl ti3 (by decide))) ?_; clear hs; (try clear a w); intro a w hs)
  refine sstore 3 hs rfl rfl rfl ti3 (by first | rfl | assumption) ?_; clear hs; (try clear a w); intro a w hs; (try simp only [List.set] at hs); (try simp only [Array.setIfInBounds] at hs)
  refine RL_nil ?_
  refine hK3 _ _ ?_; clear hK3
  refine W_block fun Qe4 hB4 hO4 => ?_
  refine W_loop (fun (_ : Nat) a w => St 112 w0 f1 (.row wsv 24 1 (one [cv]) :: .row v11 24 1 (one [.slice ao (rl xs).length cap]) :: .row (.slice ao (rl xs).length cap) 21 1 (rl xs) :: .blk b (.cells #[v11, wsv, .int .i64 (IntKind.i64.wrap (IntKind.i64.wrap (0 + cap) + 1)), .bool false] bkT) :: L)
    [(0, .pointer (some ⟨b, 0, none⟩))] a w) (fun _ => 0) 0 (hs.sub ⟨rfl, trivial⟩) ?_
  clear hs; rintro k a w hs K hK
  refine W_seq fun K5 hK5 => ?_
  refine W_seq fun K6 hK6 => ?_
  refine W_region ?_
  refine sy hs (y_move rfl) ?_; clear hs; (try clear a w); intro a w hs
  first | (refine sy hs (y_nilCheck rfl) ?_; clear hs; (try clear a w); intro a w hs) | (refine sy hs (y_nilE rfl) ?_; clear hs; (try clear a w); intro a w hs)
  first | (refine sy hs (y_fieldAddr rfl (FO.of (off := 0) Try.underlying36 rfl rfl ti34 (by decide))) ?_; clear hs; (try clear a w); intro a w hs) | (refine sy hs (y_faE rfl (FO.of (off := 0) Try.underlying36 rfl rfl ti34 (by decide))) ?_; clear hs; (try clear a w); intro a w hs)
  first | (refine sy hs (y_ld rfl Try.underlying34 rfl) ?_; clear hs; (try clear a w); intro a w hs) | (refine sy hs (y_ldE rfl Try.underlying34 rfl) ?_; clear hs; (try clear a w); intro a w hs)
  first | (refine sy hs (y_lenM rfl Try.underlying34) ?_; clear hs; (try clear a w); intro a w hs) | (refine sy hs (y_lenR rfl Try.underlying34) ?_; clear hs; (try clear a w); intro a w hs) | (refine sy hs (y_len rfl Try.underlying34) ?_; clear hs; (try clear a w); intro a w hs)
  refine sy hs (y_gtr rfl rfl) ?_; clear hs; (try clear a w); intro a w hs
  refine sy hs (y_move rfl) ?_; clear hs; (try clear a w); intro a w hs
  refine sno hs ?_; clear hs; (try clear a w); intro a w hs
  refine sno hs ?_; clear hs; (try clear a w); intro a w hs
  refine sno hs ?_; clear hs; (try clear a w); intro a w hs
  refine sno hs ?_; clear hs; (try clear a w); intro a w hs
  refine sno hs ?_; clear hs; (try clear a w); intro a w hs
  refine sno hs ?_; clear hs; (try clear a w); intro a w hs
  refine sun hs ?_; clear hs; (try clear a w); intro a w hs
  refine sun hs ?_; clear hs; (try clear a w); intro a w hs
  refine sun hs ?_; clear hs; (try clear a w); intro a w hs
  refine sun hs ?_; clear hs; (try clear a w); intro a w hs
  refine sun hs ?_; clear hs; (try clear a w); intro a w hs
  refine sun hs ?_; clear hs; (try clear a w); intro a w hs
  refine sno hs ?_; clear hs; (try clear a w); intro a w hs
  refine sy hs (y_pick rfl rfl) ?_; clear hs; (try clear a w); intro a w hs
  refine RL_nil ?_
  refine hK6 _ _ ?_; clear hK6
  refine W_condF hs rfl ?_
  refine W_exit ?_
  refine hB4 _ _ ?_
  refine Rt_0 hs rfl ?_
  exact ⟨_, f1, _, rfl, hf1, hs.cw, v11, wsv, cv, _, hRc, rfl⟩



theorem Keep_second {f : Fz} {w0 w : World} {L : List Ent} {b : Nat} {lv lv0 lsv wsv cv0 : Value} {held0 : Int} {xs xs0 : List Int} (hm : xs.length ≤ 35184372087000) (hm0 : xs0.length ≤ 35184372087000) (hR0 : Rd f [] cv0 1 (rl xs0))
    (hC : Cw w0 f (.row lv 21 1 (rl xs) :: .row wsv 24 1 (one [cv0]) :: .row lsv 24 1 (one [lv0]) :: .row lv0 21 1 (rl xs0) :: .blk b (.cells #[lsv, wsv, .int .i64 held0, .bool false] bkT) :: L) w) :
    Calls Try.prog 14 [.pointer (some ⟨b, 0, none⟩), lv].toArray w fun e w' => ∃ r f' L', e = .returned r ∧ Fz.le f f' ∧ Cw w0 f' L' w' ∧ ∃ lsv wsv cv held ls ws, Rd f' [] cv 1 (rl xs) ∧ Rd f' [] lsv 1 (one ls) ∧ Rd f' [] wsv 1 (one ws) ∧
      ((ls = [lv0, lv] ∧ ws = [cv0, cv]) ∨ (ls = [lv] ∧ ws = [cv])) ∧
      L' = .row lv 21 1 (rl xs) :: .row lv0 21 1 (rl xs0) :: .blk b (.cells #[lsv, wsv, .int .i64 held, .bool false] bkT) :: L := by
  refine enter Try.func14 rfl Try.ntmps14 (by simp) hC fun a hs => ?_
  have hlv := (Rd.st hs (.head _)).one
  obtain ⟨_, ao, cap, rfl, _⟩ := Rd.st hs (.head _)
  obtain ⟨_, ao0, cap0, rfl, _⟩ := Rd.st hs (.tail _ (.tail _ (.tail _ (.head _))))
  obtain ⟨lv, hlvq⟩ : ∃ lv, lv = Value.slice ao (rl xs).length cap := ⟨_, rfl⟩
  obtain ⟨lv0, hlvq0⟩ : ∃ lv, lv = Value.slice ao0 (rl xs0).length cap0 := ⟨_, rfl⟩
  refine W_seq fun K1 hK1 => ?_
  refine W_region ?_
  refine sy hs (y_move rfl) ?_; clear hs; (try clear a w); intro a w hs
  refine sy hs (y_move rfl) ?_; clear hs; (try clear a w); intro a w hs
  first | (refine sy hs (y_nilCheck rfl) ?_; clear hs; (try clear a w); intro a w hs) | (refine sy hs (y_nilE rfl) ?_; clear hs; (try clear a w); intro a w hs)
  first | (refine sy hs (y_fieldAddr rfl (FO.of (off := 0) Try.underlying36 rfl rfl ti34 (by decide))) ?_; clear hs; (try clear a w); intro a w hs) | (refine sy hs (y_faE rfl (FO.of (off := 0) Try.underlying36 rfl rfl ti34 (by decide))) ?_; clear hs; (try clear a w); intro a w hs)
  first | (refine sy hs (y_ld rfl Try.underlying34 rfl) ?_; clear hs; (try clear a w); intro a w hs) | (refine sy hs (y_ldE rfl Try.underlying34 rfl) ?_; clear hs; (try clear a w); intro a w hs)
  refine sy hs (y_move rfl) ?_; clear hs; (try clear a w); intro a w hs
  refine RL_bs1s hs rfl Try.underlying34 ti24 rfl (by first | rfl | assumption) ?_; clear hs; (try clear a w); intro tv a w hs
  refine RL_app1 2 hs rfl rfl rfl Try.underlying34 ti24 (by decide) (by simp) ?_; clear hs; (try clear a w); intro v11 a w hs; simp only [List.set] at hs
  have hv11 := (Rd.st hs (.tail _ (.tail _ (.head _)))).one
  first | (refine sy hs (y_nilCheck rfl) ?_; clear hs; (try clear a w); intro a w hs) | (refine sy hs (y_nilE rfl) ?_; clear hs; (try clear a w); intro a w hs)
  first | (refine sy hs (y_fieldAddr rfl (FO.of (off := 0) Try.underlying36 rfl rfl ti34 (by decide))) ?_; clear hs; (try clear a w); intro a w hs) | (refine sy hs (y_faE rfl (FO.of (off := 0) Try.underlying36 rfl rfl ti34 (by decide))) ?_; clear hs; (try clear a w); intro a w hs)
  refine sstore 4 hs rfl rfl rfl ti34 (by first | rfl | assumption) ?_; clear hs; (try clear a w); intro a w hs; (try simp only [List.set] at hs); (try simp only [Array.setIfInBounds] at hs)
  refine RL_nil ?_
  refine hK1 _ _ ?_; clear hK1
  refine W_seq fun K2 hK2 => ?_
  refine D_start hs ([.blk b (.cells #[v11, wsv, .int .i64 held0, .bool false] bkT)]) [11] [(0, true), (1, true), (2, true), (3, true), (4, true), (5, true), (6, false), (7, false), (8, false), (9, true), (10, true), (11, false)] mixed (by kernel_rfl) ?_; clear hs; (try clear a w); intro a he
  refine dy 0 he rfl (y_move rfl) ?_; clear he; (try clear a); intro a he
  refine dy 1 he rfl (y_move rfl) ?_; clear he; (try clear a); intro a he
  first | (refine dy 2 he rfl (y_nilCheck rfl) ?_; clear he; (try clear a); intro a he) | (refine dy 2 he rfl (y_nilE rfl) ?_; clear he; (try clear a); intro a he)
  first | (refine dy 3 he rfl (y_fieldAddr rfl (FO.of (off := 1) Try.underlying36 rfl rfl ti34 (by decide))) ?_; clear he; (try clear a); intro a he) | (refine dy 3 he rfl (y_faE rfl (FO.of (off := 1) Try.underlying36 rfl rfl ti34 (by decide))) ?_; clear he; (try clear a); intro a he)
  first | (refine dy 4 he rfl (y_ld rfl Try.underlying34 rfl) ?_; clear he; (try clear a); intro a he) | (refine dy 4 he rfl (y_ldE rfl Try.underlying34 rfl) ?_; clear he; (try clear a); intro a he)
  refine dy 5 he rfl (y_move rfl) ?_; clear he; (try clear a); intro a he
  refine D_eff (i := 6) rfl he ?_; clear he; (try clear a); intro a w hs
  refine RL_appNil hs rfl rfl (Rd.st hs (.head _)) Try.underlying24 ti21 (by decide) (by simp; omega) ?_; clear hs; (try clear a w); intro cv a w hs
  have hcv := (Rd.st hs (.head _)).one
  refine don hs ?_; clear hs; (try clear a w); intro a he
  refine D_eff (i := 7) rfl he ?_; clear he; (try clear a); intro a w hs
  refine RL_bs1s hs rfl Try.underlying34 ti24 rfl (by first | rfl | assumption) ?_; clear hs; (try clear a w); intro tv a w hs
  refine don hs ?_; clear hs; (try clear a w); intro a he
  refine D_eff (i := 8) rfl he ?_; clear he; (try clear a); intro a w hs
  refine RL_append (i := 3) hs rfl rfl rfl (Rd.st hs (.head _)) Try.underlying34 ti24 (by decide) (by simp [maxLen]) (.free rfl) (by decide) ?_; clear hs; (try clear a w); intro wsv2 a w hs; simp only [List.set] at hs
  replace hs := hs.tail
  have hwsv := (Rd.st hs (.tail _ (.tail _ (.head _)))).one
  obtain ⟨f1, hf1, hs, hRc⟩ := hs.frz
  obtain ⟨f2, hf2, hs, hRw⟩ := hs.frzAt 1 rfl
  obtain ⟨f3, hf3, hs, hRl⟩ := hs.frzAt 1 rfl
  have hf := hf1.trans (hf2.trans hf3)
  replace hRc := hRc.le (hf2.trans hf3)
  replace hRw := hRw.le hf3
  replace hR0 := hR0.le hf
  refine don hs ?_; clear hs; (try clear a w); intro a he
  first | (refine dy 9 he rfl (y_nilCheck rfl) ?_; clear he; (try clear a); intro a he) | (refine dy 9 he rfl (y_nilE rfl) ?_; clear he; (try clear a); intro a he)
  first | (refine dy 10 he rfl (y_fieldAddr rfl (FO.of (off := 1) Try.underlying36 rfl rfl ti34 (by decide))) ?_; clear he; (try clear a); intro a he) | (refine dy 10 he rfl (y_faE rfl (FO.of (off := 1) Try.underlying36 rfl rfl ti34 (by decide))) ?_; clear he; (try clear a); intro a he)
  refine D_eff (i := 11) rfl he ?_; clear he; (try clear a); intro a w hs
  refine sstore 2 hs rfl rfl rfl ti34 (by first | rfl | assumption) ?_; clear hs; (try clear a w); intro a w hs; (try simp only [List.set] at hs); (try simp only [Array.setIfInBounds] at hs)
  refine dend hs ?_; clear hs; (try clear a w); intro a he
  refine D_nil he ?_; clear he; (try clear a); intro w hs
  refine hK2 _ _ ?_; clear hK2
  refine W_seq fun K3 hK3 => ?_
  refine W_region ?_
  refine sy hs (y_move rfl) ?_; clear hs; (try clear a w); intro a w hs
  refine sy hs (y_move rfl) ?_; clear hs; (try clear a w); intro a w hs
  first | (refine sy hs (y_nilCheck rfl) ?_; clear hs; (try clear a w); intro a w hs) | (refine sy hs (y_nilE rfl) ?_; clear hs; (try clear a w); intro a w hs)
  first | (refine sy hs (y_fieldAddr rfl (FO.of (off := 2) Try.underlying36 rfl rfl ti3 (by decide))) ?_; clear hs; (try clear a w); intro a w hs) | (refine sy hs (y_faE rfl (FO.of (off := 2) Try.underlying36 rfl rfl ti3 (by decide))) ?_; clear hs; (try clear a w); intro a w hs)
  first | (refine sy hs (y_ld rfl Try.underlying3 rfl) ?_; clear hs; (try clear a w); intro a w hs) | (refine sy hs (y_ldE rfl Try.underlying3 rfl) ?_; clear hs; (try clear a w); intro a w hs)
  refine sy hs (y_move rfl) ?_; clear hs; (try clear a w); intro a w hs
  refine sy hs (y_cap rfl Try.underlying24) ?_; clear hs; (try clear a w); intro a w hs
  refine sy hs (y_addW rfl rfl) ?_; clear hs; (try clear a w); intro a w hs
  refine sy hs (y_addW rfl rfl) ?_; clear hs; (try clear a w); intro a w hs
  first | (refine sy hs (y_nilCheck rfl) ?_; clear hs; (try clear a w); intro a w hs) | (refine sy hs (y_nilE rfl) ?_; clear hs; (try clear a w); intro a w hs)
  first | (refine sy hs (y_fieldAddr rfl (FO.of (off := 2) Try.underlying36 rfl rfl ti3 (by decide))) ?_; clear hs; (try clear a w); intro a w hs) | (refine sy hs (y_faE rfl (FO.of (off := 2) Try.underlying36 rfl rfl ti3 (by decide))) ?_; clear hs; (try clear a w); intro a w hs)
  refine sstore 2 hs rfl rfl rfl ti3 (by first | rfl | assumption) ?_; clear hs; (try clear a w); intro a w hs; (try simp only [List.set] at hs); (try simp only [Array.setIfInBounds] at hs)
  refine RL_nil ?_
  refine hK3 _ _ ?_; clear hK3
  refine W_block fun Qe4 hB4 hO4 => ?_
  have hRl' : Rd f3 [] v11 1 (one [.slice ao0 (rl xs0).length cap0, .slice ao (rl xs).length cap]) := hRl
  have hRw' : Rd f3 [] wsv2 1 (one [cv0, cv]) := hRw
  have hcl : Rd f3 [] (cutv v11 1 1 2) 1 (one [.slice ao (rl xs).length cap]) := hRl'.cut (lo := 1) (hi := 2) (by decide) (by simp)
  have hcw : Rd f3 [] (cutv wsv2 1 1 2) 1 (one [cv]) := hRw'.cut (lo := 1) (hi := 2) (by decide) (by simp)
  have hc1 := hcl.one
  have hc2 := hcw.one
  refine W_loop (fun (k : Nat) a w => ∃ held, k ≤ 1 ∧ St 112 w0 f3 (.row (.slice ao (rl xs).length cap) 21 1 (rl xs) :: .row (.slice ao0 (rl xs0).length cap0) 21 1 (rl xs0) :: .blk b (.cells (if k = 0 then #[v11, wsv2, .int .i64 held, .bool false] else #[cutv v11 1 1 2, cutv wsv2 1 1 2, .int .i64 held, .bool false]) bkT) :: L)
    [(0, .pointer (some ⟨b, 0, none⟩))] a w) (fun k => 1 - k) 0 ⟨_, by decide, hs.sub ⟨rfl, trivial⟩⟩ ?_
  clear hs; rintro k a w ⟨held, hk, hs⟩ K hK
  by_cases hk0 : k = 0
  · subst hk0
    rw [if_pos rfl] at hs
    refine W_seq fun K5 hK5 => ?_
    refine W_seq fun K6 hK6 => ?_
    refine W_region ?_
    refine sy hs (y_move rfl) ?_; clear hs; (try clear a w); intro a w hs
    first | (refine sy hs (y_nilCheck rfl) ?_; clear hs; (try clear a w); intro a w hs) | (refine sy hs (y_nilE rfl) ?_; clear hs; (try clear a w); intro a w hs)
    first | (refine sy hs (y_fieldAddr rfl (FO.of (off := 0) Try.underlying36 rfl rfl ti34 (by decide))) ?_; clear hs; (try clear a w); intro a w hs) | (refine sy hs (y_faE rfl (FO.of (off := 0) Try.underlying36 rfl rfl ti34 (by decide))) ?_; clear hs; (try clear a w); intro a w hs)
    first | (refine sy hs (y_ld rfl Try.underlying34 rfl) ?_; clear hs; (try clear a w); intro a w hs) | (refine sy hs (y_ldE rfl Try.underlying34 rfl) ?_; clear hs; (try clear a w); intro a w hs)
    first | (refine sy hs (y_lenM rfl Try.underlying34) ?_; clear hs; (try clear a w); intro a w hs) | (refine sy hs (y_lenR rfl Try.underlying34) ?_; clear hs; (try clear a w); intro a w hs) | (refine sy hs (y_len rfl Try.underlying34) ?_; clear hs; (try clear a w); intro a w hs)
    refine sy hs (y_gtr rfl rfl) ?_; clear hs; (try clear a w); intro a w hs
    refine sy hs (y_move rfl) ?_; clear hs; (try clear a w); intro a w hs
    refine syg hs (y_move rfl) ?_; clear hs; (try clear a w); intro a w hs
    first | (refine syg hs (y_nilCheck rfl) ?_; clear hs; (try clear a w); intro a w hs) | (refine syg hs (y_nilE rfl) ?_; clear hs; (try clear a w); intro a w hs)
    first | (refine syg hs (y_fieldAddr rfl (FO.of (off := 2) Try.underlying36 rfl rfl ti3 (by decide))) ?_; clear hs; (try clear a w); intro a w hs) | (refine syg hs (y_faE rfl (FO.of (off := 2) Try.underlying36 rfl rfl ti3 (by decide))) ?_; clear hs; (try clear a w); intro a w hs)
    first | (refine syg hs (y_ld rfl Try.underlying3 rfl) ?_; clear hs; (try clear a w); intro a w hs) | (refine syg hs (y_ldE rfl Try.underlying3 rfl) ?_; clear hs; (try clear a w); intro a w hs)
    refine syg hs (y_gtr rfl rfl) ?_; clear hs; (try clear a w); intro a w hs
    refine syg hs (y_move rfl) ?_; clear hs; (try clear a w); intro a w hs
    first | refine St.splitP hs (t := 48) rfl (fun hh hq => ?_) (fun hh hq => ?_) | refine St.split hs (t := 48) rfl (fun hh hq => ?_) (fun hh hq => ?_)
    · clear hs; have hs := hq; clear hq
      refine sno hs ?_; clear hs; (try clear a w); intro a w hs
      refine sno hs ?_; clear hs; (try clear a w); intro a w hs
      refine sno hs ?_; clear hs; (try clear a w); intro a w hs
      refine sno hs ?_; clear hs; (try clear a w); intro a w hs
      refine sno hs ?_; clear hs; (try clear a w); intro a w hs
      refine sno hs ?_; clear hs; (try clear a w); intro a w hs
      refine syg hs (y_pick rfl rfl) ?_; clear hs; (try clear a w); intro a w hs
      refine sy hs (y_pick rfl rfl) ?_; clear hs; (try clear a w); intro a w hs
      refine RL_nil ?_
      refine hK6 _ _ ?_; clear hK6
      refine W_condT hs rfl ?_
      refine W_skip ?_
      refine hK5 _ _ ?_; clear hK5
      refine W_block fun Qe7 hB7 hO7 => ?_
      refine W_seq fun K8 hK8 => ?_
      refine D_start hs ([.row (.slice ao0 (rl xs0).length cap0) 21 1 (rl xs0), .blk b (.cells #[v11, wsv2, .int .i64 held, .bool false] bkT)]) [23] [(0, true), (1, true), (2, true), (3, true), (4, true), (5, true), (6, true), (7, true), (8, true), (9, true), (10, true), (11, true), (12, true), (13, true), (14, true), (15, true), (16, true), (17, true), (18, true), (19, true), (20, true), (21, true), (22, true), (23, false)] mixed (by kernel_rfl) ?_; clear hs; (try clear a w); intro a he
      refine dy 0 he rfl (y_move rfl) ?_; clear he; (try clear a); intro a he
      refine dy 1 he rfl (y_move rfl) ?_; clear he; (try clear a); intro a he
      first | (refine dy 2 he rfl (y_nilCheck rfl) ?_; clear he; (try clear a); intro a he) | (refine dy 2 he rfl (y_nilE rfl) ?_; clear he; (try clear a); intro a he)
      first | (refine dy 3 he rfl (y_fieldAddr rfl (FO.of (off := 3) Try.underlying36 rfl rfl ti4 (by decide))) ?_; clear he; (try clear a); intro a he) | (refine dy 3 he rfl (y_faE rfl (FO.of (off := 3) Try.underlying36 rfl rfl ti4 (by decide))) ?_; clear he; (try clear a); intro a he)
      first | (refine dy 4 he rfl (y_ld rfl Try.underlying4 rfl) ?_; clear he; (try clear a); intro a he) | (refine dy 4 he rfl (y_ldE rfl Try.underlying4 rfl) ?_; clear he; (try clear a); intro a he)
      refine dy 5 he rfl (y_move rfl) ?_; clear he; (try clear a); intro a he
      refine dyg 6 he rfl (y_move rfl) ?_; clear he; (try clear a); intro a he
      first | (refine dyg 7 he rfl (y_nilCheck rfl) ?_; clear he; (try clear a); intro a he) | (refine dyg 7 he rfl (y_nilE rfl) ?_; clear he; (try clear a); intro a he)
      first | (refine dyg 8 he rfl (y_fieldAddr rfl (FO.of (off := 0) Try.underlying36 rfl rfl ti34 (by decide))) ?_; clear he; (try clear a); intro a he) | (refine dyg 8 he rfl (y_faE rfl (FO.of (off := 0) Try.underlying36 rfl rfl ti34 (by decide))) ?_; clear he; (try clear a); intro a he)
      first | (refine dyg 9 he rfl (y_ld rfl Try.underlying34 rfl) ?_; clear he; (try clear a); intro a he) | (refine dyg 9 he rfl (y_ldE rfl Try.underlying34 rfl) ?_; clear he; (try clear a); intro a he)
      refine dyg 10 he rfl (y_ix (m := 0) rfl rfl Try.underlying34 ti24 rfl hRl' (by simp)) ?_; clear he; (try clear a); intro a he
      refine dyg 11 he rfl (y_ldE rfl Try.underlying24 rfl hRl'.up rfl rfl) ?_; clear he; (try clear a); intro a he
      refine dyg 12 he rfl (y_move rfl) ?_; clear he; (try clear a); intro a he
      first | (refine dyg 13 he rfl (y_nilCheck rfl) ?_; clear he; (try clear a); intro a he) | (refine dyg 13 he rfl (y_nilE rfl) ?_; clear he; (try clear a); intro a he)
      first | (refine dyg 14 he rfl (y_fieldAddr rfl (FO.of (off := 1) Try.underlying36 rfl rfl ti34 (by decide))) ?_; clear he; (try clear a); intro a he) | (refine dyg 14 he rfl (y_faE rfl (FO.of (off := 1) Try.underlying36 rfl rfl ti34 (by decide))) ?_; clear he; (try clear a); intro a he)
      first | (refine dyg 15 he rfl (y_ld rfl Try.underlying34 rfl) ?_; clear he; (try clear a); intro a he) | (refine dyg 15 he rfl (y_ldE rfl Try.underlying34 rfl) ?_; clear he; (try clear a); intro a he)
      refine dyg 16 he rfl (y_ix (m := 0) rfl rfl Try.underlying34 ti24 rfl hRw' (by simp)) ?_; clear he; (try clear a); intro a he
      refine dyg 17 he rfl (y_ldE rfl Try.underlying24 rfl hRw'.up rfl rfl) ?_; clear he; (try clear a); intro a he
      refine dcallg (v := .bool true) 18 he rfl rfl has12 rfl (fun f' L' w h1 h2 hw => Gives.lentM (h2.subset (.head _)) (fun f'' h3 hr => by have := Same_i32 hr ((hR0.le h1).le h3) (by omega); rwa [decide_eq_true rfl] at this) hw) ?_; clear he; (try clear a); intro a he
      refine dyg 19 he rfl (y_not rfl) ?_; clear he; (try clear a); intro a he
      refine dy 20 he rfl (y_pick rfl rfl) ?_; clear he; (try clear a); intro a he
      first | (refine dy 21 he rfl (y_nilCheck rfl) ?_; clear he; (try clear a); intro a he) | (refine dy 21 he rfl (y_nilE rfl) ?_; clear he; (try clear a); intro a he)
      first | (refine dy 22 he rfl (y_fieldAddr rfl (FO.of (off := 3) Try.underlying36 rfl rfl ti4 (by decide))) ?_; clear he; (try clear a); intro a he) | (refine dy 22 he rfl (y_faE rfl (FO.of (off := 3) Try.underlying36 rfl rfl ti4 (by decide))) ?_; clear he; (try clear a); intro a he)
      refine D_eff (i := 23) rfl he ?_; clear he; (try clear a); intro a w hs
      refine sstore 2 hs rfl rfl rfl ti4 (by first | rfl | assumption) ?_; clear hs; (try clear a w); intro a w hs; (try simp only [List.set] at hs); (try simp only [Array.setIfInBounds] at hs)
      refine dend hs ?_; clear hs; (try clear a w); intro a he
      refine D_nil he ?_; clear he; (try clear a); intro w hs
      refine hK8 _ _ ?_; clear hK8
      refine W_seq fun K9 hK9 => ?_
      refine D_start hs ([.blk b (.cells #[v11, wsv2, .int .i64 held, .bool false] bkT)]) [16] [(0, true), (1, true), (2, true), (3, true), (4, true), (5, true), (6, true), (7, true), (8, true), (9, true), (10, true), (11, true), (12, true), (13, true), (14, true), (15, true), (16, false)] mixed (by kernel_rfl) ?_; clear hs; (try clear a w); intro a he
      refine dy 0 he rfl (y_move rfl) ?_; clear he; (try clear a); intro a he
      refine dy 1 he rfl (y_move rfl) ?_; clear he; (try clear a); intro a he
      first | (refine dy 2 he rfl (y_nilCheck rfl) ?_; clear he; (try clear a); intro a he) | (refine dy 2 he rfl (y_nilE rfl) ?_; clear he; (try clear a); intro a he)
      first | (refine dy 3 he rfl (y_fieldAddr rfl (FO.of (off := 2) Try.underlying36 rfl rfl ti3 (by decide))) ?_; clear he; (try clear a); intro a he) | (refine dy 3 he rfl (y_faE rfl (FO.of (off := 2) Try.underlying36 rfl rfl ti3 (by decide))) ?_; clear he; (try clear a); intro a he)
      first | (refine dy 4 he rfl (y_ld rfl Try.underlying3 rfl) ?_; clear he; (try clear a); intro a he) | (refine dy 4 he rfl (y_ldE rfl Try.underlying3 rfl) ?_; clear he; (try clear a); intro a he)
      refine dy 5 he rfl (y_move rfl) ?_; clear he; (try clear a); intro a he
      first | (refine dy 6 he rfl (y_nilCheck rfl) ?_; clear he; (try clear a); intro a he) | (refine dy 6 he rfl (y_nilE rfl) ?_; clear he; (try clear a); intro a he)
      first | (refine dy 7 he rfl (y_fieldAddr rfl (FO.of (off := 0) Try.underlying36 rfl rfl ti34 (by decide))) ?_; clear he; (try clear a); intro a he) | (refine dy 7 he rfl (y_faE rfl (FO.of (off := 0) Try.underlying36 rfl rfl ti34 (by decide))) ?_; clear he; (try clear a); intro a he)
      first | (refine dy 8 he rfl (y_ld rfl Try.underlying34 rfl) ?_; clear he; (try clear a); intro a he) | (refine dy 8 he rfl (y_ldE rfl Try.underlying34 rfl) ?_; clear he; (try clear a); intro a he)
      refine dy 9 he rfl (y_ix (m := 0) rfl rfl Try.underlying34 ti24 rfl hRl' (by simp)) ?_; clear he; (try clear a); intro a he
      refine dy 10 he rfl (y_ldE rfl Try.underlying24 rfl hRl'.up rfl rfl) ?_; clear he; (try clear a); intro a he
      refine dy 11 he rfl (y_cap rfl Try.underlying24) ?_; clear he; (try clear a); intro a he
      refine dy 12 he rfl (y_subW rfl rfl) ?_; clear he; (try clear a); intro a he
      refine dy 13 he rfl (y_subW rfl rfl) ?_; clear he; (try clear a); intro a he
      first | (refine dy 14 he rfl (y_nilCheck rfl) ?_; clear he; (try clear a); intro a he) | (refine dy 14 he rfl (y_nilE rfl) ?_; clear he; (try clear a); intro a he)
      first | (refine dy 15 he rfl (y_fieldAddr rfl (FO.of (off := 2) Try.underlying36 rfl rfl ti3 (by decide))) ?_; clear he; (try clear a); intro a he) | (refine dy 15 he rfl (y_faE rfl (FO.of (off := 2) Try.underlying36 rfl rfl ti3 (by decide))) ?_; clear he; (try clear a); intro a he)
      refine D_eff (i := 16) rfl he ?_; clear he; (try clear a); intro a w hs
      refine sstore 2 hs rfl rfl rfl ti3 (by first | rfl | assumption) ?_; clear hs; (try clear a w); intro a w hs; (try simp only [List.set] at hs); (try simp only [Array.setIfInBounds] at hs)
      refine dend hs ?_; clear hs; (try clear a w); intro a he
      refine D_nil he ?_; clear he; (try clear a); intro w hs
      refine hK9 _ _ ?_; clear hK9
      refine W_seq fun K10 hK10 => ?_
      refine W_region ?_
      refine sy hs (y_move rfl) ?_; clear hs; (try clear a w); intro a w hs
      refine sy hs (y_move rfl) ?_; clear hs; (try clear a w); intro a w hs
      first | (refine sy hs (y_nilCheck rfl) ?_; clear hs; (try clear a w); intro a w hs) | (refine sy hs (y_nilE rfl) ?_; clear hs; (try clear a w); intro a w hs)
      first | (refine sy hs (y_fieldAddr rfl (FO.of (off := 0) Try.underlying36 rfl rfl ti34 (by decide))) ?_; clear hs; (try clear a w); intro a w hs) | (refine sy hs (y_faE rfl (FO.of (off := 0) Try.underlying36 rfl rfl ti34 (by decide))) ?_; clear hs; (try clear a w); intro a w hs)
      first | (refine sy hs (y_ld rfl Try.underlying34 rfl) ?_; clear hs; (try clear a w); intro a w hs) | (refine sy hs (y_ldE rfl Try.underlying34 rfl) ?_; clear hs; (try clear a w); intro a w hs)
      refine sy hs (y_slice (lo := 1) (hi := 2) rfl Try.underlying34 ti24 (.inr ⟨_, rfl, rfl⟩) (.inl ⟨rfl, rfl⟩) (by decide) (by simp) hRl') ?_; clear hs; (try clear a w); intro a w hs
      first | (refine sy hs (y_nilCheck rfl) ?_; clear hs; (try clear a w); intro a w hs) | (refine sy hs (y_nilE rfl) ?_; clear hs; (try clear a w); intro a w hs)
      first | (refine sy hs (y_fieldAddr rfl (FO.of (off := 0) Try.underlying36 rfl rfl ti34 (by decide))) ?_; clear hs; (try clear a w); intro a w hs) | (refine sy hs (y_faE rfl (FO.of (off := 0) Try.underlying36 rfl rfl ti34 (by decide))) ?_; clear hs; (try clear a w); intro a w hs)
      refine sstore 2 hs rfl rfl rfl ti34 (by first | rfl | assumption) ?_; clear hs; (try clear a w); intro a w hs; (try simp only [List.set] at hs); (try simp only [Array.setIfInBounds] at hs)
      refine RL_nil ?_
      refine hK10 _ _ ?_; clear hK10
      refine W_region ?_
      refine sy hs (y_move rfl) ?_; clear hs; (try clear a w); intro a w hs
      refine sy hs (y_move rfl) ?_; clear hs; (try clear a w); intro a w hs
      first | (refine sy hs (y_nilCheck rfl) ?_; clear hs; (try clear a w); intro a w hs) | (refine sy hs (y_nilE rfl) ?_; clear hs; (try clear a w); intro a w hs)
      first | (refine sy hs (y_fieldAddr rfl (FO.of (off := 1) Try.underlying36 rfl rfl ti34 (by decide))) ?_; clear hs; (try clear a w); intro a w hs) | (refine sy hs (y_faE rfl (FO.of (off := 1) Try.underlying36 rfl rfl ti34 (by decide))) ?_; clear hs; (try clear a w); intro a w hs)
      first | (refine sy hs (y_ld rfl Try.underlying34 rfl) ?_; clear hs; (try clear a w); intro a w hs) | (refine sy hs (y_ldE rfl Try.underlying34 rfl) ?_; clear hs; (try clear a w); intro a w hs)
      refine sy hs (y_slice (lo := 1) (hi := 2) rfl Try.underlying34 ti24 (.inr ⟨_, rfl, rfl⟩) (.inl ⟨rfl, rfl⟩) (by decide) (by simp) hRw') ?_; clear hs; (try clear a w); intro a w hs
      first | (refine sy hs (y_nilCheck rfl) ?_; clear hs; (try clear a w); intro a w hs) | (refine sy hs (y_nilE rfl) ?_; clear hs; (try clear a w); intro a w hs)
      first | (refine sy hs (y_fieldAddr rfl (FO.of (off := 1) Try.underlying36 rfl rfl ti34 (by decide))) ?_; clear hs; (try clear a w); intro a w hs) | (refine sy hs (y_faE rfl (FO.of (off := 1) Try.underlying36 rfl rfl ti34 (by decide))) ?_; clear hs; (try clear a w); intro a w hs)
      refine sstore 2 hs rfl rfl rfl ti34 (by first | rfl | assumption) ?_; clear hs; (try clear a w); intro a w hs; (try simp only [List.set] at hs); (try simp only [Array.setIfInBounds] at hs)
      refine RL_nil ?_
      exact hK 1 _ _ (by decide) ⟨_, by decide, hs.sub ⟨rfl, trivial⟩⟩
    · clear hs; have hs := hq; clear hq
      refine syg hs (y_move rfl) ?_; clear hs; (try clear a w); intro a w hs
      first | (refine syg hs (y_nilCheck rfl) ?_; clear hs; (try clear a w); intro a w hs) | (refine syg hs (y_nilE rfl) ?_; clear hs; (try clear a w); intro a w hs)
      first | (refine syg hs (y_fieldAddr rfl (FO.of (off := 0) Try.underlying36 rfl rfl ti34 (by decide))) ?_; clear hs; (try clear a w); intro a w hs) | (refine syg hs (y_faE rfl (FO.of (off := 0) Try.underlying36 rfl rfl ti34 (by decide))) ?_; clear hs; (try clear a w); intro a w hs)
      first | (refine syg hs (y_ld rfl Try.underlying34 rfl) ?_; clear hs; (try clear a w); intro a w hs) | (refine syg hs (y_ldE rfl Try.underlying34 rfl) ?_; clear hs; (try clear a w); intro a w hs)
      first | (refine syg hs (y_lenM rfl Try.underlying34) ?_; clear hs; (try clear a w); intro a w hs) | (refine syg hs (y_lenR rfl Try.underlying34) ?_; clear hs; (try clear a w); intro a w hs) | (refine syg hs (y_len rfl Try.underlying34) ?_; clear hs; (try clear a w); intro a w hs)
      refine syg hs (y_gtr rfl rfl) ?_; clear hs; (try clear a w); intro a w hs
      refine syg hs (y_pick rfl rfl) ?_; clear hs; (try clear a w); intro a w hs
      refine sy hs (y_pick rfl rfl) ?_; clear hs; (try clear a w); intro a w hs
      refine RL_nil ?_
      refine hK6 _ _ ?_; clear hK6
      refine W_condF hs rfl ?_
      refine W_exit ?_
      refine hB4 _ _ ?_
      refine Rt_0 hs rfl ?_
      exact ⟨_, f3, _, rfl, hf, hs.cw, v11, wsv2, cv, held, _, _, hRc, hRl', hRw', .inl ⟨rfl, rfl⟩, rfl⟩
  · obtain rfl : k = 1 := by omega
    rw [if_neg (by decide)] at hs
    refine W_seq fun K11 hK11 => ?_
    refine W_seq fun K12 hK12 => ?_
    refine W_region ?_
    refine sy hs (y_move rfl) ?_; clear hs; (try clear a w); intro a w hs
    first | (refine sy hs (y_nilCheck rfl) ?_; clear hs; (try clear a w); intro a w hs) | (refine sy hs (y_nilE rfl) ?_; clear hs; (try clear a w); intro a w hs)
    first | (refine sy hs (y_fieldAddr rfl (FO.of (off := 0) Try.underlying36 rfl rfl ti34 (by decide))) ?_; clear hs; (try clear a w); intro a w hs) | (refine sy hs (y_faE rfl (FO.of (off := 0) Try.underlying36 rfl rfl ti34 (by decide))) ?_; clear hs; (try clear a w); intro a w hs)
    first | (refine sy hs (y_ld rfl Try.underlying34 rfl) ?_; clear hs; (try clear a w); intro a w hs) | (refine sy hs (y_ldE rfl Try.underlying34 rfl) ?_; clear hs; (try clear a w); intro a w hs)
    first | (refine sy hs (y_lenM rfl Try.underlying34) ?_; clear hs; (try clear a w); intro a w hs) | (refine sy hs (y_lenR rfl Try.underlying34) ?_; clear hs; (try clear a w); intro a w hs) | (refine sy hs (y_len rfl Try.underlying34) ?_; clear hs; (try clear a w); intro a w hs)
    refine sy hs (y_gtr rfl rfl) ?_; clear hs; (try clear a w); intro a w hs
    refine sy hs (y_move rfl) ?_; clear hs; (try clear a w); intro a w hs
    refine sno hs ?_; clear hs; (try clear a w); intro a w hs
    refine sno hs ?_; clear hs; (try clear a w); intro a w hs
    refine sno hs ?_; clear hs; (try clear a w); intro a w hs
    refine sno hs ?_; clear hs; (try clear a w); intro a w hs
    refine sno hs ?_; clear hs; (try clear a w); intro a w hs
    refine sno hs ?_; clear hs; (try clear a w); intro a w hs
    refine sun hs ?_; clear hs; (try clear a w); intro a w hs
    refine sun hs ?_; clear hs; (try clear a w); intro a w hs
    refine sun hs ?_; clear hs; (try clear a w); intro a w hs
    refine sun hs ?_; clear hs; (try clear a w); intro a w hs
    refine sun hs ?_; clear hs; (try clear a w); intro a w hs
    refine sun hs ?_; clear hs; (try clear a w); intro a w hs
    refine sno hs ?_; clear hs; (try clear a w); intro a w hs
    refine sy hs (y_pick rfl rfl) ?_; clear hs; (try clear a w); intro a w hs
    refine RL_nil ?_
    refine hK12 _ _ ?_; clear hK12
    refine W_condF hs rfl ?_
    refine W_exit ?_
    refine hB4 _ _ ?_
    refine Rt_0 hs rfl ?_
    exact ⟨_, f3, _, rfl, hf, hs.cw, _, _, cv, held, _, _, hRc, hcl, hcw, .inr ⟨rfl, rfl⟩, rfl⟩

