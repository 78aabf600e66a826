/-
  Walks and laws of this seat; the base is the text Base.
-/
import Derived.Test.YthpokoghhfidpaaBase
import Derived.Test.YthpokoghhfidpaaRows
import Derived.Test.YthpokoghhfidpaaT1
import Derived.Test.YthpokoghhfidpaaC7
namespace Go.Proofs.Ythpokoghhfidpaa
open Go.RowKit Go.Sl


theorem SourceCursors_true {f : Fz} {v0 v1 : Value} {ls qs : List Int} (h0 : Rd f [] v0 1 (il ls)) (h1 : Rd f [] v1 1 (il qs)) (hm : ls.length ≤ 17592186044416) (hwf : ∀ x ∈ qs, -9223372036854775808 ≤ x ∧ x ≤ 9223372036854775807) :
    Gives Try.prog 7 [v0, v1] f (.bool true) := by
  intro w0 L w hC
  refine enter Try.func7 rfl Try.ntmps7 (by simp) hC fun a hs => ?_
  refine W_seq fun K1 hK1 => ?_
  refine W_region ?_
  refine sy hs (y_assign rfl) ?_; clear hs; (try clear a w); intro a w hs
  refine RL_nil ?_
  refine hK1 _ _ ?_; clear hK1
  refine W_seq fun K2 hK2 => ?_
  refine W_region ?_
  refine RL_bs0 hs Try.underlying42 ti3 ?_; clear hs; (try clear a w); intro tv a w hs
  refine sy hs (y_move rfl) ?_; clear hs; (try clear a w); intro a w hs
  refine RL_append (i := 0) hs rfl rfl rfl h0.up Try.underlying42 ti3 (by decide) (by simp [maxLen]; omega) (.free rfl) (by decide) ?_; clear hs; (try clear a w); intro v18 a w hs; simp only [List.set, List.nil_append] at hs
  obtain ⟨f1, hf1, hs, hRw⟩ := hs.frz
  replace h0 := h0.le hf1
  refine sy hs (y_assign rfl) ?_; clear hs; (try clear a w); intro a w hs
  refine RL_nil ?_
  refine hK2 _ _ ?_; clear hK2
  refine W_seq fun K3 hK3 => ?_
  refine W_region ?_
  refine RL_bs0 hs Try.underlying42 ti3 ?_; clear hs; (try clear a w); intro tv a w hs
  refine sy hs (y_move rfl) ?_; clear hs; (try clear a w); intro a w hs
  refine RL_append (i := 0) hs rfl rfl rfl h0.up Try.underlying42 ti3 (by decide) (by simp [maxLen]; omega) (.free rfl) (by decide) ?_; clear hs; (try clear a w); intro v21 a w hs; simp only [List.set, List.nil_append] at hs
  refine sy hs (y_assign rfl) ?_; clear hs; (try clear a w); intro a w hs
  refine RL_nil ?_
  refine hK3 _ _ ?_; clear hK3
  refine W_seq fun K4 hK4 => ?_
  refine W_region ?_
  refine sy hs (y_move rfl) ?_; clear hs; (try clear a w); intro a w hs
  refine RL_callW hs rfl has17 rfl (fun w hw => New_i (Rd.st hs (.head _)) hm hw) ?_; clear hs; (try clear a w); rintro _ f3 L3 a w hf3 ⟨c, cv, rfl, hRc, rfl⟩ hs
  replace hRw := hRw.le hf3
  replace h1 := (h1.le hf1).le hf3
  refine sy hs (y_assign rfl) ?_; clear hs; (try clear a w); intro a w hs
  refine RL_nil ?_
  refine hK4 _ _ ?_; clear hK4
  refine W_seq fun K5 hK5 => ?_
  refine W_seq fun K6 hK6 => ?_
  refine W_region ?_
  refine sy hs (y_move rfl) ?_; clear hs; (try clear a w); intro a w hs
  refine sy hs (y_pnil rfl rfl Try.underlying40) ?_; clear hs; (try clear a w); intro a w hs
  refine RL_nil ?_
  refine hK6 _ _ ?_; clear hK6
  refine W_condF hs rfl ?_
  refine W_skip ?_
  refine hK5 _ _ ?_; clear hK5
  refine W_seq fun K7 hK7 => ?_
  refine W_seq fun K8 hK8 => ?_
  refine W_region ?_
  refine sy hs (y_assign rfl) ?_; clear hs; (try clear a w); intro a w hs
  refine RL_nil ?_
  refine hK8 _ _ ?_; clear hK8
  refine W_block fun Qe9 hB9 hO9 => ?_
  refine W_loop (fun (i : Nat) a w => ∃ rows : List (List Value), rows.length = ls.length ∧ St 142 w0 f3 (.blk c (.cells #[cv, .int .i64 0] 51) :: .row v21 3 1 rows :: L) [(1, v1), (5, v18), (6, v21), (7, .pointer (some ⟨c, 0, none⟩)), (8, .int .i64 i)] a w) (fun i => ls.length - i) 0 ⟨_, by simp, hs.sub ⟨rfl, rfl, rfl, rfl, rfl, trivial⟩⟩ ?_
  clear hs; rintro i a w ⟨rows, hrl, hs⟩ K hK
  refine W_seq fun K10 hK10 => ?_
  refine W_seq fun K11 hK11 => ?_
  refine W_region ?_
  refine sy hs (y_move rfl) ?_; clear hs; (try clear a w); intro a w hs
  refine sy hs (y_move rfl) ?_; clear hs; (try clear a w); intro a w hs
  first | (refine sy hs (y_lenM rfl Try.underlying42) ?_; clear hs; (try clear a w); intro a w hs) | (refine sy hs (y_lenR rfl Try.underlying42) ?_; clear hs; (try clear a w); intro a w hs) | (refine sy hs (y_len rfl Try.underlying42) ?_; clear hs; (try clear a w); intro a w hs)
  refine sy hs (y_lss rfl rfl) ?_; clear hs; (try clear a w); intro a w hs
  refine RL_nil ?_
  refine hK11 _ _ ?_; clear hK11
  first | refine W_condP hs rfl (fun hlt => ?_) (fun hlt => ?_) | refine W_cond hs rfl (fun hlt => ?_) (fun hlt => ?_)
  · obtain ⟨r, hr⟩ : ∃ r, rows[i]? = some r := ⟨_, List.getElem?_eq_getElem (by omega)⟩
    refine W_skip ?_
    refine hK10 _ _ ?_; clear hK10
    refine W_seq fun K12 hK12 => ?_
    refine W_block fun Qe13 hB13 hO13 => ?_
    refine W_region ?_
    refine sy hs (y_move rfl) ?_; clear hs; (try clear a w); intro a w hs
    refine sy hs (y_move rfl) ?_; clear hs; (try clear a w); intro a w hs
    first | (refine sy hs (y_ix rfl rfl Try.underlying42 ti3 rfl) ?_; clear hs; (try clear a w); intro a w hs) | (refine sy hs (y_ix rfl rfl Try.underlying42 ti3 (ix_of (by omega))) ?_; clear hs; (try clear a w); intro a w hs)
    refine sstoreRow 1 hs rfl rfl rfl hr ti3 rfl ?_; clear hs; (try clear a w); intro a w hs; simp only [List.set] at hs
    refine RL_nil ?_
    refine hK12 _ _ ?_; clear hK12
    refine W_region ?_
    refine sy hs (y_move rfl) ?_; clear hs; (try clear a w); intro a w hs
    refine sy hs (y_add rfl rfl (wr_i64 (by omega))) ?_; clear hs; (try clear a w); intro a w hs
    refine sy hs (y_assign rfl) ?_; clear hs; (try clear a w); intro a w hs
    refine RL_nil ?_
    exact hK (i + 1) _ _ (by omega) ⟨_, by rw [List.length_set]; exact hrl, hs.sub ⟨rfl, rfl, rfl, rfl, rfl, trivial⟩⟩
  · refine W_exit ?_
    refine hB9 _ _ ?_
    refine hK7 _ _ ?_; clear hK7
    refine W_seq fun K14 hK14 => ?_
    refine W_region ?_
    refine sy hs (y_assign rfl) ?_; clear hs; (try clear a w); intro a w hs
    refine RL_nil ?_
    refine hK14 _ _ ?_; clear hK14
    refine W_seq fun K15 hK15 => ?_
    refine W_seq fun K16 hK16 => ?_
    refine W_region ?_
    refine sy hs (y_assign rfl) ?_; clear hs; (try clear a w); intro a w hs
    refine RL_nil ?_
    refine hK16 _ _ ?_; clear hK16
    refine W_block fun Qe17 hB17 hO17 => ?_
    replace hs := hs.erase 1
    refine W_loop (fun (i : Nat) a w => ∃ at_ : Nat, at_ ≤ ls.length ∧ St 142 w0 f3 (.blk c (.cells #[cv, .int .i64 at_] 51) :: L) [(1, v1), (5, v18), (7, .pointer (some ⟨c, 0, none⟩)), (9, .int .i64 at_), (10, .int .i64 i)] a w) (fun i => qs.length - i) 0 ⟨0, by simp, hs.sub ⟨rfl, rfl, rfl, rfl, rfl, trivial⟩⟩ ?_
    clear hs; rintro i a w ⟨at_, hat, hs⟩ K hK
    refine W_seq fun K18 hK18 => ?_
    refine W_seq fun K19 hK19 => ?_
    refine W_region ?_
    refine sy hs (y_move rfl) ?_; clear hs; (try clear a w); intro a w hs
    refine sy hs (y_move rfl) ?_; clear hs; (try clear a w); intro a w hs
    first | (refine sy hs (y_lenM rfl Try.underlying42) ?_; clear hs; (try clear a w); intro a w hs) | (refine sy hs (y_lenR rfl Try.underlying42) ?_; clear hs; (try clear a w); intro a w hs) | (refine sy hs (y_len rfl Try.underlying42) ?_; clear hs; (try clear a w); intro a w hs)
    refine sy hs (y_lss rfl rfl) ?_; clear hs; (try clear a w); intro a w hs
    refine sy hs (y_move rfl) ?_; clear hs; (try clear a w); intro a w hs
    first | refine St.splitP hs (t := 39) rfl (fun hi hq => ?_) (fun hi hq => ?_) | refine St.split hs (t := 39) rfl (fun hi hq => ?_) (fun hi hq => ?_)
    · clear hs; have hs := hq; clear hq
      refine syg hs (y_move rfl) ?_; clear hs; (try clear a w); intro a w hs
      refine syg hs (y_lss rfl rfl) ?_; clear hs; (try clear a w); intro a w hs
      refine sy hs (y_pick rfl rfl) ?_; clear hs; (try clear a w); intro a w hs
      refine RL_nil ?_
      refine hK19 _ _ ?_; clear hK19
      first | refine W_condP hs rfl (fun h100 => ?_) (fun h100 => ?_) | refine W_cond hs rfl (fun h100 => ?_) (fun h100 => ?_)
      · obtain ⟨x, hx⟩ : ∃ x, qs[i]? = some x := ⟨_, List.getElem?_eq_getElem (by omega)⟩
        have hw : -9223372036854775808 ≤ x ∧ x ≤ 9223372036854775807 := hwf x (List.mem_of_getElem? hx)
        by_cases hk : 0 ≤ x ∧ x < ((ls.length - at_ : Nat) : Int)
        · obtain ⟨m, rfl⟩ : ∃ m : Nat, x = m := ⟨x.toNat, by omega⟩
          obtain ⟨y, hy⟩ : ∃ y, ls[at_ + m]? = some y := ⟨_, List.getElem?_eq_getElem (by omega)⟩
          have hpk := peek_lt hy
          refine W_skip ?_
          refine hK18 _ _ ?_; clear hK18
          refine W_seq fun K20 hK20 => ?_
          refine W_block fun Qe21 hB21 hO21 => ?_
          refine W_seq fun K22 hK22 => ?_
          refine W_region ?_
          refine sy hs (y_move rfl) ?_; clear hs; (try clear a w); intro a w hs
          refine sy hs (y_move rfl) ?_; clear hs; (try clear a w); intro a w hs
          refine sy hs (y_move rfl) ?_; clear hs; (try clear a w); intro a w hs
          first | (refine sy hs (y_ix rfl rfl Try.underlying42 ti3 rfl) ?_; clear hs; (try clear a w); intro a w hs) | (refine sy hs (y_ix rfl rfl Try.underlying42 ti3 (ix_of (by omega))) ?_; clear hs; (try clear a w); intro a w hs)
          first | (refine sy hs (y_ld rfl Try.underlying3 rfl) ?_; clear hs; (try clear a w); intro a w hs) | (refine sy hs (y_ldE rfl Try.underlying3 rfl) ?_; clear hs; (try clear a w); intro a w hs)
          refine sy hs (y_callC rfl has19 rfl (fun w hw => hpk ▸ Peek_i (.head _) hRc hat hm hw)) ?_; clear hs; (try clear a w); intro a w hs
          refine sy hs (y_move rfl) ?_; clear hs; (try clear a w); intro a w hs
          refine sy hs (y_extract rfl rfl) ?_; clear hs; (try clear a w); intro a w hs
          refine sy hs (y_extract rfl rfl) ?_; clear hs; (try clear a w); intro a w hs
          refine sy hs (y_assign rfl) ?_; clear hs; (try clear a w); intro a w hs
          refine sy hs (y_assign rfl) ?_; clear hs; (try clear a w); intro a w hs
          refine RL_nil ?_
          refine hK22 _ _ ?_; clear hK22
          refine W_seq fun K23 hK23 => ?_
          refine W_region ?_
          refine sy hs (y_move rfl) ?_; clear hs; (try clear a w); intro a w hs
          refine sy hs (y_move rfl) ?_; clear hs; (try clear a w); intro a w hs
          first | (refine sy hs (y_ix rfl rfl Try.underlying42 ti3 rfl) ?_; clear hs; (try clear a w); intro a w hs) | (refine sy hs (y_ix rfl rfl Try.underlying42 ti3 (ix_of (by omega))) ?_; clear hs; (try clear a w); intro a w hs)
          first | (refine sy hs (y_ld rfl Try.underlying3 rfl) ?_; clear hs; (try clear a w); intro a w hs) | (refine sy hs (y_ldE rfl Try.underlying3 rfl) ?_; clear hs; (try clear a w); intro a w hs)
          refine sy hs (y_geq rfl rfl) ?_; clear hs; (try clear a w); intro a w hs
          refine sy hs (y_move rfl) ?_; clear hs; (try clear a w); intro a w hs
          first | refine St.splitP hs (t := 59) rfl (fun g0 hq => ?_) (fun g0 hq => ?_) | refine St.split hs (t := 59) rfl (fun g0 hq => ?_) (fun g0 hq => ?_)
          · clear hs; have hs := hq; clear hq
            refine syg hs (y_move rfl) ?_; clear hs; (try clear a w); intro a w hs
            refine syg hs (y_move rfl) ?_; clear hs; (try clear a w); intro a w hs
            first | (refine syg hs (y_ix rfl rfl Try.underlying42 ti3 rfl) ?_; clear hs; (try clear a w); intro a w hs) | (refine syg hs (y_ix rfl rfl Try.underlying42 ti3 (ix_of (by omega))) ?_; clear hs; (try clear a w); intro a w hs)
            first | (refine syg hs (y_ld rfl Try.underlying3 rfl) ?_; clear hs; (try clear a w); intro a w hs) | (refine syg hs (y_ldE rfl Try.underlying3 rfl) ?_; clear hs; (try clear a w); intro a w hs)
            refine syg hs (y_move rfl) ?_; clear hs; (try clear a w); intro a w hs
            first | (refine syg hs (y_lenM rfl Try.underlying42) ?_; clear hs; (try clear a w); intro a w hs) | (refine syg hs (y_lenR rfl Try.underlying42) ?_; clear hs; (try clear a w); intro a w hs) | (refine syg hs (y_len rfl Try.underlying42) ?_; clear hs; (try clear a w); intro a w hs)
            refine syg hs (y_move rfl) ?_; clear hs; (try clear a w); intro a w hs
            refine syg hs (y_sub rfl rfl (wr_i64 (by omega))) ?_; clear hs; (try clear a w); intro a w hs
            refine syg hs (y_lss rfl rfl) ?_; clear hs; (try clear a w); intro a w hs
            rw [decide_eq_true (by omega)] at hs
            refine sy hs (y_pick rfl rfl) ?_; clear hs; (try clear a w); intro a w hs
            refine sy hs (y_assign rfl) ?_; clear hs; (try clear a w); intro a w hs
            refine RL_nil ?_
            refine hK23 _ _ ?_; clear hK23
            refine W_seq fun K24 hK24 => ?_
            refine W_seq fun K25 hK25 => ?_
            refine W_region ?_
            refine sy hs (y_move rfl) ?_; clear hs; (try clear a w); intro a w hs
            refine sy hs (y_move rfl) ?_; clear hs; (try clear a w); intro a w hs
            refine sy hs (y_bneq rfl rfl Try.underlying4) ?_; clear hs; (try clear a w); intro a w hs
            refine sy hs (y_move rfl) ?_; clear hs; (try clear a w); intro a w hs
            refine syg hs (y_move rfl) ?_; clear hs; (try clear a w); intro a w hs
            refine syg hs (y_move rfl) ?_; clear hs; (try clear a w); intro a w hs
            refine syg hs (y_move rfl) ?_; clear hs; (try clear a w); intro a w hs
            refine syg hs (y_move rfl) ?_; clear hs; (try clear a w); intro a w hs
            refine syg hs (y_move rfl) ?_; clear hs; (try clear a w); intro a w hs
            refine syg hs (y_move rfl) ?_; clear hs; (try clear a w); intro a w hs
            refine syg hs (y_move rfl) ?_; clear hs; (try clear a w); intro a w hs
            first | (refine syg hs (y_ix rfl rfl Try.underlying42 ti3 rfl) ?_; clear hs; (try clear a w); intro a w hs) | (refine syg hs (y_ix rfl rfl Try.underlying42 ti3 (ix_of (by omega))) ?_; clear hs; (try clear a w); intro a w hs)
            first | (refine syg hs (y_ld rfl Try.underlying3 rfl) ?_; clear hs; (try clear a w); intro a w hs) | (refine syg hs (y_ldE rfl Try.underlying3 rfl) ?_; clear hs; (try clear a w); intro a w hs)
            refine syg hs (y_add rfl rfl (wr_i64 (by omega))) ?_; clear hs; (try clear a w); intro a w hs
            first | (refine syg hs (y_ix rfl rfl Try.underlying42 ti3 rfl) ?_; clear hs; (try clear a w); intro a w hs) | (refine syg hs (y_ix rfl rfl Try.underlying42 ti3 (ix_of (by omega))) ?_; clear hs; (try clear a w); intro a w hs)
            first | (refine syg hs (y_ld rfl Try.underlying3 rfl) ?_; clear hs; (try clear a w); intro a w hs) | (refine syg hs (y_ldE rfl Try.underlying3 rfl) ?_; clear hs; (try clear a w); intro a w hs)
            refine syg hs (y_neq rfl rfl) ?_; clear hs; (try clear a w); intro a w hs
            rw [show decide (y ≠ y) = false from by simp] at hs
            refine syg hs (y_pick rfl rfl) ?_; clear hs; (try clear a w); intro a w hs
            refine sy hs (y_pick rfl rfl) ?_; clear hs; (try clear a w); intro a w hs
            refine sy hs (y_move rfl) ?_; clear hs; (try clear a w); intro a w hs
            refine syg hs (y_move rfl) ?_; clear hs; (try clear a w); intro a w hs
            refine syg hs (y_not rfl) ?_; clear hs; (try clear a w); intro a w hs
            refine syg hs (y_move rfl) ?_; clear hs; (try clear a w); intro a w hs
            refine sno hs ?_; clear hs; (try clear a w); intro a w hs
            refine sno hs ?_; clear hs; (try clear a w); intro a w hs
            refine syg hs (y_pick rfl rfl) ?_; clear hs; (try clear a w); intro a w hs
            refine sy hs (y_pick rfl rfl) ?_; clear hs; (try clear a w); intro a w hs
            refine RL_nil ?_
            refine hK25 _ _ ?_; clear hK25
            refine W_condF hs rfl ?_
            refine W_skip ?_
            refine hK24 _ _ ?_; clear hK24
            refine W_seq fun K26 hK26 => ?_
            refine W_seq fun K27 hK27 => ?_
            refine W_region ?_
            refine sy hs (y_move rfl) ?_; clear hs; (try clear a w); intro a w hs
            refine sy hs (y_move rfl) ?_; clear hs; (try clear a w); intro a w hs
            first | (refine sy hs (y_ix rfl rfl Try.underlying42 ti3 rfl) ?_; clear hs; (try clear a w); intro a w hs) | (refine sy hs (y_ix rfl rfl Try.underlying42 ti3 (ix_of (by omega))) ?_; clear hs; (try clear a w); intro a w hs)
            first | (refine sy hs (y_ld rfl Try.underlying3 rfl) ?_; clear hs; (try clear a w); intro a w hs) | (refine sy hs (y_ldE rfl Try.underlying3 rfl) ?_; clear hs; (try clear a w); intro a w hs)
            refine sy hs (y_remT rfl rfl (by decide)) ?_; clear hs; (try clear a w); intro a w hs
            refine sy hs (y_eql rfl rfl) ?_; clear hs; (try clear a w); intro a w hs
            refine RL_nil ?_
            refine hK27 _ _ ?_; clear hK27
            first | refine W_condP hs rfl (fun hev => ?_) (fun hev => ?_) | refine W_cond hs rfl (fun hev => ?_) (fun hev => ?_)
            · by_cases hlt : at_ < ls.length
              · obtain ⟨y, hy⟩ : ∃ y, ls[at_ + 0]? = some y := ⟨_, List.getElem?_eq_getElem (by omega)⟩
                have hy' : ls[at_]? = some y := hy
                refine W_seq fun K28 hK28 => ?_
                refine W_region ?_
                refine sy hs (y_move rfl) ?_; clear hs; (try clear a w); intro a w hs
                refine RL_call (Lr := [_]) hs rfl has18 rfl rfl (Next_i (at_ := at_) hRc (by omega) hm) (.free rfl) (by decide) ?_; clear hs; (try clear a w); rintro _ f8 L8 a w hf8 ⟨rfl, rfl, rfl⟩ hs
                rw [if_pos hlt] at hs
                have hpn := peek_lt hy
                rw [show ((0 : Nat) : Int) = 0 from rfl] at hpn
                rw [hpn] at hs
                refine sy hs (y_move rfl) ?_; clear hs; (try clear a w); intro a w hs
                refine sy hs (y_extract rfl rfl) ?_; clear hs; (try clear a w); intro a w hs
                refine sy hs (y_extract rfl rfl) ?_; clear hs; (try clear a w); intro a w hs
                refine sy hs (y_assign rfl) ?_; clear hs; (try clear a w); intro a w hs
                refine sy hs (y_assign rfl) ?_; clear hs; (try clear a w); intro a w hs
                refine RL_nil ?_
                refine hK28 _ _ ?_; clear hK28
                refine W_seq fun K29 hK29 => ?_
                refine W_seq fun K30 hK30 => ?_
                refine W_region ?_
                refine sy hs (y_move rfl) ?_; clear hs; (try clear a w); intro a w hs
                refine sy hs (y_move rfl) ?_; clear hs; (try clear a w); intro a w hs
                refine sy hs (y_move rfl) ?_; clear hs; (try clear a w); intro a w hs
                first | (refine sy hs (y_lenM rfl Try.underlying42) ?_; clear hs; (try clear a w); intro a w hs) | (refine sy hs (y_lenR rfl Try.underlying42) ?_; clear hs; (try clear a w); intro a w hs) | (refine sy hs (y_len rfl Try.underlying42) ?_; clear hs; (try clear a w); intro a w hs)
                refine sy hs (y_lss rfl rfl) ?_; clear hs; (try clear a w); intro a w hs
                rw [decide_eq_true (by omega)] at hs
                refine sy hs (y_bneq rfl rfl Try.underlying4) ?_; clear hs; (try clear a w); intro a w hs
                refine sy hs (y_move rfl) ?_; clear hs; (try clear a w); intro a w hs
                refine syg hs (y_move rfl) ?_; clear hs; (try clear a w); intro a w hs
                refine syg hs (y_move rfl) ?_; clear hs; (try clear a w); intro a w hs
                refine syg hs (y_move rfl) ?_; clear hs; (try clear a w); intro a w hs
                refine syg hs (y_move rfl) ?_; clear hs; (try clear a w); intro a w hs
                refine syg hs (y_move rfl) ?_; clear hs; (try clear a w); intro a w hs
                first | (refine syg hs (y_ix rfl rfl Try.underlying42 ti3 rfl) ?_; clear hs; (try clear a w); intro a w hs) | (refine syg hs (y_ix rfl rfl Try.underlying42 ti3 (ix_of (by omega))) ?_; clear hs; (try clear a w); intro a w hs)
                first | (refine syg hs (y_ld rfl Try.underlying3 rfl) ?_; clear hs; (try clear a w); intro a w hs) | (refine syg hs (y_ldE rfl Try.underlying3 rfl) ?_; clear hs; (try clear a w); intro a w hs)
                refine syg hs (y_neq rfl rfl) ?_; clear hs; (try clear a w); intro a w hs
                rw [show decide (y ≠ y) = false from by simp] at hs
                refine syg hs (y_pick rfl rfl) ?_; clear hs; (try clear a w); intro a w hs
                refine sy hs (y_pick rfl rfl) ?_; clear hs; (try clear a w); intro a w hs
                refine RL_nil ?_
                refine hK30 _ _ ?_; clear hK30
                refine W_condF hs rfl ?_
                refine W_skip ?_
                refine hK29 _ _ ?_; clear hK29
                refine W_seq fun K31 hK31 => ?_
                refine W_region ?_
                refine sy hs (y_move rfl) ?_; clear hs; (try clear a w); intro a w hs
                refine RL_nil ?_
                refine hK31 _ _ ?_; clear hK31
                refine W_condT hs rfl ?_
                refine W_region ?_
                refine sy hs (y_move rfl) ?_; clear hs; (try clear a w); intro a w hs
                refine sy hs (y_add rfl rfl (wr_i64 (by omega))) ?_; clear hs; (try clear a w); intro a w hs
                refine sy hs (y_assign rfl) ?_; clear hs; (try clear a w); intro a w hs
                refine RL_nil ?_
                refine hK26 _ _ ?_; clear hK26
                refine W_seq fun K32 hK32 => ?_
                refine W_region ?_
                refine sy hs (y_move rfl) ?_; clear hs; (try clear a w); intro a w hs
                refine sy hs (y_callC rfl has20 rfl (fun w hw => At_i (.head _) hw)) ?_; clear hs; (try clear a w); intro a w hs
                refine sy hs (y_move rfl) ?_; clear hs; (try clear a w); intro a w hs
                refine sy hs (y_neq rfl rfl) ?_; clear hs; (try clear a w); intro a w hs
                rw [show decide (((at_ + 1 : Nat) : Int) ≠ (at_ : Int) + 1) = false from by simp] at hs
                refine sy hs (y_move rfl) ?_; clear hs; (try clear a w); intro a w hs
                refine syg hs (y_move rfl) ?_; clear hs; (try clear a w); intro a w hs
                refine syg hs (y_callC rfl has21 rfl (fun w hw => Left_i (.head _) hRc (by omega) hm hw)) ?_; clear hs; (try clear a w); intro a w hs
                refine syg hs (y_move rfl) ?_; clear hs; (try clear a w); intro a w hs
                first | (refine syg hs (y_lenM rfl Try.underlying42) ?_; clear hs; (try clear a w); intro a w hs) | (refine syg hs (y_lenR rfl Try.underlying42) ?_; clear hs; (try clear a w); intro a w hs) | (refine syg hs (y_len rfl Try.underlying42) ?_; clear hs; (try clear a w); intro a w hs)
                refine syg hs (y_move rfl) ?_; clear hs; (try clear a w); intro a w hs
                refine syg hs (y_sub rfl rfl (wr_i64 (by omega))) ?_; clear hs; (try clear a w); intro a w hs
                refine syg hs (y_neq rfl rfl) ?_; clear hs; (try clear a w); intro a w hs
                rw [show decide (((ls.length - (at_ + 1) : Nat) : Int) ≠ (ls.length : Int) - ((at_ : Int) + 1)) = false from by simp; omega] at hs
                refine sy hs (y_pick rfl rfl) ?_; clear hs; (try clear a w); intro a w hs
                refine RL_nil ?_
                refine hK32 _ _ ?_; clear hK32
                refine W_condF hs rfl ?_
                refine W_skip ?_
                refine hK20 _ _ ?_; clear hK20
                refine W_region ?_
                refine sy hs (y_move rfl) ?_; clear hs; (try clear a w); intro a w hs
                refine sy hs (y_add rfl rfl (wr_i64 (by omega))) ?_; clear hs; (try clear a w); intro a w hs
                refine sy hs (y_assign rfl) ?_; clear hs; (try clear a w); intro a w hs
                refine RL_nil ?_
                exact hK (i + 1) _ _ (by omega) ⟨at_ + 1, by omega, hs.sub ⟨rfl, rfl, rfl, rfl, rfl, trivial⟩⟩
              · refine W_seq fun K33 hK33 => ?_
                refine W_region ?_
                refine sy hs (y_move rfl) ?_; clear hs; (try clear a w); intro a w hs
                refine RL_call (Lr := [_]) hs rfl has18 rfl rfl (Next_i (at_ := at_) hRc (by omega) hm) (.free rfl) (by decide) ?_; clear hs; (try clear a w); rintro _ f8 L8 a w hf8 ⟨rfl, rfl, rfl⟩ hs
                rw [if_neg hlt] at hs
                have hpn := peek_ge (xs := ls) (i := at_) (k := 0) (by omega)
                rw [show ((0 : Nat) : Int) = 0 from rfl] at hpn
                rw [hpn] at hs
                refine sy hs (y_move rfl) ?_; clear hs; (try clear a w); intro a w hs
                refine sy hs (y_extract rfl rfl) ?_; clear hs; (try clear a w); intro a w hs
                refine sy hs (y_extract rfl rfl) ?_; clear hs; (try clear a w); intro a w hs
                refine sy hs (y_assign rfl) ?_; clear hs; (try clear a w); intro a w hs
                refine sy hs (y_assign rfl) ?_; clear hs; (try clear a w); intro a w hs
                refine RL_nil ?_
                refine hK33 _ _ ?_; clear hK33
                refine W_seq fun K34 hK34 => ?_
                refine W_seq fun K35 hK35 => ?_
                refine W_region ?_
                refine sy hs (y_move rfl) ?_; clear hs; (try clear a w); intro a w hs
                refine sy hs (y_move rfl) ?_; clear hs; (try clear a w); intro a w hs
                refine sy hs (y_move rfl) ?_; clear hs; (try clear a w); intro a w hs
                first | (refine sy hs (y_lenM rfl Try.underlying42) ?_; clear hs; (try clear a w); intro a w hs) | (refine sy hs (y_lenR rfl Try.underlying42) ?_; clear hs; (try clear a w); intro a w hs) | (refine sy hs (y_len rfl Try.underlying42) ?_; clear hs; (try clear a w); intro a w hs)
                refine sy hs (y_lss rfl rfl) ?_; clear hs; (try clear a w); intro a w hs
                rw [decide_eq_false (by omega)] at hs
                refine sy hs (y_bneq rfl rfl Try.underlying4) ?_; clear hs; (try clear a w); intro a w hs
                refine sy hs (y_move rfl) ?_; clear hs; (try clear a w); intro a w hs
                refine syg hs (y_move rfl) ?_; clear hs; (try clear a w); intro a w hs
                refine syg hs (y_move rfl) ?_; clear hs; (try clear a w); intro a w hs
                refine sno hs ?_; clear hs; (try clear a w); intro a w hs
                refine sno hs ?_; clear hs; (try clear a w); intro a w hs
                refine sno hs ?_; clear hs; (try clear a w); intro a w hs
                refine sno hs ?_; clear hs; (try clear a w); intro a w hs
                refine sno hs ?_; clear hs; (try clear a w); intro a w hs
                refine sno hs ?_; clear hs; (try clear a w); intro a w hs
                refine syg hs (y_pick rfl rfl) ?_; clear hs; (try clear a w); intro a w hs
                refine sy hs (y_pick rfl rfl) ?_; clear hs; (try clear a w); intro a w hs
                refine RL_nil ?_
                refine hK35 _ _ ?_; clear hK35
                refine W_condF hs rfl ?_
                refine W_skip ?_
                refine hK34 _ _ ?_; clear hK34
                refine W_seq fun K36 hK36 => ?_
                refine W_region ?_
                refine sy hs (y_move rfl) ?_; clear hs; (try clear a w); intro a w hs
                refine RL_nil ?_
                refine hK36 _ _ ?_; clear hK36
                refine W_condF hs rfl ?_
                refine W_skip ?_
                refine hK26 _ _ ?_; clear hK26
                refine W_seq fun K37 hK37 => ?_
                refine W_region ?_
                refine sy hs (y_move rfl) ?_; clear hs; (try clear a w); intro a w hs
                refine sy hs (y_callC rfl has20 rfl (fun w hw => At_i (.head _) hw)) ?_; clear hs; (try clear a w); intro a w hs
                refine sy hs (y_move rfl) ?_; clear hs; (try clear a w); intro a w hs
                refine sy hs (y_neq rfl rfl) ?_; clear hs; (try clear a w); intro a w hs
                rw [show decide ((at_ : Int) ≠ (at_ : Int)) = false from by simp] at hs
                refine sy hs (y_move rfl) ?_; clear hs; (try clear a w); intro a w hs
                refine syg hs (y_move rfl) ?_; clear hs; (try clear a w); intro a w hs
                refine syg hs (y_callC rfl has21 rfl (fun w hw => Left_i (.head _) hRc (by omega) hm hw)) ?_; clear hs; (try clear a w); intro a w hs
                refine syg hs (y_move rfl) ?_; clear hs; (try clear a w); intro a w hs
                first | (refine syg hs (y_lenM rfl Try.underlying42) ?_; clear hs; (try clear a w); intro a w hs) | (refine syg hs (y_lenR rfl Try.underlying42) ?_; clear hs; (try clear a w); intro a w hs) | (refine syg hs (y_len rfl Try.underlying42) ?_; clear hs; (try clear a w); intro a w hs)
                refine syg hs (y_move rfl) ?_; clear hs; (try clear a w); intro a w hs
                refine syg hs (y_sub rfl rfl (wr_i64 (by omega))) ?_; clear hs; (try clear a w); intro a w hs
                refine syg hs (y_neq rfl rfl) ?_; clear hs; (try clear a w); intro a w hs
                rw [show decide (((ls.length - at_ : Nat) : Int) ≠ (ls.length : Int) - (at_ : Int)) = false from by simp; omega] at hs
                refine sy hs (y_pick rfl rfl) ?_; clear hs; (try clear a w); intro a w hs
                refine RL_nil ?_
                refine hK37 _ _ ?_; clear hK37
                refine W_condF hs rfl ?_
                refine W_skip ?_
                refine hK20 _ _ ?_; clear hK20
                refine W_region ?_
                refine sy hs (y_move rfl) ?_; clear hs; (try clear a w); intro a w hs
                refine sy hs (y_add rfl rfl (wr_i64 (by omega))) ?_; clear hs; (try clear a w); intro a w hs
                refine sy hs (y_assign rfl) ?_; clear hs; (try clear a w); intro a w hs
                refine RL_nil ?_
                exact hK (i + 1) _ _ (by omega) ⟨at_, by omega, hs.sub ⟨rfl, rfl, rfl, rfl, rfl, trivial⟩⟩
            · refine W_skip ?_
              refine hK26 _ _ ?_; clear hK26
              refine W_seq fun K38 hK38 => ?_
              refine W_region ?_
              refine sy hs (y_move rfl) ?_; clear hs; (try clear a w); intro a w hs
              refine sy hs (y_callC rfl has20 rfl (fun w hw => At_i (.head _) hw)) ?_; clear hs; (try clear a w); intro a w hs
              refine sy hs (y_move rfl) ?_; clear hs; (try clear a w); intro a w hs
              refine sy hs (y_neq rfl rfl) ?_; clear hs; (try clear a w); intro a w hs
              rw [show decide ((at_ : Int) ≠ (at_ : Int)) = false from by simp] at hs
              refine sy hs (y_move rfl) ?_; clear hs; (try clear a w); intro a w hs
              refine syg hs (y_move rfl) ?_; clear hs; (try clear a w); intro a w hs
              refine syg hs (y_callC rfl has21 rfl (fun w hw => Left_i (.head _) hRc (by omega) hm hw)) ?_; clear hs; (try clear a w); intro a w hs
              refine syg hs (y_move rfl) ?_; clear hs; (try clear a w); intro a w hs
              first | (refine syg hs (y_lenM rfl Try.underlying42) ?_; clear hs; (try clear a w); intro a w hs) | (refine syg hs (y_lenR rfl Try.underlying42) ?_; clear hs; (try clear a w); intro a w hs) | (refine syg hs (y_len rfl Try.underlying42) ?_; clear hs; (try clear a w); intro a w hs)
              refine syg hs (y_move rfl) ?_; clear hs; (try clear a w); intro a w hs
              refine syg hs (y_sub rfl rfl (wr_i64 (by omega))) ?_; clear hs; (try clear a w); intro a w hs
              refine syg hs (y_neq rfl rfl) ?_; clear hs; (try clear a w); intro a w hs
              rw [show decide (((ls.length - at_ : Nat) : Int) ≠ (ls.length : Int) - (at_ : Int)) = false from by simp; omega] at hs
              refine sy hs (y_pick rfl rfl) ?_; clear hs; (try clear a w); intro a w hs
              refine RL_nil ?_
              refine hK38 _ _ ?_; clear hK38
              refine W_condF hs rfl ?_
              refine W_skip ?_
              refine hK20 _ _ ?_; clear hK20
              refine W_region ?_
              refine sy hs (y_move rfl) ?_; clear hs; (try clear a w); intro a w hs
              refine sy hs (y_add rfl rfl (wr_i64 (by omega))) ?_; clear hs; (try clear a w); intro a w hs
              refine sy hs (y_assign rfl) ?_; clear hs; (try clear a w); intro a w hs
              refine RL_nil ?_
              exact hK (i + 1) _ _ (by omega) ⟨at_, by omega, hs.sub ⟨rfl, rfl, rfl, rfl, rfl, trivial⟩⟩
          · clear hs; have hs := hq; clear hq
            exact absurd (by omega) g0
        · have hpk : peek (ls.drop at_) x = .tuple #[.int .i64 0, .bool false] := by
            rw [peek]
            split
            · rw [List.getElem?_eq_none (by simp; omega)]
            · rfl
          refine W_skip ?_
          refine hK18 _ _ ?_; clear hK18
          refine W_seq fun K39 hK39 => ?_
          refine W_block fun Qe40 hB40 hO40 => ?_
          refine W_seq fun K41 hK41 => ?_
          refine W_region ?_
          refine sy hs (y_move rfl) ?_; clear hs; (try clear a w); intro a w hs
          refine sy hs (y_move rfl) ?_; clear hs; (try clear a w); intro a w hs
          refine sy hs (y_move rfl) ?_; clear hs; (try clear a w); intro a w hs
          first | (refine sy hs (y_ix rfl rfl Try.underlying42 ti3 rfl) ?_; clear hs; (try clear a w); intro a w hs) | (refine sy hs (y_ix rfl rfl Try.underlying42 ti3 (ix_of (by omega))) ?_; clear hs; (try clear a w); intro a w hs)
          first | (refine sy hs (y_ld rfl Try.underlying3 rfl) ?_; clear hs; (try clear a w); intro a w hs) | (refine sy hs (y_ldE rfl Try.underlying3 rfl) ?_; clear hs; (try clear a w); intro a w hs)
          refine sy hs (y_callC rfl has19 rfl (fun w hw => hpk ▸ Peek_i (.head _) hRc hat hm hw)) ?_; clear hs; (try clear a w); intro a w hs
          refine sy hs (y_move rfl) ?_; clear hs; (try clear a w); intro a w hs
          refine sy hs (y_extract rfl rfl) ?_; clear hs; (try clear a w); intro a w hs
          refine sy hs (y_extract rfl rfl) ?_; clear hs; (try clear a w); intro a w hs
          refine sy hs (y_assign rfl) ?_; clear hs; (try clear a w); intro a w hs
          refine sy hs (y_assign rfl) ?_; clear hs; (try clear a w); intro a w hs
          refine RL_nil ?_
          refine hK41 _ _ ?_; clear hK41
          refine W_seq fun K42 hK42 => ?_
          refine W_region ?_
          refine sy hs (y_move rfl) ?_; clear hs; (try clear a w); intro a w hs
          refine sy hs (y_move rfl) ?_; clear hs; (try clear a w); intro a w hs
          first | (refine sy hs (y_ix rfl rfl Try.underlying42 ti3 rfl) ?_; clear hs; (try clear a w); intro a w hs) | (refine sy hs (y_ix rfl rfl Try.underlying42 ti3 (ix_of (by omega))) ?_; clear hs; (try clear a w); intro a w hs)
          first | (refine sy hs (y_ld rfl Try.underlying3 rfl) ?_; clear hs; (try clear a w); intro a w hs) | (refine sy hs (y_ldE rfl Try.underlying3 rfl) ?_; clear hs; (try clear a w); intro a w hs)
          refine sy hs (y_geq rfl rfl) ?_; clear hs; (try clear a w); intro a w hs
          refine sy hs (y_move rfl) ?_; clear hs; (try clear a w); intro a w hs
          first | refine St.splitP hs (t := 59) rfl (fun g0 hq => ?_) (fun g0 hq => ?_) | refine St.split hs (t := 59) rfl (fun g0 hq => ?_) (fun g0 hq => ?_)
          · clear hs; have hs := hq; clear hq
            refine syg hs (y_move rfl) ?_; clear hs; (try clear a w); intro a w hs
            refine syg hs (y_move rfl) ?_; clear hs; (try clear a w); intro a w hs
            first | (refine syg hs (y_ix rfl rfl Try.underlying42 ti3 rfl) ?_; clear hs; (try clear a w); intro a w hs) | (refine syg hs (y_ix rfl rfl Try.underlying42 ti3 (ix_of (by omega))) ?_; clear hs; (try clear a w); intro a w hs)
            first | (refine syg hs (y_ld rfl Try.underlying3 rfl) ?_; clear hs; (try clear a w); intro a w hs) | (refine syg hs (y_ldE rfl Try.underlying3 rfl) ?_; clear hs; (try clear a w); intro a w hs)
            refine syg hs (y_move rfl) ?_; clear hs; (try clear a w); intro a w hs
            first | (refine syg hs (y_lenM rfl Try.underlying42) ?_; clear hs; (try clear a w); intro a w hs) | (refine syg hs (y_lenR rfl Try.underlying42) ?_; clear hs; (try clear a w); intro a w hs) | (refine syg hs (y_len rfl Try.underlying42) ?_; clear hs; (try clear a w); intro a w hs)
            refine syg hs (y_move rfl) ?_; clear hs; (try clear a w); intro a w hs
            refine syg hs (y_sub rfl rfl (wr_i64 (by omega))) ?_; clear hs; (try clear a w); intro a w hs
            refine syg hs (y_lss rfl rfl) ?_; clear hs; (try clear a w); intro a w hs
            rw [decide_eq_false (by omega)] at hs
            refine sy hs (y_pick rfl rfl) ?_; clear hs; (try clear a w); intro a w hs
            refine sy hs (y_assign rfl) ?_; clear hs; (try clear a w); intro a w hs
            refine RL_nil ?_
            refine hK42 _ _ ?_; clear hK42
            refine W_seq fun K43 hK43 => ?_
            refine W_seq fun K44 hK44 => ?_
            refine W_region ?_
            refine sy hs (y_move rfl) ?_; clear hs; (try clear a w); intro a w hs
            refine sy hs (y_move rfl) ?_; clear hs; (try clear a w); intro a w hs
            refine sy hs (y_bneq rfl rfl Try.underlying4) ?_; clear hs; (try clear a w); intro a w hs
            refine sy hs (y_move rfl) ?_; clear hs; (try clear a w); intro a w hs
            refine syg hs (y_move rfl) ?_; clear hs; (try clear a w); intro a w hs
            refine syg hs (y_move rfl) ?_; clear hs; (try clear a w); intro a w hs
            refine sno hs ?_; clear hs; (try clear a w); intro a w hs
            refine sno hs ?_; clear hs; (try clear a w); intro a w hs
            refine sno hs ?_; clear hs; (try clear a w); intro a w hs
            refine sno hs ?_; clear hs; (try clear a w); intro a w hs
            refine sno hs ?_; clear hs; (try clear a w); intro a w hs
            refine sno hs ?_; clear hs; (try clear a w); intro a w hs
            refine sno hs ?_; clear hs; (try clear a w); intro a w hs
            refine sno hs ?_; clear hs; (try clear a w); intro a w hs
            refine sno hs ?_; clear hs; (try clear a w); intro a w hs
            refine sno hs ?_; clear hs; (try clear a w); intro a w hs
            refine sno hs ?_; clear hs; (try clear a w); intro a w hs
            refine syg hs (y_pick rfl rfl) ?_; clear hs; (try clear a w); intro a w hs
            refine sy hs (y_pick rfl rfl) ?_; clear hs; (try clear a w); intro a w hs
            refine sy hs (y_move rfl) ?_; clear hs; (try clear a w); intro a w hs
            refine syg hs (y_move rfl) ?_; clear hs; (try clear a w); intro a w hs
            refine syg hs (y_not rfl) ?_; clear hs; (try clear a w); intro a w hs
            refine syg hs (y_move rfl) ?_; clear hs; (try clear a w); intro a w hs
            refine syg hs (y_move rfl) ?_; clear hs; (try clear a w); intro a w hs
            refine syg hs (y_neq rfl rfl) ?_; clear hs; (try clear a w); intro a w hs
            refine syg hs (y_pick rfl rfl) ?_; clear hs; (try clear a w); intro a w hs
            refine sy hs (y_pick rfl rfl) ?_; clear hs; (try clear a w); intro a w hs
            refine RL_nil ?_
            refine hK44 _ _ ?_; clear hK44
            refine W_condF hs rfl ?_
            refine W_skip ?_
            refine hK43 _ _ ?_; clear hK43
            refine W_seq fun K45 hK45 => ?_
            refine W_seq fun K46 hK46 => ?_
            refine W_region ?_
            refine sy hs (y_move rfl) ?_; clear hs; (try clear a w); intro a w hs
            refine sy hs (y_move rfl) ?_; clear hs; (try clear a w); intro a w hs
            first | (refine sy hs (y_ix rfl rfl Try.underlying42 ti3 rfl) ?_; clear hs; (try clear a w); intro a w hs) | (refine sy hs (y_ix rfl rfl Try.underlying42 ti3 (ix_of (by omega))) ?_; clear hs; (try clear a w); intro a w hs)
            first | (refine sy hs (y_ld rfl Try.underlying3 rfl) ?_; clear hs; (try clear a w); intro a w hs) | (refine sy hs (y_ldE rfl Try.underlying3 rfl) ?_; clear hs; (try clear a w); intro a w hs)
            refine sy hs (y_remT rfl rfl (by decide)) ?_; clear hs; (try clear a w); intro a w hs
            refine sy hs (y_eql rfl rfl) ?_; clear hs; (try clear a w); intro a w hs
            refine RL_nil ?_
            refine hK46 _ _ ?_; clear hK46
            first | refine W_condP hs rfl (fun hev => ?_) (fun hev => ?_) | refine W_cond hs rfl (fun hev => ?_) (fun hev => ?_)
            · by_cases hlt : at_ < ls.length
              · obtain ⟨y, hy⟩ : ∃ y, ls[at_ + 0]? = some y := ⟨_, List.getElem?_eq_getElem (by omega)⟩
                have hy' : ls[at_]? = some y := hy
                refine W_seq fun K47 hK47 => ?_
                refine W_region ?_
                refine sy hs (y_move rfl) ?_; clear hs; (try clear a w); intro a w hs
                refine RL_call (Lr := [_]) hs rfl has18 rfl rfl (Next_i (at_ := at_) hRc (by omega) hm) (.free rfl) (by decide) ?_; clear hs; (try clear a w); rintro _ f8 L8 a w hf8 ⟨rfl, rfl, rfl⟩ hs
                rw [if_pos hlt] at hs
                have hpn := peek_lt hy
                rw [show ((0 : Nat) : Int) = 0 from rfl] at hpn
                rw [hpn] at hs
                refine sy hs (y_move rfl) ?_; clear hs; (try clear a w); intro a w hs
                refine sy hs (y_extract rfl rfl) ?_; clear hs; (try clear a w); intro a w hs
                refine sy hs (y_extract rfl rfl) ?_; clear hs; (try clear a w); intro a w hs
                refine sy hs (y_assign rfl) ?_; clear hs; (try clear a w); intro a w hs
                refine sy hs (y_assign rfl) ?_; clear hs; (try clear a w); intro a w hs
                refine RL_nil ?_
                refine hK47 _ _ ?_; clear hK47
                refine W_seq fun K48 hK48 => ?_
                refine W_seq fun K49 hK49 => ?_
                refine W_region ?_
                refine sy hs (y_move rfl) ?_; clear hs; (try clear a w); intro a w hs
                refine sy hs (y_move rfl) ?_; clear hs; (try clear a w); intro a w hs
                refine sy hs (y_move rfl) ?_; clear hs; (try clear a w); intro a w hs
                first | (refine sy hs (y_lenM rfl Try.underlying42) ?_; clear hs; (try clear a w); intro a w hs) | (refine sy hs (y_lenR rfl Try.underlying42) ?_; clear hs; (try clear a w); intro a w hs) | (refine sy hs (y_len rfl Try.underlying42) ?_; clear hs; (try clear a w); intro a w hs)
                refine sy hs (y_lss rfl rfl) ?_; clear hs; (try clear a w); intro a w hs
                rw [decide_eq_true (by omega)] at hs
                refine sy hs (y_bneq rfl rfl Try.underlying4) ?_; clear hs; (try clear a w); intro a w hs
                refine sy hs (y_move rfl) ?_; clear hs; (try clear a w); intro a w hs
                refine syg hs (y_move rfl) ?_; clear hs; (try clear a w); intro a w hs
                refine syg hs (y_move rfl) ?_; clear hs; (try clear a w); intro a w hs
                refine syg hs (y_move rfl) ?_; clear hs; (try clear a w); intro a w hs
                refine syg hs (y_move rfl) ?_; clear hs; (try clear a w); intro a w hs
                refine syg hs (y_move rfl) ?_; clear hs; (try clear a w); intro a w hs
                first | (refine syg hs (y_ix rfl rfl Try.underlying42 ti3 rfl) ?_; clear hs; (try clear a w); intro a w hs) | (refine syg hs (y_ix rfl rfl Try.underlying42 ti3 (ix_of (by omega))) ?_; clear hs; (try clear a w); intro a w hs)
                first | (refine syg hs (y_ld rfl Try.underlying3 rfl) ?_; clear hs; (try clear a w); intro a w hs) | (refine syg hs (y_ldE rfl Try.underlying3 rfl) ?_; clear hs; (try clear a w); intro a w hs)
                refine syg hs (y_neq rfl rfl) ?_; clear hs; (try clear a w); intro a w hs
                rw [show decide (y ≠ y) = false from by simp] at hs
                refine syg hs (y_pick rfl rfl) ?_; clear hs; (try clear a w); intro a w hs
                refine sy hs (y_pick rfl rfl) ?_; clear hs; (try clear a w); intro a w hs
                refine RL_nil ?_
                refine hK49 _ _ ?_; clear hK49
                refine W_condF hs rfl ?_
                refine W_skip ?_
                refine hK48 _ _ ?_; clear hK48
                refine W_seq fun K50 hK50 => ?_
                refine W_region ?_
                refine sy hs (y_move rfl) ?_; clear hs; (try clear a w); intro a w hs
                refine RL_nil ?_
                refine hK50 _ _ ?_; clear hK50
                refine W_condT hs rfl ?_
                refine W_region ?_
                refine sy hs (y_move rfl) ?_; clear hs; (try clear a w); intro a w hs
                refine sy hs (y_add rfl rfl (wr_i64 (by omega))) ?_; clear hs; (try clear a w); intro a w hs
                refine sy hs (y_assign rfl) ?_; clear hs; (try clear a w); intro a w hs
                refine RL_nil ?_
                refine hK45 _ _ ?_; clear hK45
                refine W_seq fun K51 hK51 => ?_
                refine W_region ?_
                refine sy hs (y_move rfl) ?_; clear hs; (try clear a w); intro a w hs
                refine sy hs (y_callC rfl has20 rfl (fun w hw => At_i (.head _) hw)) ?_; clear hs; (try clear a w); intro a w hs
                refine sy hs (y_move rfl) ?_; clear hs; (try clear a w); intro a w hs
                refine sy hs (y_neq rfl rfl) ?_; clear hs; (try clear a w); intro a w hs
                rw [show decide (((at_ + 1 : Nat) : Int) ≠ (at_ : Int) + 1) = false from by simp] at hs
                refine sy hs (y_move rfl) ?_; clear hs; (try clear a w); intro a w hs
                refine syg hs (y_move rfl) ?_; clear hs; (try clear a w); intro a w hs
                refine syg hs (y_callC rfl has21 rfl (fun w hw => Left_i (.head _) hRc (by omega) hm hw)) ?_; clear hs; (try clear a w); intro a w hs
                refine syg hs (y_move rfl) ?_; clear hs; (try clear a w); intro a w hs
                first | (refine syg hs (y_lenM rfl Try.underlying42) ?_; clear hs; (try clear a w); intro a w hs) | (refine syg hs (y_lenR rfl Try.underlying42) ?_; clear hs; (try clear a w); intro a w hs) | (refine syg hs (y_len rfl Try.underlying42) ?_; clear hs; (try clear a w); intro a w hs)
                refine syg hs (y_move rfl) ?_; clear hs; (try clear a w); intro a w hs
                refine syg hs (y_sub rfl rfl (wr_i64 (by omega))) ?_; clear hs; (try clear a w); intro a w hs
                refine syg hs (y_neq rfl rfl) ?_; clear hs; (try clear a w); intro a w hs
                rw [show decide (((ls.length - (at_ + 1) : Nat) : Int) ≠ (ls.length : Int) - ((at_ : Int) + 1)) = false from by simp; omega] at hs
                refine sy hs (y_pick rfl rfl) ?_; clear hs; (try clear a w); intro a w hs
                refine RL_nil ?_
                refine hK51 _ _ ?_; clear hK51
                refine W_condF hs rfl ?_
                refine W_skip ?_
                refine hK39 _ _ ?_; clear hK39
                refine W_region ?_
                refine sy hs (y_move rfl) ?_; clear hs; (try clear a w); intro a w hs
                refine sy hs (y_add rfl rfl (wr_i64 (by omega))) ?_; clear hs; (try clear a w); intro a w hs
                refine sy hs (y_assign rfl) ?_; clear hs; (try clear a w); intro a w hs
                refine RL_nil ?_
                exact hK (i + 1) _ _ (by omega) ⟨at_ + 1, by omega, hs.sub ⟨rfl, rfl, rfl, rfl, rfl, trivial⟩⟩
              · refine W_seq fun K52 hK52 => ?_
                refine W_region ?_
                refine sy hs (y_move rfl) ?_; clear hs; (try clear a w); intro a w hs
                refine RL_call (Lr := [_]) hs rfl has18 rfl rfl (Next_i (at_ := at_) hRc (by omega) hm) (.free rfl) (by decide) ?_; clear hs; (try clear a w); rintro _ f8 L8 a w hf8 ⟨rfl, rfl, rfl⟩ hs
                rw [if_neg hlt] at hs
                have hpn := peek_ge (xs := ls) (i := at_) (k := 0) (by omega)
                rw [show ((0 : Nat) : Int) = 0 from rfl] at hpn
                rw [hpn] at hs
                refine sy hs (y_move rfl) ?_; clear hs; (try clear a w); intro a w hs
                refine sy hs (y_extract rfl rfl) ?_; clear hs; (try clear a w); intro a w hs
                refine sy hs (y_extract rfl rfl) ?_; clear hs; (try clear a w); intro a w hs
                refine sy hs (y_assign rfl) ?_; clear hs; (try clear a w); intro a w hs
                refine sy hs (y_assign rfl) ?_; clear hs; (try clear a w); intro a w hs
                refine RL_nil ?_
                refine hK52 _ _ ?_; clear hK52
                refine W_seq fun K53 hK53 => ?_
                refine W_seq fun K54 hK54 => ?_
                refine W_region ?_
                refine sy hs (y_move rfl) ?_; clear hs; (try clear a w); intro a w hs
                refine sy hs (y_move rfl) ?_; clear hs; (try clear a w); intro a w hs
                refine sy hs (y_move rfl) ?_; clear hs; (try clear a w); intro a w hs
                first | (refine sy hs (y_lenM rfl Try.underlying42) ?_; clear hs; (try clear a w); intro a w hs) | (refine sy hs (y_lenR rfl Try.underlying42) ?_; clear hs; (try clear a w); intro a w hs) | (refine sy hs (y_len rfl Try.underlying42) ?_; clear hs; (try clear a w); intro a w hs)
                refine sy hs (y_lss rfl rfl) ?_; clear hs; (try clear a w); intro a w hs
                rw [decide_eq_false (by omega)] at hs
                refine sy hs (y_bneq rfl rfl Try.underlying4) ?_; clear hs; (try clear a w); intro a w hs
                refine sy hs (y_move rfl) ?_; clear hs; (try clear a w); intro a w hs
                refine syg hs (y_move rfl) ?_; clear hs; (try clear a w); intro a w hs
                refine syg hs (y_move rfl) ?_; clear hs; (try clear a w); intro a w hs
                refine sno hs ?_; clear hs; (try clear a w); intro a w hs
                refine sno hs ?_; clear hs; (try clear a w); intro a w hs
                refine sno hs ?_; clear hs; (try clear a w); intro a w hs
                refine sno hs ?_; clear hs; (try clear a w); intro a w hs
                refine sno hs ?_; clear hs; (try clear a w); intro a w hs
                refine sno hs ?_; clear hs; (try clear a w); intro a w hs
                refine syg hs (y_pick rfl rfl) ?_; clear hs; (try clear a w); intro a w hs
                refine sy hs (y_pick rfl rfl) ?_; clear hs; (try clear a w); intro a w hs
                refine RL_nil ?_
                refine hK54 _ _ ?_; clear hK54
                refine W_condF hs rfl ?_
                refine W_skip ?_
                refine hK53 _ _ ?_; clear hK53
                refine W_seq fun K55 hK55 => ?_
                refine W_region ?_
                refine sy hs (y_move rfl) ?_; clear hs; (try clear a w); intro a w hs
                refine RL_nil ?_
                refine hK55 _ _ ?_; clear hK55
                refine W_condF hs rfl ?_
                refine W_skip ?_
                refine hK45 _ _ ?_; clear hK45
                refine W_seq fun K56 hK56 => ?_
                refine W_region ?_
                refine sy hs (y_move rfl) ?_; clear hs; (try clear a w); intro a w hs
                refine sy hs (y_callC rfl has20 rfl (fun w hw => At_i (.head _) hw)) ?_; clear hs; (try clear a w); intro a w hs
                refine sy hs (y_move rfl) ?_; clear hs; (try clear a w); intro a w hs
                refine sy hs (y_neq rfl rfl) ?_; clear hs; (try clear a w); intro a w hs
                rw [show decide ((at_ : Int) ≠ (at_ : Int)) = false from by simp] at hs
                refine sy hs (y_move rfl) ?_; clear hs; (try clear a w); intro a w hs
                refine syg hs (y_move rfl) ?_; clear hs; (try clear a w); intro a w hs
                refine syg hs (y_callC rfl has21 rfl (fun w hw => Left_i (.head _) hRc (by omega) hm hw)) ?_; clear hs; (try clear a w); intro a w hs
                refine syg hs (y_move rfl) ?_; clear hs; (try clear a w); intro a w hs
                first | (refine syg hs (y_lenM rfl Try.underlying42) ?_; clear hs; (try clear a w); intro a w hs) | (refine syg hs (y_lenR rfl Try.underlying42) ?_; clear hs; (try clear a w); intro a w hs) | (refine syg hs (y_len rfl Try.underlying42) ?_; clear hs; (try clear a w); intro a w hs)
                refine syg hs (y_move rfl) ?_; clear hs; (try clear a w); intro a w hs
                refine syg hs (y_sub rfl rfl (wr_i64 (by omega))) ?_; clear hs; (try clear a w); intro a w hs
                refine syg hs (y_neq rfl rfl) ?_; clear hs; (try clear a w); intro a w hs
                rw [show decide (((ls.length - at_ : Nat) : Int) ≠ (ls.length : Int) - (at_ : Int)) = false from by simp; omega] at hs
                refine sy hs (y_pick rfl rfl) ?_; clear hs; (try clear a w); intro a w hs
                refine RL_nil ?_
                refine hK56 _ _ ?_; clear hK56
                refine W_condF hs rfl ?_
                refine W_skip ?_
                refine hK39 _ _ ?_; clear hK39
                refine W_region ?_
                refine sy hs (y_move rfl) ?_; clear hs; (try clear a w); intro a w hs
                refine sy hs (y_add rfl rfl (wr_i64 (by omega))) ?_; clear hs; (try clear a w); intro a w hs
                refine sy hs (y_assign rfl) ?_; clear hs; (try clear a w); intro a w hs
                refine RL_nil ?_
                exact hK (i + 1) _ _ (by omega) ⟨at_, by omega, hs.sub ⟨rfl, rfl, rfl, rfl, rfl, trivial⟩⟩
            · refine W_skip ?_
              refine hK45 _ _ ?_; clear hK45
              refine W_seq fun K57 hK57 => ?_
              refine W_region ?_
              refine sy hs (y_move rfl) ?_; clear hs; (try clear a w); intro a w hs
              refine sy hs (y_callC rfl has20 rfl (fun w hw => At_i (.head _) hw)) ?_; clear hs; (try clear a w); intro a w hs
              refine sy hs (y_move rfl) ?_; clear hs; (try clear a w); intro a w hs
              refine sy hs (y_neq rfl rfl) ?_; clear hs; (try clear a w); intro a w hs
              rw [show decide ((at_ : Int) ≠ (at_ : Int)) = false from by simp] at hs
              refine sy hs (y_move rfl) ?_; clear hs; (try clear a w); intro a w hs
              refine syg hs (y_move rfl) ?_; clear hs; (try clear a w); intro a w hs
              refine syg hs (y_callC rfl has21 rfl (fun w hw => Left_i (.head _) hRc (by omega) hm hw)) ?_; clear hs; (try clear a w); intro a w hs
              refine syg hs (y_move rfl) ?_; clear hs; (try clear a w); intro a w hs
              first | (refine syg hs (y_lenM rfl Try.underlying42) ?_; clear hs; (try clear a w); intro a w hs) | (refine syg hs (y_lenR rfl Try.underlying42) ?_; clear hs; (try clear a w); intro a w hs) | (refine syg hs (y_len rfl Try.underlying42) ?_; clear hs; (try clear a w); intro a w hs)
              refine syg hs (y_move rfl) ?_; clear hs; (try clear a w); intro a w hs
              refine syg hs (y_sub rfl rfl (wr_i64 (by omega))) ?_; clear hs; (try clear a w); intro a w hs
              refine syg hs (y_neq rfl rfl) ?_; clear hs; (try clear a w); intro a w hs
              rw [show decide (((ls.length - at_ : Nat) : Int) ≠ (ls.length : Int) - (at_ : Int)) = false from by simp; omega] at hs
              refine sy hs (y_pick rfl rfl) ?_; clear hs; (try clear a w); intro a w hs
              refine RL_nil ?_
              refine hK57 _ _ ?_; clear hK57
              refine W_condF hs rfl ?_
              refine W_skip ?_
              refine hK39 _ _ ?_; clear hK39
              refine W_region ?_
              refine sy hs (y_move rfl) ?_; clear hs; (try clear a w); intro a w hs
              refine sy hs (y_add rfl rfl (wr_i64 (by omega))) ?_; clear hs; (try clear a w); intro a w hs
              refine sy hs (y_assign rfl) ?_; clear hs; (try clear a w); intro a w hs
              refine RL_nil ?_
              exact hK (i + 1) _ _ (by omega) ⟨at_, by omega, hs.sub ⟨rfl, rfl, rfl, rfl, rfl, trivial⟩⟩
          · clear hs; have hs := hq; clear hq
            refine sno hs ?_; clear hs; (try clear a w); intro a w hs
            refine sno hs ?_; clear hs; (try clear a w); intro a w hs
            refine sno hs ?_; clear hs; (try clear a w); intro a w hs
            refine sno hs ?_; clear hs; (try clear a w); intro a w hs
            refine sno hs ?_; clear hs; (try clear a w); intro a w hs
            refine sno hs ?_; clear hs; (try clear a w); intro a w hs
            refine sno hs ?_; clear hs; (try clear a w); intro a w hs
            refine sno hs ?_; clear hs; (try clear a w); intro a w hs
            refine sno hs ?_; clear hs; (try clear a w); intro a w hs
            refine sy hs (y_pick rfl rfl) ?_; clear hs; (try clear a w); intro a w hs
            refine sy hs (y_assign rfl) ?_; clear hs; (try clear a w); intro a w hs
            refine RL_nil ?_
            refine hK42 _ _ ?_; clear hK42
            refine W_seq fun K58 hK58 => ?_
            refine W_seq fun K59 hK59 => ?_
            refine W_region ?_
            refine sy hs (y_move rfl) ?_; clear hs; (try clear a w); intro a w hs
            refine sy hs (y_move rfl) ?_; clear hs; (try clear a w); intro a w hs
            refine sy hs (y_bneq rfl rfl Try.underlying4) ?_; clear hs; (try clear a w); intro a w hs
            refine sy hs (y_move rfl) ?_; clear hs; (try clear a w); intro a w hs
            refine syg hs (y_move rfl) ?_; clear hs; (try clear a w); intro a w hs
            refine syg hs (y_move rfl) ?_; clear hs; (try clear a w); intro a w hs
            refine sno hs ?_; clear hs; (try clear a w); intro a w hs
            refine sno hs ?_; clear hs; (try clear a w); intro a w hs
            refine sno hs ?_; clear hs; (try clear a w); intro a w hs
            refine sno hs ?_; clear hs; (try clear a w); intro a w hs
            refine sno hs ?_; clear hs; (try clear a w); intro a w hs
            refine sno hs ?_; clear hs; (try clear a w); intro a w hs
            refine sno hs ?_; clear hs; (try clear a w); intro a w hs
            refine sno hs ?_; clear hs; (try clear a w); intro a w hs
            refine sno hs ?_; clear hs; (try clear a w); intro a w hs
            refine sno hs ?_; clear hs; (try clear a w); intro a w hs
            refine sno hs ?_; clear hs; (try clear a w); intro a w hs
            refine syg hs (y_pick rfl rfl) ?_; clear hs; (try clear a w); intro a w hs
            refine sy hs (y_pick rfl rfl) ?_; clear hs; (try clear a w); intro a w hs
            refine sy hs (y_move rfl) ?_; clear hs; (try clear a w); intro a w hs
            refine syg hs (y_move rfl) ?_; clear hs; (try clear a w); intro a w hs
            refine syg hs (y_not rfl) ?_; clear hs; (try clear a w); intro a w hs
            refine syg hs (y_move rfl) ?_; clear hs; (try clear a w); intro a w hs
            refine syg hs (y_move rfl) ?_; clear hs; (try clear a w); intro a w hs
            refine syg hs (y_neq rfl rfl) ?_; clear hs; (try clear a w); intro a w hs
            refine syg hs (y_pick rfl rfl) ?_; clear hs; (try clear a w); intro a w hs
            refine sy hs (y_pick rfl rfl) ?_; clear hs; (try clear a w); intro a w hs
            refine RL_nil ?_
            refine hK59 _ _ ?_; clear hK59
            refine W_condF hs rfl ?_
            refine W_skip ?_
            refine hK58 _ _ ?_; clear hK58
            refine W_seq fun K60 hK60 => ?_
            refine W_seq fun K61 hK61 => ?_
            refine W_region ?_
            refine sy hs (y_move rfl) ?_; clear hs; (try clear a w); intro a w hs
            refine sy hs (y_move rfl) ?_; clear hs; (try clear a w); intro a w hs
            first | (refine sy hs (y_ix rfl rfl Try.underlying42 ti3 rfl) ?_; clear hs; (try clear a w); intro a w hs) | (refine sy hs (y_ix rfl rfl Try.underlying42 ti3 (ix_of (by omega))) ?_; clear hs; (try clear a w); intro a w hs)
            first | (refine sy hs (y_ld rfl Try.underlying3 rfl) ?_; clear hs; (try clear a w); intro a w hs) | (refine sy hs (y_ldE rfl Try.underlying3 rfl) ?_; clear hs; (try clear a w); intro a w hs)
            refine sy hs (y_remT rfl rfl (by decide)) ?_; clear hs; (try clear a w); intro a w hs
            refine sy hs (y_eql rfl rfl) ?_; clear hs; (try clear a w); intro a w hs
            refine RL_nil ?_
            refine hK61 _ _ ?_; clear hK61
            first | refine W_condP hs rfl (fun hev => ?_) (fun hev => ?_) | refine W_cond hs rfl (fun hev => ?_) (fun hev => ?_)
            · by_cases hlt : at_ < ls.length
              · obtain ⟨y, hy⟩ : ∃ y, ls[at_ + 0]? = some y := ⟨_, List.getElem?_eq_getElem (by omega)⟩
                have hy' : ls[at_]? = some y := hy
                refine W_seq fun K62 hK62 => ?_
                refine W_region ?_
                refine sy hs (y_move rfl) ?_; clear hs; (try clear a w); intro a w hs
                refine RL_call (Lr := [_]) hs rfl has18 rfl rfl (Next_i (at_ := at_) hRc (by omega) hm) (.free rfl) (by decide) ?_; clear hs; (try clear a w); rintro _ f8 L8 a w hf8 ⟨rfl, rfl, rfl⟩ hs
                rw [if_pos hlt] at hs
                have hpn := peek_lt hy
                rw [show ((0 : Nat) : Int) = 0 from rfl] at hpn
                rw [hpn] at hs
                refine sy hs (y_move rfl) ?_; clear hs; (try clear a w); intro a w hs
                refine sy hs (y_extract rfl rfl) ?_; clear hs; (try clear a w); intro a w hs
                refine sy hs (y_extract rfl rfl) ?_; clear hs; (try clear a w); intro a w hs
                refine sy hs (y_assign rfl) ?_; clear hs; (try clear a w); intro a w hs
                refine sy hs (y_assign rfl) ?_; clear hs; (try clear a w); intro a w hs
                refine RL_nil ?_
                refine hK62 _ _ ?_; clear hK62
                refine W_seq fun K63 hK63 => ?_
                refine W_seq fun K64 hK64 => ?_
                refine W_region ?_
                refine sy hs (y_move rfl) ?_; clear hs; (try clear a w); intro a w hs
                refine sy hs (y_move rfl) ?_; clear hs; (try clear a w); intro a w hs
                refine sy hs (y_move rfl) ?_; clear hs; (try clear a w); intro a w hs
                first | (refine sy hs (y_lenM rfl Try.underlying42) ?_; clear hs; (try clear a w); intro a w hs) | (refine sy hs (y_lenR rfl Try.underlying42) ?_; clear hs; (try clear a w); intro a w hs) | (refine sy hs (y_len rfl Try.underlying42) ?_; clear hs; (try clear a w); intro a w hs)
                refine sy hs (y_lss rfl rfl) ?_; clear hs; (try clear a w); intro a w hs
                rw [decide_eq_true (by omega)] at hs
                refine sy hs (y_bneq rfl rfl Try.underlying4) ?_; clear hs; (try clear a w); intro a w hs
                refine sy hs (y_move rfl) ?_; clear hs; (try clear a w); intro a w hs
                refine syg hs (y_move rfl) ?_; clear hs; (try clear a w); intro a w hs
                refine syg hs (y_move rfl) ?_; clear hs; (try clear a w); intro a w hs
                refine syg hs (y_move rfl) ?_; clear hs; (try clear a w); intro a w hs
                refine syg hs (y_move rfl) ?_; clear hs; (try clear a w); intro a w hs
                refine syg hs (y_move rfl) ?_; clear hs; (try clear a w); intro a w hs
                first | (refine syg hs (y_ix rfl rfl Try.underlying42 ti3 rfl) ?_; clear hs; (try clear a w); intro a w hs) | (refine syg hs (y_ix rfl rfl Try.underlying42 ti3 (ix_of (by omega))) ?_; clear hs; (try clear a w); intro a w hs)
                first | (refine syg hs (y_ld rfl Try.underlying3 rfl) ?_; clear hs; (try clear a w); intro a w hs) | (refine syg hs (y_ldE rfl Try.underlying3 rfl) ?_; clear hs; (try clear a w); intro a w hs)
                refine syg hs (y_neq rfl rfl) ?_; clear hs; (try clear a w); intro a w hs
                rw [show decide (y ≠ y) = false from by simp] at hs
                refine syg hs (y_pick rfl rfl) ?_; clear hs; (try clear a w); intro a w hs
                refine sy hs (y_pick rfl rfl) ?_; clear hs; (try clear a w); intro a w hs
                refine RL_nil ?_
                refine hK64 _ _ ?_; clear hK64
                refine W_condF hs rfl ?_
                refine W_skip ?_
                refine hK63 _ _ ?_; clear hK63
                refine W_seq fun K65 hK65 => ?_
                refine W_region ?_
                refine sy hs (y_move rfl) ?_; clear hs; (try clear a w); intro a w hs
                refine RL_nil ?_
                refine hK65 _ _ ?_; clear hK65
                refine W_condT hs rfl ?_
                refine W_region ?_
                refine sy hs (y_move rfl) ?_; clear hs; (try clear a w); intro a w hs
                refine sy hs (y_add rfl rfl (wr_i64 (by omega))) ?_; clear hs; (try clear a w); intro a w hs
                refine sy hs (y_assign rfl) ?_; clear hs; (try clear a w); intro a w hs
                refine RL_nil ?_
                refine hK60 _ _ ?_; clear hK60
                refine W_seq fun K66 hK66 => ?_
                refine W_region ?_
                refine sy hs (y_move rfl) ?_; clear hs; (try clear a w); intro a w hs
                refine sy hs (y_callC rfl has20 rfl (fun w hw => At_i (.head _) hw)) ?_; clear hs; (try clear a w); intro a w hs
                refine sy hs (y_move rfl) ?_; clear hs; (try clear a w); intro a w hs
                refine sy hs (y_neq rfl rfl) ?_; clear hs; (try clear a w); intro a w hs
                rw [show decide (((at_ + 1 : Nat) : Int) ≠ (at_ : Int) + 1) = false from by simp] at hs
                refine sy hs (y_move rfl) ?_; clear hs; (try clear a w); intro a w hs
                refine syg hs (y_move rfl) ?_; clear hs; (try clear a w); intro a w hs
                refine syg hs (y_callC rfl has21 rfl (fun w hw => Left_i (.head _) hRc (by omega) hm hw)) ?_; clear hs; (try clear a w); intro a w hs
                refine syg hs (y_move rfl) ?_; clear hs; (try clear a w); intro a w hs
                first | (refine syg hs (y_lenM rfl Try.underlying42) ?_; clear hs; (try clear a w); intro a w hs) | (refine syg hs (y_lenR rfl Try.underlying42) ?_; clear hs; (try clear a w); intro a w hs) | (refine syg hs (y_len rfl Try.underlying42) ?_; clear hs; (try clear a w); intro a w hs)
                refine syg hs (y_move rfl) ?_; clear hs; (try clear a w); intro a w hs
                refine syg hs (y_sub rfl rfl (wr_i64 (by omega))) ?_; clear hs; (try clear a w); intro a w hs
                refine syg hs (y_neq rfl rfl) ?_; clear hs; (try clear a w); intro a w hs
                rw [show decide (((ls.length - (at_ + 1) : Nat) : Int) ≠ (ls.length : Int) - ((at_ : Int) + 1)) = false from by simp; omega] at hs
                refine sy hs (y_pick rfl rfl) ?_; clear hs; (try clear a w); intro a w hs
                refine RL_nil ?_
                refine hK66 _ _ ?_; clear hK66
                refine W_condF hs rfl ?_
                refine W_skip ?_
                refine hK39 _ _ ?_; clear hK39
                refine W_region ?_
                refine sy hs (y_move rfl) ?_; clear hs; (try clear a w); intro a w hs
                refine sy hs (y_add rfl rfl (wr_i64 (by omega))) ?_; clear hs; (try clear a w); intro a w hs
                refine sy hs (y_assign rfl) ?_; clear hs; (try clear a w); intro a w hs
                refine RL_nil ?_
                exact hK (i + 1) _ _ (by omega) ⟨at_ + 1, by omega, hs.sub ⟨rfl, rfl, rfl, rfl, rfl, trivial⟩⟩
              · refine W_seq fun K67 hK67 => ?_
                refine W_region ?_
                refine sy hs (y_move rfl) ?_; clear hs; (try clear a w); intro a w hs
                refine RL_call (Lr := [_]) hs rfl has18 rfl rfl (Next_i (at_ := at_) hRc (by omega) hm) (.free rfl) (by decide) ?_; clear hs; (try clear a w); rintro _ f8 L8 a w hf8 ⟨rfl, rfl, rfl⟩ hs
                rw [if_neg hlt] at hs
                have hpn := peek_ge (xs := ls) (i := at_) (k := 0) (by omega)
                rw [show ((0 : Nat) : Int) = 0 from rfl] at hpn
                rw [hpn] at hs
                refine sy hs (y_move rfl) ?_; clear hs; (try clear a w); intro a w hs
                refine sy hs (y_extract rfl rfl) ?_; clear hs; (try clear a w); intro a w hs
                refine sy hs (y_extract rfl rfl) ?_; clear hs; (try clear a w); intro a w hs
                refine sy hs (y_assign rfl) ?_; clear hs; (try clear a w); intro a w hs
                refine sy hs (y_assign rfl) ?_; clear hs; (try clear a w); intro a w hs
                refine RL_nil ?_
                refine hK67 _ _ ?_; clear hK67
                refine W_seq fun K68 hK68 => ?_
                refine W_seq fun K69 hK69 => ?_
                refine W_region ?_
                refine sy hs (y_move rfl) ?_; clear hs; (try clear a w); intro a w hs
                refine sy hs (y_move rfl) ?_; clear hs; (try clear a w); intro a w hs
                refine sy hs (y_move rfl) ?_; clear hs; (try clear a w); intro a w hs
                first | (refine sy hs (y_lenM rfl Try.underlying42) ?_; clear hs; (try clear a w); intro a w hs) | (refine sy hs (y_lenR rfl Try.underlying42) ?_; clear hs; (try clear a w); intro a w hs) | (refine sy hs (y_len rfl Try.underlying42) ?_; clear hs; (try clear a w); intro a w hs)
                refine sy hs (y_lss rfl rfl) ?_; clear hs; (try clear a w); intro a w hs
                rw [decide_eq_false (by omega)] at hs
                refine sy hs (y_bneq rfl rfl Try.underlying4) ?_; clear hs; (try clear a w); intro a w hs
                refine sy hs (y_move rfl) ?_; clear hs; (try clear a w); intro a w hs
                refine syg hs (y_move rfl) ?_; clear hs; (try clear a w); intro a w hs
                refine syg hs (y_move rfl) ?_; clear hs; (try clear a w); intro a w hs
                refine sno hs ?_; clear hs; (try clear a w); intro a w hs
                refine sno hs ?_; clear hs; (try clear a w); intro a w hs
                refine sno hs ?_; clear hs; (try clear a w); intro a w hs
                refine sno hs ?_; clear hs; (try clear a w); intro a w hs
                refine sno hs ?_; clear hs; (try clear a w); intro a w hs
                refine sno hs ?_; clear hs; (try clear a w); intro a w hs
                refine syg hs (y_pick rfl rfl) ?_; clear hs; (try clear a w); intro a w hs
                refine sy hs (y_pick rfl rfl) ?_; clear hs; (try clear a w); intro a w hs
                refine RL_nil ?_
                refine hK69 _ _ ?_; clear hK69
                refine W_condF hs rfl ?_
                refine W_skip ?_
                refine hK68 _ _ ?_; clear hK68
                refine W_seq fun K70 hK70 => ?_
                refine W_region ?_
                refine sy hs (y_move rfl) ?_; clear hs; (try clear a w); intro a w hs
                refine RL_nil ?_
                refine hK70 _ _ ?_; clear hK70
                refine W_condF hs rfl ?_
                refine W_skip ?_
                refine hK60 _ _ ?_; clear hK60
                refine W_seq fun K71 hK71 => ?_
                refine W_region ?_
                refine sy hs (y_move rfl) ?_; clear hs; (try clear a w); intro a w hs
                refine sy hs (y_callC rfl has20 rfl (fun w hw => At_i (.head _) hw)) ?_; clear hs; (try clear a w); intro a w hs
                refine sy hs (y_move rfl) ?_; clear hs; (try clear a w); intro a w hs
                refine sy hs (y_neq rfl rfl) ?_; clear hs; (try clear a w); intro a w hs
                rw [show decide ((at_ : Int) ≠ (at_ : Int)) = false from by simp] at hs
                refine sy hs (y_move rfl) ?_; clear hs; (try clear a w); intro a w hs
                refine syg hs (y_move rfl) ?_; clear hs; (try clear a w); intro a w hs
                refine syg hs (y_callC rfl has21 rfl (fun w hw => Left_i (.head _) hRc (by omega) hm hw)) ?_; clear hs; (try clear a w); intro a w hs
                refine syg hs (y_move rfl) ?_; clear hs; (try clear a w); intro a w hs
                first | (refine syg hs (y_lenM rfl Try.underlying42) ?_; clear hs; (try clear a w); intro a w hs) | (refine syg hs (y_lenR rfl Try.underlying42) ?_; clear hs; (try clear a w); intro a w hs) | (refine syg hs (y_len rfl Try.underlying42) ?_; clear hs; (try clear a w); intro a w hs)
                refine syg hs (y_move rfl) ?_; clear hs; (try clear a w); intro a w hs
                refine syg hs (y_sub rfl rfl (wr_i64 (by omega))) ?_; clear hs; (try clear a w); intro a w hs
                refine syg hs (y_neq rfl rfl) ?_; clear hs; (try clear a w); intro a w hs
                rw [show decide (((ls.length - at_ : Nat) : Int) ≠ (ls.length : Int) - (at_ : Int)) = false from by simp; omega] at hs
                refine sy hs (y_pick rfl rfl) ?_; clear hs; (try clear a w); intro a w hs
                refine RL_nil ?_
                refine hK71 _ _ ?_; clear hK71
                refine W_condF hs rfl ?_
                refine W_skip ?_
                refine hK39 _ _ ?_; clear hK39
                refine W_region ?_
                refine sy hs (y_move rfl) ?_; clear hs; (try clear a w); intro a w hs
                refine sy hs (y_add rfl rfl (wr_i64 (by omega))) ?_; clear hs; (try clear a w); intro a w hs
                refine sy hs (y_assign rfl) ?_; clear hs; (try clear a w); intro a w hs
                refine RL_nil ?_
                exact hK (i + 1) _ _ (by omega) ⟨at_, by omega, hs.sub ⟨rfl, rfl, rfl, rfl, rfl, trivial⟩⟩
            · refine W_skip ?_
              refine hK60 _ _ ?_; clear hK60
              refine W_seq fun K72 hK72 => ?_
              refine W_region ?_
              refine sy hs (y_move rfl) ?_; clear hs; (try clear a w); intro a w hs
              refine sy hs (y_callC rfl has20 rfl (fun w hw => At_i (.head _) hw)) ?_; clear hs; (try clear a w); intro a w hs
              refine sy hs (y_move rfl) ?_; clear hs; (try clear a w); intro a w hs
              refine sy hs (y_neq rfl rfl) ?_; clear hs; (try clear a w); intro a w hs
              rw [show decide ((at_ : Int) ≠ (at_ : Int)) = false from by simp] at hs
              refine sy hs (y_move rfl) ?_; clear hs; (try clear a w); intro a w hs
              refine syg hs (y_move rfl) ?_; clear hs; (try clear a w); intro a w hs
              refine syg hs (y_callC rfl has21 rfl (fun w hw => Left_i (.head _) hRc (by omega) hm hw)) ?_; clear hs; (try clear a w); intro a w hs
              refine syg hs (y_move rfl) ?_; clear hs; (try clear a w); intro a w hs
              first | (refine syg hs (y_lenM rfl Try.underlying42) ?_; clear hs; (try clear a w); intro a w hs) | (refine syg hs (y_lenR rfl Try.underlying42) ?_; clear hs; (try clear a w); intro a w hs) | (refine syg hs (y_len rfl Try.underlying42) ?_; clear hs; (try clear a w); intro a w hs)
              refine syg hs (y_move rfl) ?_; clear hs; (try clear a w); intro a w hs
              refine syg hs (y_sub rfl rfl (wr_i64 (by omega))) ?_; clear hs; (try clear a w); intro a w hs
              refine syg hs (y_neq rfl rfl) ?_; clear hs; (try clear a w); intro a w hs
              rw [show decide (((ls.length - at_ : Nat) : Int) ≠ (ls.length : Int) - (at_ : Int)) = false from by simp; omega] at hs
              refine sy hs (y_pick rfl rfl) ?_; clear hs; (try clear a w); intro a w hs
              refine RL_nil ?_
              refine hK72 _ _ ?_; clear hK72
              refine W_condF hs rfl ?_
              refine W_skip ?_
              refine hK39 _ _ ?_; clear hK39
              refine W_region ?_
              refine sy hs (y_move rfl) ?_; clear hs; (try clear a w); intro a w hs
              refine sy hs (y_add rfl rfl (wr_i64 (by omega))) ?_; clear hs; (try clear a w); intro a w hs
              refine sy hs (y_assign rfl) ?_; clear hs; (try clear a w); intro a w hs
              refine RL_nil ?_
              exact hK (i + 1) _ _ (by omega) ⟨at_, by omega, hs.sub ⟨rfl, rfl, rfl, rfl, rfl, trivial⟩⟩
      · refine W_exit ?_
        refine hB17 _ _ ?_
        refine hK15 _ _ ?_; clear hK15
        refine W_seq fun K73 hK73 => ?_
        refine W_region ?_
        refine sy hs (y_call rfl has11 rfl known_true) ?_; clear hs; (try clear a w); intro a w hs
        refine sy hs (y_assign rfl) ?_; clear hs; (try clear a w); intro a w hs
        refine RL_nil ?_
        refine hK73 _ _ ?_; clear hK73
        refine W_ret ?_
        refine Rt_1 hs rfl rfl ?_
        exact ⟨rfl, (hs.weak (hf1.trans hf3)).tail.cw⟩
    · clear hs; have hs := hq; clear hq
      refine sno hs ?_; clear hs; (try clear a w); intro a w hs
      refine sno hs ?_; clear hs; (try clear a w); intro a w hs
      refine sy hs (y_pick rfl rfl) ?_; clear hs; (try clear a w); intro a w hs
      refine RL_nil ?_
      refine hK19 _ _ ?_; clear hK19
      refine W_condF hs rfl ?_
      refine W_exit ?_
      refine hB17 _ _ ?_
      refine hK15 _ _ ?_; clear hK15
      refine W_seq fun K74 hK74 => ?_
      refine W_region ?_
      refine sy hs (y_call rfl has11 rfl known_true) ?_; clear hs; (try clear a w); intro a w hs
      refine sy hs (y_assign rfl) ?_; clear hs; (try clear a w); intro a w hs
      refine RL_nil ?_
      refine hK74 _ _ ?_; clear hK74
      refine W_ret ?_
      refine Rt_1 hs rfl rfl ?_
      exact ⟨rfl, (hs.weak (hf1.trans hf3)).tail.cw⟩

