/-
  Walks and laws of this seat.
-/
import Derived.Test.YteicdfkmpnmkmaaGreatS13e
import Derived.Test.YteicdfkmpnmkmaaGreatU7
import Derived.Test.YteicdfkmpnmkmaaGreatRows
namespace Go.Proofs.YteicdfkmpnmkmaaGreat
set_option linter.unusedVariables false
set_option linter.unusedSimpArgs false
open Go.RowKit Go.Sl
def wsR (r : Int) : Bool := decide (r = 9) || (decide (r = 10) || (decide (r = 12) || decide (r = 32)))
def blankP (s : ByteArray) : Nat → Nat → Bool
  | 0, _ => true
  | k + 1, p => if p < s.size then wsR (Utf8.decode s p).1 && blankP s k (p + (Utf8.decode s p).2) else true
def blankT (s : ByteArray) : Bool := blankP s s.size 0
theorem dec_pos (s : ByteArray) (p : Nat) : 1 ≤ (Utf8.decode s p).2 := by rw [decode_list]; exact decL_width _
def BlI (s : ByteArray) (p : Nat) : Prop := ∃ k, s.size ≤ p + k ∧ blankP s k p = blankT s
theorem BlI.zero (s : ByteArray) : BlI s 0 := ⟨s.size, by omega, rfl⟩
theorem BlI.done {s : ByteArray} {p : Nat} (h : BlI s p) (hp : s.size ≤ p) : blankT s = true := by
  obtain ⟨k, _, h⟩ := h
  rw [← h]
  cases k with
  | zero => rfl
  | succ k => rw [blankP, if_neg (by omega)]
theorem BlI.no {s : ByteArray} {p : Nat} (h : BlI s p) (hp : p < s.size) (hw : wsR (Utf8.decode s p).1 = false) : blankT s = false := by
  obtain ⟨k, hk, h⟩ := h
  obtain ⟨k, rfl⟩ : ∃ c, k = c + 1 := ⟨k - 1, by omega⟩
  rw [← h, blankP, if_pos hp, hw]; rfl
theorem BlI.next {s : ByteArray} {p : Nat} (h : BlI s p) (hp : p < s.size) (hw : wsR (Utf8.decode s p).1 = true) : BlI s (p + (Utf8.decode s p).2) := by
  obtain ⟨k, hk, h⟩ := h
  obtain ⟨k, rfl⟩ : ∃ c, k = c + 1 := ⟨k - 1, by omega⟩
  have := dec_pos s p
  refine ⟨k, by omega, ?_⟩
  rw [← h, blankP, if_pos hp, hw]; rfl
def blankB (k : Int) (s : Sty) (t : ByteArray) (plain : Bool) : Bool := decide (k = 7) && (!(plain && preS s) && blankT t)
section
variable {k n i : Int} {s : Sty} {t : ByteArray} {kv : Value}
theorem cB_pre (hS : StyOK s) : (cB k n i s t kv).toArray[0 + 3 + 41]? = some (.bool (preS s)) := by
  rw [List.getElem?_toArray]
  exact (cB_sty (j := 41) hS.len (by decide)).trans hS.pre
theorem cB_text' (hS : StyOK s) : (cB k n i s t kv).toArray[0 + 55]? = some (.string t) := by
  rw [List.getElem?_toArray]
  exact cB_text hS.len
theorem cB_kids' (hS : StyOK s) : (cB k n i s t kv).toArray[0 + 56]? = some kv := by
  rw [List.getElem?_toArray]
  exact cB_kids hS.len
end
set_option maxRecDepth 20000 in
set_option maxHeartbeats 4000000 in
theorem blank_ok {f : Fz} {k n i : Int} {s : Sty} {t : ByteArray} {kv : Value} {plain : Bool} (hS : StyOK s) : Gives Tryz.prog 102 [.agg (cB k n i s t kv).toArray, .bool plain] f (.bool (blankB k s t plain)) := by
  intro w0 L w hC
  refine enter Tryz.func102 rfl Tryz.ntmps102 (by simp) hC fun a hs => ?_
  refine W_seq fun K1 hK1 => ?_
  refine W_region ?_
  refine sbox hs rfl ?_; clear hs; (try clear a w); intro b2 a w hs
  refine sy hs (y_assign rfl) ?_; clear hs; (try clear a w); intro a w hs
  refine RL_nil ?_
  refine hK1 _ _ ?_; clear hK1
  refine W_seq fun K2 hK2 => ?_
  refine W_cut (fun a w => St 38 w0 f (.blk b2 (.cells (cB k n i s t kv).toArray 31 (0, 0)) :: L) [(2, .pointer (some ⟨b2, 0, none⟩)), (4, .bool false), (17, .bool (decide (k ≠ 7) || (plain && preS s)))] a w) ?_ (fun a w hI => ?_)
  · refine W_region ?_
    first | (refine sy hs (y_fieldAddr rfl (FO.of (off := 0) Tryz.underlying31 rfl rfl ti3 (by decide))) ?_; clear hs; (try clear a w); intro a w hs) | (refine sy hs (y_faE rfl (FO.of (off := 0) Tryz.underlying31 rfl rfl ti3 (by decide))) ?_; clear hs; (try clear a w); intro a w hs)
    first | (refine sy hs (y_ld rfl Tryz.underlying3 rfl) ?_; clear hs; (try clear a w); intro a w hs) | (refine sy hs (y_ldE rfl Tryz.underlying3 rfl) ?_; clear hs; (try clear a w); intro a w hs)
    refine sy hs (y_neq rfl rfl) ?_; clear hs; (try clear a w); intro a w hs
    refine sy hs (y_move rfl) ?_; clear hs; (try clear a w); intro a w hs
    first | refine St.splitP hs (t := 10) rfl (fun h1 hq => ?_) (fun h1 hq => ?_) | refine St.split hs (t := 10) rfl (fun h1 hq => ?_) (fun h1 hq => ?_)
    · clear hs; have hs := hq; clear hq
      refine sno hs ?_; clear hs; (try clear a w); intro a w hs
      refine sno hs ?_; clear hs; (try clear a w); intro a w hs
      refine sun hs ?_; clear hs; (try clear a w); intro a w hs
      refine sun hs ?_; clear hs; (try clear a w); intro a w hs
      refine sun hs ?_; clear hs; (try clear a w); intro a w hs
      refine sno hs ?_; clear hs; (try clear a w); intro a w hs
      refine sy hs (y_pick rfl rfl) ?_; clear hs; (try clear a w); intro a w hs
      refine RL_nil ?_
      rw [decide_eq_true h1]
      exact hs.sub ⟨rfl, rfl, rfl, trivial⟩
    · clear hs; have hs := hq; clear hq
      refine syg hs (y_move rfl) ?_; clear hs; (try clear a w); intro a w hs
      refine syg hs (y_move rfl) ?_; clear hs; (try clear a w); intro a w hs
      first | refine St.splitP hs (t := 12) rfl (fun h2 hq => ?_) (fun h2 hq => ?_) | refine St.split hs (t := 12) rfl (fun h2 hq => ?_) (fun h2 hq => ?_)
      · clear hs; have hs := hq; clear hq
        first | (refine syg hs (y_fieldAddr rfl (FO.of (off := 3) Tryz.underlying31 rfl rfl ti28 (by decide))) ?_; clear hs; (try clear a w); intro a w hs) | (refine syg hs (y_faE rfl (FO.of (off := 3) Tryz.underlying31 rfl rfl ti28 (by decide))) ?_; clear hs; (try clear a w); intro a w hs)
        first | (refine syg hs (y_fieldAddr rfl (FO.of (off := 41) Tryz.underlying28 rfl rfl ti4 (by decide))) ?_; clear hs; (try clear a w); intro a w hs) | (refine syg hs (y_faE rfl (FO.of (off := 41) Tryz.underlying28 rfl rfl ti4 (by decide))) ?_; clear hs; (try clear a w); intro a w hs)
        refine syg hs (y_ld (u := .bool (preS s)) rfl Tryz.underlying4 rfl (Cell.blk (.head _) (cB_pre hS))) ?_; clear hs; (try clear a w); intro a w hs
        refine syg hs (y_pick rfl rfl) ?_; clear hs; (try clear a w); intro a w hs
        refine sy hs (y_pick rfl rfl) ?_; clear hs; (try clear a w); intro a w hs
        refine RL_nil ?_
        rw [decide_eq_false h1, h2]
        exact hs.sub ⟨rfl, rfl, rfl, trivial⟩
      · clear hs; have hs := hq; clear hq
        refine sno hs ?_; clear hs; (try clear a w); intro a w hs
        refine sno hs ?_; clear hs; (try clear a w); intro a w hs
        refine sno hs ?_; clear hs; (try clear a w); intro a w hs
        refine syg hs (y_pick rfl rfl) ?_; clear hs; (try clear a w); intro a w hs
        refine sy hs (y_pick rfl rfl) ?_; clear hs; (try clear a w); intro a w hs
        refine RL_nil ?_
        rw [decide_eq_false h1, h2]
        exact hs.sub ⟨rfl, rfl, rfl, trivial⟩
  · have hs := hI; clear hI
    first | refine W_condP hs rfl (fun h3 => ?_) (fun h3 => ?_) | refine W_cond hs rfl (fun h3 => ?_) (fun h3 => ?_)
    · refine W_seq fun K4 hK4 => ?_
      refine W_region ?_
      refine sy hs (y_assign rfl) ?_; clear hs; (try clear a w); intro a w hs
      refine RL_nil ?_
      refine hK4 _ _ ?_; clear hK4
      refine W_ret ?_
      refine Rt_1 hs rfl rfl ?_
      refine ⟨?_, hs.cw.tail⟩
      rw [blankB]
      by_cases hk : k = 7
      · rw [decide_eq_false (fun e => e hk), Bool.false_or] at h3
        rw [h3]; simp
      · rw [decide_eq_false hk]; rfl
    · have hk : k = 7 := by
        by_cases hk : k = 7
        · exact hk
        · rw [decide_eq_true hk] at h3; simp at h3
      have hb : blankB k s t plain = blankT t := by
        rw [decide_eq_false (fun e => e hk), Bool.false_or] at h3
        rw [blankB, decide_eq_true hk, h3]; rfl
      refine W_skip ?_
      refine hK2 _ _ ?_; clear hK2
      refine W_seq fun K5 hK5 => ?_
      refine W_seq fun K6 hK6 => ?_
      refine W_region ?_
      first | (refine sy hs (y_fieldAddr rfl (FO.of (off := 55) Tryz.underlying31 rfl rfl ti9 (by decide))) ?_; clear hs; (try clear a w); intro a w hs) | (refine sy hs (y_faE rfl (FO.of (off := 55) Tryz.underlying31 rfl rfl ti9 (by decide))) ?_; clear hs; (try clear a w); intro a w hs)
      refine sy hs (y_ld (u := .string t) rfl Tryz.underlying9 rfl (Cell.blk (.head _) (cB_text' hS))) ?_; clear hs; (try clear a w); intro a w hs
      refine RL_range hs rfl Tryz.underlying9 ?_; clear hs; (try clear a w); intro bi a w hs
      refine RL_nil ?_
      refine hK6 _ _ ?_; clear hK6
      refine W_block fun Qe7 hB7 hO7 => ?_
      refine W_loop (fun (p : Nat) a w => BlI t p ∧ St 38 w0 f (.blk bi (.stringIter t p) :: .blk b2 (.cells (cB k n i s t kv).toArray 31 (0, 0)) :: L) [(20, .pointer (some ⟨bi, 0, none⟩))] a w) (fun p => t.size - p) 0 ⟨BlI.zero t, hs.sub ⟨rfl, trivial⟩⟩ ?_
      clear hs; rintro p a w ⟨hP, hs⟩ K hK
      refine W_seq fun K8 hK8 => ?_
      refine W_region ?_
      refine RL_next (i := 0) hs rfl rfl (fun hp => ?_) (fun hp => ?_)
      · clear hs; (try clear a w); intro a w hs; simp only [List.set] at hs
        refine sy hs (y_extract rfl rfl) ?_; clear hs; (try clear a w); intro a w hs
        refine RL_nil ?_
        refine hK8 _ _ ?_; clear hK8
        refine W_seq fun K9 hK9 => ?_
        refine W_condT hs rfl ?_
        refine W_skip ?_
        refine hK9 _ _ ?_; clear hK9
        refine W_block fun Qe10 hB10 hO10 => ?_
        refine W_seq fun K11 hK11 => ?_
        refine W_region ?_
        refine sy hs (y_extract rfl rfl) ?_; clear hs; (try clear a w); intro a w hs
        refine sy hs (y_assign rfl) ?_; clear hs; (try clear a w); intro a w hs
        refine RL_nil ?_
        refine hK11 _ _ ?_; clear hK11
        refine W_seq fun K12 hK12 => ?_
        refine W_region ?_
        refine sy hs (y_move rfl) ?_; clear hs; (try clear a w); intro a w hs
        refine sy hs (y_neq rfl rfl) ?_; clear hs; (try clear a w); intro a w hs
        refine sy hs (y_move rfl) ?_; clear hs; (try clear a w); intro a w hs
        first | refine St.splitP hs (t := 26) rfl (fun r1 hq => ?_) (fun r1 hq => ?_) | refine St.split hs (t := 26) rfl (fun r1 hq => ?_) (fun r1 hq => ?_)
        · clear hs; have hs := hq; clear hq
          refine syg hs (y_move rfl) ?_; clear hs; (try clear a w); intro a w hs
          refine syg hs (y_neq rfl rfl) ?_; clear hs; (try clear a w); intro a w hs
          refine sy hs (y_pick rfl rfl) ?_; clear hs; (try clear a w); intro a w hs
          refine sy hs (y_move rfl) ?_; clear hs; (try clear a w); intro a w hs
          first | refine St.splitP hs (t := 30) rfl (fun r2 hq => ?_) (fun r2 hq => ?_) | refine St.split hs (t := 30) rfl (fun r2 hq => ?_) (fun r2 hq => ?_)
          · clear hs; have hs := hq; clear hq
            refine syg hs (y_move rfl) ?_; clear hs; (try clear a w); intro a w hs
            refine syg hs (y_neq rfl rfl) ?_; clear hs; (try clear a w); intro a w hs
            refine sy hs (y_pick rfl rfl) ?_; clear hs; (try clear a w); intro a w hs
            refine sy hs (y_move rfl) ?_; clear hs; (try clear a w); intro a w hs
            first | refine St.splitP hs (t := 34) rfl (fun r3 hq => ?_) (fun r3 hq => ?_) | refine St.split hs (t := 34) rfl (fun r3 hq => ?_) (fun r3 hq => ?_)
            · clear hs; have hs := hq; clear hq
              refine syg hs (y_move rfl) ?_; clear hs; (try clear a w); intro a w hs
              refine syg hs (y_neq rfl rfl) ?_; clear hs; (try clear a w); intro a w hs
              refine sy hs (y_pick rfl rfl) ?_; clear hs; (try clear a w); intro a w hs
              refine RL_nil ?_
              refine hK12 _ _ ?_; clear hK12
              first | refine W_condP hs rfl (fun r4 => ?_) (fun r4 => ?_) | refine W_cond hs rfl (fun r4 => ?_) (fun r4 => ?_)
              · refine W_seq fun K13 hK13 => ?_
                refine W_region ?_
                refine sy hs (y_assign rfl) ?_; clear hs; (try clear a w); intro a w hs
                refine RL_nil ?_
                refine hK13 _ _ ?_; clear hK13
                refine W_ret ?_
                refine Rt_1 hs rfl rfl ?_
                exact ⟨by rw [hb, hP.no hp (by simp only [wsR]; simp [r1, r2, r3, r4])], hs.cw.tail.tail⟩
              · refine W_skip ?_
                have := dec_pos t p
                exact hK _ _ _ (by omega) ⟨hP.next hp (by simp only [wsR]; simp; omega), hs.sub ⟨rfl, trivial⟩⟩
            · clear hs; have hs := hq; clear hq
              refine sno hs ?_; clear hs; (try clear a w); intro a w hs
              refine sno hs ?_; clear hs; (try clear a w); intro a w hs
              refine sy hs (y_pick rfl rfl) ?_; clear hs; (try clear a w); intro a w hs
              refine RL_nil ?_
              refine hK12 _ _ ?_; clear hK12
              refine W_condF hs rfl ?_
              refine W_skip ?_
              have := dec_pos t p
              exact hK _ _ _ (by omega) ⟨hP.next hp (by simp only [wsR]; simp; omega), hs.sub ⟨rfl, trivial⟩⟩
          · clear hs; have hs := hq; clear hq
            refine sno hs ?_; clear hs; (try clear a w); intro a w hs
            refine sno hs ?_; clear hs; (try clear a w); intro a w hs
            refine sy hs (y_pick rfl rfl) ?_; clear hs; (try clear a w); intro a w hs
            refine sy hs (y_move rfl) ?_; clear hs; (try clear a w); intro a w hs
            refine sno hs ?_; clear hs; (try clear a w); intro a w hs
            refine sno hs ?_; clear hs; (try clear a w); intro a w hs
            refine sy hs (y_pick rfl rfl) ?_; clear hs; (try clear a w); intro a w hs
            refine RL_nil ?_
            refine hK12 _ _ ?_; clear hK12
            refine W_condF hs rfl ?_
            refine W_skip ?_
            have := dec_pos t p
            exact hK _ _ _ (by omega) ⟨hP.next hp (by simp only [wsR]; simp; omega), hs.sub ⟨rfl, trivial⟩⟩
        · clear hs; have hs := hq; clear hq
          refine sno hs ?_; clear hs; (try clear a w); intro a w hs
          refine sno hs ?_; clear hs; (try clear a w); intro a w hs
          refine sy hs (y_pick rfl rfl) ?_; clear hs; (try clear a w); intro a w hs
          refine sy hs (y_move rfl) ?_; clear hs; (try clear a w); intro a w hs
          refine sno hs ?_; clear hs; (try clear a w); intro a w hs
          refine sno hs ?_; clear hs; (try clear a w); intro a w hs
          refine sy hs (y_pick rfl rfl) ?_; clear hs; (try clear a w); intro a w hs
          refine sy hs (y_move rfl) ?_; clear hs; (try clear a w); intro a w hs
          refine sno hs ?_; clear hs; (try clear a w); intro a w hs
          refine sno hs ?_; clear hs; (try clear a w); intro a w hs
          refine sy hs (y_pick rfl rfl) ?_; clear hs; (try clear a w); intro a w hs
          refine RL_nil ?_
          refine hK12 _ _ ?_; clear hK12
          refine W_condF hs rfl ?_
          refine W_skip ?_
          have := dec_pos t p
          exact hK _ _ _ (by omega) ⟨hP.next hp (by simp only [wsR]; simp; omega), hs.sub ⟨rfl, trivial⟩⟩
      · clear hs; (try clear a w); intro a w hs
        refine sy hs (y_extract rfl rfl) ?_; clear hs; (try clear a w); intro a w hs
        refine RL_nil ?_
        refine hK8 _ _ ?_; clear hK8
        refine W_seq fun K14 hK14 => ?_
        refine W_condF hs rfl ?_
        refine W_exit ?_
        refine hB7 _ _ ?_
        refine hK5 _ _ ?_; clear hK5
        refine W_seq fun K15 hK15 => ?_
        refine W_region ?_
        refine sy hs (y_assign rfl) ?_; clear hs; (try clear a w); intro a w hs
        refine RL_nil ?_
        refine hK15 _ _ ?_; clear hK15
        refine W_ret ?_
        refine Rt_1 hs rfl rfl ?_
        exact ⟨by rw [hb, hP.done hp], hs.cw.tail.tail⟩
end Go.Proofs.YteicdfkmpnmkmaaGreat
