/-
  Walks and laws of this seat; the base is the text Base.
-/
import Derived.Test.YthpokoghhfidpaaBase
import Derived.Test.YthpokoghhfidpaaRows
import Derived.Test.YthpokoghhfidpaaT1
import Derived.Test.YthpokoghhfidpaaC5
namespace Go.Proofs.Ythpokoghhfidpaa
open Go.RowKit Go.Sl

abbrev il (xs : List Int) : List (List Value) := xs.map fun x => [.int .i64 x]

theorem New_i {f : Fz} {L : List Ent} {w0 w : World} {v : Value} {xs : List Int} (h1 : Rd f L v 1 (il xs)) (hm : xs.length ≤ 17592186044416) (hC : Cw w0 f L w) :
    Calls Try.prog 17 [v].toArray w fun e w' => ∃ r f' L', e = .returned r ∧ Fz.le f f' ∧ Cw w0 f' L' w' ∧ ∃ b lv, r = .pointer (some ⟨b, 0, none⟩) ∧ Rd f' [] lv 1 (il xs) ∧ L' = .blk b (.cells #[lv, .int .i64 0] 51) :: L := by
  refine enter Try.func17 rfl Try.ntmps17 (by simp) hC fun a hs => ?_
  refine W_seq fun K1 hK1 => ?_
  refine W_region ?_
  refine sy hs (y_assign rfl) ?_; clear hs; (try clear a w); intro a w hs
  refine RL_nil ?_
  refine hK1 _ _ ?_; clear hK1
  refine W_seq fun K2 hK2 => ?_
  refine W_region ?_
  refine sy hs (y_move rfl) ?_; clear hs; (try clear a w); intro a w hs
  refine RL_appNil hs rfl rfl h1 Try.underlying42 ti3 (by decide) (by simp; omega) ?_; clear hs; (try clear a w); intro lv a w hs
  obtain ⟨f1, hf1, hs, hR⟩ := hs.frz
  have hlv := hR.one
  refine sy hs (y_buildS (places := [(0, 1), (1, 1)]) rfl Try.underlying51 ti51 (by kernel_rfl) (by decide) rfl) ?_; clear hs; (try clear a w); intro a w hs; simp only [List.set] at hs
  refine sbox hs rfl ?_; clear hs; (try clear a w); intro b6 a w hs
  refine sy hs (y_assign rfl) ?_; clear hs; (try clear a w); intro a w hs
  refine RL_nil ?_
  refine hK2 _ _ ?_; clear hK2
  refine W_ret ?_
  refine Rt_1 hs rfl rfl ?_
  exact ⟨_, f1, _, rfl, hf1, hs.cw, b6, lv, rfl, hR, rfl⟩


section
variable {f : Fz} {L : List Ent} {w0 w : World} {b : Nat} {lv : Value} {xs : List Int} {at_ : Nat}

theorem Left_i (hm : Ent.blk b (.cells #[lv, .int .i64 at_] 51) ∈ L) (hR : Rd f [] lv 1 (il xs)) (h1 : at_ ≤ xs.length) (h2 : xs.length ≤ 17592186044416) (hC : Cw w0 f L w) :
    Calls Try.prog 21 [.pointer (some ⟨b, 0, none⟩)].toArray w fun e w' => e = .returned (.int .i64 (xs.length - at_ : Nat)) ∧ Cw w0 f L w' := by
  refine enter Try.func21 rfl Try.ntmps21 (by simp) hC fun a hs => ?_
  have c0 : Cell f L b 0 lv := Cell.blk hm rfl
  have c1 : Cell f L b 1 (.int .i64 at_) := Cell.blk hm rfl
  refine W_seq fun K1 hK1 => ?_
  refine W_region ?_
  refine sy hs (y_assign rfl) ?_; clear hs; (try clear a w); intro a w hs
  refine RL_nil ?_
  refine hK1 _ _ ?_; clear hK1
  refine W_seq fun K2 hK2 => ?_
  refine W_draw hs mixed (by kernel_rfl) ?_; intro a he
  refine qy he (y_move rfl) ?_; clear he; (try clear a); intro a he
  first | (refine qy he (y_nilCheck rfl) ?_; clear he; (try clear a); intro a he) | (refine qy he (y_nilE rfl) ?_; clear he; (try clear a); intro a he)
  first | (refine qy he (y_fieldAddr rfl (FO.of (off := 0) Try.underlying51 rfl rfl ti42 (by decide))) ?_; clear he; (try clear a); intro a he) | (refine qy he (y_faE rfl (FO.of (off := 0) Try.underlying51 rfl rfl ti42 (by decide))) ?_; clear he; (try clear a); intro a he)
  first | (refine qy he (y_ld rfl Try.underlying42 rfl) ?_; clear he; (try clear a); intro a he) | (refine qy he (y_ldE rfl Try.underlying42 rfl) ?_; clear he; (try clear a); intro a he)
  first | (refine qy he (y_lenM rfl Try.underlying42) ?_; clear he; (try clear a); intro a he) | (refine qy he (y_lenR rfl Try.underlying42) ?_; clear he; (try clear a); intro a he) | (refine qy he (y_len rfl Try.underlying42) ?_; clear he; (try clear a); intro a he)
  refine qy he (y_move rfl) ?_; clear he; (try clear a); intro a he
  first | (refine qy he (y_nilCheck rfl) ?_; clear he; (try clear a); intro a he) | (refine qy he (y_nilE rfl) ?_; clear he; (try clear a); intro a he)
  first | (refine qy he (y_fieldAddr rfl (FO.of (off := 1) Try.underlying51 rfl rfl ti3 (by decide))) ?_; clear he; (try clear a); intro a he) | (refine qy he (y_faE rfl (FO.of (off := 1) Try.underlying51 rfl rfl ti3 (by decide))) ?_; clear he; (try clear a); intro a he)
  first | (refine qy he (y_ld rfl Try.underlying3 rfl) ?_; clear he; (try clear a); intro a he) | (refine qy he (y_ldE rfl Try.underlying3 rfl) ?_; clear he; (try clear a); intro a he)
  refine qy he (y_sub rfl rfl (wr_i64 (by omega))) ?_; clear he; (try clear a); intro a he
  refine qy he (y_assign rfl) ?_; clear he; (try clear a); intro a he
  refine QL_nil he ?_; clear he hs; intro a w hs
  refine hK2 _ _ ?_; clear hK2
  refine W_ret ?_
  refine Rt_1 hs rfl rfl ?_
  exact ⟨by congr 2; omega, hs.cw⟩


theorem At_i (hm : Ent.blk b (.cells #[lv, .int .i64 at_] 51) ∈ L) (hC : Cw w0 f L w) :
    Calls Try.prog 20 [.pointer (some ⟨b, 0, none⟩)].toArray w fun e w' => e = .returned (.int .i64 at_) ∧ Cw w0 f L w' := by
  refine enter Try.func20 rfl Try.ntmps20 (by simp) hC fun a hs => ?_
  have c1 : Cell f L b 1 (.int .i64 at_) := Cell.blk hm rfl
  refine W_seq fun K1 hK1 => ?_
  refine W_region ?_
  refine sy hs (y_assign rfl) ?_; clear hs; (try clear a w); intro a w hs
  refine RL_nil ?_
  refine hK1 _ _ ?_; clear hK1
  refine W_seq fun K2 hK2 => ?_
  refine W_region ?_
  refine sy hs (y_move rfl) ?_; clear hs; (try clear a w); intro a w hs
  first | (refine sy hs (y_nilCheck rfl) ?_; clear hs; (try clear a w); intro a w hs) | (refine sy hs (y_nilE rfl) ?_; clear hs; (try clear a w); intro a w hs)
  first | (refine sy hs (y_fieldAddr rfl (FO.of (off := 1) Try.underlying51 rfl rfl ti3 (by decide))) ?_; clear hs; (try clear a w); intro a w hs) | (refine sy hs (y_faE rfl (FO.of (off := 1) Try.underlying51 rfl rfl ti3 (by decide))) ?_; clear hs; (try clear a w); intro a w hs)
  first | (refine sy hs (y_ld rfl Try.underlying3 rfl) ?_; clear hs; (try clear a w); intro a w hs) | (refine sy hs (y_ldE rfl Try.underlying3 rfl) ?_; clear hs; (try clear a w); intro a w hs)
  refine sy hs (y_assign rfl) ?_; clear hs; (try clear a w); intro a w hs
  refine RL_nil ?_
  refine hK2 _ _ ?_; clear hK2
  refine W_ret ?_
  refine Rt_1 hs rfl rfl ?_
  exact ⟨rfl, hs.cw⟩


/-- What Peek tells. -/
def peek (l : List Int) (k : Int) : Value := if 0 ≤ k then (match l[k.toNat]? with | some x => .tuple #[.int .i64 x, .bool true] | none => .tuple #[.int .i64 0, .bool false]) else .tuple #[.int .i64 0, .bool false]

theorem Peek_i {k : Int} (hm : Ent.blk b (.cells #[lv, .int .i64 at_] 51) ∈ L) (hR : Rd f [] lv 1 (il xs)) (h1 : at_ ≤ xs.length) (h2 : xs.length ≤ 17592186044416) (hC : Cw w0 f L w) :
    Calls Try.prog 19 [.pointer (some ⟨b, 0, none⟩), .int .i64 k].toArray w fun e w' => e = .returned (peek (xs.drop at_) k) ∧ Cw w0 f L w' := by
  refine enter Try.func19 rfl Try.ntmps19 (by simp) hC fun a hs => ?_
  have c0 : Cell f L b 0 lv := Cell.blk hm rfl
  have c1 : Cell f L b 1 (.int .i64 at_) := Cell.blk hm rfl
  refine W_seq fun K1 hK1 => ?_
  refine W_region ?_
  refine sy hs (y_assign rfl) ?_; clear hs; (try clear a w); intro a w hs
  refine sy hs (y_assign rfl) ?_; clear hs; (try clear a w); intro a w hs
  refine RL_nil ?_
  refine hK1 _ _ ?_; clear hK1
  refine W_seq fun K2 hK2 => ?_
  refine W_seq fun K3 hK3 => ?_
  refine W_region ?_
  refine sy hs (y_move rfl) ?_; clear hs; (try clear a w); intro a w hs
  refine sy hs (y_lss rfl rfl) ?_; clear hs; (try clear a w); intro a w hs
  refine sy hs (y_move rfl) ?_; clear hs; (try clear a w); intro a w hs
  first | refine St.splitP hs (t := 9) rfl (fun hk hq => ?_) (fun hk hq => ?_) | refine St.split hs (t := 9) rfl (fun hk hq => ?_) (fun hk hq => ?_)
  · clear hs; have hs := hq; clear hq
    refine sno hs ?_; clear hs; (try clear a w); intro a w hs
    refine sno hs ?_; clear hs; (try clear a w); intro a w hs
    refine sno hs ?_; clear hs; (try clear a w); intro a w hs
    refine sno hs ?_; clear hs; (try clear a w); intro a w hs
    refine sy hs (y_pick rfl rfl) ?_; clear hs; (try clear a w); intro a w hs
    refine RL_nil ?_
    refine hK3 _ _ ?_; clear hK3
    refine W_condT hs rfl ?_
    refine W_seq fun K4 hK4 => ?_
    refine W_region ?_
    refine sy hs (y_assign rfl) ?_; clear hs; (try clear a w); intro a w hs
    refine RL_nil ?_
    refine hK4 _ _ ?_; clear hK4
    refine W_seq fun K5 hK5 => ?_
    refine W_region ?_
    refine sy hs (y_move rfl) ?_; clear hs; (try clear a w); intro a w hs
    refine sy hs (y_assign rfl) ?_; clear hs; (try clear a w); intro a w hs
    refine sy hs (y_assign rfl) ?_; clear hs; (try clear a w); intro a w hs
    refine RL_nil ?_
    refine hK5 _ _ ?_; clear hK5
    refine W_ret ?_
    refine Rt_2 hs rfl rfl rfl ?_
    exact ⟨by rw [peek, if_neg (by omega)], hs.cw⟩
  · clear hs; have hs := hq; clear hq
    refine syg hs (y_move rfl) ?_; clear hs; (try clear a w); intro a w hs
    refine syg hs (y_move rfl) ?_; clear hs; (try clear a w); intro a w hs
    refine syg hs (y_callC rfl has21 rfl (fun w hw => Left_i hm hR h1 h2 hw)) ?_; clear hs; (try clear a w); intro a w hs
    refine syg hs (y_geq rfl rfl) ?_; clear hs; (try clear a w); intro a w hs
    refine sy hs (y_pick rfl rfl) ?_; clear hs; (try clear a w); intro a w hs
    refine RL_nil ?_
    refine hK3 _ _ ?_; clear hK3
    first | refine W_condP hs rfl (fun hge => ?_) (fun hge => ?_) | refine W_cond hs rfl (fun hge => ?_) (fun hge => ?_)
    · refine W_seq fun K6 hK6 => ?_
      refine W_region ?_
      refine sy hs (y_assign rfl) ?_; clear hs; (try clear a w); intro a w hs
      refine RL_nil ?_
      refine hK6 _ _ ?_; clear hK6
      refine W_seq fun K7 hK7 => ?_
      refine W_region ?_
      refine sy hs (y_move rfl) ?_; clear hs; (try clear a w); intro a w hs
      refine sy hs (y_assign rfl) ?_; clear hs; (try clear a w); intro a w hs
      refine sy hs (y_assign rfl) ?_; clear hs; (try clear a w); intro a w hs
      refine RL_nil ?_
      refine hK7 _ _ ?_; clear hK7
      refine W_ret ?_
      refine Rt_2 hs rfl rfl rfl ?_
      refine ⟨?_, hs.cw⟩
      have h3 : (xs.drop at_)[k.toNat]? = none := by rw [List.getElem?_eq_none]; simp; omega
      rw [peek, if_pos (by omega), h3]
    · obtain ⟨m, rfl⟩ : ∃ m : Nat, k = m := ⟨k.toNat, by omega⟩
      obtain ⟨x, hx⟩ : ∃ x, xs[at_ + m]? = some x := ⟨_, List.getElem?_eq_getElem (by omega)⟩
      refine W_skip ?_
      refine hK2 _ _ ?_; clear hK2
      refine W_seq fun K8 hK8 => ?_
      refine W_draw hs mixed (by kernel_rfl) ?_; intro a he
      refine qy he (y_move rfl) ?_; clear he; (try clear a); intro a he
      first | (refine qy he (y_nilCheck rfl) ?_; clear he; (try clear a); intro a he) | (refine qy he (y_nilE rfl) ?_; clear he; (try clear a); intro a he)
      first | (refine qy he (y_fieldAddr rfl (FO.of (off := 0) Try.underlying51 rfl rfl ti42 (by decide))) ?_; clear he; (try clear a); intro a he) | (refine qy he (y_faE rfl (FO.of (off := 0) Try.underlying51 rfl rfl ti42 (by decide))) ?_; clear he; (try clear a); intro a he)
      first | (refine qy he (y_ld rfl Try.underlying42 rfl) ?_; clear he; (try clear a); intro a he) | (refine qy he (y_ldE rfl Try.underlying42 rfl) ?_; clear he; (try clear a); intro a he)
      refine qy he (y_move rfl) ?_; clear he; (try clear a); intro a he
      first | (refine qy he (y_nilCheck rfl) ?_; clear he; (try clear a); intro a he) | (refine qy he (y_nilE rfl) ?_; clear he; (try clear a); intro a he)
      first | (refine qy he (y_fieldAddr rfl (FO.of (off := 1) Try.underlying51 rfl rfl ti3 (by decide))) ?_; clear he; (try clear a); intro a he) | (refine qy he (y_faE rfl (FO.of (off := 1) Try.underlying51 rfl rfl ti3 (by decide))) ?_; clear he; (try clear a); intro a he)
      first | (refine qy he (y_ld rfl Try.underlying3 rfl) ?_; clear he; (try clear a); intro a he) | (refine qy he (y_ldE rfl Try.underlying3 rfl) ?_; clear he; (try clear a); intro a he)
      refine qy he (y_move rfl) ?_; clear he; (try clear a); intro a he
      refine qy he (y_add rfl rfl (wr_i64 (by omega))) ?_; clear he; (try clear a); intro a he
      first | (refine qy he (y_ix rfl rfl Try.underlying42 ti3 rfl) ?_; clear he; (try clear a); intro a he) | (refine qy he (y_ix rfl rfl Try.underlying42 ti3 (ix_of (by omega))) ?_; clear he; (try clear a); intro a he)
      first | (refine qy he (y_ld rfl Try.underlying3 rfl) ?_; clear he; (try clear a); intro a he) | (refine qy he (y_ldE rfl Try.underlying3 rfl) ?_; clear he; (try clear a); intro a he)
      refine qy he (y_assign rfl) ?_; clear he; (try clear a); intro a he
      refine qy he (y_assign rfl) ?_; clear he; (try clear a); intro a he
      refine QL_nil he ?_; clear he hs; intro a w hs
      refine hK8 _ _ ?_; clear hK8
      refine W_ret ?_
      refine Rt_2 hs rfl rfl rfl ?_
      refine ⟨?_, hs.cw⟩
      rw [peek, if_pos (by omega)]
      simp [List.getElem?_drop, hx]

end

theorem peek_lt {xs : List Int} {i k : Nat} {x : Int} (h : xs[i + k]? = some x) : peek (xs.drop i) (k : Int) = .tuple #[.int .i64 x, .bool true] := by
  rw [peek, if_pos (by omega)]
  simp [List.getElem?_drop, h]
theorem peek_ge {xs : List Int} {i k : Nat} (h : xs.length ≤ i + k) : peek (xs.drop i) (k : Int) = .tuple #[.int .i64 0, .bool false] := by
  have h3 : (xs.drop i)[(k : Int).toNat]? = none := by rw [List.getElem?_eq_none]; simp; omega
  rw [peek, if_pos (by omega), h3]

theorem Next_i {f : Fz} {b : Nat} {lv : Value} {xs : List Int} {at_ : Nat} (hR : Rd f [] lv 1 (il xs)) (h1 : at_ ≤ xs.length) (h2 : xs.length ≤ 17592186044416) :
    Does Try.prog 18 [.pointer (some ⟨b, 0, none⟩)] f [.blk b (.cells #[lv, .int .i64 at_] 51)]
      (fun r f' L' => r = peek (xs.drop at_) 0 ∧ f' = f ∧ L' = [.blk b (.cells #[lv, .int .i64 (if at_ < xs.length then at_ + 1 else at_ : Nat)] 51)]) := by
  intro w0 L w hC
  replace hC : Cw w0 f (.blk b (.cells #[lv, .int .i64 at_] 51) :: L) w := hC
  refine enter Try.func18 rfl Try.ntmps18 (by simp) hC fun a hs => ?_
  by_cases hlt : at_ < xs.length
  · obtain ⟨x, hx⟩ : ∃ x, xs[at_ + 0]? = some x := ⟨_, List.getElem?_eq_getElem (by omega)⟩
    have hp := peek_lt hx
    refine W_seq fun K1 hK1 => ?_
    refine W_region ?_
    refine sy hs (y_assign rfl) ?_; clear hs; (try clear a w); intro a w hs
    refine sy hs (y_assign rfl) ?_; clear hs; (try clear a w); intro a w hs
    refine RL_nil ?_
    refine hK1 _ _ ?_; clear hK1
    refine W_seq fun K2 hK2 => ?_
    refine W_region ?_
    refine sy hs (y_move rfl) ?_; clear hs; (try clear a w); intro a w hs
    refine sy hs (y_callC rfl has19 rfl (fun w hw => hp ▸ Peek_i (.head _) hR h1 h2 hw)) ?_; clear hs; (try clear a w); intro a w hs
    refine sy hs (y_move rfl) ?_; clear hs; (try clear a w); intro a w hs
    refine sy hs (y_extract rfl rfl) ?_; clear hs; (try clear a w); intro a w hs
    refine sy hs (y_extract rfl rfl) ?_; clear hs; (try clear a w); intro a w hs
    refine sy hs (y_assign rfl) ?_; clear hs; (try clear a w); intro a w hs
    refine sy hs (y_assign rfl) ?_; clear hs; (try clear a w); intro a w hs
    refine RL_nil ?_
    refine hK2 _ _ ?_; clear hK2
    refine W_seq fun K3 hK3 => ?_
    refine W_seq fun K4 hK4 => ?_
    refine W_region ?_
    refine sy hs (y_move rfl) ?_; clear hs; (try clear a w); intro a w hs
    refine RL_nil ?_
    refine hK4 _ _ ?_; clear hK4
    refine W_condT hs rfl ?_
    refine W_region ?_
    refine sy hs (y_move rfl) ?_; clear hs; (try clear a w); intro a w hs
    first | (refine sy hs (y_nilCheck rfl) ?_; clear hs; (try clear a w); intro a w hs) | (refine sy hs (y_nilE rfl) ?_; clear hs; (try clear a w); intro a w hs)
    first | (refine sy hs (y_fieldAddr rfl (FO.of (off := 1) Try.underlying51 rfl rfl ti3 (by decide))) ?_; clear hs; (try clear a w); intro a w hs) | (refine sy hs (y_faE rfl (FO.of (off := 1) Try.underlying51 rfl rfl ti3 (by decide))) ?_; clear hs; (try clear a w); intro a w hs)
    first | (refine sy hs (y_ld rfl Try.underlying3 rfl) ?_; clear hs; (try clear a w); intro a w hs) | (refine sy hs (y_ldE rfl Try.underlying3 rfl) ?_; clear hs; (try clear a w); intro a w hs)
    refine sy hs (y_add rfl rfl (wr_i64 (by omega))) ?_; clear hs; (try clear a w); intro a w hs
    first | (refine sy hs (y_nilCheck rfl) ?_; clear hs; (try clear a w); intro a w hs) | (refine sy hs (y_nilE rfl) ?_; clear hs; (try clear a w); intro a w hs)
    first | (refine sy hs (y_fieldAddr rfl (FO.of (off := 1) Try.underlying51 rfl rfl ti3 (by decide))) ?_; clear hs; (try clear a w); intro a w hs) | (refine sy hs (y_faE rfl (FO.of (off := 1) Try.underlying51 rfl rfl ti3 (by decide))) ?_; clear hs; (try clear a w); intro a w hs)
    refine sstore 0 hs rfl rfl rfl ti3 (by first | rfl | assumption) ?_; clear hs; (try clear a w); intro a w hs; simp only [List.set, Array.setIfInBounds] at hs
    refine RL_nil ?_
    refine hK3 _ _ ?_; clear hK3
    refine W_seq fun K5 hK5 => ?_
    refine W_region ?_
    refine sy hs (y_move rfl) ?_; clear hs; (try clear a w); intro a w hs
    refine sy hs (y_move rfl) ?_; clear hs; (try clear a w); intro a w hs
    refine sy hs (y_assign rfl) ?_; clear hs; (try clear a w); intro a w hs
    refine sy hs (y_assign rfl) ?_; clear hs; (try clear a w); intro a w hs
    refine RL_nil ?_
    refine hK5 _ _ ?_; clear hK5
    refine W_ret ?_
    refine Rt_2 hs rfl rfl rfl ?_
    refine ⟨_, f, [.blk b (.cells #[lv, .int .i64 (at_ + 1 : Nat)] _)], rfl, .refl f, hs.cw, hp.symm, rfl, by rw [if_pos hlt]⟩
  · have hp := peek_ge (xs := xs) (i := at_) (k := 0) (by omega)
    refine W_seq fun K6 hK6 => ?_
    refine W_region ?_
    refine sy hs (y_assign rfl) ?_; clear hs; (try clear a w); intro a w hs
    refine sy hs (y_assign rfl) ?_; clear hs; (try clear a w); intro a w hs
    refine RL_nil ?_
    refine hK6 _ _ ?_; clear hK6
    refine W_seq fun K7 hK7 => ?_
    refine W_region ?_
    refine sy hs (y_move rfl) ?_; clear hs; (try clear a w); intro a w hs
    refine sy hs (y_callC rfl has19 rfl (fun w hw => hp ▸ Peek_i (.head _) hR h1 h2 hw)) ?_; clear hs; (try clear a w); intro a w hs
    refine sy hs (y_move rfl) ?_; clear hs; (try clear a w); intro a w hs
    refine sy hs (y_extract rfl rfl) ?_; clear hs; (try clear a w); intro a w hs
    refine sy hs (y_extract rfl rfl) ?_; clear hs; (try clear a w); intro a w hs
    refine sy hs (y_assign rfl) ?_; clear hs; (try clear a w); intro a w hs
    refine sy hs (y_assign rfl) ?_; clear hs; (try clear a w); intro a w hs
    refine RL_nil ?_
    refine hK7 _ _ ?_; clear hK7
    refine W_seq fun K8 hK8 => ?_
    refine W_seq fun K9 hK9 => ?_
    refine W_region ?_
    refine sy hs (y_move rfl) ?_; clear hs; (try clear a w); intro a w hs
    refine RL_nil ?_
    refine hK9 _ _ ?_; clear hK9
    refine W_condF hs rfl ?_
    refine W_skip ?_
    refine hK8 _ _ ?_; clear hK8
    refine W_seq fun K10 hK10 => ?_
    refine W_region ?_
    refine sy hs (y_move rfl) ?_; clear hs; (try clear a w); intro a w hs
    refine sy hs (y_move rfl) ?_; clear hs; (try clear a w); intro a w hs
    refine sy hs (y_assign rfl) ?_; clear hs; (try clear a w); intro a w hs
    refine sy hs (y_assign rfl) ?_; clear hs; (try clear a w); intro a w hs
    refine RL_nil ?_
    refine hK10 _ _ ?_; clear hK10
    refine W_ret ?_
    refine Rt_2 hs rfl rfl rfl ?_
    refine ⟨_, f, [.blk b (.cells #[lv, .int .i64 (at_ : Nat)] _)], rfl, .refl f, hs.cw, hp.symm, rfl, by rw [if_neg hlt]⟩

