/-
  Walks and laws of this seat; the base is the text Base.
-/
import Derived.Test.YtklcdfnhdljkjaaDoorG7
import Derived.Test.YtklcdfnhdljkjaaDoorU7
import Derived.Test.YtklcdfnhdljkjaaDoorRows
namespace Go.Proofs.YtklcdfnhdljkjaaDoor
open Go.RowKit Go.Sl
/-- A short text of ASCII. -/
def asc9 (s : ByteArray) : Bool := decide (s.size ≤ 9) && (bytesIn s).all fun c => decide (c < 128)
/-- Does a 0 stand in it? -/
def has0 (s : ByteArray) : Bool := decide (bs [0] = s) || decide (0 ≤ Go.Lib.indexByte s.data.toList (0 : Int).toNat.toUInt8)
def write_plain (_ : Nat) (s : ByteArray) : Option Bool := bif asc9 s then some (!has0 s) else none
set_option maxRecDepth 20000 in
set_option maxHeartbeats 4000000 in
theorem valid9_ok {f : Fz} {s : ByteArray} (h : asc9 s = true) : Gives Tryd.prog 29 [.string s] f (.bool true) := by
  intro w0 L w hC
  obtain ⟨h9, hA⟩ : s.size ≤ 9 ∧ (bytesIn s).all (fun c => decide (c < 128)) = true := by simpa [asc9] using h
  refine enter Tryd.func29 rfl Tryd.ntmps29 (by simp) hC fun a hs => ?_
  refine W_seq fun K1 hK1 => ?_
  refine W_region ?_
  refine sy hs (y_assign rfl) ?_; clear hs; (try clear a w); intro a w hs
  refine RL_nil ?_
  refine hK1 _ _ ?_; clear hK1
  refine W_seq fun K2 hK2 => ?_
  refine W_block fun Qe3 hB3 hO3 => ?_
  refine W_loop (fun (i : Nat) a w => i ≤ s.size ∧ St 169 w0 f L [(0, .string (s.extract i s.size))] a w) (fun i => s.size - i) 0 ⟨Nat.zero_le _, by rw [show s.extract 0 s.size = s by simp]; exact hs.sub ⟨rfl, trivial⟩⟩ ?_
  clear hs; rintro i a w ⟨hi, hs⟩ K hK
  have hez : (s.extract i s.size).size = s.size - i := by rw [ByteArray.size_extract]; omega
  refine W_seq fun K4 hK4 => ?_
  refine W_seq fun K5 hK5 => ?_
  refine W_region ?_
  refine sy hs (y_move rfl) ?_; clear hs; (try clear a w); intro a w hs
  refine sy hs (y_lenS rfl Tryd.underlying9) ?_; clear hs; (try clear a w); intro a w hs
  refine sy hs (y_gtr rfl rfl) ?_; clear hs; (try clear a w); intro a w hs
  refine RL_nil ?_
  refine hK5 _ _ ?_; clear hK5
  by_cases hlt : i < s.size
  · rw [hez, decide_eq_true (show (0 : Int) < ((s.size - i : Nat) : Int) by omega)] at hs
    obtain ⟨c, hc, hg, hb⟩ : ∃ c : Int, c < 128 ∧ getS (s.extract i s.size) 0 = some c ∧ True := by
      have hl : i < (bytesIn s).length := by rw [bytesIn_length]; exact hlt
      refine ⟨(bytesIn s)[i], by simpa using List.all_eq_true.1 hA _ (List.getElem_mem hl), ?_, trivial⟩
      unfold getS geti
      rw [if_pos (by omega)]
      show (bytesIn (s.extract i s.size))[0]? = _
      unfold bytesIn
      rw [ByteArray.data_extract, Array.toList_extract, List.extract_eq_take_drop, List.map_take, List.map_drop, List.getElem?_take_of_lt (by omega), List.getElem?_drop]
      exact List.getElem?_eq_getElem hl
    refine W_condT hs rfl ?_
    refine W_skip ?_
    refine hK4 _ _ ?_; clear hK4
    refine W_block fun Qe6 hB6 hO6 => ?_
    refine W_seq fun K7 hK7 => ?_
    refine W_region ?_
    refine sy hs (y_move rfl) ?_; clear hs; (try clear a w); intro a w hs
    refine sy hs (y_ixW rfl rfl Tryd.underlying9 hg) ?_; clear hs; (try clear a w); intro a w hs
    refine sy hs (y_assign rfl) ?_; clear hs; (try clear a w); intro a w hs
    refine RL_nil ?_
    refine hK7 _ _ ?_; clear hK7
    refine W_seq fun K8 hK8 => ?_
    refine W_seq fun K9 hK9 => ?_
    refine W_region ?_
    refine sy hs (y_move rfl) ?_; clear hs; (try clear a w); intro a w hs
    refine sy hs (y_lss rfl rfl) ?_; clear hs; (try clear a w); intro a w hs
    refine RL_nil ?_
    refine hK9 _ _ ?_; clear hK9
    rw [decide_eq_true hc] at hs
    refine W_condT hs rfl ?_
    refine W_seq fun K10 hK10 => ?_
    refine W_region ?_
    refine sy hs (y_move rfl) ?_; clear hs; (try clear a w); intro a w hs
    refine sy hs (y_sliceSV (u := s.extract (i + 1) s.size) (lo := 1) (hi := (s.extract i s.size).size) (by rw [hez, ByteArray.extract_extract]; congr 1; omega) rfl Tryd.underlying9 (.inr ⟨_, rfl, rfl⟩) (.inl ⟨rfl, rfl⟩) (by omega) (Nat.le_refl _)) ?_; clear hs; (try clear a w); intro a w hs
    refine sy hs (y_assign rfl) ?_; clear hs; (try clear a w); intro a w hs
    refine RL_nil ?_
    refine hK10 _ _ ?_; clear hK10
    refine W_seq fun K11 hK11 => ?_
    refine W_seq fun K12 hK12 => ?_
    refine W_region ?_
    refine sy hs (y_move rfl) ?_; clear hs; (try clear a w); intro a w hs
    refine sy hs (y_lenS rfl Tryd.underlying9) ?_; clear hs; (try clear a w); intro a w hs
    refine sy hs (y_gtr rfl rfl) ?_; clear hs; (try clear a w); intro a w hs
    rw [decide_eq_false (show ¬ (8 : Int) < ((s.extract (i + 1) s.size).size : Int) by rw [ByteArray.size_extract]; omega)] at hs
    refine sy hs (y_move rfl) ?_; clear hs; (try clear a w); intro a w hs
    refine sno hs ?_; clear hs; (try clear a w); intro a w hs
    refine sno hs ?_; clear hs; (try clear a w); intro a w hs
    refine sno hs ?_; clear hs; (try clear a w); intro a w hs
    refine sno hs ?_; clear hs; (try clear a w); intro a w hs
    refine sy hs (y_pick rfl rfl) ?_; clear hs; (try clear a w); intro a w hs
    refine RL_nil ?_
    refine hK12 _ _ ?_; clear hK12
    refine W_condF hs rfl ?_
    refine W_skip ?_
    refine hK11 _ _ ?_; clear hK11
    refine W_exit ?_
    refine hB6 _ _ ?_
    exact hK (i + 1) _ _ (by omega) ⟨hlt, hs.sub ⟨rfl, trivial⟩⟩
  · rw [hez, decide_eq_false (show ¬ (0 : Int) < ((s.size - i : Nat) : Int) by omega)] at hs
    refine W_condF hs rfl ?_
    refine W_exit ?_
    refine hB3 _ _ ?_
    refine hK2 _ _ ?_; clear hK2
    refine W_seq fun K13 hK13 => ?_
    refine W_region ?_
    refine sy hs (y_assign rfl) ?_; clear hs; (try clear a w); intro a w hs
    refine RL_nil ?_
    refine hK13 _ _ ?_; clear hK13
    refine W_ret ?_
    refine Rt_1 hs rfl rfl ?_
    exact ⟨rfl, hs.cw⟩
set_option maxRecDepth 20000 in
set_option maxHeartbeats 4000000 in
theorem index0_ok {f : Fz} {s : ByteArray} : Gives Tryd.prog 43 [.string s, .string (bs [0])] f (.int .i64 (if bs [0] = s then 0 else Go.Lib.indexByte s.data.toList (0 : Int).toNat.toUInt8)) := by
  intro w0 L w hC
  refine enter Tryd.func43 rfl Tryd.ntmps43 (by simp) hC fun a hs => ?_
  refine W_seq fun K1 hK1 => ?_
  refine W_region ?_
  refine sy hs (y_assign rfl) ?_; clear hs; (try clear a w); intro a w hs
  refine RL_nil ?_
  refine hK1 _ _ ?_; clear hK1
  refine W_seq fun K2 hK2 => ?_
  refine W_region ?_
  refine sy hs (y_move rfl) ?_; clear hs; (try clear a w); intro a w hs
  refine sy hs (y_lenS rfl Tryd.underlying9) ?_; clear hs; (try clear a w); intro a w hs
  refine sy hs (y_assign rfl) ?_; clear hs; (try clear a w); intro a w hs
  refine RL_nil ?_
  refine hK2 _ _ ?_; clear hK2
  refine W_seq fun K3 hK3 => ?_
  refine W_block fun Qe4 hB4 hO4 => ?_
  refine W_seq fun K5 hK5 => ?_
  refine W_region ?_
  refine sy hs (y_move rfl) ?_; clear hs; (try clear a w); intro a w hs
  refine sy hs (y_eql rfl rfl) ?_; clear hs; (try clear a w); intro a w hs
  rw [show decide (((bs [0]).size : Int) = 0) = false from rfl] at hs
  refine sy hs (y_move rfl) ?_; clear hs; (try clear a w); intro a w hs
  refine syg hs (y_move rfl) ?_; clear hs; (try clear a w); intro a w hs
  refine syg hs (y_move rfl) ?_; clear hs; (try clear a w); intro a w hs
  refine syg hs (y_seql rfl rfl) ?_; clear hs; (try clear a w); intro a w hs
  refine sy hs (y_pick rfl rfl) ?_; clear hs; (try clear a w); intro a w hs
  refine sy hs (y_assign rfl) ?_; clear hs; (try clear a w); intro a w hs
  refine RL_nil ?_
  refine hK5 _ _ ?_; clear hK5
  first | refine W_condP hs rfl (fun heq => ?_) (fun heq => ?_) | refine W_cond hs rfl (fun heq => ?_) (fun heq => ?_)
  · refine W_seq fun K6 hK6 => ?_
    refine W_region ?_
    refine sy hs (y_assign rfl) ?_; clear hs; (try clear a w); intro a w hs
    refine RL_nil ?_
    refine hK6 _ _ ?_; clear hK6
    refine W_ret ?_
    refine Rt_1 hs rfl rfl ?_
    exact ⟨by rw [if_pos heq], hs.cw⟩
  · refine W_seq fun K7 hK7 => ?_
    refine W_region ?_
    refine sy hs (y_move rfl) ?_; clear hs; (try clear a w); intro a w hs
    refine sy hs (y_eql rfl rfl) ?_; clear hs; (try clear a w); intro a w hs
    rw [show decide (((bs [0]).size : Int) = 1) = true from rfl] at hs
    refine sy hs (y_assign rfl) ?_; clear hs; (try clear a w); intro a w hs
    refine RL_nil ?_
    refine hK7 _ _ ?_; clear hK7
    refine W_condT hs rfl ?_
    refine W_seq fun K8 hK8 => ?_
    refine W_region ?_
    refine sy hs (y_move rfl) ?_; clear hs; (try clear a w); intro a w hs
    refine sy hs (y_move rfl) ?_; clear hs; (try clear a w); intro a w hs
    refine sy hs (y_ixW (b := 0) rfl rfl Tryd.underlying9 rfl) ?_; clear hs; (try clear a w); intro a w hs
    refine sy hs (y_call rfl has50 rfl (stringslite_ok 0 rfl)) ?_; clear hs; (try clear a w); intro a w hs
    refine sy hs (y_assign rfl) ?_; clear hs; (try clear a w); intro a w hs
    refine RL_nil ?_
    refine hK8 _ _ ?_; clear hK8
    refine W_ret ?_
    refine Rt_1 hs rfl rfl ?_
    exact ⟨by rw [if_neg heq], hs.cw⟩
set_option maxRecDepth 20000 in
theorem index1_ok {f : Fz} {s : ByteArray} : Gives Tryd.prog 38 [.string s, .string (bs [0])] f (.int .i64 (if bs [0] = s then 0 else Go.Lib.indexByte s.data.toList (0 : Int).toNat.toUInt8)) := by
  intro w0 L w hC
  refine enter Tryd.func38 rfl Tryd.ntmps38 (by simp) hC fun a hs => ?_
  refine W_seq fun K1 hK1 => ?_
  refine W_region ?_
  refine sy hs (y_assign rfl) ?_; clear hs; (try clear a w); intro a w hs
  refine RL_nil ?_
  refine hK1 _ _ ?_; clear hK1
  refine W_seq fun K2 hK2 => ?_
  refine W_region ?_
  refine sy hs (y_move rfl) ?_; clear hs; (try clear a w); intro a w hs
  refine sy hs (y_move rfl) ?_; clear hs; (try clear a w); intro a w hs
  refine sy hs (y_call rfl has43 rfl index0_ok) ?_; clear hs; (try clear a w); intro a w hs
  refine sy hs (y_assign rfl) ?_; clear hs; (try clear a w); intro a w hs
  refine RL_nil ?_
  refine hK2 _ _ ?_; clear hK2
  refine W_ret ?_
  refine Rt_1 hs rfl rfl ?_
  exact ⟨rfl, hs.cw⟩
set_option maxRecDepth 20000 in
theorem contains0_ok {f : Fz} {s : ByteArray} : Gives Tryd.prog 30 [.string s, .string (bs [0])] f (.bool (has0 s)) := by
  intro w0 L w hC
  refine enter Tryd.func30 rfl Tryd.ntmps30 (by simp) hC fun a hs => ?_
  refine W_seq fun K1 hK1 => ?_
  refine W_region ?_
  refine sy hs (y_assign rfl) ?_; clear hs; (try clear a w); intro a w hs
  refine RL_nil ?_
  refine hK1 _ _ ?_; clear hK1
  refine W_seq fun K2 hK2 => ?_
  refine W_region ?_
  refine sy hs (y_move rfl) ?_; clear hs; (try clear a w); intro a w hs
  refine sy hs (y_move rfl) ?_; clear hs; (try clear a w); intro a w hs
  refine sy hs (y_call rfl has38 rfl index1_ok) ?_; clear hs; (try clear a w); intro a w hs
  refine sy hs (y_geq rfl rfl) ?_; clear hs; (try clear a w); intro a w hs
  refine sy hs (y_assign rfl) ?_; clear hs; (try clear a w); intro a w hs
  refine RL_nil ?_
  refine hK2 _ _ ?_; clear hK2
  refine W_ret ?_
  refine Rt_1 hs rfl rfl ?_
  refine ⟨?_, hs.cw⟩
  unfold has0
  by_cases h : bs [0] = s
  · rw [if_pos h, decide_eq_true h]; rfl
  · rw [if_neg h, decide_eq_false h, Bool.false_or]
set_option maxRecDepth 20000 in
theorem write_plain_ok (n : Nat) {f : Fz} {p0 : ByteArray} {res : Bool} (hm : write_plain n p0 = some res) : Gives Tryd.prog 16 [.string p0] f (.bool res) := by
  intro w0 L w hC
  have h9 : asc9 p0 = true := by
    unfold write_plain at hm
    cases h : asc9 p0 with
    | true => rfl
    | false => rw [h] at hm; cases hm
  unfold write_plain at hm
  rw [h9] at hm
  obtain rfl := Option.some.inj hm
  refine enter Tryd.func16 rfl Tryd.ntmps16 (by simp) hC fun a hs => ?_
  refine W_seq fun K1 hK1 => ?_
  refine W_region ?_
  refine sy hs (y_assign rfl) ?_; clear hs; (try clear a w); intro a w hs
  refine RL_nil ?_
  refine hK1 _ _ ?_; clear hK1
  refine W_seq fun K2 hK2 => ?_
  refine W_region ?_
  refine sy hs (y_move rfl) ?_; clear hs; (try clear a w); intro a w hs
  refine sy hs (y_call rfl has29 rfl (valid9_ok h9)) ?_; clear hs; (try clear a w); intro a w hs
  refine sy hs (y_move rfl) ?_; clear hs; (try clear a w); intro a w hs
  refine syg hs (y_move rfl) ?_; clear hs; (try clear a w); intro a w hs
  refine syg hs (y_call rfl has30 rfl contains0_ok) ?_; clear hs; (try clear a w); intro a w hs
  refine syg hs (y_not rfl) ?_; clear hs; (try clear a w); intro a w hs
  refine sy hs (y_pick rfl rfl) ?_; clear hs; (try clear a w); intro a w hs
  refine sy hs (y_assign rfl) ?_; clear hs; (try clear a w); intro a w hs
  refine RL_nil ?_
  refine hK2 _ _ ?_; clear hK2
  refine W_ret ?_
  refine Rt_1 hs rfl rfl ?_
  exact ⟨rfl, hs.cw⟩
