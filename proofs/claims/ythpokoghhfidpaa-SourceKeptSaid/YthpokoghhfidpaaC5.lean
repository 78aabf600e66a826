/-
  Walks and laws of this seat; the base is the text Base.
-/
import Derived.Test.YthpokoghhfidpaaBase
import Derived.Test.YthpokoghhfidpaaRows
import Derived.Test.YthpokoghhfidpaaT1
import Derived.Test.YthpokoghhfidpaaC4
namespace Go.Proofs.Ythpokoghhfidpaa
open Go.RowKit Go.Sl

theorem Decode_long {f : Fz} {v : Value} {xs : List Int} (h1 : Rd f [] v 1 (xs.map fun x => [.int .u8 x])) (hm : 65536 < xs.length) :
    Gives Try.prog 9 [v] f (.tuple #[.slice none 0 0, .int .i64 3]) := by
  intro w0 L w hC
  refine enter Try.func9 rfl Try.ntmps9 (by simp) hC fun a hs => ?_
  refine W_seq fun K1 hK1 => ?_
  refine W_region ?_
  refine sy hs (y_assign rfl) ?_; clear hs; (try clear a w); intro a w hs
  refine sy hs (y_assign rfl) ?_; clear hs; (try clear a w); intro a w hs
  refine RL_nil ?_
  refine hK1 _ _ ?_; clear hK1
  refine W_seq fun K2 hK2 => ?_
  refine W_seq fun K3 hK3 => ?_
  refine W_region ?_
  refine sy hs (y_move rfl) ?_; clear hs; (try clear a w); intro a w hs
  first | (refine sy hs (y_lenM rfl Try.underlying22) ?_; clear hs; (try clear a w); intro a w hs) | (refine sy hs (y_lenR rfl Try.underlying22) ?_; clear hs; (try clear a w); intro a w hs) | (refine sy hs (y_len rfl Try.underlying22) ?_; clear hs; (try clear a w); intro a w hs)
  refine sy hs (y_gtr rfl rfl) ?_; clear hs; (try clear a w); intro a w hs
  refine RL_nil ?_
  refine hK3 _ _ ?_; clear hK3
  first | refine W_condP hs rfl (fun hc => ?_) (fun hc => ?_) | refine W_cond hs rfl (fun hc => ?_) (fun hc => ?_)
  · refine W_seq fun K4 hK4 => ?_
    refine W_region ?_
    refine sy hs (y_assign rfl) ?_; clear hs; (try clear a w); intro a w hs
    refine sy hs (y_assign rfl) ?_; clear hs; (try clear a w); intro a w hs
    refine RL_nil ?_
    refine hK4 _ _ ?_; clear hK4
    refine W_ret ?_
    refine Rt_2 hs rfl rfl rfl ?_
    exact ⟨rfl, hs.cw⟩
  · exact absurd (by omega) hc


theorem known_true {f : Fz} : Gives Try.prog 11 [] f (.bool true) := by
  intro w0 L w hC
  refine enter Try.func11 rfl Try.ntmps11 (by simp) hC fun a hs => ?_
  refine W_seq fun K1 hK1 => ?_
  refine W_region ?_
  refine sy hs (y_assign rfl) ?_; clear hs; (try clear a w); intro a w hs
  refine RL_nil ?_
  refine hK1 _ _ ?_; clear hK1
  refine W_seq fun K2 hK2 => ?_
  refine W_region ?_
  refine RL_buildSlice (vs := [(0, .int .u8 97), (1, .int .u8 13), (2, .int .u8 10), (3, .int .u8 98), (4, .int .u8 13), (5, .int .u8 99), (6, .int .u8 0), (7, .int .u8 255)]) (rows := bl [97, 13, 10, 98, 13, 99, 0, 255]) hs rfl Try.underlying22 ti5 (by decide) (by kernel_rfl) rfl (by simp [OneRow, Value.oneCell']) (.free rfl) (by decide) ?_; clear hs; (try clear a w); intro tv a w hs
  refine RL_mark hs rfl Try.underlying22 Try.underlying5 (by decide) ?_; clear hs; (try clear a w); intro f1 a w hf1 hR hs
  refine RL_callV hs rfl has9 rfl (Decode_ok hR (by decide)) ?_; clear hs; (try clear a w); rintro _ f2 L2 a w hf2 ⟨lv, rfl, rfl, rfl⟩ hs
  have hk : textOf (decGo 0 (runesIn (bytesOf [97, 13, 10, 98, 13, 99, 0, 255]))) = ⟨#[97, 10, 98, 10, 99, 239, 191, 189, 239, 191, 189]⟩ := by kernel_rfl
  refine sy hs (y_move rfl) ?_; clear hs; (try clear a w); intro a w hs
  refine sy hs (y_extract rfl rfl) ?_; clear hs; (try clear a w); intro a w hs
  refine sy hs (y_extract rfl rfl) ?_; clear hs; (try clear a w); intro a w hs
  refine sy hs (y_assign rfl) ?_; clear hs; (try clear a w); intro a w hs
  refine sy hs (y_assign rfl) ?_; clear hs; (try clear a w); intro a w hs
  refine RL_nil ?_
  refine hK2 _ _ ?_; clear hK2
  refine W_seq fun K3 hK3 => ?_
  refine W_region ?_
  refine sy hs (y_move rfl) ?_; clear hs; (try clear a w); intro a w hs
  refine sy hs (y_eql rfl rfl) ?_; clear hs; (try clear a w); intro a w hs
  refine sy hs (y_move rfl) ?_; clear hs; (try clear a w); intro a w hs
  first | refine St.splitP hs (t := 11) rfl (fun h0 hq => ?_) (fun h0 hq => ?_) | refine St.split hs (t := 11) rfl (fun h0 hq => ?_) (fun h0 hq => ?_)
  · clear hs; have hs := hq; clear hq
    refine syg hs (y_move rfl) ?_; clear hs; (try clear a w); intro a w hs
    refine syg hs (y_r2s rfl Try.underlying24 Try.underlying21 Try.underlying9 (Rd.st hs (.head _))) ?_; clear hs; (try clear a w); intro a w hs
    refine syg hs (y_seql rfl rfl) ?_; clear hs; (try clear a w); intro a w hs
    refine sy hs (y_pick rfl rfl) ?_; clear hs; (try clear a w); intro a w hs
    refine sy hs (y_assign rfl) ?_; clear hs; (try clear a w); intro a w hs
    refine RL_nil ?_
    refine hK3 _ _ ?_; clear hK3
    refine W_ret ?_
    refine Rt_1 hs rfl rfl ?_
    rw [hk, decide_eq_true rfl]
    exact ⟨rfl, (hs.tail.weak hf1).cw⟩
  · clear hs; have hs := hq; clear hq
    exact absurd rfl h0


theorem SourceDecodes_true {f : Fz} {v : Value} {xs : List Int} (h1 : Rd f [] v 1 (bl xs)) (hm : xs.length ≤ 140737488355000) :
    Gives Try.prog 3 [v] f (.bool true) := by
  intro w0 L w hC
  refine enter Try.func3 rfl Try.ntmps3 (by simp) hC fun a hs => ?_
  refine W_seq fun K1 hK1 => ?_
  refine W_region ?_
  refine sy hs (y_assign rfl) ?_; clear hs; (try clear a w); intro a w hs
  refine RL_nil ?_
  refine hK1 _ _ ?_; clear hK1
  refine W_seq fun K2 hK2 => ?_
  refine W_region ?_
  refine sy hs (y_move rfl) ?_; clear hs; (try clear a w); intro a w hs
  refine RL_callV hs rfl has8 rfl (Roomy_u8 h1 (by omega)) ?_; clear hs; (try clear a w); rintro vf f2 L2 a w hf2 ⟨rfl, rfl⟩ hs
  obtain ⟨f1, hf1, hs, hRf⟩ := hs.frz
  replace h1 := h1.le hf1
  have hlen : (xs ++ List.replicate 80 165).length = xs.length + 80 := by simp
  refine sy hs (y_assign rfl) ?_; clear hs; (try clear a w); intro a w hs
  refine RL_nil ?_
  refine hK2 _ _ ?_; clear hK2
  refine W_seq fun K3 hK3 => ?_
  refine W_region ?_
  refine sy hs (y_move rfl) ?_; clear hs; (try clear a w); intro a w hs
  refine sy hs (y_move rfl) ?_; clear hs; (try clear a w); intro a w hs
  first | (refine sy hs (y_lenM rfl Try.underlying22) ?_; clear hs; (try clear a w); intro a w hs) | (refine sy hs (y_lenR rfl Try.underlying22) ?_; clear hs; (try clear a w); intro a w hs) | (refine sy hs (y_len rfl Try.underlying22) ?_; clear hs; (try clear a w); intro a w hs)
  refine sy hs (y_slice (lo := 0) (hi := xs.length) rfl Try.underlying22 ti5 (.inl ⟨rfl, rfl⟩) (.inr ⟨_, rfl, rfl⟩) (by omega) (by rw [List.length_map, hlen]; omega) hRf) ?_; clear hs; (try clear a w); intro a w hs
  have hRc : Rd f1 [] (cutv vf 1 0 xs.length) 1 (bl xs) := by
    have := hRf.cut (lo := 0) (hi := xs.length) (by omega) (by rw [List.length_map, hlen]; omega)
    simpa [← List.map_take, List.take_append_of_le_length] using this
  by_cases hlong : 65536 < xs.length
  · refine sy hs (y_call rfl has9 rfl (Decode_long hRc hlong)) ?_; clear hs; (try clear a w); intro a w hs
    refine sy hs (y_move rfl) ?_; clear hs; (try clear a w); intro a w hs
    refine sy hs (y_extract rfl rfl) ?_; clear hs; (try clear a w); intro a w hs
    refine sy hs (y_extract rfl rfl) ?_; clear hs; (try clear a w); intro a w hs
    refine sy hs (y_assign rfl) ?_; clear hs; (try clear a w); intro a w hs
    refine sy hs (y_assign rfl) ?_; clear hs; (try clear a w); intro a w hs
    refine RL_nil ?_
    refine hK3 _ _ ?_; clear hK3
    refine W_seq fun K4 hK4 => ?_
    refine W_seq fun K5 hK5 => ?_
    refine W_region ?_
    refine sy hs (y_move rfl) ?_; clear hs; (try clear a w); intro a w hs
    refine sy hs (y_move rfl) ?_; clear hs; (try clear a w); intro a w hs
    refine sy hs (y_call rfl has10 rfl (Intact_u8 hRf h1 (by omega))) ?_; clear hs; (try clear a w); intro a w hs
    refine sy hs (y_not rfl) ?_; clear hs; (try clear a w); intro a w hs
    refine RL_nil ?_
    refine hK5 _ _ ?_; clear hK5
    refine W_condF hs rfl ?_
    refine W_skip ?_
    refine hK4 _ _ ?_; clear hK4
    refine W_seq fun K6 hK6 => ?_
    refine W_seq fun K7 hK7 => ?_
    refine W_region ?_
    refine sy hs (y_move rfl) ?_; clear hs; (try clear a w); intro a w hs
    first | (refine sy hs (y_lenM rfl Try.underlying22) ?_; clear hs; (try clear a w); intro a w hs) | (refine sy hs (y_lenR rfl Try.underlying22) ?_; clear hs; (try clear a w); intro a w hs) | (refine sy hs (y_len rfl Try.underlying22) ?_; clear hs; (try clear a w); intro a w hs)
    refine sy hs (y_gtr rfl rfl) ?_; clear hs; (try clear a w); intro a w hs
    refine RL_nil ?_
    refine hK7 _ _ ?_; clear hK7
    first | refine W_condP hs rfl (fun hc => ?_) (fun hc => ?_) | refine W_cond hs rfl (fun hc => ?_) (fun hc => ?_)
    · refine W_seq fun K8 hK8 => ?_
      refine W_region ?_
      refine sy hs (y_move rfl) ?_; clear hs; (try clear a w); intro a w hs
      first | (refine sy hs (y_lenM rfl Try.underlying24) ?_; clear hs; (try clear a w); intro a w hs) | (refine sy hs (y_lenR rfl Try.underlying24) ?_; clear hs; (try clear a w); intro a w hs) | (refine sy hs (y_len rfl Try.underlying24) ?_; clear hs; (try clear a w); intro a w hs)
      refine sy hs (y_eql rfl rfl) ?_; clear hs; (try clear a w); intro a w hs
      refine sy hs (y_move rfl) ?_; clear hs; (try clear a w); intro a w hs
      first | refine St.splitP hs (t := 26) rfl (fun g1 hq => ?_) (fun g1 hq => ?_) | refine St.split hs (t := 26) rfl (fun g1 hq => ?_) (fun g1 hq => ?_)
      · clear hs; have hs := hq; clear hq
        refine syg hs (y_move rfl) ?_; clear hs; (try clear a w); intro a w hs
        refine syg hs (y_eql rfl rfl) ?_; clear hs; (try clear a w); intro a w hs
        refine sy hs (y_pick rfl rfl) ?_; clear hs; (try clear a w); intro a w hs
        refine sy hs (y_move rfl) ?_; clear hs; (try clear a w); intro a w hs
        first | refine St.splitP hs (t := 30) rfl (fun g2 hq => ?_) (fun g2 hq => ?_) | refine St.split hs (t := 30) rfl (fun g2 hq => ?_) (fun g2 hq => ?_)
        · clear hs; have hs := hq; clear hq
          refine syg hs (y_call rfl has11 rfl known_true) ?_; clear hs; (try clear a w); intro a w hs
          refine sy hs (y_pick rfl rfl) ?_; clear hs; (try clear a w); intro a w hs
          refine sy hs (y_assign rfl) ?_; clear hs; (try clear a w); intro a w hs
          refine RL_nil ?_
          refine hK8 _ _ ?_; clear hK8
          refine W_ret ?_
          refine Rt_1 hs rfl rfl ?_
          exact ⟨rfl, (hs.weak hf1).cw⟩
        · clear hs; have hs := hq; clear hq
          exact absurd rfl g2
      · clear hs; have hs := hq; clear hq
        exact absurd rfl g1
    · exact absurd (by omega) hc
  · refine RL_callV hs rfl has9 rfl (Decode_ok hRc (by omega)) ?_; clear hs; (try clear a w); rintro _ f2 L2 a w hf2 ⟨lv, rfl, rfl, rfl⟩ hs
    refine sy hs (y_move rfl) ?_; clear hs; (try clear a w); intro a w hs
    refine sy hs (y_extract rfl rfl) ?_; clear hs; (try clear a w); intro a w hs
    refine sy hs (y_extract rfl rfl) ?_; clear hs; (try clear a w); intro a w hs
    refine sy hs (y_assign rfl) ?_; clear hs; (try clear a w); intro a w hs
    refine sy hs (y_assign rfl) ?_; clear hs; (try clear a w); intro a w hs
    refine RL_nil ?_
    refine hK3 _ _ ?_; clear hK3
    refine W_seq fun K9 hK9 => ?_
    refine W_seq fun K10 hK10 => ?_
    refine W_region ?_
    refine sy hs (y_move rfl) ?_; clear hs; (try clear a w); intro a w hs
    refine sy hs (y_move rfl) ?_; clear hs; (try clear a w); intro a w hs
    refine sy hs (y_call rfl has10 rfl (Intact_u8 hRf h1 (by omega))) ?_; clear hs; (try clear a w); intro a w hs
    refine sy hs (y_not rfl) ?_; clear hs; (try clear a w); intro a w hs
    refine RL_nil ?_
    refine hK10 _ _ ?_; clear hK10
    refine W_condF hs rfl ?_
    refine W_skip ?_
    refine hK9 _ _ ?_; clear hK9
    refine W_seq fun K11 hK11 => ?_
    refine W_seq fun K12 hK12 => ?_
    refine W_region ?_
    refine sy hs (y_move rfl) ?_; clear hs; (try clear a w); intro a w hs
    first | (refine sy hs (y_lenM rfl Try.underlying22) ?_; clear hs; (try clear a w); intro a w hs) | (refine sy hs (y_lenR rfl Try.underlying22) ?_; clear hs; (try clear a w); intro a w hs) | (refine sy hs (y_len rfl Try.underlying22) ?_; clear hs; (try clear a w); intro a w hs)
    refine sy hs (y_gtr rfl rfl) ?_; clear hs; (try clear a w); intro a w hs
    refine RL_nil ?_
    refine hK12 _ _ ?_; clear hK12
    first | refine W_condP hs rfl (fun hc => ?_) (fun hc => ?_) | refine W_cond hs rfl (fun hc => ?_) (fun hc => ?_)
    · exact absurd hc (by omega)
    · obtain ⟨f3, hf3, hs, hR3⟩ := hs.frz
      replace h1 := h1.le hf3
      refine W_skip ?_
      refine hK11 _ _ ?_; clear hK11
      refine W_seq fun K13 hK13 => ?_
      refine W_region ?_
      refine sy hs (y_move rfl) ?_; clear hs; (try clear a w); intro a w hs
      refine sy hs (y_eql rfl rfl) ?_; clear hs; (try clear a w); intro a w hs
      refine sy hs (y_move rfl) ?_; clear hs; (try clear a w); intro a w hs
      first | refine St.splitP hs (t := 35) rfl (fun g1 hq => ?_) (fun g1 hq => ?_) | refine St.split hs (t := 35) rfl (fun g1 hq => ?_) (fun g1 hq => ?_)
      · clear hs; have hs := hq; clear hq
        refine syg hs (y_move rfl) ?_; clear hs; (try clear a w); intro a w hs
        refine syg hs (y_move rfl) ?_; clear hs; (try clear a w); intro a w hs
        refine RL_callVg hs rfl has13 rfl (refDecode_ok h1 (by omega)) ?_; clear hs; (try clear a w); rintro vr f4 L4 a w hf4 ⟨rfl, rfl⟩ hs
        obtain ⟨f5, hf5, hs, hR5⟩ := hs.frz
        have hb0 := runesIn_length (bytesOf xs)
        have hb1 : (bytesOf xs).size = xs.length := by simp [bytesOf, ByteArray.size]
        have hb2 := decGo_le (runesIn (bytesOf xs)) 0
        have h4 := Same_i32 (hR3.le hf5) hR5 (by omega)
        rw [decide_eq_true rfl] at h4
        refine syg hs (y_call rfl has12 rfl h4) ?_; clear hs; (try clear a w); intro a w hs
        refine sy hs (y_pick rfl rfl) ?_; clear hs; (try clear a w); intro a w hs
        refine sy hs (y_move rfl) ?_; clear hs; (try clear a w); intro a w hs
        refine syg hs (y_call rfl has11 rfl known_true) ?_; clear hs; (try clear a w); intro a w hs
        refine sy hs (y_pick rfl rfl) ?_; clear hs; (try clear a w); intro a w hs
        refine sy hs (y_assign rfl) ?_; clear hs; (try clear a w); intro a w hs
        refine RL_nil ?_
        refine hK13 _ _ ?_; clear hK13
        refine W_ret ?_
        refine Rt_1 hs rfl rfl ?_
        exact ⟨rfl, (hs.weak (hf1.trans (hf3.trans hf5))).cw⟩
      · clear hs; have hs := hq; clear hq
        exact absurd rfl g1

