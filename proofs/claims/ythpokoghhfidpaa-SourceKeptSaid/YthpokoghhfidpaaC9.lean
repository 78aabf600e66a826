/-
  Walks and laws of this seat; the base is the text Base.
-/
import Derived.Test.YthpokoghhfidpaaU1
import Derived.Test.YthpokoghhfidpaaRows
import Derived.Test.YthpokoghhfidpaaT1
import Derived.Test.YthpokoghhfidpaaC8
namespace Go.Proofs.Ythpokoghhfidpaa
open Go.RowKit Go.Sl

theorem decGo_may : ∀ (rs : List Int) (last : Int), (∀ x ∈ rs, Utf8.valid x = true) → ∀ r ∈ decGo last rs, Utf8.valid r = true ∧ r ≠ 13 ∧ r ≠ 0
  | [], _, _ => by simp [decGo]
  | x :: rs, last, h => by
    intro r hr
    simp only [decGo, List.mem_append] at hr
    rcases hr with hr | hr
    · have hx := h x (by simp)
      split at hr
      · simp at hr
      · split at hr
        · simp at hr; subst hr; decide
        · split at hr
          · simp at hr; subst hr; decide
          · simp at hr; subst hr; exact ⟨hx, by assumption, by assumption⟩
    · exact decGo_may rs x (fun y hy => h y (by simp [hy])) r hr
theorem decGo_same : ∀ (rs : List Int) (last : Int), last ≠ 13 → (∀ x ∈ rs, x ≠ 13 ∧ x ≠ 0) → decGo last rs = rs
  | [], _, _, _ => rfl
  | x :: rs, last, hl, h => by
    have hx := h x (by simp)
    simp only [decGo]
    rw [if_neg (by simp [hl]), if_neg hx.1, if_neg hx.2, decGo_same rs x hx.1 (fun y hy => h y (by simp [hy]))]
    rfl
theorem decGo_append : ∀ (rs ts : List Int) (last : Int), decGo last (rs ++ 32 :: ts) = decGo last rs ++ 32 :: decGo 0 ts
  | [], ts, last => by simp [decGo, decGo_last]
  | x :: rs, ts, last => by simp only [List.cons_append, decGo, decGo_append rs ts x, List.append_assoc]

theorem encL_le (c : Nat) : (encL c).length ≤ 4 := by
  unfold encL
  repeat' split
  all_goals simp
theorem flat_le : ∀ (xs : List Int), (xs.flatMap fun x => encL x.toNat).length ≤ 4 * xs.length
  | [] => by simp
  | x :: xs => by
    have := flat_le xs
    have := encL_le x.toNat
    simp only [List.flatMap_cons, List.length_append, List.length_cons]
    omega
theorem textOf_le {xs : List Int} (h : ∀ x ∈ xs, Utf8.valid x = true) : (textOf xs).size ≤ 4 * xs.length := by
  have := flat_le xs
  rw [← byL_length, textOf, byL_fold xs _ h]
  simpa [byL] using this

theorem runes_between (xs : List Int) (s : ByteArray) : runesIn (bytesOf (xs ++ 32 :: bytesIn s)) = runesIn (bytesOf xs) ++ 32 :: runesIn (bytesOf (bytesIn s)) := by
  have e : xs ++ 32 :: bytesIn s = xs ++ ([32] ++ bytesIn s) := rfl
  rw [runesIn_list, runesIn_list, runesIn_list, e, byL_bytesOf_append, byL_bytesOf_append]
  exact runesS_between (b := 32) (by omega) _ _

set_option maxRecDepth 100000 in
theorem SourceClean_true {f : Fz} {v0 : Value} {xs0 : List Int} {s0 : ByteArray} (h0 : Rd f [] v0 1 (bl xs0)) (hm : xs0.length ≤ 140737488355328) (hms : s0.size ≤ 9223372036854775807) :
    Gives Try.prog 4 [v0, .string s0] f (.bool true) := by
  intro w0 L w hC
  refine enter Try.func4 rfl Try.ntmps4 (by simp) hC fun a hs => ?_
  refine W_seq fun K1 hK1 => ?_
  refine W_region ?_
  refine sy hs (y_assign rfl) ?_; clear hs; (try clear a w); intro a w hs
  refine RL_nil ?_
  refine hK1 _ _ ?_; clear hK1
  refine W_cut (fun a w => ∃ v xs, Rd f [] v 1 (bl xs) ∧ xs.length ≤ 2000 ∧ St 102 w0 f L [(0, v), (1, .string s0)] a w) ?_ (fun a w hI => ?_)
  · refine W_seq fun K3 hK3 => ?_
    refine W_region ?_
    refine sy hs (y_move rfl) ?_; clear hs; (try clear a w); intro a w hs
    first | (refine sy hs (y_lenM rfl Try.underlying22) ?_; clear hs; (try clear a w); intro a w hs) | (refine sy hs (y_lenR rfl Try.underlying22) ?_; clear hs; (try clear a w); intro a w hs) | (refine sy hs (y_len rfl Try.underlying22) ?_; clear hs; (try clear a w); intro a w hs)
    refine sy hs (y_gtr rfl rfl) ?_; clear hs; (try clear a w); intro a w hs
    refine RL_nil ?_
    refine hK3 _ _ ?_; clear hK3
    first | refine W_condP hs rfl (fun hlong => ?_) (fun hlong => ?_) | refine W_cond hs rfl (fun hlong => ?_) (fun hlong => ?_)
    · refine W_region ?_
      refine sy hs (y_move rfl) ?_; clear hs; (try clear a w); intro a w hs
      refine sy hs (y_slice (lo := 0) (hi := 2000) rfl Try.underlying22 ti5 (.inl ⟨rfl, rfl⟩) (.inr ⟨_, rfl, rfl⟩) (by omega) (by rw [List.length_map]; omega) h0) ?_; clear hs; (try clear a w); intro a w hs
      refine sy hs (y_assign rfl) ?_; clear hs; (try clear a w); intro a w hs
      refine RL_nil ?_
      have h1 := h0.cut (lo := 0) (hi := 2000) (by omega) (by rw [List.length_map]; omega)
      exact ⟨_, xs0.take 2000, by simpa [← List.map_take] using h1, by simp; omega, hs.sub ⟨rfl, rfl, trivial⟩⟩
    · refine W_skip ?_
      exact ⟨v0, xs0, h0, by omega, hs.sub ⟨rfl, rfl, trivial⟩⟩
  · clear hs
    obtain ⟨v, xs, h1, hx, hs⟩ := hI
    refine W_seq fun K4 hK4 => ?_
    refine W_region ?_
    refine sy hs (y_move rfl) ?_; clear hs; (try clear a w); intro a w hs
    refine RL_callV hs rfl has9 rfl (Decode_ok h1 (by omega)) ?_; clear hs; (try clear a w); rintro _ f2 L2 a w hf2 ⟨lv, rfl, rfl, rfl⟩ hs
    obtain ⟨f1, hf1, hs, hRl⟩ := hs.frz
    have hb0 := runesIn_length (bytesOf xs)
    have hb1 : (bytesOf xs).size = xs.length := by simp [bytesOf, ByteArray.size]
    have hb2 := decGo_le (runesIn (bytesOf xs)) 0
    have hmay := decGo_may (runesIn (bytesOf xs)) 0 (runesIn_valid _)
    obtain ⟨l, hl⟩ : ∃ l, l = decGo 0 (runesIn (bytesOf xs)) := ⟨_, rfl⟩
    rw [← hl] at hRl hb2 hmay
    refine sy hs (y_move rfl) ?_; clear hs; (try clear a w); intro a w hs
    refine sy hs (y_extract rfl rfl) ?_; clear hs; (try clear a w); intro a w hs
    refine sy hs (y_extract rfl rfl) ?_; clear hs; (try clear a w); intro a w hs
    refine sy hs (y_assign rfl) ?_; clear hs; (try clear a w); intro a w hs
    refine sy hs (y_assign rfl) ?_; clear hs; (try clear a w); intro a w hs
    refine RL_nil ?_
    refine hK4 _ _ ?_; clear hK4
    refine W_seq fun K5 hK5 => ?_
    refine W_seq fun K6 hK6 => ?_
    refine W_region ?_
    refine sy hs (y_assign rfl) ?_; clear hs; (try clear a w); intro a w hs
    refine RL_nil ?_
    refine hK6 _ _ ?_; clear hK6
    refine W_block fun Qe7 hB7 hO7 => ?_
    refine W_loop (fun (k : Nat) a w => k ≤ l.length ∧ St 102 w0 f1 L [(0, v), (1, .string s0), (5, lv), (6, .int .i64 0), (7, .int .i64 k)] a w) (fun k => l.length - k) 0 ⟨by omega, hs.sub ⟨rfl, rfl, rfl, rfl, rfl, trivial⟩⟩ ?_
    clear hs; rintro k a w ⟨hk, hs⟩ K hK
    refine W_seq fun K8 hK8 => ?_
    refine W_seq fun K9 hK9 => ?_
    refine W_region ?_
    refine sy hs (y_move rfl) ?_; clear hs; (try clear a w); intro a w hs
    refine sy hs (y_move rfl) ?_; clear hs; (try clear a w); intro a w hs
    first | (refine sy hs (y_lenM rfl Try.underlying24) ?_; clear hs; (try clear a w); intro a w hs) | (refine sy hs (y_lenR rfl Try.underlying24) ?_; clear hs; (try clear a w); intro a w hs) | (refine sy hs (y_len rfl Try.underlying24) ?_; clear hs; (try clear a w); intro a w hs)
    refine sy hs (y_lss rfl rfl) ?_; clear hs; (try clear a w); intro a w hs
    refine RL_nil ?_
    refine hK9 _ _ ?_; clear hK9
    first | refine W_condP hs rfl (fun hlt => ?_) (fun hlt => ?_) | refine W_cond hs rfl (fun hlt => ?_) (fun hlt => ?_)
    · obtain ⟨x, hx2⟩ : ∃ x, l[k]? = some x := ⟨_, List.getElem?_eq_getElem (by omega)⟩
      have hmx := hmay x (List.mem_of_getElem? hx2)
      have hmx1 : 0 ≤ x ∧ x ≤ 1114111 := by have := hmx.1; simp [Utf8.valid] at this; omega
      refine W_skip ?_
      refine hK8 _ _ ?_; clear hK8
      refine W_seq fun K10 hK10 => ?_
      refine W_block fun Qe11 hB11 hO11 => ?_
      refine W_seq fun K12 hK12 => ?_
      refine W_region ?_
      refine sy hs (y_move rfl) ?_; clear hs; (try clear a w); intro a w hs
      refine sy hs (y_move rfl) ?_; clear hs; (try clear a w); intro a w hs
      first | (refine sy hs (y_ix rfl rfl Try.underlying24 ti21 rfl) ?_; clear hs; (try clear a w); intro a w hs) | (refine sy hs (y_ix rfl rfl Try.underlying24 ti21 (ix_of (by omega))) ?_; clear hs; (try clear a w); intro a w hs)
      first | (refine sy hs (y_ld rfl Try.underlying21 rfl) ?_; clear hs; (try clear a w); intro a w hs) | (refine sy hs (y_ldE rfl Try.underlying21 rfl) ?_; clear hs; (try clear a w); intro a w hs)
      refine sy hs (y_eql rfl rfl) ?_; clear hs; (try clear a w); intro a w hs
      rw [decide_eq_false hmx.2.1] at hs
      refine sy hs (y_move rfl) ?_; clear hs; (try clear a w); intro a w hs
      refine syg hs (y_move rfl) ?_; clear hs; (try clear a w); intro a w hs
      refine syg hs (y_move rfl) ?_; clear hs; (try clear a w); intro a w hs
      first | (refine syg hs (y_ix rfl rfl Try.underlying24 ti21 rfl) ?_; clear hs; (try clear a w); intro a w hs) | (refine syg hs (y_ix rfl rfl Try.underlying24 ti21 (ix_of (by omega))) ?_; clear hs; (try clear a w); intro a w hs)
      first | (refine syg hs (y_ld rfl Try.underlying21 rfl) ?_; clear hs; (try clear a w); intro a w hs) | (refine syg hs (y_ldE rfl Try.underlying21 rfl) ?_; clear hs; (try clear a w); intro a w hs)
      refine syg hs (y_leq rfl rfl) ?_; clear hs; (try clear a w); intro a w hs
      rw [decide_eq_false (by have := hmx.2.2; omega)] at hs
      refine sy hs (y_pick rfl rfl) ?_; clear hs; (try clear a w); intro a w hs
      refine sy hs (y_move rfl) ?_; clear hs; (try clear a w); intro a w hs
      refine syg hs (y_move rfl) ?_; clear hs; (try clear a w); intro a w hs
      refine syg hs (y_move rfl) ?_; clear hs; (try clear a w); intro a w hs
      first | (refine syg hs (y_ix rfl rfl Try.underlying24 ti21 rfl) ?_; clear hs; (try clear a w); intro a w hs) | (refine syg hs (y_ix rfl rfl Try.underlying24 ti21 (ix_of (by omega))) ?_; clear hs; (try clear a w); intro a w hs)
      first | (refine syg hs (y_ld rfl Try.underlying21 rfl) ?_; clear hs; (try clear a w); intro a w hs) | (refine syg hs (y_ldE rfl Try.underlying21 rfl) ?_; clear hs; (try clear a w); intro a w hs)
      refine syg hs (y_gtr rfl rfl) ?_; clear hs; (try clear a w); intro a w hs
      rw [decide_eq_false (by omega)] at hs
      refine sy hs (y_pick rfl rfl) ?_; clear hs; (try clear a w); intro a w hs
      refine RL_nil ?_
      refine hK12 _ _ ?_; clear hK12
      refine W_condF hs rfl ?_
      refine W_skip ?_
      refine hK10 _ _ ?_; clear hK10
      refine W_region ?_
      refine sy hs (y_move rfl) ?_; clear hs; (try clear a w); intro a w hs
      refine sy hs (y_add rfl rfl (wr_i64 (by omega))) ?_; clear hs; (try clear a w); intro a w hs
      refine sy hs (y_assign rfl) ?_; clear hs; (try clear a w); intro a w hs
      refine RL_nil ?_
      exact hK (k + 1) _ _ (by omega) ⟨by omega, hs.sub ⟨rfl, rfl, rfl, rfl, rfl, trivial⟩⟩
    · have htl := textOf_le (fun x hx => (hmay x hx).1)
      refine W_exit ?_
      refine hB7 _ _ ?_
      refine hK5 _ _ ?_; clear hK5
      refine W_seq fun K13 hK13 => ?_
      refine W_region ?_
      refine sy hs (y_move rfl) ?_; clear hs; (try clear a w); intro a w hs
      refine sy hs (y_r2s rfl Try.underlying24 Try.underlying21 Try.underlying9 hRl.up) ?_; clear hs; (try clear a w); intro a w hs
      refine RL_s2b hs rfl Try.underlying9 Try.underlying22 Try.underlying5 ?_; clear hs; (try clear a w); intro f3 bv a w hf3 hRb hs
      refine RL_callV hs rfl has9 rfl (Decode_ok hRb (by rw [bytesIn_length]; omega)) ?_; clear hs; (try clear a w); rintro _ f4 L4 a w hf4 ⟨lv2, rfl, rfl, rfl⟩ hs
      rw [bytesOf_bytesIn, runesIn_textOf (fun x hx => (hmay x hx).1), decGo_same l 0 (by decide) (fun x hx => (hmay x hx).2)] at hs
      obtain ⟨f5, hf5, hs, hRa⟩ := hs.frz
      replace hRl := hRl.le (hf3.trans hf5)
      replace h1 := h1.le (hf1.trans (hf3.trans hf5))
      refine sy hs (y_move rfl) ?_; clear hs; (try clear a w); intro a w hs
      refine sy hs (y_extract rfl rfl) ?_; clear hs; (try clear a w); intro a w hs
      refine sy hs (y_extract rfl rfl) ?_; clear hs; (try clear a w); intro a w hs
      refine sy hs (y_assign rfl) ?_; clear hs; (try clear a w); intro a w hs
      refine sy hs (y_assign rfl) ?_; clear hs; (try clear a w); intro a w hs
      refine RL_nil ?_
      refine hK13 _ _ ?_; clear hK13
      refine W_seq fun K14 hK14 => ?_
      refine W_seq fun K15 hK15 => ?_
      refine W_region ?_
      refine sy hs (y_move rfl) ?_; clear hs; (try clear a w); intro a w hs
      refine sy hs (y_neq rfl rfl) ?_; clear hs; (try clear a w); intro a w hs
      refine sy hs (y_move rfl) ?_; clear hs; (try clear a w); intro a w hs
      refine syg hs (y_move rfl) ?_; clear hs; (try clear a w); intro a w hs
      refine syg hs (y_neq rfl rfl) ?_; clear hs; (try clear a w); intro a w hs
      refine sy hs (y_pick rfl rfl) ?_; clear hs; (try clear a w); intro a w hs
      refine sy hs (y_move rfl) ?_; clear hs; (try clear a w); intro a w hs
      refine syg hs (y_move rfl) ?_; clear hs; (try clear a w); intro a w hs
      have h4 := Same_i32 hRl hRa (by omega)
      rw [decide_eq_true rfl] at h4
      refine syg hs (y_move rfl) ?_; clear hs; (try clear a w); intro a w hs
      refine syg hs (y_call rfl has12 rfl h4) ?_; clear hs; (try clear a w); intro a w hs
      refine syg hs (y_not rfl) ?_; clear hs; (try clear a w); intro a w hs
      refine sy hs (y_pick rfl rfl) ?_; clear hs; (try clear a w); intro a w hs
      refine RL_nil ?_
      refine hK15 _ _ ?_; clear hK15
      refine W_condF hs rfl ?_
      refine W_skip ?_
      refine hK14 _ _ ?_; clear hK14
      refine W_cut (fun a w => ∃ s, s.size ≤ 2000 ∧ St 102 w0 f5 L [(0, v), (1, .string s), (5, lv)] a w) ?_ (fun a w hI => ?_)
      · refine W_seq fun K17 hK17 => ?_
        refine W_region ?_
        refine sy hs (y_move rfl) ?_; clear hs; (try clear a w); intro a w hs
        refine sy hs (y_lenS rfl Try.underlying9) ?_; clear hs; (try clear a w); intro a w hs
        refine sy hs (y_gtr rfl rfl) ?_; clear hs; (try clear a w); intro a w hs
        refine RL_nil ?_
        refine hK17 _ _ ?_; clear hK17
        first | refine W_condP hs rfl (fun hlong => ?_) (fun hlong => ?_) | refine W_cond hs rfl (fun hlong => ?_) (fun hlong => ?_)
        · refine W_region ?_
          refine sy hs (y_move rfl) ?_; clear hs; (try clear a w); intro a w hs
          refine sy hs (y_sliceS (lo := 0) (hi := 2000) rfl Try.underlying9 (.inl ⟨rfl, rfl⟩) (.inr ⟨_, rfl, rfl⟩) (by omega) (by omega)) ?_; clear hs; (try clear a w); intro a w hs
          refine sy hs (y_assign rfl) ?_; clear hs; (try clear a w); intro a w hs
          refine RL_nil ?_
          exact ⟨s0.extract 0 2000, by simp; omega, hs.sub ⟨rfl, rfl, rfl, trivial⟩⟩
        · refine W_skip ?_
          exact ⟨s0, by omega, hs.sub ⟨rfl, rfl, rfl, trivial⟩⟩
      · clear hs
        obtain ⟨s, hss, hs⟩ := hI
        refine W_seq fun K18 hK18 => ?_
        refine W_region ?_
        refine RL_bs0 hs Try.underlying22 ti5 ?_; clear hs; (try clear a w); intro tv a w hs
        refine sy hs (y_move rfl) ?_; clear hs; (try clear a w); intro a w hs
        refine RL_append (i := 0) hs rfl rfl rfl h1.up Try.underlying22 ti5 (by decide) (by simp [maxLen]; omega) (.free rfl) (by decide) ?_; clear hs; (try clear a w); intro v76 a w hs; simp only [List.set, List.nil_append] at hs
        refine RL_bs1s hs rfl Try.underlying22 ti5 rfl rfl ?_; clear hs; (try clear a w); intro tv a w hs
        refine RL_app1 0 hs rfl rfl rfl Try.underlying22 ti5 (by decide) (by simp; omega) ?_; clear hs; (try clear a w); intro v78 a w hs; simp only [List.set] at hs
        have e1 : ∀ ys : List Int, bl xs ++ [[Value.int .u8 32]] ++ (ys.map fun x => [Value.int .u8 x]) = bl (xs ++ 32 :: ys) := fun ys => by simp [bl]
        refine sy hs (y_move rfl) ?_; clear hs; (try clear a w); intro a w hs
        refine RL_appStr 0 hs rfl rfl rfl Try.underlying22 Try.underlying9 ti5 (by decide) (by simp [maxLen]; omega) ?_; clear hs; (try clear a w); intro v80 a w hs; simp only [List.set] at hs; rw [e1] at hs
        obtain ⟨f6, hf6, hs, hRm⟩ := hs.frz
        have hml : (xs ++ 32 :: bytesIn s).length = xs.length + (s.size + 1) := by simp [bytesIn_length]
        refine RL_callV hs rfl has9 rfl (Decode_ok hRm (by omega)) ?_; clear hs; (try clear a w); rintro _ f7 L7 a w hf7 ⟨lv3, rfl, rfl, rfl⟩ hs
        rw [runes_between, decGo_append, ← hl] at hs
        obtain ⟨f8, hf8, hs, hR8⟩ := hs.frz
        replace hRl := hRl.le (hf6.trans hf8)
        refine sy hs (y_move rfl) ?_; clear hs; (try clear a w); intro a w hs
        refine sy hs (y_extract rfl rfl) ?_; clear hs; (try clear a w); intro a w hs
        refine sy hs (y_extract rfl rfl) ?_; clear hs; (try clear a w); intro a w hs
        refine sy hs (y_assign rfl) ?_; clear hs; (try clear a w); intro a w hs
        refine sy hs (y_assign rfl) ?_; clear hs; (try clear a w); intro a w hs
        refine RL_nil ?_
        refine hK18 _ _ ?_; clear hK18
        refine W_seq fun K19 hK19 => ?_
        refine W_region ?_
        refine sy hs (y_move rfl) ?_; clear hs; (try clear a w); intro a w hs
        refine RL_s2b hs rfl Try.underlying9 Try.underlying22 Try.underlying5 ?_; clear hs; (try clear a w); intro f9 bv2 a w hf9 hRb2 hs
        refine RL_callV hs rfl has9 rfl (Decode_ok hRb2 (by rw [bytesIn_length]; omega)) ?_; clear hs; (try clear a w); rintro _ f10 L10 a w hf10 ⟨lv4, rfl, rfl, rfl⟩ hs
        have hb0 := runesIn_length (bytesOf (bytesIn s))
        have hb1 : (bytesOf (bytesIn s)).size = s.size := by rw [bytesOf_bytesIn]
        have hb3 := decGo_le (runesIn (bytesOf (bytesIn s))) 0
        generalize decGo 0 (runesIn (bytesOf (bytesIn s))) = n at *
        obtain ⟨f11, hf11, hs, hRn⟩ := hs.frz
        replace hRl := hRl.le (hf9.trans hf11)
        replace hR8 := hR8.le (hf9.trans hf11)
        refine sy hs (y_move rfl) ?_; clear hs; (try clear a w); intro a w hs
        refine sy hs (y_extract rfl rfl) ?_; clear hs; (try clear a w); intro a w hs
        refine sy hs (y_extract rfl rfl) ?_; clear hs; (try clear a w); intro a w hs
        refine sy hs (y_assign rfl) ?_; clear hs; (try clear a w); intro a w hs
        refine sy hs (y_assign rfl) ?_; clear hs; (try clear a w); intro a w hs
        refine RL_nil ?_
        refine hK19 _ _ ?_; clear hK19
        refine W_seq fun K20 hK20 => ?_
        refine W_region ?_
        refine sy hs (y_move rfl) ?_; clear hs; (try clear a w); intro a w hs
        refine RL_bs0 hs Try.underlying24 ti21 ?_; clear hs; (try clear a w); intro tv a w hs
        refine sy hs (y_move rfl) ?_; clear hs; (try clear a w); intro a w hs
        refine RL_append (i := 0) hs rfl rfl rfl hRl.up Try.underlying24 ti21 (by decide) (by simp [maxLen]; omega) (.free rfl) (by decide) ?_; clear hs; (try clear a w); intro v93 a w hs; simp only [List.set, List.nil_append] at hs
        refine RL_bs1s hs rfl Try.underlying24 ti21 rfl rfl ?_; clear hs; (try clear a w); intro tv a w hs
        refine RL_app1 0 hs rfl rfl rfl Try.underlying24 ti21 (by decide) (by simp; omega) ?_; clear hs; (try clear a w); intro v95 a w hs; simp only [List.set] at hs
        have e2 : rl l ++ [[Value.int .i32 32]] ++ rl n = rl (l ++ 32 :: n) := by simp [rl]
        refine sy hs (y_move rfl) ?_; clear hs; (try clear a w); intro a w hs
        refine RL_append (i := 0) hs rfl rfl rfl hRn.up Try.underlying24 ti21 (by decide) (by simp [maxLen]; omega) (.free rfl) (by decide) ?_; clear hs; (try clear a w); intro v97 a w hs; simp only [List.set] at hs; rw [e2] at hs
        obtain ⟨f12, hf12, hs, hR12⟩ := hs.frz
        have h5 := Same_i32 (hR8.le hf12) hR12 (by simp; omega)
        rw [decide_eq_true rfl] at h5
        refine sy hs (y_call rfl has12 rfl h5) ?_; clear hs; (try clear a w); intro a w hs
        refine sy hs (y_move rfl) ?_; clear hs; (try clear a w); intro a w hs
        refine syg hs (y_call rfl has11 rfl known_true) ?_; clear hs; (try clear a w); intro a w hs
        refine sy hs (y_pick rfl rfl) ?_; clear hs; (try clear a w); intro a w hs
        refine sy hs (y_assign rfl) ?_; clear hs; (try clear a w); intro a w hs
        refine RL_nil ?_
        refine hK20 _ _ ?_; clear hK20
        refine W_ret ?_
        refine Rt_1 hs rfl rfl ?_
        exact ⟨rfl, (hs.weak (hf1.trans (hf3.trans (hf5.trans (hf6.trans (hf8.trans (hf9.trans (hf11.trans hf12)))))))).cw⟩

