/-
  Walks and laws of this seat; the base is the text Base.
-/
import Derived.Test.YthmnohdlhlmmpaaQ4JU
namespace Go.Sl
theorem decL_back (b0 : Nat) (l : List Nat) (hl : ∀ b ∈ b0 :: l, b < 256) (h : (decL (b0 :: l)).1 ≠ 65533) : encL (decL (b0 :: l)).1 = (b0 :: l).take (decL (b0 :: l)).2 := by
  have hb0 := hl b0 (by simp)
  by_cases h1 : b0 < 128
  · simp [decL, h1, encL]
  · by_cases h2 : (b0 / 32 == 6 && contL (b0 :: l) 1) = true
    · have hd : decL (b0 :: l) = if (b0 % 32) * 64 + (b0 :: l).getD 1 0 % 64 ≥ 128 then ((b0 % 32) * 64 + (b0 :: l).getD 1 0 % 64, 2) else (65533, 1) := by
        simp only [decL, List.getD_cons_zero]; rw [if_neg h1, if_pos h2]
      rw [hd] at h ⊢
      by_cases h3 : (b0 % 32) * 64 + (b0 :: l).getD 1 0 % 64 ≥ 128
      · rw [if_pos h3] at h ⊢
        cases l with
        | nil => simp [contL] at h2
        | cons b1 t =>
          have hb1 := hl b1 (by simp)
          simp [contL] at h2
          simp only [List.getD_cons_zero, List.getD_cons_succ] at h3 ⊢
          unfold encL
          rw [if_neg (by omega), if_pos (by omega)]
          simp only [List.take_succ_cons, List.take_zero]
          congr 1
          · omega
          · congr 1; omega
      · rw [if_neg h3] at h; exact absurd rfl h
    · by_cases h4 : (b0 / 16 == 14 && contL (b0 :: l) 1 && contL (b0 :: l) 2) = true
      · obtain ⟨c, hc⟩ : ∃ c, c = (b0 % 16) * 4096 + ((b0 :: l).getD 1 0 % 64) * 64 + (b0 :: l).getD 2 0 % 64 := ⟨_, rfl⟩
        obtain ⟨g, hg⟩ : ∃ g : Bool, g = (decide (c ≥ 2048) && Utf8.valid (c : Nat)) := ⟨_, rfl⟩
        have hd : decL (b0 :: l) = if g = true then (c, 3) else (65533, 1) := by
          rw [hg, hc]; simp only [decL, List.getD_cons_zero]; rw [if_neg h1, if_neg h2, if_pos h4]
        rw [hd] at h ⊢
        by_cases h3 : g = true
        · rw [if_pos h3] at h ⊢
          obtain ⟨b1, b2, t, rfl⟩ : ∃ b1 b2 t, l = b1 :: b2 :: t := by
            clear hd h3 hg hc h
            rcases l with _ | ⟨b1, _ | ⟨b2, t⟩⟩
            · simp [contL] at h4
            · simp [contL] at h4
            · exact ⟨b1, b2, t, rfl⟩
          ·
            have hb1 := hl b1 (by simp)
            have hb2 := hl b2 (by simp)
            simp [contL] at h4
            rw [h3] at hg
            have h5 := of_decide_eq_true (Bool.and_eq_true_iff.1 hg.symm).1
            simp only [List.getD_cons_zero, List.getD_cons_succ] at hc
            unfold encL
            rw [if_neg (by omega), if_neg (by omega), if_pos (by omega)]
            simp only [List.take_succ_cons, List.take_zero]
            congr 1
            · omega
            · congr 1
              · omega
              · congr 1; omega
        · rw [if_neg h3] at h; exact absurd rfl h
      · by_cases h6 : (b0 / 8 == 30 && contL (b0 :: l) 1 && contL (b0 :: l) 2 && contL (b0 :: l) 3) = true
        · obtain ⟨c, hc⟩ : ∃ c, c = (b0 % 8) * 262144 + ((b0 :: l).getD 1 0 % 64) * 4096 + ((b0 :: l).getD 2 0 % 64) * 64 + (b0 :: l).getD 3 0 % 64 := ⟨_, rfl⟩
          obtain ⟨g, hg⟩ : ∃ g : Bool, g = (decide (c ≥ 65536) && Utf8.valid (c : Nat)) := ⟨_, rfl⟩
          have hd : decL (b0 :: l) = if g = true then (c, 4) else (65533, 1) := by
            rw [hg, hc]; simp only [decL, List.getD_cons_zero]; rw [if_neg h1, if_neg h2, if_neg h4, if_pos h6]
          rw [hd] at h ⊢
          by_cases h3 : g = true
          · rw [if_pos h3] at h ⊢
            obtain ⟨b1, b2, b3, t, rfl⟩ : ∃ b1 b2 b3 t, l = b1 :: b2 :: b3 :: t := by
              clear hd h3 hg hc h
              rcases l with _ | ⟨b1, _ | ⟨b2, _ | ⟨b3, t⟩⟩⟩
              · simp [contL] at h6
              · simp [contL] at h6
              · simp [contL] at h6
              · exact ⟨b1, b2, b3, t, rfl⟩
            · skip
              have hb1 := hl b1 (by simp)
              have hb2 := hl b2 (by simp)
              have hb3 := hl b3 (by simp)
              simp [contL] at h6
              rw [h3] at hg
              have h5 := of_decide_eq_true (Bool.and_eq_true_iff.1 hg.symm).1
              simp only [List.getD_cons_zero, List.getD_cons_succ] at hc
              unfold encL
              rw [if_neg (by omega), if_neg (by omega), if_neg (by omega)]
              simp only [List.take_succ_cons, List.take_zero]
              congr 1
              · omega
              · congr 1
                · omega
                · congr 1
                  · omega
                  · congr 1; omega
          · rw [if_neg h3] at h; exact absurd rfl h
        · exfalso
          apply h
          simp only [decL, List.getD_cons_zero]; rw [if_neg h1, if_neg h2, if_neg h4, if_neg h6]
theorem enc_runesL : ∀ (m : Nat) (l : List Nat), l.length ≤ m → (∀ b ∈ l, b < 256) → (∀ x ∈ runesS l, x ≠ 65533) → ((runesS l).flatMap fun x => encL x.toNat) = l
  | _, [], _, _, _ => rfl
  | 0, _ :: _, hm, _, _ => by simp at hm
  | m + 1, b :: l, hm, hl, h => by
    rw [runesS_cons] at h ⊢
    have hw := decL_width (b :: l)
    have h0 := h _ (List.mem_cons_self ..)
    rw [List.flatMap_cons, Int.toNat_natCast, decL_back b l hl (fun e => h0 (by rw [e]; rfl)), enc_runesL m _ (by rw [List.length_drop]; simp only [List.length_cons] at hm ⊢; omega) (fun x hx => hl x (List.mem_of_mem_drop hx)) (fun x hx => h x (List.mem_cons_of_mem _ hx)), List.take_append_drop]
theorem byL_inj {s t : ByteArray} (h : byL s = byL t) : s = t := by
  cases s with | mk a => cases t with | mk b =>
  unfold byL at h
  congr 1
  apply Array.toList_inj.1
  exact (List.map_inj_right fun x y e => UInt8.toNat_inj.1 e).1 h
/-- A text in which nothing decodes to 65533 is what its runes are written as. -/
theorem textOf_runesIn {s : ByteArray} (h : ∀ x ∈ runesIn s, x ≠ 65533) : textOf (runesIn s) = s := by
  apply byL_inj
  have hv := runesIn_valid s
  rw [textOf, byL_fold _ _ hv]
  rw [runesIn_list] at h ⊢
  exact enc_runesL _ _ (Nat.le_refl _) (byL_lt s) h
end Go.Sl
