/-
  Walks and laws of this seat; the base is the text Base.
-/
import Derived.Test.YtklcdfnhdljkjaaGreatDoorL7r
import Derived.Test.YtklcdfnhdljkjaaGreatDoorG7e
namespace Go.Proofs.YtklcdfnhdljkjaaGreatDoor
open Go.RowKit Go.Sl
/-! The document's escaping, of runes, is that of bytes. -/
abbrev toI (l : List Nat) : List Int := l.map fun (n : Nat) => (n : Int)
theorem bytesIn_byL (s : ByteArray) : bytesIn s = toI (byL s) := by
  unfold bytesIn byL toI
  rw [List.map_map]; rfl
/-- What stands for a rune. -/
def runE (q : Bool) (c : Nat) : List Int :=
  if c = 38 then [38, 97, 109, 112, 59] else if c = 60 then [38, 108, 116, 59] else if c = 62 then [38, 103, 116, 59] else if c = 160 then [38, 110, 98, 115, 112, 59] else if c = 13 then [38, 35, 49, 51, 59] else if c = 34 ∧ q = true then [38, 113, 117, 111, 116, 59] else toI (encL c)
theorem oneB_high (q : Bool) {c : Nat} (h : 128 ≤ c) : oneB q c = [(c : Int)] := by
  unfold oneB
  rw [if_neg (by omega), if_neg (by omega), if_neg (by omega), if_neg (by omega), if_neg (by omega)]
theorem escA_high (q : Bool) : ∀ (l t : List Nat), (∀ b ∈ l, 128 ≤ b ∧ b ≠ 194) → escA q false (toI (l ++ t)) = toI l ++ escA q false (toI t)
  | [], _, _ => rfl
  | b :: l, t, h => by
    have hb := h b (by simp)
    have ih := escA_high q l t fun x hx => h x (by simp [hx])
    show escA q false ((b : Int) :: toI (l ++ t)) = _
    rw [escA_one q (by rintro ⟨e, _⟩; omega), ih, oneB_high q hb.1]
    rfl
theorem escA_enc (q : Bool) {c : Nat} (t : List Nat) (hc : c ≤ 1114111) : escA q false (toI (encL c ++ t)) = runE q c ++ escA q false (toI t) := by
  by_cases h1 : c < 128
  · have e : encL c = [c] := by unfold encL; rw [if_pos h1]
    unfold runE
    rw [e]
    show escA q false ((c : Int) :: toI t) = _
    rw [escA_one q (by rintro ⟨e, _⟩; omega)]
    congr 1
    unfold oneB
    by_cases a1 : c = 38
    · subst a1; rfl
    by_cases a2 : c = 60
    · subst a2; rfl
    by_cases a3 : c = 62
    · subst a3; rfl
    by_cases a4 : c = 13
    · subst a4; rfl
    rw [if_neg (by omega), if_neg (by omega), if_neg (by omega), if_neg (by omega), if_neg a1, if_neg a2, if_neg a3, if_neg (show ¬ c = 160 by omega), if_neg a4]
    by_cases a5 : c = 34 ∧ q = true
    · rw [if_pos a5, if_pos ⟨by omega, a5.2⟩]
    · rw [if_neg a5, if_neg (by rintro ⟨x, y⟩; exact a5 ⟨by omega, y⟩)]; rfl
  · have hr : c ≠ 160 → runE q c = toI (encL c) := fun h => by
      unfold runE
      rw [if_neg (by omega), if_neg (by omega), if_neg (by omega), if_neg h, if_neg (by omega), if_neg (by omega)]
    by_cases h160 : c = 160
    · subst h160
      exact escA_two q (toI t)
    rw [hr h160]
    unfold encL
    rw [if_neg h1]
    split
    · rename_i h2
      by_cases ha : 192 + c / 64 = 194
      · show escA q false (((192 + c / 64 : Nat) : Int) :: toI ([128 + c % 64] ++ t)) = _
        rw [escA_one q (by
          rintro ⟨_, e⟩
          have e2 : some (((128 + c % 64 : Nat) : Int)) = some 160 := e
          have := Option.some.inj e2
          omega), oneB_high q (by omega), escA_high q _ _ (by simp; omega)]
        rfl
      · exact escA_high q _ _ (by simp; omega)
    · split
      · exact escA_high q _ _ (by simp; omega)
      · exact escA_high q _ _ (by simp; omega)
theorem bytesOf_append (xs ys : List Int) : bytesOf (xs ++ ys) = bytesOf xs ++ bytesOf ys := by
  apply ByteArray.ext; simp [bytesOf]
theorem bytesOf_size (xs : List Int) : (bytesOf xs).size = xs.length := by
  show ((xs.map _).toArray).size = _
  simp
theorem enc_bytes {c : Nat} (h : Utf8.valid c = true) : Utf8.encode c = bytesOf (toI (encL c)) := by
  rw [← byL_encode h, ← bytesIn_byL, bytesOf_bytesIn]
theorem runE_len (q : Bool) (c : Nat) : (runE q c).length ≤ 6 := by
  unfold runE
  have h : (toI (encL c)).length ≤ 6 := by
    unfold encL
    repeat' split
    all_goals simp [toI]
  repeat' split
  all_goals first | exact h | simp
theorem ref_step {s : ByteArray} {q : Bool} {k i c w : Nat} {acc : ByteArray} (hi : i < s.size) (hd : Utf8.decode s i = (c, w)) (hv : Utf8.valid c = true) :
    ref7_Escape_l2 s q (k + 1) acc i = (addS acc (bytesOf (runE q c))).bind fun x => ref7_Escape_l2 s q k x (i + w) := by
  have e : ∀ x, ref7_Escape_k3 s i (ref7_Escape_l2 s q k) x = ref7_Escape_l2 s q k x (i + w) := fun x => by unfold ref7_Escape_k3; rw [hd]
  have e8 : ∀ x, ref7_Escape_k8 s i (ref7_Escape_l2 s q k) x = ref7_Escape_l2 s q k x (i + w) := e
  have e7 : ∀ x, ref7_Escape_k7 s i (ref7_Escape_l2 s q k) x = ref7_Escape_l2 s q k x (i + w) := e
  have e6 : ∀ x, ref7_Escape_k6 s i (ref7_Escape_l2 s q k) x = ref7_Escape_l2 s q k x (i + w) := e
  have e5 : ∀ x, ref7_Escape_k5 s i (ref7_Escape_l2 s q k) x = ref7_Escape_l2 s q k x (i + w) := e
  have e4 : ∀ x, ref7_Escape_k4 s i (ref7_Escape_l2 s q k) x = ref7_Escape_l2 s q k x (i + w) := e
  rw [ref7_Escape_l2, decide_eq_true hi, hd]
  simp only [cond_true, e, e4, e5, e6, e7, e8]
  unfold runE
  by_cases a1 : c = 38
  · subst a1; rfl
  rw [decide_eq_false (show ¬ (c : Int) = 38 by omega), cond_false, if_neg a1]
  by_cases a2 : c = 60
  · subst a2; rfl
  rw [decide_eq_false (show ¬ (c : Int) = 60 by omega), cond_false, if_neg a2]
  by_cases a3 : c = 62
  · subst a3; rfl
  rw [decide_eq_false (show ¬ (c : Int) = 62 by omega), cond_false, if_neg a3]
  by_cases a4 : c = 160
  · subst a4; rfl
  rw [decide_eq_false (show ¬ (c : Int) = 160 by omega), cond_false, if_neg a4]
  by_cases a5 : c = 13
  · subst a5; rfl
  rw [decide_eq_false (show ¬ (c : Int) = 13 by omega), cond_false, if_neg a5]
  by_cases a6 : c = 34 ∧ q = true
  · obtain ⟨rfl, rfl⟩ := a6; rfl
  · rw [if_neg a6]
    have : (decide ((c : Int) = 34) && q) = false := by
      cases q with
      | false => simp
      | true => simp at a6 ⊢; omega
    rw [this, cond_false, enc_bytes hv]
theorem ref_loop {s : ByteArray} {q : Bool} : ∀ (xs : List Int) (k i : Nat) (acc : ByteArray), (∀ x ∈ xs, Utf8.valid x = true) → (byL s).drop i = xs.flatMap (fun x => encL x.toNat) → xs.length < k → acc.size + 6 * xs.length ≤ 9223372036854775807 →
    ref7_Escape_l2 s q k acc i = some (acc ++ bytesOf (escA q false (toI ((byL s).drop i))))
  | _, 0, _, _, _, _, h, _ => absurd h (Nat.not_lt_zero _)
  | [], k + 1, i, acc, _, hd, _, _ => by
    have hi : ¬ i < s.size := fun h => by
      have := congrArg List.length hd
      rw [List.length_drop, byL_length] at this
      simp at this; omega
    rw [ref7_Escape_l2, decide_eq_false hi, hd]
    show some acc = some (acc ++ bytesOf [])
    congr 1
    apply ByteArray.ext; simp [bytesOf]
  | x :: xs, k + 1, i, acc, hv, hd, hk, hsz => by
    have hx := hv x (by simp)
    obtain ⟨c, rfl⟩ : ∃ c : Nat, x = c := ⟨x.toNat, by simp [Utf8.valid] at hx; omega⟩
    have hc : c ≤ 1114111 := by simp [Utf8.valid] at hx; omega
    rw [List.flatMap_cons, Int.toNat_natCast] at hd
    have hdec : Utf8.decode s i = (c, (encL c).length) := by rw [decode_list, hd, decL_encL hx]
    have hne : (encL c).length ≠ 0 := fun h => encL_ne c (List.eq_nil_of_length_eq_zero h)
    have hi : i < s.size := by
      have := congrArg List.length hd
      rw [List.length_drop, byL_length, List.length_append] at this
      omega
    have hd2 : (byL s).drop (i + (encL c).length) = xs.flatMap (fun x => encL x.toNat) := by
      rw [← List.drop_drop, hd, List.drop_left' rfl]
    have h6 := runE_len q c
    simp only [List.length_cons] at hk hsz
    have hz : acc.size + (bytesOf (runE q c)).size ≤ 9223372036854775807 := by rw [bytesOf_size]; omega
    rw [ref_step hi hdec hx, addS, decide_eq_true hz, cond_true, Option.bind_some,
      ref_loop xs k _ _ (fun y hy => hv y (by simp [hy])) hd2 (by omega) (by rw [ByteArray.size_append, bytesOf_size]; omega), hd2, hd, escA_enc q _ hc, bytesOf_append, ByteArray.append_assoc]
theorem ref_escape {s : ByteArray} {q : Bool} {n : Nat} (h : textOf (runesIn s) = s) (hn : (runesIn s).length < n) (hs : (runesIn s).length ≤ 1000000) : ref7_Escape n s q = some (escS q s) := by
  have hb : byL s = (runesIn s).flatMap fun x => encL x.toNat := by
    have := byL_fold (runesIn s) ByteArray.empty (runesIn_valid s)
    unfold textOf at h
    rw [h] at this
    rw [this]; rfl
  unfold ref7_Escape
  rw [ref_loop (runesIn s) n 0 (bs []) (runesIn_valid s) (by rw [List.drop_zero]; exact hb) hn (by show 0 + _ ≤ _; omega), List.drop_zero, ← bytesIn_byL]
  congr 1
end Go.Proofs.YtklcdfnhdljkjaaGreatDoor
