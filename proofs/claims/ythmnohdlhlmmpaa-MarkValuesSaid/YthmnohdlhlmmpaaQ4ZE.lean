/-
  Walks and laws of this seat; the base is the text Base.
-/
import Derived.Test.YthmnohdlhlmmpaaQ4ZD
import Derived.Test.YthmnohdlhlmmpaaQ4K
import Derived.Test.YthmnohdlhlmmpaaQ4W
import Derived.Test.YthmnohdlhlmmpaaL4vt
namespace Go.Proofs.Ythmnohdlhlmmpaa
open Go.RowKit Go.Sl
variable {n : Nat}
theorem valid_l2 (l : List Int) (hl : l.length ≤ 1000000000) : ∀ (d j k : Nat), j + d = l.length → d + 1 ≤ k → ∃ b, keep_Valid_l2 l k (j : Int) = some b
  | 0, j, k, hj, hk => by
    obtain ⟨k, rfl⟩ : ∃ i, k = i + 1 := ⟨k - 1, by omega⟩
    refine ⟨true, ?_⟩
    rw [keep_Valid_l2, dF (by omega)]; rfl
  | d + 1, j, k, hj, hk => by
    obtain ⟨k, rfl⟩ : ∃ i, k = i + 1 := ⟨k - 1, by omega⟩
    obtain ⟨b, ih⟩ := valid_l2 l hl d (j + 1) k (by omega) (by omega)
    have k3 : ∀ c, ∃ b, keep_Valid_k3 (j : Int) (keep_Valid_l2 l k) c = some b := fun c => by
      unfold keep_Valid_k3
      cases c with
      | true => exact ⟨false, rfl⟩
      | false => exact ⟨b, by rw [cond_false, w64_succ (by omega), ih]⟩
    have hlt : j < l.length := by omega
    rw [keep_Valid_l2, dT (by omega), geti_nat, List.getElem?_eq_getElem hlt, Option.bind_some, Option.bind_some, Option.bind_some, Option.bind_some]
    cases decide (l[j] < 0) with
    | true => exact k3 true
    | false =>
      cases decide (1114111 < l[j]) with
      | true => exact k3 true
      | false =>
        cases decide (55296 ≤ l[j]) with
        | true => exact k3 _
        | false => exact k3 false
theorem attrs_same (al : List api_Attr) (hb : al.length ≤ 1000000) : ∀ (d j k : Nat), j + d = al.length → d + 1 ≤ k → book_Same_api_Attr_l2 al al k (j : Int) = some true
  | 0, j, k, hj, hk => by
    obtain ⟨k, rfl⟩ : ∃ i, k = i + 1 := ⟨k - 1, by omega⟩
    rw [book_Same_api_Attr_l2, dF (by omega)]; rfl
  | d + 1, j, k, hj, hk => by
    obtain ⟨k, rfl⟩ : ∃ i, k = i + 1 := ⟨k - 1, by omega⟩
    have hlt : j < al.length := by omega
    rw [book_Same_api_Attr_l2, dT (by omega), geti_nat, List.getElem?_eq_getElem hlt, Option.bind_some, Option.bind_some, decide_eq_true rfl, decide_eq_true rfl]
    simp only [Bool.and_true, Bool.not_true, cond_false]
    rw [w64_succ (by omega)]
    exact attrs_same al hb d (j + 1) k (by omega) (by omega)
theorem attrs_same_eq (al : List api_Attr) (hb : al.length ≤ 1000000) (hn : al.length + 1 ≤ n) : book_Same_api_Attr n al al = some true := by
  unfold book_Same_api_Attr
  rw [dF (by simp)]
  exact attrs_same al hb al.length 0 n (by omega) hn
theorem token_true (t : mark_Token) (hb : t.Attrs.length ≤ 1000000) (hn : t.Attrs.length + 1 ≤ n) : law4_token n t (rt t) = some true := by
  unfold law4_token rt
  rw [dT rfl, dT rfl, dT rfl, attrs_same_eq _ hb hn]
  simp [law4_token_k1]
theorem tokens_true_l2 (ts : List mark_Token) (h : ∀ t ∈ ts, t.Attrs.length ≤ 1000000 ∧ t.Attrs.length + 1 ≤ n) (hl : ts.length ≤ 1000000000) : ∀ (d j k : Nat), j + d = ts.length → d + 1 ≤ k → law4_tokens_l2 n ts (ts.map rt) k (j : Int) = some true
  | 0, j, k, hj, hk => by
    obtain ⟨k, rfl⟩ : ∃ i, k = i + 1 := ⟨k - 1, by omega⟩
    rw [law4_tokens_l2, dF (by omega)]; rfl
  | d + 1, j, k, hj, hk => by
    obtain ⟨k, rfl⟩ : ∃ i, k = i + 1 := ⟨k - 1, by omega⟩
    have hlt : j < ts.length := by omega
    obtain ⟨h1, h2⟩ := h ts[j] (List.getElem_mem hlt)
    rw [law4_tokens_l2, dT (by omega), geti_nat, geti_nat, List.getElem?_map, List.getElem?_eq_getElem hlt, Option.bind_some, Option.map_some, Option.bind_some, token_true _ h1 h2, Option.bind_some, Bool.not_true, cond_false, w64_succ (by omega)]
    exact tokens_true_l2 ts h hl d (j + 1) k (by omega) (by omega)
theorem tokens_true (ts : List mark_Token) (h : ∀ t ∈ ts, t.Attrs.length ≤ 1000000 ∧ t.Attrs.length + 1 ≤ n) (hl : ts.length ≤ 1000000000) (hn : ts.length + 1 ≤ n) : law4_tokens n ts (ts.map rt) = some true := by
  unfold law4_tokens
  rw [dF (by simp)]
  exact tokens_true_l2 ts h hl ts.length 0 n (by omega) hn
/-! A roomy copy. -/
def roomL (l : List Int) : List Int := l ++ List.replicate 80 (-7)
theorem roomy_l2 (l : List Int) (hl : l.length ≤ 1000000000) : ∀ (d j k : Nat), j + d = 80 → d + 1 ≤ k → book_Roomy_rune_l2 (-7) k (l ++ (List.replicate j (-7) ++ List.replicate d 0)) ((l.length + j : Nat) : Int) = some (roomL l)
  | 0, j, k, hj, hk => by
    obtain ⟨k, rfl⟩ : ∃ i, k = i + 1 := ⟨k - 1, by omega⟩
    obtain rfl : j = 80 := by omega
    rw [book_Roomy_rune_l2, dF (by simp)]
    unfold book_Roomy_rune_k1 roomL
    rw [List.replicate_zero, List.append_nil]
  | d + 1, j, k, hj, hk => by
    obtain ⟨k, rfl⟩ : ∃ i, k = i + 1 := ⟨k - 1, by omega⟩
    have ih := roomy_l2 l hl d (j + 1) k (by omega) (by omega)
    have hrep : List.replicate (d + 1) (0 : Int) = 0 :: List.replicate d 0 := rfl
    have g : geti (l ++ (List.replicate j (-7) ++ List.replicate (d + 1) 0)) ((l.length + j : Nat) : Int) = some 0 := by
      have := geti_at (L := l ++ (List.replicate j (-7) ++ 0 :: List.replicate d 0)) (pre := l) (mid := List.replicate j (-7)) (y := 0) (r := List.replicate d 0) rfl
      rwa [List.length_replicate] at this
    have hs : seti (l ++ (List.replicate j (-7) ++ List.replicate (d + 1) 0)) ((l.length + j : Nat) : Int) (-7) = some (l ++ (List.replicate (j + 1) (-7) ++ List.replicate d 0)) := by
      unfold seti
      rw [if_pos ⟨by omega, by simp; omega⟩, Int.toNat_natCast, hrep, List.set_append_right _ _ (by omega), Nat.add_sub_cancel_left, List.set_append_right _ _ (by simp), List.length_replicate, Nat.sub_self, List.set_cons_zero, List.replicate_succ' (n := j), List.append_assoc, List.singleton_append]
    rw [book_Roomy_rune_l2, dT (by simp; omega), g, Option.bind_some, hs, Option.bind_some, w64_succ (by omega)]
    exact ih
theorem roomy_eq (l : List Int) (hl : l.length ≤ 1000000) (hn : 100 ≤ n) : book_Roomy_rune n l (-7) = some (roomL l) := by
  unfold book_Roomy_rune
  rw [w64_id (by omega), show (l.length : Int) + 80 = ((l.length + 80 : Nat) : Int) by omega]
  have hr : repM 4 ((l.length + 80 : Nat) : Int) (0 : Int) = some (List.replicate (l.length + 80) 0) := by
    unfold repM
    rw [decide_eq_true (by omega), decide_eq_true (by rw [Int.toNat_natCast]; omega), decide_eq_true (by rw [Int.toNat_natCast]; omega), Int.toNat_natCast]
    rfl
  rw [hr, Option.bind_some]
  have hc : copyM (List.replicate (l.length + 80) 0) l = l ++ List.replicate 80 0 := by
    unfold copyM
    rw [List.length_replicate, List.take_of_length_le (by omega), List.drop_replicate, Nat.add_sub_cancel_left]
  rw [hc]
  exact roomy_l2 l (by omega) 80 0 n rfl (by omega)
theorem same_l2 (l : List Int) (hl : l.length ≤ 1000000000) : ∀ (d j k : Nat), j + d = l.length → d + 1 ≤ k → book_Same_rune_l2 l l k (j : Int) = some true
  | 0, j, k, hj, hk => by
    obtain ⟨k, rfl⟩ : ∃ i, k = i + 1 := ⟨k - 1, by omega⟩
    rw [book_Same_rune_l2, dF (by omega)]; rfl
  | d + 1, j, k, hj, hk => by
    obtain ⟨k, rfl⟩ : ∃ i, k = i + 1 := ⟨k - 1, by omega⟩
    have hlt : j < l.length := by omega
    rw [book_Same_rune_l2, dT (by omega), geti_nat, List.getElem?_eq_getElem hlt, Option.bind_some, Option.bind_some, dF (by simp), w64_succ (by omega)]
    exact same_l2 l hl d (j + 1) k (by omega) (by omega)
theorem intact_l3 (l : List Int) (hl : l.length ≤ 1000000) : ∀ (d j k : Nat), j + d = 80 → d + 1 ≤ k → book_Intact_rune_l3 (roomL l) (-7) k ((l.length + j : Nat) : Int) = some true
  | 0, j, k, hj, hk => by
    obtain ⟨k, rfl⟩ : ∃ i, k = i + 1 := ⟨k - 1, by omega⟩
    rw [book_Intact_rune_l3, dF (by simp [roomL]; omega)]; rfl
  | d + 1, j, k, hj, hk => by
    obtain ⟨k, rfl⟩ : ∃ i, k = i + 1 := ⟨k - 1, by omega⟩
    have g : geti (roomL l) ((l.length + j : Nat) : Int) = some (-7) := by
      rw [geti_nat, roomL, List.getElem?_append_right (by omega), Nat.add_sub_cancel_left, List.getElem?_replicate, if_pos (by omega)]
    rw [book_Intact_rune_l3, dT (by simp [roomL]; omega), g, Option.bind_some, dF (by simp), w64_succ (by omega)]
    exact intact_l3 l hl d (j + 1) k (by omega) (by omega)
theorem room_cut (l : List Int) : cutM (roomL l) 0 (l.length : Int) = some l := by
  have := cutM_mid [] l (List.replicate 80 (-7))
  simpa [roomL] using this
theorem intact_true (l : List Int) (hl : l.length ≤ 1000000) (hn : l.length + 100 ≤ n) : book_Intact_rune n (roomL l) l (-7) = some true := by
  unfold book_Intact_rune
  rw [w64_id (by omega), dF (by simp [roomL]), room_cut, Option.bind_some]
  have hs : book_Same_rune n l l = some true := by
    unfold book_Same_rune
    rw [dF (by simp)]
    exact same_l2 l (by omega) l.length 0 n (by omega) (by omega)
  rw [hs, Option.bind_some]
  unfold book_Intact_rune_k1
  rw [Bool.not_true, cond_false]
  exact intact_l3 l hl 80 0 n rfl (by omega)
theorem law4_MarkTokens_true {l : List Int} (_ : Ssl 4 (Sint .i32) l) : ∃ fuel, law4_MarkTokens fuel l = some true := by
  refine ⟨20000000 + 60, ?_⟩
  unfold law4_MarkTokens
  have h := few_runes (20000000 + 60) l 1500
  rw [show ((1500 : Nat) : Int) = 1500 from rfl] at h
  have hl : (l.take 1500).length ≤ 1500 := by rw [List.length_take]; omega
  rw [h, Option.bind_some]
  generalize l.take 1500 = l at hl ⊢
  obtain ⟨b, hv⟩ := valid_l2 l (by omega) l.length 0 (20000000 + 60) (by omega) (by omega)
  unfold keep_Valid
  rw [show ((0 : Nat) : Int) = 0 from rfl] at hv
  rw [hv, Option.bind_some]
  cases b with
  | false => rw [Bool.not_false, cond_true, known_true]; rfl
  | true =>
    have ht := tokS_len (l.length + 1) l
    have hok := tokS_ok (l.length + 1) l (by omega)
    rw [Bool.not_true, cond_false, roomy_eq l (by omega) (by omega), Option.bind_some, room_cut, Option.bind_some, mark_Tokens_eq _ (by omega) (by omega), Option.bind_some, ref_Tokens _ (by omega) (by omega), Option.bind_some]
    rw [tokens_true _ (fun t ht => ?_) (by omega) (by omega), Option.bind_some, cond_true, intact_true l (by omega) (by omega), Option.bind_some, cond_true, known_true]
    · rfl
    · have hal : t.Attrs.length ≤ 64 := by
        rcases hok t ht with ⟨_, _, _, h0, _⟩ | ⟨_, _, _, _, h0, _⟩
        · rw [h0]; simp
        · exact h0.1
      omega
end Go.Proofs.Ythmnohdlhlmmpaa
