/-
  Walks and laws of this seat; the base is the text Base.
-/
import Derived.Test.YthpokoghhfidpaaBase
import Derived.Test.YthpokoghhfidpaaRows
import Derived.Test.YthpokoghhfidpaaT1
import Derived.Test.YthpokoghhfidpaaC3
namespace Go.Proofs.Ythpokoghhfidpaa
open Go.RowKit Go.Sl

/-- Is a list that Roomy made as it was? -/
def intactB (full xs : List Int) (m : Int) : Bool := decide (full = xs ++ List.replicate 80 m)

theorem Intact_u8 {f : Fz} {v v2 : Value} {xs : List Int} {m : Int} (h1 : Rd f [] v 1 (bl (xs ++ List.replicate 80 m))) (h2 : Rd f [] v2 1 (bl xs)) (hm : xs.length ≤ 140737488355328) :
    Gives Try.prog 10 [v, v2, .int .u8 m] f (.bool true) := by
  intro w0 L w hC
  refine enter Try.func10 rfl Try.ntmps10 (by simp) hC fun a hs => ?_
  have hlen : (xs ++ List.replicate 80 m).length = xs.length + 80 := by simp
  refine W_seq fun K1 hK1 => ?_
  refine W_region ?_
  refine sy hs (y_assign rfl) ?_; clear hs; (try clear a w); intro a w hs
  refine RL_nil ?_
  refine hK1 _ _ ?_; clear hK1
  refine W_seq fun K2 hK2 => ?_
  refine W_seq fun K3 hK3 => ?_
  refine W_region ?_
  refine sy hs (y_move rfl) ?_; clear hs; (try clear a w); intro a w hs
  first | (refine sy hs (y_lenM rfl Try.underlying22) ?_; clear hs; (try clear a w); intro a w hs) | (refine sy hs (y_lenR rfl Try.underlying22) ?_; clear hs; (try clear a w); intro a w hs) | (refine sy hs (y_len rfl Try.underlying22) ?_; clear hs; (try clear a w); intro a w hs)
  refine sy hs (y_move rfl) ?_; clear hs; (try clear a w); intro a w hs
  first | (refine sy hs (y_lenM rfl Try.underlying22) ?_; clear hs; (try clear a w); intro a w hs) | (refine sy hs (y_lenR rfl Try.underlying22) ?_; clear hs; (try clear a w); intro a w hs) | (refine sy hs (y_len rfl Try.underlying22) ?_; clear hs; (try clear a w); intro a w hs)
  refine sy hs (y_add rfl rfl (wr_i64 (by omega))) ?_; clear hs; (try clear a w); intro a w hs
  refine sy hs (y_neq rfl rfl) ?_; clear hs; (try clear a w); intro a w hs
  refine sy hs (y_move rfl) ?_; clear hs; (try clear a w); intro a w hs
  first | refine St.splitP hs (t := 14) rfl (fun hne hq => ?_) (fun hne hq => ?_) | refine St.split hs (t := 14) rfl (fun hne hq => ?_) (fun hne hq => ?_)
  · clear hs; have hs := hq; clear hq
    exact absurd hne (by rw [hlen]; simp)
  · clear hs; have hs := hq; clear hq
    refine syg hs (y_move rfl) ?_; clear hs; (try clear a w); intro a w hs
    refine syg hs (y_move rfl) ?_; clear hs; (try clear a w); intro a w hs
    first | (refine syg hs (y_lenM rfl Try.underlying22) ?_; clear hs; (try clear a w); intro a w hs) | (refine syg hs (y_lenR rfl Try.underlying22) ?_; clear hs; (try clear a w); intro a w hs) | (refine syg hs (y_len rfl Try.underlying22) ?_; clear hs; (try clear a w); intro a w hs)
    refine syg hs (y_slice (lo := 0) (hi := xs.length) rfl Try.underlying22 ti5 (.inl ⟨rfl, rfl⟩) (.inr ⟨_, rfl, rfl⟩) (by omega) (by rw [List.length_map, hlen]; omega) h1) ?_; clear hs; (try clear a w); intro a w hs
    have h3 : Rd f [] (cutv v 1 0 xs.length) 1 (bl xs) := by
      have := h1.cut (lo := 0) (hi := xs.length) (by omega) (by rw [List.length_map, hlen]; omega)
      simpa [← List.map_take, List.take_append_of_le_length] using this
    have h4 := Same_u8 h3 h2 (by omega)
    rw [decide_eq_true rfl] at h4
    refine syg hs (y_move rfl) ?_; clear hs; (try clear a w); intro a w hs
    refine syg hs (y_call rfl has22 rfl h4) ?_; clear hs; (try clear a w); intro a w hs
    refine syg hs (y_not rfl) ?_; clear hs; (try clear a w); intro a w hs
    refine sy hs (y_pick rfl rfl) ?_; clear hs; (try clear a w); intro a w hs
    refine RL_nil ?_
    refine hK3 _ _ ?_; clear hK3
    refine W_condF hs rfl ?_
    refine W_skip ?_
    refine hK2 _ _ ?_; clear hK2
    refine W_seq fun K4 hK4 => ?_
    refine W_seq fun K5 hK5 => ?_
    refine W_region ?_
    refine sy hs (y_move rfl) ?_; clear hs; (try clear a w); intro a w hs
    first | (refine sy hs (y_lenM rfl Try.underlying22) ?_; clear hs; (try clear a w); intro a w hs) | (refine sy hs (y_lenR rfl Try.underlying22) ?_; clear hs; (try clear a w); intro a w hs) | (refine sy hs (y_len rfl Try.underlying22) ?_; clear hs; (try clear a w); intro a w hs)
    refine sy hs (y_assign rfl) ?_; clear hs; (try clear a w); intro a w hs
    refine RL_nil ?_
    refine hK5 _ _ ?_; clear hK5
    refine W_block fun Qe6 hB6 hO6 => ?_
    refine W_loop (fun (k : Nat) a w => k ≤ 80 ∧ St 37 w0 f L [(0, v), (1, v2), (2, .int .u8 m), (7, .int .i64 (xs.length + k : Nat))] a w) (fun k => 80 - k) 0 ⟨by omega, hs.sub ⟨rfl, rfl, rfl, rfl, trivial⟩⟩ ?_
    clear hs; rintro k a w ⟨hk, hs⟩ K hK
    refine W_seq fun K7 hK7 => ?_
    refine W_seq fun K8 hK8 => ?_
    refine W_region ?_
    refine sy hs (y_move rfl) ?_; clear hs; (try clear a w); intro a w hs
    refine sy hs (y_move rfl) ?_; clear hs; (try clear a w); intro a w hs
    first | (refine sy hs (y_lenM rfl Try.underlying22) ?_; clear hs; (try clear a w); intro a w hs) | (refine sy hs (y_lenR rfl Try.underlying22) ?_; clear hs; (try clear a w); intro a w hs) | (refine sy hs (y_len rfl Try.underlying22) ?_; clear hs; (try clear a w); intro a w hs)
    refine sy hs (y_lss rfl rfl) ?_; clear hs; (try clear a w); intro a w hs
    refine RL_nil ?_
    refine hK8 _ _ ?_; clear hK8
    first | refine W_condP hs rfl (fun hlt => ?_) (fun hlt => ?_) | refine W_cond hs rfl (fun hlt => ?_) (fun hlt => ?_)
    · have hx : (xs ++ List.replicate 80 m)[xs.length + k]? = some m := by
        rw [List.getElem?_append_right (by omega), List.getElem?_replicate, if_pos (by omega)]
      refine W_skip ?_
      refine hK7 _ _ ?_; clear hK7
      refine W_seq fun K9 hK9 => ?_
      refine W_block fun Qe10 hB10 hO10 => ?_
      refine W_seq fun K11 hK11 => ?_
      refine W_region ?_
      refine sy hs (y_move rfl) ?_; clear hs; (try clear a w); intro a w hs
      refine sy hs (y_move rfl) ?_; clear hs; (try clear a w); intro a w hs
      first | (refine sy hs (y_ix rfl rfl Try.underlying22 ti5 rfl) ?_; clear hs; (try clear a w); intro a w hs) | (refine sy hs (y_ix rfl rfl Try.underlying22 ti5 (ix_of (by omega))) ?_; clear hs; (try clear a w); intro a w hs)
      first | (refine sy hs (y_ld rfl Try.underlying5 rfl) ?_; clear hs; (try clear a w); intro a w hs) | (refine sy hs (y_ldE rfl Try.underlying5 rfl) ?_; clear hs; (try clear a w); intro a w hs)
      refine sy hs (y_move rfl) ?_; clear hs; (try clear a w); intro a w hs
      refine sy hs (y_neq rfl rfl) ?_; clear hs; (try clear a w); intro a w hs
      refine RL_nil ?_
      refine hK11 _ _ ?_; clear hK11
      first | refine W_condP hs rfl (fun hn => ?_) (fun hn => ?_) | refine W_cond hs rfl (fun hn => ?_) (fun hn => ?_)
      · exact absurd rfl hn
      · refine W_skip ?_
        refine hK9 _ _ ?_; clear hK9
        refine W_region ?_
        refine sy hs (y_move rfl) ?_; clear hs; (try clear a w); intro a w hs
        refine sy hs (y_add rfl rfl (wr_i64 (by omega))) ?_; clear hs; (try clear a w); intro a w hs
        refine sy hs (y_assign rfl) ?_; clear hs; (try clear a w); intro a w hs
        refine RL_nil ?_
        exact hK (k + 1) _ _ (by omega) ⟨by omega, hs.sub ⟨rfl, rfl, rfl, rfl, trivial⟩⟩
    · refine W_exit ?_
      refine hB6 _ _ ?_
      refine hK4 _ _ ?_; clear hK4
      refine W_seq fun K12 hK12 => ?_
      refine W_region ?_
      refine sy hs (y_assign rfl) ?_; clear hs; (try clear a w); intro a w hs
      refine RL_nil ?_
      refine hK12 _ _ ?_; clear hK12
      refine W_ret ?_
      refine Rt_1 hs rfl rfl ?_
      exact ⟨rfl, hs.cw⟩


theorem decGo_last {last : Int} (h : last ≠ 13) (rs : List Int) : decGo last rs = decGo 0 rs := by
  cases rs with
  | nil => rfl
  | cons r rs => simp [decGo, h]
theorem decGo_head {rs : List Int} (h : rs[0]? ≠ some 10) : decGo 13 rs = decGo 0 rs := by
  cases rs with
  | nil => rfl
  | cons r rs =>
    have : r ≠ 10 := fun e => h (by simp [e])
    simp [decGo, this]

theorem refDecode_ok {f : Fz} {v : Value} {xs : List Int} (h1 : Rd f [] v 1 (bl xs)) (hm : xs.length ≤ 65536) :
    Does Try.prog 13 [v] f [] (fun r f' L' => f' = f ∧ L' = [.row r 21 1 (rl (decGo 0 (runesIn (bytesOf xs))))]) := by
  intro w0 L w hC
  replace hC : Cw w0 f L w := hC
  have hb0 := runesIn_length (bytesOf xs)
  have hb1 : (bytesOf xs).size = xs.length := by simp [bytesOf, ByteArray.size]
  refine enter Try.func13 rfl Try.ntmps13 (by simp) hC fun a hs => ?_
  replace hs := hs.nilRow 21 1
  refine W_seq fun K1 hK1 => ?_
  refine W_region ?_
  refine sy hs (y_assign rfl) ?_; clear hs; (try clear a w); intro a w hs
  refine RL_nil ?_
  refine hK1 _ _ ?_; clear hK1
  refine W_seq fun K2 hK2 => ?_
  refine W_region ?_
  refine sy hs (y_assign rfl) ?_; clear hs; (try clear a w); intro a w hs
  refine RL_nil ?_
  refine hK2 _ _ ?_; clear hK2
  refine W_seq fun K3 hK3 => ?_
  refine W_seq fun K4 hK4 => ?_
  refine W_region ?_
  refine sy hs (y_move rfl) ?_; clear hs; (try clear a w); intro a w hs
  refine sy hs (y_b2s rfl Try.underlying22 Try.underlying5 Try.underlying9 h1.up) ?_; clear hs; (try clear a w); intro a w hs
  refine RL_range hs rfl Try.underlying9 ?_; clear hs; (try clear a w); intro bi a w hs
  refine RL_nil ?_
  refine hK4 _ _ ?_; clear hK4
  refine W_block fun Qe5 hB5 hO5 => ?_
  refine W_loop (fun (p : Nat) a w => ∃ out lv, out ++ runesAt (bytesOf xs) p = runesIn (bytesOf xs) ∧
    St 63 w0 f (.blk bi (.stringIter (bytesOf xs) p) :: .row lv 21 1 (rl out) :: L) [(3, lv), (10, .pointer (some ⟨bi, 0, none⟩))] a w)
    (fun p => (bytesOf xs).size - p) 0 ⟨[], _, by rw [runesAt_zero]; rfl, hs.sub ⟨rfl, rfl, trivial⟩⟩ ?_
  clear hs; rintro p a w ⟨out, lv, hd, hs⟩ K hK
  refine W_seq fun K6 hK6 => ?_
  refine W_region ?_
  refine RL_next (i := 0) hs rfl rfl (fun hp => ?_) (fun hp => ?_)
  · clear hs; (try clear a w); intro a w hs; simp only [List.set] at hs
    rw [runesAt_step hp] at hd
    have hwd := decode_width (bytesOf xs) p
    generalize ((Utf8.decode (bytesOf xs) p).1 : Int) = r at *
    generalize (Utf8.decode (bytesOf xs) p).2 = q at *
    have hlen := congrArg List.length hd
    simp only [List.length_append, List.length_cons] at hlen
    refine sy hs (y_extract rfl rfl) ?_; clear hs; (try clear a w); intro a w hs
    refine RL_nil ?_
    refine hK6 _ _ ?_; clear hK6
    refine W_seq fun K7 hK7 => ?_
    refine W_condT hs rfl ?_
    refine W_skip ?_
    refine hK7 _ _ ?_; clear hK7
    refine W_block fun Qe8 hB8 hO8 => ?_
    refine W_seq fun K9 hK9 => ?_
    refine W_region ?_
    refine sy hs (y_extract rfl rfl) ?_; clear hs; (try clear a w); intro a w hs
    refine sy hs (y_assign rfl) ?_; clear hs; (try clear a w); intro a w hs
    refine RL_nil ?_
    refine hK9 _ _ ?_; clear hK9
    refine W_region ?_
    refine sy hs (y_move rfl) ?_; clear hs; (try clear a w); intro a w hs
    refine sy hs (y_move rfl) ?_; clear hs; (try clear a w); intro a w hs
    refine RL_bs1s hs rfl Try.underlying24 ti21 rfl rfl ?_; clear hs; (try clear a w); intro tv a w hs
    refine RL_app1 1 hs rfl rfl rfl Try.underlying24 ti21 (by decide) (by simp; omega) ?_; clear hs; (try clear a w); intro v17 a w hs; simp only [List.set] at hs
    refine sy hs (y_assign rfl) ?_; clear hs; (try clear a w); intro a w hs
    refine RL_nil ?_
    rw [map_snoc (fun x => [Value.int .i32 x])] at hs
    exact hK (p + q) _ _ (by omega) ⟨out ++ [r], _, by rw [← hd]; simp, hs.sub ⟨rfl, rfl, trivial⟩⟩
  · clear hs; (try clear a w); intro a w hs
    rw [runesAt_end hp, List.append_nil] at hd
    subst hd
    replace hs := hs.tail.nilRow 21 1
    refine sy hs (y_extract rfl rfl) ?_; clear hs; (try clear a w); intro a w hs
    refine RL_nil ?_
    refine hK6 _ _ ?_; clear hK6
    refine W_seq fun K10 hK10 => ?_
    refine W_condF hs rfl ?_
    refine W_exit ?_
    refine hB5 _ _ ?_
    refine hK3 _ _ ?_; clear hK3
    refine W_seq fun K11 hK11 => ?_
    refine W_region ?_
    refine sy hs (y_assign rfl) ?_; clear hs; (try clear a w); intro a w hs
    refine RL_nil ?_
    refine hK11 _ _ ?_; clear hK11
    refine W_seq fun K12 hK12 => ?_
    refine W_seq fun K13 hK13 => ?_
    refine W_region ?_
    refine sy hs (y_assign rfl) ?_; clear hs; (try clear a w); intro a w hs
    refine RL_nil ?_
    refine hK13 _ _ ?_; clear hK13
    refine W_block fun Qe14 hB14 hO14 => ?_
    generalize hraw : runesIn (bytesOf xs) = raw at *
    refine W_loop (fun (k : Nat) a w => ∃ out lo, k ≤ raw.length ∧ out ++ decGo 0 (raw.drop k) = decGo 0 raw ∧ out.length ≤ k ∧
      St 63 w0 f (.row lo 21 1 (rl out) :: .row lv 21 1 (rl raw) :: L) [(3, lv), (6, lo), (7, .int .i64 k)] a w)
      (fun k => raw.length - k) 0 ⟨[], _, by omega, rfl, by simp, hs.sub ⟨rfl, rfl, rfl, trivial⟩⟩ ?_
    clear hs; rintro k a w ⟨out, lo, hk, hd, hlen, hs⟩ K hK
    refine W_seq fun K15 hK15 => ?_
    refine W_seq fun K16 hK16 => ?_
    refine W_region ?_
    refine sy hs (y_move rfl) ?_; clear hs; (try clear a w); intro a w hs
    refine sy hs (y_move rfl) ?_; clear hs; (try clear a w); intro a w hs
    first | (refine sy hs (y_lenM rfl Try.underlying24) ?_; clear hs; (try clear a w); intro a w hs) | (refine sy hs (y_lenR rfl Try.underlying24) ?_; clear hs; (try clear a w); intro a w hs) | (refine sy hs (y_len rfl Try.underlying24) ?_; clear hs; (try clear a w); intro a w hs)
    refine sy hs (y_lss rfl rfl) ?_; clear hs; (try clear a w); intro a w hs
    refine RL_nil ?_
    refine hK16 _ _ ?_; clear hK16
    first | refine W_condP hs rfl (fun hlt => ?_) (fun hlt => ?_) | refine W_cond hs rfl (fun hlt => ?_) (fun hlt => ?_)
    · obtain ⟨r, hr⟩ : ∃ x, raw[k]? = some x := ⟨_, List.getElem?_eq_getElem (by omega)⟩
      have hdrop : raw.drop k = r :: raw.drop (k + 1) := by
        rw [List.drop_eq_getElem_cons (by omega)]
        congr 1
        have := List.getElem?_eq_getElem (l := raw) (i := k) (by omega)
        rw [hr] at this; simpa using this.symm
      have hR := Rd.st hs (.tail _ (.head _))
      rw [hdrop] at hd
      refine W_skip ?_
      refine hK15 _ _ ?_; clear hK15
      refine W_seq fun K17 hK17 => ?_
      refine W_block fun Qe18 hB18 hO18 => ?_
      refine W_seq fun K19 hK19 => ?_
      refine W_seq fun K20 hK20 => ?_
      refine W_region ?_
      refine sy hs (y_move rfl) ?_; clear hs; (try clear a w); intro a w hs
      refine sy hs (y_move rfl) ?_; clear hs; (try clear a w); intro a w hs
      first | (refine sy hs (y_ix rfl rfl Try.underlying24 ti21 rfl) ?_; clear hs; (try clear a w); intro a w hs) | (refine sy hs (y_ix rfl rfl Try.underlying24 ti21 (ix_of (by omega))) ?_; clear hs; (try clear a w); intro a w hs)
      first | (refine sy hs (y_ld rfl Try.underlying21 rfl) ?_; clear hs; (try clear a w); intro a w hs) | (refine sy hs (y_ldE rfl Try.underlying21 rfl) ?_; clear hs; (try clear a w); intro a w hs)
      refine sy hs (y_eql rfl rfl) ?_; clear hs; (try clear a w); intro a w hs
      refine RL_nil ?_
      refine hK20 _ _ ?_; clear hK20
      first | refine W_condP hs rfl (fun h13 => ?_) (fun h13 => ?_) | refine W_cond hs rfl (fun h13 => ?_) (fun h13 => ?_)
      · subst h13
        refine W_seq fun K21 hK21 => ?_
        refine W_region ?_
        refine sy hs (y_move rfl) ?_; clear hs; (try clear a w); intro a w hs
        refine RL_bs1s hs rfl Try.underlying24 ti21 rfl rfl ?_; clear hs; (try clear a w); intro tv a w hs
        refine RL_app1 0 hs rfl rfl rfl Try.underlying24 ti21 (by decide) (by simp; omega) ?_; clear hs; (try clear a w); intro v31 a w hs; simp only [List.set] at hs
        have hR := Rd.st hs (.tail _ (.head _))
        refine sy hs (y_assign rfl) ?_; clear hs; (try clear a w); intro a w hs
        refine RL_nil ?_
        refine hK21 _ _ ?_; clear hK21
        refine W_seq fun K22 hK22 => ?_
        refine W_seq fun K23 hK23 => ?_
        refine W_region ?_
        refine sy hs (y_move rfl) ?_; clear hs; (try clear a w); intro a w hs
        refine sy hs (y_add rfl rfl (wr_i64 (by omega))) ?_; clear hs; (try clear a w); intro a w hs
        refine sy hs (y_move rfl) ?_; clear hs; (try clear a w); intro a w hs
        first | (refine sy hs (y_lenM rfl Try.underlying24) ?_; clear hs; (try clear a w); intro a w hs) | (refine sy hs (y_lenR rfl Try.underlying24) ?_; clear hs; (try clear a w); intro a w hs) | (refine sy hs (y_len rfl Try.underlying24) ?_; clear hs; (try clear a w); intro a w hs)
        refine sy hs (y_lss rfl rfl) ?_; clear hs; (try clear a w); intro a w hs
        refine sy hs (y_move rfl) ?_; clear hs; (try clear a w); intro a w hs
        first | refine St.splitP hs (t := 37) rfl (fun hnx hq => ?_) (fun hnx hq => ?_) | refine St.split hs (t := 37) rfl (fun hnx hq => ?_) (fun hnx hq => ?_)
        · clear hs; have hs := hq; clear hq
          obtain ⟨q, hq⟩ : ∃ x, raw[k + 1]? = some x := ⟨_, List.getElem?_eq_getElem (by omega)⟩
          have hdrop2 : raw.drop (k + 1) = q :: raw.drop (k + 2) := by
            rw [List.drop_eq_getElem_cons (by omega)]
            congr 1
            have := List.getElem?_eq_getElem (l := raw) (i := k + 1) (by omega)
            rw [hq] at this; simpa using this.symm
          refine syg hs (y_move rfl) ?_; clear hs; (try clear a w); intro a w hs
          refine syg hs (y_move rfl) ?_; clear hs; (try clear a w); intro a w hs
          refine syg hs (y_add rfl rfl (wr_i64 (by omega))) ?_; clear hs; (try clear a w); intro a w hs
          first | (refine syg hs (y_ix rfl rfl Try.underlying24 ti21 rfl) ?_; clear hs; (try clear a w); intro a w hs) | (refine syg hs (y_ix rfl rfl Try.underlying24 ti21 (ix_of (by omega))) ?_; clear hs; (try clear a w); intro a w hs)
          first | (refine syg hs (y_ld rfl Try.underlying21 rfl) ?_; clear hs; (try clear a w); intro a w hs) | (refine syg hs (y_ldE rfl Try.underlying21 rfl) ?_; clear hs; (try clear a w); intro a w hs)
          refine syg hs (y_eql rfl rfl) ?_; clear hs; (try clear a w); intro a w hs
          refine sy hs (y_pick rfl rfl) ?_; clear hs; (try clear a w); intro a w hs
          refine RL_nil ?_
          refine hK23 _ _ ?_; clear hK23
          first | refine W_condP hs rfl (fun hq10 => ?_) (fun hq10 => ?_) | refine W_cond hs rfl (fun hq10 => ?_) (fun hq10 => ?_)
          · refine W_region ?_
            refine sy hs (y_move rfl) ?_; clear hs; (try clear a w); intro a w hs
            refine sy hs (y_add rfl rfl (wr_i64 (by omega))) ?_; clear hs; (try clear a w); intro a w hs
            refine sy hs (y_assign rfl) ?_; clear hs; (try clear a w); intro a w hs
            refine RL_nil ?_
            refine hK22 _ _ ?_; clear hK22
            refine W_exit ?_
            refine hB18 _ _ ?_
            refine hK17 _ _ ?_; clear hK17
            refine W_region ?_
            refine sy hs (y_move rfl) ?_; clear hs; (try clear a w); intro a w hs
            refine sy hs (y_add rfl rfl (wr_i64 (by omega))) ?_; clear hs; (try clear a w); intro a w hs
            refine sy hs (y_assign rfl) ?_; clear hs; (try clear a w); intro a w hs
            refine RL_nil ?_
            subst hq10
            rw [map_snoc (fun x => [Value.int .i32 x])] at hs
            exact hK (k + 2) _ _ (by omega) ⟨out ++ [10], _, by omega, by rw [← hd, hdrop2]; simp [decGo, decGo_last (last := 10)], by simp; omega, hs.sub ⟨rfl, rfl, rfl, trivial⟩⟩
          · refine W_skip ?_
            refine hK22 _ _ ?_; clear hK22
            refine W_exit ?_
            refine hB18 _ _ ?_
            refine hK17 _ _ ?_; clear hK17
            refine W_region ?_
            refine sy hs (y_move rfl) ?_; clear hs; (try clear a w); intro a w hs
            refine sy hs (y_add rfl rfl (wr_i64 (by omega))) ?_; clear hs; (try clear a w); intro a w hs
            refine sy hs (y_assign rfl) ?_; clear hs; (try clear a w); intro a w hs
            refine RL_nil ?_
            rw [map_snoc (fun x => [Value.int .i32 x])] at hs
            have h2 : (raw.drop (k + 1))[0]? ≠ some 10 := by rw [hdrop2]; simpa using hq10
            exact hK (k + 1) _ _ (by omega) ⟨out ++ [10], _, by omega, by rw [← hd, decGo, decGo_head h2]; simp, by simp; omega, hs.sub ⟨rfl, rfl, rfl, trivial⟩⟩
        · clear hs; have hs := hq; clear hq
          refine sno hs ?_; clear hs; (try clear a w); intro a w hs
          refine sno hs ?_; clear hs; (try clear a w); intro a w hs
          refine sno hs ?_; clear hs; (try clear a w); intro a w hs
          refine sno hs ?_; clear hs; (try clear a w); intro a w hs
          refine sno hs ?_; clear hs; (try clear a w); intro a w hs
          refine sno hs ?_; clear hs; (try clear a w); intro a w hs
          refine sy hs (y_pick rfl rfl) ?_; clear hs; (try clear a w); intro a w hs
          refine RL_nil ?_
          refine hK23 _ _ ?_; clear hK23
          refine W_condF hs rfl ?_
          refine W_skip ?_
          refine hK22 _ _ ?_; clear hK22
          refine W_exit ?_
          refine hB18 _ _ ?_
          refine hK17 _ _ ?_; clear hK17
          refine W_region ?_
          refine sy hs (y_move rfl) ?_; clear hs; (try clear a w); intro a w hs
          refine sy hs (y_add rfl rfl (wr_i64 (by omega))) ?_; clear hs; (try clear a w); intro a w hs
          refine sy hs (y_assign rfl) ?_; clear hs; (try clear a w); intro a w hs
          refine RL_nil ?_
          rw [map_snoc (fun x => [Value.int .i32 x])] at hs
          have h2 : (raw.drop (k + 1))[0]? ≠ some 10 := by rw [List.drop_of_length_le (by omega)]; simp
          exact hK (k + 1) _ _ (by omega) ⟨out ++ [10], _, by omega, by rw [← hd, decGo, decGo_head h2]; simp, by simp; omega, hs.sub ⟨rfl, rfl, rfl, trivial⟩⟩
      · refine W_skip ?_
        refine hK19 _ _ ?_; clear hK19
        refine W_seq fun K24 hK24 => ?_
        refine W_seq fun K25 hK25 => ?_
        refine W_region ?_
        refine sy hs (y_move rfl) ?_; clear hs; (try clear a w); intro a w hs
        refine sy hs (y_move rfl) ?_; clear hs; (try clear a w); intro a w hs
        first | (refine sy hs (y_ix rfl rfl Try.underlying24 ti21 rfl) ?_; clear hs; (try clear a w); intro a w hs) | (refine sy hs (y_ix rfl rfl Try.underlying24 ti21 (ix_of (by omega))) ?_; clear hs; (try clear a w); intro a w hs)
        first | (refine sy hs (y_ld rfl Try.underlying21 rfl) ?_; clear hs; (try clear a w); intro a w hs) | (refine sy hs (y_ldE rfl Try.underlying21 rfl) ?_; clear hs; (try clear a w); intro a w hs)
        refine sy hs (y_eql rfl rfl) ?_; clear hs; (try clear a w); intro a w hs
        refine RL_nil ?_
        refine hK25 _ _ ?_; clear hK25
        first | refine W_condP hs rfl (fun h0 => ?_) (fun h0 => ?_) | refine W_cond hs rfl (fun h0 => ?_) (fun h0 => ?_)
        · refine W_seq fun K26 hK26 => ?_
          refine W_region ?_
          refine sy hs (y_move rfl) ?_; clear hs; (try clear a w); intro a w hs
          refine RL_bs1s hs rfl Try.underlying24 ti21 rfl rfl ?_; clear hs; (try clear a w); intro tv a w hs
          refine RL_app1 0 hs rfl rfl rfl Try.underlying24 ti21 (by decide) (by simp; omega) ?_; clear hs; (try clear a w); intro v54 a w hs; simp only [List.set] at hs
          refine sy hs (y_assign rfl) ?_; clear hs; (try clear a w); intro a w hs
          refine RL_nil ?_
          refine hK26 _ _ ?_; clear hK26
          refine W_exit ?_
          refine hB18 _ _ ?_
          refine hK17 _ _ ?_; clear hK17
          refine W_region ?_
          refine sy hs (y_move rfl) ?_; clear hs; (try clear a w); intro a w hs
          refine sy hs (y_add rfl rfl (wr_i64 (by omega))) ?_; clear hs; (try clear a w); intro a w hs
          refine sy hs (y_assign rfl) ?_; clear hs; (try clear a w); intro a w hs
          refine RL_nil ?_
          rw [map_snoc (fun x => [Value.int .i32 x])] at hs
          exact hK (k + 1) _ _ (by omega) ⟨out ++ [65533], _, by omega, by rw [← hd, decGo, decGo_last h13]; simp [h0], by simp; omega, hs.sub ⟨rfl, rfl, rfl, trivial⟩⟩
        · refine W_skip ?_
          refine hK24 _ _ ?_; clear hK24
          refine W_region ?_
          refine sy hs (y_move rfl) ?_; clear hs; (try clear a w); intro a w hs
          refine sy hs (y_move rfl) ?_; clear hs; (try clear a w); intro a w hs
          refine sy hs (y_move rfl) ?_; clear hs; (try clear a w); intro a w hs
          first | (refine sy hs (y_ix rfl rfl Try.underlying24 ti21 rfl) ?_; clear hs; (try clear a w); intro a w hs) | (refine sy hs (y_ix rfl rfl Try.underlying24 ti21 (ix_of (by omega))) ?_; clear hs; (try clear a w); intro a w hs)
          first | (refine sy hs (y_ld rfl Try.underlying21 rfl) ?_; clear hs; (try clear a w); intro a w hs) | (refine sy hs (y_ldE rfl Try.underlying21 rfl) ?_; clear hs; (try clear a w); intro a w hs)
          refine RL_bs1s hs rfl Try.underlying24 ti21 rfl rfl ?_; clear hs; (try clear a w); intro tv a w hs
          refine RL_app1 0 hs rfl rfl rfl Try.underlying24 ti21 (by decide) (by simp; omega) ?_; clear hs; (try clear a w); intro v61 a w hs; simp only [List.set] at hs
          refine sy hs (y_assign rfl) ?_; clear hs; (try clear a w); intro a w hs
          refine RL_nil ?_
          refine hK17 _ _ ?_; clear hK17
          refine W_region ?_
          refine sy hs (y_move rfl) ?_; clear hs; (try clear a w); intro a w hs
          refine sy hs (y_add rfl rfl (wr_i64 (by omega))) ?_; clear hs; (try clear a w); intro a w hs
          refine sy hs (y_assign rfl) ?_; clear hs; (try clear a w); intro a w hs
          refine RL_nil ?_
          rw [map_snoc (fun x => [Value.int .i32 x])] at hs
          exact hK (k + 1) _ _ (by omega) ⟨out ++ [r], _, by omega, by rw [← hd, decGo, decGo_last h13]; simp [h0, h13], by simp; omega, hs.sub ⟨rfl, rfl, rfl, trivial⟩⟩
    · refine W_exit ?_
      refine hB14 _ _ ?_
      refine hK12 _ _ ?_; clear hK12
      refine W_seq fun K27 hK27 => ?_
      refine W_region ?_
      refine sy hs (y_move rfl) ?_; clear hs; (try clear a w); intro a w hs
      refine sy hs (y_assign rfl) ?_; clear hs; (try clear a w); intro a w hs
      refine RL_nil ?_
      refine hK27 _ _ ?_; clear hK27
      refine W_ret ?_
      refine Rt_1 hs rfl rfl ?_
      obtain rfl : k = raw.length := by omega
      rw [List.drop_length, decGo, List.append_nil] at hd
      exact ⟨_, f, [.row lo 21 1 (rl out)], rfl, .refl f, (hs.erase 1).cw, rfl, by rw [hd]⟩

