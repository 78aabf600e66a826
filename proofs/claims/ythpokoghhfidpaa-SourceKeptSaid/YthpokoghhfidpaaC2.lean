/-
  Walks and laws of this seat; the base is the text Base.
-/
import Derived.Test.YthpokoghhfidpaaBase
import Derived.Test.YthpokoghhfidpaaRows
import Derived.Test.YthpokoghhfidpaaT1
namespace Go.Proofs.Ythpokoghhfidpaa
open Go.RowKit Go.Sl

abbrev rl (xs : List Int) : List (List Value) := xs.map fun x => [.int .i32 x]

/-- Runes: 13 10 and 13 become 10, 0 becomes what is bad. -/
def decGo : Int → List Int → List Int
  | _, [] => []
  | last, r :: rs => (if r = 10 ∧ last = 13 then [] else if r = 13 then [10] else if r = 0 then [65533] else [r]) ++ decGo r rs

theorem decGo_le : ∀ (rs : List Int) (last : Int), (decGo last rs).length ≤ rs.length
  | [], _ => by simp [decGo]
  | r :: rs, last => by
    have := decGo_le rs r
    simp only [decGo, List.length_append, List.length_cons]
    split
    · simp; omega
    · split
      · simp; omega
      · split <;> simp <;> omega

theorem Decode_ok {f : Fz} {v : Value} {xs : List Int} (h1 : Rd f [] v 1 (xs.map fun x => [.int .u8 x])) (hm : xs.length ≤ 65536) :
    Does Try.prog 9 [v] f [] (fun r f' L' => ∃ lv, r = .tuple #[lv, .int .i64 0] ∧ f' = f ∧ L' = [.row lv 21 1 (rl (decGo 0 (runesIn (bytesOf xs))))]) := by
  intro w0 L w hC
  replace hC : Cw w0 f L w := hC
  refine enter Try.func9 rfl Try.ntmps9 (by simp) hC fun a hs => ?_
  refine W_seq fun K1 hK1 => ?_
  refine W_region ?_
  refine sy hs (y_assign rfl) ?_; clear hs; (try clear a w); intro a w hs
  refine sy hs (y_assign rfl) ?_; clear hs; (try clear a w); intro a w hs
  refine RL_nil ?_
  refine hK1 _ _ ?_; clear hK1
  refine W_seq fun K2 hK2 => ?_
  refine W_seq fun K3 hK3 => ?_
  refine W_region ?_
  refine sy hs (y_move rfl) ?_; clear hs; (try clear a w); intro a w hs
  first | (refine sy hs (y_lenM rfl Try.underlying22) ?_; clear hs; (try clear a w); intro a w hs) | (refine sy hs (y_lenR rfl Try.underlying22) ?_; clear hs; (try clear a w); intro a w hs) | (refine sy hs (y_len rfl Try.underlying22) ?_; clear hs; (try clear a w); intro a w hs)
  refine sy hs (y_gtr rfl rfl) ?_; clear hs; (try clear a w); intro a w hs
  refine RL_nil ?_
  refine hK3 _ _ ?_; clear hK3
  first | refine W_condP hs rfl (fun hc => ?_) (fun hc => ?_) | refine W_cond hs rfl (fun hc => ?_) (fun hc => ?_)
  · exact absurd hc (by omega)
  · replace hs := hs.nilRow 21 1
    refine W_skip ?_
    refine hK2 _ _ ?_; clear hK2
    refine W_seq fun K4 hK4 => ?_
    refine W_region ?_
    refine sy hs (y_assign rfl) ?_; clear hs; (try clear a w); intro a w hs
    refine RL_nil ?_
    refine hK4 _ _ ?_; clear hK4
    refine W_seq fun K5 hK5 => ?_
    refine W_region ?_
    refine sy hs (y_assign rfl) ?_; clear hs; (try clear a w); intro a w hs
    refine RL_nil ?_
    refine hK5 _ _ ?_; clear hK5
    refine W_seq fun K6 hK6 => ?_
    refine W_seq fun K7 hK7 => ?_
    refine W_region ?_
    refine sy hs (y_move rfl) ?_; clear hs; (try clear a w); intro a w hs
    refine sy hs (y_b2s rfl Try.underlying22 Try.underlying5 Try.underlying9 h1.up) ?_; clear hs; (try clear a w); intro a w hs
    have hb0 := runesIn_length (bytesOf xs)
    have hb1 : (bytesOf xs).size = xs.length := by simp [bytesOf, ByteArray.size]
    refine RL_range hs rfl Try.underlying9 ?_; clear hs; (try clear a w); intro bi a w hs
    refine RL_nil ?_
    refine hK7 _ _ ?_; clear hK7
    refine W_block fun Qe8 hB8 hO8 => ?_
    refine W_loop (fun (p : Nat) a w => ∃ out last lv, out ++ decGo last (runesAt (bytesOf xs) p) = decGo 0 (runesIn (bytesOf xs)) ∧ out.length + (runesAt (bytesOf xs) p).length ≤ xs.length ∧
      St 42 w0 f (.blk bi (.stringIter (bytesOf xs) p) :: .row lv 21 1 (rl out) :: L) [(4, lv), (5, .int .i32 last), (13, .pointer (some ⟨bi, 0, none⟩))] a w)
      (fun p => (bytesOf xs).size - p) 0 ⟨[], 0, _, by rw [runesAt_zero]; rfl, by rw [runesAt_zero]; simp; omega, hs.sub ⟨rfl, rfl, rfl, trivial⟩⟩ ?_
    clear hs; rintro p a w ⟨out, last, lv, hd, hlen, hs⟩ K hK
    refine W_seq fun K9 hK9 => ?_
    refine W_region ?_
    refine RL_next (i := 0) hs rfl rfl (fun hp => ?_) (fun hp => ?_)
    · clear hs; (try clear a w); intro a w hs; simp only [List.set] at hs
      rw [runesAt_step hp] at hd hlen
      have hwd := decode_width (bytesOf xs) p
      generalize ((Utf8.decode (bytesOf xs) p).1 : Int) = r at *
      generalize (Utf8.decode (bytesOf xs) p).2 = q at *
      simp only [decGo, List.length_cons] at hd hlen
      refine sy hs (y_extract rfl rfl) ?_; clear hs; (try clear a w); intro a w hs
      refine RL_nil ?_
      refine hK9 _ _ ?_; clear hK9
      refine W_seq fun K10 hK10 => ?_
      refine W_condT hs rfl ?_
      refine W_skip ?_
      refine hK10 _ _ ?_; clear hK10
      refine W_block fun Qe11 hB11 hO11 => ?_
      refine W_seq fun K12 hK12 => ?_
      refine W_region ?_
      refine sy hs (y_extract rfl rfl) ?_; clear hs; (try clear a w); intro a w hs
      refine sy hs (y_assign rfl) ?_; clear hs; (try clear a w); intro a w hs
      refine RL_nil ?_
      refine hK12 _ _ ?_; clear hK12
      refine W_seq fun K13 hK13 => ?_
      refine W_block fun Qe14 hB14 hO14 => ?_
      refine W_seq fun K15 hK15 => ?_
      refine W_region ?_
      refine sy hs (y_move rfl) ?_; clear hs; (try clear a w); intro a w hs
      refine sy hs (y_eql rfl rfl) ?_; clear hs; (try clear a w); intro a w hs
      refine sy hs (y_move rfl) ?_; clear hs; (try clear a w); intro a w hs
      first | refine St.splitP hs (t := 24) rfl (fun h10 hq => ?_) (fun h10 hq => ?_) | refine St.split hs (t := 24) rfl (fun h10 hq => ?_) (fun h10 hq => ?_)
      · clear hs; have hs := hq; clear hq
        refine syg hs (y_move rfl) ?_; clear hs; (try clear a w); intro a w hs
        refine syg hs (y_eql rfl rfl) ?_; clear hs; (try clear a w); intro a w hs
        refine sy hs (y_pick rfl rfl) ?_; clear hs; (try clear a w); intro a w hs
        refine sy hs (y_assign rfl) ?_; clear hs; (try clear a w); intro a w hs
        refine RL_nil ?_
        refine hK15 _ _ ?_; clear hK15
        first | refine W_condP hs rfl (fun h13 => ?_) (fun h13 => ?_) | refine W_cond hs rfl (fun h13 => ?_) (fun h13 => ?_)
        · refine W_skip ?_
          refine hK13 _ _ ?_; clear hK13
          refine W_region ?_
          refine sy hs (y_move rfl) ?_; clear hs; (try clear a w); intro a w hs
          refine sy hs (y_assign rfl) ?_; clear hs; (try clear a w); intro a w hs
          refine RL_nil ?_
          exact hK (p + q) _ _ (by omega) ⟨out, r, _, by rw [← hd]; simp [h10, h13], by omega, hs.sub ⟨rfl, rfl, rfl, trivial⟩⟩
        · refine W_seq fun K16 hK16 => ?_
          refine W_region ?_
          refine sy hs (y_move rfl) ?_; clear hs; (try clear a w); intro a w hs
          refine sy hs (y_eql rfl rfl) ?_; clear hs; (try clear a w); intro a w hs
          refine sy hs (y_assign rfl) ?_; clear hs; (try clear a w); intro a w hs
          refine RL_nil ?_
          refine hK16 _ _ ?_; clear hK16
          first | refine W_condP hs rfl (fun hr => ?_) (fun hr => ?_) | refine W_cond hs rfl (fun hr => ?_) (fun hr => ?_)
          · exact absurd hr (by omega)
          · refine W_seq fun K17 hK17 => ?_
            refine W_region ?_
            refine sy hs (y_move rfl) ?_; clear hs; (try clear a w); intro a w hs
            refine sy hs (y_eql rfl rfl) ?_; clear hs; (try clear a w); intro a w hs
            refine sy hs (y_assign rfl) ?_; clear hs; (try clear a w); intro a w hs
            refine RL_nil ?_
            refine hK17 _ _ ?_; clear hK17
            first | refine W_condP hs rfl (fun hz => ?_) (fun hz => ?_) | refine W_cond hs rfl (fun hz => ?_) (fun hz => ?_)
            · exact absurd hz (by omega)
            · refine W_region ?_
              refine sy hs (y_move rfl) ?_; clear hs; (try clear a w); intro a w hs
              refine sy hs (y_move rfl) ?_; clear hs; (try clear a w); intro a w hs
              refine RL_bs1s hs rfl Try.underlying24 ti21 rfl rfl ?_; clear hs; (try clear a w); intro tv a w hs
              refine RL_app1 1 hs rfl rfl rfl Try.underlying24 ti21 (by decide) (by simp; omega) ?_; clear hs; (try clear a w); intro v20 a w hs; simp only [List.set] at hs
              refine sy hs (y_assign rfl) ?_; clear hs; (try clear a w); intro a w hs
              refine RL_nil ?_
              refine hK13 _ _ ?_; clear hK13
              refine W_region ?_
              refine sy hs (y_move rfl) ?_; clear hs; (try clear a w); intro a w hs
              refine sy hs (y_assign rfl) ?_; clear hs; (try clear a w); intro a w hs
              refine RL_nil ?_
              rw [map_snoc (fun x => [Value.int .i32 x])] at hs
              exact hK (p + q) _ _ (by omega) ⟨out ++ [r], r, _, by rw [← hd]; simp [h10, h13], by simp; omega, hs.sub ⟨rfl, rfl, rfl, trivial⟩⟩
      · clear hs; have hs := hq; clear hq
        refine sno hs ?_; clear hs; (try clear a w); intro a w hs
        refine sno hs ?_; clear hs; (try clear a w); intro a w hs
        refine sy hs (y_pick rfl rfl) ?_; clear hs; (try clear a w); intro a w hs
        refine sy hs (y_assign rfl) ?_; clear hs; (try clear a w); intro a w hs
        refine RL_nil ?_
        refine hK15 _ _ ?_; clear hK15
        refine W_condF hs rfl ?_
        refine W_seq fun K18 hK18 => ?_
        refine W_region ?_
        refine sy hs (y_move rfl) ?_; clear hs; (try clear a w); intro a w hs
        refine sy hs (y_eql rfl rfl) ?_; clear hs; (try clear a w); intro a w hs
        refine sy hs (y_assign rfl) ?_; clear hs; (try clear a w); intro a w hs
        refine RL_nil ?_
        refine hK18 _ _ ?_; clear hK18
        first | refine W_condP hs rfl (fun hr => ?_) (fun hr => ?_) | refine W_cond hs rfl (fun hr => ?_) (fun hr => ?_)
        · refine W_region ?_
          refine sy hs (y_move rfl) ?_; clear hs; (try clear a w); intro a w hs
          refine RL_bs1s hs rfl Try.underlying24 ti21 rfl rfl ?_; clear hs; (try clear a w); intro tv a w hs
          refine RL_app1 1 hs rfl rfl rfl Try.underlying24 ti21 (by decide) (by simp; omega) ?_; clear hs; (try clear a w); intro v33 a w hs; simp only [List.set] at hs
          refine sy hs (y_assign rfl) ?_; clear hs; (try clear a w); intro a w hs
          refine RL_nil ?_
          refine hK13 _ _ ?_; clear hK13
          refine W_region ?_
          refine sy hs (y_move rfl) ?_; clear hs; (try clear a w); intro a w hs
          refine sy hs (y_assign rfl) ?_; clear hs; (try clear a w); intro a w hs
          refine RL_nil ?_
          rw [map_snoc (fun x => [Value.int .i32 x])] at hs
          exact hK (p + q) _ _ (by omega) ⟨out ++ [10], r, _, by rw [← hd]; simp [hr], by simp; omega, hs.sub ⟨rfl, rfl, rfl, trivial⟩⟩
        · refine W_seq fun K19 hK19 => ?_
          refine W_region ?_
          refine sy hs (y_move rfl) ?_; clear hs; (try clear a w); intro a w hs
          refine sy hs (y_eql rfl rfl) ?_; clear hs; (try clear a w); intro a w hs
          refine sy hs (y_assign rfl) ?_; clear hs; (try clear a w); intro a w hs
          refine RL_nil ?_
          refine hK19 _ _ ?_; clear hK19
          first | refine W_condP hs rfl (fun hz => ?_) (fun hz => ?_) | refine W_cond hs rfl (fun hz => ?_) (fun hz => ?_)
          · refine W_region ?_
            refine sy hs (y_move rfl) ?_; clear hs; (try clear a w); intro a w hs
            refine RL_bs1s hs rfl Try.underlying24 ti21 rfl rfl ?_; clear hs; (try clear a w); intro tv a w hs
            refine RL_app1 1 hs rfl rfl rfl Try.underlying24 ti21 (by decide) (by simp; omega) ?_; clear hs; (try clear a w); intro v39 a w hs; simp only [List.set] at hs
            refine sy hs (y_assign rfl) ?_; clear hs; (try clear a w); intro a w hs
            refine RL_nil ?_
            refine hK13 _ _ ?_; clear hK13
            refine W_region ?_
            refine sy hs (y_move rfl) ?_; clear hs; (try clear a w); intro a w hs
            refine sy hs (y_assign rfl) ?_; clear hs; (try clear a w); intro a w hs
            refine RL_nil ?_
            rw [map_snoc (fun x => [Value.int .i32 x])] at hs
            exact hK (p + q) _ _ (by omega) ⟨out ++ [65533], r, _, by rw [← hd]; simp [hz], by simp; omega, hs.sub ⟨rfl, rfl, rfl, trivial⟩⟩
          · refine W_region ?_
            refine sy hs (y_move rfl) ?_; clear hs; (try clear a w); intro a w hs
            refine sy hs (y_move rfl) ?_; clear hs; (try clear a w); intro a w hs
            refine RL_bs1s hs rfl Try.underlying24 ti21 rfl rfl ?_; clear hs; (try clear a w); intro tv a w hs
            refine RL_app1 1 hs rfl rfl rfl Try.underlying24 ti21 (by decide) (by simp; omega) ?_; clear hs; (try clear a w); intro v20 a w hs; simp only [List.set] at hs
            refine sy hs (y_assign rfl) ?_; clear hs; (try clear a w); intro a w hs
            refine RL_nil ?_
            refine hK13 _ _ ?_; clear hK13
            refine W_region ?_
            refine sy hs (y_move rfl) ?_; clear hs; (try clear a w); intro a w hs
            refine sy hs (y_assign rfl) ?_; clear hs; (try clear a w); intro a w hs
            refine RL_nil ?_
            rw [map_snoc (fun x => [Value.int .i32 x])] at hs
            exact hK (p + q) _ _ (by omega) ⟨out ++ [r], r, _, by rw [← hd]; simp [h10, hr, hz], by simp; omega, hs.sub ⟨rfl, rfl, rfl, trivial⟩⟩
    · clear hs; (try clear a w); intro a w hs
      refine sy hs (y_extract rfl rfl) ?_; clear hs; (try clear a w); intro a w hs
      refine RL_nil ?_
      refine hK9 _ _ ?_; clear hK9
      refine W_seq fun K20 hK20 => ?_
      refine W_condF hs rfl ?_
      refine W_exit ?_
      refine hB8 _ _ ?_
      refine hK6 _ _ ?_; clear hK6
      refine W_seq fun K21 hK21 => ?_
      refine W_region ?_
      refine sy hs (y_move rfl) ?_; clear hs; (try clear a w); intro a w hs
      refine sy hs (y_assign rfl) ?_; clear hs; (try clear a w); intro a w hs
      refine sy hs (y_assign rfl) ?_; clear hs; (try clear a w); intro a w hs
      refine RL_nil ?_
      refine hK21 _ _ ?_; clear hK21
      refine W_ret ?_
      refine Rt_2 hs rfl rfl rfl ?_
      rw [runesAt_end hp] at hd
      refine ⟨_, f, [.row lv 21 1 (rl out)], rfl, .refl f, hs.cw.tail, lv, rfl, rfl, ?_⟩
      rw [← hd]; simp [decGo]

