/-
  Walks and laws of this seat; the base is the text Base.
-/
import Derived.Test.YthpokoghhfidpaaBase
import Derived.Test.YthpokoghhfidpaaRows
import Derived.Test.YthpokoghhfidpaaT1
import Derived.Test.YthpokoghhfidpaaC12
namespace Go.Proofs.Ythpokoghhfidpaa
open Go.RowKit Go.Sl

/-- What the book holds behind k lists. -/
def KeptAt (w0 : World) (f : Fz) (L : List Ent) (v : Value) (l : List Int) (b : Nat) (k : Nat) (a : Act) (w : World) : Prop :=
  (k = 0 ∧ St 27 w0 f (.blk b (.cells #[.slice none 0 0, .slice none 0 0, .int .i64 0, .bool false] bkT) :: L) [(0, v), (3, .pointer (some ⟨b, 0, none⟩)), (4, .int .i64 (0 : Nat))] a w) ∨
  (k = 1 ∧ ∃ f1 lsv wsv lv cv held, Fz.le f f1 ∧ Rd f1 [] cv 1 (rl l) ∧ St 27 w0 f1 (.row wsv 24 1 (one [cv]) :: .row lsv 24 1 (one [lv]) :: .row lv 21 1 (rl l) :: .blk b (.cells #[lsv, wsv, .int .i64 held, .bool false] bkT) :: L)
    [(0, v), (3, .pointer (some ⟨b, 0, none⟩)), (4, .int .i64 (1 : Nat))] a w) ∨
  (k = 2 ∧ ∃ f1 lsv wsv lv0 lv cv0 cv held ls ws, Fz.le f f1 ∧ Rd f1 [] cv0 1 (rl l) ∧ Rd f1 [] cv 1 (rl l) ∧ Rd f1 [] lsv 1 (one ls) ∧ Rd f1 [] wsv 1 (one ws) ∧ ((ls = [lv0, lv] ∧ ws = [cv0, cv]) ∨ (ls = [lv] ∧ ws = [cv])) ∧
    St 27 w0 f1 (.row lv 21 1 (rl l) :: .row lv0 21 1 (rl l) :: .blk b (.cells #[lsv, wsv, .int .i64 held, .bool false] bkT) :: L) [(0, v), (3, .pointer (some ⟨b, 0, none⟩)), (4, .int .i64 (2 : Nat))] a w)

theorem SourceKept_true {f : Fz} {v0 : Value} {xs0 : List Int} (h0 : Rd f [] v0 1 (bl xs0)) : Gives Try.prog 5 [v0] f (.bool true) := by
  intro w0 L w hC
  refine enter Try.func5 rfl Try.ntmps5 (by simp) hC fun a hs => ?_
  refine W_seq fun K1 hK1 => ?_
  refine W_region ?_
  refine sy hs (y_assign rfl) ?_; clear hs; (try clear a w); intro a w hs
  refine RL_nil ?_
  refine hK1 _ _ ?_; clear hK1
  refine W_cut (fun a w => ∃ v xs, Rd f [] v 1 (bl xs) ∧ xs.length ≤ 500 ∧ St 27 w0 f L [(0, v)] a w) ?_ (fun a w hI => ?_)
  · refine W_seq fun K3 hK3 => ?_
    refine W_region ?_
    refine sy hs (y_move rfl) ?_; clear hs; (try clear a w); intro a w hs
    first | (refine sy hs (y_lenM rfl Try.underlying22) ?_; clear hs; (try clear a w); intro a w hs) | (refine sy hs (y_lenR rfl Try.underlying22) ?_; clear hs; (try clear a w); intro a w hs) | (refine sy hs (y_len rfl Try.underlying22) ?_; clear hs; (try clear a w); intro a w hs)
    refine sy hs (y_gtr rfl rfl) ?_; clear hs; (try clear a w); intro a w hs
    refine RL_nil ?_
    refine hK3 _ _ ?_; clear hK3
    first | refine W_condP hs rfl (fun hlong => ?_) (fun hlong => ?_) | refine W_cond hs rfl (fun hlong => ?_) (fun hlong => ?_)
    · refine W_region ?_
      refine sy hs (y_move rfl) ?_; clear hs; (try clear a w); intro a w hs
      refine sy hs (y_slice (lo := 0) (hi := 500) rfl Try.underlying22 ti5 (.inl ⟨rfl, rfl⟩) (.inr ⟨_, rfl, rfl⟩) (by omega) (by rw [List.length_map]; omega) h0) ?_; clear hs; (try clear a w); intro a w hs
      refine sy hs (y_assign rfl) ?_; clear hs; (try clear a w); intro a w hs
      refine RL_nil ?_
      have h1 := h0.cut (lo := 0) (hi := 500) (by omega) (by rw [List.length_map]; omega)
      exact ⟨_, xs0.take 500, by simpa [← List.map_take] using h1, by simp; omega, hs.sub ⟨rfl, trivial⟩⟩
    · refine W_skip ?_
      exact ⟨v0, xs0, h0, by omega, hs.sub ⟨rfl, trivial⟩⟩
  · clear hs
    obtain ⟨v, xs, h1, hx, hs⟩ := hI
    refine W_seq fun K4 hK4 => ?_
    refine W_region ?_
    refine RL_alloc hs ti36 (.free rfl) (by decide) ?_; clear hs; (try clear a w); intro b a w hs
    refine RL_nil ?_
    refine hK4 _ _ ?_; clear hK4
    refine W_seq fun K5 hK5 => ?_
    refine W_seq fun K6 hK6 => ?_
    refine W_region ?_
    refine sy hs (y_assign rfl) ?_; clear hs; (try clear a w); intro a w hs
    refine RL_nil ?_
    refine hK6 _ _ ?_; clear hK6
    refine W_block fun Qe7 hB7 hO7 => ?_
    have hb0 := runesIn_length (bytesOf xs)
    have hb1 : (bytesOf xs).size = xs.length := by simp [bytesOf, ByteArray.size]
    have hb2 := decGo_le (runesIn (bytesOf xs)) 0
    obtain ⟨l, hl⟩ : ∃ l, l = decGo 0 (runesIn (bytesOf xs)) := ⟨_, rfl⟩
    rw [← hl] at hb2
    refine W_loop (fun (k : Nat) a w => KeptAt w0 f L v l b k a w) (fun k => 2 - k) 0 (.inl ⟨rfl, hs.sub ⟨rfl, rfl, rfl, trivial⟩⟩) ?_
    clear hs; rintro k a w hI K hK
    by_cases hk0 : k = 0
    · rcases hI with ⟨_, hs⟩ | ⟨h, _⟩ | ⟨h, _⟩
      rotate_left
      · omega
      · omega
      refine W_seq fun K8 hK8 => ?_
      refine W_seq fun K9 hK9 => ?_
      refine W_region ?_
      refine sy hs (y_move rfl) ?_; clear hs; (try clear a w); intro a w hs
      refine sy hs (y_lss rfl rfl) ?_; clear hs; (try clear a w); intro a w hs
      refine RL_nil ?_
      refine hK9 _ _ ?_; clear hK9
      refine W_condT hs rfl ?_
      refine W_skip ?_
      refine hK8 _ _ ?_; clear hK8
      refine W_seq fun K10 hK10 => ?_
      refine W_block fun Qe11 hB11 hO11 => ?_
      refine W_seq fun K12 hK12 => ?_
      refine W_region ?_
      refine sy hs (y_move rfl) ?_; clear hs; (try clear a w); intro a w hs
      refine RL_callV hs rfl has9 rfl (Decode_ok h1 (by omega)) ?_; clear hs; (try clear a w); rintro _ f2 L2 a w hf2 ⟨lv, rfl, rfl, rfl⟩ hs; rw [← hl] at hs
      refine sy hs (y_move rfl) ?_; clear hs; (try clear a w); intro a w hs
      refine sy hs (y_extract rfl rfl) ?_; clear hs; (try clear a w); intro a w hs
      refine sy hs (y_extract rfl rfl) ?_; clear hs; (try clear a w); intro a w hs
      refine sy hs (y_assign rfl) ?_; clear hs; (try clear a w); intro a w hs
      refine sy hs (y_assign rfl) ?_; clear hs; (try clear a w); intro a w hs
      refine RL_nil ?_
      refine hK12 _ _ ?_; clear hK12
      refine W_region ?_
      refine sy hs (y_move rfl) ?_; clear hs; (try clear a w); intro a w hs
      refine RL_callW hs rfl has14 rfl (fun w hw => Keep_first (by omega) hw) ?_; clear hs; (try clear a w); rintro _ f3 L3 a w hf3 ⟨lsv, wsv, cv, held, hRc, rfl⟩ hs
      refine RL_nil ?_
      refine hK10 _ _ ?_; clear hK10
      refine W_region ?_
      refine sy hs (y_move rfl) ?_; clear hs; (try clear a w); intro a w hs
      refine sy hs (y_add rfl rfl (wr_i64 (by omega))) ?_; clear hs; (try clear a w); intro a w hs
      refine sy hs (y_assign rfl) ?_; clear hs; (try clear a w); intro a w hs
      refine RL_nil ?_
      exact hK 1 _ _ (by omega) (.inr (.inl ⟨rfl, f3, lsv, wsv, lv, cv, held, hf3, hRc, hs.sub ⟨rfl, rfl, rfl, trivial⟩⟩))
    · by_cases hk1 : k = 1
      · rcases hI with ⟨h, _⟩ | ⟨_, f1, lsv, wsv, lv, cv, held, hf1, hRc, hs⟩ | ⟨h, _⟩
        · omega
        rotate_left
        · omega
        refine W_seq fun K13 hK13 => ?_
        refine W_seq fun K14 hK14 => ?_
        refine W_region ?_
        refine sy hs (y_move rfl) ?_; clear hs; (try clear a w); intro a w hs
        refine sy hs (y_lss rfl rfl) ?_; clear hs; (try clear a w); intro a w hs
        refine RL_nil ?_
        refine hK14 _ _ ?_; clear hK14
        refine W_condT hs rfl ?_
        refine W_skip ?_
        refine hK13 _ _ ?_; clear hK13
        refine W_seq fun K15 hK15 => ?_
        refine W_block fun Qe16 hB16 hO16 => ?_
        refine W_seq fun K17 hK17 => ?_
        refine W_region ?_
        refine sy hs (y_move rfl) ?_; clear hs; (try clear a w); intro a w hs
        refine RL_callV hs rfl has9 rfl (Decode_ok (h1.le hf1) (by omega)) ?_; clear hs; (try clear a w); rintro _ f2 L2 a w hf2 ⟨lv2, rfl, rfl, rfl⟩ hs; rw [← hl] at hs
        refine sy hs (y_move rfl) ?_; clear hs; (try clear a w); intro a w hs
        refine sy hs (y_extract rfl rfl) ?_; clear hs; (try clear a w); intro a w hs
        refine sy hs (y_extract rfl rfl) ?_; clear hs; (try clear a w); intro a w hs
        refine sy hs (y_assign rfl) ?_; clear hs; (try clear a w); intro a w hs
        refine sy hs (y_assign rfl) ?_; clear hs; (try clear a w); intro a w hs
        refine RL_nil ?_
        refine hK17 _ _ ?_; clear hK17
        refine W_region ?_
        refine sy hs (y_move rfl) ?_; clear hs; (try clear a w); intro a w hs
        refine RL_callW hs rfl has14 rfl (fun w hw => Keep_second (by omega) (by omega) hRc hw) ?_; clear hs; (try clear a w); rintro _ f3 L3 a w hf3 ⟨lsv2, wsv2, cv2, held2, ls, ws, hRc2, hRl, hRw, hor, rfl⟩ hs
        refine RL_nil ?_
        refine hK15 _ _ ?_; clear hK15
        refine W_region ?_
        refine sy hs (y_move rfl) ?_; clear hs; (try clear a w); intro a w hs
        refine sy hs (y_add rfl rfl (wr_i64 (by omega))) ?_; clear hs; (try clear a w); intro a w hs
        refine sy hs (y_assign rfl) ?_; clear hs; (try clear a w); intro a w hs
        refine RL_nil ?_
        exact hK 2 _ _ (by omega) (.inr (.inr ⟨rfl, f3, lsv2, wsv2, lv, lv2, cv, cv2, held2, ls, ws, hf1.trans hf3, hRc.le hf3, hRc2, hRl, hRw, hor, hs.sub ⟨rfl, rfl, rfl, trivial⟩⟩))
      · rcases hI with ⟨h, _⟩ | ⟨h, _⟩ | ⟨_, f1, lsv, wsv, lv, lv2, cv, cv2, held, ls, ws, hf1, hRc, hRc2, hRl, hRw, hor, hs⟩
        · omega
        · omega
        refine W_seq fun K18 hK18 => ?_
        refine W_seq fun K19 hK19 => ?_
        refine W_region ?_
        refine sy hs (y_move rfl) ?_; clear hs; (try clear a w); intro a w hs
        refine sy hs (y_lss rfl rfl) ?_; clear hs; (try clear a w); intro a w hs
        refine RL_nil ?_
        refine hK19 _ _ ?_; clear hK19
        refine W_condF hs rfl ?_
        by_cases htwo : ls = [lv, lv2]
        · subst htwo
          obtain rfl : ws = [cv, cv2] := by
            rcases hor with ⟨_, h⟩ | ⟨h, _⟩
            · exact h
            · simp at h
          refine W_exit ?_
          refine hB7 _ _ ?_
          refine hK5 _ _ ?_; clear hK5
          refine W_seq fun K20 hK20 => ?_
          refine W_region ?_
          refine RL_callW (R := fun v f' L' => v = .bool true ∧ f' = f1 ∧ L' = L) hs rfl has15 rfl (fun w hw => (Apart_ok (ls := [lv, lv2]) (ws := [cv, cv2]) (Ls := [.row lv 21 1 (rl l), .row lv2 21 1 (rl l)]) rfl (by simp) hRl hRw rfl (fun i v u e1 e2 => by
              match i, e1, e2 with
              | 0, e1, e2 => simp at e1 e2; subst e1 e2; exact ⟨l, by omega, rfl, hRc⟩
              | 1, e1, e2 => simp at e1 e2; subst e1 e2; exact ⟨l, by omega, rfl, hRc2⟩) hw.rot3).mono fun e w' ⟨h1, h2⟩ => ⟨_, f1, L, h1, .refl _, h2, rfl, rfl, rfl⟩) ?_; clear hs; (try clear a w); rintro _ f3 L3 a w hf3 ⟨rfl, rfl, rfl⟩ hs
          refine sy hs (y_move rfl) ?_; clear hs; (try clear a w); intro a w hs
          refine syg hs (y_call rfl has11 rfl known_true) ?_; clear hs; (try clear a w); intro a w hs
          refine sy hs (y_pick rfl rfl) ?_; clear hs; (try clear a w); intro a w hs
          refine sy hs (y_assign rfl) ?_; clear hs; (try clear a w); intro a w hs
          refine RL_nil ?_
          refine hK20 _ _ ?_; clear hK20
          refine W_ret ?_
          refine Rt_1 hs rfl rfl ?_
          exact ⟨rfl, (hs.weak hf1).cw⟩
        · obtain ⟨rfl, rfl⟩ : ls = [lv2] ∧ ws = [cv2] := by
            rcases hor with ⟨h, _⟩ | h
            · exact absurd h htwo
            · exact h
          refine W_exit ?_
          refine hB7 _ _ ?_
          refine hK5 _ _ ?_; clear hK5
          refine W_seq fun K21 hK21 => ?_
          refine W_region ?_
          refine RL_callW (R := fun v f' L' => v = .bool true ∧ f' = f1 ∧ L' = L) hs rfl has15 rfl (fun w hw => (Apart_ok (ls := [lv2]) (ws := [cv2]) (Ls := [.row lv2 21 1 (rl l)]) rfl (by simp) hRl hRw rfl (fun i v u e1 e2 => by
              match i, e1, e2 with
              | 0, e1, e2 => simp at e1 e2; subst e1 e2; exact ⟨l, by omega, rfl, hRc2⟩) (hw.rot3.erase 1)).mono fun e w' ⟨h1, h2⟩ => ⟨_, f1, L, h1, .refl _, h2, rfl, rfl, rfl⟩) ?_; clear hs; (try clear a w); rintro _ f3 L3 a w hf3 ⟨rfl, rfl, rfl⟩ hs
          refine sy hs (y_move rfl) ?_; clear hs; (try clear a w); intro a w hs
          refine syg hs (y_call rfl has11 rfl known_true) ?_; clear hs; (try clear a w); intro a w hs
          refine sy hs (y_pick rfl rfl) ?_; clear hs; (try clear a w); intro a w hs
          refine sy hs (y_assign rfl) ?_; clear hs; (try clear a w); intro a w hs
          refine RL_nil ?_
          refine hK21 _ _ ?_; clear hK21
          refine W_ret ?_
          refine Rt_1 hs rfl rfl ?_
          exact ⟨rfl, (hs.weak hf1).cw⟩

